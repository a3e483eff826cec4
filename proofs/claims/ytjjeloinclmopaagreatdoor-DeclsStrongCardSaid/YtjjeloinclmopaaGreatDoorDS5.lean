/-
  Layer 7, plain: declarations of values, values of declarations; what holds of them, without the program.
  Functions as values: what captures nothing, or one variable of whatever cells; texts as the interpreter's data.
  WHAT THE FUNCTIONS COMPUTE: slices.IndexFunc, slices.ContainsFunc of values, whatever the function is. (Printed by genx.py.)
  WHAT THE FUNCTIONS COMPUTE: slices.IndexFunc, slices.ContainsFunc of texts, whatever the function is. (Printed by genx.py.)
  WHAT THE FUNCTIONS COMPUTE, layer 7: names, signs, small letters; whether values have a sign.
  Declarations as the interpreter's data.
  WHAT THE FUNCTIONS COMPUTE, layer 2: depth; are values the same?
  Layer 4, plain: how a program reads selectors that looks for an end ahead of each simple one; that this is what Sl.parse reads.
  WHAT THE FUNCTIONS COMPUTE, layer 7: what is made important; whether values may be one; a declaration read.
  Layer 3, plain: how many values there are in what is cut, trimmed.
  Layer 3: bounds on values that are cut, and joined.
  WHAT THE FUNCTIONS COMPUTE, layer 7: a declaration read; the declarations of values.
  WHAT THE FUNCTIONS COMPUTE, layer 7, the document's answer: names, signs, ends; a declaration read.
  WHAT THE FUNCTIONS COMPUTE, layer 7, the document's answer: a declaration read; the declarations of values.
  WHAT THE FUNCTIONS COMPUTE: slices.EqualFunc of declarations, whatever the function is. (Printed by geny.py.)
  WHAT THE FUNCTIONS COMPUTE, layer 2: the document's reader of values.
  WHAT THE FUNCTIONS COMPUTE, layer 1: the scanner's number.
  WHAT THE FUNCTIONS COMPUTE, layer 1: the scanner's next token.
  WHAT THE FUNCTIONS COMPUTE, layer 1: the tokens of a text.
  WHAT THE FUNCTIONS COMPUTE, layer 1: whether a token may be; whether something has to stand between two; the text of tokens.
  WHAT THE DOCUMENT'S ANSWER COMPUTES, layer 1: classes of bytes, names, comments, strings.
-/
import Derived.Test.YtjjeloinclmopaaGreatDoorDS4
set_option linter.unusedSimpArgs false
set_option linter.unusedVariables false
namespace Go.Abs
structure Dcl where
  name : List UInt8
  l : List Val
  imp : Bool
namespace Sl
def customB : List UInt8 → Bool
  | a :: b :: _ => a == 45 && b == 45
  | _ => false
def proper (s : List UInt8) : List UInt8 := if customB s then s else low s
def isNamed : Val → Bool
  | .mk k t _ => k == 1 && t.kind == 1
def nameT : Val → List UInt8
  | .mk _ t _ => t.text
def importantT : List UInt8 := [105, 109, 112, 111, 114, 116, 97, 110, 116]
def strongR : List Val → Option (List Val)
  | v :: r => if isNamed v && low (nameT v) == importantT then (match r.dropWhile isBlank with
      | w :: r2 => if isSign [33] w then some (r2.dropWhile isBlank).reverse else none
      | [] => none) else none
  | [] => none
def strong (l : List Val) : Option (List Val) := strongR l.reverse
def hasSign (s : List UInt8) (l : List Val) : Bool := l.any (isSign s)
def fits (l : List Val) : Bool := !l.isEmpty && (!hasSign [33] l && decide (Ne.depth l ≤ 56))
def declOf (name : List UInt8) (b : List Val) : Dcl := match strong b with
  | some y => ⟨proper name, y, true⟩
  | none => ⟨proper name, b, false⟩
def readD (v : List Val) : Option Dcl := match trim v with
  | x :: r => if isNamed x then (match r.dropWhile isBlank with
      | c :: r2 => if isSign [58] c then (if fits (declOf (nameT x) (trim r2)).l then some (declOf (nameT x) (trim r2)) else none) else none
      | [] => none) else none
  | [] => none
def parseD (l : List Val) : List Dcl := (at_ [59] l).filterMap readD
def declV (d : Dcl) : List Val := iv d.name :: dv 58 :: (d.l ++ if d.imp then [dv 33, iv importantT] else [])
def valsD (ds : List Dcl) : List Val := join [59] (ds.map declV)
def mayD (d : Dcl) : Bool := Tk.may ⟨1, d.name, 0⟩ && (proper d.name == d.name && (fits d.l && (!hasSign [59] d.l && (decide ((trim d.l).length = d.l.length) && Ne.may 60 Tk.may d.l))))
theorem trim_eq_of_len {l : List Val} (h : (trim l).length = l.length) : trim l = l := by
  unfold trim at h ⊢
  rw [List.length_reverse] at h
  have s1 := List.dropWhile_sublist isBlank (l := (l.dropWhile isBlank).reverse)
  have s2 := List.dropWhile_sublist isBlank (l := l)
  have h2 := s2.length_le
  have h1 := s1.length_le
  rw [List.length_reverse] at h1
  have e2 : l.dropWhile isBlank = l := s2.eq_of_length (by omega)
  rw [e2] at s1 h1 h ⊢
  have e1 : l.reverse.dropWhile isBlank = l.reverse := s1.eq_of_length (by rw [List.length_reverse]; omega)
  rw [e1, List.reverse_reverse]
def Fr (l : List Val) : Prop := ∀ v r, l = v :: r → isBlank v = false
theorem Fr.drop {l : List Val} (h : Fr l) : l.dropWhile isBlank = l := by
  cases l with
  | nil => rfl
  | cons v r => rw [List.dropWhile_cons, if_neg (by rw [h v r rfl]; simp)]
theorem fr_trim (l : List Val) : Fr (trim l) := fun _ _ h => trim_head h
theorem fr_trim_rev (l : List Val) : Fr (trim l).reverse := fun v r h => by
  have := congrArg List.reverse h
  rw [List.reverse_reverse, List.reverse_cons] at this
  exact trim_last this
theorem trim_fr {l : List Val} (h1 : Fr l) (h2 : Fr l.reverse) : trim l = l := by
  unfold trim
  rw [h1.drop, h2.drop, List.reverse_reverse]
theorem Fr.pre {l a b : List Val} (h : Fr l) (e : l = a ++ b) : Fr a := fun v r h2 => by
  subst h2
  exact h v (r ++ b) (by rw [e]; rfl)
theorem Fr.trim {l : List Val} (h : Fr l) : trim l = (l.reverse.dropWhile isBlank).reverse := by
  unfold Sl.trim
  rw [h.drop]
theorem fr_drop (l : List Val) : Fr (l.dropWhile isBlank) := fun v r h => drop_head l v r h
theorem not_blank_named {v : Val} (h : isNamed v = true) : isBlank v = false := by
  obtain ⟨k, t, l⟩ := v
  unfold isNamed at h
  show (k == 1 && t.kind == 8) = false
  simp only [Bool.and_eq_true, beq_iff_eq] at h
  rw [h.2]; simp
def strongP (l : List Val) : Option (List Val) := match l.reverse with
  | v :: r => if isNamed v && low (nameT v) == importantT then (match (trim r.reverse).reverse with
      | w :: r2 => if isSign [33] w then some (trim r2.reverse) else none
      | [] => none) else none
  | [] => none
theorem strongP_eq {l : List Val} (h : Fr l) : strongP l = strong l := by
  unfold strongP strong
  cases hl : l.reverse with
  | nil => rfl
  | cons v r =>
    have el : l = r.reverse ++ [v] := by
      have := congrArg List.reverse hl
      rw [List.reverse_reverse, List.reverse_cons] at this
      exact this
    have f1 : Fr r.reverse := h.pre el
    rw [strongR]
    simp only
    rw [f1.trim, List.reverse_reverse, List.reverse_reverse]
    split
    · cases hr : r.dropWhile isBlank with
      | nil => rfl
      | cons w r2 =>
        obtain ⟨pre, hp⟩ := List.dropWhile_suffix isBlank (l := r)
        have f2 : Fr r2.reverse := f1.pre (b := w :: pre.reverse) (by rw [← hp, hr]; simp)
        simp only
        rw [f2.trim, List.reverse_reverse]
    · rfl
theorem strong_sub {l y : List Val} (h : strong l = some y) : (∀ v ∈ y, v ∈ l) ∧ Fr y.reverse ∧ (Fr l → Fr y) ∧ hasSign [33] l = true := by
  unfold strong at h
  cases hl : l.reverse with
  | nil => rw [hl] at h; cases h
  | cons v r =>
    rw [hl, strongR] at h
    split at h
    case isFalse => cases h
    split at h
    case h_2 => cases h
    rename_i w r2 hr
    split at h
    case isFalse => cases h
    rename_i hw
    cases h
    obtain ⟨pre, hp⟩ := List.dropWhile_suffix isBlank (l := r)
    obtain ⟨pre2, hp2⟩ := List.dropWhile_suffix isBlank (l := r2)
    have el : l = (r2.dropWhile isBlank).reverse ++ (pre2.reverse ++ ([w] ++ (pre.reverse ++ [v]))) := by
      have := congrArg List.reverse hl
      rw [List.reverse_reverse, ← hp, hr, ← hp2] at this
      rw [this]; simp
    have hw2 : w ∈ l := by rw [el]; simp
    refine ⟨fun x hx => by rw [el]; exact List.mem_append_left _ hx, ?_, fun hf => hf.pre el, ?_⟩
    · rw [List.reverse_reverse]
      exact fr_drop r2
    · unfold hasSign
      rw [List.any_eq_true]
      exact ⟨w, hw2, hw⟩
theorem strong_none {l : List Val} (h : hasSign [33] l = false) : strong l = none := by
  cases hs : strong l with
  | none => rfl
  | some y =>
    have := (strong_sub hs).2.2.2
    rw [h] at this; cases this
theorem at_free (s : List UInt8) : ∀ l : List Val, ∀ q ∈ at_ s l, (∀ v ∈ q, v ∈ l) ∧ hasSign s q = false
  | [], q, hq => by
    rw [at_, List.mem_singleton] at hq
    subst hq; exact ⟨fun v hv => hv, rfl⟩
  | x :: l, q, hq => by
    rw [at_] at hq
    split at hq
    · rcases List.mem_cons.1 hq with rfl | hq
      · exact ⟨(fun v hv => by cases hv), rfl⟩
      · obtain ⟨h1, h2⟩ := at_free s l q hq
        exact ⟨fun v hv => by simp [h1 v hv], h2⟩
    · rename_i hx
      split at hq
      · rename_i e
        rw [List.mem_singleton] at hq
        subst hq
        exact ⟨fun v hv => by rw [List.mem_singleton] at hv; simp [hv], by simp [hasSign, hx]⟩
      · rename_i p ps e
        rcases List.mem_cons.1 hq with rfl | hq
        · obtain ⟨h1, h2⟩ := at_free s l p (by rw [e]; simp)
          refine ⟨fun v hv => ?_, ?_⟩
          · rcases List.mem_cons.1 hv with rfl | hv
            · simp
            · simp [h1 v hv]
          · unfold hasSign at h2 ⊢
            rw [List.any_cons, h2]
            simpa using hx
        · obtain ⟨h1, h2⟩ := at_free s l q (by rw [e]; simp [hq])
          exact ⟨fun v hv => by simp [h1 v hv], h2⟩
theorem cut_at' (s : List UInt8) : ∀ l : List Val, cut (isSign s) l = at_ s l
  | [] => rfl
  | v :: l => by
    rw [cut, at_, cut_at' s l]
    all_goals (cases at_ s l <;> rfl)
theorem at_app {s : List UInt8} {x : Val} (hx : isSign s x = true) (b : List Val) : ∀ a : List Val, at_ s (a ++ x :: b) = at_ s a ++ at_ s b
  | [] => by
    have e : at_ s (x :: b) = [] :: at_ s b := by rw [at_, if_pos hx]
    rw [List.nil_append, e]; rfl
  | v :: a => by
    rw [List.cons_append, at_, at_, at_app hx b a]
    split
    · rfl
    · cases ha : at_ s a with
      | nil =>
        exfalso
        rw [← cut_at'] at ha
        obtain ⟨q, qs, e⟩ := cut_ne (isSign s) a
        rw [e] at ha; cases ha
      | cons p ps => rfl
theorem sign_is (s : List UInt8) : isSign s (signV s) = true := by
  show ((1 : Int) == 1 && decide ((⟨7, s, 0⟩ : Tok) = ⟨7, s, 0⟩)) = true
  simp
theorem at_oneD {s : List UInt8} : ∀ {l : List Val}, hasSign s l = false → at_ s l = [l]
  | [], _ => rfl
  | v :: l, h => by
    unfold hasSign at h
    rw [List.any_cons, Bool.or_eq_false_iff] at h
    rw [at_, if_neg (by rw [h.1]; simp), at_oneD (l := l) h.2]
theorem at_joins {s : List UInt8} : ∀ {ps : List (List Val)} {p : List Val}, hasSign s p = false → (∀ q ∈ ps, hasSign s q = false) → at_ s (p ++ joins s ps) = p :: ps
  | [], p, h, _ => by rw [joins_nil, List.append_nil, at_oneD h]
  | q :: ps, p, h, hs => by
    rw [joins_cons, at_app (sign_is s), at_oneD h, at_joins (hs q (by simp)) fun r hr => hs r (by simp [hr])]
    rfl
theorem fr_cons {v : Val} {l : List Val} (h : isBlank v = false) : Fr (v :: l) := fun w r e => by
  cases e; exact h
theorem fr_app {a b : List Val} (ha : Fr a) (hne : a ≠ []) : Fr (a ++ b) := fun v r e => by
  cases a with
  | nil => exact absurd rfl hne
  | cons x a => cases e; exact ha _ _ rfl
structure May (d : Dcl) : Prop where
  name : Tk.Good ⟨1, d.name, 0⟩
  prop : proper d.name = d.name
  ne : d.l ≠ []
  excl : hasSign [33] d.l = false
  deep : Ne.depth d.l ≤ 56
  semi : hasSign [59] d.l = false
  trim : Sl.trim d.l = d.l
  may : Ne.may 60 Tk.may d.l = true
theorem may_May {d : Dcl} : mayD d = true ↔ May d := by
  unfold mayD fits
  simp only [Bool.and_eq_true, Bool.not_eq_true', beq_iff_eq, decide_eq_true_eq, List.isEmpty_eq_false_iff]
  constructor
  · rintro ⟨h1, h2, ⟨h3, h4, h5⟩, h6, h7, h8⟩
    exact ⟨Tk.may_iff.1 h1, h2, h3, h4, h5, h6, trim_eq_of_len h7, h8⟩
  · rintro ⟨h1, h2, h3, h4, h5, h6, h7, h8⟩
    exact ⟨Tk.may_iff.2 h1, h2, ⟨h3, h4, h5⟩, h6, by rw [h7], h8⟩
theorem May.fits {d : Dcl} (h : May d) : Sl.fits d.l = true := by
  unfold Sl.fits
  simp only [Bool.and_eq_true, Bool.not_eq_true', decide_eq_true_eq, List.isEmpty_eq_false_iff]
  exact ⟨h.ne, h.excl, h.deep⟩
theorem May.fr {d : Dcl} (h : May d) : Fr d.l ∧ Fr d.l.reverse := ⟨by rw [← h.trim]; exact fr_trim _, by rw [← h.trim]; exact fr_trim_rev _⟩
theorem May.imp {d : Dcl} (h : May d) (b : Bool) : May { d with imp := b } := ⟨h.name, h.prop, h.ne, h.excl, h.deep, h.semi, h.trim, h.may⟩
theorem tail_fr {d : Dcl} (h : May d) : Fr (d.l ++ if d.imp then [dv 33, iv importantT] else []) ∧ Fr (d.l ++ if d.imp then [dv 33, iv importantT] else []).reverse := by
  refine ⟨fr_app h.fr.1 h.ne, ?_⟩
  cases d.imp
  · simp only [Bool.false_eq_true, if_false, List.append_nil]
    exact h.fr.2
  · simp only [if_true, List.reverse_append, List.reverse_cons, List.reverse_nil, List.nil_append, List.cons_append]
    exact fr_cons (blank_iv _)
theorem declV_fr {d : Dcl} (h : May d) : Fr (declV d) ∧ Fr (declV d).reverse := by
  refine ⟨fr_cons (blank_iv _), ?_⟩
  unfold declV
  rw [List.reverse_cons, List.reverse_cons, List.append_assoc]
  refine fr_app (tail_fr h).2 fun e => ?_
  have := congrArg List.length e
  have hl := List.length_pos_iff.2 h.ne
  simp only [List.length_reverse, List.length_append, List.length_nil] at this
  omega
theorem declV_semi {d : Dcl} (h : May d) : hasSign [59] (declV d) = false := by
  have e1 : isSign [59] (iv d.name) = false := by
    show ((1 : Int) == 1 && decide ((⟨1, d.name, 0⟩ : Tok) = ⟨7, [59], 0⟩)) = false
    simp
  have e2 : isSign [59] (dv 58) = false := by decide
  have e3 : isSign [59] (dv 33) = false := by decide
  have e4 : isSign [59] (iv importantT) = false := by decide
  have hs := h.semi
  unfold hasSign declV at *
  rw [List.any_cons, List.any_cons, List.any_append, e1, e2, hs]
  cases d.imp <;> simp [e3, e4]
theorem strong_yes {b : List Val} (h : Fr b.reverse) : strong (b ++ [dv 33, iv importantT]) = some b := by
  have e : (b ++ [dv 33, iv importantT]).reverse = iv importantT :: dv 33 :: b.reverse := by simp
  unfold strong
  rw [e, strongR]
  have e1 : (isNamed (iv importantT) && low (nameT (iv importantT)) == importantT) = true := by decide
  rw [if_pos e1, List.dropWhile_cons, if_neg (by rw [blank_dv]; simp)]
  simp only
  rw [if_pos (show isSign [33] (dv 33) = true from sign_is [33]), h.drop, List.reverse_reverse]
theorem readD_declV {d : Dcl} (h : May d) : readD (declV d) = some d := by
  unfold readD
  rw [trim_fr (declV_fr h).1 (declV_fr h).2]
  unfold declV
  simp only
  have e1 : isNamed (iv d.name) = true := rfl
  rw [if_pos e1, List.dropWhile_cons, if_neg (by rw [blank_dv]; simp)]
  simp only
  have e2 : isSign [58] (dv 58) = true := sign_is [58]
  rw [if_pos e2, trim_fr (tail_fr h).1 (tail_fr h).2]
  have e3 : nameT (iv d.name) = d.name := rfl
  have e4 : declOf d.name (d.l ++ if d.imp then [dv 33, iv importantT] else []) = d := by
    unfold declOf
    cases hi : d.imp
    · simp only [Bool.false_eq_true, if_false, List.append_nil]
      rw [strong_none h.excl]
      simp only
      rw [h.prop, ← hi]
    · simp only [if_true]
      rw [strong_yes h.fr.2]
      simp only
      rw [h.prop, ← hi]
  rw [e3, e4, if_pos h.fits]
theorem parse_vals {ds : List Dcl} (h : ∀ d ∈ ds, May d) : parseD (valsD ds) = ds := by
  unfold parseD valsD
  cases ds with
  | nil => rfl
  | cons d ds =>
    rw [List.map_cons, join, at_joins (declV_semi (h d (by simp))) fun q hq => by
      obtain ⟨x, hx, rfl⟩ := List.mem_map.1 hq
      exact declV_semi (h x (by simp [hx]))]
    have key : ∀ l : List Dcl, (∀ d ∈ l, May d) → (l.map declV).filterMap readD = l := by
      intro l
      induction l with
      | nil => intro _; rfl
      | cons x l ih =>
        intro hl
        rw [List.map_cons, List.filterMap_cons, readD_declV (hl x (by simp)), ih fun y hy => hl y (by simp [hy])]
    exact key (d :: ds) h
end Sl
end Go.Abs
namespace Go.Abs
open Go
inductive Clo (g : Nat) : CV → List AV → Option (List CV) → List (List CV) → Prop
  | no : Clo g (.fn g []) [] none []
  | one (cs : List PV) : Clo g (.fn g [(100000, 0)]) [P0] (some (cs.map CV.pv)) [cs.map CV.pv]
theorem arr_nil {α : Type} : (#[] : Array α).isEmpty = true := rfl
theorem ren_pvs (f : Nat → Option Nat) (cs : List PV) : (cs.map CV.pv).map (CV.ren f) = cs.map CV.pv := by
  rw [List.map_map]; exact List.map_congr_left fun _ _ => rfl
theorem live_pvs (bs : List Nat) (cs : List PV) : (cs.map CV.pv).map (CV.live bs) = cs.map CV.pv := by
  rw [List.map_map]; exact List.map_congr_left fun _ _ => rfl
def encT (l : List (List UInt8)) : List (List PV) := l.map fun s => [.str s]
theorem encT_len (l : List (List UInt8)) : (encT l).length = l.length := List.length_map ..
theorem txt_at (l : List (List UInt8)) (i : Nat) (x : List UInt8) (h : l[i]? = some x) : (encT l)[(i : Int).toNat]? = some [.str x] := by
  rw [Int.toNat_natCast, encT, List.getElem?_map, h]; rfl
def eqB {α : Type} (q : α → α → Bool) : List α → List α → Bool
  | [], [] => true
  | x :: a, y :: b => q x y && eqB q a b
  | _, _ => false
theorem eqB_len {α : Type} {q : α → α → Bool} : ∀ {a b : List α}, a.length ≠ b.length → eqB q a b = false
  | [], [], h => absurd rfl h
  | [], _ :: _, _ => rfl
  | _ :: _, [], _ => rfl
  | x :: a, y :: b, h => by
    rw [eqB, eqB_len (a := a) (b := b) (by simpa using h), Bool.and_false]
def ixI (o : Option Nat) : Int := match o with | some j => j | none => -1
theorem ix_any {α : Type} {p : α → Bool} {l : List α} : decide (0 ≤ ixI (l.findIdx? p)) = l.any p := by
  cases h : l.findIdx? p with
  | none =>
    rw [List.findIdx?_eq_none_iff] at h
    have : l.any p = false := by
      rw [List.any_eq_false]
      intro x hx
      rw [h x hx]; simp
    rw [this]; decide
  | some j =>
    obtain ⟨hj, hp, _⟩ := List.findIdx?_eq_some_iff_getElem.1 h
    have : l.any p = true := by
      rw [List.any_eq_true]
      exact ⟨_, List.getElem_mem hj, hp⟩
    rw [this]
    show decide ((0 : Int) ≤ (j : Int)) = true
    exact decide_eq_true (by omega)
end Go.Abs
namespace Go.Abs
open Go Go.Proofs
set_option maxRecDepth 10000
attribute [local go_sem] exL_seq exL_region exL_cond exL_block exL_scope exL_ret exL_skip exL_exit runRegion runOps stepOp guardA absOp takeOver opd avOf cvOf St.degAt St.put okPV okVal okAV absBin intBin strBin boolBin setBoxes if_true Bool.false_eq_true if_false Option.map_some Option.map_none Option.bind_some Option.bind_none thenO outOf upd List.toList_toArray isOwn steal appArgs mvB inApps AV.deg CV.deg AV.gv AV.isIter absNext some_bne some_beqN List.length_nil List.length_cons List.filterMap_cons List.filterMap_nil beq_iff_eq List.getElem?_cons_zero List.getElem?_cons_succ Option.getD_some K_hook hookB Bool.false_and Bool.and_false Bool.and_self K_P K_own absCall doCall getBoxes lend back idx dedup AV.ren CV.ren TV.ren AV.ptrs CV.ptrs zipBox AV.flat CV.flat absLoad absStore cellsOfAV setAt newBox markB bldTypes absFieldAddr absField absExtract absAssert noAssert absMkIface ifcOf CV.pv? content pushHead ownT fillCells reps pvs chunks enterSt leave resOf resVars resVar outBoxes lentOnly TV.deg TV.av LK CV.plain CV.noBld nilBin absUn bound List.map_cons List.map_nil List.all_cons List.all_nil List.any_cons List.any_nil List.contains_cons List.contains_nil List.elem_cons List.elem_nil List.cons_append List.nil_append List.append_nil List.flatMap_cons List.flatMap_nil List.zip_cons_cons List.zip_nil_left List.zip_nil_right List.take_succ_cons List.take_zero List.take_nil List.drop_succ_cons List.drop_zero List.drop_nil List.isEmpty_nil List.isEmpty_cons Bool.and_true Bool.true_and Bool.or_true Bool.true_or Bool.or_false Bool.false_or Bool.not_true Bool.not_false Nat.add_zero Nat.zero_add Option.isNone_none Option.isNone_some Option.getD_none true_and and_true not_true_eq_false not_false_eq_true decide_true decide_false Nat.le_refl and_self Bool.not_eq_true Nat.sub_self or_true true_or Option.some.injEq List.length_map List.nil_eq and_false false_and AV.live CV.live CV.liveIn K_keep firstReg Option.orElse_some Option.orElse_none head keepSlots keepBoxes Int.lt_irrefl List.length_append ite_self memOK logOps opKey lentBoxes Key.clash Key.sees Key.writes Nat.lt_irrefl gt_iff_lt nobox_at bot_at false_or or_false beq_self_eq_true Bool.true_beq Bool.false_beq
abbrev ixvH (l : List Val) (i : Nat) (fv : CV) (kb : Option (List CV)) : St :=
  { sl := upd (upd (upd (upd bot 8 (I i)) 7 (I l.length)) 1 (.c fv)) 0 (L (encL l)), bx := upd nobox 100000 kb, nt := 19 }
noncomputable def ixvlp : Code := .loop (loopAt Tryz.f168 2)
theorem ixv_loop {g : Nat} (hg : K.good g = true) (ho : K.ownRet g = false) {p : Val → Bool} {fv : CV} {xs : List AV} {kb : Option (List CV)} {kl : List (List CV)} (hc : Clo g fv xs kb kl) (l : List Val) (hl : l.length ≤ 1000000000)
    (hp : ∀ k t c, Val.mk k t c ∈ l → den K g (.agg [.pv (.int .i64 k), .pv (.int .i64 t.kind), .pv (.str t.text), .pv (.int .i64 t.n), .pv (.sl (encL c))] :: xs) kl = some (.ret (B (p (.mk k t c))) kl)) : ∀ (rest : List Val) (i : Nat), l.drop i = rest → i ≤ l.length →
    Ends (exL K 168 ixvlp (ixvH l i fv kb)) fun o S => S.bx 100000 = kb ∧ match rest.findIdx? p with
      | none => o = .exit 0 ∧ S.nt = 19
      | some j => o = .ret ∧ S.sl 4 = I ((i + j : Nat) : Int)
  | [], i, hd, hi => by
    have hin : i = l.length := by
      have := List.drop_eq_nil_iff.1 hd
      omega
    subst hin
    have hlt : decide ((l.length : Int) < (l.length : Int)) = false := decide_eq_false (by omega)
    unfold ixvlp
    conv in loopAt _ _ => whnf
    rw [exL_loop]
    cases hc
    all_goals simp only [go_sem, Nat.reduceLT, reduceCtorEq, Nat.reduceEqDiff, Nat.reduceBEq, keep_168_2, ends_some, List.findIdx?_nil, live_pvs]
  | .mk k t c :: rest, i, hd, hi => by
    obtain ⟨g1, g2, g3⟩ := drop_cons hd
    have hlt : decide ((i : Int) < (l.length : Int)) = true := decide_eq_true (by omega)
    have hget := val_at l i k t c g1
    have ih := ixv_loop hg ho hc l hl hp rest (i + 1) g2 (by omega)
    have hm := hp k t c (List.mem_of_getElem? g1)
    have hws : IntKind.i64.wrap ((i : Int) + 1) = ((i + 1 : Nat) : Int) := wrap_nat i (by omega)
    unfold ixvlp at ih ⊢
    conv at ih in loopAt _ _ => whnf
    rw [List.findIdx?_cons]
    conv in loopAt _ _ => whnf
    rw [exL_loop]
    cases hv : p (.mk k t c)
    · rw [if_neg (by simp)]
      rw [hv] at hm
      cases hc
      all_goals
        simp only [go_sem, Nat.reduceLT, reduceCtorEq, Nat.reduceEqDiff, Nat.reduceBEq, Nat.reduceAdd, ev_indexAddr ty_descOf_22, ty_szOf_49, ty_shapeT_49, keep_168_2, hlt, hget, Int.natCast_nonneg, hm, hg, ho, hws, ren_pvs, live_pvs]
        rw [exL_head]
        simp only [go_sem, reduceCtorEq, Nat.reduceEqDiff, keep_168_2, live_pvs]
        refine ends_imp ih fun o S q => ⟨q.1, ?_⟩
        have q2 := q.2
        cases hf : rest.findIdx? p with
        | none => rw [hf] at q2; exact q2
        | some j =>
          rw [hf] at q2
          refine ⟨q2.1, q2.2.trans ?_⟩
          rw [show i + 1 + j = i + (j + 1) by omega]
    · rw [if_pos rfl]
      rw [hv] at hm
      cases hc
      all_goals simp only [go_sem, Nat.reduceLT, reduceCtorEq, Nat.reduceEqDiff, Nat.reduceBEq, Nat.reduceAdd, ev_indexAddr ty_descOf_22, ty_szOf_49, ty_shapeT_49, keep_168_2, hlt, hget, Int.natCast_nonneg, hm, hg, ho, ends_some, Nat.add_zero, ren_pvs, live_pvs]
theorem IndexV_den {g : Nat} (hg : K.good g = true) (ho : K.ownRet g = false) {p : Val → Bool} {fv : CV} {xs : List AV} {kb : Option (List CV)} {kl : List (List CV)} (hc : Clo g fv xs kb kl) (l : List Val) (hl : l.length ≤ 1000000000)
    (hp : ∀ k t c, Val.mk k t c ∈ l → den K g (.agg [.pv (.int .i64 k), .pv (.int .i64 t.kind), .pv (.str t.text), .pv (.int .i64 t.n), .pv (.sl (encL c))] :: xs) kl = some (.ret (B (p (.mk k t c))) kl)) :
    den K 168 [L (encL l), .c fv] kl = some (.ret (I (ixI (l.findIdx? p))) kl) := by
  have hr : Tryz.f168.results = #[.tmp 4] := rfl
  have h := ixv_loop hg ho hc l hl hp l 0 rfl (Nat.zero_le _)
  unfold ixvlp at h
  conv at h in loopAt _ _ => whnf
  obtain ⟨o, S', w, hb, hq⟩ := h
  have z0 : ((0 : Nat) : Int) = 0 := rfl
  simp only [ixvH, z0] at w
  refine den_run rfl rfl Tryz.func168 rfl Tryz.ntmps168 ⟨by simp, by simp [LK]⟩ ?_
  cases hf : l.findIdx? p with
  | none =>
    rw [hf] at hq
    obtain ⟨rfl, hn⟩ := hq
    unfold ixI
    cases hc
    all_goals
      simp only [go_sem, Nat.reduceLT, reduceCtorEq, Nat.reduceEqDiff, Nat.reduceBEq, Nat.reduceAdd, ev_len_sl ty_descOf_22, encL_len]
      rw [exL_head]
      simp only [go_sem, reduceCtorEq, Nat.reduceEqDiff, keep_168_2, live_pvs]
      erw [w]
      simp only [go_sem, Nat.reduceLT, Nat.reduceBEq, hr, hn, hb, ren_pvs]
  | some j =>
    rw [hf] at hq
    obtain ⟨rfl, h4⟩ := hq
    rw [Nat.zero_add] at h4
    unfold ixI
    cases hc
    all_goals
      simp only [go_sem, Nat.reduceLT, reduceCtorEq, Nat.reduceEqDiff, Nat.reduceBEq, Nat.reduceAdd, ev_len_sl ty_descOf_22, encL_len]
      rw [exL_head]
      simp only [go_sem, reduceCtorEq, Nat.reduceEqDiff, keep_168_2, live_pvs]
      erw [w]
      simp only [go_sem, hr, h4, hb, ren_pvs]
theorem ContainsV_den {g : Nat} (hg : K.good g = true) (ho : K.ownRet g = false) {p : Val → Bool} {fv : CV} {xs : List AV} {kb : Option (List CV)} {kl : List (List CV)} (hc : Clo g fv xs kb kl) (l : List Val) (hl : l.length ≤ 1000000000)
    (hp : ∀ k t c, Val.mk k t c ∈ l → den K g (.agg [.pv (.int .i64 k), .pv (.int .i64 t.kind), .pv (.str t.text), .pv (.int .i64 t.n), .pv (.sl (encL c))] :: xs) kl = some (.ret (B (p (.mk k t c))) kl)) :
    den K 176 [L (encL l), .c fv] kl = some (.ret (B (l.any p)) kl) := by
  have hr : Tryz.f176.results = #[.tmp 4] := rfl
  have h := IndexV_den hg ho hc l hl hp
  rw [← ix_any]
  refine den_run rfl rfl Tryz.func176 rfl Tryz.ntmps176 ⟨by simp, by simp [LK]⟩ ?_
  cases hc
  all_goals simp only [go_sem, Nat.reduceLT, reduceCtorEq, Nat.reduceEqDiff, Nat.reduceBEq, Nat.reduceAdd, good_168, hr, h, ren_pvs, capsTo]
end Go.Abs
namespace Go.Abs
open Go Go.Proofs
set_option maxRecDepth 10000
attribute [local go_sem] exL_seq exL_region exL_cond exL_block exL_scope exL_ret exL_skip exL_exit runRegion runOps stepOp guardA absOp takeOver opd avOf cvOf St.degAt St.put okPV okVal okAV absBin intBin strBin boolBin setBoxes if_true Bool.false_eq_true if_false Option.map_some Option.map_none Option.bind_some Option.bind_none thenO outOf upd List.toList_toArray isOwn steal appArgs mvB inApps AV.deg CV.deg AV.gv AV.isIter absNext some_bne some_beqN List.length_nil List.length_cons List.filterMap_cons List.filterMap_nil beq_iff_eq List.getElem?_cons_zero List.getElem?_cons_succ Option.getD_some K_hook hookB Bool.false_and Bool.and_false Bool.and_self K_P K_own absCall doCall getBoxes lend back idx dedup AV.ren CV.ren TV.ren AV.ptrs CV.ptrs zipBox AV.flat CV.flat absLoad absStore cellsOfAV setAt newBox markB bldTypes absFieldAddr absField absExtract absAssert noAssert absMkIface ifcOf CV.pv? content pushHead ownT fillCells reps pvs chunks enterSt leave resOf resVars resVar outBoxes lentOnly TV.deg TV.av LK CV.plain CV.noBld nilBin absUn bound List.map_cons List.map_nil List.all_cons List.all_nil List.any_cons List.any_nil List.contains_cons List.contains_nil List.elem_cons List.elem_nil List.cons_append List.nil_append List.append_nil List.flatMap_cons List.flatMap_nil List.zip_cons_cons List.zip_nil_left List.zip_nil_right List.take_succ_cons List.take_zero List.take_nil List.drop_succ_cons List.drop_zero List.drop_nil List.isEmpty_nil List.isEmpty_cons Bool.and_true Bool.true_and Bool.or_true Bool.true_or Bool.or_false Bool.false_or Bool.not_true Bool.not_false Nat.add_zero Nat.zero_add Option.isNone_none Option.isNone_some Option.getD_none true_and and_true not_true_eq_false not_false_eq_true decide_true decide_false Nat.le_refl and_self Bool.not_eq_true Nat.sub_self or_true true_or Option.some.injEq List.length_map List.nil_eq and_false false_and AV.live CV.live CV.liveIn K_keep firstReg Option.orElse_some Option.orElse_none head keepSlots keepBoxes Int.lt_irrefl List.length_append ite_self memOK logOps opKey lentBoxes Key.clash Key.sees Key.writes Nat.lt_irrefl gt_iff_lt nobox_at bot_at false_or or_false beq_self_eq_true Bool.true_beq Bool.false_beq
abbrev ixsH (l : List (List UInt8)) (i : Nat) (fv : CV) (kb : Option (List CV)) : St :=
  { sl := upd (upd (upd (upd bot 8 (I i)) 7 (I l.length)) 1 (.c fv)) 0 (L (encT l)), bx := upd nobox 100000 kb, nt := 19 }
noncomputable def ixslp : Code := .loop (loopAt Tryz.f218 2)
theorem ixs_loop {g : Nat} (hg : K.good g = true) (ho : K.ownRet g = false) {p : List UInt8 → Bool} {fv : CV} {xs : List AV} {kb : Option (List CV)} {kl : List (List CV)} (hc : Clo g fv xs kb kl) (l : List (List UInt8)) (hl : l.length ≤ 1000000000)
    (hp : ∀ x, x ∈ l → den K g (T x :: xs) kl = some (.ret (B (p x)) kl)) : ∀ (rest : List (List UInt8)) (i : Nat), l.drop i = rest → i ≤ l.length →
    Ends (exL K 218 ixslp (ixsH l i fv kb)) fun o S => S.bx 100000 = kb ∧ match rest.findIdx? p with
      | none => o = .exit 0 ∧ S.nt = 19
      | some j => o = .ret ∧ S.sl 4 = I ((i + j : Nat) : Int)
  | [], i, hd, hi => by
    have hin : i = l.length := by
      have := List.drop_eq_nil_iff.1 hd
      omega
    subst hin
    have hlt : decide ((l.length : Int) < (l.length : Int)) = false := decide_eq_false (by omega)
    unfold ixslp
    conv in loopAt _ _ => whnf
    rw [exL_loop]
    cases hc
    all_goals simp only [go_sem, Nat.reduceLT, reduceCtorEq, Nat.reduceEqDiff, Nat.reduceBEq, keep_218_2, ends_some, List.findIdx?_nil, live_pvs]
  | x :: rest, i, hd, hi => by
    obtain ⟨g1, g2, g3⟩ := drop_cons hd
    have hlt : decide ((i : Int) < (l.length : Int)) = true := decide_eq_true (by omega)
    have hget := txt_at l i x g1
    have ih := ixs_loop hg ho hc l hl hp rest (i + 1) g2 (by omega)
    have hm := hp x (List.mem_of_getElem? g1)
    have hws : IntKind.i64.wrap ((i : Int) + 1) = ((i + 1 : Nat) : Int) := wrap_nat i (by omega)
    unfold ixslp at ih ⊢
    conv at ih in loopAt _ _ => whnf
    rw [List.findIdx?_cons]
    conv in loopAt _ _ => whnf
    rw [exL_loop]
    cases hv : p x
    · rw [if_neg (by simp)]
      rw [hv] at hm
      cases hc
      all_goals
        simp only [go_sem, Nat.reduceLT, reduceCtorEq, Nat.reduceEqDiff, Nat.reduceBEq, Nat.reduceAdd, ev_indexAddr ty_descOf_123, ty_szOf_9, ty_shapeT_9, keep_218_2, hlt, hget, Int.natCast_nonneg, hm, hg, ho, hws, ren_pvs, live_pvs]
        rw [exL_head]
        simp only [go_sem, reduceCtorEq, Nat.reduceEqDiff, keep_218_2, live_pvs]
        refine ends_imp ih fun o S q => ⟨q.1, ?_⟩
        have q2 := q.2
        cases hf : rest.findIdx? p with
        | none => rw [hf] at q2; exact q2
        | some j =>
          rw [hf] at q2
          refine ⟨q2.1, q2.2.trans ?_⟩
          rw [show i + 1 + j = i + (j + 1) by omega]
    · rw [if_pos rfl]
      rw [hv] at hm
      cases hc
      all_goals simp only [go_sem, Nat.reduceLT, reduceCtorEq, Nat.reduceEqDiff, Nat.reduceBEq, Nat.reduceAdd, ev_indexAddr ty_descOf_123, ty_szOf_9, ty_shapeT_9, keep_218_2, hlt, hget, Int.natCast_nonneg, hm, hg, ho, ends_some, Nat.add_zero, ren_pvs, live_pvs]
theorem IndexS_den {g : Nat} (hg : K.good g = true) (ho : K.ownRet g = false) {p : List UInt8 → Bool} {fv : CV} {xs : List AV} {kb : Option (List CV)} {kl : List (List CV)} (hc : Clo g fv xs kb kl) (l : List (List UInt8)) (hl : l.length ≤ 1000000000)
    (hp : ∀ x, x ∈ l → den K g (T x :: xs) kl = some (.ret (B (p x)) kl)) :
    den K 218 [L (encT l), .c fv] kl = some (.ret (I (ixI (l.findIdx? p))) kl) := by
  have hr : Tryz.f218.results = #[.tmp 4] := rfl
  have h := ixs_loop hg ho hc l hl hp l 0 rfl (Nat.zero_le _)
  unfold ixslp at h
  conv at h in loopAt _ _ => whnf
  obtain ⟨o, S', w, hb, hq⟩ := h
  have z0 : ((0 : Nat) : Int) = 0 := rfl
  simp only [ixsH, z0] at w
  refine den_run rfl rfl Tryz.func218 rfl Tryz.ntmps218 ⟨by simp, by simp [LK]⟩ ?_
  cases hf : l.findIdx? p with
  | none =>
    rw [hf] at hq
    obtain ⟨rfl, hn⟩ := hq
    unfold ixI
    cases hc
    all_goals
      simp only [go_sem, Nat.reduceLT, reduceCtorEq, Nat.reduceEqDiff, Nat.reduceBEq, Nat.reduceAdd, ev_len_sl ty_descOf_123, encT_len]
      rw [exL_head]
      simp only [go_sem, reduceCtorEq, Nat.reduceEqDiff, keep_218_2, live_pvs]
      erw [w]
      simp only [go_sem, Nat.reduceLT, Nat.reduceBEq, hr, hn, hb, ren_pvs]
  | some j =>
    rw [hf] at hq
    obtain ⟨rfl, h4⟩ := hq
    rw [Nat.zero_add] at h4
    unfold ixI
    cases hc
    all_goals
      simp only [go_sem, Nat.reduceLT, reduceCtorEq, Nat.reduceEqDiff, Nat.reduceBEq, Nat.reduceAdd, ev_len_sl ty_descOf_123, encT_len]
      rw [exL_head]
      simp only [go_sem, reduceCtorEq, Nat.reduceEqDiff, keep_218_2, live_pvs]
      erw [w]
      simp only [go_sem, hr, h4, hb, ren_pvs]
theorem ContainsS_den {g : Nat} (hg : K.good g = true) (ho : K.ownRet g = false) {p : List UInt8 → Bool} {fv : CV} {xs : List AV} {kb : Option (List CV)} {kl : List (List CV)} (hc : Clo g fv xs kb kl) (l : List (List UInt8)) (hl : l.length ≤ 1000000000)
    (hp : ∀ x, x ∈ l → den K g (T x :: xs) kl = some (.ret (B (p x)) kl)) :
    den K 178 [L (encT l), .c fv] kl = some (.ret (B (l.any p)) kl) := by
  have hr : Tryz.f178.results = #[.tmp 4] := rfl
  have h := IndexS_den hg ho hc l hl hp
  rw [← ix_any]
  refine den_run rfl rfl Tryz.func178 rfl Tryz.ntmps178 ⟨by simp, by simp [LK]⟩ ?_
  cases hc
  all_goals simp only [go_sem, Nat.reduceLT, reduceCtorEq, Nat.reduceEqDiff, Nat.reduceBEq, Nat.reduceAdd, good_218, hr, h, ren_pvs, capsTo]
end Go.Abs
namespace Go.Abs
open Go Go.Proofs
set_option maxRecDepth 10000
attribute [local go_sem] exL_seq exL_region exL_cond exL_block exL_scope exL_ret exL_skip exL_exit runRegion runOps stepOp guardA absOp takeOver opd avOf cvOf St.degAt St.put okPV okVal okAV absBin intBin strBin boolBin setBoxes if_true Bool.false_eq_true if_false Option.map_some Option.map_none Option.bind_some Option.bind_none thenO outOf upd List.toList_toArray isOwn steal appArgs mvB inApps AV.deg CV.deg AV.gv AV.isIter absNext some_bne some_beqN List.length_nil List.length_cons List.filterMap_cons List.filterMap_nil beq_iff_eq List.getElem?_cons_zero List.getElem?_cons_succ Option.getD_some K_hook hookB Bool.false_and Bool.and_false Bool.and_self K_P K_own absCall doCall getBoxes lend back idx dedup AV.ren CV.ren TV.ren AV.ptrs CV.ptrs zipBox AV.flat CV.flat absLoad absStore cellsOfAV setAt newBox markB bldTypes absFieldAddr absField absExtract absAssert noAssert absMkIface ifcOf CV.pv? content pushHead ownT fillCells reps pvs chunks enterSt leave resOf resVars resVar outBoxes lentOnly TV.deg TV.av LK CV.plain CV.noBld nilBin absUn bound List.map_cons List.map_nil List.all_cons List.all_nil List.any_cons List.any_nil List.contains_cons List.contains_nil List.elem_cons List.elem_nil List.cons_append List.nil_append List.append_nil List.flatMap_cons List.flatMap_nil List.zip_cons_cons List.zip_nil_left List.zip_nil_right List.take_succ_cons List.take_zero List.take_nil List.drop_succ_cons List.drop_zero List.drop_nil List.isEmpty_nil List.isEmpty_cons Bool.and_true Bool.true_and Bool.or_true Bool.true_or Bool.or_false Bool.false_or Bool.not_true Bool.not_false Nat.add_zero Nat.zero_add Option.isNone_none Option.isNone_some Option.getD_none true_and and_true not_true_eq_false not_false_eq_true decide_true decide_false Nat.le_refl and_self Bool.not_eq_true Nat.sub_self or_true true_or Option.some.injEq List.length_map List.nil_eq and_false false_and AV.live CV.live CV.liveIn K_keep firstReg Option.orElse_some Option.orElse_none head keepSlots keepBoxes Int.lt_irrefl List.length_append ite_self memOK logOps opKey lentBoxes Key.clash Key.sees Key.writes Nat.lt_irrefl gt_iff_lt nobox_at bot_at false_or or_false beq_self_eq_true Bool.true_beq Bool.false_beq
theorem smallD_den (s : List UInt8) (h : s.length < 1000000000) : den K 171 [T s] [] = some (.ret (T (Sl.low s)) []) := by
  have e : Sl.low s = s.map lowB := by unfold Sl.low; exact List.map_congr_left fun c _ => (low_byte c).symm
  rw [e]
  exact prim_run (F := pSmall) rfl (by unfold pSmall; simp only; rw [if_pos (by unfold strLim; omega)])
theorem customB_pre (s : List UInt8) : Lib.hasPrefix s [45, 45] = Sl.customB s := by
  cases s with
  | nil => rfl
  | cons a r => cases r with
    | nil => simp [Sl.customB, Lib.hasPrefix, List.isPrefixOf]
    | cons b r => simp [Sl.customB, Lib.hasPrefix, List.isPrefixOf, Bool.beq_comm (a := a), Bool.beq_comm (a := b)]
theorem Custom_den (s : List UInt8) : den K 26 [T s] [] = some (.ret (B (Sl.customB s)) []) := by
  refine den_run rfl rfl Tryz.func26 rfl Tryz.ntmps26 ⟨by simp, by simp [LK]⟩ ?_
  have hr : Tryz.f26.results = #[.tmp 2] := rfl
  have hp := hasPrefix_den s [45, 45]
  rw [customB_pre] at hp
  simp only [go_sem, Nat.reduceLT, reduceCtorEq, Nat.reduceEqDiff, Nat.reduceBEq, Nat.reduceAdd, good_67, hr, hp]
theorem proper_den (s : List UInt8) (h : s.length < 1000000000) : den K 106 [T s] [] = some (.ret (T (Sl.proper s)) []) := by
  refine den_run rfl rfl Tryz.func106 rfl Tryz.ntmps106 ⟨by simp, by simp [LK]⟩ ?_
  have hr : Tryz.f106.results = #[.tmp 2] := rfl
  have hc := Custom_den s
  have hs := smallD_den s h
  unfold Sl.proper
  cases e : Sl.customB s
  · rw [e] at hc
    simp only [go_sem, Nat.reduceLT, reduceCtorEq, Nat.reduceEqDiff, Nat.reduceBEq, Nat.reduceAdd, good_26, good_171, hr, hc, hs]
  · rw [e] at hc
    simp only [go_sem, Nat.reduceLT, reduceCtorEq, Nat.reduceEqDiff, Nat.reduceBEq, Nat.reduceAdd, good_26, hr, hc]
theorem signD_den (s : List UInt8) : den K 57 [T s] [] = some (.ret (.agg [.pv (.int .i64 7), .pv (.str s), .pv (.int .i64 0)]) []) := by
  refine den_run rfl rfl Tryz.func57 rfl Tryz.ntmps57 ⟨by simp, by simp [LK]⟩ ?_
  have hr : Tryz.f57.results = #[.cell 2 47] := rfl
  simp only [go_sem, Nat.reduceLT, reduceCtorEq, Nat.reduceEqDiff, Nat.reduceBEq, Nat.reduceAdd, Nat.reduceSub, Nat.reduceLeDiff, ty_shapeT_47, ty_zeroCells_47, ev_build ty_zeroCells_47 ty_placesOf_47, ty_szOf_47, hr]
theorem nameD_den (s : List UInt8) : den K 56 [T s] [] = some (.ret (.agg [.pv (.int .i64 1), .pv (.str s), .pv (.int .i64 0)]) []) := by
  refine den_run rfl rfl Tryz.func56 rfl Tryz.ntmps56 ⟨by simp, by simp [LK]⟩ ?_
  have hr : Tryz.f56.results = #[.cell 2 47] := rfl
  simp only [go_sem, Nat.reduceLT, reduceCtorEq, Nat.reduceEqDiff, Nat.reduceBEq, Nat.reduceAdd, Nat.reduceSub, Nat.reduceLeDiff, ty_shapeT_47, ty_zeroCells_47, ev_build ty_zeroCells_47 ty_placesOf_47, ty_szOf_47, hr]
theorem namedD_den (k : Int) (t : Tok) (l : List Val) : den K 105 [.agg (valCv k t l)] [] = some (.ret (B (Sl.isNamed (.mk k t l))) []) := by
  refine den_run rfl rfl Tryz.func105 rfl Tryz.ntmps105 ⟨by simp, by simp [LK]⟩ ?_
  have hr : Tryz.f105.results = #[.tmp 2] := rfl
  have hs : Sl.isNamed (.mk k t l) = ((k == 1) && (t.kind == 1)) := rfl
  rw [hs]
  cases e1 : (k == 1)
  · simp only [go_sem, Nat.reduceLT, Nat.reduceEqDiff, Nat.reduceBEq, Nat.reduceAdd, Nat.reduceSub, Nat.reduceLeDiff, ty_fieldOff_49_0, ty_szOf_3, ty_shapeT_3, hr, e1]
  · simp only [go_sem, Nat.reduceLT, Nat.reduceEqDiff, Nat.reduceBEq, Nat.reduceAdd, Nat.reduceSub, Nat.reduceLeDiff, ty_fieldOff_49_0, ty_szOf_3, ty_shapeT_3, ty_fieldOff_49_1, ty_szOf_47, ty_fieldOff_47_0, hr, e1]
theorem isD_den (k : Int) (t : Tok) (l : List Val) (s : List UInt8) : den K 107 [.agg (valCv k t l), .agg [.pv (.int .i64 7), .pv (.str s), .pv (.int .i64 0)]] [] = some (.ret (B (Sl.isSign s (.mk k t l))) []) := by
  refine den_run rfl rfl Tryz.func107 rfl Tryz.ntmps107 ⟨by simp, by simp [LK]⟩ ?_
  have hr : Tryz.f107.results = #[.tmp 4] := rfl
  have hs : Sl.isSign s (.mk k t l) = ((k == 1) && decide (t = ⟨7, s, 0⟩)) := rfl
  rw [hs]
  have heq := tok_eq t.kind 7 t.n 0 t.text s
  rw [tok_beq t ⟨7, s, 0⟩] at heq
  cases e1 : (k == 1)
  · simp only [go_sem, Nat.reduceLT, Nat.reduceEqDiff, Nat.reduceBEq, Nat.reduceAdd, Nat.reduceSub, Nat.reduceLeDiff, ty_fieldOff_49_0, ty_szOf_3, ty_shapeT_3, hr, e1]
  · simp only [go_sem, Nat.reduceLT, Nat.reduceEqDiff, Nat.reduceBEq, Nat.reduceAdd, Nat.reduceSub, Nat.reduceLeDiff, ty_fieldOff_49_0, ty_szOf_3, ty_shapeT_3, ty_fieldOff_49_1, ty_szOf_47, ty_shapeT_47, hr, e1, heq]
theorem has11_den (k : Int) (t : Tok) (l : List Val) (s : List UInt8) : den K 179 [T s, P0] [[.pv (.int .i64 k), .pv (.int .i64 t.kind), .pv (.str t.text), .pv (.int .i64 t.n), .pv (.sl (encL l))]] =
    some (.ret (B (Sl.isSign s (.mk k t l))) [[.pv (.int .i64 k), .pv (.int .i64 t.kind), .pv (.str t.text), .pv (.int .i64 t.n), .pv (.sl (encL l))]]) := by
  refine den_run rfl rfl Tryz.func179 rfl Tryz.ntmps179 ⟨by simp, by simp [LK]⟩ ?_
  have hr : Tryz.f179.results = #[.tmp 3] := rfl
  have h1 := signD_den s
  have h2 := isD_den k t l s
  simp only [go_sem, Nat.reduceLT, reduceCtorEq, Nat.reduceEqDiff, Nat.reduceBEq, Nat.reduceAdd, ty_shapeT_49, good_57, good_107, hr, h1, h2]
theorem has1_den (k : Int) (t : Tok) (l : List Val) (ss : List (List UInt8)) (hs : ss.length ≤ 1000) : den K 177 [.agg (valCv k t l), P0] [[.pv (.sl (encT ss))]] =
    some (.ret (B (ss.any fun s => Sl.isSign s (.mk k t l))) [[.pv (.sl (encT ss))]]) := by
  refine den_run rfl rfl Tryz.func177 rfl Tryz.ntmps177 ⟨by simp, by simp [LK]⟩ ?_
  have hr : Tryz.f177.results = #[.tmp 3] := rfl
  have h := ContainsS_den (g := 179) good_179 rfl (p := fun s => Sl.isSign s (.mk k t l)) (Clo.one [.int .i64 k, .int .i64 t.kind, .str t.text, .int .i64 t.n, .sl (encL l)]) ss (by omega) fun s _ => has11_den k t l s
  simp only [List.map_cons, List.map_nil] at h
  simp only [go_sem, Nat.reduceLT, Nat.reduceEqDiff, Nat.reduceBEq, Nat.reduceAdd, Nat.reduceSub, Nat.reduceLeDiff, ty_shapeT_123, good_178, hr, h, capsTo, locs, arr_nil]
theorem has_den (l : List Val) (ss : List (List UInt8)) (hl : l.length ≤ 1000000000) (hs : ss.length ≤ 1000) : den K 114 [L (encL l), L (encT ss)] [] = some (.ret (B (l.any fun v => ss.any fun s => Sl.isSign s v)) []) := by
  refine den_run rfl rfl Tryz.func114 rfl Tryz.ntmps114 ⟨by simp, by simp [LK]⟩ ?_
  have hr : Tryz.f114.results = #[.tmp 4] := rfl
  have h := ContainsV_den (g := 177) good_177 rfl (p := fun v => ss.any fun s => Sl.isSign s v) (Clo.one [.sl (encT ss)]) l hl fun k t c _ => has1_den k t c ss hs
  simp only [List.map_cons, List.map_nil] at h
  simp only [go_sem, Nat.reduceLT, reduceCtorEq, Nat.reduceEqDiff, Nat.reduceBEq, Nat.reduceAdd, Nat.reduceSub, Nat.reduceLeDiff, good_176, hr, h, capsTo, locs, arr_nil]
theorem hasOne_den (l : List Val) (c : UInt8) (hl : l.length ≤ 1000000000) : den K 114 [L (encL l), L [[.str [c]]]] [] = some (.ret (B (Sl.hasSign [c] l)) []) := by
  have h := has_den l [[c]] hl (by simp)
  have e : (l.any fun v => [[c]].any fun s => Sl.isSign s v) = Sl.hasSign [c] l := by
    unfold Sl.hasSign
    congr 1
    funext v
    simp
  rw [e] at h
  exact h
end Go.Abs
namespace Go.Abs
def Dcl.enc (d : Dcl) : List PV := [.str d.name, .sl (encL d.l), .bool d.imp]
def encD (ds : List Dcl) : List (List PV) := ds.map Dcl.enc
theorem encD_len (ds : List Dcl) : (encD ds).length = ds.length := List.length_map ..
theorem dcl_at (ds : List Dcl) (i : Nat) (d : Dcl) (h : ds[i]? = some d) : (encD ds)[(i : Int).toNat]? = some [.str d.name, .sl (encL d.l), .bool d.imp] := by
  rw [Int.toNat_natCast, encD, List.getElem?_map, h]; rfl
theorem lens_dcl (ds : List Dcl) : lens 3 (encD ds) = true := by
  simp only [encD, lens, List.all_map, List.all_eq_true, Function.comp_apply, beq_iff_eq]
  intro d _
  rfl
theorem lens_dcl1 (a b c : PV) : lens 3 [[a, b, c]] = true := rfl
theorem snoc_dcl (a : List Dcl) (d : Dcl) : encD a ++ [[PV.str d.name, .sl (encL d.l), .bool d.imp]] = encD (a ++ [d]) := by
  simp [encD, Dcl.enc]
end Go.Abs
namespace Go.Abs
open Go Go.Proofs
set_option maxRecDepth 10000
attribute [local go_sem] exL_seq exL_region exL_cond exL_block exL_scope exL_ret exL_skip exL_exit runRegion runOps stepOp guardA absOp takeOver opd avOf cvOf St.degAt St.put okPV okVal okAV absBin intBin strBin boolBin setBoxes if_true Bool.false_eq_true if_false Option.map_some Option.map_none Option.bind_some Option.bind_none thenO outOf upd List.toList_toArray isOwn steal appArgs mvB inApps AV.deg CV.deg AV.gv AV.isIter absNext some_bne some_beqN List.length_nil List.length_cons List.filterMap_cons List.filterMap_nil beq_iff_eq List.getElem?_cons_zero List.getElem?_cons_succ Option.getD_some K_hook hookB Bool.false_and Bool.and_false Bool.and_self K_P K_own absCall doCall getBoxes lend back idx dedup AV.ren CV.ren TV.ren AV.ptrs CV.ptrs zipBox AV.flat CV.flat absLoad absStore cellsOfAV setAt newBox markB bldTypes absFieldAddr absField absExtract absAssert noAssert absMkIface ifcOf CV.pv? content pushHead ownT fillCells reps pvs chunks enterSt leave resOf resVars resVar outBoxes lentOnly TV.deg TV.av LK CV.plain CV.noBld nilBin absUn bound List.map_cons List.map_nil List.all_cons List.all_nil List.any_cons List.any_nil List.contains_cons List.contains_nil List.elem_cons List.elem_nil List.cons_append List.nil_append List.append_nil List.flatMap_cons List.flatMap_nil List.zip_cons_cons List.zip_nil_left List.zip_nil_right List.take_succ_cons List.take_zero List.take_nil List.drop_succ_cons List.drop_zero List.drop_nil List.isEmpty_nil List.isEmpty_cons Bool.and_true Bool.true_and Bool.or_true Bool.true_or Bool.or_false Bool.false_or Bool.not_true Bool.not_false Nat.add_zero Nat.zero_add Option.isNone_none Option.isNone_some Option.getD_none true_and and_true not_true_eq_false not_false_eq_true decide_true decide_false Nat.le_refl and_self Bool.not_eq_true Nat.sub_self or_true true_or Option.some.injEq List.length_map List.nil_eq and_false false_and AV.live CV.live CV.liveIn K_keep firstReg Option.orElse_some Option.orElse_none head keepSlots keepBoxes Int.lt_irrefl List.length_append ite_self memOK logOps opKey lentBoxes Key.clash Key.sees Key.writes Nat.lt_irrefl gt_iff_lt nobox_at bot_at false_or or_false beq_self_eq_true Bool.true_beq Bool.false_beq
theorem max_two (a b : Int) : absMax [I a, I b] = some (.int .i64 (max a b)) := by
  simp only [absMax, allInts, if_true, Option.map_some, List.foldl_cons, List.foldl_nil]
  rw [Int.max_def]
  congr 2
  split <;> split <;> omega
def DepthDen (l : List Val) : Prop := Ne.size l ≤ 1000000 → den K 172 [L (encL l)] [] = some (.ret (I (Ne.depth l)) [])
def Depth2Den (l : List Val) : Prop := Ne.size l ≤ 1000000 → den K 65 [L (encL l)] [] = some (.ret (I (Ne.depth l)) [])
abbrev depthH (l : List Val) (i : Nat) (n : Nat) : St := { sl := upd (upd (upd (upd bot 8 (I i)) 7 (I l.length)) 6 (L (encL l))) 3 (I n), bx := nobox, nt := 28 }
abbrev depth2H (l : List Val) (i : Nat) (n : Nat) : St := { sl := upd (upd (upd bot 4 (I i)) 3 (I n)) 0 (L (encL l)), bx := nobox, nt := 35 }
theorem max_nat (a b : Nat) : max (a : Int) (b : Int) = ((max a b : Nat) : Int) := by omega
theorem depth_loop (l : List Val) (hl : l.length ≤ 1000000) (hin : ∀ k t l', Val.mk k t l' ∈ l → den K 172 [L (encL l')] [] = some (.ret (I (Ne.depth l')) []) ∧ Ne.depth l' ≤ 1000000) : ∀ (rest : List Val) (i n : Nat), l.drop i = rest → i ≤ l.length →
    Ends (exL K 172 (.loop (loopAt Tryz.f172 3)) (depthH l i n)) fun o S => o = .exit 0 ∧ S.nt = 28 ∧ S.sl 3 = I (max n (Ne.depth rest) : Nat)
  | [], i, n, hd, hi => by
    have hin : i = l.length := by
      have := List.drop_eq_nil_iff.1 hd
      omega
    subst hin
    have hv : max n (Ne.depth []) = n := by rw [Ne.depth]; omega
    rw [hv]
    conv in loopAt _ _ => whnf
    rw [exL_loop]
    simp only [go_sem, Nat.reduceLT, Nat.reduceEqDiff, Nat.reduceBEq, keep_172_3, ends_some]
  | .mk k t l' :: rest, i, n, hd, hi => by
    obtain ⟨g1, g2, g3⟩ := drop_cons hd
    have hmem : Val.mk k t l' ∈ l := List.mem_of_getElem? g1
    obtain ⟨hf, hb⟩ := hin k t l' hmem
    have hlt : decide ((i : Int) < (l.length : Int)) = true := decide_eq_true (by omega)
    have hget := val_at l i k t l' g1
    have hw : IntKind.i64.wrap ((i : Int) + 1) = ((i + 1 : Nat) : Int) := wrap_nat i (by omega)
    have hw2 : IntKind.i64.wrap (1 + (Ne.depth l' : Int)) = ((Ne.depth l' + 1 : Nat) : Int) := by rw [IntWalk.i64_in _ (by omega)]; omega
    conv in loopAt _ _ => whnf
    rw [exL_loop]
    by_cases hk : 2 ≤ k ∧ k ≤ 5
    · have e1 : decide (2 ≤ k) = true := decide_eq_true hk.1
      have e2 : decide (k ≤ 5) = true := decide_eq_true hk.2
      have hv : max n (Ne.depth (.mk k t l' :: rest)) = max (max n (Ne.depth l' + 1)) (Ne.depth rest) := by rw [Ne.depth, Ne.depthV, if_pos hk]; omega
      rw [hv]
      have ih := depth_loop l hl hin rest (i + 1) (max n (Ne.depth l' + 1)) g2 (by omega)
      conv at ih in loopAt _ _ => whnf
      simp only [go_sem, Nat.reduceLT, Nat.reduceEqDiff, Nat.reduceBEq, Nat.reduceAdd, ev_indexAddr ty_descOf_22, ty_szOf_49, ty_shapeT_49, ty_zeroCells_49, ty_fieldOff_49_0, ty_szOf_3, ty_shapeT_3, ty_fieldOff_49_2, ty_szOf_22, ty_shapeT_22, good_172, keep_172_3, hlt, hget, Int.natCast_nonneg, e1, e2, hf, hw, hw2, max_two, max_nat]
      rw [exL_head]
      simp only [go_sem, Nat.reduceEqDiff, keep_172_3]
      exact ih
    · have hv : max n (Ne.depth (.mk k t l' :: rest)) = max n (Ne.depth rest) := by rw [Ne.depth, Ne.depthV, if_neg hk]; omega
      rw [hv]
      have ih := depth_loop l hl hin rest (i + 1) n g2 (by omega)
      conv at ih in loopAt _ _ => whnf
      cases e1 : decide (2 ≤ k)
      · simp only [go_sem, Nat.reduceLT, Nat.reduceEqDiff, Nat.reduceBEq, Nat.reduceAdd, ev_indexAddr ty_descOf_22, ty_szOf_49, ty_shapeT_49, ty_zeroCells_49, ty_fieldOff_49_0, ty_szOf_3, ty_shapeT_3, ty_fieldOff_49_2, ty_szOf_22, ty_shapeT_22, good_172, keep_172_3, hlt, hget, Int.natCast_nonneg, e1, hw]
        rw [exL_head]
        simp only [go_sem, Nat.reduceEqDiff, keep_172_3]
        exact ih
      · have e2 : decide (k ≤ 5) = false := decide_eq_false (fun h => hk ⟨of_decide_eq_true e1, h⟩)
        simp only [go_sem, Nat.reduceLT, Nat.reduceEqDiff, Nat.reduceBEq, Nat.reduceAdd, ev_indexAddr ty_descOf_22, ty_szOf_49, ty_shapeT_49, ty_zeroCells_49, ty_fieldOff_49_0, ty_szOf_3, ty_shapeT_3, ty_fieldOff_49_2, ty_szOf_22, ty_shapeT_22, good_172, keep_172_3, hlt, hget, Int.natCast_nonneg, e1, e2, hw]
        rw [exL_head]
        simp only [go_sem, Nat.reduceEqDiff, keep_172_3]
        exact ih
theorem Depth_den (l : List Val) : DepthDen l := by
  refine ind_list (fun l hin hs => ?_) l
  have hl : l.length ≤ 1000000 := Nat.le_trans (Ne.length_size l) hs
  have hloop := depth_loop l hl (fun k t l' hm => by
    have := size_mem hm
    exact ⟨hin k t l' hm (by omega), Nat.le_trans (Ne.depth_size l') (by omega)⟩) l 0 0 rfl (by omega)
  conv at hloop in loopAt _ _ => whnf
  obtain ⟨o, S', w, rfl, hn, h3⟩ := hloop
  have hv : max 0 (Ne.depth l) = Ne.depth l := by omega
  rw [hv] at h3
  refine den_run rfl rfl Tryz.func172 rfl Tryz.ntmps172 ⟨by simp, by simp [LK]⟩ ?_
  have hr : Tryz.f172.results = #[.tmp 2] := rfl
  simp only [go_sem, Nat.reduceLT, reduceCtorEq, Nat.reduceEqDiff, Nat.reduceBEq, Nat.reduceAdd, ev_len_sl ty_descOf_22, encL_len]
  rw [exL_head]
  simp only [go_sem, Nat.reduceEqDiff, keep_172_3]
  erw [w]
  simp only [go_sem, Nat.reduceLT, Nat.reduceEqDiff, Nat.reduceBEq, Nat.reduceAdd, hr, hn, h3]
theorem depth2_loop (l : List Val) (hl : l.length ≤ 1000000) (hin : ∀ k t l', Val.mk k t l' ∈ l → den K 65 [L (encL l')] [] = some (.ret (I (Ne.depth l')) []) ∧ Ne.depth l' ≤ 1000000) : ∀ (rest : List Val) (i n : Nat), l.drop i = rest → i ≤ l.length →
    Ends (exL K 65 (.loop (loopAt Tryz.f65 3)) (depth2H l i n)) fun o S => o = .exit 0 ∧ S.nt = 35 ∧ S.sl 3 = I (max n (Ne.depth rest) : Nat)
  | [], i, n, hd, hi => by
    have hin : i = l.length := by
      have := List.drop_eq_nil_iff.1 hd
      omega
    subst hin
    have hv : max n (Ne.depth []) = n := by rw [Ne.depth]; omega
    rw [hv]
    conv in loopAt _ _ => whnf
    rw [exL_loop]
    simp only [go_sem, Nat.reduceLT, reduceCtorEq, Nat.reduceEqDiff, Nat.reduceBEq, Nat.reduceAdd, ev_len_sl ty_descOf_22, keep_65_3, ends_some, encL_len]
  | .mk k t l' :: rest, i, n, hd, hi => by
    obtain ⟨g1, g2, g3⟩ := drop_cons hd
    have hmem : Val.mk k t l' ∈ l := List.mem_of_getElem? g1
    obtain ⟨hf, hb⟩ := hin k t l' hmem
    have hlt : decide ((i : Int) < (l.length : Int)) = true := decide_eq_true (by omega)
    have hget := val_at l i k t l' g1
    have hw : IntKind.i64.wrap ((i : Int) + 1) = ((i + 1 : Nat) : Int) := wrap_nat i (by omega)
    have hw2 : IntKind.i64.wrap ((Ne.depth l' : Int) + 1) = ((Ne.depth l' + 1 : Nat) : Int) := wrap_nat _ (by omega)
    conv in loopAt _ _ => whnf
    rw [exL_loop]
    by_cases hk : 2 ≤ k ∧ k ≤ 5
    · have e1 : decide (1 < k) = true := decide_eq_true (by omega)
      have e2 : decide (k ≤ 5) = true := decide_eq_true hk.2
      have hv : max n (Ne.depth (.mk k t l' :: rest)) = max (max n (Ne.depth l' + 1)) (Ne.depth rest) := by rw [Ne.depth, Ne.depthV, if_pos hk]; omega
      rw [hv]
      have ih := depth2_loop l hl hin rest (i + 1) (max n (Ne.depth l' + 1)) g2 (by omega)
      conv at ih in loopAt _ _ => whnf
      simp only [go_sem, Nat.reduceLT, reduceCtorEq, Nat.reduceEqDiff, Nat.reduceBEq, Nat.reduceAdd, ev_len_sl ty_descOf_22, ev_indexAddr ty_descOf_22, ty_szOf_49, ty_fieldOff_49_0, ty_szOf_3, ty_shapeT_3, ty_fieldOff_49_2, ty_szOf_22, ty_shapeT_22, good_65, keep_65_3, encL_len, hlt, hget, Int.natCast_nonneg, e1, e2, hf, hw, hw2, max_two, max_nat]
      rw [exL_head]
      simp only [go_sem, reduceCtorEq, Nat.reduceEqDiff, keep_65_3]
      exact ih
    · have hv : max n (Ne.depth (.mk k t l' :: rest)) = max n (Ne.depth rest) := by rw [Ne.depth, Ne.depthV, if_neg hk]; omega
      rw [hv]
      have ih := depth2_loop l hl hin rest (i + 1) n g2 (by omega)
      conv at ih in loopAt _ _ => whnf
      cases e1 : decide (1 < k)
      · simp only [go_sem, Nat.reduceLT, reduceCtorEq, Nat.reduceEqDiff, Nat.reduceBEq, Nat.reduceAdd, ev_len_sl ty_descOf_22, ev_indexAddr ty_descOf_22, ty_szOf_49, ty_fieldOff_49_0, ty_szOf_3, ty_shapeT_3, ty_fieldOff_49_2, ty_szOf_22, ty_shapeT_22, good_65, keep_65_3, encL_len, hlt, hget, Int.natCast_nonneg, e1, hw]
        rw [exL_head]
        simp only [go_sem, reduceCtorEq, Nat.reduceEqDiff, keep_65_3]
        exact ih
      · have e2 : decide (k ≤ 5) = false := decide_eq_false (fun h => hk ⟨by have := of_decide_eq_true e1; omega, h⟩)
        simp only [go_sem, Nat.reduceLT, reduceCtorEq, Nat.reduceEqDiff, Nat.reduceBEq, Nat.reduceAdd, ev_len_sl ty_descOf_22, ev_indexAddr ty_descOf_22, ty_szOf_49, ty_fieldOff_49_0, ty_szOf_3, ty_shapeT_3, ty_fieldOff_49_2, ty_szOf_22, ty_shapeT_22, good_65, keep_65_3, encL_len, hlt, hget, Int.natCast_nonneg, e1, e2, hw]
        rw [exL_head]
        simp only [go_sem, reduceCtorEq, Nat.reduceEqDiff, keep_65_3]
        exact ih
theorem Depth2_den (l : List Val) : Depth2Den l := by
  refine ind_list (fun l hin hs => ?_) l
  have hl : l.length ≤ 1000000 := Nat.le_trans (Ne.length_size l) hs
  have hloop := depth2_loop l hl (fun k t l' hm => by
    have := size_mem hm
    exact ⟨hin k t l' hm (by omega), Nat.le_trans (Ne.depth_size l') (by omega)⟩) l 0 0 rfl (by omega)
  conv at hloop in loopAt _ _ => whnf
  obtain ⟨o, S', w, rfl, hn, h3⟩ := hloop
  have hv : max 0 (Ne.depth l) = Ne.depth l := by omega
  rw [hv] at h3
  refine den_run rfl rfl Tryz.func65 rfl Tryz.ntmps65 ⟨by simp, by simp [LK]⟩ ?_
  have hr : Tryz.f65.results = #[.tmp 2] := rfl
  simp only [go_sem, Nat.reduceLT, Nat.reduceBEq]
  rw [exL_head]
  simp only [go_sem, reduceCtorEq, Nat.reduceEqDiff, keep_65_3]
  erw [w]
  simp only [go_sem, Nat.reduceLT, Nat.reduceEqDiff, Nat.reduceBEq, Nat.reduceAdd, hr, hn, h3]
end Go.Abs
namespace Go.Abs
namespace Sl
theorem fr_suffix {l p r : List Val} (h : Fr l.reverse) (e : l = p ++ r) : Fr r.reverse := by
  subst e
  rw [List.reverse_append] at h
  exact h.pre rfl
end Sl
end Go.Abs
namespace Go.Abs
open Go Go.Proofs
set_option maxRecDepth 10000
attribute [local go_sem] exL_seq exL_region exL_cond exL_block exL_scope exL_ret exL_skip exL_exit runRegion runOps stepOp guardA absOp takeOver opd avOf cvOf St.degAt St.put okPV okVal okAV absBin intBin strBin boolBin setBoxes if_true Bool.false_eq_true if_false Option.map_some Option.map_none Option.bind_some Option.bind_none thenO outOf upd List.toList_toArray isOwn steal appArgs mvB inApps AV.deg CV.deg AV.gv AV.isIter absNext some_bne some_beqN List.length_nil List.length_cons List.filterMap_cons List.filterMap_nil beq_iff_eq List.getElem?_cons_zero List.getElem?_cons_succ Option.getD_some K_hook hookB Bool.false_and Bool.and_false Bool.and_self K_P K_own absCall doCall getBoxes lend back idx dedup AV.ren CV.ren TV.ren AV.ptrs CV.ptrs zipBox AV.flat CV.flat absLoad absStore cellsOfAV setAt newBox markB bldTypes absFieldAddr absField absExtract absAssert noAssert absMkIface ifcOf CV.pv? content pushHead ownT fillCells reps pvs chunks enterSt leave resOf resVars resVar outBoxes lentOnly TV.deg TV.av LK CV.plain CV.noBld nilBin absUn bound List.map_cons List.map_nil List.all_cons List.all_nil List.any_cons List.any_nil List.contains_cons List.contains_nil List.elem_cons List.elem_nil List.cons_append List.nil_append List.append_nil List.flatMap_cons List.flatMap_nil List.zip_cons_cons List.zip_nil_left List.zip_nil_right List.take_succ_cons List.take_zero List.take_nil List.drop_succ_cons List.drop_zero List.drop_nil List.isEmpty_nil List.isEmpty_cons Bool.and_true Bool.true_and Bool.or_true Bool.true_or Bool.or_false Bool.false_or Bool.not_true Bool.not_false Nat.add_zero Nat.zero_add Option.isNone_none Option.isNone_some Option.getD_none true_and and_true not_true_eq_false not_false_eq_true decide_true decide_false Nat.le_refl and_self Bool.not_eq_true Nat.sub_self or_true true_or Option.some.injEq List.length_map List.nil_eq and_false false_and AV.live CV.live CV.liveIn K_keep firstReg Option.orElse_some Option.orElse_none head keepSlots keepBoxes Int.lt_irrefl List.length_append ite_self memOK logOps opKey lentBoxes Key.clash Key.sees Key.writes Nat.lt_irrefl gt_iff_lt nobox_at bot_at false_or or_false beq_self_eq_true Bool.true_beq Bool.false_beq
def TxtOk (l : List Val) : Prop := ∀ v ∈ l, Sl.isNamed v = true → (Sl.nameT v).length < 1000000000
theorem TxtOk.sub {l m : List Val} (h : TxtOk l) (hs : ∀ v ∈ m, v ∈ l) : TxtOk m := fun v hv => h v (hs v hv)
def strA (l : List Val) : AV := match Sl.strongP l with
  | some y => .tup [.c (.pv (.sl (encL y))), .c (.pv (.bool true))]
  | none => .tup [.c (.pv (.sl (encL l))), .c (.pv (.bool false))]
theorem snoc_cases (l : List Val) : l = [] ∨ ∃ m v, l = m ++ [v] := by
  by_cases h : l = []
  · exact .inl h
  · exact .inr ⟨l.dropLast, l.getLast h, (List.dropLast_concat_getLast h).symm⟩
set_option maxHeartbeats 4000000 in
theorem strong_den (l : List Val) (hl : l.length ≤ 100000000) (ht : TxtOk l) : den K 108 [L (encL l)] [] = some (.ret (strA l) []) := by
  have hr : Tryz.f108.results = #[.tmp 2, .tmp 3] := rfl
  rcases snoc_cases l with rfl | ⟨m, v, rfl⟩
  · have e : strA [] = .tup [.c (.pv (.sl (encL []))), .c (.pv (.bool false))] := rfl
    have w0 : IntKind.i64.wrap (((0 : Nat) : Int) - 1) = -1 := by decide
    have d0 : decide ((-1 : Int) < 0) = true := rfl
    rw [e]
    refine den_run rfl rfl Tryz.func108 rfl Tryz.ntmps108 ⟨by simp, by simp [LK]⟩ ?_
    simp only [go_sem, Nat.reduceLT, reduceCtorEq, Nat.reduceEqDiff, Nat.reduceBEq, Nat.reduceAdd, ev_len_sl ty_descOf_22, hr, encL_len, List.length_nil, w0, d0]
  · obtain ⟨k, t, c⟩ := v
    have hn : (encL (m ++ [.mk k t c])).length = m.length + 1 := by rw [encL_len]; simp
    rw [List.length_append, List.length_singleton] at hl
    have hw : IntKind.i64.wrap (((m.length + 1 : Nat) : Int) - 1) = (m.length : Int) := by rw [IntWalk.i64_in _ (by omega)]; omega
    have hlt : decide ((m.length : Int) < 0) = false := decide_eq_false (by omega)
    have hget := last_val m k t c
    rw [Int.toNat_natCast] at hget
    have hcut := cut_last m (.mk k t c)
    have hb1 : ((m.length : Int) ≤ ((m.length + 1 : Nat) : Int)) = True := by rw [eq_iff_iff]; simp; omega
    have hlv := lens_valsK (m ++ [.mk k t c])
    have hd := namedD_den k t c
    have hT := TrimS_den m (by omega)
    have eS : Sl.strongP (m ++ [.mk k t c]) = if Sl.isNamed (.mk k t c) && Sl.low t.text == Sl.importantT then (match (Sl.trim m).reverse with
        | w :: r2 => if Sl.isSign [33] w then some (Sl.trim r2.reverse) else none
        | [] => none) else none := by
      unfold Sl.strongP
      rw [List.reverse_append, List.reverse_singleton, List.singleton_append]
      simp only [List.reverse_reverse]
      rfl
    unfold strA
    rw [eS]
    cases e1 : Sl.isNamed (.mk k t c)
    · rw [e1] at hd
      refine den_run rfl rfl Tryz.func108 rfl Tryz.ntmps108 ⟨by simp, by simp [LK]⟩ ?_
      simp only [go_sem, Nat.reduceLT, reduceCtorEq, Nat.reduceEqDiff, Nat.reduceBEq, Nat.reduceAdd, ev_len_sl ty_descOf_22, ev_indexAddr ty_descOf_22, ty_szOf_49, ty_shapeT_49, good_105, hr, hn, hw, hlt, hd, hget, Int.natCast_nonneg, Int.toNat_natCast]
    rw [e1] at hd
    have hsm := smallD_den t.text (ht (.mk k t c) (by simp) e1)
    cases e2 : (Sl.low t.text == Sl.importantT)
    · have hne : (Sl.low t.text != [105, 109, 112, 111, 114, 116, 97, 110, 116]) = true := by
        unfold Sl.importantT at e2
        rw [bne, e2]; rfl
      refine den_run rfl rfl Tryz.func108 rfl Tryz.ntmps108 ⟨by simp, by simp [LK]⟩ ?_
      simp only [go_sem, Nat.reduceLT, reduceCtorEq, Nat.reduceEqDiff, Nat.reduceBEq, Nat.reduceAdd, ev_len_sl ty_descOf_22, ev_indexAddr ty_descOf_22, ty_szOf_49, ty_shapeT_49, good_105, ty_fieldOff_49_1, ty_szOf_47, ty_fieldOff_47_1, ty_szOf_9, ty_shapeT_9, good_171, hr, hn, hw, hlt, hd, hget, Int.natCast_nonneg, Int.toNat_natCast, hsm, hne]
    have hne : (Sl.low t.text != [105, 109, 112, 111, 114, 116, 97, 110, 116]) = false := by
      unfold Sl.importantT at e2
      rw [bne, e2]; rfl
    have htl := Sl.trim_len m
    rcases snoc_cases (Sl.trim m) with e3 | ⟨b, w, e3⟩
    · rw [e3] at hT ⊢
      have w0 : IntKind.i64.wrap (((0 : Nat) : Int) - 1) = -1 := by decide
      have d0 : decide ((-1 : Int) < 0) = true := rfl
      refine den_run rfl rfl Tryz.func108 rfl Tryz.ntmps108 ⟨by simp, by simp [LK]⟩ ?_
      simp only [go_sem, Nat.reduceLT, reduceCtorEq, Nat.reduceEqDiff, Nat.reduceBEq, Nat.reduceAdd, ev_len_sl ty_descOf_22, ev_indexAddr ty_descOf_22, ty_szOf_49, ty_shapeT_49, good_105, ty_fieldOff_49_1, ty_szOf_47, ty_fieldOff_47_1, ty_szOf_9, ty_shapeT_9, good_171, ev_slice_sl ty_descOf_22 ty_szOf_49, good_104, hr, hn, hw, hlt, hd, hget, Int.natCast_nonneg, Int.toNat_natCast, hsm, hne, hb1, hlv, hcut, hT, encL_len, List.length_nil, w0, d0, List.reverse_nil]
    · obtain ⟨k2, t2, c2⟩ := w
      rw [e3] at hT htl ⊢
      rw [List.length_append, List.length_singleton] at htl
      have hn2 : (encL (b ++ [.mk k2 t2 c2])).length = b.length + 1 := by rw [encL_len]; simp
      have hw2 : IntKind.i64.wrap (((b.length + 1 : Nat) : Int) - 1) = (b.length : Int) := by rw [IntWalk.i64_in _ (by omega)]; omega
      have hlt2 : decide ((b.length : Int) < 0) = false := decide_eq_false (by omega)
      have hget2 := last_val b k2 t2 c2
      rw [Int.toNat_natCast] at hget2
      have hcut2 := cut_last b (.mk k2 t2 c2)
      have hb2 : ((b.length : Int) ≤ ((b.length + 1 : Nat) : Int)) = True := by rw [eq_iff_iff]; simp; omega
      have hlv2 := lens_valsK (b ++ [.mk k2 t2 c2])
      have hsg := signD_den [33]
      have his := isD_den k2 t2 c2 [33]
      have hT2 := TrimS_den b (by omega)
      rw [List.reverse_append, List.reverse_singleton, List.singleton_append]
      simp only [List.reverse_reverse]
      cases e4 : Sl.isSign [33] (.mk k2 t2 c2)
      · rw [e4] at his
        refine den_run rfl rfl Tryz.func108 rfl Tryz.ntmps108 ⟨by simp, by simp [LK]⟩ ?_
        simp only [go_sem, Nat.reduceLT, reduceCtorEq, Nat.reduceEqDiff, Nat.reduceBEq, Nat.reduceAdd, ev_len_sl ty_descOf_22, ev_indexAddr ty_descOf_22, ty_szOf_49, ty_shapeT_49, good_105, ty_fieldOff_49_1, ty_szOf_47, ty_fieldOff_47_1, ty_szOf_9, ty_shapeT_9, good_171, ev_slice_sl ty_descOf_22 ty_szOf_49, good_104, good_57, good_107, hr, hn, hw, hlt, hd, hget, Int.natCast_nonneg, Int.toNat_natCast, hsm, hne, hb1, hlv, hcut, hT, hn2, hw2, hlt2, hget2, hsg, his]
      · rw [e4] at his
        refine den_run rfl rfl Tryz.func108 rfl Tryz.ntmps108 ⟨by simp, by simp [LK]⟩ ?_
        simp only [go_sem, Nat.reduceLT, reduceCtorEq, Nat.reduceEqDiff, Nat.reduceBEq, Nat.reduceAdd, ev_len_sl ty_descOf_22, ev_indexAddr ty_descOf_22, ty_szOf_49, ty_shapeT_49, good_105, ty_fieldOff_49_1, ty_szOf_47, ty_fieldOff_47_1, ty_szOf_9, ty_shapeT_9, good_171, ev_slice_sl ty_descOf_22 ty_szOf_49, good_104, good_57, good_107, hr, hn, hw, hlt, hd, hget, Int.natCast_nonneg, Int.toNat_natCast, hsm, hne, hb1, hlv, hcut, hT, hn2, hw2, hlt2, hget2, hsg, his, hb2, hlv2, hcut2, hT2]
theorem fits_den (l : List Val) (hs : Ne.size l ≤ 1000000) : den K 109 [L (encL l)] [] = some (.ret (B (Sl.fits l)) []) := by
  have hr : Tryz.f109.results = #[.tmp 2] := rfl
  have hlen := Ne.length_size l
  have h1 := hasOne_den l 33 (by omega)
  have h2 := Depth_den l hs
  unfold Sl.fits
  cases l with
  | nil =>
    have d0 : decide ((0 : Int) < ((0 : Nat) : Int)) = false := rfl
    refine den_run rfl rfl Tryz.func109 rfl Tryz.ntmps109 ⟨by simp, by simp [LK]⟩ ?_
    simp only [go_sem, Nat.reduceLT, reduceCtorEq, Nat.reduceEqDiff, Nat.reduceBEq, Nat.reduceAdd, ev_len_sl ty_descOf_22, hr, encL_len, List.length_nil, d0]
  | cons v l =>
    have d0 : decide ((0 : Int) < ((l.length + 1 : Nat) : Int)) = true := decide_eq_true (by omega)
    have d1 : decide (((Ne.depth (v :: l) : Nat) : Int) ≤ 56) = decide (Ne.depth (v :: l) ≤ 56) := decide_eq_decide.2 (by omega)
    cases e : Sl.hasSign [33] (v :: l)
    · rw [e] at h1
      refine den_run rfl rfl Tryz.func109 rfl Tryz.ntmps109 ⟨by simp, by simp [LK]⟩ ?_
      simp only [go_sem, Nat.reduceLT, reduceCtorEq, Nat.reduceEqDiff, Nat.reduceBEq, Nat.reduceAdd, Nat.reduceMul, ev_len_sl ty_descOf_22, ev_buildSlice (len := 1) ty_descOf_123 ty_szOf_9 ty_zeroCells_9 ⟨rfl, by decide, by decide⟩, good_114, good_172, hr, encL_len, List.length_cons, d0, h1, h2, d1]
    · rw [e] at h1
      refine den_run rfl rfl Tryz.func109 rfl Tryz.ntmps109 ⟨by simp, by simp [LK]⟩ ?_
      simp only [go_sem, Nat.reduceLT, reduceCtorEq, Nat.reduceEqDiff, Nat.reduceBEq, Nat.reduceAdd, Nat.reduceMul, ev_len_sl ty_descOf_22, ev_buildSlice (len := 1) ty_descOf_123 ty_szOf_9 ty_zeroCells_9 ⟨rfl, by decide, by decide⟩, good_114, hr, encL_len, List.length_cons, d0, h1]
end Go.Abs
namespace Go.Abs
theorem cut_sizes (p : Val → Bool) : ∀ l : List Val, ∀ q ∈ Sl.cut p l, Ne.size q ≤ Ne.size l
  | [], q, hq => by
    rw [Sl.cut, List.mem_singleton] at hq
    subst hq; exact Nat.le_refl _
  | v :: l, q, hq => by
    rw [Ne.size]
    cases h : p v with
    | true =>
      rw [Sl.cut_yes h] at hq
      rcases List.mem_cons.1 hq with rfl | hq
      · rw [Ne.size]; omega
      · have := cut_sizes p l q hq
        omega
    | false =>
      obtain ⟨r, rs, e⟩ := Sl.cut_ne p l
      rw [Sl.cut_no h e] at hq
      rcases List.mem_cons.1 hq with rfl | hq
      · have := cut_sizes p l r (by rw [e]; simp)
        rw [Ne.size]; omega
      · have := cut_sizes p l q (by rw [e]; simp [hq])
        omega
theorem size_app : ∀ a b : List Val, Ne.size (a ++ b) = Ne.size a + Ne.size b
  | [], b => by rw [List.nil_append, Ne.size]; omega
  | v :: a, b => by rw [List.cons_append, Ne.size, Ne.size, size_app a b]; omega
theorem size_filter (p : Val → Bool) : ∀ l : List Val, Ne.size (l.filter p) ≤ Ne.size l
  | [] => Nat.le_refl _
  | v :: l => by
    have := size_filter p l
    rw [List.filter_cons]
    split
    · rw [Ne.size, Ne.size]; omega
    · rw [Ne.size]; omega
theorem size_dropWhile (p : Val → Bool) : ∀ l : List Val, Ne.size (l.dropWhile p) ≤ Ne.size l
  | [] => Nat.le_refl _
  | v :: l => by
    have := size_dropWhile p l
    rw [List.dropWhile_cons]
    split
    · rw [Ne.size]; omega
    · exact Nat.le_refl _
theorem size_rev : ∀ l : List Val, Ne.size l.reverse = Ne.size l
  | [] => rfl
  | v :: l => by rw [List.reverse_cons, size_app, size_rev l, Ne.size, Ne.size, Ne.size]; omega
theorem size_trim (l : List Val) : Ne.size (Sl.trim l) ≤ Ne.size l := by
  unfold Sl.trim
  rw [size_rev]
  refine Nat.le_trans (size_dropWhile _ _) ?_
  rw [size_rev]
  exact size_dropWhile _ _
end Go.Abs
namespace Go.Abs
open Go Go.Proofs
theorem at_sizes (s : List UInt8) (l : List Val) : ∀ q ∈ Sl.at_ s l, Ne.size q ≤ Ne.size l := by
  rw [← cut_at]; exact cut_sizes _ l
theorem at_length (s : List UInt8) (l : List Val) : (Sl.at_ s l).length ≤ l.length + 1 := by
  rw [← cut_at]; exact Sl.cut_length _ l
end Go.Abs
namespace Go.Abs
open Go Go.Proofs
set_option maxRecDepth 10000
attribute [local go_sem] exL_seq exL_region exL_cond exL_block exL_scope exL_ret exL_skip exL_exit runRegion runOps stepOp guardA absOp takeOver opd avOf cvOf St.degAt St.put okPV okVal okAV absBin intBin strBin boolBin setBoxes if_true Bool.false_eq_true if_false Option.map_some Option.map_none Option.bind_some Option.bind_none thenO outOf upd List.toList_toArray isOwn steal appArgs mvB inApps AV.deg CV.deg AV.gv AV.isIter absNext some_bne some_beqN List.length_nil List.length_cons List.filterMap_cons List.filterMap_nil beq_iff_eq List.getElem?_cons_zero List.getElem?_cons_succ Option.getD_some K_hook hookB Bool.false_and Bool.and_false Bool.and_self K_P K_own absCall doCall getBoxes lend back idx dedup AV.ren CV.ren TV.ren AV.ptrs CV.ptrs zipBox AV.flat CV.flat absLoad absStore cellsOfAV setAt newBox markB bldTypes absFieldAddr absField absExtract absAssert noAssert absMkIface ifcOf CV.pv? content pushHead ownT fillCells reps pvs chunks enterSt leave resOf resVars resVar outBoxes lentOnly TV.deg TV.av LK CV.plain CV.noBld nilBin absUn bound List.map_cons List.map_nil List.all_cons List.all_nil List.any_cons List.any_nil List.contains_cons List.contains_nil List.elem_cons List.elem_nil List.cons_append List.nil_append List.append_nil List.flatMap_cons List.flatMap_nil List.zip_cons_cons List.zip_nil_left List.zip_nil_right List.take_succ_cons List.take_zero List.take_nil List.drop_succ_cons List.drop_zero List.drop_nil List.isEmpty_nil List.isEmpty_cons Bool.and_true Bool.true_and Bool.or_true Bool.true_or Bool.or_false Bool.false_or Bool.not_true Bool.not_false Nat.add_zero Nat.zero_add Option.isNone_none Option.isNone_some Option.getD_none true_and and_true not_true_eq_false not_false_eq_true decide_true decide_false Nat.le_refl and_self Bool.not_eq_true Nat.sub_self or_true true_or Option.some.injEq List.length_map List.nil_eq and_false false_and AV.live CV.live CV.liveIn K_keep firstReg Option.orElse_some Option.orElse_none head keepSlots keepBoxes Int.lt_irrefl List.length_append ite_self memOK logOps opKey lentBoxes Key.clash Key.sees Key.writes Nat.lt_irrefl gt_iff_lt nobox_at bot_at false_or or_false beq_self_eq_true Bool.true_beq Bool.false_beq
theorem strong_pre {l y : List Val} (h : Sl.strong l = some y) : ∃ q, l = y ++ q := by
  unfold Sl.strong at h
  cases hl : l.reverse with
  | nil => rw [hl] at h; cases h
  | cons v r =>
    rw [hl, Sl.strongR] at h
    split at h
    case isFalse => cases h
    split at h
    case h_2 => cases h
    rename_i w r2 hr
    split at h
    case isFalse => cases h
    cases h
    obtain ⟨pre, hp⟩ := List.dropWhile_suffix Sl.isBlank (l := r)
    obtain ⟨pre2, hp2⟩ := List.dropWhile_suffix Sl.isBlank (l := r2)
    have := congrArg List.reverse hl
    rw [List.reverse_reverse, ← hp, hr, ← hp2] at this
    exact ⟨pre2.reverse ++ ([w] ++ (pre.reverse ++ [v])), by rw [this]; simp⟩
theorem declOf_size (n : List UInt8) (b : List Val) : Ne.size (Sl.declOf n b).l ≤ Ne.size b := by
  unfold Sl.declOf
  cases h : Sl.strong b with
  | none => exact Nat.le_refl _
  | some y =>
    obtain ⟨q, e⟩ := strong_pre h
    show Ne.size y ≤ _
    rw [e, size_app]
    omega
theorem trim_of_rev {l : List Val} (h : Sl.Fr l.reverse) : Sl.trim l = l.dropWhile Sl.isBlank := by
  obtain ⟨p, hp⟩ := List.dropWhile_suffix Sl.isBlank (l := l)
  have h2 := Sl.fr_suffix h hp.symm
  unfold Sl.trim
  rw [h2.drop, List.reverse_reverse]
abbrev dclCv (d : Dcl) : List CV := [.pv (.str d.name), .pv (.sl (encL d.l)), .pv (.bool d.imp)]
def ReadOut (o : Option Dcl) (r : Option Res) : Prop := match o with
  | some d => r = some (.ret (.tup [.agg (dclCv d), .c (.pv (.bool true))]) [])
  | none => r = some (.ret (.tup [.agg [.pv (.str []), .nils, .pv (.bool false)], .c (.pv (.bool false))]) []) ∨ ∃ d : Dcl, r = some (.ret (.tup [.agg (dclCv d), .c (.pv (.bool false))]) [])
set_option maxHeartbeats 8000000 in
theorem readD_den (l : List Val) (hs : Ne.size l ≤ 1000000) (ht : TxtOk l) : ReadOut (Sl.readD l) (den K 53 [L (encL l)] []) := by
  have hr : Tryz.f53.results = #[.cell 2 44, .tmp 3] := rfl
  have hll := Ne.length_size l
  have hT := TrimS_den l (by omega)
  have htl := Sl.trim_length l
  unfold Sl.readD
  cases e0 : Sl.trim l with
  | nil =>
    rw [e0] at hT
    have q0 : (((0 : Nat) : Int) == 0) = true := rfl
    refine .inl ?_
    refine den_run rfl rfl Tryz.func53 rfl Tryz.ntmps53 ⟨by simp, by simp [LK]⟩ ?_
    simp only [go_sem, Nat.reduceLT, reduceCtorEq, Nat.reduceEqDiff, Nat.reduceBEq, Nat.reduceAdd, Nat.reduceSub, Nat.reduceLeDiff, ty_shapeT_44, ty_zeroCells_44, good_104, ev_len_sl ty_descOf_22, ev_build ty_zeroCells_44 ty_placesOf_44, ty_szOf_44, hr, hT, encL_len, List.length_nil, q0]
  | cons v r =>
    rw [e0] at hT htl
    rw [List.length_cons] at htl
    obtain ⟨k, t, c⟩ := v
    have hm : ∀ w ∈ (.mk k t c :: r : List Val), w ∈ l := fun w hw => Sl.mem_trimR (by rw [e0]; exact hw)
    have hn0 : (((r.length + 1 : Nat) : Int) == 0) = false := by rw [beq_eq_false_iff_ne]; omega
    have hget := head_val k t c r
    have hd := namedD_den k t c
    simp only
    cases e1 : Sl.isNamed (.mk k t c)
    · rw [e1] at hd
      refine .inl ?_
      refine den_run rfl rfl Tryz.func53 rfl Tryz.ntmps53 ⟨by simp, by simp [LK]⟩ ?_
      simp only [go_sem, Nat.reduceLT, reduceCtorEq, Nat.reduceEqDiff, Nat.reduceBEq, Nat.reduceAdd, Nat.reduceSub, Nat.reduceLeDiff, ty_shapeT_44, ty_zeroCells_44, good_104, ev_len_sl ty_descOf_22, ev_indexAddr ty_descOf_22, ty_szOf_49, ty_shapeT_49, good_105, ev_build ty_zeroCells_44 ty_placesOf_44, ty_szOf_44, hr, hT, encL_len, List.length_cons, hn0, le00, hget, hd]
    rw [e1] at hd
    rw [if_pos rfl]
    have hp := proper_den t.text (ht (.mk k t c) (hm _ (by simp)) e1)
    have hcut := cut_head (.mk k t c) r (r.length + 1) rfl
    have hb1 : ((0 : Int) ≤ 1 ∧ (1 : Int) ≤ ((r.length + 1 : Nat) : Int)) = True := by rw [eq_iff_iff]; simp; omega
    have hlv := lens_valsK (.mk k t c :: r)
    have hT1 := TrimS_den r (by omega)
    have hfr : Sl.Fr r.reverse := Sl.fr_suffix (p := [.mk k t c]) (l := Sl.trim l) (Sl.fr_trim_rev l) e0
    have htr := trim_of_rev hfr
    have htl1 := Sl.trim_length r
    rw [← htr]
    cases e2 : Sl.trim r with
    | nil =>
      rw [e2] at hT1
      have q0 : (((0 : Nat) : Int) == 0) = true := rfl
      refine .inl ?_
      refine den_run rfl rfl Tryz.func53 rfl Tryz.ntmps53 ⟨by simp, by simp [LK]⟩ ?_
      simp only [go_sem, Nat.reduceLT, reduceCtorEq, Nat.reduceEqDiff, Nat.reduceBEq, Nat.reduceAdd, Nat.reduceSub, Nat.reduceLeDiff, ty_shapeT_44, ty_zeroCells_44, good_104, ev_len_sl ty_descOf_22, ev_indexAddr ty_descOf_22, ty_szOf_49, ty_shapeT_49, good_105, ev_build ty_zeroCells_44 ty_placesOf_44, ty_szOf_44, ty_fieldOff_49_1, ty_szOf_47, ty_fieldOff_47_1, ty_szOf_9, ty_shapeT_9, good_106, ev_slice_sl ty_descOf_22 ty_szOf_49, hr, hT, encL_len, List.length_cons, hn0, le00, hget, hd, hp, hcut, hb1, hlv, hT1, List.length_nil, q0]
    | cons w r2 =>
      rw [e2] at hT1 htl1
      rw [List.length_cons] at htl1
      obtain ⟨k2, t2, c2⟩ := w
      have hn2 : (((r2.length + 1 : Nat) : Int) == 0) = false := by rw [beq_eq_false_iff_ne]; omega
      have hget2 := head_val k2 t2 c2 r2
      have hsg := signD_den [58]
      have his := isD_den k2 t2 c2 [58]
      simp only
      cases e3 : Sl.isSign [58] (.mk k2 t2 c2)
      · rw [e3] at his
        refine .inl ?_
        refine den_run rfl rfl Tryz.func53 rfl Tryz.ntmps53 ⟨by simp, by simp [LK]⟩ ?_
        simp only [go_sem, Nat.reduceLT, reduceCtorEq, Nat.reduceEqDiff, Nat.reduceBEq, Nat.reduceAdd, Nat.reduceSub, Nat.reduceLeDiff, ty_shapeT_44, ty_zeroCells_44, good_104, ev_len_sl ty_descOf_22, ev_indexAddr ty_descOf_22, ty_szOf_49, ty_shapeT_49, good_105, ev_build ty_zeroCells_44 ty_placesOf_44, ty_szOf_44, ty_fieldOff_49_1, ty_szOf_47, ty_fieldOff_47_1, ty_szOf_9, ty_shapeT_9, good_106, ev_slice_sl ty_descOf_22 ty_szOf_49, good_57, good_107, hr, hT, encL_len, List.length_cons, hn0, le00, hget, hd, hp, hcut, hb1, hlv, hT1, hn2, hget2, hsg, his]
      rw [e3] at his
      rw [if_pos rfl]
      have hcut2 := cut_head (.mk k2 t2 c2) r2 (r2.length + 1) rfl
      have hb2 : ((0 : Int) ≤ 1 ∧ (1 : Int) ≤ ((r2.length + 1 : Nat) : Int)) = True := by rw [eq_iff_iff]; simp; omega
      have hlv2 := lens_valsK (.mk k2 t2 c2 :: r2)
      have hT2 := TrimS_den r2 (by omega)
      have htl2 := Sl.trim_length r2
      have hm2 : ∀ x ∈ Sl.trim r2, x ∈ l := fun x hx => hm x (by
        have h1 := Sl.mem_trimR hx
        have h2 : x ∈ Sl.trim r := by rw [e2]; simp [h1]
        simp [Sl.mem_trimR h2])
      have hst := strong_den (Sl.trim r2) (by omega) (ht.sub hm2)
      unfold strA at hst
      rw [Sl.strongP_eq (Sl.fr_trim r2)] at hst
      have z0 := size_trim l
      have z1 := size_trim r
      have z2 := size_trim r2
      rw [e0, Ne.size] at z0
      rw [e2, Ne.size] at z1
      have z3 := declOf_size t.text (Sl.trim r2)
      have hf := fits_den (Sl.declOf t.text (Sl.trim r2)).l (by omega)
      have e5 : Sl.nameT (.mk k t c) = t.text := rfl
      rw [e5]
      cases e4 : Sl.strong (Sl.trim r2) with
      | none =>
        have e6 : Sl.declOf t.text (Sl.trim r2) = ⟨Sl.proper t.text, Sl.trim r2, false⟩ := by unfold Sl.declOf; rw [e4]
        rw [e4] at hst
        rw [e6] at hf ⊢
        cases e7 : Sl.fits (Sl.trim r2)
        · rw [e7] at hf
          refine .inr ⟨⟨Sl.proper t.text, Sl.trim r2, false⟩, ?_⟩
          refine den_run rfl rfl Tryz.func53 rfl Tryz.ntmps53 ⟨by simp, by simp [LK]⟩ ?_
          simp only [go_sem, Nat.reduceLT, reduceCtorEq, Nat.reduceEqDiff, Nat.reduceBEq, Nat.reduceAdd, Nat.reduceSub, Nat.reduceLeDiff, ty_shapeT_44, ty_zeroCells_44, good_104, ev_len_sl ty_descOf_22, ev_indexAddr ty_descOf_22, ty_szOf_49, ty_shapeT_49, good_105, ev_build ty_zeroCells_44 ty_placesOf_44, ty_szOf_44, ty_fieldOff_49_1, ty_szOf_47, ty_fieldOff_47_1, ty_szOf_9, ty_shapeT_9, good_106, ev_slice_sl ty_descOf_22 ty_szOf_49, good_57, good_107, good_108, ty_fieldOff_44_1, ty_szOf_22, ty_fieldOff_44_2, ty_szOf_4, ty_shapeT_22, good_109, hr, hT, encL_len, List.length_cons, hn0, le00, hget, hd, hp, hcut, hb1, hlv, hT1, hn2, hget2, hsg, his, hcut2, hb2, hlv2, hT2, hst, hf, TV.flat]
        · rw [e7] at hf
          show den K 53 [L (encL l)] [] = some (.ret (.tup [.agg (dclCv ⟨Sl.proper t.text, Sl.trim r2, false⟩), .c (.pv (.bool true))]) [])
          refine den_run rfl rfl Tryz.func53 rfl Tryz.ntmps53 ⟨by simp, by simp [LK]⟩ ?_
          simp only [go_sem, Nat.reduceLT, reduceCtorEq, Nat.reduceEqDiff, Nat.reduceBEq, Nat.reduceAdd, Nat.reduceSub, Nat.reduceLeDiff, ty_shapeT_44, ty_zeroCells_44, good_104, ev_len_sl ty_descOf_22, ev_indexAddr ty_descOf_22, ty_szOf_49, ty_shapeT_49, good_105, ev_build ty_zeroCells_44 ty_placesOf_44, ty_szOf_44, ty_fieldOff_49_1, ty_szOf_47, ty_fieldOff_47_1, ty_szOf_9, ty_shapeT_9, good_106, ev_slice_sl ty_descOf_22 ty_szOf_49, good_57, good_107, good_108, ty_fieldOff_44_1, ty_szOf_22, ty_fieldOff_44_2, ty_szOf_4, ty_shapeT_22, good_109, hr, hT, encL_len, List.length_cons, hn0, le00, hget, hd, hp, hcut, hb1, hlv, hT1, hn2, hget2, hsg, his, hcut2, hb2, hlv2, hT2, hst, hf, TV.flat]
      | some y =>
        have e6 : Sl.declOf t.text (Sl.trim r2) = ⟨Sl.proper t.text, y, true⟩ := by unfold Sl.declOf; rw [e4]
        rw [e4] at hst
        rw [e6] at hf ⊢
        cases e7 : Sl.fits y
        · rw [e7] at hf
          refine .inr ⟨⟨Sl.proper t.text, y, true⟩, ?_⟩
          refine den_run rfl rfl Tryz.func53 rfl Tryz.ntmps53 ⟨by simp, by simp [LK]⟩ ?_
          simp only [go_sem, Nat.reduceLT, reduceCtorEq, Nat.reduceEqDiff, Nat.reduceBEq, Nat.reduceAdd, Nat.reduceSub, Nat.reduceLeDiff, ty_shapeT_44, ty_zeroCells_44, good_104, ev_len_sl ty_descOf_22, ev_indexAddr ty_descOf_22, ty_szOf_49, ty_shapeT_49, good_105, ev_build ty_zeroCells_44 ty_placesOf_44, ty_szOf_44, ty_fieldOff_49_1, ty_szOf_47, ty_fieldOff_47_1, ty_szOf_9, ty_shapeT_9, good_106, ev_slice_sl ty_descOf_22 ty_szOf_49, good_57, good_107, good_108, ty_fieldOff_44_1, ty_szOf_22, ty_fieldOff_44_2, ty_szOf_4, ty_shapeT_22, good_109, hr, hT, encL_len, List.length_cons, hn0, le00, hget, hd, hp, hcut, hb1, hlv, hT1, hn2, hget2, hsg, his, hcut2, hb2, hlv2, hT2, hst, hf, TV.flat]
        · rw [e7] at hf
          show den K 53 [L (encL l)] [] = some (.ret (.tup [.agg (dclCv ⟨Sl.proper t.text, y, true⟩), .c (.pv (.bool true))]) [])
          refine den_run rfl rfl Tryz.func53 rfl Tryz.ntmps53 ⟨by simp, by simp [LK]⟩ ?_
          simp only [go_sem, Nat.reduceLT, reduceCtorEq, Nat.reduceEqDiff, Nat.reduceBEq, Nat.reduceAdd, Nat.reduceSub, Nat.reduceLeDiff, ty_shapeT_44, ty_zeroCells_44, good_104, ev_len_sl ty_descOf_22, ev_indexAddr ty_descOf_22, ty_szOf_49, ty_shapeT_49, good_105, ev_build ty_zeroCells_44 ty_placesOf_44, ty_szOf_44, ty_fieldOff_49_1, ty_szOf_47, ty_fieldOff_47_1, ty_szOf_9, ty_shapeT_9, good_106, ev_slice_sl ty_descOf_22 ty_szOf_49, good_57, good_107, good_108, ty_fieldOff_44_1, ty_szOf_22, ty_fieldOff_44_2, ty_szOf_4, ty_shapeT_22, good_109, hr, hT, encL_len, List.length_cons, hn0, le00, hget, hd, hp, hcut, hb1, hlv, hT1, hn2, hget2, hsg, his, hcut2, hb2, hlv2, hT2, hst, hf, TV.flat]
abbrev dpH (ps : List (List Val)) (e : Nat) (out : List Dcl) (i : Nat) : St :=
  { sl := upd (upd (upd (upd bot 11 (I i)) 10 (I ps.length)) 9 (L (encP ps))) 3 (.c (.own e (encD out))), bx := nobox, nt := 27 }
noncomputable def dplp : Code := .loop (loopAt Tryz.f19 3)
theorem dp_step (ps : List (List Val)) (e : Nat) (out : List Dcl) (p : List Val) (i : Nat) (hi : ps[i]? = some p) (hl : ps.length ≤ 100000000) (ho : out.length ≤ i) (he : e = 44 ∨ out = []) (hs : Ne.size p ≤ 1000000) (ht : TxtOk p) :
    ∃ e', (e' = 44 ∨ out ++ (Sl.readD p).toList = []) ∧ exL K 19 dplp (dpH ps e out i) = exL K 19 dplp (dpH ps e' (out ++ (Sl.readD p).toList) (i + 1)) := by
  have hil : i < ps.length := (List.getElem?_eq_some_iff.1 hi).1
  have hlt : decide ((i : Int) < (ps.length : Int)) = true := decide_eq_true (by omega)
  have hget := part_at ps i p hi
  have hws : IntKind.i64.wrap ((i : Int) + 1) = ((i + 1 : Nat) : Int) := wrap_nat i (by omega)
  have hown : e = 44 ∨ (encD out).isEmpty = true := by
    rcases he with rfl | rfl
    · exact .inl rfl
    · exact .inr rfl
  have hlim : out.length + 1 < appLim := by unfold appLim; omega
  have hlv := lens_dcl out
  have hrd := readD_den p hs ht
  unfold dplp
  conv in loopAt _ _ => whnf
  conv in loopAt _ _ => whnf
  cases hq : Sl.readD p with
  | some d =>
    rw [hq] at hrd
    have hrd : den K 53 [L (encL p)] [] = some (.ret (.tup [.agg (dclCv d), .c (.pv (.bool true))]) []) := hrd
    refine ⟨44, .inl rfl, ?_⟩
    conv in exL _ _ _ (dpH ps e out i) => rw [exL_loop]
    simp only [go_sem, Nat.reduceLT, reduceCtorEq, Nat.reduceEqDiff, Nat.reduceBEq, Nat.reduceAdd, Nat.reduceMul, ev_indexAddr ty_descOf_41, ty_szOf_22, ty_shapeT_22, good_53, ty_zeroCells_44, ty_szOf_44, ty_shapeT_44, ev_buildSlice (len := 1) ty_descOf_23 ty_szOf_44 ty_zeroCells_44 ⟨rfl, by decide, by decide⟩, ev_append ty_appInfo_23, ev_appNew_sl ty_descOf_23, keep_19_3, hlt, hget, Int.natCast_nonneg, hws, hrd, hown, hlim, hlv, encD_len, snoc_dcl, lens_dcl1, Option.toList_some, TV.flat]
    rw [exL_head]
    simp only [go_sem, Nat.reduceEqDiff, keep_19_3]
  | none =>
    rw [hq] at hrd
    refine ⟨e, by simpa using he, ?_⟩
    rcases hrd with hrd | ⟨d, hrd⟩
    · conv in exL _ _ _ (dpH ps e out i) => rw [exL_loop]
      simp only [go_sem, Nat.reduceLT, reduceCtorEq, Nat.reduceEqDiff, Nat.reduceBEq, Nat.reduceAdd, Nat.reduceMul, ev_indexAddr ty_descOf_41, ty_szOf_22, ty_shapeT_22, good_53, ty_zeroCells_44, ty_szOf_44, ty_shapeT_44, ev_buildSlice (len := 1) ty_descOf_23 ty_szOf_44 ty_zeroCells_44 ⟨rfl, by decide, by decide⟩, ev_append ty_appInfo_23, ev_appNew_sl ty_descOf_23, keep_19_3, hlt, hget, Int.natCast_nonneg, hws, hrd, Option.toList_none, TV.flat]
      rw [exL_head]
      simp only [go_sem, Nat.reduceEqDiff, keep_19_3]
    · conv in exL _ _ _ (dpH ps e out i) => rw [exL_loop]
      simp only [go_sem, Nat.reduceLT, reduceCtorEq, Nat.reduceEqDiff, Nat.reduceBEq, Nat.reduceAdd, Nat.reduceMul, ev_indexAddr ty_descOf_41, ty_szOf_22, ty_shapeT_22, good_53, ty_zeroCells_44, ty_szOf_44, ty_shapeT_44, ev_buildSlice (len := 1) ty_descOf_23 ty_szOf_44 ty_zeroCells_44 ⟨rfl, by decide, by decide⟩, ev_append ty_appInfo_23, ev_appNew_sl ty_descOf_23, keep_19_3, hlt, hget, Int.natCast_nonneg, hws, hrd, Option.toList_none, TV.flat]
      rw [exL_head]
      simp only [go_sem, Nat.reduceEqDiff, keep_19_3]
theorem dp_loop (ps : List (List Val)) (hl : ps.length ≤ 100000000) (hs : ∀ p ∈ ps, Ne.size p ≤ 1000000 ∧ TxtOk p) : ∀ (rest : List (List Val)) (i e : Nat) (out : List Dcl), ps.drop i = rest → i ≤ ps.length → out.length ≤ i → (e = 44 ∨ out = []) →
    Ends (exL K 19 dplp (dpH ps e out i)) fun o S => o = .exit 0 ∧ S.nt = 27 ∧ ∃ f, S.sl 3 = .c (.own f (encD (out ++ rest.filterMap Sl.readD)))
  | [], i, e, out, hd, hi, ho, he => by
    have hin : i = ps.length := by
      have := List.drop_eq_nil_iff.1 hd
      omega
    subst hin
    have hlt : decide ((ps.length : Int) < (ps.length : Int)) = false := decide_eq_false (by omega)
    rw [List.filterMap_nil, List.append_nil]
    unfold dplp
    conv in loopAt _ _ => whnf
    rw [exL_loop]
    simp only [go_sem, Nat.reduceLT, Nat.reduceEqDiff, Nat.reduceBEq, keep_19_3, ends_some]
    exact ⟨e, rfl⟩
  | p :: rest, i, e, out, hd, hi, ho, he => by
    obtain ⟨g1, g2, g3⟩ := drop_cons hd
    obtain ⟨h1, h2⟩ := hs p (List.mem_of_getElem? g1)
    obtain ⟨e', he', hstep⟩ := dp_step ps e out p i g1 hl ho he h1 h2
    rw [hstep]
    have hol : (out ++ (Sl.readD p).toList).length ≤ i + 1 := by
      rw [List.length_append]
      cases Sl.readD p with
      | none => simp; omega
      | some d => simp; omega
    have := dp_loop ps hl hs rest (i + 1) e' _ g2 (by omega) hol he'
    refine ends_imp this fun o S q => ⟨q.1, q.2.1, ?_⟩
    obtain ⟨f, hf⟩ := q.2.2
    refine ⟨f, hf.trans ?_⟩
    rw [List.filterMap_cons, List.append_assoc]
    cases Sl.readD p with
    | none => rfl
    | some d => rfl
theorem ParseD_den (l : List Val) (hs : Ne.size l ≤ 1000000) (ht : TxtOk l) : den K 19 [L (encL l)] [] = some (.ret (L (encD (Sl.parseD l))) []) := by
  have ha := AtS_den l [59] (by omega)
  have hal := at_length [59] l
  have hls := Ne.length_size l
  have h := dp_loop (Sl.at_ [59] l) (by omega) (fun p hp => ⟨by have := at_sizes [59] l p hp; omega, ht.sub (Sl.at_free [59] l p hp).1⟩) (Sl.at_ [59] l) 0 0 [] rfl (Nat.zero_le _) (Nat.le_refl _) (.inr rfl)
  rw [List.nil_append] at h
  unfold dplp at h
  conv at h in loopAt _ _ => whnf
  obtain ⟨o, S, w, rfl, hn, f, s3⟩ := h
  have e0 : encD [] = [] := rfl
  have z0 : ((0 : Nat) : Int) = 0 := rfl
  simp only [dpH, e0, z0] at w
  refine den_run rfl rfl Tryz.func19 rfl Tryz.ntmps19 ⟨by simp, by simp [LK]⟩ ?_
  have hr : Tryz.f19.results = #[.tmp 2] := rfl
  simp only [go_sem, Nat.reduceLT, reduceCtorEq, Nat.reduceEqDiff, Nat.reduceBEq, Nat.reduceAdd, good_52, ev_len_sl ty_descOf_41, ha, encP_len]
  rw [exL_head]
  simp only [go_sem, Nat.reduceEqDiff, keep_19_3]
  erw [w]
  simp only [go_sem, Nat.reduceLT, Nat.reduceEqDiff, Nat.reduceBEq, Nat.reduceAdd, hr, hn, s3]
  rfl
end Go.Abs
namespace Go.Abs
open Go Go.Proofs
set_option maxRecDepth 10000
attribute [local go_sem] exL_seq exL_region exL_cond exL_block exL_scope exL_ret exL_skip exL_exit runRegion runOps stepOp guardA absOp takeOver opd avOf cvOf St.degAt St.put okPV okVal okAV absBin intBin strBin boolBin setBoxes if_true Bool.false_eq_true if_false Option.map_some Option.map_none Option.bind_some Option.bind_none thenO outOf upd List.toList_toArray isOwn steal appArgs mvB inApps AV.deg CV.deg AV.gv AV.isIter absNext some_bne some_beqN List.length_nil List.length_cons List.filterMap_cons List.filterMap_nil beq_iff_eq List.getElem?_cons_zero List.getElem?_cons_succ Option.getD_some K_hook hookB Bool.false_and Bool.and_false Bool.and_self K_P K_own absCall doCall getBoxes lend back idx dedup AV.ren CV.ren TV.ren AV.ptrs CV.ptrs zipBox AV.flat CV.flat absLoad absStore cellsOfAV setAt newBox markB bldTypes absFieldAddr absField absExtract absAssert noAssert absMkIface ifcOf CV.pv? content pushHead ownT fillCells reps pvs chunks enterSt leave resOf resVars resVar outBoxes lentOnly TV.deg TV.av LK CV.plain CV.noBld nilBin absUn bound List.map_cons List.map_nil List.all_cons List.all_nil List.any_cons List.any_nil List.contains_cons List.contains_nil List.elem_cons List.elem_nil List.cons_append List.nil_append List.append_nil List.flatMap_cons List.flatMap_nil List.zip_cons_cons List.zip_nil_left List.zip_nil_right List.take_succ_cons List.take_zero List.take_nil List.drop_succ_cons List.drop_zero List.drop_nil List.isEmpty_nil List.isEmpty_cons Bool.and_true Bool.true_and Bool.or_true Bool.true_or Bool.or_false Bool.false_or Bool.not_true Bool.not_false Nat.add_zero Nat.zero_add Option.isNone_none Option.isNone_some Option.getD_none true_and and_true not_true_eq_false not_false_eq_true decide_true decide_false Nat.le_refl and_self Bool.not_eq_true Nat.sub_self or_true true_or Option.some.injEq List.length_map List.nil_eq and_false false_and AV.live CV.live CV.liveIn K_keep firstReg Option.orElse_some Option.orElse_none head keepSlots keepBoxes Int.lt_irrefl List.length_append ite_self memOK logOps opKey lentBoxes Key.clash Key.sees Key.writes Nat.lt_irrefl gt_iff_lt nobox_at bot_at false_or or_false beq_self_eq_true Bool.true_beq Bool.false_beq
theorem Custom7_den (s : List UInt8) : den K 27 [T s] [] = some (.ret (B (Sl.customB s)) []) := by
  have hr : Tryz.f27.results = #[.tmp 2] := rfl
  have t0 : Int.toNat 0 = 0 := rfl
  have t1 : Int.toNat 1 = 1 := rfl
  have l0 : ((0 : Int) ≤ 0) = True := by simp
  have l1 : ((0 : Int) ≤ 1) = True := by simp
  match s with
  | [] =>
    have d : decide ((2 : Int) ≤ ((0 : Nat) : Int)) = false := rfl
    refine den_run rfl rfl Tryz.func27 rfl Tryz.ntmps27 ⟨by simp, by simp [LK]⟩ ?_
    simp only [go_sem, Nat.reduceLT, reduceCtorEq, Nat.reduceEqDiff, Nat.reduceBEq, Nat.reduceAdd, ev_len_str ty_descOf_9, hr, d]
    rfl
  | [a] =>
    have d : decide ((2 : Int) ≤ ((1 : Nat) : Int)) = false := rfl
    refine den_run rfl rfl Tryz.func27 rfl Tryz.ntmps27 ⟨by simp, by simp [LK]⟩ ?_
    simp only [go_sem, Nat.reduceLT, reduceCtorEq, Nat.reduceEqDiff, Nat.reduceBEq, Nat.reduceAdd, ev_len_str ty_descOf_9, hr, d]
    rfl
  | a :: b :: r =>
    have d : decide ((2 : Int) ≤ ((r.length + 1 + 1 : Nat) : Int)) = true := decide_eq_true (by omega)
    have e1 : (((a.toNat : Nat) : Int) == 45) = (a == 45) := u8_beq a 45
    have e2 : (((b.toNat : Nat) : Int) == 45) = (b == 45) := u8_beq b 45
    have hs : Sl.customB (a :: b :: r) = ((a == 45) && (b == 45)) := rfl
    rw [hs]
    cases h1 : (a == 45)
    · rw [h1] at e1
      refine den_run rfl rfl Tryz.func27 rfl Tryz.ntmps27 ⟨by simp, by simp [LK]⟩ ?_
      simp only [go_sem, Nat.reduceLT, reduceCtorEq, Nat.reduceEqDiff, Nat.reduceBEq, Nat.reduceAdd, ev_len_str ty_descOf_9, ev_index ty_descOf_9, hr, d, t0, l0, e1]
    · rw [h1] at e1
      refine den_run rfl rfl Tryz.func27 rfl Tryz.ntmps27 ⟨by simp, by simp [LK]⟩ ?_
      simp only [go_sem, Nat.reduceLT, reduceCtorEq, Nat.reduceEqDiff, Nat.reduceBEq, Nat.reduceAdd, ev_len_str ty_descOf_9, ev_index ty_descOf_9, hr, d, t0, t1, l0, l1, e1, e2]
theorem Proper7_den (s : List UInt8) (h : s.length < 1000000000) : den K 34 [T s] [] = some (.ret (T (Sl.proper s)) []) := by
  have hr : Tryz.f34.results = #[.tmp 2] := rfl
  have hc := Custom7_den s
  have hs := Low_den s h
  unfold Sl.proper
  cases e : Sl.customB s
  · rw [e] at hc
    refine den_run rfl rfl Tryz.func34 rfl Tryz.ntmps34 ⟨by simp, by simp [LK]⟩ ?_
    simp only [go_sem, Nat.reduceLT, reduceCtorEq, Nat.reduceEqDiff, Nat.reduceBEq, Nat.reduceAdd, good_27, good_76, hr, hc, hs]
  · rw [e] at hc
    refine den_run rfl rfl Tryz.func34 rfl Tryz.ntmps34 ⟨by simp, by simp [LK]⟩ ?_
    simp only [go_sem, Nat.reduceLT, reduceCtorEq, Nat.reduceEqDiff, Nat.reduceBEq, Nat.reduceAdd, good_27, hr, hc]
abbrev bfH (l : List Val) (n : Nat) : St := { sl := upd (upd bot 1 (I n)) 0 (L (encL l)), bx := nobox, nt := 18 }
noncomputable def bflp : Code := .loop (loopAt Tryz.f173 1)
theorem val_atN (l : List Val) (i : Nat) (k : Int) (t : Tok) (c : List Val) (h : l[i]? = some (.mk k t c)) : (encL l)[i]? = some [.int .i64 k, .int .i64 t.kind, .str t.text, .int .i64 t.n, .sl (encL c)] := encL_get l i _ h
theorem bf_loop (l : List Val) (hl : l.length ≤ 100000000) : ∀ n : Nat, n ≤ l.length →
    Ends (exL K 173 bflp (bfH l n)) fun o S => o = .exit 0 ∧ S.nt = 18 ∧ S.sl 1 = I (((l.take n).reverse.dropWhile Sl.isBlank).length : Nat)
  | 0, _ => by
    have hlt : decide ((0 : Int) < ((0 : Nat) : Int)) = false := rfl
    unfold bflp
    conv in loopAt _ _ => whnf
    rw [exL_loop]
    simp only [go_sem, Nat.reduceLT, reduceCtorEq, Nat.reduceEqDiff, Nat.reduceBEq, Nat.reduceAdd, keep_173_1, hlt, ends_some]
    rfl
  | n + 1, hn => by
    have hlt : decide ((0 : Int) < ((n + 1 : Nat) : Int)) = true := decide_eq_true (by omega)
    have hw : IntKind.i64.wrap (((n + 1 : Nat) : Int) - 1) = (n : Int) := by rw [IntWalk.i64_in _ (by omega)]; omega
    obtain ⟨v, hv⟩ : ∃ v, l[n]? = some v := ⟨l[n]'(by omega), by simp⟩
    obtain ⟨k, t, c⟩ := v
    have hget := val_atN l n k t c hv
    have hb := blank_den k t c
    have hrev : (l.take (n + 1)).reverse = .mk k t c :: (l.take n).reverse := by
      rw [List.take_add_one, hv]; simp
    rw [hrev, List.dropWhile_cons]
    have ih := bf_loop l hl n (by omega)
    unfold bflp at ih ⊢
    conv at ih in loopAt _ _ => whnf
    conv in loopAt _ _ => whnf
    rw [exL_loop]
    cases e : Sl.isBlank (.mk k t c)
    · rw [e] at hb
      have hlen : (l.take n).length = n := by rw [List.length_take]; omega
      simp only [go_sem, Nat.reduceLT, reduceCtorEq, Nat.reduceEqDiff, Nat.reduceBEq, Nat.reduceAdd, ev_indexAddr ty_descOf_22, ty_szOf_49, ty_shapeT_49, good_33, keep_173_1, hlt, hw, Int.natCast_nonneg, Int.toNat_natCast, hget, hb, ends_some, List.length_reverse, hlen]
    · rw [e] at hb
      simp only [go_sem, Nat.reduceLT, reduceCtorEq, Nat.reduceEqDiff, Nat.reduceBEq, Nat.reduceAdd, ev_indexAddr ty_descOf_22, ty_szOf_49, ty_shapeT_49, good_33, keep_173_1, hlt, hw, Int.natCast_nonneg, Int.toNat_natCast, hget, hb]
      rw [exL_head]
      simp only [go_sem, reduceCtorEq, Nat.reduceEqDiff, keep_173_1]
      exact ih
abbrev sg7H (l : List Val) (s : List UInt8) (i : Nat) : St := { sl := upd (upd (upd bot 5 (I i)) 1 (T s)) 0 (L (encL l)), bx := nobox, nt := 18 }
noncomputable def sg7lp : Code := .loop (loopAt Tryz.f64 2)
theorem sg7_loop (l : List Val) (s : List UInt8) (hl : l.length ≤ 100000000) : ∀ (rest : List Val) (i : Nat), l.drop i = rest → i ≤ l.length →
    Ends (exL K 64 sg7lp (sg7H l s i)) fun o S => if rest.any (Sl.isSign s) then o = .ret ∧ S.sl 4 = B true else o = .exit 0 ∧ S.nt = 18
  | [], i, hd, hi => by
    have hin : i = l.length := by
      have := List.drop_eq_nil_iff.1 hd
      omega
    subst hin
    have hlt : decide ((l.length : Int) < (l.length : Int)) = false := decide_eq_false (by omega)
    unfold sg7lp
    conv in loopAt _ _ => whnf
    rw [exL_loop]
    simp only [go_sem, Nat.reduceLT, reduceCtorEq, Nat.reduceEqDiff, Nat.reduceBEq, Nat.reduceAdd, ev_len_sl ty_descOf_22, keep_64_2, encL_len, ends_some]
  | .mk k t c :: rest, i, hd, hi => by
    obtain ⟨g1, g2, g3⟩ := drop_cons hd
    have hlt : decide ((i : Int) < (l.length : Int)) = true := decide_eq_true (by omega)
    have hget := val_at l i k t c g1
    have hws : IntKind.i64.wrap ((i : Int) + 1) = ((i + 1 : Nat) : Int) := wrap_nat i (by omega)
    have his := sign3_den k t c s
    have ih := sg7_loop l s hl rest (i + 1) g2 (by omega)
    unfold sg7lp at ih ⊢
    conv at ih in loopAt _ _ => whnf
    conv in loopAt _ _ => whnf
    rw [exL_loop, List.any_cons]
    cases e : Sl.isSign s (.mk k t c)
    · rw [e] at his
      simp only [go_sem, Nat.reduceLT, reduceCtorEq, Nat.reduceEqDiff, Nat.reduceBEq, Nat.reduceAdd, ev_len_sl ty_descOf_22, ev_indexAddr ty_descOf_22, ty_szOf_49, ty_shapeT_49, good_35, keep_64_2, encL_len, hlt, hget, Int.natCast_nonneg, hws, his]
      rw [exL_head]
      simp only [go_sem, reduceCtorEq, Nat.reduceEqDiff, keep_64_2]
      exact ih
    · rw [e] at his
      simp only [go_sem, Nat.reduceLT, reduceCtorEq, Nat.reduceEqDiff, Nat.reduceBEq, Nat.reduceAdd, ev_len_sl ty_descOf_22, ev_indexAddr ty_descOf_22, ty_szOf_49, ty_shapeT_49, good_35, keep_64_2, encL_len, hlt, hget, Int.natCast_nonneg, his, ends_some]
theorem signs7_den (l : List Val) (s : List UInt8) (hl : l.length ≤ 100000000) : den K 64 [L (encL l), T s] [] = some (.ret (B (Sl.hasSign s l)) []) := by
  have h := sg7_loop l s hl l 0 rfl (Nat.zero_le _)
  unfold sg7lp at h
  conv at h in loopAt _ _ => whnf
  obtain ⟨o, S, w, hq⟩ := h
  have z0 : ((0 : Nat) : Int) = 0 := rfl
  simp only [sg7H, z0] at w
  have hr : Tryz.f64.results = #[.tmp 4] := rfl
  unfold Sl.hasSign
  refine den_run rfl rfl Tryz.func64 rfl Tryz.ntmps64 ⟨by simp, by simp [LK]⟩ ?_
  simp only [go_sem, Nat.reduceLT, Nat.reduceBEq]
  rw [exL_head]
  simp only [go_sem, reduceCtorEq, Nat.reduceEqDiff, keep_64_2]
  erw [w]
  cases e : l.any (Sl.isSign s)
  · rw [e] at hq
    obtain ⟨rfl, hn⟩ := hq
    simp only [go_sem, Nat.reduceLT, Nat.reduceBEq, hr, hn]
  · rw [e] at hq
    obtain ⟨rfl, h4⟩ := hq
    simp only [go_sem, hr, h4]
end Go.Abs
namespace Go.Abs
open Go Go.Proofs
set_option maxRecDepth 10000
attribute [local go_sem] exL_seq exL_region exL_cond exL_block exL_scope exL_ret exL_skip exL_exit runRegion runOps stepOp guardA absOp takeOver opd avOf cvOf St.degAt St.put okPV okVal okAV absBin intBin strBin boolBin setBoxes if_true Bool.false_eq_true if_false Option.map_some Option.map_none Option.bind_some Option.bind_none thenO outOf upd List.toList_toArray isOwn steal appArgs mvB inApps AV.deg CV.deg AV.gv AV.isIter absNext some_bne some_beqN List.length_nil List.length_cons List.filterMap_cons List.filterMap_nil beq_iff_eq List.getElem?_cons_zero List.getElem?_cons_succ Option.getD_some K_hook hookB Bool.false_and Bool.and_false Bool.and_self K_P K_own absCall doCall getBoxes lend back idx dedup AV.ren CV.ren TV.ren AV.ptrs CV.ptrs zipBox AV.flat CV.flat absLoad absStore cellsOfAV setAt newBox markB bldTypes absFieldAddr absField absExtract absAssert noAssert absMkIface ifcOf CV.pv? content pushHead ownT fillCells reps pvs chunks enterSt leave resOf resVars resVar outBoxes lentOnly TV.deg TV.av LK CV.plain CV.noBld nilBin absUn bound List.map_cons List.map_nil List.all_cons List.all_nil List.any_cons List.any_nil List.contains_cons List.contains_nil List.elem_cons List.elem_nil List.cons_append List.nil_append List.append_nil List.flatMap_cons List.flatMap_nil List.zip_cons_cons List.zip_nil_left List.zip_nil_right List.take_succ_cons List.take_zero List.take_nil List.drop_succ_cons List.drop_zero List.drop_nil List.isEmpty_nil List.isEmpty_cons Bool.and_true Bool.true_and Bool.or_true Bool.true_or Bool.or_false Bool.false_or Bool.not_true Bool.not_false Nat.add_zero Nat.zero_add Option.isNone_none Option.isNone_some Option.getD_none true_and and_true not_true_eq_false not_false_eq_true decide_true decide_false Nat.le_refl and_self Bool.not_eq_true Nat.sub_self or_true true_or Option.some.injEq List.length_map List.nil_eq and_false false_and AV.live CV.live CV.liveIn K_keep firstReg Option.orElse_some Option.orElse_none head keepSlots keepBoxes Int.lt_irrefl List.length_append ite_self memOK logOps opKey lentBoxes Key.clash Key.sees Key.writes Nat.lt_irrefl gt_iff_lt nobox_at bot_at false_or or_false beq_self_eq_true Bool.true_beq Bool.false_beq
theorem cut_to (y q : List Val) : ((encL (y ++ q)).take y.length).drop 0 = encL y := by
  rw [List.drop_zero, encL_app, List.take_append_of_le_length (by rw [encL_len]; exact Nat.le_refl _), List.take_of_length_le (by rw [encL_len]; exact Nat.le_refl _)]
end Go.Abs
namespace Go.Abs
open Go Go.Proofs
set_option maxRecDepth 10000
attribute [local go_sem] exL_seq exL_region exL_cond exL_block exL_scope exL_ret exL_skip exL_exit runRegion runOps stepOp guardA absOp takeOver opd avOf cvOf St.degAt St.put okPV okVal okAV absBin intBin strBin boolBin setBoxes if_true Bool.false_eq_true if_false Option.map_some Option.map_none Option.bind_some Option.bind_none thenO outOf upd List.toList_toArray isOwn steal appArgs mvB inApps AV.deg CV.deg AV.gv AV.isIter absNext some_bne some_beqN List.length_nil List.length_cons List.filterMap_cons List.filterMap_nil beq_iff_eq List.getElem?_cons_zero List.getElem?_cons_succ Option.getD_some K_hook hookB Bool.false_and Bool.and_false Bool.and_self K_P K_own absCall doCall getBoxes lend back idx dedup AV.ren CV.ren TV.ren AV.ptrs CV.ptrs zipBox AV.flat CV.flat absLoad absStore cellsOfAV setAt newBox markB bldTypes absFieldAddr absField absExtract absAssert noAssert absMkIface ifcOf CV.pv? content pushHead ownT fillCells reps pvs chunks enterSt leave resOf resVars resVar outBoxes lentOnly TV.deg TV.av LK CV.plain CV.noBld nilBin absUn bound List.map_cons List.map_nil List.all_cons List.all_nil List.any_cons List.any_nil List.contains_cons List.contains_nil List.elem_cons List.elem_nil List.cons_append List.nil_append List.append_nil List.flatMap_cons List.flatMap_nil List.zip_cons_cons List.zip_nil_left List.zip_nil_right List.take_succ_cons List.take_zero List.take_nil List.drop_succ_cons List.drop_zero List.drop_nil List.isEmpty_nil List.isEmpty_cons Bool.and_true Bool.true_and Bool.or_true Bool.true_or Bool.or_false Bool.false_or Bool.not_true Bool.not_false Nat.add_zero Nat.zero_add Option.isNone_none Option.isNone_some Option.getD_none true_and and_true not_true_eq_false not_false_eq_true decide_true decide_false Nat.le_refl and_self Bool.not_eq_true Nat.sub_self or_true true_or Option.some.injEq List.length_map List.nil_eq and_false false_and AV.live CV.live CV.liveIn K_keep firstReg Option.orElse_some Option.orElse_none head keepSlots keepBoxes Int.lt_irrefl List.length_append ite_self memOK logOps opKey lentBoxes Key.clash Key.sees Key.writes Nat.lt_irrefl gt_iff_lt nobox_at bot_at false_or or_false beq_self_eq_true Bool.true_beq Bool.false_beq
abbrev eqdH (g : Nat) (a b : List Dcl) (i : Nat) : St :=
  { sl := upd (upd (upd (upd (upd bot 17 (I i)) 16 (I a.length)) 15 (L (encD a))) 2 (FV g)) 1 (L (encD b)), bx := upd nobox 100000 none, nt := 32 }
theorem eqd_loop {g : Nat} (hg : K.good g = true) (ho : K.ownRet g = false) {q : Dcl → Dcl → Bool} (a b : List Dcl) (hab : a.length = b.length) (ha : a.length ≤ 1000000)
    (hin : ∀ x ∈ a, ∀ y ∈ b, den K g [.agg [.pv (.str x.name), .pv (.sl (encL x.l)), .pv (.bool x.imp)], .agg [.pv (.str y.name), .pv (.sl (encL y.l)), .pv (.bool y.imp)]] [] = some (.ret (B (q x y)) [])) : ∀ (ra rb : List Dcl) (i : Nat), a.drop i = ra → b.drop i = rb → i ≤ a.length →
    Ends (exL K 68 (.loop (loopAt Tryz.f68 4)) (eqdH g a b i)) fun o S => (eqB q ra rb = true ∧ o = .exit 0 ∧ S.nt = 32) ∨ (eqB q ra rb = false ∧ o = .ret ∧ S.sl 6 = B false)
  | [], rb, i, hda, hdb, hi => by
    have hin : i = a.length := by
      have := List.drop_eq_nil_iff.1 hda
      omega
    obtain rfl : rb = [] := by rw [← hdb, hin, hab, List.drop_length]
    subst hin
    conv in loopAt _ _ => whnf
    rw [exL_loop]
    simp only [go_sem, Nat.reduceLT, reduceCtorEq, Nat.reduceEqDiff, Nat.reduceBEq, keep_68_4, ends_some, eqB]
  | x :: ra, rb, i, hda, hdb, hi => by
    obtain ⟨g1, g2, g3⟩ := drop_cons hda
    cases rb with
    | nil =>
      have := List.drop_eq_nil_iff.1 hdb
      omega
    | cons y rb =>
      obtain ⟨k1, k2, k3⟩ := drop_cons hdb
      have hlt : decide ((i : Int) < (a.length : Int)) = true := decide_eq_true (by omega)
      have ga := dcl_at a i x g1
      have gb := dcl_at b i y k1
      have hsd := hin x (List.mem_of_getElem? g1) y (List.mem_of_getElem? k1)
      have ih := eqd_loop hg ho a b hab ha hin ra rb (i + 1) g2 k2 (by omega)
      conv at ih in loopAt _ _ => whnf
      conv in loopAt _ _ => whnf
      rw [exL_loop]
      rw [eqB]
      cases hxy : q x y
      · rw [hxy] at hsd
        rw [Bool.false_and]
        simp only [go_sem, Nat.reduceLT, Nat.reduceEqDiff, Nat.reduceBEq, Nat.reduceAdd, ev_indexAddr ty_descOf_23, ty_szOf_44, ty_shapeT_44, ty_zeroCells_44, keep_68_4, hg, ho, hlt, ga, gb, hsd, Int.natCast_nonneg, ends_some]
      · rw [hxy] at hsd
        rw [Bool.true_and]
        simp only [go_sem, Nat.reduceLT, Nat.reduceEqDiff, Nat.reduceBEq, Nat.reduceAdd, ev_indexAddr ty_descOf_23, ty_szOf_44, ty_shapeT_44, ty_zeroCells_44, keep_68_4, hg, ho, hlt, ga, gb, hsd, Int.natCast_nonneg, wrap_nat i (by omega)]
        rw [exL_head]
        simp only [go_sem, Nat.reduceEqDiff, keep_68_4]
        exact ih
theorem EqualD_den {g : Nat} (hg : K.good g = true) (ho : K.ownRet g = false) {q : Dcl → Dcl → Bool} (a b : List Dcl) (ha : a.length ≤ 1000000)
    (hin : ∀ x ∈ a, ∀ y ∈ b, den K g [.agg [.pv (.str x.name), .pv (.sl (encL x.l)), .pv (.bool x.imp)], .agg [.pv (.str y.name), .pv (.sl (encL y.l)), .pv (.bool y.imp)]] [] = some (.ret (B (q x y)) [])) :
    den K 68 [L (encD a), L (encD b), FV g] [] = some (.ret (B (eqB q a b)) []) := by
  refine den_run rfl rfl Tryz.func68 rfl Tryz.ntmps68 ⟨by simp, by simp [LK]⟩ ?_
  have hr : Tryz.f68.results = #[.tmp 6] := rfl
  by_cases hab : a.length = b.length
  · have e0 : ((a.length : Int) != (b.length : Int)) = false := by simp [hab]
    have h := eqd_loop hg ho a b hab ha hin a b 0 rfl rfl (by omega)
    conv at h in loopAt _ _ => whnf
    obtain ⟨o, S', w, hq⟩ := h
    simp only [go_sem, Nat.reduceLT, reduceCtorEq, Nat.reduceEqDiff, Nat.reduceBEq, Nat.reduceAdd, ev_len_sl ty_descOf_23, encD_len, e0]
    rw [exL_head]
    simp only [go_sem, Nat.reduceEqDiff, keep_68_4]
    erw [w]
    rcases hq with ⟨hv, rfl, hn⟩ | ⟨hv, rfl, h6⟩
    · simp only [go_sem, Nat.reduceLT, Nat.reduceBEq, hr, hv, hn]
    · simp only [go_sem, hr, hv, h6]
  · have e0 : ((a.length : Int) != (b.length : Int)) = true := by rw [bne_iff_ne]; omega
    have hv := eqB_len (q := q) hab
    simp only [go_sem, Nat.reduceLT, reduceCtorEq, Nat.reduceEqDiff, Nat.reduceBEq, Nat.reduceAdd, ev_len_sl ty_descOf_23, encD_len, e0, hr, hv]
end Go.Abs
namespace Go.Abs
open Go Go.Proofs
set_option maxRecDepth 10000
attribute [local go_sem] exL_seq exL_region exL_cond exL_block exL_scope exL_ret exL_skip exL_exit runRegion runOps stepOp guardA absOp takeOver opd avOf cvOf St.degAt St.put okPV okVal okAV absBin intBin strBin boolBin setBoxes if_true Bool.false_eq_true if_false Option.map_some Option.map_none Option.bind_some Option.bind_none thenO outOf upd List.toList_toArray isOwn steal appArgs mvB inApps AV.deg CV.deg AV.gv AV.isIter absNext some_bne some_beqN List.length_nil List.length_cons List.filterMap_cons List.filterMap_nil beq_iff_eq List.getElem?_cons_zero List.getElem?_cons_succ Option.getD_some K_hook hookB Bool.false_and Bool.and_false Bool.and_self K_P K_own absCall doCall getBoxes lend back idx dedup AV.ren CV.ren TV.ren AV.ptrs CV.ptrs zipBox AV.flat CV.flat absLoad absStore cellsOfAV setAt newBox markB bldTypes absFieldAddr absField absExtract absAssert noAssert absMkIface ifcOf CV.pv? content pushHead ownT fillCells reps pvs chunks enterSt leave resOf resVars resVar outBoxes lentOnly TV.deg TV.av LK CV.plain CV.noBld nilBin absUn bound List.map_cons List.map_nil List.all_cons List.all_nil List.any_cons List.any_nil List.contains_cons List.contains_nil List.elem_cons List.elem_nil List.cons_append List.nil_append List.append_nil List.flatMap_cons List.flatMap_nil List.zip_cons_cons List.zip_nil_left List.zip_nil_right List.take_succ_cons List.take_zero List.take_nil List.drop_succ_cons List.drop_zero List.drop_nil List.isEmpty_nil List.isEmpty_cons Bool.and_true Bool.true_and Bool.or_true Bool.true_or Bool.or_false Bool.false_or Bool.not_true Bool.not_false Nat.add_zero Nat.zero_add Option.isNone_none Option.isNone_some Option.getD_none true_and and_true not_true_eq_false not_false_eq_true decide_true decide_false Nat.le_refl and_self Bool.not_eq_true Nat.sub_self or_true true_or Option.some.injEq List.length_map List.nil_eq and_false false_and AV.live CV.live CV.liveIn K_keep firstReg Option.orElse_some Option.orElse_none head keepSlots keepBoxes Int.lt_irrefl List.length_append ite_self memOK logOps opKey lentBoxes Key.clash Key.sees Key.writes Nat.lt_irrefl gt_iff_lt nobox_at bot_at false_or or_false beq_self_eq_true Bool.true_beq Bool.false_beq
abbrev tokCv (t : Tok) : List CV := [.pv (.int .i64 t.kind), .pv (.str t.text), .pv (.int .i64 t.n)]
theorem last_den (t : Tok) (kind : Int) : den K 183 [.agg (tokCv t), I kind] [] = some (.ret (B (decide (t = Ne.closeT kind))) []) := by
  have hv : decide (t = Ne.closeT kind) = ((t.kind == 7) && ((t.text == [Ne.closeC kind]) && ((t.n == 0) && true))) := (tok_beq t (Ne.closeT kind)).symm
  rw [hv]
  refine den_run rfl rfl Tryz.func183 rfl Tryz.ntmps183 ⟨by simp, by simp [LK]⟩ ?_
  have hr : Tryz.f183.results = #[.tmp 4] := rfl
  cases b1 : (t.kind == 7)
  · have e1 : (t.kind != 7) = true := by rw [bne, b1]; rfl
    simp only [go_sem, Nat.reduceLT, Nat.reduceEqDiff, Nat.reduceBEq, Nat.reduceAdd, Nat.reduceSub, Nat.reduceLeDiff, ty_fieldOff_47_0, ty_szOf_3, ty_shapeT_3, hr, e1]
  · have e1 : (t.kind != 7) = false := by rw [bne, b1]; rfl
    cases b2 : (t.n == 0)
    · have e2 : (t.n != 0) = true := by rw [bne, b2]; rfl
      simp only [go_sem, Nat.reduceLT, Nat.reduceEqDiff, Nat.reduceBEq, Nat.reduceAdd, Nat.reduceSub, Nat.reduceLeDiff, ty_fieldOff_47_0, ty_szOf_3, ty_shapeT_3, ty_fieldOff_47_2, hr, e1, e2]
    · have e2 : (t.n != 0) = false := by rw [bne, b2]; rfl
      by_cases h3 : kind = 3
      · subst h3
        have c3 : Ne.closeC 3 = 93 := rfl
        simp only [go_sem, Nat.reduceLT, Nat.reduceEqDiff, Nat.reduceBEq, Nat.reduceAdd, Nat.reduceSub, Nat.reduceLeDiff, ty_fieldOff_47_0, ty_szOf_3, ty_shapeT_3, ty_fieldOff_47_2, ty_fieldOff_47_1, ty_szOf_9, ty_shapeT_9, hr, e1, e2, c3]
      · have e3 : (kind == 3) = false := by rw [beq_eq_false_iff_ne]; exact h3
        by_cases h4 : kind = 4
        · subst h4
          have c4 : Ne.closeC 4 = 125 := rfl
          have e43 : ((4 : Int) == 3) = false := by decide
          have n43 : ((4 : Int) = 3) = False := by decide
          simp only [go_sem, Nat.reduceLT, Nat.reduceEqDiff, Nat.reduceBEq, Nat.reduceAdd, Nat.reduceSub, Nat.reduceLeDiff, ty_fieldOff_47_0, ty_szOf_3, ty_shapeT_3, ty_fieldOff_47_2, ty_fieldOff_47_1, ty_szOf_9, ty_shapeT_9, hr, e1, e2, c4, e43]
        · have e4 : (kind == 4) = false := by rw [beq_eq_false_iff_ne]; exact h4
          have c : Ne.closeC kind = 41 := by simp [Ne.closeC, h3, h4]
          simp only [go_sem, Nat.reduceLT, Nat.reduceEqDiff, Nat.reduceBEq, Nat.reduceAdd, Nat.reduceSub, Nat.reduceLeDiff, ty_fieldOff_47_0, ty_szOf_3, ty_shapeT_3, ty_fieldOff_47_2, ty_fieldOff_47_1, ty_szOf_9, ty_shapeT_9, hr, e1, e2, e3, e4, c]
theorem open_den (t : Tok) : den K 184 [.agg (tokCv t)] [] = some (.ret (I (Ne.opens t)) []) := by
  obtain ⟨k, s, n⟩ := t
  have hv : Ne.opens ⟨k, s, n⟩ = opensL k s n := rfl
  rw [hv]
  unfold opensL
  refine den_run rfl rfl Tryz.func184 rfl Tryz.ntmps184 ⟨by simp, by simp [LK]⟩ ?_
  have hr : Tryz.f184.results = #[.tmp 2] := rfl
  by_cases h2 : k = 2
  · subst h2
    simp only [go_sem, Nat.reduceLT, Nat.reduceEqDiff, Nat.reduceBEq, Nat.reduceAdd, Nat.reduceSub, Nat.reduceLeDiff, ty_fieldOff_47_0, ty_szOf_3, ty_shapeT_3, hr]
  · rw [if_neg h2]
    have e2 : (k == 2) = false := by rw [beq_eq_false_iff_ne]; exact h2
    by_cases h7 : k = 7
    · subst h7
      have e72 : ((7 : Int) == 2) = false := by decide
      have n72 : ((7 : Int) = 2) = False := by decide
      have e77 : ((7 : Int) != 7) = false := by decide
      by_cases hn : n = 0
      · subst hn
        have e0 : ((0 : Int) != 0) = false := by decide
        rw [if_pos ⟨rfl, rfl⟩]
        by_cases a1 : s = [40]
        · subst a1
          simp only [go_sem, Nat.reduceLT, Nat.reduceEqDiff, Nat.reduceBEq, Nat.reduceAdd, Nat.reduceSub, Nat.reduceLeDiff, ty_fieldOff_47_0, ty_szOf_3, ty_shapeT_3, ty_fieldOff_47_2, ty_fieldOff_47_1, ty_szOf_9, ty_shapeT_9, hr, e72, e77, e0]
        · have b1 : (s == [40]) = false := by rw [beq_eq_false_iff_ne]; exact a1
          rw [if_neg a1]
          by_cases a2 : s = [91]
          · subst a2
            simp only [go_sem, Nat.reduceLT, Nat.reduceEqDiff, Nat.reduceBEq, Nat.reduceAdd, Nat.reduceSub, Nat.reduceLeDiff, ty_fieldOff_47_0, ty_szOf_3, ty_shapeT_3, ty_fieldOff_47_2, ty_fieldOff_47_1, ty_szOf_9, ty_shapeT_9, hr, e72, e77, e0, b1]
          · have b2 : (s == [91]) = false := by rw [beq_eq_false_iff_ne]; exact a2
            rw [if_neg a2]
            by_cases a3 : s = [123]
            · subst a3
              simp only [go_sem, Nat.reduceLT, Nat.reduceEqDiff, Nat.reduceBEq, Nat.reduceAdd, Nat.reduceSub, Nat.reduceLeDiff, ty_fieldOff_47_0, ty_szOf_3, ty_shapeT_3, ty_fieldOff_47_2, ty_fieldOff_47_1, ty_szOf_9, ty_shapeT_9, hr, e72, e77, e0, b1, b2]
            · have b3 : (s == [123]) = false := by rw [beq_eq_false_iff_ne]; exact a3
              rw [if_neg a3]
              simp only [go_sem, Nat.reduceLT, Nat.reduceEqDiff, Nat.reduceBEq, Nat.reduceAdd, Nat.reduceSub, Nat.reduceLeDiff, ty_fieldOff_47_0, ty_szOf_3, ty_shapeT_3, ty_fieldOff_47_2, ty_fieldOff_47_1, ty_szOf_9, ty_shapeT_9, hr, e72, e77, e0, b1, b2, b3]
      · have e0 : (n != 0) = true := by rw [bne_iff_ne]; exact hn
        rw [if_neg (fun h => hn h.2)]
        simp only [go_sem, Nat.reduceLT, Nat.reduceEqDiff, Nat.reduceBEq, Nat.reduceAdd, Nat.reduceSub, Nat.reduceLeDiff, ty_fieldOff_47_0, ty_szOf_3, ty_shapeT_3, ty_fieldOff_47_2, hr, e72, e77, e0]
    · have e7 : (k != 7) = true := by rw [bne_iff_ne]; exact h7
      rw [if_neg (fun h => h7 h.1)]
      simp only [go_sem, Nat.reduceLT, Nat.reduceEqDiff, Nat.reduceBEq, Nat.reduceAdd, Nat.reduceSub, Nat.reduceLeDiff, ty_fieldOff_47_0, ty_szOf_3, ty_shapeT_3, hr, e2, e7]
theorem opens_posT {t : Tok} (h : Ne.opens t ≠ 0) : 0 < Ne.opens t := by
  rcases Ne.opens_vals t with h1 | h1 | h1 | h1 | h1 <;> omega
abbrev u2H (l : List Tok) (kind left : Int) (i : Nat) (e : Nat) (acc : List Val) : St :=
  { sl := upd (upd (upd (upd (upd bot 9 (.c (.loc 9 0))) 8 (.c (.loc 8 0))) 3 (I left)) 2 (I kind)) 0 (L (l.map Tok.enc)), bx := upd (upd nobox 9 (some [.own e (encL acc), .pv (.int .i64 i), .pv (.bool false)])) 8 (some [.own 0 [], .pv (.int .i64 0), .pv (.bool false)]), nt := 76 }
noncomputable def ulp2 : Code := .loop (loopAt Tryz.f121 2)
def Ret2 (x : List (List PV)) (j : Int) (bad : Bool) (o : Out) (S : St) : Prop := o = .ret ∧ S.sl 8 = .c (.loc 8 0) ∧ S.bx 8 = some [.pv (.sl x), .pv (.int .i64 j), .pv (.bool bad)]
theorem u2_nil (l : List Tok) (kind left : Int) (e : Nat) (acc : List Val) :
    Ends (exL K 121 ulp2 (u2H l kind left l.length e acc)) fun o S => o = .exit 0 ∧ S.nt = 76 ∧ S.sl 8 = .c (.loc 8 0) ∧ S.sl 9 = .c (.loc 9 0) ∧ S.bx 8 = some [.own 0 [], .pv (.int .i64 0), .pv (.bool false)] ∧ S.bx 9 = some [.own e (encL acc), .pv (.int .i64 l.length), .pv (.bool false)] := by
  unfold ulp2
  conv in loopAt _ _ => whnf
  rw [exL_loop]
  simp only [go_sem, Nat.reduceLT, reduceCtorEq, Nat.reduceEqDiff, Nat.reduceBEq, Nat.reduceAdd, ty_fieldOff_139_1, ty_szOf_3, ty_shapeT_3, ev_len_sl ty_descOf_90, keep_121_2, ends_some]
theorem tok_at (l : List Tok) (i : Nat) (t : Tok) (h : l[i]? = some t) : (l.map Tok.enc)[(i : Int).toNat]? = some [.int .i64 t.kind, .str t.text, .int .i64 t.n] := by
  simp [h, Tok.enc]
theorem u2_last (l : List Tok) (kind left : Int) (i : Nat) (e : Nat) (acc : List Val) (t : Tok) (hi : l[i]? = some t) (hl : l.length ≤ 100000000) (h : Ne.isLast kind t = true) :
    Ends (exL K 121 ulp2 (u2H l kind left i e acc)) (Ret2 (encL acc) ((i + 1 : Nat) : Int) false) := by
  have hil : i < l.length := (List.getElem?_eq_some_iff.1 hi).1
  have hlt : decide ((i : Int) < (l.length : Int)) = true := decide_eq_true (by omega)
  have hget := tok_at l i t hi
  have hw : IntKind.i64.wrap ((i : Int) + 1) = ((i + 1 : Nat) : Int) := wrap_nat i (by omega)
  unfold Ne.isLast at h
  rw [Bool.and_eq_true] at h
  obtain ⟨e1, e2⟩ := h
  have hld := last_den t kind
  rw [e2] at hld
  unfold ulp2 Ret2
  conv in loopAt _ _ => whnf
  rw [exL_loop]
  simp only [go_sem, Nat.reduceLT, reduceCtorEq, Nat.reduceEqDiff, Nat.reduceBEq, Nat.reduceAdd, Nat.reduceLeDiff, ty_shapeT_139, ty_szOf_139, ty_fieldOff_139_1, ty_szOf_3, ty_shapeT_3, ev_len_sl ty_descOf_90, ev_indexAddr ty_descOf_90, ty_szOf_47, ty_shapeT_47, ty_zeroCells_47, good_183, keep_121_2, hlt, hget, Int.natCast_nonneg, hw, e1, hld, ends_some]
theorem snoc_valK (acc : List Val) (k : Int) (t : Tok) (vs : List Val) : encL acc ++ [[.int .i64 k, .int .i64 t.kind, .str t.text, .int .i64 t.n, .sl (encL vs)]] = encL (acc ++ [.mk k t vs]) := by
  rw [encL_app]; rfl
theorem snoc_valN (acc : List Val) (k : Int) (t : Tok) : encL acc ++ [[.int .i64 k, .int .i64 t.kind, .str t.text, .int .i64 t.n, .sl []]] = encL (acc ++ [.mk k t []]) := by
  rw [encL_app]; rfl
theorem snoc_val0 (acc : List Val) (k : Int) (vs : List Val) : encL acc ++ [[.int .i64 k, .int .i64 0, .str [], .int .i64 0, .sl (encL vs)]] = encL (acc ++ [.mk k Ne.tok0 vs]) := by
  rw [encL_app]; rfl
set_option maxHeartbeats 4000000 in
theorem u2_tok (l : List Tok) (kind left : Int) (i : Nat) (e : Nat) (acc : List Val) (t : Tok) (hi : l[i]? = some t) (hl : l.length ≤ 100000000) (h : Ne.isLast kind t = false) (he : e = 49 ∨ acc = []) (hacc : acc.length < 100000000) (h0 : Ne.opens t = 0) :
    exL K 121 ulp2 (u2H l kind left i e acc) = exL K 121 ulp2 (u2H l kind left (i + 1) 49 (acc ++ [.mk 1 t []])) := by
  have hil : i < l.length := (List.getElem?_eq_some_iff.1 hi).1
  have hlt : decide ((i : Int) < (l.length : Int)) = true := decide_eq_true (by omega)
  have hget := tok_at l i t hi
  have hw : IntKind.i64.wrap ((i : Int) + 1) = ((i + 1 : Nat) : Int) := wrap_nat i (by omega)
  have hld := last_den t kind
  have hop := open_den t
  rw [h0] at hop
  have hown : e = 49 ∨ (encL acc).isEmpty = true := by
    rcases he with rfl | rfl
    · exact .inl rfl
    · exact .inr rfl
  have hlim : acc.length + 1 < appLim := by unfold appLim; omega
  have hlv := lens_valsK acc
  unfold ulp2
  conv in loopAt _ _ => whnf
  conv in loopAt _ _ => whnf
  conv in exL _ _ _ (u2H l kind left i e acc) => rw [exL_loop]
  unfold Ne.isLast at h
  cases e1 : decide (0 < kind)
  · simp only [go_sem, Nat.reduceLT, reduceCtorEq, Nat.reduceEqDiff, Nat.reduceBEq, Nat.reduceAdd, Nat.reduceLeDiff, Nat.reduceMul, ty_shapeT_139, ty_szOf_139, ty_fieldOff_139_1, ty_szOf_3, ty_shapeT_3, ev_len_sl ty_descOf_90, ev_indexAddr ty_descOf_90, ty_szOf_47, ty_shapeT_47, ty_zeroCells_47, good_184, ev_build ty_zeroCells_49 ty_placesOf_49, ty_zeroCells_49, ty_szOf_49, ty_fieldOff_139_2, ty_szOf_4, ty_fieldOff_139_0, ty_szOf_22, ty_shapeT_22, ty_shapeT_49, ev_buildSlice (len := 1) ty_descOf_22 ty_szOf_49 ty_zeroCells_49 ⟨rfl, by decide, by decide⟩, ev_append ty_appInfo_22, ev_appNew_sl ty_descOf_22, keep_121_2, hlt, hget, Int.natCast_nonneg, hw, e1, hop, encL_len, hlim, hlv, lens_valK, hown, snoc_valN]
    rw [exL_head]
    simp only [go_sem, reduceCtorEq, Nat.reduceEqDiff, Nat.reduceBEq, keep_121_2]
  · rw [e1, Bool.true_and] at h
    rw [h] at hld
    simp only [go_sem, Nat.reduceLT, reduceCtorEq, Nat.reduceEqDiff, Nat.reduceBEq, Nat.reduceAdd, Nat.reduceLeDiff, Nat.reduceMul, ty_shapeT_139, ty_szOf_139, ty_fieldOff_139_1, ty_szOf_3, ty_shapeT_3, ev_len_sl ty_descOf_90, ev_indexAddr ty_descOf_90, ty_szOf_47, ty_shapeT_47, ty_zeroCells_47, good_183, good_184, ev_build ty_zeroCells_49 ty_placesOf_49, ty_zeroCells_49, ty_szOf_49, ty_fieldOff_139_2, ty_szOf_4, ty_fieldOff_139_0, ty_szOf_22, ty_shapeT_22, ty_shapeT_49, ev_buildSlice (len := 1) ty_descOf_22 ty_szOf_49 ty_zeroCells_49 ⟨rfl, by decide, by decide⟩, ev_append ty_appInfo_22, ev_appNew_sl ty_descOf_22, keep_121_2, hlt, hget, Int.natCast_nonneg, hw, e1, hld, hop, encL_len, hlim, hlv, lens_valK, hown, snoc_valN]
    rw [exL_head]
    simp only [go_sem, reduceCtorEq, Nat.reduceEqDiff, Nat.reduceBEq, keep_121_2]
set_option maxHeartbeats 4000000 in
theorem u2_in (l : List Tok) (kind : Int) (n : Nat) (i j : Nat) (e : Nat) (acc : List Val) (t : Tok) (vs : List Val) (hi : l[i]? = some t) (hl : l.length ≤ 100000000) (hn : n < 1000) (h : Ne.isLast kind t = false) (he : e = 49 ∨ acc = []) (hacc : acc.length < 100000000) (h0 : Ne.opens t ≠ 0)
    (hin : den K 121 [L (l.map Tok.enc), I ((i + 1 : Nat) : Int), I (Ne.opens t), I n] [] = some (.ret (.agg [.pv (.sl (encL vs)), .pv (.int .i64 j), .pv (.bool false)]) [])) :
    exL K 121 ulp2 (u2H l kind ((n + 1 : Nat) : Int) i e acc) = exL K 121 ulp2 (u2H l kind ((n + 1 : Nat) : Int) j 49 (acc ++ [.mk (Ne.opens t) (if Ne.opens t = 5 then t else Ne.tok0) vs])) := by
  have hil : i < l.length := (List.getElem?_eq_some_iff.1 hi).1
  have hlt : decide ((i : Int) < (l.length : Int)) = true := decide_eq_true (by omega)
  have hget := tok_at l i t hi
  have hw : IntKind.i64.wrap ((i : Int) + 1) = ((i + 1 : Nat) : Int) := wrap_nat i (by omega)
  have hld := last_den t kind
  have hop := open_den t
  have hpos : decide (0 < Ne.opens t) = true := decide_eq_true (opens_posT h0)
  have hown : e = 49 ∨ (encL acc).isEmpty = true := by
    rcases he with rfl | rfl
    · exact .inl rfl
    · exact .inr rfl
  have hlim : acc.length + 1 < appLim := by unfold appLim; omega
  have hlv := lens_valsK acc
  have hl0 : (((n + 1 : Nat) : Int) == 0) = false := by rw [beq_eq_false_iff_ne]; omega
  have hwl : IntKind.i64.wrap (((n + 1 : Nat) : Int) - 1) = (n : Int) := by rw [IntWalk.i64_in _ (by omega)]; omega
  unfold ulp2
  conv in loopAt _ _ => whnf
  conv in loopAt _ _ => whnf
  conv in exL _ _ _ (u2H l kind _ i e acc) => rw [exL_loop]
  by_cases h5 : Ne.opens t = 5
  · have e5 : (Ne.opens t == 5) = true := by rw [beq_iff_eq]; exact h5
    rw [if_pos h5]
    unfold Ne.isLast at h
    cases e1 : decide (0 < kind)
    · simp only [go_sem, Nat.reduceLT, reduceCtorEq, Nat.reduceEqDiff, Nat.reduceBEq, Nat.reduceAdd, Nat.reduceLeDiff, Nat.reduceMul, ty_shapeT_139, ty_zeroCells_139, ty_szOf_139, ty_fieldOff_139_1, ty_szOf_3, ty_shapeT_3, ev_len_sl ty_descOf_90, ev_indexAddr ty_descOf_90, ty_szOf_47, ty_shapeT_47, ty_zeroCells_47, good_184, ev_build ty_zeroCells_49 ty_placesOf_49, ty_zeroCells_49, ty_szOf_49, ty_fieldOff_139_2, ty_szOf_4, good_121, ty_shapeT_4, ty_fieldOff_139_0, ty_szOf_22, ty_shapeT_22, ty_fieldOff_49_1, ty_shapeT_49, ev_buildSlice (len := 1) ty_descOf_22 ty_szOf_49 ty_zeroCells_49 ⟨rfl, by decide, by decide⟩, ev_append ty_appInfo_22, ev_appNew_sl ty_descOf_22, keep_121_2, hlt, hget, Int.natCast_nonneg, hw, e1, hop, hpos, encL_len, hlim, hlv, lens_valK, hown, hin, hwl, hl0, e5, snoc_valK]
      rw [exL_head]
      simp only [go_sem, reduceCtorEq, Nat.reduceEqDiff, Nat.reduceBEq, keep_121_2]
    · rw [e1, Bool.true_and] at h
      rw [h] at hld
      simp only [go_sem, Nat.reduceLT, reduceCtorEq, Nat.reduceEqDiff, Nat.reduceBEq, Nat.reduceAdd, Nat.reduceLeDiff, Nat.reduceMul, ty_shapeT_139, ty_zeroCells_139, ty_szOf_139, ty_fieldOff_139_1, ty_szOf_3, ty_shapeT_3, ev_len_sl ty_descOf_90, ev_indexAddr ty_descOf_90, ty_szOf_47, ty_shapeT_47, ty_zeroCells_47, good_183, good_184, ev_build ty_zeroCells_49 ty_placesOf_49, ty_zeroCells_49, ty_szOf_49, ty_fieldOff_139_2, ty_szOf_4, good_121, ty_shapeT_4, ty_fieldOff_139_0, ty_szOf_22, ty_shapeT_22, ty_fieldOff_49_1, ty_shapeT_49, ev_buildSlice (len := 1) ty_descOf_22 ty_szOf_49 ty_zeroCells_49 ⟨rfl, by decide, by decide⟩, ev_append ty_appInfo_22, ev_appNew_sl ty_descOf_22, keep_121_2, hlt, hget, Int.natCast_nonneg, hw, e1, hld, hop, hpos, encL_len, hlim, hlv, lens_valK, hown, hin, hwl, hl0, e5, snoc_valK]
      rw [exL_head]
      simp only [go_sem, reduceCtorEq, Nat.reduceEqDiff, Nat.reduceBEq, keep_121_2]
  · have e5 : (Ne.opens t == 5) = false := by rw [beq_eq_false_iff_ne]; exact h5
    rw [if_neg h5]
    unfold Ne.isLast at h
    cases e1 : decide (0 < kind)
    · simp only [go_sem, Nat.reduceLT, reduceCtorEq, Nat.reduceEqDiff, Nat.reduceBEq, Nat.reduceAdd, Nat.reduceLeDiff, Nat.reduceMul, ty_shapeT_139, ty_zeroCells_139, ty_szOf_139, ty_fieldOff_139_1, ty_szOf_3, ty_shapeT_3, ev_len_sl ty_descOf_90, ev_indexAddr ty_descOf_90, ty_szOf_47, ty_shapeT_47, ty_zeroCells_47, good_184, ev_build ty_zeroCells_49 ty_placesOf_49, ty_zeroCells_49, ty_szOf_49, ty_fieldOff_139_2, ty_szOf_4, good_121, ty_shapeT_4, ty_fieldOff_139_0, ty_szOf_22, ty_shapeT_22, ty_fieldOff_49_1, ty_shapeT_49, ev_buildSlice (len := 1) ty_descOf_22 ty_szOf_49 ty_zeroCells_49 ⟨rfl, by decide, by decide⟩, ev_append ty_appInfo_22, ev_appNew_sl ty_descOf_22, keep_121_2, hlt, hget, Int.natCast_nonneg, hw, e1, hop, hpos, encL_len, hlim, hlv, lens_valK, hown, hin, hwl, hl0, e5, snoc_val0]
      rw [exL_head]
      simp only [go_sem, reduceCtorEq, Nat.reduceEqDiff, Nat.reduceBEq, keep_121_2]
    · rw [e1, Bool.true_and] at h
      rw [h] at hld
      simp only [go_sem, Nat.reduceLT, reduceCtorEq, Nat.reduceEqDiff, Nat.reduceBEq, Nat.reduceAdd, Nat.reduceLeDiff, Nat.reduceMul, ty_shapeT_139, ty_zeroCells_139, ty_szOf_139, ty_fieldOff_139_1, ty_szOf_3, ty_shapeT_3, ev_len_sl ty_descOf_90, ev_indexAddr ty_descOf_90, ty_szOf_47, ty_shapeT_47, ty_zeroCells_47, good_183, good_184, ev_build ty_zeroCells_49 ty_placesOf_49, ty_zeroCells_49, ty_szOf_49, ty_fieldOff_139_2, ty_szOf_4, good_121, ty_shapeT_4, ty_fieldOff_139_0, ty_szOf_22, ty_shapeT_22, ty_fieldOff_49_1, ty_shapeT_49, ev_buildSlice (len := 1) ty_descOf_22 ty_szOf_49 ty_zeroCells_49 ⟨rfl, by decide, by decide⟩, ev_append ty_appInfo_22, ev_appNew_sl ty_descOf_22, keep_121_2, hlt, hget, Int.natCast_nonneg, hw, e1, hld, hop, hpos, encL_len, hlim, hlv, lens_valK, hown, hin, hwl, hl0, e5, snoc_val0]
      rw [exL_head]
      simp only [go_sem, reduceCtorEq, Nat.reduceEqDiff, Nat.reduceBEq, keep_121_2]
theorem u2_zero (l : List Tok) (kind : Int) (i : Nat) (e : Nat) (acc : List Val) (t : Tok) (hi : l[i]? = some t) (hl : l.length ≤ 100000000) (h : Ne.isLast kind t = false) (h0 : Ne.opens t ≠ 0) :
    Ends (exL K 121 ulp2 (u2H l kind ((0 : Nat) : Int) i e acc)) fun o S => ∃ a b, Ret2 a b true o S := by
  have hil : i < l.length := (List.getElem?_eq_some_iff.1 hi).1
  have hlt : decide ((i : Int) < (l.length : Int)) = true := decide_eq_true (by omega)
  have hget := tok_at l i t hi
  have hw : IntKind.i64.wrap ((i : Int) + 1) = ((i + 1 : Nat) : Int) := wrap_nat i (by omega)
  have hld := last_den t kind
  have hop := open_den t
  have hpos : decide (0 < Ne.opens t) = true := decide_eq_true (opens_posT h0)
  have hl0 : (((0 : Nat) : Int) == 0) = true := by decide
  unfold ulp2 Ret2
  conv in loopAt _ _ => whnf
  rw [exL_loop]
  unfold Ne.isLast at h
  cases e1 : decide (0 < kind)
  · simp only [go_sem, Nat.reduceLT, reduceCtorEq, Nat.reduceEqDiff, Nat.reduceBEq, Nat.reduceAdd, Nat.reduceLeDiff, ty_shapeT_139, ty_szOf_139, ty_fieldOff_139_1, ty_szOf_3, ty_shapeT_3, ev_len_sl ty_descOf_90, ev_indexAddr ty_descOf_90, ty_szOf_47, ty_shapeT_47, ty_zeroCells_47, good_184, ev_build ty_zeroCells_49 ty_placesOf_49, ty_zeroCells_49, ty_szOf_49, ty_fieldOff_139_2, ty_szOf_4, keep_121_2, hlt, hget, Int.natCast_nonneg, hw, e1, hop, hpos, hl0, ends_some]
    exact ⟨_, _, rfl⟩
  · rw [e1, Bool.true_and] at h
    rw [h] at hld
    simp only [go_sem, Nat.reduceLT, reduceCtorEq, Nat.reduceEqDiff, Nat.reduceBEq, Nat.reduceAdd, Nat.reduceLeDiff, ty_shapeT_139, ty_szOf_139, ty_fieldOff_139_1, ty_szOf_3, ty_shapeT_3, ev_len_sl ty_descOf_90, ev_indexAddr ty_descOf_90, ty_szOf_47, ty_shapeT_47, ty_zeroCells_47, good_183, good_184, ev_build ty_zeroCells_49 ty_placesOf_49, ty_zeroCells_49, ty_szOf_49, ty_fieldOff_139_2, ty_szOf_4, keep_121_2, hlt, hget, Int.natCast_nonneg, hw, e1, hld, hop, hpos, hl0, ends_some]
    exact ⟨_, _, rfl⟩
theorem u2_bad (l : List Tok) (kind : Int) (n : Nat) (i : Nat) (e : Nat) (acc : List Val) (t : Tok) (hi : l[i]? = some t) (hl : l.length ≤ 100000000) (hn : n < 1000) (h : Ne.isLast kind t = false) (h0 : Ne.opens t ≠ 0) (x : List (List PV)) (j : Int)
    (hin : den K 121 [L (l.map Tok.enc), I ((i + 1 : Nat) : Int), I (Ne.opens t), I n] [] = some (.ret (.agg [.pv (.sl x), .pv (.int .i64 j), .pv (.bool true)]) [])) :
    Ends (exL K 121 ulp2 (u2H l kind ((n + 1 : Nat) : Int) i e acc)) fun o S => ∃ a b, Ret2 a b true o S := by
  have hil : i < l.length := (List.getElem?_eq_some_iff.1 hi).1
  have hlt : decide ((i : Int) < (l.length : Int)) = true := decide_eq_true (by omega)
  have hget := tok_at l i t hi
  have hw : IntKind.i64.wrap ((i : Int) + 1) = ((i + 1 : Nat) : Int) := wrap_nat i (by omega)
  have hld := last_den t kind
  have hop := open_den t
  have hpos : decide (0 < Ne.opens t) = true := decide_eq_true (opens_posT h0)
  have hl0 : (((n + 1 : Nat) : Int) == 0) = false := by rw [beq_eq_false_iff_ne]; omega
  have hwl : IntKind.i64.wrap (((n + 1 : Nat) : Int) - 1) = (n : Int) := by rw [IntWalk.i64_in _ (by omega)]; omega
  unfold ulp2 Ret2
  conv in loopAt _ _ => whnf
  rw [exL_loop]
  unfold Ne.isLast at h
  cases e1 : decide (0 < kind)
  · simp only [go_sem, Nat.reduceLT, reduceCtorEq, Nat.reduceEqDiff, Nat.reduceBEq, Nat.reduceAdd, Nat.reduceLeDiff, ty_shapeT_139, ty_zeroCells_139, ty_szOf_139, ty_fieldOff_139_1, ty_szOf_3, ty_shapeT_3, ev_len_sl ty_descOf_90, ev_indexAddr ty_descOf_90, ty_szOf_47, ty_shapeT_47, ty_zeroCells_47, good_184, ev_build ty_zeroCells_49 ty_placesOf_49, ty_zeroCells_49, ty_szOf_49, ty_fieldOff_139_2, ty_szOf_4, good_121, ty_shapeT_4, keep_121_2, hlt, hget, Int.natCast_nonneg, hw, e1, hop, hpos, hl0, hwl, hin, ends_some]
    exact ⟨_, _, rfl⟩
  · rw [e1, Bool.true_and] at h
    rw [h] at hld
    simp only [go_sem, Nat.reduceLT, reduceCtorEq, Nat.reduceEqDiff, Nat.reduceBEq, Nat.reduceAdd, Nat.reduceLeDiff, ty_shapeT_139, ty_zeroCells_139, ty_szOf_139, ty_fieldOff_139_1, ty_szOf_3, ty_shapeT_3, ev_len_sl ty_descOf_90, ev_indexAddr ty_descOf_90, ty_szOf_47, ty_shapeT_47, ty_zeroCells_47, good_183, good_184, ev_build ty_zeroCells_49 ty_placesOf_49, ty_zeroCells_49, ty_szOf_49, ty_fieldOff_139_2, ty_szOf_4, good_121, ty_shapeT_4, keep_121_2, hlt, hget, Int.natCast_nonneg, hw, e1, hld, hop, hpos, hl0, hwl, hin, ends_some]
    exact ⟨_, _, rfl⟩
def ULoop2 (l : List Tok) (kind : Int) (left : Nat) (i : Nat) (acc : List Val) (o : Out) (S : St) : Prop :=
  match Ne.until_ kind left (l.drop i) with
  | some (vs, rest) => ∃ j : Nat, l.drop j = rest ∧ j ≤ l.length ∧ i ≤ j ∧ (Ret2 (encL (acc ++ vs)) (j : Int) false o S ∨
      (o = .exit 0 ∧ S.nt = 76 ∧ S.sl 8 = .c (.loc 8 0) ∧ S.sl 9 = .c (.loc 9 0) ∧ S.bx 8 = some [.own 0 [], .pv (.int .i64 0), .pv (.bool false)] ∧ ∃ e, S.bx 9 = some [.own e (encL (acc ++ vs)), .pv (.int .i64 j), .pv (.bool false)]))
  | none => ∃ a b, Ret2 a b true o S
def UDen2 (l : List Tok) (kind : Int) (left : Nat) (i : Nat) : Prop :=
  match Ne.until_ kind left (l.drop i) with
  | some (vs, rest) => ∃ j : Nat, l.drop j = rest ∧ j ≤ l.length ∧ i ≤ j ∧ den K 121 [L (l.map Tok.enc), I (i : Int), I kind, I left] [] = some (.ret (.agg [.pv (.sl (encL vs)), .pv (.int .i64 j), .pv (.bool false)]) [])
  | none => ∃ a b, den K 121 [L (l.map Tok.enc), I (i : Int), I kind, I left] [] = some (.ret (.agg [.pv (.sl a), .pv (.int .i64 b), .pv (.bool true)]) [])
theorem u2_den {l : List Tok} {kind : Int} {left i : Nat}
    (h : Ends (exL K 121 ulp2 (u2H l kind left i 0 [])) (ULoop2 l kind left i [])) : UDen2 l kind left i := by
  have hr : Tryz.f121.results = #[.cell 8 139] := rfl
  unfold ulp2 at h
  conv at h in loopAt _ _ => whnf
  obtain ⟨o, S', w, hq⟩ := h
  unfold ULoop2 at hq
  unfold UDen2
  cases hu : Ne.until_ kind left (l.drop i) with
  | some x =>
    obtain ⟨vs, rest⟩ := x
    rw [hu] at hq
    obtain ⟨j, q1, q2, q3, hq⟩ := hq
    refine ⟨j, q1, q2, q3, ?_⟩
    rw [List.nil_append] at hq
    refine den_run rfl rfl Tryz.func121 rfl Tryz.ntmps121 ⟨by simp, by simp [LK]⟩ ?_
    simp only [go_sem, Nat.reduceLT, Nat.reduceEqDiff, Nat.reduceBEq, Nat.reduceAdd, Nat.reduceSub, Nat.reduceLeDiff, ty_zeroCells_139, ev_build ty_zeroCells_139 ty_placesOf_139, ty_szOf_139]
    rw [exL_head]
    simp only [go_sem, reduceCtorEq, Nat.reduceEqDiff, Nat.reduceBEq, Nat.reduceSub, Nat.reduceLeDiff, keep_121_2]
    erw [w]
    rcases hq with ⟨rfl, h1, h2⟩ | ⟨rfl, hn, h8, h9, b8, e, b9⟩
    · simp only [go_sem, Nat.reduceAdd, ty_shapeT_139, hr, h1, h2]
    · simp only [go_sem, Nat.reduceLT, Nat.reduceEqDiff, Nat.reduceBEq, Nat.reduceAdd, ty_shapeT_139, ty_szOf_139, hr, hn, h8, h9, b8, b9]
  | none =>
    rw [hu] at hq
    obtain ⟨a, b, rfl, h1, h2⟩ := hq
    refine ⟨a, b, ?_⟩
    refine den_run rfl rfl Tryz.func121 rfl Tryz.ntmps121 ⟨by simp, by simp [LK]⟩ ?_
    simp only [go_sem, Nat.reduceLT, Nat.reduceEqDiff, Nat.reduceBEq, Nat.reduceAdd, Nat.reduceSub, Nat.reduceLeDiff, ty_zeroCells_139, ev_build ty_zeroCells_139 ty_placesOf_139, ty_szOf_139]
    rw [exL_head]
    simp only [go_sem, reduceCtorEq, Nat.reduceEqDiff, Nat.reduceBEq, Nat.reduceSub, Nat.reduceLeDiff, keep_121_2]
    erw [w]
    simp only [go_sem, Nat.reduceAdd, ty_shapeT_139, hr, h1, h2]
end Go.Abs
namespace Go.Abs
open Go Go.Proofs
set_option maxRecDepth 10000
attribute [local go_sem] exL_seq exL_region exL_cond exL_block exL_scope exL_ret exL_skip exL_exit runRegion runOps stepOp guardA absOp takeOver opd avOf cvOf St.degAt St.put okPV okVal okAV absBin intBin strBin boolBin setBoxes if_true Bool.false_eq_true if_false Option.map_some Option.map_none Option.bind_some Option.bind_none thenO outOf upd List.toList_toArray isOwn steal appArgs mvB inApps AV.deg CV.deg AV.gv AV.isIter absNext some_bne some_beqN List.length_nil List.length_cons List.filterMap_cons List.filterMap_nil beq_iff_eq List.getElem?_cons_zero List.getElem?_cons_succ Option.getD_some K_hook hookB Bool.false_and Bool.and_false Bool.and_self K_P K_own absCall doCall getBoxes lend back idx dedup AV.ren CV.ren TV.ren AV.ptrs CV.ptrs zipBox AV.flat CV.flat absLoad absStore cellsOfAV setAt newBox markB bldTypes absFieldAddr absField absExtract absAssert noAssert absMkIface ifcOf CV.pv? content pushHead ownT fillCells reps pvs chunks enterSt leave resOf resVars resVar outBoxes lentOnly TV.deg TV.av LK CV.plain CV.noBld nilBin absUn bound List.map_cons List.map_nil List.all_cons List.all_nil List.any_cons List.any_nil List.contains_cons List.contains_nil List.elem_cons List.elem_nil List.cons_append List.nil_append List.append_nil List.flatMap_cons List.flatMap_nil List.zip_cons_cons List.zip_nil_left List.zip_nil_right List.take_succ_cons List.take_zero List.take_nil List.drop_succ_cons List.drop_zero List.drop_nil List.isEmpty_nil List.isEmpty_cons Bool.and_true Bool.true_and Bool.or_true Bool.true_or Bool.or_false Bool.false_or Bool.not_true Bool.not_false Nat.add_zero Nat.zero_add Option.isNone_none Option.isNone_some Option.getD_none true_and and_true not_true_eq_false not_false_eq_true decide_true decide_false Nat.le_refl and_self Bool.not_eq_true Nat.sub_self or_true true_or Option.some.injEq List.length_map List.nil_eq and_false false_and AV.live CV.live CV.liveIn K_keep firstReg Option.orElse_some Option.orElse_none head keepSlots keepBoxes Int.lt_irrefl List.length_append ite_self memOK logOps opKey lentBoxes Key.clash Key.sees Key.writes Nat.lt_irrefl gt_iff_lt nobox_at bot_at false_or or_false beq_self_eq_true Bool.true_beq Bool.false_beq
def TS.live' : TS → TS
  | .nils => .live
  | x => x
theorem TS.live_toks (x : TS) : x.live'.toks = x.toks := by cases x <;> rfl
abbrev numH (s : List UInt8) (et : Nat) (ct : List (List PV)) (from_ e : Nat) (d : List UInt8) (n : Int) (i : Nat) : St :=
  { sl := upd (upd (upd (upd (upd bot 29 (.c (.iter d i))) 4 (I n)) 3 (I e)) 2 (I from_)) 0 P0, bx := upd nobox 100000 (some [.pv (.str s), .own et ct]), nt := 72 }
theorem min_law (v : Int) : (if (999999999 : Int) < v then (999999999 : Int) else v) = min v 999999999 := by
  split <;> omega
theorem num_loop (s : List UInt8) (et : Nat) (ct : List (List PV)) (from_ e : Nat) (d : List UInt8) (hd : ∀ b ∈ d, Tk.digit b = true) : ∀ (rest : List UInt8) (i : Nat) (n : Int), d.drop i = rest → i ≤ d.length → 0 ≤ n → n ≤ 999999999 →
    Ends (exL K 251 (.loop (loopAt Tryz.f251 6)) (numH s et ct from_ e d n i)) fun o S => o = .exit 0 ∧ S.sl 0 = P0 ∧ S.sl 2 = I from_ ∧ S.sl 3 = I e ∧ S.sl 4 = I (Tk.num n rest) ∧ S.nt = 72 ∧ S.bx = upd nobox 100000 (some [.pv (.str s), .own et ct]) := by
  intro rest
  induction rest with
  | nil =>
    intro i n hr hi h0 h1
    have hin : i = d.length := by
      have := List.drop_eq_nil_iff.1 hr
      omega
    subst hin
    have hlt : (d.length < d.length) = False := by simp
    conv in loopAt _ _ => whnf
    rw [exL_loop]
    simp only [go_sem, Nat.reduceLT, reduceCtorEq, Nat.reduceEqDiff, Nat.reduceBEq, Nat.reduceAdd, keep_251_6, ends_some, hlt, Tk.num]
  | cons c rest ih =>
    intro i n hr hi h0 h1
    obtain ⟨g1, g2, g3⟩ := drop_cons hr
    have hc : Tk.digit c = true := hd c (List.mem_of_getElem? g1)
    have hcn : 48 ≤ c.toNat ∧ c.toNat ≤ 57 := by simpa [Tk.digit] using hc
    obtain ⟨r, wd, hdec, hw1, hw2, hr2, hcase⟩ := decode_at d i g3
    have hrc : r = c.toNat ∧ wd = 1 := by
      rcases hcase with ⟨_, hw, b, hb, hbr⟩ | ⟨_, hall⟩
      · rw [g1] at hb; cases hb; exact ⟨hbr.symm, hw⟩
      · have := hall i c (Nat.le_refl _) (by omega) g1; omega
    obtain ⟨rfl, rfl⟩ := hrc
    have hit : iterNext d i = i + 1 := by unfold iterNext; rw [hdec]
    have hlt : (i < d.length) = True := eq_true g3
    have w1 : IntKind.i64.wrap (10 * n) = 10 * n := IntWalk.i64_in _ (by omega)
    have w2 : IntKind.i32.wrap ((c.toNat : Int) - 48) = (c.toNat : Int) - 48 := IntWalk.i32_in _ (by omega)
    have w3 : IntKind.i64.wrap ((c.toNat : Int) - 48) = (c.toNat : Int) - 48 := IntWalk.i64_in _ (by omega)
    have w4 : IntKind.i64.wrap (10 * n + ((c.toNat : Int) - 48)) = 10 * n + ((c.toNat : Int) - 48) := IntWalk.i64_in _ (by omega)
    have hv : Tk.num n (c :: rest) = Tk.num (min (10 * n + ((c.toNat : Int) - 48)) 999999999) rest := by rw [Tk.num, if_pos hc]
    rw [hv]
    have ih' := ih (i + 1) (min (10 * n + ((c.toNat : Int) - 48)) 999999999) g2 (by omega) (by omega) (by omega)
    conv at ih' in loopAt _ _ => whnf
    conv in loopAt _ _ => whnf
    rw [exL_loop]
    simp only [go_sem, Nat.reduceLT, reduceCtorEq, Nat.reduceEqDiff, Nat.reduceBEq, Nat.reduceAdd, ev_conv_int ty_descOf_21 ty_descOf_3, keep_251_6, hlt, hdec, hit, w1, w2, w3, w4, absMin, allInts, List.foldl_cons, List.foldl_nil, min_law]
    rw [exL_head]
    simp only [go_sem, reduceCtorEq, Nat.reduceEqDiff, keep_251_6]
    exact ih'
set_option maxHeartbeats 8000000 in
theorem number_den (s : List UInt8) (x : TS) (neg : Bool) (from_ : Nat) (l : List UInt8) (hf : from_ = if neg then 1 else 0) (hl : s.drop from_ = l) (hle : from_ ≤ s.length) (h45 : (Tk.at0 s == 45) = neg) (hs : s.length < 4000000000) (hx : x.toks.length < 4000000000) :
    den K 251 [P0] [scan s x] = some (.ret (.tup []) [scan (s.drop (from_ + (Tk.number neg l).2)) (.wr (x.toks ++ [(Tk.number neg l).1]))]) := by
  have d0 := at_den s 0 (by omega)
  rw [List.drop_zero] at d0
  have e45 : (((Tk.at0 s).toNat : Int) == 45) = neg := by rw [← h45]; exact u8_beq _ 45
  have hrun := run_den s (by omega) Tk.digit 250 good_250 rfl digit_den from_ hle
  rw [hl] at hrun
  have hrl := Tk.run_le (p := Tk.digit) l
  have hll : l.length = s.length - from_ := by rw [← hl, List.length_drop]
  have hnum := Tk.num_bound (l := l) (n := 0) (by omega) (by omega)
  have hdig := Tk.run_take (p := Tk.digit) l
  generalize hk : Tk.run Tk.digit l = k at hrun hrl hdig
  have hle2 : from_ + k ≤ s.length := by omega
  have hde : s.drop (from_ + k) = l.drop k := by rw [← List.drop_drop, hl]
  have dn := name_den s (by omega) (from_ + k) hle2
  have da := at_den s (from_ + k) (by omega)
  rw [hde] at dn da
  have hul := Tk.unit_le (l.drop k)
  rw [List.length_drop] at hul
  have e37 : (((Tk.at0 (l.drop k)).toNat : Int) == 37) = (Tk.at0 (l.drop k) == 37) := u8_beq _ 37
  have hnn : Tk.num 0 (l.take k) = Tk.num 0 l := by
    have : l = l.take k ++ l.drop k := (List.take_append_drop k l).symm
    conv => rhs; rw [this]
    rw [Tk.num_app hdig]
    exact (Tk.num_stop (n := Tk.num 0 (l.take k)) (by rw [← hk]; exact Tk.run_stop Tk.digit_zero l)).symm
  have hin := fun et ct => num_loop s et ct from_ (from_ + k) (l.take k) hdig (l.take k) 0 0 rfl (Nat.zero_le _) (by omega) (by omega)
  rw [hnn] at hin
  conv at hin in loopAt _ _ => whnf
  have hsub : (s.take (from_ + k)).drop from_ = l.take k := by rw [List.drop_take, hl]; congr 1; omega
  unfold Tk.number
  simp only [hk]
  rw [← Nat.add_assoc]
  generalize hu : Tk.unit (l.drop k) = u at hul
  have hput := fun v => put_den s x.live' (from_ + k + u) 5 ((l.drop k).take u) v (by omega) (by rw [TS.live_toks]; exact hx)
  rw [TS.live_toks] at hput
  have hsub2 : (s.take (from_ + k + u)).drop (from_ + k) = (l.drop k).take u := by rw [List.drop_take, hde]; congr 1; omega
  have b1 : ((0 : Int) ≤ ((from_ + k : Nat) : Int) ∧ ((from_ + k : Nat) : Int) ≤ (s.length : Int)) = True := eq_true (by omega)
  have b2 : ((0 : Int) ≤ (from_ : Int) ∧ (from_ : Int) ≤ ((from_ + k : Nat) : Int)) = True := eq_true (by omega)
  have b3 : ((0 : Int) ≤ ((from_ + k + u : Nat) : Int) ∧ ((from_ + k + u : Nat) : Int) ≤ (s.length : Int)) = True := eq_true (by omega)
  have b4 : ((0 : Int) ≤ ((from_ + k : Nat) : Int) ∧ ((from_ + k : Nat) : Int) ≤ ((from_ + k + u : Nat) : Int)) = True := eq_true (by omega)
  have w1 : IntKind.i64.wrap ((from_ : Int) + (k : Int)) = ((from_ + k : Nat) : Int) := by rw [IntWalk.i64_in _ (by omega)]; rfl
  have w2 : IntKind.i64.wrap (((from_ + k : Nat) : Int) + (u : Int)) = ((from_ + k + u : Nat) : Int) := by rw [IntWalk.i64_in _ (by omega)]; rfl
  have w3 : IntKind.i64.wrap (0 - Tk.num 0 l) = -Tk.num 0 l := by rw [IntWalk.i64_in _ (by omega)]; omega
  have t0 : Int.toNat 0 = 0 := rfl
  have t1 : Int.toNat 1 = 1 := rfl
  have z01 : ((0 : Int) = 1) = False := by simp
  have z0 : ((0 : Nat) : Int) = 0 := rfl
  have z1 : ((1 : Nat) : Int) = 1 := rfl
  have hu37 : (Tk.at0 (l.drop k) == 37) = false → Tk.name (l.drop k) = u := fun h => by
    rw [← hu, Tk.unit, if_neg (by simpa using h)]
  have hu1 : (Tk.at0 (l.drop k) == 37) = true → u = 1 := fun h => by
    rw [← hu, Tk.unit, if_pos (by simpa using h)]
  refine den_run rfl rfl Tryz.func251 rfl Tryz.ntmps251 ⟨by simp, by simp [LK]⟩ ?_
  have hr : Tryz.f251.results = #[] := rfl
  cases neg
  all_goals (
    simp only [Bool.false_eq_true, if_true, if_false] at hf
    subst hf
    simp only [z0, z1, Nat.zero_add] at d0 hrun w1 b1 b2 b3 b4 w2 hin hsub hsub2 hput dn da hu37 hu1 e45
    first | (rw [List.drop_zero] at hl; subst hl) | skip
    cases x)
  · obtain ⟨o, S', e, rfl, f0, f2, f3, f4, fn, fb⟩ := hin 0 []
    simp only [TS.cell, TS.live', TS.toks, scan, List.map_cons, List.map_nil, Tok.enc, List.nil_append] at hput ⊢
    simp only [go_sem, Nat.reduceLT, reduceCtorEq, Nat.reduceEqDiff, Nat.reduceBEq, Nat.reduceAdd, ty_fieldOff_219_0, ty_szOf_217, ty_shapeT_217, good_241, good_247, ev_slice_str ty_descOf_217, ev_range ty_descOf_217, d0, e45, hrun, w1, b1, b2, Int.toNat_natCast, hsub, t0]
    rw [exL_head]
    simp only [go_sem, reduceCtorEq, Nat.reduceEqDiff, keep_251_6]
    erw [e]
    cases h37 : (Tk.at0 (s.drop k) == 37)
    · rw [h37] at e37
      rw [hu37 h37] at dn
      simp only [go_sem, Nat.reduceLT, reduceCtorEq, Nat.reduceEqDiff, Nat.reduceBEq, Nat.reduceAdd, ty_fieldOff_219_0, ty_szOf_217, ty_shapeT_217, good_241, ev_slice_str ty_descOf_217, good_242, good_246, hr, z01, f0, f2, f3, f4, fn, fb, dn, da, e37, w2, w3, b3, b4, Int.toNat_natCast, hsub2, hput]
    · rw [h37] at e37
      rw [hu1 h37] at w2 b3 b4 hput hsub2 ⊢
      simp only [z1] at w2
      simp only [go_sem, Nat.reduceLT, reduceCtorEq, Nat.reduceEqDiff, Nat.reduceBEq, Nat.reduceAdd, ty_fieldOff_219_0, ty_szOf_217, ty_shapeT_217, good_241, ev_slice_str ty_descOf_217, good_242, good_246, hr, z01, f0, f2, f3, f4, fn, fb, dn, da, e37, w2, w3, b3, b4, Int.toNat_natCast, hsub2, hput]

  · obtain ⟨o, S', e, rfl, f0, f2, f3, f4, fn, fb⟩ := hin 0 []
    simp only [TS.cell, TS.live', TS.toks, scan, List.map_cons, List.map_nil, Tok.enc, List.nil_append] at hput ⊢
    simp only [go_sem, Nat.reduceLT, reduceCtorEq, Nat.reduceEqDiff, Nat.reduceBEq, Nat.reduceAdd, ty_fieldOff_219_0, ty_szOf_217, ty_shapeT_217, good_241, good_247, ev_slice_str ty_descOf_217, ev_range ty_descOf_217, d0, e45, hrun, w1, b1, b2, Int.toNat_natCast, hsub, t0]
    rw [exL_head]
    simp only [go_sem, reduceCtorEq, Nat.reduceEqDiff, keep_251_6]
    erw [e]
    cases h37 : (Tk.at0 (s.drop k) == 37)
    · rw [h37] at e37
      rw [hu37 h37] at dn
      simp only [go_sem, Nat.reduceLT, reduceCtorEq, Nat.reduceEqDiff, Nat.reduceBEq, Nat.reduceAdd, ty_fieldOff_219_0, ty_szOf_217, ty_shapeT_217, good_241, ev_slice_str ty_descOf_217, good_242, good_246, hr, z01, f0, f2, f3, f4, fn, fb, dn, da, e37, w2, w3, b3, b4, Int.toNat_natCast, hsub2, hput]
    · rw [h37] at e37
      rw [hu1 h37] at w2 b3 b4 hput hsub2 ⊢
      simp only [z1] at w2
      simp only [go_sem, Nat.reduceLT, reduceCtorEq, Nat.reduceEqDiff, Nat.reduceBEq, Nat.reduceAdd, ty_fieldOff_219_0, ty_szOf_217, ty_shapeT_217, good_241, ev_slice_str ty_descOf_217, good_242, good_246, hr, z01, f0, f2, f3, f4, fn, fb, dn, da, e37, w2, w3, b3, b4, Int.toNat_natCast, hsub2, hput]

  · rename_i lt
    obtain ⟨o, S', e, rfl, f0, f2, f3, f4, fn, fb⟩ := hin 47 (lt.map Tok.enc)
    simp only [TS.cell, TS.live', TS.toks, scan, List.map_append, List.map_cons, List.map_nil, Tok.enc] at hput ⊢
    simp only [go_sem, Nat.reduceLT, reduceCtorEq, Nat.reduceEqDiff, Nat.reduceBEq, Nat.reduceAdd, ty_fieldOff_219_0, ty_szOf_217, ty_shapeT_217, good_241, good_247, ev_slice_str ty_descOf_217, ev_range ty_descOf_217, d0, e45, hrun, w1, b1, b2, Int.toNat_natCast, hsub, t0]
    rw [exL_head]
    simp only [go_sem, reduceCtorEq, Nat.reduceEqDiff, keep_251_6]
    erw [e]
    cases h37 : (Tk.at0 (s.drop k) == 37)
    · rw [h37] at e37
      rw [hu37 h37] at dn
      simp only [go_sem, Nat.reduceLT, reduceCtorEq, Nat.reduceEqDiff, Nat.reduceBEq, Nat.reduceAdd, ty_fieldOff_219_0, ty_szOf_217, ty_shapeT_217, good_241, ev_slice_str ty_descOf_217, good_242, good_246, hr, z01, f0, f2, f3, f4, fn, fb, dn, da, e37, w2, w3, b3, b4, Int.toNat_natCast, hsub2, hput]
    · rw [h37] at e37
      rw [hu1 h37] at w2 b3 b4 hput hsub2 ⊢
      simp only [z1] at w2
      simp only [go_sem, Nat.reduceLT, reduceCtorEq, Nat.reduceEqDiff, Nat.reduceBEq, Nat.reduceAdd, ty_fieldOff_219_0, ty_szOf_217, ty_shapeT_217, good_241, ev_slice_str ty_descOf_217, good_242, good_246, hr, z01, f0, f2, f3, f4, fn, fb, dn, da, e37, w2, w3, b3, b4, Int.toNat_natCast, hsub2, hput]

  · obtain ⟨o, S', e, rfl, f0, f2, f3, f4, fn, fb⟩ := hin 0 []
    simp only [TS.cell, TS.live', TS.toks, scan, List.map_cons, List.map_nil, Tok.enc, List.nil_append] at hput ⊢
    simp only [go_sem, Nat.reduceLT, reduceCtorEq, Nat.reduceEqDiff, Nat.reduceBEq, Nat.reduceAdd, ty_fieldOff_219_0, ty_szOf_217, ty_shapeT_217, good_241, good_247, ev_slice_str ty_descOf_217, ev_range ty_descOf_217, d0, e45, hrun, w1, b1, b2, Int.toNat_natCast, hsub, t1]
    rw [exL_head]
    simp only [go_sem, reduceCtorEq, Nat.reduceEqDiff, keep_251_6]
    erw [e]
    cases h37 : (Tk.at0 (l.drop k) == 37)
    · rw [h37] at e37
      rw [hu37 h37] at dn
      simp only [go_sem, Nat.reduceLT, reduceCtorEq, Nat.reduceEqDiff, Nat.reduceBEq, Nat.reduceAdd, ty_fieldOff_219_0, ty_szOf_217, ty_shapeT_217, good_241, ev_slice_str ty_descOf_217, good_242, good_246, hr, f0, f2, f3, f4, fn, fb, dn, da, e37, w2, w3, b3, b4, Int.toNat_natCast, hsub2, hput]
    · rw [h37] at e37
      rw [hu1 h37] at w2 b3 b4 hput hsub2 ⊢
      simp only [z1] at w2
      simp only [go_sem, Nat.reduceLT, reduceCtorEq, Nat.reduceEqDiff, Nat.reduceBEq, Nat.reduceAdd, ty_fieldOff_219_0, ty_szOf_217, ty_shapeT_217, good_241, ev_slice_str ty_descOf_217, good_242, good_246, hr, f0, f2, f3, f4, fn, fb, dn, da, e37, w2, w3, b3, b4, Int.toNat_natCast, hsub2, hput]

  · obtain ⟨o, S', e, rfl, f0, f2, f3, f4, fn, fb⟩ := hin 0 []
    simp only [TS.cell, TS.live', TS.toks, scan, List.map_cons, List.map_nil, Tok.enc, List.nil_append] at hput ⊢
    simp only [go_sem, Nat.reduceLT, reduceCtorEq, Nat.reduceEqDiff, Nat.reduceBEq, Nat.reduceAdd, ty_fieldOff_219_0, ty_szOf_217, ty_shapeT_217, good_241, good_247, ev_slice_str ty_descOf_217, ev_range ty_descOf_217, d0, e45, hrun, w1, b1, b2, Int.toNat_natCast, hsub, t1]
    rw [exL_head]
    simp only [go_sem, reduceCtorEq, Nat.reduceEqDiff, keep_251_6]
    erw [e]
    cases h37 : (Tk.at0 (l.drop k) == 37)
    · rw [h37] at e37
      rw [hu37 h37] at dn
      simp only [go_sem, Nat.reduceLT, reduceCtorEq, Nat.reduceEqDiff, Nat.reduceBEq, Nat.reduceAdd, ty_fieldOff_219_0, ty_szOf_217, ty_shapeT_217, good_241, ev_slice_str ty_descOf_217, good_242, good_246, hr, f0, f2, f3, f4, fn, fb, dn, da, e37, w2, w3, b3, b4, Int.toNat_natCast, hsub2, hput]
    · rw [h37] at e37
      rw [hu1 h37] at w2 b3 b4 hput hsub2 ⊢
      simp only [z1] at w2
      simp only [go_sem, Nat.reduceLT, reduceCtorEq, Nat.reduceEqDiff, Nat.reduceBEq, Nat.reduceAdd, ty_fieldOff_219_0, ty_szOf_217, ty_shapeT_217, good_241, ev_slice_str ty_descOf_217, good_242, good_246, hr, f0, f2, f3, f4, fn, fb, dn, da, e37, w2, w3, b3, b4, Int.toNat_natCast, hsub2, hput]

  · rename_i lt
    obtain ⟨o, S', e, rfl, f0, f2, f3, f4, fn, fb⟩ := hin 47 (lt.map Tok.enc)
    simp only [TS.cell, TS.live', TS.toks, scan, List.map_append, List.map_cons, List.map_nil, Tok.enc] at hput ⊢
    simp only [go_sem, Nat.reduceLT, reduceCtorEq, Nat.reduceEqDiff, Nat.reduceBEq, Nat.reduceAdd, ty_fieldOff_219_0, ty_szOf_217, ty_shapeT_217, good_241, good_247, ev_slice_str ty_descOf_217, ev_range ty_descOf_217, d0, e45, hrun, w1, b1, b2, Int.toNat_natCast, hsub, t1]
    rw [exL_head]
    simp only [go_sem, reduceCtorEq, Nat.reduceEqDiff, keep_251_6]
    erw [e]
    cases h37 : (Tk.at0 (l.drop k) == 37)
    · rw [h37] at e37
      rw [hu37 h37] at dn
      simp only [go_sem, Nat.reduceLT, reduceCtorEq, Nat.reduceEqDiff, Nat.reduceBEq, Nat.reduceAdd, ty_fieldOff_219_0, ty_szOf_217, ty_shapeT_217, good_241, ev_slice_str ty_descOf_217, good_242, good_246, hr, f0, f2, f3, f4, fn, fb, dn, da, e37, w2, w3, b3, b4, Int.toNat_natCast, hsub2, hput]
    · rw [h37] at e37
      rw [hu1 h37] at w2 b3 b4 hput hsub2 ⊢
      simp only [z1] at w2
      simp only [go_sem, Nat.reduceLT, reduceCtorEq, Nat.reduceEqDiff, Nat.reduceBEq, Nat.reduceAdd, ty_fieldOff_219_0, ty_szOf_217, ty_shapeT_217, good_241, ev_slice_str ty_descOf_217, good_242, good_246, hr, f0, f2, f3, f4, fn, fb, dn, da, e37, w2, w3, b3, b4, Int.toNat_natCast, hsub2, hput]
end Go.Abs
namespace Go.Abs
open Go Go.Proofs
set_option maxRecDepth 10000
attribute [local go_sem] exL_seq exL_region exL_cond exL_block exL_scope exL_ret exL_skip exL_exit runRegion runOps stepOp guardA absOp takeOver opd avOf cvOf St.degAt St.put okPV okVal okAV absBin intBin strBin boolBin setBoxes if_true Bool.false_eq_true if_false Option.map_some Option.map_none Option.bind_some Option.bind_none thenO outOf upd List.toList_toArray isOwn steal appArgs mvB inApps AV.deg CV.deg AV.gv AV.isIter absNext some_bne some_beqN List.length_nil List.length_cons List.filterMap_cons List.filterMap_nil beq_iff_eq List.getElem?_cons_zero List.getElem?_cons_succ Option.getD_some K_hook hookB Bool.false_and Bool.and_false Bool.and_self K_P K_own absCall doCall getBoxes lend back idx dedup AV.ren CV.ren TV.ren AV.ptrs CV.ptrs zipBox AV.flat CV.flat absLoad absStore cellsOfAV setAt newBox markB bldTypes absFieldAddr absField absExtract absAssert noAssert absMkIface ifcOf CV.pv? content pushHead ownT fillCells reps pvs chunks enterSt leave resOf resVars resVar outBoxes lentOnly TV.deg TV.av LK CV.plain CV.noBld nilBin absUn bound List.map_cons List.map_nil List.all_cons List.all_nil List.any_cons List.any_nil List.contains_cons List.contains_nil List.elem_cons List.elem_nil List.cons_append List.nil_append List.append_nil List.flatMap_cons List.flatMap_nil List.zip_cons_cons List.zip_nil_left List.zip_nil_right List.take_succ_cons List.take_zero List.take_nil List.drop_succ_cons List.drop_zero List.drop_nil List.isEmpty_nil List.isEmpty_cons Bool.and_true Bool.true_and Bool.or_true Bool.true_or Bool.or_false Bool.false_or Bool.not_true Bool.not_false Nat.add_zero Nat.zero_add Option.isNone_none Option.isNone_some Option.getD_none true_and and_true not_true_eq_false not_false_eq_true decide_true decide_false Nat.le_refl and_self Bool.not_eq_true Nat.sub_self or_true true_or Option.some.injEq List.length_map List.nil_eq and_false false_and AV.live CV.live CV.liveIn K_keep firstReg Option.orElse_some Option.orElse_none head keepSlots keepBoxes Int.lt_irrefl List.length_append ite_self memOK logOps opKey lentBoxes Key.clash Key.sees Key.writes Nat.lt_irrefl gt_iff_lt nobox_at bot_at false_or or_false beq_self_eq_true Bool.true_beq Bool.false_beq
theorem prefix_eq (c : UInt8) (r : List UInt8) : Lib.hasPrefix (c :: r) [47, 42] = decide (c = 47 ∧ Tk.at0 r = 42) := by
  unfold Lib.hasPrefix
  cases r with
  | nil =>
    have : ¬ (c = 47 ∧ Tk.at0 [] = 42) := fun h => absurd h.2 (by decide)
    rw [decide_eq_false this]
    simp [List.isPrefixOf]
  | cons d l =>
    rw [Bool.eq_iff_iff, decide_eq_true_eq]
    simp only [List.isPrefixOf, Bool.and_true, Bool.and_eq_true, beq_iff_eq, Tk.at0]
    exact ⟨fun h => ⟨h.1.symm, h.2.symm⟩, fun h => ⟨h.1.symm, h.2.symm⟩⟩
theorem among (l : List UInt8) (c : UInt8) : decide (0 ≤ Lib.indexByte l c) = l.contains c := by
  rw [Lib.contains_iff_indexByte]
theorem blanks_eq (c : UInt8) : decide (0 ≤ Lib.indexByte [32, 10, 9, 12, 13] c) = Tk.blank c := by
  rw [among]
  unfold Tk.blank
  simp only [List.contains_cons, List.contains_nil, Bool.or_false, Bool.or_assoc]
theorem quotes_eq (c : UInt8) : decide (0 ≤ Lib.indexByte [34, 39] c) = decide (c = 34 ∨ c = 39) := by
  rw [among]
  simp only [List.contains_cons, List.contains_nil, Bool.or_false]
  by_cases h1 : c = 34
  · simp [h1]
  · by_cases h2 : c = 39 <;> simp [h1, h2]
theorem innerI_eq (c : UInt8) (r : List UInt8) : decide (0 ≤ innerI c r) = (Tk.inner c r).isSome := by
  unfold innerI
  cases Tk.inner c r with
  | none => rfl
  | some n => simp
theorem white_den (c : UInt8) : den K 245 [U c] [] = some (.ret (B (Tk.blank c)) []) := by
  have d := indexByte_den [32, 10, 9, 12, 13] c
  have e := blanks_eq c
  refine den_run rfl rfl Tryz.func245 rfl Tryz.ntmps245 ⟨by simp, by simp [LK]⟩ ?_
  have hr : Tryz.f245.results = #[.tmp 2] := rfl
  simp only [go_sem, Nat.reduceLT, reduceCtorEq, Nat.reduceEqDiff, Nat.reduceBEq, Nat.reduceAdd, good_244, hr, d, e]
def stepTS (x : TS) : Option Tok → TS
  | none => x
  | some t => .wr (x.toks ++ [t])
set_option maxHeartbeats 16000000 in
theorem next_den (s : List UInt8) (c : UInt8) (r : List UInt8) (x : TS) (et : Nat) (ct : List (List PV)) (hx : x.cell = .own et ct) (hsr : s = c :: r) (hs : s.length < 4000000000) (hxl : x.toks.length < 4000000000) :
    den K 214 [P0] [[.pv (.str s), .own et ct]] = some (.ret (.tup []) [scan (s.drop (Tk.step c r).2) (stepTS x (Tk.step c r).1)]) := by
  have hr : Tryz.f214.results = #[] := rfl
  have a0 := at_den s 0 (by omega)
  have a1 := at_den s 1 (by omega)
  have n0 := name_den s (by omega) 0 (by omega)
  have n1 := name_den s (by omega) 1 (by rw [hsr]; simp)
  have c0 : Tk.at0 (s.drop 0) = c := by rw [hsr]; rfl
  have cs : s.drop 0 = s := rfl
  have cr : s.drop 1 = r := by rw [hsr]; rfl
  rw [c0] at a0
  rw [cs] at n0
  rw [cr] at a1 n1
  have hpre := hasPrefix_den s [47, 42]
  rw [hsr, prefix_eq, ← hsr] at hpre
  have hbl := indexByte_den [32, 10, 9, 12, 13] c
  have ebl := blanks_eq c
  have hqu := indexByte_den [34, 39] c
  have equ := quotes_eq c
  have hin := inner_den s c r x hsr hs
  have ein := innerI_eq c r
  have hrw := run_den s (by omega) Tk.within 249 good_249 rfl within_den 1 (by rw [hsr]; simp)
  rw [cr] at hrw
  have e35 : ((c.toNat : Int) == 35) = (c == 35) := u8_beq c 35
  have e64 : ((c.toNat : Int) == 64) = (c == 64) := u8_beq c 64
  have e45 : ((c.toNat : Int) == 45) = (c == 45) := u8_beq c 45
  have hdc := digit_den c
  have hdr := digit_den (Tk.at0 r)
  have hput : ∀ n kind text v, n ≤ s.length → den K 246 [P0, I (n : Nat), I kind, T text, I v] [[.pv (.str s), .own et ct]] = some (.ret (.tup []) [scan (s.drop n) (.wr (x.toks ++ [⟨kind, text, v⟩]))]) := fun n kind text v h => by
    have := put_den s x n kind text v h hxl
    simp only [scan, hx] at this
    exact this
  simp only [scan, hx] at hin
  have z0 : ((0 : Nat) : Int) = 0 := rfl
  have z1 : ((1 : Nat) : Int) = 1 := rfl
  simp only [z0, z1] at a0 a1 n0 n1 hrw
  have hlen : s.length = r.length + 1 := by rw [hsr]; rfl
  by_cases h1 : c = 47 ∧ Tk.at0 r = 42
  · have e : Tk.step c r = (none, Tk.comment r.tail) := by unfold Tk.step; rw [if_pos h1]
    have h2 : 2 ≤ s.length := by
      cases r with
      | nil => exact absurd h1.2 (by decide)
      | cons d r => simp at hlen; omega
    have hcm := comment_den s x hs h2
    have cr2 : s.drop 2 = r.tail := by rw [hsr]; cases r <;> rfl
    rw [cr2] at hcm
    simp only [scan, hx] at hcm
    rw [decide_eq_true h1] at hpre
    rw [e]
    simp only [stepTS, scan, hx]
    refine den_run rfl rfl Tryz.func214 rfl Tryz.ntmps214 ⟨by simp, by simp [LK]⟩ ?_
    simp only [go_sem, Nat.reduceLT, reduceCtorEq, Nat.reduceEqDiff, Nat.reduceBEq, Nat.reduceAdd, ty_fieldOff_219_0, ty_szOf_217, ty_shapeT_217, good_241, good_242, good_67, good_243, good_244, hr, a0, n0, n1, hpre, hcm]
  rw [decide_eq_false h1] at hpre
  by_cases h2 : Tk.blank c = true
  · have e : Tk.step c r = (some ⟨8, [10], 0⟩, Tk.run Tk.blank s) := by unfold Tk.step; rw [if_neg h1, if_pos h2, hsr]
    have hrun := run_den s (by omega) Tk.blank 245 good_245 rfl white_den 0 (by omega)
    rw [cs, z0] at hrun
    have hp := hput (Tk.run Tk.blank s) 8 [10] 0 (Tk.run_le s)
    simp only [scan, TS.cell] at hp
    rw [h2] at ebl
    rw [e]
    simp only [stepTS, scan, TS.cell]
    refine den_run rfl rfl Tryz.func214 rfl Tryz.ntmps214 ⟨by simp, by simp [LK]⟩ ?_
    simp only [go_sem, Nat.reduceLT, reduceCtorEq, Nat.reduceEqDiff, Nat.reduceBEq, Nat.reduceAdd, ty_fieldOff_219_0, ty_szOf_217, ty_shapeT_217, good_241, good_242, good_67, good_243, good_244, good_247, good_246, good_248, hr, a0, n0, n1, hpre, hbl, ebl, hrun, hp]
  have h2' : Tk.blank c = false := by simpa using h2
  rw [h2'] at ebl
  have t0 : Int.toNat 0 = 0 := rfl
  have t1 : Int.toNat 1 = 1 := rfl
  have hs1 : (s.take 1).drop 0 = [c] := by rw [hsr]; rfl
  have hs1' : s.take 1 = [c] := by rw [hsr]; rfl
  have b1 : ((0 : Int) ≤ 1 ∧ (1 : Int) ≤ (s.length : Int)) = True := eq_true (by omega)
  have hp1 := hput 1 7 [c] 0 (by omega)
  simp only [scan, TS.cell, z1] at hp1
  have nz : ∀ d : UInt8, c = d → Tk.within d = false → Tk.name s = 0 := fun d h hw => by
    rw [Tk.name_zero]; rw [hsr]; exact Tk.nameB_head (c := d) (by rw [Tk.at0_cons]; exact h) hw
  by_cases h3 : (c = 34 ∨ c = 39) ∧ (Tk.inner c r).isSome = true
  · obtain ⟨n, hn⟩ := Option.isSome_iff_exists.1 h3.2
    have hnl := Tk.inner_le hn
    have e : Tk.step c r = (some ⟨6, r.take n, c.toNat⟩, n + 2) := by unfold Tk.step; rw [if_neg h1, if_neg h2, if_pos h3, hn]; rfl
    rw [decide_eq_true h3.1] at equ
    unfold innerI at hin ein
    rw [hn] at hin ein
    simp only [Option.isSome_some] at hin ein
    have hsl : (s.take (1 + n)).drop 1 = r.take n := by rw [List.drop_take, cr]; congr 1; omega
    have b2 : ((0 : Int) ≤ ((1 + n : Nat) : Int) ∧ ((1 + n : Nat) : Int) ≤ (s.length : Int)) = True := eq_true (by omega)
    have b3 : ((0 : Int) ≤ 1 ∧ (1 : Int) ≤ ((1 + n : Nat) : Int)) = True := eq_true (by omega)
    have w1 : IntKind.i64.wrap ((n : Int) + 2) = ((n + 2 : Nat) : Int) := by rw [IntWalk.i64_in _ (by omega)]; rfl
    have w2 : IntKind.i64.wrap (1 + (n : Int)) = ((1 + n : Nat) : Int) := by rw [IntWalk.i64_in _ (by omega)]; omega
    have w3 : IntKind.i64.wrap (c.toNat : Int) = (c.toNat : Int) := IntWalk.i64_in _ (by have := c.toNat_lt; omega)
    have hp := hput (n + 2) 6 (r.take n) c.toNat (by omega)
    simp only [scan, TS.cell] at hp
    rw [e]
    simp only [stepTS, scan, TS.cell]
    refine den_run rfl rfl Tryz.func214 rfl Tryz.ntmps214 ⟨by simp, by simp [LK]⟩ ?_
    simp only [go_sem, Nat.reduceLT, reduceCtorEq, Nat.reduceEqDiff, Nat.reduceBEq, Nat.reduceAdd, ty_fieldOff_219_0, ty_szOf_217, ty_shapeT_217, good_241, good_242, good_67, good_243, good_244, good_247, good_246, good_248, ev_slice_str ty_descOf_217, ev_conv_int ty_descOf_5 ty_descOf_3, hr, t1, Int.toNat_natCast, a0, n0, n1, hpre, hbl, ebl, hqu, equ, hin, ein, b2, b3, w1, w2, w3, hsl, hp]
  by_cases q : c = 34 ∨ c = 39
  · have hi : (Tk.inner c r).isSome = false := by cases hh : (Tk.inner c r).isSome; rfl; exact absurd ⟨q, hh⟩ h3
    rw [hi] at ein
    rw [decide_eq_true q] at equ
    have k35 : (c == 35) = false := by rcases q with rfl | rfl <;> decide
    have k64 : (c == 64) = false := by rcases q with rfl | rfl <;> decide
    have k45 : (c == 45) = false := by rcases q with rfl | rfl <;> decide
    have kd : Tk.digit c = false := by rcases q with rfl | rfl <;> decide
    have kn : Tk.name s = 0 := nz c rfl (by rcases q with rfl | rfl <;> decide)
    have e : Tk.step c r = (some ⟨7, [c], 0⟩, 1) := by
      unfold Tk.step
      rw [if_neg h1, if_neg h2, if_neg h3, if_neg (fun x => by simp [x.1] at k35), if_neg (fun x => by simp [x.1] at k64), if_neg (by simp [kd]), if_neg (fun x => by simp [x.1] at k45), ← hsr, if_neg (by omega)]
    rw [k35] at e35
    rw [k64] at e64
    rw [k45] at e45
    rw [kd] at hdc
    rw [kn, z0] at n0
    rw [e]
    simp only [stepTS, scan, TS.cell]
    refine den_run rfl rfl Tryz.func214 rfl Tryz.ntmps214 ⟨by simp, by simp [LK]⟩ ?_
    simp only [go_sem, Nat.reduceLT, reduceCtorEq, Nat.reduceEqDiff, Nat.reduceBEq, Nat.reduceAdd, ty_fieldOff_219_0, ty_szOf_217, ty_shapeT_217, good_241, good_242, good_67, good_243, good_244, good_247, good_246, good_248, ev_slice_str ty_descOf_217, ev_conv_int ty_descOf_5 ty_descOf_3, good_250, good_251, hr, Int.le_refl, t0, t1, a0, n0, n1, hpre, hbl, ebl, hqu, equ, hin, ein, e35, e64, e45, hdc, hs1, b1, hp1]

  rw [decide_eq_false q] at equ
  have hrl := Tk.run_le (p := Tk.within) r
  by_cases h4 : c = 35
  · have k64 : (c == 64) = false := by rw [h4]; decide
    have k45 : (c == 45) = false := by rw [h4]; decide
    have k35 : (c == 35) = true := by rw [h4]; decide
    have kd : Tk.digit c = false := by rw [h4]; decide
    have kn : Tk.name s = 0 := nz 35 h4 (by decide)
    rw [k35] at e35
    rw [k64] at e64
    rw [k45] at e45
    rw [kd] at hdc
    by_cases hpos : 0 < Tk.run Tk.within r
    · have e : Tk.step c r = (some ⟨4, r.take (Tk.run Tk.within r), 0⟩, Tk.run Tk.within r + 1) := by unfold Tk.step; rw [if_neg h1, if_neg h2, if_neg h3, if_pos ⟨h4, hpos⟩]
      rw [e]
      have hsl : (s.take (1 + Tk.run Tk.within r)).drop 1 = r.take (Tk.run Tk.within r) := by rw [List.drop_take, cr]; congr 1; omega
      have hp := hput (1 + Tk.run Tk.within r) 4 (r.take (Tk.run Tk.within r)) 0 (by omega)
      rw [Nat.add_comm (Tk.run Tk.within r) 1]
      generalize Tk.run Tk.within r = n at hrw hrl hpos hp hsl
      have b2 : ((0 : Int) ≤ ((1 + n : Nat) : Int) ∧ ((1 + n : Nat) : Int) ≤ (s.length : Int)) = True := eq_true (by omega)
      have b3 : ((0 : Int) ≤ 1 ∧ (1 : Int) ≤ ((1 + n : Nat) : Int)) = True := eq_true (by omega)
      have w2 : IntKind.i64.wrap (1 + (n : Int)) = ((1 + n : Nat) : Int) := by rw [IntWalk.i64_in _ (by omega)]; omega
      have hg : decide ((0 : Int) < (n : Int)) = true := decide_eq_true (by omega)
      simp only [scan, TS.cell] at hp
      simp only [stepTS, scan, TS.cell]
      refine den_run rfl rfl Tryz.func214 rfl Tryz.ntmps214 ⟨by simp, by simp [LK]⟩ ?_
      simp only [go_sem, Nat.reduceLT, reduceCtorEq, Nat.reduceEqDiff, Nat.reduceBEq, Nat.reduceAdd, ty_fieldOff_219_0, ty_szOf_217, ty_shapeT_217, good_241, good_242, good_67, good_243, good_244, good_247, good_246, good_248, ev_slice_str ty_descOf_217, hr, t1, Int.toNat_natCast, a0, n0, n1, hpre, hbl, ebl, hqu, equ, e35, hrw, hg, b2, b3, w2, hsl, hp]
    · have e : Tk.step c r = (some ⟨7, [c], 0⟩, 1) := by
        unfold Tk.step
        rw [if_neg h1, if_neg h2, if_neg h3, if_neg (fun x => hpos x.2), if_neg (fun x => by simp [x.1] at k64), if_neg (by simp [kd]), if_neg (fun x => by simp [x.1] at k45), ← hsr, if_neg (by omega)]
      have hr0 : Tk.run Tk.within r = 0 := by omega
      rw [hr0, z0] at hrw
      rw [kn, z0] at n0
      rw [e]
      simp only [stepTS, scan, TS.cell]
      refine den_run rfl rfl Tryz.func214 rfl Tryz.ntmps214 ⟨by simp, by simp [LK]⟩ ?_
      simp only [go_sem, Nat.reduceLT, reduceCtorEq, Nat.reduceEqDiff, Nat.reduceBEq, Nat.reduceAdd, ty_fieldOff_219_0, ty_szOf_217, ty_shapeT_217, good_241, good_242, good_67, good_243, good_244, good_247, good_246, good_248, ev_slice_str ty_descOf_217, good_250, good_251, hr, Int.le_refl, t0, t1, a0, n0, n1, hpre, hbl, ebl, hqu, equ, e35, hrw, e64, e45, hdc, Int.lt_irrefl, hs1, b1, hp1]

  have k35 : (c == 35) = false := by simpa using h4
  rw [k35] at e35
  have hnl := Tk.name_le r
  by_cases h5 : c = 64
  · have k45 : (c == 45) = false := by rw [h5]; decide
    have k64 : (c == 64) = true := by rw [h5]; decide
    have kd : Tk.digit c = false := by rw [h5]; decide
    have kn : Tk.name s = 0 := nz 64 h5 (by decide)
    rw [k64] at e64
    rw [k45] at e45
    rw [kd] at hdc
    by_cases hpos : 0 < Tk.name r
    · have e : Tk.step c r = (some ⟨3, r.take (Tk.name r), 0⟩, Tk.name r + 1) := by unfold Tk.step; rw [if_neg h1, if_neg h2, if_neg h3, if_neg (fun x => h4 x.1), if_pos ⟨h5, hpos⟩]
      rw [e]
      have hsl : (s.take (1 + Tk.name r)).drop 1 = r.take (Tk.name r) := by rw [List.drop_take, cr]; congr 1; omega
      have hp := hput (1 + Tk.name r) 3 (r.take (Tk.name r)) 0 (by omega)
      rw [Nat.add_comm (Tk.name r) 1]
      generalize Tk.name r = n at n1 hnl hpos hp hsl
      have b2 : ((0 : Int) ≤ ((1 + n : Nat) : Int) ∧ ((1 + n : Nat) : Int) ≤ (s.length : Int)) = True := eq_true (by omega)
      have b3 : ((0 : Int) ≤ 1 ∧ (1 : Int) ≤ ((1 + n : Nat) : Int)) = True := eq_true (by omega)
      have w2 : IntKind.i64.wrap (1 + (n : Int)) = ((1 + n : Nat) : Int) := by rw [IntWalk.i64_in _ (by omega)]; omega
      have hg : decide ((0 : Int) < (n : Int)) = true := decide_eq_true (by omega)
      simp only [scan, TS.cell] at hp
      simp only [stepTS, scan, TS.cell]
      refine den_run rfl rfl Tryz.func214 rfl Tryz.ntmps214 ⟨by simp, by simp [LK]⟩ ?_
      simp only [go_sem, Nat.reduceLT, reduceCtorEq, Nat.reduceEqDiff, Nat.reduceBEq, Nat.reduceAdd, ty_fieldOff_219_0, ty_szOf_217, ty_shapeT_217, good_241, good_242, good_67, good_243, good_244, good_247, good_246, good_248, ev_slice_str ty_descOf_217, good_250, hr, t1, Int.toNat_natCast, a0, n0, n1, hpre, hbl, ebl, hqu, equ, e35, e64, hg, b2, b3, w2, hsl, hp]
    · have e : Tk.step c r = (some ⟨7, [c], 0⟩, 1) := by
        unfold Tk.step
        rw [if_neg h1, if_neg h2, if_neg h3, if_neg (fun x => h4 x.1), if_neg (fun x => hpos x.2), if_neg (by simp [kd]), if_neg (fun x => by simp [x.1] at k45), ← hsr, if_neg (by omega)]
      have hr0 : Tk.name r = 0 := by omega
      rw [hr0, z0] at n1
      rw [kn, z0] at n0
      rw [e]
      simp only [stepTS, scan, TS.cell]
      refine den_run rfl rfl Tryz.func214 rfl Tryz.ntmps214 ⟨by simp, by simp [LK]⟩ ?_
      simp only [go_sem, Nat.reduceLT, reduceCtorEq, Nat.reduceEqDiff, Nat.reduceBEq, Nat.reduceAdd, ty_fieldOff_219_0, ty_szOf_217, ty_shapeT_217, good_241, good_242, good_67, good_243, good_244, good_247, good_246, good_248, ev_slice_str ty_descOf_217, good_250, good_251, hr, Int.le_refl, t0, t1, a0, n0, n1, hpre, hbl, ebl, hqu, equ, e35, e64, e45, hdc, Int.lt_irrefl, hs1, b1, hp1]

  have k64 : (c == 64) = false := by simpa using h5
  rw [k64] at e64
  by_cases h6 : Tk.digit c = true
  · have e : Tk.step c r = (some (Tk.number false (c :: r)).1, (Tk.number false (c :: r)).2) := Tk.step_number h6
    have k45 : (Tk.at0 s == 45) = false := by rw [hsr, Tk.at0_cons]; simpa using Tk.digit_ne h6 (d := 45) (by decide)
    have hnm := number_den s x false 0 s rfl cs (by omega) k45 hs hxl
    rw [Nat.zero_add] at hnm
    rw [h6] at hdc
    rw [e, ← hsr]
    simp only [scan, hx] at hnm
    simp only [stepTS, scan, TS.cell] at hnm ⊢
    refine den_run rfl rfl Tryz.func214 rfl Tryz.ntmps214 ⟨by simp, by simp [LK]⟩ ?_
    simp only [go_sem, Nat.reduceLT, reduceCtorEq, Nat.reduceEqDiff, Nat.reduceBEq, Nat.reduceAdd, ty_fieldOff_219_0, ty_szOf_217, ty_shapeT_217, good_241, good_242, good_67, good_243, good_244, good_247, good_246, good_248, ev_slice_str ty_descOf_217, good_250, good_251, hr, t1, a0, n0, n1, hpre, hbl, ebl, hqu, equ, e35, e64, hdc, hnm]
  have kd : Tk.digit c = false := by simpa using h6
  rw [kd] at hdc
  by_cases h7 : c = 45 ∧ Tk.digit (Tk.at0 r) = true
  · have e : Tk.step c r = (some (Tk.number true r).1, (Tk.number true r).2 + 1) := by rw [h7.1]; exact Tk.step_minus h7.2
    have k45 : (Tk.at0 s == 45) = true := by rw [hsr, Tk.at0_cons, h7.1]; rfl
    have hnm := number_den s x true 1 r rfl cr (by omega) k45 hs hxl
    have k45' : (c == 45) = true := by rw [h7.1]; rfl
    rw [k45'] at e45
    rw [h7.2] at hdr
    rw [e, Nat.add_comm _ 1]
    simp only [scan, hx] at hnm
    simp only [stepTS, scan, TS.cell] at hnm ⊢
    refine den_run rfl rfl Tryz.func214 rfl Tryz.ntmps214 ⟨by simp, by simp [LK]⟩ ?_
    simp only [go_sem, Nat.reduceLT, reduceCtorEq, Nat.reduceEqDiff, Nat.reduceBEq, Nat.reduceAdd, ty_fieldOff_219_0, ty_szOf_217, ty_shapeT_217, good_241, good_242, good_67, good_243, good_244, good_247, good_246, good_248, ev_slice_str ty_descOf_217, good_250, good_251, hr, t1, a0, n0, n1, hpre, hbl, ebl, hqu, equ, e35, e64, hdc, e45, a1, hdr, hnm]
  have e0 : Tk.step c r = if 0 < Tk.name s then if Tk.at0 (s.drop (Tk.name s)) = 40 then (some ⟨2, s.take (Tk.name s), 0⟩, Tk.name s + 1) else (some ⟨1, s.take (Tk.name s), 0⟩, Tk.name s) else (some ⟨7, [c], 0⟩, 1) := by
    unfold Tk.step
    rw [if_neg h1, if_neg h2, if_neg h3, if_neg (fun x => h4 x.1), if_neg (fun x => h5 x.1), if_neg h6, if_neg h7, ← hsr]
  have hnle := Tk.name_le s
  have an := at_den s (Tk.name s) (by omega)
  have e40 : (((Tk.at0 (s.drop (Tk.name s))).toNat : Int) == 40) = (Tk.at0 (s.drop (Tk.name s)) == 40) := u8_beq _ 40
  by_cases hpos : 0 < Tk.name s
  · rw [if_pos hpos] at e0
    have hg : decide ((0 : Int) < ((Tk.name s : Nat) : Int)) = true := decide_eq_true (by omega)
    have hsl : (s.take (Tk.name s)).drop 0 = s.take (Tk.name s) := rfl
    have b2 : ((0 : Int) ≤ ((Tk.name s : Nat) : Int) ∧ ((Tk.name s : Nat) : Int) ≤ (s.length : Int)) = True := eq_true (by omega)
    by_cases h40 : Tk.at0 (s.drop (Tk.name s)) = 40
    · have k40 : (Tk.at0 (s.drop (Tk.name s)) == 40) = true := by simpa using h40
      have hlt : Tk.name s ≠ s.length := fun x => by rw [x, List.drop_length] at h40; exact absurd h40 (by decide)
      rw [if_pos h40] at e0
      have hp := hput (Tk.name s + 1) 2 (s.take (Tk.name s)) 0 (by omega)
      rw [k40] at e40
      rw [e0]
      generalize Tk.name s = n at n0 an e40 hg b2 hp hnle hlt
      have w1 : IntKind.i64.wrap ((n : Int) + 1) = ((n + 1 : Nat) : Int) := wrap_nat n (by omega)
      simp only [scan, TS.cell] at hp
      simp only [stepTS, scan, TS.cell]
      cases k45 : (c == 45)
      · rw [k45] at e45
        refine den_run rfl rfl Tryz.func214 rfl Tryz.ntmps214 ⟨by simp, by simp [LK]⟩ ?_
        simp only [go_sem, Nat.reduceLT, reduceCtorEq, Nat.reduceEqDiff, Nat.reduceBEq, Nat.reduceAdd, ty_fieldOff_219_0, ty_szOf_217, ty_shapeT_217, good_241, good_242, good_67, good_243, good_244, good_247, good_246, good_248, ev_slice_str ty_descOf_217, good_250, good_251, hr, t1, Int.toNat_natCast, a0, n0, n1, hpre, hbl, ebl, hqu, equ, e35, e64, hdc, e45, hg, an, e40, b2, w1, hp]
      · rw [k45] at e45
        have kr : Tk.digit (Tk.at0 r) = false := by
          cases hh : Tk.digit (Tk.at0 r)
          · rfl
          · exact absurd ⟨by simpa using k45, hh⟩ h7
        rw [kr] at hdr
        refine den_run rfl rfl Tryz.func214 rfl Tryz.ntmps214 ⟨by simp, by simp [LK]⟩ ?_
        simp only [go_sem, Nat.reduceLT, reduceCtorEq, Nat.reduceEqDiff, Nat.reduceBEq, Nat.reduceAdd, ty_fieldOff_219_0, ty_szOf_217, ty_shapeT_217, good_241, good_242, good_67, good_243, good_244, good_247, good_246, good_248, ev_slice_str ty_descOf_217, good_250, good_251, hr, t1, Int.toNat_natCast, a0, n0, n1, hpre, hbl, ebl, hqu, equ, e35, e64, hdc, e45, a1, hdr, hg, an, e40, b2, w1, hp]
    · have k40 : (Tk.at0 (s.drop (Tk.name s)) == 40) = false := by simpa using h40
      rw [if_neg h40] at e0
      have hp := hput (Tk.name s) 1 (s.take (Tk.name s)) 0 (by omega)
      rw [k40] at e40
      rw [e0]
      generalize Tk.name s = n at n0 an e40 hg b2 hp hnle
      simp only [scan, TS.cell] at hp
      simp only [stepTS, scan, TS.cell]
      cases k45 : (c == 45)
      · rw [k45] at e45
        refine den_run rfl rfl Tryz.func214 rfl Tryz.ntmps214 ⟨by simp, by simp [LK]⟩ ?_
        simp only [go_sem, Nat.reduceLT, reduceCtorEq, Nat.reduceEqDiff, Nat.reduceBEq, Nat.reduceAdd, ty_fieldOff_219_0, ty_szOf_217, ty_shapeT_217, good_241, good_242, good_67, good_243, good_244, good_247, good_246, good_248, ev_slice_str ty_descOf_217, good_250, good_251, hr, t1, Int.toNat_natCast, a0, n0, n1, hpre, hbl, ebl, hqu, equ, e35, e64, hdc, e45, hg, an, e40, b2, hp]
      · rw [k45] at e45
        have kr : Tk.digit (Tk.at0 r) = false := by
          cases hh : Tk.digit (Tk.at0 r)
          · rfl
          · exact absurd ⟨by simpa using k45, hh⟩ h7
        rw [kr] at hdr
        refine den_run rfl rfl Tryz.func214 rfl Tryz.ntmps214 ⟨by simp, by simp [LK]⟩ ?_
        simp only [go_sem, Nat.reduceLT, reduceCtorEq, Nat.reduceEqDiff, Nat.reduceBEq, Nat.reduceAdd, ty_fieldOff_219_0, ty_szOf_217, ty_shapeT_217, good_241, good_242, good_67, good_243, good_244, good_247, good_246, good_248, ev_slice_str ty_descOf_217, good_250, good_251, hr, t1, Int.toNat_natCast, a0, n0, n1, hpre, hbl, ebl, hqu, equ, e35, e64, hdc, e45, a1, hdr, hg, an, e40, b2, hp]
  · rw [if_neg hpos] at e0
    have hr0 : Tk.name s = 0 := by omega
    rw [hr0, z0] at n0
    rw [e0]
    simp only [stepTS, scan, TS.cell]
    cases k45 : (c == 45)
    · rw [k45] at e45
      refine den_run rfl rfl Tryz.func214 rfl Tryz.ntmps214 ⟨by simp, by simp [LK]⟩ ?_
      simp only [go_sem, Nat.reduceLT, reduceCtorEq, Nat.reduceEqDiff, Nat.reduceBEq, Nat.reduceAdd, ty_fieldOff_219_0, ty_szOf_217, ty_shapeT_217, good_241, good_242, good_67, good_243, good_244, good_247, good_246, good_248, ev_slice_str ty_descOf_217, good_250, good_251, hr, Int.le_refl, t0, t1, a0, n0, n1, hpre, hbl, ebl, hqu, equ, e35, e64, hdc, e45, hs1, b1, hp1]
    · rw [k45] at e45
      have kr : Tk.digit (Tk.at0 r) = false := by
        cases hh : Tk.digit (Tk.at0 r)
        · rfl
        · exact absurd ⟨by simpa using k45, hh⟩ h7
      rw [kr] at hdr
      refine den_run rfl rfl Tryz.func214 rfl Tryz.ntmps214 ⟨by simp, by simp [LK]⟩ ?_
      simp only [go_sem, Nat.reduceLT, reduceCtorEq, Nat.reduceEqDiff, Nat.reduceBEq, Nat.reduceAdd, ty_fieldOff_219_0, ty_szOf_217, ty_shapeT_217, good_241, good_242, good_67, good_243, good_244, good_247, good_246, good_248, ev_slice_str ty_descOf_217, good_250, good_251, hr, Int.le_refl, t0, t1, a0, n0, n1, hpre, hbl, ebl, hqu, equ, e35, e64, hdc, e45, a1, hdr, hs1, b1, hp1]
end Go.Abs
namespace Go.Abs
open Go Go.Proofs
set_option maxRecDepth 10000
theorem step_own {x : TS} {et : Nat} {ct : List (List PV)} (hx : x.cell = .own et ct) (o : Option Tok) : ∃ et' ct', (stepTS x o).cell = .own et' ct' ∧ (stepTS x o).toks = x.toks ++ o.toList := by
  cases o with
  | none => exact ⟨et, ct, hx, by simp [stepTS]⟩
  | some t => exact ⟨_, _, rfl, rfl⟩
theorem own_toks {x : TS} {et : Nat} {ct : List (List PV)} (hx : x.cell = .own et ct) : ct = x.toks.map Tok.enc := by
  cases x with
  | nils => cases hx
  | live => cases hx; rfl
  | wr l => cases hx; rfl
abbrev allH (s : List UInt8) (et : Nat) (ct : List (List PV)) : St := { sl := upd bot 3 (.c (.loc 6 0)), bx := upd nobox 6 (some [.pv (.str s), .own et ct]), nt := 19 }
theorem all_loop : ∀ (s : List UInt8), s.length < 4000000000 → ∀ (x : TS) (et : Nat) (ct : List (List PV)), x.cell = .own et ct → x.toks.length + s.length < 4000000000 →
    Ends (exL K 156 (.loop (loopAt Tryz.f156 2)) (allH s et ct)) fun o S => o = .exit 0 ∧ S.nt = 19 ∧ S.sl 3 = .c (.loc 6 0) ∧ ∃ et', S.bx 6 = some [.pv (.str []), .own et' ((x.toks ++ Tk.all s).map Tok.enc)] := by
  refine Tk.all_ind (Q := fun s => s.length < 4000000000 → ∀ (x : TS) (et : Nat) (ct : List (List PV)), x.cell = .own et ct → x.toks.length + s.length < 4000000000 →
    Ends (exL K 156 (.loop (loopAt Tryz.f156 2)) (allH s et ct)) fun o S => o = .exit 0 ∧ S.nt = 19 ∧ S.sl 3 = .c (.loc 6 0) ∧ ∃ et', S.bx 6 = some [.pv (.str []), .own et' ((x.toks ++ Tk.all s).map Tok.enc)]) ?_ ?_
  · intro _ x et ct hx _
    have hct := own_toks hx
    have hlt : decide ((0 : Int) < ((0 : Nat) : Int)) = false := by decide
    rw [Tk.all_nil, List.append_nil, ← hct]
    conv in loopAt _ _ => whnf
    rw [exL_loop]
    simp only [exL_seq, exL_region, exL_cond, exL_skip, exL_exit, runRegion, runOps, stepOp, guardA, absOp, takeOver, opd, avOf, cvOf, St.degAt, St.put, okPV, okVal, okAV, absBin, intBin, setBoxes, if_true, Bool.false_eq_true, if_false, Option.map_some, Option.bind_some, thenO, upd, isOwn, steal, appArgs, mvB, inApps, AV.deg, CV.deg, AV.isIter, Nat.reduceLT, Nat.reduceEqDiff, List.length_nil, List.length_cons, List.filterMap_cons, List.filterMap_nil, List.getElem?_cons_zero, Option.getD_some, K_hook, hookB, Nat.reduceBEq, Bool.and_self, K_P, absCall, absLoad, setAt, absFieldAddr, CV.plain, List.map_cons, List.map_nil, List.all_cons, List.all_nil, List.any_cons, List.any_nil, List.contains_cons, List.contains_nil, List.cons_append, List.nil_append, List.take_zero, List.drop_succ_cons, List.drop_zero, Bool.and_true, Bool.or_true, Bool.true_or, Bool.or_false, Bool.not_true, Bool.not_false, Nat.reduceAdd, Nat.add_zero, Nat.zero_add, true_and, decide_false, Option.some.injEq, AV.live, CV.live, K_keep, firstReg, Option.orElse_some, Option.orElse_none, head, keepSlots, keepBoxes, ite_self, memOK, logOps, opKey, Key.clash, Key.sees, Key.writes, Nat.lt_irrefl, nobox_at, bot_at, beq_self_eq_true, ty_fieldOff_219_0, ty_szOf_217, ty_shapeT_217, ev_len_str ty_descOf_217, keep_156_2, ends_some, hlt]
    exact ⟨_, rfl⟩
  · intro c r ih hs x et ct hx hl
    have hp := Tk.step_pos c r
    have hle := Tk.step_le c r
    have hn := next_den (c :: r) c r x et ct hx rfl hs (by omega)
    obtain ⟨et2, ct2, h2, h3⟩ := step_own hx (Tk.step c r).1
    have ho : ((Tk.step c r).1.toList).length ≤ 1 := by cases (Tk.step c r).1 <;> simp
    have ih' := ih (by rw [List.length_drop]; omega) (stepTS x (Tk.step c r).1) et2 ct2 h2 (by rw [h3, List.length_append, List.length_drop]; omega)
    rw [h3, List.append_assoc, ← Tk.all_cons] at ih'
    have hlt : decide ((0 : Int) < ((c :: r).length : Int)) = true := decide_eq_true (by simp only [List.length_cons]; omega)
    simp only [scan, h2] at hn
    generalize c :: r = s at hn ih' hlt
    conv at ih' in loopAt _ _ => whnf
    conv in loopAt _ _ => whnf
    rw [exL_loop]
    simp only [exL_seq, exL_region, exL_cond, exL_block, exL_skip, exL_exit, runRegion, runOps, stepOp, guardA, absOp, takeOver, opd, avOf, cvOf, St.degAt, St.put, okPV, okVal, okAV, absBin, intBin, setBoxes, if_true, Bool.false_eq_true, if_false, Option.map_some, Option.map_none, Option.bind_some, thenO, outOf, upd, isOwn, steal, appArgs, mvB, inApps, AV.deg, CV.deg, AV.isIter, Nat.reduceLT, Nat.reduceEqDiff, List.length_nil, List.length_cons, List.filterMap_cons, List.filterMap_nil, List.getElem?_cons_zero, Option.getD_some, K_hook, hookB, Nat.reduceBEq, Bool.and_false, Bool.and_self, K_P, K_own, absCall, doCall, getBoxes, lend, idx, dedup, AV.ren, CV.ren, AV.ptrs, CV.ptrs, zipBox, AV.flat, CV.flat, absLoad, setAt, absFieldAddr, LK, CV.plain, List.map_cons, List.map_nil, List.all_cons, List.all_nil, List.any_cons, List.any_nil, List.contains_cons, List.contains_nil, List.cons_append, List.nil_append, List.append_nil, List.flatMap_cons, List.flatMap_nil, List.zip_cons_cons, List.zip_nil_right, List.take_zero, List.drop_succ_cons, List.drop_zero, List.isEmpty_nil, Bool.and_true, Bool.or_true, Bool.true_or, Bool.or_false, Bool.not_true, Bool.not_false, Nat.reduceAdd, Nat.add_zero, Nat.zero_add, decide_false, AV.live, CV.live, K_keep, firstReg, Option.orElse_some, Option.orElse_none, head, keepSlots, keepBoxes, ite_self, memOK, logOps, opKey, lentBoxes, Key.clash, Key.sees, Key.writes, Nat.lt_irrefl, nobox_at, bot_at, beq_self_eq_true, ty_fieldOff_219_0, ty_szOf_217, ty_shapeT_217, ev_len_str ty_descOf_217, good_214, keep_156_2, hlt, hn]
    rw [exL_head]
    simp only [if_true, if_false, Option.map_some, upd, Nat.reduceEqDiff, Option.getD_some, List.map_cons, List.map_nil, List.contains_cons, List.contains_nil, Bool.or_false, AV.live, CV.live, firstReg, Option.orElse_some, Option.orElse_none, head, keepSlots, keepBoxes, ite_self, nobox_at, bot_at, beq_self_eq_true, keep_156_2]
    exact ih'
theorem All_den (s : List UInt8) (hs : s.length < 4000000000) : den K 156 [T s] [] = some (.ret (L ((Tk.all s).map Tok.enc)) []) := by
  refine den_run rfl rfl Tryz.func156 rfl Tryz.ntmps156 ⟨by simp, by simp [LK]⟩ ?_
  have hr : Tryz.f156.results = #[.tmp 2] := rfl
  have hl := all_loop s hs .live 0 [] rfl (by simp [TS.toks]; omega)
  conv at hl in loopAt _ _ => whnf
  obtain ⟨o, S', e2, rfl, hn, h3, et', hb⟩ := hl
  simp only [TS.toks, List.nil_append] at hb
  simp only [exL_seq, exL_region, exL_block, runRegion, runOps, stepOp, guardA, absOp, takeOver, opd, avOf, cvOf, St.degAt, St.put, okAV, setBoxes, if_true, Bool.false_eq_true, if_false, Option.map_some, Option.bind_some, thenO, upd, isOwn, steal, appArgs, mvB, inApps, AV.deg, CV.deg, AV.isIter, some_beqN, Nat.reduceLT, reduceCtorEq, Nat.reduceEqDiff, List.length_nil, List.length_cons, List.filterMap_cons, List.filterMap_nil, List.getElem?_cons_zero, List.getElem?_cons_succ, Option.getD_some, K_hook, hookB, Nat.reduceBEq, Bool.and_self, K_P, K_own, AV.ren, CV.ren, cellsOfAV, setAt, newBox, fillCells, enterSt, leave, resOf, outBoxes, lentOnly, TV.deg, TV.av, LK, CV.plain, CV.noBld, List.map_cons, List.map_nil, List.all_cons, List.all_nil, List.any_cons, List.any_nil, List.contains_nil, List.cons_append, List.nil_append, List.take_zero, List.drop_succ_cons, List.drop_zero, Bool.and_true, Bool.or_true, Bool.true_or, Bool.or_false, Bool.not_true, Bool.not_false, Nat.reduceAdd, Nat.reduceSub, Nat.reduceLeDiff, Nat.zero_add, Option.isNone_none, decide_false, and_self, Option.some.injEq, ite_self, memOK, logOps, opKey, Key.clash, Key.sees, Key.writes, Nat.lt_irrefl, beq_self_eq_true, ev_build ty_zeroCells_219 ty_placesOf_219]
  rw [exL_head]
  simp only [if_true, if_false, Option.map_some, upd, Nat.reduceEqDiff, List.getElem?_cons_succ, Option.getD_some, List.map_cons, List.map_nil, List.contains_cons, List.contains_nil, Bool.or_false, Nat.reduceSub, Nat.reduceLeDiff, AV.live, CV.live, firstReg, Option.orElse_some, Option.orElse_none, head, keepSlots, keepBoxes, beq_self_eq_true, keep_156_2]
  erw [e2]
  simp only [exL_seq, exL_region, exL_ret, runRegion, runOps, stepOp, guardA, absOp, takeOver, opd, St.degAt, St.put, okVal, okAV, setBoxes, if_true, Bool.false_eq_true, if_false, Option.map_some, Option.bind_some, thenO, outOf, upd, List.toList_toArray, isOwn, steal, appArgs, mvB, inApps, AV.deg, CV.deg, AV.gv, AV.isIter, Nat.reduceLT, Nat.reduceEqDiff, List.length_nil, List.length_cons, List.filterMap_cons, List.filterMap_nil, List.getElem?_cons_zero, List.getElem?_cons_succ, K_hook, hookB, Nat.reduceBEq, Bool.and_self, K_P, absLoad, setAt, absFieldAddr, resVars, resVar, CV.plain, List.all_cons, List.all_nil, List.any_cons, List.any_nil, List.contains_cons, List.contains_nil, List.cons_append, List.nil_append, List.append_nil, List.take_succ_cons, List.take_zero, List.drop_succ_cons, List.drop_nil, Bool.and_true, Bool.or_true, Bool.true_or, Bool.or_false, Bool.not_true, Bool.not_false, Nat.reduceAdd, Nat.zero_add, decide_false, List.toList_toArray, Option.some.injEq, ite_self, memOK, logOps, opKey, Key.clash, Key.sees, Key.writes, Nat.lt_irrefl, beq_self_eq_true, ty_fieldOff_219_1, ty_szOf_90, ty_shapeT_90, hr, hn, h3, hb]
end Go.Abs
namespace Go.Abs
open Go Go.Proofs
set_option maxRecDepth 10000
attribute [local go_sem] exL_seq exL_region exL_cond exL_block exL_scope exL_ret exL_skip exL_exit runRegion runOps stepOp guardA absOp takeOver opd avOf cvOf St.degAt St.put okPV okVal okAV absBin intBin strBin boolBin setBoxes if_true Bool.false_eq_true if_false Option.map_some Option.map_none Option.bind_some Option.bind_none thenO outOf upd List.toList_toArray isOwn steal appArgs mvB inApps AV.deg CV.deg AV.gv AV.isIter absNext some_bne some_beqN List.length_nil List.length_cons List.filterMap_cons List.filterMap_nil beq_iff_eq List.getElem?_cons_zero List.getElem?_cons_succ Option.getD_some K_hook hookB Bool.false_and Bool.and_false Bool.and_self K_P K_own absCall doCall getBoxes lend back idx dedup AV.ren CV.ren TV.ren AV.ptrs CV.ptrs zipBox AV.flat CV.flat absLoad absStore cellsOfAV setAt newBox markB bldTypes absFieldAddr absField absExtract absAssert noAssert absMkIface ifcOf CV.pv? content pushHead ownT fillCells reps pvs chunks enterSt leave resOf resVars resVar outBoxes lentOnly TV.deg TV.av LK CV.plain CV.noBld nilBin absUn bound List.map_cons List.map_nil List.all_cons List.all_nil List.any_cons List.any_nil List.contains_cons List.contains_nil List.elem_cons List.elem_nil List.cons_append List.nil_append List.append_nil List.flatMap_cons List.flatMap_nil List.zip_cons_cons List.zip_nil_left List.zip_nil_right List.take_succ_cons List.take_zero List.take_nil List.drop_succ_cons List.drop_zero List.drop_nil List.isEmpty_nil List.isEmpty_cons Bool.and_true Bool.true_and Bool.or_true Bool.true_or Bool.or_false Bool.false_or Bool.not_true Bool.not_false Nat.add_zero Nat.zero_add Option.isNone_none Option.isNone_some Option.getD_none true_and and_true not_true_eq_false not_false_eq_true decide_true decide_false Nat.le_refl and_self Bool.not_eq_true Nat.sub_self or_true true_or Option.some.injEq List.length_map List.nil_eq and_false false_and AV.live CV.live CV.liveIn K_keep firstReg Option.orElse_some Option.orElse_none head keepSlots keepBoxes Int.lt_irrefl List.length_append ite_self memOK logOps opKey lentBoxes Key.clash Key.sees Key.writes Nat.lt_irrefl gt_iff_lt nobox_at bot_at false_or or_false beq_self_eq_true Bool.true_beq Bool.false_beq
abbrev theseH (a b : List Tok) (i : Nat) : St := { sl := upd (upd (upd (upd bot 17 (I i)) 16 (I b.length)) 15 (L (b.map Tok.enc))) 5 (L (a.map Tok.enc)), bx := nobox, nt := 29 }
theorem these_loop (a b : List Tok) (hab : a.length = b.length) (ha : lenOk a.length) : ∀ (ra rb : List Tok) (i : Nat), a.drop i = ra → b.drop i = rb → i ≤ a.length →
    Ends (exL K 174 (.loop (loopAt Tryz.f174 5)) (theseH a b i)) fun o S => (ra = rb ∧ o = .exit 0 ∧ S.nt = 29) ∨ (ra ≠ rb ∧ o = .ret ∧ S.sl 4 = B false) := by
  intro ra
  induction ra with
  | nil =>
    intro rb i hda hdb hi
    have hin : i = b.length := by
      have := List.drop_eq_nil_iff.1 hda
      omega
    obtain rfl : rb = [] := by rw [← hdb, hin, List.drop_length]
    subst hin
    conv in loopAt _ _ => whnf
    rw [exL_loop]
    simp only [go_sem, Nat.reduceLT, reduceCtorEq, Nat.reduceEqDiff, Nat.reduceBEq, keep_174_5, ends_some]
  | cons x ra ih =>
    intro rb i hda hdb hi
    obtain ⟨g1, g2, g3⟩ := drop_cons hda
    cases rb with
    | nil =>
      have := List.drop_eq_nil_iff.1 hdb
      omega
    | cons y rb =>
      obtain ⟨k1, k2, k3⟩ := drop_cons hdb
      have hlt : decide ((i : Int) < (b.length : Int)) = true := decide_eq_true (by omega)
      have ga := enc_at a i x g1
      have gb := enc_at b i y k1
      have hi2 : i < 9223372036854775807 := by unfold lenOk at ha; omega
      have heq := tok_eq x.kind y.kind x.n y.n x.text y.text
      rw [tok_beq] at heq
      have ih' := ih rb (i + 1) g2 k2 (by omega)
      conv at ih' in loopAt _ _ => whnf
      conv in loopAt _ _ => whnf
      rw [exL_loop]
      by_cases hxy : x = y
      · rw [decide_eq_true hxy] at heq
        have hv : (x :: ra = y :: rb) = (ra = rb) := by simp [hxy]
        have hv2 : (x :: ra ≠ y :: rb) = (ra ≠ rb) := by simp [hxy]
        rw [hv, hv2]
        simp only [go_sem, Nat.reduceLT, Nat.reduceEqDiff, Nat.reduceBEq, Nat.reduceAdd, ev_indexAddr ty_descOf_90, ty_szOf_47, ty_shapeT_47, ty_zeroCells_47, keep_174_5, hlt, ga, gb, heq, Int.natCast_nonneg, wrap_nat i hi2]
        rw [exL_head]
        simp only [go_sem, Nat.reduceEqDiff, keep_174_5]
        exact ih'
      · rw [decide_eq_false hxy] at heq
        have hv : (x :: ra = y :: rb) = False := by simp [hxy]
        have hv2 : (x :: ra ≠ y :: rb) = True := by simp [hxy]
        rw [hv, hv2]
        simp only [go_sem, Nat.reduceLT, Nat.reduceEqDiff, Nat.reduceBEq, Nat.reduceAdd, ev_indexAddr ty_descOf_90, ty_szOf_47, ty_shapeT_47, ty_zeroCells_47, keep_174_5, hlt, ga, gb, heq, Int.natCast_nonneg, ends_some]
theorem these_den (s : List UInt8) (b : List Tok) (hs : s.length < 4000000000) (hb : lenOk b.length) : den K 174 [T s, L (b.map Tok.enc)] [] = some (.ret (B (decide (Tk.all s = b))) []) := by
  have hall := All_den s hs
  have hlen : (Tk.all s).length ≤ s.length := Tk.all_len s
  generalize Tk.all s = a at hall hlen
  refine den_run rfl rfl Tryz.func174 rfl Tryz.ntmps174 ⟨by simp, by simp [LK]⟩ ?_
  have hr : Tryz.f174.results = #[.tmp 4] := rfl
  by_cases hab : a.length = b.length
  · have e : ((a.length : Int) != (b.length : Int)) = false := by rw [hab]; simp
    have hl := these_loop a b hab (by unfold lenOk; omega) a b 0 rfl rfl (by omega)
    conv at hl in loopAt _ _ => whnf
    obtain ⟨o, S', e2, h⟩ := hl
    simp only [go_sem, Nat.reduceLT, reduceCtorEq, Nat.reduceEqDiff, Nat.reduceBEq, Nat.reduceAdd, good_156, ev_len_sl ty_descOf_90, hall, e]
    rw [exL_head]
    simp only [go_sem, Nat.reduceEqDiff, keep_174_5]
    erw [e2]
    rcases h with ⟨h1, rfl, h2⟩ | ⟨h1, rfl, h2⟩
    · rw [decide_eq_true h1]
      simp only [go_sem, Nat.reduceLT, Nat.reduceBEq, hr, h2]
    · rw [decide_eq_false h1]
      simp only [go_sem, hr, h2]
  · have e : ((a.length : Int) != (b.length : Int)) = true := by rw [bne_iff_ne]; omega
    have hne : a ≠ b := fun h => hab (by rw [h])
    rw [decide_eq_false hne]
    simp only [go_sem, Nat.reduceLT, reduceCtorEq, Nat.reduceEqDiff, Nat.reduceBEq, Nat.reduceAdd, good_156, ev_len_sl ty_descOf_90, hr, hall, e]
theorem one_len (t : Tok) (hn : I64 t.n) : (oneS t).length ≤ t.text.length + 21 := by
  have h := itoa_len hn
  unfold oneS
  repeat' split
  all_goals simp
  all_goals omega
theorem May_den (t : Tok) (hn : I64 t.n) (hl : t.text.length < 1000000000) : den K 113 [.agg t.cells] [] = some (.ret (B (Tk.may t)) []) := by
  have h1 := One_den t hn (by omega)
  have h2 := these_den (oneS t) [t] (by have := one_len t hn; omega) (by simp [lenOk])
  unfold Tk.may
  simp only [List.map_cons, List.map_nil, Tok.enc, Tok.cells] at h1 h2
  simp only [Tok.cells]
  refine den_run rfl rfl Tryz.func113 rfl Tryz.ntmps113 ⟨by simp, by simp [LK]⟩ ?_
  have hr : Tryz.f113.results = #[.tmp 2] := rfl
  simp only [go_sem, Nat.reduceLT, Nat.reduceEqDiff, Nat.reduceBEq, Nat.reduceAdd, Nat.reduceSub, Nat.reduceLeDiff, Nat.reduceMul, ty_shapeT_47, good_175, ev_buildSlice (len := 1) ty_descOf_90 ty_szOf_47 ty_zeroCells_47 ⟨rfl, by decide, by decide⟩, good_174, hr, h1, h2]
end Go.Abs
namespace Go.Abs
open Go Go.Proofs
set_option maxRecDepth 10000
attribute [local go_sem] exL_seq exL_region exL_cond exL_block exL_scope exL_ret exL_skip exL_exit runRegion runOps stepOp guardA absOp takeOver opd avOf cvOf St.degAt St.put okPV okVal okAV absBin intBin strBin boolBin setBoxes if_true Bool.false_eq_true if_false Option.map_some Option.map_none Option.bind_some Option.bind_none thenO outOf upd List.toList_toArray isOwn steal appArgs mvB inApps AV.deg CV.deg AV.gv AV.isIter absNext some_bne some_beqN List.length_nil List.length_cons List.filterMap_cons List.filterMap_nil beq_iff_eq List.getElem?_cons_zero List.getElem?_cons_succ Option.getD_some K_hook hookB Bool.false_and Bool.and_false Bool.and_self K_P K_own absCall doCall getBoxes lend back idx dedup AV.ren CV.ren TV.ren AV.ptrs CV.ptrs zipBox AV.flat CV.flat absLoad absStore cellsOfAV setAt newBox markB bldTypes absFieldAddr absField absExtract absAssert noAssert absMkIface ifcOf CV.pv? content pushHead ownT fillCells reps pvs chunks enterSt leave resOf resVars resVar outBoxes lentOnly TV.deg TV.av LK CV.plain CV.noBld nilBin absUn bound List.map_cons List.map_nil List.all_cons List.all_nil List.any_cons List.any_nil List.contains_cons List.contains_nil List.elem_cons List.elem_nil List.cons_append List.nil_append List.append_nil List.flatMap_cons List.flatMap_nil List.zip_cons_cons List.zip_nil_left List.zip_nil_right List.take_succ_cons List.take_zero List.take_nil List.drop_succ_cons List.drop_zero List.drop_nil List.isEmpty_nil List.isEmpty_cons Bool.and_true Bool.true_and Bool.or_true Bool.true_or Bool.or_false Bool.false_or Bool.not_true Bool.not_false Nat.add_zero Nat.zero_add Option.isNone_none Option.isNone_some Option.getD_none true_and and_true not_true_eq_false not_false_eq_true decide_true decide_false Nat.le_refl and_self Bool.not_eq_true Nat.sub_self or_true true_or Option.some.injEq List.length_map List.nil_eq and_false false_and AV.live CV.live CV.liveIn K_keep firstReg Option.orElse_some Option.orElse_none head keepSlots keepBoxes Int.lt_irrefl List.length_append ite_self memOK logOps opKey lentBoxes Key.clash Key.sees Key.writes Nat.lt_irrefl gt_iff_lt nobox_at bot_at false_or or_false beq_self_eq_true Bool.true_beq Bool.false_beq
def classI (c : UInt8) : Int := if Tk.begins c then 1 else if Tk.digit c then 2 else if c == 45 then 3 else if Tk.blank c then 4 else 0
def isI (v : Int) : Option Res → Bool
  | some (.ret (.c (.pv (.int .i64 n))) []) => n == v
  | _ => false
theorem isI_iff {v : Int} {r : Option Res} (h : isI v r = true) : r = some (.ret (I v) []) := by
  unfold isI at h
  split at h
  · rename_i n
    have : n = v := by simpa using h
    rw [this]
  · cases h
theorem class_all : (List.range 256).all (fun n => isI (classI (UInt8.ofNat n)) (callN K 5 223 [.c (.pv (.int .u8 (n : Nat)))] [])) = true := by kernel_rfl
theorem class_den (c : UInt8) : den K 223 [U c] [] = some (.ret (I (classI c)) []) := by
  have h := List.all_eq_true.1 class_all c.toNat (List.mem_range.2 c.toNat_lt)
  have h2 := isI_iff h
  rw [UInt8.ofNat_toNat] at h2
  exact den_iff.2 ⟨5, h2⟩
theorem class_facts_all : (List.range 256).all (fun n => let c := UInt8.ofNat n; ((classI c == 1) == Tk.begins c) && ((classI c == 2) == Tk.digit c) && ((classI c == 3) == (c == 45)) && ((classI c == 4) == Tk.blank c) && ((decide (1 ≤ classI c) && decide (classI c ≤ 3)) == Tk.within c)) = true := by kernel_rfl
theorem class_facts (c : UInt8) : (classI c == 1) = Tk.begins c ∧ (classI c == 2) = Tk.digit c ∧ (classI c == 3) = (c == 45) ∧ (classI c == 4) = Tk.blank c ∧ (decide (1 ≤ classI c) && decide (classI c ≤ 3)) = Tk.within c := by
  have h := List.all_eq_true.1 class_facts_all c.toNat (List.mem_range.2 c.toNat_lt)
  simp only [UInt8.ofNat_toNat, Bool.and_eq_true, beq_iff_eq] at h
  obtain ⟨⟨⟨⟨h1, h2⟩, h3⟩, h4⟩, h5⟩ := h
  exact ⟨h1, h2, h3, h4, h5⟩
def atC : List UInt8 → Int
  | [] => -1
  | c :: _ => classI c
theorem atC_facts (l : List UInt8) : (atC l == 1) = Tk.begins (Tk.at0 l) ∧ (atC l == 2) = Tk.digit (Tk.at0 l) ∧ (atC l == 3) = (Tk.at0 l == 45) ∧ (atC l == 4) = Tk.blank (Tk.at0 l) ∧ (decide (1 ≤ atC l) && decide (atC l ≤ 3)) = Tk.within (Tk.at0 l) := by
  cases l with
  | nil => decide
  | cons c r => exact class_facts c
theorem at1_den (s : List UInt8) (i : Nat) (hs : s.length < 4000000000) : den K 186 [T s, I i] [] = some (.ret (I (atC (s.drop i))) []) := by
  refine den_run rfl rfl Tryz.func186 rfl Tryz.ntmps186 ⟨by simp, by simp [LK]⟩ ?_
  have hr : Tryz.f186.results = #[.tmp 4] := rfl
  by_cases h : i < s.length
  · have hlt : decide ((i : Int) < (s.length : Int)) = true := decide_eq_true (by omega)
    have hd := List.drop_eq_getElem_cons h
    have hg : s[i]? = some (s[i]'h) := List.getElem?_eq_getElem h
    generalize s[i]'h = c at hd hg
    rw [hd, atC]
    have hc := class_den c
    simp only [go_sem, Nat.reduceLT, reduceCtorEq, Nat.reduceEqDiff, Nat.reduceBEq, Nat.reduceAdd, ev_len_str ty_descOf_9, ev_index ty_descOf_9, good_223, hr, hlt, Int.natCast_nonneg, Int.toNat_natCast, hg, hc]
  · have hlt : decide ((i : Int) < (s.length : Int)) = false := decide_eq_false (by omega)
    rw [List.drop_eq_nil_of_le (by omega), atC]
    simp only [go_sem, Nat.reduceLT, reduceCtorEq, Nat.reduceEqDiff, Nat.reduceBEq, Nat.reduceAdd, ev_len_str ty_descOf_9, ev_index ty_descOf_9, good_223, hr, hlt]
theorem Begins_den (s : List UInt8) (i : Nat) (hs : s.length < 4000000000) (hi : i ≤ s.length) : den K 189 [T s, I i] [] = some (.ret (B (Tk.nameB (s.drop i))) []) := by
  have d1 := at1_den s i hs
  have d2 := at1_den s (i + 1) hs
  obtain ⟨f1, _, f3, _, _⟩ := atC_facts (s.drop i)
  obtain ⟨g1, _, g3, _, _⟩ := atC_facts (s.drop (i + 1))
  have ht : (s.drop i).tail = s.drop (i + 1) := List.tail_drop
  unfold Tk.nameB
  rw [ht, ← f1, ← f3, ← g1, ← g3]
  generalize atC (s.drop i) = v at d1
  generalize atC (s.drop (i + 1)) = w at d2
  clear f1 f3 g1 g3 ht
  refine den_run rfl rfl Tryz.func189 rfl Tryz.ntmps189 ⟨by simp, by simp [LK]⟩ ?_
  have hr : Tryz.f189.results = #[.tmp 4] := rfl
  cases b1 : (v == 1)
  · cases b3 : (v == 3)
    · simp only [go_sem, Nat.reduceLT, reduceCtorEq, Nat.reduceEqDiff, Nat.reduceBEq, Nat.reduceAdd, good_186, hr, d1, b1, b3]
    · cases c1 : (w == 1)
      · cases c3 : (w == 3) <;> simp only [go_sem, Nat.reduceLT, reduceCtorEq, Nat.reduceEqDiff, Nat.reduceBEq, Nat.reduceAdd, good_186, hr, d1, d2, b1, b3, c1, c3, wrap_nat i (by omega)]
      · simp only [go_sem, Nat.reduceLT, reduceCtorEq, Nat.reduceEqDiff, Nat.reduceBEq, Nat.reduceAdd, good_186, hr, d1, d2, b1, b3, c1, wrap_nat i (by omega)]
  · simp only [go_sem, Nat.reduceLT, reduceCtorEq, Nat.reduceEqDiff, Nat.reduceBEq, Nat.reduceAdd, good_186, hr, d1, b1]
abbrev namesH (s : List UInt8) (i : Nat) : St := { sl := upd (upd bot 1 (I i)) 0 (T s), bx := nobox, nt := 18 }
theorem names_loop (s : List UInt8) (hs : s.length < 4000000000) : ∀ (rest : List UInt8) (i : Nat), s.drop i = rest → i ≤ s.length →
    Ends (exL K 188 (.loop (loopAt Tryz.f188 1)) (namesH s i)) fun o S => o = .exit 0 ∧ S.nt = 18 ∧ S.sl 1 = I (i + Tk.run Tk.within rest : Nat) := by
  intro rest
  induction rest with
  | nil =>
    intro i hd hi
    have d1 := at1_den s i hs
    rw [hd] at d1
    have v0 : atC [] = -1 := rfl
    rw [v0] at d1
    have e0 : decide ((1 : Int) ≤ -1) = false := by decide
    conv in loopAt _ _ => whnf
    rw [exL_loop]
    simp only [go_sem, Nat.reduceLT, reduceCtorEq, Nat.reduceEqDiff, Nat.reduceBEq, Nat.reduceAdd, good_186, keep_188_1, ends_some, d1, e0, Tk.run_nil]
  | cons c rest ih =>
    intro i hd hi
    obtain ⟨g1, g2, g3⟩ := drop_cons hd
    have d1 := at1_den s i hs
    rw [hd] at d1
    have v0 : atC (c :: rest) = classI c := rfl
    rw [v0] at d1
    obtain ⟨_, _, _, _, f⟩ := class_facts c
    have ih' := ih (i + 1) g2 (by omega)
    conv at ih' in loopAt _ _ => whnf
    conv in loopAt _ _ => whnf
    rw [exL_loop]
    cases b1 : decide (1 ≤ classI c)
    · rw [b1, Bool.false_and] at f
      have hv : Tk.run Tk.within (c :: rest) = 0 := by rw [Tk.run, ← f]; rfl
      simp only [go_sem, Nat.reduceLT, reduceCtorEq, Nat.reduceEqDiff, Nat.reduceBEq, Nat.reduceAdd, good_186, keep_188_1, ends_some, d1, b1, hv]
    · rw [b1, Bool.true_and] at f
      cases b2 : decide (classI c ≤ 3)
      · rw [b2] at f
        have hv : Tk.run Tk.within (c :: rest) = 0 := by rw [Tk.run, ← f]; rfl
        simp only [go_sem, Nat.reduceLT, reduceCtorEq, Nat.reduceEqDiff, Nat.reduceBEq, Nat.reduceAdd, good_186, keep_188_1, ends_some, d1, b1, b2, hv]
      · rw [b2] at f
        have hv : i + 1 + Tk.run Tk.within rest = i + Tk.run Tk.within (c :: rest) := by rw [Tk.run, if_pos f.symm]; omega
        rw [hv] at ih'
        simp only [go_sem, Nat.reduceLT, reduceCtorEq, Nat.reduceEqDiff, Nat.reduceBEq, Nat.reduceAdd, good_186, keep_188_1, d1, b1, b2, wrap_nat i (by omega)]
        rw [exL_head]
        simp only [go_sem, reduceCtorEq, Nat.reduceEqDiff, keep_188_1]
        exact ih'
theorem names_den (s : List UInt8) (i : Nat) (hs : s.length < 4000000000) (hi : i ≤ s.length) : den K 188 [T s, I i] [] = some (.ret (I (i + Tk.run Tk.within (s.drop i) : Nat)) []) := by
  refine den_run rfl rfl Tryz.func188 rfl Tryz.ntmps188 ⟨by simp, by simp [LK]⟩ ?_
  have hr : Tryz.f188.results = #[.tmp 4] := rfl
  have hl := names_loop s hs (s.drop i) i rfl hi
  conv at hl in loopAt _ _ => whnf
  obtain ⟨o, S', w, rfl, hn, h1⟩ := hl
  simp only [go_sem, Nat.reduceLT, Nat.reduceBEq]
  rw [exL_head]
  simp only [go_sem, reduceCtorEq, Nat.reduceEqDiff, keep_188_1]
  erw [w]
  simp only [go_sem, Nat.reduceLT, Nat.reduceEqDiff, Nat.reduceBEq, Nat.reduceAdd, hr, hn, h1]
abbrev comH (s : List UInt8) (k : Nat) : St := { sl := upd (upd bot 5 (I k)) 0 (T s), bx := nobox, nt := 30 }
theorem com_loop (s : List UInt8) (hs : s.length < 4000000000) : ∀ (rest : List UInt8) (k : Nat), s.drop k = rest → k ≤ s.length →
    Ends (exL K 185 (.loop (loopAt Tryz.f185 2)) (comH s k)) fun o S => (∃ n, Tk.shut rest = some n ∧ o = .ret ∧ S.sl 4 = I (k + n : Nat)) ∨ (Tk.shut rest = none ∧ o = .exit 0 ∧ S.nt = 30 ∧ S.sl 0 = T s) := by
  intro rest
  induction rest with
  | nil =>
    intro k hd hk
    have hin : k = s.length := by
      have := List.drop_eq_nil_iff.1 hd
      omega
    subst hin
    have w1 := wrap_nat s.length (by omega)
    have e0 : decide (((s.length + 1 : Nat) : Int) < (s.length : Int)) = false := decide_eq_false (by omega)
    have hv : Tk.shut [] = none := rfl
    conv in loopAt _ _ => whnf
    rw [exL_loop]
    simp only [go_sem, Nat.reduceLT, reduceCtorEq, Nat.reduceEqDiff, Nat.reduceBEq, Nat.reduceAdd, ev_len_str ty_descOf_9, keep_185_2, ends_some, w1, e0, hv]
  | cons c rest ih =>
    intro k hd hk
    obtain ⟨g1, g2, g3⟩ := drop_cons hd
    have w1 := wrap_nat k (by omega)
    have e42 : ((c.toNat : Int) == 42) = (c == 42) := u8_beq c 42
    cases rest with
    | nil =>
      have hl : k + 1 = s.length := by
        have := List.drop_eq_nil_iff.1 g2
        omega
      have e0 : decide (((k + 1 : Nat) : Int) < (s.length : Int)) = false := decide_eq_false (by omega)
      have hv : Tk.shut [c] = none := by
        rw [Tk.shut, if_neg (fun h => absurd h.2 (by decide))]; rfl
      conv in loopAt _ _ => whnf
      rw [exL_loop]
      simp only [go_sem, Nat.reduceLT, reduceCtorEq, Nat.reduceEqDiff, Nat.reduceBEq, Nat.reduceAdd, ev_len_str ty_descOf_9, keep_185_2, ends_some, w1, e0, hv]
    | cons d rest =>
      obtain ⟨k1, k2, k3⟩ := drop_cons g2
      have e0 : decide (((k + 1 : Nat) : Int) < (s.length : Int)) = true := decide_eq_true (by omega)
      have e47 : ((d.toNat : Int) == 47) = (d == 47) := u8_beq d 47
      have w2 : IntKind.i64.wrap ((k : Int) + 2) = ((k + 2 : Nat) : Int) := by rw [IntWalk.i64_in _ (by omega)]; rfl
      have ih' := ih (k + 1) g2 (by omega)
      conv at ih' in loopAt _ _ => whnf
      conv in loopAt _ _ => whnf
      rw [exL_loop]
      by_cases hc : c = 42 ∧ d = 47
      · have hv : Tk.shut (c :: d :: rest) = some 2 := by rw [Tk.shut, if_pos ⟨hc.1, hc.2⟩]
        have q1 : (c == 42) = true := by simp [hc.1]
        have q2 : (d == 47) = true := by simp [hc.2]
        rw [q1] at e42
        rw [q2] at e47
        simp only [go_sem, Nat.reduceLT, reduceCtorEq, Nat.reduceEqDiff, Nat.reduceBEq, Nat.reduceAdd, ev_len_str ty_descOf_9, ev_index ty_descOf_9, keep_185_2, ends_some, w1, w2, e0, hv, g1, k1, e42, e47, Int.natCast_nonneg, Int.toNat_natCast]
        simp
      · have hv : Tk.shut (c :: d :: rest) = (Tk.shut (d :: rest)).map (· + 1) := by rw [Tk.shut, if_neg (show ¬ (c = 42 ∧ Tk.at0 (d :: rest) = 47) from hc)]
        rw [hv]
        have fin : ∀ {r : Option (Out × St)}, Ends r (fun o S => (∃ n, Tk.shut (d :: rest) = some n ∧ o = .ret ∧ S.sl 4 = I (k + 1 + n : Nat)) ∨ (Tk.shut (d :: rest) = none ∧ o = .exit 0 ∧ S.nt = 30 ∧ S.sl 0 = T s)) → Ends r (fun o S => (∃ n, (Tk.shut (d :: rest)).map (· + 1) = some n ∧ o = .ret ∧ S.sl 4 = I (k + n : Nat)) ∨ ((Tk.shut (d :: rest)).map (· + 1) = none ∧ o = .exit 0 ∧ S.nt = 30 ∧ S.sl 0 = T s)) := by
          rintro r ⟨o, S, e, h⟩
          refine ⟨o, S, e, ?_⟩
          rcases h with ⟨n, h1, h2, h3⟩ | ⟨h1, h2⟩
          · left; exact ⟨n + 1, by rw [h1]; rfl, h2, by rw [h3, show k + 1 + n = k + (n + 1) by omega]⟩
          · right; exact ⟨by rw [h1]; rfl, h2⟩
        refine fin ?_
        cases q1 : (c == 42)
        · rw [q1] at e42
          simp only [go_sem, Nat.reduceLT, reduceCtorEq, Nat.reduceEqDiff, Nat.reduceBEq, Nat.reduceAdd, ev_len_str ty_descOf_9, ev_index ty_descOf_9, keep_185_2, w1, e0, g1, e42, Int.natCast_nonneg, Int.toNat_natCast]
          rw [exL_head]
          simp only [go_sem, reduceCtorEq, Nat.reduceEqDiff, keep_185_2]
          exact ih'
        · rw [q1] at e42
          have q2 : (d == 47) = false := by
            rw [beq_eq_false_iff_ne]; intro h; exact hc ⟨by simpa using q1, h⟩
          rw [q2] at e47
          simp only [go_sem, Nat.reduceLT, reduceCtorEq, Nat.reduceEqDiff, Nat.reduceBEq, Nat.reduceAdd, ev_len_str ty_descOf_9, ev_index ty_descOf_9, keep_185_2, w1, e0, g1, k1, e42, e47, Int.natCast_nonneg, Int.toNat_natCast]
          rw [exL_head]
          simp only [go_sem, reduceCtorEq, Nat.reduceEqDiff, keep_185_2]
          exact ih'
theorem comment1_den (s : List UInt8) (i : Nat) (hs : s.length < 4000000000) (hi : i + 2 ≤ s.length) : den K 185 [T s, I i] [] = some (.ret (I (i + Tk.comment (s.drop (i + 2)) : Nat)) []) := by
  refine den_run rfl rfl Tryz.func185 rfl Tryz.ntmps185 ⟨by simp, by simp [LK]⟩ ?_
  have hr : Tryz.f185.results = #[.tmp 4] := rfl
  have w2 : IntKind.i64.wrap ((i : Int) + 2) = ((i + 2 : Nat) : Int) := by rw [IntWalk.i64_in _ (by omega)]; rfl
  have hl := com_loop s hs (s.drop (i + 2)) (i + 2) rfl hi
  conv at hl in loopAt _ _ => whnf
  obtain ⟨o, S', w, h⟩ := hl
  simp only [go_sem, Nat.reduceLT, Nat.reduceEqDiff, Nat.reduceBEq, Nat.reduceAdd, w2]
  rw [exL_head]
  simp only [go_sem, reduceCtorEq, Nat.reduceEqDiff, keep_185_2]
  erw [w]
  unfold Tk.comment
  rcases h with ⟨n, h1, rfl, h2⟩ | ⟨h1, rfl, h2, h3⟩
  · rw [h1]
    have e : i + 2 + n = i + (n + 2) := by omega
    rw [e] at h2
    simp only [go_sem, hr, h2]
  · rw [h1]
    have e : i + ((s.drop (i + 2)).length + 2) = s.length := by rw [List.length_drop]; omega
    simp only [e]
    simp only [go_sem, Nat.reduceLT, Nat.reduceEqDiff, Nat.reduceBEq, Nat.reduceAdd, ev_len_str ty_descOf_9, hr, h2, h3]
end Go.Abs
