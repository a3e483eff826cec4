/-
  THE ABSTRACT INTERPRETER: operations that touch no memory: what it answers is what the model's operation yields.
-/
import Derived.Test.YtcnodcgdceoijaaDoorAbsRel
set_option linter.unusedSimpArgs false
set_option linter.unusedVariables false
namespace Go.Abs
open Go

section
variable {P : Program} {G : Gh} {w : World}

theorem RA.intv {ℓ : Own} {k : IntKind} {n : Int} {x : Value} (h : RA G w ℓ (.c (.pv (.int k n))) x) : x = .int k n := by
  have h' : RP G.I (.int k n) x := h; cases h'; rfl
theorem RA.boolv {ℓ : Own} {b : Bool} {x : Value} (h : RA G w ℓ (.c (.pv (.bool b))) x) : x = .bool b := by
  have h' : RP G.I (.bool b) x := h; cases h'; rfl
theorem RA.strv {ℓ : Own} {s : List UInt8} {x : Value} (h : RA G w ℓ (.c (.pv (.str s))) x) : x = .string (ByteArray.mk s.toArray) := by
  have h' : RP G.I (.str s) x := h; cases h'; rfl

theorem pvs_RP : ∀ {l : List CV} {m : List PV} {vs : List Value}, pvs l = some m → All2 (RN G) l vs → All2 (RP G.I) m vs
  | [], m, _, h, .nil => by simp [pvs] at h; subst h; exact .nil
  | v :: l, m, x :: vs, h, .cons h1 h2 => by
    unfold pvs at h
    split at h
    · rename_i p m' hp hm
      simp at h; subst h
      refine .cons ?_ (pvs_RP hm h2)
      cases v <;> simp [CV.pv?] at hp <;> subst hp
      · exact h1
      · exact False.elim h1
      · have : x = _ := h1; subst this; exact .sl0 _ _
    · cases h

theorem part_one {t : TypeId} {d : TypeDesc} {cs : Array Value} {o : Nat} {x : Value} (hd : P.underlying t = some d) (ht : (match d with | .struct _ | .array _ _ => true | _ => false) = false) (hc : cs[o]? = some x) :
    (part t cs o).run P w = .ok x w := by
  unfold part isAgg
  simp only [Sem.run_bind, run_underlying hd, Result.andThen_ok]
  cases d <;> simp at ht <;> simp [hc]

theorem run_sizeOf' {t : TypeId} {n : Nat} (h : szOf P t = some n) : (sizeOf t).run P w = .ok n w := by
  unfold szOf at h
  cases hi : P.info? t with
  | none => simp [hi] at h
  | some i => simp [hi] at h; simp [sizeOf, typeInfo, hi, h]

theorem eqFields_ok (d : Nat) : ∀ (fs : List Field) (k : Nat) (l m : List PV) (xs ys : List Value) (X Y : Array Value) (r : Bool),
    fieldsEq P fs k l m = some r → All2 (RP G.I) l xs → All2 (RP G.I) m ys → (∀ (j : Nat) (x : Value), xs[j]? = some x → X[k + j]? = some x) → (∀ (j : Nat) (y : Value), ys[j]? = some y → Y[k + j]? = some y) →
    (Op.eqFields (d + 1) X Y fs).run P w = .ok r w
  | [], k, l, m, xs, ys, X, Y, r, hr, _, _, _, _ => by
    cases l <;> cases m <;> simp [fieldsEq] at hr
    subst hr; simp [Op.eqFields]
  | f :: fs, k, l, m, xs, ys, X, Y, r, hr, hl, hm, hX, hY => by
    cases hl with
    | nil => simp [fieldsEq] at hr
    | cons hp hl =>
    cases hm with
    | nil => simp [fieldsEq] at hr
    | cons hq hm =>
    rename_i x p xs y q ys
    unfold fieldsEq at hr
    split at hr
    case isFalse => cases hr
    rename_i hc
    simp only [Bool.and_eq_true, beq_iff_eq, bne_iff_ne, ne_eq] at hc
    obtain ⟨ho, hn⟩ := hc
    have hx0 := hX 0 _ rfl
    have hy0 := hY 0 _ rfl
    simp only [Nat.add_zero, ← ho] at hx0 hy0
    have next : ∀ b, fieldsEq P fs (k + 1) _ _ = some b → (Op.eqFields (d + 1) X Y fs).run P w = .ok b w := fun b hb =>
      eqFields_ok d fs (k + 1) _ _ _ _ X Y b hb hl hm (fun j z hz => by have := hX (j + 1) z (by simpa using hz); rw [← this]; congr 1; omega)
        (fun j z hz => by have := hY (j + 1) z (by simpa using hz); rw [← this]; congr 1; omega)
    split at hr
    · rename_i u v hu
      cases hp; cases hq
      simp only [Option.map_eq_some_iff] at hr
      obtain ⟨b, hb, rfl⟩ := hr
      have hpa := part_one (P := P) (w := w) (t := f.type) hu rfl hx0
      have hpb := part_one (P := P) (w := w) (t := f.type) hu rfl hy0
      simp only [Op.eqFields, if_pos hn, Sem.run_bind, hpa, hpb, run_equalIn_bool' w d _ _ _ hu, Result.andThen_ok, Sem.run_ite, Sem.run_pure, next b hb]
      cases hh : (u == v) <;> simp
    · rename_i kk i u j v hu
      cases hp; cases hq
      split at hr
      case isFalse => cases hr
      rename_i hij; subst hij
      simp only [Option.map_eq_some_iff] at hr
      obtain ⟨b, hb, rfl⟩ := hr
      have hpa := part_one (P := P) (w := w) (t := f.type) hu rfl hx0
      have hpb := part_one (P := P) (w := w) (t := f.type) hu rfl hy0
      simp only [Op.eqFields, if_pos hn, Sem.run_bind, hpa, hpb, run_equalIn_int w d _ _ _ _ _ hu, Result.andThen_ok, Sem.run_ite, Sem.run_pure, next b hb]
      cases hh : (u == v) <;> simp
    · rename_i u v hu
      cases hp; cases hq
      simp only [Option.map_eq_some_iff] at hr
      obtain ⟨b, hb, rfl⟩ := hr
      have hpa := part_one (P := P) (w := w) (t := f.type) hu rfl hx0
      have hpb := part_one (P := P) (w := w) (t := f.type) hu rfl hy0
      simp only [Op.eqFields, if_pos hn, Sem.run_bind, hpa, hpb, run_equalIn_string w d _ _ _ hu, ByteArray.toList_mk, Result.andThen_ok, Sem.run_ite, Sem.run_pure, next b hb]
      cases hh : (u == v) <;> simp
    · cases hr

theorem int_ok {op : BinOp} {t : TypeId} {k : IntKind} {a b : Int} {p : PV} (h : intBin op k a b = some p) :
    ∃ z, (Go.binOp op t (.int k a) (.int k b)).run P w = .ok z w ∧ RP G.I p z := by
  cases op <;> simp only [intBin] at h
  case add => cases h; exact ⟨_, by simp [Go.binOp, Op.intArith], .int _ _⟩
  case sub => cases h; exact ⟨_, by simp [Go.binOp, Op.intArith], .int _ _⟩
  case mul => cases h; exact ⟨_, by simp [Go.binOp, Op.intArith], .int _ _⟩
  case quo =>
    split at h
    · cases h
    · rename_i hb; cases h; exact ⟨_, by simp [Go.binOp, Op.intDiv, hb], .int _ _⟩
  case rem =>
    split at h
    · cases h
    · rename_i hb; cases h; exact ⟨_, by simp [Go.binOp, Op.intDiv, hb], .int _ _⟩
  case eql => cases h; exact ⟨_, by simp [Go.binOp, Op.intCmp], .bool _⟩
  case neq => cases h; exact ⟨_, by simp [Go.binOp, Op.intCmp], .bool _⟩
  case lss => cases h; exact ⟨_, by simp [Go.binOp, Op.intCmp], .bool _⟩
  case leq => cases h; exact ⟨_, by simp [Go.binOp, Op.intCmp], .bool _⟩
  case gtr => cases h; exact ⟨_, by simp [Go.binOp, Op.intCmp], .bool _⟩
  case geq => cases h; exact ⟨_, by simp [Go.binOp, Op.intCmp], .bool _⟩
  all_goals cases h

theorem str_ok {op : BinOp} {t : TypeId} {a b : List UInt8} {p : PV} (h : strBin op a b = some p) :
    ∃ z, (Go.binOp op t (.string (ByteArray.mk a.toArray)) (.string (ByteArray.mk b.toArray))).run P w = .ok z w ∧ RP G.I p z := by
  cases op <;> simp only [strBin] at h
  case add =>
    split at h
    case isFalse => cases h
    rename_i hl
    cases h
    refine ⟨_, ?_, .str _⟩
    rw [binOp_string_add, run_string_add_sum _ _ _ (by show a.toArray.size + b.toArray.size ≤ _; simp [strLim] at hl ⊢; omega), ByteArray.mk_append_mk]
  case eql => cases h; exact ⟨_, by simp [Go.binOp, Op.stringOp], .bool _⟩
  case neq =>
    cases h
    refine ⟨.bool !(a == b), by simp [Go.binOp, Op.stringOp], ?_⟩
    have : (a != b) = !(a == b) := rfl
    rw [this]; exact .bool _
  case lss => cases h; exact ⟨_, by simp [Go.binOp, Op.stringOp], .bool _⟩
  case leq => cases h; exact ⟨_, by simp [Go.binOp, Op.stringOp], .bool _⟩
  case gtr =>
    cases h
    refine ⟨.bool !(Op.bytesLess a b || a == b), by simp [Go.binOp, Op.stringOp], .bool _⟩
  case geq => cases h; exact ⟨_, by simp [Go.binOp, Op.stringOp], .bool _⟩
  all_goals cases h

theorem eqIn_ptr (d : Nat) (t e : TypeId) (hu : P.underlying t = some (.pointer e)) (a b : Option Addr) (r : Bool)
    (h : (a = none ∧ b = none ∧ r = true) ∨ (a.isSome = true ∧ b = none ∧ r = false) ∨ (a = none ∧ b.isSome = true ∧ r = false)) :
    (Op.equalIn (d + 1) t (.pointer a) (.pointer b)).run P w = .ok r w := by
  rcases h with ⟨rfl, rfl, rfl⟩ | ⟨h, rfl, rfl⟩ | ⟨rfl, h, rfl⟩
  · simp [Op.equalIn, run_underlying hu]
  · obtain ⟨a, rfl⟩ := Option.isSome_iff_exists.1 h
    simp [Op.equalIn, run_underlying hu]
  · obtain ⟨b, rfl⟩ := Option.isSome_iff_exists.1 h
    simp [Op.equalIn, run_underlying hu]

theorem nil_ok {op : BinOp} {t e : TypeId} (hu : P.underlying t = some (.pointer e)) {a b : Option Addr} {r : Bool} {p : PV} (h : nilBin op r = some p)
    (hr : (a = none ∧ b = none ∧ r = true) ∨ (a.isSome = true ∧ b = none ∧ r = false) ∨ (a = none ∧ b.isSome = true ∧ r = false)) (ox oy : Operand) :
    ∃ z, ((do eqGuard op t ox oy (.pointer a) (.pointer b); Go.binOp op t (.pointer a) (.pointer b)) : Sem Value).run P w = .ok z w ∧ RP G.I p z := by
  have he := eqIn_ptr (w := w) 9999 t e hu a b r hr
  cases op <;> simp only [nilBin] at h
  case eql =>
    cases h
    refine ⟨.bool r, ?_, .bool _⟩
    have hg : (eqGuard .eql t ox oy (.pointer a) (.pointer b)).run P w = .ok () w := rfl
    have hb : (Go.binOp .eql t (.pointer a) (.pointer b)) = (do pure (.bool (← Op.equal t (.pointer a) (.pointer b)))) := by cases a <;> cases b <;> rfl
    simp only [Sem.run_bind, hg, Result.andThen_ok, hb, Op.equal, Op.maxDepth, he, Sem.run_pure]
  case neq =>
    cases h
    refine ⟨.bool !r, ?_, .bool _⟩
    have hg : (eqGuard .neq t ox oy (.pointer a) (.pointer b)).run P w = .ok () w := rfl
    have hb : (Go.binOp .neq t (.pointer a) (.pointer b)) = (do pure (.bool (!(← Op.equal t (.pointer a) (.pointer b))))) := by cases a <;> cases b <;> rfl
    simp only [Sem.run_bind, hg, Result.andThen_ok, hb, Op.equal, Op.maxDepth, he, Sem.run_pure]
  all_goals cases h

theorem bool_ok {op : BinOp} {t : TypeId} (hu : P.underlying t = some .bool) {a b : Bool} {p : PV} (h : boolBin op a b = some p) (ox oy : Operand) :
    ∃ z, ((do eqGuard op t ox oy (.bool a) (.bool b); Go.binOp op t (.bool a) (.bool b)) : Sem Value).run P w = .ok z w ∧ RP G.I p z := by
  have he := run_equalIn_bool' w 9999 t a b hu
  cases op <;> simp only [boolBin] at h
  case eql =>
    cases h
    refine ⟨.bool (a == b), ?_, .bool _⟩
    have hg : (eqGuard .eql t ox oy (.bool a) (.bool b)).run P w = .ok () w := rfl
    have hb : (Go.binOp .eql t (.bool a) (.bool b)) = (do pure (.bool (← Op.equal t (.bool a) (.bool b)))) := rfl
    simp only [Sem.run_bind, hg, Result.andThen_ok, hb, Op.equal, Op.maxDepth, he, Sem.run_pure]
  case neq =>
    cases h
    refine ⟨.bool !(a == b), ?_, .bool _⟩
    have hg : (eqGuard .neq t ox oy (.bool a) (.bool b)).run P w = .ok () w := rfl
    have hb : (Go.binOp .neq t (.bool a) (.bool b)) = (do pure (.bool (!(← Op.equal t (.bool a) (.bool b))))) := rfl
    simp only [Sem.run_bind, hg, Result.andThen_ok, hb, Op.equal, Op.maxDepth, he, Sem.run_pure]
  all_goals cases h

theorem agg_ok {t : TypeId} {l m : List CV} {xs ys : List Value} (hxs : All2 (RN G) l xs) (hys : All2 (RN G) m ys) {a b : List PV} {r : Bool} (ha : pvs l = some a) (hb : pvs m = some b)
    (hr : structEq P t a b = some r) (ox oy : Operand) :
    (∀ op, (eqGuard op t ox oy (.agg xs.toArray) (.agg ys.toArray)).run P w = .ok () w) ∧ (Op.equalIn 10000 t (.agg xs.toArray) (.agg ys.toArray)).run P w = .ok r w := by
  unfold structEq at hr
  split at hr
  case h_2 => cases hr
  rename_i fs hu
  split at hr
  case isTrue => cases hr
  rename_i hc
  simp only [Bool.or_eq_true, not_or, Bool.not_eq_true] at hc
  have hfo : P.fieldsOf t = fs := by simp [Program.fieldsOf, hu]
  refine ⟨fun op => run_eqGuard_agg w op t ox oy _ _ hc.1, ?_⟩
  rw [run_equalIn_agg w 9999 t _ _ (by rw [hfo]; exact hu) hc.2, hfo]
  exact eqFields_ok 9998 _ 0 _ _ _ _ _ _ _ hr (pvs_RP ha hxs) (pvs_RP hb hys) (fun j z hz => by simpa using hz) (fun j z hz => by simpa using hz)

theorem ptrT {t : TypeId} (ht : isPtrT P t = true) : ∃ e, P.underlying t = some (.pointer e) := by
  unfold isPtrT at ht; split at ht
  · rename_i e he; exact ⟨e, he⟩
  · cases ht
theorem boolT {t : TypeId} (ht : isBoolT P t = true) : P.underlying t = some .bool := by
  unfold isBoolT at ht; split at ht
  · rename_i he; exact he
  · cases ht

/-- '==' and its kin -/
theorem bin_ok {op : BinOp} {t : TypeId} {X Y : AV} {p : PV} {x y : Value} {ℓ ℓ' : Own} (h : absBin P op t X Y = some p) (hx : RA G w ℓ X x) (hy : RA G w ℓ' Y y) (ox oy : Operand) :
    ∃ z, ((do eqGuard op t ox oy x y; binOp op t x y) : Sem Value).run P w = .ok z w ∧ RP G.I p z := by
  unfold absBin at h
  split at h
  · rename_i k a k' b
    cases hx.intv; cases hy.intv
    split at h
    case isFalse => cases h
    rename_i hk; subst hk
    have hg : (eqGuard op t ox oy (.int k a) (.int k b)).run P w = .ok () w := by cases op <;> rfl
    simp only [Sem.run_bind, hg, Result.andThen_ok]
    exact int_ok h
  · rename_i a b
    cases hx.strv; cases hy.strv
    have hg : (eqGuard op t ox oy (.string (ByteArray.mk a.toArray)) (.string (ByteArray.mk b.toArray))).run P w = .ok () w := by cases op <;> rfl
    simp only [Sem.run_bind, hg, Result.andThen_ok]
    exact str_ok h
  · cases hx.boolv; cases hy.boolv
    split at h
    case isFalse => cases h
    rename_i ht
    exact bool_ok (boolT ht) h ox oy
  · have e1 : x = .pointer none := hx
    have e2 : y = .pointer none := hy
    subst e1; subst e2
    split at h
    case isFalse => cases h
    rename_i ht
    obtain ⟨e, hu⟩ := ptrT ht
    exact nil_ok hu h (.inl ⟨rfl, rfl, rfl⟩) ox oy
  · obtain ⟨b, _, e1⟩ : ∃ b, G.bb _ = some b ∧ x = .pointer (some ⟨b, _, none⟩) := hx
    have e2 : y = .pointer none := hy
    subst e1; subst e2
    split at h
    case isFalse => cases h
    rename_i ht
    obtain ⟨e, hu⟩ := ptrT ht
    exact nil_ok hu h (.inr (.inl ⟨rfl, rfl, rfl⟩)) ox oy
  · obtain ⟨b, _, e2⟩ : ∃ b, G.bb _ = some b ∧ y = .pointer (some ⟨b, _, none⟩) := hy
    have e1 : x = .pointer none := hx
    subst e1; subst e2
    split at h
    case isFalse => cases h
    rename_i ht
    obtain ⟨e, hu⟩ := ptrT ht
    exact nil_ok hu h (.inr (.inr ⟨rfl, rfl, rfl⟩)) ox oy
  · rename_i l m
    obtain ⟨xs, rfl, hxs⟩ := hx
    obtain ⟨ys, rfl, hys⟩ := hy
    have main : ∀ op', (match pvs l, pvs m with
       | some a, some b => (match structEq P t a b with | some r => nilBin op' r | none => none)
       | _, _ => none) = some p → ∃ r, nilBin op' r = some p ∧ (eqGuard op' t ox oy (.agg xs.toArray) (.agg ys.toArray)).run P w = .ok () w ∧ (Op.equalIn 10000 t (.agg xs.toArray) (.agg ys.toArray)).run P w = .ok r w := fun op' h => by
      split at h
      case h_2 => cases h
      rename_i a b ha hb
      split at h
      case h_2 => cases h
      rename_i r hr
      obtain ⟨hg, he⟩ := agg_ok (P := P) (w := w) hxs hys ha hb hr ox oy
      exact ⟨r, h, hg op', he⟩
    split at h
    · obtain ⟨r, hr, hg, he⟩ := main .eql h
      simp only [nilBin] at hr
      cases hr
      refine ⟨.bool r, ?_, .bool _⟩
      simp only [Sem.run_bind, hg, Result.andThen_ok]
      rw [run_eql_struct, he, Result.andThen_ok]
    · obtain ⟨r, hr, hg, he⟩ := main .neq h
      simp only [nilBin] at hr
      cases hr
      refine ⟨.bool !r, ?_, .bool _⟩
      simp only [Sem.run_bind, hg, Result.andThen_ok]
      rw [run_neq_struct, he, Result.andThen_ok]
    · cases h
  · cases h

theorem un_ok {op : UnOp} {X : AV} {p : PV} {x : Value} {ℓ : Own} (h : absUn op X = some p) (hx : RA G w ℓ X x) :
    ∃ z, (Op.unary op x).run P w = .ok z w ∧ RP G.I p z := by
  unfold absUn at h
  split at h
  · cases hx.boolv
    split at h <;> cases h
    exact ⟨_, by simp [Op.unary], .bool _⟩
  · cases hx.intv
    split at h <;> cases h
    exact ⟨_, by simp [Op.unary, Op.intArith], .int _ _⟩
  · cases h

theorem index_ok {t : TypeId} {X Y v : AV} {x y : Value} {ℓ ℓ' : Own} (h : absIndex P t X Y = some v) (hx : RA G w ℓ X x) (hy : RA G w ℓ' Y y) :
    ∃ z, (Instr.index t x y).run P w = .ok z w ∧ ∃ p, v = .c (.pv p) ∧ RP G.I p z := by
  unfold absIndex at h
  split at h
  case h_2 => cases h
  rename_i s k i
  cases hx.strv; cases hy.intv
  split at h
  case h_2 => cases h
  rename_i hu
  split at h
  case isFalse => cases h
  rename_i h0
  split at h
  case h_2 => cases h
  rename_i b hb
  cases h
  refine ⟨.int .u8 b.toNat, ?_, _, rfl, .int _ _⟩
  obtain ⟨hlt, hb'⟩ := List.getElem?_eq_some_iff.1 hb
  have hsz : (ByteArray.mk s.toArray).size = s.length := by simp [ByteArray.size]
  rw [run_index_string w t _ k i hu, dif_pos ⟨h0, by rw [hsz]; omega⟩]
  simp only [← hb']
  rfl

/-- a bound of a slice expression -/
def RO (G : Gh) (w : World) : Option AV → Option Value → Prop
  | none, none => True
  | some X, some x => ∃ ℓ, RA G w ℓ X x
  | _, _ => False

theorem bound_ok {y y' d n : Nat} {X : Option AV} {x : Option Value} (h : bound y X d = some n) (hx : RO G w X x) (hd : d ≤ y) (hy : y ≤ y') (code : BoundsCode) :
    ((match x with | some v => Instr.sliceBound v y' code | none => pure d : Sem Nat)).run P w = .ok n w ∧ n ≤ y := by
  unfold bound at h
  split at h
  · cases h
    cases x with
    | none => exact ⟨rfl, hd⟩
    | some _ => exact False.elim hx
  · cases x with
    | none => exact False.elim hx
    | some x =>
      obtain ⟨ℓ, hx⟩ := hx
      cases RA.intv hx
      split at h
      case isFalse => cases h
      rename_i hi
      cases h
      exact ⟨run_sliceBound w _ _ _ _ hi.1 (by omega), by omega⟩
  · cases h

theorem bounds_ok {sl : Bool} {len cap n m : Nat} {lo hi : Option AV} {lo' hi' : Option Value} (h1 : bound len hi len = some n) (h2 : bound n lo 0 = some m) (hc : len ≤ cap)
    (hl : RO G w lo lo') (hh : RO G w hi hi') : (Instr.sliceBounds sl len cap lo' hi' none).run P w = .ok (m, n, cap) w ∧ m ≤ n ∧ n ≤ len := by
  obtain ⟨r1, b1⟩ := bound_ok (P := P) h1 hh (Nat.le_refl _) hc (if sl then .sliceAcap else .sliceAlen)
  obtain ⟨r2, b2⟩ := bound_ok (P := P) h2 hl (Nat.zero_le _) (Nat.le_refl _) .sliceB
  refine ⟨?_, b2, b1⟩
  unfold Instr.sliceBounds
  cases hi' with
  | none =>
    have e : len = n := by simpa using r1
    subst e
    cases lo' with
    | none =>
      have e : 0 = m := by simpa using r2
      subst e
      simp
    | some v =>
      simp only [] at r2
      simp [r2]
  | some u =>
    simp only [] at r1
    cases lo' with
    | none =>
      have e : 0 = m := by simpa using r2
      subst e
      simp [r1]
    | some v =>
      simp only [] at r2
      simp [r1, r2]

theorem content_RP {X : AV} {c : List (List PV)} {x : Value} {ℓ : Own} (h : content X = some c) (hx : RA G w ℓ X x) : RP G.I (.sl c) x := by
  unfold content at h
  split at h
  · cases h; exact hx
  · cases h; exact OwnAt.rp hx
  · cases h
    have : x = .slice none 0 0 := hx
    subst this; exact .sl0 _ _
  · cases h

theorem Seg.sub {I : Nat → Nat → Option Value} {b o sz : Nat} {c : List (List PV)} (h : Seg I b o sz c) (l n : Nat) : Seg I b (o + l * sz) sz ((c.take n).drop l) := by
  intro i el j p hi hj
  rw [List.getElem?_drop, List.getElem?_take] at hi
  split at hi
  case isFalse => cases hi
  obtain ⟨y, h1, h2⟩ := h (l + i) el j p hi hj
  refine ⟨y, ?_, h2⟩
  rw [← h1]; congr 1
  rw [Nat.add_mul]; omega

theorem slice_ok {t : TypeId} {X : AV} {lo hi mx : Option AV} {v : AV} {x : Value} {lo' hi' mx' : Option Value} {ℓ : Own} (h : absSlice P t X lo hi mx = some v)
    (hx : RA G w ℓ X x) (hl : RO G w lo lo') (hh : RO G w hi hi') (hm : RO G w mx mx') :
    ∃ z, (Instr.sliceAt t x lo' hi' mx').run P w = .ok z w ∧ ∃ p, v = .c (.pv p) ∧ RP G.I p z := by
  unfold absSlice at h
  split at h
  · rename_i hu
    have em : mx' = none := by cases mx' with | none => rfl | some _ => exact False.elim hm
    subst em
    split at h
    case h_2 => cases h
    rename_i s
    cases hx.strv
    split at h
    case h_2 => cases h
    rename_i n hn
    split at h
    case h_2 => cases h
    rename_i m hm'
    cases h
    have hsz : (ByteArray.mk s.toArray).size = s.length := by simp [ByteArray.size]
    obtain ⟨hb, _, _⟩ := bounds_ok (P := P) (sl := false) hn hm' (Nat.le_refl _) hl hh
    refine ⟨.string (ByteArray.mk ((s.take n).drop m).toArray), ?_, _, rfl, .str _⟩
    rw [run_sliceAt_string w t _ _ _ _ hu]
    have e : (ByteArray.mk s.toArray).extract m n = ByteArray.mk ((s.take n).drop m).toArray := by
      rw [ByteArray.extract_mk, List.drop_take]
    simp [Instr.slice, run_underlying hu, hsz, hb, e]
  · rename_i e hu
    have em : mx' = none := by cases mx' with | none => rfl | some _ => exact False.elim hm
    subst em
    split at h
    case h_2 => cases h
    rename_i c hc
    split at h
    case h_2 => cases h
    rename_i n hn
    split at h
    case h_2 => cases h
    rename_i m hm'
    split at h
    case isFalse => cases h
    rename_i hall
    cases h
    have hrp := content_RP hc hx
    obtain ⟨a, cap, rfl, hcap, hne⟩ := hrp.slice_inv
    obtain ⟨hb, hmn, hnl⟩ := bounds_ok (P := P) (sl := true) hn hm' hcap hl hh
    have hel : P.elem t = e := by simp [Program.elem, hu]
    cases hn' : szOf P e with
    | none => rw [hn'] at hall; cases hall
    | some sz' =>
    rw [hn'] at hall
    have hsize : (sizeOf (P.elem t)).run P w = .ok sz' w := by rw [hel]; exact run_sizeOf' hn'
    have hlen : ((c.take n).drop m).length = n - m := by simp; omega
    refine ⟨sliced a m n cap sz', ?_, _, rfl, ?_⟩
    · rw [run_sliceAt_slice w t _ _ _ _ (by rw [hel]; exact hu), run_slice_any w t a c.length cap (by rw [hel]; exact hu), hb, Result.andThen_ok, hsize, Result.andThen_ok]
    · unfold sliced
      by_cases hemp : (c.take n).drop m = []
      · have : n - m = 0 := by rw [← hlen, hemp]; rfl
        rw [hemp, this]
        exact .sl0 _ _
      · have hc0 : c ≠ [] := fun e => hemp (by simp [e])
        obtain ⟨b, o, sz, rfl, hsz, hseg⟩ := hne hc0
        have hpos : 0 < n - m := by rw [← hlen]; exact List.length_pos_iff.2 hemp
        have hcm : cap ≠ m := by omega
        rw [if_neg hcm]
        have hszz : sz = sz' := by
          cases c with
          | nil => exact absurd rfl hc0
          | cons el c =>
            simp only [Option.any_some, List.all_cons, Bool.and_eq_true, beq_iff_eq] at hall
            rw [← hsz el (by simp)]; exact hall.1
        subst hszz
        have hadd : (Option.map (fun x => Addr.add x (m * sz)) (some (⟨b, o, none⟩ : Addr))) = some ⟨b, o + m * sz, none⟩ := by
          simp only [Option.map_some, Addr.add]
          split <;> simp_all
        rw [hadd, ← hlen]
        exact .of_seg (by rw [hlen]; omega) (fun el hel => hsz el (List.mem_of_mem_take (List.mem_of_mem_drop hel))) (hseg.sub m n)
  · cases h
end
end Go.Abs
