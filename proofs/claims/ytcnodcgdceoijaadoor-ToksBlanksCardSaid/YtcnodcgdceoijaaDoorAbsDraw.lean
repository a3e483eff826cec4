/-
  THE ABSTRACT INTERPRETER: a region whose order the tape picks: every order comes to the same.
-/
import Derived.Test.YtcnodcgdceoijaaDoorAbsReg
set_option linter.unusedSimpArgs false
set_option linter.unusedVariables false
namespace Go.Abs
open Go

section
variable {K : Cfg} {call : CallF} {S S' : St} {o : Oper} {ops : List Oper} {apps : List Nat}

/-- what an operation does, its guard asked -/
def delta (K : Cfg) (call : CallF) (ops : List Oper) (o : Oper) (S : St) : Option Delta :=
  match guardA ops S o with
  | none => none
  | some false => some (.val (.tup []) none [])
  | some true => absOp K call (appArgs ops) S.bx (opd S.sl) o

def app (S : St) (dst : Option Nat) (v : AV) (dg : Option Nat) (bs : List (Nat × List CV)) : Option St := (({ S with bx := setBoxes S.bx bs } : St).degAt dg).put dst v

def curKey (ops : List Oper) (o : Oper) (S : St) : Key :=
  match guardA ops S o with
  | some true => opKey (appArgs ops) S.bx (opd S.sl) o
  | _ => .none

theorem stepOp_norm {S1 : St} : stepOp K call ops o S = some (.norm, S1) ↔ ∃ v dg bs, delta K call ops o S = some (.val v dg bs) ∧ app S o.dst v dg bs = some S1 := by
  unfold stepOp delta app
  cases hg : guardA ops S o with
  | none => simp
  | some b =>
    cases b
    · simp only [Option.map_eq_some_iff, Prod.mk.injEq, true_and]
      constructor
      · rintro ⟨S2, h, rfl⟩
        exact ⟨_, _, _, rfl, by simpa [setBoxes, St.degAt] using h⟩
      · rintro ⟨v, dg, bs, h1, h2⟩
        cases h1
        exact ⟨S1, by simpa [setBoxes, St.degAt] using h2, rfl⟩
    · simp only
      cases ho : absOp K call (appArgs ops) S.bx (opd S.sl) o with
      | none => simp
      | some d =>
        cases d with
        | val v dg bs =>
          simp only [Option.map_eq_some_iff, Prod.mk.injEq, true_and]
          constructor
          · rintro ⟨S2, h, rfl⟩; exact ⟨v, dg, bs, rfl, h⟩
          · rintro ⟨v', dg', bs', h1, h2⟩; cases h1; exact ⟨S1, h2, rfl⟩
        | pan v bs => simp

/-! ### What an operation looks at -/

theorem absOp_congr {bx : Nat → Option (List CV)} {ρ ρ' : Operand → AV} (h : ∀ x ∈ o.op.operands, ρ x = ρ' x) : absOp K call apps bx ρ o = absOp K call apps bx ρ' o := by
  obtain ⟨dst, op, type, pos, after, guard⟩ := o
  have pairs : ∀ ps : Array (Nat × Operand), (∀ x ∈ ps.map (·.2), ρ x = ρ' x) → (ps.toList.map fun p => (p.1, ρ p.2)) = (ps.toList.map fun p => (p.1, ρ' p.2)) := fun ps hp =>
    List.map_congr_left fun p hm => by
      rw [hp p.2 (Array.mem_map.2 ⟨p, Array.mem_toList_iff.1 hm, rfl⟩)]
  cases op <;> simp only [Op.operands] at h <;> simp only [absOp]
  case build t ps => rw [pairs ps fun x hx => h x (by simpa using hx)]
  case buildSlice t n ps => rw [pairs ps fun x hx => h x (by simpa using hx)]
  case makeFunc fn first captured =>
    cases fn <;> simp only []
    rw [List.map_congr_left (l := captured.toList) fun x hx => h x (by simp; exact .inr (Array.mem_toList_iff.1 hx))]
  case call c =>
    have hargs : c.args.toList.map ρ = c.args.toList.map ρ' := List.map_congr_left fun x hx => h x (by simp [Call.operands]; exact .inr (Array.mem_toList_iff.1 hx))
    have hall : ∀ x ∈ c.args.toList, ρ x = ρ' x := fun x hx => h x (by simp [Call.operands]; exact .inr (Array.mem_toList_iff.1 hx))
    unfold absCall
    cases hc : c.callee with
    | value f =>
      have hf : ρ f = ρ' f := h f (by simp [Call.operands, hc])
      simp only [hf, hargs]
    | invoke r m => rfl
    | builtin b =>
      cases b <;> simp only [hargs]
      case len =>
        split
        · rename_i x t hx _; rw [hall x (by rw [hx]; simp)]
        · rfl
      case append =>
        split
        · rename_i s x hx; rw [hall s (by rw [hx]; simp), hall x (by rw [hx]; simp)]
        · rfl
  case slice t x lo hi mx => cases lo <;> cases hi <;> cases mx <;> simp_all
  all_goals (first | rfl | (simp_all; done))

theorem opKey_congr {bx : Nat → Option (List CV)} {ρ ρ' : Operand → AV} (h : ∀ x ∈ o.op.operands, ρ x = ρ' x) : opKey apps bx ρ o = opKey apps bx ρ' o := by
  obtain ⟨dst, op, type, pos, after, guard⟩ := o
  cases op <;> simp only [Op.operands] at h <;> simp only [opKey]
  case load t x => rw [h x (by simp)]
  case store t x y => rw [h x (by simp)]
  case call c =>
    have hargs : c.args.toList.map ρ = c.args.toList.map ρ' := List.map_congr_left fun x hx => h x (by simp [Call.operands]; exact .inr (Array.mem_toList_iff.1 hx))
    cases hc : c.callee with
    | value f =>
      have hf : ρ f = ρ' f := h f (by simp [Call.operands, hc])
      simp only [hf, hargs]
    | invoke r m => rfl
    | builtin b => rfl

/-- two boxes that hold the same, but for rights to append -/
def degEq (a b : Option (List CV)) : Prop := a.map (List.map CV.deg) = b.map (List.map CV.deg)

/-- two states alike where an operation of such a key looks -/
def alikeAt (k : Key) (f g : Nat → Option (List CV)) : Prop :=
  match k with
  | .none => True
  | .rd s => degEq (f s) (g s)
  | .tk s | .wr s => f s = g s
  | .lend l => ∀ s ∈ l, f s = g s
  | .all => f = g

theorem getBoxes_congr {bx bx' : Nat → Option (List CV)} : ∀ {l : List Nat}, (∀ s ∈ l, bx s = bx' s) → getBoxes bx l = getBoxes bx' l
  | [], _ => rfl
  | s :: l, h => by
    unfold getBoxes
    rw [h s (by simp), getBoxes_congr fun t ht => h t (by simp [ht])]

theorem mem_dedup {s : Nat} : ∀ {l : List Nat}, s ∈ dedup l → s ∈ l
  | [], h => by simp [dedup] at h
  | a :: l, h => by
    unfold dedup at h
    split at h
    · exact List.mem_cons_of_mem _ (mem_dedup h)
    · rcases List.mem_cons.1 h with rfl | h
      · simp
      · exact List.mem_cons_of_mem _ (mem_dedup h)

theorem lent_mem {args : List AV} {caps : List (Nat × Nat)} {s : Nat} (h : s ∈ dedup ((args ++ caps.map fun x => AV.c (.loc x.1 x.2)).flatMap AV.ptrs)) : s ∈ lentBoxes args caps := by
  have h := mem_dedup h
  unfold lentBoxes
  rw [List.flatMap_append, List.mem_append] at h
  rw [List.mem_append]
  refine h.imp id fun h => ?_
  rw [List.mem_flatMap] at h
  obtain ⟨v, hv, hs⟩ := h
  rw [List.mem_map] at hv
  obtain ⟨c, hc, rfl⟩ := hv
  simp [AV.ptrs, CV.ptrs] at hs
  rw [List.mem_map]
  exact ⟨c, hc, hs.symm⟩

theorem doCall_congr {own : Bool} {bx bx' : Nat → Option (List CV)} {g : FuncId} {args : List AV} (h : ∀ s ∈ dedup (args.flatMap AV.ptrs), bx s = bx' s) : doCall call own bx g args = doCall call own bx' g args := by
  unfold doCall
  split
  · rfl
  · simp only [getBoxes_congr h]

theorem CV.deg_deg (v : CV) : v.deg.deg = v.deg := by cases v <;> rfl

theorem degEq_get {l m : List CV} (h : l.map CV.deg = m.map CV.deg) (k : Nat) : (l[k]?).map CV.deg = (m[k]?).map CV.deg := by
  rw [← List.getElem?_map, ← List.getElem?_map, h]

theorem absOp_bx {bx bx' : Nat → Option (List CV)} {ρ : Operand → AV} (h : alikeAt (opKey apps bx ρ o) bx bx') : absOp K call apps bx ρ o = absOp K call apps bx' ρ o := by
  obtain ⟨dst, op, type, pos, after, guard⟩ := o
  cases op <;> simp only [absOp]
  case alloc t =>
    cases dst with
    | none => cases zeroCells K.P t <;> rfl
    | some d =>
      have h' : bx d = bx' d := h
      cases zeroCells K.P t <;> simp [newBox, h']
  case box t x =>
    cases dst with
    | none => cases cellsOfAV (ρ x).deg <;> rfl
    | some d =>
      have h' : bx d = bx' d := h
      cases cellsOfAV (ρ x).deg <;> simp [newBox, h']
  case load t x =>
    unfold absLoad
    simp only [opKey] at h
    have alt : (∀ s off, ρ x ≠ .c (.loc s off)) ∨ ∃ s off, ρ x = .c (.loc s off) ∧ (bx s = bx' s ∨ inApps apps dst = false ∧ degEq (bx s) (bx' s)) := by
      cases hx : ρ x with
      | c v =>
        rw [hx] at h
        cases v with
        | loc s off =>
          simp only at h
          refine .inr ⟨s, off, rfl, ?_⟩
          by_cases hc : inApps apps dst = true
          · rw [if_pos hc] at h; exact .inl h
          · rw [if_neg hc] at h; exact .inr ⟨by simpa using hc, h⟩
        | _ => exact .inl (by simp)
      | agg l => exact .inl (by simp)
      | tup l => exact .inl (by simp)
    rcases alt with hne | ⟨s, off, hx, h'⟩
    · split
      · rename_i s off _ hx; exact absurd hx (hne s off)
      · rename_i s off _ hx; exact absurd hx (hne s off)
      · rfl
      · rfl
      · rfl
    · rw [hx]
      rcases h' with h' | ⟨hna, h'⟩
      · cases hsT : shapeT K.P t with
        | none => rfl
        | some r => cases r <;> simp only [h']
      · cases hsT : shapeT K.P t with
        | none => rfl
        | some r =>
          unfold degEq at h'
          cases hb : bx s with
          | none =>
            rw [hb] at h'
            cases hb' : bx' s with
            | none => cases r <;> simp only [hb, hb']
            | some c' => rw [hb'] at h'; cases h'
          | some c =>
            rw [hb] at h'
            cases hb' : bx' s with
            | none => rw [hb'] at h'; cases h'
            | some c' =>
              rw [hb'] at h'
              have h2 : c.map CV.deg = c'.map CV.deg := by simpa using h'
              have hlen : c.length = c'.length := by have := congrArg List.length h2; simpa using this
              cases r with
              | some n =>
                simp only [hb, hb', hlen]
                have : ((c.drop off).take n).map CV.deg = ((c'.drop off).take n).map CV.deg := by
                  rw [List.map_take, List.map_drop, List.map_take, List.map_drop, h2]
                rw [this]
              | none =>
                simp only [hb, hb']
                have hg := degEq_get h2 off
                cases h3 : c[off]? with
                | none =>
                  rw [h3] at hg
                  cases h4 : c'[off]? with
                  | none => rfl
                  | some v' => rw [h4] at hg; cases hg
                | some v =>
                  rw [h3] at hg
                  cases h4 : c'[off]? with
                  | none => rw [h4] at hg; cases hg
                  | some v' =>
                    rw [h4] at hg
                    have hg : v.deg = v'.deg := by simpa using hg
                    simp [hna, hg]
  case store t x y =>
    unfold absStore
    simp only [opKey] at h
    cases hx : ρ x with
    | c v =>
      rw [hx] at h
      cases v with
      | loc s off =>
        have h' : bx s = bx' s := h
        simp only [h']
      | _ => rfl
    | agg l => rfl
    | tup l => rfl
  case makeFunc fn first caps => cases fn <;> rfl
  case call c =>
    unfold absCall
    simp only [opKey] at h
    cases hc : c.callee with
    | builtin b => rfl
    | invoke r m => rfl
    | value f =>
      rw [hc] at h
      simp only at h ⊢
      cases hf : ρ f with
      | c v =>
        rw [hf] at h
        cases v with
        | fn g caps =>
          simp only at h ⊢
          by_cases hk : (caps.isEmpty && (c.args.toList.map ρ).all AV.flat) = true
          · simp only [Bool.and_eq_true] at hk
            have hcap : caps = [] := by simpa using hk.1
            subst hcap
            have hall : (c.args.toList.map ρ ++ [].map fun (x : Nat × Nat) => AV.c (.loc x.1 x.2)).all AV.flat = true := by simpa using hk.2
            unfold doCall
            rw [if_pos hall, if_pos hall]
          · rw [if_neg hk] at h
            rw [doCall_congr fun s hs => h s (lent_mem hs)]
        | _ => rfl
      | agg l => rfl
      | tup l => rfl

theorem opKey_bx {bx bx' : Nat → Option (List CV)} {ρ : Operand → AV} : opKey apps bx ρ o = opKey apps bx' ρ o := by
  unfold opKey; rfl

/-- the boxes that an operation writes -/
theorem absOp_writes {bx : Nat → Option (List CV)} {ρ : Operand → AV} {v : AV} {dg : Option Nat} {bs : List (Nat × List CV)} (h : absOp K call apps bx ρ o = some (.val v dg bs)) :
    (∀ u, dg = some u → u ∈ stealSrc apps o) ∧
      match opKey apps bx ρ o with
      | .none | .rd _ => bs = []
      | .tk s => ∀ x ∈ bs, x.1 = s ∧ degEq (bx s) (some x.2)
      | .wr s => ∀ x ∈ bs, x.1 = s
      | .lend l => ∀ x ∈ bs, x.1 ∈ l
      | .all => True := by
  have hpv : ∀ {r : Option PV}, okPV r = some (.val v dg bs) → dg = none ∧ bs = [] := fun {r} h => by
    cases r <;> simp [okPV] at h; exact ⟨h.2.1.symm, h.2.2⟩
  have hav : ∀ {r : Option AV}, okAV r = some (.val v dg bs) → dg = none ∧ bs = [] := fun {r} h => by
    cases r <;> simp [okAV] at h; exact ⟨h.2.1.symm, h.2.2⟩
  have hov : ∀ {r : AV}, okVal r = some (.val v dg bs) → dg = none ∧ bs = [] := fun {r} h => by
    simp [okVal] at h; exact ⟨h.2.1.symm, h.2.2⟩
  obtain ⟨dst, op, type, pos, after, guard⟩ := o
  have simple : dg = none ∧ bs = [] → (∀ u, dg = some u → u ∈ stealSrc apps { dst, op, type, pos, after, guard }) ∧
      match opKey apps bx ρ { dst, op, type, pos, after, guard } with
      | .none | .rd _ => bs = []
      | .tk s => ∀ x ∈ bs, x.1 = s ∧ degEq (bx s) (some x.2)
      | .wr s => ∀ x ∈ bs, x.1 = s
      | .lend l => ∀ x ∈ bs, x.1 ∈ l
      | .all => True := fun ⟨h1, h2⟩ => by
    subst h1; subst h2
    refine ⟨fun u hu => (by cases hu), ?_⟩
    split <;> simp
  have take : ∀ {always : Bool} {x : Operand}, takeOver apps always dst x (ρ x) = some (.val v dg bs) → bs = [] ∧ ∀ u, dg = some u → x = .tmp u ∧ (always || inApps apps dst) = true := fun {always x} h => by
    unfold takeOver at h
    split at h
    case isTrue => cases h
    split at h
    · split at h
      · rename_i u hst
        split at h
        · cases h
        · cases h
          refine ⟨rfl, fun u' hu' => ?_⟩
          cases hu'
          cases x with
          | tmp t =>
            simp only [steal] at hst
            by_cases hc : (always || inApps apps dst) = true
            · rw [if_pos hc] at hst; cases hst; exact ⟨rfl, hc⟩
            · rw [if_neg hc] at hst; cases hst
          | const c => cases hst
          | func f => cases hst
          | global g => cases hst
      · cases h; exact ⟨rfl, fun u hu => (by cases hu)⟩
    · cases h; exact ⟨rfl, fun u hu => (by cases hu)⟩
  cases op <;> simp only [absOp] at h
  case move x =>
    obtain ⟨h1, h2⟩ := take h
    refine ⟨fun u hu => ?_, h1⟩
    obtain ⟨h3, h4⟩ := h2 u hu
    subst h3
    simp only [Bool.false_or] at h4
    simp [stealSrc, h4]
  case assign x =>
    obtain ⟨h1, h2⟩ := take h
    refine ⟨fun u hu => ?_, h1⟩
    obtain ⟨h3, h4⟩ := h2 u hu
    subst h3
    simp [stealSrc]
  case pick c x y =>
    split at h
    · exact simple (hov h)
    · cases h
  case alloc t =>
    split at h
    case h_2 => cases h
    unfold newBox at h
    split at h
    case h_2 => cases h
    split at h
    case isFalse => cases h
    cases h
    exact ⟨fun u hu => (by cases hu), fun x hx => by simp at hx; rw [hx]⟩
  case box t x =>
    split at h
    case h_2 => cases h
    unfold newBox at h
    split at h
    case h_2 => cases h
    split at h
    case isFalse => cases h
    cases h
    exact ⟨fun u hu => (by cases hu), fun x hx => by simp at hx; rw [hx]⟩
  case build t ps => exact simple (hav h)
  case buildSlice t n ps => exact simple (hav h)
  case load t x =>
    unfold absLoad at h
    split at h
    · split at h
      · split at h <;> cases h
        exact simple ⟨rfl, rfl⟩
      · cases h
    · rename_i s off hs hx
      split at h
      · rename_i cells hcells
        split at h
        · cases h
        · rename_i v hv
          split at h
          · rename_i hc
            cases h
            simp only [Bool.and_eq_true] at hc
            refine ⟨fun u hu => (by cases hu), ?_⟩
            simp only [opKey, hx]
            rw [if_pos hc.2]
            intro x hx'
            simp at hx'
            subst hx'
            refine ⟨rfl, ?_⟩
            rw [hcells]
            have hlt : off < cells.length := (List.getElem?_eq_some_iff.1 hv).1
            show some (cells.map CV.deg) = some ((setAt cells off [v.deg]).map CV.deg)
            congr 1
            apply List.ext_getElem?
            intro k
            rw [List.getElem?_map, List.getElem?_map, setAt_one _ _ _ hlt]
            split
            · rename_i hk; subst hk; rw [hv]; simp [CV.deg_deg]
            · rfl
          · cases h; exact simple ⟨rfl, rfl⟩
      · cases h
    · split at h <;> cases h
      exact simple ⟨rfl, rfl⟩
    · split at h <;> cases h
      exact simple ⟨rfl, rfl⟩
    · cases h
  case store t x y =>
    unfold absStore at h
    split at h
    · rename_i s off hx
      split at h
      · split at h
        · split at h
          · split at h
            · cases h
              refine ⟨fun u hu => by cases hu; simp [stealSrc], ?_⟩
              simp only [opKey, hx]
              intro x hx'; simp at hx'; rw [hx']
            · cases h
          · cases h
            refine ⟨fun u hu => (by cases hu), ?_⟩
            simp only [opKey, hx]
            intro x hx'; simp at hx'; rw [hx']
        · cases h
      · cases h
    · cases h
  case nilCheck x =>
    split at h
    · exact simple (hov h)
    · exact simple (hov h)
    · exact simple (hov h)
    · cases h
  case binOp op t x y yt => exact simple (hpv h)
  case unOp op t x => exact simple (hpv h)
  case convert s d x => exact simple (hav h)
  case makeInterface t x => exact simple (hav h)
  case makeFunc fn first caps =>
    cases fn <;> simp only [] at h
    case func f =>
      split at h
      · split at h
        · exact simple (hov h)
        · cases h
      · cases h
    all_goals cases h
  case slice t x lo hi mx => exact simple (hav h)
  case fieldAddr t x f => exact simple (hav h)
  case field t x f => exact simple (hav h)
  case indexAddr t x i => exact simple (hav h)
  case index t x i => exact simple (hav h)
  case typeAssert x t u k => exact simple (hav h)
  case extract x i => exact simple (hav h)
  case range t x => exact simple (hav h)
  case next x str =>
    unfold absNext at h
    split at h
    case h_2 => cases h
    split at h
    case isFalse => cases h
    split at h <;> cases h
    · exact ⟨fun u hu => by cases hu; simp [stealSrc], by simp [opKey]⟩
    · exact simple ⟨rfl, rfl⟩
  case call c =>
    unfold absCall at h
    split at h
    · rename_i b hb
      split at h
      · split at h
        · exact simple (hpv h)
        · cases h
      · exact simple (hpv h)
      · exact simple (hpv h)
      · split at h
        · rename_i s x hx
          split at h
          · split at h
            · cases h
              refine ⟨fun u hu => by cases hu; simp [stealSrc, hb, hx], ?_⟩
              simp [opKey, hb]
            · cases h; exact simple ⟨rfl, rfl⟩
            · cases h; exact simple ⟨rfl, rfl⟩
            · cases h
          · cases h
        · cases h
      · cases h
    · rename_i f hb
      split at h
      · rename_i g caps hf
        split at h
        · unfold doCall at h
          split at h
          · split at h
            · split at h <;> cases h
              exact simple ⟨rfl, rfl⟩
            · split at h <;> cases h
            · cases h
          · rename_i hnf
            have hk : opKey apps bx ρ { dst, op := .call c, type, pos, after, guard } = .lend (lentBoxes (c.args.toList.map ρ) caps) := by
              simp only [opKey, hb, hf]
              rw [if_neg]
              intro hc
              simp only [Bool.and_eq_true] at hc
              have hcap : caps = [] := by simpa using hc.1
              subst hcap
              exact hnf (by simpa using hc.2)
            rw [hk]
            have hzip : ∀ {L : List Nat} {cs : List (List CV)} {x : Nat × List CV}, x ∈ zipBox L cs → x.1 ∈ L := fun {L cs x} hx => by
              unfold zipBox at hx
              exact (List.of_mem_zip hx).1
            simp only at h
            split at h
            · cases h
            · split at h
              · split at h
                · cases h
                  exact ⟨fun u hu => (by cases hu), fun x hx => lent_mem (hzip hx)⟩
                · cases h
              · split at h <;> cases h
              · cases h
        · cases h
      · cases h
    · cases h
  case panic x =>
    split at h <;> cases h
  all_goals cases h
end
end Go.Abs
