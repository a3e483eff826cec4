/-
  THE ABSTRACT INTERPRETER: a region, in the order of its text and in every order that the tape may pick.
-/
import Derived.Test.YtcnodcgdceoijaaDoorAbsOp
set_option linter.unusedSimpArgs false
set_option linter.unusedVariables false
namespace Go.Abs
open Go

structure Sound (K : Cfg) (call : CallF) : Prop where
  good : ∀ g, K.good g = true → ∃ fn, K.P.funcs[g]? = some fn ∧ fn.name ≠ "runtime.NumGoroutine" ∧ fn.body.isSome = true
  call : ∀ g args bxs r, K.good g = true → call g args bxs = some r → Contract K.P g args bxs r

def Out.exit' : Out → Exit
  | .norm => .normal
  | .exit i => .exit i
  | .ret => .ret
  | .pan _ => .normal

/-- what has to be shown of where a piece of code comes out -/
def Post (G : Gh) (w : World) (df : List Deferred) (r : Out × St) (Q : Exit → Act → World → Prop) : Prop :=
  ∀ a' w' G', Ext G w G' w' → WI G' w' → FR G' w' r.2 a' → a'.defers = df →
    match r.1 with
    | .pan v => ∀ x, RN G' v x → Q (.panic [{ v := x, recovered := false }]) a' w'
    | o => Q o.exit' a' w'

theorem Post.ext {G G' : Gh} {w w' : World} {df : List Deferred} {r : Out × St} {Q : Exit → Act → World → Prop} (h : Post G w df r Q) (hx : Ext G w G' w') : Post G' w' df r Q :=
  fun a2 w2 G2 h1 h2 h3 h4 => h a2 w2 G2 (hx.trans h1) h2 h3 h4

section
variable {K : Cfg} {call : CallF} {G : Gh} {w : World} {S : St} {a : Act} {o : Oper} {ops : List Oper} {Q : Exit → Act → World → Prop}

theorem put_defers (a : Act) (d : Option Nat) (x : Value) : (a.put d x).defers = a.defers := by cases d <;> rfl

theorem guard_ok {b : Bool} (h : guardA ops S o = some b) (hf : FR G w S a) : Region.wanted o (yielded ops.toArray a.tmps) = b := by
  unfold guardA at h
  unfold Region.wanted
  cases hg : o.guard with
  | none => rw [hg] at h; simp at h; simp [h]
  | some gw =>
    obtain ⟨j, want⟩ := gw
    rw [hg] at h
    simp only at h ⊢
    unfold yielded
    have hj : ops.toArray[j]? = ops[j]? := by simp
    rw [hj]
    cases hd : (ops[j]?).bind (·.dst) with
    | none => rw [hd] at h; simp at h; simp [h]
    | some d =>
      rw [hd] at h
      simp only at h
      have hs := hf.slot d
      simp only [Option.bind_some]
      cases hv : S.sl d with
      | c v =>
        rw [hv] at h hs
        cases v with
        | pv p =>
          cases p with
          | bool c =>
            simp at h
            have e := RA.boolv hs
            rw [Array.getD_eq_getD_getElem?] at e
            cases ht : a.tmps[d]? with
            | none => rw [ht] at e; cases e
            | some y =>
              rw [ht] at e
              simp at e
              subst e
              simp
              rw [← h]
          | _ => cases h
        | _ => cases h
      | agg l => rw [hv] at h; cases h
      | tup l =>
        rw [hv] at h hs
        simp at h
        obtain ⟨vs, e, _⟩ := hs
        rw [Array.getD_eq_getD_getElem?] at e
        cases ht : a.tmps[d]? with
        | none => simp [← h]
        | some y =>
          rw [ht] at e
          simp at e
          subst e
          simp [← h]

theorem fr_skip (hf : FR G w S a) {S' : St} (hp : S.put o.dst (.tup []) = some S') (hw : WI G w) : FR G w S' (a.put o.dst undef) := by
  have := Step.frame (x := undef) hf (Step.pure (dst := o.dst) (v := .tup []) (x := undef) hf hw fun d _ => ⟨[], rfl, .nil⟩) (S' := S') (by simpa [setBoxes, St.degAt] using hp)
  exact this

/-- ONE OPERATION OF A REGION, what follows behind a variable. -/
theorem step_ok (hs : Sound K call) {r : Out × St} (h : stepOp K call ops o S = some r) (hf : FR G w S a) (hw : WI G w)
    (hst : (match o.op with | .store .. => o.dst.isNone | _ => true) = true) (N : Act → World → Prop)
    (hN : match r.1 with
      | .norm => ∀ a' w' G', Ext G w G' w' → WI G' w' → FR G' w' r.2 a' → a'.defers = a.defers → N a' w'
      | _ => Post G w a.defers r Q) :
    if Region.wanted o (yielded ops.toArray a.tmps) then o.wp K.P a w N Q ∨ (o.asks K.P a w ∧ LetsOut Q) else N (a.put o.dst undef) w := by
  unfold stepOp at h
  split at h
  · cases h
  · rename_i hg
    rw [guard_ok hg hf]
    simp only [Option.map_eq_some_iff] at h
    obtain ⟨S', hS', rfl⟩ := h
    simp only at hN
    exact hN _ w G (.refl _ _) hw (fr_skip hf hS' hw) (put_defers a _ _)
  · rename_i hg
    rw [guard_ok hg hf]
    refine .inl ?_
    split at h
    · cases h
    · rename_i v bs hop
      cases h
      have := op_ok hop hf hw hs.good hs.call (fun e => by
        cases ho : o.op <;> simp [ho] at e hst
        exact hst)
      unfold Oper.wp
      rcases this with ⟨x, hr, hv, rfl⟩ | ⟨f, args, hr, hc⟩
      · rw [hr, Oper.upon_panic]
        simp only at hN
        exact hN a w G (.refl _ _) hw hf rfl x hv
      · rw [hr, Oper.upon_enter]
        refine hc.mono ?_
        rintro e w' ⟨x, G', rfl, hv, hx, hw', hf'⟩
        simp only at hN
        exact hN a w' G' hx hw' hf' rfl x hv
    · rename_i v dg bs hop
      simp only [Option.map_eq_some_iff] at h
      obtain ⟨S', hS', rfl⟩ := h
      simp only at hN
      have := op_ok hop hf hw hs.good hs.call (fun e => by
        cases ho : o.op <;> simp [ho] at e hst
        exact hst)
      unfold Oper.wp
      rcases this with ⟨x, w', G', hr, hstep⟩ | ⟨f, args, hr, hc⟩
      · have hfr := hstep.frame hf hS'
        rcases hr with hr | ⟨hr, rfl⟩
        · rw [hr, Oper.upon_value]
          exact hN _ w' G' hstep.ext hstep.wi hfr (put_defers a _ _)
        · rw [hr, Oper.upon_skip]
          exact hN _ w' G' hstep.ext hstep.wi hfr (put_defers a _ _)
      · rw [hr, Oper.upon_enter]
        refine hc.mono ?_
        rintro e w' ⟨x, G', rfl, hstep⟩
        exact hN _ w' G' hstep.ext hstep.wi (hstep.frame hf hS') (put_defers a _ _)

theorem stepOp_out {r : Out × St} (h : stepOp K call ops o S = some r) : r.1 = .norm ∨ ∃ v, r.1 = .pan v := by
  unfold stepOp at h
  split at h
  · cases h
  · simp only [Option.map_eq_some_iff] at h
    obtain ⟨S', _, rfl⟩ := h
    exact .inl rfl
  · split at h
    · cases h
    · cases h; exact .inr ⟨_, rfl⟩
    · simp only [Option.map_eq_some_iff] at h
      obtain ⟨S', _, rfl⟩ := h
      exact .inl rfl

/-- THE ORDER OF THE TEXT. -/
theorem run_ok (hs : Sound K call) : ∀ (l : List Oper) {S : St} {G : Gh} {w : World} {a : Act} {r : Out × St}, runOps K call ops l S = some r → FR G w S a → WI G w → storesOK l = true →
    Post G w a.defers r Q → wpList K.P ops.toArray Q l a w
  | [], S, G, w, a, r, h, hf, hw, _, hp => by
    simp [runOps] at h
    subst h
    exact hp a w G (.refl _ _) hw hf rfl
  | o :: l, S, G, w, a, r, h, hf, hw, hst, hp => by
    simp only [storesOK, List.all_cons, Bool.and_eq_true] at hst
    unfold runOps at h
    split at h
    · rename_i S1 h1
      refine step_ok hs h1 hf hw hst.1 _ fun a' w' G' hx hw' hf' hd => ?_
      exact run_ok hs l h hf' hw' hst.2 (by rw [hd]; exact hp.ext hx)
    · rename_i hne
      refine step_ok hs h hf hw hst.1 _ ?_
      rcases stepOp_out h with h1 | ⟨v, h1⟩
      · obtain ⟨r1, r2⟩ := r
        simp only at h1
        subst h1
        exact (hne _ h).elim
      · rw [h1]; exact hp
end
end Go.Abs
