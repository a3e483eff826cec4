/-
  THE ABSTRACT INTERPRETER: what it answers with as much fuel as it needs: 'den' of a function, 'exL' of code; the equations of both.
-/
import Derived.Test.YtcnodcgdceoijaaDoorAbsSound
set_option linter.unusedSimpArgs false
set_option linter.unusedVariables false
namespace Go.Abs
open Go

/-! ### Limits of growing partial answers -/

section
variable {α β : Type}

noncomputable def limO (F : Nat → Option α) : Option α := by
  classical
  exact if h : ∃ n, (F n).isSome then F h.choose else none

def Up (F : Nat → Option α) : Prop := ∀ n m r, n ≤ m → F n = some r → F m = some r

theorem lim_iff {F : Nat → Option α} (hF : Up F) {r : α} : limO F = some r ↔ ∃ n, F n = some r := by
  classical
  unfold limO
  constructor
  · intro h
    split at h
    · rename_i hx; exact ⟨_, h⟩
    · cases h
  · rintro ⟨n, hn⟩
    have hx : ∃ n, (F n).isSome := ⟨n, by simp [hn]⟩
    rw [dif_pos hx]
    obtain ⟨s, hs⟩ := Option.isSome_iff_exists.1 hx.choose_spec
    have h1 := hF n (max n hx.choose) r (by omega) hn
    have h2 := hF hx.choose (max n hx.choose) s (by omega) hs
    rw [hs, ← h2, h1]

theorem up_const (d : Option α) : Up fun _ => d := fun _ _ _ _ h => h

theorem lim_const (d : Option α) : limO (fun _ => d) = d := by
  apply Option.ext
  intro r
  rw [lim_iff (up_const d)]
  exact ⟨fun ⟨_, h⟩ => h, fun h => ⟨0, h⟩⟩

theorem up_bind {F : Nat → Option α} {k : Nat → α → Option β} (hF : Up F) (hk : ∀ x, Up fun n => k n x) : Up fun n => (F n).bind (k n) := by
  intro n m r hnm h
  rw [Option.bind_eq_some_iff] at h ⊢
  obtain ⟨x, h1, h2⟩ := h
  exact ⟨x, hF n m x hnm h1, hk x n m r hnm h2⟩

theorem lim_bind {F : Nat → Option α} {k : Nat → α → Option β} (hF : Up F) (hk : ∀ x, Up fun n => k n x) : limO (fun n => (F n).bind (k n)) = (limO F).bind fun x => limO fun n => k n x := by
  apply Option.ext
  intro r
  rw [lim_iff (up_bind hF hk), Option.bind_eq_some_iff]
  constructor
  · rintro ⟨n, h⟩
    rw [Option.bind_eq_some_iff] at h
    obtain ⟨x, h1, h2⟩ := h
    exact ⟨x, (lim_iff hF).2 ⟨n, h1⟩, (lim_iff (hk x)).2 ⟨n, h2⟩⟩
  · rintro ⟨x, h1, h2⟩
    obtain ⟨n, h1⟩ := (lim_iff hF).1 h1
    obtain ⟨m, h2⟩ := (lim_iff (hk x)).1 h2
    refine ⟨max n m, ?_⟩
    rw [Option.bind_eq_some_iff]
    exact ⟨x, hF n _ x (by omega) h1, hk x m _ r (by omega) h2⟩

theorem lim_bindc {F : Nat → Option α} (k : α → Option β) (hF : Up F) : (Up fun n => (F n).bind k) ∧ limO (fun n => (F n).bind k) = (limO F).bind k := by
  refine ⟨up_bind (k := fun _ => k) hF fun _ => up_const _, ?_⟩
  rw [lim_bind (k := fun _ => k) hF fun _ => up_const _]
  simp only [lim_const]

theorem lim_shift {F : Nat → Option α} (hF : Up F) : limO (fun n => F (n + 1)) = limO F := by
  apply Option.ext
  intro r
  rw [lim_iff (fun n m r h => hF (n + 1) (m + 1) r (by omega)), lim_iff hF]
  exact ⟨fun ⟨n, h⟩ => ⟨n + 1, h⟩, fun ⟨n, h⟩ => ⟨n, hF n (n + 1) r (by omega) h⟩⟩
end

section
variable {K : Cfg} {c : Nat → CallF}

/-- calls that answer more and more -/
def UpC (c : Nat → CallF) : Prop := ∀ g a b, Up fun n => c n g a b

noncomputable def limC (c : Nat → CallF) : CallF := fun g a b => limO fun n => c n g a b

theorem doCall_form (own : Bool) (bx : Nat → Option (List CV)) (g : FuncId) (args : List AV) : (∃ d, ∀ call, doCall call own bx g args = d) ∨ ∃ a b k, ∀ call : CallF, doCall call own bx g args = (call g a b).bind k := by
  by_cases hf : args.all AV.flat = true
  · refine .inr ⟨args.map AV.deg, [], fun r => match r with
      | .ret v [] => if v.flat then some (.val (if own then v else v.deg) none []) else none
      | .pan v [] => if v.flat then some (.pan v []) else none
      | _ => none, fun call => ?_⟩
    unfold doCall
    rw [if_pos hf]
    cases call g (args.map AV.deg) [] with
    | none => rfl
    | some r => cases r with
      | ret v l => cases l <;> rfl
      | pan v l => cases l <;> rfl
  · cases hg : getBoxes bx (dedup (args.flatMap AV.ptrs)) with
    | none =>
      refine .inl ⟨none, fun call => ?_⟩
      unfold doCall
      rw [if_neg hf]
      simp only [hg]
    | some cs =>
      let L := dedup (args.flatMap AV.ptrs)
      refine .inr ⟨args.map fun a => (a.deg).ren (lend L), cs.map fun c => c.map (CV.ren (lend L)), fun r => match r with
        | .ret v cs' => if cs'.length = L.length then some (.val ((if own then v else v.deg).ren (back L)) none (zipBox L cs')) else none
        | .pan v cs' => if cs'.length = L.length then some (.pan (v.ren (back L)) (zipBox L cs')) else none, fun call => ?_⟩
      unfold doCall
      rw [if_neg hf]
      simp only [hg]
      cases call g (args.map fun a => (a.deg).ren (lend L)) (cs.map fun c => c.map (CV.ren (lend L))) with
      | none => rfl
      | some r => cases r <;> rfl

theorem absCall_form (bx : Nat → Option (List CV)) (ρ : Operand → AV) (cl : Call) : (∃ d, ∀ call, absCall K call bx ρ cl = d) ∨ ∃ g a b k, ∀ call : CallF, absCall K call bx ρ cl = (call g a b).bind k := by
  unfold absCall
  cases hc : cl.callee with
  | builtin b => exact .inl ⟨_, fun _ => rfl⟩
  | invoke r m => exact .inl ⟨_, fun _ => rfl⟩
  | value f =>
    simp only
    split
    · rename_i g caps _
      by_cases hg : K.good g = true
      · simp only [hg, if_true]
        rcases doCall_form (K.ownRet g) bx g (cl.args.toList.map ρ ++ caps.map fun x => .c (.loc x.1 x.2)) with h | ⟨a, b, k, h⟩
        · exact .inl h
        · exact .inr ⟨g, a, b, k, h⟩
      · refine .inl ⟨none, fun call => ?_⟩
        rw [if_neg hg]
    · exact .inl ⟨_, fun _ => rfl⟩

theorem absOp_form (apps : List Nat) (bx : Nat → Option (List CV)) (ρ : Operand → AV) (o : Oper) : (∃ d, ∀ call, absOp K call apps bx ρ o = d) ∨ ∃ g a b k, ∀ call : CallF, absOp K call apps bx ρ o = (call g a b).bind k := by
  obtain ⟨dst, op, type, pos, after, guard⟩ := o
  cases op
  case call cl => simp only [absOp]; exact absCall_form bx ρ cl
  case makeFunc fn first captured => cases fn <;> exact .inl ⟨_, fun _ => rfl⟩
  all_goals exact .inl ⟨_, fun _ => rfl⟩

theorem stepOp_bind (call : CallF) (ops : List Oper) (o : Oper) (S : St) : stepOp K call ops o S = (guardA ops S o).bind fun g => if g then (absOp K call (appArgs ops) S.bx (opd S.sl) o).bind fun d => (match d with
    | .pan v bs => some (.pan v, { S with bx := setBoxes S.bx bs })
    | .val v dg bs => ((({ S with bx := setBoxes S.bx bs } : St).degAt dg).put o.dst v).map (Out.norm, ·)) else (S.put o.dst (.tup [])).map (Out.norm, ·) := by
  unfold stepOp
  cases guardA ops S o with
  | none => rfl
  | some b =>
    cases b with
    | false => rfl
    | true =>
      simp only [Option.bind_some, if_true]
      cases absOp K call (appArgs ops) S.bx (opd S.sl) o with
      | none => rfl
      | some d => cases d <;> rfl

theorem up_absOp (hc : UpC c) (apps : List Nat) (bx : Nat → Option (List CV)) (ρ : Operand → AV) (o : Oper) : (Up fun n => absOp K (c n) apps bx ρ o) ∧ limO (fun n => absOp K (c n) apps bx ρ o) = absOp K (limC c) apps bx ρ o := by
  rcases absOp_form (K := K) apps bx ρ o with ⟨d, h⟩ | ⟨g, a, b, k, h⟩
  · simp only [h]
    exact ⟨fun _ _ _ _ h => h, lim_const d⟩
  · simp only [h]
    exact lim_bindc k (hc g a b)

theorem up_stepOp (hc : UpC c) (ops : List Oper) (o : Oper) (S : St) : (Up fun n => stepOp K (c n) ops o S) ∧ limO (fun n => stepOp K (c n) ops o S) = stepOp K (limC c) ops o S := by
  simp only [stepOp_bind]
  cases guardA ops S o with
  | none => exact ⟨fun _ _ _ _ h => h, lim_const none⟩
  | some b =>
    simp only [Option.bind_some]
    cases b with
    | false => exact ⟨fun _ _ _ _ h => h, lim_const _⟩
    | true =>
      simp only [if_true]
      obtain ⟨h1, h2⟩ := up_absOp (K := K) hc (appArgs ops) S.bx (opd S.sl) o
      rw [← h2]
      exact lim_bindc _ h1

theorem runOps_bind (call : CallF) (ops : List Oper) (o : Oper) (l : List Oper) (S : St) : runOps K call ops (o :: l) S = (stepOp K call ops o S).bind fun r => match r.1 with
    | .norm => runOps K call ops l r.2
    | _ => some r := by
  conv => lhs; unfold runOps
  cases stepOp K call ops o S with
  | none => rfl
  | some r =>
    obtain ⟨x, S1⟩ := r
    cases x <;> rfl

theorem up_runOps (hc : UpC c) (ops : List Oper) : ∀ (l : List Oper) (S : St), (Up fun n => runOps K (c n) ops l S) ∧ limO (fun n => runOps K (c n) ops l S) = runOps K (limC c) ops l S
  | [], S => ⟨fun _ _ _ _ h => h, lim_const _⟩
  | o :: l, S => by
    simp only [runOps_bind]
    obtain ⟨h1, h2⟩ := up_stepOp (K := K) hc ops o S
    have hk : ∀ r : Out × St, Up fun n => (match r.1 with
        | .norm => runOps K (c n) ops l r.2
        | _ => some r) := fun r => by
      obtain ⟨x, S1⟩ := r
      cases x with
      | norm => exact (up_runOps hc ops l S1).1
      | _ => exact fun _ _ _ _ h => h
    refine ⟨up_bind h1 hk, ?_⟩
    rw [lim_bind h1 hk, h2]
    congr 1
    funext r
    obtain ⟨x, S1⟩ := r
    cases x with
    | norm => exact (up_runOps hc ops l S1).2
    | _ => exact lim_const _

def CallF.le (c c' : CallF) : Prop := ∀ g a b r, c g a b = some r → c' g a b = some r

theorem le_limC (hc : UpC c) (n : Nat) : (c n).le (limC c) := fun g a b _ h => (lim_iff (hc g a b)).2 ⟨n, h⟩

theorem stepOp_le {c1 c2 : CallF} (h : c1.le c2) {ops : List Oper} {o : Oper} {S : St} {r : Out × St} (hr : stepOp K c1 ops o S = some r) : stepOp K c2 ops o S = some r := by
  rw [stepOp_bind] at hr ⊢
  cases hg : guardA ops S o with
  | none => rw [hg] at hr; cases hr
  | some b =>
    rw [hg] at hr
    cases b with
    | false => exact hr
    | true =>
      simp only [Option.bind_some, if_true] at hr ⊢
      rw [Option.bind_eq_some_iff] at hr ⊢
      obtain ⟨d, h1, h2⟩ := hr
      refine ⟨d, ?_, h2⟩
      rcases absOp_form (K := K) (appArgs ops) S.bx (opd S.sl) o with ⟨d', hd⟩ | ⟨g, a, b, k, hd⟩
      · rw [hd] at h1 ⊢; exact h1
      · rw [hd, Option.bind_eq_some_iff] at h1 ⊢
        obtain ⟨x, h3, h4⟩ := h1
        exact ⟨x, h _ _ _ _ h3, h4⟩

theorem logs_le {c1 c2 : CallF} (h : c1.le c2) (ops : List Oper) : ∀ (l : List Oper) (k : Nat) (S S' : St), runOps K c1 ops l S = some (.norm, S') → logOps K c1 ops k l S = logOps K c2 ops k l S
  | [], _, _, _, _ => rfl
  | o :: l, k, S, S', hr => by
    rw [runOps_bind, Option.bind_eq_some_iff] at hr
    obtain ⟨⟨x, S1⟩, h1, h2⟩ := hr
    cases x with
    | norm =>
      rw [logOps_cons h1, logOps_cons (stepOp_le h h1), logs_le h ops l (k + 1) S1 S' h2]
    | _ => simp at h2

theorem up_runRegion (hc : UpC c) (ops : List Oper) (draw : Bool) (S : St) : (Up fun n => runRegion K (c n) ops draw S) ∧ limO (fun n => runRegion K (c n) ops draw S) = runRegion K (limC c) ops draw S := by
  obtain ⟨h1, h2⟩ := up_runOps (K := K) hc ops ops S
  cases draw with
  | false =>
    simp only [runRegion, Bool.false_eq_true, if_false]
    exact ⟨h1, h2⟩
  | true =>
    have key : ∀ (call : CallF) (r : Out × St), runRegion K call ops true S = some r ↔ runOps K call ops ops S = some r ∧ (match r.1 with | .norm => memOK ops (logOps K call ops 0 ops S) = true | _ => False) := fun call r => by
      unfold runRegion
      rw [if_pos rfl]
      cases hr : runOps K call ops ops S with
      | none => simp
      | some q =>
        obtain ⟨x, S1⟩ := q
        cases x with
        | norm =>
          simp only [Option.some.injEq]
          by_cases hm : memOK ops (logOps K call ops 0 ops S) = true
          · simp only [hm, if_true, Option.some.injEq]
            constructor
            · intro e; subst e; exact ⟨rfl, trivial⟩
            · exact fun h => h.1
          · simp only [hm, if_false]
            constructor
            · intro e; cases e
            · rintro ⟨rfl, h⟩; exact absurd h (by simp)
        | _ =>
          simp only [Option.some.injEq]
          constructor
          · intro e; cases e
          · rintro ⟨rfl, h⟩; exact h.elim
    have hup : Up fun n => runRegion K (c n) ops true S := fun n m r hnm hr => by
      rw [key] at hr ⊢
      obtain ⟨h3, h4⟩ := hr
      refine ⟨h1 n m r hnm h3, ?_⟩
      obtain ⟨x, S1⟩ := r
      cases x with
      | norm =>
        simp only at h4 ⊢
        rw [← logs_le (fun g a b r h => hc g a b n m r hnm h) ops ops 0 S S1 h3]
        exact h4
      | _ => exact h4
    refine ⟨hup, Option.ext fun r => ?_⟩
    rw [lim_iff hup, key]
    constructor
    · rintro ⟨n, hr⟩
      rw [key] at hr
      obtain ⟨h3, h4⟩ := hr
      refine ⟨by rw [← h2]; exact (lim_iff h1).2 ⟨n, h3⟩, ?_⟩
      obtain ⟨x, S1⟩ := r
      cases x with
      | norm =>
        simp only at h4 ⊢
        rw [← logs_le (le_limC hc n) ops ops 0 S S1 h3]
        exact h4
      | _ => exact h4
    · rintro ⟨h3, h4⟩
      rw [← h2] at h3
      obtain ⟨n, h3⟩ := (lim_iff h1).1 h3
      refine ⟨n, ?_⟩
      rw [key]
      refine ⟨h3, ?_⟩
      obtain ⟨x, S1⟩ := r
      cases x with
      | norm =>
        simp only at h4 ⊢
        rw [logs_le (le_limC hc n) ops ops 0 S S1 h3]
        exact h4
      | _ => exact h4

theorem up_pre (hc : UpC c) (ops pre : List Oper) (S : St) : (Up fun n => runPre K (c n) ops pre S) ∧ limO (fun n => runPre K (c n) ops pre S) = runPre K (limC c) ops pre S := by
  obtain ⟨h1, h2⟩ := up_runOps (K := K) hc ops pre S
  have key : ∀ (call : CallF) (S1 : St), runPre K call ops pre S = some S1 ↔ runOps K call ops pre S = some (.norm, S1) ∧ memOK ops (logOps K call ops 0 pre S) = true := fun call S1 => by
    unfold runPre
    cases hr : runOps K call ops pre S with
    | none => simp
    | some q =>
      obtain ⟨x, S2⟩ := q
      cases x <;> simp
      exact And.comm
  have hup : Up fun n => runPre K (c n) ops pre S := fun n m r hnm hr => by
    rw [key] at hr ⊢
    obtain ⟨h3, h4⟩ := hr
    refine ⟨h1 n m _ hnm h3, ?_⟩
    rw [← logs_le (fun g a b r h => hc g a b n m r hnm h) ops pre 0 S r h3]
    exact h4
  refine ⟨hup, Option.ext fun r => ?_⟩
  rw [lim_iff hup, key]
  constructor
  · rintro ⟨n, hr⟩
    rw [key] at hr
    obtain ⟨h3, h4⟩ := hr
    refine ⟨by rw [← h2]; exact (lim_iff h1).2 ⟨n, h3⟩, ?_⟩
    rw [← logs_le (le_limC hc n) ops pre 0 S r h3]
    exact h4
  · rintro ⟨h3, h4⟩
    rw [← h2] at h3
    obtain ⟨n, h3⟩ := (lim_iff h1).1 h3
    refine ⟨n, ?_⟩
    rw [key]
    refine ⟨h3, ?_⟩
    rw [logs_le (le_limC hc n) ops pre 0 S r h3]
    exact h4

theorem push_bind (call : CallF) (ops : List Oper) (S : St) : runPush K call ops S = (runPre K call ops (ops.take (ops.length - 6)) S).bind fun S1 => (pushOf (ops.drop (ops.length - 6))).bind fun x => (pushEnd K x S1).map (Out.norm, ·) := by
  unfold runPush
  cases runPre K call ops (ops.take (ops.length - 6)) S <;> cases pushOf (ops.drop (ops.length - 6)) <;> rfl

theorem up_push (hc : UpC c) (ops : List Oper) (S : St) : (Up fun n => runPush K (c n) ops S) ∧ limO (fun n => runPush K (c n) ops S) = runPush K (limC c) ops S := by
  obtain ⟨h1, h2⟩ := up_pre (K := K) hc ops (ops.take (ops.length - 6)) S
  simp only [push_bind]
  rw [← h2]
  exact lim_bindc _ h1

/-! ### Code -/

def thenO (k : St → Option (Out × St)) (r : Out × St) : Option (Out × St) :=
  match r.1 with
  | .norm => k r.2
  | _ => some r

theorem iter_bind (body : St → Option (Out × St)) (kp : List Nat × List Nat) (n : Nat) (S : St) : iter body kp (n + 1) S = (body (head kp S)).bind (thenO (iter body kp n)) := by
  conv => lhs; unfold iter
  cases body (head kp S) with
  | none => rfl
  | some r =>
    obtain ⟨x, S1⟩ := r
    cases x <;> rfl

theorem exec_seq (call : CallF) (n : Nat) (f : FuncId) (a b : Code) (S : St) : execN K call n f (.seq a b) S = (execN K call n f a S).bind (thenO (execN K call n f b)) := by
  conv => lhs; unfold execN
  cases execN K call n f a S with
  | none => rfl
  | some r =>
    obtain ⟨x, S1⟩ := r
    cases x <;> rfl

def outOf (id : Nat) (r : Out × St) : Out × St :=
  match r.1 with
  | .exit i => if i = id then (.norm, r.2) else r
  | _ => r

theorem exec_block (call : CallF) (n : Nat) (f : FuncId) (id : Nat) (x : Code) (S : St) : execN K call n f (.block id x) S = (execN K call n f x S).map (outOf id) := by
  conv => lhs; unfold execN
  cases execN K call n f x S with
  | none => rfl
  | some r =>
    obtain ⟨x, S1⟩ := r
    cases x with
    | exit i =>
      simp only [Option.map_some, outOf]
      split <;> rfl
    | _ => rfl

theorem up_thenO {k : Nat → St → Option (Out × St)} (hk : ∀ S, Up fun n => k n S) (r : Out × St) : Up fun n => thenO (k n) r := by
  obtain ⟨x, S1⟩ := r
  cases x with
  | norm => exact hk S1
  | _ => exact fun _ _ _ _ h => h

theorem up_iter {body : Nat → St → Option (Out × St)} (hb : ∀ S, Up fun n => body n S) (kp : List Nat × List Nat) : ∀ (k m n k' : Nat) (S : St) (r : Out × St), n ≤ m → k ≤ k' → iter (body n) kp k S = some r → iter (body m) kp k' S = some r
  | 0, _, _, _, _, _, _, _, h => by cases h
  | k + 1, m, n, 0, _, _, _, hk, _ => by omega
  | k + 1, m, n, k' + 1, S, r, hnm, hk, h => by
    rw [iter_bind, Option.bind_eq_some_iff] at h ⊢
    obtain ⟨⟨x, S1⟩, h1, h2⟩ := h
    refine ⟨(x, S1), hb _ n m _ hnm h1, ?_⟩
    cases x with
    | norm => exact up_iter hb kp k m n k' S1 r hnm (by omega) h2
    | _ => exact h2

theorem up_exec (hc : UpC c) (f : FuncId) : ∀ (x : Code) (S : St), Up fun n => execN K (c n) n f x S := by
  intro x
  induction x with
  | skip => intro S _ _ _ _ h; exact h
  | region id ops draw =>
    intro S
    simp only [execN]
    split
    · exact (up_push hc ops.toList S).1
    · exact (up_runRegion hc ops.toList draw S).1
  | seq a b iha ihb =>
    intro S
    simp only [exec_seq]
    exact up_bind (iha S) fun r => up_thenO ihb r
  | cond cn a b iha ihb =>
    intro S
    simp only [execN]
    split
    · split
      · exact iha S
      · exact ihb S
    · exact fun _ _ _ _ h => h
  | block id a ih =>
    intro S n m r hnm h
    simp only [exec_block, Option.map_eq_some_iff] at h ⊢
    obtain ⟨q, h1, h2⟩ := h
    exact ⟨q, ih S n m q hnm h1, h2⟩
  | loop a ih =>
    intro S n m r hnm h
    simp only [execN] at h ⊢
    exact up_iter (body := fun n => execN K (c n) n f a) ih _ n m n m S r hnm hnm h
  | scope a ih =>
    intro S
    simp only [execN]
    exact ih S
  | exit id => intro S _ _ _ _ h; exact h
  | ret => intro S _ _ _ _ h; exact h
  | _ => intro S _ _ _ _ h; exact h

theorem enter_bind (ex : Code → St → Option (Out × St)) (f : FuncId) (args : List AV) (bxs : List (List CV)) {fn : Func} {x : Code} (hf : K.P.funcs[f]? = some fn) (hx : fn.body = some x) :
    enter K ex f args bxs = if args.length ≤ fn.ntmps ∧ fn.ntmps < LK then (ex x (enterSt fn.ntmps args bxs)).bind (fun r => leave K f fn bxs.length (some r)) else none := by
  unfold enter
  simp only [hf, hx]
  split
  · cases ex x (enterSt fn.ntmps args bxs) <;> rfl
  · rfl

theorem up_callN : UpC (callN K) := by
  have key : ∀ n, ∀ g a b r, callN K n g a b = some r → callN K (n + 1) g a b = some r ∧ ∀ m, n ≤ m → callN K m g a b = some r := by
    intro n
    have step : ∀ n m : Nat, n ≤ m → ∀ g a b r, callN K n g a b = some r → callN K m g a b = some r := by
      intro n
      induction n with
      | zero => intro m _ g a b r h; cases h
      | succ n ih =>
        intro m hm g a b r h
        obtain ⟨m, rfl⟩ : ∃ k, m = k + 1 := ⟨m - 1, by omega⟩
        have hnm : n ≤ m := by omega
        unfold callN at h ⊢
        split
        · rename_i F hF
          rw [hF] at h; exact h
        · rename_i hF
          rw [hF] at h
          simp only at h
          have hup : ∀ (x : Code) (S : St) (r : Out × St), execN K (callN K n) n g x S = some r → execN K (callN K m) m g x S = some r := fun x S r hr => by
            -- two rows: 'n' and 'm'
            let c : Nat → CallF := fun j => if j < m then callN K n else callN K m
            have hc : UpC c := fun g a b i j r hij hr => by
              show c j g a b = some r
              have hr : c i g a b = some r := hr
              simp only [c] at hr ⊢
              split at hr
              · split
                · exact hr
                · exact ih m hnm g a b r hr
              · rw [if_neg (by omega)]; exact hr
            rcases Nat.lt_or_ge n m with hlt | hge
            · have h1 : c n = callN K n := if_pos hlt
              have h2 : c m = callN K m := if_neg (by omega)
              have := up_exec (K := K) hc g x S n m r hnm (by show execN K (c n) n g x S = some r; rw [h1]; exact hr)
              have this : execN K (c m) m g x S = some r := this
              rw [h2] at this; exact this
            · have : n = m := by omega
              subst this; exact hr
          cases hf : K.P.funcs[g]? with
          | none => unfold enter at h; simp only [hf] at h; cases h
          | some fn =>
            cases hx : fn.body with
            | none => unfold enter at h; simp only [hf, hx] at h; cases h
            | some x =>
              rw [enter_bind _ _ _ _ hf hx] at h ⊢
              split at h
              · rename_i hl
                rw [if_pos hl]
                rw [Option.bind_eq_some_iff] at h ⊢
                obtain ⟨q, h1, h2⟩ := h
                exact ⟨q, hup _ _ _ h1, h2⟩
              · cases h
    exact fun g a b r h => ⟨step n (n + 1) (by omega) g a b r h, fun m hm => step n m hm g a b r h⟩
  exact fun g a b n m r hnm h => (key n g a b r h).2 m hnm

/-! ### The answers -/

noncomputable def den (K : Cfg) : CallF := limC (callN K)
noncomputable def exL (K : Cfg) (f : FuncId) (x : Code) (S : St) : Option (Out × St) := limO fun n => execN K (callN K n) n f x S

theorem den_iff {g : FuncId} {a : List AV} {b : List (List CV)} {r : Res} : den K g a b = some r ↔ ∃ n, callN K n g a b = some r := lim_iff (up_callN g a b)

theorem den_ok (hK : Prog K) {f : FuncId} {args : List AV} {bxs : List (List CV)} {r : Res} (hg : K.good f = true) (h : den K f args bxs = some r) : Contract K.P f args bxs r := by
  obtain ⟨n, h⟩ := den_iff.1 h
  exact callN_ok hK n f args bxs r hg h

theorem den_prim {f : FuncId} {F : List AV → List (List CV) → Option (AV × List (List CV))} (h : K.pr f = some F) (args : List AV) (bxs : List (List CV)) : den K f args bxs = (F args bxs).map fun x => .ret x.1 x.2 := by
  apply Option.ext
  intro r
  rw [den_iff]
  constructor
  · rintro ⟨n, hn⟩
    cases n with
    | zero => cases hn
    | succ n =>
      unfold callN at hn
      simp only [h] at hn
      exact hn
  · intro hr
    refine ⟨1, ?_⟩
    unfold callN
    simp only [h]
    exact hr

theorem den_eq {f : FuncId} {fn : Func} {x : Code} (hp : K.pr f = none) (hf : K.P.funcs[f]? = some fn) (hx : fn.body = some x) (args : List AV) (bxs : List (List CV)) :
    den K f args bxs = if args.length ≤ fn.ntmps ∧ fn.ntmps < LK then (exL K f x (enterSt fn.ntmps args bxs)).bind (fun r => leave K f fn bxs.length (some r)) else none := by
  show limO (fun n => callN K n f args bxs) = _
  rw [← lim_shift (up_callN f args bxs)]
  have : (fun n => callN K (n + 1) f args bxs) = fun n => if args.length ≤ fn.ntmps ∧ fn.ntmps < LK then (execN K (callN K n) n f x (enterSt fn.ntmps args bxs)).bind (fun r => leave K f fn bxs.length (some r)) else none := by
    funext n
    conv => lhs; unfold callN
    simp only [hp]
    exact enter_bind _ _ _ _ hf hx
  rw [this]
  split
  · rw [lim_bind (k := fun _ r => leave K f fn bxs.length (some r)) (up_exec up_callN f x _) fun _ => up_const _]
    simp only [lim_const]
    rfl
  · exact lim_const none

theorem exL_skip (f : FuncId) (S : St) : exL K f .skip S = some (.norm, S) := lim_const _
theorem exL_ret (f : FuncId) (S : St) : exL K f .ret S = some (.ret, S) := lim_const _
theorem exL_exit (f : FuncId) (id : Nat) (S : St) : exL K f (.exit id) S = some (.exit id, S) := lim_const _
theorem exL_region (f : FuncId) (id : Nat) (ops : Array Oper) (draw : Bool) (S : St) (h : K.hook f id = false) : exL K f (.region id ops draw) S = runRegion K (den K) ops.toList draw S := by
  unfold exL
  simp only [execN, h, Bool.false_eq_true, if_false]
  exact (up_runRegion up_callN ops.toList draw S).2
theorem exL_push (f : FuncId) (id : Nat) (ops : Array Oper) (draw : Bool) (S : St) (h : K.hook f id = true) : exL K f (.region id ops draw) S = runPush K (den K) ops.toList S := by
  unfold exL
  simp only [execN, h, if_true]
  exact (up_push up_callN ops.toList S).2

theorem lim_thenO {k : Nat → St → Option (Out × St)} (r : Out × St) : limO (fun n => thenO (k n) r) = thenO (fun S => limO fun n => k n S) r := by
  obtain ⟨x, S1⟩ := r
  cases x with
  | norm => rfl
  | _ => exact lim_const _

theorem exL_seq (f : FuncId) (a b : Code) (S : St) : exL K f (.seq a b) S = (exL K f a S).bind (thenO (exL K f b)) := by
  unfold exL
  simp only [exec_seq]
  rw [lim_bind (up_exec up_callN f a S) fun r => up_thenO (fun S => up_exec up_callN f b S) r]
  congr 1
  funext r
  exact lim_thenO r

theorem exL_cond (f : FuncId) (cn : Operand) (a b : Code) (S : St) : exL K f (.cond cn a b) S = (match opd S.sl cn with
    | .c (.pv (.bool t)) => if t then exL K f a S else exL K f b S
    | _ => none) := by
  unfold exL
  simp only [execN]
  cases opd S.sl cn with
  | c v =>
    cases v with
    | pv p =>
      cases p with
      | bool t => cases t <;> rfl
      | _ => exact lim_const none
    | _ => exact lim_const none
  | _ => exact lim_const none

theorem exL_scope (f : FuncId) (a : Code) (S : St) : exL K f (.scope a) S = exL K f a S := by
  unfold exL
  simp only [execN]

theorem exL_block (f : FuncId) (id : Nat) (a : Code) (S : St) : exL K f (.block id a) S = (exL K f a S).map (outOf id) := by
  unfold exL
  simp only [exec_block]
  have : ∀ F : Nat → Option (Out × St), Up F → limO (fun n => (F n).map (outOf id)) = (limO F).map (outOf id) := fun F hF => by
    have e : (fun n => (F n).map (outOf id)) = fun n => (F n).bind fun x => some (outOf id x) := by
      funext n; cases F n <;> rfl
    rw [e, lim_bind (k := fun _ x => some (outOf id x)) hF fun _ => up_const _]
    simp only [lim_const]
    cases limO F <;> rfl
  exact this _ (up_exec up_callN f a S)

/-- one round of a loop -/
theorem exL_loop (f : FuncId) (a : Code) (S : St) : exL K f (.loop a) S = (exL K f a (head (K.keep f ((firstReg a).getD 0)) S)).bind (thenO (exL K f (.loop a))) := by
  have hup := up_exec (K := K) (c := callN K) up_callN f
  apply Option.ext
  intro r
  unfold exL
  rw [lim_iff (hup _ S)]
  rw [Option.bind_eq_some_iff]
  have hit : ∀ n, execN K (callN K n) n f (.loop a) = iter (execN K (callN K n) n f a) (K.keep f ((firstReg a).getD 0)) n := fun n => by funext S; simp only [execN]
  constructor
  · rintro ⟨n, h⟩
    rw [hit] at h
    cases n with
    | zero => cases h
    | succ n =>
      rw [iter_bind, Option.bind_eq_some_iff] at h
      obtain ⟨q, h1, h2⟩ := h
      refine ⟨q, (lim_iff (hup a _)).2 ⟨n + 1, h1⟩, ?_⟩
      obtain ⟨x, S1⟩ := q
      cases x with
      | norm =>
        refine (lim_iff (hup _ S1)).2 ⟨n + 1, ?_⟩
        rw [hit]
        exact up_iter (body := fun n => execN K (callN K n) n f a) (hup a) _ n (n + 1) (n + 1) (n + 1) S1 r (by omega) (by omega) h2
      | _ => exact h2
  · rintro ⟨q, h1, h2⟩
    obtain ⟨n, h1⟩ := (lim_iff (hup a _)).1 h1
    obtain ⟨x, S1⟩ := q
    cases x with
    | norm =>
      obtain ⟨m, h2⟩ := (lim_iff (hup (.loop a) S1)).1 h2
      rw [hit] at h2
      refine ⟨max n m + 1, ?_⟩
      rw [hit, iter_bind, Option.bind_eq_some_iff]
      refine ⟨(.norm, S1), hup a _ n _ _ (by omega) h1, ?_⟩
      exact up_iter (body := fun n => execN K (callN K n) n f a) (hup a) _ m (max n m + 1) m (max n m) S1 r (by omega) (by omega) h2
    | _ =>
      refine ⟨n + 1, ?_⟩
      rw [hit, iter_bind, Option.bind_eq_some_iff]
      exact ⟨_, hup a _ n (n + 1) _ (by omega) h1, h2⟩
end
end Go.Abs
