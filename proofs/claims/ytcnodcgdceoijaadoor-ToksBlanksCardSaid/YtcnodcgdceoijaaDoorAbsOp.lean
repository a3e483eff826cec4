/-
  THE ABSTRACT INTERPRETER: each operation, as the model carries it out.
-/
import Derived.Test.YtcnodcgdceoijaaDoorAbsCall
set_option linter.unusedSimpArgs false
set_option linter.unusedVariables false
namespace Go.Abs
open Go

/-- what an operation's run says of the interpreter's answer -/
def Upon (P : Program) (G : Gh) (w : World) (S : St) (a : Act) (dst : Option Nat) (r : Result Next) : Delta → Prop
  | .val v dg bs =>
    (∃ x w' G', (r = .ok (.value x) w' ∨ (r = .ok .skip w' ∧ x = undef)) ∧ Step G w S a dst v dg bs x G' w') ∨
    (∃ f args, r = .ok (.enter f args) w ∧ Calls P f args w fun e w' => ∃ x G', e = .returned x ∧ Step G w S a dst v dg bs x G' w')
  | .pan v bs =>
    (∃ x, r = .halt (.panic x) w ∧ RN G v x ∧ bs = []) ∨
    (∃ f args, r = .ok (.enter f args) w ∧ Calls P f args w fun e w' => ∃ x G', e = .panicked [{ v := x, recovered := false }] ∧ RN G' v x ∧ Ext G w G' w' ∧ WI G' w' ∧ FR G' w' { S with bx := setBoxes S.bx bs } a)

section
variable {K : Cfg} {call : CallF} {G : Gh} {w : World} {S : St} {a : Act} {apps : List Nat} {o : Oper} {d : Delta}

theorem zip_set : ∀ {L : List Nat} {m : List (List CV)} {f : Nat → Option (List CV)}, L.Nodup → m.length = L.length → ∀ s, setBoxes f (L.zip m) s = match idx s L with | some i => m[i]? | none => f s
  | [], m, f, _, h, s => by
    have : m = [] := List.eq_nil_of_length_eq_zero (by simpa using h)
    subst this; rfl
  | b :: L, [], f, _, h, s => by simp at h
  | b :: L, c :: m, f, hn, h, s => by
    obtain ⟨h1, h2⟩ := List.nodup_cons.1 hn
    have ih := zip_set (f := upd f b (some c)) h2 (by simpa using h) s
    show setBoxes (upd f b (some c)) (L.zip m) s = _
    rw [ih, show idx s (b :: L) = if b = s then some 0 else (idx s L).map (· + 1) from rfl]
    by_cases hs : b = s
    · subst hs
      have : idx b L = none := by
        cases hi : idx b L with
        | none => rfl
        | some i => exact absurd (List.mem_of_getElem? (idx_some hi)) h1
      simp [this, upd]
    · simp only [if_neg hs]
      cases idx s L with
      | none => simp [upd, Ne.symm hs]
      | some i => simp

theorem zipBox_box {G' : Gh} {w' : World} {L : List Nat} {cs' : List (List CV)} (hn : L.Nodup) (hl : cs'.length = L.length) (hf : FR G w S a) (hw : WI G w) (g : Gr (lentCh L) G w G' w') (hbb : G'.bb = G.bb)
    (hb : ∀ (i s : Nat) (l : List CV), L[i]? = some s → cs'[i]? = some l → BoxR G' w' s (l.map (CV.ren (back L)))) :
    (∀ s l, setBoxes S.bx (zipBox L cs') s = some l → BoxR G' w' s l) ∧ (∀ s, setBoxes S.bx (zipBox L cs') s = none → s < LK → G'.bb s = none) := by
  have hz := fun s => zip_set (f := S.bx) (m := cs'.map fun c => c.map (CV.ren (back L))) hn (by simpa using hl) s
  refine ⟨fun s l h => ?_, fun s h hlk => ?_⟩
  · unfold zipBox at h
    rw [hz s] at h
    cases hi : idx s L with
    | none =>
      rw [hi] at h
      have hs : s ∉ L := fun hm => by obtain ⟨i, h2⟩ := idx_mem hm; rw [hi] at h2; cases h2
      refine (hf.box s l h).gr hw g ?_ (fun k => ?_)
      · rintro ⟨t, ht, h1 | ⟨k, h1⟩⟩
        · cases h1; exact hs ht
        · cases h1
      · rintro ⟨t, ht, h1 | ⟨k', h1⟩⟩
        · cases h1
        · cases h1; exact hs ht
    | some i =>
      rw [hi] at h
      simp only [List.getElem?_map, Option.map_eq_some_iff] at h
      obtain ⟨l', hl', rfl⟩ := h
      exact hb i s l' (idx_some hi) hl'
  · unfold zipBox at h
    rw [hz s] at h
    cases hi : idx s L with
    | none => rw [hi] at h; rw [hbb]; exact hf.nob s h hlk
    | some i =>
      rw [hi] at h
      have hlt : i < L.length := (List.getElem?_eq_some_iff.1 (idx_some hi)).1
      simp [hl, hlt] at h

theorem ptrs_flat {L : List Nat} : ∀ (u : CV), u.flat = true → u.ren (lend L) = u
  | .loc _ _, h => by cases h
  | .fn f caps, h => by
    have : caps = [] := by simpa [CV.flat] using h
    subst this; rfl
  | .top, _ => rfl
  | .pv _, _ => rfl
  | .own _ _, _ => rfl
  | .bld, _ => rfl
  | .nils, _ => rfl
  | .nilp, _ => rfl
  | .cptr _, _ => rfl

theorem flat_ren {g : Nat → Option Nat} : ∀ (u : CV), u.flat = true → u.ren g = u
  | .loc _ _, h => by cases h
  | .fn f caps, h => by
    have : caps = [] := by simpa [CV.flat] using h
    subst this; rfl
  | .top, _ => rfl
  | .pv _, _ => rfl
  | .own _ _, _ => rfl
  | .bld, _ => rfl
  | .nils, _ => rfl
  | .nilp, _ => rfl
  | .cptr _, _ => rfl

theorem map_flat_ren {g : Nat → Option Nat} {l : List CV} (h : l.all CV.flat = true) : l.map (CV.ren g) = l := by
  induction l with
  | nil => rfl
  | cons u l ih =>
    simp only [List.all_cons, Bool.and_eq_true] at h
    simp [flat_ren u h.1, ih h.2]

theorem av_flat_ren {g : Nat → Option Nat} {v : AV} (h : v.flat = true) : v.ren g = v := by
  cases v with
  | c u => simp only [AV.ren, flat_ren u h]
  | agg l => simp only [AV.ren, map_flat_ren (l := l) h]
  | tup l =>
    simp only [AV.ren]
    congr 1
    have h' : l.all TV.flat = true := h
    clear h
    induction l with
    | nil => rfl
    | cons u l ih =>
      simp only [List.all_cons, Bool.and_eq_true] at h'
      rw [List.map_cons, ih h'.2]
      congr 1
      cases u with
      | c u => simp only [TV.ren, flat_ren u h'.1]
      | agg m => simp only [TV.ren, map_flat_ren (l := m) h'.1]

theorem av_flat_deg {v : AV} (h : v.flat = true) : v.deg.flat = true := by
  cases v with
  | c u => cases u <;> first | exact h | rfl
  | agg l => exact h
  | tup l => exact h

theorem deg_ren (g : Nat → Option Nat) (v : AV) : v.deg.ren g = (v.ren g).deg := by
  cases v with
  | c u =>
    cases u with
    | loc s off => simp only [AV.deg, CV.deg, AV.ren, CV.ren]; split <;> rfl
    | fn f caps => simp only [AV.deg, CV.deg, AV.ren, CV.ren]; split <;> rfl
    | _ => rfl
  | agg l => rfl
  | tup l => rfl

theorem lentCh_nil {ℓ : Own} : ¬ lentCh [] ℓ := by rintro ⟨s, hs, _⟩; simp at hs

/-- a call, from the contract -/
theorem doCall_ok {own : Bool} {g : FuncId} {args : List AV} {cargs : List Value} (h : doCall call own S.bx g args = some d) (hf : FR G w S a) (hw : WI G w)
    (hcall : ∀ args bxs r, call g args bxs = some r → Contract K.P g args bxs r) (hargs : All2 (fun v x => ∃ ℓ, RA G w ℓ v x) args cargs) (dst : Option Nat) :
    match d with
    | .val v dg bs => Calls K.P g cargs.toArray w fun e w' => ∃ x G', e = .returned x ∧ Step G w S a dst v dg bs x G' w'
    | .pan v bs => Calls K.P g cargs.toArray w fun e w' => ∃ x G', e = .panicked [{ v := x, recovered := false }] ∧ RN G' v x ∧ Ext G w G' w' ∧ WI G' w' ∧ FR G' w' { S with bx := setBoxes S.bx bs } a := by
  let o : Own := match dst with | some d => .slot d | none => .ret
  have hob : ∀ s, o ≠ .box s := fun s => by cases dst <;> simp [o]
  unfold doCall at h
  split at h
  · rename_i hflat
    have hren : (args.map fun a => (a.deg).ren (lend [])) = args.map AV.deg := by
      apply List.map_congr_left
      intro v hv
      exact av_flat_ren (av_flat_deg (List.all_eq_true.1 hflat v hv))
    split at h
    · rename_i v hr
      split at h
      case isFalse => cases h
      rename_i hvf
      cases h
      have := call_ok (o := o) (L := []) (cs := []) (by simp) hf hw hob rfl hargs (r := .ret v []) (by rw [hren]; exact hcall _ _ _ hr)
      refine this.mono ?_
      rintro e w' ⟨G', gr, hw', hbb, x, h1, h2, h3, _⟩
      rw [av_flat_ren hvf] at h2
      refine ⟨x, G', h1, Step.of_gr hf hw gr hw' (fun d hd => ?_) (fun t ht => (lentCh_nil ht).elim) (fun s l hl => .inl ⟨hl, lentCh_nil, fun _ => lentCh_nil⟩) (fun s hs hlk => by rw [hbb]; exact hf.nob s hs hlk)⟩
      subst hd
      by_cases ho : own = true
      · rw [if_pos ho]; exact h2
      · rw [if_neg ho]; exact h2.deg
    · rename_i v hr
      split at h
      case isFalse => cases h
      rename_i hvf
      cases h
      have := call_ok (o := o) (L := []) (cs := []) (by simp) hf hw hob rfl hargs (r := .pan v []) (by rw [hren]; exact hcall _ _ _ hr)
      refine this.mono ?_
      rintro e w' ⟨G', gr, hw', hbb, x, h1, h2, h3, _⟩
      rw [flat_ren v hvf] at h2
      refine ⟨x, G', h1, h2, gr.ext, hw', hf.size, fun t => (hf.slot t).gr gr lentCh_nil, fun s l hl => (hf.box s l hl).gr hw gr lentCh_nil (fun _ => lentCh_nil), fun s hs hlk => by rw [hbb]; exact hf.nob s hs hlk⟩
    · cases h
  · have hn := dedup_nodup (args.flatMap AV.ptrs)
    generalize dedup (args.flatMap AV.ptrs) = L at h hn
    simp only at h
    split at h
    case h_1 => cases h
    rename_i cs hcs
    split at h
    · rename_i v cs' hr
      split at h
      case isFalse => cases h
      rename_i hlen
      cases h
      have := call_ok (o := o) hn hf hw hob hcs hargs (hcall _ _ _ hr)
      refine this.mono ?_
      rintro e w' ⟨G', gr, hw', hbb, x, h1, h2, h3, h4⟩
      obtain ⟨hb1, hb2⟩ := zipBox_box hn hlen hf hw gr hbb h4
      refine ⟨x, G', h1, Step.of_gr hf hw gr hw' (fun d hd => ?_) (fun t ht => ?_) (fun s l hl => .inr (hb1 s l hl)) hb2⟩
      · subst hd
        by_cases ho : own = true
        · rw [if_pos ho]; exact h2
        · rw [if_neg ho, deg_ren]; exact h2.deg
      · obtain ⟨s, _, h5 | ⟨k, h5⟩⟩ := ht <;> cases h5
    · rename_i v cs' hr
      split at h
      case isFalse => cases h
      rename_i hlen
      cases h
      have := call_ok (o := o) hn hf hw hob hcs hargs (hcall _ _ _ hr)
      refine this.mono ?_
      rintro e w' ⟨G', gr, hw', hbb, x, h1, h2, h3, h4⟩
      obtain ⟨hb1, hb2⟩ := zipBox_box hn hlen hf hw gr hbb h4
      exact ⟨x, G', h1, h2, gr.ext, hw', hf.size, fun t => (hf.slot t).gr gr (by rintro ⟨s, _, h5 | ⟨k, h5⟩⟩ <;> cases h5), hb1, hb2⟩
    · cases h

theorem rparts (hf : FR G w S a) : ∀ (ps : List (Nat × Operand)), All2 (RPart G w) (ps.map fun p => (p.1, opd S.sl p.2)) (ps.map fun p => (p.1, a.eval p.2))
  | [] => .nil
  | p :: ps => .cons ⟨rfl, _, hf.opd p.2⟩ (rparts hf ps)

theorem rargs (hf : FR G w S a) : ∀ (xs : List Operand), All2 (fun v x => ∃ ℓ, RA G w ℓ v x) (xs.map (opd S.sl)) (xs.map a.eval)
  | [] => .nil
  | x :: xs => .cons ⟨_, hf.opd x⟩ (rargs hf xs)

theorem ropt (hf : FR G w S a) (x : Option Operand) : RO G w (x.map (opd S.sl)) (x.map a.eval) := by
  cases x with
  | none => exact trivial
  | some x => exact ⟨_, hf.opd x⟩

theorem run_callFunc {g : FuncId} {fn : Func} {args : Array Value} (h : K.P.funcs[g]? = some fn) (hn : fn.name ≠ "runtime.NumGoroutine") (hb : fn.body.isSome = true) : (callFunc g args).run K.P w = .ok (.enter g args) w := by
  have hb' : fn.body ≠ none := by cases hx : fn.body <;> simp_all
  simp [callFunc, h, hn, hb']

theorem okAV_inv {r : Option AV} (h : okAV r = some d) : ∃ v, r = some v ∧ d = .val v none [] := by
  cases r with
  | none => cases h
  | some v => cases h; exact ⟨v, rfl, rfl⟩
theorem okPV_inv {r : Option PV} (h : okPV r = some d) : ∃ p, r = some p ∧ d = .val (.c (.pv p)) none [] := by
  cases r with
  | none => cases h
  | some v => cases h; exact ⟨v, rfl, rfl⟩

theorem upon_pure {r : Result Next} {v : AV} {x : Value} (hf : FR G w S a) (hw : WI G w) (hr : r = .ok (.value x) w) (hv : ∀ d, o.dst = some d → RA G w (.slot d) v x) : Upon K.P G w S a o.dst r (.val v none []) :=
  .inl ⟨x, w, G, .inl hr, Step.pure hf hw hv⟩

theorem locs_ok : ∀ {l : List AV} {m : List (Nat × Nat)} {xs : List Value}, locs l = some m → All2 (fun v x => ∃ ℓ, RA G w ℓ v x) l xs → All2 (fun (c : Nat × Nat) (v : Value) => ∃ b, G.bb c.1 = some b ∧ v = .pointer (some ⟨b, c.2, none⟩)) m xs
  | [], m, _, h, .nil => by simp [locs] at h; subst h; exact .nil
  | v :: l, m, x :: xs, h, .cons hx hxs => by
    unfold locs at h
    split at h
    · rename_i heq; cases heq
    · rename_i s o' l' heq
      cases heq
      simp only [Option.map_eq_some_iff] at h
      obtain ⟨m', hm, rfl⟩ := h
      obtain ⟨ℓ, hx⟩ := hx
      exact .cons hx (locs_ok hm hxs)
    · cases h

theorem absCall_ok {c : Call} {ty : TypeId} (h : absCall K call S.bx (opd S.sl) c = some d) (hf : FR G w S a) (hw : WI G w)
    (hgood : ∀ g, K.good g = true → ∃ fn, K.P.funcs[g]? = some fn ∧ fn.name ≠ "runtime.NumGoroutine" ∧ fn.body.isSome = true)
    (hcall : ∀ g args bxs r, K.good g = true → call g args bxs = some r → Contract K.P g args bxs r) :
    Upon K.P G w S a o.dst ((do let d ← resolve a.eval c ty; invoke d.target d.args : Sem Next).run K.P w) d := by
  unfold absCall at h
  split at h
  · rename_i b hb
    have hres : ∀ k : Builtin, c.callee = .builtin k → (resolve a.eval c ty).run K.P w = .ok { target := .builtin k c.argTypes ty (c.args.map fun | .const _ => true | _ => false), args := c.args.map a.eval } w := fun k hk => by
      unfold resolve; rw [hk]; rfl
    split at h
    · split at h
      case h_2 => cases h
      rename_i x t hx ht
      obtain ⟨p, hp, rfl⟩ := okPV_inv h
      obtain ⟨z, h1, h2⟩ := len_ok (ty := ty) hp (hf.opd x)
      refine upon_pure hf hw (x := z) ?_ (fun d _ => RA.of_RN (v := .pv p) h2)
      have ea : c.args.map a.eval = #[a.eval x] := by apply Array.ext'; simp [hx]
      have et : c.argTypes = #[t] := by apply Array.ext'; simp [ht]
      simp [hres _ hb, invoke, builtin, ea, et, h1]
    · obtain ⟨p, hp, rfl⟩ := okPV_inv h
      obtain ⟨z, h1, h2⟩ := max_ok (P := K.P) (ts := c.argTypes) (t := ty) hp (rargs hf c.args.toList)
      refine upon_pure hf hw (x := z) ?_ (fun d _ => RA.of_RN (v := .pv p) h2)
      have ea : c.args.map a.eval = (c.args.toList.map a.eval).toArray := by apply Array.ext'; simp
      simp only [Sem.run_bind, hres _ hb, Result.andThen_ok, invoke, builtin, ea, h1, Sem.run_pure]
    · obtain ⟨p, hp, rfl⟩ := okPV_inv h
      obtain ⟨z, h1, h2⟩ := min_ok (P := K.P) (ts := c.argTypes) (t := ty) hp (rargs hf c.args.toList)
      refine upon_pure hf hw (x := z) ?_ (fun d _ => RA.of_RN (v := .pv p) h2)
      have ea : c.args.map a.eval = (c.args.toList.map a.eval).toArray := by apply Array.ext'; simp
      simp only [Sem.run_bind, hres _ hb, Result.andThen_ok, invoke, builtin, ea, h1, Sem.run_pure]
    · split at h
      case h_2 => cases h
      rename_i s x hargs
      split at h
      case h_2 => cases h
      rename_i v hv
      have ea : c.args.map a.eval = #[a.eval s, a.eval x] := by apply Array.ext'; simp [hargs]
      have fin : ∀ dg, (∃ u, s = .tmp u ∧ dg = if isOwn (opd S.sl s) then some u else none) ∨ (∃ k, s = .const k ∧ dg = none) → d = .val v dg [] → Upon K.P G w S a o.dst ((do let d ← resolve a.eval c ty; invoke d.target d.args : Sem Next).run K.P w) d := by
        intro dg hdg hd
        subst hd
        obtain ⟨z, w', G', h1, h2⟩ := append_ok (ty := ty) (dst := o.dst) hv hf hw (hf.opd x) hdg
        refine .inl ⟨z, w', G', .inl ?_, h2⟩
        rw [Array.toArray_toList] at h1
        simp only [Sem.run_bind, hres _ hb, Result.andThen_ok, invoke, builtin, ea, h1, Sem.run_pure]
      split at h
      · rename_i u hs
        cases h
        exact fin _ (.inl ⟨u, rfl, by rw [if_pos hs]⟩) rfl
      · rename_i u hs
        cases h
        exact fin _ (.inl ⟨u, rfl, by rw [if_neg (by simp [hs])]⟩) rfl
      · rename_i k
        cases h
        exact fin _ (.inr ⟨k, rfl, rfl⟩) rfl
      · cases h
    · cases h
  · rename_i f hb
    split at h
    case h_2 => cases h
    rename_i g caps hfv
    split at h
    case isFalse => cases h
    rename_i hg
    have hF := hf.opd f
    rw [hfv] at hF
    obtain ⟨vs, hvs, hcaps⟩ : ∃ vs : List Value, a.eval f = .func (.func g) #[] vs.toArray ∧ All2 (fun (c : Nat × Nat) (v : Value) => ∃ b, G.bb c.1 = some b ∧ v = .pointer (some ⟨b, c.2, none⟩)) caps vs := hF
    obtain ⟨fn, hfn, hname, hbody⟩ := hgood g hg
    have hrun : ((do let d ← resolve a.eval c ty; invoke d.target d.args : Sem Next)).run K.P w = .ok (.enter g (c.args.toList.map a.eval ++ vs).toArray) w := by
      have e : (c.args.toList.map a.eval ++ vs).toArray = c.args.map a.eval ++ vs.toArray := by apply Array.ext'; simp
      have hr : (resolve a.eval c ty) = pure { target := .fn (.func g) vs.toArray, args := c.args.map a.eval } := by
        unfold resolve; rw [hb]; simp [hvs, Deferred.ofValue]
      rw [hr, e]
      simp only [Sem.run_bind, Sem.run_pure, Result.andThen_ok, invoke]
      exact run_callFunc hfn hname hbody
    have hall : All2 (fun v x => ∃ ℓ, RA G w ℓ v x) (c.args.toList.map (opd S.sl) ++ caps.map fun x => AV.c (.loc x.1 x.2)) (c.args.toList.map a.eval ++ vs) :=
      (rargs hf _).append (All2.map_left (hcaps.imp fun c v _ h => ⟨.ret, h⟩))
    have := doCall_ok (K := K) h hf hw (fun args bxs r => hcall g args bxs r hg) hall o.dst
    rw [hrun]
    cases d with
    | val v dg bs => exact .inr ⟨_, _, rfl, this⟩
    | pan v bs => exact .inr ⟨_, _, rfl, this⟩
  · cases h

/-- EACH OPERATION. -/
theorem op_ok (h : absOp K call apps S.bx (opd S.sl) o = some d) (hf : FR G w S a) (hw : WI G w)
    (hgood : ∀ g, K.good g = true → ∃ fn, K.P.funcs[g]? = some fn ∧ fn.name ≠ "runtime.NumGoroutine" ∧ fn.body.isSome = true)
    (hcall : ∀ g args bxs r, K.good g = true → call g args bxs = some r → Contract K.P g args bxs r)
    (hst : (match o.op with | .store .. => true | _ => false) = true → o.dst = none) :
    Upon K.P G w S a o.dst ((execOp a.eval o).run K.P w) d := by
  unfold absOp at h
  split at h
  · rename_i x hop
    obtain ⟨v, dg, G', rfl, hs⟩ := takeOver_ok h hf hw
    exact .inl ⟨_, w, G', .inl (by simp [execOp, hop]), hs⟩
  · rename_i x hop
    obtain ⟨v, dg, G', rfl, hs⟩ := takeOver_ok h hf hw
    exact .inl ⟨_, w, G', .inl (by simp [execOp, hop]), hs⟩
  · rename_i c x y hop
    split at h
    case h_2 => cases h
    rename_i t ht
    cases h
    have hc := hf.opd c
    rw [ht] at hc
    have hcv := hc.boolv
    cases t
    · exact upon_pure hf hw (x := a.eval y) (by simp [execOp, hop, hcv, asBool]) fun d _ => (hf.opd y).deg
    · exact upon_pure hf hw (x := a.eval x) (by simp [execOp, hop, hcv, asBool]) fun d _ => (hf.opd x).deg
  · rename_i t hop
    split at h
    case h_2 => cases h
    rename_i l hl
    obtain ⟨i, z, _, _, hz, _, hcells⟩ := zeroCells_inv (G := G) (w := w) hl
    obtain ⟨v, bs, G', rfl, hs⟩ := newBox_ok (ty := t) h hf hw (markB_RN hcells) (markB_bld (zero_noBld hl))
    refine .inl ⟨_, _, G', .inl ?_, hs⟩
    simp [execOp, hop, Instr.alloc, hz, newVar, newRow]
  · rename_i t x hop
    split at h
    case h_2 => cases h
    rename_i l hl
    obtain ⟨xs, hxc, hxs⟩ := cellsOf_ok (ℓ := .ret) hl (isOwn_deg _) ((hf.opd x).deg)
    obtain ⟨v, bs, G', rfl, hs⟩ := newBox_ok (ty := t) h hf hw hxs (fun e => absurd (List.mem_of_getElem? e) (cellsOf_noBld ‹_›))
    refine .inl ⟨_, _, G', .inl ?_, hs⟩
    simp [execOp, hop, Instr.box, hxc, newVar, newRow]
  · rename_i t parts hop
    obtain ⟨v, hv, rfl⟩ := okAV_inv h
    obtain ⟨z, h1, h2, h3⟩ := build_ok (ℓ := .ret) (parts' := parts.map fun p => (p.1, a.eval p.2)) hv (by simpa using rparts hf parts.toList)
    exact upon_pure hf hw (x := z) (by simp [execOp, hop, h1]) fun d _ => h3.place h2
  · rename_i t len parts hop
    obtain ⟨v, hv, rfl⟩ := okAV_inv h
    obtain ⟨z, w', G', h1, h2⟩ := buildSlice_ok (dst := o.dst) (parts' := parts.map fun p => (p.1, a.eval p.2)) hv hf hw (by simpa using rparts hf parts.toList)
    exact .inl ⟨z, w', G', .inl (by simp [execOp, hop, h1]), h2⟩
  · rename_i t x hop
    obtain ⟨v, bs, z, G', rfl, h1, h2, _⟩ := load_ok h hf hw (hf.opd x)
    exact .inl ⟨z, w, G', .inl (by simp [execOp, hop, h1]), h2⟩
  · rename_i t x y hop
    have hd := hst (by rw [hop])
    obtain ⟨v, dg, bs, w', G', rfl, h1, h2⟩ := store_ok (dst := o.dst) h hf hw (hf.opd x) hd
    exact .inl ⟨undef, w', G', .inr ⟨by simp [execOp, hop, h1], rfl⟩, h2⟩
  · rename_i x hop
    have hx := hf.opd x
    split at h
    · rename_i s off hv
      cases h
      rw [hv] at hx
      obtain ⟨b, hb, he⟩ : ∃ b, G.bb s = some b ∧ a.eval x = .pointer (some ⟨b, off, none⟩) := hx
      exact upon_pure hf hw (x := a.eval x) (by simp [execOp, hop, he]) fun d _ => ⟨b, hb, he⟩
    · rename_i l hv
      cases h
      rw [hv] at hx
      obtain ⟨b, o', he, hl⟩ : ∃ b o, a.eval x = .pointer (some ⟨b, o, none⟩) ∧ ∀ (j : Nat) (p : PV), l[j]? = some p → ∃ y, G.I b (o + j) = some y ∧ RP G.I p y := hx
      exact upon_pure hf hw (x := a.eval x) (by simp [execOp, hop, he]) fun d _ => ⟨b, o', he, hl⟩
    · rename_i f c hv
      cases h
      rw [hv] at hx
      obtain ⟨vs, he, hl⟩ : ∃ vs : List Value, a.eval x = .func (.func f) #[] vs.toArray ∧ All2 (fun (c : Nat × Nat) (v : Value) => ∃ b, G.bb c.1 = some b ∧ v = .pointer (some ⟨b, c.2, none⟩)) c vs := hx
      exact upon_pure hf hw (x := a.eval x) (by simp [execOp, hop, he]) fun d _ => ⟨vs, he, hl⟩
    · cases h
  · rename_i op t x y yt hop
    obtain ⟨p, hp, rfl⟩ := okPV_inv h
    obtain ⟨z, h1, h2⟩ := bin_ok (P := K.P) hp (hf.opd x) (hf.opd y) x y
    refine upon_pure hf hw (x := z) ?_ fun d _ => RA.of_RN (v := .pv p) h2
    have e : execOp a.eval o = (do pure (Next.value (← (do eqGuard op t x y (a.eval x) (a.eval y); Go.binOp op t (a.eval x) (a.eval y))))) := by simp only [execOp, hop]
    rw [e, Sem.run_bind, h1]
    rfl
  · rename_i op t x hop
    obtain ⟨p, hp, rfl⟩ := okPV_inv h
    obtain ⟨z, h1, h2⟩ := un_ok (P := K.P) hp (hf.opd x)
    exact upon_pure hf hw (x := z) (by simp [execOp, hop, h1]) fun d _ => RA.of_RN (v := .pv p) h2
  · rename_i s t x hop
    obtain ⟨v, hv, rfl⟩ := okAV_inv h
    obtain ⟨z, w', G', h1, h2⟩ := conv_ok (dst := o.dst) hv hf hw (hf.opd x)
    exact .inl ⟨z, w', G', .inl (by simp [execOp, hop, h1]), h2⟩
  · rename_i t x hop
    obtain ⟨v, hv, rfl⟩ := okAV_inv h
    obtain ⟨z, h1, h2, h3⟩ := mkIface_ok (P := K.P) (ℓ' := .ret) hv (hf.opd x)
    exact upon_pure hf hw (x := z) (by simp [execOp, hop, h1]) fun d _ => h3.place h2
  · rename_i f first caps hop
    split at h
    case isFalse => cases h
    rename_i hfirst
    split at h
    case h_2 => cases h
    rename_i l hl
    cases h
    have hlo := locs_ok hl (rargs hf caps.toList)
    have he : first = #[] := by simpa using hfirst
    subst he
    refine upon_pure hf hw (x := .func (.func f) #[] (caps.toList.map a.eval).toArray) ?_ fun d _ => ⟨_, rfl, hlo⟩
    have e : (caps.toList.map a.eval).toArray = caps.map a.eval := by apply Array.ext'; simp
    rw [e]
    simp [execOp, hop, Instr.makeFunc]
  · rename_i t x lo hi mx hop
    obtain ⟨v, hv, rfl⟩ := okAV_inv h
    obtain ⟨z, h1, p, rfl, h2⟩ := slice_ok (P := K.P) hv (hf.opd x) (ropt hf lo) (ropt hf hi) (ropt hf mx)
    exact upon_pure hf hw (x := z) (by simp [execOp, hop, h1]) fun d _ => RA.of_RN (v := .pv p) h2
  · rename_i t x f hop
    obtain ⟨v, hv, rfl⟩ := okAV_inv h
    obtain ⟨z, h1, u, rfl, h2, h3, h4⟩ := fieldAddr_ok (P := K.P) hv (hf.opd x)
    exact upon_pure hf hw (x := z) (by simp [execOp, hop, h1]) fun d _ => RA.of_RN h4
  · rename_i t x f hop
    obtain ⟨v, hv, rfl⟩ := okAV_inv h
    obtain ⟨z, h1, h2, h3⟩ := field_ok (P := K.P) (ℓ' := .ret) hv (hf.opd x)
    exact upon_pure hf hw (x := z) (by simp [execOp, hop, h1]) fun d _ => h3.place h2
  · rename_i t x i hop
    obtain ⟨v, hv, rfl⟩ := okAV_inv h
    obtain ⟨z, h1, l, rfl, h2⟩ := indexAddr_ok (P := K.P) hv (hf.opd x) (hf.opd i)
    exact upon_pure hf hw (x := z) (by simp [execOp, hop, h1]) fun d _ => RA.of_RN h2
  · rename_i t x i hop
    obtain ⟨v, hv, rfl⟩ := okAV_inv h
    obtain ⟨z, h1, p, rfl, h2⟩ := index_ok (P := K.P) hv (hf.opd x) (hf.opd i)
    exact upon_pure hf hw (x := z) (by simp [execOp, hop, h1]) fun d _ => RA.of_RN (v := .pv p) h2
  · rename_i x xt t ok hop
    obtain ⟨v, hv, rfl⟩ := okAV_inv h
    obtain ⟨z, h1, h2, h3⟩ := assert_ok (P := K.P) (xT := xt) (ℓ' := .ret) hv (hf.opd x)
    exact upon_pure hf hw (x := z) (by simp [execOp, hop, h1]) fun d _ => h3.place h2
  · rename_i x i hop
    obtain ⟨v, hv, rfl⟩ := okAV_inv h
    obtain ⟨z, h1, h2, h3⟩ := extract_ok (P := K.P) (w := w) (ℓ' := .ret) hv (hf.opd x)
    exact upon_pure hf hw (x := z) (by simp [execOp, hop, h1]) fun d _ => h2.place h3
  · rename_i t x hop
    obtain ⟨v, hv, rfl⟩ := okAV_inv h
    obtain ⟨z, w', G', h1, h2⟩ := range_ok (dst := o.dst) hv hf hw (hf.opd x)
    exact .inl ⟨z, w', G', .inl (by simp [execOp, hop, h1]), h2⟩
  · rename_i x str hop
    obtain ⟨v, dg, z, w', rfl, h1, h2⟩ := next_ok (P := K.P) (ty := o.type) h hf hw
    exact .inl ⟨z, w', G, .inl (by simp [execOp, hop, h1]), h2⟩
  · rename_i c hop
    have := absCall_ok (ty := o.type) (o := o) h hf hw hgood hcall
    have e : execOp a.eval o = (do let d ← resolve a.eval c o.type; invoke d.target d.args) := by simp [execOp, hop]
    rw [e]; exact this
  · rename_i x hop
    have hx := hf.opd x
    split at h
    · rename_i t p hv
      cases h
      rw [hv] at hx
      have hx' : RP G.I (.ifc t p) (a.eval x) := hx
      refine .inl ⟨a.eval x, ?_, hx', rfl⟩
      have he : ∃ u, a.eval x = .iface t u := by
        generalize a.eval x = y at hx'
        cases hx'; exact ⟨_, rfl⟩
      obtain ⟨u, he⟩ := he
      simp [execOp, hop, he, Instr.panic]
    · rename_i t l hv
      cases h
      rw [hv] at hx
      have hx' : RP G.I (.ifa t l) (a.eval x) := hx
      refine .inl ⟨a.eval x, ?_, hx', rfl⟩
      have he : ∃ u, a.eval x = .iface t u := by
        generalize a.eval x = y at hx'
        cases hx'; exact ⟨_, rfl⟩
      obtain ⟨u, he⟩ := he
      simp [execOp, hop, he, Instr.panic]
    · cases h
  · cases h
end
end Go.Abs
