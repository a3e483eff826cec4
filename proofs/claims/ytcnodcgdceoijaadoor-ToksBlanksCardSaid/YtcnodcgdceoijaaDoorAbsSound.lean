/-
  THE ABSTRACT INTERPRETER: SOUNDNESS, joined: an answer of the interpreter's for a function and its arguments is a contract of the model's.
-/
import Derived.Test.YtcnodcgdceoijaaDoorAbsCode
import Derived.Laws.Sem
set_option linter.unusedSimpArgs false
set_option linter.unusedVariables false
namespace Go.Abs
open Go

section
variable {K : Cfg} {G : Gh} {w : World} {S : St} {a : Act}

theorem RT.of_RA {ℓ : Own} {v : CV} {x : Value} (h : RA G w ℓ (.c v) x) (hv : v ≠ .top) : RT G (.c v.deg) x := (h.toRC hv).deg

/-- the reading of one result -/
def readVar (tmps : Array Value) : ResultVar → Sem Value
  | .tmp t => pure (tmps.getD t undef)
  | .cell a t => do loadVar t (← asAddr (tmps.getD a undef))

theorem run_asAddr_load {t : TypeId} {y x : Value} (h : (Instr.loadAt t y).run K.P w = .ok x w) : (do loadVar t (← asAddr y) : Sem Value).run K.P w = .ok x w := by
  cases y with
  | pointer p =>
    cases p with
    | none => simp [Instr.loadAt, Instr.sureAddr] at h
    | some p => simpa [Instr.loadAt, Instr.sureAddr, asAddr] using h
  | _ => simp [Instr.loadAt, Instr.sureAddr] at h

theorem resVar_ok {r : ResultVar} {v : TV} (h : resVar K.P S r = some v) (hf : FR G w S a) (hw : WI G w) :
    ∃ x, (readVar a.tmps r).run K.P w = .ok x w ∧ RT G v.deg x ∧ ∀ e c, v = .c (.own e c) → ∃ t, OwnAt G w (.slot t) e c x := by
  cases r with
  | tmp t =>
    have hs := hf.slot t
    refine ⟨_, rfl, ?_⟩
    simp only [resVar] at h
    split at h
    · cases h
    · rename_i u hne hu
      cases h
      rw [hu] at hs
      have hnt : u ≠ .top := fun e => hne e
      refine ⟨RT.of_RA hs hnt, fun ty c e => ?_⟩
      cases e
      exact ⟨t, hs⟩
    · rename_i l hl
      cases h
      rw [hl] at hs
      exact ⟨hs, fun _ c e => (by cases e)⟩
    · cases h
  | cell p t =>
    simp only [resVar] at h
    have key : ∀ (u : AV) (dg : Option Nat) (bs : List (Nat × List CV)), absLoad K.P [] S.bx (some 0) t (S.sl p) = some (.val u dg bs) → ∃ x, (readVar a.tmps (.cell p t)).run K.P w = .ok x w ∧ RA G w (.slot 0) u x := fun u dg bs hl => by
      obtain ⟨v', bs', x, G', e, h1, h2, h3⟩ := load_ok hl hf hw (hf.slot p)
      cases h3 rfl
      cases e
      exact ⟨x, run_asAddr_load h1, h2.val 0 rfl⟩
    split at h
    · cases h
    · rename_i u dg bs hne hl
      cases h
      obtain ⟨x, h1, h2⟩ := key _ _ _ hl
      have hnt : u ≠ .top := fun e => hne e
      exact ⟨x, h1, RT.of_RA h2 hnt, fun _ c e => by cases e; exact ⟨0, h2⟩⟩
    · rename_i l dg bs hl
      cases h
      obtain ⟨x, h1, h2⟩ := key _ _ _ hl
      exact ⟨x, h1, h2, fun _ c e => (by cases e)⟩
    · cases h

theorem resVars_ok (hf : FR G w S a) (hw : WI G w) : ∀ {rs : List ResultVar} {l : List TV}, resVars K.P S rs = some l → ∃ xs, (rs.mapM (readVar a.tmps)).run K.P w = .ok xs w ∧
    All2 (fun v x => RT G (TV.deg v) x ∧ ∀ e c, v = .c (.own e c) → ∃ t, OwnAt G w (.slot t) e c x) l xs
  | [], l, h => by
    simp [resVars] at h; subst h
    exact ⟨[], by simp, .nil⟩
  | r :: rs, l, h => by
    unfold resVars at h
    split at h
    case h_2 => cases h
    rename_i v m hv hm
    cases h
    obtain ⟨x, h1, h2⟩ := resVar_ok hv hf hw
    obtain ⟨xs, h3, h4⟩ := resVars_ok hf hw hm
    exact ⟨x :: xs, by simp [List.mapM_cons, h1, h3], .cons h2 h4⟩

def oneOrTuple : List Value → Value
  | [x] => x
  | l => .tuple l.toArray

theorem results_run {fn : Func} {tmps : Array Value} {xs : List Value} (h : (fn.results.toList.mapM (readVar tmps)).run K.P w = .ok xs w) :
    (results fn tmps).run K.P w = .ok (oneOrTuple xs) w := by
  have e : results fn tmps = (do let vs ← fn.results.mapM (readVar tmps); pure (if h : vs.size = 1 then vs[0] else .tuple vs)) := by
    unfold results
    congr 1
  rw [e, Array.mapM_eq_mapM_toList]
  simp only [map_eq_pure_bind, Sem.run_bind, h, Result.andThen_ok, Sem.run_pure]
  match xs with
  | [] => rfl
  | [x] => rfl
  | x :: y :: l => simp [oneOrTuple]

theorem lentOnly_bb (s k b : Nat) (h : lentOnly s = some k) (hb : G.bb s = some b) : G.bb k = some b := by
  unfold lentOnly at h
  split at h
  · cases h; exact hb
  · cases h

theorem BoxR.lent {s : Nat} {l : List CV} (h : BoxR G w s l) : BoxR G w s (l.map (CV.ren lentOnly)) := by
  obtain ⟨b, cs, ty, h1, h2, h3, h4⟩ := h
  refine ⟨b, cs, ty, h1, h2, ⟨by simpa using h3.1, h3.2.map (fun v e => ren_bld e)⟩, fun k u hu => ?_⟩
  rw [List.getElem?_map, Option.map_eq_some_iff] at hu
  obtain ⟨u', hu', rfl⟩ := hu
  obtain ⟨y, h5, h6⟩ := h4 k u' hu'
  refine ⟨y, h5, ?_⟩
  by_cases ho : u'.plain = true
  · exact .of_RN (RN.ren (G := G) (G1 := G) (fun _ _ _ h => h) lentOnly_bb (h6.to_RN ho))
  · cases u' <;> simp [CV.plain] at ho
    case iter s2 pos => exact IterAt.one h6
    exact h6

theorem outBoxes_ok (hb : ∀ s l, S.bx s = some l → BoxR G w s l) : ∀ {n : Nat} {cs : List (List CV)}, outBoxes S.bx n = some cs → cs.length = n ∧ ∀ (i : Nat) (l : List CV), cs[i]? = some l → BoxR G w (LK + i) l
  | 0, cs, h => by simp [outBoxes] at h; subst h; exact ⟨rfl, fun i l h => by simp at h⟩
  | n + 1, cs, h => by
    unfold outBoxes at h
    split at h
    case h_2 => cases h
    rename_i l c hl hc
    cases h
    obtain ⟨h1, h2⟩ := outBoxes_ok hb hl
    refine ⟨by simp [h1], fun i m hi => ?_⟩
    by_cases hin : i < n
    · rw [List.getElem?_append_left (by omega)] at hi
      exact h2 i m hi
    · rw [List.getElem?_append_right (by omega)] at hi
      have hi0 : i = n := by
        have := (List.getElem?_eq_some_iff.1 hi).1
        simp at this; omega
      subst hi0
      simp [h1] at hi
      subst hi
      exact (hb _ _ hc).lent

theorem leave_ok {f : FuncId} {fn : Func} {n : Nat} {o : Option (Out × St)} {r : Res} (h : leave K f fn n o = some r) {G0 : Gh} {w0 : World} {df : List Deferred} (hdf : df = []) :
    ∃ o', o = some o' ∧ Post G0 w0 df o' (bodyPost K.P fn fun e w' => ∃ G', Ext G0 w0 G' w' ∧ WI G' w' ∧ REnd n G' w' e r) := by
  subst hdf
  have ret : ∀ {S : St} (x1 : Out), (x1 = .norm ∨ x1 = .ret) → (match resOf K.P (K.ownRet f) S fn, outBoxes S.bx n with
      | some v, some cs => some (Res.ret (v.ren lentOnly) cs)
      | _, _ => none) = some r → Post G0 w0 [] (x1, S) (bodyPost K.P fn fun e w' => ∃ G', Ext G0 w0 G' w' ∧ WI G' w' ∧ REnd n G' w' e r) := by
    intro S x1 hx1 h a' w' G1 hx hw hf hd
    split at h
    case h_2 => cases h
    rename_i v cs hv hcs
    cases h
    unfold resOf at hv
    have fin : ∀ (x : Value) (G2 : Gh), (results fn a'.tmps).run K.P w' = .ok x w' → Ext G1 w' G2 w' → WI G2 w' → RA G2 w' .ret (v.ren lentOnly) x → (∀ s l, S.bx s = some l → BoxR G2 w' s l) →
        bodyPost K.P fn (fun e w' => ∃ G', Ext G0 w0 G' w' ∧ WI G' w' ∧ REnd n G' w' e (.ret (v.ren lentOnly) cs)) x1.exit' a' w' := fun x G2 h1 h2 h3 h4 h5 => by
      obtain ⟨h6, h7⟩ := outBoxes_ok h5 hcs
      have : a'.defers = [] ∧ ∃ v', (results fn a'.tmps).run K.P w' = .ok v' w' ∧ ∃ G', Ext G0 w0 G' w' ∧ WI G' w' ∧ REnd n G' w' (.returned v') (.ret (v.ren lentOnly) cs) :=
        ⟨hd, x, h1, G2, hx.trans h2, h3, x, rfl, h4, h6, h7⟩
      rcases hx1 with rfl | rfl <;> exact this
    have main : bodyPost K.P fn (fun e w' => ∃ G', Ext G0 w0 G' w' ∧ WI G' w' ∧ REnd n G' w' e (.ret (v.ren lentOnly) cs)) x1.exit' a' w' := by
      split at hv
      · rename_i v1 hv1
        cases hv
        obtain ⟨xs, h1, h2⟩ := resVars_ok hf hw hv1
        have h3 := results_run h1
        cases h2 with
        | cons h4 h5 =>
        cases h5
        rename_i x
        simp only [oneOrTuple] at h3
        by_cases hown : K.ownRet f = true ∧ ∃ e c, v1 = .c (.own e c)
        · obtain ⟨ho, e, c, rfl⟩ := hown
          obtain ⟨t, h6⟩ := h4.2 e c rfl
          obtain ⟨G2, g, hw2, h7, hbb⟩ := own_give (ℓ' := .ret) hw h6 (by simp) (by simp)
          refine fin x G2 h3 g.ext hw2 ?_ fun s l hl => (hf.box s l hl).gr hw g (by simp) (by simp)
          rw [if_pos ho]; exact h7
        · have hd1 : ((if K.ownRet f = true then v1.keepOwn else v1.deg) : TV) = v1.deg := by
            split
            · rename_i ho
              cases v1 with
              | c u => cases u <;> first | rfl | exact absurd ⟨ho, _, _, rfl⟩ hown
              | agg l => rfl
            · rfl
          refine fin x G1 h3 (.refl _ _) hw ?_ hf.box
          rw [hd1]
          exact RA.ren_plain (G := G1) (G1 := G1) (w := w') (ℓ := .ret) (fun _ _ _ h => h) lentOnly_bb (by cases v1 with | c u => exact isOwn_deg (.c u) | agg l => rfl) (RA.of_RT h4.1)
      · rename_i l hne hl
        cases hv
        obtain ⟨xs, h1, h2⟩ := resVars_ok hf hw hl
        have h3 := results_run h1
        have h4 : oneOrTuple xs = .tuple xs.toArray := by
          match xs, h2 with
          | [], _ => rfl
          | [x], .cons _ .nil => exact (hne _ rfl).elim
          | x :: y :: l, _ => rfl
        rw [h4] at h3
        refine fin _ G1 h3 (.refl _ _) hw ?_ hf.box
        refine ⟨xs, rfl, All2.map_left (All2.map_left (h2.imp fun u x _ h => ?_))⟩
        exact RT.ren (G := G1) (G1 := G1) (fun _ _ _ h => h) lentOnly_bb h.1
      · cases hv
    rcases hx1 with rfl | rfl <;> exact main
  unfold leave at h
  split at h
  · exact ⟨_, rfl, ret .norm (.inl rfl) h⟩
  · exact ⟨_, rfl, ret .ret (.inr rfl) h⟩
  · rename_i v S
    split at h
    case h_2 => cases h
    rename_i cs hcs
    cases h
    refine ⟨_, rfl, fun a' w' G1 hx hw hf hd x hv => ?_⟩
    obtain ⟨h6, h7⟩ := outBoxes_ok hf.box hcs
    exact ⟨hd, G1, hx, hw, x, rfl, RN.ren (G := G1) (G1 := G1) (fun _ _ _ h => h) lentOnly_bb hv, h6, h7⟩
  · cases h

theorem enter_FR {args : List AV} {cargs : List Value} {bxs : List (List CV)} {nt : Nat} (hargs : All2 (fun v x => RA G w .ret v x) args cargs) (hno : ∀ v ∈ args, isOwn v = false)
    (hb : ∀ (i : Nat) (l : List CV), bxs[i]? = some l → BoxR G w (LK + i) l) (hbb : ∀ s b, G.bb s = some b → ∃ i, i < bxs.length ∧ s = LK + i) (hlen : args.length ≤ nt) :
    FR G w (enterSt nt args bxs) { tmps := cargs.toArray ++ Array.replicate (nt - cargs.toArray.size) undef, defers := [] } := by
  have hl := hargs.length
  refine ⟨?_, fun t => ?_, fun s l h => ?_, fun s h hlk => ?_⟩
  · show (cargs.toArray ++ Array.replicate (nt - cargs.toArray.size) undef).size = nt
    simp; omega
  · show RA G w (.slot t) ((args[t]?).getD (.c .top)) _
    cases ht : args[t]? with
    | none => exact trivial
    | some v =>
      obtain ⟨x, h1, h2⟩ := hargs.get ht
      have hlt := (List.getElem?_eq_some_iff.1 h1).1
      have : (cargs.toArray ++ Array.replicate (nt - cargs.toArray.size) undef).getD t undef = x := by
        rw [Array.getD_eq_getD_getElem?, Array.getElem?_append_left (by simpa using hlt)]
        simp [h1]
      show RA G w (.slot t) v ((cargs.toArray ++ Array.replicate (nt - cargs.toArray.size) undef).getD t undef)
      rw [this]
      exact h2.place (hno v (List.mem_of_getElem? ht))
  · have h' : (if LK ≤ s then bxs[s - LK]? else none) = some l := h
    split at h'
    case isFalse => cases h'
    rename_i hs
    have := hb (s - LK) l h'
    rwa [show LK + (s - LK) = s by omega] at this
  · cases hg : G.bb s with
    | none => rfl
    | some b =>
      obtain ⟨i, _, e⟩ := hbb s b hg
      omega

/-- what the soundness of a run of the text needs -/
theorem enter_ok {ex : Code → St → Option (Out × St)} {f : FuncId} {args : List AV} {bxs : List (List CV)} {r : Res} (h : enter K ex f args bxs = some r)
    (hex : ∀ (fn : Func) (c : Code), K.P.funcs[f]? = some fn → fn.body = some c → ∀ {Q : Exit → Act → World → Prop} {S : St} {G : Gh} {w : World} {a : Act} {r : Out × St}, ex c S = some r → FR G w S a → WI G w → Post G w a.defers r Q → c.wp K.P Q a w) :
    Contract K.P f args bxs r := by
  unfold enter at h
  split at h
  · cases h
  rename_i fn hfn
  split at h
  · cases h
  rename_i c hc
  split at h
  case isFalse => cases h
  rename_i hlen
  intro G w cargs hw hargs hno hb hbb
  refine calls_of_wp hfn hc ?_
  obtain ⟨o', ho', hpost⟩ := leave_ok (G0 := G) (w0 := w) (df := []) h rfl
  exact hex fn c hfn hc ho' (enter_FR hargs hno hb hbb hlen.1) hw hpost

theorem callN_ok (hK : Prog K) : ∀ (n : Nat) (f : FuncId) (args : List AV) (bxs : List (List CV)) (r : Res), K.good f = true → callN K n f args bxs = some r → Contract K.P f args bxs r
  | 0, _, _, _, _, _, h => by cases h
  | n + 1, f, args, bxs, r, hg, h => by
    have ih := callN_ok hK n
    have hs : Sound K (callN K n) := ⟨fun g hg => let ⟨fn, c, h1, h2, h3, _⟩ := hK.good g hg; ⟨fn, h1, h2, by rw [h3]; rfl⟩, fun g args bxs r hg h => ih g args bxs r hg h⟩
    unfold callN at h
    split at h
    · rename_i F hF
      rw [Option.map_eq_some_iff] at h
      obtain ⟨x, hx, rfl⟩ := h
      exact hK.pr f F args bxs x hg hF hx
    · refine enter_ok h fun fn c hfn hc {Q S G w a r} hr hf hw hp => ?_
      obtain ⟨fn', c', h1, _, h3, h4⟩ := hK.good f hg
      rw [hfn] at h1; cases h1
      rw [hc] at h3; cases h3
      exact code_ok hs hK.mixed n f c hr h4 hf hw hp
end
end Go.Abs
