/-
  THE ABSTRACT INTERPRETER: more operations that touch no memory.
-/
import Derived.Test.YtcnodcgdceoijaaDoorAbsPure
set_option linter.unusedSimpArgs false
set_option linter.unusedVariables false
namespace Go.Abs
open Go

section
variable {P : Program} {G : Gh} {w : World}

theorem conv_int {src dst : TypeId} {k k' : IntKind} {n : Int} {x : Value} (hs : ∃ d, P.underlying src = some d) (hd : P.underlying dst = some (.int k)) (hx : x = .int k' n) :
    (Go.convert src dst x).run P w = .ok (.int k (k.wrap n)) w := by
  obtain ⟨d, hs⟩ := hs
  subst hx
  simp only [Go.convert, Sem.run_bind, run_underlying hs, run_underlying hd, Result.andThen_ok]
  cases d <;> rfl

theorem conv_str {src dst : TypeId} {s : ByteArray} (hs : ∃ d, P.underlying src = some d) (hd : P.underlying dst = some .string) :
    (Go.convert src dst (.string s)).run P w = .ok (.string s) w := by
  obtain ⟨d, hs⟩ := hs
  simp only [Go.convert, Sem.run_bind, run_underlying hs, run_underlying hd, Result.andThen_ok]
  cases d <;> rfl

theorem indexAddr_ok {t : TypeId} {X I v : AV} {x i : Value} {ℓ ℓ' : Own} (h : absIndexAddr P t X I = some v) (hx : RA G w ℓ X x) (hi : RA G w ℓ' I i) :
    ∃ z, (Instr.indexAt t x i).run P w = .ok z w ∧ ∃ l, v = .c (.cptr l) ∧ RN G (.cptr l) z := by
  unfold absIndexAddr at h
  split at h
  case h_2 => cases h
  rename_i e c k n hu hc
  cases hi.intv
  split at h
  case isFalse => cases h
  rename_i h0
  split at h
  case h_2 => cases h
  rename_i el hel
  split at h
  case isFalse => cases h
  rename_i hsz
  cases h
  obtain ⟨a, cap, rfl, hcap, hne⟩ := (content_RP hc hx).slice_inv
  have hc0 : c ≠ [] := fun e => by simp [e] at hel
  obtain ⟨b, o, sz, rfl, hszs, hseg⟩ := hne hc0
  have hlt : n.toNat < c.length := (List.getElem?_eq_some_iff.1 hel).1
  have hmem : el ∈ c := List.mem_of_getElem? hel
  have hs2 : szOf P e = some sz := by rw [hsz, hszs el hmem]
  refine ⟨.pointer (some ⟨b, o + n.toNat * sz, none⟩), ?_, el, rfl, b, o + n.toNat * sz, rfl, ?_⟩
  · have hin : 0 ≤ n ∧ n < (c.length : Int) := ⟨h0, by omega⟩
    have hadd : (⟨b, o, none⟩ : Addr).add (n.toNat * sz) = ⟨b, o + n.toNat * sz, none⟩ := by
      simp only [Addr.add]; split <;> simp_all
    simp only [Instr.indexAt, Sem.run_bind, asIntOf, Sem.run_pure, run_underlying hu, Result.andThen_ok, Sem.run_ite]
    rw [if_pos hin]
    simp [run_sizeOf' hs2, hadd]
  · intro j p hp
    obtain ⟨y, h1, h2⟩ := hseg n.toNat el j p hel hp
    exact ⟨y, by rw [← h1]; congr 1; omega, h2⟩

theorem fieldAddr_ok {t : TypeId} {X v : AV} {f : Nat} {x : Value} {ℓ : Own} (h : absFieldAddr P t X f = some v) (hx : RA G w ℓ X x) :
    ∃ z, (Instr.fieldAt t x f).run P w = .ok z w ∧ ∃ u, v = .c u ∧ u.plain = true ∧ u ≠ .top ∧ RN G u z := by
  unfold absFieldAddr at h
  split at h
  case h_2 => cases h
  rename_i o ft hf
  unfold fieldOff at hf
  split at hf
  case h_2 => cases hf
  rename_i fs hu
  simp only [Option.map_eq_some_iff, Prod.mk.injEq] at hf
  obtain ⟨fd, hfd, rfl, rfl⟩ := hf
  split at h
  case h_2 => cases h
  rename_i n hs
  have main : ∀ b off, (Instr.fieldAt t (.pointer (some ⟨b, off, none⟩)) f).run P w = .ok (.pointer (some ⟨b, off + fd.offset, none⟩)) w := fun b off => by
    have hadd : (⟨b, off, none⟩ : Addr).add fd.offset = ⟨b, off + fd.offset, none⟩ := by
      simp only [Addr.add]; split <;> simp_all
    simp [Instr.fieldAt, run_underlying hu, hfd, Instr.sureAddr, fieldPlace, run_sizeOf' hs, hadd]
  split at h
  · rename_i s off
    cases h
    obtain ⟨b, hb, rfl⟩ : ∃ b, G.bb s = some b ∧ x = .pointer (some ⟨b, off, none⟩) := hx
    exact ⟨_, main b off, _, rfl, rfl, by simp, b, hb, rfl⟩
  · rename_i l
    cases h
    obtain ⟨b, off, rfl, hl⟩ : ∃ b o, x = .pointer (some ⟨b, o, none⟩) ∧ ∀ (j : Nat) (p : PV), l[j]? = some p → ∃ y, G.I b (o + j) = some y ∧ RP G.I p y := hx
    refine ⟨_, main b off, _, rfl, rfl, by simp, b, off + fd.offset, rfl, fun j p hp => ?_⟩
    rw [List.getElem?_drop] at hp
    obtain ⟨y, h1, h2⟩ := hl _ p hp
    exact ⟨y, by rw [← h1]; congr 1; omega, h2⟩
  · cases h

theorem shapeT_inv {t : TypeId} {r : Option Nat} (h : shapeT P t = some r) :
    ∃ d n, P.underlying t = some d ∧ szOf P t = some n ∧ (isAgg t).run P w = .ok r.isSome w ∧ (∀ m, r = some m → m = n) := by
  unfold shapeT at h
  split at h
  · rename_i fs n hu hs
    cases h
    exact ⟨_, _, hu, hs, by simp [isAgg, run_underlying hu], fun m hm => by cases hm; rfl⟩
  · rename_i l e n hu hs
    cases h
    exact ⟨_, _, hu, hs, by simp [isAgg, run_underlying hu], fun m hm => by cases hm; rfl⟩
  · rename_i d n hn1 hn2 hu hs
    cases h
    refine ⟨_, _, hu, hs, ?_, fun m hm => by cases hm⟩
    cases d <;> simp [isAgg, run_underlying hu]
    · exact (hn2 _ _ rfl).elim
    · exact (hn1 _ rfl).elim
  · cases h

theorem extract_list (vs : List Value) (o n : Nat) : vs.toArray.extract o (o + n) = ((vs.drop o).take n).toArray := by
  apply Array.ext'
  simp [List.extract_eq_take_drop]

theorem field_ok {t : TypeId} {X v : AV} {f : Nat} {x : Value} {ℓ ℓ' : Own} (h : absField P t X f = some v) (hx : RA G w ℓ X x) :
    ∃ z, (Instr.field t x f).run P w = .ok z w ∧ isOwn v = false ∧ RA G w ℓ' v z := by
  unfold absField at h
  split at h
  case h_2 => cases h
  rename_i o ft l hf
  unfold fieldOff at hf
  split at hf
  case h_2 => cases hf
  rename_i fs hu
  simp only [Option.map_eq_some_iff, Prod.mk.injEq] at hf
  obtain ⟨fd, hfd, rfl, rfl⟩ := hf
  obtain ⟨vs, rfl, hvs⟩ := hx
  split at h
  · rename_i n hs
    split at h
    case isFalse => cases h
    cases h
    obtain ⟨d, n', hd, hsz, ha, hn⟩ := shapeT_inv (w := w) hs
    cases hn n rfl
    refine ⟨.agg ((vs.drop fd.offset).take n).toArray, ?_, rfl, _, rfl, (hvs.drop _).take _⟩
    simp only [Instr.field, Sem.run_bind, run_underlying hu, Result.andThen_ok, hfd, asAgg, Sem.run_pure, part, ha, Option.isSome_some, if_true, run_sizeOf' hsz]
    rw [extract_list]
  · rename_i hs
    obtain ⟨d, n', hd, hsz, ha, hn⟩ := shapeT_inv (w := w) hs
    split at h
    case h_2 => cases h
    rename_i u hu'
    split at h
    case isFalse => cases h
    rename_i hp
    cases h
    obtain ⟨y, hy, hry⟩ := hvs.get hu'
    refine ⟨y, ?_, (by cases u <;> first | rfl | cases hp), .of_RN hry⟩
    simp [Instr.field, run_underlying hu, hfd, asAgg, part, ha, hy]
  · cases h

theorem extract_ok {X v : AV} {i : Nat} {x : Value} {ℓ ℓ' : Own} (h : absExtract X i = some v) (hx : RA G w ℓ X x) :
    ∃ z, (Instr.extract x i).run P w = .ok z w ∧ RA G w ℓ' v z ∧ isOwn v = false := by
  unfold absExtract at h
  split at h
  case h_2 => cases h
  rename_i l j
  simp only [Option.map_eq_some_iff] at h
  obtain ⟨tv, htv, rfl⟩ := h
  obtain ⟨vs, rfl, hvs⟩ := hx
  obtain ⟨y, hy, hry⟩ := hvs.get htv
  refine ⟨y, by simp [Instr.extract, hy], .of_RT hry, ?_⟩
  cases tv with
  | c v => cases v <;> first | rfl | exact False.elim hry
  | agg l => rfl

theorem cells_one {x : Value} (h : x.oneCell' = true) : x.cells = #[x] := by
  cases x <;> first | rfl | cases h

/-- the cells of a value that is laid somewhere -/
theorem cellsOf_ok {v : AV} {vs : List CV} {x : Value} {ℓ : Own} (h : cellsOfAV v = some vs) (hv : isOwn v = false) (hx : RA G w ℓ v x) :
    ∃ xs : List Value, x.cells = xs.toArray ∧ All2 (RN G) vs xs := by
  unfold cellsOfAV at h
  split at h
  · cases h
  · cases h
  · cases h
  · rename_i u hu _ _
    cases h
    have hr : RN G u x := (hx.toRC (fun e => hu e)).to_RN (by cases u <;> first | rfl | cases hv)
    exact ⟨[x], (by rw [cells_one hr.one]), .cons hr .nil⟩
  · split at h
    case isFalse => cases h
    cases h
    obtain ⟨xs, rfl, hxs⟩ := hx
    exact ⟨xs, rfl, hxs⟩
  · cases h

theorem fold_set : ∀ (vs : List Value) (off k : Nat) (cs : Array Value), off + k + vs.length ≤ cs.size →
    (vs.zipIdx k).foldl (fun cs (x : Value × Nat) => cs.setIfInBounds (off + x.2) x.1) cs = (cs.toList.take (off + k) ++ vs ++ cs.toList.drop (off + k + vs.length)).toArray
  | [], off, k, cs, _ => by simp
  | v :: vs, off, k, cs, h => by
    simp only [List.zipIdx_cons, List.foldl_cons]
    rw [fold_set vs off (k + 1) _ (by simp at h ⊢; omega)]
    congr 1
    have hl : off + k < cs.toList.length := by simp at h ⊢; omega
    simp only [Array.toList_setIfInBounds]
    have e1 : (cs.toList.set (off + k) v).take (off + (k + 1)) = cs.toList.take (off + k) ++ [v] := by
      rw [List.set_eq_take_append_cons_drop, if_pos hl, List.take_append, List.length_take, Nat.min_eq_left (Nat.le_of_lt hl)]
      have : off + (k + 1) - (off + k) = 1 := by omega
      rw [this, List.take_of_length_le (by simp; omega)]
      rfl
    have e2 : (cs.toList.set (off + k) v).drop (off + (k + 1) + vs.length) = cs.toList.drop (off + k + (v :: vs).length) := by
      rw [List.drop_set_of_lt (by omega)]
      congr 1
      simp; omega
    rw [e1, e2]
    simp

theorem setAt_All2 {R : CV → Value → Prop} {l : List CV} {m : List Value} {vs : List CV} {xs : List Value} {off : Nat} (h : All2 R l m) (k : All2 R vs xs) :
    All2 R (setAt l off vs) (m.take off ++ xs ++ m.drop (off + xs.length)) := by
  unfold setAt
  rw [← k.length]
  exact ((h.take off).append k).append (h.drop _)

def RPart (G : Gh) (w : World) (p : Nat × AV) (q : Nat × Value) : Prop := p.1 = q.1 ∧ ∃ ℓ, RA G w ℓ p.2 q.2

theorem fill_ok {place place' : Nat → Option (Nat × Nat)} (hpl : ∀ i, place i = place' i) : ∀ {parts : List (Nat × AV)} {parts' : List (Nat × Value)} {cells l : List CV} {cs : Array Value},
    fillCells place cells parts = some l → All2 (RPart G w) parts parts' → All2 (RN G) cells cs.toList → ∃ cs', Instr.fill place' cs parts' = some cs' ∧ All2 (RN G) l cs'.toList
  | [], _, cells, l, cs, h, .nil, hc => by simp [fillCells] at h; subst h; exact ⟨cs, rfl, hc⟩
  | (i, v) :: parts, (j, x) :: parts', cells, l, cs, h, .cons hp hps, hc => by
    obtain ⟨rfl, ℓ, hx⟩ := hp
    unfold fillCells at h
    split at h
    case h_2 => cases h
    rename_i off size vs hpi hvs
    split at h
    case isFalse => cases h
    rename_i hsz
    obtain ⟨xs, hxc, hxs⟩ := cellsOf_ok hvs (isOwn_deg v) (hx.deg (ℓ' := ℓ))
    have hlen := hxs.length
    have hcl := hc.length
    simp only [Array.length_toList] at hcl
    have hsize : x.cells.size = xs.length := by rw [hxc]; simp
    have hfit : off + 0 + xs.length ≤ cs.size := by omega
    have hfold := fold_set xs off 0 cs hfit
    have hstep : x.cells.zipIdx.foldl (fun cs (c : Value × Nat) => cs.setIfInBounds (off + c.2) c.1) cs = (cs.toList.take off ++ xs ++ cs.toList.drop (off + xs.length)).toArray := by
      rw [hxc]
      simpa using hfold
    obtain ⟨cs', h1, h2⟩ := fill_ok hpl (cs := (cs.toList.take off ++ xs ++ cs.toList.drop (off + xs.length)).toArray) h hps (by simpa using setAt_All2 hc hxs)
    refine ⟨cs', ?_, h2⟩
    unfold Instr.fill
    rw [← hpl i, hpi]
    simp only
    rw [if_neg (by simp; omega)]
    rw [← h1]
    congr 1

theorem zeroCells_inv {t : TypeId} {l : List CV} (h : zeroCells P t = some l) :
    ∃ i z, P.info? t = some i ∧ i.zero = some z ∧ (zeroValue t).run P w = .ok z w ∧ l.length = z.cells.size ∧ All2 (RN G) l z.cells.toList := by
  unfold zeroCells at h
  split at h
  case h_2 => cases h
  rename_i i hi
  split at h
  case h_2 => cases h
  rename_i z hz
  split at h
  case isFalse => cases h
  rename_i hall
  cases h
  refine ⟨i, z, hi, hz, by simp [zeroValue, typeInfo, hi, hz], by simp, All2.map_left (cvOf_all G _ hall)⟩

theorem build_ok {t : TypeId} {parts : List (Nat × AV)} {parts' : Array (Nat × Value)} {v : AV} {ℓ : Own} (h : absBuild P t parts = some v) (hp : All2 (RPart G w) parts parts'.toList) :
    ∃ z, (Instr.build t parts').run P w = .ok z w ∧ isOwn v = false ∧ RA G w ℓ v z := by
  unfold absBuild at h
  split at h
  case h_2 => cases h
  rename_i zl fs hz hu
  split at h
  case h_2 => cases h
  rename_i places hpl
  split at h
  case h_2 => cases h
  rename_i l hl
  cases h
  obtain ⟨i, z, hi, hzz, _, _, hcells⟩ := zeroCells_inv (G := G) (w := w) hz
  obtain ⟨cs', h1, h2⟩ := fill_ok (place' := fun i => places.toArray[i]?) (fun i => by simp) hl hp hcells
  refine ⟨.agg cs', ?_, rfl, cs'.toList, by simp, h2⟩
  apply run_build
  unfold Program.built
  simp only [hi, hu]
  simp only [hzz, hpl]
  exact h1

theorem pv?_ok {v : CV} {p : PV} {x : Value} (h : v.pv? = some p) {ℓ : Own} (hx : RC G w ℓ v x) : RP G.I p x := by
  cases v <;> simp [CV.pv?] at h <;> subst h
  · exact hx
  · exact OwnAt.rp hx
  · have e : x = .slice none 0 0 := hx
    subst e; exact .sl0 _ _

theorem concreteT_inv {t : TypeId} (h : concreteT P t = true) : ∃ d, P.underlying t = some d ∧ ∀ ms, d ≠ .interface ms := by
  unfold concreteT at h
  split at h
  · cases h
  · cases h
  · rename_i h1 h2
    cases hd : P.underlying t with
    | none => exact (h1 hd).elim
    | some d => exact ⟨d, rfl, fun ms e => h2 ms (by rw [hd, e])⟩

theorem mkIface_ok {t : TypeId} {X v : AV} {x : Value} {ℓ ℓ' : Own} (h : absMkIface P t X = some v) (hx : RA G w ℓ X x) :
    ∃ z, (Instr.makeInterface t x).run P w = .ok z w ∧ isOwn v = false ∧ RA G w ℓ' v z := by
  unfold absMkIface at h
  split at h
  case isFalse => cases h
  rename_i hc
  obtain ⟨d, hd, hn⟩ := concreteT_inv hc
  have hrun : (Instr.makeInterface t x).run P w = .ok (.iface t x) w := by
    unfold Instr.makeInterface
    simp only [Sem.run_bind, run_underlying hd, Result.andThen_ok]
    cases d
    case interface ms => exact (hn ms rfl).elim
    all_goals rfl
  refine ⟨_, hrun, ?_⟩
  unfold ifcOf at h
  split at h
  · rename_i u
    split at h
    case h_2 => cases h
    rename_i p hp
    cases h
    have hne : u ≠ .top := fun e => by subst e; simp [CV.pv?] at hp
    exact ⟨rfl, RA.of_RN (v := .pv _) (RP.ifc _ _ _ (pv?_ok hp (hx.toRC hne)))⟩
  · rename_i l
    split at h
    case h_2 => cases h
    rename_i ps hps
    cases h
    obtain ⟨xs, rfl, hxs⟩ := hx
    have hall := pvs_RP hps hxs
    refine ⟨rfl, .of_RN (v := .pv (.ifa t ps)) ?_⟩
    have e : xs.toArray = ((List.range ps.length).map fun j => xs.getD j default).toArray := by
      congr 1
      apply List.ext_getElem?
      intro j
      have hl := hall.length
      by_cases hj : j < xs.length
      · have hj' : j < ps.length := by omega
        simp [hj, hj']
      · have hj' : ¬ j < ps.length := by omega
        simp [hj, hj']
    show RP G.I _ _
    rw [e]
    exact .ifa t ps _ fun j p hp => let ⟨y, h1, h2⟩ := hall.get hp; by simpa [h1] using h2
  · cases h

theorem avOf_RT {t : TypeId} {z : TV} (h : tvZero P t = some z) : ∃ x, (zeroValue t).run P w = .ok x w ∧ RT G z x := by
  unfold tvZero at h
  have hz : ∀ v, zeroAV P t = some v → ∃ x, (zeroValue t).run P w = .ok x w ∧ v = avOf x := fun v hv => by
    unfold zeroAV at hv
    split at hv
    case h_2 => cases hv
    rename_i i hi
    split at hv
    case h_2 => cases hv
    rename_i x hx
    cases hv
    exact ⟨x, by simp [zeroValue, typeInfo, hi, hx], rfl⟩
  split at h
  · cases h
  · rename_i v hnt hv
    cases h
    obtain ⟨x, h1, h2⟩ := hz _ hv
    refine ⟨x, h1, ?_⟩
    have h3 := avOf_RA G w .ret x
    have h4 := avOf_own x
    rw [← h2] at h3 h4
    exact (h3.toRC (fun e => hnt e)).to_RN (by cases v <;> first | rfl | cases h4)
  · rename_i l hv
    cases h
    obtain ⟨x, h1, h2⟩ := hz _ hv
    have h3 := avOf_RA G w .ret x
    rw [← h2] at h3
    exact ⟨x, h1, h3⟩
  · cases h

theorem noAssert_ok {a xT : TypeId} {ok : Bool} {v : AV} {ℓ : Own} (h : noAssert P a ok = some v) {st dy : Option TypeId} {s : String} :
    ∃ z, (do if ok then pure (.tuple #[← zeroValue a, .bool false]) else runtimePanic (.typeAssertion st dy a s) : Sem Value).run P w = .ok z w ∧ isOwn v = false ∧ RA G w ℓ v z := by
  unfold noAssert at h
  split at h
  case isFalse => cases h
  rename_i ho
  split at h
  case h_2 => cases h
  rename_i z hz
  cases h
  obtain ⟨x, h1, h2⟩ := avOf_RT (G := G) (w := w) hz
  refine ⟨.tuple #[x, .bool false], by simp [ho, h1], rfl, [x, .bool false], rfl, .cons h2 (.cons (RP.bool false) .nil)⟩

theorem assert_ok {xT a : TypeId} {ok : Bool} {X v : AV} {x : Value} {ℓ ℓ' : Own} (h : absAssert P a ok X = some v) (hx : RA G w ℓ X x) :
    ∃ z, (Instr.typeAssert x xT a ok).run P w = .ok z w ∧ isOwn v = false ∧ RA G w ℓ' v z := by
  unfold absAssert at h
  split at h
  case isFalse => cases h
  rename_i hc
  obtain ⟨d, hd, hn⟩ := concreteT_inv hc
  have hif : ∀ t u, (Instr.typeAssert (.iface t u) xT a ok).run P w =
      (if t = a then (pure (if ok then .tuple #[u, .bool true] else u) : Sem Value) else (do if ok then pure (.tuple #[← zeroValue a, .bool false]) else runtimePanic (.typeAssertion (some xT) (some t) a "") : Sem Value)).run P w := fun t u => by
    unfold Instr.typeAssert
    simp only [Sem.run_bind, run_underlying hd, Result.andThen_ok]
  split at h
  · rename_i t p
    have hx' : RP G.I (.ifc t p) x := hx
    cases hx' with
    | ifc _ _ u hu =>
    rw [hif]
    split at h
    · rename_i ht
      rw [if_pos ht]
      split at h <;> rename_i ho <;> cases h
      · exact ⟨.tuple #[u, .bool true], (by simp [ho]), rfl, [u, .bool true], rfl, .cons hu (.cons (RP.bool true) .nil)⟩
      · exact ⟨u, by simp [ho], rfl, RA.of_RN (v := .pv p) hu⟩
    · rename_i ht
      rw [if_neg ht]
      exact noAssert_ok (xT := xT) h
  · rename_i t l
    have hx' : RP G.I (.ifa t l) x := hx
    cases hx' with
    | ifa _ _ f hf =>
    rw [hif]
    have hall : All2 (RN G) (l.map CV.pv) ((List.range l.length).map f) := All2.map_left (All2.mk (by simp) fun i p y hp hy => by
      have hi : i < l.length := (List.getElem?_eq_some_iff.1 hp).1
      simp [hi] at hy
      subst hy
      exact hf i p hp)
    split at h
    · rename_i ht
      rw [if_pos ht]
      split at h <;> rename_i ho <;> cases h
      · exact ⟨.tuple #[.agg ((List.range l.length).map f).toArray, .bool true], by simp [ho], rfl, [_, .bool true], rfl, .cons ⟨_, rfl, hall⟩ (.cons (RP.bool true) .nil)⟩
      · exact ⟨.agg ((List.range l.length).map f).toArray, by simp [ho], rfl, _, rfl, hall⟩
    · rename_i ht
      rw [if_neg ht]
      exact noAssert_ok (xT := xT) h
  · have hx' : RP G.I .nilifc x := hx
    cases hx'
    have : (Instr.typeAssert .nilIface xT a ok).run P w = (do if ok then pure (.tuple #[← zeroValue a, .bool false]) else runtimePanic (.typeAssertion (some xT) none a "") : Sem Value).run P w := by
      unfold Instr.typeAssert
      simp only [Sem.run_bind, run_underlying hd, Result.andThen_ok]
    rw [this]
    exact noAssert_ok (xT := xT) h
  · cases h

theorem allInts_ok : ∀ {k : IntKind} {l : List AV} {m : List Int} {xs : List Value}, allInts k l = some m → All2 (fun v x => ∃ ℓ, RA G w ℓ v x) l xs → xs = m.map (Value.int k)
  | k, [], m, _, h, .nil => by simp [allInts] at h; subst h; rfl
  | k, v :: l, m, x :: xs, h, .cons hx hxs => by
    unfold allInts at h
    split at h
    · rename_i heq; cases heq
    · rename_i k' n l' heq
      cases heq
      split at h
      case isFalse => cases h
      rename_i hk
      subst hk
      simp only [Option.map_eq_some_iff] at h
      obtain ⟨m', hm, rfl⟩ := h
      obtain ⟨ℓ, hx⟩ := hx
      cases hx.intv
      rw [allInts_ok hm hxs]; rfl
    · cases h

theorem fold_max (k : IntKind) : ∀ (m : List Int) (n : Int), ((m.map (Value.int k)).foldlM Builtin.max2 (.int k n)).run P w = .ok (.int k (m.foldl (fun x y => if y > x then y else x) n)) w
  | [], n => rfl
  | y :: m, n => by
    simp only [List.map_cons, List.foldlM_cons, Sem.run_bind, List.foldl_cons]
    have : (Builtin.max2 (.int k n) (.int k y)).run P w = .ok (.int k (if y > n then y else n)) w := rfl
    rw [this, Result.andThen_ok]
    exact fold_max k m _

theorem fold_min (k : IntKind) : ∀ (m : List Int) (n : Int), ((m.map (Value.int k)).foldlM Builtin.min2 (.int k n)).run P w = .ok (.int k (m.foldl (fun x y => if y < x then y else x) n)) w
  | [], n => rfl
  | y :: m, n => by
    simp only [List.map_cons, List.foldlM_cons, Sem.run_bind, List.foldl_cons]
    have : (Builtin.min2 (.int k n) (.int k y)).run P w = .ok (.int k (if y < n then y else n)) w := rfl
    rw [this, Result.andThen_ok]
    exact fold_min k m _

theorem max_ok {l : List AV} {p : PV} {xs : List Value} {ts : Array TypeId} {t : TypeId} (h : absMax l = some p) (hx : All2 (fun v x => ∃ ℓ, RA G w ℓ v x) l xs) :
    ∃ z, (Builtin.max_ ts t xs.toArray).run P w = .ok z w ∧ RP G.I p z := by
  unfold absMax at h
  split at h
  case h_2 => cases h
  split at h
  case h_2 => cases h
  rename_i m hm
  cases h
  cases hx with
  | cons hx hxs =>
  obtain ⟨ℓ, hx⟩ := hx
  cases hx.intv
  rw [allInts_ok hm hxs]
  exact ⟨_, fold_max _ _ _, .int _ _⟩

theorem min_ok {l : List AV} {p : PV} {xs : List Value} {ts : Array TypeId} {t : TypeId} (h : absMin l = some p) (hx : All2 (fun v x => ∃ ℓ, RA G w ℓ v x) l xs) :
    ∃ z, (Builtin.min_ ts t xs.toArray).run P w = .ok z w ∧ RP G.I p z := by
  unfold absMin at h
  split at h
  case h_2 => cases h
  split at h
  case h_2 => cases h
  rename_i m hm
  cases h
  cases hx with
  | cons hx hxs =>
  obtain ⟨ℓ, hx⟩ := hx
  cases hx.intv
  rw [allInts_ok hm hxs]
  exact ⟨_, fold_min _ _ _, .int _ _⟩

theorem len_ok {t ty : TypeId} {X : AV} {p : PV} {x : Value} {ℓ : Own} (h : absLen P t X = some p) (hx : RA G w ℓ X x) :
    ∃ z, (Builtin.len_ #[t] ty #[x]).run P w = .ok z w ∧ RP G.I p z := by
  unfold absLen at h
  split at h
  · rename_i hu
    split at h
    case h_2 => cases h
    rename_i s
    cases h
    cases hx.strv
    refine ⟨.int .i64 s.length, ?_, .int _ _⟩
    rw [run_len_string w t ty _ hu]
    rfl
  · rename_i e hu
    split at h
    case h_2 => cases h
    rename_i c hc
    cases h
    obtain ⟨a, cap, rfl, _, _⟩ := (content_RP hc hx).slice_inv
    refine ⟨.int .i64 c.length, ?_, .int _ _⟩
    simp [Builtin.len_, run_underlying hu, goInt]
  · cases h
end
end Go.Abs
