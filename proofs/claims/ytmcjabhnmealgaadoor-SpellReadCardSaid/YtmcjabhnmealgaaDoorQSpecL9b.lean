/-
  WHAT THE FUNCTIONS COMPUTE, layer 4, the document's reader of selectors: the simple selectors of a compound one, by recursion.
-/
import Derived.Test.YtmcjabhnmealgaaDoorQSpecL8b
import Derived.Test.YtmcjabhnmealgaaDoorQSpecL9
set_option linter.unusedSimpArgs false
set_option linter.unusedVariables false
namespace Go.Abs
open Go Go.Proofs
set_option maxRecDepth 10000
attribute [local go_sem] exL_seq exL_region exL_cond exL_block exL_scope exL_ret exL_skip exL_exit runRegion runOps stepOp guardA absOp takeOver opd avOf cvOf St.degAt St.put okPV okVal okAV absBin intBin strBin boolBin setBoxes if_true Bool.false_eq_true if_false Option.map_some Option.map_none Option.bind_some Option.bind_none thenO outOf upd List.toList_toArray isOwn steal appArgs inApps AV.deg CV.deg AV.gv AV.isIter absNext some_bne List.length_nil List.length_cons List.filterMap_cons List.filterMap_nil beq_iff_eq List.getElem?_cons_zero List.getElem?_cons_succ Option.getD_some K_hook hookB Bool.false_and Bool.and_false Bool.and_self K_P K_own absCall doCall getBoxes lend back idx dedup AV.ren CV.ren TV.ren AV.ptrs CV.ptrs zipBox AV.flat CV.flat absLoad absStore cellsOfAV setAt newBox markB bldTypes absFieldAddr absField absExtract absAssert noAssert absMkIface ifcOf CV.pv? content pushHead ownT fillCells reps pvs chunks enterSt leave resOf resVars resVar outBoxes lentOnly TV.deg TV.av LK CV.plain CV.noBld nilBin absUn bound List.map_cons List.map_nil List.all_cons List.all_nil List.any_cons List.any_nil List.contains_cons List.contains_nil List.elem_cons List.elem_nil List.cons_append List.nil_append List.append_nil List.flatMap_cons List.flatMap_nil List.zip_cons_cons List.zip_nil_left List.zip_nil_right List.take_succ_cons List.take_zero List.take_nil List.drop_succ_cons List.drop_zero List.drop_nil List.isEmpty_nil List.isEmpty_cons Bool.and_true Bool.true_and Bool.or_true Bool.true_or Bool.or_false Bool.false_or Bool.not_true Bool.not_false Nat.add_zero Nat.zero_add Option.isNone_none Option.isNone_some Option.getD_none true_and and_true not_true_eq_false not_false_eq_true decide_true decide_false Nat.le_refl and_self Bool.not_eq_true Nat.sub_self or_true true_or Option.some.injEq List.length_map List.nil_eq and_false false_and AV.live CV.live CV.liveIn K_keep firstReg Option.orElse_some Option.orElse_none head keepSlots keepBoxes Int.lt_irrefl List.length_append ite_self memOK logOps opKey lentBoxes Key.clash Key.sees Key.writes Nat.lt_irrefl gt_iff_lt nobox_at bot_at false_or or_false beq_self_eq_true Bool.true_beq Bool.false_beq

/-- what the loop comes to -/
def PEnd (res : Option (List Sim × List Val)) (l : List Val) (i : Nat) (cb : Int) (acc : List Sim) (S : St) : Prop :=
  match res with
  | some (qs, r) => ∃ (j e : Nat), l.drop j = r ∧ i ≤ j ∧ j ≤ l.length ∧ (Sl.over r || Sl.double r) = true ∧ S.bx 10 = some (rb0 l j false) ∧ S.bx 7 = some (pcell cb e (acc ++ qs)) ∧ (e = 32 ∨ acc ++ qs = [])
  | none => ∃ (j e : Nat) (acc' : List Sim), S.bx 10 = some (rb0 l j true) ∧ S.bx 7 = some (pcell cb e acc') ∧ (e = 32 ∨ acc' = []) ∧ acc'.length ≤ 100000001

theorem part_loop (l : List Val) (cb : Int) (e5 : Nat) (ps : List (List PV)) (hsz : Ne.size l ≤ 100000000) (hts : TSh l) : ∀ (f : Nat) (i e : Nat) (acc : List Sim) (first : Bool), (l.drop i).length < f → i ≤ l.length → ((acc.length : Int) == 0) = first → acc.length ≤ i → (e = 32 ∨ acc = []) →
    Ends (exL K 24 palp (partH l i false cb e acc e5 ps)) fun o S => o = .exit 2 ∧ PKept S e5 ps ∧ PEnd (Sl.part f first (l.drop i)) l i cb acc S
  | 0, i, e, acc, first, hf, _, _, _, _ => absurd hf (by omega)
  | f + 1, i, e, acc, first, hf, hi, hfi, ha, he => by
    have hl : l.length ≤ 100000000 := Nat.le_trans (Ne.length_size l) hsz
    cases ho : Sl.over (l.drop i) with
    | true =>
      have hp : Sl.part (f + 1) first (l.drop i) = some ([], l.drop i) := by rw [Sl.part, ho]; rfl
      rw [hp]
      refine ends_imp (part_over l i cb e acc e5 ps hl ho) fun o S q => ⟨q.1, q.2.1, i, e, rfl, Nat.le_refl _, hi, by rw [ho]; rfl, q.2.2.1, ?_, ?_⟩
      · rw [List.append_nil]; exact q.2.2.2
      · rw [List.append_nil]; exact he
    | false =>
      cases hd : Sl.double (l.drop i) with
      | true =>
        have hp : Sl.part (f + 1) first (l.drop i) = some ([], l.drop i) := by rw [Sl.part, ho, hd]; rfl
        rw [hp]
        refine ends_imp (part_double l i cb e acc e5 ps hl hi ho hd) fun o S q => ⟨q.1, q.2.1, i, e, rfl, Nat.le_refl _, hi, by rw [ho, hd]; rfl, q.2.2.1, ?_, ?_⟩
        · rw [List.append_nil]; exact q.2.2.2
        · rw [List.append_nil]; exact he
      | false =>
        have hil : i < l.length := by
          rcases Nat.lt_or_ge i l.length with h | h
          · exact h
          · rw [List.drop_eq_nil_iff.2 h] at ho; cases ho
        have hs := simple_size l i first hsz hts hil
        have hp : Sl.part (f + 1) first (l.drop i) = match Sl.simple (Ne.size (l.drop i)) first (l.drop i) with
          | none => none
          | some (x, r) => (Sl.part f false r).map fun y => (x :: y.1, y.2) := by rw [Sl.part, ho, hd]; rfl
        rw [hp]
        unfold SimpleDen SRes at hs
        cases hr : Sl.simple (Ne.size (l.drop i)) first (l.drop i) with
        | none =>
          rw [hr] at hs
          obtain ⟨x, j, hs⟩ := hs
          rw [part_step l i cb e acc e5 ps hl hi ho hd (by omega) he first hfi x j true hs]
          refine ends_imp (part_bad l j cb 32 (acc ++ [x]) e5 ps) fun o S q => ⟨q.1, q.2.1, j, 32, acc ++ [x], q.2.2.1, q.2.2.2, .inl rfl, ?_⟩
          rw [List.length_append, List.length_singleton]; omega
        | some y =>
          obtain ⟨x, r⟩ := y
          rw [hr] at hs
          obtain ⟨j, j1, j2, j3, hs⟩ := hs
          subst j1
          rw [part_step l i cb e acc e5 ps hl hi ho hd (by omega) he first hfi x j false hs]
          have hlen : (acc ++ [x]).length = acc.length + 1 := by rw [List.length_append, List.length_singleton]
          have hfl : (l.drop j).length < f := by rw [List.length_drop] at hf ⊢; omega
          refine ends_imp (part_loop l cb e5 ps hsz hts f j 32 (acc ++ [x]) false hfl j3 (by rw [hlen, beq_eq_false_iff_ne]; omega) (by omega) (.inl rfl)) fun o S q => ⟨q.1, q.2.1, ?_⟩
          have q3 := q.2.2
          show PEnd ((Sl.part f false (l.drop j)).map fun y => (x :: y.1, y.2)) l i cb acc S
          cases hpp : Sl.part f false (l.drop j) with
          | none =>
            rw [hpp] at q3
            exact q3
          | some z =>
            obtain ⟨qs, r⟩ := z
            rw [hpp] at q3
            obtain ⟨j', e', k1, k2, k3, k4, k5, k6, k7⟩ := q3
            rw [List.append_assoc, List.singleton_append] at k6 k7
            exact ⟨j', e', k1, by omega, k3, k4, k5, k6, k7⟩
end Go.Abs
