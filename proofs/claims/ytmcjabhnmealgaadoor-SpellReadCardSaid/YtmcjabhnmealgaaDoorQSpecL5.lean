/-
  WHAT THE FUNCTIONS COMPUTE, layer 4, the document's reader of selectors: attributes.
-/
import Derived.Test.YtmcjabhnmealgaaDoorQSpecL3
import Derived.Test.YtmcjabhnmealgaaDoorQD
set_option linter.unusedSimpArgs false
set_option linter.unusedVariables false
namespace Go.Abs
open Go Go.Proofs
set_option maxRecDepth 10000
attribute [local go_sem] exL_seq exL_region exL_cond exL_block exL_scope exL_ret exL_skip exL_exit runRegion runOps stepOp guardA absOp takeOver opd avOf cvOf St.degAt St.put okPV okVal okAV absBin intBin strBin boolBin setBoxes if_true Bool.false_eq_true if_false Option.map_some Option.map_none Option.bind_some Option.bind_none thenO outOf upd List.toList_toArray isOwn steal appArgs inApps AV.deg CV.deg AV.gv AV.isIter absNext some_bne List.length_nil List.length_cons List.filterMap_cons List.filterMap_nil beq_iff_eq List.getElem?_cons_zero List.getElem?_cons_succ Option.getD_some K_hook hookB Bool.false_and Bool.and_false Bool.and_self K_P K_own absCall doCall getBoxes lend back idx dedup AV.ren CV.ren TV.ren AV.ptrs CV.ptrs zipBox AV.flat CV.flat absLoad absStore cellsOfAV setAt newBox markB bldTypes absFieldAddr absField absExtract absAssert noAssert absMkIface ifcOf CV.pv? content pushHead ownT fillCells reps pvs chunks enterSt leave resOf resVars resVar outBoxes lentOnly TV.deg TV.av LK CV.plain CV.noBld nilBin absUn bound List.map_cons List.map_nil List.all_cons List.all_nil List.any_cons List.any_nil List.contains_cons List.contains_nil List.elem_cons List.elem_nil List.cons_append List.nil_append List.append_nil List.flatMap_cons List.flatMap_nil List.zip_cons_cons List.zip_nil_left List.zip_nil_right List.take_succ_cons List.take_zero List.take_nil List.drop_succ_cons List.drop_zero List.drop_nil List.isEmpty_nil List.isEmpty_cons Bool.and_true Bool.true_and Bool.or_true Bool.true_or Bool.or_false Bool.false_or Bool.not_true Bool.not_false Nat.add_zero Nat.zero_add Option.isNone_none Option.isNone_some Option.getD_none true_and and_true not_true_eq_false not_false_eq_true decide_true decide_false Nat.le_refl and_self Bool.not_eq_true Nat.sub_self or_true true_or Option.some.injEq List.length_map List.nil_eq and_false false_and AV.live CV.live CV.liveIn K_keep firstReg Option.orElse_some Option.orElse_none head keepSlots keepBoxes Int.lt_irrefl List.length_append ite_self memOK logOps opKey lentBoxes Key.clash Key.sees Key.writes Nat.lt_irrefl gt_iff_lt nobox_at bot_at false_or or_false beq_self_eq_true Bool.true_beq Bool.false_beq

/-! ### simple selectors as the frames have them -/

def lastCv : List Sim → CV
  | [] => .nils
  | x :: l => .pv (.sl (Sim.encL (x :: l)))
def simCv : Sim → List CV
  | .mk k n v a b l => [.pv (.int .i64 k), .pv (.str n), .pv (.str v), .pv (.int .i64 a), .pv (.int .i64 b), lastCv l]
theorem simCv_nil (k : Int) (n v : List UInt8) (a b : Int) : simCv (.mk k n v a b []) = [.pv (.int .i64 k), .pv (.str n), .pv (.str v), .pv (.int .i64 a), .pv (.int .i64 b), .nils] := rfl

/-! ### attributes -/

abbrev noB (l : List Val) : List Val := l.filter fun v => !Sl.isBlank v
abbrev attrH (l : List Val) (i e : Nat) (acc : List Val) : St :=
  { sl := upd (upd (upd (upd bot 5 (I i)) 4 (.c (.loc 9 0))) 2 (.c (.loc 2 0))) 0 (L (encL l)),
    bx := upd (upd nobox 9 (some [.own e (encL acc), .pv (.int .i64 0), .pv (.bool false)])) 2 (some [.pv (.int .i64 0), .pv (.str []), .pv (.str []), .pv (.int .i64 0), .pv (.int .i64 0), .own 0 []]), nt := 100 }
noncomputable def attlp : Code := .loop (loopAt Tryd.f57 3)

theorem push_slice : Tryd.prog.underlying 39 = some (.slice 88) := (desc_sl ty_descOf_39).1

theorem attr_blank (l : List Val) (i e : Nat) (acc : List Val) (hl : l.length ≤ 100000000) (v : Val) (hi : l[i]? = some v) (hb : Sl.isBlank v = true) :
    exL K 57 attlp (attrH l i e acc) = exL K 57 attlp (attrH l (i + 1) e acc) := by
  obtain ⟨k, t, c⟩ := v
  have hil : i < l.length := (List.getElem?_eq_some_iff.1 hi).1
  have hlt : decide ((i : Int) < (l.length : Int)) = true := decide_eq_true (by omega)
  have hget := val_at l i k t c hi
  have hw : IntKind.i64.wrap ((i : Int) + 1) = ((i + 1 : Nat) : Int) := wrap_nat i (by omega)
  have hd := blank_den k t c
  rw [hb] at hd
  unfold attlp
  conv in loopAt _ _ => whnf
  conv in loopAt _ _ => whnf
  conv in exL _ _ _ (attrH l i e acc) => rw [exL_loop]
  simp only [go_sem, Nat.reduceLT, reduceIte, reduceCtorEq, Nat.reduceEqDiff, apply_ite (Option.map (outOf _)), Nat.reduceBEq, Nat.reduceAdd, Nat.reduceSub, Nat.reduceLeDiff, Nat.reduceMul, ty_shapeT_32, ty_zeroCells_32, ev_build ty_zeroCells_92 ty_placesOf_92, ev_len_sl ty_descOf_39, ev_indexAddr ty_descOf_39, ty_szOf_88, ty_shapeT_88, good_32, ty_fieldOff_92_0, ty_szOf_39, ty_shapeT_39, ev_buildSlice (len := 1) ty_descOf_39 ty_szOf_88 ty_zeroCells_88 ⟨rfl, by decide, by decide⟩, ev_append ty_appInfo_39, ev_appNew_sl ty_descOf_39, good_37, ev_build ty_zeroCells_32 ty_placesOf_32, ty_szOf_32, ty_fieldOff_92_2, ty_szOf_4, ty_shapeT_4, good_54, ty_fieldOff_32_0, ty_szOf_3, ty_fieldOff_88_1, ty_szOf_83, ty_shapeT_83, ty_zeroCells_83, ty_fieldOff_83_1, ty_szOf_9, ty_shapeT_9, ty_fieldOff_32_2, ty_fieldOff_88_0, ty_shapeT_3, ty_fieldOff_83_0, keep_57_3, hlt, hget, Int.natCast_nonneg, hw, hd, encL_len]
  rw [exL_head]
  simp only [go_sem, Nat.reduceLT, reduceIte, reduceCtorEq, Nat.reduceEqDiff, apply_ite (Option.map (outOf _)), Nat.reduceBEq, Nat.reduceAdd, Nat.reduceSub, Nat.reduceLeDiff, Nat.reduceMul, ty_shapeT_32, ty_zeroCells_32, ev_build ty_zeroCells_92 ty_placesOf_92, ev_len_sl ty_descOf_39, ev_indexAddr ty_descOf_39, ty_szOf_88, ty_shapeT_88, good_32, ty_fieldOff_92_0, ty_szOf_39, ty_shapeT_39, ev_buildSlice (len := 1) ty_descOf_39 ty_szOf_88 ty_zeroCells_88 ⟨rfl, by decide, by decide⟩, ev_append ty_appInfo_39, ev_appNew_sl ty_descOf_39, good_37, ev_build ty_zeroCells_32 ty_placesOf_32, ty_szOf_32, ty_fieldOff_92_2, ty_szOf_4, ty_shapeT_4, good_54, ty_fieldOff_32_0, ty_szOf_3, ty_fieldOff_88_1, ty_szOf_83, ty_shapeT_83, ty_zeroCells_83, ty_fieldOff_83_1, ty_szOf_9, ty_shapeT_9, ty_fieldOff_32_2, ty_fieldOff_88_0, ty_shapeT_3, ty_fieldOff_83_0, keep_57_3]

set_option maxHeartbeats 4000000 in
theorem attr_push (l : List Val) (i e : Nat) (acc : List Val) (hl : l.length ≤ 100000000) (ha : acc.length ≤ 100000000) (he : e = 88 ∨ acc = []) (v : Val) (hi : l[i]? = some v) (hb : Sl.isBlank v = false) :
    exL K 57 attlp (attrH l i e acc) = exL K 57 attlp (attrH l (i + 1) 88 (acc ++ [v])) := by
  obtain ⟨k, t, c⟩ := v
  have hil : i < l.length := (List.getElem?_eq_some_iff.1 hi).1
  have hlt : decide ((i : Int) < (l.length : Int)) = true := decide_eq_true (by omega)
  have hget := val_at l i k t c hi
  have hw : IntKind.i64.wrap ((i : Int) + 1) = ((i + 1 : Nat) : Int) := wrap_nat i (by omega)
  have hd := blank_den k t c
  rw [hb] at hd
  have hown : e = 88 ∨ (encL acc).isEmpty = true := by
    rcases he with rfl | rfl
    · exact .inl rfl
    · exact .inr rfl
  have hlim : acc.length + 1 < appLim := by unfold appLim; omega
  have hlv := lens_valsK acc
  unfold attlp
  conv in loopAt _ _ => whnf
  conv in loopAt _ _ => whnf
  conv in exL _ _ _ (attrH l i e acc) => rw [exL_loop]
  simp only [go_sem, Nat.reduceLT, reduceIte, reduceCtorEq, Nat.reduceEqDiff, apply_ite (Option.map (outOf _)), Nat.reduceBEq, Nat.reduceAdd, Nat.reduceSub, Nat.reduceLeDiff, Nat.reduceMul, ty_shapeT_32, ty_zeroCells_32, ev_build ty_zeroCells_92 ty_placesOf_92, ev_len_sl ty_descOf_39, ev_indexAddr ty_descOf_39, ty_szOf_88, ty_shapeT_88, good_32, ty_fieldOff_92_0, ty_szOf_39, ty_shapeT_39, ev_buildSlice (len := 1) ty_descOf_39 ty_szOf_88 ty_zeroCells_88 ⟨rfl, by decide, by decide⟩, ev_append ty_appInfo_39, ev_appNew_sl ty_descOf_39, good_37, ev_build ty_zeroCells_32 ty_placesOf_32, ty_szOf_32, ty_fieldOff_92_2, ty_szOf_4, ty_shapeT_4, good_54, ty_fieldOff_32_0, ty_szOf_3, ty_fieldOff_88_1, ty_szOf_83, ty_shapeT_83, ty_zeroCells_83, ty_fieldOff_83_1, ty_szOf_9, ty_shapeT_9, ty_fieldOff_32_2, ty_fieldOff_88_0, ty_shapeT_3, ty_fieldOff_83_0, keep_57_3, hlt, hget, Int.natCast_nonneg, hw, hd, encL_len, exL_push, runPush, runPre, pushOf, appOf, ixOf, stOf, ncOf, faOf, allNe, pushEnd, push_slice, hown, hlim, hlv, lens_valK, topAt, snoc_v, Value.oneCell']
  rw [exL_head]
  simp only [go_sem, Nat.reduceLT, reduceIte, reduceCtorEq, Nat.reduceEqDiff, apply_ite (Option.map (outOf _)), Nat.reduceBEq, Nat.reduceAdd, Nat.reduceSub, Nat.reduceLeDiff, Nat.reduceMul, ty_shapeT_32, ty_zeroCells_32, ev_build ty_zeroCells_92 ty_placesOf_92, ev_len_sl ty_descOf_39, ev_indexAddr ty_descOf_39, ty_szOf_88, ty_shapeT_88, good_32, ty_fieldOff_92_0, ty_szOf_39, ty_shapeT_39, ev_buildSlice (len := 1) ty_descOf_39 ty_szOf_88 ty_zeroCells_88 ⟨rfl, by decide, by decide⟩, ev_append ty_appInfo_39, ev_appNew_sl ty_descOf_39, good_37, ev_build ty_zeroCells_32 ty_placesOf_32, ty_szOf_32, ty_fieldOff_92_2, ty_szOf_4, ty_shapeT_4, good_54, ty_fieldOff_32_0, ty_szOf_3, ty_fieldOff_88_1, ty_szOf_83, ty_shapeT_83, ty_zeroCells_83, ty_fieldOff_83_1, ty_szOf_9, ty_shapeT_9, ty_fieldOff_32_2, ty_fieldOff_88_0, ty_shapeT_3, ty_fieldOff_83_0, keep_57_3, topAt]
end Go.Abs
