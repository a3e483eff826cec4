/-
  WHAT THE FUNCTIONS COMPUTE, layer 4, the document's reader of selectors: simple selectors.
-/
import Derived.Test.YtmcjabhnmealgaaDoorQSpecL5
import Derived.Test.YtmcjabhnmealgaaDoorQS
set_option linter.unusedSimpArgs false
set_option linter.unusedVariables false
namespace Go.Abs
open Go Go.Proofs
set_option maxRecDepth 10000
attribute [local go_sem] exL_seq exL_region exL_cond exL_block exL_scope exL_ret exL_skip exL_exit runRegion runOps stepOp guardA absOp takeOver opd avOf cvOf St.degAt St.put okPV okVal okAV absBin intBin strBin boolBin setBoxes if_true Bool.false_eq_true if_false Option.map_some Option.map_none Option.bind_some Option.bind_none thenO outOf upd List.toList_toArray isOwn steal appArgs inApps AV.deg CV.deg AV.gv AV.isIter absNext some_bne List.length_nil List.length_cons List.filterMap_cons List.filterMap_nil beq_iff_eq List.getElem?_cons_zero List.getElem?_cons_succ Option.getD_some K_hook hookB Bool.false_and Bool.and_false Bool.and_self K_P K_own absCall doCall getBoxes lend back idx dedup AV.ren CV.ren TV.ren AV.ptrs CV.ptrs zipBox AV.flat CV.flat absLoad absStore cellsOfAV setAt newBox markB bldTypes absFieldAddr absField absExtract absAssert noAssert absMkIface ifcOf CV.pv? content pushHead ownT fillCells reps pvs chunks enterSt leave resOf resVars resVar outBoxes lentOnly TV.deg TV.av LK CV.plain CV.noBld nilBin absUn bound List.map_cons List.map_nil List.all_cons List.all_nil List.any_cons List.any_nil List.contains_cons List.contains_nil List.elem_cons List.elem_nil List.cons_append List.nil_append List.append_nil List.flatMap_cons List.flatMap_nil List.zip_cons_cons List.zip_nil_left List.zip_nil_right List.take_succ_cons List.take_zero List.take_nil List.drop_succ_cons List.drop_zero List.drop_nil List.isEmpty_nil List.isEmpty_cons Bool.and_true Bool.true_and Bool.or_true Bool.true_or Bool.or_false Bool.false_or Bool.not_true Bool.not_false Nat.add_zero Nat.zero_add Option.isNone_none Option.isNone_some Option.getD_none true_and and_true not_true_eq_false not_false_eq_true decide_true decide_false Nat.le_refl and_self Bool.not_eq_true Nat.sub_self or_true true_or Option.some.injEq List.length_map List.nil_eq and_false false_and AV.live CV.live CV.liveIn K_keep firstReg Option.orElse_some Option.orElse_none head keepSlots keepBoxes Int.lt_irrefl List.length_append ite_self memOK logOps opKey lentBoxes Key.clash Key.sees Key.writes Nat.lt_irrefl gt_iff_lt nobox_at bot_at false_or or_false beq_self_eq_true Bool.true_beq Bool.false_beq

/-- texts of tokens that are not too long -/
def TSh (l : List Val) : Prop := ∀ t ∈ Ne.flat l, t.text.length < 1000000000
theorem ts_sub {l m : List Val} (h : TSh l) (hs : ∀ v ∈ m, v ∈ l) : TSh m := fun t ht => by
  obtain ⟨v, hv, ht⟩ := Sl.flat_mem.1 ht
  exact h t (Sl.flat_mem.2 ⟨v, hs v hv, ht⟩)
theorem ts_drop {l : List Val} (h : TSh l) (i : Nat) : TSh (l.drop i) := ts_sub h fun v hv => List.mem_of_mem_drop hv
theorem ts_trim {l : List Val} (h : TSh l) : TSh (Sl.trim l) := ts_sub h fun v hv => Sl.mem_trim hv
theorem ts_tok {t : Tok} {c l : List Val} (h : TSh (.mk 1 t c :: l)) : t.text.length < 1000000000 := h t (Sl.flat_mem.2 ⟨.mk 1 t c, by simp, by rw [Ne.flatV, if_pos rfl]; simp⟩)
theorem ts_in5 {t : Tok} {c l : List Val} (h : TSh (.mk 5 t c :: l)) : TSh c := fun x hx => h x (Sl.flat_mem.2 ⟨.mk 5 t c, by simp, by
  rw [Ne.flatV, if_neg (by decide), if_pos rfl]; simp [hx]⟩)
theorem ts_at {l : List Val} {i : Nat} {t : Tok} {c : List Val} (h : TSh l) (hi : l[i]? = some (.mk 5 t c)) : TSh c := by
  have hm : Val.mk 5 t c ∈ l := List.mem_of_getElem? hi
  exact fun x hx => h x (Sl.flat_mem.2 ⟨_, hm, by rw [Ne.flatV, if_neg (by decide), if_pos rfl]; simp [hx]⟩)

theorem size_at {l : List Val} {i : Nat} {k : Int} {t : Tok} {c : List Val} (hi : l[i]? = some (.mk k t c)) : Ne.size c < Ne.size l := size_mem (List.mem_of_getElem? hi)
theorem size_app (a b : List Val) : Ne.size (a ++ b) = Ne.size a + Ne.size b := by
  induction a with
  | nil => rw [Ne.size]; simp
  | cons v a ih => rw [List.cons_append, Ne.size, Ne.size, ih]; omega
theorem size_drop (l : List Val) (i : Nat) : Ne.size (l.drop i) ≤ Ne.size l := by
  have := size_app (l.take i) (l.drop i)
  rw [List.take_append_drop] at this
  omega
theorem size_dropW (p : Val → Bool) (l : List Val) : Ne.size (l.dropWhile p) ≤ Ne.size l := by
  have h : l.takeWhile p ++ l.dropWhile p = l := List.takeWhile_append_dropWhile
  have := size_app (l.takeWhile p) (l.dropWhile p)
  rw [h] at this
  omega
theorem size_rev (l : List Val) : Ne.size l.reverse = Ne.size l := by
  induction l with
  | nil => rfl
  | cons v l ih =>
    rw [List.reverse_cons, size_app, ih, Ne.size, Ne.size, Ne.size]
    omega
theorem size_trim (l : List Val) : Ne.size (Sl.trim l) ≤ Ne.size l := by
  unfold Sl.trim
  rw [size_rev]
  have h1 := size_dropW Sl.isBlank (l.dropWhile Sl.isBlank).reverse
  have h2 := size_dropW Sl.isBlank l
  rw [size_rev] at h1
  omega

/-! ### what a reading comes to -/

def SRes (res : Option (Sim × List Val)) (l : List Val) (i : Nat) (dn : Option Res) : Prop :=
  match res with
  | some (x, r) => ∃ j : Nat, l.drop j = r ∧ i < j ∧ j ≤ l.length ∧ dn = some (.ret (.agg (simCv x)) [rb0 l j false])
  | none => ∃ (x : Sim) (j : Nat), dn = some (.ret (.agg (simCv x)) [rb0 l j true])

/-- one simple selector; 'g': how what stands within is read -/
def simpleG (g : List Val → Option (Sim × List Val)) (first : Bool) (l : List Val) : Option (Sim × List Val) :=
    match (if first then Sl.tokK 1 l else none) with
    | some t => some (.mk 2 (Sl.low t.text) [] 0 0 [], l.tail)
    | none =>
    match (if first then Sl.sign [42] l else none) with
    | some r => some (.mk 1 [] [] 0 0 [], r)
    | none =>
    match Sl.tokK 4 l with
    | some t => some (.mk 3 t.text [] 0 0 [], l.tail)
    | none =>
    match Sl.sign [46] l with
    | some r => (Sl.name r).map fun x => (.mk 4 x.1 [] 0 0 [], x.2)
    | none =>
    match Sl.sign [58] l with
    | some r => Sl.colon g r
    | none =>
    match Sl.valueK 3 l with
    | some x => (Sl.attr x.1.2).map fun y => (y, x.2)
    | none => none
theorem simple_G (f : Nat) (first : Bool) (l : List Val) : Sl.simple (f + 1) first l = simpleG (Sl.simple f true) first l := rfl

def SimpleDen (res : Option (Sim × List Val)) (first : Bool) (l : List Val) (i : Nat) : Prop := SRes res l i (den K 36 [P0, B first] [rb0 l i false])
def ColonDen (g : List Val → Option (Sim × List Val)) (l : List Val) (i : Nat) : Prop := SRes (Sl.colon g (l.drop i)) l i (den K 55 [P0] [rb0 l i false])

/-- what stands in :not( ) -/
def notG (g : List Val → Option (Sim × List Val)) (c : List Val) : Option Sim :=
  match g (Sl.trim c) with
  | some (x, []) => if x.kind = 11 then none else some (.mk 11 [] [] 0 0 [x])
  | _ => none
def NotDen (g : List Val → Option (Sim × List Val)) (c : List Val) : Prop :=
  ∃ (y : Sim) (ok : Bool), den K 65 [L (encL c)] [] = some (.ret (.tup [.agg (simCv y), .c (.pv (.bool ok))]) []) ∧ (match notG g c with | some x => y = x ∧ ok = true | none => ok = false)

theorem simCv_cons (k : Int) (n v : List UInt8) (a b : Int) (x : Sim) (l : List Sim) : simCv (.mk k n v a b (x :: l)) = [.pv (.int .i64 k), .pv (.str n), .pv (.str v), .pv (.int .i64 a), .pv (.int .i64 b), .pv (.sl (Sim.encL (x :: l)))] := rfl
theorem encL_one (x : Sim) : Sim.encL [x] = [x.enc] := rfl
theorem enc_nil (k : Int) (n v : List UInt8) (a b : Int) : (Sim.mk k n v a b []).enc = [.int .i64 k, .str n, .str v, .int .i64 a, .int .i64 b, .sl []] := rfl
theorem enc_cons (k : Int) (n v : List UInt8) (a b : Int) (x : Sim) (l : List Sim) : (Sim.mk k n v a b (x :: l)).enc = [.int .i64 k, .str n, .str v, .int .i64 a, .int .i64 b, .sl (Sim.encL (x :: l))] := rfl

set_option maxHeartbeats 4000000 in
theorem not_den (g : List Val → Option (Sim × List Val)) (c : List Val) (hc : c.length ≤ 100000000) (h : SimpleDen (g (Sl.trim c)) true (Sl.trim c) 0) : NotDen g c := by
  have hr : Tryd.f65.results = #[.cell 2 32, .tmp 3] := rfl
  have htrim := Trim_den c hc
  unfold NotDen notG
  generalize Sl.trim c = R at h htrim
  unfold SimpleDen SRes at h
  have z0 : ((0 : Nat) : Int) = 0 := rfl
  cases hg : g R with
  | none =>
    rw [hg] at h
    obtain ⟨x, j, h⟩ := h
    obtain ⟨k, n, v, a, b, xl⟩ := x
    refine ⟨.mk 11 [] [] 0 0 [.mk k n v a b xl], false, ?_, rfl⟩
    cases xl
    all_goals
      simp only [simCv_nil, simCv_cons, encL_one, enc_nil, enc_cons, rb0, z0] at h ⊢
      refine den_run rfl Tryd.func65 rfl Tryd.ntmps65 ⟨by simp, by simp [LK]⟩ ?_
      simp only [go_sem, Nat.reduceLT, reduceIte, reduceCtorEq, Nat.reduceEqDiff, apply_ite (Option.map (outOf _)), Nat.reduceBEq, Nat.reduceAdd, Nat.reduceSub, Nat.reduceLeDiff, Nat.reduceMul, ty_shapeT_32, ty_zeroCells_32, good_22, ev_build ty_zeroCells_92 ty_placesOf_92, good_36, ty_szOf_32, ev_buildSlice (len := 1) ty_descOf_30 ty_szOf_32 ty_zeroCells_32 ⟨rfl, by decide, by decide⟩, ev_build ty_zeroCells_32 ty_placesOf_32, ty_fieldOff_92_2, ty_szOf_4, ty_shapeT_4, ty_fieldOff_92_1, ty_szOf_3, ty_shapeT_3, ty_fieldOff_92_0, ty_szOf_39, ty_shapeT_39, ev_len_sl ty_descOf_39, ty_fieldOff_32_0, hr, htrim, h, TV.flat, z0]
  | some y =>
    obtain ⟨x, r⟩ := y
    rw [hg] at h
    obtain ⟨j, h1, h2, h3, h⟩ := h
    obtain ⟨k, n, v, a, b, xl⟩ := x
    cases r with
    | nil =>
      have hj : j = R.length := by
        have := List.drop_eq_nil_iff.1 h1
        omega
      have ej : ((j : Int) == (R.length : Int)) = true := by rw [hj]; simp
      have hk : Sim.kind (.mk k n v a b xl) = k := rfl
      simp only [hk]
      by_cases h11 : k = 11
      · have ek : (k != 11) = false := by rw [h11]; rfl
        rw [if_pos h11]
        refine ⟨.mk 11 [] [] 0 0 [.mk k n v a b xl], false, ?_, rfl⟩
        cases xl
        all_goals
          simp only [simCv_nil, simCv_cons, encL_one, enc_nil, enc_cons, rb0, z0] at h ⊢
          refine den_run rfl Tryd.func65 rfl Tryd.ntmps65 ⟨by simp, by simp [LK]⟩ ?_
          simp only [go_sem, Nat.reduceLT, reduceIte, reduceCtorEq, Nat.reduceEqDiff, apply_ite (Option.map (outOf _)), Nat.reduceBEq, Nat.reduceAdd, Nat.reduceSub, Nat.reduceLeDiff, Nat.reduceMul, ty_shapeT_32, ty_zeroCells_32, good_22, ev_build ty_zeroCells_92 ty_placesOf_92, good_36, ty_szOf_32, ev_buildSlice (len := 1) ty_descOf_30 ty_szOf_32 ty_zeroCells_32 ⟨rfl, by decide, by decide⟩, ev_build ty_zeroCells_32 ty_placesOf_32, ty_fieldOff_92_2, ty_szOf_4, ty_shapeT_4, ty_fieldOff_92_1, ty_szOf_3, ty_shapeT_3, ty_fieldOff_92_0, ty_szOf_39, ty_shapeT_39, ev_len_sl ty_descOf_39, ty_fieldOff_32_0, hr, htrim, h, TV.flat, z0, ej, ek, encL_len]
      · have ek : (k != 11) = true := by rw [bne_iff_ne]; exact h11
        rw [if_neg h11]
        refine ⟨.mk 11 [] [] 0 0 [.mk k n v a b xl], true, ?_, rfl, rfl⟩
        cases xl
        all_goals
          simp only [simCv_nil, simCv_cons, encL_one, enc_nil, enc_cons, rb0, z0] at h ⊢
          refine den_run rfl Tryd.func65 rfl Tryd.ntmps65 ⟨by simp, by simp [LK]⟩ ?_
          simp only [go_sem, Nat.reduceLT, reduceIte, reduceCtorEq, Nat.reduceEqDiff, apply_ite (Option.map (outOf _)), Nat.reduceBEq, Nat.reduceAdd, Nat.reduceSub, Nat.reduceLeDiff, Nat.reduceMul, ty_shapeT_32, ty_zeroCells_32, good_22, ev_build ty_zeroCells_92 ty_placesOf_92, good_36, ty_szOf_32, ev_buildSlice (len := 1) ty_descOf_30 ty_szOf_32 ty_zeroCells_32 ⟨rfl, by decide, by decide⟩, ev_build ty_zeroCells_32 ty_placesOf_32, ty_fieldOff_92_2, ty_szOf_4, ty_shapeT_4, ty_fieldOff_92_1, ty_szOf_3, ty_shapeT_3, ty_fieldOff_92_0, ty_szOf_39, ty_shapeT_39, ev_len_sl ty_descOf_39, ty_fieldOff_32_0, hr, htrim, h, TV.flat, z0, ej, ek, encL_len]
    | cons u r =>
      have hj : j < R.length := (drop_val h1).2.2
      have ej : ((j : Int) == (R.length : Int)) = false := by rw [beq_eq_false_iff_ne]; omega
      refine ⟨.mk 11 [] [] 0 0 [.mk k n v a b xl], false, ?_, rfl⟩
      cases xl
      all_goals
        simp only [simCv_nil, simCv_cons, encL_one, enc_nil, enc_cons, rb0, z0] at h ⊢
        refine den_run rfl Tryd.func65 rfl Tryd.ntmps65 ⟨by simp, by simp [LK]⟩ ?_
        simp only [go_sem, Nat.reduceLT, reduceIte, reduceCtorEq, Nat.reduceEqDiff, apply_ite (Option.map (outOf _)), Nat.reduceBEq, Nat.reduceAdd, Nat.reduceSub, Nat.reduceLeDiff, Nat.reduceMul, ty_shapeT_32, ty_zeroCells_32, good_22, ev_build ty_zeroCells_92 ty_placesOf_92, good_36, ty_szOf_32, ev_buildSlice (len := 1) ty_descOf_30 ty_szOf_32 ty_zeroCells_32 ⟨rfl, by decide, by decide⟩, ev_build ty_zeroCells_32 ty_placesOf_32, ty_fieldOff_92_2, ty_szOf_4, ty_shapeT_4, ty_fieldOff_92_1, ty_szOf_3, ty_shapeT_3, ty_fieldOff_92_0, ty_szOf_39, ty_shapeT_39, ev_len_sl ty_descOf_39, ty_fieldOff_32_0, hr, htrim, h, TV.flat, z0, ej, encL_len]
end Go.Abs
