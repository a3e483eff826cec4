/-
  THE ABSTRACT INTERPRETER: SOUNDNESS: what it answers for a function, the model's call yields.
-/
import Derived.Scope
import Derived.Test.YtcnodcgdceoijaaDoorAbsPush
set_option linter.unusedSimpArgs false
set_option linter.unusedVariables false
namespace Go.Abs
open Go

section
variable {K : Cfg} {call : CallF} {ops : List Oper} {Q : Exit → Act → World → Prop}

def look : List (Nat × Key) → Nat → Key
  | [], _ => .none
  | (j, k) :: l, i => if j = i then k else look l i

theorem look_mem : ∀ {l : List (Nat × Key)} {i : Nat}, look l i ≠ .none → (i, look l i) ∈ l
  | [], i, h => absurd rfl h
  | (j, k) :: l, i, h => by
    unfold look at h ⊢
    split
    · rename_i e; subst e; simp
    · rename_i e; rw [if_neg e] at h; exact List.mem_cons_of_mem _ (look_mem h)

theorem look_ge : ∀ {l : List (Nat × Key)} {k i : Nat}, (∀ x ∈ l, k ≤ x.1) → i < k → look l i = .none
  | [], k, i, _, _ => rfl
  | (j, q) :: l, k, i, h, hi => by
    have := h (j, q) (by simp)
    unfold look
    rw [if_neg (by simp at this; omega)]
    exact look_ge (fun x hx => h x (by simp [hx])) hi

theorem logOps_cons {o : Oper} {l : List Oper} {k : Nat} {S S1 : St} (h1 : stepOp K call ops o S = some (.norm, S1)) :
    logOps K call ops k (o :: l) S = match curKey ops o S with | .none => logOps K call ops (k + 1) l S1 | q => (k, q) :: logOps K call ops (k + 1) l S1 := by
  rw [logOps]
  simp only [h1]
  unfold curKey
  cases hg : guardA ops S o with
  | none => rfl
  | some b =>
    cases b with
    | false => rfl
    | true =>
      simp only
      cases opKey (appArgs ops) S.bx (opd S.sl) o <;> rfl

theorem log_ge : ∀ (l : List Oper) (k : Nat) (S : St), ∀ x ∈ logOps K call ops k l S, k ≤ x.1
  | [], k, S, x, h => by simp [logOps] at h
  | o :: l, k, S, x, h => by
    unfold logOps at h
    simp only at h
    split at h
    · rename_i S1 _
      split at h
      · have := log_ge l (k + 1) S1 x h; omega
      · rcases List.mem_cons.1 h with rfl | h
        · exact Nat.le_refl _
        · have := log_ge l (k + 1) S1 x h; omega
    · simp at h

/-- the keys of a run are as given -/
def Logs (K : Cfg) (call : CallF) (ops : List Oper) (κ : Nat → Key) : Nat → List Oper → St → Prop
  | _, [], _ => True
  | k, o :: rest, S => κ k = curKey ops o S ∧ ∀ S1, stepOp K call ops o S = some (.norm, S1) → Logs K call ops κ (k + 1) rest S1

theorem logs_of : ∀ (l : List Oper) (k : Nat) (S S' : St) (κ : Nat → Key), runOps K call ops l S = some (.norm, S') → (∀ i, k ≤ i → κ i = look (logOps K call ops k l S) i) → Logs K call ops κ k l S
  | [], _, _, _, _, _, _ => trivial
  | o :: l, k, S, S', κ, h, hκ => by
    unfold runOps at h
    split at h
    · rename_i S1 h1
      have hlog := logOps_cons (l := l) (k := k) h1
      have hge := log_ge (K := K) (call := call) (ops := ops) l (k + 1) S1
      refine ⟨?_, fun S2 h2 => ?_⟩
      · rw [hκ k (Nat.le_refl _), hlog]
        cases hc : curKey ops o S with
        | none => exact look_ge hge (by omega)
        | _ => simp [look]
      · rw [h1] at h2; cases h2
        refine logs_of l (k + 1) S1 S' κ h fun i hi => ?_
        rw [hκ i (by omega), hlog]
        cases curKey ops o S <;> simp [look] <;> omega
    · rename_i hne
      exact (hne S' h).elim

theorem memOK_reach {log : List (Nat × Key)} (h : memOK ops log = true) {i j : Nat} (hij : i < j) (hc : (look log i).clash (look log j) = true) : reach ops ops.length j i = true := by
  have hi : look log i ≠ .none := fun e => by rw [e] at hc; cases hc
  have hj : look log j ≠ .none := fun e => by
    rw [e] at hc
    revert hc
    cases look log i <;> simp [Key.clash]
  have mi := look_mem hi
  have mj := look_mem hj
  unfold memOK at h
  simp only [Bool.or_eq_true, Bool.not_eq_true'] at h
  rcases h with h | h
  · rw [List.any_eq_false] at h
    have h1 := h _ mi
    have h2 := h _ mj
    simp only at h1 h2
    revert hc h1 h2
    cases look log i <;> cases look log j <;> simp [Key.clash, Key.writes, Key.sees]
  · rw [List.all_eq_true] at h
    have h1 := h _ mi
    rw [List.all_eq_true] at h1
    have h2 := h1 _ mj
    simp only [hij, hc, decide_true, Bool.not_true, Bool.false_or] at h2
    exact h2

/-- all of the first 'm' -/
def upTo (ops : List Oper) (m : Nat) : Array Bool := (List.replicate m true ++ List.replicate (ops.length - m) false).toArray

theorem upTo_get {m j : Nat} (hj : j < ops.length) (hm : m ≤ ops.length) (d : Bool) : (upTo ops m).getD j d = decide (j < m) := by
  unfold upTo
  rw [Array.getD_eq_getD_getElem?, List.getElem?_toArray]
  by_cases h : j < m
  · rw [List.getElem?_append_left (by simpa using h)]
    simp [h]
  · rw [List.getElem?_append_right (by simp; omega), List.getElem?_replicate, if_pos (by simp; omega)]
    simp [h]

theorem any_lex {κ : Nat → Key} {m : Nat} (hml : m ≤ ops.length) (hpost : ∀ (j : Nat) (oj : Oper), ops[j]? = some oj → m ≤ j → ∀ i, i < m → dirAfter oj i = true)
    (hm : ∀ i j, i < j → (κ i).clash (κ j) = true → reach ops ops.length j i = true) (hed : ∀ (k : Nat) (o : Oper), ops[k]? = some o → ∀ e ∈ o.after, Region.binds .any e = true → e.on < k) :
    ∀ (l : List Oper) (k : Nat) (listed : Array Bool) (S S' : St), (∀ j : Nat, j < l.length → l[j]? = ops[k + j]?) → k + l.length = m → lexL ops (appArgs ops) k l = true →
      (∀ j : Nat, j < ops.length → listed.getD j true = decide (j < k) ∧ listed.getD j false = decide (j < k)) → listed.size = ops.length → Logs K call ops κ k l S → runOps K call ops l S = some (.norm, S') →
      absAny K call ops κ (upTo ops m) l.length listed S S'
  | [], k, listed, S, S', _, hk, _, hpre, hsz, _, h => by
    simp [runOps] at h
    refine ⟨?_, h⟩
    simp at hk
    subst hk
    apply Array.ext
    · rw [hsz]; simp [upTo]; omega
    · intro i h1 h2
      have hi : i < ops.length := by rw [hsz] at h1; exact h1
      have e1 := (hpre i hi).1
      have e2 := upTo_get (ops := ops) hi hml true
      rw [← e2] at e1
      simpa [Array.getD_eq_getD_getElem?, h1, h2] using e1
  | o :: l, k, listed, S, S', hl, hk, hlex, hpre, hsz, hlog, h => by
    have hok : ops[k]? = some o := by simpa using (hl 0 (by simp)).symm
    have hlt : k < ops.length := (List.getElem?_eq_some_iff.1 hok).1
    have hkm : k < m := by simp at hk; omega
    simp only [lexL, Bool.and_eq_true] at hlex
    obtain ⟨⟨_, hfree⟩, hlex'⟩ := hlex
    unfold runOps at h
    split at h
    case h_2 => rename_i hne; exact (hne S' h).elim
    rename_i S1 h1
    have hclosed : Closed ops listed := fun j oj hoj hj e he hb => by
      have hjl : j < ops.length := (List.getElem?_eq_some_iff.1 hoj).1
      rw [(hpre j hjl).2] at hj
      have := hed j oj hoj e he hb
      rw [(hpre e.on (by omega)).2]
      simp at hj ⊢; omega
    have hready : k ∈ Region.ready .any ops.toArray listed := by
      rw [mem_ready]
      refine ⟨by rw [(hpre k hlt).1]; simp, o, by simpa using hok, fun e he hb => ?_⟩
      have := hed k o hok e he hb
      rw [(hpre e.on (by omega)).2]; simp; exact this
    have hdo : doOp K call ops κ k S S1 := by unfold doOp; rw [hok]; exact ⟨h1, hlog.1.symm⟩
    refine any_first (m := m) hok (fun j hj => by rw [upTo_get (by omega) hml]; simpa using hj) (fun j oj hoj hge => hpost j oj hoj hge k hkm) l.length listed S S1 S' hclosed (fun j oj hoj hne hun hnd => ?_) (fun j oj hoj hne hun hcl => ?_) hready hdo ?_
    · have hjl : j < ops.length := (List.getElem?_eq_some_iff.1 hoj).1
      rw [(hpre j hjl).1] at hun
      have hjk : k < j := by simp at hun; omega
      have hjm : j < m := by
        rcases Nat.lt_or_ge j m with h' | h'
        · exact h'
        · rw [hpost j oj hoj h' k hkm] at hnd; cases hnd
      have hmem : oj ∈ l := by
        have := hl (j - k) (by simp at hk ⊢; omega)
        rw [show k + (j - k) = j by omega, hoj] at this
        rw [show j - k = (j - k - 1) + 1 by omega] at this
        simp only [List.getElem?_cons_succ] at this
        exact List.mem_of_getElem? this
      have := List.all_eq_true.1 hfree oj hmem
      rw [hnd] at this
      simpa using this
    · have hjl : j < ops.length := (List.getElem?_eq_some_iff.1 hoj).1
      rw [(hpre j hjl).1] at hun
      exact hm k j (by simp at hun; omega) hcl
    · refine any_lex hml hpost hm hed l (k + 1) (listed.setIfInBounds k true) S1 S' (fun j hj => by have := hl (j + 1) (by simpa using hj); simpa [Nat.add_assoc, Nat.add_comm 1 j] using this) (by simp at hk ⊢; omega) hlex' (fun j hj => ?_) (by simpa using hsz) (hlog.2 S1 h1) h
      by_cases hjk : k = j
      · subst hjk
        simp [hsz, hlt]
      · rw [getD_set_ne _ hjk, getD_set_ne _ hjk, (hpre j hj).1, (hpre j hj).2]
        constructor <;> (congr 1; apply propext; omega)

/-- what is known of the program -/
structure Prog (K : Cfg) : Prop where
  mixed : K.P.follows .mixedOrders = true
  good : ∀ g, K.good g = true → ∃ fn c, K.P.funcs[g]? = some fn ∧ fn.name ≠ "runtime.NumGoroutine" ∧ fn.body = some c ∧ codeOK (K.hook g) c = true
  pr : ∀ f F args bxs x, K.good f = true → K.pr f = some F → F args bxs = some x → Contract K.P f args bxs (.ret x.1 x.2)

theorem FR.gr0 {G G' : Gh} {w w' : World} {S : St} {a : Act} (h : FR G w S a) (hw : WI G w) (g : Gr (fun _ => False) G w G' w') (hbb : G'.bb = G.bb) : FR G' w' S a :=
  ⟨h.size, fun t => (h.slot t).gr g (fun h => h), fun s l hl => (h.box s l hl).gr hw g (fun h => h) (fun _ h => h), fun s hs hlk => by rw [hbb]; exact h.nob s hs hlk⟩

theorem any_wp {κ : Nat → Key} {stop : Array Bool} (hs : Sound K call) (rest : Nat) : ∀ (fuel : Nat) (listed : Array Bool) (S S' : St) (G : Gh) (w : World) (a : Act), absAny K call ops κ stop fuel listed S S' → FR G w S a → WI G w →
    (∀ (i : Nat) (o : Oper) (S S1 : St), ops[i]? = some o → doOp K call ops κ i S S1 → (match o.op with | .store .. => o.dst.isNone | _ => true) = true) →
    (∀ a' w' G', Ext G w G' w' → WI G' w' → FR G' w' S' a' → a'.defers = a.defers → wpAny K.P .any ops.toArray Q rest stop a' w') → wpAny K.P .any ops.toArray Q (fuel + rest) listed a w
  | 0, listed, S, S', G, w, a, h, hf, hw, _, hQ => by
      obtain ⟨h1, h2⟩ := h
      subst h1; subst h2
      rw [Nat.zero_add]
      exact hQ a w G (.refl _ _) hw hf rfl
  | n + 1, listed, S, S', G, w, a, h, hf, hw, hst, hQ => by
    rw [show n + 1 + rest = (n + rest) + 1 by omega]
    refine ⟨fun h0 => absurd h0 h.1, fun i hi => ?_⟩
    obtain ⟨S1, hd, h2⟩ := h.2 i hi
    have hd0 := hd
    unfold doOp at hd
    unfold wpOp
    have ho : ops.toArray[i]? = ops[i]? := by simp
    rw [ho]
    cases hoi : ops[i]? with
    | none =>
      rw [hoi] at hd
      simp only at hd ⊢
      subst hd
      exact any_wp hs rest n _ S S' G w a h2 hf hw hst hQ
    | some o =>
      rw [hoi] at hd
      simp only at hd ⊢
      refine step_ok (r := (.norm, S1)) hs hd.1 hf hw (hst i o S S1 hoi hd0) _ fun a' w' G' hx hw' hf' hdf => ?_
      exact any_wp hs rest n _ S1 S' G' w' a' h2 hf' hw' hst fun a2 w2 G2 h3 h4 h5 h6 => hQ a2 w2 G2 (hx.trans h3) h4 h5 (h6.trans hdf)

theorem lex_edges : ∀ (l : List Oper) (k : Nat), (∀ j : Nat, l[j]? = ops[k + j]?) → lexL ops (appArgs ops) k l = true → ∀ (j : Nat) (o : Oper), k ≤ j → ops[j]? = some o → ∀ e ∈ o.after, Region.binds .any e = true → e.on < j
  | [], k, hl, _, j, o, hkj, ho => by
    have := hl (j - k)
    rw [show k + (j - k) = j by omega, ho] at this
    simp at this
  | x :: l, k, hl, hlex, j, o, hkj, ho => by
    simp only [lexL, Bool.and_eq_true] at hlex
    by_cases hjk : j = k
    · subst hjk
      have : x = o := by
        have := hl 0
        simp [ho] at this; exact this
      subst this
      intro e he hb
      have := List.all_eq_true.1 hlex.1.1 e (by simpa using he)
      rw [hb] at this
      simpa using this
    · exact lex_edges l (k + 1) (fun j => by have := hl (j + 1); simpa [Nat.add_assoc, Nat.add_comm 1 j] using this) hlex.2 j o (by omega) ho

theorem edgesOK_get : ∀ (l : List Oper) (k : Nat), edgesOK k l = true → ∀ (j : Nat) (o : Oper), l[j]? = some o → ∀ e ∈ o.after, Region.binds .any e = true → e.on < k + j
  | [], _, _, j, o, h => by simp at h
  | x :: l, k, h, j, o, ho => by
    simp only [edgesOK, Bool.and_eq_true] at h
    cases j with
    | zero =>
      simp at ho
      subst ho
      intro e he hb
      have := List.all_eq_true.1 h.1 e (by simpa using he)
      rw [hb] at this
      simpa using this
    | succ j =>
      have := edgesOK_get l (k + 1) h.2 j o (by simpa using ho)
      intro e he hb
      have := this e he hb
      omega

theorem push_ok (hs : Sound K call) (hm : K.P.follows .mixedOrders = true) {id : Nat} {opa : Array Oper} {S : St} {G : Gh} {w : World} {a : Act} {r : Out × St} (h : runPush K call opa.toList S = some r)
    (hok : pushOK opa.toList = true) (hf : FR G w S a) (hw : WI G w) (hp : Post G w a.defers r Q) : (Code.region id opa true).wp K.P Q a w := by
  obtain ⟨ops, hops⟩ : ∃ ops, opa.toList = ops := ⟨_, rfl⟩
  have hopa : opa = ops.toArray := by rw [← hops]
  rw [hops] at h hok
  unfold pushOK at hok
  simp only [Bool.and_eq_true, decide_eq_true_eq] at hok
  obtain ⟨⟨⟨⟨⟨h6, hsome⟩, hedge⟩, hst⟩, hlex⟩, htail⟩ := hok
  unfold runPush at h
  split at h
  case h_2 => cases h
  rename_i S1 x hpre hx
  rw [Option.map_eq_some_iff] at h
  obtain ⟨S', hend, rfl⟩ := h
  unfold runPre at hpre
  split at hpre
  case h_2 => cases hpre
  rename_i S1' h1
  split at hpre
  case isFalse => cases hpre
  rename_i hmem
  have hpre := Option.some.inj hpre
  subst hpre
  have htl : (ops.take (ops.length - 6)).length = ops.length - 6 := by simp
  have hup : upTo ops (ops.length - 6) = pushL (ops.length - 6) false 0 0 := by
    unfold upTo pushL
    rw [show ops.length - (ops.length - 6) = 6 by omega]
    rfl
  have hany := any_lex (κ := look (logOps K call ops 0 (ops.take (ops.length - 6)) S)) (m := ops.length - 6) (by omega) (fun j oj hoj hge i hi => by
      unfold tailOK at htail
      simp only [Bool.and_eq_true] at htail
      have h2 := List.all_eq_true.1 htail.1.1 oj (by
        have : (ops.drop (ops.length - 6))[j - (ops.length - 6)]? = some oj := by rw [List.getElem?_drop, show ops.length - 6 + (j - (ops.length - 6)) = j by omega]; exact hoj
        exact List.mem_of_getElem? this)
      exact List.all_eq_true.1 h2 i (List.mem_range.2 hi))
    (fun i j hij hc => memOK_reach hmem hij hc) (fun k o ho e he hb => by have := edgesOK_get ops 0 hedge k o ho e he hb; omega) (ops.take (ops.length - 6)) 0 (Array.replicate ops.length false) S S1'
    (fun j hj => by simp at hj; rw [List.getElem?_take, if_pos (by omega), Nat.zero_add]) (by rw [htl]; omega) hlex (fun j hj => by simp [hj]) (by simp) (logs_of _ _ _ _ _ h1 fun i _ => rfl) h1
  rw [hopa]
  refine wp_region_any hm ?_
  obtain ⟨gd, hwd⟩ := drew_gr hw
  have hfd := hf.gr0 hw gd rfl
  have := any_wp (Q := Q) hs 6 _ _ S S1' G w.drew a hany hfd hwd (fun i o S0 S2 hoi hdo => ?_) fun a' w' G' hx' hw' hf' hd => by
    rw [hup]
    refine tail_wp hx htail hend hf' hw' fun a2 w2 G2 hx2 hw2 hf2 hd2 => ?_
    exact hp a2 w2 G2 (gd.ext.trans (hx'.trans hx2)) hw2 hf2 (hd2.trans hd)
  · rw [htl, show ops.length - 6 + 6 = ops.length by omega] at this
    simpa using this
  · -- a store has no name
    by_cases hlt : i < ops.length - 6
    · exact List.all_eq_true.1 hst o (List.mem_of_getElem? (i := i) (by rw [List.getElem?_take, if_pos hlt]; exact hoi))
    · obtain ⟨A, I, W, N, F, H, hl, hA, hI, hW, hN, hF, hH, _⟩ := pushOf_inv hx
      have hmem : o ∈ [A, I, W, N, F, H] := by
        rw [← hl]
        have : (ops.drop (ops.length - 6))[i - (ops.length - 6)]? = some o := by rw [List.getElem?_drop, show ops.length - 6 + (i - (ops.length - 6)) = i by omega]; exact hoi
        exact List.mem_of_getElem? this
      simp only [List.mem_cons, List.not_mem_nil, or_false] at hmem
      rcases hmem with rfl | rfl | rfl | rfl | rfl | rfl
      · rw [(appOf_inv hA).1.choose_spec.1]
      · rw [(ixOf_inv hI).1]
      · rw [(stOf_inv hW).1, (stOf_inv hW).2.1]; rfl
      · rw [(ncOf_inv hN).1]
      · rw [(faOf_inv hF).1]
      · rw [(stOf_inv hH).1, (stOf_inv hH).2.1]; rfl

theorem region_ok (hs : Sound K call) (hm : K.P.follows .mixedOrders = true) {id : Nat} {opa : Array Oper} {draw : Bool} {S : St} {G : Gh} {w : World} {a : Act} {r : Out × St} (h : runRegion K call opa.toList draw S = some r)
    (hok : (storesOK opa.toList && (!draw || lexL opa.toList (appArgs opa.toList) 0 opa.toList)) = true) (hf : FR G w S a) (hw : WI G w) (hp : Post G w a.defers r Q) : (Code.region id opa draw).wp K.P Q a w := by
  simp only [Bool.and_eq_true] at hok
  unfold runRegion at h
  cases draw with
  | false =>
    rw [if_neg (by simp)] at h
    have := run_ok hs opa.toList h hf hw hok.1 hp
    rw [Array.toArray_toList] at this
    exact wp_region_list this
  | true =>
    rw [if_pos rfl] at h
    split at h
    case h_2 => cases h
    rename_i S1 h1
    split at h
    case isFalse => cases h
    rename_i hmem
    cases h
    have hlex : lexL opa.toList (appArgs opa.toList) 0 opa.toList = true := by simpa using hok.2
    have hed := lex_edges opa.toList 0 (fun j => by simp) hlex
    have hany := any_lex (κ := look (logOps K call opa.toList 0 opa.toList S)) (m := opa.toList.length) (Nat.le_refl _) (fun j oj hoj hge => by have := (List.getElem?_eq_some_iff.1 hoj).1; omega) (fun i j hij hc => memOK_reach hmem hij hc) (fun k o ho => hed k o (by omega) ho) opa.toList 0 (Array.replicate opa.size false) S S1
      (fun j _ => by simp) (by simp) hlex (fun j hj => by simp at hj; simp [hj]) (by simp) (logs_of _ _ _ _ _ h1 fun i _ => rfl) h1
    refine wp_region_any hm ?_
    obtain ⟨gd, hwd⟩ := drew_gr hw
    have hfd := hf.gr0 hw gd rfl
    have := any_wp (Q := Q) hs 0 _ _ S S1 G w.drew a hany hfd hwd (fun i o _ _ hoi _ => List.all_eq_true.1 hok.1 o (List.mem_of_getElem? hoi)) fun a' w' G' hx hw' hf' hd => by
      refine ⟨?_, hp a' w' G' (gd.ext.trans hx) hw' hf' hd⟩
      apply List.eq_nil_iff_forall_not_mem.2
      intro j hj
      obtain ⟨h1, o, ho, _⟩ := mem_ready.1 hj
      have hlt : j < opa.toList.length := by
        have := (Array.getElem?_eq_some_iff.1 ho).1
        simpa using this
      rw [upTo_get hlt (Nat.le_refl _)] at h1
      simp at h1; simp at hlt; omega
    rw [Array.toArray_toList] at this
    simpa using this

/-! ### The head of a loop -/

theorem keepSlots_get (bs : List Nat) (sl : Nat → AV) : ∀ (l : List Nat) (t : Nat), keepSlots bs sl l t = if t ∈ l then (sl t).live bs else .c .top
  | [], t => by simp [keepSlots, bot]
  | k :: l, t => by
    show upd (keepSlots bs sl l) k ((sl k).live bs) t = _
    unfold upd
    by_cases h : t = k
    · subst h; simp
    · rw [if_neg h, keepSlots_get bs sl l t]; simp [h]

theorem keepBoxes_get (all : List Nat) (bx : Nat → Option (List CV)) : ∀ (l : List Nat) (t : Nat), keepBoxes all bx l t = if t ∈ l then (bx t).map (List.map (CV.live all)) else none
  | [], t => by simp [keepBoxes, nobox]
  | k :: l, t => by
    show upd (keepBoxes all bx l) k ((bx k).map (List.map (CV.live all))) t = _
    unfold upd
    by_cases h : t = k
    · subst h; simp
    · rw [if_neg h, keepBoxes_get all bx l t]; simp [h]

def Gh.drop (G : Gh) (bs : List Nat) : Gh := { G with bb := fun s => if LK ≤ s ∨ s ∈ bs then G.bb s else none }

theorem RN.liveIn {G : Gh} {bs : List Nat} {v : CV} {x : Value} (h : RN G v x) : RN (G.drop bs) (v.liveIn bs) x := by
  have hone := h.one
  cases v with
  | loc s o =>
    obtain ⟨b, h1, h2⟩ := h
    simp only [CV.liveIn]
    split
    · rename_i hc
      refine ⟨b, ?_, h2⟩
      show (if LK ≤ s ∨ s ∈ bs then G.bb s else none) = _
      rw [if_pos (.inr (by simpa using hc))]; exact h1
    · exact hone
  | fn f caps =>
    obtain ⟨vs, h1, h2⟩ := h
    simp only [CV.liveIn]
    split
    · rename_i hc
      refine ⟨vs, h1, h2.imp fun c y hcm ⟨b, h3, h4⟩ => ⟨b, ?_, h4⟩⟩
      show (if LK ≤ c.1 ∨ c.1 ∈ bs then G.bb c.1 else none) = _
      have := List.all_eq_true.1 hc c hcm
      rw [if_pos (.inr (by simpa using this))]; exact h3
    · exact hone
  | _ => exact h

theorem RC.live {G : Gh} {w : World} {ℓ : Own} {bs : List Nat} {v : CV} {x : Value} (h : RC G w ℓ v x) : RC (G.drop bs) w ℓ (v.live bs) x := by
  cases v with
  | nils =>
    have e : x = .slice none 0 0 := h
    exact .inl ⟨rfl, none, e, .inl rfl⟩
  | own e c => exact h
  | iter s pos => exact h
  | loc s o => exact .of_RN (RN.liveIn (bs := bs) (v := .loc s o) h)
  | fn f caps => exact .of_RN (RN.liveIn (bs := bs) (v := .fn f caps) h)
  | top => exact h
  | pv p => exact h
  | nilp => exact h
  | cptr l => exact h
  | bld => exact h

theorem head_ok {kp : List Nat × List Nat} {S : St} {G : Gh} {w : World} {a : Act} (hf : FR G w S a) (hw : WI G w) : ∃ G', Ext G w G' w ∧ WI G' w ∧ FR G' w (head kp S) a := by
  refine ⟨G.drop kp.2, ⟨fun _ _ _ h => h, fun b _ h => ⟨h, rfl, fun _ => rfl⟩, Nat.le_refl _, rfl, rfl, rfl, fun k hk => ?_⟩, ⟨hw.cell, hw.fresh, hw.boxI, fun s b hb => ?_, hw.tab.map fun _ _ h => ⟨h, rfl⟩⟩, ⟨hf.size, fun t => ?_, fun s l hl => ?_, fun s hs hlk => ?_⟩⟩
  · show (if LK ≤ k ∨ k ∈ kp.2 then G.bb k else none) = _
    rw [if_pos (.inl hk)]
  · have hb' : (if LK ≤ s ∨ s ∈ kp.2 then G.bb s else none) = some b := hb
    split at hb'
    · exact hw.bbow s b hb'
    · cases hb'
  · show RA _ _ _ (keepSlots kp.2 S.sl kp.1 t) _
    rw [keepSlots_get]
    split
    · have hs := hf.slot t
      cases hv : S.sl t with
      | c v =>
        rw [hv] at hs
        by_cases ht : v = .top
        · subst ht; exact trivial
        · exact .of_RC ((hs.toRC ht).live)
      | agg l =>
        rw [hv] at hs
        obtain ⟨vs, h1, h2⟩ := hs
        exact ⟨vs, h1, All2.map_left (h2.imp fun _ _ _ h => h.liveIn)⟩
      | tup l => exact trivial
    · exact trivial
  · have hl' : keepBoxes kp.2 S.bx kp.2 s = some l := hl
    rw [keepBoxes_get] at hl'
    split at hl'
    case isFalse => cases hl'
    rename_i hmem
    rw [Option.map_eq_some_iff] at hl'
    obtain ⟨l0, hl0, rfl⟩ := hl'
    obtain ⟨b, cs, ty, h1, h2, h3, h4⟩ := hf.box s l0 hl0
    refine ⟨b, cs, ty, ?_, h2, ⟨by simpa using h3.1, h3.2.map (fun v e => by cases v <;> simp only [CV.live] at e <;> (try split at e) <;> first | rfl | cases e)⟩, fun k v hv => ?_⟩
    · show (if LK ≤ s ∨ s ∈ kp.2 then G.bb s else none) = _
      rw [if_pos (.inr hmem)]; exact h1
    · rw [List.getElem?_map, Option.map_eq_some_iff] at hv
      obtain ⟨v0, hv0, rfl⟩ := hv
      obtain ⟨x, h5, h6⟩ := h4 k v0 hv0
      exact ⟨x, h5, h6.live⟩
  · have hs' : keepBoxes kp.2 S.bx kp.2 s = none := hs
    rw [keepBoxes_get] at hs'
    show (if LK ≤ s ∨ s ∈ kp.2 then G.bb s else none) = none
    by_cases hmem : s ∈ kp.2
    · rw [if_pos hmem] at hs'
      rw [if_pos (.inr hmem)]
      exact hf.nob s (by simpa using hs') hlk
    · rw [if_neg (fun h => h.elim (fun h => by omega) hmem)]

/-! ### Code -/

theorem code_ok (hs : Sound K call) (hm : K.P.follows .mixedOrders = true) (n : Nat) (f : FuncId) : ∀ (c : Code) {Q : Exit → Act → World → Prop} {S : St} {G : Gh} {w : World} {a : Act} {r : Out × St}, execN K call n f c S = some r → codeOK (K.hook f) c = true →
    FR G w S a → WI G w → Post G w a.defers r Q → c.wp K.P Q a w := by
  intro c
  induction c with
  | skip =>
    intro Q S G w a r h _ hf hw hp
    simp [execN] at h; subst h
    exact wp_skip (hp a w G (.refl _ _) hw hf rfl)
  | region id ops draw =>
    intro Q S G w a r h hok hf hw hp
    unfold execN at h
    unfold codeOK at hok
    by_cases hk : K.hook f id = true
    · rw [if_pos hk] at h hok
      simp only [Bool.and_eq_true] at hok
      rw [hok.1]
      exact push_ok hs hm h hok.2 hf hw hp
    · rw [if_neg hk] at h hok
      exact region_ok hs hm h hok hf hw hp
  | seq x y ihx ihy =>
    intro Q S G w a r h hok hf hw hp
    simp only [codeOK, Bool.and_eq_true] at hok
    unfold execN at h
    split at h
    · rename_i S1 h1
      refine wp_seq (ihx h1 hok.1 hf hw fun a' w' G' hx hw' hf' hd => ?_)
      exact ihy h hok.2 hf' hw' (by rw [hd]; exact hp.ext hx)
    · rename_i hne
      refine wp_seq (ihx h hok.1 hf hw fun a' w' G' hx hw' hf' hd => ?_)
      have := hp a' w' G' hx hw' hf' hd
      obtain ⟨o, S1⟩ := r
      cases o with
      | norm => exact (hne S1 h).elim
      | _ => exact this
  | cond cnd x y ihx ihy =>
    intro Q S G w a r h hok hf hw hp
    simp only [codeOK, Bool.and_eq_true] at hok
    unfold execN at h
    split at h
    · rename_i t ht
      have hc := hf.opd cnd
      rw [ht] at hc
      have hcv := hc.boolv
      split at h
      · rename_i e; subst e; exact wp_cond_true hcv (ihx h hok.1 hf hw hp)
      · rename_i e
        have : t = false := by simpa using e
        subst this
        exact wp_cond_false hcv (ihy h hok.2 hf hw hp)
    · cases h
  | block id c ih =>
    intro Q S G w a r h hok hf hw hp
    simp only [codeOK] at hok
    unfold execN at h
    split at h
    · rename_i i S1 h1
      refine wp_block (ih h1 hok hf hw fun a' w' G' hx hw' hf' hd => ?_)
      show Exit.inBlock id Q (.exit i) a' w'
      unfold Exit.inBlock
      split at h
      · rename_i e
        cases h
        simp only [e, if_true]
        exact hp a' w' G' hx hw' hf' hd
      · rename_i e
        cases h
        simp only [e, if_false]
        exact hp a' w' G' hx hw' hf' hd
    · rename_i hne
      refine wp_block (ih h hok hf hw fun a' w' G' hx hw' hf' hd => ?_)
      have := hp a' w' G' hx hw' hf' hd
      obtain ⟨o, S1⟩ := r
      cases o with
      | exit i => exact (hne i S1 h).elim
      | _ => exact this
  | scope c ih =>
    intro Q S G w a r h hok hf hw hp
    simp only [codeOK] at hok
    unfold execN at h
    refine wp_scope_straight (ih h hok hf hw fun a' w' G' hx hw' hf' hd => ?_)
    have := hp a' w' G' hx hw' hf' hd
    obtain ⟨o, S1⟩ := r
    cases o <;> exact this
  | loop c ih =>
    intro Q S G w a r h hok hf hw hp
    simp only [codeOK] at hok
    unfold execN at h
    refine wp_loop_rounds n ?_
    have key : ∀ (m : Nat) {S : St} {G : Gh} {w : World} {a : Act} {r : Out × St}, iter (execN K call n f c) (K.keep f ((firstReg c).getD 0)) m S = some r → FR G w S a → WI G w → Post G w a.defers r Q → Code.rounds K.P c Q m a w := by
      intro m
      induction m with
      | zero => intro S G w a r h _ _ _; cases h
      | succ m ihm =>
        intro S G w a r h hf hw hp
        rw [rounds_succ]
        obtain ⟨G', hx0, hw0, hf0⟩ := head_ok (kp := K.keep f ((firstReg c).getD 0)) hf hw
        unfold iter at h
        split at h
        · rename_i S1 h1
          refine ih h1 hok hf0 hw0 fun a' w' G2 hx hw' hf' hd => ?_
          exact ihm h hf' hw' (by rw [hd]; exact hp.ext (hx0.trans hx))
        · rename_i hne
          refine ih h hok hf0 hw0 fun a' w' G2 hx hw' hf' hd => ?_
          have := hp a' w' G2 (hx0.trans hx) hw' hf' hd
          obtain ⟨o, S1⟩ := r
          cases o with
          | norm => exact (hne S1 h).elim
          | _ => exact this
    exact key n h hf hw hp
  | exit id =>
    intro Q S G w a r h _ hf hw hp
    simp [execN] at h; subst h
    exact wp_exit (hp a w G (.refl _ _) hw hf rfl)
  | ret =>
    intro Q S G w a r h _ hf hw hp
    simp [execN] at h; subst h
    exact wp_ret (hp a w G (.refl _ _) hw hf rfl)
  | _ => intro Q S G w a r h; simp [execN] at h
end
end Go.Abs
