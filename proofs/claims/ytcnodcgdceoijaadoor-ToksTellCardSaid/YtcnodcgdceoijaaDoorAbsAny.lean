/-
  THE ABSTRACT INTERPRETER: two operations that are apart may come in either order; so every order that the tape may pick comes to the same.
-/
import Derived.Test.YtcnodcgdceoijaaDoorAbsDraw
set_option linter.unusedSimpArgs false
set_option linter.unusedVariables false
namespace Go.Abs
open Go

section
variable {K : Cfg} {call : CallF} {S S' S1 S2 : St} {o oi oj : Oper} {ops : List Oper} {apps : List Nat}

theorem mem_looksAt {x : Operand} {t : Nat} (hx : x ∈ o.op.operands) (ht : x = .tmp t) : t ∈ o.looksAt ops.toArray := by
  subst ht
  exact List.mem_append_left _ (List.mem_filterMap.2 ⟨.tmp t, by simpa using hx, rfl⟩)

theorem opd_congr {sl sl' : Nat → AV} (h : ∀ t ∈ o.looksAt ops.toArray, sl t = sl' t) : ∀ x ∈ o.op.operands, opd sl x = opd sl' x := fun x hx => by
  cases x with
  | tmp t => exact h t (mem_looksAt hx rfl)
  | const v => rfl
  | func f => rfl
  | global g => rfl

theorem guardA_congr (h : ∀ t ∈ o.looksAt ops.toArray, S.sl t = S'.sl t) : guardA ops S o = guardA ops S' o := by
  unfold guardA
  cases hg : o.guard with
  | none => rfl
  | some gw =>
    obtain ⟨j, want⟩ := gw
    simp only
    cases hd : (ops[j]?).bind (·.dst) with
    | none => rfl
    | some d =>
      have : d ∈ o.looksAt ops.toArray := by
        unfold Oper.looksAt
        refine List.mem_append_right _ ?_
        have hj : ops.toArray[j]? = ops[j]? := by simp
        rw [hg]; simp only [hj, hd]; simp
      simp only [h d this]

theorem curKey_congr (h : ∀ t ∈ o.looksAt ops.toArray, S.sl t = S'.sl t) : curKey ops o S = curKey ops o S' := by
  unfold curKey
  rw [guardA_congr h]
  split
  · rw [opKey_congr (opd_congr h)]
    exact opKey_bx
  · rfl

theorem delta_congr (h : ∀ t ∈ o.looksAt ops.toArray, S.sl t = S'.sl t) (hb : alikeAt (curKey ops o S) S.bx S'.bx) : delta K call ops o S = delta K call ops o S' := by
  unfold delta
  unfold curKey at hb
  rw [guardA_congr h] at hb ⊢
  split
  · rfl
  · rfl
  · rename_i hg
    rw [hg] at hb
    simp only at hb
    rw [absOp_bx hb]
    rw [absOp_congr (opd_congr h)]

/-- the boxes written fit the key -/
def KW (k : Key) (f : Nat → Option (List CV)) (bs : List (Nat × List CV)) : Prop := ∀ x ∈ bs, match k with
  | .none | .rd _ => False
  | .tk s => x.1 = s ∧ degEq (f s) (some x.2)
  | .wr s => x.1 = s
  | .lend l => x.1 ∈ l
  | .all => True

theorem delta_writes {v : AV} {dg : Option Nat} {bs : List (Nat × List CV)} (h : delta K call ops o S = some (.val v dg bs)) :
    (∀ u, dg = some u → u ∈ stealSrc (appArgs ops) o) ∧ KW (curKey ops o S) S.bx bs := by
  unfold delta at h
  unfold curKey
  split at h
  · cases h
  · rename_i hg
    cases h
    rw [hg]
    exact ⟨fun u hu => (by cases hu), fun x hx => by simp at hx⟩
  · rename_i hg
    rw [hg]
    obtain ⟨h1, h2⟩ := absOp_writes h
    refine ⟨h1, fun x hx => ?_⟩
    simp only
    cases hk : opKey (appArgs ops) S.bx (opd S.sl) o with
    | none => rw [hk] at h2; simp only at h2; subst h2; simp at hx
    | rd s => rw [hk] at h2; simp only at h2; subst h2; simp at hx
    | tk s => rw [hk] at h2; exact h2 x hx
    | wr s => rw [hk] at h2; exact h2 x hx
    | lend l => rw [hk] at h2; exact h2 x hx
    | all => exact trivial

theorem app_inv {dst : Option Nat} {v : AV} {dg : Option Nat} {bs : List (Nat × List CV)} (h : app S dst v dg bs = some S1) :
    S1.nt = S.nt ∧ S1.bx = setBoxes S.bx bs ∧ (∀ d, dst = some d → d < S.nt) ∧ ∀ t, S1.sl t = if dst = some t then v else if dg = some t then (S.sl t).gv else S.sl t := by
  unfold app at h
  have key : ∀ sl : Nat → AV, (∀ t, sl t = if dg = some t then (S.sl t).gv else S.sl t) → ({ sl := sl, bx := setBoxes S.bx bs, nt := S.nt } : St).put dst v = some S1 →
      S1.nt = S.nt ∧ S1.bx = setBoxes S.bx bs ∧ (∀ d, dst = some d → d < S.nt) ∧ ∀ t, S1.sl t = if dst = some t then v else if dg = some t then (S.sl t).gv else S.sl t := fun sl hsl hp => by
    unfold St.put at hp
    cases dst with
    | none =>
      simp at hp; subst hp
      exact ⟨rfl, rfl, fun d e => (by cases e), fun t => by simp [hsl t]⟩
    | some d =>
      simp only at hp
      split at hp
      case isFalse => cases hp
      rename_i hd
      simp at hp; subst hp
      refine ⟨rfl, rfl, fun d' e => by cases e; exact hd, fun t => ?_⟩
      show upd sl d v t = _
      unfold upd
      by_cases ht : t = d
      · subst ht; simp
      · rw [if_neg ht, if_neg (fun e => ht (by simpa using e.symm)), hsl t]
  cases dg with
  | none => exact key S.sl (fun t => by simp) h
  | some u =>
    refine key (upd S.sl u (S.sl u).gv) (fun t => ?_) h
    unfold upd
    by_cases ht : t = u
    · subst ht; simp
    · rw [if_neg ht, if_neg (fun e => ht (by simpa using e.symm))]

theorem app_mk {dst : Option Nat} {v : AV} {dg : Option Nat} {bs : List (Nat × List CV)} (hd : ∀ d, dst = some d → d < S.nt) : ∃ S1, app S dst v dg bs = some S1 := by
  unfold app
  cases dst with
  | none => exact ⟨_, rfl⟩
  | some d =>
    have := hd d rfl
    cases dg <;> simp [St.degAt, St.put, this]

theorem St.ext' {A B : St} (h1 : A.nt = B.nt) (h2 : A.bx = B.bx) (h3 : ∀ t, A.sl t = B.sl t) : A = B := by
  cases A; cases B
  simp only at h1 h2 h3
  subst h1; subst h2
  congr 1
  exact funext h3

theorem setBoxes_other {bs : List (Nat × List CV)} : ∀ {f : Nat → Option (List CV)} {s : Nat}, (∀ x ∈ bs, x.1 ≠ s) → setBoxes f bs s = f s := by
  induction bs with
  | nil => intro f s _; rfl
  | cons x bs ih =>
    intro f s h
    obtain ⟨k, c⟩ := x
    show setBoxes (upd f k (some c)) bs s = f s
    rw [ih fun y hy => h y (by simp [hy])]
    unfold upd
    rw [if_neg (fun e => h (k, c) (by simp) e.symm)]

theorem setBoxes_val {bs : List (Nat × List CV)} : ∀ {f g : Nat → Option (List CV)} {s : Nat}, f s = g s → setBoxes f bs s = setBoxes g bs s := by
  induction bs with
  | nil => intro f g s h; exact h
  | cons x bs ih =>
    intro f g s h
    obtain ⟨k, c⟩ := x
    show setBoxes (upd f k (some c)) bs s = setBoxes (upd g k (some c)) bs s
    apply ih
    unfold upd
    split
    · rfl
    · exact h

theorem setBoxes_comm {b1 b2 : List (Nat × List CV)} (h : ∀ x ∈ b1, ∀ y ∈ b2, x.1 ≠ y.1) (f : Nat → Option (List CV)) : setBoxes (setBoxes f b1) b2 = setBoxes (setBoxes f b2) b1 := by
  funext s
  by_cases h1 : ∃ x ∈ b1, x.1 = s
  · obtain ⟨x, hx, rfl⟩ := h1
    rw [setBoxes_other (f := setBoxes f b1) fun y hy e => h x hx y hy e.symm]
    apply setBoxes_val
    rw [setBoxes_other fun y hy e => h x hx y hy e.symm]
  · have h1' : ∀ x ∈ b1, x.1 ≠ s := fun x hx e => h1 ⟨x, hx, e⟩
    rw [setBoxes_other (f := setBoxes f b2) h1']
    apply setBoxes_val
    rw [setBoxes_other h1']

theorem apart2_inv (h : apart2 ops apps oi oj = true) : (∀ d ∈ wrSlots apps oi, d ∉ oj.looksAt ops.toArray ∧ d ∉ wrSlots apps oj) ∧ ∀ d ∈ wrSlots apps oj, d ∉ oi.looksAt ops.toArray := by
  unfold apart2 at h
  simp only [Bool.and_eq_true, List.all_eq_true] at h
  exact ⟨fun d hd => by simpa using h.1 d hd, fun d hd => by simpa using h.2 d hd⟩

/-- an operation, with the box that it touches given -/
def doOp (K : Cfg) (call : CallF) (ops : List Oper) (κ : Nat → Key) (i : Nat) (S S1 : St) : Prop :=
  match ops[i]? with
  | none => S = S1
  | some o => stepOp K call ops o S = some (.norm, S1) ∧ curKey ops o S = κ i

theorem setBoxes_deg {bs : List (Nat × List CV)} {s : Nat} : ∀ {f : Nat → Option (List CV)}, (∀ x ∈ bs, x.1 = s ∧ degEq (f s) (some x.2)) → degEq (f s) (setBoxes f bs s) := by
  induction bs with
  | nil => intro f _; exact rfl
  | cons x bs ih =>
    intro f h
    obtain ⟨k, c⟩ := x
    have h0 := h (k, c) (by simp)
    simp only at h0
    obtain ⟨rfl, h0⟩ := h0
    show degEq (f k) (setBoxes (upd f k (some c)) bs k)
    have hu : upd f k (some c) k = some c := by simp [upd]
    have h1 : degEq (upd f k (some c) k) (setBoxes (upd f k (some c)) bs k) := ih fun y hy => ⟨(h y (by simp [hy])).1, by
      rw [hu]
      have := (h y (by simp [hy])).2
      unfold degEq at this h0 ⊢
      rw [← h0]; exact this⟩
    rw [hu] at h1
    unfold degEq at h0 h1 ⊢
    rw [h0]; exact h1

/-- what a key writes at most -/
def KN (k : Key) (s : Nat) : Prop := match k with
  | .none | .rd _ => False
  | .tk t | .wr t => s = t
  | .lend l => s ∈ l
  | .all => True

theorem KW.names {k : Key} {f : Nat → Option (List CV)} {bs : List (Nat × List CV)} (h : KW k f bs) : ∀ x ∈ bs, KN k x.1 := fun x hx => by
  have := h x hx
  cases k <;> first | exact this | exact this.1

theorem clash_names {ki kj : Key} (hc : ki.clash kj = false) {s t : Nat} (hi : KN ki s) (hj : KN kj t) : s ≠ t := by
  intro e
  subst e
  cases ki <;> cases kj <;> simp only [KN] at hi hj <;> simp [Key.clash, Key.sees] at hc <;> first
    | exact hc (hi.symm.trans hj)
    | exact hc (hj.symm.trans hi)
    | exact hc _ hj hi.symm
    | exact hc _ hi hj.symm
    | exact hc _ hj hi
    | exact hc _ hi hj
    | (subst hi; exact hc _ hj rfl)
    | (subst hj; exact hc _ hi rfl)

theorem key_alike {ki kj : Key} {bi : List (Nat × List CV)} {f : Nat → Option (List CV)} (hc : ki.clash kj = false) (hi : KW ki f bi) : alikeAt kj f (setBoxes f bi) := by
  have other : ∀ s, (∀ t, KN ki t → t ≠ s) → f s = setBoxes f bi s := fun s hs => by
    rw [setBoxes_other fun x hx => hs x.1 (hi.names x hx)]
  cases kj with
  | none => exact trivial
  | rd s =>
    by_cases htk : ∃ t, ki = .tk t
    · obtain ⟨t, rfl⟩ := htk
      by_cases hts : t = s
      · subst hts
        exact setBoxes_deg hi
      · show degEq (f s) (setBoxes f bi s)
        rw [other s fun u hu e => hts (by rw [← e]; exact hu.symm)]
        exact rfl
    · show degEq (f s) (setBoxes f bi s)
      rw [other s fun u hu e => ?_]
      · exact rfl
      · subst e
        cases ki <;> simp only [KN] at hu <;> simp [Key.clash, Key.sees] at hc
        · exact htk ⟨_, rfl⟩
        · first | exact hc hu.symm | exact hc hu
        · exact hc _ hu rfl
  | tk s => exact other s fun t ht => clash_names hc ht (show KN (.tk s) s from rfl)
  | wr s => exact other s fun t ht => clash_names hc ht (show KN (.wr s) s from rfl)
  | lend l => exact fun s hs => other s fun t ht => clash_names hc ht (show KN (.lend l) s from hs)
  | all =>
    have : bi = [] := by
      cases bi with
      | nil => rfl
      | cons x bi =>
        have := hi x (by simp)
        cases ki <;> simp_all [Key.clash]
    subst this
    exact rfl

theorem clash_comm (ki kj : Key) : ki.clash kj = kj.clash ki := by
  cases ki <;> cases kj <;> simp [Key.clash, Key.sees, Bool.beq_comm]
  rw [Bool.eq_iff_iff]
  simp only [List.any_eq_true, Key.sees, List.contains_iff_mem]
  exact ⟨fun ⟨x, h1, h2⟩ => ⟨x, h2, h1⟩, fun ⟨x, h1, h2⟩ => ⟨x, h2, h1⟩⟩

/-- EITHER ORDER. -/
theorem commute {κ : Nat → Key} {i j : Nat} (hoi : ops[i]? = some oi) (hoj : ops[j]? = some oj) (hap : apart2 ops (appArgs ops) oi oj = true) (hk : (κ i).clash (κ j) = false)
    (h1 : doOp K call ops κ i S S1) (h2 : doOp K call ops κ j S1 S2) : ∃ S1', doOp K call ops κ j S S1' ∧ doOp K call ops κ i S1' S2 := by
  unfold doOp at h1 h2
  rw [hoi] at h1
  rw [hoj] at h2
  obtain ⟨h1, hk1⟩ := h1
  obtain ⟨h2, hk2⟩ := h2
  obtain ⟨vi, di, bi, hdi, hai⟩ := stepOp_norm.1 h1
  obtain ⟨vj, dj, bj, hdj, haj⟩ := stepOp_norm.1 h2
  obtain ⟨hsi, hbi⟩ := delta_writes hdi
  obtain ⟨hsj, hbj⟩ := delta_writes hdj
  rw [hk1] at hbi
  rw [hk2] at hbj
  have hx : ∀ x ∈ bi, ∀ y ∈ bj, x.1 ≠ y.1 := fun x hx y hy => clash_names hk (hbi.names x hx) (hbj.names y hy)
  obtain ⟨hw1, hw2⟩ := apart2_inv hap
  obtain ⟨n1, x1, l1, s1⟩ := app_inv hai
  obtain ⟨n2, x2, l2, s2⟩ := app_inv haj
  have wi : ∀ t, oi.dst = some t ∨ di = some t → t ∈ wrSlots (appArgs ops) oi := fun t ht => by
    unfold wrSlots
    rcases ht with ht | ht
    · exact List.mem_append_left _ (by simp [ht])
    · exact List.mem_append_right _ (hsi t ht)
  have wj : ∀ t, oj.dst = some t ∨ dj = some t → t ∈ wrSlots (appArgs ops) oj := fun t ht => by
    unfold wrSlots
    rcases ht with ht | ht
    · exact List.mem_append_left _ (by simp [ht])
    · exact List.mem_append_right _ (hsj t ht)
  -- 'j' sees the same before 'i'
  have look1 : ∀ t ∈ oj.looksAt ops.toArray, S.sl t = S1.sl t := fun t ht => by
    rw [s1 t, if_neg (fun e => (hw1 t (wi t (.inl e))).1 ht), if_neg (fun e => (hw1 t (wi t (.inr e))).1 ht)]
  have hkey : curKey ops oj S = κ j := by rw [curKey_congr look1]; exact hk2
  have hdj' : delta K call ops oj S = some (.val vj dj bj) := by
    rw [delta_congr look1 (by rw [hkey, x1]; exact key_alike hk hbi)]; exact hdj
  have hbj' := (delta_writes hdj').2
  rw [hkey] at hbj'
  obtain ⟨S1', ha'⟩ := app_mk (S := S) (dst := oj.dst) (v := vj) (dg := dj) (bs := bj) (fun d hd => by rw [← n1]; exact l2 d hd)
  obtain ⟨n3, x3, l3, s3⟩ := app_inv ha'
  have look2 : ∀ t ∈ oi.looksAt ops.toArray, S.sl t = S1'.sl t := fun t ht => by
    rw [s3 t, if_neg (fun e => hw2 t (wj t (.inl e)) ht), if_neg (fun e => hw2 t (wj t (.inr e)) ht)]
  have hkey2 : curKey ops oi S1' = κ i := by rw [← curKey_congr look2]; exact hk1
  have hdi' : delta K call ops oi S1' = some (.val vi di bi) := by
    rw [← delta_congr look2 (by rw [hk1, x3]; exact key_alike (by rw [clash_comm]; exact hk) hbj')]; exact hdi
  obtain ⟨S2', ha2⟩ := app_mk (S := S1') (dst := oi.dst) (v := vi) (dg := di) (bs := bi) (fun d hd => by rw [n3]; exact l1 d hd)
  obtain ⟨n4, x4, l4, s4⟩ := app_inv ha2
  have heq : S2' = S2 := by
    refine St.ext' (by rw [n4, n3, n2, n1]) (by rw [x4, x3, x2, x1]; exact setBoxes_comm (fun x hx' y hy e => hx y hy x hx' e.symm) _) fun t => ?_
    rw [s4 t, s3 t, s2 t, s1 t]
    have e1 : oi.dst = some t → ¬ oj.dst = some t ∧ ¬ dj = some t := fun e => ⟨fun e' => (hw1 t (wi t (.inl e))).2 (wj t (.inl e')), fun e' => (hw1 t (wi t (.inl e))).2 (wj t (.inr e'))⟩
    have e2 : di = some t → ¬ oj.dst = some t ∧ ¬ dj = some t := fun e => ⟨fun e' => (hw1 t (wi t (.inr e))).2 (wj t (.inl e')), fun e' => (hw1 t (wi t (.inr e))).2 (wj t (.inr e'))⟩
    by_cases c1 : oi.dst = some t
    · obtain ⟨c2, c3⟩ := e1 c1
      rw [if_pos c1, if_neg c2, if_neg c3, if_pos c1]
    · rw [if_neg c1]
      by_cases c4 : di = some t
      · obtain ⟨c2, c3⟩ := e2 c4
        rw [if_pos c4, if_neg c2, if_neg c3, if_neg c2, if_neg c3, if_neg c1, if_pos c4]
      · rw [if_neg c4, if_neg c1, if_neg c4]
  subst heq
  refine ⟨S1', ?_, ?_⟩
  · unfold doOp; rw [hoj]; exact ⟨stepOp_norm.2 ⟨vj, dj, bj, hdj', ha'⟩, hkey⟩
  · unfold doOp; rw [hoi]; exact ⟨stepOp_norm.2 ⟨vi, di, bi, hdi', ha2⟩, hkey2⟩

/-- whatever order is picked from here on, till all of 'stop' are listed: it comes to this -/
def absAny (K : Cfg) (call : CallF) (ops : List Oper) (κ : Nat → Key) (stop : Array Bool) : Nat → Array Bool → St → St → Prop
  | 0, listed, S, S' => listed = stop ∧ S = S'
  | n + 1, listed, S, S' =>
    Region.ready .any ops.toArray listed ≠ [] ∧ ∀ i ∈ Region.ready .any ops.toArray listed, ∃ S1, doOp K call ops κ i S S1 ∧ absAny K call ops κ stop n (listed.setIfInBounds i true) S1 S'

def Closed (ops : List Oper) (listed : Array Bool) : Prop :=
  ∀ (k : Nat) (o : Oper), ops[k]? = some o → listed.getD k false = true → ∀ e ∈ o.after, Region.binds .any e = true → listed.getD e.on false = true

theorem reach_listed {listed : Array Bool} (hc : Closed ops listed) : ∀ (n j i : Nat), listed.getD j false = true → reach ops n j i = true → listed.getD i false = true
  | 0, _, _, _, h => by cases h
  | n + 1, j, i, hj, h => by
    unfold reach at h
    cases ho : ops[j]? with
    | none => rw [ho] at h; cases h
    | some o =>
      rw [ho] at h
      simp only [Bool.or_eq_true] at h
      rcases h with h | h
      · unfold dirAfter at h
        rw [List.any_eq_true] at h
        obtain ⟨e, he, h2⟩ := h
        simp only [Bool.and_eq_true, beq_iff_eq] at h2
        have := hc j o ho hj e (by simpa using he) h2.1
        rw [h2.2] at this; exact this
      · rw [List.any_eq_true] at h
        obtain ⟨e, he, h2⟩ := h
        simp only [Bool.and_eq_true] at h2
        exact reach_listed hc n e.on i (hc j o ho hj e (by simpa using he) h2.1) h2.2

theorem reach_ready {listed : Array Bool} (hc : Closed ops listed) {n j i : Nat} (hj : j ∈ Region.ready .any ops.toArray listed) (h : reach ops n j i = true) : listed.getD i false = true := by
  obtain ⟨_, o, ho, hall⟩ := mem_ready.1 hj
  have ho' : ops[j]? = some o := by simpa using ho
  cases n with
  | zero => cases h
  | succ n =>
    unfold reach at h
    rw [ho'] at h
    simp only [Bool.or_eq_true] at h
    rcases h with h | h
    · unfold dirAfter at h
      rw [List.any_eq_true] at h
      obtain ⟨e, he, h2⟩ := h
      simp only [Bool.and_eq_true, beq_iff_eq] at h2
      have := hall e (by simpa using he) h2.1
      rw [h2.2] at this; exact this
    · rw [List.any_eq_true] at h
      obtain ⟨e, he, h2⟩ := h
      simp only [Bool.and_eq_true] at h2
      exact reach_listed hc n e.on i (hall e (by simpa using he) h2.1) h2.2

theorem closed_set {listed : Array Bool} (hc : Closed ops listed) {j : Nat} (hj : j ∈ Region.ready .any ops.toArray listed) : Closed ops (listed.setIfInBounds j true) := by
  intro k o ho hk e he hb
  obtain ⟨_, oj, hoj, hall⟩ := mem_ready.1 hj
  by_cases hkj : k = j
  · subst hkj
    have : oj = o := by
      have : ops[k]? = some oj := by simpa using hoj
      rw [ho] at this; exact (Option.some.inj this).symm
    subst this
    exact getD_set_true (hall e he hb)
  · rw [getD_set_ne false (Ne.symm hkj)] at hk
    exact getD_set_true (hc k o ho hk e he hb)

theorem unlisted {listed : Array Bool} {i : Nat} (hi : i ∈ Region.ready .any ops.toArray listed) : listed.getD i false = false := by
  have h0 := (mem_ready.1 hi).1
  rcases Nat.lt_or_ge i listed.size with h' | h'
  · simp [h'] at h0 ⊢; exact h0
  · simp [Array.getElem?_eq_none h'] at h0

/-- an operation that may come now may come first -/
theorem any_first {κ : Nat → Key} {i m : Nat} {stop : Array Bool} (hi : ops[i]? = some oi) (hstop : ∀ j, j < m → stop.getD j true = true) (hpost : ∀ (j : Nat) (oj : Oper), ops[j]? = some oj → m ≤ j → dirAfter oj i = true) :
    ∀ (fuel : Nat) (listed : Array Bool) (S S1 S' : St), Closed ops listed →
    (∀ (j : Nat) (oj : Oper), ops[j]? = some oj → j ≠ i → listed.getD j true = false → dirAfter oj i = false → apart2 ops (appArgs ops) oi oj = true) →
    (∀ (j : Nat) (oj : Oper), ops[j]? = some oj → j ≠ i → listed.getD j true = false → (κ i).clash (κ j) = true → reach ops ops.length j i = true) →
    i ∈ Region.ready .any ops.toArray listed → doOp K call ops κ i S S1 → absAny K call ops κ stop fuel (listed.setIfInBounds i true) S1 S' → absAny K call ops κ stop (fuel + 1) listed S S' := by
  have nodir : ∀ {listed : Array Bool} {j : Nat} {oj : Oper}, i ∈ Region.ready .any ops.toArray listed → ops[j]? = some oj → (∀ e ∈ oj.after, Region.binds .any e = true → listed.getD e.on false = true) → dirAfter oj i = false := fun {listed j oj} hr _ hall => by
    have hin := unlisted hr
    cases hda : dirAfter oj i with
    | false => rfl
    | true =>
      unfold dirAfter at hda
      rw [List.any_eq_true] at hda
      obtain ⟨e, he, h2⟩ := hda
      simp only [Bool.and_eq_true, beq_iff_eq] at h2
      have := hall e (by simpa using he) h2.1
      rw [h2.2, hin] at this; cases this
  intro fuel
  induction fuel with
  | zero =>
    intro listed S S1 S' _ _ _ hr hd H
    refine ⟨fun h => (by rw [h] at hr; cases hr), fun j hj => ?_⟩
    by_cases hji : j = i
    · subst hji; exact ⟨S1, hd, H⟩
    · exfalso
      obtain ⟨hjun, oj, hoj, hall⟩ := mem_ready.1 hj
      have hoj' : ops[j]? = some oj := by simpa using hoj
      rcases Nat.lt_or_ge j m with hlt | hge
      · have h1 := hstop j hlt
        rw [← H.1, getD_set_ne true (Ne.symm hji), hjun] at h1
        cases h1
      · have h1 := nodir hr hoj' hall
        rw [hpost j oj hoj' hge] at h1
        cases h1
  | succ fuel ih =>
    intro listed S S1 S' hc hfree hkey hr hd H
    refine ⟨fun h => (by rw [h] at hr; cases hr), fun j hj => ?_⟩
    by_cases hji : j = i
    · subst hji; exact ⟨S1, hd, H⟩
    · obtain ⟨S2, hd2, H2⟩ := H.2 j (ready_mono hj hji)
      obtain ⟨hjun, oj, hoj, hall⟩ := mem_ready.1 hj
      have hoj' : ops[j]? = some oj := by simpa using hoj
      have hin := unlisted hr
      have hnd : dirAfter oj i = false := nodir hr hoj' hall
      have hnc : (κ i).clash (κ j) = false := by
        cases hcl : (κ i).clash (κ j) with
        | false => rfl
        | true =>
          have := reach_ready hc hj (hkey j oj hoj' hji hjun hcl)
          rw [hin] at this; cases this
      obtain ⟨S1', h3, h4⟩ := commute hi hoj' (hfree j oj hoj' hji hjun hnd) hnc hd hd2
      refine ⟨S1', h3, ih (listed.setIfInBounds j true) S1' S2 S' (closed_set hc hj) (fun k ok hk hki hun hno => hfree k ok hk hki ?_ hno) (fun k ok hk hki hun hcl => hkey k ok hk hki ?_ hcl) (ready_mono hr (Ne.symm hji)) h4 ?_⟩
      · by_cases hjk : j = k
        · subst hjk; exact hjun
        · rw [getD_set_ne true hjk] at hun; exact hun
      · by_cases hjk : j = k
        · subst hjk; exact hjun
        · rw [getD_set_ne true hjk] at hun; exact hun
      · rw [Array.setIfInBounds_comm _ _ hji]
        exact H2
end
end Go.Abs
