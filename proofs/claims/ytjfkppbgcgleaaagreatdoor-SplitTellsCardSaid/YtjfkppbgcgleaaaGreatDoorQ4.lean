/-
  THE ABSTRACT INTERPRETER: nest.Parse as a primitive: walked by hand (it defers a function that recovers), round what the reader answers.
  THE ABSTRACT INTERPRETER: nest.Parse as a primitive: that its answer is what the program does.
  strings.IndexAny of a text of at most eight bytes, as an interpreter runs it that asks strings.IndexRune.
  strings.IndexAny of a text of at most eight bytes, as an interpreter runs it: where the first byte stands that ends a line.
  strings.IndexAny, asked for the three bytes that end a line, of a text of whatever bytes: what it answers, and that it does.
  THE ABSTRACT INTERPRETER: what it is run with over this program.
  FACTS ON THE TYPES OF THIS PROGRAM, each by the kernel (printed by a program).
  SELECTORS, in plain Lean: what a selector is, its text, the values that the text reads as; how values are read as selectors. No program stands here.
  WHAT THE FUNCTIONS COMPUTE: the smallest; the builder of texts.
  WHAT THE FUNCTIONS COMPUTE: loops; texts of words.
  WHAT THE FUNCTIONS COMPUTE: a token's text; numbers of an nth; simple selectors.
  TOKENS, in plain Lean: which tokens a text is read as; tokens that may be are read again as they were. No program stands here.
  TOKENS, in plain Lean: tokens that may be are read again as they were (ToksBack, ToksTwo, ToksBlanks). No program stands here.
  TOKENS, in plain Lean: the texts of tokens are read as these (ToksBack, ToksTwo, ToksBlanks). No program stands here.
  TOKENS, in plain Lean: what each token has (ToksParts); two texts, and a comment between (ToksBoth). No program stands here.
  VALUES, plain: how many there are; what is so of each token; what the laws' premises say.
  WHAT THE FUNCTIONS COMPUTE, layer 1: tokens that are the same; lists of them.
  WHAT THE FUNCTIONS COMPUTE, layer 2: blocks' last tokens; values told flat; depth.
  WHAT THE FUNCTIONS COMPUTE, layer 2: are values the same?
-/
import Derived.Defers
import Derived.Recover
import Derived.Lib.IndexAny
import Derived.Lib.IndexBytes
import Derived.Laws.RangeAny
import Derived.Laws.Runes
import Derived.KernelRfl
import Derived.Lib.Bytealg
import Derived.Test.YtjfkppbgcgleaaaGreatDoorQ3
set_option linter.unusedSimpArgs false
set_option linter.unusedVariables false
namespace Go.Abs
open Go Go.Proofs Go.RowKit
theorem frozen_of_heap {w : World} {b : Nat} {cs : Array Value} {ty : TypeId} (h : w.heap[b]? = some (.cells cs ty (0, 0))) (o : Nat) : w.frozen? ⟨b, o, none⟩ = false := by
  unfold World.frozen?
  rw [h]
  simp
theorem heap_set_other (w : World) (a : Addr) (v : Value) {b : Nat} (h : b ≠ a.block) : (w.setCell a v).heap[b]? = w.heap[b]? := by
  simp only [World.setCell, Array.getElem?_modify]
  rw [if_neg (by omega)]
set_option maxRecDepth 100000 in
set_option maxHeartbeats 4000000 in
theorem catch_panicking (bp be : Nat) (older : List PanicEntry) (w : World) (x y : Value) (tp te : TypeId) (hne : bp ≠ be) (h1 : w.heap[bp]? = some (.cells #[x] tp (0, 0))) (h2 : w.heap[be]? = some (.cells #[y] te (0, 0))) :
    CallsD Tryz.prog 41 #[.pointer (some ⟨bp, 0, none⟩), .pointer (some ⟨be, 0, none⟩)] (.panicking ({ v := .iface 58 (.agg #[]), recovered := false } :: older)) w fun e u' w' =>
      e = .returned (.tuple #[]) ∧ u' = .panicking ({ v := .iface 58 (.agg #[]), recovered := true } :: older) ∧
        w' = ((w.alloc (.cells #[] 58)).setCell ⟨bp, 0, none⟩ (.slice none 0 0)).setCell ⟨be, 0, none⟩ (.int .i64 20) := by
  have hta : ∀ w : World, (Instr.typeAssert (.iface 58 (.agg #[])) 20 58 true).run Tryz.prog w = .ok (.tuple #[.agg #[], .bool true]) w := fun _ => by kernel_rfl
  have k1 : (w.alloc (.cells #[] 58)).heap[bp]? = some (.cells #[x] tp (0, 0)) := (heap_old w _ bp (Array.getElem?_eq_some_iff.1 h1).1).trans h1
  have k2 : (w.alloc (.cells #[] 58)).heap[be]? = some (.cells #[y] te (0, 0)) := (heap_old w _ be (Array.getElem?_eq_some_iff.1 h2).1).trans h2
  have k3 : ((w.alloc (.cells #[] 58)).setCell ⟨bp, 0, none⟩ (.slice none 0 0)).heap[be]? = some (.cells #[y] te (0, 0)) := (heap_set_other _ _ _ (by simpa using hne.symm)).trans k2
  have c1 : (w.alloc (.cells #[] 58)).cell? ⟨bp, 0, none⟩ = some x := cell_of_heap k1 0
  have f1 := frozen_of_heap k1 0
  have c3 : ((w.alloc (.cells #[] 58)).setCell ⟨bp, 0, none⟩ (.slice none 0 0)).cell? ⟨be, 0, none⟩ = some y := cell_of_heap k3 0
  have f3 := frozen_of_heap k3 0
  clear k1 k2 k3 h1 h2 hne
  refine callsD_of_wpS Tryz.func41 rfl fun c₀ cs hu => ?_
  apply wpS_seq
  apply wpS_region
  simp [wpOpsS, go_sem, recoverD, hu, Tryz.ntmps41, Exit.thenS]
  refine wpS_of_wp ?_
  go_wp2
  simp [bodyPostS, results, Tryz.results41]
theorem catch_idle (pv pe : Addr) (w : World) :
    CallsD Tryz.prog 41 #[.pointer (some pv), .pointer (some pe)] .returning w fun e u' w' => e = .returned (.tuple #[]) ∧ u' = .returning ∧ w' = w := by
  refine callsD_of_wpS Tryz.func41 rfl fun c₀ cs hu => ?_
  apply wpS_seq
  apply wpS_region
  simp [wpOpsS, go_sem, recoverD, hu, Tryz.ntmps41, Exit.thenS]
  refine wpS_of_wp ?_
  go_wp2
  cases c₀
  simp_all [bodyPostS, results, Tryz.results41]
abbrev slV : Obj := .cells #[.slice none 0 0] 22
abbrev inE : Obj := .cells #[.int .i64 0] 25
abbrev rdO (x : Value) (deep : Int) : Obj := .cells #[x, .int .i64 deep] 62
set_option maxRecDepth 100000 in
set_option maxHeartbeats 4000000 in
theorem parse_no (x : Value) (deep : Int) (w : World) (hd : deep < 1 ∨ 60 < deep) :
    Calls Tryz.prog 24 #[x, .int .i64 deep] w fun e w' => e = .returned (.tuple #[.slice none 0 0, .int .i64 1]) ∧
      w' = (w.alloc (.cells #[.slice none 0 0] 22)).alloc (.cells #[.int .i64 1] 25) := by
  have hmf : ∀ (fn : Fn) (first cap : Array Value) (w : World), (Instr.makeFunc fn first cap).run Tryz.prog w = .ok (.func fn first cap) w := fun _ _ _ _ => rfl
  go_enter_defers Tryz.func24, Tryz.ntmps24
  go_wp2
  all_goals simp [bodyPostD, Leaves, results, Tryz.results24, go_sem]
set_option maxRecDepth 100000 in
set_option maxHeartbeats 4000000 in
theorem parse_yes (pa : Option Addr) (pn pc : Nat) (deep : Int) (w : World) (hd : ¬ deep < 1) (hd2 : ¬ 60 < deep) (Qr : Option Addr → Nat → Nat → World → Prop) (Qp : World → Prop)
    (hu : Calls Tryz.prog 42 #[.pointer (some ⟨w.heap.size + 2, 0, none⟩), .pointer none, .int .i64 0] (((w.alloc slV).alloc inE).alloc (rdO (.slice pa pn pc) deep)) fun e w' =>
      w'.heap[w.heap.size]? = some slV ∧ w'.heap[w.heap.size + 1]? = some inE ∧ ((∃ va vn vc, e = .returned (.slice va vn vc) ∧ Qr va vn vc w') ∨ (e = .panicked [{ v := .iface 58 (.agg #[]), recovered := false }] ∧ Qp w'))) :
    Calls Tryz.prog 24 #[.slice pa pn pc, .int .i64 deep] w fun e w'' =>
      (∃ va vn vc w', Qr va vn vc w' ∧ e = .returned (.tuple #[.slice va vn vc, .int .i64 0]) ∧ w'' = (w'.setCell ⟨w.heap.size, 0, none⟩ (.slice va vn vc)).setCell ⟨w.heap.size + 1, 0, none⟩ (.int .i64 0)) ∨
      (∃ w', Qp w' ∧ e = .returned (.tuple #[.slice none 0 0, .int .i64 20]) ∧ w'' = ((w'.alloc (.cells #[] 58)).setCell ⟨w.heap.size, 0, none⟩ (.slice none 0 0)).setCell ⟨w.heap.size + 1, 0, none⟩ (.int .i64 20)) := by
  have hmf : ∀ (fn : Fn) (first cap : Array Value) (w : World), (Instr.makeFunc fn first cap).run Tryz.prog w = .ok (.func fn first cap) w := fun _ _ _ _ => rfl
  go_enter_defers Tryz.func24, Tryz.ntmps24
  go_wp2_with (go_at_call 42; refine hu.mono ?_)
  intro e w' k1 k2 hq
  have c1 : w'.cell? ⟨w.heap.size, 0, none⟩ = some (.slice none 0 0) := cell_of_heap k1 0
  have f1 := frozen_of_heap k1 0
  rcases hq with ⟨va, vn, vc, rfl, hq⟩ | ⟨rfl, hq⟩
  · have k3 : (w'.setCell ⟨w.heap.size, 0, none⟩ (.slice va vn vc)).heap[w.heap.size + 1]? = some inE := (heap_set_other _ _ _ (by simp)).trans k2
    have c3 : (w'.setCell ⟨w.heap.size, 0, none⟩ (.slice va vn vc)).cell? ⟨w.heap.size + 1, 0, none⟩ = some (.int .i64 0) := cell_of_heap k3 0
    have f3 := frozen_of_heap k3 0
    go_wp2
    refine leaves_cons (f := 41) (args := #[.pointer (some ⟨w.heap.size, 0, none⟩), .pointer (some ⟨w.heap.size + 1, 0, none⟩)]) (by simp) (by simp [go_sem]) ?_
    refine (catch_idle _ _ _).mono ?_
    rintro e u' w'' ⟨rfl, rfl, rfl⟩
    have e1 : ((w'.setCell ⟨w.heap.size, 0, none⟩ (.slice va vn vc)).setCell ⟨w.heap.size + 1, 0, none⟩ (.int .i64 0)).cell? ⟨w.heap.size, 0, none⟩ = some (.slice va vn vc) := by
      rw [World.cell?_setCell_other _ _ _ _ (by simp)]
      exact World.cell?_setCell_same _ _ _ c1
    have e2 : ((w'.setCell ⟨w.heap.size, 0, none⟩ (.slice va vn vc)).setCell ⟨w.heap.size + 1, 0, none⟩ (.int .i64 0)).cell? ⟨w.heap.size + 1, 0, none⟩ = some (.int .i64 0) := World.cell?_setCell_same _ _ _ c3
    refine ⟨.tuple #[.slice va vn vc, .int .i64 0], ?_, .inl ⟨va, vn, vc, w', hq, rfl, rfl⟩⟩
    simp [results, Tryz.results24, go_sem, e1, e2]
  · go_wp2
    refine leaves_cons (f := 41) (args := #[.pointer (some ⟨w.heap.size, 0, none⟩), .pointer (some ⟨w.heap.size + 1, 0, none⟩)]) (by simp) (by simp [go_sem]) ?_
    refine (catch_panicking _ _ [] _ _ _ _ _ (by simp) k1 k2).mono ?_
    rintro e u' w'' ⟨rfl, rfl, rfl⟩
    have g1 : (w'.alloc (.cells #[] 58)).heap[w.heap.size]? = some slV := (heap_old w' _ _ (Array.getElem?_eq_some_iff.1 k1).1).trans k1
    have g2 : (w'.alloc (.cells #[] 58)).heap[w.heap.size + 1]? = some inE := (heap_old w' _ _ (Array.getElem?_eq_some_iff.1 k2).1).trans k2
    have k3 : ((w'.alloc (.cells #[] 58)).setCell ⟨w.heap.size, 0, none⟩ (.slice none 0 0)).heap[w.heap.size + 1]? = some inE := (heap_set_other _ _ _ (by simp)).trans g2
    have d1 : (w'.alloc (.cells #[] 58)).cell? ⟨w.heap.size, 0, none⟩ = some (.slice none 0 0) := cell_of_heap g1 0
    have d3 : ((w'.alloc (.cells #[] 58)).setCell ⟨w.heap.size, 0, none⟩ (.slice none 0 0)).cell? ⟨w.heap.size + 1, 0, none⟩ = some (.int .i64 0) := cell_of_heap k3 0
    have e1 : (((w'.alloc (.cells #[] 58)).setCell ⟨w.heap.size, 0, none⟩ (.slice none 0 0)).setCell ⟨w.heap.size + 1, 0, none⟩ (.int .i64 20)).cell? ⟨w.heap.size, 0, none⟩ = some (.slice none 0 0) := by
      rw [World.cell?_setCell_other _ _ _ _ (by simp)]
      exact World.cell?_setCell_same _ _ _ d1
    have e2 : (((w'.alloc (.cells #[] 58)).setCell ⟨w.heap.size, 0, none⟩ (.slice none 0 0)).setCell ⟨w.heap.size + 1, 0, none⟩ (.int .i64 20)).cell? ⟨w.heap.size + 1, 0, none⟩ = some (.int .i64 20) := World.cell?_setCell_same _ _ _ d3
    refine ⟨.tuple #[.slice none 0 0, .int .i64 20], ?_, .inr ⟨w', hq, rfl, rfl⟩⟩
    simp [results, Tryz.results24, go_sem, e1, e2]
end Go.Abs
namespace Go.Abs
open Go Go.Proofs Go.RowKit
open NR (goodsN prN)
def goodBN (P : Program) (f : Nat) : Bool :=
  match P.funcs[f]? with
  | some fn => fn.name != "runtime.NumGoroutine" && (match fn.body with | some c => codeOK (fun _ => false) c | none => false)
  | none => false
theorem goodsN_ok : goodsN.all (goodBN Tryz.prog) = true := by kernel_rfl
theorem KN_prog : Prog NR.KN := by
  refine ⟨by kernel_rfl, fun g hg => ?_, fun f F args bxs x _ hF hx => ?_, fun f F args bxs r call _ hF => by cases hF⟩
  · have h1 : g ∈ goodsN := by simpa [NR.KN] using hg
    have h2 := List.all_eq_true.1 goodsN_ok g h1
    unfold goodBN at h2
    split at h2
    · rename_i fn hfn
      simp only [Bool.and_eq_true] at h2
      obtain ⟨h3, h4⟩ := h2
      split at h4
      · rename_i c hc
        exact ⟨fn, c, hfn, by simpa using h3, hc, h4⟩
      · cases h4
    · cases h2
  · have h2 : prN f = some F := hF
    unfold prN at h2
    split at h2
    · rename_i hf
      cases h2
      obtain rfl : f = 53 := by simpa using hf
      exact pPairs_ok hx
    · split at h2
      · rename_i hf
        cases h2
        obtain rfl : f = 85 := by simpa using hf
        exact pOpens_ok hx
      · cases h2
def decT : List PV → Option Tok
  | [.int .i64 k, .str s, .int .i64 n] => some ⟨k, s, n⟩
  | _ => none
def decTs : List (List PV) → Option (List Tok)
  | [] => some []
  | c :: l => match decT c, decTs l with
    | some t, some m => some (t :: m)
    | _, _ => none
theorem dec_enc : ∀ l : List Tok, decTs (l.map Tok.enc) = some l
  | [] => rfl
  | t :: l => by
    rw [List.map_cons, decTs, dec_enc l]; rfl
theorem decT_enc {c : List PV} {t : Tok} (h : decT c = some t) : c = t.enc := by
  unfold decT at h
  split at h
  · cases h; rfl
  · cases h
theorem enc_dec : ∀ {c : List (List PV)} {l : List Tok}, decTs c = some l → c = l.map Tok.enc
  | [], l, h => by cases h; rfl
  | c :: cs, l, h => by
    unfold decTs at h
    split at h
    · rename_i t m h1 h2
      cases h
      rw [List.map_cons, ← decT_enc h1, ← enc_dec h2]
    · cases h
def parseR (deep : Int) (l : List Tok) : AV :=
  if deep < 1 ∨ 60 < deep then .tup [.c (.pv (.sl [])), .c (.pv (.int .i64 1))]
  else match Ne.until_ 0 deep.toNat l with
    | some x => .tup [.c (.pv (.sl (encL x.1))), .c (.pv (.int .i64 0))]
    | none => .tup [.c (.pv (.sl [])), .c (.pv (.int .i64 20))]
def pParse : Prim
  | [.c (.pv (.sl c)), .c (.pv (.int .i64 deep))], [] => (match decTs c with
    | some l => if l.length ≤ 1000000 then some (parseR deep l, []) else none
    | none => none)
  | [.c .nils, .c (.pv (.int .i64 deep))], [] => some (parseR deep [], [])
  | _, _ => none
section
variable {G G2 : Gh} {w w' w'' : World}
theorem parse_ext {x : Value} {deep : Int} (hw : WI G w) (hb0 : ∀ s, G.bb s = none) (hx : Ext (G.box LK (w.heap.size + 2)) (((w.alloc slV).alloc inE).alloc (rdO x deep)) G2 w') (hw2 : WI G2 w')
    (hs : w'.heap.size ≤ w''.heap.size) (ho : w''.os = w'.os) (hp : w''.output = w'.output) (ht : w''.tape = w'.tape) (hh : ∀ b, b < w'.heap.size → b ≠ w.heap.size → b ≠ w.heap.size + 1 → w''.heap[b]? = w'.heap[b]?) :
    Ext G w { G2 with bb := G.bb } w'' ∧ WI { G2 with bb := G.bb } w'' := by
  have hsz : (((w.alloc slV).alloc inE).alloc (rdO x deep)).heap.size = w.heap.size + 3 := by rw [alloc_size, alloc_size, alloc_size]
  have hold : ∀ b, b < w.heap.size → (((w.alloc slV).alloc inE).alloc (rdO x deep)).heap[b]? = w.heap[b]? := fun b hb => by
    rw [heap_old _ _ _ (by rw [alloc_size, alloc_size]; omega), heap_old _ _ _ (by rw [alloc_size]; omega), heap_old _ _ _ hb]
  have how : ∀ b, b ≠ w.heap.size + 2 → (G.box LK (w.heap.size + 2)).ow b = G.ow b := fun b hb => by
    show upd G.ow (w.heap.size + 2) _ b = _
    unfold upd; rw [if_neg hb]
  have hnI : ∀ b, w.heap.size ≤ b → b < w.heap.size + 2 → ∀ o, G2.I b o = none := fun b h1 h2 o => by
    have h3 := hx.old b (by rw [hsz]; omega) ((how b (by omega)).trans (hw.fresh b h1).2)
    exact (h3.2.2 o).trans ((hw.fresh b h1).1 o)
  have hold2 : ∀ b, b < w.heap.size → G.ow b = none → G2.ow b = none ∧ w''.heap[b]? = w.heap[b]? ∧ ∀ o, G2.I b o = G.I b o := fun b hb hn => by
    have h3 := hx.old b (by rw [hsz]; omega) ((how b (by omega)).trans hn)
    have := hx.size
    rw [hsz] at this
    exact ⟨h3.1, (hh b (by omega) (by omega) (by omega)).trans (h3.2.1.trans (hold b hb)), h3.2.2⟩
  have hsize := hx.size
  rw [hsz] at hsize
  refine ⟨⟨hx.I, hold2, by omega, ho.trans hx.os, hp.trans hx.output, ht.trans hx.tape, fun _ _ => rfl⟩, ⟨fun b o y h => ?_, fun b hb => hw2.fresh b (by omega), hw2.boxI, fun s b hb => absurd (show G.bb s = some b from hb) (by rw [hb0]; simp), hw.tab.map fun b hb hn => ⟨(hold2 b hb hn).1, (hold2 b hb hn).2.1⟩⟩⟩
  have h1 : G2.I b o = some y := h
  have hlt := I_lt hw2 h1
  have e : w''.heap[b]? = w'.heap[b]? := hh b hlt (fun e => by rw [e, hnI _ (Nat.le_refl _) (by omega)] at h1; cases h1) (fun e => by rw [e, hnI _ (by omega) (by omega)] at h1; cases h1)
  have := hw2.cell b o y h1
  unfold World.cell? at this ⊢
  rw [e]
  exact this
theorem box_WI {o : Obj} (hw : WI G w) {k : Nat} (hk : G.bb k = none) : WI (G.box k w.heap.size) (w.alloc o) := by
  refine ⟨fun b o y hI => ?_, fun b hb => ?_, fun b s hb o => ?_, fun s b hb => ?_, hw.tab.map fun c hc ho => ⟨?_, heap_old w _ c hc⟩⟩
  · rw [cell_alloc_old w _ (I_lt hw hI)]; exact hw.cell b o y hI
  · rw [alloc_size] at hb
    refine ⟨(hw.fresh b (by omega)).1, ?_⟩
    show upd G.ow w.heap.size _ b = none
    unfold upd; rw [if_neg (by omega)]; exact (hw.fresh b (by omega)).2
  · have hb' : upd G.ow w.heap.size (some (.box k)) b = some (.box s) := hb
    unfold upd at hb'
    split at hb'
    · rename_i he; subst he; exact (hw.fresh _ (Nat.le_refl _)).1 o
    · exact hw.boxI b s hb' o
  · have hb' : upd G.bb k (some w.heap.size) s = some b := hb
    show upd G.ow w.heap.size _ b = _
    unfold upd at hb' ⊢
    split at hb'
    · rename_i he; subst he; cases hb'; rw [if_pos rfl]
    · have h1 := hw.bbow s b hb'
      have h2 := ow_lt hw h1
      rw [if_neg (by omega)]; exact h1
  · show upd G.ow w.heap.size _ c = none
    unfold upd; rw [if_neg (by omega)]; exact ho
end
theorem set_heap (w : World) (a b : Addr) (v v' : Value) (k : Nat) (h1 : k ≠ a.block) (h2 : k ≠ b.block) : ((w.setCell a v).setCell b v').heap[k]? = w.heap[k]? := by
  rw [heap_set_other _ _ _ h2, heap_set_other _ _ _ h1]
theorem set_size (w : World) (a : Addr) (v : Value) : (w.setCell a v).heap.size = w.heap.size := by
  simp [World.setCell]
theorem parse_ok {l : List Tok} {deep : Int} {v : AV} (hlen : l.length ≤ 1000000) (hv : ∀ {G : Gh} {w : World} {x : Value}, RA G w .ret v x → RP G.I (.sl (l.map Tok.enc)) x) :
    Contract Tryz.prog 24 [v, .c (.pv (.int .i64 deep))] [] (.ret (parseR deep l) []) := by
  intro G w cargs hw hargs _ _ hbb
  have hb0 : ∀ s, G.bb s = none := fun s => by
    cases e : G.bb s with
    | none => rfl
    | some b => obtain ⟨i, hi, _⟩ := hbb s b e; simp at hi
  obtain ⟨x, y, rfl, hx, hy⟩ := args_two hargs
  cases hy.intv
  have hxp : RP G.I (.sl (l.map Tok.enc)) x := hv hx
  obtain ⟨pa, pc, rfl, _, _⟩ := hxp.slice_inv
  unfold parseR
  by_cases hd : deep < 1 ∨ 60 < deep
  · rw [if_pos hd]
    refine (parse_no _ deep w hd).mono ?_
    rintro e w' ⟨rfl, rfl⟩
    obtain ⟨g, hw'⟩ := below_gr (w' := (w.alloc (.cells #[.slice none 0 0] 22)).alloc (.cells #[.int .i64 1] 25)) hw (((Below.refl _ _).alloc (Nat.le_refl _) _).alloc (by simp) _)
    exact ⟨G, g.ext, hw', _, rfl, ⟨[_, _], rfl, .cons (.sl0 _ _) (.cons (.int _ _) .nil)⟩, rfl, fun i l h => by simp at h⟩
  · rw [if_neg hd]
    have hd1 : ¬ deep < 1 := fun h => hd (.inl h)
    have hd2 : ¬ 60 < deep := fun h => hd (.inr h)
    obtain ⟨d, rfl⟩ : ∃ d : Nat, deep = d := ⟨deep.toNat, by omega⟩
    rw [Int.toNat_natCast]
    have hu := NR.until_all l hlen d (by omega)
    unfold NR.UDen at hu
    obtain ⟨g1, hw1⟩ := below_gr (w' := (w.alloc slV).alloc inE) hw (((Below.refl _ _).alloc (Nat.le_refl _) _).alloc (by simp) _)
    have hn1 : ((w.alloc slV).alloc inE).heap.size = w.heap.size + 2 := by rw [alloc_size, alloc_size]
    have hw3 : WI (G.box LK (w.heap.size + 2)) (((w.alloc slV).alloc inE).alloc (rdO (.slice pa (l.map Tok.enc).length pc) d)) := by
      have := box_WI (o := rdO (.slice pa (l.map Tok.enc).length pc) d) hw1 (hb0 LK)
      rw [hn1] at this
      exact this
    have hnew : (((w.alloc slV).alloc inE).alloc (rdO (.slice pa (l.map Tok.enc).length pc) d)).heap[w.heap.size + 2]? = some (rdO (.slice pa (l.map Tok.enc).length pc) d) := by
      have := heap_alloc_new ((w.alloc slV).alloc inE) (rdO (.slice pa (l.map Tok.enc).length pc) d)
      rw [hn1] at this
      exact this
    have hbbk : (G.box LK (w.heap.size + 2)).bb LK = some (w.heap.size + 2) := by simp [Gh.box, upd]
    have hcall : ∀ r, den NR.KN 42 [.c (.loc 100000 0), .c .nilp, .c (.pv (.int .i64 0))] [NR.rdr l d] = some r →
        Calls Tryz.prog 42 #[.pointer (some ⟨w.heap.size + 2, 0, none⟩), .pointer none, .int .i64 0] (((w.alloc slV).alloc inE).alloc (rdO (.slice pa (l.map Tok.enc).length pc) d)) fun e w' =>
          ∃ G2, Ext (G.box LK (w.heap.size + 2)) (((w.alloc slV).alloc inE).alloc (rdO (.slice pa (l.map Tok.enc).length pc) d)) G2 w' ∧ WI G2 w' ∧ REnd 1 G2 w' e r := fun r hr => by
      refine den_ok KN_prog NR.good_u hr _ _ [.pointer (some ⟨w.heap.size + 2, 0, none⟩), .pointer none, .int .i64 0] hw3 ?_ ?_ ?_ ?_
      · exact .cons ⟨w.heap.size + 2, hbbk, rfl⟩ (.cons rfl (.cons (.int _ _) .nil))
      · intro v hv
        simp only [List.mem_cons, List.not_mem_nil, or_false] at hv
        rcases hv with rfl | rfl | rfl <;> rfl
      · intro i b hi
        cases i with
        | succ i => simp at hi
        | zero =>
          simp only [List.getElem?_cons_zero, Option.some.injEq] at hi
          subst hi
          refine ⟨w.heap.size + 2, _, _, hbbk, hnew, ⟨rfl, fun e => by simp at e⟩, fun k v hk => ?_⟩
          match k with
          | 0 =>
            simp only [List.getElem?_cons_zero, Option.some.injEq] at hk
            subst hk
            exact ⟨_, rfl, hxp⟩
          | 1 =>
            simp only [List.getElem?_cons_succ, List.getElem?_cons_zero, Option.some.injEq] at hk
            subst hk
            exact ⟨_, rfl, .int _ _⟩
          | k + 2 => simp at hk
      · intro s b hs
        have hs' : upd G.bb LK (some (w.heap.size + 2)) s = some b := hs
        unfold upd at hs'
        split at hs'
        · rename_i he; exact ⟨0, by simp, by omega⟩
        · rw [hb0] at hs'; cases hs'
    have hheap : ∀ {G2 : Gh} {w' : World}, Ext (G.box LK (w.heap.size + 2)) (((w.alloc slV).alloc inE).alloc (rdO (.slice pa (l.map Tok.enc).length pc) d)) G2 w' →
        w'.heap[w.heap.size]? = some slV ∧ w'.heap[w.heap.size + 1]? = some inE := fun {G2 w'} hx2 => by
      have how : ∀ b, w.heap.size ≤ b → b ≠ w.heap.size + 2 → (G.box LK (w.heap.size + 2)).ow b = none := fun b h1 h2 => by
        show upd G.ow (w.heap.size + 2) _ b = _
        unfold upd; rw [if_neg h2]; exact (hw.fresh b h1).2
      constructor
      · rw [(hx2.old w.heap.size (by rw [alloc_size, hn1]; omega) (how _ (Nat.le_refl _) (by omega))).2.1, heap_old _ _ _ (by rw [hn1]; omega), heap_old _ _ _ (by rw [alloc_size]; omega)]
        exact heap_alloc_new w _
      · rw [(hx2.old (w.heap.size + 1) (by rw [alloc_size, hn1]; omega) (how _ (by omega) (by omega))).2.1, heap_old _ _ _ (by rw [hn1]; omega)]
        have := heap_alloc_new (w.alloc slV) inE
        rw [alloc_size] at this
        exact this
    cases hv : Ne.until_ 0 d l with
    | some x =>
      rw [hv] at hu
      refine (parse_yes pa _ pc d w hd1 hd2 (fun va vn vc w' => ∃ G2, Ext (G.box LK (w.heap.size + 2)) (((w.alloc slV).alloc inE).alloc (rdO (.slice pa (l.map Tok.enc).length pc) d)) G2 w' ∧ WI G2 w' ∧ RP G2.I (.sl (encL x.1)) (.slice va vn vc)) (fun _ => False) ?_).mono ?_
      · refine (hcall _ hu).mono ?_
        rintro e w' ⟨G2, hx2, hw2, v, rfl, hr, _, _⟩
        have hr' : RP G2.I (.sl (encL x.1)) v := hr
        obtain ⟨va, vc, rfl, _, _⟩ := hr'.slice_inv
        exact ⟨(hheap hx2).1, (hheap hx2).2, .inl ⟨va, _, vc, rfl, G2, hx2, hw2, hr'⟩⟩
      · rintro e w'' (⟨va, vn, vc, w', ⟨G2, hx2, hw2, hr⟩, rfl, rfl⟩ | ⟨w', hf, _⟩)
        · obtain ⟨k1, k2⟩ := parse_ext (w'' := (w'.setCell ⟨w.heap.size, 0, none⟩ (.slice va vn vc)).setCell ⟨w.heap.size + 1, 0, none⟩ (.int .i64 0)) hw hb0 hx2 hw2 (by rw [set_size, set_size]; exact Nat.le_refl _) rfl rfl rfl (fun b _ h1 h2 => set_heap w' _ _ _ _ b h1 h2)
          exact ⟨_, k1, k2, _, rfl, ⟨[_, _], rfl, .cons hr (.cons (.int _ _) .nil)⟩, rfl, fun i l h => by simp at h⟩
        · exact hf.elim
    | none =>
      rw [hv] at hu
      obtain ⟨b1, hu⟩ := hu
      refine (parse_yes pa _ pc d w hd1 hd2 (fun _ _ _ _ => False) (fun w' => ∃ G2, Ext (G.box LK (w.heap.size + 2)) (((w.alloc slV).alloc inE).alloc (rdO (.slice pa (l.map Tok.enc).length pc) d)) G2 w' ∧ WI G2 w') ?_).mono ?_
      · refine (hcall _ hu).mono ?_
        rintro e w' ⟨G2, hx2, hw2, v, rfl, hr, _, _⟩
        have hr' : RP G2.I (.ifa 58 []) v := hr
        cases hr'
        exact ⟨(hheap hx2).1, (hheap hx2).2, .inr ⟨rfl, G2, hx2, hw2⟩⟩
      · rintro e w'' (⟨va, vn, vc, w', hf, _⟩ | ⟨w', ⟨G2, hx2, hw2⟩, rfl, rfl⟩)
        · exact hf.elim
        · obtain ⟨k1, k2⟩ := parse_ext (w'' := ((w'.alloc (.cells #[] 58)).setCell ⟨w.heap.size, 0, none⟩ (.slice none 0 0)).setCell ⟨w.heap.size + 1, 0, none⟩ (.int .i64 20)) hw hb0 hx2 hw2 (by rw [set_size, set_size, alloc_size]; omega) rfl rfl rfl (fun b hb h1 h2 => by rw [set_heap _ _ _ _ _ b h1 h2, heap_old _ _ _ hb])
          exact ⟨_, k1, k2, _, rfl, ⟨[_, _], rfl, .cons (.sl0 _ _) (.cons (.int _ _) .nil)⟩, rfl, fun i l h => by simp at h⟩
theorem pParse_ok {args : List AV} {bxs : List (List CV)} {x : AV × List (List CV)} (h : pParse args bxs = some x) : Contract Tryz.prog 24 args bxs (.ret x.1 x.2) := by
  unfold pParse at h
  split at h
  · rename_i c deep
    split at h
    case h_2 => cases h
    rename_i l hdec
    split at h
    case isFalse => cases h
    rename_i hlen
    cases h
    obtain rfl := enc_dec hdec
    exact parse_ok hlen (fun hx => hx)
  · cases h
    refine parse_ok (l := []) (by simp) (fun hx => ?_)
    cases hx
    exact .sl0 _ _
  · cases h
end Go.Abs
namespace Go.Abs
open Go Go.Proofs
set_option maxRecDepth 10000
def keep0 (f r : Nat) : List Nat × List Nat := if f == 97 && r == 18 then ([1, 45], []) else if f == 102 && r == 38 then ([175], []) else if f == 102 && r == 5 then ([0, 7, 8, 9], []) else ([], [])
def pr0 (f : Nat) : Option Prim := if f == 65 then some pIndexByte else none
noncomputable def K0 : Cfg := { P := Tryz.prog, pr := pr0, keep := keep0, ownRet := fun _ => false, good := [97, 103, 102, 111, 65].contains, hook := fun _ _ => false }
theorem K0_own (f : FuncId) : K0.ownRet f = false := rfl
theorem K0_hook (f i : Nat) : K0.hook f i = false := rfl
theorem region0 (f : FuncId) (id : Nat) (ops : Array Oper) (draw : Bool) (S : St) : exL K0 f (.region id ops draw) S = runRegion K0 (den K0) ops.toList draw S := exL_region f id ops draw S (K0_hook f id)
theorem K0_P : K0.P = Tryz.prog := rfl
theorem K0_keep (f r : Nat) : K0.keep f r = keep0 f r := rfl
theorem K0_keep18 : keep0 97 18 = ([1, 45], []) := by decide
theorem K0_keep5 : keep0 102 5 = ([0, 7, 8, 9], []) := by decide
theorem K0_good1 : K0.good 103 = true := rfl
theorem K0_good2 : K0.good 102 = true := rfl
theorem K0_good3 : K0.good 111 = true := rfl
theorem K0_good4 : K0.good 65 = true := rfl
theorem K0_str : descOf Tryz.prog 9 = some .str := by kernel_rfl
theorem K0_rune : descOf Tryz.prog 21 = some (.int .i32) := by kernel_rfl
theorem K0_byte : descOf Tryz.prog 5 = some (.int .u8) := by kernel_rfl
theorem den_run0 {f : FuncId} {fn : Func} {x : Code} {nt : Nat} {args : List AV} {bxs : List (List CV)} {r : Res} (hp : pr0 f = none) (hf : Tryz.prog.funcs[f]? = some fn) (hx : fn.body = some x) (hn : fn.ntmps = nt)
    (hl : args.length ≤ nt ∧ nt < LK) (h : (exL K0 f x (enterSt nt args bxs)).bind (fun r => leave K0 f fn bxs.length (some r)) = some r) : den K0 f args bxs = some r := by
  rw [den_eq (K := K0) hp rfl hf hx, hn, if_pos hl]
  exact h
theorem use0_den (n : Int) : den K0 103 [.c (.pv (.int .i64 n))] [] = some (.ret (.c (.pv (.bool (decide (8 < n))))) []) := by
  refine den_run0 rfl Tryz.func103 rfl Tryz.ntmps103 ⟨by simp, by simp [LK]⟩ ?_
  have hr : Tryz.f103.results = #[.tmp 2] := rfl
  simp only [exL_seq, exL_cond, exL_block, exL_scope, exL_ret, exL_skip, exL_exit, runRegion, runOps, stepOp, guardA, absOp, takeOver, opd, avOf, cvOf, St.degAt, St.put, okPV, okVal, okAV, absBin, intBin, strBin, boolBin, setBoxes, if_true, Bool.false_eq_true, if_false, Option.map_some, Option.map_none, Option.bind_some, Option.bind_none, thenO, outOf, upd, List.toList_toArray, isOwn, steal, appArgs, inApps, AV.deg, CV.deg, AV.gv, AV.isIter, absNext, some_bne, Nat.reduceLT, reduceIte, reduceCtorEq, Nat.reduceEqDiff, List.length_nil, List.length_cons, apply_ite (Option.map (outOf _)), List.filterMap_cons, List.filterMap_nil, beq_iff_eq, List.getElem?_cons_zero, List.getElem?_cons_succ, Option.getD_some, Nat.reduceBEq, Bool.false_and, Bool.and_false, Bool.and_self, absCall, doCall, getBoxes, lend, back, idx, dedup, AV.ren, CV.ren, TV.ren, AV.ptrs, CV.ptrs, zipBox, AV.flat, CV.flat, absLoad, absStore, cellsOfAV, setAt, newBox, markB, bldTypes, absFieldAddr, absField, absExtract, absAssert, noAssert, absMkIface, ifcOf, CV.pv?, content, pushHead, ownT, fillCells, reps, pvs, chunks, enterSt, leave, resOf, resVars, resVar, outBoxes, lentOnly, TV.deg, TV.av, LK, CV.plain, CV.noBld, nilBin, absUn, bound, List.map_cons, List.map_nil, List.all_cons, List.all_nil, List.any_cons, List.any_nil, List.contains_cons, List.contains_nil, List.elem_cons, List.elem_nil, List.cons_append, List.nil_append, List.append_nil, List.flatMap_cons, List.flatMap_nil, List.zip_cons_cons, List.zip_nil_left, List.zip_nil_right, List.take_succ_cons, List.take_zero, List.take_nil, List.drop_succ_cons, List.drop_zero, List.drop_nil, List.isEmpty_nil, List.isEmpty_cons, Bool.and_true, Bool.true_and, Bool.or_true, Bool.true_or, Bool.or_false, Bool.false_or, Bool.not_true, Bool.not_false, Nat.reduceAdd, Nat.reduceSub, Nat.reduceLeDiff, Nat.add_zero, Nat.zero_add, Nat.reduceMul, Option.isNone_none, Option.isNone_some, Option.getD_none, true_and, and_true, not_true_eq_false, not_false_eq_true, decide_true, decide_false, List.toList_toArray, Nat.le_refl, and_self, Bool.not_eq_true, Nat.sub_self, or_true, true_or, Option.some.injEq, List.length_map, List.nil_eq, and_false, false_and, AV.live, CV.live, CV.liveIn, firstReg, Option.orElse_some, Option.orElse_none, head, keepSlots, keepBoxes, Int.lt_irrefl, List.length_append, ite_self, memOK, logOps, opKey, lentBoxes, Key.clash, Key.sees, Key.writes, Nat.lt_irrefl, gt_iff_lt, nobox_at, bot_at, false_or, or_false, beq_self_eq_true, Bool.true_beq, Bool.false_beq, region0, K0_own, K0_P, hr]
theorem byte0_den (s : List UInt8) (c : Int) : den K0 65 [.c (.pv (.str s)), .c (.pv (.int .u8 c))] [] = some (.ret (.c (.pv (.int .i64 (Lib.indexByte s c.toNat.toUInt8)))) []) := by
  rw [den_prim (K := K0) (F := pIndexByte) rfl]
  rfl
theorem valid0_den (r : Int) : den K0 111 [.c (.pv (.int .i32 r))] [] = some (.ret (.c (.pv (.bool (Utf8.valid r)))) []) := by
  refine den_run0 rfl Tryz.func111 rfl Tryz.ntmps111 ⟨by simp, by simp [LK]⟩ ?_
  have hr : Tryz.f111.results = #[.tmp 2] := rfl
  have e : Utf8.valid r = ((decide (0 ≤ r) && decide (r < 55296)) || (decide (57343 < r) && decide (r ≤ 1114111))) := by
    unfold Utf8.valid
    have : decide (57344 ≤ r) = decide (57343 < r) := decide_eq_decide.2 (by omega)
    rw [← this]
  rw [e]
  cases b1 : decide (0 ≤ r) <;> cases b2 : decide (r < 55296) <;> cases b3 : decide (57343 < r) <;> cases b4 : decide (r ≤ 1114111) <;> simp only [exL_seq, exL_cond, exL_block, exL_scope, exL_ret, exL_skip, exL_exit, runRegion, runOps, stepOp, guardA, absOp, takeOver, opd, avOf, cvOf, St.degAt, St.put, okPV, okVal, okAV, absBin, intBin, strBin, boolBin, setBoxes, if_true, Bool.false_eq_true, if_false, Option.map_some, Option.map_none, Option.bind_some, Option.bind_none, thenO, outOf, upd, List.toList_toArray, isOwn, steal, appArgs, inApps, AV.deg, CV.deg, AV.gv, AV.isIter, absNext, some_bne, Nat.reduceLT, reduceIte, reduceCtorEq, Nat.reduceEqDiff, List.length_nil, List.length_cons, apply_ite (Option.map (outOf _)), List.filterMap_cons, List.filterMap_nil, beq_iff_eq, List.getElem?_cons_zero, List.getElem?_cons_succ, Option.getD_some, Nat.reduceBEq, Bool.false_and, Bool.and_false, Bool.and_self, absCall, doCall, getBoxes, lend, back, idx, dedup, AV.ren, CV.ren, TV.ren, AV.ptrs, CV.ptrs, zipBox, AV.flat, CV.flat, absLoad, absStore, cellsOfAV, setAt, newBox, markB, bldTypes, absFieldAddr, absField, absExtract, absAssert, noAssert, absMkIface, ifcOf, CV.pv?, content, pushHead, ownT, fillCells, reps, pvs, chunks, enterSt, leave, resOf, resVars, resVar, outBoxes, lentOnly, TV.deg, TV.av, LK, CV.plain, CV.noBld, nilBin, absUn, bound, List.map_cons, List.map_nil, List.all_cons, List.all_nil, List.any_cons, List.any_nil, List.contains_cons, List.contains_nil, List.elem_cons, List.elem_nil, List.cons_append, List.nil_append, List.append_nil, List.flatMap_cons, List.flatMap_nil, List.zip_cons_cons, List.zip_nil_left, List.zip_nil_right, List.take_succ_cons, List.take_zero, List.take_nil, List.drop_succ_cons, List.drop_zero, List.drop_nil, List.isEmpty_nil, List.isEmpty_cons, Bool.and_true, Bool.true_and, Bool.or_true, Bool.true_or, Bool.or_false, Bool.false_or, Bool.not_true, Bool.not_false, Nat.reduceAdd, Nat.reduceSub, Nat.reduceLeDiff, Nat.add_zero, Nat.zero_add, Nat.reduceMul, Option.isNone_none, Option.isNone_some, Option.getD_none, true_and, and_true, not_true_eq_false, not_false_eq_true, decide_true, decide_false, List.toList_toArray, Nat.le_refl, and_self, Bool.not_eq_true, Nat.sub_self, or_true, true_or, Option.some.injEq, List.length_map, List.nil_eq, and_false, false_and, AV.live, CV.live, CV.liveIn, firstReg, Option.orElse_some, Option.orElse_none, head, keepSlots, keepBoxes, Int.lt_irrefl, List.length_append, ite_self, memOK, logOps, opKey, lentBoxes, Key.clash, Key.sees, Key.writes, Nat.lt_irrefl, gt_iff_lt, nobox_at, bot_at, false_or, or_false, beq_self_eq_true, Bool.true_beq, Bool.false_beq, region0, K0_own, K0_P, hr, b1, b2, b3, b4]
abbrev endsL : List UInt8 := [10, 12, 13]
theorem err0_run : callN K0 40 102 [.c (.pv (.str endsL)), .c (.pv (.int .i32 65533))] [] = some (.ret (.c (.pv (.int .i64 (-1)))) []) := by kernel_rfl
theorem miss_high {c : UInt8} (h : 128 ≤ c.toNat) : ∀ l : List UInt8, (∀ b ∈ l, b.toNat < 128) → Lib.indexByte l c = -1
  | [], _ => rfl
  | b :: l, hl => by
    have hb : (b == c) = false := by
      rw [beq_eq_false_iff_ne]; intro e; have := hl b (by simp); rw [e] at this; omega
    rw [Lib.indexByte, hb, miss_high h l fun x hx => hl x (by simp [hx])]
    rfl
set_option maxHeartbeats 4000000 in
set_option maxRecDepth 100000 in
theorem rune0_den (r : Int) (h : 0 ≤ r ∧ r ≤ 2147483647) : den K0 102 [.c (.pv (.str endsL)), .c (.pv (.int .i32 r))] [] = some (.ret (.c (.pv (.int .i64 (if r < 128 then Lib.indexByte endsL r.toNat.toUInt8 else -1)))) []) := by
  have hr : Tryz.f102.results = #[.tmp 4] := rfl
  have h0 : decide (0 ≤ r) = true := decide_eq_true h.1
  by_cases h1 : r < 128
  · have d1 : decide (r < 128) = true := decide_eq_true h1
    have w1 : IntKind.u8.wrap r = r := IntWalk.u8_in _ (by omega)
    have hb := byte0_den endsL r
    refine den_run0 rfl Tryz.func102 rfl Tryz.ntmps102 ⟨by simp, by simp [LK]⟩ ?_
    simp only [exL_seq, exL_cond, exL_block, exL_scope, exL_ret, exL_skip, exL_exit, runRegion, runOps, stepOp, guardA, absOp, takeOver, opd, avOf, cvOf, St.degAt, St.put, okPV, okVal, okAV, absBin, intBin, strBin, boolBin, setBoxes, if_true, Bool.false_eq_true, if_false, Option.map_some, Option.map_none, Option.bind_some, Option.bind_none, thenO, outOf, upd, List.toList_toArray, isOwn, steal, appArgs, inApps, AV.deg, CV.deg, AV.gv, AV.isIter, absNext, some_bne, Nat.reduceLT, reduceIte, reduceCtorEq, Nat.reduceEqDiff, List.length_nil, List.length_cons, apply_ite (Option.map (outOf _)), List.filterMap_cons, List.filterMap_nil, beq_iff_eq, List.getElem?_cons_zero, List.getElem?_cons_succ, Option.getD_some, Nat.reduceBEq, Bool.false_and, Bool.and_false, Bool.and_self, absCall, doCall, getBoxes, lend, back, idx, dedup, AV.ren, CV.ren, TV.ren, AV.ptrs, CV.ptrs, zipBox, AV.flat, CV.flat, absLoad, absStore, cellsOfAV, setAt, newBox, markB, bldTypes, absFieldAddr, absField, absExtract, absAssert, noAssert, absMkIface, ifcOf, CV.pv?, content, pushHead, ownT, fillCells, reps, pvs, chunks, enterSt, leave, resOf, resVars, resVar, outBoxes, lentOnly, TV.deg, TV.av, LK, CV.plain, CV.noBld, nilBin, absUn, bound, List.map_cons, List.map_nil, List.all_cons, List.all_nil, List.any_cons, List.any_nil, List.contains_cons, List.contains_nil, List.elem_cons, List.elem_nil, List.cons_append, List.nil_append, List.append_nil, List.flatMap_cons, List.flatMap_nil, List.zip_cons_cons, List.zip_nil_left, List.zip_nil_right, List.take_succ_cons, List.take_zero, List.take_nil, List.drop_succ_cons, List.drop_zero, List.drop_nil, List.isEmpty_nil, List.isEmpty_cons, Bool.and_true, Bool.true_and, Bool.or_true, Bool.true_or, Bool.or_false, Bool.false_or, Bool.not_true, Bool.not_false, Nat.reduceAdd, Nat.reduceSub, Nat.reduceLeDiff, Nat.add_zero, Nat.zero_add, Nat.reduceMul, Option.isNone_none, Option.isNone_some, Option.getD_none, true_and, and_true, not_true_eq_false, not_false_eq_true, decide_true, decide_false, List.toList_toArray, Nat.le_refl, and_self, Bool.not_eq_true, Nat.sub_self, or_true, true_or, Option.some.injEq, List.length_map, List.nil_eq, and_false, false_and, AV.live, CV.live, CV.liveIn, firstReg, Option.orElse_some, Option.orElse_none, head, keepSlots, keepBoxes, Int.lt_irrefl, List.length_append, ite_self, memOK, logOps, opKey, lentBoxes, Key.clash, Key.sees, Key.writes, Nat.lt_irrefl, gt_iff_lt, nobox_at, bot_at, false_or, or_false, beq_self_eq_true, Bool.true_beq, Bool.false_beq, region0, K0_own, K0_P, hr, h0, h1, d1, w1, hb, K0_good4, ev_conv_int K0_rune K0_byte]
  · have d1 : decide (r < 128) = false := decide_eq_false h1
    rw [if_neg h1]
    by_cases h2 : r = 65533
    · subst h2
      exact den_iff.2 ⟨40, err0_run⟩
    · have d2 : (r == 65533) = false := by simpa using h2
      have hv := valid0_den r
      refine den_run0 rfl Tryz.func102 rfl Tryz.ntmps102 ⟨by simp, by simp [LK]⟩ ?_
      cases h3 : Utf8.valid r
      · rw [h3] at hv
        simp only [exL_seq, exL_cond, exL_block, exL_scope, exL_ret, exL_skip, exL_exit, runRegion, runOps, stepOp, guardA, absOp, takeOver, opd, avOf, cvOf, St.degAt, St.put, okPV, okVal, okAV, absBin, intBin, strBin, boolBin, setBoxes, if_true, Bool.false_eq_true, if_false, Option.map_some, Option.map_none, Option.bind_some, Option.bind_none, thenO, outOf, upd, List.toList_toArray, isOwn, steal, appArgs, inApps, AV.deg, CV.deg, AV.gv, AV.isIter, absNext, some_bne, Nat.reduceLT, reduceIte, reduceCtorEq, Nat.reduceEqDiff, List.length_nil, List.length_cons, apply_ite (Option.map (outOf _)), List.filterMap_cons, List.filterMap_nil, beq_iff_eq, List.getElem?_cons_zero, List.getElem?_cons_succ, Option.getD_some, Nat.reduceBEq, Bool.false_and, Bool.and_false, Bool.and_self, absCall, doCall, getBoxes, lend, back, idx, dedup, AV.ren, CV.ren, TV.ren, AV.ptrs, CV.ptrs, zipBox, AV.flat, CV.flat, absLoad, absStore, cellsOfAV, setAt, newBox, markB, bldTypes, absFieldAddr, absField, absExtract, absAssert, noAssert, absMkIface, ifcOf, CV.pv?, content, pushHead, ownT, fillCells, reps, pvs, chunks, enterSt, leave, resOf, resVars, resVar, outBoxes, lentOnly, TV.deg, TV.av, LK, CV.plain, CV.noBld, nilBin, absUn, bound, List.map_cons, List.map_nil, List.all_cons, List.all_nil, List.any_cons, List.any_nil, List.contains_cons, List.contains_nil, List.elem_cons, List.elem_nil, List.cons_append, List.nil_append, List.append_nil, List.flatMap_cons, List.flatMap_nil, List.zip_cons_cons, List.zip_nil_left, List.zip_nil_right, List.take_succ_cons, List.take_zero, List.take_nil, List.drop_succ_cons, List.drop_zero, List.drop_nil, List.isEmpty_nil, List.isEmpty_cons, Bool.and_true, Bool.true_and, Bool.or_true, Bool.true_or, Bool.or_false, Bool.false_or, Bool.not_true, Bool.not_false, Nat.reduceAdd, Nat.reduceSub, Nat.reduceLeDiff, Nat.add_zero, Nat.zero_add, Nat.reduceMul, Option.isNone_none, Option.isNone_some, Option.getD_none, true_and, and_true, not_true_eq_false, not_false_eq_true, decide_true, decide_false, List.toList_toArray, Nat.le_refl, and_self, Bool.not_eq_true, Nat.sub_self, or_true, true_or, Option.some.injEq, List.length_map, List.nil_eq, and_false, false_and, AV.live, CV.live, CV.liveIn, firstReg, Option.orElse_some, Option.orElse_none, head, keepSlots, keepBoxes, Int.lt_irrefl, List.length_append, ite_self, memOK, logOps, opKey, lentBoxes, Key.clash, Key.sees, Key.writes, Nat.lt_irrefl, gt_iff_lt, nobox_at, bot_at, false_or, or_false, beq_self_eq_true, Bool.true_beq, Bool.false_beq, region0, K0_own, K0_P, hr, h0, d1, d2, hv, K0_good3]
      · rw [h3] at hv
        obtain ⟨e2, e4, elast⟩ := encode_facts r h3 (by omega)
        have hsz : (Utf8.encode r).size = (Utf8.encode r).data.toList.length := Lib.size_eq _
        have hlast : ∃ c : UInt8, (Utf8.encode r).data.toList[(Utf8.encode r).data.toList.length - 1]? = some c ∧ 128 ≤ c.toNat := by
          have hx : (Utf8.encode r).data.toList.length - 1 < (Utf8.encode r).data.toList.length := by omega
          refine ⟨_, List.getElem?_eq_getElem hx, ?_⟩
          have := elast (by rw [hsz]; exact hx)
          have e : (Utf8.encode r)[(Utf8.encode r).size - 1]'(by rw [hsz]; exact hx) = (Utf8.encode r).data.toList[(Utf8.encode r).data.toList.length - 1]'hx := by
            simp only [hsz]; rfl
          rw [e] at this
          exact this
        rw [hsz] at e2 e4
        clear elast hsz
        generalize ht : (Utf8.encode r).data.toList = t at e2 e4 hlast
        obtain ⟨c, hl, hc⟩ := hlast
        have hneg : decide ((-1 : Int) < 0) = true := by decide
        have hcb : (c.toNat : Int).toNat.toUInt8 = c := by simp
        have hm : ∀ l : List UInt8, (∀ b ∈ l, b.toNat < 128) → Lib.indexByte l c = -1 := fun l => miss_high hc l
        have hy : ∀ l : List UInt8, (∀ b ∈ l, b.toNat < 128) → den K0 65 [.c (.pv (.str l)), .c (.pv (.int .u8 c.toNat))] [] = some (.ret (.c (.pv (.int .i64 (-1)))) []) := fun l hl => by
          rw [byte0_den, hcb, hm l hl]
        have hne : ∀ b : UInt8, b.toNat < 128 → ((b.toNat : Int) != (c.toNat : Int)) = true := fun b hb => by rw [bne_iff_ne]; omega
        have w1 : IntKind.i64.wrap 1 = 1 := by decide
        have w2 : IntKind.i64.wrap 2 = 2 := by decide
        have w3 : IntKind.i64.wrap 3 = 3 := by decide
        have w4 : IntKind.i64.wrap 4 = 4 := by decide
        have y1 := hy [13] (by decide)
        have y2 := hy [] (by simp)
        have n1 : ((12 : Int) = (c.toNat : Int)) = False := eq_false (by omega)
        have n2 : ((13 : Int) = (c.toNat : Int)) = False := eq_false (by omega)
        simp only [exL_seq, exL_cond, exL_block, exL_scope, exL_ret, exL_skip, exL_exit, runRegion, runOps, stepOp, guardA, absOp, takeOver, opd, avOf, cvOf, St.degAt, St.put, okPV, okVal, okAV, absBin, intBin, strBin, boolBin, setBoxes, if_true, Bool.false_eq_true, if_false, Option.map_some, Option.map_none, Option.bind_some, Option.bind_none, thenO, outOf, upd, List.toList_toArray, isOwn, steal, appArgs, inApps, AV.deg, CV.deg, AV.gv, AV.isIter, absNext, some_bne, Nat.reduceLT, reduceIte, reduceCtorEq, Nat.reduceEqDiff, List.length_nil, List.length_cons, apply_ite (Option.map (outOf _)), List.filterMap_cons, List.filterMap_nil, beq_iff_eq, List.getElem?_cons_zero, List.getElem?_cons_succ, Option.getD_some, Nat.reduceBEq, Bool.false_and, Bool.and_false, Bool.and_self, absCall, doCall, getBoxes, lend, back, idx, dedup, AV.ren, CV.ren, TV.ren, AV.ptrs, CV.ptrs, zipBox, AV.flat, CV.flat, absLoad, absStore, cellsOfAV, setAt, newBox, markB, bldTypes, absFieldAddr, absField, absExtract, absAssert, noAssert, absMkIface, ifcOf, CV.pv?, content, pushHead, ownT, fillCells, reps, pvs, chunks, enterSt, leave, resOf, resVars, resVar, outBoxes, lentOnly, TV.deg, TV.av, LK, CV.plain, CV.noBld, nilBin, absUn, bound, List.map_cons, List.map_nil, List.all_cons, List.all_nil, List.any_cons, List.any_nil, List.contains_cons, List.contains_nil, List.elem_cons, List.elem_nil, List.cons_append, List.nil_append, List.append_nil, List.flatMap_cons, List.flatMap_nil, List.zip_cons_cons, List.zip_nil_left, List.zip_nil_right, List.take_succ_cons, List.take_zero, List.take_nil, List.drop_succ_cons, List.drop_zero, List.drop_nil, List.isEmpty_nil, List.isEmpty_cons, Bool.and_true, Bool.true_and, Bool.or_true, Bool.true_or, Bool.or_false, Bool.false_or, Bool.not_true, Bool.not_false, Nat.reduceAdd, Nat.reduceSub, Nat.reduceLeDiff, Nat.add_zero, Nat.zero_add, Nat.reduceMul, Option.isNone_none, Option.isNone_some, Option.getD_none, true_and, and_true, not_true_eq_false, not_false_eq_true, decide_true, decide_false, List.toList_toArray, Nat.le_refl, and_self, Bool.not_eq_true, Nat.sub_self, or_true, true_or, Option.some.injEq, List.length_map, List.nil_eq, and_false, false_and, AV.live, CV.live, CV.liveIn, firstReg, Option.orElse_some, Option.orElse_none, head, keepSlots, keepBoxes, Int.lt_irrefl, List.length_append, ite_self, memOK, logOps, opKey, lentBoxes, Key.clash, Key.sees, Key.writes, Nat.lt_irrefl, gt_iff_lt, nobox_at, bot_at, false_or, or_false, beq_self_eq_true, Bool.true_beq, Bool.false_beq, region0, K0_own, K0_P, hr, h0, d1, d2, hv, K0_good3, ev_conv_rune K0_rune K0_str, ht, ev_len_str K0_str]
        rw [exL_loop]
        rcases t with _ | ⟨a, _ | ⟨b, _ | ⟨d, _ | ⟨e, _ | ⟨e', t⟩⟩⟩⟩⟩
        · exact absurd e2 (by rw [List.length_nil]; omega)
        · exact absurd e2 (by rw [List.length_cons, List.length_nil]; omega)
        ·
          obtain rfl : b = c := by simpa using hl
          simp [exL_seq, exL_cond, exL_block, exL_scope, exL_ret, exL_skip, exL_exit, runRegion, runOps, stepOp, guardA, absOp, takeOver, opd, avOf, cvOf, St.degAt, St.put, okPV, okVal, okAV, absBin, intBin, strBin, boolBin, setBoxes, if_true, Bool.false_eq_true, if_false, Option.map_some, Option.map_none, Option.bind_some, Option.bind_none, thenO, outOf, upd, List.toList_toArray, isOwn, steal, appArgs, inApps, AV.deg, CV.deg, AV.gv, AV.isIter, absNext, some_bne, Nat.reduceLT, reduceIte, reduceCtorEq, Nat.reduceEqDiff, List.length_nil, List.length_cons, apply_ite (Option.map (outOf _)), List.filterMap_cons, List.filterMap_nil, beq_iff_eq, List.getElem?_cons_zero, List.getElem?_cons_succ, Option.getD_some, Nat.reduceBEq, Bool.false_and, Bool.and_false, Bool.and_self, absCall, doCall, getBoxes, lend, back, idx, dedup, AV.ren, CV.ren, TV.ren, AV.ptrs, CV.ptrs, zipBox, AV.flat, CV.flat, absLoad, absStore, cellsOfAV, setAt, newBox, markB, bldTypes, absFieldAddr, absField, absExtract, absAssert, noAssert, absMkIface, ifcOf, CV.pv?, content, pushHead, ownT, fillCells, reps, pvs, chunks, enterSt, leave, resOf, resVars, resVar, outBoxes, lentOnly, TV.deg, TV.av, LK, CV.plain, CV.noBld, nilBin, absUn, bound, List.map_cons, List.map_nil, List.all_cons, List.all_nil, List.any_cons, List.any_nil, List.contains_cons, List.contains_nil, List.elem_cons, List.elem_nil, List.cons_append, List.nil_append, List.append_nil, List.flatMap_cons, List.flatMap_nil, List.zip_cons_cons, List.zip_nil_left, List.zip_nil_right, List.take_succ_cons, List.take_zero, List.take_nil, List.drop_succ_cons, List.drop_zero, List.drop_nil, List.isEmpty_nil, List.isEmpty_cons, Bool.and_true, Bool.true_and, Bool.or_true, Bool.true_or, Bool.or_false, Bool.false_or, Bool.not_true, Bool.not_false, Nat.reduceAdd, Nat.reduceSub, Nat.reduceLeDiff, Nat.add_zero, Nat.zero_add, Nat.reduceMul, Option.isNone_none, Option.isNone_some, Option.getD_none, true_and, and_true, not_true_eq_false, not_false_eq_true, decide_true, decide_false, List.toList_toArray, Nat.le_refl, and_self, Bool.not_eq_true, Nat.sub_self, or_true, true_or, Option.some.injEq, List.length_map, List.nil_eq, and_false, false_and, AV.live, CV.live, CV.liveIn, firstReg, Option.orElse_some, Option.orElse_none, head, keepSlots, keepBoxes, Int.lt_irrefl, List.length_append, ite_self, memOK, logOps, opKey, lentBoxes, Key.clash, Key.sees, Key.writes, Nat.lt_irrefl, gt_iff_lt, nobox_at, bot_at, false_or, or_false, beq_self_eq_true, Bool.true_beq, Bool.false_beq, region0, K0_own, K0_keep, K0_keep5, K0_P, hr, K0_good4, ev_len_str K0_str, ev_index K0_str, ev_slice_str K0_str, w1, w2, w3, w4, y1, y2, n1, n2, hneg, reach, endsL]
        ·
          obtain rfl : d = c := by simpa using hl
          simp [exL_seq, exL_cond, exL_block, exL_scope, exL_ret, exL_skip, exL_exit, runRegion, runOps, stepOp, guardA, absOp, takeOver, opd, avOf, cvOf, St.degAt, St.put, okPV, okVal, okAV, absBin, intBin, strBin, boolBin, setBoxes, if_true, Bool.false_eq_true, if_false, Option.map_some, Option.map_none, Option.bind_some, Option.bind_none, thenO, outOf, upd, List.toList_toArray, isOwn, steal, appArgs, inApps, AV.deg, CV.deg, AV.gv, AV.isIter, absNext, some_bne, Nat.reduceLT, reduceIte, reduceCtorEq, Nat.reduceEqDiff, List.length_nil, List.length_cons, apply_ite (Option.map (outOf _)), List.filterMap_cons, List.filterMap_nil, beq_iff_eq, List.getElem?_cons_zero, List.getElem?_cons_succ, Option.getD_some, Nat.reduceBEq, Bool.false_and, Bool.and_false, Bool.and_self, absCall, doCall, getBoxes, lend, back, idx, dedup, AV.ren, CV.ren, TV.ren, AV.ptrs, CV.ptrs, zipBox, AV.flat, CV.flat, absLoad, absStore, cellsOfAV, setAt, newBox, markB, bldTypes, absFieldAddr, absField, absExtract, absAssert, noAssert, absMkIface, ifcOf, CV.pv?, content, pushHead, ownT, fillCells, reps, pvs, chunks, enterSt, leave, resOf, resVars, resVar, outBoxes, lentOnly, TV.deg, TV.av, LK, CV.plain, CV.noBld, nilBin, absUn, bound, List.map_cons, List.map_nil, List.all_cons, List.all_nil, List.any_cons, List.any_nil, List.contains_cons, List.contains_nil, List.elem_cons, List.elem_nil, List.cons_append, List.nil_append, List.append_nil, List.flatMap_cons, List.flatMap_nil, List.zip_cons_cons, List.zip_nil_left, List.zip_nil_right, List.take_succ_cons, List.take_zero, List.take_nil, List.drop_succ_cons, List.drop_zero, List.drop_nil, List.isEmpty_nil, List.isEmpty_cons, Bool.and_true, Bool.true_and, Bool.or_true, Bool.true_or, Bool.or_false, Bool.false_or, Bool.not_true, Bool.not_false, Nat.reduceAdd, Nat.reduceSub, Nat.reduceLeDiff, Nat.add_zero, Nat.zero_add, Nat.reduceMul, Option.isNone_none, Option.isNone_some, Option.getD_none, true_and, and_true, not_true_eq_false, not_false_eq_true, decide_true, decide_false, List.toList_toArray, Nat.le_refl, and_self, Bool.not_eq_true, Nat.sub_self, or_true, true_or, Option.some.injEq, List.length_map, List.nil_eq, and_false, false_and, AV.live, CV.live, CV.liveIn, firstReg, Option.orElse_some, Option.orElse_none, head, keepSlots, keepBoxes, Int.lt_irrefl, List.length_append, ite_self, memOK, logOps, opKey, lentBoxes, Key.clash, Key.sees, Key.writes, Nat.lt_irrefl, gt_iff_lt, nobox_at, bot_at, false_or, or_false, beq_self_eq_true, Bool.true_beq, Bool.false_beq, region0, K0_own, K0_keep, K0_keep5, K0_P, hr, K0_good4, ev_len_str K0_str, ev_index K0_str, ev_slice_str K0_str, w1, w2, w3, w4, y1, y2, n1, n2, hneg, reach, endsL]
        ·
          obtain rfl : e = c := by simpa using hl
          simp [exL_seq, exL_cond, exL_block, exL_scope, exL_ret, exL_skip, exL_exit, runRegion, runOps, stepOp, guardA, absOp, takeOver, opd, avOf, cvOf, St.degAt, St.put, okPV, okVal, okAV, absBin, intBin, strBin, boolBin, setBoxes, if_true, Bool.false_eq_true, if_false, Option.map_some, Option.map_none, Option.bind_some, Option.bind_none, thenO, outOf, upd, List.toList_toArray, isOwn, steal, appArgs, inApps, AV.deg, CV.deg, AV.gv, AV.isIter, absNext, some_bne, Nat.reduceLT, reduceIte, reduceCtorEq, Nat.reduceEqDiff, List.length_nil, List.length_cons, apply_ite (Option.map (outOf _)), List.filterMap_cons, List.filterMap_nil, beq_iff_eq, List.getElem?_cons_zero, List.getElem?_cons_succ, Option.getD_some, Nat.reduceBEq, Bool.false_and, Bool.and_false, Bool.and_self, absCall, doCall, getBoxes, lend, back, idx, dedup, AV.ren, CV.ren, TV.ren, AV.ptrs, CV.ptrs, zipBox, AV.flat, CV.flat, absLoad, absStore, cellsOfAV, setAt, newBox, markB, bldTypes, absFieldAddr, absField, absExtract, absAssert, noAssert, absMkIface, ifcOf, CV.pv?, content, pushHead, ownT, fillCells, reps, pvs, chunks, enterSt, leave, resOf, resVars, resVar, outBoxes, lentOnly, TV.deg, TV.av, LK, CV.plain, CV.noBld, nilBin, absUn, bound, List.map_cons, List.map_nil, List.all_cons, List.all_nil, List.any_cons, List.any_nil, List.contains_cons, List.contains_nil, List.elem_cons, List.elem_nil, List.cons_append, List.nil_append, List.append_nil, List.flatMap_cons, List.flatMap_nil, List.zip_cons_cons, List.zip_nil_left, List.zip_nil_right, List.take_succ_cons, List.take_zero, List.take_nil, List.drop_succ_cons, List.drop_zero, List.drop_nil, List.isEmpty_nil, List.isEmpty_cons, Bool.and_true, Bool.true_and, Bool.or_true, Bool.true_or, Bool.or_false, Bool.false_or, Bool.not_true, Bool.not_false, Nat.reduceAdd, Nat.reduceSub, Nat.reduceLeDiff, Nat.add_zero, Nat.zero_add, Nat.reduceMul, Option.isNone_none, Option.isNone_some, Option.getD_none, true_and, and_true, not_true_eq_false, not_false_eq_true, decide_true, decide_false, List.toList_toArray, Nat.le_refl, and_self, Bool.not_eq_true, Nat.sub_self, or_true, true_or, Option.some.injEq, List.length_map, List.nil_eq, and_false, false_and, AV.live, CV.live, CV.liveIn, firstReg, Option.orElse_some, Option.orElse_none, head, keepSlots, keepBoxes, Int.lt_irrefl, List.length_append, ite_self, memOK, logOps, opKey, lentBoxes, Key.clash, Key.sees, Key.writes, Nat.lt_irrefl, gt_iff_lt, nobox_at, bot_at, false_or, or_false, beq_self_eq_true, Bool.true_beq, Bool.false_beq, region0, K0_own, K0_keep, K0_keep5, K0_P, hr, K0_good4, ev_len_str K0_str, ev_index K0_str, ev_slice_str K0_str, w1, w2, w3, w4, y1, y2, n1, n2, hneg, reach, endsL]
        · exact absurd e4 (by simp only [List.length_cons]; omega)
end Go.Abs
namespace Go.Abs
open Go Go.Proofs
set_option maxRecDepth 10000
theorem decode_width (s : ByteArray) (pos : Nat) (h : pos < s.size) : pos + (Utf8.decode s pos).2 ≤ s.size := by
  simp only [Utf8.decode]
  repeat' split
  all_goals simp_all
  all_goals omega
theorem decode_bytes (s : ByteArray) (pos : Nat) (h : pos < s.size) (ha : 128 ≤ (s[pos]'h).toNat) : ∀ j, pos ≤ j → j < pos + (Utf8.decode s pos).2 → 128 ≤ (s.get! j).toNat := by
  have hn : ¬ (s[pos]'h).toNat < 128 := by omega
  have h0 : 128 ≤ (s.get! pos).toNat := by have := get_at s pos h; rw [Nat.add_zero] at this; rw [this]; exact ha
  intro j h1 h2
  obtain ⟨k, rfl⟩ : ∃ k, j = pos + k := ⟨j - pos, by omega⟩
  have h3 : k < (Utf8.decode s pos).2 := by omega
  clear h1 h2
  simp only [Utf8.decode, get_at s pos h, hn, if_false] at h3
  have key : k = 0 ∨ k = 1 ∧ (s.get! (pos + 1)).toNat / 64 = 2 ∨ k = 2 ∧ (s.get! (pos + 2)).toNat / 64 = 2 ∨ k = 3 ∧ (s.get! (pos + 3)).toNat / 64 = 2 := by
    revert h3
    repeat' split
    all_goals simp_all
    all_goals omega
  rcases key with rfl | ⟨rfl, e⟩ | ⟨rfl, e⟩ | ⟨rfl, e⟩
  · exact h0
  all_goals omega
theorem decode_at (s : List UInt8) (pos : Nat) (h : pos < s.length) : ∃ (r wd : Nat), Utf8.decode ⟨s.toArray⟩ pos = (r, wd) ∧ 1 ≤ wd ∧ pos + wd ≤ s.length ∧ r ≤ 2147483647 ∧
    ((r < 128 ∧ wd = 1 ∧ ∃ b, s[pos]? = some b ∧ b.toNat = r) ∨ (128 ≤ r ∧ ∀ j b, pos ≤ j → j < pos + wd → s[j]? = some b → 128 ≤ b.toNat)) := by
  have hs : (⟨s.toArray⟩ : ByteArray).size = s.length := by simp [ByteArray.size]
  have hp : pos < (⟨s.toArray⟩ : ByteArray).size := by rw [hs]; exact h
  have hb : s[pos]? = some ((⟨s.toArray⟩ : ByteArray)[pos]'hp) := by
    rw [List.getElem?_eq_getElem h]; rfl
  have hw := decode_width ⟨s.toArray⟩ pos hp
  have hle := decode_le ⟨s.toArray⟩ pos
  rw [hs] at hw
  by_cases hc : ((⟨s.toArray⟩ : ByteArray)[pos]'hp).toNat < 128
  · have e := decode_ascii ⟨s.toArray⟩ pos hp hc
    refine ⟨_, _, e, Nat.le_refl _, by omega, by omega, .inl ⟨hc, rfl, _, hb, rfl⟩⟩
  · have e := decode_high ⟨s.toArray⟩ pos hp (by omega)
    refine ⟨_, _, rfl, e.2, hw, hle, .inr ⟨e.1, fun j b h1 h2 hj => ?_⟩⟩
    have h3 := decode_bytes ⟨s.toArray⟩ pos hp (by omega) j h1 h2
    have h4 : (⟨s.toArray⟩ : ByteArray).get! j = b := by
      have hlt : j < s.length := (List.getElem?_eq_some_iff.1 hj).1
      have := get_at ⟨s.toArray⟩ j (by rw [hs]; exact hlt)
      rw [Nat.add_zero] at this
      rw [this]
      rw [List.getElem?_eq_getElem hlt] at hj
      exact Option.some.inj hj
    rw [h4] at h3
    exact h3
theorem NoAny_more {s chars : List UInt8} {i j : Nat} (h : Lib.NoAny s chars i) (h2 : ∀ k b, i ≤ k → k < j → s[k]? = some b → chars.contains b = false) : Lib.NoAny s chars j := fun k b hk hb => by
  by_cases hki : k < i
  · exact h k b hki hb
  · exact h2 k b (by omega) hk hb
def findLoop0 (r : Nat) : Code → Option Code
  | .loop a => bif Nat.beq ((firstReg a).getD 0) r then some a else findLoop0 r a
  | .seq a b => (findLoop0 r a).orElse fun _ => findLoop0 r b
  | .cond _ a b => (findLoop0 r a).orElse fun _ => findLoop0 r b
  | .block _ a => findLoop0 r a
  | .scope a => findLoop0 r a
  | _ => none
def loopAt0 (fn : Func) (r : Nat) : Code := ((fn.body.bind (findLoop0 r))).getD .skip
abbrev anyH (s : List UInt8) (i : Nat) : St := { sl := upd (upd bot 45 (.c (.iter s i))) 1 (.c (.pv (.str endsL))), bx := nobox, nt := 55 }
theorem high_not {b : UInt8} (h : 128 ≤ b.toNat) : endsL.contains b = false := by
  cases hc : endsL.contains b
  · rfl
  · have : b ∈ endsL := by simpa using hc
    have : b = 10 ∨ b = 12 ∨ b = 13 := by simpa [endsL] using this
    rcases this with rfl | rfl | rfl <;> exact absurd h (by decide)
theorem any0_loop (s : List UInt8) (h8 : s.length ≤ 8) : ∀ (k i : Nat) (S : St), s.length - i ≤ k → i ≤ s.length → head ([1, 45], []) S = anyH s i → Lib.NoAny s endsL i →
    Ends (exL K0 97 (.loop (loopAt0 Tryz.f97 18)) S) fun o S => (o = .ret ∧ S.sl 4 = .c (.pv (.int .i64 (Lib.indexAny s endsL))) ∨ Lib.indexAny s endsL = -1 ∧ o = .exit 2) ∧ S.nt = 55 := by
  intro k
  induction k with
  | zero =>
    intro i S hk hi hS hno
    obtain rfl : i = s.length := by omega
    have e := Lib.indexAny_none hno
    conv in loopAt0 _ _ => whnf
    rw [exL_loop]
    simp only [firstReg, Option.orElse_some, Option.getD_some, K0_keep, K0_keep18, hS]
    simp only [exL_seq, exL_cond, exL_block, exL_scope, exL_ret, exL_skip, exL_exit, runRegion, runOps, stepOp, guardA, absOp, takeOver, opd, avOf, cvOf, St.degAt, St.put, okPV, okVal, okAV, absBin, intBin, strBin, boolBin, setBoxes, if_true, Bool.false_eq_true, if_false, Option.map_some, Option.map_none, Option.bind_some, Option.bind_none, thenO, outOf, upd, List.toList_toArray, isOwn, steal, appArgs, inApps, AV.deg, CV.deg, AV.gv, AV.isIter, absNext, some_bne, Nat.reduceLT, reduceIte, reduceCtorEq, Nat.reduceEqDiff, List.length_nil, List.length_cons, apply_ite (Option.map (outOf _)), List.filterMap_cons, List.filterMap_nil, beq_iff_eq, List.getElem?_cons_zero, List.getElem?_cons_succ, Option.getD_some, Nat.reduceBEq, Bool.false_and, Bool.and_false, Bool.and_self, absCall, doCall, getBoxes, lend, back, idx, dedup, AV.ren, CV.ren, TV.ren, AV.ptrs, CV.ptrs, zipBox, AV.flat, CV.flat, absLoad, absStore, cellsOfAV, setAt, newBox, markB, bldTypes, absFieldAddr, absField, absExtract, absAssert, noAssert, absMkIface, ifcOf, CV.pv?, content, pushHead, ownT, fillCells, reps, pvs, chunks, enterSt, leave, resOf, resVars, resVar, outBoxes, lentOnly, TV.deg, TV.av, LK, CV.plain, CV.noBld, nilBin, absUn, bound, List.map_cons, List.map_nil, List.all_cons, List.all_nil, List.any_cons, List.any_nil, List.contains_cons, List.contains_nil, List.elem_cons, List.elem_nil, List.cons_append, List.nil_append, List.append_nil, List.flatMap_cons, List.flatMap_nil, List.zip_cons_cons, List.zip_nil_left, List.zip_nil_right, List.take_succ_cons, List.take_zero, List.take_nil, List.drop_succ_cons, List.drop_zero, List.drop_nil, List.isEmpty_nil, List.isEmpty_cons, Bool.and_true, Bool.true_and, Bool.or_true, Bool.true_or, Bool.or_false, Bool.false_or, Bool.not_true, Bool.not_false, Nat.reduceAdd, Nat.reduceSub, Nat.reduceLeDiff, Nat.add_zero, Nat.zero_add, Nat.reduceMul, Option.isNone_none, Option.isNone_some, Option.getD_none, true_and, and_true, not_true_eq_false, not_false_eq_true, decide_true, decide_false, List.toList_toArray, Nat.le_refl, and_self, Bool.not_eq_true, Nat.sub_self, or_true, true_or, Option.some.injEq, List.length_map, List.nil_eq, and_false, false_and, AV.live, CV.live, CV.liveIn, firstReg, Option.orElse_some, Option.orElse_none, head, keepSlots, keepBoxes, Int.lt_irrefl, List.length_append, ite_self, memOK, logOps, opKey, lentBoxes, Key.clash, Key.sees, Key.writes, Nat.lt_irrefl, gt_iff_lt, nobox_at, bot_at, false_or, or_false, beq_self_eq_true, Bool.true_beq, Bool.false_beq, region0, K0_own, K0_keep, K0_P, ends_some, e]
  | succ k ih =>
    intro i S hk hi hS hno
    by_cases hlt : i < s.length
    case neg => exact ih i S (by omega) hi hS hno
    obtain ⟨r, wd, hd, hw1, hw2, hr, hcase⟩ := decode_at s i hlt
    have hit : iterNext s i = i + wd := by unfold iterNext; rw [hd]
    have hr0 : (0 : Int) ≤ (r : Int) ∧ (r : Int) ≤ 2147483647 := by omega
    have hru := rune0_den (r : Int) hr0
    obtain ⟨v, hv⟩ : ∃ v, (if (r : Int) < 128 then Lib.indexByte endsL (r : Int).toNat.toUInt8 else -1) = v := ⟨_, rfl⟩
    rw [hv] at hru
    have ih' := ih (i + wd)
    conv at ih' in loopAt0 _ _ => whnf
    conv in loopAt0 _ _ => whnf
    rw [exL_loop]
    simp only [firstReg, Option.orElse_some, Option.getD_some, K0_keep, K0_keep18, hS]
    cases hdec : decide (0 ≤ v)
    · have hno' : Lib.NoAny s endsL (i + wd) := by
        refine NoAny_more hno fun j b h1 h2 hj => ?_
        rcases hcase with ⟨hr1, rfl, b', hb', hbr⟩ | ⟨hr1, hall⟩
        · obtain rfl : j = i := by omega
          rw [hj] at hb'
          cases hb'
          rw [if_pos (by omega)] at hv
          have hback : ((r : Int)).toNat.toUInt8 = b := by rw [← hbr]; simp
          rw [hback] at hv
          rw [Lib.contains_iff_indexByte, hv, hdec]
        · exact high_not (hall j b h1 h2 hj)
      simp only [exL_seq, exL_cond, exL_block, exL_scope, exL_ret, exL_skip, exL_exit, runRegion, runOps, stepOp, guardA, absOp, takeOver, opd, avOf, cvOf, St.degAt, St.put, okPV, okVal, okAV, absBin, intBin, strBin, boolBin, setBoxes, if_true, Bool.false_eq_true, if_false, Option.map_some, Option.map_none, Option.bind_some, Option.bind_none, thenO, outOf, upd, List.toList_toArray, isOwn, steal, appArgs, inApps, AV.deg, CV.deg, AV.gv, AV.isIter, absNext, some_bne, Nat.reduceLT, reduceIte, reduceCtorEq, Nat.reduceEqDiff, List.length_nil, List.length_cons, apply_ite (Option.map (outOf _)), List.filterMap_cons, List.filterMap_nil, beq_iff_eq, List.getElem?_cons_zero, List.getElem?_cons_succ, Option.getD_some, Nat.reduceBEq, Bool.false_and, Bool.and_false, Bool.and_self, absCall, doCall, getBoxes, lend, back, idx, dedup, AV.ren, CV.ren, TV.ren, AV.ptrs, CV.ptrs, zipBox, AV.flat, CV.flat, absLoad, absStore, cellsOfAV, setAt, newBox, markB, bldTypes, absFieldAddr, absField, absExtract, absAssert, noAssert, absMkIface, ifcOf, CV.pv?, content, pushHead, ownT, fillCells, reps, pvs, chunks, enterSt, leave, resOf, resVars, resVar, outBoxes, lentOnly, TV.deg, TV.av, LK, CV.plain, CV.noBld, nilBin, absUn, bound, List.map_cons, List.map_nil, List.all_cons, List.all_nil, List.any_cons, List.any_nil, List.contains_cons, List.contains_nil, List.elem_cons, List.elem_nil, List.cons_append, List.nil_append, List.append_nil, List.flatMap_cons, List.flatMap_nil, List.zip_cons_cons, List.zip_nil_left, List.zip_nil_right, List.take_succ_cons, List.take_zero, List.take_nil, List.drop_succ_cons, List.drop_zero, List.drop_nil, List.isEmpty_nil, List.isEmpty_cons, Bool.and_true, Bool.true_and, Bool.or_true, Bool.true_or, Bool.or_false, Bool.false_or, Bool.not_true, Bool.not_false, Nat.reduceAdd, Nat.reduceSub, Nat.reduceLeDiff, Nat.add_zero, Nat.zero_add, Nat.reduceMul, Option.isNone_none, Option.isNone_some, Option.getD_none, true_and, and_true, not_true_eq_false, not_false_eq_true, decide_true, decide_false, List.toList_toArray, Nat.le_refl, and_self, Bool.not_eq_true, Nat.sub_self, or_true, true_or, Option.some.injEq, List.length_map, List.nil_eq, and_false, false_and, AV.live, CV.live, CV.liveIn, firstReg, Option.orElse_some, Option.orElse_none, head, keepSlots, keepBoxes, Int.lt_irrefl, List.length_append, ite_self, memOK, logOps, opKey, lentBoxes, Key.clash, Key.sees, Key.writes, Nat.lt_irrefl, gt_iff_lt, nobox_at, bot_at, false_or, or_false, beq_self_eq_true, Bool.true_beq, Bool.false_beq, region0, K0_own, K0_keep, K0_P, K0_good2, hlt, hd, hit, hru, hdec]
      refine ih' _ (by omega) hw2 ?_ hno'
      rfl
    · have hgo : Lib.indexAny s endsL = (i : Int) := by
        rcases hcase with ⟨hr1, rfl, b', hb', hbr⟩ | ⟨hr1, hall⟩
        · rw [if_pos (by omega)] at hv
          have hback : ((r : Int)).toNat.toUInt8 = b' := by rw [← hbr]; simp
          rw [hback] at hv
          exact Lib.indexAny_hit hno hb' (by rw [Lib.contains_iff_indexByte, hv, hdec])
        · rw [if_neg (by omega)] at hv
          rw [← hv] at hdec
          cases hdec
      simp only [exL_seq, exL_cond, exL_block, exL_scope, exL_ret, exL_skip, exL_exit, runRegion, runOps, stepOp, guardA, absOp, takeOver, opd, avOf, cvOf, St.degAt, St.put, okPV, okVal, okAV, absBin, intBin, strBin, boolBin, setBoxes, if_true, Bool.false_eq_true, if_false, Option.map_some, Option.map_none, Option.bind_some, Option.bind_none, thenO, outOf, upd, List.toList_toArray, isOwn, steal, appArgs, inApps, AV.deg, CV.deg, AV.gv, AV.isIter, absNext, some_bne, Nat.reduceLT, reduceIte, reduceCtorEq, Nat.reduceEqDiff, List.length_nil, List.length_cons, apply_ite (Option.map (outOf _)), List.filterMap_cons, List.filterMap_nil, beq_iff_eq, List.getElem?_cons_zero, List.getElem?_cons_succ, Option.getD_some, Nat.reduceBEq, Bool.false_and, Bool.and_false, Bool.and_self, absCall, doCall, getBoxes, lend, back, idx, dedup, AV.ren, CV.ren, TV.ren, AV.ptrs, CV.ptrs, zipBox, AV.flat, CV.flat, absLoad, absStore, cellsOfAV, setAt, newBox, markB, bldTypes, absFieldAddr, absField, absExtract, absAssert, noAssert, absMkIface, ifcOf, CV.pv?, content, pushHead, ownT, fillCells, reps, pvs, chunks, enterSt, leave, resOf, resVars, resVar, outBoxes, lentOnly, TV.deg, TV.av, LK, CV.plain, CV.noBld, nilBin, absUn, bound, List.map_cons, List.map_nil, List.all_cons, List.all_nil, List.any_cons, List.any_nil, List.contains_cons, List.contains_nil, List.elem_cons, List.elem_nil, List.cons_append, List.nil_append, List.append_nil, List.flatMap_cons, List.flatMap_nil, List.zip_cons_cons, List.zip_nil_left, List.zip_nil_right, List.take_succ_cons, List.take_zero, List.take_nil, List.drop_succ_cons, List.drop_zero, List.drop_nil, List.isEmpty_nil, List.isEmpty_cons, Bool.and_true, Bool.true_and, Bool.or_true, Bool.true_or, Bool.or_false, Bool.false_or, Bool.not_true, Bool.not_false, Nat.reduceAdd, Nat.reduceSub, Nat.reduceLeDiff, Nat.add_zero, Nat.zero_add, Nat.reduceMul, Option.isNone_none, Option.isNone_some, Option.getD_none, true_and, and_true, not_true_eq_false, not_false_eq_true, decide_true, decide_false, List.toList_toArray, Nat.le_refl, and_self, Bool.not_eq_true, Nat.sub_self, or_true, true_or, Option.some.injEq, List.length_map, List.nil_eq, and_false, false_and, AV.live, CV.live, CV.liveIn, firstReg, Option.orElse_some, Option.orElse_none, head, keepSlots, keepBoxes, Int.lt_irrefl, List.length_append, ite_self, memOK, logOps, opKey, lentBoxes, Key.clash, Key.sees, Key.writes, Nat.lt_irrefl, gt_iff_lt, nobox_at, bot_at, false_or, or_false, beq_self_eq_true, Bool.true_beq, Bool.false_beq, region0, K0_own, K0_keep, K0_P, K0_good2, hlt, hd, hit, hru, hdec, ends_some, hgo]
theorem any0_den (s : List UInt8) (h8 : s.length ≤ 8) : den K0 97 [.c (.pv (.str s)), .c (.pv (.str endsL))] [] = some (.ret (.c (.pv (.int .i64 (Lib.indexAny s endsL)))) []) := by
  have hr : Tryz.f97.results = #[.tmp 4] := rfl
  have hu := use0_den (s.length : Int)
  have h8d : decide ((8 : Int) < (s.length : Int)) = false := decide_eq_false (by omega)
  rw [h8d] at hu
  have hloop := any0_loop s h8 s.length 0
  conv at hloop in loopAt0 _ _ => whnf
  refine den_run0 rfl Tryz.func97 rfl Tryz.ntmps97 ⟨by simp, by simp [LK]⟩ ?_
  have e0 : (endsL == []) = false := by decide
  have e1 : (((3 : Nat) : Int) == 1) = false := by decide
  simp only [exL_seq, exL_cond, exL_block, exL_scope, exL_ret, exL_skip, exL_exit, runRegion, runOps, stepOp, guardA, absOp, takeOver, opd, avOf, cvOf, St.degAt, St.put, okPV, okVal, okAV, absBin, intBin, strBin, boolBin, setBoxes, if_true, Bool.false_eq_true, if_false, Option.map_some, Option.map_none, Option.bind_some, Option.bind_none, thenO, outOf, upd, List.toList_toArray, isOwn, steal, appArgs, inApps, AV.deg, CV.deg, AV.gv, AV.isIter, absNext, some_bne, Nat.reduceLT, reduceIte, reduceCtorEq, Nat.reduceEqDiff, List.length_nil, List.length_cons, apply_ite (Option.map (outOf _)), List.filterMap_cons, List.filterMap_nil, beq_iff_eq, List.getElem?_cons_zero, List.getElem?_cons_succ, Option.getD_some, Nat.reduceBEq, Bool.false_and, Bool.and_false, Bool.and_self, absCall, doCall, getBoxes, lend, back, idx, dedup, AV.ren, CV.ren, TV.ren, AV.ptrs, CV.ptrs, zipBox, AV.flat, CV.flat, absLoad, absStore, cellsOfAV, setAt, newBox, markB, bldTypes, absFieldAddr, absField, absExtract, absAssert, noAssert, absMkIface, ifcOf, CV.pv?, content, pushHead, ownT, fillCells, reps, pvs, chunks, enterSt, leave, resOf, resVars, resVar, outBoxes, lentOnly, TV.deg, TV.av, LK, CV.plain, CV.noBld, nilBin, absUn, bound, List.map_cons, List.map_nil, List.all_cons, List.all_nil, List.any_cons, List.any_nil, List.contains_cons, List.contains_nil, List.elem_cons, List.elem_nil, List.cons_append, List.nil_append, List.append_nil, List.flatMap_cons, List.flatMap_nil, List.zip_cons_cons, List.zip_nil_left, List.zip_nil_right, List.take_succ_cons, List.take_zero, List.take_nil, List.drop_succ_cons, List.drop_zero, List.drop_nil, List.isEmpty_nil, List.isEmpty_cons, Bool.and_true, Bool.true_and, Bool.or_true, Bool.true_or, Bool.or_false, Bool.false_or, Bool.not_true, Bool.not_false, Nat.reduceAdd, Nat.reduceSub, Nat.reduceLeDiff, Nat.add_zero, Nat.zero_add, Nat.reduceMul, Option.isNone_none, Option.isNone_some, Option.getD_none, true_and, and_true, not_true_eq_false, not_false_eq_true, decide_true, decide_false, List.toList_toArray, Nat.le_refl, and_self, Bool.not_eq_true, Nat.sub_self, or_true, true_or, Option.some.injEq, List.length_map, List.nil_eq, and_false, false_and, AV.live, CV.live, CV.liveIn, firstReg, Option.orElse_some, Option.orElse_none, head, keepSlots, keepBoxes, Int.lt_irrefl, List.length_append, ite_self, memOK, logOps, opKey, lentBoxes, Key.clash, Key.sees, Key.writes, Nat.lt_irrefl, gt_iff_lt, nobox_at, bot_at, false_or, or_false, beq_self_eq_true, Bool.true_beq, Bool.false_beq, region0, K0_own, K0_keep, K0_P, K0_good1, hr, hu, ev_len_str K0_str, ev_range K0_str, e0, e1]
  obtain ⟨o, S', e, hq, hn⟩ := hloop (anyH s 0) (by omega) (Nat.zero_le _) rfl (Lib.NoAny.zero _ _)
  rw [exL_loop] at e ⊢
  simp only [firstReg, Option.orElse_some, Option.getD_some, K0_keep, K0_keep18] at e ⊢
  rw [show head ([1, 45], []) (anyH s 0) = anyH s 0 from rfl] at e
  simp only [head, keepSlots, keepBoxes, upd, AV.live, CV.live, reduceIte, Nat.reduceEqDiff]
  erw [e]
  rcases hq with ⟨rfl, hv⟩ | ⟨hv, rfl⟩
  · simp only [exL_seq, exL_cond, exL_block, exL_scope, exL_ret, exL_skip, exL_exit, runRegion, runOps, stepOp, guardA, absOp, takeOver, opd, avOf, cvOf, St.degAt, St.put, okPV, okVal, okAV, absBin, intBin, strBin, boolBin, setBoxes, if_true, Bool.false_eq_true, if_false, Option.map_some, Option.map_none, Option.bind_some, Option.bind_none, thenO, outOf, upd, List.toList_toArray, isOwn, steal, appArgs, inApps, AV.deg, CV.deg, AV.gv, AV.isIter, absNext, some_bne, Nat.reduceLT, reduceIte, reduceCtorEq, Nat.reduceEqDiff, List.length_nil, List.length_cons, apply_ite (Option.map (outOf _)), List.filterMap_cons, List.filterMap_nil, beq_iff_eq, List.getElem?_cons_zero, List.getElem?_cons_succ, Option.getD_some, Nat.reduceBEq, Bool.false_and, Bool.and_false, Bool.and_self, absCall, doCall, getBoxes, lend, back, idx, dedup, AV.ren, CV.ren, TV.ren, AV.ptrs, CV.ptrs, zipBox, AV.flat, CV.flat, absLoad, absStore, cellsOfAV, setAt, newBox, markB, bldTypes, absFieldAddr, absField, absExtract, absAssert, noAssert, absMkIface, ifcOf, CV.pv?, content, pushHead, ownT, fillCells, reps, pvs, chunks, enterSt, leave, resOf, resVars, resVar, outBoxes, lentOnly, TV.deg, TV.av, LK, CV.plain, CV.noBld, nilBin, absUn, bound, List.map_cons, List.map_nil, List.all_cons, List.all_nil, List.any_cons, List.any_nil, List.contains_cons, List.contains_nil, List.elem_cons, List.elem_nil, List.cons_append, List.nil_append, List.append_nil, List.flatMap_cons, List.flatMap_nil, List.zip_cons_cons, List.zip_nil_left, List.zip_nil_right, List.take_succ_cons, List.take_zero, List.take_nil, List.drop_succ_cons, List.drop_zero, List.drop_nil, List.isEmpty_nil, List.isEmpty_cons, Bool.and_true, Bool.true_and, Bool.or_true, Bool.true_or, Bool.or_false, Bool.false_or, Bool.not_true, Bool.not_false, Nat.reduceAdd, Nat.reduceSub, Nat.reduceLeDiff, Nat.add_zero, Nat.zero_add, Nat.reduceMul, Option.isNone_none, Option.isNone_some, Option.getD_none, true_and, and_true, not_true_eq_false, not_false_eq_true, decide_true, decide_false, List.toList_toArray, Nat.le_refl, and_self, Bool.not_eq_true, Nat.sub_self, or_true, true_or, Option.some.injEq, List.length_map, List.nil_eq, and_false, false_and, AV.live, CV.live, CV.liveIn, firstReg, Option.orElse_some, Option.orElse_none, head, keepSlots, keepBoxes, Int.lt_irrefl, List.length_append, ite_self, memOK, logOps, opKey, lentBoxes, Key.clash, Key.sees, Key.writes, Nat.lt_irrefl, gt_iff_lt, nobox_at, bot_at, false_or, or_false, beq_self_eq_true, Bool.true_beq, Bool.false_beq, region0, K0_own, K0_keep, K0_P, hr, hv]
  · simp only [exL_seq, exL_cond, exL_block, exL_scope, exL_ret, exL_skip, exL_exit, runRegion, runOps, stepOp, guardA, absOp, takeOver, opd, avOf, cvOf, St.degAt, St.put, okPV, okVal, okAV, absBin, intBin, strBin, boolBin, setBoxes, if_true, Bool.false_eq_true, if_false, Option.map_some, Option.map_none, Option.bind_some, Option.bind_none, thenO, outOf, upd, List.toList_toArray, isOwn, steal, appArgs, inApps, AV.deg, CV.deg, AV.gv, AV.isIter, absNext, some_bne, Nat.reduceLT, reduceIte, reduceCtorEq, Nat.reduceEqDiff, List.length_nil, List.length_cons, apply_ite (Option.map (outOf _)), List.filterMap_cons, List.filterMap_nil, beq_iff_eq, List.getElem?_cons_zero, List.getElem?_cons_succ, Option.getD_some, Nat.reduceBEq, Bool.false_and, Bool.and_false, Bool.and_self, absCall, doCall, getBoxes, lend, back, idx, dedup, AV.ren, CV.ren, TV.ren, AV.ptrs, CV.ptrs, zipBox, AV.flat, CV.flat, absLoad, absStore, cellsOfAV, setAt, newBox, markB, bldTypes, absFieldAddr, absField, absExtract, absAssert, noAssert, absMkIface, ifcOf, CV.pv?, content, pushHead, ownT, fillCells, reps, pvs, chunks, enterSt, leave, resOf, resVars, resVar, outBoxes, lentOnly, TV.deg, TV.av, LK, CV.plain, CV.noBld, nilBin, absUn, bound, List.map_cons, List.map_nil, List.all_cons, List.all_nil, List.any_cons, List.any_nil, List.contains_cons, List.contains_nil, List.elem_cons, List.elem_nil, List.cons_append, List.nil_append, List.append_nil, List.flatMap_cons, List.flatMap_nil, List.zip_cons_cons, List.zip_nil_left, List.zip_nil_right, List.take_succ_cons, List.take_zero, List.take_nil, List.drop_succ_cons, List.drop_zero, List.drop_nil, List.isEmpty_nil, List.isEmpty_cons, Bool.and_true, Bool.true_and, Bool.or_true, Bool.true_or, Bool.or_false, Bool.false_or, Bool.not_true, Bool.not_false, Nat.reduceAdd, Nat.reduceSub, Nat.reduceLeDiff, Nat.add_zero, Nat.zero_add, Nat.reduceMul, Option.isNone_none, Option.isNone_some, Option.getD_none, true_and, and_true, not_true_eq_false, not_false_eq_true, decide_true, decide_false, List.toList_toArray, Nat.le_refl, and_self, Bool.not_eq_true, Nat.sub_self, or_true, true_or, Option.some.injEq, List.length_map, List.nil_eq, and_false, false_and, AV.live, CV.live, CV.liveIn, firstReg, Option.orElse_some, Option.orElse_none, head, keepSlots, keepBoxes, Int.lt_irrefl, List.length_append, ite_self, memOK, logOps, opKey, lentBoxes, Key.clash, Key.sees, Key.writes, Nat.lt_irrefl, gt_iff_lt, nobox_at, bot_at, false_or, or_false, beq_self_eq_true, Bool.true_beq, Bool.false_beq, region0, K0_own, K0_keep, K0_P, hr, hv, hn]
end Go.Abs
namespace Go.Abs
open Go Go.Proofs Go.RowKit
def pIndexAny : Prim
  | [.c (.pv (.str s)), .c (.pv (.str p))], [] => if p = [10, 12, 13] ∧ s.length < 4294967281 then some (.c (.pv (.int .i64 (Lib.indexAny s p))), []) else none
  | _, _ => none
def goodB0 (P : Program) (f : Nat) : Bool :=
  match P.funcs[f]? with
  | some fn => fn.name != "runtime.NumGoroutine" && (match fn.body with | some c => codeOK (fun _ => false) c | none => false)
  | none => false
theorem goods0_ok : [97, 103, 102, 111, 65].all (goodB0 Tryz.prog) = true := by kernel_rfl
theorem K0_prog : Prog K0 := by
  refine ⟨by kernel_rfl, fun g hg => ?_, fun f F args bxs x _ hF hx => ?_, fun f F args bxs r call _ hF => by cases hF⟩
  · have h1 : g ∈ [97, 103, 102, 111, 65] := by simpa [K0] using hg
    have h2 := List.all_eq_true.1 goods0_ok g h1
    unfold goodB0 at h2
    split at h2
    · rename_i fn hfn
      simp only [Bool.and_eq_true] at h2
      obtain ⟨h3, h4⟩ := h2
      split at h4
      · rename_i c hc
        exact ⟨fn, c, hfn, by simpa using h3, hc, h4⟩
      · cases h4
    · cases h2
  · have h2 : pr0 f = some F := hF
    unfold pr0 at h2
    split at h2
    · rename_i hf
      cases h2
      have : f = 65 := by simpa using hf
      subst this
      exact pIndexByte_ok hx
    · cases h2
theorem h116 : (Tryz.prog.info? 121).map (fun i => (i.zero, i.size)) = some (some (.agg (Array.replicate 256 (.bool false))), 256) := by kernel_rfl
theorem pIndexAny_ok {args : List AV} {bxs : List (List CV)} {x : AV × List (List CV)} (h : pIndexAny args bxs = some x) : Contract Tryz.prog 97 args bxs (.ret x.1 x.2) := by
  unfold pIndexAny at h
  split at h
  case h_2 => cases h
  rename_i s p
  split at h
  case isFalse => cases h
  rename_i hs
  cases h
  obtain ⟨rfl, hs⟩ := hs
  by_cases h8 : s.length ≤ 8
  · exact den_ok K0_prog (by rfl) (any0_den s h8)
  · refine contract_data fun G w cargs hw hargs => ?_
    obtain ⟨x, y, rfl, hx, hy⟩ := args_two hargs
    cases hx.strv
    cases hy.strv
    have hsz : (⟨s.toArray⟩ : ByteArray).size = s.length := by simp [ByteArray.size]
    refine (Tryz.strings_IndexAny_long (zero_of_info h116).1 ⟨s.toArray⟩ ⟨([10, 12, 13] : List UInt8).toArray⟩ w (by decide) (by rw [hsz]; omega) (by rw [hsz]; exact hs) (by decide) ?_).mono ?_
    · intro j b hb
      have : b ∈ ([10, 12, 13] : List UInt8) := List.mem_of_getElem? hb
      have : b = 10 ∨ b = 12 ∨ b = 13 := by simpa using this
      rcases this with rfl | rfl | rfl <;> decide
    · rintro e w' ⟨rfl, rfl⟩
      exact ⟨_, rfl, .int _ _, ((Below.refl _ _).alloc (Nat.le_refl _) _).alloc (by simp) _⟩
end Go.Abs
namespace Go.Abs
open Go Go.Proofs
def keepL : List (Nat × Nat × List Nat × List Nat) := [
  (25, 2, [3], [6]),
  (27, 3, [0, 3, 4], []),
  (36, 3, [0, 3, 6, 7, 8], [3]),
  (38, 3, [0, 3, 4], []),
  (40, 2, [0, 3], []),
  (45, 5, [0, 4, 6], [4]),
  (81, 5, [5, 15, 16, 17], []),
  (13, 2, [0, 3, 4], []),
  (13, 4, [0, 3, 4], []),
  (10, 4, [0, 1, 5, 6, 7], []),
  (68, 2, [0, 1, 2, 7], [100000]),
  (72, 6, [0, 2, 3, 4, 29], [100000]),
  (75, 2, [0, 5], []),
  (77, 2, [0, 1, 5], []),
  (78, 1, [0, 1], []),
  (80, 4, [0, 1, 4, 6, 7], [4]),
  (44, 2, [0, 2, 3, 8, 9], [8, 9]),
  (95, 15, [0, 1, 5, 6, 7, 8, 9, 10], []),
  (97, 12, [0, 6, 8], [6]),
  (97, 18, [1, 45], []),
  (108, 1, [0, 1, 4], []),
  (109, 11, [0, 1, 3, 4, 10, 11, 12, 13, 14, 15, 16], [12]),
  (109, 18, [0, 1, 3, 4, 10, 11, 12, 13, 17], [12]),
  (101, 5, [0, 1, 5, 6, 7, 8, 9], []),
  (101, 11, [0, 1, 5, 6, 7, 8, 10], []),
  (102, 5, [0, 7, 8, 9], []),
  (102, 12, [0, 7, 8, 9, 12], []),
  (102, 25, [0, 7, 8, 9, 14, 15], []),
  (102, 29, [0, 7, 8, 9, 14, 15, 16], []),
  (102, 38, [175], []),
  (104, 2, [0, 2, 4], [2]),
  (110, 3, [0, 4, 5], []),
  (110, 8, [4, 6, 7, 8], []),
  (11, 4, [0, 1, 5], []),
  (37, 3, [3, 8, 9, 10], []),
  (39, 3, [0, 3, 4], []),
  (23, 4, [0, 1, 2, 7], []),
  (42, 2, [0, 1, 2, 7], [100000, 100001]),
  (12, 1, [0], []),
  (12, 3, [0], []),
  (14, 4, [0, 1, 5], []),
  (16, 3, [1, 5, 8, 9, 10], []),
  (17, 3, [0, 1, 5, 6], []),
  (19, 4, [0, 3, 4, 5], []),
  (1000000, 0, [], [])]
def keepF (f r : Nat) : List Nat × List Nat := match keepL.find? (fun x => x.1 == f && x.2.1 == r) with | some x => x.2.2 | none => ([], [])
def prL : List (Nat × Prim) := [
  (63, pHasPrefix),
  (65, pIndexByte),
  (88, pIndex),
  (97, pIndexAny),
  (83, pItoa),
  (82, pCopyCheck),
  (52, pString),
  (53, pPairs),
  (85, pOpens),
  (24, pParse),
  (30, pClone),
  (15, pAt),
  (18, pWords),
  (1000000, fun _ _ => none)]
def prF (f : Nat) : Option Prim := (prL.find? (fun x => x.1 == f)).map (·.2)
def hpL : List (Nat × (List AV → List (List CV) → Plan)) := [
  (1000000, fun _ _ => .fail)]
def hpF (f : Nat) : Option (List AV → List (List CV) → Plan) := (hpL.find? (fun x => x.1 == f)).map (·.2)
def hookB (f i : Nat) : Bool := f == 1000000 && i == 6
def ownB (f : Nat) : Bool := f == 53
def goodB (P : Program) (f : Nat) : Bool :=
  match P.funcs[f]? with
  | some fn => fn.name != "runtime.NumGoroutine" && (match fn.body with | some c => codeOK (hookB f) c | none => false)
  | none => false
def goods : List Nat := [3, 4, 5, 6, 7, 8, 9, 10, 11, 12, 13, 14, 15, 16, 17, 18, 19, 20, 21, 22, 23, 24, 25, 26, 27, 28, 29, 30, 31, 32, 33, 34, 35, 36, 37, 38, 39, 40, 41, 42, 43, 44, 45, 46, 47, 48, 49, 50, 51, 52, 53, 54, 55, 56, 57, 58, 59, 60, 61, 62, 63, 64, 65, 66, 67, 68, 69, 70, 71, 72, 73, 74, 75, 76, 77, 78, 79, 80, 81, 82, 83, 84, 85, 86, 87, 88, 89, 90, 91, 92, 94, 95, 97, 98, 100, 101, 102, 103, 104, 105, 106, 107, 108, 109, 110, 111, 112, 113, 114, 115, 116, 117, 118]
theorem goods_ok : goods.all (goodB Tryz.prog) = true := by kernel_rfl
noncomputable def K : Cfg := { P := Tryz.prog, pr := prF, keep := keepF, ownRet := ownB, good := goods.contains, hook := hookB, hp := hpF }
theorem K_prog : Prog K := by
  refine ⟨by kernel_rfl, fun g hg => ?_, fun f F args bxs x _ hF hx => ?_, fun f F args bxs r call _ hF hc hr => ?_⟩
  · have h1 : g ∈ goods := by simpa [K] using hg
    have h2 := List.all_eq_true.1 goods_ok g h1
    unfold goodB at h2
    split at h2
    · rename_i fn hfn
      simp only [Bool.and_eq_true] at h2
      obtain ⟨h3, h4⟩ := h2
      split at h4
      · rename_i c hc
        exact ⟨fn, c, hfn, by simpa using h3, hc, h4⟩
      · cases h4
    · cases h2
  · have h1 : ∀ y ∈ prL, ∀ args bxs x, y.2 args bxs = some x → Contract Tryz.prog y.1 args bxs (.ret x.1 x.2) := by
      intro y hy
      simp only [prL, List.mem_cons, List.not_mem_nil, or_false] at hy
      repeat' (first | (rcases hy with rfl | hy) | (cases hy))
      all_goals first
        | exact fun _ _ _ h => pContains_ok h
        | exact fun _ _ _ h => pHasPrefix_ok h
        | exact fun _ _ _ h => pIndexByte_ok h
        | exact fun _ _ _ h => pIndex_ok h
        | exact fun _ _ _ h => pIndexAny_ok h
        | exact fun _ _ _ h => pItoa_ok h
        | exact fun _ _ _ h => pJoin_ok h
        | exact fun _ _ _ h => pCopyCheck_ok h
        | exact fun _ _ _ h => pString_ok h
        | exact fun _ _ _ h => pLow_ok h
        | exact fun _ _ _ h => pPairs_ok h
        | exact fun _ _ _ h => pOpens_ok h
        | exact fun _ _ _ h => pParse_ok h
        | exact fun _ _ _ h => pClone_ok h
        | exact fun _ _ _ h => pAt_ok h
        | exact fun _ _ _ h => pWords_ok h
        | exact fun _ _ _ h => by cases h
    have h2 : prF f = some F := hF
    unfold prF at h2
    rw [Option.map_eq_some_iff] at h2
    obtain ⟨y, hy, rfl⟩ := h2
    have h3 := List.mem_of_find?_eq_some hy
    have h4 : y.1 = f := by simpa using List.find?_some hy
    rw [← h4]
    exact h1 y h3 args bxs x hx
  · have h1 : ∀ y ∈ hpL, ∀ args bxs r, (y.2 args bxs).run call = some r → Contract Tryz.prog y.1 args bxs r := by
      intro y hy
      simp only [hpL, List.mem_cons, List.not_mem_nil, or_false] at hy
      repeat' (first | (rcases hy with rfl | hy) | (cases hy))
      all_goals first
        | exact fun _ _ _ h => by cases h
    have h2 : hpF f = some F := hF
    unfold hpF at h2
    rw [Option.map_eq_some_iff] at h2
    obtain ⟨y, hy, rfl⟩ := h2
    have h3 := List.mem_of_find?_eq_some hy
    have h4 : y.1 = f := by simpa using List.find?_some hy
    rw [← h4]
    exact h1 y h3 args bxs r hr
end Go.Abs
namespace Go.Abs
open Go Go.Proofs
theorem ty_shapeT_3 : shapeT Tryz.prog 3 = Option.some Option.none := by kernel_rfl
theorem ty_szOf_3 : szOf Tryz.prog 3 = Option.some 1 := by kernel_rfl
theorem ty_descOf_3 : descOf Tryz.prog 3 = Option.some (Go.Abs.Desc.int Go.IntKind.i64) := by kernel_rfl
theorem ty_shapeT_4 : shapeT Tryz.prog 4 = Option.some Option.none := by kernel_rfl
theorem ty_szOf_4 : szOf Tryz.prog 4 = Option.some 1 := by kernel_rfl
theorem ty_szOf_5 : szOf Tryz.prog 5 = Option.some 1 := by kernel_rfl
theorem ty_zeroCells_5 : zeroCells Tryz.prog 5 = Option.some [Go.Abs.CV.pv (Go.Abs.PV.int Go.IntKind.u8 0)] := by kernel_rfl
theorem ty_descOf_5 : descOf Tryz.prog 5 = Option.some (Go.Abs.Desc.int Go.IntKind.u8) := by kernel_rfl
theorem ty_isU8_5 : isU8 Tryz.prog 5 = Bool.true := by kernel_rfl
theorem ty_shapeT_9 : shapeT Tryz.prog 9 = Option.some Option.none := by kernel_rfl
theorem ty_szOf_9 : szOf Tryz.prog 9 = Option.some 1 := by kernel_rfl
theorem ty_descOf_9 : descOf Tryz.prog 9 = Option.some Go.Abs.Desc.str := by kernel_rfl
theorem ty_descOf_21 : descOf Tryz.prog 21 = Option.some (Go.Abs.Desc.int Go.IntKind.i32) := by kernel_rfl
theorem ty_shapeT_22 : shapeT Tryz.prog 22 = Option.some Option.none := by kernel_rfl
theorem ty_szOf_22 : szOf Tryz.prog 22 = Option.some 1 := by kernel_rfl
theorem ty_zeroCells_22 : zeroCells Tryz.prog 22 = Option.some [Go.Abs.CV.nils] := by kernel_rfl
theorem ty_appInfo_22 : appInfo Tryz.prog 22 = Option.some (47, 5) := by kernel_rfl
theorem ty_descOf_22 : descOf Tryz.prog 22 = Option.some (Go.Abs.Desc.sl 47 Bool.false) := by kernel_rfl
theorem ty_appInfo_28 : appInfo Tryz.prog 28 = Option.some (22, 1) := by kernel_rfl
theorem ty_descOf_28 : descOf Tryz.prog 28 = Option.some (Go.Abs.Desc.sl 22 Bool.false) := by kernel_rfl
theorem ty_shapeT_41 : shapeT Tryz.prog 41 = Option.some Option.none := by kernel_rfl
theorem ty_szOf_41 : szOf Tryz.prog 41 = Option.some 1 := by kernel_rfl
theorem ty_appInfo_41 : appInfo Tryz.prog 41 = Option.some (45, 3) := by kernel_rfl
theorem ty_descOf_41 : descOf Tryz.prog 41 = Option.some (Go.Abs.Desc.sl 45 Bool.false) := by kernel_rfl
theorem ty_shapeT_45 : shapeT Tryz.prog 45 = Option.some (Option.some 3) := by kernel_rfl
theorem ty_szOf_45 : szOf Tryz.prog 45 = Option.some 3 := by kernel_rfl
theorem ty_zeroCells_45 : zeroCells Tryz.prog 45 = Option.some [Go.Abs.CV.pv (Go.Abs.PV.int Go.IntKind.i64 0), Go.Abs.CV.pv (Go.Abs.PV.str []), Go.Abs.CV.pv (Go.Abs.PV.int Go.IntKind.i64 0)] := by kernel_rfl
theorem ty_placesOf_45 : placesOf Tryz.prog 45 = Option.some [(0, 1), (1, 1), (2, 1)] := by kernel_rfl
theorem ty_fieldOff_45_0 : fieldOff Tryz.prog 45 0 = Option.some (0, 3) := by kernel_rfl
theorem ty_fieldOff_45_1 : fieldOff Tryz.prog 45 1 = Option.some (1, 9) := by kernel_rfl
theorem ty_fieldOff_45_2 : fieldOff Tryz.prog 45 2 = Option.some (2, 3) := by kernel_rfl
theorem ty_shapeT_47 : shapeT Tryz.prog 47 = Option.some (Option.some 5) := by kernel_rfl
theorem ty_szOf_47 : szOf Tryz.prog 47 = Option.some 5 := by kernel_rfl
theorem ty_zeroCells_47 : zeroCells Tryz.prog 47 = Option.some [Go.Abs.CV.pv (Go.Abs.PV.int Go.IntKind.i64 0), Go.Abs.CV.pv (Go.Abs.PV.int Go.IntKind.i64 0), Go.Abs.CV.pv (Go.Abs.PV.str []), Go.Abs.CV.pv (Go.Abs.PV.int Go.IntKind.i64 0), Go.Abs.CV.nils] := by kernel_rfl
theorem ty_placesOf_47 : placesOf Tryz.prog 47 = Option.some [(0, 1), (1, 3), (4, 1)] := by kernel_rfl
theorem ty_fieldOff_47_0 : fieldOff Tryz.prog 47 0 = Option.some (0, 3) := by kernel_rfl
theorem ty_fieldOff_47_1 : fieldOff Tryz.prog 47 1 = Option.some (1, 45) := by kernel_rfl
theorem ty_fieldOff_47_2 : fieldOff Tryz.prog 47 2 = Option.some (4, 22) := by kernel_rfl
theorem ty_zeroCells_58 : zeroCells Tryz.prog 58 = Option.some [] := by kernel_rfl
theorem ty_placesOf_58 : placesOf Tryz.prog 58 = Option.some [] := by kernel_rfl
theorem ty_concreteT_58 : concreteT Tryz.prog 58 = Bool.true := by kernel_rfl
theorem ty_fieldOff_62_0 : fieldOff Tryz.prog 62 0 = Option.some (0, 41) := by kernel_rfl
theorem ty_fieldOff_62_1 : fieldOff Tryz.prog 62 1 = Option.some (1, 3) := by kernel_rfl
theorem ty_shapeT_65 : shapeT Tryz.prog 65 = Option.some Option.none := by kernel_rfl
theorem ty_szOf_65 : szOf Tryz.prog 65 = Option.some 1 := by kernel_rfl
theorem ty_descOf_65 : descOf Tryz.prog 65 = Option.some Go.Abs.Desc.str := by kernel_rfl
theorem ty_zeroCells_67 : zeroCells Tryz.prog 67 = Option.some [Go.Abs.CV.pv (Go.Abs.PV.str []), Go.Abs.CV.nils] := by kernel_rfl
theorem ty_placesOf_67 : placesOf Tryz.prog 67 = Option.some [(0, 1), (1, 1)] := by kernel_rfl
theorem ty_fieldOff_67_0 : fieldOff Tryz.prog 67 0 = Option.some (0, 65) := by kernel_rfl
theorem ty_fieldOff_67_1 : fieldOff Tryz.prog 67 1 = Option.some (1, 41) := by kernel_rfl
theorem ty_shapeT_69 : shapeT Tryz.prog 69 = Option.some (Option.some 3) := by kernel_rfl
theorem ty_szOf_69 : szOf Tryz.prog 69 = Option.some 3 := by kernel_rfl
theorem ty_zeroCells_69 : zeroCells Tryz.prog 69 = Option.some [Go.Abs.CV.nils, Go.Abs.CV.pv (Go.Abs.PV.int Go.IntKind.i64 0), Go.Abs.CV.pv (Go.Abs.PV.bool Bool.false)] := by kernel_rfl
theorem ty_placesOf_69 : placesOf Tryz.prog 69 = Option.some [(0, 1), (1, 1), (2, 1)] := by kernel_rfl
theorem ty_fieldOff_69_0 : fieldOff Tryz.prog 69 0 = Option.some (0, 22) := by kernel_rfl
theorem ty_fieldOff_69_1 : fieldOff Tryz.prog 69 1 = Option.some (1, 3) := by kernel_rfl
theorem ty_fieldOff_69_2 : fieldOff Tryz.prog 69 2 = Option.some (2, 4) := by kernel_rfl
theorem ty_shapeT_76 : shapeT Tryz.prog 76 = Option.some Option.none := by kernel_rfl
theorem ty_szOf_76 : szOf Tryz.prog 76 = Option.some 1 := by kernel_rfl
theorem ty_appInfo_76 : appInfo Tryz.prog 76 = Option.some (5, 1) := by kernel_rfl
theorem ty_descOf_76 : descOf Tryz.prog 76 = Option.some (Go.Abs.Desc.sl 5 Bool.true) := by kernel_rfl
theorem ty_zeroCells_78 : zeroCells Tryz.prog 78 = Option.some [Go.Abs.CV.nilp, Go.Abs.CV.nils] := by kernel_rfl
theorem ty_fieldOff_78_1 : fieldOff Tryz.prog 78 1 = Option.some (1, 76) := by kernel_rfl
theorem ty_szOf_87 : szOf Tryz.prog 87 = Option.some 2 := by kernel_rfl
theorem ty_zeroCells_87 : zeroCells Tryz.prog 87 = Option.some [Go.Abs.CV.pv (Go.Abs.PV.str []), Go.Abs.CV.pv (Go.Abs.PV.str [])] := by kernel_rfl
theorem ty_fieldOff_87_0 : fieldOff Tryz.prog 87 0 = Option.some (0, 9) := by kernel_rfl
theorem ty_fieldOff_87_1 : fieldOff Tryz.prog 87 1 = Option.some (1, 9) := by kernel_rfl
theorem ty_isPtrT_94 : isPtrT Tryz.prog 94 = Bool.true := by kernel_rfl
theorem good_6 : K.good 6 = true := by kernel_rfl
theorem good_7 : K.good 7 = true := by kernel_rfl
theorem good_8 : K.good 8 = true := by kernel_rfl
theorem good_9 : K.good 9 = true := by kernel_rfl
theorem good_10 : K.good 10 = true := by kernel_rfl
theorem good_11 : K.good 11 = true := by kernel_rfl
theorem good_12 : K.good 12 = true := by kernel_rfl
theorem good_13 : K.good 13 = true := by kernel_rfl
theorem good_14 : K.good 14 = true := by kernel_rfl
theorem good_15 : K.good 15 = true := by kernel_rfl
theorem good_16 : K.good 16 = true := by kernel_rfl
theorem good_17 : K.good 17 = true := by kernel_rfl
theorem good_18 : K.good 18 = true := by kernel_rfl
theorem good_19 : K.good 19 = true := by kernel_rfl
theorem good_20 : K.good 20 = true := by kernel_rfl
theorem good_21 : K.good 21 = true := by kernel_rfl
theorem good_22 : K.good 22 = true := by kernel_rfl
theorem good_23 : K.good 23 = true := by kernel_rfl
theorem good_24 : K.good 24 = true := by kernel_rfl
theorem good_25 : K.good 25 = true := by kernel_rfl
theorem good_26 : K.good 26 = true := by kernel_rfl
theorem good_27 : K.good 27 = true := by kernel_rfl
theorem good_28 : K.good 28 = true := by kernel_rfl
theorem good_29 : K.good 29 = true := by kernel_rfl
theorem good_30 : K.good 30 = true := by kernel_rfl
theorem good_31 : K.good 31 = true := by kernel_rfl
theorem good_35 : K.good 35 = true := by kernel_rfl
theorem good_36 : K.good 36 = true := by kernel_rfl
theorem good_37 : K.good 37 = true := by kernel_rfl
theorem good_38 : K.good 38 = true := by kernel_rfl
theorem good_39 : K.good 39 = true := by kernel_rfl
theorem good_40 : K.good 40 = true := by kernel_rfl
theorem good_43 : K.good 43 = true := by kernel_rfl
theorem good_44 : K.good 44 = true := by kernel_rfl
theorem good_45 : K.good 45 = true := by kernel_rfl
theorem good_49 : K.good 49 = true := by kernel_rfl
theorem good_50 : K.good 50 = true := by kernel_rfl
theorem good_51 : K.good 51 = true := by kernel_rfl
theorem good_52 : K.good 52 = true := by kernel_rfl
theorem good_53 : K.good 53 = true := by kernel_rfl
theorem good_54 : K.good 54 = true := by kernel_rfl
theorem good_55 : K.good 55 = true := by kernel_rfl
theorem good_56 : K.good 56 = true := by kernel_rfl
theorem good_57 : K.good 57 = true := by kernel_rfl
theorem good_58 : K.good 58 = true := by kernel_rfl
theorem good_59 : K.good 59 = true := by kernel_rfl
theorem good_61 : K.good 61 = true := by kernel_rfl
theorem good_62 : K.good 62 = true := by kernel_rfl
theorem good_63 : K.good 63 = true := by kernel_rfl
theorem good_64 : K.good 64 = true := by kernel_rfl
theorem good_65 : K.good 65 = true := by kernel_rfl
theorem good_66 : K.good 66 = true := by kernel_rfl
theorem good_67 : K.good 67 = true := by kernel_rfl
theorem good_68 : K.good 68 = true := by kernel_rfl
theorem good_69 : K.good 69 = true := by kernel_rfl
theorem good_70 : K.good 70 = true := by kernel_rfl
theorem good_71 : K.good 71 = true := by kernel_rfl
theorem good_72 : K.good 72 = true := by kernel_rfl
theorem good_73 : K.good 73 = true := by kernel_rfl
theorem good_74 : K.good 74 = true := by kernel_rfl
theorem good_75 : K.good 75 = true := by kernel_rfl
theorem good_76 : K.good 76 = true := by kernel_rfl
theorem good_77 : K.good 77 = true := by kernel_rfl
theorem good_78 : K.good 78 = true := by kernel_rfl
theorem good_79 : K.good 79 = true := by kernel_rfl
theorem good_80 : K.good 80 = true := by kernel_rfl
theorem good_81 : K.good 81 = true := by kernel_rfl
theorem good_82 : K.good 82 = true := by kernel_rfl
theorem good_83 : K.good 83 = true := by kernel_rfl
theorem good_84 : K.good 84 = true := by kernel_rfl
theorem good_86 : K.good 86 = true := by kernel_rfl
theorem good_88 : K.good 88 = true := by kernel_rfl
theorem good_89 : K.good 89 = true := by kernel_rfl
theorem good_91 : K.good 91 = true := by kernel_rfl
theorem good_92 : K.good 92 = true := by kernel_rfl
theorem good_97 : K.good 97 = true := by kernel_rfl
theorem keep_25_2 : keepF 25 2 = ([3], [6]) := by kernel_rfl
theorem keep_27_3 : keepF 27 3 = ([0, 3, 4], []) := by kernel_rfl
theorem keep_36_3 : keepF 36 3 = ([0, 3, 6, 7, 8], [3]) := by kernel_rfl
theorem keep_38_3 : keepF 38 3 = ([0, 3, 4], []) := by kernel_rfl
theorem keep_40_2 : keepF 40 2 = ([0, 3], []) := by kernel_rfl
theorem keep_45_5 : keepF 45 5 = ([0, 4, 6], [4]) := by kernel_rfl
theorem keep_81_5 : keepF 81 5 = ([5, 15, 16, 17], []) := by kernel_rfl
theorem keep_13_2 : keepF 13 2 = ([0, 3, 4], []) := by kernel_rfl
theorem keep_13_4 : keepF 13 4 = ([0, 3, 4], []) := by kernel_rfl
theorem keep_10_4 : keepF 10 4 = ([0, 1, 5, 6, 7], []) := by kernel_rfl
theorem keep_68_2 : keepF 68 2 = ([0, 1, 2, 7], [100000]) := by kernel_rfl
theorem keep_72_6 : keepF 72 6 = ([0, 2, 3, 4, 29], [100000]) := by kernel_rfl
theorem keep_75_2 : keepF 75 2 = ([0, 5], []) := by kernel_rfl
theorem keep_77_2 : keepF 77 2 = ([0, 1, 5], []) := by kernel_rfl
theorem keep_78_1 : keepF 78 1 = ([0, 1], []) := by kernel_rfl
theorem keep_80_4 : keepF 80 4 = ([0, 1, 4, 6, 7], [4]) := by kernel_rfl
theorem keep_44_2 : keepF 44 2 = ([0, 2, 3, 8, 9], [8, 9]) := by kernel_rfl
theorem keep_11_4 : keepF 11 4 = ([0, 1, 5], []) := by kernel_rfl
theorem keep_37_3 : keepF 37 3 = ([3, 8, 9, 10], []) := by kernel_rfl
theorem keep_39_3 : keepF 39 3 = ([0, 3, 4], []) := by kernel_rfl
theorem keep_23_4 : keepF 23 4 = ([0, 1, 2, 7], []) := by kernel_rfl
theorem keep_12_1 : keepF 12 1 = ([0], []) := by kernel_rfl
theorem keep_12_3 : keepF 12 3 = ([0], []) := by kernel_rfl
theorem keep_14_4 : keepF 14 4 = ([0, 1, 5], []) := by kernel_rfl
theorem keep_16_3 : keepF 16 3 = ([1, 5, 8, 9, 10], []) := by kernel_rfl
theorem keep_17_3 : keepF 17 3 = ([0, 1, 5, 6], []) := by kernel_rfl
theorem keep_19_4 : keepF 19 4 = ([0, 3, 4, 5], []) := by kernel_rfl
end Go.Abs
namespace Go.Abs
def valueS (s : List UInt8) : List UInt8 := if 0 ≤ Lib.indexByte s 34 then 39 :: s ++ [39] else 34 :: s ++ [34]
def nthS (a b : Int) : List UInt8 := (if a = 0 then [] else Lib.itoa a ++ [110]) ++ (if a = 0 ∨ b < 0 then Lib.itoa b else if 0 < b then 43 :: Lib.itoa b else [])
inductive Sim where
  | mk (kind : Int) (name value : List UInt8) (a b : Int) (l : List Sim)
mutual
def simS : Sim → List UInt8
  | .mk k n v a b l =>
    if k = 1 then [42]
    else if k = 2 then n
    else if k = 3 then 35 :: n
    else if k = 4 then 46 :: n
    else if k = 5 then 91 :: (n ++ [93])
    else if k = 6 then 91 :: (n ++ 61 :: (valueS v ++ [93]))
    else if k = 7 then 58 :: n
    else if k = 8 then [58, 110, 116, 104, 45, 99, 104, 105, 108, 100, 40] ++ (nthS a b ++ [41])
    else if k = 9 then [58, 114, 111, 111, 116]
    else if k = 10 then [58, 101, 109, 112, 116, 121]
    else if k = 11 then [58, 110, 111, 116, 40] ++ (simsS l ++ [41])
    else []
def simsS : List Sim → List UInt8
  | [] => []
  | x :: l => simS x ++ simsS l
end
def Sim.kind : Sim → Int
  | .mk k _ _ _ _ _ => k
structure Prt where
  comb : Int
  l : List Sim
structure Cpx where
  parts : List Prt
  pseudo : List UInt8
namespace Sl
def isSign (s : List UInt8) : Val → Bool
  | .mk k t _ => k == 1 && decide (t = ⟨7, s, 0⟩)
def isBlank : Val → Bool
  | .mk k t _ => k == 1 && t.kind == 8
def trim (l : List Val) : List Val := ((l.dropWhile isBlank).reverse.dropWhile isBlank).reverse
def tokK (kind : Int) : List Val → Option Tok
  | .mk k t _ :: _ => if k = 1 ∧ t.kind = kind then some t else none
  | [] => none
def sign (s : List UInt8) : List Val → Option (List Val)
  | v :: r => if isSign s v then some r else none
  | [] => none
def name (l : List Val) : Option (List UInt8 × List Val) := (tokK 1 l).map fun t => (t.text, l.tail)
def valueK (kind : Int) : List Val → Option ((Tok × List Val) × List Val)
  | .mk k t c :: r => if k = kind then some ((t, c), r) else none
  | [] => none
def digits (s : List UInt8) : Int := if s.length < 1 ∨ 4 < s.length then -1 else if s.all Tk.digit then s.foldl (fun n c => 10 * n + ((c.toNat : Int) - 48)) 0 else -1
def nth1 (t : Tok) : Option (Int × Int) :=
  if t.kind = 1 then (if t.text = [111, 100, 100] then some (2, 1) else if t.text = [101, 118, 101, 110] then some (2, 0) else if t.text = [110] then some (1, 0) else none)
  else if t.kind = 5 then
    (if t.text = [] then some (0, t.n) else if t.text = [110] then some (t.n, 0)
     else if 2 < t.text.length ∧ t.text.take 2 = [110, 45] ∧ 0 ≤ digits (t.text.drop 2) then some (t.n, -digits (t.text.drop 2)) else none)
  else none
def nth (v : List Val) : Option (Int × Int) :=
  match trim v with
  | [.mk k t _] => if k = 1 then nth1 t else none
  | [.mk k t _, s, .mk k' u _] => if k = 1 ∧ t.kind = 5 ∧ t.text = [110] ∧ isSign [43] s = true ∧ k' = 1 ∧ u.kind = 5 ∧ u.text = [] ∧ 0 ≤ u.n then some (t.n, u.n) else none
  | _ => none
def few (n : Int) : Prop := -9999 ≤ n ∧ n ≤ 9999
instance (n : Int) : Decidable (few n) := by unfold few; infer_instance
def nthM (v : List Val) : Option (Int × Int) :=
  match nth v with
  | some x => if few x.1 ∧ few x.2 then some x else none
  | none => none
def attr (l : List Val) : Option Sim :=
  match l.filter (fun v => !isBlank v) with
  | [.mk k t _] => if k = 1 ∧ t.kind = 1 then some (.mk 5 t.text [] 0 0 []) else none
  | [.mk k t _, e, .mk k' u _] => if k = 1 ∧ t.kind = 1 ∧ isSign [61] e = true ∧ k' = 1 ∧ (u.kind = 1 ∨ u.kind = 6) then some (.mk 6 t.text u.text 0 0 []) else none
  | _ => none
def hoverT : List UInt8 := [104, 111, 118, 101, 114]
def focusT : List UInt8 := [102, 111, 99, 117, 115]
def activeT : List UInt8 := [97, 99, 116, 105, 118, 101]
def checkedT : List UInt8 := [99, 104, 101, 99, 107, 101, 100]
def rootT : List UInt8 := [114, 111, 111, 116]
def emptyT : List UInt8 := [101, 109, 112, 116, 121]
def firstT : List UInt8 := [102, 105, 114, 115, 116, 45, 99, 104, 105, 108, 100]
def nthT : List UInt8 := [110, 116, 104, 45, 99, 104, 105, 108, 100]
def notT : List UInt8 := [110, 111, 116]
def beforeT : List UInt8 := [98, 101, 102, 111, 114, 101]
def afterT : List UInt8 := [97, 102, 116, 101, 114]
def isState (s : List UInt8) : Prop := s = hoverT ∨ s = focusT ∨ s = activeT ∨ s = checkedT
instance (s : List UInt8) : Decidable (isState s) := by unfold isState; infer_instance
def colonName (s : List UInt8) : Option Sim :=
  if isState s then some (.mk 7 s [] 0 0 []) else if s = rootT then some (.mk 9 [] [] 0 0 []) else if s = emptyT then some (.mk 10 [] [] 0 0 [])
  else if s = firstT then some (.mk 8 [] [] 0 1 []) else none
def low1 (c : UInt8) : UInt8 := if 65 ≤ c.toNat ∧ c.toNat ≤ 90 then c + 32 else c
def low (s : List UInt8) : List UInt8 := s.map low1
def colon (g : List Val → Option (Sim × List Val)) (l : List Val) : Option (Sim × List Val) :=
  match valueK 5 l with
  | some ((t, c), r) =>
    if t.text = nthT then (nthM c).map fun x => (.mk 8 [] [] x.1 x.2 [], r)
    else if t.text = notT then
      (match g (trim c) with
       | some (x, []) => if x.kind = 11 then none else some (.mk 11 [] [] 0 0 [x], r)
       | _ => none)
    else none
  | none =>
    match name l with
    | some (s, r) => (colonName s).map fun x => (x, r)
    | none => none
def simple : Nat → Bool → List Val → Option (Sim × List Val)
  | 0, _, _ => none
  | f + 1, first, l =>
    match (if first then tokK 1 l else none) with
    | some t => some (.mk 2 (low t.text) [] 0 0 [], l.tail)
    | none =>
    match (if first then sign [42] l else none) with
    | some r => some (.mk 1 [] [] 0 0 [], r)
    | none =>
    match tokK 4 l with
    | some t => some (.mk 3 t.text [] 0 0 [], l.tail)
    | none =>
    match sign [46] l with
    | some r => (name r).map fun x => (.mk 4 x.1 [] 0 0 [], x.2)
    | none =>
    match sign [58] l with
    | some r => colon (simple f true) r
    | none =>
    match valueK 3 l with
    | some x => (attr x.1.2).map fun y => (y, x.2)
    | none => none
def over : List Val → Bool
  | [] => true
  | v :: _ => isBlank v || isSign [62] v || isSign [43] v || isSign [126] v
def double : List Val → Bool
  | v :: w :: _ => isSign [58] v && isSign [58] w
  | _ => false
def part : Nat → Bool → List Val → Option (List Sim × List Val)
  | 0, _, _ => none
  | f + 1, first, l =>
    if over l || double l then some ([], l)
    else match simple (Ne.size l) first l with
      | none => none
      | some (x, r) => (part f false r).map fun y => (x :: y.1, y.2)
def comb (l : List Val) : Int × List Val :=
  let m := l.dropWhile isBlank
  match sign [62] m with
  | some r => (2, r.dropWhile isBlank)
  | none =>
  match sign [43] m with
  | some r => (3, r.dropWhile isBlank)
  | none =>
  match sign [126] m with
  | some r => (4, r.dropWhile isBlank)
  | none => (1, m.dropWhile isBlank)
def cpx : Nat → Int → List Val → Option Cpx
  | 0, _, _ => none
  | n + 1, c, l =>
    match part (l.length + 1) true l with
    | none => none
    | some (ps, r) =>
      if double r then
        (match name (r.drop 2) with
         | some (s, []) => if (s = beforeT ∨ s = afterT) ∧ ps.length ≤ 8 then some ⟨[⟨c, ps⟩], s⟩ else none
         | _ => none)
      else if 8 < ps.length ∨ ps = [] then none
      else if r.isEmpty then some ⟨[⟨c, ps⟩], []⟩
      else (cpx n (comb r).1 (comb r).2).map fun x => ⟨⟨c, ps⟩ :: x.parts, x.pseudo⟩
def at_ (s : List UInt8) : List Val → List (List Val)
  | [] => [[]]
  | v :: l => if isSign s v then [] :: at_ s l else match at_ s l with
    | [] => [[v]]
    | p :: ps => (v :: p) :: ps
def all_ : List (List Val) → Option (List Cpx)
  | [] => some []
  | p :: ps => match cpx 16 0 (trim p), all_ ps with
    | some c, some cs => some (c :: cs)
    | _, _ => none
def parse (l : List Val) : Option (List Cpx) := if (at_ [44] l).length ≤ 32 then all_ (at_ [44] l) else none
def read (s : List UInt8) : Option (List Cpx) := (Ne.parse 60 (Tk.all s)).bind fun v => parse (trim v)
end Sl
end Go.Abs
namespace Go.Abs
open Go Go.Proofs
abbrev I (n : Int) : AV := .c (.pv (.int .i64 n))
abbrev T (l : List UInt8) : AV := .c (.pv (.str l))
abbrev B (b : Bool) : AV := .c (.pv (.bool b))
abbrev L (l : List (List PV)) : AV := .c (.pv (.sl l))
abbrev P0 : AV := .c (.loc 100000 0)
theorem den_run {f : FuncId} {fn : Func} {x : Code} {nt : Nat} {args : List AV} {bxs : List (List CV)} {r : Res} (hp : prF f = none) (hh : hpF f = none) (hf : Tryz.prog.funcs[f]? = some fn) (hx : fn.body = some x) (hn : fn.ntmps = nt)
    (hl : args.length ≤ nt ∧ nt < LK) (h : (exL K f x (enterSt nt args bxs)).bind (fun r => leave K f fn bxs.length (some r)) = some r) : den K f args bxs = some r := by
  rw [den_eq (K := K) hp hh hf hx, hn, if_pos hl]
  exact h
theorem K_own (f : FuncId) (h : (f == 53) = false) : K.ownRet f = false := h
theorem K_ownP : K.ownRet 53 = true := rfl
theorem K_hook (f i : Nat) : K.hook f i = hookB f i := rfl
theorem K_P : K.P = Tryz.prog := rfl
theorem K_keep (f r : Nat) : K.keep f r = keepF f r := rfl
theorem prim_run {f : FuncId} {F : Prim} {args : List AV} {bxs cs : List (List CV)} {v : AV} (h : prF f = some F) (hF : F args bxs = some (v, cs)) : den K f args bxs = some (.ret v cs) := by
  rw [den_prim (K := K) h, hF]; rfl
set_option maxRecDepth 10000
def bytesC (s : List UInt8) : List (List PV) := s.map fun b => [.int .u8 b.toNat]
inductive BS where
  | fresh
  | live
  | wr (s : List UInt8)
def BS.text : BS → List UInt8
  | .wr s => s
  | _ => []
theorem text_live : BS.live.text = [] := rfl
theorem text_wr (s : List UInt8) : (BS.wr s).text = s := rfl
def BS.cells (k : Nat) : BS → List CV
  | .fresh => [.bld, .nils]
  | .live => [.bld, .own 0 []]
  | .wr s => [.loc k 0, .own 5 (bytesC s)]
def txtLim : Nat := 4294967296
theorem bytesC_append (s t : List UInt8) : bytesC s ++ bytesC t = bytesC (s ++ t) := by simp [bytesC]
theorem bytesC_length (s : List UInt8) : (bytesC s).length = s.length := by simp [bytesC]
theorem lens_bytes (s : List UInt8) : lens 1 (bytesC s) = true := by simp [lens, bytesC]
theorem lens_nil (n : Nat) : lens n [] = true := rfl
theorem bytesC_map (s : List UInt8) : (s.map fun b => [PV.int .u8 b.toNat]) = bytesC s := rfl
theorem copyCheck_den (b : BS) : den K 82 [P0] [b.cells 100000] = some (.ret (.tup []) [match b.cells 100000 with | [_, v] => [.loc 100000 0, v] | _ => []]) := by
  refine prim_run (F := pCopyCheck) rfl ?_
  cases b <;> rfl
theorem WriteString_den (b : BS) (t : List UInt8) (h : (b.text ++ t).length < txtLim) :
    den K 50 [P0, T t] [b.cells 100000] = some (.ret (.tup [.c (.pv (.int .i64 t.length)), .c (.pv .nilifc)]) [BS.cells 100000 (.wr (b.text ++ t))]) := by
  refine den_run rfl rfl Tryz.func50 rfl Tryz.ntmps50 ⟨by simp, by simp [LK]⟩ ?_
  have hr : Tryz.f50.results = #[.tmp 4, .tmp 5] := rfl
  have hcc := copyCheck_den b
  have hl : b.text.length + t.length < appLim := by simpa [appLim, txtLim] using h
  cases b
  all_goals (simp only [BS.cells, BS.text, List.length_nil, Nat.zero_add] at hcc hl ⊢; simp only [exL_seq, exL_region, exL_cond, exL_block, exL_scope, exL_ret, exL_skip, exL_exit, runRegion, runOps, stepOp, guardA, absOp, takeOver, opd, avOf, cvOf, St.degAt, St.put, okPV, okVal, okAV, absBin, intBin, strBin, boolBin, setBoxes, if_true, Bool.false_eq_true, if_false, Option.map_some, Option.map_none, Option.bind_some, Option.bind_none, thenO, outOf, upd, List.toList_toArray, isOwn, steal, appArgs, inApps, AV.deg, CV.deg, AV.gv, AV.isIter, absNext, some_bne, Nat.reduceLT, reduceIte, reduceCtorEq, Nat.reduceEqDiff, List.length_nil, List.length_cons, apply_ite (Option.map (outOf _)), List.filterMap_cons, List.filterMap_nil, beq_iff_eq, List.getElem?_cons_zero, List.getElem?_cons_succ, Option.getD_some, K_hook, hookB, Nat.reduceBEq, Bool.false_and, Bool.and_false, Bool.and_self, K_P, K_own, absCall, doCall, getBoxes, lend, back, idx, dedup, AV.ren, CV.ren, TV.ren, AV.ptrs, CV.ptrs, zipBox, AV.flat, CV.flat, absLoad, absStore, cellsOfAV, setAt, newBox, markB, bldTypes, absFieldAddr, absField, absExtract, absAssert, noAssert, absMkIface, ifcOf, CV.pv?, content, pushHead, ownT, fillCells, reps, pvs, chunks, enterSt, leave, resOf, resVars, resVar, outBoxes, lentOnly, TV.deg, TV.av, LK, CV.plain, CV.noBld, nilBin, absUn, bound, List.map_cons, List.map_nil, List.all_cons, List.all_nil, List.any_cons, List.any_nil, List.contains_cons, List.contains_nil, List.elem_cons, List.elem_nil, List.cons_append, List.nil_append, List.append_nil, List.flatMap_cons, List.flatMap_nil, List.zip_cons_cons, List.zip_nil_left, List.zip_nil_right, List.take_succ_cons, List.take_zero, List.take_nil, List.drop_succ_cons, List.drop_zero, List.drop_nil, List.isEmpty_nil, List.isEmpty_cons, Bool.and_true, Bool.true_and, Bool.or_true, Bool.true_or, Bool.or_false, Bool.false_or, Bool.not_true, Bool.not_false, Nat.reduceAdd, Nat.reduceSub, Nat.reduceLeDiff, Nat.add_zero, Nat.zero_add, Nat.reduceMul, Option.isNone_none, Option.isNone_some, Option.getD_none, true_and, and_true, not_true_eq_false, not_false_eq_true, decide_true, decide_false, List.toList_toArray, Nat.le_refl, and_self, Bool.not_eq_true, Nat.sub_self, or_true, true_or, Option.some.injEq, List.length_map, List.nil_eq, and_false, false_and, AV.live, CV.live, CV.liveIn, K_keep, firstReg, Option.orElse_some, Option.orElse_none, head, keepSlots, keepBoxes, Int.lt_irrefl, List.length_append, ite_self, memOK, logOps, opKey, lentBoxes, Key.clash, Key.sees, Key.writes, Nat.lt_irrefl, gt_iff_lt, nobox_at, bot_at, false_or, or_false, beq_self_eq_true, Bool.true_beq, Bool.false_beq, good_82, ty_fieldOff_78_1, ty_szOf_76, ty_shapeT_76, ev_append ty_appInfo_76, ev_appNew_str (e := 5) ty_descOf_9 (h8 := ty_isU8_5), ev_len_str ty_descOf_9, hr, hcc, hl, lens_nil, lens_bytes, bytesC_map, bytesC_length, bytesC_append, BS.cells, BS.text])
end Go.Abs
namespace Go.Abs
open Go Go.Proofs
theorem exL_head (f : FuncId) (a : Code) (S : St) : exL K f (.loop a) S = exL K f (.loop a) (head (keepF f ((firstReg a).getD 0)) S) := by
  rw [exL_loop, exL_loop (S := head _ S), K_keep, head_head]
set_option maxRecDepth 10000
attribute [local go_sem] exL_seq exL_region exL_cond exL_block exL_scope exL_ret exL_skip exL_exit runRegion runOps stepOp guardA absOp takeOver opd avOf cvOf St.degAt St.put okPV okVal okAV absBin intBin strBin boolBin setBoxes if_true Bool.false_eq_true if_false Option.map_some Option.map_none Option.bind_some Option.bind_none thenO outOf upd List.toList_toArray isOwn steal appArgs inApps AV.deg CV.deg AV.gv AV.isIter absNext some_bne List.length_nil List.length_cons List.filterMap_cons List.filterMap_nil beq_iff_eq List.getElem?_cons_zero List.getElem?_cons_succ Option.getD_some K_hook hookB Bool.false_and Bool.and_false Bool.and_self K_P K_own absCall doCall getBoxes lend back idx dedup AV.ren CV.ren TV.ren AV.ptrs CV.ptrs zipBox AV.flat CV.flat absLoad absStore cellsOfAV setAt newBox markB bldTypes absFieldAddr absField absExtract absAssert noAssert absMkIface ifcOf CV.pv? content pushHead ownT fillCells reps pvs chunks enterSt leave resOf resVars resVar outBoxes lentOnly TV.deg TV.av LK CV.plain CV.noBld nilBin absUn bound List.map_cons List.map_nil List.all_cons List.all_nil List.any_cons List.any_nil List.contains_cons List.contains_nil List.elem_cons List.elem_nil List.cons_append List.nil_append List.append_nil List.flatMap_cons List.flatMap_nil List.zip_cons_cons List.zip_nil_left List.zip_nil_right List.take_succ_cons List.take_zero List.take_nil List.drop_succ_cons List.drop_zero List.drop_nil List.isEmpty_nil List.isEmpty_cons Bool.and_true Bool.true_and Bool.or_true Bool.true_or Bool.or_false Bool.false_or Bool.not_true Bool.not_false Nat.add_zero Nat.zero_add Option.isNone_none Option.isNone_some Option.getD_none true_and and_true not_true_eq_false not_false_eq_true decide_true decide_false Nat.le_refl and_self Bool.not_eq_true Nat.sub_self or_true true_or Option.some.injEq List.length_map List.nil_eq and_false false_and AV.live CV.live CV.liveIn K_keep firstReg Option.orElse_some Option.orElse_none head keepSlots keepBoxes Int.lt_irrefl List.length_append ite_self memOK logOps opKey lentBoxes Key.clash Key.sees Key.writes Nat.lt_irrefl gt_iff_lt nobox_at bot_at false_or or_false beq_self_eq_true Bool.true_beq Bool.false_beq
theorem itoa_den (n : Int) (h : -9223372036854775808 ≤ n ∧ n ≤ 9223372036854775807) : den K 83 [I n] [] = some (.ret (T (Lib.itoa n)) []) :=
  prim_run (F := pItoa) rfl (by simp [pItoa, h])
def BS.live' : BS → BS
  | .fresh => .live
  | b => b
theorem wrap_nat (n : Nat) (h : n < 9223372036854775807) : IntKind.i64.wrap ((n : Int) + 1) = ((n + 1 : Nat) : Int) := by
  rw [IntWalk.i64_in _ (by omega)]; rfl
theorem cells_live (b : BS) (k : Nat) (l : List Nat) (h : l.contains k = true) : (b.cells k).map (CV.live l) = b.live'.cells k := by
  cases b with
  | wr s => simp only [BS.cells, List.map_cons, List.map_nil, CV.live, BS.live', h, if_true]
  | _ => rfl
theorem cells_lend (b : BS) (k : Nat) (l : List Nat) : (b.cells k).map (CV.ren (lend (k :: l))) = b.cells 100000 := by
  cases b with
  | wr s => simp [BS.cells, CV.ren, lend, idx, LK]
  | _ => rfl
theorem cells_back (b : BS) (k : Nat) (l : List Nat) : (b.cells 100000).map (CV.ren (back (k :: l))) = b.cells k := by
  cases b with
  | wr s => simp [BS.cells, CV.ren, back, LK]
  | _ => rfl
theorem drop_cons {α : Type} {l rest : List α} {x : α} {i : Nat} (h : l.drop i = x :: rest) : l[i]? = some x ∧ l.drop (i + 1) = rest ∧ i < l.length := by
  have h1 : l[i]? = some x := by
    have : (l.drop i)[0]? = some x := by rw [h]; rfl
    simpa using this
  refine ⟨h1, ?_, (List.getElem?_eq_some_iff.1 h1).1⟩
  have : (l.drop i).tail = rest := by rw [h]; rfl
  rw [← this, List.tail_drop]
end Go.Abs
namespace Go.Abs
open Go Go.Proofs
set_option maxRecDepth 10000
attribute [local go_sem] exL_seq exL_region exL_cond exL_block exL_scope exL_ret exL_skip exL_exit runRegion runOps stepOp guardA absOp takeOver opd avOf cvOf St.degAt St.put okPV okVal okAV absBin intBin strBin boolBin setBoxes if_true Bool.false_eq_true if_false Option.map_some Option.map_none Option.bind_some Option.bind_none thenO outOf upd List.toList_toArray isOwn steal appArgs inApps AV.deg CV.deg AV.gv AV.isIter absNext some_bne List.length_nil List.length_cons List.filterMap_cons List.filterMap_nil beq_iff_eq List.getElem?_cons_zero List.getElem?_cons_succ Option.getD_some K_hook hookB Bool.false_and Bool.and_false Bool.and_self K_P K_own absCall doCall getBoxes lend back idx dedup AV.ren CV.ren TV.ren AV.ptrs CV.ptrs zipBox AV.flat CV.flat absLoad absStore cellsOfAV setAt newBox markB bldTypes absFieldAddr absField absExtract absAssert noAssert absMkIface ifcOf CV.pv? content pushHead ownT fillCells reps pvs chunks enterSt leave resOf resVars resVar outBoxes lentOnly TV.deg TV.av LK CV.plain CV.noBld nilBin absUn bound List.map_cons List.map_nil List.all_cons List.all_nil List.any_cons List.any_nil List.contains_cons List.contains_nil List.elem_cons List.elem_nil List.cons_append List.nil_append List.append_nil List.flatMap_cons List.flatMap_nil List.zip_cons_cons List.zip_nil_left List.zip_nil_right List.take_succ_cons List.take_zero List.take_nil List.drop_succ_cons List.drop_zero List.drop_nil List.isEmpty_nil List.isEmpty_cons Bool.and_true Bool.true_and Bool.or_true Bool.true_or Bool.or_false Bool.false_or Bool.not_true Bool.not_false Nat.add_zero Nat.zero_add Option.isNone_none Option.isNone_some Option.getD_none true_and and_true not_true_eq_false not_false_eq_true decide_true decide_false Nat.le_refl and_self Bool.not_eq_true Nat.sub_self or_true true_or Option.some.injEq List.length_map List.nil_eq and_false false_and AV.live CV.live CV.liveIn K_keep firstReg Option.orElse_some Option.orElse_none head keepSlots keepBoxes Int.lt_irrefl List.length_append ite_self memOK logOps opKey lentBoxes Key.clash Key.sees Key.writes Nat.lt_irrefl gt_iff_lt nobox_at bot_at false_or or_false beq_self_eq_true Bool.true_beq Bool.false_beq
theorem itoa_len {n : Int} (h : I64 n) : (Lib.itoa n).length ≤ 21 := Lib.itoa_length_le n h.1 h.2
set_option maxHeartbeats 4000000 in
theorem One_den (t : Tok) (hn : I64 t.n) (hl : t.text.length < 1000000000000) : den K 51 [.agg t.cells] [] = some (.ret (T (oneS t)) []) := by
  obtain ⟨k, s, n⟩ := t
  refine den_run rfl rfl Tryz.func51 rfl Tryz.ntmps51 ⟨by simp, by simp [LK]⟩ ?_
  have hr : Tryz.f51.results = #[.tmp 2] := rfl
  have hit := itoa_den n hn
  have hi := itoa_len hn
  simp only at hl hi
  have l1 : s.length + 1 < strLim := by simp [strLim]; omega
  have l1' : 1 + s.length < strLim := by simp [strLim]; omega
  have l2 : (Lib.itoa n).length + s.length < strLim := by simp [strLim]; omega
  have l3 : 1 + s.length + 1 < strLim := by simp [strLim]; omega
  have l4 : s.length + 2 < strLim := by simp [strLim]; omega
  have l5 : s.length + 2 + 1 < strLim := by simp [strLim]; omega
  have l6 : s.length + 2 + 1 + 2 < strLim := by simp [strLim]; omega
  have l7 : s.length + 1 + 1 < strLim := by simp [strLim]; omega
  have hk : k = 1 ∨ k = 2 ∨ k = 3 ∨ k = 4 ∨ k = 5 ∨ k = 6 ∨ k = 7 ∨ k = 8 ∨ (k ≠ 1 ∧ k ≠ 2 ∧ k ≠ 3 ∧ k ≠ 4 ∧ k ≠ 5 ∧ k ≠ 6 ∧ k ≠ 7 ∧ k ≠ 8) := by omega
  rcases hk with rfl | rfl | rfl | rfl | rfl | rfl | rfl | rfl | ⟨h1, h2, h3, h4, h5, h6, h7, h8⟩
  · simp [go_sem, Nat.reduceLT, reduceIte, reduceCtorEq, Nat.reduceEqDiff, apply_ite (Option.map (outOf _)), Nat.reduceBEq, Nat.reduceAdd, Nat.reduceSub, Nat.reduceLeDiff, Nat.reduceMul, ty_fieldOff_45_0, ty_szOf_3, ty_shapeT_3, ty_fieldOff_45_1, ty_szOf_9, ty_shapeT_9, ty_fieldOff_45_2, good_83, hr, Tok.cells, oneS]
  · simp [go_sem, Nat.reduceLT, reduceIte, reduceCtorEq, Nat.reduceEqDiff, apply_ite (Option.map (outOf _)), Nat.reduceBEq, Nat.reduceAdd, Nat.reduceSub, Nat.reduceLeDiff, Nat.reduceMul, ty_fieldOff_45_0, ty_szOf_3, ty_shapeT_3, ty_fieldOff_45_1, ty_szOf_9, ty_shapeT_9, ty_fieldOff_45_2, good_83, hr, Tok.cells, oneS, l1]
  · simp [go_sem, Nat.reduceLT, reduceIte, reduceCtorEq, Nat.reduceEqDiff, apply_ite (Option.map (outOf _)), Nat.reduceBEq, Nat.reduceAdd, Nat.reduceSub, Nat.reduceLeDiff, Nat.reduceMul, ty_fieldOff_45_0, ty_szOf_3, ty_shapeT_3, ty_fieldOff_45_1, ty_szOf_9, ty_shapeT_9, ty_fieldOff_45_2, good_83, hr, Tok.cells, oneS, l1']
  · simp [go_sem, Nat.reduceLT, reduceIte, reduceCtorEq, Nat.reduceEqDiff, apply_ite (Option.map (outOf _)), Nat.reduceBEq, Nat.reduceAdd, Nat.reduceSub, Nat.reduceLeDiff, Nat.reduceMul, ty_fieldOff_45_0, ty_szOf_3, ty_shapeT_3, ty_fieldOff_45_1, ty_szOf_9, ty_shapeT_9, ty_fieldOff_45_2, good_83, hr, Tok.cells, oneS, l1']
  · simp [go_sem, Nat.reduceLT, reduceIte, reduceCtorEq, Nat.reduceEqDiff, apply_ite (Option.map (outOf _)), Nat.reduceBEq, Nat.reduceAdd, Nat.reduceSub, Nat.reduceLeDiff, Nat.reduceMul, ty_fieldOff_45_0, ty_szOf_3, ty_shapeT_3, ty_fieldOff_45_1, ty_szOf_9, ty_shapeT_9, ty_fieldOff_45_2, good_83, hr, Tok.cells, oneS, hit, l2]
  · by_cases h : n = 39 <;> simp [go_sem, Nat.reduceLT, reduceIte, reduceCtorEq, Nat.reduceEqDiff, apply_ite (Option.map (outOf _)), Nat.reduceBEq, Nat.reduceAdd, Nat.reduceSub, Nat.reduceLeDiff, Nat.reduceMul, ty_fieldOff_45_0, ty_szOf_3, ty_shapeT_3, ty_fieldOff_45_1, ty_szOf_9, ty_shapeT_9, ty_fieldOff_45_2, good_83, hr, Tok.cells, oneS, h, l1, l1', l3, l7]
  · by_cases h : s = [34]
    · simp [go_sem, Nat.reduceLT, reduceIte, reduceCtorEq, Nat.reduceEqDiff, apply_ite (Option.map (outOf _)), Nat.reduceBEq, Nat.reduceAdd, Nat.reduceSub, Nat.reduceLeDiff, Nat.reduceMul, ty_fieldOff_45_0, ty_szOf_3, ty_shapeT_3, ty_fieldOff_45_1, ty_szOf_9, ty_shapeT_9, ty_fieldOff_45_2, good_83, hr, Tok.cells, oneS, h, l4, l5, l6, strLim]
    · have e : (s == [34]) = false := by simp [h]
      by_cases h' : s = [39]
      · simp [go_sem, Nat.reduceLT, reduceIte, reduceCtorEq, Nat.reduceEqDiff, apply_ite (Option.map (outOf _)), Nat.reduceBEq, Nat.reduceAdd, Nat.reduceSub, Nat.reduceLeDiff, Nat.reduceMul, ty_fieldOff_45_0, ty_szOf_3, ty_shapeT_3, ty_fieldOff_45_1, ty_szOf_9, ty_shapeT_9, ty_fieldOff_45_2, good_83, hr, Tok.cells, oneS, e, h, h', l4, l5, l6, strLim]
      · have e' : (s == [39]) = false := by simp [h']
        simp [go_sem, Nat.reduceLT, reduceIte, reduceCtorEq, Nat.reduceEqDiff, apply_ite (Option.map (outOf _)), Nat.reduceBEq, Nat.reduceAdd, Nat.reduceSub, Nat.reduceLeDiff, Nat.reduceMul, ty_fieldOff_45_0, ty_szOf_3, ty_shapeT_3, ty_fieldOff_45_1, ty_szOf_9, ty_shapeT_9, ty_fieldOff_45_2, good_83, hr, Tok.cells, oneS, e, e', h, h', l4, l5, l6, strLim]
  · simp [go_sem, Nat.reduceLT, reduceIte, reduceCtorEq, Nat.reduceEqDiff, apply_ite (Option.map (outOf _)), Nat.reduceBEq, Nat.reduceAdd, Nat.reduceSub, Nat.reduceLeDiff, Nat.reduceMul, ty_fieldOff_45_0, ty_szOf_3, ty_shapeT_3, ty_fieldOff_45_1, ty_szOf_9, ty_shapeT_9, ty_fieldOff_45_2, good_83, hr, Tok.cells, oneS]
  · simp [go_sem, Nat.reduceLT, reduceIte, reduceCtorEq, Nat.reduceEqDiff, apply_ite (Option.map (outOf _)), Nat.reduceBEq, Nat.reduceAdd, Nat.reduceSub, Nat.reduceLeDiff, Nat.reduceMul, ty_fieldOff_45_0, ty_szOf_3, ty_shapeT_3, ty_fieldOff_45_1, ty_szOf_9, ty_shapeT_9, ty_fieldOff_45_2, good_83, hr, Tok.cells, oneS, h1, h2, h3, h4, h5, h6, h7, h8]
theorem String_den (b : BS) (h : b.text.length < txtLim) : den K 52 [P0] [b.cells 100000] = some (.ret (T b.text) [match b with | .wr s => [.loc 100000 0, .pv (.sl (bytesC s))] | .live => [.bld, .pv (.sl [])] | .fresh => [.bld, .nils]]) := by
  refine prim_run (F := pString) rfl ?_
  have hb : ∀ s : List UInt8, bytesIn (bytesC s) = some s := fun s => by
    induction s with
    | nil => rfl
    | cons x s ih =>
      show bytesIn ([PV.int .u8 x.toNat] :: bytesC s) = _
      have hx : (0 : Int) ≤ (x.toNat : Int) ∧ (x.toNat : Int) < 256 := ⟨by omega, by have := x.toNat_lt; omega⟩
      unfold bytesIn
      rw [if_pos hx, ih]
      simp
  cases b with
  | wr s =>
    have hs : s.length < strLim := by simp [BS.text, txtLim] at h; simp [strLim]; omega
    simp [BS.cells, BS.text, pString, LK, hb, hs]
  | live => simp [BS.cells, BS.text, pString, LK, bytesIn, strLim]
  | fresh => rfl
end Go.Abs
namespace Go.Abs.Tk
open Go
theorem begins_zero : begins 0 = false := by decide
theorem within_zero : within 0 = false := by decide
theorem digit_zero : digit 0 = false := by decide
theorem begins_within {c : UInt8} (h : begins c = true) : within c = true := by simp [within, h]
theorem begins_digit {c : UInt8} (h : begins c = true) : digit c = false := by
  simp only [begins, digit, decide_eq_true_eq, decide_eq_false_iff_not] at *; omega
theorem digit_ne {c d : UInt8} (h : digit c = true) (hd : digit d = false) : c ≠ d := fun e => by rw [e, hd] at h; cases h
theorem within_ne {c d : UInt8} (h : within c = true) (hd : within d = false) : c ≠ d := fun e => by rw [e, hd] at h; cases h
theorem blank_cases {c : UInt8} (h : blank c = true) : c = 32 ∨ c = 10 ∨ c = 9 ∨ c = 12 ∨ c = 13 := by simpa [blank, or_assoc] using h
theorem within_blank {c : UInt8} (h : within c = true) : blank c = false := by
  cases hb : blank c
  · rfl
  · rcases blank_cases hb with rfl | rfl | rfl | rfl | rfl <;> revert h <;> decide
theorem digit_within {c : UInt8} (h : digit c = true) : within c = true := by simp [within, h]
theorem digit_blank {c : UInt8} (h : digit c = true) : blank c = false := within_blank (digit_within h)
section run
variable {p : UInt8 → Bool}
theorem run_nil : run p [] = 0 := rfl
theorem run_le : ∀ l : List UInt8, run p l ≤ l.length
  | [] => Nat.le_refl _
  | c :: r => by
    rw [run]; have := run_le r
    split <;> simp <;> omega
theorem run_pos {c : UInt8} {r : List UInt8} (h : p c = true) : 0 < run p (c :: r) := by rw [run, if_pos h]; omega
theorem run_take : ∀ l : List UInt8, ∀ b ∈ l.take (run p l), p b = true
  | [], b, h => by simp at h
  | c :: r, b, h => by
    rw [run] at h
    split at h
    · rename_i hc
      rw [List.take_succ_cons] at h
      rcases List.mem_cons.1 h with rfl | h
      · exact hc
      · exact run_take r b h
    · simp at h
theorem run_stop (h0 : p 0 = false) : ∀ l : List UInt8, p (at0 (l.drop (run p l))) = false
  | [] => h0
  | c :: r => by
    rw [run]
    split
    · rw [List.drop_succ_cons]; exact run_stop h0 r
    · rename_i hc
      simpa [at0] using hc
theorem run_app : ∀ {a y : List UInt8}, (∀ b ∈ a, p b = true) → run p (a ++ y) = a.length + run p y
  | [], y, _ => by simp
  | c :: a, y, h => by
    rw [List.cons_append, run, if_pos (h c (by simp)), run_app fun b hb => h b (by simp [hb])]
    simp; omega
theorem run_zero : ∀ {y : List UInt8}, p (at0 y) = false → run p y = 0
  | [], _ => rfl
  | c :: r, h => by
    rw [run, if_neg]; simpa [at0] using h
theorem run_word {a y : List UInt8} (h : ∀ b ∈ a, p b = true) (hy : p (at0 y) = false) : run p (a ++ y) = a.length := by rw [run_app h, run_zero hy]; rfl
theorem run_pos_iff {y : List UInt8} (h0 : p 0 = false) : 0 < run p y ↔ p (at0 y) = true := by
  cases y with
  | nil => simp [run, at0, h0]
  | cons c r =>
    rw [run, at0]
    cases p c <;> simp
end run
theorem at0_app {a y : List UInt8} (h : a ≠ []) : at0 (a ++ y) = at0 a := by
  cases a with
  | nil => exact absurd rfl h
  | cons c r => rfl
def isName (x : List UInt8) : Prop := nameB x = true ∧ ∀ b ∈ x, within b = true
theorem nameB_nil : nameB [] = false := by decide
theorem isName_ne {x : List UInt8} (h : isName x) : x ≠ [] := fun e => by have := h.1; rw [e, nameB_nil] at this; cases this
theorem isName_len {x : List UInt8} (h : isName x) : 0 < x.length := List.length_pos_iff.2 (isName_ne h)
theorem nameB_app {x y : List UInt8} (h : nameB x = true) : nameB (x ++ y) = true := by
  match x, h with
  | [], h => rw [nameB_nil] at h; cases h
  | [c], h =>
    have hc : begins c = true := by
      simp only [nameB, at0, List.tail_cons, begins_zero, Bool.false_or, Bool.or_eq_true, Bool.and_eq_true, beq_iff_eq] at h
      rcases h with h | ⟨_, h⟩
      · exact h
      · exact absurd h (by decide)
    simp [nameB, at0, hc]
  | c :: d :: r, h => exact h
theorem nameB_within {x : List UInt8} (h : nameB x = true) : within (at0 x) = true := by
  simp only [nameB, Bool.or_eq_true, Bool.and_eq_true, beq_iff_eq] at h
  rcases h with h | ⟨h, _⟩
  · exact begins_within h
  · rw [h]; decide
theorem name_app {x y : List UInt8} (h : isName x) (hy : within (at0 y) = false) : name (x ++ y) = x.length := by
  rw [name, if_pos (nameB_app h.1), run_word h.2 hy]
theorem name_zero {y : List UInt8} (h : nameB y = false) : name y = 0 := by rw [name, h]; rfl
theorem name_pos {l : List UInt8} (h : 0 < name l) : nameB l = true := by
  rw [name] at h; split at h
  · assumption
  · omega
theorem name_pos_iff {l : List UInt8} : 0 < name l ↔ nameB l = true := by
  refine ⟨name_pos, fun h => ?_⟩
  rw [name, if_pos h]
  exact (run_pos_iff within_zero).2 (nameB_within h)
theorem name_le (l : List UInt8) : name l ≤ l.length := by
  rw [name]; split
  · exact run_le l
  · omega
theorem name_take {l : List UInt8} (h : 0 < name l) : isName (l.take (name l)) := by
  have hb := name_pos h
  have e : name l = run within l := by rw [name, if_pos hb]
  refine ⟨?_, by rw [e]; exact run_take l⟩
  rw [e]
  match l, hb with
  | [], hb => rw [nameB_nil] at hb; cases hb
  | [c], hb =>
    have : run within [c] = 1 := by rw [run, if_pos (show within c = true from nameB_within hb)]; rfl
    rw [this]; exact hb
  | c :: d :: r, hb =>
    have hc : within c = true := nameB_within hb
    by_cases hd : within d = true
    · have : run within (c :: d :: r) = run within r + 2 := by rw [run, if_pos hc, run, if_pos hd]
      rw [this]; exact hb
    · have hd' : within d = false := by simpa using hd
      have : run within (c :: d :: r) = 1 := by rw [run, if_pos hc, run, if_neg hd]
      rw [this]
      simp only [nameB, at0, List.tail_cons, Bool.or_eq_true, Bool.and_eq_true, beq_iff_eq] at hb
      have hbc : begins c = true := by
        rcases hb with hb | ⟨_, hb | hb⟩
        · exact hb
        · rw [begins_within hb] at hd'; cases hd'
        · exact absurd hd' (by rw [hb]; decide)
      simp [nameB, at0, hbc]
theorem shut_le : ∀ {l : List UInt8} {n : Nat}, shut l = some n → n ≤ l.length ∧ 2 ≤ n
  | c :: r, n, h => by
    rw [shut] at h
    split at h
    · rename_i hc
      cases h
      cases r with
      | nil => exact absurd hc.2 (by decide)
      | cons d r => simp
    · rw [Option.map_eq_some_iff] at h
      obtain ⟨m, hm, rfl⟩ := h
      have := shut_le hm
      simp; omega
theorem comment_pos (r : List UInt8) : 2 ≤ comment r := by unfold comment; split <;> omega
theorem inner_le {q : UInt8} : ∀ {l : List UInt8} {n : Nat}, inner q l = some n → n + 1 ≤ l.length
  | c :: r, n, h => by
    rw [inner] at h
    split at h
    · cases h; simp
    · split at h
      · cases h
      · rw [Option.map_eq_some_iff] at h
        obtain ⟨m, hm, rfl⟩ := h
        have := inner_le hm
        simp; omega
theorem inner_take {q : UInt8} : ∀ {l : List UInt8} {n : Nat}, inner q l = some n → ∀ b ∈ l.take n, b ≠ q ∧ ending b = false
  | c :: r, n, h, b, hb => by
    rw [inner] at h
    split at h
    · cases h; simp at hb
    · rename_i hq
      split at h
      · cases h
      · rename_i he
        rw [Option.map_eq_some_iff] at h
        obtain ⟨m, hm, rfl⟩ := h
        rw [List.take_succ_cons] at hb
        rcases List.mem_cons.1 hb with rfl | hb
        · exact ⟨hq, by simpa using he⟩
        · exact inner_take hm b hb
theorem inner_app {q : UInt8} {y : List UInt8} : ∀ {x : List UInt8}, (∀ b ∈ x, b ≠ q ∧ ending b = false) → inner q (x ++ q :: y) = some x.length
  | [], _ => by simp [inner]
  | c :: x, h => by
    have hc := h c (by simp)
    rw [List.cons_append, inner, if_neg hc.1, if_neg (by simp [hc.2]), inner_app fun b hb => h b (by simp [hb])]
    rfl
theorem num_app : ∀ {a y : List UInt8} {n : Int}, (∀ b ∈ a, digit b = true) → num n (a ++ y) = num (num n a) y
  | [], _, _, _ => rfl
  | c :: a, y, n, h => by
    rw [List.cons_append, num, if_pos (h c (by simp)), num, if_pos (h c (by simp)), num_app fun b hb => h b (by simp [hb])]
theorem num_stop {y : List UInt8} {n : Int} (h : digit (at0 y) = false) : num n y = n := by
  cases y with
  | nil => rfl
  | cons c r => rw [num, if_neg]; simpa [at0] using h
theorem num_bound : ∀ {l : List UInt8} {n : Int}, 0 ≤ n → n ≤ 999999999 → 0 ≤ num n l ∧ num n l ≤ 999999999
  | [], n, h1, h2 => ⟨h1, h2⟩
  | c :: r, n, h1, h2 => by
    rw [num]
    split
    · rename_i hc
      have : 48 ≤ c.toNat := by simp only [digit, decide_eq_true_eq] at hc; omega
      exact num_bound (by omega) (by omega)
    · exact ⟨h1, h2⟩
theorem digit_of {k : Nat} (h : k < 10) : digit (UInt8.ofNat (48 + k)) = true ∧ ((UInt8.ofNat (48 + k)).toNat : Int) - 48 = k := by
  have : (UInt8.ofNat (48 + k)).toNat = 48 + k := by rw [UInt8.toNat_ofNat']; omega
  refine ⟨?_, by rw [this]; omega⟩
  simp only [digit, this, decide_eq_true_eq]; omega
theorem dec_digits : ∀ (k u : Nat), u ≤ k → ∀ b ∈ Lib.decDigits u, digit b = true := by
  intro k
  induction k with
  | zero =>
    intro u hu b hb
    rw [Lib.decDigits, dif_pos (by omega)] at hb
    simp only [List.mem_singleton] at hb
    rw [hb]; exact (digit_of (by omega)).1
  | succ k ih =>
    intro u hu b hb
    rw [Lib.decDigits] at hb
    split at hb
    · simp only [List.mem_singleton] at hb
      rw [hb]; exact (digit_of (by omega)).1
    · rcases List.mem_append.1 hb with hb | hb
      · exact ih (u / 10) (by omega) b hb
      · simp only [List.mem_singleton] at hb
        rw [hb]; exact (digit_of (Nat.mod_lt _ (by omega))).1
theorem dec_num : ∀ (k u : Nat), u ≤ k → u ≤ 999999999 → num 0 (Lib.decDigits u) = u := by
  intro k
  induction k with
  | zero =>
    intro u hu _
    obtain rfl : u = 0 := by omega
    rw [Lib.decDigits, dif_pos (by omega)]
    decide
  | succ k ih =>
    intro u hu hm
    rw [Lib.decDigits]
    split
    · rename_i h
      have h2 := digit_of h
      rw [num, if_pos h2.1, num, h2.2]; omega
    · have h2 := digit_of (Nat.mod_lt u (by omega : 0 < 10))
      rw [num_app (dec_digits (u / 10) (u / 10) (Nat.le_refl _)), ih (u / 10) (by omega) (by omega), num, if_pos h2.1, num, h2.2]; omega
theorem dec_ne : ∀ (u : Nat), Lib.decDigits u ≠ [] := by
  intro u h
  rw [Lib.decDigits] at h
  split at h <;> simp at h
end Go.Abs.Tk
namespace Go.Abs.Tk
open Go
inductive Good : Tok → Prop
  | ident (x : List UInt8) : isName x → Good ⟨1, x, 0⟩
  | func (x : List UInt8) : isName x → Good ⟨2, x, 0⟩
  | word (x : List UInt8) : isName x → Good ⟨3, x, 0⟩
  | hash (x : List UInt8) : x ≠ [] → (∀ b ∈ x, within b = true) → Good ⟨4, x, 0⟩
  | num (x : List UInt8) (n : Int) : -999999999 ≤ n → n ≤ 999999999 → (x = [] ∨ x = [37] ∨ isName x) → Good ⟨5, x, n⟩
  | str (x : List UInt8) (q : UInt8) : q = 34 ∨ q = 39 → (∀ b ∈ x, b ≠ q ∧ ending b = false) → Good ⟨6, x, q.toNat⟩
  | delim (c : UInt8) : begins c = false → digit c = false → blank c = false → Good ⟨7, [c], 0⟩
  | white : Good ⟨8, [10], 0⟩
theorem unit_good (l : List UInt8) : l.take (unit l) = [] ∨ l.take (unit l) = [37] ∨ isName (l.take (unit l)) := by
  unfold unit
  split
  · rename_i h
    cases l with
    | nil => exact absurd h (by decide)
    | cons c r => right; left; rw [at0] at h; rw [h]; rfl
  · by_cases h : 0 < name l
    · exact .inr (.inr (name_take h))
    · left; rw [show name l = 0 by omega]; rfl
theorem unit_le (l : List UInt8) : unit l ≤ l.length := by
  unfold unit
  split
  · rename_i h
    cases l with
    | nil => exact absurd h (by decide)
    | cons c r => simp
  · exact name_le l
theorem number_good (neg : Bool) (l : List UInt8) : Good (number neg l).1 := by
  have hb := num_bound (l := l) (n := 0) (by omega) (by omega)
  unfold number
  refine .num _ _ ?_ ?_ (unit_good _)
  · cases neg <;> simp <;> omega
  · cases neg <;> simp <;> omega
theorem number_le (neg : Bool) (l : List UInt8) : (number neg l).2 ≤ l.length := by
  unfold number
  have h1 := run_le (p := digit) l
  have h2 := unit_le (l.drop (run digit l))
  simp only [List.length_drop] at h2
  simp only; omega
theorem number_pos (neg : Bool) (l : List UInt8) (h : digit (at0 l) = true) : 1 ≤ (number neg l).2 := by
  unfold number
  have := (run_pos_iff (y := l) digit_zero).2 h
  simp only; omega
theorem step_good {c : UInt8} {r : List UInt8} {t : Tok} (h : (step c r).1 = some t) : Good t := by
  unfold step at h
  split at h
  · cases h
  split at h
  · cases h; exact .white
  split at h
  · rename_i hq
    cases h
    obtain ⟨n, hn⟩ := Option.isSome_iff_exists.1 hq.2
    rw [hn]
    exact .str _ c hq.1 (inner_take hn)
  split at h
  · rename_i hq
    cases h
    exact .hash _ (fun e => by
      have h1 := congrArg List.length e
      rw [List.length_take, List.length_nil] at h1
      have h2 := run_le (p := within) r
      have h3 := hq.2
      omega) (run_take r)
  split at h
  · rename_i hq
    cases h
    exact .word _ (name_take hq.2)
  split at h
  · cases h; exact number_good _ _
  split at h
  · cases h; exact number_good _ _
  split at h
  · rename_i hn
    split at h
    · cases h; exact .func _ (name_take hn)
    · cases h; exact .ident _ (name_take hn)
  · rename_i h1 h2 h3 h4 h5 h6 h7 h8
    cases h
    refine .delim c ?_ (by simpa using h6) (by simpa using h2)
    cases hb : begins c
    · rfl
    · exact absurd (name_pos_iff.2 (show nameB (c :: r) = true by simp [nameB, at0, hb])) h8
theorem step_pos (c : UInt8) (r : List UInt8) : 1 ≤ (step c r).2 := by
  unfold step
  split
  · have := comment_pos r.tail; simp only; omega
  split
  · rename_i h; exact run_pos h
  split
  · rename_i h
    obtain ⟨n, hn⟩ := Option.isSome_iff_exists.1 h.2
    simp only; omega
  split
  · simp only; omega
  split
  · simp only; omega
  split
  · rename_i h; exact number_pos false (c :: r) h
  split
  · simp only; omega
  split
  · split <;> simp only <;> omega
  · exact Nat.le_refl _
theorem comment_le {r : List UInt8} : comment r ≤ r.length + 2 := by
  unfold comment
  split
  · rename_i n h; have := shut_le h; omega
  · omega
theorem step_le (c : UInt8) (r : List UInt8) : (step c r).2 ≤ (c :: r).length := by
  unfold step
  split
  · rename_i h
    have := comment_le (r := r.tail)
    cases r with
    | nil => exact absurd h.2 (by decide)
    | cons d r => simp only [List.tail_cons, List.length_cons] at *; omega
  split
  · exact run_le _
  split
  · rename_i h
    obtain ⟨n, hn⟩ := Option.isSome_iff_exists.1 h.2
    have := inner_le hn
    rw [hn]; simp; omega
  split
  · have := run_le (p := within) r; simp; omega
  split
  · have := name_le r; simp; omega
  split
  · exact number_le false _
  split
  · have := number_le true r; simp; omega
  split
  · rename_i h
    split
    · rename_i h40
      have h1 := name_le (c :: r)
      have : name (c :: r) ≠ (c :: r).length := fun e => by
        rw [e, List.drop_length] at h40; exact absurd h40 (by decide)
      simp only; omega
    · exact name_le _
  · simp
theorem allN_eq : ∀ (k j : Nat) (l : List UInt8), l.length ≤ k → l.length ≤ j → allN k l = allN j l := by
  intro k
  induction k with
  | zero =>
    intro j l h _
    obtain rfl : l = [] := List.length_eq_zero_iff.1 (by omega)
    cases j <;> rfl
  | succ k ih =>
    intro j l hk hj
    cases l with
    | nil => cases j <;> rfl
    | cons c r =>
      cases j with
      | zero => simp at hj
      | succ j =>
        have hp := step_pos c r
        have hd : ((c :: r).drop (step c r).2).length ≤ r.length := by rw [List.length_drop]; simp; omega
        simp only [List.length_cons] at hk hj
        rw [allN, allN, ih j _ (by omega) (by omega)]
theorem all_nil : all [] = [] := rfl
theorem all_cons (c : UInt8) (r : List UInt8) : all (c :: r) = (step c r).1.toList ++ all ((c :: r).drop (step c r).2) := by
  have hp := step_pos c r
  have hd : ((c :: r).drop (step c r).2).length ≤ r.length := by rw [List.length_drop]; simp; omega
  rw [all, List.length_cons, allN]
  rw [allN_eq r.length _ _ hd (Nat.le_refl _), ← all]
theorem all_ind {Q : List UInt8 → Prop} (h0 : Q []) (h1 : ∀ c r, Q ((c :: r).drop (step c r).2) → Q (c :: r)) : ∀ l, Q l := by
  have : ∀ (k : Nat) (l : List UInt8), l.length ≤ k → Q l := by
    intro k
    induction k with
    | zero => intro l h; obtain rfl : l = [] := List.length_eq_zero_iff.1 (by omega); exact h0
    | succ k ih =>
      intro l h
      cases l with
      | nil => exact h0
      | cons c r =>
        have hp := step_pos c r
        exact h1 c r (ih _ (by rw [List.length_drop]; simp at *; omega))
  exact fun l => this l.length l (Nat.le_refl _)
theorem all_good (l : List UInt8) : ∀ t ∈ all l, Good t := by
  refine all_ind (Q := fun l => ∀ t ∈ all l, Good t) (fun t h => by simp [all_nil] at h) (fun c r ih t ht => ?_) l
  rw [all_cons] at ht
  rcases List.mem_append.1 ht with ht | ht
  · exact step_good (by simpa [Option.mem_toList] using ht)
  · exact ih t ht
theorem at0_cons (c : UInt8) (r : List UInt8) : at0 (c :: r) = c := rfl
def sep (t : Tok) (y : List UInt8) : Prop :=
  (t.kind = 1 → within (at0 y) = false ∧ at0 y ≠ 40) ∧
  (t.kind = 3 ∨ t.kind = 4 → within (at0 y) = false) ∧
  (t.kind = 5 → (t.text = [] → digit (at0 y) = false ∧ at0 y ≠ 37 ∧ nameB y = false) ∧ (isName t.text → within (at0 y) = false)) ∧
  (t.kind = 8 → blank (at0 y) = false) ∧
  (t.kind = 7 → (t.text = [47] → at0 y ≠ 42) ∧ (t.text = [35] → within (at0 y) = false) ∧ (t.text = [64] → nameB y = false) ∧ (t.text = [45] → digit (at0 y) = false ∧ nameB (45 :: y) = false))
theorem nameB_head {c : UInt8} {y : List UInt8} (h : at0 y = c) (hc : within c = false) : nameB y = false := by
  cases hn : nameB y
  · rfl
  · have := nameB_within hn; rw [h, hc] at this; cases this
theorem nameB_dash {y : List UInt8} (h : begins (at0 y) = false) (h2 : at0 y ≠ 45) : nameB (45 :: y) = false := by
  have e : nameB (45 :: y) = (begins 45 || ((45 : UInt8) == 45 && (begins (at0 y) || at0 y == 45))) := rfl
  rw [e, h, beq_eq_false_iff_ne.2 h2]; decide
theorem sep_sign {y : List UInt8} {c : UInt8} (h : at0 y = c) (t : Tok) (h1 : within c = false) (h2 : blank c = false) (h3 : c ≠ 40) (h4 : c ≠ 37) (h5 : c ≠ 42) : sep t y := by
  have hb : begins c = false := by simp only [within, Bool.or_eq_false_iff] at h1; exact h1.1.1
  have hd : digit c = false := by simp only [within, Bool.or_eq_false_iff] at h1; exact h1.1.2
  have h45 : c ≠ 45 := fun e => by rw [e] at h1; revert h1; decide
  have hn := nameB_head h h1
  unfold sep
  rw [h]
  exact ⟨fun _ => ⟨h1, h3⟩, fun _ => h1, fun _ => ⟨fun _ => ⟨hd, h4, hn⟩, fun _ => h1⟩, fun _ => h2, fun _ => ⟨fun _ => h5, fun _ => h1, fun _ => hn, fun _ => ⟨hd, nameB_dash (by rw [h]; exact hb) (by rw [h]; exact h45)⟩⟩⟩
theorem sep_nil (t : Tok) : sep t [] := sep_sign (c := 0) rfl t (by decide) (by decide) (by decide) (by decide) (by decide)
theorem sep_slash (t : Tok) (y : List UInt8) : sep t (47 :: y) := sep_sign (c := 47) rfl t (by decide) (by decide) (by decide) (by decide) (by decide)
theorem nameB_cases {c : UInt8} {r : List UInt8} (h : nameB (c :: r) = true) : begins c = true ∨ c = 45 ∧ (begins (at0 r) = true ∨ at0 r = 45) := by
  simpa [nameB, at0] using h
theorem step_name {c : UInt8} {r : List UInt8} (h : nameB (c :: r) = true) : step c r =
    if at0 ((c :: r).drop (name (c :: r))) = 40 then (some ⟨2, (c :: r).take (name (c :: r)), 0⟩, name (c :: r) + 1)
    else (some ⟨1, (c :: r).take (name (c :: r)), 0⟩, name (c :: r)) := by
  have hw : within c = true := nameB_within h
  have hne : ∀ d, within d = false → c ≠ d := fun d hd => within_ne hw hd
  have hdig : digit c = false := by
    rcases nameB_cases h with hb | ⟨rfl, _⟩
    · exact begins_digit hb
    · decide
  have h45 : ¬ (c = 45 ∧ digit (at0 r) = true) := by
    rintro ⟨rfl, hd⟩
    rcases nameB_cases h with hb | ⟨_, hb | hb⟩
    · exact absurd hb (by decide)
    · rw [begins_digit hb] at hd; cases hd
    · rw [hb] at hd; revert hd; decide
  unfold step
  rw [if_neg (fun e => hne 47 (by decide) e.1), if_neg (by simp [within_blank hw]), if_neg (fun e => by
    rcases e.1 with e | e
    · exact hne 34 (by decide) e
    · exact hne 39 (by decide) e), if_neg (fun e => hne 35 (by decide) e.1), if_neg (fun e => hne 64 (by decide) e.1), if_neg (by simp [hdig]), if_neg h45, if_pos (name_pos_iff.2 h)]
theorem step_number {c : UInt8} {r : List UInt8} (h : digit c = true) : step c r = (some (number false (c :: r)).1, (number false (c :: r)).2) := by
  have hne : ∀ d, digit d = false → c ≠ d := fun d hd => digit_ne h hd
  unfold step
  rw [if_neg (fun e => hne 47 (by decide) e.1), if_neg (by simp [digit_blank h]), if_neg (fun e => by
    rcases e.1 with e | e
    · exact hne 34 (by decide) e
    · exact hne 39 (by decide) e), if_neg (fun e => hne 35 (by decide) e.1), if_neg (fun e => hne 64 (by decide) e.1), if_pos h]
theorem step_minus {r : List UInt8} (h : digit (at0 r) = true) : step 45 r = (some (number true r).1, (number true r).2 + 1) := by
  unfold step
  rw [if_neg (fun e => absurd e.1 (by decide)), if_neg (by decide), if_neg (by simp), if_neg (by simp), if_neg (by simp), if_neg (by decide), if_pos ⟨rfl, h⟩]
theorem number_app (neg : Bool) {u : Nat} (hu : u ≤ 999999999) {z : List UInt8} (hz : digit (at0 z) = false) : number neg (Lib.decDigits u ++ z) = (⟨5, z.take (unit z), if neg then -(u : Int) else u⟩, (Lib.decDigits u).length + unit z) := by
  have hd := dec_digits u u (Nat.le_refl _)
  unfold number
  rw [run_word hd hz, List.drop_left, num_app hd, dec_num u u (Nat.le_refl _) hu, num_stop hz]
theorem unit_zero {y : List UInt8} (h1 : at0 y ≠ 37) (h2 : nameB y = false) : unit y = 0 := by rw [unit, if_neg h1, name_zero h2]
theorem unit_name {x y : List UInt8} (h : isName x) (hy : within (at0 y) = false) : unit (x ++ y) = x.length := by
  have : at0 (x ++ y) ≠ 37 := by
    rw [at0_app (isName_ne h)]
    exact within_ne (nameB_within h.1) (by decide)
  rw [unit, if_neg this, name_app h hy]
theorem name_nodigit {x : List UInt8} (h : nameB x = true) : digit (at0 x) = false := by
  cases x with
  | nil => rfl
  | cons c r =>
    rcases nameB_cases h with hb | ⟨rfl, _⟩
    · exact begins_digit hb
    · rw [at0_cons]; decide
theorem unit_sep {x y : List UInt8} {n : Int} (hx : x = [] ∨ x = [37] ∨ isName x) (hs : sep ⟨5, x, n⟩ y) : digit (at0 (x ++ y)) = false ∧ unit (x ++ y) = x.length := by
  obtain ⟨_, _, h5, _, _⟩ := hs
  obtain ⟨h6, h7⟩ := h5 rfl
  rcases hx with rfl | rfl | hx
  · obtain ⟨a, b, c⟩ := h6 rfl
    exact ⟨a, unit_zero b c⟩
  · exact ⟨by show digit 37 = false; decide, rfl⟩
  · exact ⟨by rw [at0_app (isName_ne hx)]; exact name_nodigit hx.1, unit_name hx (h7 hx)⟩
theorem one_num (x : List UInt8) (n : Int) : oneS ⟨5, x, n⟩ = Lib.itoa n ++ x := rfl
theorem all_num {x y : List UInt8} {n : Int} (h1 : -999999999 ≤ n) (h2 : n ≤ 999999999) (hd : digit (at0 (x ++ y)) = false) (hu : unit (x ++ y) = x.length) : all (Lib.itoa n ++ (x ++ y)) = ⟨5, x, n⟩ :: all y := by
  by_cases hn : n < 0
  · have e : Lib.itoa n = 45 :: Lib.decDigits n.natAbs := by unfold Lib.itoa; rw [if_pos hn]
    have hh : digit (at0 (Lib.decDigits n.natAbs ++ (x ++ y))) = true := by
      rw [at0_app (dec_ne _)]
      cases hl : Lib.decDigits n.natAbs with
      | nil => exact absurd hl (dec_ne _)
      | cons c r => exact dec_digits _ _ (Nat.le_refl _) c (by rw [hl]; simp)
    rw [e, List.cons_append, all_cons, step_minus hh, number_app true (by omega) hd, hu]
    simp only [Option.toList_some, List.drop_succ_cons, List.cons_append, List.nil_append, if_true]
    rw [← List.drop_drop, List.drop_left, List.drop_left, List.take_left]
    rw [show -((n.natAbs : Nat) : Int) = n by omega]
  · have e : Lib.itoa n = Lib.decDigits n.toNat := by unfold Lib.itoa; rw [if_neg hn]
    rw [e]
    cases hl : Lib.decDigits n.toNat with
    | nil => exact absurd hl (dec_ne _)
    | cons c r =>
      have hc : digit c = true := dec_digits _ _ (Nat.le_refl _) c (by rw [hl]; simp)
      rw [List.cons_append, all_cons, step_number hc, ← List.cons_append, ← hl, number_app false (by omega) hd, hu]
      simp only [Option.toList_some, List.cons_append, List.nil_append, Bool.false_eq_true, if_false]
      rw [← List.drop_drop, List.drop_left, List.drop_left, List.take_left]
      rw [show ((n.toNat : Nat) : Int) = n by omega]
theorem all_comment {r y : List UInt8} (h : shut r = some (r.length - y.length)) (hy : r.drop (r.length - y.length) = y) : all (47 :: 42 :: r) = all y := by
  rw [all_cons]
  have e : step 47 (42 :: r) = (none, r.length - y.length + 2) := by
    unfold step
    rw [if_pos ⟨rfl, rfl⟩]
    simp only [List.tail_cons, comment, h]
  rw [e]
  simp only [Option.toList_none, List.nil_append, List.drop_succ_cons]
  rw [hy]
theorem all_between (y : List UInt8) : all (47 :: 42 :: 42 :: 47 :: y) = all y := by
  rw [all_cons]
  rfl
theorem all_line (y : List UInt8) : all (47 :: 42 :: 10 :: 42 :: 47 :: y) = all y := by
  rw [all_cons]
  rfl
theorem all_quote {q : UInt8} (h : q = 34 ∨ q = 39) (y : List UInt8) : all (q :: 47 :: 42 :: 10 :: 42 :: 47 :: y) = ⟨7, [q], 0⟩ :: all y := by
  have hi : inner q (47 :: 42 :: 10 :: 42 :: 47 :: y) = none := by rcases h with rfl | rfl <;> rfl
  have e : step q (47 :: 42 :: 10 :: 42 :: 47 :: y) = (some ⟨7, [q], 0⟩, 1) := by
    unfold step
    rcases h with rfl | rfl <;> (rw [hi]; rfl)
  rw [all_cons, e]
  simp only [Option.toList_some, List.drop_succ_cons, List.drop_zero, List.cons_append, List.nil_append, all_line]
theorem step_delim {c : UInt8} {y : List UInt8} (h1 : begins c = false) (h2 : digit c = false) (h3 : blank c = false) (h34 : c ≠ 34) (h39 : c ≠ 39) (hs : sep ⟨7, [c], 0⟩ y) : step c y = (some ⟨7, [c], 0⟩, 1) := by
  obtain ⟨_, _, _, _, h7⟩ := hs
  obtain ⟨a, b, d, e⟩ := h7 rfl
  unfold step
  rw [if_neg (fun x => a (by rw [x.1]) x.2), if_neg (by simp [h3]), if_neg (fun x => by rcases x.1 with x | x <;> contradiction),
    if_neg (fun x => by have := (run_pos_iff within_zero).1 x.2; rw [b (by rw [x.1])] at this; cases this),
    if_neg (fun x => by have := name_pos_iff.1 x.2; rw [d (by rw [x.1])] at this; cases this),
    if_neg (by simp [h2]), if_neg (fun x => by have := (e (by rw [x.1])).1; rw [x.2] at this; cases this), if_neg]
  intro x
  have hn := name_pos_iff.1 x
  rcases nameB_cases hn with hb | ⟨rfl, _⟩
  · rw [h1] at hb; cases hb
  · rw [(e rfl).2] at hn; cases hn
theorem one_delim {c : UInt8} (h34 : c ≠ 34) (h39 : c ≠ 39) : oneS ⟨7, [c], 0⟩ = [c] := by simp [oneS, h34, h39]
theorem all_one {t : Tok} {y : List UInt8} (h : Good t) (hs : sep t y) : all (oneS t ++ y) = t :: all y := by
  cases h with
  | ident x hx =>
    have e1 : oneS ⟨1, x, 0⟩ = x := rfl
    obtain ⟨hw, h40⟩ := hs.1 rfl
    have hn := name_app hx hw
    have hb := nameB_app (y := y) hx.1
    rw [e1]
    cases x with
    | nil => exact absurd rfl (isName_ne hx)
    | cons c r =>
      rw [List.cons_append] at hn hb ⊢
      rw [all_cons, step_name hb, hn, ← List.cons_append, List.drop_left, List.take_left, if_neg h40]
      simp only [Option.toList_some, List.cons_append, List.nil_append]
      rw [← List.cons_append, List.drop_left]
  | func x hx =>
    have e1 : oneS ⟨2, x, 0⟩ = x ++ [40] := rfl
    have hn := name_app (y := 40 :: y) hx (by rw [at0_cons]; decide)
    have hb := nameB_app (y := 40 :: y) hx.1
    rw [e1, List.append_assoc, List.cons_append, List.nil_append]
    cases x with
    | nil => exact absurd rfl (isName_ne hx)
    | cons c r =>
      rw [List.cons_append] at hn hb ⊢
      rw [all_cons, step_name hb, hn, ← List.cons_append, List.drop_left, List.take_left, if_pos (at0_cons 40 y)]
      simp only [Option.toList_some, List.cons_append, List.nil_append]
      rw [← List.cons_append, ← List.drop_drop, List.drop_left]
      rfl
  | word x hx =>
    have e1 : oneS ⟨3, x, 0⟩ = 64 :: x := rfl
    have hw := hs.2.1 (.inl rfl)
    have hn := name_app hx hw
    have e : step 64 (x ++ y) = (some ⟨3, x, 0⟩, x.length + 1) := by
      unfold step
      rw [if_neg (fun e => absurd e.1 (by decide)), if_neg (by decide), if_neg (by simp), if_neg (by simp), if_pos ⟨rfl, by rw [hn]; exact isName_len hx⟩, hn, List.take_left]
    rw [e1, List.cons_append, all_cons, e]
    simp only [Option.toList_some, List.drop_succ_cons, List.drop_left, List.cons_append, List.nil_append]
  | hash x hne hx =>
    have e1 : oneS ⟨4, x, 0⟩ = 35 :: x := rfl
    have hw := hs.2.1 (.inr rfl)
    have hn := run_word hx hw
    have e : step 35 (x ++ y) = (some ⟨4, x, 0⟩, x.length + 1) := by
      unfold step
      rw [if_neg (fun e => absurd e.1 (by decide)), if_neg (by decide), if_neg (by simp), if_pos ⟨rfl, by rw [hn]; exact List.length_pos_iff.2 hne⟩, hn, List.take_left]
    rw [e1, List.cons_append, all_cons, e]
    simp only [Option.toList_some, List.drop_succ_cons, List.drop_left, List.cons_append, List.nil_append]
  | num x n h1 h2 hx =>
    obtain ⟨hd, hu⟩ := unit_sep hx hs
    rw [one_num, List.append_assoc]
    exact all_num h1 h2 hd hu
  | str x q hq hx =>
    have e1 : oneS ⟨6, x, q.toNat⟩ = q :: (x ++ [q]) := by rcases hq with rfl | rfl <;> rfl
    have hi := inner_app (y := y) hx
    have e : step q (x ++ q :: y) = (some ⟨6, x, q.toNat⟩, x.length + 2) := by
      unfold step
      rw [if_neg (fun e => by rcases hq with rfl | rfl <;> exact absurd e.1 (by decide)), if_neg (by rcases hq with rfl | rfl <;> decide), if_pos ⟨hq, by rw [hi]; rfl⟩, hi]
      simp only [Option.getD_some, List.take_left]
    rw [e1, List.cons_append, List.append_assoc, List.cons_append, List.nil_append, all_cons, e]
    simp only [Option.toList_some, List.drop_succ_cons, List.cons_append, List.nil_append]
    rw [← List.drop_drop, List.drop_left]
    rfl
  | delim c h1 h2 h3 =>
    by_cases hq : c = 34 ∨ c = 39
    · have e1 : oneS ⟨7, [c], 0⟩ = [c, 47, 42, 10, 42, 47] := by rcases hq with rfl | rfl <;> rfl
      rw [e1]
      exact all_quote hq y
    · rw [not_or] at hq
      rw [one_delim hq.1 hq.2, List.cons_append, List.nil_append, all_cons, step_delim h1 h2 h3 hq.1 hq.2 hs]
      simp only [Option.toList_some, List.drop_succ_cons, List.drop_zero, List.cons_append, List.nil_append]
  | white =>
    have hw := hs.2.2.2.1 rfl
    have e1 : oneS ⟨8, [10], 0⟩ = [10] := rfl
    have hr : run blank (10 :: y) = 1 := by rw [run, if_pos (by decide), run_zero hw]
    have e : step 10 y = (some ⟨8, [10], 0⟩, 1) := by
      unfold step
      rw [if_neg (fun e => absurd e.1 (by decide)), if_pos (by decide), hr]
    rw [e1, List.cons_append, List.nil_append, all_cons, e]
    simp only [Option.toList_some, List.drop_succ_cons, List.drop_zero, List.cons_append, List.nil_append]
theorem good_all {t : Tok} (h : Good t) : all (oneS t) = [t] := by
  have := all_one h (sep_nil t)
  rw [List.append_nil, all_nil] at this
  exact this
theorem may_iff {t : Tok} : may t = true ↔ Good t := by
  unfold may
  rw [decide_eq_true_eq]
  exact ⟨fun h => all_good _ t (by rw [h]; simp), good_all⟩
end Go.Abs.Tk
namespace Go.Abs.Tk
open Go
theorem itoa_head (n : Int) : digit (at0 (Lib.itoa n)) = true ∨ at0 (Lib.itoa n) = 45 := by
  unfold Lib.itoa
  split
  · exact .inr rfl
  · left
    cases hl : Lib.decDigits n.toNat with
    | nil => exact absurd hl (dec_ne _)
    | cons c r => exact dec_digits _ _ (Nat.le_refl _) c (by rw [hl]; simp)
theorem itoa_ne (n : Int) : Lib.itoa n ≠ [] := fun h => by
  unfold Lib.itoa at h
  split at h
  · cases h
  · exact dec_ne _ h
theorem one_ne {t : Tok} (h : Good t) : oneS t ≠ [] := by
  cases h with
  | ident x hx => exact isName_ne hx
  | func x hx => show x ++ [40] ≠ []; simp
  | word x hx => show 64 :: x ≠ []; simp
  | hash x hne hx => show 35 :: x ≠ []; simp
  | num x n h1 h2 hx => rw [one_num]; intro e; exact itoa_ne n (List.append_eq_nil_iff.1 e).1
  | str x q hq hx => rcases hq with rfl | rfl <;> (intro e; cases e)
  | delim c h1 h2 h3 =>
    show (if [c] = [34] ∨ [c] = [39] then [c] ++ [47, 42, 10, 42, 47] else [c]) ≠ []
    split <;> simp
  | white => intro e; cases e
theorem delim_head (c : UInt8) : at0 (oneS ⟨7, [c], 0⟩) = c := by
  show at0 (if [c] = [34] ∨ [c] = [39] then [c] ++ [47, 42, 10, 42, 47] else [c]) = c
  split <;> rfl
theorem head_digit {t : Tok} (h : Good t) (hd : digit (at0 (oneS t)) = true) : ∃ x n, t = ⟨5, x, n⟩ ∧ 0 ≤ n ∧ n ≤ 999999999 ∧ (x = [] ∨ x = [37] ∨ isName x) := by
  cases h with
  | ident x hx => have := name_nodigit hx.1; rw [show oneS ⟨1, x, 0⟩ = x from rfl, this] at hd; cases hd
  | func x hx => have := name_nodigit hx.1; rw [show oneS ⟨2, x, 0⟩ = x ++ [40] from rfl, at0_app (isName_ne hx), this] at hd; cases hd
  | word x hx => exact absurd (show digit 64 = true from hd) (by decide)
  | hash x hne hx => exact absurd (show digit 35 = true from hd) (by decide)
  | num x n h1 h2 hx =>
    refine ⟨x, n, rfl, ?_, h2, hx⟩
    apply Classical.byContradiction
    intro hn
    have e : Lib.itoa n = 45 :: Lib.decDigits n.natAbs := by unfold Lib.itoa; rw [if_pos (by omega)]
    rw [one_num, e] at hd
    exact absurd (show digit 45 = true from hd) (by decide)
  | str x q hq hx => rcases hq with rfl | rfl
                     · exact absurd (show digit 34 = true from hd) (by decide)
                     · exact absurd (show digit 39 = true from hd) (by decide)
  | delim c h1 h2 h3 => rw [delim_head, h2] at hd; cases hd
  | white => exact absurd (show digit 10 = true from hd) (by decide)
theorem head_blank {t : Tok} (h : Good t) (hd : blank (at0 (oneS t)) = true) : t = ⟨8, [10], 0⟩ := by
  cases h with
  | ident x hx => have := within_blank (nameB_within hx.1); rw [show oneS ⟨1, x, 0⟩ = x from rfl, this] at hd; cases hd
  | func x hx => have := within_blank (nameB_within hx.1); rw [show oneS ⟨2, x, 0⟩ = x ++ [40] from rfl, at0_app (isName_ne hx), this] at hd; cases hd
  | word x hx => exact absurd (show blank 64 = true from hd) (by decide)
  | hash x hne hx => exact absurd (show blank 35 = true from hd) (by decide)
  | num x n h1 h2 hx =>
    rw [one_num, at0_app (itoa_ne n)] at hd
    rcases itoa_head n with h | h
    · rw [digit_blank h] at hd; cases hd
    · rw [h] at hd; exact absurd hd (by decide)
  | str x q hq hx => rcases hq with rfl | rfl
                     · exact absurd (show blank 34 = true from hd) (by decide)
                     · exact absurd (show blank 39 = true from hd) (by decide)
  | delim c h1 h2 h3 => rw [delim_head, h3] at hd; cases hd
  | white => rfl
theorem head_sign {t : Tok} {c : UInt8} (h : Good t) (hc : at0 (oneS t) = c) (hw : within c = false) (hb : blank c = false) (h34 : c ≠ 34) (h39 : c ≠ 39) (h35 : c ≠ 35) (h64 : c ≠ 64) : t = ⟨7, [c], 0⟩ := by
  cases h with
  | ident x hx => have := nameB_within hx.1; rw [show at0 x = c from hc, hw] at this; cases this
  | func x hx => have := nameB_within hx.1; rw [show oneS ⟨2, x, 0⟩ = x ++ [40] from rfl, at0_app (isName_ne hx)] at hc; rw [hc, hw] at this; cases this
  | word x hx => exact absurd (show 64 = c from hc).symm h64
  | hash x hne hx => exact absurd (show 35 = c from hc).symm h35
  | num x n h1 h2 hx =>
    rw [one_num, at0_app (itoa_ne n)] at hc
    rcases itoa_head n with h | h
    · rw [hc] at h; rw [digit_within h] at hw; cases hw
    · rw [hc] at h; rw [h] at hw; exact absurd hw (by decide)
  | str x q hq hx => rcases hq with rfl | rfl
                     · exact absurd (show 34 = c from hc).symm h34
                     · exact absurd (show 39 = c from hc).symm h39
  | delim d h1 h2 h3 => rw [delim_head] at hc; rw [hc]
  | white => rw [← show 10 = c from hc] at hb; exact absurd hb (by decide)
theorem head_dash {t : Tok} (h : Good t) (hc : oneS t = [45]) : t = ⟨7, [45], 0⟩ := by
  cases h with
  | ident x hx =>
    have := hx.1
    rw [show x = [45] from hc] at this
    exact absurd this (by decide)
  | func x hx =>
    have h2 := congrArg List.length (show x ++ [40] = [45] from hc)
    have h3 := isName_len hx
    simp only [List.length_append, List.length_cons, List.length_nil] at h2
    omega
  | word x hx => exact absurd (congrArg at0 hc) (show (64 : UInt8) ≠ 45 by decide)
  | hash x hne hx => exact absurd (congrArg at0 hc) (show (35 : UInt8) ≠ 45 by decide)
  | num x n h1 h2 hx =>
    rw [one_num] at hc
    unfold Lib.itoa at hc
    split at hc
    · rw [List.cons_append] at hc
      injection hc with _ hc
      exact absurd (List.append_eq_nil_iff.1 hc).1 (dec_ne _)
    · cases hl : Lib.decDigits n.toNat with
      | nil => exact absurd hl (dec_ne _)
      | cons c r =>
        have hd : digit c = true := dec_digits _ _ (Nat.le_refl _) c (by rw [hl]; simp)
        rw [hl] at hc
        have : c = 45 := congrArg at0 hc
        rw [this] at hd
        exact absurd hd (by decide)
  | str x q hq hx => rcases hq with rfl | rfl
                     · exact absurd (congrArg at0 hc) (show (34 : UInt8) ≠ 45 by decide)
                     · exact absurd (congrArg at0 hc) (show (39 : UInt8) ≠ 45 by decide)
  | delim d h1 h2 h3 =>
    have := congrArg at0 hc
    rw [delim_head] at this
    rw [show d = 45 from this]
  | white => exact absurd (congrArg at0 hc) (show (10 : UInt8) ≠ 45 by decide)
theorem run_more {p : UInt8 → Bool} {x y : List UInt8} (h0 : p 0 = false) (h : ∀ b ∈ x, p b = true) (hy : p (at0 y) = true) : x.length < run p (x ++ y) := by
  rw [run_app h]
  have := (run_pos_iff h0).2 hy
  omega
theorem take_ne {l x : List UInt8} {n : Nat} (h1 : x.length < n) (h2 : n ≤ l.length) : l.take n ≠ x := fun e => by
  have := congrArg List.length e
  rw [List.length_take] at this
  omega
theorem sep_of {a b : Tok} (ha : Good a) (hb : Good b) (h : all (oneS a ++ oneS b) = [a, b]) : sep a (oneS b) := by
  have hbn := one_ne hb
  generalize hy : oneS b = y at h hbn
  cases ha with
  | ident x hx =>
    refine ⟨fun _ => ?_, fun e => absurd e (by simp), fun e => absurd e (by simp), fun e => absurd e (by simp), fun e => absurd e (by simp)⟩
    have e1 : oneS ⟨1, x, 0⟩ = x := rfl
    rw [e1] at h
    have hb := nameB_app (y := y) hx.1
    have hxn := isName_ne hx
    have hle := name_le (x ++ y)
    have hnm : name (x ++ y) = run within (x ++ y) := by rw [name, if_pos hb]
    have h1 : within (at0 y) = false := by
      cases hw : within (at0 y)
      · rfl
      · have hm := run_more within_zero hx.2 hw
        rw [← hnm] at hm
        have hne := take_ne hm hle
        cases x with
        | nil => exact absurd rfl hxn
        | cons c r =>
          rw [List.cons_append] at h hb
          rw [all_cons, step_name hb] at h
          split at h
          · injection h with h _
            injection h with h _
            exact absurd h (by decide)
          · injection h with h _
            injection h with _ h _
            exact absurd h hne
    refine ⟨h1, fun h40 => ?_⟩
    have hn := name_app hx h1
    cases x with
    | nil => exact absurd rfl hxn
    | cons c r =>
      rw [List.cons_append] at h hb hn
      rw [all_cons, step_name hb, hn, ← List.cons_append, List.drop_left, if_pos h40] at h
      injection h with h _
      injection h with h _
      exact absurd h (by decide)
  | func x hx => exact ⟨fun e => absurd e (by simp), fun e => absurd e (by simp), fun e => absurd e (by simp), fun e => absurd e (by simp), fun e => absurd e (by simp)⟩
  | word x hx =>
    refine ⟨fun e => absurd e (by simp), fun _ => ?_, fun e => absurd e (by simp), fun e => absurd e (by simp), fun e => absurd e (by simp)⟩
    have e1 : oneS ⟨3, x, 0⟩ = 64 :: x := rfl
    rw [e1, List.cons_append] at h
    have hb := nameB_app (y := y) hx.1
    have hle := name_le (x ++ y)
    have hnm : name (x ++ y) = run within (x ++ y) := by rw [name, if_pos hb]
    cases hw : within (at0 y)
    · rfl
    · have hm := run_more within_zero hx.2 hw
      rw [← hnm] at hm
      have hne := take_ne hm hle
      have e : step 64 (x ++ y) = (some ⟨3, (x ++ y).take (name (x ++ y)), 0⟩, name (x ++ y) + 1) := by
        unfold step
        rw [if_neg (fun e => absurd e.1 (by decide)), if_neg (by decide), if_neg (by simp), if_neg (by simp), if_pos ⟨rfl, by omega⟩]
      rw [all_cons, e] at h
      injection h with h _
      injection h with _ h _
      exact absurd h hne
  | hash x hne0 hx =>
    refine ⟨fun e => absurd e (by simp), fun _ => ?_, fun e => absurd e (by simp), fun e => absurd e (by simp), fun e => absurd e (by simp)⟩
    have e1 : oneS ⟨4, x, 0⟩ = 35 :: x := rfl
    rw [e1, List.cons_append] at h
    cases hw : within (at0 y)
    · rfl
    · have hm := run_more within_zero hx hw
      have hne := take_ne hm (run_le _)
      have e : step 35 (x ++ y) = (some ⟨4, (x ++ y).take (run within (x ++ y)), 0⟩, run within (x ++ y) + 1) := by
        unfold step
        rw [if_neg (fun e => absurd e.1 (by decide)), if_neg (by decide), if_neg (by simp), if_pos ⟨rfl, by omega⟩]
      rw [all_cons, e] at h
      injection h with h _
      injection h with _ h _
      exact absurd h hne
  | num x n h1 h2 hx =>
    refine ⟨fun e => absurd e (by simp), fun e => absurd e (by simp), fun _ => ?_, fun e => absurd e (by simp), fun e => absurd e (by simp)⟩
    rw [one_num, List.append_assoc] at h
    refine ⟨fun ex => ?_, fun hxn => ?_⟩
    · have ex' : x = [] := ex
      subst ex'
      rw [List.nil_append] at h
      have hdig : digit (at0 y) = false := by
        cases hd : digit (at0 y)
        · rfl
        · exfalso
          subst hy
          obtain ⟨x2, m, rfl, hm0, hm1, hx2⟩ := head_digit hb hd
          have hu := unit_sep (y := []) (n := m) hx2 (sep_nil _)
          rw [List.append_nil] at hu
          rw [one_num] at h
          have em : Lib.itoa m = Lib.decDigits m.toNat := by unfold Lib.itoa; rw [if_neg (by omega)]
          rw [em] at h
          have hd2 := dec_digits m.toNat m.toNat (Nat.le_refl _)
          have key : ∀ (neg : Bool) (u : Nat), (number neg (Lib.decDigits u ++ (Lib.decDigits m.toNat ++ x2))).2 = (Lib.decDigits u ++ (Lib.decDigits m.toNat ++ x2)).length := by
            intro neg u
            have hd1 := dec_digits u u (Nat.le_refl _)
            have hd3 : ∀ b ∈ Lib.decDigits u ++ Lib.decDigits m.toNat, digit b = true := fun b hb => by
              rcases List.mem_append.1 hb with hb | hb
              · exact hd1 b hb
              · exact hd2 b hb
            rw [← List.append_assoc]
            unfold number
            simp only
            rw [run_word hd3 hu.1, List.drop_left, hu.2]; simp only [List.length_append]
          by_cases hn : n < 0
          · have e : Lib.itoa n = 45 :: Lib.decDigits n.natAbs := by unfold Lib.itoa; rw [if_pos hn]
            have hh : digit (at0 (Lib.decDigits n.natAbs ++ (Lib.decDigits m.toNat ++ x2))) = true := by
              rw [at0_app (dec_ne _)]
              cases hl : Lib.decDigits n.natAbs with
              | nil => exact absurd hl (dec_ne _)
              | cons c r => exact dec_digits _ _ (Nat.le_refl _) c (by rw [hl]; simp)
            rw [e, List.cons_append, all_cons, step_minus hh] at h
            simp only [Option.toList_some, List.drop_succ_cons, List.cons_append, List.nil_append] at h
            rw [key, List.drop_length, all_nil] at h
            injection h with _ h
            cases h
          · have e : Lib.itoa n = Lib.decDigits n.toNat := by unfold Lib.itoa; rw [if_neg hn]
            rw [e] at h
            have k := key false n.toNat
            cases hl : Lib.decDigits n.toNat with
            | nil => exact absurd hl (dec_ne _)
            | cons c r =>
              have hc : digit c = true := dec_digits _ _ (Nat.le_refl _) c (by rw [hl]; simp)
              rw [hl] at h k
              rw [List.cons_append, all_cons, step_number hc] at h
              simp only [Option.toList_some, List.cons_append, List.nil_append] at h k
              rw [k, List.drop_length, all_nil] at h
              injection h with _ h
              cases h
      have hunit : y.take (unit y) = [] := by
        by_cases hn : n < 0
        · have e : Lib.itoa n = 45 :: Lib.decDigits n.natAbs := by unfold Lib.itoa; rw [if_pos hn]
          have hh : digit (at0 (Lib.decDigits n.natAbs ++ y)) = true := by
            rw [at0_app (dec_ne _)]
            cases hl : Lib.decDigits n.natAbs with
            | nil => exact absurd hl (dec_ne _)
            | cons c r => exact dec_digits _ _ (Nat.le_refl _) c (by rw [hl]; simp)
          rw [e, List.cons_append, all_cons, step_minus hh, number_app true (by omega) hdig] at h
          injection h with h _
          injection h with _ h _
        · have e : Lib.itoa n = Lib.decDigits n.toNat := by unfold Lib.itoa; rw [if_neg hn]
          rw [e] at h
          have k := number_app (u := n.toNat) false (by omega) hdig
          cases hl : Lib.decDigits n.toNat with
          | nil => exact absurd hl (dec_ne _)
          | cons c r =>
            have hc : digit c = true := dec_digits _ _ (Nat.le_refl _) c (by rw [hl]; simp)
            rw [hl] at h k
            rw [List.cons_append, all_cons, step_number hc, ← List.cons_append, k] at h
            injection h with h _
            injection h with _ h _
      have hu0 : unit y = 0 := by
        have := congrArg List.length hunit
        rw [List.length_take] at this
        have h3 := unit_le y
        simp only [List.length_nil] at this
        omega
      have h37 : at0 y ≠ 37 := fun e => by rw [unit, if_pos e] at hu0; cases hu0
      refine ⟨hdig, h37, ?_⟩
      rw [unit, if_neg h37] at hu0
      cases hnb : nameB y
      · rfl
      · have := name_pos_iff.2 hnb; omega
    · cases hw : within (at0 y)
      · rfl
      · exfalso
        have hxn : isName x := hxn
        have hdz : digit (at0 (x ++ y)) = false := by rw [at0_app (isName_ne hxn)]; exact name_nodigit hxn.1
        have h37 : at0 (x ++ y) ≠ 37 := by
          rw [at0_app (isName_ne hxn)]
          exact within_ne (nameB_within hxn.1) (by decide)
        have hun : unit (x ++ y) = run within (x ++ y) := by rw [unit, if_neg h37, name, if_pos (nameB_app hxn.1)]
        have hm := run_more within_zero hxn.2 hw
        rw [← hun] at hm
        have hne := take_ne hm (unit_le _)
        by_cases hn : n < 0
        · have e : Lib.itoa n = 45 :: Lib.decDigits n.natAbs := by unfold Lib.itoa; rw [if_pos hn]
          have hh : digit (at0 (Lib.decDigits n.natAbs ++ (x ++ y))) = true := by
            rw [at0_app (dec_ne _)]
            cases hl : Lib.decDigits n.natAbs with
            | nil => exact absurd hl (dec_ne _)
            | cons c r => exact dec_digits _ _ (Nat.le_refl _) c (by rw [hl]; simp)
          rw [e, List.cons_append, all_cons, step_minus hh, number_app true (by omega) hdz] at h
          injection h with h _
          injection h with _ h _
          exact hne h
        · have e : Lib.itoa n = Lib.decDigits n.toNat := by unfold Lib.itoa; rw [if_neg hn]
          rw [e] at h
          have k := number_app (u := n.toNat) false (by omega) hdz
          cases hl : Lib.decDigits n.toNat with
          | nil => exact absurd hl (dec_ne _)
          | cons c r =>
            have hc : digit c = true := dec_digits _ _ (Nat.le_refl _) c (by rw [hl]; simp)
            rw [hl] at h k
            rw [List.cons_append, all_cons, step_number hc, ← List.cons_append, k] at h
            injection h with h _
            injection h with _ h _
            exact hne h
  | str x q hq hx => exact ⟨fun e => absurd e (by simp), fun e => absurd e (by simp), fun e => absurd e (by simp), fun e => absurd e (by simp), fun e => absurd e (by simp)⟩
  | delim c h1 h2 h3 =>
    refine ⟨fun e => absurd e (by simp), fun e => absurd e (by simp), fun e => absurd e (by simp), fun e => absurd e (by simp), fun _ => ⟨fun e => ?_, fun e => ?_, fun e => ?_, fun e => ?_⟩⟩
    · obtain rfl : c = 47 := by simpa using e
      intro h42
      rw [← hy] at h42
      have := head_sign hb h42 (by decide) (by decide) (by decide) (by decide) (by decide) (by decide)
      subst this
      subst hy
      exact absurd h (by decide)
    · obtain rfl : c = 35 := by simpa using e
      rw [one_delim (by decide) (by decide), List.cons_append, List.nil_append] at h
      cases hw : within (at0 y)
      · rfl
      · have hp := (run_pos_iff within_zero).2 hw
        have e : step 35 y = (some ⟨4, y.take (run within y), 0⟩, run within y + 1) := by
          unfold step
          rw [if_neg (fun e => absurd e.1 (by decide)), if_neg (by decide), if_neg (by simp), if_pos ⟨rfl, hp⟩]
        rw [all_cons, e] at h
        injection h with h _
        injection h with h _
        exact absurd h (by decide)
    · obtain rfl : c = 64 := by simpa using e
      rw [one_delim (by decide) (by decide), List.cons_append, List.nil_append] at h
      cases hw : nameB y
      · rfl
      · have hp := name_pos_iff.2 hw
        have e : step 64 y = (some ⟨3, y.take (name y), 0⟩, name y + 1) := by
          unfold step
          rw [if_neg (fun e => absurd e.1 (by decide)), if_neg (by decide), if_neg (by simp), if_neg (by simp), if_pos ⟨rfl, hp⟩]
        rw [all_cons, e] at h
        injection h with h _
        injection h with h _
        exact absurd h (by decide)
    · obtain rfl : c = 45 := by simpa using e
      rw [one_delim (by decide) (by decide), List.cons_append, List.nil_append] at h
      constructor
      · cases hd : digit (at0 y)
        · rfl
        · rw [all_cons, step_minus hd] at h
          injection h with h _
          injection h with h _
          exact absurd h (by decide)
      · cases hw : nameB (45 :: y)
        · rfl
        · rw [all_cons, step_name hw] at h
          split at h
          · injection h with h _
            injection h with h _
            exact absurd h (by decide)
          · injection h with h _
            injection h with h _
            exact absurd h (by decide)
  | white =>
    refine ⟨fun e => absurd e (by simp), fun e => absurd e (by simp), fun e => absurd e (by simp), fun _ => ?_, fun e => absurd e (by simp)⟩
    cases hw : blank (at0 y)
    · rfl
    · rw [← hy] at hw
      have := head_blank hb hw
      subst this
      subst hy
      exact absurd h (by decide)
theorem sep_app {a b : Tok} {z : List UInt8} (hb : Good b) (h : sep a (oneS b)) (hz : sep b z) : sep a (oneS b ++ z) := by
  have hn := one_ne hb
  have h0 : at0 (oneS b ++ z) = at0 (oneS b) := at0_app hn
  have hdash : nameB (45 :: (oneS b ++ z)) = nameB (45 :: oneS b) := by
    have e : ∀ w, nameB (45 :: w) = (begins 45 || ((45 : UInt8) == 45 && (begins (at0 w) || at0 w == 45))) := fun _ => rfl
    rw [e, e, h0]
  have hname : nameB (oneS b) = false → nameB (oneS b ++ z) = false := by
    intro hf
    generalize ho : oneS b = o at *
    match o, hn with
    | [c], _ =>
      cases hc : nameB ([c] ++ z)
      · rfl
      · rcases nameB_cases hc with hcb | ⟨rfl, _⟩
        · have : nameB [c] = true := by simp [nameB, at0, hcb]
          rw [this] at hf; cases hf
        · have := head_dash hb ho
          subst this
          have h7 := (hz.2.2.2.2 rfl).2.2.2 rfl
          rw [show nameB ([45] ++ z) = nameB (45 :: z) from rfl, h7.2] at hc
          cases hc
    | c :: d :: r, _ => exact hf
  obtain ⟨s1, s2, s3, s4, s5⟩ := h
  unfold sep
  rw [h0, hdash]
  refine ⟨s1, s2, fun e => ⟨fun ex => ?_, (s3 e).2⟩, s4, fun e => ⟨(s5 e).1, (s5 e).2.1, fun ex => hname ((s5 e).2.2.1 ex), (s5 e).2.2.2⟩⟩
  obtain ⟨x1, x2, x3⟩ := (s3 e).1 ex
  exact ⟨x1, x2, hname x3⟩
theorem rest_read : ∀ (l : List Tok) (a : Tok), Good a → (∀ t ∈ l, Good t) → sep a (rest a l) ∧ all (rest a l) = l
  | [], a, _, _ => ⟨sep_nil a, all_nil⟩
  | b :: l, a, ha, hl => by
    have hb := hl b (by simp)
    obtain ⟨h1, h2⟩ := rest_read l b hb (fun t ht => hl t (by simp [ht]))
    have h3 := all_one hb h1
    rw [h2] at h3
    rw [rest]
    cases hap : apart a b
    · simp only [Bool.false_eq_true, if_false, List.nil_append]
      have : all (oneS a ++ oneS b) = [a, b] := by
        simp only [apart, Bool.or_eq_false_iff, decide_eq_false_iff_not, Decidable.not_not] at hap
        exact hap.1
      exact ⟨sep_app hb (sep_of ha hb this) h1, h3⟩
    · simp only [if_true, List.cons_append, List.nil_append]
      exact ⟨sep_slash a _, by rw [all_between]; exact h3⟩
theorem back {l : List Tok} (h : ∀ t ∈ l, Good t) : all (text l) = l := by
  cases l with
  | nil => rfl
  | cons a l =>
    obtain ⟨h1, h2⟩ := rest_read l a (h a (by simp)) (fun t ht => h t (by simp [ht]))
    rw [text, all_one (h a (by simp)) h1, h2]
end Go.Abs.Tk
namespace Go.Abs.Tk
open Go
theorem all_len (l : List UInt8) : (all l).length ≤ l.length := by
  refine all_ind (Q := fun l => (all l).length ≤ l.length) (Nat.le_refl _) (fun c r ih => ?_) l
  rw [all_cons, List.length_append]
  have h1 := step_pos c r
  have h2 := step_le c r
  have h3 : (step c r).1.toList.length ≤ 1 := by cases (step c r).1 <;> simp
  rw [List.length_drop] at ih
  simp only [List.length_cons] at *
  omega
section both
variable {R R' : List UInt8}
end both
end Go.Abs.Tk
namespace Go.Abs
open Go
theorem size_mem : ∀ {l : List Val} {k : Int} {t : Tok} {l' : List Val}, Val.mk k t l' ∈ l → Ne.size l' < Ne.size l
  | v :: l, k, t, l', h => by
    rw [Ne.size]
    rcases List.mem_cons.1 h with rfl | h
    · rw [Ne.sizeV]; omega
    · have := size_mem h; omega
theorem ind_list {Q : List Val → Prop} (h : ∀ l, (∀ k t l', Val.mk k t l' ∈ l → Q l') → Q l) (l : List Val) : Q l := by
  have key : ∀ (m : Nat) (l : List Val), Ne.size l ≤ m → Q l := by
    intro m
    induction m with
    | zero =>
      intro l hl
      refine h l fun k t l' hm => ?_
      have := size_mem hm; omega
    | succ m ih =>
      intro l hl
      refine h l fun k t l' hm => ih l' ?_
      have := size_mem hm; omega
  exact key _ l (Nat.le_refl _)
theorem fewL_cons (deep left : Int) (k : Int) (t : Tok) (l r : List Val) : Ne.fewL deep left (.mk k t l :: r) =
    if left < 0 then left else if 100 < t.text.length then -1 else Ne.fewL deep (if 0 ≤ left - 1 ∧ l.isEmpty = false then Ne.few (deep - 1) (left - 1) l else left - 1) r := by
  rw [Ne.fewL, Ne.fewV]
  rfl
theorem few_bound : ∀ (l : List Val) (deep left : Int), -1 ≤ left → -1 ≤ Ne.fewL deep left l ∧ Ne.fewL deep left l ≤ left ∧ (0 ≤ left → -1 ≤ Ne.few deep left l ∧ Ne.few deep left l ≤ left) := by
  have key : ∀ (l : List Val), (∀ k t l', Val.mk k t l' ∈ l → ∀ deep left : Int, -1 ≤ left → -1 ≤ Ne.fewL deep left l' ∧ Ne.fewL deep left l' ≤ left) → ∀ deep left : Int, -1 ≤ left → -1 ≤ Ne.fewL deep left l ∧ Ne.fewL deep left l ≤ left := by
    intro l
    induction l with
    | nil => intro _ deep left h; rw [Ne.fewL]; omega
    | cons v r ih =>
      obtain ⟨k, t, l⟩ := v
      intro hin deep left h
      rw [fewL_cons]
      split
      · omega
      · split
        · omega
        · have hr := ih (fun k t l' hm => hin k t l' (by simp [hm])) deep
          split
          · have h1 := hin k t l (by simp) (deep - 1) (left - 1) (by omega)
            have h2 : -1 ≤ Ne.few (deep - 1) (left - 1) l ∧ Ne.few (deep - 1) (left - 1) l ≤ left - 1 := by
              unfold Ne.few
              split <;> omega
            have := hr _ h2.1
            omega
          · have := hr (left - 1) (by omega)
            omega
  intro l deep left h
  have hl : ∀ deep left : Int, -1 ≤ left → -1 ≤ Ne.fewL deep left l ∧ Ne.fewL deep left l ≤ left := ind_list (fun l hin => key l hin) l
  have h1 := hl deep left h
  refine ⟨h1.1, h1.2, fun h0 => ?_⟩
  unfold Ne.few
  split
  · omega
  · exact h1
theorem parse_len {left : Nat} {l : List Tok} {x : List Val × List Tok} (h : Ne.until_ 0 left l = some x) : Ne.size x.1 ≤ l.length := by
  have : Ne.parse left l = some x.1 := by unfold Ne.parse; rw [h]; rfl
  exact (Ne.parse_good this).2.2.1
def TokOk (t : Tok) : Prop := I64 t.n ∧ t.text.length < 1000000000
mutual
def Ne.allV (p : Tok → Prop) : Val → Prop
  | .mk _ t l => p t ∧ Ne.allT p l
def Ne.allT (p : Tok → Prop) : List Val → Prop
  | [] => True
  | v :: l => Ne.allV p v ∧ Ne.allT p l
end
mutual
theorem Ne.allV_and {p q : Tok → Prop} : ∀ v : Val, Ne.allV p v → Ne.allV q v → Ne.allV (fun t => p t ∧ q t) v
  | .mk _ t l, h, k => by
    rw [Ne.allV] at h k ⊢
    exact ⟨⟨h.1, k.1⟩, Ne.allT_and l h.2 k.2⟩
theorem Ne.allT_and {p q : Tok → Prop} : ∀ l : List Val, Ne.allT p l → Ne.allT q l → Ne.allT (fun t => p t ∧ q t) l
  | [], _, _ => by rw [Ne.allT]; trivial
  | v :: l, h, k => by
    rw [Ne.allT] at h k ⊢
    exact ⟨Ne.allV_and v h.1 k.1, Ne.allT_and l h.2 k.2⟩
end
mutual
theorem Ne.flatV_all {p : Tok → Prop} (hd : ∀ c : UInt8, p ⟨7, [c], 0⟩) : ∀ v : Val, Ne.allV p v → ∀ t ∈ Ne.flatV v, p t
  | .mk k t l, h => by
    rw [Ne.allV] at h
    rw [Ne.flatV]
    intro x hx
    split at hx
    · obtain rfl : x = t := by simpa using hx
      exact h.1
    · split at hx
      · simp only [List.mem_cons, List.mem_append, List.not_mem_nil, or_false] at hx
        rcases hx with rfl | hx | rfl
        · exact h.1
        · exact Ne.flat_all hd l h.2 x hx
        · exact hd _
      · split at hx
        · simp only [List.mem_cons, List.mem_append, List.not_mem_nil, or_false] at hx
          rcases hx with rfl | hx | rfl
          · exact hd _
          · exact Ne.flat_all hd l h.2 x hx
          · exact hd _
        · cases hx
theorem Ne.flat_all {p : Tok → Prop} (hd : ∀ c : UInt8, p ⟨7, [c], 0⟩) : ∀ l : List Val, Ne.allT p l → ∀ t ∈ Ne.flat l, p t
  | [], _ => by rw [Ne.flat]; intro t ht; cases ht
  | v :: l, h => by
    rw [Ne.allT] at h
    rw [Ne.flat]
    intro t ht
    rcases List.mem_append.1 ht with ht | ht
    · exact Ne.flatV_all hd v h.1 t ht
    · exact Ne.flat_all hd l h.2 t ht
end
theorem fewL_facts (l : List Val) : ∀ (deep left : Int), 0 ≤ Ne.fewL deep left l → (Ne.size l : Int) ≤ left - Ne.fewL deep left l ∧ Ne.allT (fun t => t.text.length ≤ 100) l := by
  have key : ∀ (l : List Val), (∀ k t l', Val.mk k t l' ∈ l → ∀ deep left : Int, 0 ≤ Ne.fewL deep left l' → (Ne.size l' : Int) ≤ left - Ne.fewL deep left l' ∧ Ne.allT (fun t => t.text.length ≤ 100) l') →
      ∀ deep left : Int, 0 ≤ Ne.fewL deep left l → (Ne.size l : Int) ≤ left - Ne.fewL deep left l ∧ Ne.allT (fun t => t.text.length ≤ 100) l := by
    intro l
    induction l with
    | nil =>
      intro _ deep left h
      rw [Ne.fewL, Ne.size, Ne.allT]
      exact ⟨by omega, trivial⟩
    | cons v r ih =>
      obtain ⟨k, t, l⟩ := v
      intro hin deep left h
      rw [fewL_cons] at h ⊢
      rw [Ne.size, Ne.sizeV, Ne.allT, Ne.allV]
      split at h
      · omega
      · rename_i h0
        rw [if_neg h0]
        split at h
        · omega
        · rename_i h1
          rw [if_neg h1]
          have hr := ih (fun k t l' hm => hin k t l' (by simp [hm])) deep _ h
          split at h
          · rename_i h2
            rw [if_pos h2] at hr ⊢
            have hnext : 0 ≤ Ne.few (deep - 1) (left - 1) l := by omega
            have hf : Ne.few (deep - 1) (left - 1) l = Ne.fewL (deep - 1) (left - 1) l := by
              unfold Ne.few at hnext ⊢
              split at hnext
              · omega
              · rename_i h3; rw [if_neg h3]
            rw [hf] at hnext hr ⊢
            have hl := hin k t l (by simp) (deep - 1) (left - 1) hnext
            exact ⟨by omega, ⟨by omega, hl.2⟩, hr.2⟩
          · rename_i h2
            rw [if_neg h2] at hr ⊢
            have hn : 0 ≤ left - 1 := by omega
            have hl : l = [] := by
              cases l with
              | nil => rfl
              | cons a b => exact absurd ⟨hn, rfl⟩ h2
            subst hl
            rw [Ne.size, Ne.allT]
            exact ⟨by omega, ⟨by omega, trivial⟩, hr.2⟩
  exact ind_list (Q := fun l => ∀ (deep left : Int), 0 ≤ Ne.fewL deep left l → (Ne.size l : Int) ≤ left - Ne.fewL deep left l ∧ Ne.allT (fun t => t.text.length ≤ 100) l) (fun l hin => key l hin) l
theorem few_facts {l : List Val} {deep left : Int} (h : 0 ≤ Ne.few deep left l) : (Ne.size l : Int) ≤ left ∧ Ne.allT (fun t => t.text.length ≤ 100) l := by
  unfold Ne.few at h
  split at h
  · omega
  · have := fewL_facts l deep left h
    exact ⟨by omega, this.2⟩
theorem same_refl (l : List Val) : Ne.same l l = true := (Ne.same_iff l l).2 rfl
end Go.Abs
namespace Go.Abs
open Go Go.Proofs
set_option maxRecDepth 10000
attribute [local go_sem] exL_seq exL_region exL_cond exL_block exL_scope exL_ret exL_skip exL_exit runRegion runOps stepOp guardA absOp takeOver opd avOf cvOf St.degAt St.put okPV okVal okAV absBin intBin strBin boolBin setBoxes if_true Bool.false_eq_true if_false Option.map_some Option.map_none Option.bind_some Option.bind_none thenO outOf upd List.toList_toArray isOwn steal appArgs inApps AV.deg CV.deg AV.gv AV.isIter absNext some_bne List.length_nil List.length_cons List.filterMap_cons List.filterMap_nil beq_iff_eq List.getElem?_cons_zero List.getElem?_cons_succ Option.getD_some K_hook hookB Bool.false_and Bool.and_false Bool.and_self K_P K_own absCall doCall getBoxes lend back idx dedup AV.ren CV.ren TV.ren AV.ptrs CV.ptrs zipBox AV.flat CV.flat absLoad absStore cellsOfAV setAt newBox markB bldTypes absFieldAddr absField absExtract absAssert noAssert absMkIface ifcOf CV.pv? content pushHead ownT fillCells reps pvs chunks enterSt leave resOf resVars resVar outBoxes lentOnly TV.deg TV.av LK CV.plain CV.noBld nilBin absUn bound List.map_cons List.map_nil List.all_cons List.all_nil List.any_cons List.any_nil List.contains_cons List.contains_nil List.elem_cons List.elem_nil List.cons_append List.nil_append List.append_nil List.flatMap_cons List.flatMap_nil List.zip_cons_cons List.zip_nil_left List.zip_nil_right List.take_succ_cons List.take_zero List.take_nil List.drop_succ_cons List.drop_zero List.drop_nil List.isEmpty_nil List.isEmpty_cons Bool.and_true Bool.true_and Bool.or_true Bool.true_or Bool.or_false Bool.false_or Bool.not_true Bool.not_false Nat.add_zero Nat.zero_add Option.isNone_none Option.isNone_some Option.getD_none true_and and_true not_true_eq_false not_false_eq_true decide_true decide_false Nat.le_refl and_self Bool.not_eq_true Nat.sub_self or_true true_or Option.some.injEq List.length_map List.nil_eq and_false false_and AV.live CV.live CV.liveIn K_keep firstReg Option.orElse_some Option.orElse_none head keepSlots keepBoxes Int.lt_irrefl List.length_append ite_self memOK logOps opKey lentBoxes Key.clash Key.sees Key.writes Nat.lt_irrefl gt_iff_lt nobox_at bot_at false_or or_false beq_self_eq_true Bool.true_beq Bool.false_beq
theorem tok_eq (k k' n n' : Int) (t t' : List UInt8) : structEq Tryz.prog 45 [.int .i64 k, .str t, .int .i64 n] [.int .i64 k', .str t', .int .i64 n'] = some ((k == k') && ((t == t') && ((n == n') && true))) := by kernel_rfl
theorem tok_beq (a b : Tok) : ((a.kind == b.kind) && ((a.text == b.text) && ((a.n == b.n) && true))) = decide (a = b) := by
  obtain ⟨k, t, n⟩ := a
  obtain ⟨k', t', n'⟩ := b
  rw [Bool.eq_iff_iff, decide_eq_true_eq]
  simp [Tok.mk.injEq]
def lenOk (n : Nat) : Prop := n < 9000000000000000000
theorem enc_at (l : List Tok) (i : Nat) (t : Tok) (h : l[i]? = some t) : (l.map Tok.enc)[(i : Int).toNat]? = some [.int .i64 t.kind, .str t.text, .int .i64 t.n] := by
  simp [h, Tok.enc]
end Go.Abs
namespace Go.Abs
open Go Go.Proofs
set_option maxRecDepth 10000
attribute [local go_sem] exL_seq exL_region exL_cond exL_block exL_scope exL_ret exL_skip exL_exit runRegion runOps stepOp guardA absOp takeOver opd avOf cvOf St.degAt St.put okPV okVal okAV absBin intBin strBin boolBin setBoxes if_true Bool.false_eq_true if_false Option.map_some Option.map_none Option.bind_some Option.bind_none thenO outOf upd List.toList_toArray isOwn steal appArgs inApps AV.deg CV.deg AV.gv AV.isIter absNext some_bne List.length_nil List.length_cons List.filterMap_cons List.filterMap_nil beq_iff_eq List.getElem?_cons_zero List.getElem?_cons_succ Option.getD_some K_hook hookB Bool.false_and Bool.and_false Bool.and_self K_P K_own absCall doCall getBoxes lend back idx dedup AV.ren CV.ren TV.ren AV.ptrs CV.ptrs zipBox AV.flat CV.flat absLoad absStore cellsOfAV setAt newBox markB bldTypes absFieldAddr absField absExtract absAssert noAssert absMkIface ifcOf CV.pv? content pushHead ownT fillCells reps pvs chunks enterSt leave resOf resVars resVar outBoxes lentOnly TV.deg TV.av LK CV.plain CV.noBld nilBin absUn bound List.map_cons List.map_nil List.all_cons List.all_nil List.any_cons List.any_nil List.contains_cons List.contains_nil List.elem_cons List.elem_nil List.cons_append List.nil_append List.append_nil List.flatMap_cons List.flatMap_nil List.zip_cons_cons List.zip_nil_left List.zip_nil_right List.take_succ_cons List.take_zero List.take_nil List.drop_succ_cons List.drop_zero List.drop_nil List.isEmpty_nil List.isEmpty_cons Bool.and_true Bool.true_and Bool.or_true Bool.true_or Bool.or_false Bool.false_or Bool.not_true Bool.not_false Nat.add_zero Nat.zero_add Option.isNone_none Option.isNone_some Option.getD_none true_and and_true not_true_eq_false not_false_eq_true decide_true decide_false Nat.le_refl and_self Bool.not_eq_true Nat.sub_self or_true true_or Option.some.injEq List.length_map List.nil_eq and_false false_and AV.live CV.live CV.liveIn K_keep firstReg Option.orElse_some Option.orElse_none head keepSlots keepBoxes Int.lt_irrefl List.length_append ite_self memOK logOps opKey lentBoxes Key.clash Key.sees Key.writes Nat.lt_irrefl gt_iff_lt nobox_at bot_at false_or or_false beq_self_eq_true Bool.true_beq Bool.false_beq
theorem lens_valsK (l : List Val) : lens 5 (encL l) = true := by
  rw [encL_map]
  simp only [lens, List.all_map, List.all_eq_true, Function.comp_apply, beq_iff_eq]
  intro v _
  exact enc_len v
theorem lens_toksK (l : List Tok) : lens 3 (l.map Tok.enc) = true := by simp [lens, Tok.enc]
theorem lens_tokK (a b c : PV) : lens 3 [[a, b, c]] = true := rfl
theorem lens_valK (a b c d e : PV) : lens 5 [[a, b, c, d, e]] = true := rfl
theorem val_at (l : List Val) (i : Nat) (k : Int) (t : Tok) (l' : List Val) (h : l[i]? = some (.mk k t l')) : (encL l)[(i : Int).toNat]? = some [.int .i64 k, .int .i64 t.kind, .str t.text, .int .i64 t.n, .sl (encL l')] := encL_get l i _ h
theorem pairs_den : den K 53 [] [] = some (.ret (.c (.cmap pairsE)) []) := prim_run (F := pPairs) rfl rfl
theorem delim_den (s : List UInt8) : den K 54 [T s] [] = some (.ret (.agg [.pv (.int .i64 7), .pv (.str s), .pv (.int .i64 0)]) []) := by
  refine den_run rfl rfl Tryz.func54 rfl Tryz.ntmps54 ⟨by simp, by simp [LK]⟩ ?_
  have hr : Tryz.f54.results = #[.cell 2 45] := rfl
  simp only [go_sem, Nat.reduceLT, reduceIte, reduceCtorEq, Nat.reduceEqDiff, apply_ite (Option.map (outOf _)), Nat.reduceBEq, Nat.reduceAdd, Nat.reduceSub, Nat.reduceLeDiff, Nat.reduceMul, ty_shapeT_45, ty_zeroCells_45, ev_build ty_zeroCells_45 ty_placesOf_45, ty_szOf_45, hr]
abbrev closeCv (k : Int) : List CV := [.pv (.int .i64 7), .pv (.str [Ne.closeC k]), .pv (.int .i64 0)]
theorem closing_den (k : Int) : den K 55 [I k] [] = some (.ret (.agg (closeCv k)) []) := by
  refine den_run rfl rfl Tryz.func55 rfl Tryz.ntmps55 ⟨by simp, by simp [LK]⟩ ?_
  have hr : Tryz.f55.results = #[.cell 2 45] := rfl
  have hp := pairs_den
  have d1 := delim_den [41]
  have d2 := delim_den [93]
  have d3 := delim_den [125]
  by_cases h2 : k = 2
  · subst h2
    simp only [go_sem, Nat.reduceLT, reduceIte, reduceCtorEq, Nat.reduceEqDiff, apply_ite (Option.map (outOf _)), Nat.reduceBEq, Nat.reduceAdd, Nat.reduceSub, Nat.reduceLeDiff, Nat.reduceMul, ty_shapeT_45, ty_zeroCells_45, good_53, ty_zeroCells_87, ty_szOf_87, ty_fieldOff_87_1, ty_szOf_9, ty_shapeT_9, good_54, ty_szOf_45, K_ownP, hr, hp, NR.look_2, d1, d2, d3]
    rfl
  by_cases h3 : k = 3
  · subst h3
    simp only [go_sem, Nat.reduceLT, reduceIte, reduceCtorEq, Nat.reduceEqDiff, apply_ite (Option.map (outOf _)), Nat.reduceBEq, Nat.reduceAdd, Nat.reduceSub, Nat.reduceLeDiff, Nat.reduceMul, ty_shapeT_45, ty_zeroCells_45, good_53, ty_zeroCells_87, ty_szOf_87, ty_fieldOff_87_1, ty_szOf_9, ty_shapeT_9, good_54, ty_szOf_45, K_ownP, hr, hp, NR.look_3, d1, d2, d3]
    rfl
  by_cases h4 : k = 4
  · subst h4
    simp only [go_sem, Nat.reduceLT, reduceIte, reduceCtorEq, Nat.reduceEqDiff, apply_ite (Option.map (outOf _)), Nat.reduceBEq, Nat.reduceAdd, Nat.reduceSub, Nat.reduceLeDiff, Nat.reduceMul, ty_shapeT_45, ty_zeroCells_45, good_53, ty_zeroCells_87, ty_szOf_87, ty_fieldOff_87_1, ty_szOf_9, ty_shapeT_9, good_54, ty_szOf_45, K_ownP, hr, hp, NR.look_4, d1, d2, d3]
    rfl
  have hl := NR.look_no k h2 h3 h4
  have hv : Ne.closeC k = 41 := by simp [Ne.closeC, h3, h4]
  rw [closeCv, hv]
  simp only [go_sem, Nat.reduceLT, reduceIte, reduceCtorEq, Nat.reduceEqDiff, apply_ite (Option.map (outOf _)), Nat.reduceBEq, Nat.reduceAdd, Nat.reduceSub, Nat.reduceLeDiff, Nat.reduceMul, ty_shapeT_45, ty_zeroCells_45, good_53, ty_zeroCells_87, ty_szOf_87, ty_fieldOff_87_1, ty_szOf_9, ty_shapeT_9, good_54, ty_szOf_45, K_ownP, hr, hp, hl, d1, d2, d3]
abbrev flatH (l : List Val) (i : Nat) (e : Nat) (acc : List Tok) : St :=
  { sl := upd (upd (upd (upd bot 10 (I i)) 9 (I l.length)) 8 (L (encL l))) 3 (.c (.own e (acc.map Tok.enc))), bx := nobox, nt := 60 }
noncomputable def flp : Code := .loop (loopAt Tryz.f37 3)
def FlatDen (l : List Val) : Prop := Ne.size l ≤ 1000000 → den K 37 [L (encL l)] [] = some (.ret (L ((Ne.flat l).map Tok.enc)) [])
theorem snoc_tok (acc : List Tok) (t : Tok) : acc.map Tok.enc ++ [[.int .i64 t.kind, .str t.text, .int .i64 t.n]] = (acc ++ [t]).map Tok.enc := by simp [Tok.enc]
theorem snoc_del (acc : List Tok) (c : UInt8) : acc.map Tok.enc ++ [[.int .i64 7, .str [c], .int .i64 0]] = (acc ++ [Tok.mk 7 [c] 0]).map Tok.enc := by simp [Tok.enc]
theorem app_toks (a b : List Tok) : a.map Tok.enc ++ b.map Tok.enc = (a ++ b).map Tok.enc := by simp
set_option maxHeartbeats 4000000 in
theorem flat_step (l : List Val) (i : Nat) (e : Nat) (acc : List Tok) (he : e = 45 ∨ acc = []) (k : Int) (t : Tok) (l' : List Val) (hi : l[i]? = some (.mk k t l')) (hlen : l.length ≤ 1000000) (hacc : acc.length ≤ 3000000) (hs : (Ne.flat l').length ≤ 3000000)
    (hf : den K 37 [L (encL l')] [] = some (.ret (L ((Ne.flat l').map Tok.enc)) [])) :
    ∃ e', (e' = 45 ∨ acc ++ Ne.flatV (.mk k t l') = []) ∧ exL K 37 flp (flatH l i e acc) = exL K 37 flp (flatH l (i + 1) e' (acc ++ Ne.flatV (.mk k t l'))) := by
  have hil : i < l.length := (List.getElem?_eq_some_iff.1 hi).1
  have hlt : decide ((i : Int) < (l.length : Int)) = true := decide_eq_true (by omega)
  have hget := val_at l i k t l' hi
  have hw : IntKind.i64.wrap ((i : Int) + 1) = ((i + 1 : Nat) : Int) := wrap_nat i (by omega)
  have hp := pairs_den
  have hc := closing_den k
  have hown : e = 45 ∨ (acc.map Tok.enc).isEmpty = true := by
    rcases he with rfl | rfl
    · exact .inl rfl
    · exact .inr rfl
  have hlim1 : acc.length + 1 < appLim := by unfold appLim; omega
  have hlim2 : acc.length + 1 + (Ne.flat l').length < appLim := by unfold appLim; omega
  have hlim3 : acc.length + 1 + (Ne.flat l').length + 1 < appLim := by unfold appLim; omega
  unfold flp
  conv in loopAt _ _ => whnf
  conv in loopAt _ _ => whnf
  conv in exL _ _ _ (flatH l i e acc) => rw [exL_loop]
  by_cases h1 : k = 1
  · subst h1
    have hl := NR.look_no 1 (by decide) (by decide) (by decide)
    refine ⟨45, .inl rfl, ?_⟩
    have hv : Ne.flatV (.mk 1 t l') = [t] := by rw [Ne.flatV, if_pos rfl]
    rw [hv]
    simp only [go_sem, Nat.reduceLT, reduceIte, reduceCtorEq, Nat.reduceEqDiff, apply_ite (Option.map (outOf _)), Nat.reduceBEq, Nat.reduceAdd, Nat.reduceSub, Nat.reduceLeDiff, Nat.reduceMul, ev_len_sl ty_descOf_22, ev_indexAddr ty_descOf_22, ty_szOf_47, ty_shapeT_47, ty_zeroCells_47, good_53, ty_fieldOff_47_0, ty_szOf_3, ty_shapeT_3, ty_zeroCells_87, ty_szOf_87, ty_fieldOff_47_1, ty_szOf_45, ty_shapeT_45, ev_buildSlice (len := 1) ty_descOf_41 ty_szOf_45 ty_zeroCells_45 ⟨rfl, by decide, by decide⟩, ev_append ty_appInfo_41, ev_appNew_sl ty_descOf_41, ty_fieldOff_87_0, ty_szOf_9, ty_shapeT_9, good_54, ty_fieldOff_47_2, ty_szOf_22, ty_shapeT_22, good_37, good_55, keep_37_3, K_ownP, hlt, hget, Int.natCast_nonneg, hp, hl, hf, hc, lens_toksK, lens_tokK, hlim1, hlim2, hlim3, hown, snoc_tok, snoc_del, app_toks, hw]
    rw [reach_if]
    rotate_left
    · kernel_rfl
    simp only [go_sem, Nat.reduceLT, reduceIte, reduceCtorEq, Nat.reduceEqDiff, apply_ite (Option.map (outOf _)), Nat.reduceBEq, Nat.reduceAdd, Nat.reduceSub, Nat.reduceLeDiff, Nat.reduceMul, ev_len_sl ty_descOf_22, ev_indexAddr ty_descOf_22, ty_szOf_47, ty_shapeT_47, ty_zeroCells_47, good_53, ty_fieldOff_47_0, ty_szOf_3, ty_shapeT_3, ty_zeroCells_87, ty_szOf_87, ty_fieldOff_47_1, ty_szOf_45, ty_shapeT_45, ev_buildSlice (len := 1) ty_descOf_41 ty_szOf_45 ty_zeroCells_45 ⟨rfl, by decide, by decide⟩, ev_append ty_appInfo_41, ev_appNew_sl ty_descOf_41, ty_fieldOff_87_0, ty_szOf_9, ty_shapeT_9, good_54, ty_fieldOff_47_2, ty_szOf_22, ty_shapeT_22, good_37, good_55, keep_37_3, K_ownP, hlt, hget, Int.natCast_nonneg, hp, hl, hf, hc, lens_toksK, lens_tokK, hlim1, hlim2, hlim3, hown, snoc_tok, snoc_del, app_toks, hw]
    rw [exL_head]
    simp only [go_sem, Nat.reduceLT, reduceIte, reduceCtorEq, Nat.reduceEqDiff, apply_ite (Option.map (outOf _)), Nat.reduceBEq, Nat.reduceAdd, Nat.reduceSub, Nat.reduceLeDiff, Nat.reduceMul, ev_len_sl ty_descOf_22, ev_indexAddr ty_descOf_22, ty_szOf_47, ty_shapeT_47, ty_zeroCells_47, good_53, ty_fieldOff_47_0, ty_szOf_3, ty_shapeT_3, ty_zeroCells_87, ty_szOf_87, ty_fieldOff_47_1, ty_szOf_45, ty_shapeT_45, ev_buildSlice (len := 1) ty_descOf_41 ty_szOf_45 ty_zeroCells_45 ⟨rfl, by decide, by decide⟩, ev_append ty_appInfo_41, ev_appNew_sl ty_descOf_41, ty_fieldOff_87_0, ty_szOf_9, ty_shapeT_9, good_54, ty_fieldOff_47_2, ty_szOf_22, ty_shapeT_22, good_37, good_55, keep_37_3]
  by_cases h5 : k = 5
  · subst h5
    have hl := NR.look_no 5 (by decide) (by decide) (by decide)
    have n1 : ((5 : Int) = 1) = False := by decide
    refine ⟨45, .inl rfl, ?_⟩
    have hv : Ne.flatV (.mk 5 t l') = t :: (Ne.flat l' ++ [Ne.closeT 5]) := by rw [Ne.flatV, if_neg (by decide), if_pos rfl]
    rw [hv]
    have ha : acc ++ t :: (Ne.flat l' ++ [Ne.closeT 5]) = acc ++ [t] ++ Ne.flat l' ++ [Tok.mk 7 [Ne.closeC 5] 0] := by simp [Ne.closeT]
    rw [ha]
    simp only [go_sem, Nat.reduceLT, reduceIte, reduceCtorEq, Nat.reduceEqDiff, apply_ite (Option.map (outOf _)), Nat.reduceBEq, Nat.reduceAdd, Nat.reduceSub, Nat.reduceLeDiff, Nat.reduceMul, ev_len_sl ty_descOf_22, ev_indexAddr ty_descOf_22, ty_szOf_47, ty_shapeT_47, ty_zeroCells_47, good_53, ty_fieldOff_47_0, ty_szOf_3, ty_shapeT_3, ty_zeroCells_87, ty_szOf_87, ty_fieldOff_47_1, ty_szOf_45, ty_shapeT_45, ev_buildSlice (len := 1) ty_descOf_41 ty_szOf_45 ty_zeroCells_45 ⟨rfl, by decide, by decide⟩, ev_append ty_appInfo_41, ev_appNew_sl ty_descOf_41, ty_fieldOff_87_0, ty_szOf_9, ty_shapeT_9, good_54, ty_fieldOff_47_2, ty_szOf_22, ty_shapeT_22, good_37, good_55, keep_37_3, K_ownP, hlt, hget, Int.natCast_nonneg, hp, hl, hf, hc, lens_toksK, lens_tokK, hlim1, hlim2, hlim3, hown, snoc_tok, snoc_del, app_toks, hw, n1]
    rw [reach_if]
    rotate_left
    · kernel_rfl
    simp only [go_sem, Nat.reduceLT, reduceIte, reduceCtorEq, Nat.reduceEqDiff, apply_ite (Option.map (outOf _)), Nat.reduceBEq, Nat.reduceAdd, Nat.reduceSub, Nat.reduceLeDiff, Nat.reduceMul, ev_len_sl ty_descOf_22, ev_indexAddr ty_descOf_22, ty_szOf_47, ty_shapeT_47, ty_zeroCells_47, good_53, ty_fieldOff_47_0, ty_szOf_3, ty_shapeT_3, ty_zeroCells_87, ty_szOf_87, ty_fieldOff_47_1, ty_szOf_45, ty_shapeT_45, ev_buildSlice (len := 1) ty_descOf_41 ty_szOf_45 ty_zeroCells_45 ⟨rfl, by decide, by decide⟩, ev_append ty_appInfo_41, ev_appNew_sl ty_descOf_41, ty_fieldOff_87_0, ty_szOf_9, ty_shapeT_9, good_54, ty_fieldOff_47_2, ty_szOf_22, ty_shapeT_22, good_37, good_55, keep_37_3, K_ownP, hlt, hget, Int.natCast_nonneg, hp, hl, hf, hc, lens_toksK, lens_tokK, hlim1, hlim2, hlim3, hown, snoc_tok, snoc_del, app_toks, hw, n1]
    rw [exL_head]
    simp only [go_sem, Nat.reduceLT, reduceIte, reduceCtorEq, Nat.reduceEqDiff, apply_ite (Option.map (outOf _)), Nat.reduceBEq, Nat.reduceAdd, Nat.reduceSub, Nat.reduceLeDiff, Nat.reduceMul, ev_len_sl ty_descOf_22, ev_indexAddr ty_descOf_22, ty_szOf_47, ty_shapeT_47, ty_zeroCells_47, good_53, ty_fieldOff_47_0, ty_szOf_3, ty_shapeT_3, ty_zeroCells_87, ty_szOf_87, ty_fieldOff_47_1, ty_szOf_45, ty_shapeT_45, ev_buildSlice (len := 1) ty_descOf_41 ty_szOf_45 ty_zeroCells_45 ⟨rfl, by decide, by decide⟩, ev_append ty_appInfo_41, ev_appNew_sl ty_descOf_41, ty_fieldOff_87_0, ty_szOf_9, ty_shapeT_9, good_54, ty_fieldOff_47_2, ty_szOf_22, ty_shapeT_22, good_37, good_55, keep_37_3]
  by_cases h2 : k = 2
  · subst h2
    have hl := NR.look_2
    have n1 : ((2 : Int) = 1) = False := by decide
    have n5 : ((2 : Int) = 5) = False := by decide
    have hd := delim_den [40]
    refine ⟨45, .inl rfl, ?_⟩
    have hv : Ne.flatV (.mk 2 t l') = Ne.openT 2 :: (Ne.flat l' ++ [Ne.closeT 2]) := by rw [Ne.flatV, if_neg (by decide), if_neg (by decide), if_pos (by decide)]
    rw [hv]
    have ha : acc ++ Ne.openT 2 :: (Ne.flat l' ++ [Ne.closeT 2]) = acc ++ [Tok.mk 7 [40] 0] ++ Ne.flat l' ++ [Tok.mk 7 [Ne.closeC 2] 0] := by simp [Ne.closeT, Ne.openT, Ne.openC]
    rw [ha]
    simp only [go_sem, Nat.reduceLT, reduceIte, reduceCtorEq, Nat.reduceEqDiff, apply_ite (Option.map (outOf _)), Nat.reduceBEq, Nat.reduceAdd, Nat.reduceSub, Nat.reduceLeDiff, Nat.reduceMul, ev_len_sl ty_descOf_22, ev_indexAddr ty_descOf_22, ty_szOf_47, ty_shapeT_47, ty_zeroCells_47, good_53, ty_fieldOff_47_0, ty_szOf_3, ty_shapeT_3, ty_zeroCells_87, ty_szOf_87, ty_fieldOff_47_1, ty_szOf_45, ty_shapeT_45, ev_buildSlice (len := 1) ty_descOf_41 ty_szOf_45 ty_zeroCells_45 ⟨rfl, by decide, by decide⟩, ev_append ty_appInfo_41, ev_appNew_sl ty_descOf_41, ty_fieldOff_87_0, ty_szOf_9, ty_shapeT_9, good_54, ty_fieldOff_47_2, ty_szOf_22, ty_shapeT_22, good_37, good_55, keep_37_3, K_ownP, hlt, hget, Int.natCast_nonneg, hp, hl, hf, hc, lens_toksK, lens_tokK, hlim1, hlim2, hlim3, hown, snoc_tok, snoc_del, app_toks, hw, hd, n1, n5]
    rw [reach_if]
    rotate_left
    · kernel_rfl
    simp only [go_sem, Nat.reduceLT, reduceIte, reduceCtorEq, Nat.reduceEqDiff, apply_ite (Option.map (outOf _)), Nat.reduceBEq, Nat.reduceAdd, Nat.reduceSub, Nat.reduceLeDiff, Nat.reduceMul, ev_len_sl ty_descOf_22, ev_indexAddr ty_descOf_22, ty_szOf_47, ty_shapeT_47, ty_zeroCells_47, good_53, ty_fieldOff_47_0, ty_szOf_3, ty_shapeT_3, ty_zeroCells_87, ty_szOf_87, ty_fieldOff_47_1, ty_szOf_45, ty_shapeT_45, ev_buildSlice (len := 1) ty_descOf_41 ty_szOf_45 ty_zeroCells_45 ⟨rfl, by decide, by decide⟩, ev_append ty_appInfo_41, ev_appNew_sl ty_descOf_41, ty_fieldOff_87_0, ty_szOf_9, ty_shapeT_9, good_54, ty_fieldOff_47_2, ty_szOf_22, ty_shapeT_22, good_37, good_55, keep_37_3, K_ownP, hlt, hget, Int.natCast_nonneg, hp, hl, hf, hc, lens_toksK, lens_tokK, hlim1, hlim2, hlim3, hown, snoc_tok, snoc_del, app_toks, hw, hd, n1, n5]
    rw [exL_head]
    simp only [go_sem, Nat.reduceLT, reduceIte, reduceCtorEq, Nat.reduceEqDiff, apply_ite (Option.map (outOf _)), Nat.reduceBEq, Nat.reduceAdd, Nat.reduceSub, Nat.reduceLeDiff, Nat.reduceMul, ev_len_sl ty_descOf_22, ev_indexAddr ty_descOf_22, ty_szOf_47, ty_shapeT_47, ty_zeroCells_47, good_53, ty_fieldOff_47_0, ty_szOf_3, ty_shapeT_3, ty_zeroCells_87, ty_szOf_87, ty_fieldOff_47_1, ty_szOf_45, ty_shapeT_45, ev_buildSlice (len := 1) ty_descOf_41 ty_szOf_45 ty_zeroCells_45 ⟨rfl, by decide, by decide⟩, ev_append ty_appInfo_41, ev_appNew_sl ty_descOf_41, ty_fieldOff_87_0, ty_szOf_9, ty_shapeT_9, good_54, ty_fieldOff_47_2, ty_szOf_22, ty_shapeT_22, good_37, good_55, keep_37_3]
  by_cases h3 : k = 3
  · subst h3
    have hl := NR.look_3
    have n1 : ((3 : Int) = 1) = False := by decide
    have n5 : ((3 : Int) = 5) = False := by decide
    have hd := delim_den [91]
    refine ⟨45, .inl rfl, ?_⟩
    have hv : Ne.flatV (.mk 3 t l') = Ne.openT 3 :: (Ne.flat l' ++ [Ne.closeT 3]) := by rw [Ne.flatV, if_neg (by decide), if_neg (by decide), if_pos (by decide)]
    rw [hv]
    have ha : acc ++ Ne.openT 3 :: (Ne.flat l' ++ [Ne.closeT 3]) = acc ++ [Tok.mk 7 [91] 0] ++ Ne.flat l' ++ [Tok.mk 7 [Ne.closeC 3] 0] := by simp [Ne.closeT, Ne.openT, Ne.openC]
    rw [ha]
    simp only [go_sem, Nat.reduceLT, reduceIte, reduceCtorEq, Nat.reduceEqDiff, apply_ite (Option.map (outOf _)), Nat.reduceBEq, Nat.reduceAdd, Nat.reduceSub, Nat.reduceLeDiff, Nat.reduceMul, ev_len_sl ty_descOf_22, ev_indexAddr ty_descOf_22, ty_szOf_47, ty_shapeT_47, ty_zeroCells_47, good_53, ty_fieldOff_47_0, ty_szOf_3, ty_shapeT_3, ty_zeroCells_87, ty_szOf_87, ty_fieldOff_47_1, ty_szOf_45, ty_shapeT_45, ev_buildSlice (len := 1) ty_descOf_41 ty_szOf_45 ty_zeroCells_45 ⟨rfl, by decide, by decide⟩, ev_append ty_appInfo_41, ev_appNew_sl ty_descOf_41, ty_fieldOff_87_0, ty_szOf_9, ty_shapeT_9, good_54, ty_fieldOff_47_2, ty_szOf_22, ty_shapeT_22, good_37, good_55, keep_37_3, K_ownP, hlt, hget, Int.natCast_nonneg, hp, hl, hf, hc, lens_toksK, lens_tokK, hlim1, hlim2, hlim3, hown, snoc_tok, snoc_del, app_toks, hw, hd, n1, n5]
    rw [reach_if]
    rotate_left
    · kernel_rfl
    simp only [go_sem, Nat.reduceLT, reduceIte, reduceCtorEq, Nat.reduceEqDiff, apply_ite (Option.map (outOf _)), Nat.reduceBEq, Nat.reduceAdd, Nat.reduceSub, Nat.reduceLeDiff, Nat.reduceMul, ev_len_sl ty_descOf_22, ev_indexAddr ty_descOf_22, ty_szOf_47, ty_shapeT_47, ty_zeroCells_47, good_53, ty_fieldOff_47_0, ty_szOf_3, ty_shapeT_3, ty_zeroCells_87, ty_szOf_87, ty_fieldOff_47_1, ty_szOf_45, ty_shapeT_45, ev_buildSlice (len := 1) ty_descOf_41 ty_szOf_45 ty_zeroCells_45 ⟨rfl, by decide, by decide⟩, ev_append ty_appInfo_41, ev_appNew_sl ty_descOf_41, ty_fieldOff_87_0, ty_szOf_9, ty_shapeT_9, good_54, ty_fieldOff_47_2, ty_szOf_22, ty_shapeT_22, good_37, good_55, keep_37_3, K_ownP, hlt, hget, Int.natCast_nonneg, hp, hl, hf, hc, lens_toksK, lens_tokK, hlim1, hlim2, hlim3, hown, snoc_tok, snoc_del, app_toks, hw, hd, n1, n5]
    rw [exL_head]
    simp only [go_sem, Nat.reduceLT, reduceIte, reduceCtorEq, Nat.reduceEqDiff, apply_ite (Option.map (outOf _)), Nat.reduceBEq, Nat.reduceAdd, Nat.reduceSub, Nat.reduceLeDiff, Nat.reduceMul, ev_len_sl ty_descOf_22, ev_indexAddr ty_descOf_22, ty_szOf_47, ty_shapeT_47, ty_zeroCells_47, good_53, ty_fieldOff_47_0, ty_szOf_3, ty_shapeT_3, ty_zeroCells_87, ty_szOf_87, ty_fieldOff_47_1, ty_szOf_45, ty_shapeT_45, ev_buildSlice (len := 1) ty_descOf_41 ty_szOf_45 ty_zeroCells_45 ⟨rfl, by decide, by decide⟩, ev_append ty_appInfo_41, ev_appNew_sl ty_descOf_41, ty_fieldOff_87_0, ty_szOf_9, ty_shapeT_9, good_54, ty_fieldOff_47_2, ty_szOf_22, ty_shapeT_22, good_37, good_55, keep_37_3]
  by_cases h4 : k = 4
  · subst h4
    have hl := NR.look_4
    have n1 : ((4 : Int) = 1) = False := by decide
    have n5 : ((4 : Int) = 5) = False := by decide
    have hd := delim_den [123]
    refine ⟨45, .inl rfl, ?_⟩
    have hv : Ne.flatV (.mk 4 t l') = Ne.openT 4 :: (Ne.flat l' ++ [Ne.closeT 4]) := by rw [Ne.flatV, if_neg (by decide), if_neg (by decide), if_pos (by decide)]
    rw [hv]
    have ha : acc ++ Ne.openT 4 :: (Ne.flat l' ++ [Ne.closeT 4]) = acc ++ [Tok.mk 7 [123] 0] ++ Ne.flat l' ++ [Tok.mk 7 [Ne.closeC 4] 0] := by simp [Ne.closeT, Ne.openT, Ne.openC]
    rw [ha]
    simp only [go_sem, Nat.reduceLT, reduceIte, reduceCtorEq, Nat.reduceEqDiff, apply_ite (Option.map (outOf _)), Nat.reduceBEq, Nat.reduceAdd, Nat.reduceSub, Nat.reduceLeDiff, Nat.reduceMul, ev_len_sl ty_descOf_22, ev_indexAddr ty_descOf_22, ty_szOf_47, ty_shapeT_47, ty_zeroCells_47, good_53, ty_fieldOff_47_0, ty_szOf_3, ty_shapeT_3, ty_zeroCells_87, ty_szOf_87, ty_fieldOff_47_1, ty_szOf_45, ty_shapeT_45, ev_buildSlice (len := 1) ty_descOf_41 ty_szOf_45 ty_zeroCells_45 ⟨rfl, by decide, by decide⟩, ev_append ty_appInfo_41, ev_appNew_sl ty_descOf_41, ty_fieldOff_87_0, ty_szOf_9, ty_shapeT_9, good_54, ty_fieldOff_47_2, ty_szOf_22, ty_shapeT_22, good_37, good_55, keep_37_3, K_ownP, hlt, hget, Int.natCast_nonneg, hp, hl, hf, hc, lens_toksK, lens_tokK, hlim1, hlim2, hlim3, hown, snoc_tok, snoc_del, app_toks, hw, hd, n1, n5]
    rw [reach_if]
    rotate_left
    · kernel_rfl
    simp only [go_sem, Nat.reduceLT, reduceIte, reduceCtorEq, Nat.reduceEqDiff, apply_ite (Option.map (outOf _)), Nat.reduceBEq, Nat.reduceAdd, Nat.reduceSub, Nat.reduceLeDiff, Nat.reduceMul, ev_len_sl ty_descOf_22, ev_indexAddr ty_descOf_22, ty_szOf_47, ty_shapeT_47, ty_zeroCells_47, good_53, ty_fieldOff_47_0, ty_szOf_3, ty_shapeT_3, ty_zeroCells_87, ty_szOf_87, ty_fieldOff_47_1, ty_szOf_45, ty_shapeT_45, ev_buildSlice (len := 1) ty_descOf_41 ty_szOf_45 ty_zeroCells_45 ⟨rfl, by decide, by decide⟩, ev_append ty_appInfo_41, ev_appNew_sl ty_descOf_41, ty_fieldOff_87_0, ty_szOf_9, ty_shapeT_9, good_54, ty_fieldOff_47_2, ty_szOf_22, ty_shapeT_22, good_37, good_55, keep_37_3, K_ownP, hlt, hget, Int.natCast_nonneg, hp, hl, hf, hc, lens_toksK, lens_tokK, hlim1, hlim2, hlim3, hown, snoc_tok, snoc_del, app_toks, hw, hd, n1, n5]
    rw [exL_head]
    simp only [go_sem, Nat.reduceLT, reduceIte, reduceCtorEq, Nat.reduceEqDiff, apply_ite (Option.map (outOf _)), Nat.reduceBEq, Nat.reduceAdd, Nat.reduceSub, Nat.reduceLeDiff, Nat.reduceMul, ev_len_sl ty_descOf_22, ev_indexAddr ty_descOf_22, ty_szOf_47, ty_shapeT_47, ty_zeroCells_47, good_53, ty_fieldOff_47_0, ty_szOf_3, ty_shapeT_3, ty_zeroCells_87, ty_szOf_87, ty_fieldOff_47_1, ty_szOf_45, ty_shapeT_45, ev_buildSlice (len := 1) ty_descOf_41 ty_szOf_45 ty_zeroCells_45 ⟨rfl, by decide, by decide⟩, ev_append ty_appInfo_41, ev_appNew_sl ty_descOf_41, ty_fieldOff_87_0, ty_szOf_9, ty_shapeT_9, good_54, ty_fieldOff_47_2, ty_szOf_22, ty_shapeT_22, good_37, good_55, keep_37_3]
  have hl := NR.look_no k h2 h3 h4
  have e1 : (k == 1) = false := by rw [beq_eq_false_iff_ne]; exact h1
  have e5 : (k == 5) = false := by rw [beq_eq_false_iff_ne]; exact h5
  have hv : Ne.flatV (.mk k t l') = [] := by rw [Ne.flatV, if_neg h1, if_neg h5, if_neg (by omega)]
  rw [hv, List.append_nil]
  refine ⟨e, he, ?_⟩
  simp only [go_sem, Nat.reduceLT, reduceIte, reduceCtorEq, Nat.reduceEqDiff, apply_ite (Option.map (outOf _)), Nat.reduceBEq, Nat.reduceAdd, Nat.reduceSub, Nat.reduceLeDiff, Nat.reduceMul, ev_len_sl ty_descOf_22, ev_indexAddr ty_descOf_22, ty_szOf_47, ty_shapeT_47, ty_zeroCells_47, good_53, ty_fieldOff_47_0, ty_szOf_3, ty_shapeT_3, ty_zeroCells_87, ty_szOf_87, ty_fieldOff_47_1, ty_szOf_45, ty_shapeT_45, ev_buildSlice (len := 1) ty_descOf_41 ty_szOf_45 ty_zeroCells_45 ⟨rfl, by decide, by decide⟩, ev_append ty_appInfo_41, ev_appNew_sl ty_descOf_41, ty_fieldOff_87_0, ty_szOf_9, ty_shapeT_9, good_54, ty_fieldOff_47_2, ty_szOf_22, ty_shapeT_22, good_37, good_55, keep_37_3, K_ownP, hlt, hget, Int.natCast_nonneg, hp, hl, hf, hc, lens_toksK, lens_tokK, hlim1, hlim2, hlim3, hown, snoc_tok, snoc_del, app_toks, hw, e1, e5]
  rw [reach_if]
  rotate_left
  · kernel_rfl
  simp only [go_sem, Nat.reduceLT, reduceIte, reduceCtorEq, Nat.reduceEqDiff, apply_ite (Option.map (outOf _)), Nat.reduceBEq, Nat.reduceAdd, Nat.reduceSub, Nat.reduceLeDiff, Nat.reduceMul, ev_len_sl ty_descOf_22, ev_indexAddr ty_descOf_22, ty_szOf_47, ty_shapeT_47, ty_zeroCells_47, good_53, ty_fieldOff_47_0, ty_szOf_3, ty_shapeT_3, ty_zeroCells_87, ty_szOf_87, ty_fieldOff_47_1, ty_szOf_45, ty_shapeT_45, ev_buildSlice (len := 1) ty_descOf_41 ty_szOf_45 ty_zeroCells_45 ⟨rfl, by decide, by decide⟩, ev_append ty_appInfo_41, ev_appNew_sl ty_descOf_41, ty_fieldOff_87_0, ty_szOf_9, ty_shapeT_9, good_54, ty_fieldOff_47_2, ty_szOf_22, ty_shapeT_22, good_37, good_55, keep_37_3, K_ownP, hlt, hget, Int.natCast_nonneg, hp, hl, hf, hc, lens_toksK, lens_tokK, hlim1, hlim2, hlim3, hown, snoc_tok, snoc_del, app_toks, hw, e1, e5]
  rw [exL_head]
  simp only [go_sem, Nat.reduceLT, reduceIte, reduceCtorEq, Nat.reduceEqDiff, apply_ite (Option.map (outOf _)), Nat.reduceBEq, Nat.reduceAdd, Nat.reduceSub, Nat.reduceLeDiff, Nat.reduceMul, ev_len_sl ty_descOf_22, ev_indexAddr ty_descOf_22, ty_szOf_47, ty_shapeT_47, ty_zeroCells_47, good_53, ty_fieldOff_47_0, ty_szOf_3, ty_shapeT_3, ty_zeroCells_87, ty_szOf_87, ty_fieldOff_47_1, ty_szOf_45, ty_shapeT_45, ev_buildSlice (len := 1) ty_descOf_41 ty_szOf_45 ty_zeroCells_45 ⟨rfl, by decide, by decide⟩, ev_append ty_appInfo_41, ev_appNew_sl ty_descOf_41, ty_fieldOff_87_0, ty_szOf_9, ty_shapeT_9, good_54, ty_fieldOff_47_2, ty_szOf_22, ty_shapeT_22, good_37, good_55, keep_37_3]
theorem flat_loop (l : List Val) (hl : Ne.size l ≤ 1000000) (hin : ∀ k t l', Val.mk k t l' ∈ l → FlatDen l') : ∀ (rest : List Val) (i e : Nat) (acc : List Tok), l.drop i = rest → i ≤ l.length → (e = 45 ∨ acc = []) → acc.length + (Ne.flat rest).length ≤ 3000000 →
    Ends (exL K 37 flp (flatH l i e acc)) fun o S => o = .exit 0 ∧ S.nt = 60 ∧ ∃ e', S.sl 3 = .c (.own e' ((acc ++ Ne.flat rest).map Tok.enc))
  | [], i, e, acc, hd, hi, he, hacc => by
    have hin : i = l.length := by
      have := List.drop_eq_nil_iff.1 hd
      omega
    subst hin
    have hv : acc ++ Ne.flat [] = acc := by rw [Ne.flat, List.append_nil]
    rw [hv]
    unfold flp
    conv in loopAt _ _ => whnf
    rw [exL_loop]
    simp only [go_sem, Nat.reduceLT, reduceIte, reduceCtorEq, Nat.reduceEqDiff, apply_ite (Option.map (outOf _)), Nat.reduceBEq, Nat.reduceAdd, Nat.reduceSub, Nat.reduceLeDiff, Nat.reduceMul, ev_len_sl ty_descOf_22, ev_indexAddr ty_descOf_22, ty_szOf_47, ty_shapeT_47, ty_zeroCells_47, good_53, ty_fieldOff_47_0, ty_szOf_3, ty_shapeT_3, ty_zeroCells_87, ty_szOf_87, ty_fieldOff_47_1, ty_szOf_45, ty_shapeT_45, ev_buildSlice (len := 1) ty_descOf_41 ty_szOf_45 ty_zeroCells_45 ⟨rfl, by decide, by decide⟩, ev_append ty_appInfo_41, ev_appNew_sl ty_descOf_41, ty_fieldOff_87_0, ty_szOf_9, ty_shapeT_9, good_54, ty_fieldOff_47_2, ty_szOf_22, ty_shapeT_22, good_37, good_55, keep_37_3, ends_some]
    exact ⟨e, rfl⟩
  | .mk k t l' :: rest, i, e, acc, hd, hi, he, hacc => by
    obtain ⟨g1, g2, g3⟩ := drop_cons hd
    have hmem : Val.mk k t l' ∈ l := List.mem_of_getElem? g1
    have hsz := size_mem hmem
    have hfl := Ne.flat_size l'
    have hll : l.length ≤ 1000000 := Nat.le_trans (Ne.length_size l) hl
    have hsum : (Ne.flat (.mk k t l' :: rest)).length = (Ne.flatV (.mk k t l')).length + (Ne.flat rest).length := by rw [Ne.flat, List.length_append]
    rw [hsum] at hacc
    have ha3 : acc.length ≤ 3000000 := by omega
    have hs3 : (Ne.flat l').length ≤ 3000000 := by omega
    have hs1 : Ne.size l' ≤ 1000000 := by omega
    obtain ⟨e', he', hstep⟩ := flat_step l i e acc he k t l' g1 hll ha3 hs3 (hin k t l' hmem hs1)
    rw [hstep]
    have hlen2 : (acc ++ Ne.flatV (.mk k t l')).length + (Ne.flat rest).length ≤ 3000000 := by rw [List.length_append]; omega
    have hi2 : i + 1 ≤ l.length := by omega
    have ih := flat_loop l hl hin rest (i + 1) e' (acc ++ Ne.flatV (.mk k t l')) g2 hi2 he' hlen2
    rw [List.append_assoc] at ih
    have hv : Ne.flat (.mk k t l' :: rest) = Ne.flatV (.mk k t l') ++ Ne.flat rest := by rw [Ne.flat]
    rw [hv]
    exact ih
theorem Flat_den (l : List Val) : FlatDen l := by
  refine ind_list (fun l hin hs => ?_) l
  have hfl := Ne.flat_size l
  have hacc0 : ([] : List Tok).length + (Ne.flat l).length ≤ 3000000 := by rw [List.length_nil]; omega
  have h := flat_loop l hs hin l 0 0 [] rfl (Nat.zero_le _) (Or.inr rfl) hacc0
  unfold flp at h
  conv at h in loopAt _ _ => whnf
  obtain ⟨o, S', w, rfl, hn, e', h3⟩ := h
  rw [List.nil_append] at h3
  refine den_run rfl rfl Tryz.func37 rfl Tryz.ntmps37 ⟨by simp, by simp [LK]⟩ ?_
  have hr : Tryz.f37.results = #[.tmp 2] := rfl
  simp only [go_sem, Nat.reduceLT, reduceIte, reduceCtorEq, Nat.reduceEqDiff, apply_ite (Option.map (outOf _)), Nat.reduceBEq, Nat.reduceAdd, Nat.reduceSub, Nat.reduceLeDiff, Nat.reduceMul, ev_len_sl ty_descOf_22, ev_indexAddr ty_descOf_22, ty_szOf_47, ty_shapeT_47, ty_zeroCells_47, good_53, ty_fieldOff_47_0, ty_szOf_3, ty_shapeT_3, ty_zeroCells_87, ty_szOf_87, ty_fieldOff_47_1, ty_szOf_45, ty_shapeT_45, ev_buildSlice (len := 1) ty_descOf_41 ty_szOf_45 ty_zeroCells_45 ⟨rfl, by decide, by decide⟩, ev_append ty_appInfo_41, ev_appNew_sl ty_descOf_41, ty_fieldOff_87_0, ty_szOf_9, ty_shapeT_9, good_54, ty_fieldOff_47_2, ty_szOf_22, ty_shapeT_22, good_37, good_55, keep_37_3, encL_len]
  rw [exL_head]
  simp only [go_sem, Nat.reduceLT, reduceIte, reduceCtorEq, Nat.reduceEqDiff, apply_ite (Option.map (outOf _)), Nat.reduceBEq, Nat.reduceAdd, Nat.reduceSub, Nat.reduceLeDiff, Nat.reduceMul, ev_len_sl ty_descOf_22, ev_indexAddr ty_descOf_22, ty_szOf_47, ty_shapeT_47, ty_zeroCells_47, good_53, ty_fieldOff_47_0, ty_szOf_3, ty_shapeT_3, ty_zeroCells_87, ty_szOf_87, ty_fieldOff_47_1, ty_szOf_45, ty_shapeT_45, ev_buildSlice (len := 1) ty_descOf_41 ty_szOf_45 ty_zeroCells_45 ⟨rfl, by decide, by decide⟩, ev_append ty_appInfo_41, ev_appNew_sl ty_descOf_41, ty_fieldOff_87_0, ty_szOf_9, ty_shapeT_9, good_54, ty_fieldOff_47_2, ty_szOf_22, ty_shapeT_22, good_37, good_55, keep_37_3]
  erw [w]
  simp only [go_sem, Nat.reduceLT, reduceIte, reduceCtorEq, Nat.reduceEqDiff, apply_ite (Option.map (outOf _)), Nat.reduceBEq, Nat.reduceAdd, Nat.reduceSub, Nat.reduceLeDiff, Nat.reduceMul, ev_len_sl ty_descOf_22, ev_indexAddr ty_descOf_22, ty_szOf_47, ty_shapeT_47, ty_zeroCells_47, good_53, ty_fieldOff_47_0, ty_szOf_3, ty_shapeT_3, ty_zeroCells_87, ty_szOf_87, ty_fieldOff_47_1, ty_szOf_45, ty_shapeT_45, ev_buildSlice (len := 1) ty_descOf_41 ty_szOf_45 ty_zeroCells_45 ⟨rfl, by decide, by decide⟩, ev_append ty_appInfo_41, ev_appNew_sl ty_descOf_41, ty_fieldOff_87_0, ty_szOf_9, ty_shapeT_9, good_54, ty_fieldOff_47_2, ty_szOf_22, ty_shapeT_22, good_37, good_55, keep_37_3, hr, hn, h3]
end Go.Abs
namespace Go.Abs
open Go Go.Proofs
set_option maxRecDepth 10000
attribute [local go_sem] exL_seq exL_region exL_cond exL_block exL_scope exL_ret exL_skip exL_exit runRegion runOps stepOp guardA absOp takeOver opd avOf cvOf St.degAt St.put okPV okVal okAV absBin intBin strBin boolBin setBoxes if_true Bool.false_eq_true if_false Option.map_some Option.map_none Option.bind_some Option.bind_none thenO outOf upd List.toList_toArray isOwn steal appArgs inApps AV.deg CV.deg AV.gv AV.isIter absNext some_bne List.length_nil List.length_cons List.filterMap_cons List.filterMap_nil beq_iff_eq List.getElem?_cons_zero List.getElem?_cons_succ Option.getD_some K_hook hookB Bool.false_and Bool.and_false Bool.and_self K_P K_own absCall doCall getBoxes lend back idx dedup AV.ren CV.ren TV.ren AV.ptrs CV.ptrs zipBox AV.flat CV.flat absLoad absStore cellsOfAV setAt newBox markB bldTypes absFieldAddr absField absExtract absAssert noAssert absMkIface ifcOf CV.pv? content pushHead ownT fillCells reps pvs chunks enterSt leave resOf resVars resVar outBoxes lentOnly TV.deg TV.av LK CV.plain CV.noBld nilBin absUn bound List.map_cons List.map_nil List.all_cons List.all_nil List.any_cons List.any_nil List.contains_cons List.contains_nil List.elem_cons List.elem_nil List.cons_append List.nil_append List.append_nil List.flatMap_cons List.flatMap_nil List.zip_cons_cons List.zip_nil_left List.zip_nil_right List.take_succ_cons List.take_zero List.take_nil List.drop_succ_cons List.drop_zero List.drop_nil List.isEmpty_nil List.isEmpty_cons Bool.and_true Bool.true_and Bool.or_true Bool.true_or Bool.or_false Bool.false_or Bool.not_true Bool.not_false Nat.add_zero Nat.zero_add Option.isNone_none Option.isNone_some Option.getD_none true_and and_true not_true_eq_false not_false_eq_true decide_true decide_false Nat.le_refl and_self Bool.not_eq_true Nat.sub_self or_true true_or Option.some.injEq List.length_map List.nil_eq and_false false_and AV.live CV.live CV.liveIn K_keep firstReg Option.orElse_some Option.orElse_none head keepSlots keepBoxes Int.lt_irrefl List.length_append ite_self memOK logOps opKey lentBoxes Key.clash Key.sees Key.writes Nat.lt_irrefl gt_iff_lt nobox_at bot_at false_or or_false beq_self_eq_true Bool.true_beq Bool.false_beq
abbrev valCv (k : Int) (t : Tok) (l : List Val) : List CV := [.pv (.int .i64 k), .pv (.int .i64 t.kind), .pv (.str t.text), .pv (.int .i64 t.n), .pv (.sl (encL l))]
def VSame2Den (a b : List Val) : Prop := den K 11 [L (encL a), L (encL b)] [] = some (.ret (B (Ne.same a b)) [])
theorem same_len : ∀ {a b : List Val}, a.length ≠ b.length → Ne.same a b = false
  | [], [], h => absurd rfl h
  | [], _ :: _, _ => rfl
  | _ :: _, [], _ => rfl
  | x :: a, y :: b, h => by
    rw [Ne.same, same_len (a := a) (b := b) (by simpa using h), Bool.and_false]
abbrev same2H (a b : List Val) (i : Nat) : St := { sl := upd (upd (upd bot 5 (I i)) 1 (L (encL b))) 0 (L (encL a)), bx := nobox, nt := 55 }
set_option maxHeartbeats 8000000 in
theorem same2_loop (a b : List Val) (hab : a.length = b.length) (ha : a.length ≤ 1000000) (hin : ∀ k t l' m, Val.mk k t l' ∈ a → (∃ k' t', Val.mk k' t' m ∈ b) → VSame2Den l' m) : ∀ (ra rb : List Val) (i : Nat), a.drop i = ra → b.drop i = rb → i ≤ a.length →
    Ends (exL K 11 (.loop (loopAt Tryz.f11 4)) (same2H a b i)) fun o S => (Ne.same ra rb = true ∧ o = .exit 0 ∧ S.nt = 55) ∨ (Ne.same ra rb = false ∧ o = .ret ∧ S.sl 4 = B false)
  | [], rb, i, hda, hdb, hi => by
    have hin : i = a.length := by
      have := List.drop_eq_nil_iff.1 hda
      omega
    obtain rfl : rb = [] := by rw [← hdb, hin, hab, List.drop_length]
    subst hin
    conv in loopAt _ _ => whnf
    rw [exL_loop]
    simp only [go_sem, Nat.reduceLT, reduceIte, reduceCtorEq, Nat.reduceEqDiff, apply_ite (Option.map (outOf _)), Nat.reduceBEq, Nat.reduceAdd, Nat.reduceSub, Nat.reduceLeDiff, Nat.reduceMul, ev_len_sl ty_descOf_22, ev_indexAddr ty_descOf_22, ty_szOf_47, ty_fieldOff_47_0, ty_szOf_3, ty_shapeT_3, ty_fieldOff_47_1, ty_szOf_45, ty_shapeT_45, ty_fieldOff_47_2, ty_szOf_22, ty_shapeT_22, good_11, keep_11_4, ends_some, Ne.same, encL_len]
  | .mk k t l' :: ra, rb, i, hda, hdb, hi => by
    obtain ⟨g1, g2, g3⟩ := drop_cons hda
    cases rb with
    | nil =>
      have := List.drop_eq_nil_iff.1 hdb
      omega
    | cons y rb =>
      obtain ⟨k', t', m⟩ := y
      obtain ⟨k1, k2, k3⟩ := drop_cons hdb
      have hlt : decide ((i : Int) < (a.length : Int)) = true := decide_eq_true (by omega)
      have ga := val_at a i k t l' g1
      have gb := val_at b i k' t' m k1
      have hsd := hin k t l' m (List.mem_of_getElem? g1) ⟨k', t', List.mem_of_getElem? k1⟩
      unfold VSame2Den at hsd
      have heq := tok_eq t.kind t'.kind t.n t'.n t.text t'.text
      rw [tok_beq] at heq
      have ih := same2_loop a b hab ha hin ra rb (i + 1) g2 k2 (by omega)
      conv at ih in loopAt _ _ => whnf
      conv in loopAt _ _ => whnf
      rw [exL_loop]
      rw [Ne.same, Ne.sameV]
      cases b1 : (k == k')
      · have e1 : (k != k') = true := by rw [bne, b1]; rfl
        simp only [go_sem, Nat.reduceLT, reduceIte, reduceCtorEq, Nat.reduceEqDiff, apply_ite (Option.map (outOf _)), Nat.reduceBEq, Nat.reduceAdd, Nat.reduceSub, Nat.reduceLeDiff, Nat.reduceMul, ev_len_sl ty_descOf_22, ev_indexAddr ty_descOf_22, ty_szOf_47, ty_fieldOff_47_0, ty_szOf_3, ty_shapeT_3, ty_fieldOff_47_1, ty_szOf_45, ty_shapeT_45, ty_fieldOff_47_2, ty_szOf_22, ty_shapeT_22, good_11, keep_11_4, encL_len, hlt, ga, gb, e1, Int.natCast_nonneg, ends_some]
      · have e1 : (k != k') = false := by rw [bne, b1]; rfl
        cases b2 : decide (t = t')
        · rw [b2] at heq
          simp only [go_sem, Nat.reduceLT, reduceIte, reduceCtorEq, Nat.reduceEqDiff, apply_ite (Option.map (outOf _)), Nat.reduceBEq, Nat.reduceAdd, Nat.reduceSub, Nat.reduceLeDiff, Nat.reduceMul, ev_len_sl ty_descOf_22, ev_indexAddr ty_descOf_22, ty_szOf_47, ty_fieldOff_47_0, ty_szOf_3, ty_shapeT_3, ty_fieldOff_47_1, ty_szOf_45, ty_shapeT_45, ty_fieldOff_47_2, ty_szOf_22, ty_shapeT_22, good_11, keep_11_4, encL_len, hlt, ga, gb, Int.natCast_nonneg, e1, heq, ends_some]
        · rw [b2] at heq
          cases b3 : Ne.same l' m
          · rw [b3] at hsd
            simp only [go_sem, Nat.reduceLT, reduceIte, reduceCtorEq, Nat.reduceEqDiff, apply_ite (Option.map (outOf _)), Nat.reduceBEq, Nat.reduceAdd, Nat.reduceSub, Nat.reduceLeDiff, Nat.reduceMul, ev_len_sl ty_descOf_22, ev_indexAddr ty_descOf_22, ty_szOf_47, ty_fieldOff_47_0, ty_szOf_3, ty_shapeT_3, ty_fieldOff_47_1, ty_szOf_45, ty_shapeT_45, ty_fieldOff_47_2, ty_szOf_22, ty_shapeT_22, good_11, keep_11_4, encL_len, hlt, ga, gb, Int.natCast_nonneg, e1, heq, hsd, ends_some]
          · rw [b3] at hsd
            simp only [go_sem, Nat.reduceLT, reduceIte, reduceCtorEq, Nat.reduceEqDiff, apply_ite (Option.map (outOf _)), Nat.reduceBEq, Nat.reduceAdd, Nat.reduceSub, Nat.reduceLeDiff, Nat.reduceMul, ev_len_sl ty_descOf_22, ev_indexAddr ty_descOf_22, ty_szOf_47, ty_fieldOff_47_0, ty_szOf_3, ty_shapeT_3, ty_fieldOff_47_1, ty_szOf_45, ty_shapeT_45, ty_fieldOff_47_2, ty_szOf_22, ty_shapeT_22, good_11, keep_11_4, encL_len, hlt, ga, gb, Int.natCast_nonneg, e1, heq, hsd, wrap_nat i (by omega)]
            rw [exL_head]
            simp only [go_sem, Nat.reduceLT, reduceIte, reduceCtorEq, Nat.reduceEqDiff, apply_ite (Option.map (outOf _)), Nat.reduceBEq, Nat.reduceAdd, Nat.reduceSub, Nat.reduceLeDiff, Nat.reduceMul, ev_len_sl ty_descOf_22, ev_indexAddr ty_descOf_22, ty_szOf_47, ty_fieldOff_47_0, ty_szOf_3, ty_shapeT_3, ty_fieldOff_47_1, ty_szOf_45, ty_shapeT_45, ty_fieldOff_47_2, ty_szOf_22, ty_shapeT_22, good_11, keep_11_4]
            exact ih
theorem VSame2_den (a : List Val) : Ne.size a ≤ 1000000 → ∀ b, Ne.size b ≤ 1000000 → VSame2Den a b := by
  refine ind_list (Q := fun a => Ne.size a ≤ 1000000 → ∀ b, Ne.size b ≤ 1000000 → VSame2Den a b) (fun a hin ha b hb => ?_) a
  have h : ∀ hab : a.length = b.length, _ := fun hab => same2_loop a b hab (Nat.le_trans (Ne.length_size a) ha) (fun k t l' m hm ⟨k', t', hm'⟩ => hin k t l' hm (by have := size_mem hm; omega) m (by have := size_mem hm'; omega)) a b 0 rfl rfl (by omega)
  unfold VSame2Den
  refine den_run rfl rfl Tryz.func11 rfl Tryz.ntmps11 ⟨by simp, by simp [LK]⟩ ?_
  have hr : Tryz.f11.results = #[.tmp 4] := rfl
  by_cases hab : a.length = b.length
  · have e0 : ((a.length : Int) != (b.length : Int)) = false := by simp [hab]
    have h := h hab
    conv at h in loopAt _ _ => whnf
    obtain ⟨o, S', w, hq⟩ := h
    simp only [go_sem, Nat.reduceLT, reduceIte, reduceCtorEq, Nat.reduceEqDiff, apply_ite (Option.map (outOf _)), Nat.reduceBEq, Nat.reduceAdd, Nat.reduceSub, Nat.reduceLeDiff, Nat.reduceMul, ev_len_sl ty_descOf_22, ev_indexAddr ty_descOf_22, ty_szOf_47, ty_fieldOff_47_0, ty_szOf_3, ty_shapeT_3, ty_fieldOff_47_1, ty_szOf_45, ty_shapeT_45, ty_fieldOff_47_2, ty_szOf_22, ty_shapeT_22, good_11, keep_11_4, encL_len, e0]
    rw [exL_head]
    simp only [go_sem, Nat.reduceLT, reduceIte, reduceCtorEq, Nat.reduceEqDiff, apply_ite (Option.map (outOf _)), Nat.reduceBEq, Nat.reduceAdd, Nat.reduceSub, Nat.reduceLeDiff, Nat.reduceMul, ev_len_sl ty_descOf_22, ev_indexAddr ty_descOf_22, ty_szOf_47, ty_fieldOff_47_0, ty_szOf_3, ty_shapeT_3, ty_fieldOff_47_1, ty_szOf_45, ty_shapeT_45, ty_fieldOff_47_2, ty_szOf_22, ty_shapeT_22, good_11, keep_11_4]
    erw [w]
    rcases hq with ⟨hv, rfl, hn⟩ | ⟨hv, rfl, h6⟩
    · simp only [go_sem, Nat.reduceLT, reduceIte, reduceCtorEq, Nat.reduceEqDiff, apply_ite (Option.map (outOf _)), Nat.reduceBEq, Nat.reduceAdd, Nat.reduceSub, Nat.reduceLeDiff, Nat.reduceMul, ev_len_sl ty_descOf_22, ev_indexAddr ty_descOf_22, ty_szOf_47, ty_fieldOff_47_0, ty_szOf_3, ty_shapeT_3, ty_fieldOff_47_1, ty_szOf_45, ty_shapeT_45, ty_fieldOff_47_2, ty_szOf_22, ty_shapeT_22, good_11, keep_11_4, hr, hv, hn]
    · simp only [go_sem, Nat.reduceLT, reduceIte, reduceCtorEq, Nat.reduceEqDiff, apply_ite (Option.map (outOf _)), Nat.reduceBEq, Nat.reduceAdd, Nat.reduceSub, Nat.reduceLeDiff, Nat.reduceMul, ev_len_sl ty_descOf_22, ev_indexAddr ty_descOf_22, ty_szOf_47, ty_fieldOff_47_0, ty_szOf_3, ty_shapeT_3, ty_fieldOff_47_1, ty_szOf_45, ty_shapeT_45, ty_fieldOff_47_2, ty_szOf_22, ty_shapeT_22, good_11, keep_11_4, hr, hv, h6]
  · have e0 : ((a.length : Int) != (b.length : Int)) = true := by rw [bne_iff_ne]; omega
    have hv := same_len hab
    simp only [go_sem, Nat.reduceLT, reduceIte, reduceCtorEq, Nat.reduceEqDiff, apply_ite (Option.map (outOf _)), Nat.reduceBEq, Nat.reduceAdd, Nat.reduceSub, Nat.reduceLeDiff, Nat.reduceMul, ev_len_sl ty_descOf_22, ev_indexAddr ty_descOf_22, ty_szOf_47, ty_fieldOff_47_0, ty_szOf_3, ty_shapeT_3, ty_fieldOff_47_1, ty_szOf_45, ty_shapeT_45, ty_fieldOff_47_2, ty_szOf_22, ty_shapeT_22, good_11, keep_11_4, encL_len, e0, hr, hv]
end Go.Abs
