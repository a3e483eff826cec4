/-
  winnowinglaw03.SplitTrims returns true for every input without a ring, and each argument reads behind the call as it read before: the tied card.
  THE ABSTRACT INTERPRETER: nest.Parse as a primitive: that its answer is what the program does.
  strings.IndexAny of a text of at most eight bytes, as an interpreter runs it that asks strings.IndexRune.
  strings.IndexAny of a text of at most eight bytes, as an interpreter runs it: where the first byte stands that ends a line.
  strings.IndexAny, asked for the three bytes that end a line, of a text of whatever bytes: what it answers, and that it does.
  THE ABSTRACT INTERPRETER: what it is run with over this program.
  FACTS ON THE TYPES OF THIS PROGRAM, each by the kernel (printed by a program).
  SELECTORS, in plain Lean: what a selector is, its text, the values that the text reads as; how values are read as selectors. No program stands here.
  WHAT THE FUNCTIONS COMPUTE: the smallest; the builder of texts.
  WHAT THE FUNCTIONS COMPUTE: loops; texts of words.
  VALUES, plain: how many there are; what is so of each token; what the laws' premises say.
  WHAT THE FUNCTIONS COMPUTE, layer 1: tokens that are the same; lists of them.
  WHAT THE FUNCTIONS COMPUTE, layer 2: blocks' last tokens; values told flat; depth.
  WHAT THE FUNCTIONS COMPUTE, layer 2: are values the same?
  WHAT THE FUNCTIONS COMPUTE, layer 3, the document's answer: blanks, signs; values trimmed, cut by a sign.
  Layer 3, plain: values trimmed, cut into words, joined: what holds of them, without the program.
  WHAT THE FUNCTIONS COMPUTE, layer 3: values trimmed, cut, joined.
  WHAT THE FUNCTIONS COMPUTE, layer 3, the document's answer: joined, cut into words; lists that are the same.
  WHAT THE FUNCTIONS COMPUTE, layer 2: how many values there are; whether values may be.
  Layer 3, plain: how many values there are in what is cut, trimmed.
  THE FIXED CALLS OF LAYER 3 answer as the document says: the interpreter's run, by the kernel.
  SplitTrims, as the interpreter answers it: true, whatever the values are.
  FROM A ROW's READING TO THE INTERPRETER's VALUES: an argument that reads as data is data without memory; a law whose answer the interpreter gives as 'true' meets its row.
  DATA OF A TYPE: what reads as a value of a struct, of a slice; what reads as tokens, and as values.
  WHAT READS AS THE ARGUMENTS: the statement SplitTrims.
-/
import Derived.Lib.IndexAny
import Derived.Lib.IndexBytes
import Derived.Laws.RangeAny
import Derived.Laws.Runes
import Derived.KernelRfl
import Derived.Lib.Bytealg
import Derived.Test.YtjfkppbgcgleaaaDoorRows
import Derived.ReadAgain
import Derived.ChangeBears
import Derived.RowKit
import Derived.OpenShut
import Derived.SizedLaws
import Derived.Deep.DeepHandedRow
import Derived.Lib.LaidTab
import Derived.Test.YtjfkppbgcgleaaaDoorCards
import Derived.Test.YtjfkppbgcgleaaaDoorTie
import Derived.ProofKit
import Derived.Test.YtjfkppbgcgleaaaDoorQT3
set_option linter.unusedSimpArgs false
set_option linter.unusedVariables false
namespace Go.Abs
open Go Go.Proofs Go.RowKit
open NR (goodsN prN)
def goodBN (P : Program) (f : Nat) : Bool :=
  match P.funcs[f]? with
  | some fn => fn.name != "runtime.NumGoroutine" && (match fn.body with | some c => codeOK (fun _ => false) c | none => false)
  | none => false
theorem goodsN_ok : goodsN.all (goodBN Tryd.prog) = true := by kernel_rfl
theorem KN_prog : Prog NR.KN := by
  refine ⟨by kernel_rfl, fun g hg => ?_, fun f F args bxs x _ hF hx => ?_, fun f F args bxs r call _ hF => by cases hF⟩
  · have h1 : g ∈ goodsN := by simpa [NR.KN] using hg
    have h2 := List.all_eq_true.1 goodsN_ok g h1
    unfold goodBN at h2
    split at h2
    · rename_i fn hfn
      simp only [Bool.and_eq_true] at h2
      obtain ⟨h3, h4⟩ := h2
      split at h4
      · rename_i c hc
        exact ⟨fn, c, hfn, by simpa using h3, hc, h4⟩
      · cases h4
    · cases h2
  · have h2 : prN f = some F := hF
    unfold prN at h2
    split at h2
    · rename_i hf
      cases h2
      obtain rfl : f = 37 := by simpa using hf
      exact pPairs_ok hx
    · split at h2
      · rename_i hf
        cases h2
        obtain rfl : f = 56 := by simpa using hf
        exact pOpens_ok hx
      · cases h2
def decT : List PV → Option Tok
  | [.int .i64 k, .str s, .int .i64 n] => some ⟨k, s, n⟩
  | _ => none
def decTs : List (List PV) → Option (List Tok)
  | [] => some []
  | c :: l => match decT c, decTs l with
    | some t, some m => some (t :: m)
    | _, _ => none
theorem decT_enc {c : List PV} {t : Tok} (h : decT c = some t) : c = t.enc := by
  unfold decT at h
  split at h
  · cases h; rfl
  · cases h
theorem enc_dec : ∀ {c : List (List PV)} {l : List Tok}, decTs c = some l → c = l.map Tok.enc
  | [], l, h => by cases h; rfl
  | c :: cs, l, h => by
    unfold decTs at h
    split at h
    · rename_i t m h1 h2
      cases h
      rw [List.map_cons, ← decT_enc h1, ← enc_dec h2]
    · cases h
/-- what nest.Parse answers -/
def parseR (deep : Int) (l : List Tok) : AV :=
  if deep < 1 ∨ 60 < deep then .tup [.c (.pv (.sl [])), .c (.pv (.int .i64 1))]
  else match Ne.until_ 0 deep.toNat l with
    | some x => .tup [.c (.pv (.sl (encL x.1))), .c (.pv (.int .i64 0))]
    | none => .tup [.c (.pv (.sl [])), .c (.pv (.int .i64 20))]
def pParse : Prim
  | [.c (.pv (.sl c)), .c (.pv (.int .i64 deep))], [] => (match decTs c with
    | some l => if l.length ≤ 1000000 then some (parseR deep l, []) else none
    | none => none)
  | [.c .nils, .c (.pv (.int .i64 deep))], [] => some (parseR deep [], [])
  | _, _ => none
section
variable {G G2 : Gh} {w w' w'' : World}
theorem parse_ext {x : Value} {deep : Int} (hw : WI G w) (hb0 : ∀ s, G.bb s = none) (hx : Ext (G.box LK (w.heap.size + 2)) (((w.alloc slV).alloc inE).alloc (rdO x deep)) G2 w') (hw2 : WI G2 w')
    (hs : w'.heap.size ≤ w''.heap.size) (ho : w''.os = w'.os) (hp : w''.output = w'.output) (ht : w''.tape = w'.tape) (hh : ∀ b, b < w'.heap.size → b ≠ w.heap.size → b ≠ w.heap.size + 1 → w''.heap[b]? = w'.heap[b]?) :
    Ext G w { G2 with bb := G.bb } w'' ∧ WI { G2 with bb := G.bb } w'' := by
  have hsz : (((w.alloc slV).alloc inE).alloc (rdO x deep)).heap.size = w.heap.size + 3 := by rw [alloc_size, alloc_size, alloc_size]
  have hold : ∀ b, b < w.heap.size → (((w.alloc slV).alloc inE).alloc (rdO x deep)).heap[b]? = w.heap[b]? := fun b hb => by
    rw [heap_old _ _ _ (by rw [alloc_size, alloc_size]; omega), heap_old _ _ _ (by rw [alloc_size]; omega), heap_old _ _ _ hb]
  have how : ∀ b, b ≠ w.heap.size + 2 → (G.box LK (w.heap.size + 2)).ow b = G.ow b := fun b hb => by
    show upd G.ow (w.heap.size + 2) _ b = _
    unfold upd; rw [if_neg hb]
  have hnI : ∀ b, w.heap.size ≤ b → b < w.heap.size + 2 → ∀ o, G2.I b o = none := fun b h1 h2 o => by
    have h3 := hx.old b (by rw [hsz]; omega) ((how b (by omega)).trans (hw.fresh b h1).2)
    exact (h3.2.2 o).trans ((hw.fresh b h1).1 o)
  have hold2 : ∀ b, b < w.heap.size → G.ow b = none → G2.ow b = none ∧ w''.heap[b]? = w.heap[b]? ∧ ∀ o, G2.I b o = G.I b o := fun b hb hn => by
    have h3 := hx.old b (by rw [hsz]; omega) ((how b (by omega)).trans hn)
    have := hx.size
    rw [hsz] at this
    exact ⟨h3.1, (hh b (by omega) (by omega) (by omega)).trans (h3.2.1.trans (hold b hb)), h3.2.2⟩
  have hsize := hx.size
  rw [hsz] at hsize
  refine ⟨⟨hx.I, hold2, by omega, ho.trans hx.os, hp.trans hx.output, ht.trans hx.tape, fun _ _ => rfl⟩, ⟨fun b o y h => ?_, fun b hb => hw2.fresh b (by omega), hw2.boxI, fun s b hb => absurd (show G.bb s = some b from hb) (by rw [hb0]; simp), hw.tab.map fun b hb hn => ⟨(hold2 b hb hn).1, (hold2 b hb hn).2.1⟩⟩⟩
  have h1 : G2.I b o = some y := h
  have hlt := I_lt hw2 h1
  have e : w''.heap[b]? = w'.heap[b]? := hh b hlt (fun e => by rw [e, hnI _ (Nat.le_refl _) (by omega)] at h1; cases h1) (fun e => by rw [e, hnI _ (by omega) (by omega)] at h1; cases h1)
  have := hw2.cell b o y h1
  unfold World.cell? at this ⊢
  rw [e]
  exact this
theorem box_WI {o : Obj} (hw : WI G w) {k : Nat} (hk : G.bb k = none) : WI (G.box k w.heap.size) (w.alloc o) := by
  refine ⟨fun b o y hI => ?_, fun b hb => ?_, fun b s hb o => ?_, fun s b hb => ?_, hw.tab.map fun c hc ho => ⟨?_, heap_old w _ c hc⟩⟩
  · rw [cell_alloc_old w _ (I_lt hw hI)]; exact hw.cell b o y hI
  · rw [alloc_size] at hb
    refine ⟨(hw.fresh b (by omega)).1, ?_⟩
    show upd G.ow w.heap.size _ b = none
    unfold upd; rw [if_neg (by omega)]; exact (hw.fresh b (by omega)).2
  · have hb' : upd G.ow w.heap.size (some (.box k)) b = some (.box s) := hb
    unfold upd at hb'
    split at hb'
    · rename_i he; subst he; exact (hw.fresh _ (Nat.le_refl _)).1 o
    · exact hw.boxI b s hb' o
  · have hb' : upd G.bb k (some w.heap.size) s = some b := hb
    show upd G.ow w.heap.size _ b = _
    unfold upd at hb' ⊢
    split at hb'
    · rename_i he; subst he; cases hb'; rw [if_pos rfl]
    · have h1 := hw.bbow s b hb'
      have h2 := ow_lt hw h1
      rw [if_neg (by omega)]; exact h1
  · show upd G.ow w.heap.size _ c = none
    unfold upd; rw [if_neg (by omega)]; exact ho
end
theorem set_heap (w : World) (a b : Addr) (v v' : Value) (k : Nat) (h1 : k ≠ a.block) (h2 : k ≠ b.block) : ((w.setCell a v).setCell b v').heap[k]? = w.heap[k]? := by
  rw [heap_set_other _ _ _ h2, heap_set_other _ _ _ h1]
theorem set_size (w : World) (a : Addr) (v : Value) : (w.setCell a v).heap.size = w.heap.size := by
  simp [World.setCell]
theorem parse_ok {l : List Tok} {deep : Int} {v : AV} (hlen : l.length ≤ 1000000) (hv : ∀ {G : Gh} {w : World} {x : Value}, RA G w .ret v x → RP G.I (.sl (l.map Tok.enc)) x) :
    Contract Tryd.prog 20 [v, .c (.pv (.int .i64 deep))] [] (.ret (parseR deep l) []) := by
  intro G w cargs hw hargs _ _ hbb
  have hb0 : ∀ s, G.bb s = none := fun s => by
    cases e : G.bb s with
    | none => rfl
    | some b => obtain ⟨i, hi, _⟩ := hbb s b e; simp at hi
  obtain ⟨x, y, rfl, hx, hy⟩ := args_two hargs
  cases hy.intv
  have hxp : RP G.I (.sl (l.map Tok.enc)) x := hv hx
  obtain ⟨pa, pc, rfl, _, _⟩ := hxp.slice_inv
  unfold parseR
  by_cases hd : deep < 1 ∨ 60 < deep
  · rw [if_pos hd]
    refine (parse_no _ deep w hd).mono ?_
    rintro e w' ⟨rfl, rfl⟩
    obtain ⟨g, hw'⟩ := below_gr (w' := (w.alloc (.cells #[.slice none 0 0] 22)).alloc (.cells #[.int .i64 1] 36)) hw (((Below.refl _ _).alloc (Nat.le_refl _) _).alloc (by simp) _)
    exact ⟨G, g.ext, hw', _, rfl, ⟨[_, _], rfl, .cons (.sl0 _ _) (.cons (.int _ _) .nil)⟩, rfl, fun i l h => by simp at h⟩
  · rw [if_neg hd]
    have hd1 : ¬ deep < 1 := fun h => hd (.inl h)
    have hd2 : ¬ 60 < deep := fun h => hd (.inr h)
    obtain ⟨d, rfl⟩ : ∃ d : Nat, deep = d := ⟨deep.toNat, by omega⟩
    rw [Int.toNat_natCast]
    have hu := NR.until_all l hlen d (by omega)
    unfold NR.UDen at hu
    obtain ⟨g1, hw1⟩ := below_gr (w' := (w.alloc slV).alloc inE) hw (((Below.refl _ _).alloc (Nat.le_refl _) _).alloc (by simp) _)
    have hn1 : ((w.alloc slV).alloc inE).heap.size = w.heap.size + 2 := by rw [alloc_size, alloc_size]
    have hw3 : WI (G.box LK (w.heap.size + 2)) (((w.alloc slV).alloc inE).alloc (rdO (.slice pa (l.map Tok.enc).length pc) d)) := by
      have := box_WI (o := rdO (.slice pa (l.map Tok.enc).length pc) d) hw1 (hb0 LK)
      rw [hn1] at this
      exact this
    have hnew : (((w.alloc slV).alloc inE).alloc (rdO (.slice pa (l.map Tok.enc).length pc) d)).heap[w.heap.size + 2]? = some (rdO (.slice pa (l.map Tok.enc).length pc) d) := by
      have := heap_alloc_new ((w.alloc slV).alloc inE) (rdO (.slice pa (l.map Tok.enc).length pc) d)
      rw [hn1] at this
      exact this
    have hbbk : (G.box LK (w.heap.size + 2)).bb LK = some (w.heap.size + 2) := by simp [Gh.box, upd]
    have hcall : ∀ r, den NR.KN 30 [.c (.loc 100000 0), .c .nilp, .c (.pv (.int .i64 0))] [NR.rdr l d] = some r →
        Calls Tryd.prog 30 #[.pointer (some ⟨w.heap.size + 2, 0, none⟩), .pointer none, .int .i64 0] (((w.alloc slV).alloc inE).alloc (rdO (.slice pa (l.map Tok.enc).length pc) d)) fun e w' =>
          ∃ G2, Ext (G.box LK (w.heap.size + 2)) (((w.alloc slV).alloc inE).alloc (rdO (.slice pa (l.map Tok.enc).length pc) d)) G2 w' ∧ WI G2 w' ∧ REnd 1 G2 w' e r := fun r hr => by
      refine den_ok KN_prog NR.good_u hr _ _ [.pointer (some ⟨w.heap.size + 2, 0, none⟩), .pointer none, .int .i64 0] hw3 ?_ ?_ ?_ ?_
      · exact .cons ⟨w.heap.size + 2, hbbk, rfl⟩ (.cons rfl (.cons (.int _ _) .nil))
      · intro v hv
        simp only [List.mem_cons, List.not_mem_nil, or_false] at hv
        rcases hv with rfl | rfl | rfl <;> rfl
      · intro i b hi
        cases i with
        | succ i => simp at hi
        | zero =>
          simp only [List.getElem?_cons_zero, Option.some.injEq] at hi
          subst hi
          refine ⟨w.heap.size + 2, _, _, hbbk, hnew, ⟨rfl, fun e => by simp at e⟩, fun k v hk => ?_⟩
          match k with
          | 0 =>
            simp only [List.getElem?_cons_zero, Option.some.injEq] at hk
            subst hk
            exact ⟨_, rfl, hxp⟩
          | 1 =>
            simp only [List.getElem?_cons_succ, List.getElem?_cons_zero, Option.some.injEq] at hk
            subst hk
            exact ⟨_, rfl, .int _ _⟩
          | k + 2 => simp at hk
      · intro s b hs
        have hs' : upd G.bb LK (some (w.heap.size + 2)) s = some b := hs
        unfold upd at hs'
        split at hs'
        · rename_i he; exact ⟨0, by simp, by omega⟩
        · rw [hb0] at hs'; cases hs'
    have hheap : ∀ {G2 : Gh} {w' : World}, Ext (G.box LK (w.heap.size + 2)) (((w.alloc slV).alloc inE).alloc (rdO (.slice pa (l.map Tok.enc).length pc) d)) G2 w' →
        w'.heap[w.heap.size]? = some slV ∧ w'.heap[w.heap.size + 1]? = some inE := fun {G2 w'} hx2 => by
      have how : ∀ b, w.heap.size ≤ b → b ≠ w.heap.size + 2 → (G.box LK (w.heap.size + 2)).ow b = none := fun b h1 h2 => by
        show upd G.ow (w.heap.size + 2) _ b = _
        unfold upd; rw [if_neg h2]; exact (hw.fresh b h1).2
      constructor
      · rw [(hx2.old w.heap.size (by rw [alloc_size, hn1]; omega) (how _ (Nat.le_refl _) (by omega))).2.1, heap_old _ _ _ (by rw [hn1]; omega), heap_old _ _ _ (by rw [alloc_size]; omega)]
        exact heap_alloc_new w _
      · rw [(hx2.old (w.heap.size + 1) (by rw [alloc_size, hn1]; omega) (how _ (by omega) (by omega))).2.1, heap_old _ _ _ (by rw [hn1]; omega)]
        have := heap_alloc_new (w.alloc slV) inE
        rw [alloc_size] at this
        exact this
    cases hv : Ne.until_ 0 d l with
    | some x =>
      rw [hv] at hu
      refine (parse_yes pa _ pc d w hd1 hd2 (fun va vn vc w' => ∃ G2, Ext (G.box LK (w.heap.size + 2)) (((w.alloc slV).alloc inE).alloc (rdO (.slice pa (l.map Tok.enc).length pc) d)) G2 w' ∧ WI G2 w' ∧ RP G2.I (.sl (encL x.1)) (.slice va vn vc)) (fun _ => False) ?_).mono ?_
      · refine (hcall _ hu).mono ?_
        rintro e w' ⟨G2, hx2, hw2, v, rfl, hr, _, _⟩
        have hr' : RP G2.I (.sl (encL x.1)) v := hr
        obtain ⟨va, vc, rfl, _, _⟩ := hr'.slice_inv
        exact ⟨(hheap hx2).1, (hheap hx2).2, .inl ⟨va, _, vc, rfl, G2, hx2, hw2, hr'⟩⟩
      · rintro e w'' (⟨va, vn, vc, w', ⟨G2, hx2, hw2, hr⟩, rfl, rfl⟩ | ⟨w', hf, _⟩)
        · obtain ⟨k1, k2⟩ := parse_ext (w'' := (w'.setCell ⟨w.heap.size, 0, none⟩ (.slice va vn vc)).setCell ⟨w.heap.size + 1, 0, none⟩ (.int .i64 0)) hw hb0 hx2 hw2 (by rw [set_size, set_size]; exact Nat.le_refl _) rfl rfl rfl (fun b _ h1 h2 => set_heap w' _ _ _ _ b h1 h2)
          exact ⟨_, k1, k2, _, rfl, ⟨[_, _], rfl, .cons hr (.cons (.int _ _) .nil)⟩, rfl, fun i l h => by simp at h⟩
        · exact hf.elim
    | none =>
      rw [hv] at hu
      obtain ⟨b1, hu⟩ := hu
      refine (parse_yes pa _ pc d w hd1 hd2 (fun _ _ _ _ => False) (fun w' => ∃ G2, Ext (G.box LK (w.heap.size + 2)) (((w.alloc slV).alloc inE).alloc (rdO (.slice pa (l.map Tok.enc).length pc) d)) G2 w' ∧ WI G2 w') ?_).mono ?_
      · refine (hcall _ hu).mono ?_
        rintro e w' ⟨G2, hx2, hw2, v, rfl, hr, _, _⟩
        have hr' : RP G2.I (.ifa 55 []) v := hr
        cases hr'
        exact ⟨(hheap hx2).1, (hheap hx2).2, .inr ⟨rfl, G2, hx2, hw2⟩⟩
      · rintro e w'' (⟨va, vn, vc, w', hf, _⟩ | ⟨w', ⟨G2, hx2, hw2⟩, rfl, rfl⟩)
        · exact hf.elim
        · obtain ⟨k1, k2⟩ := parse_ext (w'' := ((w'.alloc (.cells #[] 55)).setCell ⟨w.heap.size, 0, none⟩ (.slice none 0 0)).setCell ⟨w.heap.size + 1, 0, none⟩ (.int .i64 20)) hw hb0 hx2 hw2 (by rw [set_size, set_size, alloc_size]; omega) rfl rfl rfl (fun b hb h1 h2 => by rw [set_heap _ _ _ _ _ b h1 h2, heap_old _ _ _ hb])
          exact ⟨_, k1, k2, _, rfl, ⟨[_, _], rfl, .cons (.sl0 _ _) (.cons (.int _ _) .nil)⟩, rfl, fun i l h => by simp at h⟩
theorem pParse_ok {args : List AV} {bxs : List (List CV)} {x : AV × List (List CV)} (h : pParse args bxs = some x) : Contract Tryd.prog 20 args bxs (.ret x.1 x.2) := by
  unfold pParse at h
  split at h
  · rename_i c deep
    split at h
    case h_2 => cases h
    rename_i l hdec
    split at h
    case isFalse => cases h
    rename_i hlen
    cases h
    obtain rfl := enc_dec hdec
    exact parse_ok hlen (fun hx => hx)
  · cases h
    refine parse_ok (l := []) (by simp) (fun hx => ?_)
    cases hx
    exact .sl0 _ _
  · cases h
end Go.Abs
namespace Go.Abs
open Go Go.Proofs
set_option maxRecDepth 10000
def keep0 (f r : Nat) : List Nat × List Nat := if f == 67 && r == 18 then ([1, 45], []) else if f == 72 && r == 38 then ([175], []) else if f == 72 && r == 5 then ([0, 7, 8, 9], []) else ([], [])
def pr0 (f : Nat) : Option Prim := if f == 45 then some pIndexByte else none
noncomputable def K0 : Cfg := { P := Tryd.prog, pr := pr0, keep := keep0, ownRet := fun _ => false, good := [67, 73, 72, 81, 45].contains, hook := fun _ _ => false }
theorem K0_own (f : FuncId) : K0.ownRet f = false := rfl
theorem K0_hook (f i : Nat) : K0.hook f i = false := rfl
theorem region0 (f : FuncId) (id : Nat) (ops : Array Oper) (draw : Bool) (S : St) : exL K0 f (.region id ops draw) S = runRegion K0 (den K0) ops.toList draw S := exL_region f id ops draw S (K0_hook f id)
theorem K0_P : K0.P = Tryd.prog := rfl
theorem K0_keep (f r : Nat) : K0.keep f r = keep0 f r := rfl
theorem K0_keep18 : keep0 67 18 = ([1, 45], []) := by decide
theorem K0_keep5 : keep0 72 5 = ([0, 7, 8, 9], []) := by decide
theorem K0_good1 : K0.good 73 = true := rfl
theorem K0_good2 : K0.good 72 = true := rfl
theorem K0_good3 : K0.good 81 = true := rfl
theorem K0_good4 : K0.good 45 = true := rfl
theorem K0_str : descOf Tryd.prog 9 = some .str := by kernel_rfl
theorem K0_rune : descOf Tryd.prog 21 = some (.int .i32) := by kernel_rfl
theorem K0_byte : descOf Tryd.prog 5 = some (.int .u8) := by kernel_rfl
theorem den_run0 {f : FuncId} {fn : Func} {x : Code} {nt : Nat} {args : List AV} {bxs : List (List CV)} {r : Res} (hp : pr0 f = none) (hf : Tryd.prog.funcs[f]? = some fn) (hx : fn.body = some x) (hn : fn.ntmps = nt)
    (hl : args.length ≤ nt ∧ nt < LK) (h : (exL K0 f x (enterSt nt args bxs)).bind (fun r => leave K0 f fn bxs.length (some r)) = some r) : den K0 f args bxs = some r := by
  rw [den_eq (K := K0) hp rfl hf hx, hn, if_pos hl]
  exact h
theorem use0_den (n : Int) : den K0 73 [.c (.pv (.int .i64 n))] [] = some (.ret (.c (.pv (.bool (decide (8 < n))))) []) := by
  refine den_run0 rfl Tryd.func73 rfl Tryd.ntmps73 ⟨by simp, by simp [LK]⟩ ?_
  have hr : Tryd.f73.results = #[.tmp 2] := rfl
  simp only [exL_seq, exL_cond, exL_block, exL_scope, exL_ret, exL_skip, exL_exit, runRegion, runOps, stepOp, guardA, absOp, takeOver, opd, avOf, cvOf, St.degAt, St.put, okPV, okVal, okAV, absBin, intBin, strBin, boolBin, setBoxes, if_true, Bool.false_eq_true, if_false, Option.map_some, Option.map_none, Option.bind_some, Option.bind_none, thenO, outOf, upd, List.toList_toArray, isOwn, steal, appArgs, inApps, AV.deg, CV.deg, AV.gv, AV.isIter, absNext, some_bne, Nat.reduceLT, reduceIte, reduceCtorEq, Nat.reduceEqDiff, List.length_nil, List.length_cons, apply_ite (Option.map (outOf _)), List.filterMap_cons, List.filterMap_nil, beq_iff_eq, List.getElem?_cons_zero, List.getElem?_cons_succ, Option.getD_some, Nat.reduceBEq, Bool.false_and, Bool.and_false, Bool.and_self, absCall, doCall, getBoxes, lend, back, idx, dedup, AV.ren, CV.ren, TV.ren, AV.ptrs, CV.ptrs, zipBox, AV.flat, CV.flat, absLoad, absStore, cellsOfAV, setAt, newBox, markB, bldTypes, absFieldAddr, absField, absExtract, absAssert, noAssert, absMkIface, ifcOf, CV.pv?, content, pushHead, ownT, fillCells, reps, pvs, chunks, enterSt, leave, resOf, resVars, resVar, outBoxes, lentOnly, TV.deg, TV.av, LK, CV.plain, CV.noBld, nilBin, absUn, bound, List.map_cons, List.map_nil, List.all_cons, List.all_nil, List.any_cons, List.any_nil, List.contains_cons, List.contains_nil, List.elem_cons, List.elem_nil, List.cons_append, List.nil_append, List.append_nil, List.flatMap_cons, List.flatMap_nil, List.zip_cons_cons, List.zip_nil_left, List.zip_nil_right, List.take_succ_cons, List.take_zero, List.take_nil, List.drop_succ_cons, List.drop_zero, List.drop_nil, List.isEmpty_nil, List.isEmpty_cons, Bool.and_true, Bool.true_and, Bool.or_true, Bool.true_or, Bool.or_false, Bool.false_or, Bool.not_true, Bool.not_false, Nat.reduceAdd, Nat.reduceSub, Nat.reduceLeDiff, Nat.add_zero, Nat.zero_add, Nat.reduceMul, Option.isNone_none, Option.isNone_some, Option.getD_none, true_and, and_true, not_true_eq_false, not_false_eq_true, decide_true, decide_false, List.toList_toArray, Nat.le_refl, and_self, Bool.not_eq_true, Nat.sub_self, or_true, true_or, Option.some.injEq, List.length_map, List.nil_eq, and_false, false_and, AV.live, CV.live, CV.liveIn, firstReg, Option.orElse_some, Option.orElse_none, head, keepSlots, keepBoxes, Int.lt_irrefl, List.length_append, ite_self, memOK, logOps, opKey, lentBoxes, Key.clash, Key.sees, Key.writes, Nat.lt_irrefl, gt_iff_lt, nobox_at, bot_at, false_or, or_false, beq_self_eq_true, Bool.true_beq, Bool.false_beq, region0, K0_own, K0_P, hr]
theorem byte0_den (s : List UInt8) (c : Int) : den K0 45 [.c (.pv (.str s)), .c (.pv (.int .u8 c))] [] = some (.ret (.c (.pv (.int .i64 (Lib.indexByte s c.toNat.toUInt8)))) []) := by
  rw [den_prim (K := K0) (F := pIndexByte) rfl]
  rfl
theorem valid0_den (r : Int) : den K0 81 [.c (.pv (.int .i32 r))] [] = some (.ret (.c (.pv (.bool (Utf8.valid r)))) []) := by
  refine den_run0 rfl Tryd.func81 rfl Tryd.ntmps81 ⟨by simp, by simp [LK]⟩ ?_
  have hr : Tryd.f81.results = #[.tmp 2] := rfl
  have e : Utf8.valid r = ((decide (0 ≤ r) && decide (r < 55296)) || (decide (57343 < r) && decide (r ≤ 1114111))) := by
    unfold Utf8.valid
    have : decide (57344 ≤ r) = decide (57343 < r) := decide_eq_decide.2 (by omega)
    rw [← this]
  rw [e]
  cases b1 : decide (0 ≤ r) <;> cases b2 : decide (r < 55296) <;> cases b3 : decide (57343 < r) <;> cases b4 : decide (r ≤ 1114111) <;> simp only [exL_seq, exL_cond, exL_block, exL_scope, exL_ret, exL_skip, exL_exit, runRegion, runOps, stepOp, guardA, absOp, takeOver, opd, avOf, cvOf, St.degAt, St.put, okPV, okVal, okAV, absBin, intBin, strBin, boolBin, setBoxes, if_true, Bool.false_eq_true, if_false, Option.map_some, Option.map_none, Option.bind_some, Option.bind_none, thenO, outOf, upd, List.toList_toArray, isOwn, steal, appArgs, inApps, AV.deg, CV.deg, AV.gv, AV.isIter, absNext, some_bne, Nat.reduceLT, reduceIte, reduceCtorEq, Nat.reduceEqDiff, List.length_nil, List.length_cons, apply_ite (Option.map (outOf _)), List.filterMap_cons, List.filterMap_nil, beq_iff_eq, List.getElem?_cons_zero, List.getElem?_cons_succ, Option.getD_some, Nat.reduceBEq, Bool.false_and, Bool.and_false, Bool.and_self, absCall, doCall, getBoxes, lend, back, idx, dedup, AV.ren, CV.ren, TV.ren, AV.ptrs, CV.ptrs, zipBox, AV.flat, CV.flat, absLoad, absStore, cellsOfAV, setAt, newBox, markB, bldTypes, absFieldAddr, absField, absExtract, absAssert, noAssert, absMkIface, ifcOf, CV.pv?, content, pushHead, ownT, fillCells, reps, pvs, chunks, enterSt, leave, resOf, resVars, resVar, outBoxes, lentOnly, TV.deg, TV.av, LK, CV.plain, CV.noBld, nilBin, absUn, bound, List.map_cons, List.map_nil, List.all_cons, List.all_nil, List.any_cons, List.any_nil, List.contains_cons, List.contains_nil, List.elem_cons, List.elem_nil, List.cons_append, List.nil_append, List.append_nil, List.flatMap_cons, List.flatMap_nil, List.zip_cons_cons, List.zip_nil_left, List.zip_nil_right, List.take_succ_cons, List.take_zero, List.take_nil, List.drop_succ_cons, List.drop_zero, List.drop_nil, List.isEmpty_nil, List.isEmpty_cons, Bool.and_true, Bool.true_and, Bool.or_true, Bool.true_or, Bool.or_false, Bool.false_or, Bool.not_true, Bool.not_false, Nat.reduceAdd, Nat.reduceSub, Nat.reduceLeDiff, Nat.add_zero, Nat.zero_add, Nat.reduceMul, Option.isNone_none, Option.isNone_some, Option.getD_none, true_and, and_true, not_true_eq_false, not_false_eq_true, decide_true, decide_false, List.toList_toArray, Nat.le_refl, and_self, Bool.not_eq_true, Nat.sub_self, or_true, true_or, Option.some.injEq, List.length_map, List.nil_eq, and_false, false_and, AV.live, CV.live, CV.liveIn, firstReg, Option.orElse_some, Option.orElse_none, head, keepSlots, keepBoxes, Int.lt_irrefl, List.length_append, ite_self, memOK, logOps, opKey, lentBoxes, Key.clash, Key.sees, Key.writes, Nat.lt_irrefl, gt_iff_lt, nobox_at, bot_at, false_or, or_false, beq_self_eq_true, Bool.true_beq, Bool.false_beq, region0, K0_own, K0_P, hr, b1, b2, b3, b4]
abbrev endsL : List UInt8 := [10, 12, 13]
theorem err0_run : callN K0 40 72 [.c (.pv (.str endsL)), .c (.pv (.int .i32 65533))] [] = some (.ret (.c (.pv (.int .i64 (-1)))) []) := by kernel_rfl
theorem miss_high {c : UInt8} (h : 128 ≤ c.toNat) : ∀ l : List UInt8, (∀ b ∈ l, b.toNat < 128) → Lib.indexByte l c = -1
  | [], _ => rfl
  | b :: l, hl => by
    have hb : (b == c) = false := by
      rw [beq_eq_false_iff_ne]; intro e; have := hl b (by simp); rw [e] at this; omega
    rw [Lib.indexByte, hb, miss_high h l fun x hx => hl x (by simp [hx])]
    rfl
set_option maxHeartbeats 4000000 in
set_option maxRecDepth 100000 in
theorem rune0_den (r : Int) (h : 0 ≤ r ∧ r ≤ 2147483647) : den K0 72 [.c (.pv (.str endsL)), .c (.pv (.int .i32 r))] [] = some (.ret (.c (.pv (.int .i64 (if r < 128 then Lib.indexByte endsL r.toNat.toUInt8 else -1)))) []) := by
  have hr : Tryd.f72.results = #[.tmp 4] := rfl
  have h0 : decide (0 ≤ r) = true := decide_eq_true h.1
  by_cases h1 : r < 128
  · have d1 : decide (r < 128) = true := decide_eq_true h1
    have w1 : IntKind.u8.wrap r = r := IntWalk.u8_in _ (by omega)
    have hb := byte0_den endsL r
    refine den_run0 rfl Tryd.func72 rfl Tryd.ntmps72 ⟨by simp, by simp [LK]⟩ ?_
    simp only [exL_seq, exL_cond, exL_block, exL_scope, exL_ret, exL_skip, exL_exit, runRegion, runOps, stepOp, guardA, absOp, takeOver, opd, avOf, cvOf, St.degAt, St.put, okPV, okVal, okAV, absBin, intBin, strBin, boolBin, setBoxes, if_true, Bool.false_eq_true, if_false, Option.map_some, Option.map_none, Option.bind_some, Option.bind_none, thenO, outOf, upd, List.toList_toArray, isOwn, steal, appArgs, inApps, AV.deg, CV.deg, AV.gv, AV.isIter, absNext, some_bne, Nat.reduceLT, reduceIte, reduceCtorEq, Nat.reduceEqDiff, List.length_nil, List.length_cons, apply_ite (Option.map (outOf _)), List.filterMap_cons, List.filterMap_nil, beq_iff_eq, List.getElem?_cons_zero, List.getElem?_cons_succ, Option.getD_some, Nat.reduceBEq, Bool.false_and, Bool.and_false, Bool.and_self, absCall, doCall, getBoxes, lend, back, idx, dedup, AV.ren, CV.ren, TV.ren, AV.ptrs, CV.ptrs, zipBox, AV.flat, CV.flat, absLoad, absStore, cellsOfAV, setAt, newBox, markB, bldTypes, absFieldAddr, absField, absExtract, absAssert, noAssert, absMkIface, ifcOf, CV.pv?, content, pushHead, ownT, fillCells, reps, pvs, chunks, enterSt, leave, resOf, resVars, resVar, outBoxes, lentOnly, TV.deg, TV.av, LK, CV.plain, CV.noBld, nilBin, absUn, bound, List.map_cons, List.map_nil, List.all_cons, List.all_nil, List.any_cons, List.any_nil, List.contains_cons, List.contains_nil, List.elem_cons, List.elem_nil, List.cons_append, List.nil_append, List.append_nil, List.flatMap_cons, List.flatMap_nil, List.zip_cons_cons, List.zip_nil_left, List.zip_nil_right, List.take_succ_cons, List.take_zero, List.take_nil, List.drop_succ_cons, List.drop_zero, List.drop_nil, List.isEmpty_nil, List.isEmpty_cons, Bool.and_true, Bool.true_and, Bool.or_true, Bool.true_or, Bool.or_false, Bool.false_or, Bool.not_true, Bool.not_false, Nat.reduceAdd, Nat.reduceSub, Nat.reduceLeDiff, Nat.add_zero, Nat.zero_add, Nat.reduceMul, Option.isNone_none, Option.isNone_some, Option.getD_none, true_and, and_true, not_true_eq_false, not_false_eq_true, decide_true, decide_false, List.toList_toArray, Nat.le_refl, and_self, Bool.not_eq_true, Nat.sub_self, or_true, true_or, Option.some.injEq, List.length_map, List.nil_eq, and_false, false_and, AV.live, CV.live, CV.liveIn, firstReg, Option.orElse_some, Option.orElse_none, head, keepSlots, keepBoxes, Int.lt_irrefl, List.length_append, ite_self, memOK, logOps, opKey, lentBoxes, Key.clash, Key.sees, Key.writes, Nat.lt_irrefl, gt_iff_lt, nobox_at, bot_at, false_or, or_false, beq_self_eq_true, Bool.true_beq, Bool.false_beq, region0, K0_own, K0_P, hr, h0, h1, d1, w1, hb, K0_good4, ev_conv_int K0_rune K0_byte]
  · have d1 : decide (r < 128) = false := decide_eq_false h1
    rw [if_neg h1]
    by_cases h2 : r = 65533
    · subst h2
      exact den_iff.2 ⟨40, err0_run⟩
    · have d2 : (r == 65533) = false := by simpa using h2
      have hv := valid0_den r
      refine den_run0 rfl Tryd.func72 rfl Tryd.ntmps72 ⟨by simp, by simp [LK]⟩ ?_
      cases h3 : Utf8.valid r
      · rw [h3] at hv
        simp only [exL_seq, exL_cond, exL_block, exL_scope, exL_ret, exL_skip, exL_exit, runRegion, runOps, stepOp, guardA, absOp, takeOver, opd, avOf, cvOf, St.degAt, St.put, okPV, okVal, okAV, absBin, intBin, strBin, boolBin, setBoxes, if_true, Bool.false_eq_true, if_false, Option.map_some, Option.map_none, Option.bind_some, Option.bind_none, thenO, outOf, upd, List.toList_toArray, isOwn, steal, appArgs, inApps, AV.deg, CV.deg, AV.gv, AV.isIter, absNext, some_bne, Nat.reduceLT, reduceIte, reduceCtorEq, Nat.reduceEqDiff, List.length_nil, List.length_cons, apply_ite (Option.map (outOf _)), List.filterMap_cons, List.filterMap_nil, beq_iff_eq, List.getElem?_cons_zero, List.getElem?_cons_succ, Option.getD_some, Nat.reduceBEq, Bool.false_and, Bool.and_false, Bool.and_self, absCall, doCall, getBoxes, lend, back, idx, dedup, AV.ren, CV.ren, TV.ren, AV.ptrs, CV.ptrs, zipBox, AV.flat, CV.flat, absLoad, absStore, cellsOfAV, setAt, newBox, markB, bldTypes, absFieldAddr, absField, absExtract, absAssert, noAssert, absMkIface, ifcOf, CV.pv?, content, pushHead, ownT, fillCells, reps, pvs, chunks, enterSt, leave, resOf, resVars, resVar, outBoxes, lentOnly, TV.deg, TV.av, LK, CV.plain, CV.noBld, nilBin, absUn, bound, List.map_cons, List.map_nil, List.all_cons, List.all_nil, List.any_cons, List.any_nil, List.contains_cons, List.contains_nil, List.elem_cons, List.elem_nil, List.cons_append, List.nil_append, List.append_nil, List.flatMap_cons, List.flatMap_nil, List.zip_cons_cons, List.zip_nil_left, List.zip_nil_right, List.take_succ_cons, List.take_zero, List.take_nil, List.drop_succ_cons, List.drop_zero, List.drop_nil, List.isEmpty_nil, List.isEmpty_cons, Bool.and_true, Bool.true_and, Bool.or_true, Bool.true_or, Bool.or_false, Bool.false_or, Bool.not_true, Bool.not_false, Nat.reduceAdd, Nat.reduceSub, Nat.reduceLeDiff, Nat.add_zero, Nat.zero_add, Nat.reduceMul, Option.isNone_none, Option.isNone_some, Option.getD_none, true_and, and_true, not_true_eq_false, not_false_eq_true, decide_true, decide_false, List.toList_toArray, Nat.le_refl, and_self, Bool.not_eq_true, Nat.sub_self, or_true, true_or, Option.some.injEq, List.length_map, List.nil_eq, and_false, false_and, AV.live, CV.live, CV.liveIn, firstReg, Option.orElse_some, Option.orElse_none, head, keepSlots, keepBoxes, Int.lt_irrefl, List.length_append, ite_self, memOK, logOps, opKey, lentBoxes, Key.clash, Key.sees, Key.writes, Nat.lt_irrefl, gt_iff_lt, nobox_at, bot_at, false_or, or_false, beq_self_eq_true, Bool.true_beq, Bool.false_beq, region0, K0_own, K0_P, hr, h0, d1, d2, hv, K0_good3]
      · rw [h3] at hv
        obtain ⟨e2, e4, elast⟩ := encode_facts r h3 (by omega)
        have hsz : (Utf8.encode r).size = (Utf8.encode r).data.toList.length := Lib.size_eq _
        have hlast : ∃ c : UInt8, (Utf8.encode r).data.toList[(Utf8.encode r).data.toList.length - 1]? = some c ∧ 128 ≤ c.toNat := by
          have hx : (Utf8.encode r).data.toList.length - 1 < (Utf8.encode r).data.toList.length := by omega
          refine ⟨_, List.getElem?_eq_getElem hx, ?_⟩
          have := elast (by rw [hsz]; exact hx)
          have e : (Utf8.encode r)[(Utf8.encode r).size - 1]'(by rw [hsz]; exact hx) = (Utf8.encode r).data.toList[(Utf8.encode r).data.toList.length - 1]'hx := by
            simp only [hsz]; rfl
          rw [e] at this
          exact this
        rw [hsz] at e2 e4
        clear elast hsz
        generalize ht : (Utf8.encode r).data.toList = t at e2 e4 hlast
        obtain ⟨c, hl, hc⟩ := hlast
        have hneg : decide ((-1 : Int) < 0) = true := by decide
        have hcb : (c.toNat : Int).toNat.toUInt8 = c := by simp
        have hm : ∀ l : List UInt8, (∀ b ∈ l, b.toNat < 128) → Lib.indexByte l c = -1 := fun l => miss_high hc l
        have hy : ∀ l : List UInt8, (∀ b ∈ l, b.toNat < 128) → den K0 45 [.c (.pv (.str l)), .c (.pv (.int .u8 c.toNat))] [] = some (.ret (.c (.pv (.int .i64 (-1)))) []) := fun l hl => by
          rw [byte0_den, hcb, hm l hl]
        have hne : ∀ b : UInt8, b.toNat < 128 → ((b.toNat : Int) != (c.toNat : Int)) = true := fun b hb => by rw [bne_iff_ne]; omega
        have w1 : IntKind.i64.wrap 1 = 1 := by decide
        have w2 : IntKind.i64.wrap 2 = 2 := by decide
        have w3 : IntKind.i64.wrap 3 = 3 := by decide
        have w4 : IntKind.i64.wrap 4 = 4 := by decide
        have y1 := hy [13] (by decide)
        have y2 := hy [] (by simp)
        have n1 : ((12 : Int) = (c.toNat : Int)) = False := eq_false (by omega)
        have n2 : ((13 : Int) = (c.toNat : Int)) = False := eq_false (by omega)
        simp only [exL_seq, exL_cond, exL_block, exL_scope, exL_ret, exL_skip, exL_exit, runRegion, runOps, stepOp, guardA, absOp, takeOver, opd, avOf, cvOf, St.degAt, St.put, okPV, okVal, okAV, absBin, intBin, strBin, boolBin, setBoxes, if_true, Bool.false_eq_true, if_false, Option.map_some, Option.map_none, Option.bind_some, Option.bind_none, thenO, outOf, upd, List.toList_toArray, isOwn, steal, appArgs, inApps, AV.deg, CV.deg, AV.gv, AV.isIter, absNext, some_bne, Nat.reduceLT, reduceIte, reduceCtorEq, Nat.reduceEqDiff, List.length_nil, List.length_cons, apply_ite (Option.map (outOf _)), List.filterMap_cons, List.filterMap_nil, beq_iff_eq, List.getElem?_cons_zero, List.getElem?_cons_succ, Option.getD_some, Nat.reduceBEq, Bool.false_and, Bool.and_false, Bool.and_self, absCall, doCall, getBoxes, lend, back, idx, dedup, AV.ren, CV.ren, TV.ren, AV.ptrs, CV.ptrs, zipBox, AV.flat, CV.flat, absLoad, absStore, cellsOfAV, setAt, newBox, markB, bldTypes, absFieldAddr, absField, absExtract, absAssert, noAssert, absMkIface, ifcOf, CV.pv?, content, pushHead, ownT, fillCells, reps, pvs, chunks, enterSt, leave, resOf, resVars, resVar, outBoxes, lentOnly, TV.deg, TV.av, LK, CV.plain, CV.noBld, nilBin, absUn, bound, List.map_cons, List.map_nil, List.all_cons, List.all_nil, List.any_cons, List.any_nil, List.contains_cons, List.contains_nil, List.elem_cons, List.elem_nil, List.cons_append, List.nil_append, List.append_nil, List.flatMap_cons, List.flatMap_nil, List.zip_cons_cons, List.zip_nil_left, List.zip_nil_right, List.take_succ_cons, List.take_zero, List.take_nil, List.drop_succ_cons, List.drop_zero, List.drop_nil, List.isEmpty_nil, List.isEmpty_cons, Bool.and_true, Bool.true_and, Bool.or_true, Bool.true_or, Bool.or_false, Bool.false_or, Bool.not_true, Bool.not_false, Nat.reduceAdd, Nat.reduceSub, Nat.reduceLeDiff, Nat.add_zero, Nat.zero_add, Nat.reduceMul, Option.isNone_none, Option.isNone_some, Option.getD_none, true_and, and_true, not_true_eq_false, not_false_eq_true, decide_true, decide_false, List.toList_toArray, Nat.le_refl, and_self, Bool.not_eq_true, Nat.sub_self, or_true, true_or, Option.some.injEq, List.length_map, List.nil_eq, and_false, false_and, AV.live, CV.live, CV.liveIn, firstReg, Option.orElse_some, Option.orElse_none, head, keepSlots, keepBoxes, Int.lt_irrefl, List.length_append, ite_self, memOK, logOps, opKey, lentBoxes, Key.clash, Key.sees, Key.writes, Nat.lt_irrefl, gt_iff_lt, nobox_at, bot_at, false_or, or_false, beq_self_eq_true, Bool.true_beq, Bool.false_beq, region0, K0_own, K0_P, hr, h0, d1, d2, hv, K0_good3, ev_conv_rune K0_rune K0_str, ht, ev_len_str K0_str]
        rw [exL_loop]
        rcases t with _ | ⟨a, _ | ⟨b, _ | ⟨d, _ | ⟨e, _ | ⟨e', t⟩⟩⟩⟩⟩
        · exact absurd e2 (by rw [List.length_nil]; omega)
        · exact absurd e2 (by rw [List.length_cons, List.length_nil]; omega)
        ·
          obtain rfl : b = c := by simpa using hl
          simp [exL_seq, exL_cond, exL_block, exL_scope, exL_ret, exL_skip, exL_exit, runRegion, runOps, stepOp, guardA, absOp, takeOver, opd, avOf, cvOf, St.degAt, St.put, okPV, okVal, okAV, absBin, intBin, strBin, boolBin, setBoxes, if_true, Bool.false_eq_true, if_false, Option.map_some, Option.map_none, Option.bind_some, Option.bind_none, thenO, outOf, upd, List.toList_toArray, isOwn, steal, appArgs, inApps, AV.deg, CV.deg, AV.gv, AV.isIter, absNext, some_bne, Nat.reduceLT, reduceIte, reduceCtorEq, Nat.reduceEqDiff, List.length_nil, List.length_cons, apply_ite (Option.map (outOf _)), List.filterMap_cons, List.filterMap_nil, beq_iff_eq, List.getElem?_cons_zero, List.getElem?_cons_succ, Option.getD_some, Nat.reduceBEq, Bool.false_and, Bool.and_false, Bool.and_self, absCall, doCall, getBoxes, lend, back, idx, dedup, AV.ren, CV.ren, TV.ren, AV.ptrs, CV.ptrs, zipBox, AV.flat, CV.flat, absLoad, absStore, cellsOfAV, setAt, newBox, markB, bldTypes, absFieldAddr, absField, absExtract, absAssert, noAssert, absMkIface, ifcOf, CV.pv?, content, pushHead, ownT, fillCells, reps, pvs, chunks, enterSt, leave, resOf, resVars, resVar, outBoxes, lentOnly, TV.deg, TV.av, LK, CV.plain, CV.noBld, nilBin, absUn, bound, List.map_cons, List.map_nil, List.all_cons, List.all_nil, List.any_cons, List.any_nil, List.contains_cons, List.contains_nil, List.elem_cons, List.elem_nil, List.cons_append, List.nil_append, List.append_nil, List.flatMap_cons, List.flatMap_nil, List.zip_cons_cons, List.zip_nil_left, List.zip_nil_right, List.take_succ_cons, List.take_zero, List.take_nil, List.drop_succ_cons, List.drop_zero, List.drop_nil, List.isEmpty_nil, List.isEmpty_cons, Bool.and_true, Bool.true_and, Bool.or_true, Bool.true_or, Bool.or_false, Bool.false_or, Bool.not_true, Bool.not_false, Nat.reduceAdd, Nat.reduceSub, Nat.reduceLeDiff, Nat.add_zero, Nat.zero_add, Nat.reduceMul, Option.isNone_none, Option.isNone_some, Option.getD_none, true_and, and_true, not_true_eq_false, not_false_eq_true, decide_true, decide_false, List.toList_toArray, Nat.le_refl, and_self, Bool.not_eq_true, Nat.sub_self, or_true, true_or, Option.some.injEq, List.length_map, List.nil_eq, and_false, false_and, AV.live, CV.live, CV.liveIn, firstReg, Option.orElse_some, Option.orElse_none, head, keepSlots, keepBoxes, Int.lt_irrefl, List.length_append, ite_self, memOK, logOps, opKey, lentBoxes, Key.clash, Key.sees, Key.writes, Nat.lt_irrefl, gt_iff_lt, nobox_at, bot_at, false_or, or_false, beq_self_eq_true, Bool.true_beq, Bool.false_beq, region0, K0_own, K0_keep, K0_keep5, K0_P, hr, K0_good4, ev_len_str K0_str, ev_index K0_str, ev_slice_str K0_str, w1, w2, w3, w4, y1, y2, n1, n2, hneg, reach, endsL]
        ·
          obtain rfl : d = c := by simpa using hl
          simp [exL_seq, exL_cond, exL_block, exL_scope, exL_ret, exL_skip, exL_exit, runRegion, runOps, stepOp, guardA, absOp, takeOver, opd, avOf, cvOf, St.degAt, St.put, okPV, okVal, okAV, absBin, intBin, strBin, boolBin, setBoxes, if_true, Bool.false_eq_true, if_false, Option.map_some, Option.map_none, Option.bind_some, Option.bind_none, thenO, outOf, upd, List.toList_toArray, isOwn, steal, appArgs, inApps, AV.deg, CV.deg, AV.gv, AV.isIter, absNext, some_bne, Nat.reduceLT, reduceIte, reduceCtorEq, Nat.reduceEqDiff, List.length_nil, List.length_cons, apply_ite (Option.map (outOf _)), List.filterMap_cons, List.filterMap_nil, beq_iff_eq, List.getElem?_cons_zero, List.getElem?_cons_succ, Option.getD_some, Nat.reduceBEq, Bool.false_and, Bool.and_false, Bool.and_self, absCall, doCall, getBoxes, lend, back, idx, dedup, AV.ren, CV.ren, TV.ren, AV.ptrs, CV.ptrs, zipBox, AV.flat, CV.flat, absLoad, absStore, cellsOfAV, setAt, newBox, markB, bldTypes, absFieldAddr, absField, absExtract, absAssert, noAssert, absMkIface, ifcOf, CV.pv?, content, pushHead, ownT, fillCells, reps, pvs, chunks, enterSt, leave, resOf, resVars, resVar, outBoxes, lentOnly, TV.deg, TV.av, LK, CV.plain, CV.noBld, nilBin, absUn, bound, List.map_cons, List.map_nil, List.all_cons, List.all_nil, List.any_cons, List.any_nil, List.contains_cons, List.contains_nil, List.elem_cons, List.elem_nil, List.cons_append, List.nil_append, List.append_nil, List.flatMap_cons, List.flatMap_nil, List.zip_cons_cons, List.zip_nil_left, List.zip_nil_right, List.take_succ_cons, List.take_zero, List.take_nil, List.drop_succ_cons, List.drop_zero, List.drop_nil, List.isEmpty_nil, List.isEmpty_cons, Bool.and_true, Bool.true_and, Bool.or_true, Bool.true_or, Bool.or_false, Bool.false_or, Bool.not_true, Bool.not_false, Nat.reduceAdd, Nat.reduceSub, Nat.reduceLeDiff, Nat.add_zero, Nat.zero_add, Nat.reduceMul, Option.isNone_none, Option.isNone_some, Option.getD_none, true_and, and_true, not_true_eq_false, not_false_eq_true, decide_true, decide_false, List.toList_toArray, Nat.le_refl, and_self, Bool.not_eq_true, Nat.sub_self, or_true, true_or, Option.some.injEq, List.length_map, List.nil_eq, and_false, false_and, AV.live, CV.live, CV.liveIn, firstReg, Option.orElse_some, Option.orElse_none, head, keepSlots, keepBoxes, Int.lt_irrefl, List.length_append, ite_self, memOK, logOps, opKey, lentBoxes, Key.clash, Key.sees, Key.writes, Nat.lt_irrefl, gt_iff_lt, nobox_at, bot_at, false_or, or_false, beq_self_eq_true, Bool.true_beq, Bool.false_beq, region0, K0_own, K0_keep, K0_keep5, K0_P, hr, K0_good4, ev_len_str K0_str, ev_index K0_str, ev_slice_str K0_str, w1, w2, w3, w4, y1, y2, n1, n2, hneg, reach, endsL]
        ·
          obtain rfl : e = c := by simpa using hl
          simp [exL_seq, exL_cond, exL_block, exL_scope, exL_ret, exL_skip, exL_exit, runRegion, runOps, stepOp, guardA, absOp, takeOver, opd, avOf, cvOf, St.degAt, St.put, okPV, okVal, okAV, absBin, intBin, strBin, boolBin, setBoxes, if_true, Bool.false_eq_true, if_false, Option.map_some, Option.map_none, Option.bind_some, Option.bind_none, thenO, outOf, upd, List.toList_toArray, isOwn, steal, appArgs, inApps, AV.deg, CV.deg, AV.gv, AV.isIter, absNext, some_bne, Nat.reduceLT, reduceIte, reduceCtorEq, Nat.reduceEqDiff, List.length_nil, List.length_cons, apply_ite (Option.map (outOf _)), List.filterMap_cons, List.filterMap_nil, beq_iff_eq, List.getElem?_cons_zero, List.getElem?_cons_succ, Option.getD_some, Nat.reduceBEq, Bool.false_and, Bool.and_false, Bool.and_self, absCall, doCall, getBoxes, lend, back, idx, dedup, AV.ren, CV.ren, TV.ren, AV.ptrs, CV.ptrs, zipBox, AV.flat, CV.flat, absLoad, absStore, cellsOfAV, setAt, newBox, markB, bldTypes, absFieldAddr, absField, absExtract, absAssert, noAssert, absMkIface, ifcOf, CV.pv?, content, pushHead, ownT, fillCells, reps, pvs, chunks, enterSt, leave, resOf, resVars, resVar, outBoxes, lentOnly, TV.deg, TV.av, LK, CV.plain, CV.noBld, nilBin, absUn, bound, List.map_cons, List.map_nil, List.all_cons, List.all_nil, List.any_cons, List.any_nil, List.contains_cons, List.contains_nil, List.elem_cons, List.elem_nil, List.cons_append, List.nil_append, List.append_nil, List.flatMap_cons, List.flatMap_nil, List.zip_cons_cons, List.zip_nil_left, List.zip_nil_right, List.take_succ_cons, List.take_zero, List.take_nil, List.drop_succ_cons, List.drop_zero, List.drop_nil, List.isEmpty_nil, List.isEmpty_cons, Bool.and_true, Bool.true_and, Bool.or_true, Bool.true_or, Bool.or_false, Bool.false_or, Bool.not_true, Bool.not_false, Nat.reduceAdd, Nat.reduceSub, Nat.reduceLeDiff, Nat.add_zero, Nat.zero_add, Nat.reduceMul, Option.isNone_none, Option.isNone_some, Option.getD_none, true_and, and_true, not_true_eq_false, not_false_eq_true, decide_true, decide_false, List.toList_toArray, Nat.le_refl, and_self, Bool.not_eq_true, Nat.sub_self, or_true, true_or, Option.some.injEq, List.length_map, List.nil_eq, and_false, false_and, AV.live, CV.live, CV.liveIn, firstReg, Option.orElse_some, Option.orElse_none, head, keepSlots, keepBoxes, Int.lt_irrefl, List.length_append, ite_self, memOK, logOps, opKey, lentBoxes, Key.clash, Key.sees, Key.writes, Nat.lt_irrefl, gt_iff_lt, nobox_at, bot_at, false_or, or_false, beq_self_eq_true, Bool.true_beq, Bool.false_beq, region0, K0_own, K0_keep, K0_keep5, K0_P, hr, K0_good4, ev_len_str K0_str, ev_index K0_str, ev_slice_str K0_str, w1, w2, w3, w4, y1, y2, n1, n2, hneg, reach, endsL]
        · exact absurd e4 (by simp only [List.length_cons]; omega)
end Go.Abs
namespace Go.Abs
open Go Go.Proofs
set_option maxRecDepth 10000
theorem decode_width (s : ByteArray) (pos : Nat) (h : pos < s.size) : pos + (Utf8.decode s pos).2 ≤ s.size := by
  simp only [Utf8.decode]
  repeat' split
  all_goals simp_all
  all_goals omega
theorem decode_bytes (s : ByteArray) (pos : Nat) (h : pos < s.size) (ha : 128 ≤ (s[pos]'h).toNat) : ∀ j, pos ≤ j → j < pos + (Utf8.decode s pos).2 → 128 ≤ (s.get! j).toNat := by
  have hn : ¬ (s[pos]'h).toNat < 128 := by omega
  have h0 : 128 ≤ (s.get! pos).toNat := by have := get_at s pos h; rw [Nat.add_zero] at this; rw [this]; exact ha
  intro j h1 h2
  obtain ⟨k, rfl⟩ : ∃ k, j = pos + k := ⟨j - pos, by omega⟩
  have h3 : k < (Utf8.decode s pos).2 := by omega
  clear h1 h2
  simp only [Utf8.decode, get_at s pos h, hn, if_false] at h3
  have key : k = 0 ∨ k = 1 ∧ (s.get! (pos + 1)).toNat / 64 = 2 ∨ k = 2 ∧ (s.get! (pos + 2)).toNat / 64 = 2 ∨ k = 3 ∧ (s.get! (pos + 3)).toNat / 64 = 2 := by
    revert h3
    repeat' split
    all_goals simp_all
    all_goals omega
  rcases key with rfl | ⟨rfl, e⟩ | ⟨rfl, e⟩ | ⟨rfl, e⟩
  · exact h0
  all_goals omega
/-- what is read at a place of a text -/
theorem decode_at (s : List UInt8) (pos : Nat) (h : pos < s.length) : ∃ (r wd : Nat), Utf8.decode ⟨s.toArray⟩ pos = (r, wd) ∧ 1 ≤ wd ∧ pos + wd ≤ s.length ∧ r ≤ 2147483647 ∧
    ((r < 128 ∧ wd = 1 ∧ ∃ b, s[pos]? = some b ∧ b.toNat = r) ∨ (128 ≤ r ∧ ∀ j b, pos ≤ j → j < pos + wd → s[j]? = some b → 128 ≤ b.toNat)) := by
  have hs : (⟨s.toArray⟩ : ByteArray).size = s.length := by simp [ByteArray.size]
  have hp : pos < (⟨s.toArray⟩ : ByteArray).size := by rw [hs]; exact h
  have hb : s[pos]? = some ((⟨s.toArray⟩ : ByteArray)[pos]'hp) := by
    rw [List.getElem?_eq_getElem h]; rfl
  have hw := decode_width ⟨s.toArray⟩ pos hp
  have hle := decode_le ⟨s.toArray⟩ pos
  rw [hs] at hw
  by_cases hc : ((⟨s.toArray⟩ : ByteArray)[pos]'hp).toNat < 128
  · have e := decode_ascii ⟨s.toArray⟩ pos hp hc
    refine ⟨_, _, e, Nat.le_refl _, by omega, by omega, .inl ⟨hc, rfl, _, hb, rfl⟩⟩
  · have e := decode_high ⟨s.toArray⟩ pos hp (by omega)
    refine ⟨_, _, rfl, e.2, hw, hle, .inr ⟨e.1, fun j b h1 h2 hj => ?_⟩⟩
    have h3 := decode_bytes ⟨s.toArray⟩ pos hp (by omega) j h1 h2
    have h4 : (⟨s.toArray⟩ : ByteArray).get! j = b := by
      have hlt : j < s.length := (List.getElem?_eq_some_iff.1 hj).1
      have := get_at ⟨s.toArray⟩ j (by rw [hs]; exact hlt)
      rw [Nat.add_zero] at this
      rw [this]
      rw [List.getElem?_eq_getElem hlt] at hj
      exact Option.some.inj hj
    rw [h4] at h3
    exact h3
theorem NoAny_more {s chars : List UInt8} {i j : Nat} (h : Lib.NoAny s chars i) (h2 : ∀ k b, i ≤ k → k < j → s[k]? = some b → chars.contains b = false) : Lib.NoAny s chars j := fun k b hk hb => by
  by_cases hki : k < i
  · exact h k b hki hb
  · exact h2 k b (by omega) hk hb
/-- the loop whose first region has a number -/
def findLoop0 (r : Nat) : Code → Option Code
  | .loop a => bif Nat.beq ((firstReg a).getD 0) r then some a else findLoop0 r a
  | .seq a b => (findLoop0 r a).orElse fun _ => findLoop0 r b
  | .cond _ a b => (findLoop0 r a).orElse fun _ => findLoop0 r b
  | .block _ a => findLoop0 r a
  | .scope a => findLoop0 r a
  | _ => none
def loopAt0 (fn : Func) (r : Nat) : Code := ((fn.body.bind (findLoop0 r))).getD .skip
abbrev anyH (s : List UInt8) (i : Nat) : St := { sl := upd (upd bot 45 (.c (.iter s i))) 1 (.c (.pv (.str endsL))), bx := nobox, nt := 55 }
theorem high_not {b : UInt8} (h : 128 ≤ b.toNat) : endsL.contains b = false := by
  cases hc : endsL.contains b
  · rfl
  · have : b ∈ endsL := by simpa using hc
    have : b = 10 ∨ b = 12 ∨ b = 13 := by simpa [endsL] using this
    rcases this with rfl | rfl | rfl <;> exact absurd h (by decide)
theorem any0_loop (s : List UInt8) (h8 : s.length ≤ 8) : ∀ (k i : Nat) (S : St), s.length - i ≤ k → i ≤ s.length → head ([1, 45], []) S = anyH s i → Lib.NoAny s endsL i →
    Ends (exL K0 67 (.loop (loopAt0 Tryd.f67 18)) S) fun o S => (o = .ret ∧ S.sl 4 = .c (.pv (.int .i64 (Lib.indexAny s endsL))) ∨ Lib.indexAny s endsL = -1 ∧ o = .exit 2) ∧ S.nt = 55 := by
  intro k
  induction k with
  | zero =>
    intro i S hk hi hS hno
    obtain rfl : i = s.length := by omega
    have e := Lib.indexAny_none hno
    conv in loopAt0 _ _ => whnf
    rw [exL_loop]
    simp only [firstReg, Option.orElse_some, Option.getD_some, K0_keep, K0_keep18, hS]
    simp only [exL_seq, exL_cond, exL_block, exL_scope, exL_ret, exL_skip, exL_exit, runRegion, runOps, stepOp, guardA, absOp, takeOver, opd, avOf, cvOf, St.degAt, St.put, okPV, okVal, okAV, absBin, intBin, strBin, boolBin, setBoxes, if_true, Bool.false_eq_true, if_false, Option.map_some, Option.map_none, Option.bind_some, Option.bind_none, thenO, outOf, upd, List.toList_toArray, isOwn, steal, appArgs, inApps, AV.deg, CV.deg, AV.gv, AV.isIter, absNext, some_bne, Nat.reduceLT, reduceIte, reduceCtorEq, Nat.reduceEqDiff, List.length_nil, List.length_cons, apply_ite (Option.map (outOf _)), List.filterMap_cons, List.filterMap_nil, beq_iff_eq, List.getElem?_cons_zero, List.getElem?_cons_succ, Option.getD_some, Nat.reduceBEq, Bool.false_and, Bool.and_false, Bool.and_self, absCall, doCall, getBoxes, lend, back, idx, dedup, AV.ren, CV.ren, TV.ren, AV.ptrs, CV.ptrs, zipBox, AV.flat, CV.flat, absLoad, absStore, cellsOfAV, setAt, newBox, markB, bldTypes, absFieldAddr, absField, absExtract, absAssert, noAssert, absMkIface, ifcOf, CV.pv?, content, pushHead, ownT, fillCells, reps, pvs, chunks, enterSt, leave, resOf, resVars, resVar, outBoxes, lentOnly, TV.deg, TV.av, LK, CV.plain, CV.noBld, nilBin, absUn, bound, List.map_cons, List.map_nil, List.all_cons, List.all_nil, List.any_cons, List.any_nil, List.contains_cons, List.contains_nil, List.elem_cons, List.elem_nil, List.cons_append, List.nil_append, List.append_nil, List.flatMap_cons, List.flatMap_nil, List.zip_cons_cons, List.zip_nil_left, List.zip_nil_right, List.take_succ_cons, List.take_zero, List.take_nil, List.drop_succ_cons, List.drop_zero, List.drop_nil, List.isEmpty_nil, List.isEmpty_cons, Bool.and_true, Bool.true_and, Bool.or_true, Bool.true_or, Bool.or_false, Bool.false_or, Bool.not_true, Bool.not_false, Nat.reduceAdd, Nat.reduceSub, Nat.reduceLeDiff, Nat.add_zero, Nat.zero_add, Nat.reduceMul, Option.isNone_none, Option.isNone_some, Option.getD_none, true_and, and_true, not_true_eq_false, not_false_eq_true, decide_true, decide_false, List.toList_toArray, Nat.le_refl, and_self, Bool.not_eq_true, Nat.sub_self, or_true, true_or, Option.some.injEq, List.length_map, List.nil_eq, and_false, false_and, AV.live, CV.live, CV.liveIn, firstReg, Option.orElse_some, Option.orElse_none, head, keepSlots, keepBoxes, Int.lt_irrefl, List.length_append, ite_self, memOK, logOps, opKey, lentBoxes, Key.clash, Key.sees, Key.writes, Nat.lt_irrefl, gt_iff_lt, nobox_at, bot_at, false_or, or_false, beq_self_eq_true, Bool.true_beq, Bool.false_beq, region0, K0_own, K0_keep, K0_P, ends_some, e]
  | succ k ih =>
    intro i S hk hi hS hno
    by_cases hlt : i < s.length
    case neg => exact ih i S (by omega) hi hS hno
    obtain ⟨r, wd, hd, hw1, hw2, hr, hcase⟩ := decode_at s i hlt
    have hit : iterNext s i = i + wd := by unfold iterNext; rw [hd]
    have hr0 : (0 : Int) ≤ (r : Int) ∧ (r : Int) ≤ 2147483647 := by omega
    have hru := rune0_den (r : Int) hr0
    obtain ⟨v, hv⟩ : ∃ v, (if (r : Int) < 128 then Lib.indexByte endsL (r : Int).toNat.toUInt8 else -1) = v := ⟨_, rfl⟩
    rw [hv] at hru
    have ih' := ih (i + wd)
    conv at ih' in loopAt0 _ _ => whnf
    conv in loopAt0 _ _ => whnf
    rw [exL_loop]
    simp only [firstReg, Option.orElse_some, Option.getD_some, K0_keep, K0_keep18, hS]
    cases hdec : decide (0 ≤ v)
    · have hno' : Lib.NoAny s endsL (i + wd) := by
        refine NoAny_more hno fun j b h1 h2 hj => ?_
        rcases hcase with ⟨hr1, rfl, b', hb', hbr⟩ | ⟨hr1, hall⟩
        · obtain rfl : j = i := by omega
          rw [hj] at hb'
          cases hb'
          rw [if_pos (by omega)] at hv
          have hback : ((r : Int)).toNat.toUInt8 = b := by rw [← hbr]; simp
          rw [hback] at hv
          rw [Lib.contains_iff_indexByte, hv, hdec]
        · exact high_not (hall j b h1 h2 hj)
      simp only [exL_seq, exL_cond, exL_block, exL_scope, exL_ret, exL_skip, exL_exit, runRegion, runOps, stepOp, guardA, absOp, takeOver, opd, avOf, cvOf, St.degAt, St.put, okPV, okVal, okAV, absBin, intBin, strBin, boolBin, setBoxes, if_true, Bool.false_eq_true, if_false, Option.map_some, Option.map_none, Option.bind_some, Option.bind_none, thenO, outOf, upd, List.toList_toArray, isOwn, steal, appArgs, inApps, AV.deg, CV.deg, AV.gv, AV.isIter, absNext, some_bne, Nat.reduceLT, reduceIte, reduceCtorEq, Nat.reduceEqDiff, List.length_nil, List.length_cons, apply_ite (Option.map (outOf _)), List.filterMap_cons, List.filterMap_nil, beq_iff_eq, List.getElem?_cons_zero, List.getElem?_cons_succ, Option.getD_some, Nat.reduceBEq, Bool.false_and, Bool.and_false, Bool.and_self, absCall, doCall, getBoxes, lend, back, idx, dedup, AV.ren, CV.ren, TV.ren, AV.ptrs, CV.ptrs, zipBox, AV.flat, CV.flat, absLoad, absStore, cellsOfAV, setAt, newBox, markB, bldTypes, absFieldAddr, absField, absExtract, absAssert, noAssert, absMkIface, ifcOf, CV.pv?, content, pushHead, ownT, fillCells, reps, pvs, chunks, enterSt, leave, resOf, resVars, resVar, outBoxes, lentOnly, TV.deg, TV.av, LK, CV.plain, CV.noBld, nilBin, absUn, bound, List.map_cons, List.map_nil, List.all_cons, List.all_nil, List.any_cons, List.any_nil, List.contains_cons, List.contains_nil, List.elem_cons, List.elem_nil, List.cons_append, List.nil_append, List.append_nil, List.flatMap_cons, List.flatMap_nil, List.zip_cons_cons, List.zip_nil_left, List.zip_nil_right, List.take_succ_cons, List.take_zero, List.take_nil, List.drop_succ_cons, List.drop_zero, List.drop_nil, List.isEmpty_nil, List.isEmpty_cons, Bool.and_true, Bool.true_and, Bool.or_true, Bool.true_or, Bool.or_false, Bool.false_or, Bool.not_true, Bool.not_false, Nat.reduceAdd, Nat.reduceSub, Nat.reduceLeDiff, Nat.add_zero, Nat.zero_add, Nat.reduceMul, Option.isNone_none, Option.isNone_some, Option.getD_none, true_and, and_true, not_true_eq_false, not_false_eq_true, decide_true, decide_false, List.toList_toArray, Nat.le_refl, and_self, Bool.not_eq_true, Nat.sub_self, or_true, true_or, Option.some.injEq, List.length_map, List.nil_eq, and_false, false_and, AV.live, CV.live, CV.liveIn, firstReg, Option.orElse_some, Option.orElse_none, head, keepSlots, keepBoxes, Int.lt_irrefl, List.length_append, ite_self, memOK, logOps, opKey, lentBoxes, Key.clash, Key.sees, Key.writes, Nat.lt_irrefl, gt_iff_lt, nobox_at, bot_at, false_or, or_false, beq_self_eq_true, Bool.true_beq, Bool.false_beq, region0, K0_own, K0_keep, K0_P, K0_good2, hlt, hd, hit, hru, hdec]
      refine ih' _ (by omega) hw2 ?_ hno'
      rfl
    · have hgo : Lib.indexAny s endsL = (i : Int) := by
        rcases hcase with ⟨hr1, rfl, b', hb', hbr⟩ | ⟨hr1, hall⟩
        · rw [if_pos (by omega)] at hv
          have hback : ((r : Int)).toNat.toUInt8 = b' := by rw [← hbr]; simp
          rw [hback] at hv
          exact Lib.indexAny_hit hno hb' (by rw [Lib.contains_iff_indexByte, hv, hdec])
        · rw [if_neg (by omega)] at hv
          rw [← hv] at hdec
          cases hdec
      simp only [exL_seq, exL_cond, exL_block, exL_scope, exL_ret, exL_skip, exL_exit, runRegion, runOps, stepOp, guardA, absOp, takeOver, opd, avOf, cvOf, St.degAt, St.put, okPV, okVal, okAV, absBin, intBin, strBin, boolBin, setBoxes, if_true, Bool.false_eq_true, if_false, Option.map_some, Option.map_none, Option.bind_some, Option.bind_none, thenO, outOf, upd, List.toList_toArray, isOwn, steal, appArgs, inApps, AV.deg, CV.deg, AV.gv, AV.isIter, absNext, some_bne, Nat.reduceLT, reduceIte, reduceCtorEq, Nat.reduceEqDiff, List.length_nil, List.length_cons, apply_ite (Option.map (outOf _)), List.filterMap_cons, List.filterMap_nil, beq_iff_eq, List.getElem?_cons_zero, List.getElem?_cons_succ, Option.getD_some, Nat.reduceBEq, Bool.false_and, Bool.and_false, Bool.and_self, absCall, doCall, getBoxes, lend, back, idx, dedup, AV.ren, CV.ren, TV.ren, AV.ptrs, CV.ptrs, zipBox, AV.flat, CV.flat, absLoad, absStore, cellsOfAV, setAt, newBox, markB, bldTypes, absFieldAddr, absField, absExtract, absAssert, noAssert, absMkIface, ifcOf, CV.pv?, content, pushHead, ownT, fillCells, reps, pvs, chunks, enterSt, leave, resOf, resVars, resVar, outBoxes, lentOnly, TV.deg, TV.av, LK, CV.plain, CV.noBld, nilBin, absUn, bound, List.map_cons, List.map_nil, List.all_cons, List.all_nil, List.any_cons, List.any_nil, List.contains_cons, List.contains_nil, List.elem_cons, List.elem_nil, List.cons_append, List.nil_append, List.append_nil, List.flatMap_cons, List.flatMap_nil, List.zip_cons_cons, List.zip_nil_left, List.zip_nil_right, List.take_succ_cons, List.take_zero, List.take_nil, List.drop_succ_cons, List.drop_zero, List.drop_nil, List.isEmpty_nil, List.isEmpty_cons, Bool.and_true, Bool.true_and, Bool.or_true, Bool.true_or, Bool.or_false, Bool.false_or, Bool.not_true, Bool.not_false, Nat.reduceAdd, Nat.reduceSub, Nat.reduceLeDiff, Nat.add_zero, Nat.zero_add, Nat.reduceMul, Option.isNone_none, Option.isNone_some, Option.getD_none, true_and, and_true, not_true_eq_false, not_false_eq_true, decide_true, decide_false, List.toList_toArray, Nat.le_refl, and_self, Bool.not_eq_true, Nat.sub_self, or_true, true_or, Option.some.injEq, List.length_map, List.nil_eq, and_false, false_and, AV.live, CV.live, CV.liveIn, firstReg, Option.orElse_some, Option.orElse_none, head, keepSlots, keepBoxes, Int.lt_irrefl, List.length_append, ite_self, memOK, logOps, opKey, lentBoxes, Key.clash, Key.sees, Key.writes, Nat.lt_irrefl, gt_iff_lt, nobox_at, bot_at, false_or, or_false, beq_self_eq_true, Bool.true_beq, Bool.false_beq, region0, K0_own, K0_keep, K0_P, K0_good2, hlt, hd, hit, hru, hdec, ends_some, hgo]
theorem any0_den (s : List UInt8) (h8 : s.length ≤ 8) : den K0 67 [.c (.pv (.str s)), .c (.pv (.str endsL))] [] = some (.ret (.c (.pv (.int .i64 (Lib.indexAny s endsL)))) []) := by
  have hr : Tryd.f67.results = #[.tmp 4] := rfl
  have hu := use0_den (s.length : Int)
  have h8d : decide ((8 : Int) < (s.length : Int)) = false := decide_eq_false (by omega)
  rw [h8d] at hu
  have hloop := any0_loop s h8 s.length 0
  conv at hloop in loopAt0 _ _ => whnf
  refine den_run0 rfl Tryd.func67 rfl Tryd.ntmps67 ⟨by simp, by simp [LK]⟩ ?_
  have e0 : (endsL == []) = false := by decide
  have e1 : (((3 : Nat) : Int) == 1) = false := by decide
  simp only [exL_seq, exL_cond, exL_block, exL_scope, exL_ret, exL_skip, exL_exit, runRegion, runOps, stepOp, guardA, absOp, takeOver, opd, avOf, cvOf, St.degAt, St.put, okPV, okVal, okAV, absBin, intBin, strBin, boolBin, setBoxes, if_true, Bool.false_eq_true, if_false, Option.map_some, Option.map_none, Option.bind_some, Option.bind_none, thenO, outOf, upd, List.toList_toArray, isOwn, steal, appArgs, inApps, AV.deg, CV.deg, AV.gv, AV.isIter, absNext, some_bne, Nat.reduceLT, reduceIte, reduceCtorEq, Nat.reduceEqDiff, List.length_nil, List.length_cons, apply_ite (Option.map (outOf _)), List.filterMap_cons, List.filterMap_nil, beq_iff_eq, List.getElem?_cons_zero, List.getElem?_cons_succ, Option.getD_some, Nat.reduceBEq, Bool.false_and, Bool.and_false, Bool.and_self, absCall, doCall, getBoxes, lend, back, idx, dedup, AV.ren, CV.ren, TV.ren, AV.ptrs, CV.ptrs, zipBox, AV.flat, CV.flat, absLoad, absStore, cellsOfAV, setAt, newBox, markB, bldTypes, absFieldAddr, absField, absExtract, absAssert, noAssert, absMkIface, ifcOf, CV.pv?, content, pushHead, ownT, fillCells, reps, pvs, chunks, enterSt, leave, resOf, resVars, resVar, outBoxes, lentOnly, TV.deg, TV.av, LK, CV.plain, CV.noBld, nilBin, absUn, bound, List.map_cons, List.map_nil, List.all_cons, List.all_nil, List.any_cons, List.any_nil, List.contains_cons, List.contains_nil, List.elem_cons, List.elem_nil, List.cons_append, List.nil_append, List.append_nil, List.flatMap_cons, List.flatMap_nil, List.zip_cons_cons, List.zip_nil_left, List.zip_nil_right, List.take_succ_cons, List.take_zero, List.take_nil, List.drop_succ_cons, List.drop_zero, List.drop_nil, List.isEmpty_nil, List.isEmpty_cons, Bool.and_true, Bool.true_and, Bool.or_true, Bool.true_or, Bool.or_false, Bool.false_or, Bool.not_true, Bool.not_false, Nat.reduceAdd, Nat.reduceSub, Nat.reduceLeDiff, Nat.add_zero, Nat.zero_add, Nat.reduceMul, Option.isNone_none, Option.isNone_some, Option.getD_none, true_and, and_true, not_true_eq_false, not_false_eq_true, decide_true, decide_false, List.toList_toArray, Nat.le_refl, and_self, Bool.not_eq_true, Nat.sub_self, or_true, true_or, Option.some.injEq, List.length_map, List.nil_eq, and_false, false_and, AV.live, CV.live, CV.liveIn, firstReg, Option.orElse_some, Option.orElse_none, head, keepSlots, keepBoxes, Int.lt_irrefl, List.length_append, ite_self, memOK, logOps, opKey, lentBoxes, Key.clash, Key.sees, Key.writes, Nat.lt_irrefl, gt_iff_lt, nobox_at, bot_at, false_or, or_false, beq_self_eq_true, Bool.true_beq, Bool.false_beq, region0, K0_own, K0_keep, K0_P, K0_good1, hr, hu, ev_len_str K0_str, ev_range K0_str, e0, e1]
  obtain ⟨o, S', e, hq, hn⟩ := hloop (anyH s 0) (by omega) (Nat.zero_le _) rfl (Lib.NoAny.zero _ _)
  rw [exL_loop] at e ⊢
  simp only [firstReg, Option.orElse_some, Option.getD_some, K0_keep, K0_keep18] at e ⊢
  rw [show head ([1, 45], []) (anyH s 0) = anyH s 0 from rfl] at e
  simp only [head, keepSlots, keepBoxes, upd, AV.live, CV.live, reduceIte, Nat.reduceEqDiff]
  erw [e]
  rcases hq with ⟨rfl, hv⟩ | ⟨hv, rfl⟩
  · simp only [exL_seq, exL_cond, exL_block, exL_scope, exL_ret, exL_skip, exL_exit, runRegion, runOps, stepOp, guardA, absOp, takeOver, opd, avOf, cvOf, St.degAt, St.put, okPV, okVal, okAV, absBin, intBin, strBin, boolBin, setBoxes, if_true, Bool.false_eq_true, if_false, Option.map_some, Option.map_none, Option.bind_some, Option.bind_none, thenO, outOf, upd, List.toList_toArray, isOwn, steal, appArgs, inApps, AV.deg, CV.deg, AV.gv, AV.isIter, absNext, some_bne, Nat.reduceLT, reduceIte, reduceCtorEq, Nat.reduceEqDiff, List.length_nil, List.length_cons, apply_ite (Option.map (outOf _)), List.filterMap_cons, List.filterMap_nil, beq_iff_eq, List.getElem?_cons_zero, List.getElem?_cons_succ, Option.getD_some, Nat.reduceBEq, Bool.false_and, Bool.and_false, Bool.and_self, absCall, doCall, getBoxes, lend, back, idx, dedup, AV.ren, CV.ren, TV.ren, AV.ptrs, CV.ptrs, zipBox, AV.flat, CV.flat, absLoad, absStore, cellsOfAV, setAt, newBox, markB, bldTypes, absFieldAddr, absField, absExtract, absAssert, noAssert, absMkIface, ifcOf, CV.pv?, content, pushHead, ownT, fillCells, reps, pvs, chunks, enterSt, leave, resOf, resVars, resVar, outBoxes, lentOnly, TV.deg, TV.av, LK, CV.plain, CV.noBld, nilBin, absUn, bound, List.map_cons, List.map_nil, List.all_cons, List.all_nil, List.any_cons, List.any_nil, List.contains_cons, List.contains_nil, List.elem_cons, List.elem_nil, List.cons_append, List.nil_append, List.append_nil, List.flatMap_cons, List.flatMap_nil, List.zip_cons_cons, List.zip_nil_left, List.zip_nil_right, List.take_succ_cons, List.take_zero, List.take_nil, List.drop_succ_cons, List.drop_zero, List.drop_nil, List.isEmpty_nil, List.isEmpty_cons, Bool.and_true, Bool.true_and, Bool.or_true, Bool.true_or, Bool.or_false, Bool.false_or, Bool.not_true, Bool.not_false, Nat.reduceAdd, Nat.reduceSub, Nat.reduceLeDiff, Nat.add_zero, Nat.zero_add, Nat.reduceMul, Option.isNone_none, Option.isNone_some, Option.getD_none, true_and, and_true, not_true_eq_false, not_false_eq_true, decide_true, decide_false, List.toList_toArray, Nat.le_refl, and_self, Bool.not_eq_true, Nat.sub_self, or_true, true_or, Option.some.injEq, List.length_map, List.nil_eq, and_false, false_and, AV.live, CV.live, CV.liveIn, firstReg, Option.orElse_some, Option.orElse_none, head, keepSlots, keepBoxes, Int.lt_irrefl, List.length_append, ite_self, memOK, logOps, opKey, lentBoxes, Key.clash, Key.sees, Key.writes, Nat.lt_irrefl, gt_iff_lt, nobox_at, bot_at, false_or, or_false, beq_self_eq_true, Bool.true_beq, Bool.false_beq, region0, K0_own, K0_keep, K0_P, hr, hv]
  · simp only [exL_seq, exL_cond, exL_block, exL_scope, exL_ret, exL_skip, exL_exit, runRegion, runOps, stepOp, guardA, absOp, takeOver, opd, avOf, cvOf, St.degAt, St.put, okPV, okVal, okAV, absBin, intBin, strBin, boolBin, setBoxes, if_true, Bool.false_eq_true, if_false, Option.map_some, Option.map_none, Option.bind_some, Option.bind_none, thenO, outOf, upd, List.toList_toArray, isOwn, steal, appArgs, inApps, AV.deg, CV.deg, AV.gv, AV.isIter, absNext, some_bne, Nat.reduceLT, reduceIte, reduceCtorEq, Nat.reduceEqDiff, List.length_nil, List.length_cons, apply_ite (Option.map (outOf _)), List.filterMap_cons, List.filterMap_nil, beq_iff_eq, List.getElem?_cons_zero, List.getElem?_cons_succ, Option.getD_some, Nat.reduceBEq, Bool.false_and, Bool.and_false, Bool.and_self, absCall, doCall, getBoxes, lend, back, idx, dedup, AV.ren, CV.ren, TV.ren, AV.ptrs, CV.ptrs, zipBox, AV.flat, CV.flat, absLoad, absStore, cellsOfAV, setAt, newBox, markB, bldTypes, absFieldAddr, absField, absExtract, absAssert, noAssert, absMkIface, ifcOf, CV.pv?, content, pushHead, ownT, fillCells, reps, pvs, chunks, enterSt, leave, resOf, resVars, resVar, outBoxes, lentOnly, TV.deg, TV.av, LK, CV.plain, CV.noBld, nilBin, absUn, bound, List.map_cons, List.map_nil, List.all_cons, List.all_nil, List.any_cons, List.any_nil, List.contains_cons, List.contains_nil, List.elem_cons, List.elem_nil, List.cons_append, List.nil_append, List.append_nil, List.flatMap_cons, List.flatMap_nil, List.zip_cons_cons, List.zip_nil_left, List.zip_nil_right, List.take_succ_cons, List.take_zero, List.take_nil, List.drop_succ_cons, List.drop_zero, List.drop_nil, List.isEmpty_nil, List.isEmpty_cons, Bool.and_true, Bool.true_and, Bool.or_true, Bool.true_or, Bool.or_false, Bool.false_or, Bool.not_true, Bool.not_false, Nat.reduceAdd, Nat.reduceSub, Nat.reduceLeDiff, Nat.add_zero, Nat.zero_add, Nat.reduceMul, Option.isNone_none, Option.isNone_some, Option.getD_none, true_and, and_true, not_true_eq_false, not_false_eq_true, decide_true, decide_false, List.toList_toArray, Nat.le_refl, and_self, Bool.not_eq_true, Nat.sub_self, or_true, true_or, Option.some.injEq, List.length_map, List.nil_eq, and_false, false_and, AV.live, CV.live, CV.liveIn, firstReg, Option.orElse_some, Option.orElse_none, head, keepSlots, keepBoxes, Int.lt_irrefl, List.length_append, ite_self, memOK, logOps, opKey, lentBoxes, Key.clash, Key.sees, Key.writes, Nat.lt_irrefl, gt_iff_lt, nobox_at, bot_at, false_or, or_false, beq_self_eq_true, Bool.true_beq, Bool.false_beq, region0, K0_own, K0_keep, K0_P, hr, hv, hn]
end Go.Abs
namespace Go.Abs
open Go Go.Proofs Go.RowKit
def pIndexAny : Prim
  | [.c (.pv (.str s)), .c (.pv (.str p))], [] => if p = [10, 12, 13] ∧ s.length < 4294967281 then some (.c (.pv (.int .i64 (Lib.indexAny s p))), []) else none
  | _, _ => none
def goodB0 (P : Program) (f : Nat) : Bool :=
  match P.funcs[f]? with
  | some fn => fn.name != "runtime.NumGoroutine" && (match fn.body with | some c => codeOK (fun _ => false) c | none => false)
  | none => false
theorem goods0_ok : [67, 73, 72, 81, 45].all (goodB0 Tryd.prog) = true := by kernel_rfl
theorem K0_prog : Prog K0 := by
  refine ⟨by kernel_rfl, fun g hg => ?_, fun f F args bxs x _ hF hx => ?_, fun f F args bxs r call _ hF => by cases hF⟩
  · have h1 : g ∈ [67, 73, 72, 81, 45] := by simpa [K0] using hg
    have h2 := List.all_eq_true.1 goods0_ok g h1
    unfold goodB0 at h2
    split at h2
    · rename_i fn hfn
      simp only [Bool.and_eq_true] at h2
      obtain ⟨h3, h4⟩ := h2
      split at h4
      · rename_i c hc
        exact ⟨fn, c, hfn, by simpa using h3, hc, h4⟩
      · cases h4
    · cases h2
  · have h2 : pr0 f = some F := hF
    unfold pr0 at h2
    split at h2
    · rename_i hf
      cases h2
      have : f = 45 := by simpa using hf
      subst this
      exact pIndexByte_ok hx
    · cases h2
theorem h116 : (Tryd.prog.info? 106).map (fun i => (i.zero, i.size)) = some (some (.agg (Array.replicate 256 (.bool false))), 256) := by kernel_rfl
theorem pIndexAny_ok {args : List AV} {bxs : List (List CV)} {x : AV × List (List CV)} (h : pIndexAny args bxs = some x) : Contract Tryd.prog 67 args bxs (.ret x.1 x.2) := by
  unfold pIndexAny at h
  split at h
  case h_2 => cases h
  rename_i s p
  split at h
  case isFalse => cases h
  rename_i hs
  cases h
  obtain ⟨rfl, hs⟩ := hs
  by_cases h8 : s.length ≤ 8
  · exact den_ok K0_prog (by rfl) (any0_den s h8)
  · refine contract_data fun G w cargs hw hargs => ?_
    obtain ⟨x, y, rfl, hx, hy⟩ := args_two hargs
    cases hx.strv
    cases hy.strv
    have hsz : (⟨s.toArray⟩ : ByteArray).size = s.length := by simp [ByteArray.size]
    refine (Tryd.strings_IndexAny_long (zero_of_info h116).1 ⟨s.toArray⟩ ⟨([10, 12, 13] : List UInt8).toArray⟩ w (by decide) (by rw [hsz]; omega) (by rw [hsz]; exact hs) (by decide) ?_).mono ?_
    · intro j b hb
      have : b ∈ ([10, 12, 13] : List UInt8) := List.mem_of_getElem? hb
      have : b = 10 ∨ b = 12 ∨ b = 13 := by simpa using this
      rcases this with rfl | rfl | rfl <;> decide
    · rintro e w' ⟨rfl, rfl⟩
      exact ⟨_, rfl, .int _ _, ((Below.refl _ _).alloc (Nat.le_refl _) _).alloc (by simp) _⟩
end Go.Abs
namespace Go.Abs
open Go Go.Proofs
def keepL : List (Nat × Nat × List Nat × List Nat) := [
  (21, 2, [3], [6]),
  (25, 3, [0, 3, 6, 7, 8], [3]),
  (53, 5, [5, 15, 16, 17], []),
  (48, 2, [0, 1, 2, 7], [100000]),
  (52, 6, [0, 2, 3, 4, 29], [100000]),
  (65, 15, [0, 1, 5, 6, 7, 8, 9, 10], []),
  (67, 12, [0, 6, 8], [6]),
  (67, 18, [1, 45], []),
  (78, 1, [0, 1, 4], []),
  (79, 11, [0, 1, 3, 4, 10, 11, 12, 13, 14, 15, 16], [12]),
  (79, 18, [0, 1, 3, 4, 10, 11, 12, 13, 17], [12]),
  (71, 5, [0, 1, 5, 6, 7, 8, 9], []),
  (71, 11, [0, 1, 5, 6, 7, 8, 10], []),
  (72, 5, [0, 7, 8, 9], []),
  (72, 12, [0, 7, 8, 9, 12], []),
  (72, 25, [0, 7, 8, 9, 14, 15], []),
  (72, 29, [0, 7, 8, 9, 14, 15, 16], []),
  (72, 38, [175], []),
  (74, 2, [0, 2, 4], [2]),
  (80, 3, [0, 4, 5], []),
  (80, 8, [4, 6, 7, 8], []),
  (9, 4, [0, 1, 5], []),
  (26, 3, [3, 8, 9, 10], []),
  (16, 4, [0, 1, 2, 7], []),
  (30, 2, [0, 1, 2, 7], [100000, 100001]),
  (11, 1, [0], []),
  (11, 3, [0], []),
  (10, 4, [0, 1, 5], []),
  (15, 3, [1, 5, 8, 9, 10], []),
  (3, 6, [0, 3, 4, 5], []),
  (3, 13, [0, 3, 4, 6, 7], []),
  (1000000, 0, [], [])]
def keepF (f r : Nat) : List Nat × List Nat := match keepL.find? (fun x => x.1 == f && x.2.1 == r) with | some x => x.2.2 | none => ([], [])
def prL : List (Nat × Prim) := [
  (43, pHasPrefix),
  (45, pIndexByte),
  (59, pIndex),
  (67, pIndexAny),
  (55, pItoa),
  (54, pCopyCheck),
  (36, pString),
  (37, pPairs),
  (56, pOpens),
  (20, pParse),
  (19, pClone),
  (13, pAt),
  (7, pWords),
  (1000000, fun _ _ => none)]
def prF (f : Nat) : Option Prim := (prL.find? (fun x => x.1 == f)).map (·.2)
/-- functions that are walked by hand, and call others -/
def hpL : List (Nat × (List AV → List (List CV) → Plan)) := [
  (1000000, fun _ _ => .fail)]
def hpF (f : Nat) : Option (List AV → List (List CV) → Plan) := (hpL.find? (fun x => x.1 == f)).map (·.2)
/-- regions 'x.f = append(x.f, y[i])' whose order is drawn -/
def hookB (f i : Nat) : Bool := f == 1000000 && i == 6
def ownB (f : Nat) : Bool := f == 37
def goodB (P : Program) (f : Nat) : Bool :=
  match P.funcs[f]? with
  | some fn => fn.name != "runtime.NumGoroutine" && (match fn.body with | some c => codeOK (hookB f) c | none => false)
  | none => false
/-- which functions may be met -/
def goods : List Nat := [3, 4, 5, 6, 7, 8, 9, 10, 11, 12, 13, 14, 15, 16, 17, 18, 19, 20, 21, 22, 23, 24, 25, 26, 27, 28, 29, 30, 31, 32, 33, 34, 35, 36, 37, 38, 39, 40, 41, 42, 43, 44, 45, 46, 47, 48, 49, 50, 51, 52, 53, 54, 55, 56, 57, 58, 59, 60, 61, 62, 64, 65, 67, 68, 70, 71, 72, 73, 74, 75, 76, 77, 78, 79, 80, 81, 82, 83, 84, 85, 86, 87, 88]
theorem goods_ok : goods.all (goodB Tryd.prog) = true := by kernel_rfl
noncomputable def K : Cfg := { P := Tryd.prog, pr := prF, keep := keepF, ownRet := ownB, good := goods.contains, hook := hookB, hp := hpF }
theorem K_prog : Prog K := by
  refine ⟨by kernel_rfl, fun g hg => ?_, fun f F args bxs x _ hF hx => ?_, fun f F args bxs r call _ hF hc hr => ?_⟩
  · have h1 : g ∈ goods := by simpa [K] using hg
    have h2 := List.all_eq_true.1 goods_ok g h1
    unfold goodB at h2
    split at h2
    · rename_i fn hfn
      simp only [Bool.and_eq_true] at h2
      obtain ⟨h3, h4⟩ := h2
      split at h4
      · rename_i c hc
        exact ⟨fn, c, hfn, by simpa using h3, hc, h4⟩
      · cases h4
    · cases h2
  · have h1 : ∀ y ∈ prL, ∀ args bxs x, y.2 args bxs = some x → Contract Tryd.prog y.1 args bxs (.ret x.1 x.2) := by
      intro y hy
      simp only [prL, List.mem_cons, List.not_mem_nil, or_false] at hy
      repeat' (first | (rcases hy with rfl | hy) | (cases hy))
      all_goals first
        | exact fun _ _ _ h => pContains_ok h
        | exact fun _ _ _ h => pHasPrefix_ok h
        | exact fun _ _ _ h => pIndexByte_ok h
        | exact fun _ _ _ h => pIndex_ok h
        | exact fun _ _ _ h => pIndexAny_ok h
        | exact fun _ _ _ h => pItoa_ok h
        | exact fun _ _ _ h => pJoin_ok h
        | exact fun _ _ _ h => pCopyCheck_ok h
        | exact fun _ _ _ h => pString_ok h
        | exact fun _ _ _ h => pLow_ok h
        | exact fun _ _ _ h => pPairs_ok h
        | exact fun _ _ _ h => pOpens_ok h
        | exact fun _ _ _ h => pParse_ok h
        | exact fun _ _ _ h => pClone_ok h
        | exact fun _ _ _ h => pAt_ok h
        | exact fun _ _ _ h => pWords_ok h
        | exact fun _ _ _ h => by cases h
    have h2 : prF f = some F := hF
    unfold prF at h2
    rw [Option.map_eq_some_iff] at h2
    obtain ⟨y, hy, rfl⟩ := h2
    have h3 := List.mem_of_find?_eq_some hy
    have h4 : y.1 = f := by simpa using List.find?_some hy
    rw [← h4]
    exact h1 y h3 args bxs x hx
  · have h1 : ∀ y ∈ hpL, ∀ args bxs r, (y.2 args bxs).run call = some r → Contract Tryd.prog y.1 args bxs r := by
      intro y hy
      simp only [hpL, List.mem_cons, List.not_mem_nil, or_false] at hy
      repeat' (first | (rcases hy with rfl | hy) | (cases hy))
      all_goals first
        | exact fun _ _ _ h => by cases h
    have h2 : hpF f = some F := hF
    unfold hpF at h2
    rw [Option.map_eq_some_iff] at h2
    obtain ⟨y, hy, rfl⟩ := h2
    have h3 := List.mem_of_find?_eq_some hy
    have h4 : y.1 = f := by simpa using List.find?_some hy
    rw [← h4]
    exact h1 y h3 args bxs r hr
end Go.Abs
namespace Go.Abs
open Go Go.Proofs
theorem ty_shapeT_3 : shapeT Tryd.prog 3 = Option.some Option.none := by kernel_rfl
theorem ty_szOf_3 : szOf Tryd.prog 3 = Option.some 1 := by kernel_rfl
theorem ty_descOf_3 : descOf Tryd.prog 3 = Option.some (Go.Abs.Desc.int Go.IntKind.i64) := by kernel_rfl
theorem ty_shapeT_9 : shapeT Tryd.prog 9 = Option.some Option.none := by kernel_rfl
theorem ty_szOf_9 : szOf Tryd.prog 9 = Option.some 1 := by kernel_rfl
theorem ty_descOf_9 : descOf Tryd.prog 9 = Option.some Go.Abs.Desc.str := by kernel_rfl
theorem ty_shapeT_22 : shapeT Tryd.prog 22 = Option.some Option.none := by kernel_rfl
theorem ty_szOf_22 : szOf Tryd.prog 22 = Option.some 1 := by kernel_rfl
theorem ty_appInfo_22 : appInfo Tryd.prog 22 = Option.some (31, 5) := by kernel_rfl
theorem ty_descOf_22 : descOf Tryd.prog 22 = Option.some (Go.Abs.Desc.sl 31 Bool.false) := by kernel_rfl
theorem ty_descOf_25 : descOf Tryd.prog 25 = Option.some (Go.Abs.Desc.sl 22 Bool.false) := by kernel_rfl
theorem ty_shapeT_29 : shapeT Tryd.prog 29 = Option.some (Option.some 3) := by kernel_rfl
theorem ty_szOf_29 : szOf Tryd.prog 29 = Option.some 3 := by kernel_rfl
theorem ty_zeroCells_29 : zeroCells Tryd.prog 29 = Option.some [Go.Abs.CV.pv (Go.Abs.PV.int Go.IntKind.i64 0), Go.Abs.CV.pv (Go.Abs.PV.str []), Go.Abs.CV.pv (Go.Abs.PV.int Go.IntKind.i64 0)] := by kernel_rfl
theorem ty_placesOf_29 : placesOf Tryd.prog 29 = Option.some [(0, 1), (1, 1), (2, 1)] := by kernel_rfl
theorem ty_fieldOff_29_0 : fieldOff Tryd.prog 29 0 = Option.some (0, 3) := by kernel_rfl
theorem ty_fieldOff_29_1 : fieldOff Tryd.prog 29 1 = Option.some (1, 9) := by kernel_rfl
theorem ty_shapeT_31 : shapeT Tryd.prog 31 = Option.some (Option.some 5) := by kernel_rfl
theorem ty_szOf_31 : szOf Tryd.prog 31 = Option.some 5 := by kernel_rfl
theorem ty_zeroCells_31 : zeroCells Tryd.prog 31 = Option.some [Go.Abs.CV.pv (Go.Abs.PV.int Go.IntKind.i64 0), Go.Abs.CV.pv (Go.Abs.PV.int Go.IntKind.i64 0), Go.Abs.CV.pv (Go.Abs.PV.str []), Go.Abs.CV.pv (Go.Abs.PV.int Go.IntKind.i64 0), Go.Abs.CV.nils] := by kernel_rfl
theorem ty_placesOf_31 : placesOf Tryd.prog 31 = Option.some [(0, 1), (1, 3), (4, 1)] := by kernel_rfl
theorem ty_fieldOff_31_0 : fieldOff Tryd.prog 31 0 = Option.some (0, 3) := by kernel_rfl
theorem ty_fieldOff_31_1 : fieldOff Tryd.prog 31 1 = Option.some (1, 29) := by kernel_rfl
theorem ty_fieldOff_31_2 : fieldOff Tryd.prog 31 2 = Option.some (4, 22) := by kernel_rfl
theorem ty_shapeT_47 : shapeT Tryd.prog 47 = Option.some Option.none := by kernel_rfl
theorem ty_szOf_47 : szOf Tryd.prog 47 = Option.some 1 := by kernel_rfl
theorem ty_descOf_47 : descOf Tryd.prog 47 = Option.some (Go.Abs.Desc.sl 29 Bool.false) := by kernel_rfl
theorem ty_zeroCells_55 : zeroCells Tryd.prog 55 = Option.some [] := by kernel_rfl
theorem ty_placesOf_55 : placesOf Tryd.prog 55 = Option.some [] := by kernel_rfl
theorem ty_concreteT_55 : concreteT Tryd.prog 55 = Bool.true := by kernel_rfl
theorem ty_fieldOff_59_0 : fieldOff Tryd.prog 59 0 = Option.some (0, 47) := by kernel_rfl
theorem ty_fieldOff_59_1 : fieldOff Tryd.prog 59 1 = Option.some (1, 3) := by kernel_rfl
theorem ty_szOf_78 : szOf Tryd.prog 78 = Option.some 2 := by kernel_rfl
theorem ty_zeroCells_78 : zeroCells Tryd.prog 78 = Option.some [Go.Abs.CV.pv (Go.Abs.PV.str []), Go.Abs.CV.pv (Go.Abs.PV.str [])] := by kernel_rfl
theorem ty_fieldOff_78_1 : fieldOff Tryd.prog 78 1 = Option.some (1, 9) := by kernel_rfl
theorem ty_isPtrT_83 : isPtrT Tryd.prog 83 = Bool.true := by kernel_rfl
theorem good_5 : K.good 5 = true := by kernel_rfl
theorem good_6 : K.good 6 = true := by kernel_rfl
theorem good_7 : K.good 7 = true := by kernel_rfl
theorem good_8 : K.good 8 = true := by kernel_rfl
theorem good_9 : K.good 9 = true := by kernel_rfl
theorem good_10 : K.good 10 = true := by kernel_rfl
theorem good_11 : K.good 11 = true := by kernel_rfl
theorem good_16 : K.good 16 = true := by kernel_rfl
theorem good_18 : K.good 18 = true := by kernel_rfl
theorem good_19 : K.good 19 = true := by kernel_rfl
theorem good_37 : K.good 37 = true := by kernel_rfl
theorem good_38 : K.good 38 = true := by kernel_rfl
theorem keep_9_4 : keepF 9 4 = ([0, 1, 5], []) := by kernel_rfl
theorem keep_16_4 : keepF 16 4 = ([0, 1, 2, 7], []) := by kernel_rfl
theorem keep_11_1 : keepF 11 1 = ([0], []) := by kernel_rfl
theorem keep_11_3 : keepF 11 3 = ([0], []) := by kernel_rfl
theorem keep_10_4 : keepF 10 4 = ([0, 1, 5], []) := by kernel_rfl
end Go.Abs
namespace Go.Abs
namespace Sl
def isSign (s : List UInt8) : Val → Bool
  | .mk k t _ => k == 1 && decide (t = ⟨7, s, 0⟩)
def isBlank : Val → Bool
  | .mk k t _ => k == 1 && t.kind == 8
def trim (l : List Val) : List Val := ((l.dropWhile isBlank).reverse.dropWhile isBlank).reverse
def few (n : Int) : Prop := -9999 ≤ n ∧ n ≤ 9999
instance (n : Int) : Decidable (few n) := by unfold few; infer_instance
def hoverT : List UInt8 := [104, 111, 118, 101, 114]
def focusT : List UInt8 := [102, 111, 99, 117, 115]
def activeT : List UInt8 := [97, 99, 116, 105, 118, 101]
def checkedT : List UInt8 := [99, 104, 101, 99, 107, 101, 100]
def isState (s : List UInt8) : Prop := s = hoverT ∨ s = focusT ∨ s = activeT ∨ s = checkedT
instance (s : List UInt8) : Decidable (isState s) := by unfold isState; infer_instance
def over : List Val → Bool
  | [] => true
  | v :: _ => isBlank v || isSign [62] v || isSign [43] v || isSign [126] v
/-- what stands between signs -/
def at_ (s : List UInt8) : List Val → List (List Val)
  | [] => [[]]
  | v :: l => if isSign s v then [] :: at_ s l else match at_ s l with
    | [] => [[v]]
    | p :: ps => (v :: p) :: ps
end Sl
end Go.Abs
namespace Go.Abs
open Go Go.Proofs
abbrev I (n : Int) : AV := .c (.pv (.int .i64 n))
abbrev T (l : List UInt8) : AV := .c (.pv (.str l))
abbrev B (b : Bool) : AV := .c (.pv (.bool b))
abbrev L (l : List (List PV)) : AV := .c (.pv (.sl l))
/-- the box that a caller lends first -/
abbrev P0 : AV := .c (.loc 100000 0)
theorem den_run {f : FuncId} {fn : Func} {x : Code} {nt : Nat} {args : List AV} {bxs : List (List CV)} {r : Res} (hp : prF f = none) (hh : hpF f = none) (hf : Tryd.prog.funcs[f]? = some fn) (hx : fn.body = some x) (hn : fn.ntmps = nt)
    (hl : args.length ≤ nt ∧ nt < LK) (h : (exL K f x (enterSt nt args bxs)).bind (fun r => leave K f fn bxs.length (some r)) = some r) : den K f args bxs = some r := by
  rw [den_eq (K := K) hp hh hf hx, hn, if_pos hl]
  exact h
theorem K_own (f : FuncId) (h : (f == 37) = false) : K.ownRet f = false := h
theorem K_ownP : K.ownRet 37 = true := rfl
theorem K_hook (f i : Nat) : K.hook f i = hookB f i := rfl
theorem K_P : K.P = Tryd.prog := rfl
theorem K_keep (f r : Nat) : K.keep f r = keepF f r := rfl
/-- a run of one primitive -/
theorem prim_run {f : FuncId} {F : Prim} {args : List AV} {bxs cs : List (List CV)} {v : AV} (h : prF f = some F) (hF : F args bxs = some (v, cs)) : den K f args bxs = some (.ret v cs) := by
  rw [den_prim (K := K) h, hF]; rfl
set_option maxRecDepth 10000
end Go.Abs
namespace Go.Abs
open Go Go.Proofs
theorem exL_head (f : FuncId) (a : Code) (S : St) : exL K f (.loop a) S = exL K f (.loop a) (head (keepF f ((firstReg a).getD 0)) S) := by
  rw [exL_loop, exL_loop (S := head _ S), K_keep, head_head]
set_option maxRecDepth 10000
attribute [local go_sem] exL_seq exL_region exL_cond exL_block exL_scope exL_ret exL_skip exL_exit runRegion runOps stepOp guardA absOp takeOver opd avOf cvOf St.degAt St.put okPV okVal okAV absBin intBin strBin boolBin setBoxes if_true Bool.false_eq_true if_false Option.map_some Option.map_none Option.bind_some Option.bind_none thenO outOf upd List.toList_toArray isOwn steal appArgs inApps AV.deg CV.deg AV.gv AV.isIter absNext some_bne List.length_nil List.length_cons List.filterMap_cons List.filterMap_nil beq_iff_eq List.getElem?_cons_zero List.getElem?_cons_succ Option.getD_some K_hook hookB Bool.false_and Bool.and_false Bool.and_self K_P K_own absCall doCall getBoxes lend back idx dedup AV.ren CV.ren TV.ren AV.ptrs CV.ptrs zipBox AV.flat CV.flat absLoad absStore cellsOfAV setAt newBox markB bldTypes absFieldAddr absField absExtract absAssert noAssert absMkIface ifcOf CV.pv? content pushHead ownT fillCells reps pvs chunks enterSt leave resOf resVars resVar outBoxes lentOnly TV.deg TV.av LK CV.plain CV.noBld nilBin absUn bound List.map_cons List.map_nil List.all_cons List.all_nil List.any_cons List.any_nil List.contains_cons List.contains_nil List.elem_cons List.elem_nil List.cons_append List.nil_append List.append_nil List.flatMap_cons List.flatMap_nil List.zip_cons_cons List.zip_nil_left List.zip_nil_right List.take_succ_cons List.take_zero List.take_nil List.drop_succ_cons List.drop_zero List.drop_nil List.isEmpty_nil List.isEmpty_cons Bool.and_true Bool.true_and Bool.or_true Bool.true_or Bool.or_false Bool.false_or Bool.not_true Bool.not_false Nat.add_zero Nat.zero_add Option.isNone_none Option.isNone_some Option.getD_none true_and and_true not_true_eq_false not_false_eq_true decide_true decide_false Nat.le_refl and_self Bool.not_eq_true Nat.sub_self or_true true_or Option.some.injEq List.length_map List.nil_eq and_false false_and AV.live CV.live CV.liveIn K_keep firstReg Option.orElse_some Option.orElse_none head keepSlots keepBoxes Int.lt_irrefl List.length_append ite_self memOK logOps opKey lentBoxes Key.clash Key.sees Key.writes Nat.lt_irrefl gt_iff_lt nobox_at bot_at false_or or_false beq_self_eq_true Bool.true_beq Bool.false_beq
theorem wrap_nat (n : Nat) (h : n < 9223372036854775807) : IntKind.i64.wrap ((n : Int) + 1) = ((n + 1 : Nat) : Int) := by
  rw [IntWalk.i64_in _ (by omega)]; rfl
theorem drop_cons {α : Type} {l rest : List α} {x : α} {i : Nat} (h : l.drop i = x :: rest) : l[i]? = some x ∧ l.drop (i + 1) = rest ∧ i < l.length := by
  have h1 : l[i]? = some x := by
    have : (l.drop i)[0]? = some x := by rw [h]; rfl
    simpa using this
  refine ⟨h1, ?_, (List.getElem?_eq_some_iff.1 h1).1⟩
  have : (l.drop i).tail = rest := by rw [h]; rfl
  rw [← this, List.tail_drop]
end Go.Abs
namespace Go.Abs
open Go
theorem size_mem : ∀ {l : List Val} {k : Int} {t : Tok} {l' : List Val}, Val.mk k t l' ∈ l → Ne.size l' < Ne.size l
  | v :: l, k, t, l', h => by
    rw [Ne.size]
    rcases List.mem_cons.1 h with rfl | h
    · rw [Ne.sizeV]; omega
    · have := size_mem h; omega
theorem ind_list {Q : List Val → Prop} (h : ∀ l, (∀ k t l', Val.mk k t l' ∈ l → Q l') → Q l) (l : List Val) : Q l := by
  have key : ∀ (m : Nat) (l : List Val), Ne.size l ≤ m → Q l := by
    intro m
    induction m with
    | zero =>
      intro l hl
      refine h l fun k t l' hm => ?_
      have := size_mem hm; omega
    | succ m ih =>
      intro l hl
      refine h l fun k t l' hm => ih l' ?_
      have := size_mem hm; omega
  exact key _ l (Nat.le_refl _)
theorem fewL_cons (deep left : Int) (k : Int) (t : Tok) (l r : List Val) : Ne.fewL deep left (.mk k t l :: r) =
    if left < 0 then left else if 100 < t.text.length then -1 else Ne.fewL deep (if 0 ≤ left - 1 ∧ l.isEmpty = false then Ne.few (deep - 1) (left - 1) l else left - 1) r := by
  rw [Ne.fewL, Ne.fewV]
  rfl
theorem few_bound : ∀ (l : List Val) (deep left : Int), -1 ≤ left → -1 ≤ Ne.fewL deep left l ∧ Ne.fewL deep left l ≤ left ∧ (0 ≤ left → -1 ≤ Ne.few deep left l ∧ Ne.few deep left l ≤ left) := by
  have key : ∀ (l : List Val), (∀ k t l', Val.mk k t l' ∈ l → ∀ deep left : Int, -1 ≤ left → -1 ≤ Ne.fewL deep left l' ∧ Ne.fewL deep left l' ≤ left) → ∀ deep left : Int, -1 ≤ left → -1 ≤ Ne.fewL deep left l ∧ Ne.fewL deep left l ≤ left := by
    intro l
    induction l with
    | nil => intro _ deep left h; rw [Ne.fewL]; omega
    | cons v r ih =>
      obtain ⟨k, t, l⟩ := v
      intro hin deep left h
      rw [fewL_cons]
      split
      · omega
      · split
        · omega
        · have hr := ih (fun k t l' hm => hin k t l' (by simp [hm])) deep
          split
          · have h1 := hin k t l (by simp) (deep - 1) (left - 1) (by omega)
            have h2 : -1 ≤ Ne.few (deep - 1) (left - 1) l ∧ Ne.few (deep - 1) (left - 1) l ≤ left - 1 := by
              unfold Ne.few
              split <;> omega
            have := hr _ h2.1
            omega
          · have := hr (left - 1) (by omega)
            omega
  intro l deep left h
  have hl : ∀ deep left : Int, -1 ≤ left → -1 ≤ Ne.fewL deep left l ∧ Ne.fewL deep left l ≤ left := ind_list (fun l hin => key l hin) l
  have h1 := hl deep left h
  refine ⟨h1.1, h1.2, fun h0 => ?_⟩
  unfold Ne.few
  split
  · omega
  · exact h1
mutual
def Ne.allV (p : Tok → Prop) : Val → Prop
  | .mk _ t l => p t ∧ Ne.allT p l
def Ne.allT (p : Tok → Prop) : List Val → Prop
  | [] => True
  | v :: l => Ne.allV p v ∧ Ne.allT p l
end
theorem fewL_facts (l : List Val) : ∀ (deep left : Int), 0 ≤ Ne.fewL deep left l → (Ne.size l : Int) ≤ left - Ne.fewL deep left l ∧ Ne.allT (fun t => t.text.length ≤ 100) l := by
  have key : ∀ (l : List Val), (∀ k t l', Val.mk k t l' ∈ l → ∀ deep left : Int, 0 ≤ Ne.fewL deep left l' → (Ne.size l' : Int) ≤ left - Ne.fewL deep left l' ∧ Ne.allT (fun t => t.text.length ≤ 100) l') →
      ∀ deep left : Int, 0 ≤ Ne.fewL deep left l → (Ne.size l : Int) ≤ left - Ne.fewL deep left l ∧ Ne.allT (fun t => t.text.length ≤ 100) l := by
    intro l
    induction l with
    | nil =>
      intro _ deep left h
      rw [Ne.fewL, Ne.size, Ne.allT]
      exact ⟨by omega, trivial⟩
    | cons v r ih =>
      obtain ⟨k, t, l⟩ := v
      intro hin deep left h
      rw [fewL_cons] at h ⊢
      rw [Ne.size, Ne.sizeV, Ne.allT, Ne.allV]
      split at h
      · omega
      · rename_i h0
        rw [if_neg h0]
        split at h
        · omega
        · rename_i h1
          rw [if_neg h1]
          have hr := ih (fun k t l' hm => hin k t l' (by simp [hm])) deep _ h
          split at h
          · rename_i h2
            rw [if_pos h2] at hr ⊢
            have hnext : 0 ≤ Ne.few (deep - 1) (left - 1) l := by omega
            have hf : Ne.few (deep - 1) (left - 1) l = Ne.fewL (deep - 1) (left - 1) l := by
              unfold Ne.few at hnext ⊢
              split at hnext
              · omega
              · rename_i h3; rw [if_neg h3]
            rw [hf] at hnext hr ⊢
            have hl := hin k t l (by simp) (deep - 1) (left - 1) hnext
            exact ⟨by omega, ⟨by omega, hl.2⟩, hr.2⟩
          · rename_i h2
            rw [if_neg h2] at hr ⊢
            have hn : 0 ≤ left - 1 := by omega
            have hl : l = [] := by
              cases l with
              | nil => rfl
              | cons a b => exact absurd ⟨hn, rfl⟩ h2
            subst hl
            rw [Ne.size, Ne.allT]
            exact ⟨by omega, ⟨by omega, trivial⟩, hr.2⟩
  exact ind_list (Q := fun l => ∀ (deep left : Int), 0 ≤ Ne.fewL deep left l → (Ne.size l : Int) ≤ left - Ne.fewL deep left l ∧ Ne.allT (fun t => t.text.length ≤ 100) l) (fun l hin => key l hin) l
theorem few_facts {l : List Val} {deep left : Int} (h : 0 ≤ Ne.few deep left l) : (Ne.size l : Int) ≤ left ∧ Ne.allT (fun t => t.text.length ≤ 100) l := by
  unfold Ne.few at h
  split at h
  · omega
  · have := fewL_facts l deep left h
    exact ⟨by omega, this.2⟩
theorem same_refl (l : List Val) : Ne.same l l = true := (Ne.same_iff l l).2 rfl
end Go.Abs
namespace Go.Abs
open Go Go.Proofs
set_option maxRecDepth 10000
attribute [local go_sem] exL_seq exL_region exL_cond exL_block exL_scope exL_ret exL_skip exL_exit runRegion runOps stepOp guardA absOp takeOver opd avOf cvOf St.degAt St.put okPV okVal okAV absBin intBin strBin boolBin setBoxes if_true Bool.false_eq_true if_false Option.map_some Option.map_none Option.bind_some Option.bind_none thenO outOf upd List.toList_toArray isOwn steal appArgs inApps AV.deg CV.deg AV.gv AV.isIter absNext some_bne List.length_nil List.length_cons List.filterMap_cons List.filterMap_nil beq_iff_eq List.getElem?_cons_zero List.getElem?_cons_succ Option.getD_some K_hook hookB Bool.false_and Bool.and_false Bool.and_self K_P K_own absCall doCall getBoxes lend back idx dedup AV.ren CV.ren TV.ren AV.ptrs CV.ptrs zipBox AV.flat CV.flat absLoad absStore cellsOfAV setAt newBox markB bldTypes absFieldAddr absField absExtract absAssert noAssert absMkIface ifcOf CV.pv? content pushHead ownT fillCells reps pvs chunks enterSt leave resOf resVars resVar outBoxes lentOnly TV.deg TV.av LK CV.plain CV.noBld nilBin absUn bound List.map_cons List.map_nil List.all_cons List.all_nil List.any_cons List.any_nil List.contains_cons List.contains_nil List.elem_cons List.elem_nil List.cons_append List.nil_append List.append_nil List.flatMap_cons List.flatMap_nil List.zip_cons_cons List.zip_nil_left List.zip_nil_right List.take_succ_cons List.take_zero List.take_nil List.drop_succ_cons List.drop_zero List.drop_nil List.isEmpty_nil List.isEmpty_cons Bool.and_true Bool.true_and Bool.or_true Bool.true_or Bool.or_false Bool.false_or Bool.not_true Bool.not_false Nat.add_zero Nat.zero_add Option.isNone_none Option.isNone_some Option.getD_none true_and and_true not_true_eq_false not_false_eq_true decide_true decide_false Nat.le_refl and_self Bool.not_eq_true Nat.sub_self or_true true_or Option.some.injEq List.length_map List.nil_eq and_false false_and AV.live CV.live CV.liveIn K_keep firstReg Option.orElse_some Option.orElse_none head keepSlots keepBoxes Int.lt_irrefl List.length_append ite_self memOK logOps opKey lentBoxes Key.clash Key.sees Key.writes Nat.lt_irrefl gt_iff_lt nobox_at bot_at false_or or_false beq_self_eq_true Bool.true_beq Bool.false_beq
theorem tok_eq (k k' n n' : Int) (t t' : List UInt8) : structEq Tryd.prog 29 [.int .i64 k, .str t, .int .i64 n] [.int .i64 k', .str t', .int .i64 n'] = some ((k == k') && ((t == t') && ((n == n') && true))) := by kernel_rfl
theorem tok_beq (a b : Tok) : ((a.kind == b.kind) && ((a.text == b.text) && ((a.n == b.n) && true))) = decide (a = b) := by
  obtain ⟨k, t, n⟩ := a
  obtain ⟨k', t', n'⟩ := b
  rw [Bool.eq_iff_iff, decide_eq_true_eq]
  simp [Tok.mk.injEq]
end Go.Abs
namespace Go.Abs
open Go Go.Proofs
set_option maxRecDepth 10000
attribute [local go_sem] exL_seq exL_region exL_cond exL_block exL_scope exL_ret exL_skip exL_exit runRegion runOps stepOp guardA absOp takeOver opd avOf cvOf St.degAt St.put okPV okVal okAV absBin intBin strBin boolBin setBoxes if_true Bool.false_eq_true if_false Option.map_some Option.map_none Option.bind_some Option.bind_none thenO outOf upd List.toList_toArray isOwn steal appArgs inApps AV.deg CV.deg AV.gv AV.isIter absNext some_bne List.length_nil List.length_cons List.filterMap_cons List.filterMap_nil beq_iff_eq List.getElem?_cons_zero List.getElem?_cons_succ Option.getD_some K_hook hookB Bool.false_and Bool.and_false Bool.and_self K_P K_own absCall doCall getBoxes lend back idx dedup AV.ren CV.ren TV.ren AV.ptrs CV.ptrs zipBox AV.flat CV.flat absLoad absStore cellsOfAV setAt newBox markB bldTypes absFieldAddr absField absExtract absAssert noAssert absMkIface ifcOf CV.pv? content pushHead ownT fillCells reps pvs chunks enterSt leave resOf resVars resVar outBoxes lentOnly TV.deg TV.av LK CV.plain CV.noBld nilBin absUn bound List.map_cons List.map_nil List.all_cons List.all_nil List.any_cons List.any_nil List.contains_cons List.contains_nil List.elem_cons List.elem_nil List.cons_append List.nil_append List.append_nil List.flatMap_cons List.flatMap_nil List.zip_cons_cons List.zip_nil_left List.zip_nil_right List.take_succ_cons List.take_zero List.take_nil List.drop_succ_cons List.drop_zero List.drop_nil List.isEmpty_nil List.isEmpty_cons Bool.and_true Bool.true_and Bool.or_true Bool.true_or Bool.or_false Bool.false_or Bool.not_true Bool.not_false Nat.add_zero Nat.zero_add Option.isNone_none Option.isNone_some Option.getD_none true_and and_true not_true_eq_false not_false_eq_true decide_true decide_false Nat.le_refl and_self Bool.not_eq_true Nat.sub_self or_true true_or Option.some.injEq List.length_map List.nil_eq and_false false_and AV.live CV.live CV.liveIn K_keep firstReg Option.orElse_some Option.orElse_none head keepSlots keepBoxes Int.lt_irrefl List.length_append ite_self memOK logOps opKey lentBoxes Key.clash Key.sees Key.writes Nat.lt_irrefl gt_iff_lt nobox_at bot_at false_or or_false beq_self_eq_true Bool.true_beq Bool.false_beq
theorem lens_valsK (l : List Val) : lens 5 (encL l) = true := by
  rw [encL_map]
  simp only [lens, List.all_map, List.all_eq_true, Function.comp_apply, beq_iff_eq]
  intro v _
  exact enc_len v
theorem lens_valK (a b c d e : PV) : lens 5 [[a, b, c, d, e]] = true := rfl
theorem val_at (l : List Val) (i : Nat) (k : Int) (t : Tok) (l' : List Val) (h : l[i]? = some (.mk k t l')) : (encL l)[(i : Int).toNat]? = some [.int .i64 k, .int .i64 t.kind, .str t.text, .int .i64 t.n, .sl (encL l')] := encL_get l i _ h
theorem pairs_den : den K 37 [] [] = some (.ret (.c (.cmap pairsE)) []) := prim_run (F := pPairs) rfl rfl
theorem delim_den (s : List UInt8) : den K 38 [T s] [] = some (.ret (.agg [.pv (.int .i64 7), .pv (.str s), .pv (.int .i64 0)]) []) := by
  refine den_run rfl rfl Tryd.func38 rfl Tryd.ntmps38 ⟨by simp, by simp [LK]⟩ ?_
  have hr : Tryd.f38.results = #[.cell 2 29] := rfl
  simp only [go_sem, Nat.reduceLT, reduceIte, reduceCtorEq, Nat.reduceEqDiff, apply_ite (Option.map (outOf _)), Nat.reduceBEq, Nat.reduceAdd, Nat.reduceSub, Nat.reduceLeDiff, Nat.reduceMul, ty_shapeT_29, ty_zeroCells_29, ev_build ty_zeroCells_29 ty_placesOf_29, ty_szOf_29, hr]
abbrev closeCv (k : Int) : List CV := [.pv (.int .i64 7), .pv (.str [Ne.closeC k]), .pv (.int .i64 0)]
theorem closing_den (k : Int) : den K 39 [I k] [] = some (.ret (.agg (closeCv k)) []) := by
  refine den_run rfl rfl Tryd.func39 rfl Tryd.ntmps39 ⟨by simp, by simp [LK]⟩ ?_
  have hr : Tryd.f39.results = #[.cell 2 29] := rfl
  have hp := pairs_den
  have d1 := delim_den [41]
  have d2 := delim_den [93]
  have d3 := delim_den [125]
  by_cases h2 : k = 2
  · subst h2
    simp only [go_sem, Nat.reduceLT, reduceIte, reduceCtorEq, Nat.reduceEqDiff, apply_ite (Option.map (outOf _)), Nat.reduceBEq, Nat.reduceAdd, Nat.reduceSub, Nat.reduceLeDiff, Nat.reduceMul, ty_shapeT_29, ty_zeroCells_29, good_37, ty_zeroCells_78, ty_szOf_78, ty_fieldOff_78_1, ty_szOf_9, ty_shapeT_9, good_38, ty_szOf_29, K_ownP, hr, hp, NR.look_2, d1, d2, d3]
    rfl
  by_cases h3 : k = 3
  · subst h3
    simp only [go_sem, Nat.reduceLT, reduceIte, reduceCtorEq, Nat.reduceEqDiff, apply_ite (Option.map (outOf _)), Nat.reduceBEq, Nat.reduceAdd, Nat.reduceSub, Nat.reduceLeDiff, Nat.reduceMul, ty_shapeT_29, ty_zeroCells_29, good_37, ty_zeroCells_78, ty_szOf_78, ty_fieldOff_78_1, ty_szOf_9, ty_shapeT_9, good_38, ty_szOf_29, K_ownP, hr, hp, NR.look_3, d1, d2, d3]
    rfl
  by_cases h4 : k = 4
  · subst h4
    simp only [go_sem, Nat.reduceLT, reduceIte, reduceCtorEq, Nat.reduceEqDiff, apply_ite (Option.map (outOf _)), Nat.reduceBEq, Nat.reduceAdd, Nat.reduceSub, Nat.reduceLeDiff, Nat.reduceMul, ty_shapeT_29, ty_zeroCells_29, good_37, ty_zeroCells_78, ty_szOf_78, ty_fieldOff_78_1, ty_szOf_9, ty_shapeT_9, good_38, ty_szOf_29, K_ownP, hr, hp, NR.look_4, d1, d2, d3]
    rfl
  have hl := NR.look_no k h2 h3 h4
  have hv : Ne.closeC k = 41 := by simp [Ne.closeC, h3, h4]
  rw [closeCv, hv]
  simp only [go_sem, Nat.reduceLT, reduceIte, reduceCtorEq, Nat.reduceEqDiff, apply_ite (Option.map (outOf _)), Nat.reduceBEq, Nat.reduceAdd, Nat.reduceSub, Nat.reduceLeDiff, Nat.reduceMul, ty_shapeT_29, ty_zeroCells_29, good_37, ty_zeroCells_78, ty_szOf_78, ty_fieldOff_78_1, ty_szOf_9, ty_shapeT_9, good_38, ty_szOf_29, K_ownP, hr, hp, hl, d1, d2, d3]
end Go.Abs
namespace Go.Abs
open Go Go.Proofs
set_option maxRecDepth 10000
attribute [local go_sem] exL_seq exL_region exL_cond exL_block exL_scope exL_ret exL_skip exL_exit runRegion runOps stepOp guardA absOp takeOver opd avOf cvOf St.degAt St.put okPV okVal okAV absBin intBin strBin boolBin setBoxes if_true Bool.false_eq_true if_false Option.map_some Option.map_none Option.bind_some Option.bind_none thenO outOf upd List.toList_toArray isOwn steal appArgs inApps AV.deg CV.deg AV.gv AV.isIter absNext some_bne List.length_nil List.length_cons List.filterMap_cons List.filterMap_nil beq_iff_eq List.getElem?_cons_zero List.getElem?_cons_succ Option.getD_some K_hook hookB Bool.false_and Bool.and_false Bool.and_self K_P K_own absCall doCall getBoxes lend back idx dedup AV.ren CV.ren TV.ren AV.ptrs CV.ptrs zipBox AV.flat CV.flat absLoad absStore cellsOfAV setAt newBox markB bldTypes absFieldAddr absField absExtract absAssert noAssert absMkIface ifcOf CV.pv? content pushHead ownT fillCells reps pvs chunks enterSt leave resOf resVars resVar outBoxes lentOnly TV.deg TV.av LK CV.plain CV.noBld nilBin absUn bound List.map_cons List.map_nil List.all_cons List.all_nil List.any_cons List.any_nil List.contains_cons List.contains_nil List.elem_cons List.elem_nil List.cons_append List.nil_append List.append_nil List.flatMap_cons List.flatMap_nil List.zip_cons_cons List.zip_nil_left List.zip_nil_right List.take_succ_cons List.take_zero List.take_nil List.drop_succ_cons List.drop_zero List.drop_nil List.isEmpty_nil List.isEmpty_cons Bool.and_true Bool.true_and Bool.or_true Bool.true_or Bool.or_false Bool.false_or Bool.not_true Bool.not_false Nat.add_zero Nat.zero_add Option.isNone_none Option.isNone_some Option.getD_none true_and and_true not_true_eq_false not_false_eq_true decide_true decide_false Nat.le_refl and_self Bool.not_eq_true Nat.sub_self or_true true_or Option.some.injEq List.length_map List.nil_eq and_false false_and AV.live CV.live CV.liveIn K_keep firstReg Option.orElse_some Option.orElse_none head keepSlots keepBoxes Int.lt_irrefl List.length_append ite_self memOK logOps opKey lentBoxes Key.clash Key.sees Key.writes Nat.lt_irrefl gt_iff_lt nobox_at bot_at false_or or_false beq_self_eq_true Bool.true_beq Bool.false_beq
abbrev valCv (k : Int) (t : Tok) (l : List Val) : List CV := [.pv (.int .i64 k), .pv (.int .i64 t.kind), .pv (.str t.text), .pv (.int .i64 t.n), .pv (.sl (encL l))]
def VSame2Den (a b : List Val) : Prop := den K 9 [L (encL a), L (encL b)] [] = some (.ret (B (Ne.same a b)) [])
theorem same_len : ∀ {a b : List Val}, a.length ≠ b.length → Ne.same a b = false
  | [], [], h => absurd rfl h
  | [], _ :: _, _ => rfl
  | _ :: _, [], _ => rfl
  | x :: a, y :: b, h => by
    rw [Ne.same, same_len (a := a) (b := b) (by simpa using h), Bool.and_false]
abbrev same2H (a b : List Val) (i : Nat) : St := { sl := upd (upd (upd bot 5 (I i)) 1 (L (encL b))) 0 (L (encL a)), bx := nobox, nt := 55 }
set_option maxHeartbeats 8000000 in
theorem same2_loop (a b : List Val) (hab : a.length = b.length) (ha : a.length ≤ 1000000) (hin : ∀ k t l' m, Val.mk k t l' ∈ a → (∃ k' t', Val.mk k' t' m ∈ b) → VSame2Den l' m) : ∀ (ra rb : List Val) (i : Nat), a.drop i = ra → b.drop i = rb → i ≤ a.length →
    Ends (exL K 9 (.loop (loopAt Tryd.f9 4)) (same2H a b i)) fun o S => (Ne.same ra rb = true ∧ o = .exit 0 ∧ S.nt = 55) ∨ (Ne.same ra rb = false ∧ o = .ret ∧ S.sl 4 = B false)
  | [], rb, i, hda, hdb, hi => by
    have hin : i = a.length := by
      have := List.drop_eq_nil_iff.1 hda
      omega
    obtain rfl : rb = [] := by rw [← hdb, hin, hab, List.drop_length]
    subst hin
    conv in loopAt _ _ => whnf
    rw [exL_loop]
    simp only [go_sem, Nat.reduceLT, reduceIte, reduceCtorEq, Nat.reduceEqDiff, apply_ite (Option.map (outOf _)), Nat.reduceBEq, Nat.reduceAdd, Nat.reduceSub, Nat.reduceLeDiff, Nat.reduceMul, ev_len_sl ty_descOf_22, ev_indexAddr ty_descOf_22, ty_szOf_31, ty_fieldOff_31_0, ty_szOf_3, ty_shapeT_3, ty_fieldOff_31_1, ty_szOf_29, ty_shapeT_29, ty_fieldOff_31_2, ty_szOf_22, ty_shapeT_22, good_9, keep_9_4, ends_some, Ne.same, encL_len]
  | .mk k t l' :: ra, rb, i, hda, hdb, hi => by
    obtain ⟨g1, g2, g3⟩ := drop_cons hda
    cases rb with
    | nil =>
      have := List.drop_eq_nil_iff.1 hdb
      omega
    | cons y rb =>
      obtain ⟨k', t', m⟩ := y
      obtain ⟨k1, k2, k3⟩ := drop_cons hdb
      have hlt : decide ((i : Int) < (a.length : Int)) = true := decide_eq_true (by omega)
      have ga := val_at a i k t l' g1
      have gb := val_at b i k' t' m k1
      have hsd := hin k t l' m (List.mem_of_getElem? g1) ⟨k', t', List.mem_of_getElem? k1⟩
      unfold VSame2Den at hsd
      have heq := tok_eq t.kind t'.kind t.n t'.n t.text t'.text
      rw [tok_beq] at heq
      have ih := same2_loop a b hab ha hin ra rb (i + 1) g2 k2 (by omega)
      conv at ih in loopAt _ _ => whnf
      conv in loopAt _ _ => whnf
      rw [exL_loop]
      rw [Ne.same, Ne.sameV]
      cases b1 : (k == k')
      · have e1 : (k != k') = true := by rw [bne, b1]; rfl
        simp only [go_sem, Nat.reduceLT, reduceIte, reduceCtorEq, Nat.reduceEqDiff, apply_ite (Option.map (outOf _)), Nat.reduceBEq, Nat.reduceAdd, Nat.reduceSub, Nat.reduceLeDiff, Nat.reduceMul, ev_len_sl ty_descOf_22, ev_indexAddr ty_descOf_22, ty_szOf_31, ty_fieldOff_31_0, ty_szOf_3, ty_shapeT_3, ty_fieldOff_31_1, ty_szOf_29, ty_shapeT_29, ty_fieldOff_31_2, ty_szOf_22, ty_shapeT_22, good_9, keep_9_4, encL_len, hlt, ga, gb, e1, Int.natCast_nonneg, ends_some]
      · have e1 : (k != k') = false := by rw [bne, b1]; rfl
        cases b2 : decide (t = t')
        · rw [b2] at heq
          simp only [go_sem, Nat.reduceLT, reduceIte, reduceCtorEq, Nat.reduceEqDiff, apply_ite (Option.map (outOf _)), Nat.reduceBEq, Nat.reduceAdd, Nat.reduceSub, Nat.reduceLeDiff, Nat.reduceMul, ev_len_sl ty_descOf_22, ev_indexAddr ty_descOf_22, ty_szOf_31, ty_fieldOff_31_0, ty_szOf_3, ty_shapeT_3, ty_fieldOff_31_1, ty_szOf_29, ty_shapeT_29, ty_fieldOff_31_2, ty_szOf_22, ty_shapeT_22, good_9, keep_9_4, encL_len, hlt, ga, gb, Int.natCast_nonneg, e1, heq, ends_some]
        · rw [b2] at heq
          cases b3 : Ne.same l' m
          · rw [b3] at hsd
            simp only [go_sem, Nat.reduceLT, reduceIte, reduceCtorEq, Nat.reduceEqDiff, apply_ite (Option.map (outOf _)), Nat.reduceBEq, Nat.reduceAdd, Nat.reduceSub, Nat.reduceLeDiff, Nat.reduceMul, ev_len_sl ty_descOf_22, ev_indexAddr ty_descOf_22, ty_szOf_31, ty_fieldOff_31_0, ty_szOf_3, ty_shapeT_3, ty_fieldOff_31_1, ty_szOf_29, ty_shapeT_29, ty_fieldOff_31_2, ty_szOf_22, ty_shapeT_22, good_9, keep_9_4, encL_len, hlt, ga, gb, Int.natCast_nonneg, e1, heq, hsd, ends_some]
          · rw [b3] at hsd
            simp only [go_sem, Nat.reduceLT, reduceIte, reduceCtorEq, Nat.reduceEqDiff, apply_ite (Option.map (outOf _)), Nat.reduceBEq, Nat.reduceAdd, Nat.reduceSub, Nat.reduceLeDiff, Nat.reduceMul, ev_len_sl ty_descOf_22, ev_indexAddr ty_descOf_22, ty_szOf_31, ty_fieldOff_31_0, ty_szOf_3, ty_shapeT_3, ty_fieldOff_31_1, ty_szOf_29, ty_shapeT_29, ty_fieldOff_31_2, ty_szOf_22, ty_shapeT_22, good_9, keep_9_4, encL_len, hlt, ga, gb, Int.natCast_nonneg, e1, heq, hsd, wrap_nat i (by omega)]
            rw [exL_head]
            simp only [go_sem, Nat.reduceLT, reduceIte, reduceCtorEq, Nat.reduceEqDiff, apply_ite (Option.map (outOf _)), Nat.reduceBEq, Nat.reduceAdd, Nat.reduceSub, Nat.reduceLeDiff, Nat.reduceMul, ev_len_sl ty_descOf_22, ev_indexAddr ty_descOf_22, ty_szOf_31, ty_fieldOff_31_0, ty_szOf_3, ty_shapeT_3, ty_fieldOff_31_1, ty_szOf_29, ty_shapeT_29, ty_fieldOff_31_2, ty_szOf_22, ty_shapeT_22, good_9, keep_9_4]
            exact ih
theorem VSame2_den (a : List Val) : Ne.size a ≤ 1000000 → ∀ b, Ne.size b ≤ 1000000 → VSame2Den a b := by
  refine ind_list (Q := fun a => Ne.size a ≤ 1000000 → ∀ b, Ne.size b ≤ 1000000 → VSame2Den a b) (fun a hin ha b hb => ?_) a
  have h : ∀ hab : a.length = b.length, _ := fun hab => same2_loop a b hab (Nat.le_trans (Ne.length_size a) ha) (fun k t l' m hm ⟨k', t', hm'⟩ => hin k t l' hm (by have := size_mem hm; omega) m (by have := size_mem hm'; omega)) a b 0 rfl rfl (by omega)
  unfold VSame2Den
  refine den_run rfl rfl Tryd.func9 rfl Tryd.ntmps9 ⟨by simp, by simp [LK]⟩ ?_
  have hr : Tryd.f9.results = #[.tmp 4] := rfl
  by_cases hab : a.length = b.length
  · have e0 : ((a.length : Int) != (b.length : Int)) = false := by simp [hab]
    have h := h hab
    conv at h in loopAt _ _ => whnf
    obtain ⟨o, S', w, hq⟩ := h
    simp only [go_sem, Nat.reduceLT, reduceIte, reduceCtorEq, Nat.reduceEqDiff, apply_ite (Option.map (outOf _)), Nat.reduceBEq, Nat.reduceAdd, Nat.reduceSub, Nat.reduceLeDiff, Nat.reduceMul, ev_len_sl ty_descOf_22, ev_indexAddr ty_descOf_22, ty_szOf_31, ty_fieldOff_31_0, ty_szOf_3, ty_shapeT_3, ty_fieldOff_31_1, ty_szOf_29, ty_shapeT_29, ty_fieldOff_31_2, ty_szOf_22, ty_shapeT_22, good_9, keep_9_4, encL_len, e0]
    rw [exL_head]
    simp only [go_sem, Nat.reduceLT, reduceIte, reduceCtorEq, Nat.reduceEqDiff, apply_ite (Option.map (outOf _)), Nat.reduceBEq, Nat.reduceAdd, Nat.reduceSub, Nat.reduceLeDiff, Nat.reduceMul, ev_len_sl ty_descOf_22, ev_indexAddr ty_descOf_22, ty_szOf_31, ty_fieldOff_31_0, ty_szOf_3, ty_shapeT_3, ty_fieldOff_31_1, ty_szOf_29, ty_shapeT_29, ty_fieldOff_31_2, ty_szOf_22, ty_shapeT_22, good_9, keep_9_4]
    erw [w]
    rcases hq with ⟨hv, rfl, hn⟩ | ⟨hv, rfl, h6⟩
    · simp only [go_sem, Nat.reduceLT, reduceIte, reduceCtorEq, Nat.reduceEqDiff, apply_ite (Option.map (outOf _)), Nat.reduceBEq, Nat.reduceAdd, Nat.reduceSub, Nat.reduceLeDiff, Nat.reduceMul, ev_len_sl ty_descOf_22, ev_indexAddr ty_descOf_22, ty_szOf_31, ty_fieldOff_31_0, ty_szOf_3, ty_shapeT_3, ty_fieldOff_31_1, ty_szOf_29, ty_shapeT_29, ty_fieldOff_31_2, ty_szOf_22, ty_shapeT_22, good_9, keep_9_4, hr, hv, hn]
    · simp only [go_sem, Nat.reduceLT, reduceIte, reduceCtorEq, Nat.reduceEqDiff, apply_ite (Option.map (outOf _)), Nat.reduceBEq, Nat.reduceAdd, Nat.reduceSub, Nat.reduceLeDiff, Nat.reduceMul, ev_len_sl ty_descOf_22, ev_indexAddr ty_descOf_22, ty_szOf_31, ty_fieldOff_31_0, ty_szOf_3, ty_shapeT_3, ty_fieldOff_31_1, ty_szOf_29, ty_shapeT_29, ty_fieldOff_31_2, ty_szOf_22, ty_shapeT_22, good_9, keep_9_4, hr, hv, h6]
  · have e0 : ((a.length : Int) != (b.length : Int)) = true := by rw [bne_iff_ne]; omega
    have hv := same_len hab
    simp only [go_sem, Nat.reduceLT, reduceIte, reduceCtorEq, Nat.reduceEqDiff, apply_ite (Option.map (outOf _)), Nat.reduceBEq, Nat.reduceAdd, Nat.reduceSub, Nat.reduceLeDiff, Nat.reduceMul, ev_len_sl ty_descOf_22, ev_indexAddr ty_descOf_22, ty_szOf_31, ty_fieldOff_31_0, ty_szOf_3, ty_shapeT_3, ty_fieldOff_31_1, ty_szOf_29, ty_shapeT_29, ty_fieldOff_31_2, ty_szOf_22, ty_shapeT_22, good_9, keep_9_4, encL_len, e0, hr, hv]
end Go.Abs
namespace Go.Abs
open Go Go.Proofs
set_option maxRecDepth 10000
attribute [local go_sem] exL_seq exL_region exL_cond exL_block exL_scope exL_ret exL_skip exL_exit runRegion runOps stepOp guardA absOp takeOver opd avOf cvOf St.degAt St.put okPV okVal okAV absBin intBin strBin boolBin setBoxes if_true Bool.false_eq_true if_false Option.map_some Option.map_none Option.bind_some Option.bind_none thenO outOf upd List.toList_toArray isOwn steal appArgs inApps AV.deg CV.deg AV.gv AV.isIter absNext some_bne List.length_nil List.length_cons List.filterMap_cons List.filterMap_nil beq_iff_eq List.getElem?_cons_zero List.getElem?_cons_succ Option.getD_some K_hook hookB Bool.false_and Bool.and_false Bool.and_self K_P K_own absCall doCall getBoxes lend back idx dedup AV.ren CV.ren TV.ren AV.ptrs CV.ptrs zipBox AV.flat CV.flat absLoad absStore cellsOfAV setAt newBox markB bldTypes absFieldAddr absField absExtract absAssert noAssert absMkIface ifcOf CV.pv? content pushHead ownT fillCells reps pvs chunks enterSt leave resOf resVars resVar outBoxes lentOnly TV.deg TV.av LK CV.plain CV.noBld nilBin absUn bound List.map_cons List.map_nil List.all_cons List.all_nil List.any_cons List.any_nil List.contains_cons List.contains_nil List.elem_cons List.elem_nil List.cons_append List.nil_append List.append_nil List.flatMap_cons List.flatMap_nil List.zip_cons_cons List.zip_nil_left List.zip_nil_right List.take_succ_cons List.take_zero List.take_nil List.drop_succ_cons List.drop_zero List.drop_nil List.isEmpty_nil List.isEmpty_cons Bool.and_true Bool.true_and Bool.or_true Bool.true_or Bool.or_false Bool.false_or Bool.not_true Bool.not_false Nat.add_zero Nat.zero_add Option.isNone_none Option.isNone_some Option.getD_none true_and and_true not_true_eq_false not_false_eq_true decide_true decide_false Nat.le_refl and_self Bool.not_eq_true Nat.sub_self or_true true_or Option.some.injEq List.length_map List.nil_eq and_false false_and AV.live CV.live CV.liveIn K_keep firstReg Option.orElse_some Option.orElse_none head keepSlots keepBoxes Int.lt_irrefl List.length_append ite_self memOK logOps opKey lentBoxes Key.clash Key.sees Key.writes Nat.lt_irrefl gt_iff_lt nobox_at bot_at false_or or_false beq_self_eq_true Bool.true_beq Bool.false_beq
theorem blank_den (k : Int) (t : Tok) (l : List Val) : den K 8 [.agg (valCv k t l)] [] = some (.ret (B (Sl.isBlank (.mk k t l))) []) := by
  refine den_run rfl rfl Tryd.func8 rfl Tryd.ntmps8 ⟨by simp, by simp [LK]⟩ ?_
  have hr : Tryd.f8.results = #[.tmp 2] := rfl
  have hs : Sl.isBlank (.mk k t l) = ((k == 1) && (t.kind == 8)) := rfl
  rw [hs]
  cases e1 : (k == 1)
  · simp only [go_sem, Nat.reduceLT, reduceIte, reduceCtorEq, Nat.reduceEqDiff, apply_ite (Option.map (outOf _)), Nat.reduceBEq, Nat.reduceAdd, Nat.reduceSub, Nat.reduceLeDiff, Nat.reduceMul, ty_fieldOff_31_0, ty_szOf_3, ty_shapeT_3, ty_fieldOff_31_1, ty_szOf_29, ty_fieldOff_29_0, hr, e1]
  · simp only [go_sem, Nat.reduceLT, reduceIte, reduceCtorEq, Nat.reduceEqDiff, apply_ite (Option.map (outOf _)), Nat.reduceBEq, Nat.reduceAdd, Nat.reduceSub, Nat.reduceLeDiff, Nat.reduceMul, ty_fieldOff_31_0, ty_szOf_3, ty_shapeT_3, ty_fieldOff_31_1, ty_szOf_29, ty_fieldOff_29_0, hr, e1]
theorem Sl.trim_len (l : List Val) : (Sl.trim l).length ≤ l.length := by
  unfold Sl.trim
  rw [List.length_reverse]
  have h1 := (List.dropWhile_sublist Sl.isBlank (l := (l.dropWhile Sl.isBlank).reverse)).length_le
  have h2 := (List.dropWhile_sublist Sl.isBlank (l := l)).length_le
  rw [List.length_reverse] at h1
  omega
abbrev encP (l : List (List Val)) : List (List PV) := l.map fun p => [.sl (encL p)]
end Go.Abs
namespace Go.Abs.Sl
/-- what stands between values that cut -/
def cut (p : Val → Bool) : List Val → List (List Val)
  | [] => [[]]
  | v :: l => if p v then [] :: cut p l else match cut p l with
    | [] => [[v]]
    | q :: qs => (v :: q) :: qs
theorem cut_ne (p : Val → Bool) (l : List Val) : ∃ q qs, cut p l = q :: qs := by
  cases l with
  | nil => exact ⟨_, _, rfl⟩
  | cons v l =>
    rw [cut]
    split
    · exact ⟨_, _, rfl⟩
    · split
      · exact ⟨_, _, rfl⟩
      · exact ⟨_, _, rfl⟩
theorem cut_yes {p : Val → Bool} {v : Val} (h : p v = true) (l : List Val) : cut p (v :: l) = [] :: cut p l := by rw [cut, if_pos h]
theorem cut_no {p : Val → Bool} {v : Val} (h : p v = false) {l q : List Val} {qs : List (List Val)} (e : cut p l = q :: qs) : cut p (v :: l) = (v :: q) :: qs := by
  rw [cut, if_neg (by rw [h]; simp), e]
/-- those that are not empty -/
def fulls (ss : List (List Val)) : List (List Val) := ss.filter fun s => !s.isEmpty
theorem fulls_nil (ss : List (List Val)) : fulls ([] :: ss) = fulls ss := by simp [fulls]
def words (l : List Val) : List (List Val) := fulls (cut isBlank l)
theorem words_blank {v : Val} (h : isBlank v = true) (l : List Val) : words (v :: l) = words l := by
  unfold words; rw [cut_yes h, fulls_nil]
theorem cut_snoc {p : Val → Bool} {v : Val} (h : p v = true) : ∀ l : List Val, cut p (l ++ [v]) = cut p l ++ [[]]
  | [] => by rw [List.nil_append, cut_yes h]; rfl
  | x :: l => by
    rw [List.cons_append]
    cases hx : p x with
    | true => rw [cut_yes hx, cut_yes hx, cut_snoc h l]; rfl
    | false =>
      obtain ⟨q, qs, e⟩ := cut_ne p l
      rw [cut_no hx e, cut_no hx (l := l ++ [v]) (q := q) (qs := qs ++ [[]]) (by rw [cut_snoc h l, e]; rfl)]
      rfl
theorem words_snoc {v : Val} (h : isBlank v = true) (l : List Val) : words (l ++ [v]) = words l := by
  unfold words; rw [cut_snoc h]; simp [fulls]
theorem cut_length (p : Val → Bool) : ∀ l : List Val, (cut p l).length ≤ l.length + 1
  | [] => Nat.le_refl _
  | v :: l => by
    have h := cut_length p l
    obtain ⟨q, qs, e⟩ := cut_ne p l
    cases hv : p v with
    | true => rw [cut_yes hv, List.length_cons, List.length_cons]; omega
    | false =>
      rw [cut_no hv e, List.length_cons, List.length_cons]
      rw [e, List.length_cons] at h
      omega
theorem words_length (l : List Val) : (words l).length ≤ l.length + 1 := Nat.le_trans (List.length_filter_le _ _) (cut_length _ l)
theorem drop_head : ∀ l : List Val, ∀ v r, l.dropWhile isBlank = v :: r → isBlank v = false
  | [], v, r, h => by cases h
  | x :: l, v, r, h => by
    rw [List.dropWhile_cons] at h
    split at h
    · exact drop_head l v r h
    · rename_i hx
      cases h
      simpa using hx
/-- what is trimmed has no blank at its front -/
theorem trim_head {l r : List Val} {v : Val} (h : trim l = v :: r) : isBlank v = false := by
  unfold trim at h
  obtain ⟨pre, hp⟩ := List.dropWhile_suffix isBlank (l := (l.dropWhile isBlank).reverse)
  have h2 : l.dropWhile isBlank = trim l ++ pre.reverse := by
    have := congrArg List.reverse hp
    rw [List.reverse_append, List.reverse_reverse] at this
    exact this.symm
  unfold trim at h2
  rw [h] at h2
  exact drop_head l v _ h2
theorem trim_last {l r : List Val} {v : Val} (h : trim l = r ++ [v]) : isBlank v = false := by
  unfold trim at h
  have h2 := congrArg List.reverse h
  rw [List.reverse_reverse, List.reverse_append, List.reverse_singleton, List.singleton_append] at h2
  exact drop_head _ v _ h2
theorem trim_of {l : List Val} (h1 : ∀ v r, l = v :: r → isBlank v = false) (h2 : ∀ v r, l = r ++ [v] → isBlank v = false) : trim l = l := by
  have e1 : l.dropWhile isBlank = l := by
    cases l with
    | nil => rfl
    | cons v r => rw [List.dropWhile_cons, if_neg (by rw [h1 v r rfl]; simp)]
  have e2 : l.reverse.dropWhile isBlank = l.reverse := by
    cases hr : l.reverse with
    | nil => rfl
    | cons v r =>
      have := congrArg List.reverse hr
      rw [List.reverse_reverse, List.reverse_cons] at this
      rw [List.dropWhile_cons, if_neg (by rw [h2 v _ this]; simp)]
  unfold trim
  rw [e1, e2, List.reverse_reverse]
theorem trim_trim (l : List Val) : trim (trim l) = trim l := trim_of (fun _ _ h => trim_head h) (fun _ _ h => trim_last h)
theorem trim_cons {v : Val} (h : isBlank v = true) (l : List Val) : trim (v :: l) = trim l := by
  unfold trim
  rw [List.dropWhile_cons, if_pos h]
theorem drop_app : ∀ (l : List Val) (v : Val), isBlank v = true → (l ++ [v]).dropWhile isBlank = if l.dropWhile isBlank = [] then [] else l.dropWhile isBlank ++ [v]
  | [], v, h => by rw [List.nil_append, List.dropWhile_cons, if_pos h]; rfl
  | x :: l, v, h => by
    rw [List.cons_append, List.dropWhile_cons, List.dropWhile_cons]
    split
    · exact drop_app l v h
    · simp
theorem trim_snoc {v : Val} (h : isBlank v = true) (l : List Val) : trim (l ++ [v]) = trim l := by
  unfold trim
  rw [drop_app l v h]
  split
  · rename_i e; rw [e]
  · rw [List.reverse_append, List.reverse_singleton, List.singleton_append, List.dropWhile_cons, if_pos h]
theorem trim_length (l : List Val) : (trim l).length ≤ l.length := by
  unfold trim
  rw [List.length_reverse]
  have h1 := (List.dropWhile_sublist isBlank (l := (l.dropWhile isBlank).reverse)).length_le
  have h2 := (List.dropWhile_sublist isBlank (l := l)).length_le
  rw [List.length_reverse] at h1
  omega
end Go.Abs.Sl
namespace Go.Abs
open Go Go.Proofs
set_option maxRecDepth 10000
attribute [local go_sem] exL_seq exL_region exL_cond exL_block exL_scope exL_ret exL_skip exL_exit runRegion runOps stepOp guardA absOp takeOver opd avOf cvOf St.degAt St.put okPV okVal okAV absBin intBin strBin boolBin setBoxes if_true Bool.false_eq_true if_false Option.map_some Option.map_none Option.bind_some Option.bind_none thenO outOf upd List.toList_toArray isOwn steal appArgs inApps AV.deg CV.deg AV.gv AV.isIter absNext some_bne List.length_nil List.length_cons List.filterMap_cons List.filterMap_nil beq_iff_eq List.getElem?_cons_zero List.getElem?_cons_succ Option.getD_some K_hook hookB Bool.false_and Bool.and_false Bool.and_self K_P K_own absCall doCall getBoxes lend back idx dedup AV.ren CV.ren TV.ren AV.ptrs CV.ptrs zipBox AV.flat CV.flat absLoad absStore cellsOfAV setAt newBox markB bldTypes absFieldAddr absField absExtract absAssert noAssert absMkIface ifcOf CV.pv? content pushHead ownT fillCells reps pvs chunks enterSt leave resOf resVars resVar outBoxes lentOnly TV.deg TV.av LK CV.plain CV.noBld nilBin absUn bound List.map_cons List.map_nil List.all_cons List.all_nil List.any_cons List.any_nil List.contains_cons List.contains_nil List.elem_cons List.elem_nil List.cons_append List.nil_append List.append_nil List.flatMap_cons List.flatMap_nil List.zip_cons_cons List.zip_nil_left List.zip_nil_right List.take_succ_cons List.take_zero List.take_nil List.drop_succ_cons List.drop_zero List.drop_nil List.isEmpty_nil List.isEmpty_cons Bool.and_true Bool.true_and Bool.or_true Bool.true_or Bool.or_false Bool.false_or Bool.not_true Bool.not_false Nat.add_zero Nat.zero_add Option.isNone_none Option.isNone_some Option.getD_none true_and and_true not_true_eq_false not_false_eq_true decide_true decide_false Nat.le_refl and_self Bool.not_eq_true Nat.sub_self or_true true_or Option.some.injEq List.length_map List.nil_eq and_false false_and AV.live CV.live CV.liveIn K_keep firstReg Option.orElse_some Option.orElse_none head keepSlots keepBoxes Int.lt_irrefl List.length_append ite_self memOK logOps opKey lentBoxes Key.clash Key.sees Key.writes Nat.lt_irrefl gt_iff_lt nobox_at bot_at false_or or_false beq_self_eq_true Bool.true_beq Bool.false_beq
theorem blank3_den (k : Int) (t : Tok) (l : List Val) : den K 18 [.agg (valCv k t l)] [] = some (.ret (B (Sl.isBlank (.mk k t l))) []) := by
  refine den_run rfl rfl Tryd.func18 rfl Tryd.ntmps18 ⟨by simp, by simp [LK]⟩ ?_
  have hr : Tryd.f18.results = #[.tmp 2] := rfl
  have hs : Sl.isBlank (.mk k t l) = ((k == 1) && (t.kind == 8)) := rfl
  rw [hs]
  cases e1 : (k == 1)
  · simp only [go_sem, Nat.reduceLT, reduceIte, reduceCtorEq, Nat.reduceEqDiff, apply_ite (Option.map (outOf _)), Nat.reduceBEq, Nat.reduceAdd, Nat.reduceSub, Nat.reduceLeDiff, Nat.reduceMul, ty_fieldOff_31_0, ty_szOf_3, ty_shapeT_3, ty_fieldOff_31_1, ty_szOf_29, ty_fieldOff_29_0, hr, e1]
  · simp only [go_sem, Nat.reduceLT, reduceIte, reduceCtorEq, Nat.reduceEqDiff, apply_ite (Option.map (outOf _)), Nat.reduceBEq, Nat.reduceAdd, Nat.reduceSub, Nat.reduceLeDiff, Nat.reduceMul, ty_fieldOff_31_0, ty_szOf_3, ty_shapeT_3, ty_fieldOff_31_1, ty_szOf_29, ty_fieldOff_29_0, hr, e1]
abbrev trH (l : List Val) : St := { sl := upd bot 0 (L (encL l)), bx := nobox, nt := 33 }
noncomputable def trlp1 : Code := .loop (loopAt Tryd.f11 1)
noncomputable def trlp3 : Code := .loop (loopAt Tryd.f11 3)
theorem head_val (k : Int) (t : Tok) (c r : List Val) : (encL (.mk k t c :: r))[(0 : Int).toNat]? = some [.int .i64 k, .int .i64 t.kind, .str t.text, .int .i64 t.n, .sl (encL c)] := rfl
theorem cut_head (v : Val) (r : List Val) (n : Nat) (h : n = r.length + 1) : ((encL (v :: r)).take n).drop (1 : Int).toNat = encL r := by
  subst h
  rw [encL, List.take_of_length_le (by rw [List.length_cons, encL_len]; omega)]; rfl
theorem le00 : ((0 : Int) ≤ 0) = True := by simp
theorem tr1_yes (v : Val) (r : List Val) (hl : r.length ≤ 100000000) (hb : Sl.isBlank v = true) :
    exL K 11 trlp1 (trH (v :: r)) = exL K 11 trlp1 (trH r) := by
  obtain ⟨k, t, c⟩ := v
  have hlt : decide ((0 : Int) < (((r.length + 1 : Nat)) : Int)) = true := decide_eq_true (by omega)
  have hget := head_val k t c r
  have hcut := cut_head (.mk k t c) r (r.length + 1) rfl
  have hb1 : ((0 : Int) ≤ 1 ∧ (1 : Int) ≤ ((r.length + 1 : Nat) : Int)) = True := by rw [eq_iff_iff]; simp; omega
  have hlv := lens_valsK (.mk k t c :: r)
  have hd := blank3_den k t c
  rw [hb] at hd
  unfold trlp1
  conv in loopAt _ _ => whnf
  conv in loopAt _ _ => whnf
  conv in exL _ _ _ (trH (.mk k t c :: r)) => rw [exL_loop]
  simp only [go_sem, Nat.reduceLT, reduceIte, reduceCtorEq, Nat.reduceEqDiff, apply_ite (Option.map (outOf _)), Nat.reduceBEq, Nat.reduceAdd, Nat.reduceSub, Nat.reduceLeDiff, Nat.reduceMul, ev_len_sl ty_descOf_22, ev_indexAddr ty_descOf_22, ty_szOf_31, ty_shapeT_31, good_18, ev_slice_sl ty_descOf_22 ty_szOf_31, good_19, keep_11_1, keep_11_3, encL_len, List.length_cons, hlt, hget, hd, hb1, hlv, hcut, le00]
  rw [exL_head]
  simp only [go_sem, Nat.reduceLT, reduceIte, reduceCtorEq, Nat.reduceEqDiff, apply_ite (Option.map (outOf _)), Nat.reduceBEq, Nat.reduceAdd, Nat.reduceSub, Nat.reduceLeDiff, Nat.reduceMul, ev_len_sl ty_descOf_22, ev_indexAddr ty_descOf_22, ty_szOf_31, ty_shapeT_31, good_18, ev_slice_sl ty_descOf_22 ty_szOf_31, good_19, keep_11_1, keep_11_3]
theorem tr1_no (v : Val) (r : List Val) (hl : r.length ≤ 100000000) (hb : Sl.isBlank v = false) :
    Ends (exL K 11 trlp1 (trH (v :: r))) fun o S => o = .exit 0 ∧ S.nt = 33 ∧ S.sl 0 = L (encL (v :: r)) := by
  obtain ⟨k, t, c⟩ := v
  have hlt : decide ((0 : Int) < (((r.length + 1 : Nat)) : Int)) = true := decide_eq_true (by omega)
  have hget := head_val k t c r
  have hd := blank3_den k t c
  rw [hb] at hd
  unfold trlp1
  conv in loopAt _ _ => whnf
  rw [exL_loop]
  simp only [go_sem, Nat.reduceLT, reduceIte, reduceCtorEq, Nat.reduceEqDiff, apply_ite (Option.map (outOf _)), Nat.reduceBEq, Nat.reduceAdd, Nat.reduceSub, Nat.reduceLeDiff, Nat.reduceMul, ev_len_sl ty_descOf_22, ev_indexAddr ty_descOf_22, ty_szOf_31, ty_shapeT_31, good_18, ev_slice_sl ty_descOf_22 ty_szOf_31, good_19, keep_11_1, keep_11_3, encL_len, List.length_cons, hlt, hget, hd, le00, ends_some]
theorem tr1_end : Ends (exL K 11 trlp1 (trH [])) fun o S => o = .exit 0 ∧ S.nt = 33 ∧ S.sl 0 = L (encL []) := by
  have hlt : decide ((0 : Int) < ((0 : Nat) : Int)) = false := rfl
  unfold trlp1
  conv in loopAt _ _ => whnf
  rw [exL_loop]
  simp only [go_sem, Nat.reduceLT, reduceIte, reduceCtorEq, Nat.reduceEqDiff, apply_ite (Option.map (outOf _)), Nat.reduceBEq, Nat.reduceAdd, Nat.reduceSub, Nat.reduceLeDiff, Nat.reduceMul, ev_len_sl ty_descOf_22, ev_indexAddr ty_descOf_22, ty_szOf_31, ty_shapeT_31, good_18, ev_slice_sl ty_descOf_22 ty_szOf_31, good_19, keep_11_1, keep_11_3, encL_len, List.length_nil, hlt, ends_some]
theorem tr1_loop : ∀ (l : List Val), l.length ≤ 100000000 → Ends (exL K 11 trlp1 (trH l)) fun o S => o = .exit 0 ∧ S.nt = 33 ∧ S.sl 0 = L (encL (l.dropWhile Sl.isBlank))
  | [], _ => tr1_end
  | v :: r, hl => by
    rw [List.length_cons] at hl
    cases hb : Sl.isBlank v with
    | true =>
      rw [tr1_yes v r (by omega) hb, List.dropWhile_cons, if_pos hb]
      exact tr1_loop r (by omega)
    | false =>
      rw [List.dropWhile_cons, if_neg (by rw [hb]; simp)]
      exact tr1_no v r (by omega) hb
theorem last_val (m : List Val) (k : Int) (t : Tok) (c : List Val) : (encL (m ++ [.mk k t c]))[((m.length : Nat) : Int).toNat]? = some [.int .i64 k, .int .i64 t.kind, .str t.text, .int .i64 t.n, .sl (encL c)] := by
  exact encL_get (m ++ [.mk k t c]) m.length (.mk k t c) (by simp)
theorem cut_last (m : List Val) (v : Val) : (encL (m ++ [v])).take m.length = encL m := by
  rw [encL_app, List.take_append_of_le_length (by rw [encL_len]; exact Nat.le_refl _), List.take_of_length_le (by rw [encL_len]; exact Nat.le_refl _)]
theorem tr3_yes (m : List Val) (v : Val) (hl : m.length ≤ 100000000) (hb : Sl.isBlank v = true) :
    exL K 11 trlp3 (trH (m ++ [v])) = exL K 11 trlp3 (trH m) := by
  obtain ⟨k, t, c⟩ := v
  have hn : (encL (m ++ [.mk k t c])).length = m.length + 1 := by rw [encL_len]; simp
  have hlt : decide ((0 : Int) < (((m.length + 1 : Nat)) : Int)) = true := decide_eq_true (by omega)
  have hw : IntKind.i64.wrap (((m.length + 1 : Nat) : Int) - 1) = (m.length : Int) := by rw [IntWalk.i64_in _ (by omega)]; omega
  have hget := last_val m k t c
  have hcut := cut_last m (.mk k t c)
  have hb1 : ((m.length : Int) ≤ ((m.length + 1 : Nat) : Int)) = True := by rw [eq_iff_iff]; simp; omega
  have hlv := lens_valsK (m ++ [.mk k t c])
  have hd := blank3_den k t c
  rw [hb] at hd
  rw [Int.toNat_natCast] at hget
  unfold trlp3
  conv in loopAt _ _ => whnf
  conv in loopAt _ _ => whnf
  conv in exL _ _ _ (trH (m ++ [.mk k t c])) => rw [exL_loop]
  simp only [go_sem, Nat.reduceLT, reduceIte, reduceCtorEq, Nat.reduceEqDiff, apply_ite (Option.map (outOf _)), Nat.reduceBEq, Nat.reduceAdd, Nat.reduceSub, Nat.reduceLeDiff, Nat.reduceMul, ev_len_sl ty_descOf_22, ev_indexAddr ty_descOf_22, ty_szOf_31, ty_shapeT_31, good_18, ev_slice_sl ty_descOf_22 ty_szOf_31, good_19, keep_11_1, keep_11_3, hn, hlt, hw, Int.natCast_nonneg, Int.toNat_natCast, hget, hd, hb1, hlv, hcut]
  rw [exL_head]
  simp only [go_sem, Nat.reduceLT, reduceIte, reduceCtorEq, Nat.reduceEqDiff, apply_ite (Option.map (outOf _)), Nat.reduceBEq, Nat.reduceAdd, Nat.reduceSub, Nat.reduceLeDiff, Nat.reduceMul, ev_len_sl ty_descOf_22, ev_indexAddr ty_descOf_22, ty_szOf_31, ty_shapeT_31, good_18, ev_slice_sl ty_descOf_22 ty_szOf_31, good_19, keep_11_1, keep_11_3]
theorem tr3_no (m : List Val) (v : Val) (hl : m.length ≤ 100000000) (hb : Sl.isBlank v = false) :
    Ends (exL K 11 trlp3 (trH (m ++ [v]))) fun o S => o = .exit 2 ∧ S.nt = 33 ∧ S.sl 0 = L (encL (m ++ [v])) := by
  obtain ⟨k, t, c⟩ := v
  have hn : (encL (m ++ [.mk k t c])).length = m.length + 1 := by rw [encL_len]; simp
  have hlt : decide ((0 : Int) < (((m.length + 1 : Nat)) : Int)) = true := decide_eq_true (by omega)
  have hw : IntKind.i64.wrap (((m.length + 1 : Nat) : Int) - 1) = (m.length : Int) := by rw [IntWalk.i64_in _ (by omega)]; omega
  have hget := last_val m k t c
  have hd := blank3_den k t c
  rw [hb] at hd
  rw [Int.toNat_natCast] at hget
  unfold trlp3
  conv in loopAt _ _ => whnf
  rw [exL_loop]
  simp only [go_sem, Nat.reduceLT, reduceIte, reduceCtorEq, Nat.reduceEqDiff, apply_ite (Option.map (outOf _)), Nat.reduceBEq, Nat.reduceAdd, Nat.reduceSub, Nat.reduceLeDiff, Nat.reduceMul, ev_len_sl ty_descOf_22, ev_indexAddr ty_descOf_22, ty_szOf_31, ty_shapeT_31, good_18, ev_slice_sl ty_descOf_22 ty_szOf_31, good_19, keep_11_1, keep_11_3, hn, hlt, hw, Int.natCast_nonneg, Int.toNat_natCast, hget, hd, ends_some]
theorem tr3_end : Ends (exL K 11 trlp3 (trH [])) fun o S => o = .exit 2 ∧ S.nt = 33 ∧ S.sl 0 = L (encL []) := by
  have hlt : decide ((0 : Int) < ((0 : Nat) : Int)) = false := rfl
  unfold trlp3
  conv in loopAt _ _ => whnf
  rw [exL_loop]
  simp only [go_sem, Nat.reduceLT, reduceIte, reduceCtorEq, Nat.reduceEqDiff, apply_ite (Option.map (outOf _)), Nat.reduceBEq, Nat.reduceAdd, Nat.reduceSub, Nat.reduceLeDiff, Nat.reduceMul, ev_len_sl ty_descOf_22, ev_indexAddr ty_descOf_22, ty_szOf_31, ty_shapeT_31, good_18, ev_slice_sl ty_descOf_22 ty_szOf_31, good_19, keep_11_1, keep_11_3, encL_len, List.length_nil, hlt, ends_some]
theorem tr3_loop : ∀ (n : Nat) (l : List Val), l.length = n → l.length ≤ 100000000 → Ends (exL K 11 trlp3 (trH l)) fun o S => o = .exit 2 ∧ S.nt = 33 ∧ S.sl 0 = L (encL (l.reverse.dropWhile Sl.isBlank).reverse)
  | 0, l, h, _ => by
    obtain rfl : l = [] := List.eq_nil_of_length_eq_zero h
    exact tr3_end
  | n + 1, l, h, hl => by
    obtain ⟨m, v, rfl⟩ : ∃ m v, l = m ++ [v] := ⟨l.dropLast, l.getLast (fun e => by rw [e] at h; simp at h), (List.dropLast_concat_getLast _).symm⟩
    rw [List.length_append, List.length_singleton] at h hl
    rw [List.reverse_append, List.reverse_singleton, List.singleton_append]
    cases hb : Sl.isBlank v with
    | true =>
      rw [tr3_yes m v (by omega) hb, List.dropWhile_cons, if_pos hb]
      exact tr3_loop n m (by omega) (by omega)
    | false =>
      rw [List.dropWhile_cons, if_neg (by rw [hb]; simp), List.reverse_cons, List.reverse_reverse]
      exact tr3_no m v (by omega) hb
theorem Clone_den (l : List Val) (hl : l.length ≤ 1000000000) : den K 19 [L (encL l)] [] = some (.ret (L (encL l)) []) := by
  refine prim_run (F := pClone) rfl ?_
  show (if (encL l).length ≤ 1000000000 ∧ (encL l).all (fun el => el.length == 5) then _ else none) = _
  have h2 : (encL l).all (fun el => el.length == 5) = true := lens_valsK l
  rw [if_pos ⟨by rw [encL_len]; exact hl, h2⟩]
theorem TrimS_den (l : List Val) (hl : l.length ≤ 100000000) : den K 11 [L (encL l)] [] = some (.ret (L (encL (Sl.trim l))) []) := by
  have h1 := tr1_loop l hl
  have hlen := (List.dropWhile_sublist Sl.isBlank (l := l)).length_le
  have h3 := tr3_loop _ (l.dropWhile Sl.isBlank) rfl (by omega)
  unfold trlp1 at h1
  conv at h1 in loopAt _ _ => whnf
  obtain ⟨o, S, w, rfl, hn, s0⟩ := h1
  unfold trlp3 at h3
  conv at h3 in loopAt _ _ => whnf
  obtain ⟨o', S', w', rfl, hn', s0'⟩ := h3
  have hc := Clone_den (Sl.trim l) (by have := Sl.trim_len l; omega)
  have e : (((l.dropWhile Sl.isBlank).reverse).dropWhile Sl.isBlank).reverse = Sl.trim l := rfl
  rw [e] at s0'
  refine den_run rfl rfl Tryd.func11 rfl Tryd.ntmps11 ⟨by simp, by simp [LK]⟩ ?_
  have hr : Tryd.f11.results = #[.tmp 2] := rfl
  simp only [go_sem, Nat.reduceLT, reduceIte, reduceCtorEq, Nat.reduceEqDiff, apply_ite (Option.map (outOf _)), Nat.reduceBEq, Nat.reduceAdd, Nat.reduceSub, Nat.reduceLeDiff, Nat.reduceMul, ev_len_sl ty_descOf_22, ev_indexAddr ty_descOf_22, ty_szOf_31, ty_shapeT_31, good_18, ev_slice_sl ty_descOf_22 ty_szOf_31, good_19, keep_11_1, keep_11_3]
  rw [exL_head]
  simp only [go_sem, Nat.reduceLT, reduceIte, reduceCtorEq, Nat.reduceEqDiff, apply_ite (Option.map (outOf _)), Nat.reduceBEq, Nat.reduceAdd, Nat.reduceSub, Nat.reduceLeDiff, Nat.reduceMul, ev_len_sl ty_descOf_22, ev_indexAddr ty_descOf_22, ty_szOf_31, ty_shapeT_31, good_18, ev_slice_sl ty_descOf_22 ty_szOf_31, good_19, keep_11_1, keep_11_3]
  erw [w]
  simp only [go_sem, Nat.reduceLT, reduceIte, reduceCtorEq, Nat.reduceEqDiff, apply_ite (Option.map (outOf _)), Nat.reduceBEq, Nat.reduceAdd, Nat.reduceSub, Nat.reduceLeDiff, Nat.reduceMul, ev_len_sl ty_descOf_22, ev_indexAddr ty_descOf_22, ty_szOf_31, ty_shapeT_31, good_18, ev_slice_sl ty_descOf_22 ty_szOf_31, good_19, keep_11_1, keep_11_3, hn, s0]
  rw [exL_head]
  simp only [go_sem, Nat.reduceLT, reduceIte, reduceCtorEq, Nat.reduceEqDiff, apply_ite (Option.map (outOf _)), Nat.reduceBEq, Nat.reduceAdd, Nat.reduceSub, Nat.reduceLeDiff, Nat.reduceMul, ev_len_sl ty_descOf_22, ev_indexAddr ty_descOf_22, ty_szOf_31, ty_shapeT_31, good_18, ev_slice_sl ty_descOf_22 ty_szOf_31, good_19, keep_11_1, keep_11_3, hn, s0]
  erw [w']
  simp only [go_sem, Nat.reduceLT, reduceIte, reduceCtorEq, Nat.reduceEqDiff, apply_ite (Option.map (outOf _)), Nat.reduceBEq, Nat.reduceAdd, Nat.reduceSub, Nat.reduceLeDiff, Nat.reduceMul, ev_len_sl ty_descOf_22, ev_indexAddr ty_descOf_22, ty_szOf_31, ty_shapeT_31, good_18, ev_slice_sl ty_descOf_22 ty_szOf_31, good_19, keep_11_1, keep_11_3, hr, hn', s0', hc]
theorem isSign_eq (s : List UInt8) : SR.isSign s = Sl.isSign s := by funext v; cases v; rfl
theorem isBlank_eq : SR.isBlank = Sl.isBlank := by funext v; cases v; rfl
theorem cutL_cut (p : Val → Bool) : ∀ l : List Val, cutL p l = Sl.cut p l
  | [] => rfl
  | v :: l => by
    rw [cutL, Sl.cut, cutL_cut p l]
    all_goals (cases Sl.cut p l <;> rfl)
theorem cut_at (s : List UInt8) : ∀ l : List Val, Sl.cut (Sl.isSign s) l = Sl.at_ s l
  | [] => rfl
  | v :: l => by
    rw [Sl.cut, Sl.at_, cut_at s l]
    all_goals (cases Sl.at_ s l <;> rfl)
theorem AtS_den (l : List Val) (s : List UInt8) (hl : Ne.size l ≤ 100000000) : den K 13 [L (encL l), T s] [] = some (.ret (L (encP (Sl.at_ s l))) []) := by
  refine prim_run (F := pAt) rfl ?_
  have hlen := Ne.length_size l
  show (match decVals (encL l) with | some vs => if vs.length ≤ 100000000 then some ((.c (.pv (.sl (encPP (cutL (SR.isSign s) vs)))) : AV), ([] : List (List CV))) else none | none => none) = _
  rw [dec_encL l (by omega)]
  simp only
  rw [if_pos (by omega), isSign_eq, cutL_cut, cut_at]
theorem WordsS_den (l : List Val) (hl : Ne.size l ≤ 100000000) : den K 7 [L (encL l)] [] = some (.ret (L (encP (Sl.words l))) []) := by
  refine prim_run (F := pWords) rfl ?_
  have hlen := Ne.length_size l
  show (match decVals (encL l) with | some vs => if vs.length ≤ 100000000 then some ((.c (.pv (.sl (encPP (full (cutL SR.isBlank vs))))) : AV), ([] : List (List CV))) else none | none => none) = _
  rw [dec_encL l (by omega)]
  simp only
  rw [if_pos (by omega), isBlank_eq, cutL_cut]; rfl
end Go.Abs
namespace Go.Abs
open Go Go.Proofs
set_option maxRecDepth 10000
attribute [local go_sem] exL_seq exL_region exL_cond exL_block exL_scope exL_ret exL_skip exL_exit runRegion runOps stepOp guardA absOp takeOver opd avOf cvOf St.degAt St.put okPV okVal okAV absBin intBin strBin boolBin setBoxes if_true Bool.false_eq_true if_false Option.map_some Option.map_none Option.bind_some Option.bind_none thenO outOf upd List.toList_toArray isOwn steal appArgs inApps AV.deg CV.deg AV.gv AV.isIter absNext some_bne List.length_nil List.length_cons List.filterMap_cons List.filterMap_nil beq_iff_eq List.getElem?_cons_zero List.getElem?_cons_succ Option.getD_some K_hook hookB Bool.false_and Bool.and_false Bool.and_self K_P K_own absCall doCall getBoxes lend back idx dedup AV.ren CV.ren TV.ren AV.ptrs CV.ptrs zipBox AV.flat CV.flat absLoad absStore cellsOfAV setAt newBox markB bldTypes absFieldAddr absField absExtract absAssert noAssert absMkIface ifcOf CV.pv? content pushHead ownT fillCells reps pvs chunks enterSt leave resOf resVars resVar outBoxes lentOnly TV.deg TV.av LK CV.plain CV.noBld nilBin absUn bound List.map_cons List.map_nil List.all_cons List.all_nil List.any_cons List.any_nil List.contains_cons List.contains_nil List.elem_cons List.elem_nil List.cons_append List.nil_append List.append_nil List.flatMap_cons List.flatMap_nil List.zip_cons_cons List.zip_nil_left List.zip_nil_right List.take_succ_cons List.take_zero List.take_nil List.drop_succ_cons List.drop_zero List.drop_nil List.isEmpty_nil List.isEmpty_cons Bool.and_true Bool.true_and Bool.or_true Bool.true_or Bool.or_false Bool.false_or Bool.not_true Bool.not_false Nat.add_zero Nat.zero_add Option.isNone_none Option.isNone_some Option.getD_none true_and and_true not_true_eq_false not_false_eq_true decide_true decide_false Nat.le_refl and_self Bool.not_eq_true Nat.sub_self or_true true_or Option.some.injEq List.length_map List.nil_eq and_false false_and AV.live CV.live CV.liveIn K_keep firstReg Option.orElse_some Option.orElse_none head keepSlots keepBoxes Int.lt_irrefl List.length_append ite_self memOK logOps opKey lentBoxes Key.clash Key.sees Key.writes Nat.lt_irrefl gt_iff_lt nobox_at bot_at false_or or_false beq_self_eq_true Bool.true_beq Bool.false_beq
theorem encP_len (a : List (List Val)) : (encP a).length = a.length := List.length_map ..
theorem part_at (a : List (List Val)) (i : Nat) (p : List Val) (h : a[i]? = some p) : (encP a)[(i : Int).toNat]? = some [.sl (encL p)] := by
  rw [Int.toNat_natCast, List.getElem?_map, h]; rfl
abbrev lsH (a : List (List Val)) (i : Nat) : St := { sl := upd (upd (upd bot 5 (I i)) 1 (L (encP a))) 0 (L (encP a)), bx := nobox, nt := 27 }
noncomputable def lslp : Code := .loop (loopAt Tryd.f10 4)
theorem ls_yes (a : List (List Val)) (i : Nat) (p : List Val) (ha : a.length ≤ 100000000) (hi : a[i]? = some p) (hp : Ne.size p ≤ 1000000) :
    exL K 10 lslp (lsH a i) = exL K 10 lslp (lsH a (i + 1)) := by
  have hil : i < a.length := (List.getElem?_eq_some_iff.1 hi).1
  have hlt : decide ((i : Int) < (a.length : Int)) = true := decide_eq_true (by omega)
  have hget := part_at a i p hi
  have hw : IntKind.i64.wrap ((i : Int) + 1) = ((i + 1 : Nat) : Int) := wrap_nat i (by omega)
  have hd := VSame2_den p hp p hp
  unfold VSame2Den at hd
  rw [same_refl] at hd
  unfold lslp
  conv in loopAt _ _ => whnf
  conv in loopAt _ _ => whnf
  conv in exL _ _ _ (lsH a i) => rw [exL_loop]
  simp only [go_sem, Nat.reduceLT, reduceIte, reduceCtorEq, Nat.reduceEqDiff, apply_ite (Option.map (outOf _)), Nat.reduceBEq, Nat.reduceAdd, Nat.reduceSub, Nat.reduceLeDiff, Nat.reduceMul, ev_len_sl ty_descOf_25, ev_indexAddr ty_descOf_25, ty_szOf_22, ty_shapeT_22, good_9, keep_10_4, encP_len, hlt, hget, Int.natCast_nonneg, hw, hd]
  rw [exL_head]
  simp only [go_sem, Nat.reduceLT, reduceIte, reduceCtorEq, Nat.reduceEqDiff, apply_ite (Option.map (outOf _)), Nat.reduceBEq, Nat.reduceAdd, Nat.reduceSub, Nat.reduceLeDiff, Nat.reduceMul, ev_len_sl ty_descOf_25, ev_indexAddr ty_descOf_25, ty_szOf_22, ty_shapeT_22, good_9, keep_10_4]
theorem ls_end (a : List (List Val)) : Ends (exL K 10 lslp (lsH a a.length)) fun o S => o = .exit 0 ∧ S.nt = 27 := by
  unfold lslp
  conv in loopAt _ _ => whnf
  rw [exL_loop]
  simp only [go_sem, Nat.reduceLT, reduceIte, reduceCtorEq, Nat.reduceEqDiff, apply_ite (Option.map (outOf _)), Nat.reduceBEq, Nat.reduceAdd, Nat.reduceSub, Nat.reduceLeDiff, Nat.reduceMul, ev_len_sl ty_descOf_25, ev_indexAddr ty_descOf_25, ty_szOf_22, ty_shapeT_22, good_9, keep_10_4, encP_len, ends_some]
theorem ls_loop (a : List (List Val)) (ha : a.length ≤ 100000000) (hp : ∀ p ∈ a, Ne.size p ≤ 1000000) : ∀ (rest : List (List Val)) (i : Nat), a.drop i = rest → i ≤ a.length → Ends (exL K 10 lslp (lsH a i)) fun o S => o = .exit 0 ∧ S.nt = 27
  | [], i, hd, hi => by
    have hin : i = a.length := by
      have := List.drop_eq_nil_iff.1 hd
      omega
    subst hin
    exact ls_end a
  | p :: rest, i, hd, hi => by
    obtain ⟨g1, g2, g3⟩ := drop_cons hd
    rw [ls_yes a i p ha g1 (hp p (List.mem_of_getElem? g1))]
    exact ls_loop a ha hp rest (i + 1) g2 (by omega)
theorem Lists_den (a : List (List Val)) (ha : a.length ≤ 100000000) (hp : ∀ p ∈ a, Ne.size p ≤ 1000000) : den K 10 [L (encP a), L (encP a)] [] = some (.ret (B true) []) := by
  have h := ls_loop a ha hp a 0 rfl (Nat.zero_le _)
  unfold lslp at h
  conv at h in loopAt _ _ => whnf
  obtain ⟨o, S, w, rfl, hn⟩ := h
  have hne : (((a.length : Int)) != (a.length : Int)) = false := by simp
  refine den_run rfl rfl Tryd.func10 rfl Tryd.ntmps10 ⟨by simp, by simp [LK]⟩ ?_
  have hr : Tryd.f10.results = #[.tmp 4] := rfl
  simp only [go_sem, Nat.reduceLT, reduceIte, reduceCtorEq, Nat.reduceEqDiff, apply_ite (Option.map (outOf _)), Nat.reduceBEq, Nat.reduceAdd, Nat.reduceSub, Nat.reduceLeDiff, Nat.reduceMul, ev_len_sl ty_descOf_25, ev_indexAddr ty_descOf_25, ty_szOf_22, ty_shapeT_22, good_9, keep_10_4, encP_len, hne]
  rw [exL_head]
  simp only [go_sem, Nat.reduceLT, reduceIte, reduceCtorEq, Nat.reduceEqDiff, apply_ite (Option.map (outOf _)), Nat.reduceBEq, Nat.reduceAdd, Nat.reduceSub, Nat.reduceLeDiff, Nat.reduceMul, ev_len_sl ty_descOf_25, ev_indexAddr ty_descOf_25, ty_szOf_22, ty_shapeT_22, good_9, keep_10_4]
  erw [w]
  simp only [go_sem, Nat.reduceLT, reduceIte, reduceCtorEq, Nat.reduceEqDiff, apply_ite (Option.map (outOf _)), Nat.reduceBEq, Nat.reduceAdd, Nat.reduceSub, Nat.reduceLeDiff, Nat.reduceMul, ev_len_sl ty_descOf_25, ev_indexAddr ty_descOf_25, ty_szOf_22, ty_shapeT_22, good_9, keep_10_4, hr, hn]
end Go.Abs
namespace Go.Abs
open Go Go.Proofs
set_option maxRecDepth 10000
attribute [local go_sem] exL_seq exL_region exL_cond exL_block exL_scope exL_ret exL_skip exL_exit runRegion runOps stepOp guardA absOp takeOver opd avOf cvOf St.degAt St.put okPV okVal okAV absBin intBin strBin boolBin setBoxes if_true Bool.false_eq_true if_false Option.map_some Option.map_none Option.bind_some Option.bind_none thenO outOf upd List.toList_toArray isOwn steal appArgs inApps AV.deg CV.deg AV.gv AV.isIter absNext some_bne List.length_nil List.length_cons List.filterMap_cons List.filterMap_nil beq_iff_eq List.getElem?_cons_zero List.getElem?_cons_succ Option.getD_some K_hook hookB Bool.false_and Bool.and_false Bool.and_self K_P K_own absCall doCall getBoxes lend back idx dedup AV.ren CV.ren TV.ren AV.ptrs CV.ptrs zipBox AV.flat CV.flat absLoad absStore cellsOfAV setAt newBox markB bldTypes absFieldAddr absField absExtract absAssert noAssert absMkIface ifcOf CV.pv? content pushHead ownT fillCells reps pvs chunks enterSt leave resOf resVars resVar outBoxes lentOnly TV.deg TV.av LK CV.plain CV.noBld nilBin absUn bound List.map_cons List.map_nil List.all_cons List.all_nil List.any_cons List.any_nil List.contains_cons List.contains_nil List.elem_cons List.elem_nil List.cons_append List.nil_append List.append_nil List.flatMap_cons List.flatMap_nil List.zip_cons_cons List.zip_nil_left List.zip_nil_right List.take_succ_cons List.take_zero List.take_nil List.drop_succ_cons List.drop_zero List.drop_nil List.isEmpty_nil List.isEmpty_cons Bool.and_true Bool.true_and Bool.or_true Bool.true_or Bool.or_false Bool.false_or Bool.not_true Bool.not_false Nat.add_zero Nat.zero_add Option.isNone_none Option.isNone_some Option.getD_none true_and and_true not_true_eq_false not_false_eq_true decide_true decide_false Nat.le_refl and_self Bool.not_eq_true Nat.sub_self or_true true_or Option.some.injEq List.length_map List.nil_eq and_false false_and AV.live CV.live CV.liveIn K_keep firstReg Option.orElse_some Option.orElse_none head keepSlots keepBoxes Int.lt_irrefl List.length_append ite_self memOK logOps opKey lentBoxes Key.clash Key.sees Key.writes Nat.lt_irrefl gt_iff_lt nobox_at bot_at false_or or_false beq_self_eq_true Bool.true_beq Bool.false_beq
def FewDen (l : List Val) : Prop := ∀ deep left : Int, 0 ≤ left → left ≤ 1000000 → 0 ≤ deep → deep ≤ 1000 → den K 16 [L (encL l), I left, I deep] [] = some (.ret (I (Ne.few deep left l)) [])
abbrev fewH (l : List Val) (left deep : Int) (i : Nat) : St := { sl := upd (upd (upd (upd bot 7 (I i)) 2 (I deep)) 1 (I left)) 0 (L (encL l)), bx := nobox, nt := 51 }
theorem few_loop (l : List Val) (hin : ∀ k t l', Val.mk k t l' ∈ l → FewDen l') (deep : Int) (hd1 : 1 ≤ deep) (hd2 : deep ≤ 1000) : ∀ (rest : List Val) (i : Nat) (left : Int), l.drop i = rest → i ≤ l.length → -1 ≤ left → i + left ≤ 1000000 →
    Ends (exL K 16 (.loop (loopAt Tryd.f16 4)) (fewH l left deep i)) fun o S => (o = .exit 0 ∧ S.nt = 51 ∧ S.sl 1 = I (Ne.fewL deep left rest)) ∨ (o = .ret ∧ S.sl 6 = I (Ne.fewL deep left rest))
  | [], i, left, hd, hi, h1, h2 => by
    have hin : i = l.length := by
      have := List.drop_eq_nil_iff.1 hd
      omega
    subst hin
    conv in loopAt _ _ => whnf
    rw [exL_loop]
    simp only [go_sem, Nat.reduceLT, reduceIte, reduceCtorEq, Nat.reduceEqDiff, apply_ite (Option.map (outOf _)), Nat.reduceBEq, Nat.reduceAdd, Nat.reduceSub, Nat.reduceLeDiff, Nat.reduceMul, ev_len_sl ty_descOf_22, ev_indexAddr ty_descOf_22, ty_szOf_31, ty_fieldOff_31_1, ty_szOf_29, ty_fieldOff_29_1, ty_szOf_9, ty_shapeT_9, ev_len_str ty_descOf_9, ty_fieldOff_31_2, ty_szOf_22, ty_shapeT_22, good_16, keep_16_4, ends_some, encL_len, Ne.fewL]
  | .mk k t l' :: rest, i, left, hd, hi, h1, h2 => by
    obtain ⟨g1, g2, g3⟩ := drop_cons hd
    have hmem : Val.mk k t l' ∈ l := List.mem_of_getElem? g1
    have hf := hin k t l' hmem
    have hlt : decide ((i : Int) < (l.length : Int)) = true := decide_eq_true (by omega)
    have hget := val_at l i k t l' g1
    rw [fewL_cons]
    conv in loopAt _ _ => whnf
    rw [exL_loop]
    by_cases hneg : left < 0
    · have e1 : decide (0 ≤ left) = false := decide_eq_false (by omega)
      rw [if_pos hneg]
      simp only [go_sem, Nat.reduceLT, reduceIte, reduceCtorEq, Nat.reduceEqDiff, apply_ite (Option.map (outOf _)), Nat.reduceBEq, Nat.reduceAdd, Nat.reduceSub, Nat.reduceLeDiff, Nat.reduceMul, ev_len_sl ty_descOf_22, ev_indexAddr ty_descOf_22, ty_szOf_31, ty_fieldOff_31_1, ty_szOf_29, ty_fieldOff_29_1, ty_szOf_9, ty_shapeT_9, ev_len_str ty_descOf_9, ty_fieldOff_31_2, ty_szOf_22, ty_shapeT_22, good_16, keep_16_4, ends_some, encL_len, hlt, e1]
    · have e1 : decide (0 ≤ left) = true := decide_eq_true (by omega)
      rw [if_neg hneg]
      have hw : IntKind.i64.wrap (left - 1) = left - 1 := IntWalk.i64_in _ (by omega)
      have hwi : IntKind.i64.wrap ((i : Int) + 1) = ((i + 1 : Nat) : Int) := wrap_nat i (by omega)
      by_cases ht : 100 < t.text.length
      · have e2 : decide ((100 : Int) < (t.text.length : Int)) = true := decide_eq_true (by omega)
        rw [if_pos ht]
        simp only [go_sem, Nat.reduceLT, reduceIte, reduceCtorEq, Nat.reduceEqDiff, apply_ite (Option.map (outOf _)), Nat.reduceBEq, Nat.reduceAdd, Nat.reduceSub, Nat.reduceLeDiff, Nat.reduceMul, ev_len_sl ty_descOf_22, ev_indexAddr ty_descOf_22, ty_szOf_31, ty_fieldOff_31_1, ty_szOf_29, ty_fieldOff_29_1, ty_szOf_9, ty_shapeT_9, ev_len_str ty_descOf_9, ty_fieldOff_31_2, ty_szOf_22, ty_shapeT_22, good_16, keep_16_4, ends_some, encL_len, hlt, hget, Int.natCast_nonneg, e1, e2, hw]
      · have e2 : decide ((100 : Int) < (t.text.length : Int)) = false := decide_eq_false (by omega)
        rw [if_neg ht]
        by_cases h0 : 0 ≤ left - 1
        · have e3 : decide (0 ≤ left - 1) = true := decide_eq_true h0
          cases he : l'.isEmpty
          · rw [if_pos ⟨h0, rfl⟩]
            have e4 : decide ((0 : Int) < (l'.length : Int)) = true := decide_eq_true (by cases l' with | nil => cases he | cons x y => simp only [List.length_cons]; omega)
            have hwd : IntKind.i64.wrap (deep - 1) = deep - 1 := IntWalk.i64_in _ (by omega)
            have hfd := hf (deep - 1) (left - 1) h0 (by omega) (by omega) (by omega)
            have hb := (few_bound l' (deep - 1) (left - 1) (by omega)).2.2 h0
            have ih := few_loop l hin deep hd1 hd2 rest (i + 1) (Ne.few (deep - 1) (left - 1) l') g2 (by omega) hb.1 (by omega)
            conv at ih in loopAt _ _ => whnf
            simp only [go_sem, Nat.reduceLT, reduceIte, reduceCtorEq, Nat.reduceEqDiff, apply_ite (Option.map (outOf _)), Nat.reduceBEq, Nat.reduceAdd, Nat.reduceSub, Nat.reduceLeDiff, Nat.reduceMul, ev_len_sl ty_descOf_22, ev_indexAddr ty_descOf_22, ty_szOf_31, ty_fieldOff_31_1, ty_szOf_29, ty_fieldOff_29_1, ty_szOf_9, ty_shapeT_9, ev_len_str ty_descOf_9, ty_fieldOff_31_2, ty_szOf_22, ty_shapeT_22, good_16, keep_16_4, encL_len, hlt, hget, Int.natCast_nonneg, e1, e2, e3, e4, hw, hwd, hwi, hfd]
            rw [exL_head]
            simp only [go_sem, Nat.reduceLT, reduceIte, reduceCtorEq, Nat.reduceEqDiff, apply_ite (Option.map (outOf _)), Nat.reduceBEq, Nat.reduceAdd, Nat.reduceSub, Nat.reduceLeDiff, Nat.reduceMul, ev_len_sl ty_descOf_22, ev_indexAddr ty_descOf_22, ty_szOf_31, ty_fieldOff_31_1, ty_szOf_29, ty_fieldOff_29_1, ty_szOf_9, ty_shapeT_9, ev_len_str ty_descOf_9, ty_fieldOff_31_2, ty_szOf_22, ty_shapeT_22, good_16, keep_16_4]
            exact ih
          · rw [if_neg (fun h => by cases h.2)]
            have e4 : decide ((0 : Int) < (l'.length : Int)) = false := decide_eq_false (by cases l' with | nil => simp | cons x y => cases he)
            have ih := few_loop l hin deep hd1 hd2 rest (i + 1) (left - 1) g2 (by omega) (by omega) (by omega)
            conv at ih in loopAt _ _ => whnf
            simp only [go_sem, Nat.reduceLT, reduceIte, reduceCtorEq, Nat.reduceEqDiff, apply_ite (Option.map (outOf _)), Nat.reduceBEq, Nat.reduceAdd, Nat.reduceSub, Nat.reduceLeDiff, Nat.reduceMul, ev_len_sl ty_descOf_22, ev_indexAddr ty_descOf_22, ty_szOf_31, ty_fieldOff_31_1, ty_szOf_29, ty_fieldOff_29_1, ty_szOf_9, ty_shapeT_9, ev_len_str ty_descOf_9, ty_fieldOff_31_2, ty_szOf_22, ty_shapeT_22, good_16, keep_16_4, encL_len, hlt, hget, Int.natCast_nonneg, e1, e2, e3, e4, hw, hwi]
            rw [exL_head]
            simp only [go_sem, Nat.reduceLT, reduceIte, reduceCtorEq, Nat.reduceEqDiff, apply_ite (Option.map (outOf _)), Nat.reduceBEq, Nat.reduceAdd, Nat.reduceSub, Nat.reduceLeDiff, Nat.reduceMul, ev_len_sl ty_descOf_22, ev_indexAddr ty_descOf_22, ty_szOf_31, ty_fieldOff_31_1, ty_szOf_29, ty_fieldOff_29_1, ty_szOf_9, ty_shapeT_9, ev_len_str ty_descOf_9, ty_fieldOff_31_2, ty_szOf_22, ty_shapeT_22, good_16, keep_16_4]
            exact ih
        · have e3 : decide (0 ≤ left - 1) = false := decide_eq_false h0
          rw [if_neg (fun h => h0 h.1)]
          have ih := few_loop l hin deep hd1 hd2 rest (i + 1) (left - 1) g2 (by omega) (by omega) (by omega)
          conv at ih in loopAt _ _ => whnf
          simp only [go_sem, Nat.reduceLT, reduceIte, reduceCtorEq, Nat.reduceEqDiff, apply_ite (Option.map (outOf _)), Nat.reduceBEq, Nat.reduceAdd, Nat.reduceSub, Nat.reduceLeDiff, Nat.reduceMul, ev_len_sl ty_descOf_22, ev_indexAddr ty_descOf_22, ty_szOf_31, ty_fieldOff_31_1, ty_szOf_29, ty_fieldOff_29_1, ty_szOf_9, ty_shapeT_9, ev_len_str ty_descOf_9, ty_fieldOff_31_2, ty_szOf_22, ty_shapeT_22, good_16, keep_16_4, encL_len, hlt, hget, Int.natCast_nonneg, e1, e2, e3, hw, hwi]
          rw [exL_head]
          simp only [go_sem, Nat.reduceLT, reduceIte, reduceCtorEq, Nat.reduceEqDiff, apply_ite (Option.map (outOf _)), Nat.reduceBEq, Nat.reduceAdd, Nat.reduceSub, Nat.reduceLeDiff, Nat.reduceMul, ev_len_sl ty_descOf_22, ev_indexAddr ty_descOf_22, ty_szOf_31, ty_fieldOff_31_1, ty_szOf_29, ty_fieldOff_29_1, ty_szOf_9, ty_shapeT_9, ev_len_str ty_descOf_9, ty_fieldOff_31_2, ty_szOf_22, ty_shapeT_22, good_16, keep_16_4]
          exact ih
theorem few2_den (l : List Val) : FewDen l := by
  refine ind_list (fun l hin => ?_) l
  intro deep left h1 h2 h3 h4
  refine den_run rfl rfl Tryd.func16 rfl Tryd.ntmps16 ⟨by simp, by simp [LK]⟩ ?_
  have hr : Tryd.f16.results = #[.tmp 6] := rfl
  unfold Ne.few
  by_cases hd : deep < 1
  · have e0 : decide (deep < 1) = true := decide_eq_true hd
    rw [if_pos hd]
    simp only [go_sem, Nat.reduceLT, reduceIte, reduceCtorEq, Nat.reduceEqDiff, apply_ite (Option.map (outOf _)), Nat.reduceBEq, Nat.reduceAdd, Nat.reduceSub, Nat.reduceLeDiff, Nat.reduceMul, ev_len_sl ty_descOf_22, ev_indexAddr ty_descOf_22, ty_szOf_31, ty_fieldOff_31_1, ty_szOf_29, ty_fieldOff_29_1, ty_szOf_9, ty_shapeT_9, ev_len_str ty_descOf_9, ty_fieldOff_31_2, ty_szOf_22, ty_shapeT_22, good_16, keep_16_4, hr, e0]
  · have e0 : decide (deep < 1) = false := decide_eq_false hd
    rw [if_neg hd]
    have h := few_loop l hin deep (by omega) h4 l 0 left rfl (Nat.zero_le _) (by omega) (by omega)
    conv at h in loopAt _ _ => whnf
    obtain ⟨o, S', w, hq⟩ := h
    simp only [go_sem, Nat.reduceLT, reduceIte, reduceCtorEq, Nat.reduceEqDiff, apply_ite (Option.map (outOf _)), Nat.reduceBEq, Nat.reduceAdd, Nat.reduceSub, Nat.reduceLeDiff, Nat.reduceMul, ev_len_sl ty_descOf_22, ev_indexAddr ty_descOf_22, ty_szOf_31, ty_fieldOff_31_1, ty_szOf_29, ty_fieldOff_29_1, ty_szOf_9, ty_shapeT_9, ev_len_str ty_descOf_9, ty_fieldOff_31_2, ty_szOf_22, ty_shapeT_22, good_16, keep_16_4, e0]
    rw [exL_head]
    simp only [go_sem, Nat.reduceLT, reduceIte, reduceCtorEq, Nat.reduceEqDiff, apply_ite (Option.map (outOf _)), Nat.reduceBEq, Nat.reduceAdd, Nat.reduceSub, Nat.reduceLeDiff, Nat.reduceMul, ev_len_sl ty_descOf_22, ev_indexAddr ty_descOf_22, ty_szOf_31, ty_fieldOff_31_1, ty_szOf_29, ty_fieldOff_29_1, ty_szOf_9, ty_shapeT_9, ev_len_str ty_descOf_9, ty_fieldOff_31_2, ty_szOf_22, ty_shapeT_22, good_16, keep_16_4]
    erw [w]
    rcases hq with ⟨rfl, hn, hv⟩ | ⟨rfl, hv⟩
    · simp only [go_sem, Nat.reduceLT, reduceIte, reduceCtorEq, Nat.reduceEqDiff, apply_ite (Option.map (outOf _)), Nat.reduceBEq, Nat.reduceAdd, Nat.reduceSub, Nat.reduceLeDiff, Nat.reduceMul, ev_len_sl ty_descOf_22, ev_indexAddr ty_descOf_22, ty_szOf_31, ty_fieldOff_31_1, ty_szOf_29, ty_fieldOff_29_1, ty_szOf_9, ty_shapeT_9, ev_len_str ty_descOf_9, ty_fieldOff_31_2, ty_szOf_22, ty_shapeT_22, good_16, keep_16_4, hr, hn, hv]
    · simp only [go_sem, Nat.reduceLT, reduceIte, reduceCtorEq, Nat.reduceEqDiff, apply_ite (Option.map (outOf _)), Nat.reduceBEq, Nat.reduceAdd, Nat.reduceSub, Nat.reduceLeDiff, Nat.reduceMul, ev_len_sl ty_descOf_22, ev_indexAddr ty_descOf_22, ty_szOf_31, ty_fieldOff_31_1, ty_szOf_29, ty_fieldOff_29_1, ty_szOf_9, ty_shapeT_9, ev_len_str ty_descOf_9, ty_fieldOff_31_2, ty_szOf_22, ty_shapeT_22, good_16, keep_16_4, hr, hv]
theorem SmallV_den (l : List Val) (m : Int) (h1 : 0 ≤ m) (h2 : m ≤ 1000000) : den K 6 [L (encL l), I m] [] = some (.ret (B (decide (0 ≤ Ne.few 100 m l))) []) := by
  have h := few2_den l 100 m h1 h2 (by omega) (by omega)
  refine den_run rfl rfl Tryd.func6 rfl Tryd.ntmps6 ⟨by simp, by simp [LK]⟩ ?_
  have hr : Tryd.f6.results = #[.tmp 4] := rfl
  simp only [go_sem, Nat.reduceLT, reduceIte, reduceCtorEq, Nat.reduceEqDiff, apply_ite (Option.map (outOf _)), Nat.reduceBEq, Nat.reduceAdd, Nat.reduceSub, Nat.reduceLeDiff, Nat.reduceMul, good_16, hr, h]
end Go.Abs
namespace Go.Abs
theorem cut_sizes (p : Val → Bool) : ∀ l : List Val, ∀ q ∈ Sl.cut p l, Ne.size q ≤ Ne.size l
  | [], q, hq => by
    rw [Sl.cut, List.mem_singleton] at hq
    subst hq; exact Nat.le_refl _
  | v :: l, q, hq => by
    rw [Ne.size]
    cases h : p v with
    | true =>
      rw [Sl.cut_yes h] at hq
      rcases List.mem_cons.1 hq with rfl | hq
      · rw [Ne.size]; omega
      · have := cut_sizes p l q hq
        omega
    | false =>
      obtain ⟨r, rs, e⟩ := Sl.cut_ne p l
      rw [Sl.cut_no h e] at hq
      rcases List.mem_cons.1 hq with rfl | hq
      · have := cut_sizes p l r (by rw [e]; simp)
        rw [Ne.size]; omega
      · have := cut_sizes p l q (by rw [e]; simp [hq])
        omega
theorem words_sizes (l : List Val) : ∀ q ∈ Sl.words l, Ne.size q ≤ Ne.size l := fun q hq => cut_sizes _ l q (by unfold Sl.words Sl.fulls at hq; exact (List.mem_filter.1 hq).1)
theorem size_app : ∀ a b : List Val, Ne.size (a ++ b) = Ne.size a + Ne.size b
  | [], b => by rw [List.nil_append, Ne.size]; omega
  | v :: a, b => by rw [List.cons_append, Ne.size, Ne.size, size_app a b]; omega
theorem size_filter (p : Val → Bool) : ∀ l : List Val, Ne.size (l.filter p) ≤ Ne.size l
  | [] => Nat.le_refl _
  | v :: l => by
    have := size_filter p l
    rw [List.filter_cons]
    split
    · rw [Ne.size, Ne.size]; omega
    · rw [Ne.size]; omega
theorem size_dropWhile (p : Val → Bool) : ∀ l : List Val, Ne.size (l.dropWhile p) ≤ Ne.size l
  | [] => Nat.le_refl _
  | v :: l => by
    have := size_dropWhile p l
    rw [List.dropWhile_cons]
    split
    · rw [Ne.size]; omega
    · exact Nat.le_refl _
theorem size_rev : ∀ l : List Val, Ne.size l.reverse = Ne.size l
  | [] => rfl
  | v :: l => by rw [List.reverse_cons, size_app, size_rev l, Ne.size, Ne.size, Ne.size]; omega
theorem size_trim (l : List Val) : Ne.size (Sl.trim l) ≤ Ne.size l := by
  unfold Sl.trim
  rw [size_rev]
  refine Nat.le_trans (size_dropWhile _ _) ?_
  rw [size_rev]
  exact size_dropWhile _ _
end Go.Abs
namespace Go.Abs
open Go Go.Proofs
set_option maxRecDepth 100000
theorem fixed3_run : callN K 400 5 [] [] = some (.ret (B true) []) := by kernel_rfl
theorem fixed3_den : den K 5 [] [] = some (.ret (B true) []) := den_iff.2 ⟨400, fixed3_run⟩
end Go.Abs
namespace Go.Abs
open Go Go.Proofs
set_option maxRecDepth 10000
attribute [local go_sem] exL_seq exL_region exL_cond exL_block exL_scope exL_ret exL_skip exL_exit runRegion runOps stepOp guardA absOp takeOver opd avOf cvOf St.degAt St.put okPV okVal okAV absBin intBin strBin boolBin setBoxes if_true Bool.false_eq_true if_false Option.map_some Option.map_none Option.bind_some Option.bind_none thenO outOf upd List.toList_toArray isOwn steal appArgs inApps AV.deg CV.deg AV.gv AV.isIter absNext some_bne List.length_nil List.length_cons List.filterMap_cons List.filterMap_nil beq_iff_eq List.getElem?_cons_zero List.getElem?_cons_succ Option.getD_some K_hook hookB Bool.false_and Bool.and_false Bool.and_self K_P K_own absCall doCall getBoxes lend back idx dedup AV.ren CV.ren TV.ren AV.ptrs CV.ptrs zipBox AV.flat CV.flat absLoad absStore cellsOfAV setAt newBox markB bldTypes absFieldAddr absField absExtract absAssert noAssert absMkIface ifcOf CV.pv? content pushHead ownT fillCells reps pvs chunks enterSt leave resOf resVars resVar outBoxes lentOnly TV.deg TV.av LK CV.plain CV.noBld nilBin absUn bound List.map_cons List.map_nil List.all_cons List.all_nil List.any_cons List.any_nil List.contains_cons List.contains_nil List.elem_cons List.elem_nil List.cons_append List.nil_append List.append_nil List.flatMap_cons List.flatMap_nil List.zip_cons_cons List.zip_nil_left List.zip_nil_right List.take_succ_cons List.take_zero List.take_nil List.drop_succ_cons List.drop_zero List.drop_nil List.isEmpty_nil List.isEmpty_cons Bool.and_true Bool.true_and Bool.or_true Bool.true_or Bool.or_false Bool.false_or Bool.not_true Bool.not_false Nat.add_zero Nat.zero_add Option.isNone_none Option.isNone_some Option.getD_none true_and and_true not_true_eq_false not_false_eq_true decide_true decide_false Nat.le_refl and_self Bool.not_eq_true Nat.sub_self or_true true_or Option.some.injEq List.length_map List.nil_eq and_false false_and AV.live CV.live CV.liveIn K_keep firstReg Option.orElse_some Option.orElse_none head keepSlots keepBoxes Int.lt_irrefl List.length_append ite_self memOK logOps opKey lentBoxes Key.clash Key.sees Key.writes Nat.lt_irrefl gt_iff_lt nobox_at bot_at false_or or_false beq_self_eq_true Bool.true_beq Bool.false_beq
def blankV : Val := .mk 1 ⟨8, [10], 0⟩ []
theorem blankV_is : Sl.isBlank blankV = true := rfl
theorem Sl.trim_more (l : List Val) : Sl.trim (blankV :: l ++ [blankV, blankV]) = Sl.trim l := by
  have e : blankV :: l ++ [blankV, blankV] = (blankV :: l ++ [blankV]) ++ [blankV] := by simp
  rw [e, Sl.trim_snoc blankV_is, Sl.trim_snoc blankV_is, Sl.trim_cons blankV_is]
theorem Sl.words_more (l : List Val) : Sl.words (blankV :: l ++ [blankV, blankV]) = Sl.words l := by
  have e : blankV :: l ++ [blankV, blankV] = (blankV :: l ++ [blankV]) ++ [blankV] := by simp
  rw [e, Sl.words_snoc blankV_is, Sl.words_snoc blankV_is, Sl.words_blank blankV_is]
def moreV (l : List Val) : List Val := blankV :: l ++ [blankV, blankV]
theorem more_enc (l : List Val) : [PV.int .i64 1, .int .i64 8, .str [10], .int .i64 0, .sl []] :: (encL l ++ [[PV.int .i64 1, .int .i64 8, .str [10], .int .i64 0, .sl []], [PV.int .i64 1, .int .i64 8, .str [10], .int .i64 0, .sl []]]) = encL (moreV l) := by
  unfold moreV; rw [encL_app]; rfl
theorem lens_blank (l : List Val) : lens 5 ([PV.int .i64 1, .int .i64 8, .str [10], .int .i64 0, .sl []] :: encL l) = true := lens_valsK (blankV :: l)
theorem lens_val2 (a b c d e a' b' c' d' e' : PV) : lens 5 [[a, b, c, d, e], [a', b', c', d', e']] = true := rfl
set_option maxHeartbeats 4000000 in
theorem SplitTrims_den (l : List Val) : den K 4 [L (encL l)] [] = some (.ret (B true) []) := by
  have hf := fixed3_den
  have hs := SmallV_den l 200 (by omega) (by omega)
  refine den_run rfl rfl Tryd.func4 rfl Tryd.ntmps4 ⟨by simp, by simp [LK]⟩ ?_
  have hr : Tryd.f4.results = #[.tmp 2] := rfl
  cases hsm : decide (0 ≤ Ne.few 100 200 l)
  · rw [hsm] at hs
    simp only [go_sem, Nat.reduceLT, reduceIte, reduceCtorEq, Nat.reduceEqDiff, apply_ite (Option.map (outOf _)), Nat.reduceBEq, Nat.reduceAdd, Nat.reduceSub, Nat.reduceLeDiff, Nat.reduceMul, good_5, good_6, ev_build ty_zeroCells_29 ty_placesOf_29, ev_build ty_zeroCells_31 ty_placesOf_31, ty_zeroCells_31, ty_szOf_31, good_11, ty_shapeT_31, ev_buildSlice (len := 1) ty_descOf_22 ty_szOf_31 ty_zeroCells_31 ⟨rfl, by decide, by decide⟩, ev_append ty_appInfo_22, ev_appNew_sl ty_descOf_22, ev_buildSlice (len := 2) ty_descOf_22 ty_szOf_31 ty_zeroCells_31 ⟨rfl, by decide, by decide⟩, ev_len_sl ty_descOf_22, good_9, good_7, good_10, ev_indexAddr ty_descOf_22, good_8, hr, hf, hs]
  rw [hsm] at hs
  obtain ⟨hsz, _⟩ := few_facts (of_decide_eq_true hsm)
  have hlen := Ne.length_size l
  have hts := size_trim l
  have htl := Sl.trim_length l
  have d0 := TrimS_den l (by omega)
  have d1 := TrimS_den (Sl.trim l) (by omega)
  rw [Sl.trim_trim] at d1
  have d2 := VSame2_den (Sl.trim l) (by omega) (Sl.trim l) (by omega)
  unfold VSame2Den at d2
  rw [same_refl] at d2
  have hml : (moreV l).length = l.length + 3 := by simp [moreV]
  have hms : Ne.size (moreV l) = Ne.size l + 3 := by
    unfold moreV
    rw [List.cons_append, Ne.size, size_app]
    have e1 : Ne.sizeV blankV = 1 := rfl
    have e2 : Ne.size [blankV, blankV] = 2 := rfl
    rw [e1, e2]; omega
  have d3 := TrimS_den (moreV l) (by omega)
  rw [show Sl.trim (moreV l) = Sl.trim l from Sl.trim_more l] at d3
  have d4 := WordsS_den l (by omega)
  have d5 := WordsS_den (moreV l) (by omega)
  rw [show Sl.words (moreV l) = Sl.words l from Sl.words_more l] at d5
  have hwl := Sl.words_length l
  have d6 := Lists_den (Sl.words l) (by omega) (fun p hp => by have := words_sizes l p hp; omega)
  have hlv := lens_valsK l
  have hlim : 1 + l.length < appLim := by unfold appLim; omega
  have hlim2 : l.length + 1 + 2 < appLim := by unfold appLim; omega
  have hle : decide (((Sl.trim l).length : Int) ≤ (l.length : Int)) = true := decide_eq_true (by omega)
  have hm := more_enc l
  have hh : ∀ v r, Sl.trim l = v :: r → Sl.isBlank v = false := fun v r h => Sl.trim_head h
  have hL : ∀ v r, Sl.trim l = r ++ [v] → Sl.isBlank v = false := fun v r h => Sl.trim_last h
  generalize Sl.trim l = t at d0 d1 d2 d3 hts htl hle hh hL
  cases t with
  | nil =>
    have z : ((((0 : Nat) : Int)) == 0) = true := rfl
    simp only [List.length_nil] at hle
    have e0 : encL [] = [] := rfl
    simp (maxSteps := 10000000) only [go_sem, Nat.reduceLT, reduceIte, reduceCtorEq, Nat.reduceEqDiff, apply_ite (Option.map (outOf _)), Nat.reduceBEq, Nat.reduceAdd, Nat.reduceSub, Nat.reduceLeDiff, Nat.reduceMul, good_5, good_6, ev_build ty_zeroCells_29 ty_placesOf_29, ev_build ty_zeroCells_31 ty_placesOf_31, ty_zeroCells_31, ty_szOf_31, good_11, ty_shapeT_31, ev_buildSlice (len := 1) ty_descOf_22 ty_szOf_31 ty_zeroCells_31 ⟨rfl, by decide, by decide⟩, ev_append ty_appInfo_22, ev_appNew_sl ty_descOf_22, ev_buildSlice (len := 2) ty_descOf_22 ty_szOf_31 ty_zeroCells_31 ⟨rfl, by decide, by decide⟩, ev_len_sl ty_descOf_22, good_9, good_7, good_10, ev_indexAddr ty_descOf_22, good_8, hr, hf, hs, d0, d1, d2, d3, d4, d5, d6, hlv, hlim, hlim2, hle, hm, encL_len, lens_valK, lens_val2, lens_blank, z]
  | cons v r =>
    have z : (((r.length + 1 : Nat) : Int) == 0) = false := by simp; omega
    have hv := hh v r rfl
    obtain ⟨m, w, hmw⟩ : ∃ m w, v :: r = m ++ [w] := ⟨(v :: r).dropLast, (v :: r).getLast (by simp), (List.dropLast_concat_getLast _).symm⟩
    have hwb := hL w m hmw
    have hml2 : m.length = r.length := by
      have := congrArg List.length hmw
      simpa using this.symm
    have g1 : (encL (v :: r))[(0 : Int).toNat]? = some v.enc := rfl
    have g2 : (encL (v :: r))[((r.length : Nat) : Int).toNat]? = some w.enc := by
      rw [hmw, ← hml2]
      exact encL_get (m ++ [w]) m.length w (by simp)
    have hw1 : IntKind.i64.wrap (((r.length + 1 : Nat) : Int) - 1) = (r.length : Int) := by
      rw [List.length_cons] at htl
      rw [IntWalk.i64_in _ (by omega)]; omega
    obtain ⟨k1, t1, c1⟩ := v
    obtain ⟨k2, t2, c2⟩ := w
    have b1 := blank_den k1 t1 c1
    have b2 := blank_den k2 t2 c2
    rw [hv] at b1
    rw [hwb] at b2
    rw [Val.enc] at g1 g2
    rw [Int.toNat_natCast] at g2
    rw [List.length_cons] at hle
    simp (maxSteps := 10000000) only [go_sem, Nat.reduceLT, reduceIte, reduceCtorEq, Nat.reduceEqDiff, apply_ite (Option.map (outOf _)), Nat.reduceBEq, Nat.reduceAdd, Nat.reduceSub, Nat.reduceLeDiff, Nat.reduceMul, good_5, good_6, ev_build ty_zeroCells_29 ty_placesOf_29, ev_build ty_zeroCells_31 ty_placesOf_31, ty_zeroCells_31, ty_szOf_31, good_11, ty_shapeT_31, ev_buildSlice (len := 1) ty_descOf_22 ty_szOf_31 ty_zeroCells_31 ⟨rfl, by decide, by decide⟩, ev_append ty_appInfo_22, ev_appNew_sl ty_descOf_22, ev_buildSlice (len := 2) ty_descOf_22 ty_szOf_31 ty_zeroCells_31 ⟨rfl, by decide, by decide⟩, ev_len_sl ty_descOf_22, good_9, good_7, good_10, ev_indexAddr ty_descOf_22, good_8, hr, hf, hs, d0, d1, d2, d3, d4, d5, d6, hlv, hlim, hlim2, hle, hm, encL_len, lens_valK, lens_val2, lens_blank, z, List.length_cons, g1, g2, le00, hw1, Int.natCast_nonneg, Int.toNat_natCast, b1, b2]
end Go.Abs
namespace Go.Abs
open Go Go.Proofs Go.ChangeShapes Go.WideShapes Go.ChangeAt Go.RowKit
/-- Data of a type: what a row's reading says of it. -/
def TyP (P : Program) : Nat → TypeId → List PV → Prop
  | 0, _, _ => False
  | n + 1, t, ps =>
    match P.underlying t with
    | some .bool => ∃ b, ps = [.bool b]
    | some (.int k) => ∃ z, ps = [.int k z] ∧ (Lit.int k z).wf = true
    | some .string => ∃ s, ps = [.str s] ∧ s.length ≤ reachBytes
    | some (.slice e) => ∃ c, ps = [.sl c] ∧ c.length ≤ reachBytes ∧ ∀ el ∈ c, TyP P n e el
    | some (.struct fs) => ps.length = P.cellsOf t ∧ ∀ (i : Nat) (f : Field), fs[i]? = some f → TyP P n f.type ((ps.drop f.offset).take (P.cellsOf f.type))
    | _ => False
/-- a set of types of plain data, closed -/
def flatSet (P : Program) (L : List TypeId) : Bool := L.all fun t => decide (t < P.types.size) &&
  match P.underlying t with
  | some .bool | some (.int _) | some .string => P.cellsOf t == 1
  | some (.slice e) => L.contains e && decide (0 < P.cellsOf e) && decide (0 < P.bytesOf e) && P.cellsOf t == 1
  | some (.struct fs) => fs.toList.all fun f => L.contains f.type
  | _ => false
section
variable {H : Type} {enc : TypeId × Value → H} {P : Program} {w : World}
theorem cells_at {base n : Nat} {a : Addr} {cs : List Value} (h : w.cells? base a n = some cs) : cs.length = n ∧ ∀ (k : Nat) (y : Value), cs[k]? = some y → w.cell? (a.add k) = some y := by
  unfold World.cells? at h
  split at h
  case isFalse => cases h
  have hl : cs.length = n := by simpa using mapM_some_length h
  refine ⟨hl, fun k y hk => ?_⟩
  have hlt : k < n := by have := (List.getElem?_eq_some_iff.1 hk).1; omega
  have := mapM_some_get h k k (by simp [hlt])
  rw [this, hk]
theorem add_add (b o m j : Nat) : ((⟨b, o, none⟩ : Addr).add m).add j = ⟨b, o + (m + j), none⟩ := by
  simp only [Addr.add]
  split <;> split <;> simp_all [Nat.add_assoc]
theorem cell_addr {a : Addr} {y : Value} (h : w.cell? a = some y) : a = ⟨a.block, a.off, none⟩ := by
  unfold World.cell? at h
  cases a with
  | mk b o s =>
    cases s with
    | none => rfl
    | some k => simp at h; split at h <;> simp at h
/-- the fields of a struct, one behind the other -/
theorem parts_ok {I : Nat → Nat → Option Value} {n : Nat} : ∀ (fs : List Field) (k : Nat) (cs : List Value), (∀ (j : Nat) (f : Field), fs[j]? = some f → f.offset = k + ((fs.take j).map fun f => P.cellsOf f.type).sum) →
    (∀ f ∈ fs, ∃ ps, TyP P n f.type ps ∧ All2 (RP I) ps ((cs.drop f.offset).take (P.cellsOf f.type)) ∧ ps.length = P.cellsOf f.type) → cs.length = k + (fs.map fun f => P.cellsOf f.type).sum →
    ∃ ps, ps.length = (fs.map fun f => P.cellsOf f.type).sum ∧ All2 (RP I) ps (cs.drop k) ∧ ∀ (j : Nat) (f : Field), fs[j]? = some f → TyP P n f.type ((ps.drop (f.offset - k)).take (P.cellsOf f.type))
  | [], k, cs, _, _, hl => ⟨[], rfl, by rw [List.drop_eq_nil_of_le (by simp at hl; omega)]; exact .nil, fun j f h => by simp at h⟩
  | f :: fs, k, cs, ho, hf, hl => by
    have ho0 := ho 0 f rfl
    simp at ho0
    obtain ⟨p0, h1, h2, h3⟩ := hf f (by simp)
    simp only [List.map_cons, List.sum_cons] at hl
    obtain ⟨ps, h4, h5, h6⟩ := parts_ok fs (k + P.cellsOf f.type) cs (fun j g hg => by
      have := ho (j + 1) g (by simpa using hg)
      simp only [List.take_succ_cons, List.map_cons, List.sum_cons] at this
      omega) (fun g hg => hf g (by simp [hg])) (by omega)
    refine ⟨p0 ++ ps, by simp [h3, h4], ?_, fun j g hg => ?_⟩
    · rw [ho0] at h2
      have : cs.drop k = (cs.drop k).take (P.cellsOf f.type) ++ cs.drop (k + P.cellsOf f.type) := by
        rw [← List.drop_drop, List.take_append_drop]
      rw [this]
      exact h2.append h5
    · cases j with
      | zero =>
        simp at hg
        subst hg
        rw [ho0, Nat.sub_self, List.drop_zero, List.take_left' h3]
        exact h1
      | succ j =>
        have hg' : fs[j]? = some g := by simpa using hg
        have := h6 j g hg'
        have hoj := ho (j + 1) g hg
        simp only [List.take_succ_cons, List.map_cons, List.sum_cons] at hoj
        have hle : k + P.cellsOf f.type ≤ g.offset := by omega
        rw [List.drop_append, List.drop_eq_nil_of_le (by omega), List.nil_append, h3]
        rw [show g.offset - k - P.cellsOf f.type = g.offset - (k + P.cellsOf f.type) by omega]
        exact this
theorem weights_all {e : TypeId} : ∀ {l : List (DataW H)} {d : DataW H}, d ∈ l → ∀ n ∈ d.weights P e, n ∈ DataW.weightsAll P e l
  | d' :: l, d, h, n, hn => by
    unfold DataW.weightsAll
    rw [List.mem_append]
    rcases List.mem_cons.1 h with rfl | h
    · exact .inl hn
    · exact .inr (weights_all h n hn)
theorem weights_each : ∀ {ts : List TypeId} {ds : List (DataW H)} {j : Nat} {t : TypeId} {d : DataW H}, ts[j]? = some t → ds[j]? = some d → ∀ n ∈ d.weights P t, n ∈ DataW.weightsEach P ts ds := DataW.weights_mem_each
/-- A READING IS DATA. -/
theorem trod_RP {I : Nat → Nat → Option Value} (hI : ∀ b o y, w.cell? ⟨b, o, none⟩ = some y → I b o = some y) (K0 : Kids P (· < P.types.size)) {L : List TypeId} (hL : flatSet P L = true) {base : Nat} {sp : Nat → Bool} {held : Bool} :
    ∀ (n : Nat) (t : TypeId) (cs : List Value) (x : DataW H × List MemPlace), DataW.trod enc P w base sp held n t cs = some x → t ∈ L → (∀ m ∈ x.1.weights P t, m ≤ reachBytes) → ∃ ps, TyP P n t ps ∧ All2 (RP I) ps cs ∧ ps.length = P.cellsOf t := by
  intro n
  induction n with
  | zero => intro t cs x h; simp [DataW.trod] at h
  | succ n ih =>
    intro t cs x h ht hw
    have hLt := List.all_eq_true.1 hL t ht
    simp only [Bool.and_eq_true, decide_eq_true_eq] at hLt
    obtain ⟨hlt, hLt⟩ := hLt
    unfold TyP
    split at hLt
    · rename_i hu
      obtain ⟨b, rfl, rfl⟩ := DataW.trod_bool hu h
      exact ⟨[.bool b], ⟨b, rfl⟩, .cons (.bool b) .nil, (by simpa using hLt : P.cellsOf t = 1).symm⟩
    · rename_i k hu
      obtain ⟨z, rfl, rfl, hwf⟩ := DataW.trod_int hu h
      exact ⟨[.int k z], ⟨z, rfl, hwf⟩, .cons (.int k z) .nil, (by simpa using hLt : P.cellsOf t = 1).symm⟩
    · rename_i hu
      obtain ⟨s, rfl, rfl, hsz⟩ := DataW.trod_string hu h
      refine ⟨[.str s.data.toList], ⟨_, rfl, hw _ (by simp [DataW.weights])⟩, .cons ?_ .nil, (by simpa using hLt : P.cellsOf t = 1).symm⟩
      exact .str _
    · rename_i e hu
      simp only [Bool.and_eq_true, decide_eq_true_eq] at hLt
      obtain ⟨⟨⟨he, hpos⟩, hby⟩, hc1⟩ := hLt
      have hc1 : P.cellsOf t = 1 := by simpa using hc1
      rcases DataW.trod_slice hu h with ⟨rfl, rfl⟩ | ⟨a, len, cap, elems, rest, m, hfuel, rfl, rfl, _, hlc, _, hel, hget, _, _⟩
      · exact ⟨[.sl []], ⟨[], rfl, by simp, by simp⟩, .cons (.sl0 none 0) .nil, hc1.symm⟩
      · have hm : m = n := by omega
        subst hm
        have hwt : ∀ m ∈ (elems.length + rest.length) * P.bytesOf e :: (DataW.weightsAll P e (elems.map (·.1)) ++ DataW.weightsAll P e (rest.map (·.1))), m ≤ reachBytes := by
          have : DataW.weights P t (DataW.slice (elems.map (·.1)) (rest.map (·.1))) = (elems.length + rest.length) * P.bytesOf e :: (DataW.weightsAll P e (elems.map (·.1)) ++ DataW.weightsAll P e (rest.map (·.1))) := by
            simp [DataW.weights, hu]
          rw [← this]; exact hw
        have hlenb : len ≤ reachBytes := by
          have h1 := hwt _ (List.mem_cons_self ..)
          have h2 : (elems.length + rest.length) * 1 ≤ (elems.length + rest.length) * P.bytesOf e := Nat.mul_le_mul_left _ hby
          omega
        have hone : ∀ i, i < len → ∃ ps, TyP P m e ps ∧ ps.length = P.cellsOf e ∧ ∀ (j : Nat) (p : PV), ps[j]? = some p → ∃ y, w.cell? ((a.add (i * P.cellsOf e)).add j) = some y ∧ RP I p y := by
          intro i hi
          have hg := hget i hi
          have hsome : ∃ y, elems[i]? = some y := ⟨elems[i]'(by omega), by simp [hel, hi]⟩
          obtain ⟨y, hy⟩ := hsome
          rw [hy, Option.bind_eq_some_iff] at hg
          obtain ⟨cs', hcs, htr⟩ := hg
          obtain ⟨ps, h1, h2, h3⟩ := ih e cs' y htr (by simpa using he) fun q hq => hwt q (List.mem_cons_of_mem _ (List.mem_append_left _ (weights_all (List.mem_map.2 ⟨y, List.mem_of_getElem? hy, rfl⟩) q hq)))
          obtain ⟨h4, h5⟩ := cells_at hcs
          refine ⟨ps, h1, h3, fun j p hj => ?_⟩
          obtain ⟨z, hz, hr⟩ := h2.get hj
          exact ⟨z, h5 j z hz, hr⟩
        obtain ⟨g, hg⟩ : ∃ g : Nat → List PV, ∀ i, i < len → TyP P m e (g i) ∧ (g i).length = P.cellsOf e ∧ ∀ (j : Nat) (p : PV), (g i)[j]? = some p → ∃ y, w.cell? ((a.add (i * P.cellsOf e)).add j) = some y ∧ RP I p y := by
          refine ⟨fun i => if hi : i < len then (hone i hi).choose else [], fun i hi => ?_⟩
          simp only [dif_pos hi]
          exact (hone i hi).choose_spec
        have hcget : ∀ (i : Nat) (el : List PV), ((List.range len).map g)[i]? = some el → i < len ∧ el = g i := fun i el hi => by
          have hlt' := (List.getElem?_eq_some_iff.1 hi).1
          simp at hlt'
          rw [List.getElem?_map, List.getElem?_range hlt'] at hi
          simp at hi
          exact ⟨hlt', hi.symm⟩
        refine ⟨[.sl ((List.range len).map g)], ⟨_, rfl, by simpa using hlenb, fun el hel' => ?_⟩, .cons ?_ .nil, hc1.symm⟩
        · obtain ⟨i, hi, rfl⟩ := List.mem_map.1 hel'
          exact (hg i (by simpa using hi)).1
        · by_cases h0 : len = 0
          · subst h0
            exact .sl0 _ _
          · obtain ⟨p0, hp0⟩ : ∃ p, (g 0)[0]? = some p := ⟨(g 0)[0]'(by rw [(hg 0 (by omega)).2.1]; exact hpos), by simp⟩
            obtain ⟨y0, hy0, _⟩ := (hg 0 (by omega)).2.2 0 p0 hp0
            have hadd0 : (a.add (0 * P.cellsOf e)).add 0 = a := by simp [Addr.add]
            rw [hadd0] at hy0
            have ha := cell_addr hy0
            have := RP.of_seg (I := I) (c := (List.range len).map g) (b := a.block) (o := a.off) (cap := cap) (sz := P.cellsOf e) (by simpa using hlc) (fun el hel' => by
              obtain ⟨i, hi, rfl⟩ := List.mem_map.1 hel'
              exact (hg i (by simpa using hi)).2.1) (fun i el j p hi hj => by
              obtain ⟨hlt', rfl⟩ := hcget i el hi
              obtain ⟨y, h1, h2⟩ := (hg i hlt').2.2 j p hj
              refine ⟨y, hI _ _ _ ?_, h2⟩
              have hadd : (a.add (i * P.cellsOf e)).add j = ⟨a.block, a.off + (i * P.cellsOf e + j), none⟩ := by
                have := add_add a.block a.off (i * P.cellsOf e) j
                rw [← ha] at this; exact this
              rw [hadd] at h1
              exact h1)
            rw [← ha] at this
            simpa using this
    · rename_i fs hu
      obtain ⟨xs, m, hfuel, rfl, hcl, hxl, hget⟩ := DataW.trod_struct hu h
      have hm : m = n := by omega
      subst hm
      obtain ⟨hf1, hf2, hf3⟩ := K0.struct hlt hu
      have hwt : ∀ m ∈ DataW.weightsEach P (fs.toList.map (·.type)) (xs.map (·.1)), m ≤ reachBytes := by
        have : DataW.weights P t (DataW.agg (xs.map (·.1))) = DataW.weightsEach P (fs.toList.map (·.type)) (xs.map (·.1)) := by
          rw [DataW.weights, hu]
        rw [← this]; exact hw
      obtain ⟨ps, h1, h2, h3⟩ := parts_ok (P := P) (I := I) (n := m) fs.toList 0 cs (fun j f hj => by rw [hf3 j f hj]; omega) (fun f hf => by
        obtain ⟨i, hi⟩ := List.mem_iff_getElem?.1 hf
        have hi' : fs[i]? = some f := by simpa using hi
        have hg := hget i f hi'
        have hlt' : i < fs.size := (Array.getElem?_eq_some_iff.1 hi').1
        obtain ⟨y, hy⟩ : ∃ y, xs[i]? = some y := ⟨xs[i]'(by omega), by simp [hxl, hlt']⟩
        rw [hy] at hg
        exact ih f.type _ y hg (by simpa using List.all_eq_true.1 hLt f hf) fun q hq => hwt q (weights_each (j := i) (t := f.type) (d := y.1) (by simp [hi']) (by simp [hy]) q hq)) (by rw [hcl, hf2]; omega)
      refine ⟨ps, ⟨by rw [h1, hf2], fun i f hi => ?_⟩, by simpa using h2, by rw [h1, hf2]⟩
      have := h3 i f (by simpa using hi)
      simpa using this
    · cases hLt
/-- how an argument of a type stands: a struct as its cells, all else as one -/
def argOf (P : Program) (t : TypeId) (ps : List PV) : AV :=
  match P.underlying t with
  | some (.struct _) => .agg (ps.map CV.pv)
  | _ => match ps with
    | [p] => .c (.pv p)
    | _ => .c .top
theorem ok_one {r : Reach} {base : Nat} {t : TypeId} {v : Value} (h : Value.okWide P w r base t v) (hs : (∀ fs, P.underlying t ≠ some (.struct fs)) ∧ ∀ n e, P.underlying t ≠ some (.array n e)) : v.cells = #[v] := by
  unfold Value.okWide at h
  split at h
  · exact absurd ‹_› (hs.1 _)
  · exact absurd ‹_› (hs.2 _ _)
  · cases v <;> first | rfl | (unfold Cell.okWide Cell.ok at h; split at h <;> simp_all)
/-- what is left behind a call reads as it did -/
theorem post_of_old {f : Func} {s : ChangeSpec} {apart fresh handsOn again : Bool} {W W' : World} {args : Array Value} {v : Value} {ds gs : List (DataW H)} {before pa pv : List MemPlace}
    (hW : DataW.Whole enc P f.params.toList s.vars apart W args.toList ds gs before)
    (hres : ∀ (b : Nat) (sp : Nat → Bool) (hd : Bool), DataW.TrodAll enc P W' b sp hd f.resultTypes.toList (v.resultList f.resultTypes.size) (s.fn H (ds ++ gs)).results [])
    (hargs : ∀ sp : Nat → Bool, (∀ p ∈ before, sp p.block = true) → DataW.TrodAll enc P W' 0 sp true f.params.toList args.toList (s.fn H (ds ++ gs)).args pa)
    (hvars : ∀ sp : Nat → Bool, (∀ p ∈ before, sp p.block = true) → DataW.TrodVars enc P W' sp s.vars (s.fn H (ds ++ gs)).vars pv)
    (hps : before = pa ++ pv) (hk : W.keptBut W' (· ∈ before)) (hfz : ∀ a : Addr, a.block < W.heap.size → W'.frozen? a = W.frozen? a)
    (hok : ∀ (j : Nat) (t : TypeId) (r : Value), f.resultTypes[j]? = some t → (v.resultList f.resultTypes.size)[j]? = some r → Value.okWide P W' .any 0 t r) :
    s.post enc P f apart fresh handsOn again W args v W' := by
  have hold : ∀ p ∈ before, (fun b => decide (b < W.heap.size)) p.block = true := fun p hp => by simpa using hW.lt p hp
  have hlt := fun p hp => hW.lt p hp
  refine ⟨ds, gs, before, [], pa, pv, hW, hres _ _ _, hargs _ hold, hvars _ hold, World.keptBut_mono (fun p hp => ⟨hp, ?_⟩) hk, fun _ => ?_⟩
  · rw [hps, List.mem_append] at hp
    exact Or.inr hp
  · obtain ⟨_, _, _, _, _, hz, hn⟩ := hW
    refine ⟨hok, _, _, ([] ++ pa) ++ pv, ⟨[] ++ pa, pv, trodAll_append (hargs _ (fun _ _ => rfl)) (hres _ _ _), hvars _ (fun _ _ => rfl), rfl, ?_, ?_⟩, ?_⟩
    · intro b off hp
      have hp' : MemPlace.cell b off ∈ before := by rw [hps]; simpa using hp
      rw [hfz _ (hlt _ hp')]
      exact hz b off hp'
    · intro ha
      have := hn ha
      rw [hps] at this
      simpa using this
    · intro p hp _
      rw [hps]
      simpa using hp
/-- all of old memory, as data -/
def oldGh (w : World) : Gh := { I := fun b o => w.cell? ⟨b, o, none⟩, bb := fun _ => none, ow := fun _ => none }
theorem oldWI (h : TabOK (oldGh w) w) : WI (oldGh w) w :=
  ⟨fun _ _ _ h => h, fun b hb => ⟨fun o => by
    show w.cell? ⟨b, o, none⟩ = none
    unfold World.cell?
    have : w.heap[b]? = none := Array.getElem?_eq_none hb
    simp [this], rfl⟩, fun _ _ h => (by cases h), fun _ _ h => (by cases h), h⟩
theorem keptBut_of_old {W W' : World} (hos : W'.os = W.os) (hout : W'.output = W.output) (h : ∀ b, b < W.heap.size → W'.heap[b]? = W.heap[b]?) (may : MemPlace → Prop) : W.keptBut W' may := by
  refine ⟨hos, hout, fun i hi => ?_⟩
  rw [h i hi]
  split
  · rename_i h1 h2; rw [h1] at h2; cases h2; exact ⟨rfl, rfl, rfl, fun _ _ => rfl⟩
  · rename_i h1 h2; rw [h1] at h2; cases h2; exact .inr ⟨rfl, rfl⟩
  · rfl
end
theorem kids : Kids Tryd.prog (· < Tryd.prog.types.size) := kids_rows (by kernel_rfl) (by kernel_rfl)
theorem slices_full : ∀ t e, t < Tryd.prog.types.size → Tryd.prog.underlying t = some (.slice e) → 0 < Tryd.prog.cellsOf e := slices_full_of _ (by kernel_rfl)
theorem laid_mem {w : World} : ∀ {l : List (String × DataW Unit)} {ps : List MemPlace}, DataW.LaidVars Tryd.prog w l ps → ∀ {n : String} {d : DataW Unit}, (n, d) ∈ l →
    ∃ g t cs fuel p, Tryd.prog.globalNamed n = some g ∧ (Tryd.prog.globals[g]?).map (·.type) = some t ∧ w.var? Tryd.prog n = some cs ∧ DataW.trod (fun _ => ()) Tryd.prog w 0 (fun _ => true) false fuel t cs.toList = some (d, p)
  | [], _, _, n, d, hm => by simp at hm
  | (m, e) :: l, ps, h, n, d, hm => by
    obtain ⟨g, t, cs, fuel, p, q, h1, h2, h3, h4, h5, _⟩ := h
    rcases List.mem_cons.1 hm with h | h
    · cases h; exact ⟨g, t, cs, fuel, p, h1, h2, h3, h4⟩
    · exact laid_mem h5 h
set_option maxRecDepth 100000 in
theorem tab_ok {W : World} {laid : List (String × DataW Unit)} (hL : laidMet Tryd.prog laid W) (hm : ("internal/strconv.uint64pow10", Go.Proofs.YtjfkppbgcgleaaaDoor.Rows.laid_internal_strconv_uint64pow10) ∈ laid) (hsh : W.ShapedOpen Tryd.prog) : TabOK (oldGh W) W := by
  refine ⟨fun x hx => ⟨rfl, ?_⟩, fun b hb => ⟨rfl, ?_⟩⟩
  · simp only [tabs, List.mem_cons, List.not_mem_nil, or_false] at hx
    subst hx
    obtain ⟨ps, hl, _⟩ := hL
    obtain ⟨g, t, cs, fuel, p, h1, h2, h3, h4⟩ := laid_mem hl hm
    have hg : g = 1 := Option.some.inj (h1.symm.trans (show Tryd.prog.globalNamed "internal/strconv.uint64pow10" = some 1 by kernel_rfl))
    subst hg
    have ht : t = 121 := Option.some.inj (h2.symm.trans (show (Tryd.prog.globals[1]?).map (·.type) = some 121 by kernel_rfl))
    subst ht
    have hcs := Lib.cells_of_tab (k := .u64) (zs := (List.range 20).map fun i => ((10 ^ i : Nat) : Int)) (n := 20) (e := 110) (by kernel_rfl) (by kernel_rfl) (by kernel_rfl) (by kernel_rfl) (h := h4)
    simp only [World.var?, h1, Option.bind_some] at h3
    split at h3
    · rename_i cs' ty fz hh
      cases h3
      refine ⟨ty, fz, hh.trans ?_⟩
      have : cs = cs.toList.toArray := by simp
      rw [this, hcs]
      simp
    · cases h3
  · simp only [ints, List.mem_cons, List.not_mem_nil, or_false] at hb
    subst hb
    obtain ⟨cs, hh, hs, hr⟩ := hsh.1 0 #[.int .i64 0] 3 (of_decide_eq_true (by kernel_rfl)) (by kernel_rfl)
    obtain ⟨ts, hts, _, hall⟩ := hr (by kernel_rfl)
    have hct : Tryd.prog.cellTypes Tryd.prog.depth 3 = some [3] := by kernel_rfl
    have hts' : ts = [3] := Option.some.inj (hts.symm.trans hct)
    subst hts'
    have h1 : 0 < cs.size := by rw [hs]; simp
    obtain ⟨u, hu', hok⟩ := hall 0 cs[0] (by simp [h1])
    have hu0 : u = 3 := by simpa using hu'.symm
    subst hu0
    unfold Cell.ok at hok
    rw [show Tryd.prog.underlying 3 = some (.int .i64) by kernel_rfl] at hok
    cases hv : cs[0] with
    | int k m =>
      rw [hv] at hok
      obtain ⟨rfl, _⟩ := hok
      exact ⟨m, cs, 3, _, hh, by simp [h1, hv]⟩
    | _ => rw [hv] at hok; simp at hok
section
variable {H : Type} {enc : TypeId × Value → H}
set_option maxRecDepth 100000 in
theorem args_ok {W : World} {base : Nat} {L : List TypeId} (hL : flatSet Tryd.prog L = true) : ∀ {ts : List TypeId} {vs : List Value} {ds : List (DataW H)} {ps : List MemPlace}, DataW.TrodAll enc Tryd.prog W 0 (fun _ => true) true ts vs ds ps → (∀ t ∈ ts, t ∈ L) →
    (∀ (j : Nat) (t : TypeId) (v : Value), ts[j]? = some t → vs[j]? = some v → Value.okWide Tryd.prog W .any base t v) → (∀ m ∈ DataW.weightsEach Tryd.prog ts ds, m ≤ reachBytes) →
    ∃ pss : List (List PV), All2 (fun t p => ∃ n, TyP Tryd.prog n t p) ts pss ∧ All2 (fun v x => RA (oldGh W) W .ret v x) (List.zipWith (argOf Tryd.prog) ts pss) vs ∧ ∀ v ∈ List.zipWith (argOf Tryd.prog) ts pss, isOwn v = false
  | [], [], [], _, _, _, _, _ => ⟨[], .nil, .nil, by simp⟩
  | t :: ts, v :: vs, d :: ds, ps, h, hts, hval, hw => by
    obtain ⟨p, q, ⟨n, h1⟩, h2, _⟩ := h
    have hw1 : ∀ m ∈ d.weights Tryd.prog t, m ≤ reachBytes := fun m hm => hw m (by unfold DataW.weightsEach; exact List.mem_append_left _ hm)
    have hw2 : ∀ m ∈ DataW.weightsEach Tryd.prog ts ds, m ≤ reachBytes := fun m hm => hw m (by unfold DataW.weightsEach; exact List.mem_append_right _ hm)
    have hv2 : ∀ (j : Nat) (u : TypeId) (x : Value), ts[j]? = some u → vs[j]? = some x → Value.okWide Tryd.prog W .any base u x := by
      intro j u x hj hx
      refine hval (j + 1) u x ?_ ?_
      · rw [List.getElem?_cons_succ]; exact hj
      · rw [List.getElem?_cons_succ]; exact hx
    obtain ⟨pss, h3, h4, h5⟩ := args_ok hL h2 (fun u hu => hts u (List.mem_cons_of_mem _ hu)) hv2 hw2
    obtain ⟨pv, h6, h7, h8⟩ := trod_RP (w := W) (I := (oldGh W).I) (fun _ _ _ h => h) kids hL n t _ _ h1 (hts t (by simp)) hw1
    have hok := hval 0 t v rfl rfl
    have key : RA (oldGh W) W .ret (argOf Tryd.prog t pv) v ∧ isOwn (argOf Tryd.prog t pv) = false := by
      unfold argOf
      split
      · rename_i fs hu
        refine ⟨?_, rfl⟩
        unfold Value.okWide at hok
        rw [hu] at hok
        obtain ⟨cs, rfl, _, _⟩ := hok
        exact ⟨cs.toList, by simp, All2.map_left (h7.imp fun _ _ _ h => h)⟩
      · rename_i hns
        have hnarr : ∀ m e, Tryd.prog.underlying t ≠ some (.array m e) := fun m e hu => by
          have := List.all_eq_true.1 hL t (hts t (by simp))
          rw [hu] at this
          simp at this
        rw [ok_one hok ⟨fun fs => hns fs, hnarr⟩] at h7
        cases h7 with
        | cons ha hb =>
          cases hb
          exact ⟨ha, rfl⟩
    refine ⟨pv :: pss, .cons ⟨n, h6⟩ h3, .cons key.1 h4, fun x hx => ?_⟩
    simp only [List.zipWith_cons_cons, List.mem_cons] at hx
    rcases hx with rfl | hx
    · exact key.2
    · exact h5 x hx
theorem trodAll_len {W : World} {base : Nat} {sp : Nat → Bool} {held : Bool} : ∀ {ts : List TypeId} {vs : List Value} {ds : List (DataW H)} {ps : List MemPlace}, DataW.TrodAll enc Tryd.prog W base sp held ts vs ds ps → ds.length = ts.length
  | [], [], [], _, _ => rfl
  | _ :: _, _ :: _, _ :: _, _, ⟨_, _, _, h2, _⟩ => by simp [trodAll_len h2]
theorem trodAll_carry {W W' : World} {base : Nat} {sp : Nat → Bool} {held : Bool} : ∀ {ts : List TypeId} {vs : List Value} {ds : List (DataW H)} {ps : List MemPlace}, (∀ p ∈ ps, W.sameAt W' p) → DataW.TrodAll enc Tryd.prog W base sp held ts vs ds ps → DataW.TrodAll enc Tryd.prog W' base sp held ts vs ds ps
  | [], [], [], _, _, h => h
  | _ :: _, _ :: _, _ :: _, _, hs, ⟨p, q, ⟨n, h1⟩, h2, e⟩ => ⟨p, q, ⟨n, DataW.trod_carry n _ _ _ h1 fun x hx => hs x (by rw [e]; exact List.mem_append_left _ hx)⟩, trodAll_carry (fun x hx => hs x (by rw [e]; exact List.mem_append_right _ hx)) h2, e⟩
set_option maxRecDepth 100000 in
/-- WHAT A LAW's ROW ASKS, from the interpreter's answer. -/
theorem law_ok {f : FuncId} {fn : Func} {spec : ChangeSpec} {laid : List (String × DataW Unit)} {L : List TypeId} {W : World} {base : Nat} {args : Array Value} {ds gs : List (DataW H)} {before : List MemPlace}
    (hg : K.good f = true) (hL : flatSet Tryd.prog L = true) (hts : ∀ t ∈ fn.params.toList, t ∈ L) (hres : fn.resultTypes = #[4]) (hvars : spec.vars = []) (hspec : ∀ ds : List (DataW H), ds.length = fn.params.size → spec.fn H ds = { results := [.lit (.bool true)], args := ds })
    (hmem : ("internal/strconv.uint64pow10", Go.Proofs.YtjfkppbgcgleaaaDoor.Rows.laid_internal_strconv_uint64pow10) ∈ laid) (hnoh : (laid.filter fun x => x.2.handleName?.isSome) = [])
    (hden : ∀ pss : List (List PV), All2 (fun t p => ∃ n, TyP Tryd.prog n t p) fn.params.toList pss → den K f (List.zipWith (argOf Tryd.prog) fn.params.toList pss) [] = some (.ret (.c (.pv (.bool true))) []))
    (hval : ∀ (j : Nat) t v, fn.params[j]? = some t → args[j]? = some v → Value.okWide Tryd.prog W .any base t v)
    (hW : DataW.Whole enc Tryd.prog fn.params.toList spec.vars false W args.toList ds gs before)
    (hwt : (DataW.weightsEach Tryd.prog fn.params.toList ds).all (· ≤ reachBytes) = true)
    (hLaid : laidMetH Tryd.prog laid W) (hsh : W.ShapedOpen Tryd.prog) :
    Calls Tryd.prog f args W fun e W' => ∃ v, e = .returned v ∧ spec.post enc Tryd.prog fn false true false false W args v W' := by
  have hW' := hW
  obtain ⟨p, q, hA, hV, rfl, hfz, hnd⟩ := hW
  rw [hvars] at hV
  have hgq : gs = [] ∧ q = [] := by
    cases gs with
    | nil => exact ⟨rfl, hV⟩
    | cons g gs => exact hV.elim
  obtain ⟨rfl, rfl⟩ := hgq
  have hlen := trodAll_len hA
  have hv2 : ∀ (j : Nat) (u : TypeId) (x : Value), fn.params.toList[j]? = some u → args.toList[j]? = some x → Value.okWide Tryd.prog W .any base u x := by
    intro j u x hj hx
    rw [Array.getElem?_toList] at hj hx
    exact hval j u x hj hx
  obtain ⟨pss, h1, h2, h3⟩ := args_ok (base := base) hL hA hts hv2 (fun m hm => by simpa using List.all_eq_true.1 hwt m hm)
  have hlm : laidMet Tryd.prog laid W := by
    unfold laidMetH at hLaid
    rw [hnoh] at hLaid
    exact hLaid
  have hwi := oldWI (tab_ok hlm hmem hsh)
  have hc := den_ok K_prog hg (hden pss h1) (oldGh W) W args.toList hwi h2 h3 (fun i l h => by simp at h) (fun s b h => by cases h)
  rw [Array.toArray_toList] at hc
  refine hc.mono fun e W' ⟨G', hx, hw', v, he, hv, _⟩ => ?_
  subst he
  have hv' : v = .bool true := RA.boolv hv
  subst hv'
  refine ⟨_, rfl, ?_⟩
  have hold : ∀ b, b < W.heap.size → W'.heap[b]? = W.heap[b]? := fun b hb => (hx.old b hb rfl).2.1
  have hds : spec.fn H (ds ++ []) = { results := [.lit (.bool true)], args := ds } := by
    rw [List.append_nil]
    exact hspec ds (by rw [hlen]; simp)
  refine post_of_old (pa := p) (pv := []) hW' (fun b sp hd => ?_) (fun sp hsp => ?_) (fun sp hsp => ?_) rfl (keptBut_of_old hx.os hx.output hold _) (fun a ha => ?_) ?_
  · rw [hds, hres]
    exact trodAll_cons_mk (shut_bool (by kernel_rfl) _) trodAll_mk0
  · rw [hds]
    have hT : ∀ t ∈ fn.params.toList, t < Tryd.prog.types.size := fun t ht => by
      have := List.all_eq_true.1 hL t (hts t ht)
      simp only [Bool.and_eq_true, decide_eq_true_eq] at this
      exact this.1
    have := DataW.TrodAll.respare (spare' := sp) kids slices_full hT hA (fun y hy => hsp y (by simpa using hy))
    refine trodAll_carry (fun y hy => ?_) this
    have hlt : y.block < W.heap.size := DataW.TrodAll.lt hA y hy
    cases y with
    | cell b off =>
      show W'.cell? ⟨b, off, none⟩ = W.cell? ⟨b, off, none⟩
      unfold World.cell?
      rw [hold b hlt]
    | map b => exact hold b hlt
  · rw [hds, hvars]
    rfl
  · unfold World.frozen?
    rw [hold a.block ha]
  · rw [hres]
    intro j t r hj hr
    have hj0 : j = 0 := by
      rcases Nat.eq_zero_or_pos j with h | h
      · exact h
      · rw [Array.getElem?_eq_none (by simp; omega)] at hj; cases hj
    subst hj0
    simp at hj
    subst hj
    have hr0 : r = .bool true := by
      have : ((Value.bool true).resultList 1)[0]? = some r := by simpa using hr
      simp [Value.resultList] at this
      exact this.symm
    subst hr0
    exact okWide_bool_mk (by kernel_rfl) _
end
end Go.Abs
namespace Go.Abs
open Go Go.Proofs
def fieldTys (P : Program) (t : TypeId) : Option (List (TypeId × Nat × Nat)) :=
  match P.underlying t with
  | some (.struct fs) => some (fs.toList.map fun f => (f.type, f.offset, P.cellsOf f.type))
  | _ => none
section
variable {P : Program} {t e : TypeId} {n : Nat} {ps : List PV}
theorem TyP_int {k : IntKind} (h : descOf P t = some (.int k)) (hp : TyP P n t ps) : ∃ z, ps = [.int k z] ∧ (Lit.int k z).wf = true := by
  cases n with
  | zero => exact hp.elim
  | succ n => unfold TyP at hp; rw [desc_int h] at hp; exact hp
theorem TyP_str (h : descOf P t = some .str) (hp : TyP P n t ps) : ∃ s, ps = [.str s] ∧ s.length ≤ reachBytes := by
  cases n with
  | zero => exact hp.elim
  | succ n => unfold TyP at hp; rw [desc_str h] at hp; exact hp
theorem TyP_sl {b : Bool} (h : descOf P t = some (.sl e b)) (hp : TyP P n t ps) : ∃ m c, n = m + 1 ∧ ps = [.sl c] ∧ c.length ≤ reachBytes ∧ ∀ el ∈ c, TyP P m e el := by
  cases n with
  | zero => exact hp.elim
  | succ n =>
    unfold TyP at hp
    rw [(desc_sl h).1] at hp
    obtain ⟨c, h1, h2, h3⟩ := hp
    exact ⟨n, c, rfl, h1, h2, h3⟩
theorem TyP_struct {l : List (TypeId × Nat × Nat)} {sz : Nat} (h : fieldTys P t = some l) (hs : P.cellsOf t = sz) (hp : TyP P n t ps) : ∃ m, n = m + 1 ∧ ps.length = sz ∧ ∀ (i : Nat) (x : TypeId × Nat × Nat), l[i]? = some x → TyP P m x.1 ((ps.drop x.2.1).take x.2.2) := by
  cases n with
  | zero => exact hp.elim
  | succ n =>
    unfold fieldTys at h
    split at h
    case h_2 => cases h
    rename_i fs hu
    cases h
    unfold TyP at hp
    rw [hu] at hp
    obtain ⟨h1, h2⟩ := hp
    refine ⟨n, rfl, by rw [h1, hs], fun i x hx => ?_⟩
    rw [List.getElem?_map, Option.map_eq_some_iff] at hx
    obtain ⟨f, hf, rfl⟩ := hx
    exact h2 i f (by simpa using hf)
theorem list_of {α : Type} {f : α → List PV} {Q : α → Prop} : ∀ {c : List (List PV)}, (∀ el ∈ c, ∃ x, el = f x ∧ Q x) → ∃ l : List α, c = l.map f ∧ ∀ x ∈ l, Q x
  | [], _ => ⟨[], rfl, by simp⟩
  | el :: c, h => by
    obtain ⟨x, rfl, hx⟩ := h el (by simp)
    obtain ⟨l, rfl, hl⟩ := list_of (c := c) fun y hy => h y (by simp [hy])
    exact ⟨x :: l, rfl, fun y hy => by
      rcases List.mem_cons.1 hy with rfl | hy
      · exact hx
      · exact hl y hy⟩
theorem wf_I64 {z : Int} (h : (Lit.int .i64 z).wf = true) : I64 z := by
  simp only [Lit.wf, Bool.and_eq_true, decide_eq_true_eq] at h
  exact h
end
theorem len3p {α : Type} {l : List α} (h : l.length = 3) : ∃ a b c, l = [a, b, c] := by
  match l, h with
  | [a, b, c], _ => exact ⟨a, b, c, rfl⟩
end Go.Abs
namespace Go.Abs
open Go Go.Proofs
set_option maxRecDepth 100000
theorem ft_tok : fieldTys Tryd.prog 29 = some [(3, 0, 1), (9, 1, 1), (3, 2, 1)] := by kernel_rfl
/-- a token of a sheet that is read -/
def Tok.Ok (t : Tok) : Prop := I64 t.kind ∧ I64 t.n ∧ t.text.length ≤ reachBytes
theorem ty_tok {n : Nat} {ps : List PV} (hp : TyP Tryd.prog n 29 ps) : ∃ x : Tok, ps = x.enc ∧ x.Ok := by
  obtain ⟨m, rfl, hl, hf⟩ := TyP_struct (sz := 3) ft_tok (by kernel_rfl) hp
  obtain ⟨p0, p1, p2, rfl⟩ := len3p hl
  obtain ⟨k, hk, hkw⟩ := TyP_int ty_descOf_3 (hf 0 _ rfl)
  obtain ⟨s, hs, hsl⟩ := TyP_str ty_descOf_9 (hf 1 _ rfl)
  obtain ⟨a, ha, haw⟩ := TyP_int ty_descOf_3 (hf 2 _ rfl)
  simp at hk hs ha
  subst hk; subst hs; subst ha
  exact ⟨⟨k, s, a⟩, rfl, wf_I64 hkw, wf_I64 haw, hsl⟩
theorem args1 {t : TypeId} {pss : List (List PV)} {Q : Prop} (h : All2 (fun t p => ∃ n, TyP Tryd.prog n t p) [t] pss) (hq : ∀ n p, TyP Tryd.prog n t p → pss = [p] → Q) : Q := by
  cases h with
  | cons h1 h =>
  cases h
  obtain ⟨n, h1⟩ := h1
  exact hq n _ h1 rfl
end Go.Abs
namespace Go.Abs
open Go Go.Proofs
set_option maxRecDepth 100000
theorem len5 {α : Type} {l : List α} (h : l.length = 5) : ∃ a b c d e, l = [a, b, c, d, e] := by
  match l, h with
  | [a, b, c, d, e], _ => exact ⟨a, b, c, d, e, rfl⟩
theorem ft_val : fieldTys Tryd.prog 31 = some [(3, 0, 1), (29, 1, 3), (22, 4, 1)] := by kernel_rfl
theorem allT_of {p : Tok → Prop} : ∀ {l : List Val}, (∀ v ∈ l, Ne.allV p v) → Ne.allT p l
  | [], _ => by rw [Ne.allT]; trivial
  | v :: l, h => by
    rw [Ne.allT]
    exact ⟨h v (by simp), allT_of fun x hx => h x (by simp [hx])⟩
theorem ty_val : ∀ (n : Nat) (ps : List PV), TyP Tryd.prog n 31 ps → ∃ x : Val, ps = x.enc ∧ Ne.allV (fun t => I64 t.n) x := by
  intro n
  induction n using Nat.strongRecOn with
  | _ n ih =>
    intro ps hp
    obtain ⟨m, rfl, hl, hf⟩ := TyP_struct (sz := 5) ft_val (by kernel_rfl) hp
    obtain ⟨p0, p1, p2, p3, p4, rfl⟩ := len5 hl
    obtain ⟨k, hk, hkw⟩ := TyP_int ty_descOf_3 (hf 0 _ rfl)
    obtain ⟨t, ht, hto⟩ := ty_tok (hf 1 _ rfl)
    obtain ⟨j, c, rfl, hc, hcl, hce⟩ := TyP_sl ty_descOf_22 (hf 2 _ rfl)
    obtain ⟨l, rfl, hlo⟩ := list_of (f := Val.enc) (Q := Ne.allV (fun t => I64 t.n)) fun el hel => ih j (by omega) el (hce el hel)
    simp [Tok.enc] at hk ht hc
    subst hk; subst hc
    obtain ⟨rfl, rfl, rfl⟩ := ht
    refine ⟨.mk k t l, ?_, ?_⟩
    · rw [Val.enc, encL_map]
    · rw [Ne.allV]
      exact ⟨hto.2.1, allT_of hlo⟩
theorem ty_vals {n : Nat} {ps : List PV} (hp : TyP Tryd.prog n 22 ps) : ∃ l : List Val, ps = [.sl (encL l)] ∧ Ne.allT (fun t => I64 t.n) l := by
  obtain ⟨j, c, rfl, rfl, hcl, hce⟩ := TyP_sl ty_descOf_22 hp
  obtain ⟨l, rfl, hlo⟩ := list_of (f := Val.enc) (Q := Ne.allV (fun t => I64 t.n)) fun el hel => ty_val j el (hce el hel)
  exact ⟨l, by rw [encL_map], allT_of hlo⟩
def flatN : List TypeId := [4, 3, 9, 29, 47, 31, 22]
theorem flatN_ok : flatSet Tryd.prog flatN = true := by kernel_rfl
theorem argOf_vals (p : PV) : argOf Tryd.prog 22 [p] = .c (.pv p) := by
  unfold argOf; rw [Tryd.underlying22]
end Go.Abs
namespace Go.Abs
open Go Go.Proofs
set_option maxRecDepth 100000
theorem SplitTrims_args (pss : List (List PV)) (h : All2 (fun t p => ∃ n, TyP Tryd.prog n t p) Tryd.f4.params.toList pss) :
    den K 4 (List.zipWith (argOf Tryd.prog) Tryd.f4.params.toList pss) [] = some (.ret (.c (.pv (.bool true))) []) := by
  have hp : Tryd.f4.params.toList = [22] := rfl
  rw [hp] at h ⊢
  refine args1 h fun n p h1 e => ?_
  subst e
  obtain ⟨a, rfl, ha⟩ := ty_vals h1
  simp only [List.zipWith_cons_cons, List.zipWith_nil_left, argOf_vals]
  exact SplitTrims_den a
end Go.Abs
namespace Go.Proofs.YtjfkppbgcgleaaaDoor.SplitTrims
open Go.ChangeShapes Go.WideShapes Go.ChangeAt Go.RowKit
theorem own : ownKnob Tryd.prog.godebug = none := by kernel_rfl
/-- cells laid into a row -/
def layInto (cs : List Value) : Obj → Obj
  | .cells _ t frozen => .cells cs.toArray t frozen
  | o => o
/-- A WORLD FOR THE WITNESS: the settled one, the listed tables holding what their initialisers lay. -/
noncomputable def laidWorld (os : Os) : World :=
  { World.holding Tryd.prog os ⟨#[], #[], []⟩ with
    heap := (((World.holding Tryd.prog os ⟨#[], #[], []⟩).heap.modify 2
      (layInto (([0, 1, 28, 2, 29, 14, 24, 3, 30, 22, 20, 15, 25, 17, 4, 8, 31, 27, 13, 23, 21, 19, 16, 7, 26, 12, 18, 6, 11, 5, 10, 9] : List Int).map fun n => Value.int .u8 n))).modify 3
      (layInto (([0, 1, 56, 2, 57, 49, 28, 3, 61, 58, 42, 50, 38, 29, 17, 4, 62, 47, 59, 36, 45, 43, 51, 22, 53, 39, 33, 30, 24, 18, 12, 5, 63, 55, 48, 27, 60, 41, 37, 16, 46, 35, 44, 21, 52, 32, 23, 11, 54, 26, 40, 15, 34, 20, 31, 10, 25, 14, 19, 9, 13, 8, 7, 6] : List Int).map fun n => Value.int .u8 n))).modify 1
      (layInto ((List.range 20).map fun i => Value.int .u64 ((10 ^ i : Nat) : Int))) }
noncomputable def wArgs : Array Value := #[.slice none 0 0]
theorem laid_met (os : Os) : laidMet Tryd.prog Rows.splitTrimsRow.laid ((laidWorld os).forCall (fun _ _ => 0) ⟨#[], wArgs, []⟩).memory :=
  laidMet_of_run' 8 (by kernel_rfl) (by kernel_rfl)
theorem reads (os : Os) {H : Type} (enc : TypeId × Value → H) : ∃ places, DataW.whole enc Tryd.prog ((laidWorld os).forCall (fun _ _ => 0) ⟨#[], wArgs, []⟩).memory Tryd.f4.params.toList Rows.splitTrimsSpec.vars false wArgs.toList 8 = some ([.nil], [], places) :=
  ⟨[], by kernel_rfl⟩
set_option maxRecDepth 100000 in
theorem lifted (os : Os) (started : os.Started) (H : Type) (enc : TypeId × Value → H) (F : Stop.Interp) :
    ReturnsInHanded {} Tryd.checked os 4 .any ((OpenSpec.ofChange Rows.splitTrimsSpec).preRow enc Tryd.prog Tryd.f4 Rows.splitTrimsRow.domain false Rows.splitTrimsRow.laid) (((OpenSpec.ofChange Rows.splitTrimsSpec).at F).post enc Tryd.prog Tryd.f4 false true false false) := by
  obtain ⟨places, hx⟩ := reads os enc
  refine returnsInHanded_of_row (C := Tryd.checked) (s := OpenSpec.ofChange Rows.splitTrimsSpec) own started (by kernel_rfl) Tryd.func4
    (witness_row_at (enc := enc) (C := Tryd.checked) false (laidWorld os) wArgs rfl (by kernel_rfl) (by kernel_rfl) (by kernel_rfl)
      (OpenSpec.preRow_of_cond 8 hx (by kernel_rfl) (fun k hk => by cases hk) (by kernel_rfl) (laid_met os))) ?_
  intro W base args ds gs before hval hW _ _ hwt hL hsh _
  have hgs : gs = [] := by
    obtain ⟨_, _, _, hV, _⟩ := hW
    cases gs with
    | nil => rfl
    | cons g gs => exact hV.elim
  subst hgs
  have hwt' : (DataW.weightsEach Tryd.prog Tryd.f4.params.toList ds).all (· ≤ reachBytes) = true := by
    have e : Tryd.f4.params.toList ++ (OpenSpec.ofChange Rows.splitTrimsSpec).bare.plain.varTypes Tryd.prog = Tryd.f4.params.toList := List.append_nil _
    rw [List.append_nil] at hwt
    exact hwt
  exact Go.Abs.law_ok (base := base) (L := Go.Abs.flatN) (laid := Rows.splitTrimsRow.laid) (spec := Rows.splitTrimsSpec) (by kernel_rfl) Go.Abs.flatN_ok (by decide) rfl rfl (fun ds hd => by
      match ds, hd with
      | [a], _ => rfl) (by simp [Rows.splitTrimsRow]) (by kernel_rfl) Go.Abs.SplitTrims_args hval hW hwt' hL hsh
theorem said : Rows.SplitTrimsSaid :=
  OpenClaim.holds_of_cond 4 Tryd.f4 rfl rfl rfl rfl rfl rfl rfl ⟨rfl, rfl, rfl, rfl, rfl⟩ rfl rfl rfl rfl rfl (by kernel_rfl) Tryd.func4 (by kernel_rfl)
    (of_decide_eq_true (by kernel_rfl)) (by unfold Func.isWrapper; first | (rw [if_pos (by decide +kernel)]; kernel_rfl) | (rw [if_neg (by decide +kernel)]; exact ⟨rfl, rfl⟩))
    (fun os started H enc _ F => by rw [OpenClaim.pre_eq_preRow]; exact lifted os started H enc F)
/-- No parameter wants a stand-in; the program's own looks are off. -/
theorem plain (f : FuncId) (fn : Func) (hf : Tryd.pinned.checked.prog.funcNamed "winnowing/winnowinglaw03.SplitTrims" = some f) (hfn : Tryd.pinned.checked.prog.funcs[f]? = some fn) :
    true = Tryd.pinned.checked.prog.looks [] ∧ ∀ (j : Nat) t, fn.params[j]? = some t → Tryd.pinned.checked.prog.wantsStandIn t = false := by
  obtain rfl : f = 4 := Option.some.inj ((show Tryd.prog.funcNamed "winnowing/winnowinglaw03.SplitTrims" = some 4 by kernel_rfl).symm.trans hf) |>.symm
  obtain rfl : fn = Tryd.f4 := (Option.some.inj (Tryd.func4.symm.trans hfn)).symm
  refine ⟨by kernel_rfl, fun j t ht => ?_⟩
  have hm := Array.mem_toList_iff.2 (Array.mem_of_getElem? ht)
  have h1 : ∀ t ∈ Tryd.f4.params.toList, t ∈ Go.Abs.flatN := by decide
  have h2 : Go.Abs.flatN.all (fun t => !Tryd.prog.wantsStandIn t) = true := by kernel_rfl
  have h3 := List.all_eq_true.1 h2 t (h1 t hm)
  have h4 : Tryd.prog.wantsStandIn t = false := by simpa using h3
  exact h4
/-- ████ THE CARD ████ -/
theorem card : Rows.SplitTrimsCardSaid :=
  Claim7.holds_tied_plain_at .later [] _ _ _ _ said (fun _ h => by cases h) (by kernel_rfl) (fun _ h => by cases h) splitTrims_row_tie rfl ⟨rfl, rfl⟩ (by kernel_rfl) rfl plain (by kernel_rfl)
end Go.Proofs.YtjfkppbgcgleaaaDoor.SplitTrims
