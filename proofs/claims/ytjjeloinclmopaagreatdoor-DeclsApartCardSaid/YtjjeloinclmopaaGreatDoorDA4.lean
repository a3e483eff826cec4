/-
  THE ABSTRACT INTERPRETER: what it is run with over this program.
  FACTS ON THE TYPES OF THIS PROGRAM, each by the kernel (printed by a program).
  FACTS ON THE TYPES OF THIS PROGRAM, each by the kernel (printed by a program).
  SELECTORS, in plain Lean: what a selector is, its text, the values that the text reads as; how values are read as selectors. No program stands here.
  WHAT THE FUNCTIONS COMPUTE: the smallest; the builder of texts.
  WHAT THE FUNCTIONS COMPUTE: loops; texts of words.
  WHAT THE FUNCTIONS COMPUTE: a token's text; numbers of an nth; simple selectors.
  TOKENS, in plain Lean: which tokens a text is read as; tokens that may be are read again as they were. No program stands here.
  TOKENS, in plain Lean: tokens that may be are read again as they were (ToksBack, ToksTwo, ToksBlanks). No program stands here.
  TOKENS, in plain Lean: what each token has (ToksParts); two texts, and a comment between (ToksBoth). No program stands here.
  VALUES, plain: how many there are; what is so of each token; what the laws' premises say.
  WHAT THE FUNCTIONS COMPUTE, layer 1: tokens that are the same; lists of them.
  WHAT THE FUNCTIONS COMPUTE, layer 2: blocks' last tokens; values told flat; depth.
  WHAT THE FUNCTIONS COMPUTE, layer 2: are values the same?
  WHAT THE FUNCTIONS COMPUTE, layer 3, the document's answer: blanks, signs; values trimmed, cut by a sign.
  Layer 3, plain: values trimmed, cut into words, joined: what holds of them, without the program.
  WHAT THE FUNCTIONS COMPUTE, layer 3: values trimmed, cut, joined.
  WHAT THE FUNCTIONS COMPUTE, layer 3, the document's answer: joined, cut into words; lists that are the same.
  WHAT THE FUNCTIONS COMPUTE, layer 3: values joined.
  WHAT THE FUNCTIONS COMPUTE, layer 3, the document's answer: values joined, cut into words.
  WHAT THE FUNCTIONS COMPUTE: small letters, as the document's answer has them.
  WHAT THE FUNCTIONS COMPUTE, layer 1: classes of bytes, runs, names.
  WHAT THE FUNCTIONS COMPUTE, layer 1: the scanner's small steps: a name, a token that is laid, a comment, a string.
  WHAT THE FUNCTIONS COMPUTE, layer 1: the scanner's comment, string, number.
  Layer 3, plain: values that are read from a text: what is so of parts of values; what is read is read again.
  Layer 7, plain: declarations of values, values of declarations; what holds of them, without the program.
  Functions as values: what captures nothing, or one variable of whatever cells; texts as the interpreter's data.
  WHAT THE FUNCTIONS COMPUTE: slices.IndexFunc, slices.ContainsFunc of values, whatever the function is. (Printed by genx.py.)
  WHAT THE FUNCTIONS COMPUTE: slices.IndexFunc, slices.ContainsFunc of texts, whatever the function is. (Printed by genx.py.)
  WHAT THE FUNCTIONS COMPUTE, layer 7: names, signs, small letters; whether values have a sign.
  Declarations as the interpreter's data.
  WHAT THE FUNCTIONS COMPUTE, layer 2: depth; are values the same?
  Layer 4, plain: how a program reads selectors that looks for an end ahead of each simple one; that this is what Sl.parse reads.
  WHAT THE FUNCTIONS COMPUTE, layer 7: what is made important; whether values may be one; a declaration read.
  Layer 3, plain: how many values there are in what is cut, trimmed.
  Layer 3: bounds on values that are cut, and joined.
-/
import Derived.KernelRfl
import Derived.Test.YtjjeloinclmopaaGreatDoorProg
import Derived.Lib.Bytealg
import Derived.Test.YtjjeloinclmopaaGreatDoorDA3
set_option linter.unusedSimpArgs false
set_option linter.unusedVariables false
namespace Go.Abs
open Go Go.Proofs
def keepL : List (Nat × Nat × List Nat × List Nat) := [
  (39, 3, [0, 1, 5, 6], []),
  (39, 7, [0, 1, 5, 6, 7], []),
  (78, 3, [1, 3, 7, 8, 9], [1, 3]),
  (50, 3, [3, 6, 7, 8], []),
  (46, 4, [0, 1, 5], []),
  (46, 9, [0, 1, 5, 6], []),
  (156, 2, [3], [6]),
  (72, 3, [0, 3, 4], []),
  (74, 3, [0, 3, 4], []),
  (117, 2, [0, 3], []),
  (86, 2, [0, 1, 2, 7], []),
  (79, 1, [0, 8, 9, 10], [100000]),
  (128, 1, [0, 6, 7, 8], [100000]),
  (99, 12, [0, 1, 5, 39, 40, 41], []),
  (99, 22, [1, 8, 63, 64, 65], [8]),
  (42, 4, [4, 5, 6], []),
  (94, 4, [0, 1, 5], []),
  (122, 5, [0, 4, 6], [4]),
  (174, 5, [5, 15, 16, 17], []),
  (73, 2, [0, 3, 4], []),
  (73, 4, [0, 3, 4], []),
  (32, 4, [0, 1, 5, 6, 7], []),
  (90, 4, [2, 4, 5, 6], [2, 5, 10]),
  (90, 6, [2, 4, 5, 7], [2, 5, 7, 10]),
  (247, 2, [0, 1, 2, 7], [100000]),
  (251, 6, [0, 2, 3, 4, 29], [100000]),
  (185, 2, [0, 5], []),
  (187, 2, [0, 1, 5], []),
  (188, 1, [0, 1], []),
  (190, 4, [0, 1, 4, 6, 7], [4]),
  (121, 2, [0, 2, 3, 8, 9], [8, 9]),
  (76, 3, [3, 4], []),
  (210, 3, [0, 2, 4, 5], [2, 9]),
  (211, 2, [0, 3], [100000]),
  (277, 15, [0, 1, 5, 6, 7, 8, 9, 10], []),
  (291, 12, [0, 6, 8], [6]),
  (291, 18, [1, 45], []),
  (261, 1, [0, 1, 4], []),
  (262, 11, [0, 1, 3, 4, 10, 11, 12, 13, 14, 15, 16], [12]),
  (262, 18, [0, 1, 3, 4, 10, 11, 12, 13, 17], [12]),
  (292, 5, [0, 1, 5, 6, 7, 8, 9], []),
  (292, 11, [0, 1, 5, 6, 7, 8, 10], []),
  (264, 5, [0, 7, 8, 9], []),
  (264, 12, [0, 7, 8, 9, 12], []),
  (264, 25, [0, 7, 8, 9, 14, 15], []),
  (264, 29, [0, 7, 8, 9, 14, 15, 16], []),
  (264, 38, [175], []),
  (197, 2, [0, 2, 4], [2]),
  (296, 3, [0, 4, 5], []),
  (296, 8, [4, 6, 7, 8], []),
  (158, 5, [0, 3, 4], []),
  (21, 4, [0, 1, 5], []),
  (180, 3, [3, 8, 9, 10], []),
  (75, 3, [0, 3, 4], []),
  (172, 3, [3, 6, 7, 8], []),
  (65, 3, [0, 3, 4], []),
  (51, 4, [0, 1, 2, 7], []),
  (213, 2, [0, 1, 2, 7], [100000, 100001]),
  (119, 4, [1, 2, 15, 16, 17], [100000]),
  (222, 2, [0, 1, 7, 8], [100000]),
  (104, 1, [0], []),
  (104, 3, [0], []),
  (58, 3, [1, 5, 8, 9, 10], []),
  (31, 3, [0, 1, 5, 6], []),
  (168, 2, [0, 1, 7, 8], [100000]),
  (6, 5, [0, 3, 4], []),
  (6, 11, [0, 3, 4, 5, 6], []),
  (10, 18, [9, 11, 13, 14, 15, 16], []),
  (13, 11, [1, 5, 7, 8, 9, 10], [9]),
  (16, 2, [0, 1, 5], []),
  (18, 4, [0, 1, 5], []),
  (19, 3, [3, 9, 10, 11], []),
  (20, 4, [3, 4, 5], []),
  (22, 3, [3, 7, 8, 9], []),
  (23, 3, [0, 3, 4], []),
  (25, 2, [0, 3], []),
  (41, 3, [4, 9, 10, 11], [4]),
  (48, 2, [0, 3], []),
  (48, 7, [0, 3, 4, 5, 6], [4]),
  (54, 5, [2, 4, 5], [2]),
  (55, 3, [3, 6, 7, 8], []),
  (64, 2, [0, 1, 5], []),
  (68, 4, [1, 2, 15, 16, 17], [100000]),
  (89, 3, [0, 2, 3, 4], [2, 3, 100000]),
  (97, 3, [1, 3, 11, 12, 13], [1]),
  (98, 2, [0, 3], []),
  (112, 2, [0, 1, 7, 8], [100000]),
  (142, 4, [1, 2, 15, 16, 17], [100000]),
  (144, 4, [1, 2, 15, 16, 17], [100000]),
  (146, 4, [1, 2, 15, 16, 17], [100000]),
  (148, 2, [0, 4], [100000]),
  (161, 2, [0, 1, 7, 8], [100000]),
  (162, 2, [0, 1, 7, 8, 9], []),
  (171, 3, [3, 8, 9, 10], []),
  (173, 1, [0, 1], []),
  (207, 2, [0, 3], [100000]),
  (216, 2, [0, 1, 7, 8], []),
  (218, 2, [0, 1, 7, 8], [100000]),
  (236, 3, [3, 8, 9, 10], []),
  (1000000, 0, [], [])]
def keepF (f r : Nat) : List Nat × List Nat := match keepL.find? (fun x => x.1 == f && x.2.1 == r) with | some x => x.2.2 | none => ([], [])
def prL : List (Nat × Prim) := [
  (67, pHasPrefix),
  (244, pIndexByte),
  (258, pIndex),
  (291, pIndexAny),
  (130, pItoa),
  (171, pSmall),
  (219, pPairs),
  (155, pParse),
  (169, pClone),
  (52, pAt),
  (1000000, fun _ _ => none)]
def prF (f : Nat) : Option Prim := (prL.find? (fun x => x.1 == f)).map (·.2)
def hookB (f i : Nat) : Bool := f == 210 && i == 6
def ownB (f : Nat) : Bool :=
  f == 219 ||
  f == 55 ||
  f == 1000000
def goodB (P : Program) (f : Nat) : Bool :=
  match P.funcs[f]? with
  | some fn => fn.name != "runtime.NumGoroutine" && (match fn.body with | some c => codeOK (hookB f) c | none => false)
  | none => false
def goods : List Nat := [3, 4, 5, 6, 7, 8, 9, 10, 11, 12, 13, 14, 15, 16, 17, 18, 19, 20, 21, 22, 23, 24, 25, 26, 27, 28, 29, 30, 31, 32, 33, 34, 35, 36, 37, 38, 39, 40, 41, 42, 43, 44, 45, 46, 47, 48, 49, 50, 51, 52, 53, 54, 55, 56, 57, 58, 59, 60, 61, 62, 63, 64, 65, 66, 67, 68, 69, 70, 71, 72, 73, 74, 75, 76, 77, 78, 79, 80, 81, 82, 83, 84, 85, 86, 87, 88, 89, 90, 91, 92, 93, 94, 95, 96, 97, 98, 99, 100, 101, 102, 103, 104, 105, 106, 107, 108, 109, 110, 111, 112, 113, 114, 115, 116, 117, 118, 119, 120, 121, 122, 123, 124, 125, 126, 127, 128, 129, 130, 131, 132, 133, 134, 135, 136, 137, 138, 139, 140, 141, 142, 143, 144, 145, 146, 147, 148, 149, 150, 151, 152, 153, 154, 155, 156, 157, 158, 159, 160, 161, 162, 163, 164, 165, 166, 167, 168, 169, 170, 171, 172, 173, 174, 175, 176, 177, 178, 179, 180, 181, 182, 183, 184, 185, 186, 187, 188, 189, 190, 191, 192, 193, 194, 195, 196, 197, 198, 199, 200, 201, 202, 203, 204, 205, 206, 207, 208, 209, 210, 211, 212, 213, 214, 215, 216, 217, 218, 219, 220, 221, 222, 223, 224, 226, 227, 228, 229, 230, 231, 232, 233, 234, 235, 236, 237, 238, 239, 240, 241, 242, 243, 244, 245, 246, 247, 248, 249, 250, 251, 252, 253, 254, 255, 256, 258, 259, 260, 261, 262, 263, 264, 265, 266, 267, 268, 269, 270, 271, 272, 273, 274, 275, 276, 277, 278, 279, 280, 281, 282, 283, 284, 286, 287, 288, 289, 291, 292, 293, 294, 295, 296]
theorem goods_ok : goods.all (goodB Tryz.prog) = true := by kernel_rfl
theorem good_has {g : Nat} (hg : goods.contains g = true) : ∃ fn, Tryz.prog.funcs[g]? = some fn ∧ fn.name ≠ "runtime.NumGoroutine" ∧ fn.body.isSome = true := by
  have h1 : g ∈ goods := by simpa using hg
  have h2 := List.all_eq_true.1 goods_ok g h1
  unfold goodB at h2
  split at h2
  · rename_i fn hfn
    simp only [Bool.and_eq_true] at h2
    obtain ⟨h3, h4⟩ := h2
    split at h4
    · rename_i c hc
      exact ⟨fn, hfn, by simpa using h3, by rw [hc]; rfl⟩
    · cases h4
  · cases h2
def hpL : List (Nat × (List AV → List (List CV) → Plan)) := [
  (1000000, fun _ _ => .fail)]
def hpF (f : Nat) : Option (List AV → List (List CV) → Plan) := (hpL.find? (fun x => x.1 == f)).map (·.2)
noncomputable def K : Cfg := { P := Tryz.prog, pr := prF, keep := keepF, ownRet := ownB, good := goods.contains, hook := hookB, hp := hpF }
theorem K_prog : Prog K := by
  refine ⟨by kernel_rfl, fun g hg => ?_, fun f F args bxs x _ hF hx => ?_, fun f F args bxs r call _ hF hc hr => ?_⟩
  · have h1 : g ∈ goods := by simpa [K] using hg
    have h2 := List.all_eq_true.1 goods_ok g h1
    unfold goodB at h2
    split at h2
    · rename_i fn hfn
      simp only [Bool.and_eq_true] at h2
      obtain ⟨h3, h4⟩ := h2
      split at h4
      · rename_i c hc
        exact ⟨fn, c, hfn, by simpa using h3, hc, h4⟩
      · cases h4
    · cases h2
  · have h1 : ∀ y ∈ prL, ∀ args bxs x, y.2 args bxs = some x → Contract Tryz.prog y.1 args bxs (.ret x.1 x.2) := by
      intro y hy
      simp only [prL, List.mem_cons, List.not_mem_nil, or_false] at hy
      repeat' (first | (rcases hy with rfl | hy) | (cases hy))
      all_goals first
        | exact fun _ _ _ h => pHasPrefix_ok h
        | exact fun _ _ _ h => pIndexByte_ok h
        | exact fun _ _ _ h => pIndex_ok h
        | exact fun _ _ _ h => pIndexAny_ok h
        | exact fun _ _ _ h => pItoa_ok h
        | exact fun _ _ _ h => pSmall_ok h
        | exact fun _ _ _ h => pPairs_ok h
        | exact fun _ _ _ h => pParse_ok h
        | exact fun _ _ _ h => pClone_ok h
        | exact fun _ _ _ h => pAt_ok h
        | exact fun _ _ _ h => by cases h
    have h2 : prF f = some F := hF
    unfold prF at h2
    rw [Option.map_eq_some_iff] at h2
    obtain ⟨y, hy, rfl⟩ := h2
    have h3 := List.mem_of_find?_eq_some hy
    have h4 : y.1 = f := by simpa using List.find?_some hy
    rw [← h4]
    exact h1 y h3 args bxs x hx
  · have h1 : ∀ y ∈ hpL, ∀ args bxs r, (y.2 args bxs).run call = some r → Contract Tryz.prog y.1 args bxs r := by
      intro y hy
      simp only [hpL, List.mem_cons, List.not_mem_nil, or_false] at hy
      repeat' (first | (rcases hy with rfl | hy) | (cases hy))
      all_goals first
        | exact fun _ _ _ h => by cases h
    have h2 : hpF f = some F := hF
    unfold hpF at h2
    rw [Option.map_eq_some_iff] at h2
    obtain ⟨y, hy, rfl⟩ := h2
    have h3 := List.mem_of_find?_eq_some hy
    have h4 : y.1 = f := by simpa using List.find?_some hy
    rw [← h4]
    exact h1 y h3 args bxs r hr
end Go.Abs
namespace Go.Abs
open Go Go.Proofs
theorem ty_shapeT_3 : shapeT Tryz.prog 3 = Option.some Option.none := by kernel_rfl
theorem ty_szOf_3 : szOf Tryz.prog 3 = Option.some 1 := by kernel_rfl
theorem ty_descOf_3 : descOf Tryz.prog 3 = Option.some (Go.Abs.Desc.int Go.IntKind.i64) := by kernel_rfl
theorem ty_shapeT_4 : shapeT Tryz.prog 4 = Option.some Option.none := by kernel_rfl
theorem ty_szOf_4 : szOf Tryz.prog 4 = Option.some 1 := by kernel_rfl
theorem ty_isBoolT_4 : isBoolT Tryz.prog 4 = Bool.true := by kernel_rfl
theorem ty_descOf_5 : descOf Tryz.prog 5 = Option.some (Go.Abs.Desc.int Go.IntKind.u8) := by kernel_rfl
theorem ty_shapeT_9 : shapeT Tryz.prog 9 = Option.some Option.none := by kernel_rfl
theorem ty_szOf_9 : szOf Tryz.prog 9 = Option.some 1 := by kernel_rfl
theorem ty_zeroCells_9 : zeroCells Tryz.prog 9 = Option.some [Go.Abs.CV.pv (Go.Abs.PV.str [])] := by kernel_rfl
theorem ty_descOf_9 : descOf Tryz.prog 9 = Option.some Go.Abs.Desc.str := by kernel_rfl
theorem ty_descOf_21 : descOf Tryz.prog 21 = Option.some (Go.Abs.Desc.int Go.IntKind.i32) := by kernel_rfl
theorem ty_shapeT_22 : shapeT Tryz.prog 22 = Option.some Option.none := by kernel_rfl
theorem ty_szOf_22 : szOf Tryz.prog 22 = Option.some 1 := by kernel_rfl
theorem ty_zeroCells_22 : zeroCells Tryz.prog 22 = Option.some [Go.Abs.CV.nils] := by kernel_rfl
theorem ty_appInfo_22 : appInfo Tryz.prog 22 = Option.some (49, 5) := by kernel_rfl
theorem ty_descOf_22 : descOf Tryz.prog 22 = Option.some (Go.Abs.Desc.sl 49 Bool.false) := by kernel_rfl
theorem ty_appInfo_23 : appInfo Tryz.prog 23 = Option.some (44, 3) := by kernel_rfl
theorem ty_descOf_23 : descOf Tryz.prog 23 = Option.some (Go.Abs.Desc.sl 44 Bool.false) := by kernel_rfl
theorem ty_appInfo_41 : appInfo Tryz.prog 41 = Option.some (22, 1) := by kernel_rfl
theorem ty_descOf_41 : descOf Tryz.prog 41 = Option.some (Go.Abs.Desc.sl 22 Bool.false) := by kernel_rfl
theorem ty_shapeT_44 : shapeT Tryz.prog 44 = Option.some (Option.some 3) := by kernel_rfl
theorem ty_szOf_44 : szOf Tryz.prog 44 = Option.some 3 := by kernel_rfl
theorem ty_zeroCells_44 : zeroCells Tryz.prog 44 = Option.some [Go.Abs.CV.pv (Go.Abs.PV.str []), Go.Abs.CV.nils, Go.Abs.CV.pv (Go.Abs.PV.bool Bool.false)] := by kernel_rfl
theorem ty_placesOf_44 : placesOf Tryz.prog 44 = Option.some [(0, 1), (1, 1), (2, 1)] := by kernel_rfl
theorem ty_fieldOff_44_0 : fieldOff Tryz.prog 44 0 = Option.some (0, 9) := by kernel_rfl
theorem ty_fieldOff_44_1 : fieldOff Tryz.prog 44 1 = Option.some (1, 22) := by kernel_rfl
theorem ty_fieldOff_44_2 : fieldOff Tryz.prog 44 2 = Option.some (2, 4) := by kernel_rfl
theorem ty_shapeT_47 : shapeT Tryz.prog 47 = Option.some (Option.some 3) := by kernel_rfl
theorem ty_szOf_47 : szOf Tryz.prog 47 = Option.some 3 := by kernel_rfl
theorem ty_zeroCells_47 : zeroCells Tryz.prog 47 = Option.some [Go.Abs.CV.pv (Go.Abs.PV.int Go.IntKind.i64 0), Go.Abs.CV.pv (Go.Abs.PV.str []), Go.Abs.CV.pv (Go.Abs.PV.int Go.IntKind.i64 0)] := by kernel_rfl
theorem ty_placesOf_47 : placesOf Tryz.prog 47 = Option.some [(0, 1), (1, 1), (2, 1)] := by kernel_rfl
theorem ty_fieldOff_47_0 : fieldOff Tryz.prog 47 0 = Option.some (0, 3) := by kernel_rfl
theorem ty_fieldOff_47_1 : fieldOff Tryz.prog 47 1 = Option.some (1, 9) := by kernel_rfl
theorem ty_fieldOff_47_2 : fieldOff Tryz.prog 47 2 = Option.some (2, 3) := by kernel_rfl
theorem ty_shapeT_49 : shapeT Tryz.prog 49 = Option.some (Option.some 5) := by kernel_rfl
theorem ty_szOf_49 : szOf Tryz.prog 49 = Option.some 5 := by kernel_rfl
theorem ty_zeroCells_49 : zeroCells Tryz.prog 49 = Option.some [Go.Abs.CV.pv (Go.Abs.PV.int Go.IntKind.i64 0), Go.Abs.CV.pv (Go.Abs.PV.int Go.IntKind.i64 0), Go.Abs.CV.pv (Go.Abs.PV.str []), Go.Abs.CV.pv (Go.Abs.PV.int Go.IntKind.i64 0), Go.Abs.CV.nils] := by kernel_rfl
theorem ty_placesOf_49 : placesOf Tryz.prog 49 = Option.some [(0, 1), (1, 3), (4, 1)] := by kernel_rfl
theorem ty_fieldOff_49_0 : fieldOff Tryz.prog 49 0 = Option.some (0, 3) := by kernel_rfl
theorem ty_fieldOff_49_1 : fieldOff Tryz.prog 49 1 = Option.some (1, 47) := by kernel_rfl
theorem ty_fieldOff_49_2 : fieldOff Tryz.prog 49 2 = Option.some (4, 22) := by kernel_rfl
theorem ty_shapeT_90 : shapeT Tryz.prog 90 = Option.some Option.none := by kernel_rfl
theorem ty_szOf_90 : szOf Tryz.prog 90 = Option.some 1 := by kernel_rfl
theorem ty_appInfo_90 : appInfo Tryz.prog 90 = Option.some (47, 3) := by kernel_rfl
theorem ty_descOf_90 : descOf Tryz.prog 90 = Option.some (Go.Abs.Desc.sl 47 Bool.false) := by kernel_rfl
theorem ty_shapeT_123 : shapeT Tryz.prog 123 = Option.some Option.none := by kernel_rfl
theorem ty_descOf_123 : descOf Tryz.prog 123 = Option.some (Go.Abs.Desc.sl 9 Bool.false) := by kernel_rfl
theorem ty_zeroCells_210 : zeroCells Tryz.prog 210 = Option.some [] := by kernel_rfl
theorem ty_placesOf_210 : placesOf Tryz.prog 210 = Option.some [] := by kernel_rfl
theorem ty_concreteT_210 : concreteT Tryz.prog 210 = Bool.true := by kernel_rfl
theorem ty_fieldOff_214_0 : fieldOff Tryz.prog 214 0 = Option.some (0, 90) := by kernel_rfl
theorem ty_fieldOff_214_1 : fieldOff Tryz.prog 214 1 = Option.some (1, 3) := by kernel_rfl
theorem ty_shapeT_217 : shapeT Tryz.prog 217 = Option.some Option.none := by kernel_rfl
theorem ty_szOf_217 : szOf Tryz.prog 217 = Option.some 1 := by kernel_rfl
theorem ty_descOf_217 : descOf Tryz.prog 217 = Option.some Go.Abs.Desc.str := by kernel_rfl
theorem ty_zeroCells_219 : zeroCells Tryz.prog 219 = Option.some [Go.Abs.CV.pv (Go.Abs.PV.str []), Go.Abs.CV.nils] := by kernel_rfl
theorem ty_placesOf_219 : placesOf Tryz.prog 219 = Option.some [(0, 1), (1, 1)] := by kernel_rfl
theorem ty_fieldOff_219_0 : fieldOff Tryz.prog 219 0 = Option.some (0, 217) := by kernel_rfl
theorem ty_fieldOff_219_1 : fieldOff Tryz.prog 219 1 = Option.some (1, 90) := by kernel_rfl
theorem ty_szOf_223 : szOf Tryz.prog 223 = Option.some 2 := by kernel_rfl
theorem ty_zeroCells_223 : zeroCells Tryz.prog 223 = Option.some [Go.Abs.CV.pv (Go.Abs.PV.str []), Go.Abs.CV.pv (Go.Abs.PV.str [])] := by kernel_rfl
theorem ty_fieldOff_223_1 : fieldOff Tryz.prog 223 1 = Option.some (1, 9) := by kernel_rfl
theorem ty_isPtrT_243 : isPtrT Tryz.prog 243 = Bool.true := by kernel_rfl
end Go.Abs
namespace Go.Abs
open Go Go.Proofs
theorem good_15 : K.good 15 = true := by kernel_rfl
theorem good_17 : K.good 17 = true := by kernel_rfl
theorem good_18 : K.good 18 = true := by kernel_rfl
theorem good_19 : K.good 19 = true := by kernel_rfl
theorem good_21 : K.good 21 = true := by kernel_rfl
theorem good_26 : K.good 26 = true := by kernel_rfl
theorem good_31 : K.good 31 = true := by kernel_rfl
theorem good_32 : K.good 32 = true := by kernel_rfl
theorem good_33 : K.good 33 = true := by kernel_rfl
theorem good_35 : K.good 35 = true := by kernel_rfl
theorem good_51 : K.good 51 = true := by kernel_rfl
theorem good_52 : K.good 52 = true := by kernel_rfl
theorem good_53 : K.good 53 = true := by kernel_rfl
theorem good_57 : K.good 57 = true := by kernel_rfl
theorem good_59 : K.good 59 = true := by kernel_rfl
theorem good_67 : K.good 67 = true := by kernel_rfl
theorem good_70 : K.good 70 = true := by kernel_rfl
theorem good_104 : K.good 104 = true := by kernel_rfl
theorem good_105 : K.good 105 = true := by kernel_rfl
theorem good_106 : K.good 106 = true := by kernel_rfl
theorem good_107 : K.good 107 = true := by kernel_rfl
theorem good_108 : K.good 108 = true := by kernel_rfl
theorem good_109 : K.good 109 = true := by kernel_rfl
theorem good_113 : K.good 113 = true := by kernel_rfl
theorem good_114 : K.good 114 = true := by kernel_rfl
theorem good_119 : K.good 119 = true := by kernel_rfl
theorem good_120 : K.good 120 = true := by kernel_rfl
theorem good_130 : K.good 130 = true := by kernel_rfl
theorem good_156 : K.good 156 = true := by kernel_rfl
theorem good_168 : K.good 168 = true := by kernel_rfl
theorem good_169 : K.good 169 = true := by kernel_rfl
theorem good_170 : K.good 170 = true := by kernel_rfl
theorem good_171 : K.good 171 = true := by kernel_rfl
theorem good_172 : K.good 172 = true := by kernel_rfl
theorem good_174 : K.good 174 = true := by kernel_rfl
theorem good_175 : K.good 175 = true := by kernel_rfl
theorem good_176 : K.good 176 = true := by kernel_rfl
theorem good_177 : K.good 177 = true := by kernel_rfl
theorem good_178 : K.good 178 = true := by kernel_rfl
theorem good_179 : K.good 179 = true := by kernel_rfl
theorem good_182 : K.good 182 = true := by kernel_rfl
theorem good_214 : K.good 214 = true := by kernel_rfl
theorem good_218 : K.good 218 = true := by kernel_rfl
theorem good_219 : K.good 219 = true := by kernel_rfl
theorem good_220 : K.good 220 = true := by kernel_rfl
theorem good_223 : K.good 223 = true := by kernel_rfl
theorem good_241 : K.good 241 = true := by kernel_rfl
theorem good_242 : K.good 242 = true := by kernel_rfl
theorem good_243 : K.good 243 = true := by kernel_rfl
theorem good_244 : K.good 244 = true := by kernel_rfl
theorem good_245 : K.good 245 = true := by kernel_rfl
theorem good_246 : K.good 246 = true := by kernel_rfl
theorem good_247 : K.good 247 = true := by kernel_rfl
theorem good_248 : K.good 248 = true := by kernel_rfl
theorem good_249 : K.good 249 = true := by kernel_rfl
theorem good_250 : K.good 250 = true := by kernel_rfl
theorem good_251 : K.good 251 = true := by kernel_rfl
theorem good_258 : K.good 258 = true := by kernel_rfl
theorem good_273 : K.good 273 = true := by kernel_rfl
theorem good_274 : K.good 274 = true := by kernel_rfl
theorem good_276 : K.good 276 = true := by kernel_rfl
theorem good_291 : K.good 291 = true := by kernel_rfl
theorem keep_156_2 : keepF 156 2 = ([3], [6]) := by kernel_rfl
theorem keep_174_5 : keepF 174 5 = ([5, 15, 16, 17], []) := by kernel_rfl
theorem keep_73_2 : keepF 73 2 = ([0, 3, 4], []) := by kernel_rfl
theorem keep_32_4 : keepF 32 4 = ([0, 1, 5, 6, 7], []) := by kernel_rfl
theorem keep_247_2 : keepF 247 2 = ([0, 1, 2, 7], [100000]) := by kernel_rfl
theorem keep_251_6 : keepF 251 6 = ([0, 2, 3, 4, 29], [100000]) := by kernel_rfl
theorem keep_21_4 : keepF 21 4 = ([0, 1, 5], []) := by kernel_rfl
theorem keep_172_3 : keepF 172 3 = ([3, 6, 7, 8], []) := by kernel_rfl
theorem keep_51_4 : keepF 51 4 = ([0, 1, 2, 7], []) := by kernel_rfl
theorem keep_119_4 : keepF 119 4 = ([1, 2, 15, 16, 17], [100000]) := by kernel_rfl
theorem keep_222_2 : keepF 222 2 = ([0, 1, 7, 8], [100000]) := by kernel_rfl
theorem keep_104_1 : keepF 104 1 = ([0], []) := by kernel_rfl
theorem keep_104_3 : keepF 104 3 = ([0], []) := by kernel_rfl
theorem keep_31_3 : keepF 31 3 = ([0, 1, 5, 6], []) := by kernel_rfl
theorem keep_168_2 : keepF 168 2 = ([0, 1, 7, 8], [100000]) := by kernel_rfl
theorem keep_18_4 : keepF 18 4 = ([0, 1, 5], []) := by kernel_rfl
theorem keep_19_3 : keepF 19 3 = ([3, 9, 10, 11], []) := by kernel_rfl
theorem keep_23_3 : keepF 23 3 = ([0, 3, 4], []) := by kernel_rfl
theorem keep_218_2 : keepF 218 2 = ([0, 1, 7, 8], [100000]) := by kernel_rfl
end Go.Abs
namespace Go.Abs
namespace Sl
def isSign (s : List UInt8) : Val → Bool
  | .mk k t _ => k == 1 && decide (t = ⟨7, s, 0⟩)
def isBlank : Val → Bool
  | .mk k t _ => k == 1 && t.kind == 8
def trim (l : List Val) : List Val := ((l.dropWhile isBlank).reverse.dropWhile isBlank).reverse
def tokK (kind : Int) : List Val → Option Tok
  | .mk k t _ :: _ => if k = 1 ∧ t.kind = kind then some t else none
  | [] => none
def name (l : List Val) : Option (List UInt8 × List Val) := (tokK 1 l).map fun t => (t.text, l.tail)
def few (n : Int) : Prop := -9999 ≤ n ∧ n ≤ 9999
instance (n : Int) : Decidable (few n) := by unfold few; infer_instance
def hoverT : List UInt8 := [104, 111, 118, 101, 114]
def focusT : List UInt8 := [102, 111, 99, 117, 115]
def activeT : List UInt8 := [97, 99, 116, 105, 118, 101]
def checkedT : List UInt8 := [99, 104, 101, 99, 107, 101, 100]
def isState (s : List UInt8) : Prop := s = hoverT ∨ s = focusT ∨ s = activeT ∨ s = checkedT
instance (s : List UInt8) : Decidable (isState s) := by unfold isState; infer_instance
def low1 (c : UInt8) : UInt8 := if 65 ≤ c.toNat ∧ c.toNat ≤ 90 then c + 32 else c
def low (s : List UInt8) : List UInt8 := s.map low1
def over : List Val → Bool
  | [] => true
  | v :: _ => isBlank v || isSign [62] v || isSign [43] v || isSign [126] v
def at_ (s : List UInt8) : List Val → List (List Val)
  | [] => [[]]
  | v :: l => if isSign s v then [] :: at_ s l else match at_ s l with
    | [] => [[v]]
    | p :: ps => (v :: p) :: ps
def tv (t : Tok) : Val := .mk 1 t []
def dv (c : UInt8) : Val := tv ⟨7, [c], 0⟩
def iv (s : List UInt8) : Val := tv ⟨1, s, 0⟩
end Sl
end Go.Abs
namespace Go.Abs
open Go Go.Proofs
abbrev I (n : Int) : AV := .c (.pv (.int .i64 n))
abbrev T (l : List UInt8) : AV := .c (.pv (.str l))
abbrev B (b : Bool) : AV := .c (.pv (.bool b))
abbrev L (l : List (List PV)) : AV := .c (.pv (.sl l))
abbrev P0 : AV := .c (.loc 100000 0)
theorem den_run {f : FuncId} {fn : Func} {x : Code} {nt : Nat} {args : List AV} {bxs : List (List CV)} {r : Res} (hp : prF f = none) (hh : hpF f = none) (hf : Tryz.prog.funcs[f]? = some fn) (hx : fn.body = some x) (hn : fn.ntmps = nt)
    (hl : args.length ≤ nt ∧ nt < LK) (h : (exL K f x (enterSt nt args bxs)).bind (fun r => leave K f fn bxs.length (some r)) = some r) : den K f args bxs = some r := by
  rw [den_eq (K := K) hp hh hf hx, hn, if_pos hl]
  exact h
theorem K_own (f : FuncId) (h : (
  f == 219 ||
  f == 55 ||
  f == 1000000) = false) : K.ownRet f = false := h
theorem K_ownP : K.ownRet 219 = true := rfl
theorem K_hook (f i : Nat) : K.hook f i = hookB f i := rfl
theorem K_P : K.P = Tryz.prog := rfl
theorem K_keep (f r : Nat) : K.keep f r = keepF f r := rfl
theorem prim_run {f : FuncId} {F : Prim} {args : List AV} {bxs cs : List (List CV)} {v : AV} (h : prF f = some F) (hF : F args bxs = some (v, cs)) : den K f args bxs = some (.ret v cs) := by
  rw [den_prim (K := K) h, hF]; rfl
set_option maxRecDepth 10000
theorem lens_nil (n : Nat) : lens n [] = true := rfl
end Go.Abs
namespace Go.Abs
open Go Go.Proofs
theorem exL_head (f : FuncId) (a : Code) (S : St) : exL K f (.loop a) S = exL K f (.loop a) (head (keepF f ((firstReg a).getD 0)) S) := by
  rw [exL_loop, exL_loop (S := head _ S), K_keep, head_head]
set_option maxRecDepth 10000
attribute [local go_sem] exL_seq exL_region exL_cond exL_block exL_scope exL_ret exL_skip exL_exit runRegion runOps stepOp guardA absOp takeOver opd avOf cvOf St.degAt St.put okPV okVal okAV absBin intBin strBin boolBin setBoxes if_true Bool.false_eq_true if_false Option.map_some Option.map_none Option.bind_some Option.bind_none thenO outOf upd List.toList_toArray isOwn steal appArgs mvB inApps AV.deg CV.deg AV.gv AV.isIter absNext some_bne some_beqN List.length_nil List.length_cons List.filterMap_cons List.filterMap_nil beq_iff_eq List.getElem?_cons_zero List.getElem?_cons_succ Option.getD_some K_hook hookB Bool.false_and Bool.and_false Bool.and_self K_P K_own absCall doCall getBoxes lend back idx dedup AV.ren CV.ren TV.ren AV.ptrs CV.ptrs zipBox AV.flat CV.flat absLoad absStore cellsOfAV setAt newBox markB bldTypes absFieldAddr absField absExtract absAssert noAssert absMkIface ifcOf CV.pv? content pushHead ownT fillCells reps pvs chunks enterSt leave resOf resVars resVar outBoxes lentOnly TV.deg TV.av LK CV.plain CV.noBld nilBin absUn bound List.map_cons List.map_nil List.all_cons List.all_nil List.any_cons List.any_nil List.contains_cons List.contains_nil List.elem_cons List.elem_nil List.cons_append List.nil_append List.append_nil List.flatMap_cons List.flatMap_nil List.zip_cons_cons List.zip_nil_left List.zip_nil_right List.take_succ_cons List.take_zero List.take_nil List.drop_succ_cons List.drop_zero List.drop_nil List.isEmpty_nil List.isEmpty_cons Bool.and_true Bool.true_and Bool.or_true Bool.true_or Bool.or_false Bool.false_or Bool.not_true Bool.not_false Nat.add_zero Nat.zero_add Option.isNone_none Option.isNone_some Option.getD_none true_and and_true not_true_eq_false not_false_eq_true decide_true decide_false Nat.le_refl and_self Bool.not_eq_true Nat.sub_self or_true true_or Option.some.injEq List.length_map List.nil_eq and_false false_and AV.live CV.live CV.liveIn K_keep firstReg Option.orElse_some Option.orElse_none head keepSlots keepBoxes Int.lt_irrefl List.length_append ite_self memOK logOps opKey lentBoxes Key.clash Key.sees Key.writes Nat.lt_irrefl gt_iff_lt nobox_at bot_at false_or or_false beq_self_eq_true Bool.true_beq Bool.false_beq
theorem itoa_den (n : Int) (h : -9223372036854775808 ≤ n ∧ n ≤ 9223372036854775807) : den K 130 [I n] [] = some (.ret (T (Lib.itoa n)) []) :=
  prim_run (F := pItoa) rfl (by simp [pItoa, h])
theorem wrap_nat (n : Nat) (h : n < 9223372036854775807) : IntKind.i64.wrap ((n : Int) + 1) = ((n + 1 : Nat) : Int) := by
  rw [IntWalk.i64_in _ (by omega)]; rfl
theorem drop_cons {α : Type} {l rest : List α} {x : α} {i : Nat} (h : l.drop i = x :: rest) : l[i]? = some x ∧ l.drop (i + 1) = rest ∧ i < l.length := by
  have h1 : l[i]? = some x := by
    have : (l.drop i)[0]? = some x := by rw [h]; rfl
    simpa using this
  refine ⟨h1, ?_, (List.getElem?_eq_some_iff.1 h1).1⟩
  have : (l.drop i).tail = rest := by rw [h]; rfl
  rw [← this, List.tail_drop]
end Go.Abs
namespace Go.Abs
open Go Go.Proofs
set_option maxRecDepth 10000
attribute [local go_sem] exL_seq exL_region exL_cond exL_block exL_scope exL_ret exL_skip exL_exit runRegion runOps stepOp guardA absOp takeOver opd avOf cvOf St.degAt St.put okPV okVal okAV absBin intBin strBin boolBin setBoxes if_true Bool.false_eq_true if_false Option.map_some Option.map_none Option.bind_some Option.bind_none thenO outOf upd List.toList_toArray isOwn steal appArgs mvB inApps AV.deg CV.deg AV.gv AV.isIter absNext some_bne some_beqN List.length_nil List.length_cons List.filterMap_cons List.filterMap_nil beq_iff_eq List.getElem?_cons_zero List.getElem?_cons_succ Option.getD_some K_hook hookB Bool.false_and Bool.and_false Bool.and_self K_P K_own absCall doCall getBoxes lend back idx dedup AV.ren CV.ren TV.ren AV.ptrs CV.ptrs zipBox AV.flat CV.flat absLoad absStore cellsOfAV setAt newBox markB bldTypes absFieldAddr absField absExtract absAssert noAssert absMkIface ifcOf CV.pv? content pushHead ownT fillCells reps pvs chunks enterSt leave resOf resVars resVar outBoxes lentOnly TV.deg TV.av LK CV.plain CV.noBld nilBin absUn bound List.map_cons List.map_nil List.all_cons List.all_nil List.any_cons List.any_nil List.contains_cons List.contains_nil List.elem_cons List.elem_nil List.cons_append List.nil_append List.append_nil List.flatMap_cons List.flatMap_nil List.zip_cons_cons List.zip_nil_left List.zip_nil_right List.take_succ_cons List.take_zero List.take_nil List.drop_succ_cons List.drop_zero List.drop_nil List.isEmpty_nil List.isEmpty_cons Bool.and_true Bool.true_and Bool.or_true Bool.true_or Bool.or_false Bool.false_or Bool.not_true Bool.not_false Nat.add_zero Nat.zero_add Option.isNone_none Option.isNone_some Option.getD_none true_and and_true not_true_eq_false not_false_eq_true decide_true decide_false Nat.le_refl and_self Bool.not_eq_true Nat.sub_self or_true true_or Option.some.injEq List.length_map List.nil_eq and_false false_and AV.live CV.live CV.liveIn K_keep firstReg Option.orElse_some Option.orElse_none head keepSlots keepBoxes Int.lt_irrefl List.length_append ite_self memOK logOps opKey lentBoxes Key.clash Key.sees Key.writes Nat.lt_irrefl gt_iff_lt nobox_at bot_at false_or or_false beq_self_eq_true Bool.true_beq Bool.false_beq
theorem itoa_len {n : Int} (h : I64 n) : (Lib.itoa n).length ≤ 21 := Lib.itoa_length_le n h.1 h.2
set_option maxHeartbeats 4000000 in
theorem One_den (t : Tok) (hn : I64 t.n) (hl : t.text.length < 1000000000000) : den K 175 [.agg t.cells] [] = some (.ret (T (oneS t)) []) := by
  obtain ⟨k, s, n⟩ := t
  refine den_run rfl rfl Tryz.func175 rfl Tryz.ntmps175 ⟨by simp, by simp [LK]⟩ ?_
  have hr : Tryz.f175.results = #[.tmp 2] := rfl
  have hit := itoa_den n hn
  have hi := itoa_len hn
  simp only at hl hi
  have l1 : s.length + 1 < strLim := by simp [strLim]; omega
  have l1' : 1 + s.length < strLim := by simp [strLim]; omega
  have l2 : (Lib.itoa n).length + s.length < strLim := by simp [strLim]; omega
  have l3 : 1 + s.length + 1 < strLim := by simp [strLim]; omega
  have l4 : s.length + 2 < strLim := by simp [strLim]; omega
  have l5 : s.length + 2 + 1 < strLim := by simp [strLim]; omega
  have l6 : s.length + 2 + 1 + 2 < strLim := by simp [strLim]; omega
  have l7 : s.length + 1 + 1 < strLim := by simp [strLim]; omega
  have hk : k = 1 ∨ k = 2 ∨ k = 3 ∨ k = 4 ∨ k = 5 ∨ k = 6 ∨ k = 7 ∨ k = 8 ∨ (k ≠ 1 ∧ k ≠ 2 ∧ k ≠ 3 ∧ k ≠ 4 ∧ k ≠ 5 ∧ k ≠ 6 ∧ k ≠ 7 ∧ k ≠ 8) := by omega
  rcases hk with rfl | rfl | rfl | rfl | rfl | rfl | rfl | rfl | ⟨h1, h2, h3, h4, h5, h6, h7, h8⟩
  · simp [go_sem, Nat.reduceLT, reduceIte, Nat.reduceEqDiff, Nat.reduceBEq, Nat.reduceAdd, ty_fieldOff_47_0, ty_szOf_3, ty_shapeT_3, ty_fieldOff_47_1, ty_szOf_9, ty_shapeT_9, Tok.cells, oneS]
  · simp [go_sem, Nat.reduceLT, reduceIte, Nat.reduceEqDiff, Nat.reduceBEq, Nat.reduceAdd, ty_fieldOff_47_0, ty_szOf_3, ty_shapeT_3, ty_fieldOff_47_1, ty_szOf_9, ty_shapeT_9, Tok.cells, oneS, l1]
  · simp [go_sem, Nat.reduceLT, reduceIte, Nat.reduceEqDiff, Nat.reduceBEq, Nat.reduceAdd, ty_fieldOff_47_0, ty_szOf_3, ty_shapeT_3, ty_fieldOff_47_1, ty_szOf_9, ty_shapeT_9, Tok.cells, oneS, l1']
  · simp [go_sem, Nat.reduceLT, reduceIte, Nat.reduceEqDiff, Nat.reduceBEq, Nat.reduceAdd, ty_fieldOff_47_0, ty_szOf_3, ty_shapeT_3, ty_fieldOff_47_1, ty_szOf_9, ty_shapeT_9, Tok.cells, oneS, l1']
  · simp [go_sem, Nat.reduceLT, reduceIte, reduceCtorEq, Nat.reduceEqDiff, Nat.reduceBEq, Nat.reduceAdd, ty_fieldOff_47_0, ty_szOf_3, ty_shapeT_3, ty_fieldOff_47_1, ty_szOf_9, ty_shapeT_9, ty_fieldOff_47_2, good_130, Tok.cells, oneS, hit, l2]
  · by_cases h : n = 39 <;> simp [go_sem, Nat.reduceLT, reduceIte, Nat.reduceEqDiff, Nat.reduceBEq, Nat.reduceAdd, ty_fieldOff_47_0, ty_szOf_3, ty_shapeT_3, ty_fieldOff_47_1, ty_szOf_9, ty_shapeT_9, ty_fieldOff_47_2, Tok.cells, oneS, h, l1', l7]
  · by_cases h : s = [34]
    · simp [go_sem, Nat.reduceLT, reduceIte, Nat.reduceEqDiff, Nat.reduceBEq, Nat.reduceAdd, ty_fieldOff_47_0, ty_szOf_3, ty_shapeT_3, ty_fieldOff_47_1, ty_szOf_9, ty_shapeT_9, Tok.cells, oneS, h, strLim]
    · have e : (s == [34]) = false := by simp [h]
      by_cases h' : s = [39]
      · simp [go_sem, Nat.reduceLT, reduceIte, Nat.reduceEqDiff, Nat.reduceBEq, Nat.reduceAdd, ty_fieldOff_47_0, ty_szOf_3, ty_shapeT_3, ty_fieldOff_47_1, ty_szOf_9, ty_shapeT_9, Tok.cells, oneS, h', strLim]
      · have e' : (s == [39]) = false := by simp [h']
        simp [go_sem, Nat.reduceLT, reduceIte, Nat.reduceEqDiff, Nat.reduceBEq, Nat.reduceAdd, ty_fieldOff_47_0, ty_szOf_3, ty_shapeT_3, ty_fieldOff_47_1, ty_szOf_9, ty_shapeT_9, Tok.cells, oneS, e, e', h, h']
  · simp [go_sem, Nat.reduceLT, reduceIte, Nat.reduceEqDiff, Nat.reduceBEq, Nat.reduceAdd, ty_fieldOff_47_0, ty_szOf_3, ty_shapeT_3, Tok.cells, oneS]
  · simp [go_sem, Nat.reduceLT, reduceIte, Nat.reduceEqDiff, Nat.reduceBEq, Nat.reduceAdd, ty_fieldOff_47_0, ty_szOf_3, ty_shapeT_3, Tok.cells, oneS, h1, h2, h3, h4, h5, h6, h7, h8]
end Go.Abs
namespace Go.Abs.Tk
open Go
theorem begins_zero : begins 0 = false := by decide
theorem digit_zero : digit 0 = false := by decide
theorem begins_within {c : UInt8} (h : begins c = true) : within c = true := by simp [within, h]
theorem digit_ne {c d : UInt8} (h : digit c = true) (hd : digit d = false) : c ≠ d := fun e => by rw [e, hd] at h; cases h
theorem blank_cases {c : UInt8} (h : blank c = true) : c = 32 ∨ c = 10 ∨ c = 9 ∨ c = 12 ∨ c = 13 := by simpa [blank, or_assoc] using h
theorem within_blank {c : UInt8} (h : within c = true) : blank c = false := by
  cases hb : blank c
  · rfl
  · rcases blank_cases hb with rfl | rfl | rfl | rfl | rfl <;> revert h <;> decide
theorem digit_within {c : UInt8} (h : digit c = true) : within c = true := by simp [within, h]
theorem digit_blank {c : UInt8} (h : digit c = true) : blank c = false := within_blank (digit_within h)
section run
variable {p : UInt8 → Bool}
theorem run_nil : run p [] = 0 := rfl
theorem run_le : ∀ l : List UInt8, run p l ≤ l.length
  | [] => Nat.le_refl _
  | c :: r => by
    rw [run]; have := run_le r
    split <;> simp <;> omega
theorem run_pos {c : UInt8} {r : List UInt8} (h : p c = true) : 0 < run p (c :: r) := by rw [run, if_pos h]; omega
theorem run_take : ∀ l : List UInt8, ∀ b ∈ l.take (run p l), p b = true
  | [], b, h => by simp at h
  | c :: r, b, h => by
    rw [run] at h
    split at h
    · rename_i hc
      rw [List.take_succ_cons] at h
      rcases List.mem_cons.1 h with rfl | h
      · exact hc
      · exact run_take r b h
    · simp at h
theorem run_stop (h0 : p 0 = false) : ∀ l : List UInt8, p (at0 (l.drop (run p l))) = false
  | [] => h0
  | c :: r => by
    rw [run]
    split
    · rw [List.drop_succ_cons]; exact run_stop h0 r
    · rename_i hc
      simpa [at0] using hc
theorem run_pos_iff {y : List UInt8} (h0 : p 0 = false) : 0 < run p y ↔ p (at0 y) = true := by
  cases y with
  | nil => simp [run, at0, h0]
  | cons c r =>
    rw [run, at0]
    cases p c <;> simp
end run
theorem nameB_nil : nameB [] = false := by decide
theorem nameB_app {x y : List UInt8} (h : nameB x = true) : nameB (x ++ y) = true := by
  match x, h with
  | [], h => rw [nameB_nil] at h; cases h
  | [c], h =>
    have hc : begins c = true := by
      simp only [nameB, at0, List.tail_cons, begins_zero, Bool.false_or, Bool.or_eq_true, Bool.and_eq_true, beq_iff_eq] at h
      rcases h with h | ⟨_, h⟩
      · exact h
      · exact absurd h (by decide)
    simp [nameB, at0, hc]
  | c :: d :: r, h => exact h
theorem nameB_within {x : List UInt8} (h : nameB x = true) : within (at0 x) = true := by
  simp only [nameB, Bool.or_eq_true, Bool.and_eq_true, beq_iff_eq] at h
  rcases h with h | ⟨h, _⟩
  · exact begins_within h
  · rw [h]; decide
theorem name_zero {y : List UInt8} (h : nameB y = false) : name y = 0 := by rw [name, h]; rfl
theorem name_le (l : List UInt8) : name l ≤ l.length := by
  rw [name]; split
  · exact run_le l
  · omega
theorem shut_le : ∀ {l : List UInt8} {n : Nat}, shut l = some n → n ≤ l.length ∧ 2 ≤ n
  | c :: r, n, h => by
    rw [shut] at h
    split at h
    · rename_i hc
      cases h
      cases r with
      | nil => exact absurd hc.2 (by decide)
      | cons d r => simp
    · rw [Option.map_eq_some_iff] at h
      obtain ⟨m, hm, rfl⟩ := h
      have := shut_le hm
      simp; omega
theorem comment_pos (r : List UInt8) : 2 ≤ comment r := by unfold comment; split <;> omega
theorem inner_le {q : UInt8} : ∀ {l : List UInt8} {n : Nat}, inner q l = some n → n + 1 ≤ l.length
  | c :: r, n, h => by
    rw [inner] at h
    split at h
    · cases h; simp
    · split at h
      · cases h
      · rw [Option.map_eq_some_iff] at h
        obtain ⟨m, hm, rfl⟩ := h
        have := inner_le hm
        simp; omega
theorem num_app : ∀ {a y : List UInt8} {n : Int}, (∀ b ∈ a, digit b = true) → num n (a ++ y) = num (num n a) y
  | [], _, _, _ => rfl
  | c :: a, y, n, h => by
    rw [List.cons_append, num, if_pos (h c (by simp)), num, if_pos (h c (by simp)), num_app fun b hb => h b (by simp [hb])]
theorem num_stop {y : List UInt8} {n : Int} (h : digit (at0 y) = false) : num n y = n := by
  cases y with
  | nil => rfl
  | cons c r => rw [num, if_neg]; simpa [at0] using h
theorem num_bound : ∀ {l : List UInt8} {n : Int}, 0 ≤ n → n ≤ 999999999 → 0 ≤ num n l ∧ num n l ≤ 999999999
  | [], n, h1, h2 => ⟨h1, h2⟩
  | c :: r, n, h1, h2 => by
    rw [num]
    split
    · rename_i hc
      have : 48 ≤ c.toNat := by simp only [digit, decide_eq_true_eq] at hc; omega
      exact num_bound (by omega) (by omega)
    · exact ⟨h1, h2⟩
end Go.Abs.Tk
namespace Go.Abs.Tk
open Go
theorem unit_le (l : List UInt8) : unit l ≤ l.length := by
  unfold unit
  split
  · rename_i h
    cases l with
    | nil => exact absurd h (by decide)
    | cons c r => simp
  · exact name_le l
theorem number_le (neg : Bool) (l : List UInt8) : (number neg l).2 ≤ l.length := by
  unfold number
  have h1 := run_le (p := digit) l
  have h2 := unit_le (l.drop (run digit l))
  simp only [List.length_drop] at h2
  simp only; omega
theorem number_pos (neg : Bool) (l : List UInt8) (h : digit (at0 l) = true) : 1 ≤ (number neg l).2 := by
  unfold number
  have := (run_pos_iff (y := l) digit_zero).2 h
  simp only; omega
theorem step_pos (c : UInt8) (r : List UInt8) : 1 ≤ (step c r).2 := by
  unfold step
  split
  · have := comment_pos r.tail; simp only; omega
  split
  · rename_i h; exact run_pos h
  split
  · rename_i h
    obtain ⟨n, hn⟩ := Option.isSome_iff_exists.1 h.2
    simp only; omega
  split
  · simp only; omega
  split
  · simp only; omega
  split
  · rename_i h; exact number_pos false (c :: r) h
  split
  · simp only; omega
  split
  · split <;> simp only <;> omega
  · exact Nat.le_refl _
theorem comment_le {r : List UInt8} : comment r ≤ r.length + 2 := by
  unfold comment
  split
  · rename_i n h; have := shut_le h; omega
  · omega
theorem step_le (c : UInt8) (r : List UInt8) : (step c r).2 ≤ (c :: r).length := by
  unfold step
  split
  · rename_i h
    have := comment_le (r := r.tail)
    cases r with
    | nil => exact absurd h.2 (by decide)
    | cons d r => simp only [List.tail_cons, List.length_cons] at *; omega
  split
  · exact run_le _
  split
  · rename_i h
    obtain ⟨n, hn⟩ := Option.isSome_iff_exists.1 h.2
    have := inner_le hn
    rw [hn]; simp; omega
  split
  · have := run_le (p := within) r; simp; omega
  split
  · have := name_le r; simp; omega
  split
  · exact number_le false _
  split
  · have := number_le true r; simp; omega
  split
  · rename_i h
    split
    · rename_i h40
      have h1 := name_le (c :: r)
      have : name (c :: r) ≠ (c :: r).length := fun e => by
        rw [e, List.drop_length] at h40; exact absurd h40 (by decide)
      simp only; omega
    · exact name_le _
  · simp
theorem allN_eq : ∀ (k j : Nat) (l : List UInt8), l.length ≤ k → l.length ≤ j → allN k l = allN j l := by
  intro k
  induction k with
  | zero =>
    intro j l h _
    obtain rfl : l = [] := List.length_eq_zero_iff.1 (by omega)
    cases j <;> rfl
  | succ k ih =>
    intro j l hk hj
    cases l with
    | nil => cases j <;> rfl
    | cons c r =>
      cases j with
      | zero => simp at hj
      | succ j =>
        have hp := step_pos c r
        have hd : ((c :: r).drop (step c r).2).length ≤ r.length := by rw [List.length_drop]; simp; omega
        simp only [List.length_cons] at hk hj
        rw [allN, allN, ih j _ (by omega) (by omega)]
theorem all_nil : all [] = [] := rfl
theorem all_cons (c : UInt8) (r : List UInt8) : all (c :: r) = (step c r).1.toList ++ all ((c :: r).drop (step c r).2) := by
  have hp := step_pos c r
  have hd : ((c :: r).drop (step c r).2).length ≤ r.length := by rw [List.length_drop]; simp; omega
  rw [all, List.length_cons, allN]
  rw [allN_eq r.length _ _ hd (Nat.le_refl _), ← all]
theorem all_ind {Q : List UInt8 → Prop} (h0 : Q []) (h1 : ∀ c r, Q ((c :: r).drop (step c r).2) → Q (c :: r)) : ∀ l, Q l := by
  have : ∀ (k : Nat) (l : List UInt8), l.length ≤ k → Q l := by
    intro k
    induction k with
    | zero => intro l h; obtain rfl : l = [] := List.length_eq_zero_iff.1 (by omega); exact h0
    | succ k ih =>
      intro l h
      cases l with
      | nil => exact h0
      | cons c r =>
        have hp := step_pos c r
        exact h1 c r (ih _ (by rw [List.length_drop]; simp at *; omega))
  exact fun l => this l.length l (Nat.le_refl _)
theorem at0_cons (c : UInt8) (r : List UInt8) : at0 (c :: r) = c := rfl
theorem nameB_head {c : UInt8} {y : List UInt8} (h : at0 y = c) (hc : within c = false) : nameB y = false := by
  cases hn : nameB y
  · rfl
  · have := nameB_within hn; rw [h, hc] at this; cases this
theorem step_number {c : UInt8} {r : List UInt8} (h : digit c = true) : step c r = (some (number false (c :: r)).1, (number false (c :: r)).2) := by
  have hne : ∀ d, digit d = false → c ≠ d := fun d hd => digit_ne h hd
  unfold step
  rw [if_neg (fun e => hne 47 (by decide) e.1), if_neg (by simp [digit_blank h]), if_neg (fun e => by
    rcases e.1 with e | e
    · exact hne 34 (by decide) e
    · exact hne 39 (by decide) e), if_neg (fun e => hne 35 (by decide) e.1), if_neg (fun e => hne 64 (by decide) e.1), if_pos h]
theorem step_minus {r : List UInt8} (h : digit (at0 r) = true) : step 45 r = (some (number true r).1, (number true r).2 + 1) := by
  unfold step
  rw [if_neg (fun e => absurd e.1 (by decide)), if_neg (by decide), if_neg (by simp), if_neg (by simp), if_neg (by simp), if_neg (by decide), if_pos ⟨rfl, h⟩]
end Go.Abs.Tk
namespace Go.Abs.Tk
open Go
theorem all_len (l : List UInt8) : (all l).length ≤ l.length := by
  refine all_ind (Q := fun l => (all l).length ≤ l.length) (Nat.le_refl _) (fun c r ih => ?_) l
  rw [all_cons, List.length_append]
  have h1 := step_pos c r
  have h2 := step_le c r
  have h3 : (step c r).1.toList.length ≤ 1 := by cases (step c r).1 <;> simp
  rw [List.length_drop] at ih
  simp only [List.length_cons] at *
  omega
section both
variable {R R' : List UInt8}
end both
end Go.Abs.Tk
namespace Go.Abs
open Go
theorem size_mem : ∀ {l : List Val} {k : Int} {t : Tok} {l' : List Val}, Val.mk k t l' ∈ l → Ne.size l' < Ne.size l
  | v :: l, k, t, l', h => by
    rw [Ne.size]
    rcases List.mem_cons.1 h with rfl | h
    · rw [Ne.sizeV]; omega
    · have := size_mem h; omega
theorem ind_list {Q : List Val → Prop} (h : ∀ l, (∀ k t l', Val.mk k t l' ∈ l → Q l') → Q l) (l : List Val) : Q l := by
  have key : ∀ (m : Nat) (l : List Val), Ne.size l ≤ m → Q l := by
    intro m
    induction m with
    | zero =>
      intro l hl
      refine h l fun k t l' hm => ?_
      have := size_mem hm; omega
    | succ m ih =>
      intro l hl
      refine h l fun k t l' hm => ih l' ?_
      have := size_mem hm; omega
  exact key _ l (Nat.le_refl _)
theorem fewL_cons (deep left : Int) (k : Int) (t : Tok) (l r : List Val) : Ne.fewL deep left (.mk k t l :: r) =
    if left < 0 then left else if 100 < t.text.length then -1 else Ne.fewL deep (if 0 ≤ left - 1 ∧ l.isEmpty = false then Ne.few (deep - 1) (left - 1) l else left - 1) r := by
  rw [Ne.fewL, Ne.fewV]
  rfl
theorem few_bound : ∀ (l : List Val) (deep left : Int), -1 ≤ left → -1 ≤ Ne.fewL deep left l ∧ Ne.fewL deep left l ≤ left ∧ (0 ≤ left → -1 ≤ Ne.few deep left l ∧ Ne.few deep left l ≤ left) := by
  have key : ∀ (l : List Val), (∀ k t l', Val.mk k t l' ∈ l → ∀ deep left : Int, -1 ≤ left → -1 ≤ Ne.fewL deep left l' ∧ Ne.fewL deep left l' ≤ left) → ∀ deep left : Int, -1 ≤ left → -1 ≤ Ne.fewL deep left l ∧ Ne.fewL deep left l ≤ left := by
    intro l
    induction l with
    | nil => intro _ deep left h; rw [Ne.fewL]; omega
    | cons v r ih =>
      obtain ⟨k, t, l⟩ := v
      intro hin deep left h
      rw [fewL_cons]
      split
      · omega
      · split
        · omega
        · have hr := ih (fun k t l' hm => hin k t l' (by simp [hm])) deep
          split
          · have h1 := hin k t l (by simp) (deep - 1) (left - 1) (by omega)
            have h2 : -1 ≤ Ne.few (deep - 1) (left - 1) l ∧ Ne.few (deep - 1) (left - 1) l ≤ left - 1 := by
              unfold Ne.few
              split <;> omega
            have := hr _ h2.1
            omega
          · have := hr (left - 1) (by omega)
            omega
  intro l deep left h
  have hl : ∀ deep left : Int, -1 ≤ left → -1 ≤ Ne.fewL deep left l ∧ Ne.fewL deep left l ≤ left := ind_list (fun l hin => key l hin) l
  have h1 := hl deep left h
  refine ⟨h1.1, h1.2, fun h0 => ?_⟩
  unfold Ne.few
  split
  · omega
  · exact h1
def TokOk (t : Tok) : Prop := I64 t.n ∧ t.text.length < 1000000000
mutual
def Ne.allV (p : Tok → Prop) : Val → Prop
  | .mk _ t l => p t ∧ Ne.allT p l
def Ne.allT (p : Tok → Prop) : List Val → Prop
  | [] => True
  | v :: l => Ne.allV p v ∧ Ne.allT p l
end
theorem fewL_facts (l : List Val) : ∀ (deep left : Int), 0 ≤ Ne.fewL deep left l → (Ne.size l : Int) ≤ left - Ne.fewL deep left l ∧ Ne.allT (fun t => t.text.length ≤ 100) l := by
  have key : ∀ (l : List Val), (∀ k t l', Val.mk k t l' ∈ l → ∀ deep left : Int, 0 ≤ Ne.fewL deep left l' → (Ne.size l' : Int) ≤ left - Ne.fewL deep left l' ∧ Ne.allT (fun t => t.text.length ≤ 100) l') →
      ∀ deep left : Int, 0 ≤ Ne.fewL deep left l → (Ne.size l : Int) ≤ left - Ne.fewL deep left l ∧ Ne.allT (fun t => t.text.length ≤ 100) l := by
    intro l
    induction l with
    | nil =>
      intro _ deep left h
      rw [Ne.fewL, Ne.size, Ne.allT]
      exact ⟨by omega, trivial⟩
    | cons v r ih =>
      obtain ⟨k, t, l⟩ := v
      intro hin deep left h
      rw [fewL_cons] at h ⊢
      rw [Ne.size, Ne.sizeV, Ne.allT, Ne.allV]
      split at h
      · omega
      · rename_i h0
        rw [if_neg h0]
        split at h
        · omega
        · rename_i h1
          rw [if_neg h1]
          have hr := ih (fun k t l' hm => hin k t l' (by simp [hm])) deep _ h
          split at h
          · rename_i h2
            rw [if_pos h2] at hr ⊢
            have hnext : 0 ≤ Ne.few (deep - 1) (left - 1) l := by omega
            have hf : Ne.few (deep - 1) (left - 1) l = Ne.fewL (deep - 1) (left - 1) l := by
              unfold Ne.few at hnext ⊢
              split at hnext
              · omega
              · rename_i h3; rw [if_neg h3]
            rw [hf] at hnext hr ⊢
            have hl := hin k t l (by simp) (deep - 1) (left - 1) hnext
            exact ⟨by omega, ⟨by omega, hl.2⟩, hr.2⟩
          · rename_i h2
            rw [if_neg h2] at hr ⊢
            have hn : 0 ≤ left - 1 := by omega
            have hl : l = [] := by
              cases l with
              | nil => rfl
              | cons a b => exact absurd ⟨hn, rfl⟩ h2
            subst hl
            rw [Ne.size, Ne.allT]
            exact ⟨by omega, ⟨by omega, trivial⟩, hr.2⟩
  exact ind_list (Q := fun l => ∀ (deep left : Int), 0 ≤ Ne.fewL deep left l → (Ne.size l : Int) ≤ left - Ne.fewL deep left l ∧ Ne.allT (fun t => t.text.length ≤ 100) l) (fun l hin => key l hin) l
theorem few_facts {l : List Val} {deep left : Int} (h : 0 ≤ Ne.few deep left l) : (Ne.size l : Int) ≤ left ∧ Ne.allT (fun t => t.text.length ≤ 100) l := by
  unfold Ne.few at h
  split at h
  · omega
  · have := fewL_facts l deep left h
    exact ⟨by omega, this.2⟩
theorem same_refl (l : List Val) : Ne.same l l = true := (Ne.same_iff l l).2 rfl
end Go.Abs
namespace Go.Abs
open Go Go.Proofs
set_option maxRecDepth 10000
attribute [local go_sem] exL_seq exL_region exL_cond exL_block exL_scope exL_ret exL_skip exL_exit runRegion runOps stepOp guardA absOp takeOver opd avOf cvOf St.degAt St.put okPV okVal okAV absBin intBin strBin boolBin setBoxes if_true Bool.false_eq_true if_false Option.map_some Option.map_none Option.bind_some Option.bind_none thenO outOf upd List.toList_toArray isOwn steal appArgs mvB inApps AV.deg CV.deg AV.gv AV.isIter absNext some_bne some_beqN List.length_nil List.length_cons List.filterMap_cons List.filterMap_nil beq_iff_eq List.getElem?_cons_zero List.getElem?_cons_succ Option.getD_some K_hook hookB Bool.false_and Bool.and_false Bool.and_self K_P K_own absCall doCall getBoxes lend back idx dedup AV.ren CV.ren TV.ren AV.ptrs CV.ptrs zipBox AV.flat CV.flat absLoad absStore cellsOfAV setAt newBox markB bldTypes absFieldAddr absField absExtract absAssert noAssert absMkIface ifcOf CV.pv? content pushHead ownT fillCells reps pvs chunks enterSt leave resOf resVars resVar outBoxes lentOnly TV.deg TV.av LK CV.plain CV.noBld nilBin absUn bound List.map_cons List.map_nil List.all_cons List.all_nil List.any_cons List.any_nil List.contains_cons List.contains_nil List.elem_cons List.elem_nil List.cons_append List.nil_append List.append_nil List.flatMap_cons List.flatMap_nil List.zip_cons_cons List.zip_nil_left List.zip_nil_right List.take_succ_cons List.take_zero List.take_nil List.drop_succ_cons List.drop_zero List.drop_nil List.isEmpty_nil List.isEmpty_cons Bool.and_true Bool.true_and Bool.or_true Bool.true_or Bool.or_false Bool.false_or Bool.not_true Bool.not_false Nat.add_zero Nat.zero_add Option.isNone_none Option.isNone_some Option.getD_none true_and and_true not_true_eq_false not_false_eq_true decide_true decide_false Nat.le_refl and_self Bool.not_eq_true Nat.sub_self or_true true_or Option.some.injEq List.length_map List.nil_eq and_false false_and AV.live CV.live CV.liveIn K_keep firstReg Option.orElse_some Option.orElse_none head keepSlots keepBoxes Int.lt_irrefl List.length_append ite_self memOK logOps opKey lentBoxes Key.clash Key.sees Key.writes Nat.lt_irrefl gt_iff_lt nobox_at bot_at false_or or_false beq_self_eq_true Bool.true_beq Bool.false_beq
theorem tok_eq (k k' n n' : Int) (t t' : List UInt8) : structEq Tryz.prog 47 [.int .i64 k, .str t, .int .i64 n] [.int .i64 k', .str t', .int .i64 n'] = some ((k == k') && ((t == t') && ((n == n') && true))) := by kernel_rfl
theorem tok_beq (a b : Tok) : ((a.kind == b.kind) && ((a.text == b.text) && ((a.n == b.n) && true))) = decide (a = b) := by
  obtain ⟨k, t, n⟩ := a
  obtain ⟨k', t', n'⟩ := b
  rw [Bool.eq_iff_iff, decide_eq_true_eq]
  simp [Tok.mk.injEq]
def lenOk (n : Nat) : Prop := n < 9000000000000000000
theorem enc_at (l : List Tok) (i : Nat) (t : Tok) (h : l[i]? = some t) : (l.map Tok.enc)[(i : Int).toNat]? = some [.int .i64 t.kind, .str t.text, .int .i64 t.n] := by
  simp [h, Tok.enc]
end Go.Abs
namespace Go.Abs
open Go Go.Proofs
set_option maxRecDepth 10000
attribute [local go_sem] exL_seq exL_region exL_cond exL_block exL_scope exL_ret exL_skip exL_exit runRegion runOps stepOp guardA absOp takeOver opd avOf cvOf St.degAt St.put okPV okVal okAV absBin intBin strBin boolBin setBoxes if_true Bool.false_eq_true if_false Option.map_some Option.map_none Option.bind_some Option.bind_none thenO outOf upd List.toList_toArray isOwn steal appArgs mvB inApps AV.deg CV.deg AV.gv AV.isIter absNext some_bne some_beqN List.length_nil List.length_cons List.filterMap_cons List.filterMap_nil beq_iff_eq List.getElem?_cons_zero List.getElem?_cons_succ Option.getD_some K_hook hookB Bool.false_and Bool.and_false Bool.and_self K_P K_own absCall doCall getBoxes lend back idx dedup AV.ren CV.ren TV.ren AV.ptrs CV.ptrs zipBox AV.flat CV.flat absLoad absStore cellsOfAV setAt newBox markB bldTypes absFieldAddr absField absExtract absAssert noAssert absMkIface ifcOf CV.pv? content pushHead ownT fillCells reps pvs chunks enterSt leave resOf resVars resVar outBoxes lentOnly TV.deg TV.av LK CV.plain CV.noBld nilBin absUn bound List.map_cons List.map_nil List.all_cons List.all_nil List.any_cons List.any_nil List.contains_cons List.contains_nil List.elem_cons List.elem_nil List.cons_append List.nil_append List.append_nil List.flatMap_cons List.flatMap_nil List.zip_cons_cons List.zip_nil_left List.zip_nil_right List.take_succ_cons List.take_zero List.take_nil List.drop_succ_cons List.drop_zero List.drop_nil List.isEmpty_nil List.isEmpty_cons Bool.and_true Bool.true_and Bool.or_true Bool.true_or Bool.or_false Bool.false_or Bool.not_true Bool.not_false Nat.add_zero Nat.zero_add Option.isNone_none Option.isNone_some Option.getD_none true_and and_true not_true_eq_false not_false_eq_true decide_true decide_false Nat.le_refl and_self Bool.not_eq_true Nat.sub_self or_true true_or Option.some.injEq List.length_map List.nil_eq and_false false_and AV.live CV.live CV.liveIn K_keep firstReg Option.orElse_some Option.orElse_none head keepSlots keepBoxes Int.lt_irrefl List.length_append ite_self memOK logOps opKey lentBoxes Key.clash Key.sees Key.writes Nat.lt_irrefl gt_iff_lt nobox_at bot_at false_or or_false beq_self_eq_true Bool.true_beq Bool.false_beq
theorem lens_valsK (l : List Val) : lens 5 (encL l) = true := by
  rw [encL_map]
  simp only [lens, List.all_map, List.all_eq_true, Function.comp_apply, beq_iff_eq]
  intro v _
  exact enc_len v
theorem lens_valK (a b c d e : PV) : lens 5 [[a, b, c, d, e]] = true := rfl
theorem val_at (l : List Val) (i : Nat) (k : Int) (t : Tok) (l' : List Val) (h : l[i]? = some (.mk k t l')) : (encL l)[(i : Int).toNat]? = some [.int .i64 k, .int .i64 t.kind, .str t.text, .int .i64 t.n, .sl (encL l')] := encL_get l i _ h
theorem pairs_den : den K 219 [] [] = some (.ret (.c (.cmap pairsE)) []) := prim_run (F := pPairs) rfl rfl
theorem delim_den (s : List UInt8) : den K 220 [T s] [] = some (.ret (.agg [.pv (.int .i64 7), .pv (.str s), .pv (.int .i64 0)]) []) := by
  refine den_run rfl rfl Tryz.func220 rfl Tryz.ntmps220 ⟨by simp, by simp [LK]⟩ ?_
  have hr : Tryz.f220.results = #[.cell 2 47] := rfl
  simp only [go_sem, Nat.reduceLT, reduceCtorEq, Nat.reduceEqDiff, Nat.reduceBEq, Nat.reduceAdd, Nat.reduceSub, Nat.reduceLeDiff, ty_shapeT_47, ty_zeroCells_47, ev_build ty_zeroCells_47 ty_placesOf_47, ty_szOf_47, hr]
abbrev closeCv (k : Int) : List CV := [.pv (.int .i64 7), .pv (.str [Ne.closeC k]), .pv (.int .i64 0)]
theorem closing_den (k : Int) : den K 221 [I k] [] = some (.ret (.agg (closeCv k)) []) := by
  refine den_run rfl rfl Tryz.func221 rfl Tryz.ntmps221 ⟨by simp, by simp [LK]⟩ ?_
  have hr : Tryz.f221.results = #[.cell 2 47] := rfl
  have hp := pairs_den
  have d1 := delim_den [41]
  have d2 := delim_den [93]
  have d3 := delim_den [125]
  by_cases h2 : k = 2
  · subst h2
    simp only [go_sem, Nat.reduceLT, reduceCtorEq, Nat.reduceEqDiff, Nat.reduceBEq, Nat.reduceAdd, Nat.reduceSub, Nat.reduceLeDiff, ty_shapeT_47, ty_zeroCells_47, good_219, ty_zeroCells_223, ty_szOf_223, ty_fieldOff_223_1, ty_szOf_9, ty_shapeT_9, good_220, ty_szOf_47, K_ownP, hr, hp, NR.look_2, d1]
    rfl
  by_cases h3 : k = 3
  · subst h3
    simp only [go_sem, Nat.reduceLT, reduceCtorEq, Nat.reduceEqDiff, Nat.reduceBEq, Nat.reduceAdd, Nat.reduceSub, Nat.reduceLeDiff, ty_shapeT_47, ty_zeroCells_47, good_219, ty_zeroCells_223, ty_szOf_223, ty_fieldOff_223_1, ty_szOf_9, ty_shapeT_9, good_220, ty_szOf_47, K_ownP, hr, hp, NR.look_3, d2]
    rfl
  by_cases h4 : k = 4
  · subst h4
    simp only [go_sem, Nat.reduceLT, reduceCtorEq, Nat.reduceEqDiff, Nat.reduceBEq, Nat.reduceAdd, Nat.reduceSub, Nat.reduceLeDiff, ty_shapeT_47, ty_zeroCells_47, good_219, ty_zeroCells_223, ty_szOf_223, ty_fieldOff_223_1, ty_szOf_9, ty_shapeT_9, good_220, ty_szOf_47, K_ownP, hr, hp, NR.look_4, d3]
    rfl
  have hl := NR.look_no k h2 h3 h4
  have hv : Ne.closeC k = 41 := by simp [Ne.closeC, h3, h4]
  rw [closeCv, hv]
  simp only [go_sem, Nat.reduceLT, reduceCtorEq, Nat.reduceEqDiff, Nat.reduceBEq, Nat.reduceAdd, Nat.reduceSub, Nat.reduceLeDiff, ty_shapeT_47, ty_zeroCells_47, good_219, ty_zeroCells_223, ty_szOf_223, ty_fieldOff_223_1, ty_szOf_9, ty_shapeT_9, good_220, ty_szOf_47, K_ownP, hr, hp, hl, d1]
end Go.Abs
namespace Go.Abs
open Go Go.Proofs
set_option maxRecDepth 10000
attribute [local go_sem] exL_seq exL_region exL_cond exL_block exL_scope exL_ret exL_skip exL_exit runRegion runOps stepOp guardA absOp takeOver opd avOf cvOf St.degAt St.put okPV okVal okAV absBin intBin strBin boolBin setBoxes if_true Bool.false_eq_true if_false Option.map_some Option.map_none Option.bind_some Option.bind_none thenO outOf upd List.toList_toArray isOwn steal appArgs mvB inApps AV.deg CV.deg AV.gv AV.isIter absNext some_bne some_beqN List.length_nil List.length_cons List.filterMap_cons List.filterMap_nil beq_iff_eq List.getElem?_cons_zero List.getElem?_cons_succ Option.getD_some K_hook hookB Bool.false_and Bool.and_false Bool.and_self K_P K_own absCall doCall getBoxes lend back idx dedup AV.ren CV.ren TV.ren AV.ptrs CV.ptrs zipBox AV.flat CV.flat absLoad absStore cellsOfAV setAt newBox markB bldTypes absFieldAddr absField absExtract absAssert noAssert absMkIface ifcOf CV.pv? content pushHead ownT fillCells reps pvs chunks enterSt leave resOf resVars resVar outBoxes lentOnly TV.deg TV.av LK CV.plain CV.noBld nilBin absUn bound List.map_cons List.map_nil List.all_cons List.all_nil List.any_cons List.any_nil List.contains_cons List.contains_nil List.elem_cons List.elem_nil List.cons_append List.nil_append List.append_nil List.flatMap_cons List.flatMap_nil List.zip_cons_cons List.zip_nil_left List.zip_nil_right List.take_succ_cons List.take_zero List.take_nil List.drop_succ_cons List.drop_zero List.drop_nil List.isEmpty_nil List.isEmpty_cons Bool.and_true Bool.true_and Bool.or_true Bool.true_or Bool.or_false Bool.false_or Bool.not_true Bool.not_false Nat.add_zero Nat.zero_add Option.isNone_none Option.isNone_some Option.getD_none true_and and_true not_true_eq_false not_false_eq_true decide_true decide_false Nat.le_refl and_self Bool.not_eq_true Nat.sub_self or_true true_or Option.some.injEq List.length_map List.nil_eq and_false false_and AV.live CV.live CV.liveIn K_keep firstReg Option.orElse_some Option.orElse_none head keepSlots keepBoxes Int.lt_irrefl List.length_append ite_self memOK logOps opKey lentBoxes Key.clash Key.sees Key.writes Nat.lt_irrefl gt_iff_lt nobox_at bot_at false_or or_false beq_self_eq_true Bool.true_beq Bool.false_beq
abbrev FV (f : Nat) : AV := .c (.fn f [])
abbrev valCv (k : Int) (t : Tok) (l : List Val) : List CV := [.pv (.int .i64 k), .pv (.int .i64 t.kind), .pv (.str t.text), .pv (.int .i64 t.n), .pv (.sl (encL l))]
def VSameDen (a b : List Val) : Prop := den K 70 [L (encL a), L (encL b)] [] = some (.ret (B (Ne.same a b)) [])
def VSame2Den (a b : List Val) : Prop := den K 21 [L (encL a), L (encL b)] [] = some (.ret (B (Ne.same a b)) [])
theorem same1_den (k k' : Int) (t t' : Tok) (l l' : List Val) (h : VSameDen l l') : den K 120 [.agg (valCv k t l), .agg (valCv k' t' l')] [] = some (.ret (B (Ne.sameV (.mk k t l) (.mk k' t' l'))) []) := by
  have hr : Tryz.f120.results = #[.tmp 4] := rfl
  have heq := tok_eq t.kind t'.kind t.n t'.n t.text t'.text
  rw [tok_beq] at heq
  unfold VSameDen at h
  rw [Ne.sameV]
  refine den_run rfl rfl Tryz.func120 rfl Tryz.ntmps120 ⟨by simp, by simp [LK]⟩ ?_
  cases b1 : (k == k')
  · simp only [go_sem, Nat.reduceLT, Nat.reduceEqDiff, Nat.reduceBEq, Nat.reduceAdd, Nat.reduceSub, Nat.reduceLeDiff, ty_fieldOff_49_0, ty_szOf_3, ty_shapeT_3, hr, b1]
  · cases b2 : decide (t = t')
    · rw [b2] at heq
      simp only [go_sem, Nat.reduceLT, Nat.reduceEqDiff, Nat.reduceBEq, Nat.reduceAdd, Nat.reduceSub, Nat.reduceLeDiff, ty_fieldOff_49_0, ty_szOf_3, ty_shapeT_3, ty_fieldOff_49_1, ty_szOf_47, ty_shapeT_47, hr, b1, heq]
    · rw [b2] at heq
      simp only [go_sem, Nat.reduceLT, Nat.reduceEqDiff, Nat.reduceBEq, Nat.reduceAdd, Nat.reduceSub, Nat.reduceLeDiff, ty_fieldOff_49_0, ty_szOf_3, ty_shapeT_3, ty_fieldOff_49_1, ty_szOf_47, ty_shapeT_47, ty_fieldOff_49_2, ty_szOf_22, ty_shapeT_22, good_70, hr, b1, heq, h]
abbrev eqH (a b : List Val) (i : Nat) : St :=
  { sl := upd (upd (upd (upd (upd bot 17 (I i)) 16 (I a.length)) 15 (L (encL a))) 2 (FV 120)) 1 (L (encL b)), bx := upd nobox 100000 none, nt := 32 }
theorem eq_loop (a b : List Val) (hab : a.length = b.length) (ha : a.length ≤ 1000000) (hin : ∀ k t l' m, Val.mk k t l' ∈ a → (∃ k' t', Val.mk k' t' m ∈ b) → VSameDen l' m) : ∀ (ra rb : List Val) (i : Nat), a.drop i = ra → b.drop i = rb → i ≤ a.length →
    Ends (exL K 119 (.loop (loopAt Tryz.f119 4)) (eqH a b i)) fun o S => (Ne.same ra rb = true ∧ o = .exit 0 ∧ S.nt = 32) ∨ (Ne.same ra rb = false ∧ o = .ret ∧ S.sl 6 = B false)
  | [], rb, i, hda, hdb, hi => by
    have hin : i = a.length := by
      have := List.drop_eq_nil_iff.1 hda
      omega
    obtain rfl : rb = [] := by rw [← hdb, hin, hab, List.drop_length]
    subst hin
    conv in loopAt _ _ => whnf
    rw [exL_loop]
    simp only [go_sem, Nat.reduceLT, reduceCtorEq, Nat.reduceEqDiff, Nat.reduceBEq, keep_119_4, ends_some, Ne.same]
  | .mk k t l' :: ra, rb, i, hda, hdb, hi => by
    obtain ⟨g1, g2, g3⟩ := drop_cons hda
    cases rb with
    | nil =>
      have := List.drop_eq_nil_iff.1 hdb
      omega
    | cons y rb =>
      obtain ⟨k', t', m⟩ := y
      obtain ⟨k1, k2, k3⟩ := drop_cons hdb
      have hlt : decide ((i : Int) < (a.length : Int)) = true := decide_eq_true (by omega)
      have ga := val_at a i k t l' g1
      have gb := val_at b i k' t' m k1
      have hsd := same1_den k k' t t' l' m (hin k t l' m (List.mem_of_getElem? g1) ⟨k', t', List.mem_of_getElem? k1⟩)
      have ih := eq_loop a b hab ha hin ra rb (i + 1) g2 k2 (by omega)
      conv at ih in loopAt _ _ => whnf
      conv in loopAt _ _ => whnf
      rw [exL_loop]
      rw [Ne.same]
      cases hxy : Ne.sameV (.mk k t l') (.mk k' t' m)
      · rw [hxy] at hsd
        rw [Bool.false_and]
        simp only [go_sem, Nat.reduceLT, Nat.reduceEqDiff, Nat.reduceBEq, Nat.reduceAdd, ev_indexAddr ty_descOf_22, ty_szOf_49, ty_shapeT_49, ty_zeroCells_49, keep_119_4, good_120, hlt, ga, gb, hsd, Int.natCast_nonneg, ends_some]
      · rw [hxy] at hsd
        rw [Bool.true_and]
        simp only [go_sem, Nat.reduceLT, Nat.reduceEqDiff, Nat.reduceBEq, Nat.reduceAdd, ev_indexAddr ty_descOf_22, ty_szOf_49, ty_shapeT_49, ty_zeroCells_49, keep_119_4, good_120, hlt, ga, gb, hsd, Int.natCast_nonneg, wrap_nat i (by omega)]
        rw [exL_head]
        simp only [go_sem, Nat.reduceEqDiff, keep_119_4]
        exact ih
theorem same_len : ∀ {a b : List Val}, a.length ≠ b.length → Ne.same a b = false
  | [], [], h => absurd rfl h
  | [], _ :: _, _ => rfl
  | _ :: _, [], _ => rfl
  | x :: a, y :: b, h => by
    rw [Ne.same, same_len (a := a) (b := b) (by simpa using h), Bool.and_false]
theorem EqualFunc_den (a b : List Val) (ha : a.length ≤ 1000000) (hb : b.length ≤ 1000000) (hin : ∀ k t l' m, Val.mk k t l' ∈ a → (∃ k' t', Val.mk k' t' m ∈ b) → VSameDen l' m) :
    den K 119 [L (encL a), L (encL b), FV 120] [] = some (.ret (B (Ne.same a b)) []) := by
  refine den_run rfl rfl Tryz.func119 rfl Tryz.ntmps119 ⟨by simp, by simp [LK]⟩ ?_
  have hr : Tryz.f119.results = #[.tmp 6] := rfl
  by_cases hab : a.length = b.length
  · have e0 : ((a.length : Int) != (b.length : Int)) = false := by simp [hab]
    have h := eq_loop a b hab ha hin a b 0 rfl rfl (by omega)
    conv at h in loopAt _ _ => whnf
    obtain ⟨o, S', w, hq⟩ := h
    simp only [go_sem, Nat.reduceLT, reduceCtorEq, Nat.reduceEqDiff, Nat.reduceBEq, Nat.reduceAdd, ev_len_sl ty_descOf_22, encL_len, e0]
    rw [exL_head]
    simp only [go_sem, Nat.reduceEqDiff, keep_119_4]
    erw [w]
    rcases hq with ⟨hv, rfl, hn⟩ | ⟨hv, rfl, h6⟩
    · simp only [go_sem, Nat.reduceLT, Nat.reduceBEq, hr, hv, hn]
    · simp only [go_sem, hr, hv, h6]
  · have e0 : ((a.length : Int) != (b.length : Int)) = true := by rw [bne_iff_ne]; omega
    have hv := same_len hab
    simp only [go_sem, Nat.reduceLT, reduceCtorEq, Nat.reduceEqDiff, Nat.reduceBEq, Nat.reduceAdd, ev_len_sl ty_descOf_22, encL_len, e0, hr, hv]
theorem VSame_den (a : List Val) : Ne.size a ≤ 1000000 → ∀ b, Ne.size b ≤ 1000000 → VSameDen a b := by
  refine ind_list (Q := fun a => Ne.size a ≤ 1000000 → ∀ b, Ne.size b ≤ 1000000 → VSameDen a b) (fun a hin ha b hb => ?_) a
  have h := EqualFunc_den a b (Nat.le_trans (Ne.length_size a) ha) (Nat.le_trans (Ne.length_size b) hb) (fun k t l' m hm ⟨k', t', hm'⟩ => hin k t l' hm (by have := size_mem hm; omega) m (by have := size_mem hm'; omega))
  unfold VSameDen
  refine den_run rfl rfl Tryz.func70 rfl Tryz.ntmps70 ⟨by simp, by simp [LK]⟩ ?_
  have hr : Tryz.f70.results = #[.tmp 4] := rfl
  simp only [go_sem, Nat.reduceLT, reduceCtorEq, Nat.reduceEqDiff, Nat.reduceBEq, Nat.reduceAdd, good_119, hr, h]
abbrev same2H (a b : List Val) (i : Nat) : St := { sl := upd (upd (upd bot 5 (I i)) 1 (L (encL b))) 0 (L (encL a)), bx := nobox, nt := 55 }
set_option maxHeartbeats 8000000 in
theorem same2_loop (a b : List Val) (hab : a.length = b.length) (ha : a.length ≤ 1000000) (hin : ∀ k t l' m, Val.mk k t l' ∈ a → (∃ k' t', Val.mk k' t' m ∈ b) → VSame2Den l' m) : ∀ (ra rb : List Val) (i : Nat), a.drop i = ra → b.drop i = rb → i ≤ a.length →
    Ends (exL K 21 (.loop (loopAt Tryz.f21 4)) (same2H a b i)) fun o S => (Ne.same ra rb = true ∧ o = .exit 0 ∧ S.nt = 55) ∨ (Ne.same ra rb = false ∧ o = .ret ∧ S.sl 4 = B false)
  | [], rb, i, hda, hdb, hi => by
    have hin : i = a.length := by
      have := List.drop_eq_nil_iff.1 hda
      omega
    obtain rfl : rb = [] := by rw [← hdb, hin, hab, List.drop_length]
    subst hin
    conv in loopAt _ _ => whnf
    rw [exL_loop]
    simp only [go_sem, Nat.reduceLT, reduceCtorEq, Nat.reduceEqDiff, Nat.reduceBEq, Nat.reduceAdd, ev_len_sl ty_descOf_22, keep_21_4, ends_some, Ne.same, encL_len]
  | .mk k t l' :: ra, rb, i, hda, hdb, hi => by
    obtain ⟨g1, g2, g3⟩ := drop_cons hda
    cases rb with
    | nil =>
      have := List.drop_eq_nil_iff.1 hdb
      omega
    | cons y rb =>
      obtain ⟨k', t', m⟩ := y
      obtain ⟨k1, k2, k3⟩ := drop_cons hdb
      have hlt : decide ((i : Int) < (a.length : Int)) = true := decide_eq_true (by omega)
      have ga := val_at a i k t l' g1
      have gb := val_at b i k' t' m k1
      have hsd := hin k t l' m (List.mem_of_getElem? g1) ⟨k', t', List.mem_of_getElem? k1⟩
      unfold VSame2Den at hsd
      have heq := tok_eq t.kind t'.kind t.n t'.n t.text t'.text
      rw [tok_beq] at heq
      have ih := same2_loop a b hab ha hin ra rb (i + 1) g2 k2 (by omega)
      conv at ih in loopAt _ _ => whnf
      conv in loopAt _ _ => whnf
      rw [exL_loop]
      rw [Ne.same, Ne.sameV]
      cases b1 : (k == k')
      · have e1 : (k != k') = true := by rw [bne, b1]; rfl
        simp only [go_sem, Nat.reduceLT, reduceCtorEq, Nat.reduceEqDiff, Nat.reduceBEq, Nat.reduceAdd, ev_len_sl ty_descOf_22, ev_indexAddr ty_descOf_22, ty_szOf_49, ty_fieldOff_49_0, ty_szOf_3, ty_shapeT_3, keep_21_4, encL_len, hlt, ga, gb, e1, Int.natCast_nonneg, ends_some]
      · have e1 : (k != k') = false := by rw [bne, b1]; rfl
        cases b2 : decide (t = t')
        · rw [b2] at heq
          simp only [go_sem, Nat.reduceLT, reduceCtorEq, Nat.reduceEqDiff, Nat.reduceBEq, Nat.reduceAdd, Nat.reduceLeDiff, ev_len_sl ty_descOf_22, ev_indexAddr ty_descOf_22, ty_szOf_49, ty_fieldOff_49_0, ty_szOf_3, ty_shapeT_3, ty_fieldOff_49_1, ty_szOf_47, ty_shapeT_47, keep_21_4, encL_len, hlt, ga, gb, Int.natCast_nonneg, e1, heq, ends_some]
        · rw [b2] at heq
          cases b3 : Ne.same l' m
          · rw [b3] at hsd
            simp only [go_sem, Nat.reduceLT, reduceCtorEq, Nat.reduceEqDiff, Nat.reduceBEq, Nat.reduceAdd, Nat.reduceLeDiff, ev_len_sl ty_descOf_22, ev_indexAddr ty_descOf_22, ty_szOf_49, ty_fieldOff_49_0, ty_szOf_3, ty_shapeT_3, ty_fieldOff_49_1, ty_szOf_47, ty_shapeT_47, ty_fieldOff_49_2, ty_szOf_22, ty_shapeT_22, good_21, keep_21_4, encL_len, hlt, ga, gb, Int.natCast_nonneg, e1, heq, hsd, ends_some]
          · rw [b3] at hsd
            simp only [go_sem, Nat.reduceLT, reduceCtorEq, Nat.reduceEqDiff, Nat.reduceBEq, Nat.reduceAdd, Nat.reduceLeDiff, ev_len_sl ty_descOf_22, ev_indexAddr ty_descOf_22, ty_szOf_49, ty_fieldOff_49_0, ty_szOf_3, ty_shapeT_3, ty_fieldOff_49_1, ty_szOf_47, ty_shapeT_47, ty_fieldOff_49_2, ty_szOf_22, ty_shapeT_22, good_21, keep_21_4, encL_len, hlt, ga, gb, Int.natCast_nonneg, e1, heq, hsd, wrap_nat i (by omega)]
            rw [exL_head]
            simp only [go_sem, reduceCtorEq, Nat.reduceEqDiff, keep_21_4]
            exact ih
theorem VSame2_den (a : List Val) : Ne.size a ≤ 1000000 → ∀ b, Ne.size b ≤ 1000000 → VSame2Den a b := by
  refine ind_list (Q := fun a => Ne.size a ≤ 1000000 → ∀ b, Ne.size b ≤ 1000000 → VSame2Den a b) (fun a hin ha b hb => ?_) a
  have h : ∀ hab : a.length = b.length, _ := fun hab => same2_loop a b hab (Nat.le_trans (Ne.length_size a) ha) (fun k t l' m hm ⟨k', t', hm'⟩ => hin k t l' hm (by have := size_mem hm; omega) m (by have := size_mem hm'; omega)) a b 0 rfl rfl (by omega)
  unfold VSame2Den
  refine den_run rfl rfl Tryz.func21 rfl Tryz.ntmps21 ⟨by simp, by simp [LK]⟩ ?_
  have hr : Tryz.f21.results = #[.tmp 4] := rfl
  by_cases hab : a.length = b.length
  · have e0 : ((a.length : Int) != (b.length : Int)) = false := by simp [hab]
    have h := h hab
    conv at h in loopAt _ _ => whnf
    obtain ⟨o, S', w, hq⟩ := h
    simp only [go_sem, Nat.reduceLT, reduceCtorEq, Nat.reduceEqDiff, Nat.reduceBEq, Nat.reduceAdd, ev_len_sl ty_descOf_22, encL_len, e0]
    rw [exL_head]
    simp only [go_sem, reduceCtorEq, Nat.reduceEqDiff, keep_21_4]
    erw [w]
    rcases hq with ⟨hv, rfl, hn⟩ | ⟨hv, rfl, h6⟩
    · simp only [go_sem, Nat.reduceLT, Nat.reduceBEq, hr, hv, hn]
    · simp only [go_sem, hr, hv, h6]
  · have e0 : ((a.length : Int) != (b.length : Int)) = true := by rw [bne_iff_ne]; omega
    have hv := same_len hab
    simp only [go_sem, Nat.reduceLT, reduceCtorEq, Nat.reduceEqDiff, Nat.reduceBEq, Nat.reduceAdd, ev_len_sl ty_descOf_22, encL_len, e0, hr, hv]
end Go.Abs
namespace Go.Abs
open Go Go.Proofs
set_option maxRecDepth 10000
attribute [local go_sem] exL_seq exL_region exL_cond exL_block exL_scope exL_ret exL_skip exL_exit runRegion runOps stepOp guardA absOp takeOver opd avOf cvOf St.degAt St.put okPV okVal okAV absBin intBin strBin boolBin setBoxes if_true Bool.false_eq_true if_false Option.map_some Option.map_none Option.bind_some Option.bind_none thenO outOf upd List.toList_toArray isOwn steal appArgs mvB inApps AV.deg CV.deg AV.gv AV.isIter absNext some_bne some_beqN List.length_nil List.length_cons List.filterMap_cons List.filterMap_nil beq_iff_eq List.getElem?_cons_zero List.getElem?_cons_succ Option.getD_some K_hook hookB Bool.false_and Bool.and_false Bool.and_self K_P K_own absCall doCall getBoxes lend back idx dedup AV.ren CV.ren TV.ren AV.ptrs CV.ptrs zipBox AV.flat CV.flat absLoad absStore cellsOfAV setAt newBox markB bldTypes absFieldAddr absField absExtract absAssert noAssert absMkIface ifcOf CV.pv? content pushHead ownT fillCells reps pvs chunks enterSt leave resOf resVars resVar outBoxes lentOnly TV.deg TV.av LK CV.plain CV.noBld nilBin absUn bound List.map_cons List.map_nil List.all_cons List.all_nil List.any_cons List.any_nil List.contains_cons List.contains_nil List.elem_cons List.elem_nil List.cons_append List.nil_append List.append_nil List.flatMap_cons List.flatMap_nil List.zip_cons_cons List.zip_nil_left List.zip_nil_right List.take_succ_cons List.take_zero List.take_nil List.drop_succ_cons List.drop_zero List.drop_nil List.isEmpty_nil List.isEmpty_cons Bool.and_true Bool.true_and Bool.or_true Bool.true_or Bool.or_false Bool.false_or Bool.not_true Bool.not_false Nat.add_zero Nat.zero_add Option.isNone_none Option.isNone_some Option.getD_none true_and and_true not_true_eq_false not_false_eq_true decide_true decide_false Nat.le_refl and_self Bool.not_eq_true Nat.sub_self or_true true_or Option.some.injEq List.length_map List.nil_eq and_false false_and AV.live CV.live CV.liveIn K_keep firstReg Option.orElse_some Option.orElse_none head keepSlots keepBoxes Int.lt_irrefl List.length_append ite_self memOK logOps opKey lentBoxes Key.clash Key.sees Key.writes Nat.lt_irrefl gt_iff_lt nobox_at bot_at false_or or_false beq_self_eq_true Bool.true_beq Bool.false_beq
theorem blank_den (k : Int) (t : Tok) (l : List Val) : den K 33 [.agg (valCv k t l)] [] = some (.ret (B (Sl.isBlank (.mk k t l))) []) := by
  refine den_run rfl rfl Tryz.func33 rfl Tryz.ntmps33 ⟨by simp, by simp [LK]⟩ ?_
  have hr : Tryz.f33.results = #[.tmp 2] := rfl
  have hs : Sl.isBlank (.mk k t l) = ((k == 1) && (t.kind == 8)) := rfl
  rw [hs]
  cases e1 : (k == 1)
  · simp only [go_sem, Nat.reduceLT, Nat.reduceEqDiff, Nat.reduceBEq, Nat.reduceAdd, Nat.reduceSub, Nat.reduceLeDiff, ty_fieldOff_49_0, ty_szOf_3, ty_shapeT_3, hr, e1]
  · simp only [go_sem, Nat.reduceLT, Nat.reduceEqDiff, Nat.reduceBEq, Nat.reduceAdd, Nat.reduceSub, Nat.reduceLeDiff, ty_fieldOff_49_0, ty_szOf_3, ty_shapeT_3, ty_fieldOff_49_1, ty_szOf_47, ty_fieldOff_47_0, hr, e1]
theorem sign3_den (k : Int) (t : Tok) (l : List Val) (s : List UInt8) : den K 35 [.agg (valCv k t l), T s] [] = some (.ret (B (Sl.isSign s (.mk k t l))) []) := by
  refine den_run rfl rfl Tryz.func35 rfl Tryz.ntmps35 ⟨by simp, by simp [LK]⟩ ?_
  have hr : Tryz.f35.results = #[.tmp 4] := rfl
  have hv : decide (t = ⟨7, s, 0⟩) = ((t.kind == 7) && ((t.text == s) && ((t.n == 0) && true))) := (tok_beq t ⟨7, s, 0⟩).symm
  have hs : Sl.isSign s (.mk k t l) = ((k == 1) && ((t.kind == 7) && ((t.text == s) && ((t.n == 0) && true)))) := by rw [← hv]; rfl
  rw [hs]
  cases e1 : (k == 1)
  · simp only [go_sem, Nat.reduceLT, Nat.reduceEqDiff, Nat.reduceBEq, Nat.reduceAdd, Nat.reduceSub, Nat.reduceLeDiff, ty_fieldOff_49_0, ty_szOf_3, ty_shapeT_3, hr, e1]
  · cases e2 : (t.kind == 7)
    · simp only [go_sem, Nat.reduceLT, Nat.reduceEqDiff, Nat.reduceBEq, Nat.reduceAdd, Nat.reduceSub, Nat.reduceLeDiff, ty_fieldOff_49_0, ty_szOf_3, ty_shapeT_3, ty_fieldOff_49_1, ty_szOf_47, ty_fieldOff_47_0, hr, e1, e2]
    · cases e3 : (t.text == s)
      · simp only [go_sem, Nat.reduceLT, Nat.reduceEqDiff, Nat.reduceBEq, Nat.reduceAdd, Nat.reduceSub, Nat.reduceLeDiff, ty_fieldOff_49_0, ty_szOf_3, ty_shapeT_3, ty_fieldOff_49_1, ty_szOf_47, ty_fieldOff_47_0, ty_fieldOff_47_1, ty_szOf_9, ty_shapeT_9, hr, e1, e2, e3]
      · simp only [go_sem, Nat.reduceLT, Nat.reduceEqDiff, Nat.reduceBEq, Nat.reduceAdd, Nat.reduceSub, Nat.reduceLeDiff, ty_fieldOff_49_0, ty_szOf_3, ty_shapeT_3, ty_fieldOff_49_1, ty_szOf_47, ty_fieldOff_47_0, ty_fieldOff_47_1, ty_szOf_9, ty_shapeT_9, ty_fieldOff_47_2, hr, e1, e2, e3]
abbrev trimH (l : List Val) (i j : Nat) : St :=
  { sl := upd (upd (upd bot 4 (I j)) 3 (I i)) 0 (L (encL l)), bx := nobox, nt := 38 }
noncomputable def tlp2 : Code := .loop (loopAt Tryz.f73 2)
theorem trim2_yes (l : List Val) (i : Nat) (hl : l.length ≤ 100000000) (v : Val) (hi : l[i]? = some v) (hb : Sl.isBlank v = true) :
    exL K 73 tlp2 (trimH l i l.length) = exL K 73 tlp2 (trimH l (i + 1) l.length) := by
  obtain ⟨k, t, c⟩ := v
  have hil : i < l.length := (List.getElem?_eq_some_iff.1 hi).1
  have hlt : decide ((i : Int) < (l.length : Int)) = true := decide_eq_true (by omega)
  have hget := val_at l i k t c hi
  have hw : IntKind.i64.wrap ((i : Int) + 1) = ((i + 1 : Nat) : Int) := wrap_nat i (by omega)
  have hd := blank_den k t c
  rw [hb] at hd
  unfold tlp2
  conv in loopAt _ _ => whnf
  conv in loopAt _ _ => whnf
  conv in exL _ _ _ (trimH l i l.length) => rw [exL_loop]
  simp only [go_sem, Nat.reduceLT, reduceCtorEq, Nat.reduceEqDiff, Nat.reduceBEq, Nat.reduceAdd, ev_indexAddr ty_descOf_22, ty_szOf_49, ty_shapeT_49, good_33, keep_73_2, hlt, hget, Int.natCast_nonneg, hw, hd]
  rw [exL_head]
  simp only [go_sem, reduceCtorEq, Nat.reduceEqDiff, keep_73_2]
theorem Sl.trim_len (l : List Val) : (Sl.trim l).length ≤ l.length := by
  unfold Sl.trim
  rw [List.length_reverse]
  have h1 := (List.dropWhile_sublist Sl.isBlank (l := (l.dropWhile Sl.isBlank).reverse)).length_le
  have h2 := (List.dropWhile_sublist Sl.isBlank (l := l)).length_le
  rw [List.length_reverse] at h1
  omega
abbrev encP (l : List (List Val)) : List (List PV) := l.map fun p => [.sl (encL p)]
theorem lens_parts (l : List (List Val)) : lens 1 (encP l) = true := by simp [lens]
theorem lens_part (x : PV) : lens 1 [[x]] = true := rfl
theorem snoc_part (out : List (List Val)) (p : List Val) : encP out ++ [[.sl (encL p)]] = encP (out ++ [p]) := by simp [encP]
theorem snoc_v (acc : List Val) (k : Int) (t : Tok) (vs : List Val) : encL acc ++ [[.int .i64 k, .int .i64 t.kind, .str t.text, .int .i64 t.n, .sl (encL vs)]] = encL (acc ++ [.mk k t vs]) := by
  rw [encL_app]; rfl
abbrev atH (s : List UInt8) (l : List Val) (i e e' : Nat) (out : List (List Val)) (part : List Val) : St :=
  { sl := upd (upd (upd (upd (upd bot 7 (I i)) 6 (.c (.own e' (encL part)))) 5 (.c (.own e (encP out)))) 1 (T s)) 0 (L (encL l)), bx := nobox, nt := 38 }
noncomputable def atlp : Code := .loop (loopAt Tryz.f32 4)
theorem at_yes (s : List UInt8) (l : List Val) (i e e' : Nat) (out : List (List Val)) (part : List Val) (hl : l.length ≤ 100000000) (ho : out.length ≤ 100000000) (he : e = 22 ∨ out = []) (v : Val) (hi : l[i]? = some v) (hb : Sl.isSign s v = true) :
    exL K 32 atlp (atH s l i e e' out part) = exL K 32 atlp (atH s l (i + 1) 22 49 (out ++ [part]) []) := by
  obtain ⟨k, t, c⟩ := v
  have hil : i < l.length := (List.getElem?_eq_some_iff.1 hi).1
  have hlt : decide ((i : Int) < (l.length : Int)) = true := decide_eq_true (by omega)
  have hget := val_at l i k t c hi
  have hw : IntKind.i64.wrap ((i : Int) + 1) = ((i + 1 : Nat) : Int) := wrap_nat i (by omega)
  have hd := sign3_den k t c s
  rw [hb] at hd
  have hown : e = 22 ∨ (encP out).isEmpty = true := by
    rcases he with rfl | rfl
    · exact .inl rfl
    · exact .inr rfl
  have hlim : out.length + 1 < appLim := by unfold appLim; omega
  have hlv := lens_parts out
  have e0 : encL [] = [] := rfl
  unfold atlp
  conv in loopAt _ _ => whnf
  conv in loopAt _ _ => whnf
  conv in exL _ _ _ (atH s l i e e' out part) => rw [exL_loop]
  simp only [go_sem, Nat.reduceLT, reduceCtorEq, Nat.reduceEqDiff, Nat.reduceBEq, Nat.reduceAdd, Nat.reduceMul, ev_buildSlice (len := 0) ty_descOf_22 ty_szOf_49 ty_zeroCells_49 ⟨rfl, by decide, by decide⟩, ev_len_sl ty_descOf_22, ev_indexAddr ty_descOf_22, ty_szOf_49, ty_shapeT_49, good_35, ev_buildSlice (len := 1) ty_descOf_41 ty_szOf_22 ty_zeroCells_22 ⟨rfl, by decide, by decide⟩, ev_append ty_appInfo_41, ev_appNew_sl ty_descOf_41, ev_buildSlice (len := 1) ty_descOf_22 ty_szOf_49 ty_zeroCells_49 ⟨rfl, by decide, by decide⟩, ev_append ty_appInfo_22, ev_appNew_sl ty_descOf_22, keep_32_4, encL_len, hlt, hget, Int.natCast_nonneg, hw, hd, hown, hlim, hlv, lens_part, snoc_part]
  rw [exL_head]
  simp only [go_sem, reduceCtorEq, Nat.reduceEqDiff, keep_32_4]
  rfl
theorem at_no (s : List UInt8) (l : List Val) (i e e' : Nat) (out : List (List Val)) (part : List Val) (hl : l.length ≤ 100000000) (ho : part.length ≤ 100000000) (he : e' = 49 ∨ part = []) (v : Val) (hi : l[i]? = some v) (hb : Sl.isSign s v = false) :
    exL K 32 atlp (atH s l i e e' out part) = exL K 32 atlp (atH s l (i + 1) e 49 out (part ++ [v])) := by
  obtain ⟨k, t, c⟩ := v
  have hil : i < l.length := (List.getElem?_eq_some_iff.1 hi).1
  have hlt : decide ((i : Int) < (l.length : Int)) = true := decide_eq_true (by omega)
  have hget := val_at l i k t c hi
  have hw : IntKind.i64.wrap ((i : Int) + 1) = ((i + 1 : Nat) : Int) := wrap_nat i (by omega)
  have hd := sign3_den k t c s
  rw [hb] at hd
  have hown : e' = 49 ∨ (encL part).isEmpty = true := by
    rcases he with rfl | rfl
    · exact .inl rfl
    · exact .inr rfl
  have hlim : part.length + 1 < appLim := by unfold appLim; omega
  have hlv := lens_valsK part
  unfold atlp
  conv in loopAt _ _ => whnf
  conv in loopAt _ _ => whnf
  conv in exL _ _ _ (atH s l i e e' out part) => rw [exL_loop]
  simp only [go_sem, Nat.reduceLT, reduceCtorEq, Nat.reduceEqDiff, Nat.reduceBEq, Nat.reduceAdd, Nat.reduceMul, ev_len_sl ty_descOf_22, ev_indexAddr ty_descOf_22, ty_szOf_49, ty_shapeT_49, good_35, ev_buildSlice (len := 1) ty_descOf_41 ty_szOf_22 ty_zeroCells_22 ⟨rfl, by decide, by decide⟩, ev_append ty_appInfo_41, ev_appNew_sl ty_descOf_41, ev_buildSlice (len := 1) ty_descOf_22 ty_szOf_49 ty_zeroCells_49 ⟨rfl, by decide, by decide⟩, ev_append ty_appInfo_22, ev_appNew_sl ty_descOf_22, keep_32_4, encL_len, hlt, hget, Int.natCast_nonneg, hw, hd, hown, hlim, hlv, lens_valK, snoc_v]
  rw [exL_head]
  simp only [go_sem, reduceCtorEq, Nat.reduceEqDiff, keep_32_4]
theorem at_end (s : List UInt8) (l : List Val) (e e' : Nat) (out : List (List Val)) (part : List Val) :
    Ends (exL K 32 atlp (atH s l l.length e e' out part)) fun o S => o = .exit 0 ∧ S.nt = 38 ∧ S.sl 5 = .c (.own e (encP out)) ∧ S.sl 6 = .c (.own e' (encL part)) := by
  unfold atlp
  conv in loopAt _ _ => whnf
  rw [exL_loop]
  simp only [go_sem, Nat.reduceLT, reduceCtorEq, Nat.reduceEqDiff, Nat.reduceBEq, Nat.reduceAdd, ev_len_sl ty_descOf_22, keep_32_4, encL_len, ends_some]
def atF (s : List UInt8) (part : List Val) : List Val → List (List Val)
  | [] => [part]
  | v :: l => if Sl.isSign s v then part :: atF s [] l else atF s (part ++ [v]) l
theorem atF_eq (s : List UInt8) : ∀ (l part : List Val), ∃ p ps, Sl.at_ s l = p :: ps ∧ atF s part l = (part ++ p) :: ps
  | [], part => ⟨[], [], rfl, by simp [atF]⟩
  | v :: l, part => by
    rw [Sl.at_, atF]
    split
    · obtain ⟨p, ps, h1, h2⟩ := atF_eq s l []
      exact ⟨[], Sl.at_ s l, rfl, by rw [h1, h2]; simp⟩
    · obtain ⟨p, ps, h1, h2⟩ := atF_eq s l (part ++ [v])
      rw [h1]
      exact ⟨v :: p, ps, rfl, by rw [h2]; simp⟩
theorem atF_at (s : List UInt8) (l : List Val) : atF s [] l = Sl.at_ s l := by
  obtain ⟨p, ps, h1, h2⟩ := atF_eq s l []
  rw [h1, h2, List.nil_append]
theorem at_loop (s : List UInt8) (l : List Val) (hl : l.length ≤ 100000000) : ∀ (rest : List Val) (i e e' : Nat) (out : List (List Val)) (part : List Val), l.drop i = rest → i ≤ l.length → out.length ≤ i → part.length ≤ i → (e = 22 ∨ out = []) → (e' = 49 ∨ part = []) →
    Ends (exL K 32 atlp (atH s l i e e' out part)) fun o S => o = .exit 0 ∧ S.nt = 38 ∧ ∃ (f f' : Nat) (out' : List (List Val)) (part' : List Val), S.sl 5 = .c (.own f (encP out')) ∧ S.sl 6 = .c (.own f' (encL part')) ∧ out' ++ [part'] = out ++ atF s part rest ∧ out'.length ≤ l.length ∧ (f = 22 ∨ out' = [])
  | [], i, e, e', out, part, hd, hi, h1, h2, h3, h4 => by
    have hin : i = l.length := by
      have := List.drop_eq_nil_iff.1 hd
      omega
    subst hin
    refine ends_imp (at_end s l e e' out part) fun o S q => ⟨q.1, q.2.1, e, e', out, part, q.2.2.1, q.2.2.2, rfl, h1, h3⟩
  | v :: rest, i, e, e', out, part, hd, hi, h1, h2, h3, h4 => by
    obtain ⟨g1, g2, g3⟩ := drop_cons hd
    cases hb : Sl.isSign s v with
    | true =>
      rw [at_yes s l i e e' out part hl (by omega) h3 v g1 hb]
      have := at_loop s l hl rest (i + 1) 22 49 (out ++ [part]) [] g2 (by omega) (by rw [List.length_append, List.length_singleton]; omega) (Nat.zero_le _) (.inl rfl) (.inl rfl)
      rw [List.append_assoc, List.singleton_append] at this
      rw [atF, hb, if_pos rfl]
      exact this
    | false =>
      rw [at_no s l i e e' out part hl (by omega) h4 v g1 hb]
      have := at_loop s l hl rest (i + 1) e 49 out (part ++ [v]) g2 (by omega) (by omega) (by rw [List.length_append, List.length_singleton]; omega) h3 (.inl rfl)
      rw [atF, hb, if_neg (by simp)]
      exact this
theorem At_den (l : List Val) (s : List UInt8) (hl : l.length ≤ 100000000) : den K 32 [L (encL l), T s] [] = some (.ret (L (encP (Sl.at_ s l))) []) := by
  have h := at_loop s l hl l 0 22 49 [] [] rfl (Nat.zero_le _) (Nat.le_refl _) (Nat.le_refl _) (.inl rfl) (.inl rfl)
  unfold atlp at h
  conv at h in loopAt _ _ => whnf
  obtain ⟨o, S, w, rfl, hn, f, f', out, part, s5, s6, hp, hlen, hf⟩ := h
  rw [List.nil_append, atF_at] at hp
  rw [← hp, ← snoc_part]
  have hown : f = 22 ∨ (encP out).isEmpty = true := by
    rcases hf with rfl | rfl
    · exact .inl rfl
    · exact .inr rfl
  have hlim : out.length + 1 < appLim := by unfold appLim; omega
  have hlv := lens_parts out
  have e0 : encL [] = [] := rfl
  refine den_run rfl rfl Tryz.func32 rfl Tryz.ntmps32 ⟨by simp, by simp [LK]⟩ ?_
  have hr : Tryz.f32.results = #[.tmp 4] := rfl
  simp only [go_sem, Nat.reduceLT, Nat.reduceEqDiff, Nat.reduceBEq, Nat.reduceAdd, ev_buildSlice (len := 0) ty_descOf_41 ty_szOf_22 ty_zeroCells_22 ⟨rfl, by decide, by decide⟩, ev_buildSlice (len := 0) ty_descOf_22 ty_szOf_49 ty_zeroCells_49 ⟨rfl, by decide, by decide⟩]
  rw [exL_head]
  simp only [go_sem, reduceCtorEq, Nat.reduceEqDiff, keep_32_4]
  erw [w]
  simp only [go_sem, Nat.reduceLT, reduceCtorEq, Nat.reduceEqDiff, Nat.reduceBEq, Nat.reduceAdd, Nat.reduceMul, ev_buildSlice (len := 1) ty_descOf_41 ty_szOf_22 ty_zeroCells_22 ⟨rfl, by decide, by decide⟩, ev_append ty_appInfo_41, ev_appNew_sl ty_descOf_41, hr, hn, s5, s6, hown, hlim, hlv, lens_part]
end Go.Abs
namespace Go.Abs.Sl
def cut (p : Val → Bool) : List Val → List (List Val)
  | [] => [[]]
  | v :: l => if p v then [] :: cut p l else match cut p l with
    | [] => [[v]]
    | q :: qs => (v :: q) :: qs
theorem cut_ne (p : Val → Bool) (l : List Val) : ∃ q qs, cut p l = q :: qs := by
  cases l with
  | nil => exact ⟨_, _, rfl⟩
  | cons v l =>
    rw [cut]
    split
    · exact ⟨_, _, rfl⟩
    · split
      · exact ⟨_, _, rfl⟩
      · exact ⟨_, _, rfl⟩
theorem cut_yes {p : Val → Bool} {v : Val} (h : p v = true) (l : List Val) : cut p (v :: l) = [] :: cut p l := by rw [cut, if_pos h]
theorem cut_no {p : Val → Bool} {v : Val} (h : p v = false) {l q : List Val} {qs : List (List Val)} (e : cut p l = q :: qs) : cut p (v :: l) = (v :: q) :: qs := by
  rw [cut, if_neg (by rw [h]; simp), e]
theorem cut_snoc {p : Val → Bool} {v : Val} (h : p v = true) : ∀ l : List Val, cut p (l ++ [v]) = cut p l ++ [[]]
  | [] => by rw [List.nil_append, cut_yes h]; rfl
  | x :: l => by
    rw [List.cons_append]
    cases hx : p x with
    | true => rw [cut_yes hx, cut_yes hx, cut_snoc h l]; rfl
    | false =>
      obtain ⟨q, qs, e⟩ := cut_ne p l
      rw [cut_no hx e, cut_no hx (l := l ++ [v]) (q := q) (qs := qs ++ [[]]) (by rw [cut_snoc h l, e]; rfl)]
      rfl
theorem cut_length (p : Val → Bool) : ∀ l : List Val, (cut p l).length ≤ l.length + 1
  | [] => Nat.le_refl _
  | v :: l => by
    have h := cut_length p l
    obtain ⟨q, qs, e⟩ := cut_ne p l
    cases hv : p v with
    | true => rw [cut_yes hv, List.length_cons, List.length_cons]; omega
    | false =>
      rw [cut_no hv e, List.length_cons, List.length_cons]
      rw [e, List.length_cons] at h
      omega
theorem drop_head : ∀ l : List Val, ∀ v r, l.dropWhile isBlank = v :: r → isBlank v = false
  | [], v, r, h => by cases h
  | x :: l, v, r, h => by
    rw [List.dropWhile_cons] at h
    split at h
    · exact drop_head l v r h
    · rename_i hx
      cases h
      simpa using hx
theorem trim_head {l r : List Val} {v : Val} (h : trim l = v :: r) : isBlank v = false := by
  unfold trim at h
  obtain ⟨pre, hp⟩ := List.dropWhile_suffix isBlank (l := (l.dropWhile isBlank).reverse)
  have h2 : l.dropWhile isBlank = trim l ++ pre.reverse := by
    have := congrArg List.reverse hp
    rw [List.reverse_append, List.reverse_reverse] at this
    exact this.symm
  unfold trim at h2
  rw [h] at h2
  exact drop_head l v _ h2
theorem trim_last {l r : List Val} {v : Val} (h : trim l = r ++ [v]) : isBlank v = false := by
  unfold trim at h
  have h2 := congrArg List.reverse h
  rw [List.reverse_reverse, List.reverse_append, List.reverse_singleton, List.singleton_append] at h2
  exact drop_head _ v _ h2
theorem trim_length (l : List Val) : (trim l).length ≤ l.length := by
  unfold trim
  rw [List.length_reverse]
  have h1 := (List.dropWhile_sublist isBlank (l := (l.dropWhile isBlank).reverse)).length_le
  have h2 := (List.dropWhile_sublist isBlank (l := l)).length_le
  rw [List.length_reverse] at h1
  omega
def signV (d : List UInt8) : Val := .mk 1 ⟨7, d, 0⟩ []
def joins (d : List UInt8) (ps : List (List Val)) : List Val := ps.flatMap fun q => signV d :: q
def join (d : List UInt8) : List (List Val) → List Val
  | [] => []
  | p :: ps => p ++ joins d ps
theorem joins_nil (d : List UInt8) : joins d [] = [] := rfl
theorem joins_cons (d : List UInt8) (p : List Val) (ps : List (List Val)) : joins d (p :: ps) = signV d :: (p ++ joins d ps) := rfl
end Go.Abs.Sl
namespace Go.Abs
open Go Go.Proofs
set_option maxRecDepth 10000
attribute [local go_sem] exL_seq exL_region exL_cond exL_block exL_scope exL_ret exL_skip exL_exit runRegion runOps stepOp guardA absOp takeOver opd avOf cvOf St.degAt St.put okPV okVal okAV absBin intBin strBin boolBin setBoxes if_true Bool.false_eq_true if_false Option.map_some Option.map_none Option.bind_some Option.bind_none thenO outOf upd List.toList_toArray isOwn steal appArgs mvB inApps AV.deg CV.deg AV.gv AV.isIter absNext some_bne some_beqN List.length_nil List.length_cons List.filterMap_cons List.filterMap_nil beq_iff_eq List.getElem?_cons_zero List.getElem?_cons_succ Option.getD_some K_hook hookB Bool.false_and Bool.and_false Bool.and_self K_P K_own absCall doCall getBoxes lend back idx dedup AV.ren CV.ren TV.ren AV.ptrs CV.ptrs zipBox AV.flat CV.flat absLoad absStore cellsOfAV setAt newBox markB bldTypes absFieldAddr absField absExtract absAssert noAssert absMkIface ifcOf CV.pv? content pushHead ownT fillCells reps pvs chunks enterSt leave resOf resVars resVar outBoxes lentOnly TV.deg TV.av LK CV.plain CV.noBld nilBin absUn bound List.map_cons List.map_nil List.all_cons List.all_nil List.any_cons List.any_nil List.contains_cons List.contains_nil List.elem_cons List.elem_nil List.cons_append List.nil_append List.append_nil List.flatMap_cons List.flatMap_nil List.zip_cons_cons List.zip_nil_left List.zip_nil_right List.take_succ_cons List.take_zero List.take_nil List.drop_succ_cons List.drop_zero List.drop_nil List.isEmpty_nil List.isEmpty_cons Bool.and_true Bool.true_and Bool.or_true Bool.true_or Bool.or_false Bool.false_or Bool.not_true Bool.not_false Nat.add_zero Nat.zero_add Option.isNone_none Option.isNone_some Option.getD_none true_and and_true not_true_eq_false not_false_eq_true decide_true decide_false Nat.le_refl and_self Bool.not_eq_true Nat.sub_self or_true true_or Option.some.injEq List.length_map List.nil_eq and_false false_and AV.live CV.live CV.liveIn K_keep firstReg Option.orElse_some Option.orElse_none head keepSlots keepBoxes Int.lt_irrefl List.length_append ite_self memOK logOps opKey lentBoxes Key.clash Key.sees Key.writes Nat.lt_irrefl gt_iff_lt nobox_at bot_at false_or or_false beq_self_eq_true Bool.true_beq Bool.false_beq
theorem blank3_den (k : Int) (t : Tok) (l : List Val) : den K 170 [.agg (valCv k t l)] [] = some (.ret (B (Sl.isBlank (.mk k t l))) []) := by
  refine den_run rfl rfl Tryz.func170 rfl Tryz.ntmps170 ⟨by simp, by simp [LK]⟩ ?_
  have hr : Tryz.f170.results = #[.tmp 2] := rfl
  have hs : Sl.isBlank (.mk k t l) = ((k == 1) && (t.kind == 8)) := rfl
  rw [hs]
  cases e1 : (k == 1)
  · simp only [go_sem, Nat.reduceLT, Nat.reduceEqDiff, Nat.reduceBEq, Nat.reduceAdd, Nat.reduceSub, Nat.reduceLeDiff, ty_fieldOff_49_0, ty_szOf_3, ty_shapeT_3, hr, e1]
  · simp only [go_sem, Nat.reduceLT, Nat.reduceEqDiff, Nat.reduceBEq, Nat.reduceAdd, Nat.reduceSub, Nat.reduceLeDiff, ty_fieldOff_49_0, ty_szOf_3, ty_shapeT_3, ty_fieldOff_49_1, ty_szOf_47, ty_fieldOff_47_0, hr, e1]
abbrev trH (l : List Val) : St := { sl := upd bot 0 (L (encL l)), bx := nobox, nt := 33 }
noncomputable def trlp1 : Code := .loop (loopAt Tryz.f104 1)
noncomputable def trlp3 : Code := .loop (loopAt Tryz.f104 3)
theorem head_val (k : Int) (t : Tok) (c r : List Val) : (encL (.mk k t c :: r))[(0 : Int).toNat]? = some [.int .i64 k, .int .i64 t.kind, .str t.text, .int .i64 t.n, .sl (encL c)] := rfl
theorem cut_head (v : Val) (r : List Val) (n : Nat) (h : n = r.length + 1) : ((encL (v :: r)).take n).drop (1 : Int).toNat = encL r := by
  subst h
  rw [encL, List.take_of_length_le (by rw [List.length_cons, encL_len]; omega)]; rfl
theorem le00 : ((0 : Int) ≤ 0) = True := by simp
theorem tr1_yes (v : Val) (r : List Val) (hl : r.length ≤ 100000000) (hb : Sl.isBlank v = true) :
    exL K 104 trlp1 (trH (v :: r)) = exL K 104 trlp1 (trH r) := by
  obtain ⟨k, t, c⟩ := v
  have hlt : decide ((0 : Int) < (((r.length + 1 : Nat)) : Int)) = true := decide_eq_true (by omega)
  have hget := head_val k t c r
  have hcut := cut_head (.mk k t c) r (r.length + 1) rfl
  have hb1 : ((0 : Int) ≤ 1 ∧ (1 : Int) ≤ ((r.length + 1 : Nat) : Int)) = True := by rw [eq_iff_iff]; simp; omega
  have hlv := lens_valsK (.mk k t c :: r)
  have hd := blank3_den k t c
  rw [hb] at hd
  unfold trlp1
  conv in loopAt _ _ => whnf
  conv in loopAt _ _ => whnf
  conv in exL _ _ _ (trH (.mk k t c :: r)) => rw [exL_loop]
  simp only [go_sem, Nat.reduceLT, reduceCtorEq, Nat.reduceEqDiff, Nat.reduceBEq, Nat.reduceAdd, ev_len_sl ty_descOf_22, ev_indexAddr ty_descOf_22, ty_szOf_49, ty_shapeT_49, good_170, ev_slice_sl ty_descOf_22 ty_szOf_49, keep_104_1, encL_len, List.length_cons, hlt, hget, hd, hb1, hlv, hcut, le00]
  rw [exL_head]
  simp only [go_sem, reduceCtorEq, keep_104_1]
theorem tr1_no (v : Val) (r : List Val) (hl : r.length ≤ 100000000) (hb : Sl.isBlank v = false) :
    Ends (exL K 104 trlp1 (trH (v :: r))) fun o S => o = .exit 0 ∧ S.nt = 33 ∧ S.sl 0 = L (encL (v :: r)) := by
  obtain ⟨k, t, c⟩ := v
  have hlt : decide ((0 : Int) < (((r.length + 1 : Nat)) : Int)) = true := decide_eq_true (by omega)
  have hget := head_val k t c r
  have hd := blank3_den k t c
  rw [hb] at hd
  unfold trlp1
  conv in loopAt _ _ => whnf
  rw [exL_loop]
  simp only [go_sem, Nat.reduceLT, reduceCtorEq, Nat.reduceEqDiff, Nat.reduceBEq, Nat.reduceAdd, ev_len_sl ty_descOf_22, ev_indexAddr ty_descOf_22, ty_szOf_49, ty_shapeT_49, good_170, keep_104_1, encL_len, List.length_cons, hlt, hget, hd, le00, ends_some]
theorem tr1_end : Ends (exL K 104 trlp1 (trH [])) fun o S => o = .exit 0 ∧ S.nt = 33 ∧ S.sl 0 = L (encL []) := by
  have hlt : decide ((0 : Int) < ((0 : Nat) : Int)) = false := rfl
  unfold trlp1
  conv in loopAt _ _ => whnf
  rw [exL_loop]
  simp only [go_sem, Nat.reduceLT, reduceCtorEq, Nat.reduceEqDiff, Nat.reduceBEq, Nat.reduceAdd, ev_len_sl ty_descOf_22, keep_104_1, encL_len, List.length_nil, hlt, ends_some]
theorem tr1_loop : ∀ (l : List Val), l.length ≤ 100000000 → Ends (exL K 104 trlp1 (trH l)) fun o S => o = .exit 0 ∧ S.nt = 33 ∧ S.sl 0 = L (encL (l.dropWhile Sl.isBlank))
  | [], _ => tr1_end
  | v :: r, hl => by
    rw [List.length_cons] at hl
    cases hb : Sl.isBlank v with
    | true =>
      rw [tr1_yes v r (by omega) hb, List.dropWhile_cons, if_pos hb]
      exact tr1_loop r (by omega)
    | false =>
      rw [List.dropWhile_cons, if_neg (by rw [hb]; simp)]
      exact tr1_no v r (by omega) hb
theorem last_val (m : List Val) (k : Int) (t : Tok) (c : List Val) : (encL (m ++ [.mk k t c]))[((m.length : Nat) : Int).toNat]? = some [.int .i64 k, .int .i64 t.kind, .str t.text, .int .i64 t.n, .sl (encL c)] := by
  exact encL_get (m ++ [.mk k t c]) m.length (.mk k t c) (by simp)
theorem cut_last (m : List Val) (v : Val) : (encL (m ++ [v])).take m.length = encL m := by
  rw [encL_app, List.take_append_of_le_length (by rw [encL_len]; exact Nat.le_refl _), List.take_of_length_le (by rw [encL_len]; exact Nat.le_refl _)]
theorem tr3_yes (m : List Val) (v : Val) (hl : m.length ≤ 100000000) (hb : Sl.isBlank v = true) :
    exL K 104 trlp3 (trH (m ++ [v])) = exL K 104 trlp3 (trH m) := by
  obtain ⟨k, t, c⟩ := v
  have hn : (encL (m ++ [.mk k t c])).length = m.length + 1 := by rw [encL_len]; simp
  have hlt : decide ((0 : Int) < (((m.length + 1 : Nat)) : Int)) = true := decide_eq_true (by omega)
  have hw : IntKind.i64.wrap (((m.length + 1 : Nat) : Int) - 1) = (m.length : Int) := by rw [IntWalk.i64_in _ (by omega)]; omega
  have hget := last_val m k t c
  have hcut := cut_last m (.mk k t c)
  have hb1 : ((m.length : Int) ≤ ((m.length + 1 : Nat) : Int)) = True := by rw [eq_iff_iff]; simp; omega
  have hlv := lens_valsK (m ++ [.mk k t c])
  have hd := blank3_den k t c
  rw [hb] at hd
  rw [Int.toNat_natCast] at hget
  unfold trlp3
  conv in loopAt _ _ => whnf
  conv in loopAt _ _ => whnf
  conv in exL _ _ _ (trH (m ++ [.mk k t c])) => rw [exL_loop]
  simp only [go_sem, Nat.reduceLT, reduceCtorEq, Nat.reduceEqDiff, Nat.reduceBEq, Nat.reduceAdd, ev_len_sl ty_descOf_22, ev_indexAddr ty_descOf_22, ty_szOf_49, ty_shapeT_49, good_170, ev_slice_sl ty_descOf_22 ty_szOf_49, keep_104_3, hn, hlt, hw, Int.natCast_nonneg, Int.toNat_natCast, hget, hd, hb1, hlv, hcut]
  rw [exL_head]
  simp only [go_sem, reduceCtorEq, keep_104_3]
theorem tr3_no (m : List Val) (v : Val) (hl : m.length ≤ 100000000) (hb : Sl.isBlank v = false) :
    Ends (exL K 104 trlp3 (trH (m ++ [v]))) fun o S => o = .exit 2 ∧ S.nt = 33 ∧ S.sl 0 = L (encL (m ++ [v])) := by
  obtain ⟨k, t, c⟩ := v
  have hn : (encL (m ++ [.mk k t c])).length = m.length + 1 := by rw [encL_len]; simp
  have hlt : decide ((0 : Int) < (((m.length + 1 : Nat)) : Int)) = true := decide_eq_true (by omega)
  have hw : IntKind.i64.wrap (((m.length + 1 : Nat) : Int) - 1) = (m.length : Int) := by rw [IntWalk.i64_in _ (by omega)]; omega
  have hget := last_val m k t c
  have hd := blank3_den k t c
  rw [hb] at hd
  rw [Int.toNat_natCast] at hget
  unfold trlp3
  conv in loopAt _ _ => whnf
  rw [exL_loop]
  simp only [go_sem, Nat.reduceLT, reduceCtorEq, Nat.reduceEqDiff, Nat.reduceBEq, Nat.reduceAdd, ev_len_sl ty_descOf_22, ev_indexAddr ty_descOf_22, ty_szOf_49, ty_shapeT_49, good_170, keep_104_3, hn, hlt, hw, Int.natCast_nonneg, Int.toNat_natCast, hget, hd, ends_some]
theorem tr3_end : Ends (exL K 104 trlp3 (trH [])) fun o S => o = .exit 2 ∧ S.nt = 33 ∧ S.sl 0 = L (encL []) := by
  have hlt : decide ((0 : Int) < ((0 : Nat) : Int)) = false := rfl
  unfold trlp3
  conv in loopAt _ _ => whnf
  rw [exL_loop]
  simp only [go_sem, Nat.reduceLT, reduceCtorEq, Nat.reduceEqDiff, Nat.reduceBEq, Nat.reduceAdd, ev_len_sl ty_descOf_22, keep_104_3, encL_len, List.length_nil, hlt, ends_some]
theorem tr3_loop : ∀ (n : Nat) (l : List Val), l.length = n → l.length ≤ 100000000 → Ends (exL K 104 trlp3 (trH l)) fun o S => o = .exit 2 ∧ S.nt = 33 ∧ S.sl 0 = L (encL (l.reverse.dropWhile Sl.isBlank).reverse)
  | 0, l, h, _ => by
    obtain rfl : l = [] := List.eq_nil_of_length_eq_zero h
    exact tr3_end
  | n + 1, l, h, hl => by
    obtain ⟨m, v, rfl⟩ : ∃ m v, l = m ++ [v] := ⟨l.dropLast, l.getLast (fun e => by rw [e] at h; simp at h), (List.dropLast_concat_getLast _).symm⟩
    rw [List.length_append, List.length_singleton] at h hl
    rw [List.reverse_append, List.reverse_singleton, List.singleton_append]
    cases hb : Sl.isBlank v with
    | true =>
      rw [tr3_yes m v (by omega) hb, List.dropWhile_cons, if_pos hb]
      exact tr3_loop n m (by omega) (by omega)
    | false =>
      rw [List.dropWhile_cons, if_neg (by rw [hb]; simp), List.reverse_cons, List.reverse_reverse]
      exact tr3_no m v (by omega) hb
theorem Clone_den (l : List Val) (hl : l.length ≤ 1000000000) : den K 169 [L (encL l)] [] = some (.ret (L (encL l)) []) := by
  refine prim_run (F := pClone) rfl ?_
  show (if (encL l).length ≤ 1000000000 ∧ (encL l).all (fun el => el.length == 5) then _ else none) = _
  have h2 : (encL l).all (fun el => el.length == 5) = true := lens_valsK l
  rw [if_pos ⟨by rw [encL_len]; exact hl, h2⟩]
theorem TrimS_den (l : List Val) (hl : l.length ≤ 100000000) : den K 104 [L (encL l)] [] = some (.ret (L (encL (Sl.trim l))) []) := by
  have h1 := tr1_loop l hl
  have hlen := (List.dropWhile_sublist Sl.isBlank (l := l)).length_le
  have h3 := tr3_loop _ (l.dropWhile Sl.isBlank) rfl (by omega)
  unfold trlp1 at h1
  conv at h1 in loopAt _ _ => whnf
  obtain ⟨o, S, w, rfl, hn, s0⟩ := h1
  unfold trlp3 at h3
  conv at h3 in loopAt _ _ => whnf
  obtain ⟨o', S', w', rfl, hn', s0'⟩ := h3
  have hc := Clone_den (Sl.trim l) (by have := Sl.trim_len l; omega)
  have e : (((l.dropWhile Sl.isBlank).reverse).dropWhile Sl.isBlank).reverse = Sl.trim l := rfl
  rw [e] at s0'
  refine den_run rfl rfl Tryz.func104 rfl Tryz.ntmps104 ⟨by simp, by simp [LK]⟩ ?_
  have hr : Tryz.f104.results = #[.tmp 2] := rfl
  simp only [go_sem, Nat.reduceLT, Nat.reduceBEq]
  rw [exL_head]
  simp only [go_sem, reduceCtorEq, keep_104_1]
  erw [w]
  simp only [go_sem]
  rw [exL_head]
  simp only [go_sem, keep_104_3, hn, s0]
  erw [w']
  simp only [go_sem, Nat.reduceLT, Nat.reduceEqDiff, Nat.reduceBEq, Nat.reduceAdd, good_169, hr, hn', s0', hc]
theorem isSign_eq (s : List UInt8) : SR.isSign s = Sl.isSign s := by funext v; cases v; rfl
theorem cutL_cut (p : Val → Bool) : ∀ l : List Val, cutL p l = Sl.cut p l
  | [] => rfl
  | v :: l => by
    rw [cutL, Sl.cut, cutL_cut p l]
    all_goals (cases Sl.cut p l <;> rfl)
theorem cut_at (s : List UInt8) : ∀ l : List Val, Sl.cut (Sl.isSign s) l = Sl.at_ s l
  | [] => rfl
  | v :: l => by
    rw [Sl.cut, Sl.at_, cut_at s l]
    all_goals (cases Sl.at_ s l <;> rfl)
theorem AtS_den (l : List Val) (s : List UInt8) (hl : Ne.size l ≤ 100000000) : den K 52 [L (encL l), T s] [] = some (.ret (L (encP (Sl.at_ s l))) []) := by
  refine prim_run (F := pAt) rfl ?_
  have hlen := Ne.length_size l
  show (match decVals (encL l) with | some vs => if vs.length ≤ 100000000 then some ((.c (.pv (.sl (encPP (cutL (SR.isSign s) vs)))) : AV), ([] : List (List CV))) else none | none => none) = _
  rw [dec_encL l (by omega)]
  simp only
  rw [if_pos (by omega), isSign_eq, cutL_cut, cut_at]
end Go.Abs
namespace Go.Abs
open Go Go.Proofs
set_option maxRecDepth 10000
attribute [local go_sem] exL_seq exL_region exL_cond exL_block exL_scope exL_ret exL_skip exL_exit runRegion runOps stepOp guardA absOp takeOver opd avOf cvOf St.degAt St.put okPV okVal okAV absBin intBin strBin boolBin setBoxes if_true Bool.false_eq_true if_false Option.map_some Option.map_none Option.bind_some Option.bind_none thenO outOf upd List.toList_toArray isOwn steal appArgs mvB inApps AV.deg CV.deg AV.gv AV.isIter absNext some_bne some_beqN List.length_nil List.length_cons List.filterMap_cons List.filterMap_nil beq_iff_eq List.getElem?_cons_zero List.getElem?_cons_succ Option.getD_some K_hook hookB Bool.false_and Bool.and_false Bool.and_self K_P K_own absCall doCall getBoxes lend back idx dedup AV.ren CV.ren TV.ren AV.ptrs CV.ptrs zipBox AV.flat CV.flat absLoad absStore cellsOfAV setAt newBox markB bldTypes absFieldAddr absField absExtract absAssert noAssert absMkIface ifcOf CV.pv? content pushHead ownT fillCells reps pvs chunks enterSt leave resOf resVars resVar outBoxes lentOnly TV.deg TV.av LK CV.plain CV.noBld nilBin absUn bound List.map_cons List.map_nil List.all_cons List.all_nil List.any_cons List.any_nil List.contains_cons List.contains_nil List.elem_cons List.elem_nil List.cons_append List.nil_append List.append_nil List.flatMap_cons List.flatMap_nil List.zip_cons_cons List.zip_nil_left List.zip_nil_right List.take_succ_cons List.take_zero List.take_nil List.drop_succ_cons List.drop_zero List.drop_nil List.isEmpty_nil List.isEmpty_cons Bool.and_true Bool.true_and Bool.or_true Bool.true_or Bool.or_false Bool.false_or Bool.not_true Bool.not_false Nat.add_zero Nat.zero_add Option.isNone_none Option.isNone_some Option.getD_none true_and and_true not_true_eq_false not_false_eq_true decide_true decide_false Nat.le_refl and_self Bool.not_eq_true Nat.sub_self or_true true_or Option.some.injEq List.length_map List.nil_eq and_false false_and AV.live CV.live CV.liveIn K_keep firstReg Option.orElse_some Option.orElse_none head keepSlots keepBoxes Int.lt_irrefl List.length_append ite_self memOK logOps opKey lentBoxes Key.clash Key.sees Key.writes Nat.lt_irrefl gt_iff_lt nobox_at bot_at false_or or_false beq_self_eq_true Bool.true_beq Bool.false_beq
theorem encP_len (a : List (List Val)) : (encP a).length = a.length := List.length_map ..
theorem part_at (a : List (List Val)) (i : Nat) (p : List Val) (h : a[i]? = some p) : (encP a)[(i : Int).toNat]? = some [.sl (encL p)] := by
  rw [Int.toNat_natCast, List.getElem?_map, h]; rfl
end Go.Abs
namespace Go.Abs
open Go Go.Proofs
set_option maxRecDepth 10000
attribute [local go_sem] exL_seq exL_region exL_cond exL_block exL_scope exL_ret exL_skip exL_exit runRegion runOps stepOp guardA absOp takeOver opd avOf cvOf St.degAt St.put okPV okVal okAV absBin intBin strBin boolBin setBoxes if_true Bool.false_eq_true if_false Option.map_some Option.map_none Option.bind_some Option.bind_none thenO outOf upd List.toList_toArray isOwn steal appArgs mvB inApps AV.deg CV.deg AV.gv AV.isIter absNext some_bne some_beqN List.length_nil List.length_cons List.filterMap_cons List.filterMap_nil beq_iff_eq List.getElem?_cons_zero List.getElem?_cons_succ Option.getD_some K_hook hookB Bool.false_and Bool.and_false Bool.and_self K_P K_own absCall doCall getBoxes lend back idx dedup AV.ren CV.ren TV.ren AV.ptrs CV.ptrs zipBox AV.flat CV.flat absLoad absStore cellsOfAV setAt newBox markB bldTypes absFieldAddr absField absExtract absAssert noAssert absMkIface ifcOf CV.pv? content pushHead ownT fillCells reps pvs chunks enterSt leave resOf resVars resVar outBoxes lentOnly TV.deg TV.av LK CV.plain CV.noBld nilBin absUn bound List.map_cons List.map_nil List.all_cons List.all_nil List.any_cons List.any_nil List.contains_cons List.contains_nil List.elem_cons List.elem_nil List.cons_append List.nil_append List.append_nil List.flatMap_cons List.flatMap_nil List.zip_cons_cons List.zip_nil_left List.zip_nil_right List.take_succ_cons List.take_zero List.take_nil List.drop_succ_cons List.drop_zero List.drop_nil List.isEmpty_nil List.isEmpty_cons Bool.and_true Bool.true_and Bool.or_true Bool.true_or Bool.or_false Bool.false_or Bool.not_true Bool.not_false Nat.add_zero Nat.zero_add Option.isNone_none Option.isNone_some Option.getD_none true_and and_true not_true_eq_false not_false_eq_true decide_true decide_false Nat.le_refl and_self Bool.not_eq_true Nat.sub_self or_true true_or Option.some.injEq List.length_map List.nil_eq and_false false_and AV.live CV.live CV.liveIn K_keep firstReg Option.orElse_some Option.orElse_none head keepSlots keepBoxes Int.lt_irrefl List.length_append ite_self memOK logOps opKey lentBoxes Key.clash Key.sees Key.writes Nat.lt_irrefl gt_iff_lt nobox_at bot_at false_or or_false beq_self_eq_true Bool.true_beq Bool.false_beq
theorem appV (a b : List Val) : encL a ++ encL b = encL (a ++ b) := (encL_app a b).symm
theorem snoc_sign (a : List Val) (d : List UInt8) : encL a ++ [[PV.int .i64 1, .int .i64 7, .str d, .int .i64 0, .sl []]] = encL (a ++ [Sl.signV d]) := by
  rw [encL_app]; rfl
end Go.Abs
namespace Go.Abs
open Go Go.Proofs
set_option maxRecDepth 10000
attribute [local go_sem] exL_seq exL_region exL_cond exL_block exL_scope exL_ret exL_skip exL_exit runRegion runOps stepOp guardA absOp takeOver opd avOf cvOf St.degAt St.put okPV okVal okAV absBin intBin strBin boolBin setBoxes if_true Bool.false_eq_true if_false Option.map_some Option.map_none Option.bind_some Option.bind_none thenO outOf upd List.toList_toArray isOwn steal appArgs mvB inApps AV.deg CV.deg AV.gv AV.isIter absNext some_bne some_beqN List.length_nil List.length_cons List.filterMap_cons List.filterMap_nil beq_iff_eq List.getElem?_cons_zero List.getElem?_cons_succ Option.getD_some K_hook hookB Bool.false_and Bool.and_false Bool.and_self K_P K_own absCall doCall getBoxes lend back idx dedup AV.ren CV.ren TV.ren AV.ptrs CV.ptrs zipBox AV.flat CV.flat absLoad absStore cellsOfAV setAt newBox markB bldTypes absFieldAddr absField absExtract absAssert noAssert absMkIface ifcOf CV.pv? content pushHead ownT fillCells reps pvs chunks enterSt leave resOf resVars resVar outBoxes lentOnly TV.deg TV.av LK CV.plain CV.noBld nilBin absUn bound List.map_cons List.map_nil List.all_cons List.all_nil List.any_cons List.any_nil List.contains_cons List.contains_nil List.elem_cons List.elem_nil List.cons_append List.nil_append List.append_nil List.flatMap_cons List.flatMap_nil List.zip_cons_cons List.zip_nil_left List.zip_nil_right List.take_succ_cons List.take_zero List.take_nil List.drop_succ_cons List.drop_zero List.drop_nil List.isEmpty_nil List.isEmpty_cons Bool.and_true Bool.true_and Bool.or_true Bool.true_or Bool.or_false Bool.false_or Bool.not_true Bool.not_false Nat.add_zero Nat.zero_add Option.isNone_none Option.isNone_some Option.getD_none true_and and_true not_true_eq_false not_false_eq_true decide_true decide_false Nat.le_refl and_self Bool.not_eq_true Nat.sub_self or_true true_or Option.some.injEq List.length_map List.nil_eq and_false false_and AV.live CV.live CV.liveIn K_keep firstReg Option.orElse_some Option.orElse_none head keepSlots keepBoxes Int.lt_irrefl List.length_append ite_self memOK logOps opKey lentBoxes Key.clash Key.sees Key.writes Nat.lt_irrefl gt_iff_lt nobox_at bot_at false_or or_false beq_self_eq_true Bool.true_beq Bool.false_beq
abbrev rjH (d : List UInt8) (ps : List (List Val)) (e : Nat) (out : List Val) (i : Nat) : St :=
  { sl := upd (upd (upd (upd bot 6 (I i)) 5 (.c (.own e (encL out)))) 1 (T d)) 0 (L (encP ps)), bx := nobox, nt := 29 }
noncomputable def rjlp : Code := .loop (loopAt Tryz.f31 3)
theorem rj_zero (d : List UInt8) (ps : List (List Val)) (e : Nat) (out p : List Val) (hi : ps[0]? = some p) (hl : ps.length ≤ 100000000) (ho : out.length + p.length ≤ 100000000) (he : e = 49 ∨ out = []) :
    exL K 31 rjlp (rjH d ps e out 0) = exL K 31 rjlp (rjH d ps 49 (out ++ p) 1) := by
  have hil : 0 < ps.length := (List.getElem?_eq_some_iff.1 hi).1
  have hlt : decide (((0 : Nat) : Int) < (ps.length : Int)) = true := decide_eq_true (by omega)
  have hget := part_at ps 0 p hi
  have h0 : decide ((0 : Int) < ((0 : Nat) : Int)) = false := rfl
  have hws : IntKind.i64.wrap (((0 : Nat) : Int) + 1) = ((1 : Nat) : Int) := by decide
  have hown : e = 49 ∨ (encL out).isEmpty = true := by
    rcases he with rfl | rfl
    · exact .inl rfl
    · exact .inr rfl
  have hlim : out.length + p.length < appLim := by unfold appLim; omega
  have hlv := lens_valsK out
  have hlv2 := lens_valsK p
  unfold rjlp
  conv in loopAt _ _ => whnf
  conv in loopAt _ _ => whnf
  conv in exL _ _ _ (rjH d ps e out 0) => rw [exL_loop]
  simp only [go_sem, Nat.reduceLT, reduceCtorEq, Nat.reduceEqDiff, Nat.reduceBEq, Nat.reduceAdd, Nat.reduceLeDiff, Nat.reduceMul, ev_len_sl ty_descOf_41, ev_build ty_zeroCells_47 ty_placesOf_47, ev_build ty_zeroCells_49 ty_placesOf_49, ev_buildSlice (len := 1) ty_descOf_22 ty_szOf_49 ty_zeroCells_49 ⟨rfl, by decide, by decide⟩, ev_append ty_appInfo_22, ev_appNew_sl ty_descOf_22, ev_indexAddr ty_descOf_41, ty_szOf_22, ty_shapeT_22, keep_31_3, encP_len, encL_len, hlt, hget, Int.natCast_nonneg, h0, hws, hown, hlim, hlv, hlv2, appV]
  rw [exL_head]
  simp only [go_sem, reduceCtorEq, Nat.reduceEqDiff, keep_31_3]
theorem rj_pos (d : List UInt8) (ps : List (List Val)) (e : Nat) (out p : List Val) (i : Nat) (h0 : 0 < i) (hi : ps[i]? = some p) (hl : ps.length ≤ 100000000) (ho : out.length + p.length < 100000000) (he : e = 49 ∨ out = []) :
    exL K 31 rjlp (rjH d ps e out i) = exL K 31 rjlp (rjH d ps 49 (out ++ [Sl.signV d] ++ p) (i + 1)) := by
  have hil : i < ps.length := (List.getElem?_eq_some_iff.1 hi).1
  have hlt : decide ((i : Int) < (ps.length : Int)) = true := decide_eq_true (by omega)
  have hget := part_at ps i p hi
  have h0' : decide ((0 : Int) < (i : Int)) = true := decide_eq_true (by omega)
  have hws : IntKind.i64.wrap ((i : Int) + 1) = ((i + 1 : Nat) : Int) := wrap_nat i (by omega)
  have hown : e = 49 ∨ (encL out).isEmpty = true := by
    rcases he with rfl | rfl
    · exact .inl rfl
    · exact .inr rfl
  have hsl : (out ++ [Sl.signV d]).length = out.length + 1 := by simp
  have hlim : out.length + 1 < appLim := by unfold appLim; omega
  have hlim2 : (out ++ [Sl.signV d]).length + p.length < appLim := by rw [hsl]; unfold appLim; omega
  have hlv := lens_valsK out
  have hlv1 := lens_valsK (out ++ [Sl.signV d])
  have hlv2 := lens_valsK p
  generalize hO : out ++ [Sl.signV d] = O at hlim2 hlv1
  have hsn := snoc_sign out d
  rw [hO] at hsn
  unfold rjlp
  conv in loopAt _ _ => whnf
  conv in loopAt _ _ => whnf
  conv in exL _ _ _ (rjH d ps e out i) => rw [exL_loop]
  simp only [go_sem, Nat.reduceLT, reduceCtorEq, Nat.reduceEqDiff, Nat.reduceBEq, Nat.reduceAdd, Nat.reduceLeDiff, Nat.reduceMul, ev_len_sl ty_descOf_41, ev_build ty_zeroCells_47 ty_placesOf_47, ev_build ty_zeroCells_49 ty_placesOf_49, ev_buildSlice (len := 1) ty_descOf_22 ty_szOf_49 ty_zeroCells_49 ⟨rfl, by decide, by decide⟩, ev_append ty_appInfo_22, ev_appNew_sl ty_descOf_22, ev_indexAddr ty_descOf_41, ty_szOf_22, ty_shapeT_22, keep_31_3, encP_len, encL_len, hlt, hget, Int.natCast_nonneg, h0', hws, hown, hlim, hlim2, hlv, hlv1, hlv2, lens_valK, hsn, appV]
  rw [exL_head]
  simp only [go_sem, reduceCtorEq, Nat.reduceEqDiff, keep_31_3]
theorem rj_end (d : List UInt8) (ps : List (List Val)) (e : Nat) (out : List Val) : Ends (exL K 31 rjlp (rjH d ps e out ps.length)) fun o S => o = .exit 0 ∧ S.nt = 29 ∧ S.sl 5 = .c (.own e (encL out)) := by
  unfold rjlp
  conv in loopAt _ _ => whnf
  rw [exL_loop]
  simp only [go_sem, Nat.reduceLT, reduceCtorEq, Nat.reduceEqDiff, Nat.reduceBEq, Nat.reduceAdd, ev_len_sl ty_descOf_41, keep_31_3, encP_len, ends_some]
theorem rj_loop (d : List UInt8) (ps : List (List Val)) (hl : ps.length ≤ 100000000) : ∀ (rest : List (List Val)) (i e : Nat) (out : List Val), ps.drop i = rest → 0 < i → i ≤ ps.length → (e = 49 ∨ out = []) → out.length + (Sl.joins d rest).length < 100000000 →
    Ends (exL K 31 rjlp (rjH d ps e out i)) fun o S => o = .exit 0 ∧ S.nt = 29 ∧ ∃ f, S.sl 5 = .c (.own f (encL (out ++ Sl.joins d rest)))
  | [], i, e, out, hd, h0, hi, he, ho => by
    have hin : i = ps.length := by
      have := List.drop_eq_nil_iff.1 hd
      omega
    subst hin
    refine ends_imp (rj_end d ps e out) fun o S q => ⟨q.1, q.2.1, e, ?_⟩
    rw [Sl.joins_nil, List.append_nil]
    exact q.2.2
  | p :: rest, i, e, out, hd, h0, hi, he, ho => by
    obtain ⟨g1, g2, g3⟩ := drop_cons hd
    rw [Sl.joins_cons, List.length_cons, List.length_append] at ho
    rw [rj_pos d ps e out p i h0 g1 hl (by omega) he]
    have := rj_loop d ps hl rest (i + 1) 49 (out ++ [Sl.signV d] ++ p) g2 (by omega) (by omega) (.inl rfl) (by simp only [List.length_append, List.length_singleton]; omega)
    rw [Sl.joins_cons]
    simp only [List.append_assoc, List.singleton_append] at this ⊢
    exact this
theorem Join3_den (d : List UInt8) (ps : List (List Val)) (hl : ps.length ≤ 100000000) (ho : (Sl.join d ps).length < 100000000) : den K 31 [L (encP ps), T d] [] = some (.ret (L (encL (Sl.join d ps))) []) := by
  have key : Ends (exL K 31 rjlp (rjH d ps 49 [] 0)) fun o S => o = .exit 0 ∧ S.nt = 29 ∧ ∃ f, S.sl 5 = .c (.own f (encL (Sl.join d ps))) := by
    cases ps with
    | nil => exact ends_imp (rj_end d [] 49 []) fun o S q => ⟨q.1, q.2.1, 49, q.2.2⟩
    | cons p ps =>
      rw [Sl.join, List.length_append] at ho
      rw [rj_zero d (p :: ps) 49 [] p rfl hl (by rw [List.length_nil]; omega) (.inr rfl)]
      refine ends_imp (rj_loop d (p :: ps) hl ps 1 49 ([] ++ p) rfl (by omega) (by simp) (.inl rfl) (by rw [List.nil_append]; omega)) fun o S q => ?_
      rw [List.nil_append] at q
      exact q
  unfold rjlp at key
  conv at key in loopAt _ _ => whnf
  obtain ⟨o, S, w, rfl, hn, f, s5⟩ := key
  have e0 : encL [] = [] := rfl
  have z0 : ((0 : Nat) : Int) = 0 := rfl
  simp only [rjH, e0, z0] at w
  refine den_run rfl rfl Tryz.func31 rfl Tryz.ntmps31 ⟨by simp, by simp [LK]⟩ ?_
  have hr : Tryz.f31.results = #[.tmp 4] := rfl
  simp only [go_sem, Nat.reduceLT, Nat.reduceEqDiff, Nat.reduceBEq, Nat.reduceAdd, ev_buildSlice (len := 0) ty_descOf_22 ty_szOf_49 ty_zeroCells_49 ⟨rfl, by decide, by decide⟩]
  rw [exL_head]
  simp only [go_sem, reduceCtorEq, Nat.reduceEqDiff, keep_31_3]
  erw [w]
  simp only [go_sem, Nat.reduceLT, Nat.reduceEqDiff, Nat.reduceBEq, Nat.reduceAdd, hr, hn, s5]
end Go.Abs
namespace Go.Abs
open Go Go.Proofs
theorem low_byte (c : UInt8) : lowB c = Sl.low1 c := by
  have e1 : (65 : UInt8) ≤ c ↔ 65 ≤ c.toNat := UInt8.le_iff_toNat_le
  have e2 : c ≤ (90 : UInt8) ↔ c.toNat ≤ 90 := UInt8.le_iff_toNat_le
  unfold lowB Sl.low1
  by_cases h : 65 ≤ c.toNat ∧ c.toNat ≤ 90
  · rw [if_pos h, if_pos ⟨e1.2 h.1, e2.2 h.2⟩]
  · rw [if_neg h, if_neg (fun k => h ⟨e1.1 k.1, e2.1 k.2⟩)]
end Go.Abs
namespace Go.Abs
open Go Go.Proofs
set_option maxRecDepth 10000
attribute [local go_sem] exL_seq exL_region exL_cond exL_block exL_scope exL_ret exL_skip exL_exit runRegion runOps stepOp guardA absOp takeOver opd avOf cvOf St.degAt St.put okPV okVal okAV absBin intBin strBin boolBin setBoxes if_true Bool.false_eq_true if_false Option.map_some Option.map_none Option.bind_some Option.bind_none thenO outOf upd List.toList_toArray isOwn steal appArgs mvB inApps AV.deg CV.deg AV.gv AV.isIter absNext some_bne some_beqN List.length_nil List.length_cons List.filterMap_cons List.filterMap_nil beq_iff_eq List.getElem?_cons_zero List.getElem?_cons_succ Option.getD_some K_hook hookB Bool.false_and Bool.and_false Bool.and_self K_P K_own absCall doCall getBoxes lend back idx dedup AV.ren CV.ren TV.ren AV.ptrs CV.ptrs zipBox AV.flat CV.flat absLoad absStore cellsOfAV setAt newBox markB bldTypes absFieldAddr absField absExtract absAssert noAssert absMkIface ifcOf CV.pv? content pushHead ownT fillCells reps pvs chunks enterSt leave resOf resVars resVar outBoxes lentOnly TV.deg TV.av LK CV.plain CV.noBld nilBin absUn bound List.map_cons List.map_nil List.all_cons List.all_nil List.any_cons List.any_nil List.contains_cons List.contains_nil List.elem_cons List.elem_nil List.cons_append List.nil_append List.append_nil List.flatMap_cons List.flatMap_nil List.zip_cons_cons List.zip_nil_left List.zip_nil_right List.take_succ_cons List.take_zero List.take_nil List.drop_succ_cons List.drop_zero List.drop_nil List.isEmpty_nil List.isEmpty_cons Bool.and_true Bool.true_and Bool.or_true Bool.true_or Bool.or_false Bool.false_or Bool.not_true Bool.not_false Nat.add_zero Nat.zero_add Option.isNone_none Option.isNone_some Option.getD_none true_and and_true not_true_eq_false not_false_eq_true decide_true decide_false Nat.le_refl and_self Bool.not_eq_true Nat.sub_self or_true true_or Option.some.injEq List.length_map List.nil_eq and_false false_and AV.live CV.live CV.liveIn K_keep firstReg Option.orElse_some Option.orElse_none head keepSlots keepBoxes Int.lt_irrefl List.length_append ite_self memOK logOps opKey lentBoxes Key.clash Key.sees Key.writes Nat.lt_irrefl gt_iff_lt nobox_at bot_at false_or or_false beq_self_eq_true Bool.true_beq Bool.false_beq
abbrev U (c : UInt8) : AV := .c (.pv (.int .u8 c.toNat))
theorem digit_eq (c : UInt8) : Tk.digit c = (decide ((48 : Int) ≤ (c.toNat : Int)) && decide ((c.toNat : Int) ≤ 57)) := by
  unfold Tk.digit; rw [← Bool.decide_and]; exact decide_eq_decide.2 (by omega)
theorem begins_eq (c : UInt8) : Tk.begins c = ((decide ((97 : Int) ≤ (c.toNat : Int)) && decide ((c.toNat : Int) ≤ 122)) || (decide ((65 : Int) ≤ (c.toNat : Int)) && decide ((c.toNat : Int) ≤ 90)) || ((c.toNat : Int) == 95) || decide ((128 : Int) ≤ (c.toNat : Int))) := by
  have e : ((c.toNat : Int) == 95) = decide ((c.toNat : Int) = 95) := by
    by_cases h : (c.toNat : Int) = 95 <;> simp [h]
  rw [e]
  unfold Tk.begins
  rw [← Bool.decide_and, ← Bool.decide_and, ← Bool.decide_or, ← Bool.decide_or, ← Bool.decide_or]
  exact decide_eq_decide.2 (by omega)
theorem u8_beq (c d : UInt8) : ((c.toNat : Int) == (d.toNat : Int)) = (c == d) := by
  by_cases e : c = d
  · subst e; simp
  · have : c.toNat ≠ d.toNat := fun h2 => e (UInt8.toNat_inj.1 h2)
    rw [beq_eq_false_iff_ne.2 e, beq_eq_false_iff_ne.2 (by omega)]
theorem digit_den (c : UInt8) : den K 250 [U c] [] = some (.ret (B (Tk.digit c)) []) := by
  refine den_run rfl rfl Tryz.func250 rfl Tryz.ntmps250 ⟨by simp, by simp [LK]⟩ ?_
  have hr : Tryz.f250.results = #[.tmp 2] := rfl
  rw [digit_eq]
  cases b1 : decide ((48 : Int) ≤ (c.toNat : Int)) <;> cases b2 : decide ((c.toNat : Int) ≤ 57) <;> simp only [go_sem, Nat.reduceLT, reduceCtorEq, Nat.reduceEqDiff, Nat.reduceBEq, Nat.reduceAdd, hr, b1, b2]
set_option maxHeartbeats 8000000 in
theorem begins_den (c : UInt8) : den K 273 [U c] [] = some (.ret (B (Tk.begins c)) []) := by
  refine den_run rfl rfl Tryz.func273 rfl Tryz.ntmps273 ⟨by simp, by simp [LK]⟩ ?_
  have hr : Tryz.f273.results = #[.tmp 2] := rfl
  rw [begins_eq]
  cases b1 : decide ((97 : Int) ≤ (c.toNat : Int)) <;> cases b2 : decide ((c.toNat : Int) ≤ 122) <;> cases b3 : decide ((65 : Int) ≤ (c.toNat : Int)) <;> cases b4 : decide ((c.toNat : Int) ≤ 90) <;> cases b5 : ((c.toNat : Int) == 95) <;> cases b6 : decide ((128 : Int) ≤ (c.toNat : Int)) <;> simp only [go_sem, Nat.reduceLT, reduceCtorEq, Nat.reduceEqDiff, Nat.reduceBEq, Nat.reduceAdd, hr, b1, b2, b3, b4, b5, b6]
theorem within_den (c : UInt8) : den K 249 [U c] [] = some (.ret (B (Tk.within c)) []) := by
  have d1 := begins_den c
  have d2 := digit_den c
  have e45 : ((c.toNat : Int) == 45) = (c == 45) := u8_beq c 45
  refine den_run rfl rfl Tryz.func249 rfl Tryz.ntmps249 ⟨by simp, by simp [LK]⟩ ?_
  have hr : Tryz.f249.results = #[.tmp 2] := rfl
  unfold Tk.within
  cases b1 : Tk.begins c <;> cases b2 : Tk.digit c <;> cases b3 : (c == 45) <;> rw [b1] at d1 <;> rw [b2] at d2 <;> rw [b3] at e45 <;> simp only [go_sem, Nat.reduceLT, reduceCtorEq, Nat.reduceEqDiff, Nat.reduceBEq, Nat.reduceAdd, good_273, good_250, hr, d1, d2, e45]
theorem at0_drop (s : List UInt8) (i : Nat) : (s[i]? = none ∧ Tk.at0 (s.drop i) = 0 ∧ s.length ≤ i) ∨ (i < s.length ∧ s[i]? = some (Tk.at0 (s.drop i))) := by
  by_cases h : i < s.length
  · right
    refine ⟨h, ?_⟩
    rw [List.drop_eq_getElem_cons h, Tk.at0_cons, List.getElem?_eq_getElem h]
  · left
    refine ⟨List.getElem?_eq_none (by omega), ?_, by omega⟩
    rw [List.drop_eq_nil_of_le (by omega)]; rfl
theorem at_den (s : List UInt8) (i : Nat) (hs : s.length < 1000000000000) : den K 241 [T s, I i] [] = some (.ret (U (Tk.at0 (s.drop i))) []) := by
  refine den_run rfl rfl Tryz.func241 rfl Tryz.ntmps241 ⟨by simp, by simp [LK]⟩ ?_
  have hr : Tryz.f241.results = #[.tmp 4] := rfl
  rcases at0_drop s i with ⟨h1, h2, h3⟩ | ⟨h1, h2⟩
  · have hlt : decide ((i : Int) < (s.length : Int)) = false := decide_eq_false (by omega)
    rw [h2]
    simp only [go_sem, Nat.reduceLT, reduceCtorEq, Nat.reduceEqDiff, Nat.reduceBEq, Nat.reduceAdd, ev_len_str ty_descOf_217, ev_index ty_descOf_217, hr, hlt]
    rfl
  · have hlt : decide ((i : Int) < (s.length : Int)) = true := decide_eq_true (by omega)
    simp only [go_sem, Nat.reduceLT, reduceCtorEq, Nat.reduceEqDiff, Nat.reduceBEq, Nat.reduceAdd, ev_len_str ty_descOf_217, ev_index ty_descOf_217, hr, hlt, Int.natCast_nonneg, Int.toNat_natCast, h2]
abbrev FN (f : Nat) : AV := .c (.fn f [])
abbrev runH (s : List UInt8) (from_ : Nat) (f n : Nat) : St := { sl := upd (upd (upd (upd bot 7 (I n)) 2 (FN f)) 1 (I from_)) 0 (T s), bx := upd nobox 100000 none, nt := 26 }
theorem run_loop (s : List UInt8) (hs : s.length < 1000000000000) (p : UInt8 → Bool) (f : Nat) (hg : K.good f = true) (hown : K.ownRet f = false) (hf : ∀ c, den K f [U c] [] = some (.ret (B (p c)) [])) (from_ : Nat) : ∀ (rest : List UInt8) (n : Nat), s.drop (from_ + n) = rest → from_ + n ≤ s.length →
    Ends (exL K 247 (.loop (loopAt Tryz.f247 2)) (runH s from_ f n)) fun o S => o = .exit 0 ∧ S.sl 7 = I (n + Tk.run p rest : Nat) ∧ S.nt = 26 := by
  intro rest
  induction rest with
  | nil =>
    intro n hd hn
    have hin : from_ + n = s.length := by
      have := List.drop_eq_nil_iff.1 hd
      omega
    have w1 : IntKind.i64.wrap ((from_ : Int) + (n : Int)) = ((from_ + n : Nat) : Int) := by rw [IntWalk.i64_in _ (by omega)]; rfl
    have hlt : decide (((from_ + n : Nat) : Int) < (s.length : Int)) = false := decide_eq_false (by omega)
    conv in loopAt _ _ => whnf
    rw [exL_loop]
    simp only [go_sem, Nat.reduceLT, reduceCtorEq, Nat.reduceEqDiff, Nat.reduceBEq, Nat.reduceAdd, ev_len_str ty_descOf_217, keep_247_2, ends_some, w1, hlt, Tk.run_nil]
  | cons c rest ih =>
    intro n hd hn
    obtain ⟨g1, g2, g3⟩ := drop_cons hd
    have w1 : IntKind.i64.wrap ((from_ : Int) + (n : Int)) = ((from_ + n : Nat) : Int) := by rw [IntWalk.i64_in _ (by omega)]; rfl
    have hlt : decide (((from_ + n : Nat) : Int) < (s.length : Int)) = true := decide_eq_true (by omega)
    have hc := hf c
    have ih' := ih (n + 1) g2 (by omega)
    conv at ih' in loopAt _ _ => whnf
    conv in loopAt _ _ => whnf
    rw [exL_loop]
    cases hp : p c
    · rw [hp] at hc
      have hv : Tk.run p (c :: rest) = 0 := by rw [Tk.run, if_neg (by simp [hp])]
      simp only [go_sem, Nat.reduceLT, reduceCtorEq, Nat.reduceEqDiff, Nat.reduceBEq, Nat.reduceAdd, ev_len_str ty_descOf_217, ev_index ty_descOf_217, keep_247_2, ends_some, w1, hlt, hg, hown, hc, Int.natCast_nonneg, Int.toNat_natCast, g1, hv]
    · rw [hp] at hc
      have hv : n + 1 + Tk.run p rest = n + Tk.run p (c :: rest) := by rw [Tk.run, if_pos hp]; omega
      rw [hv] at ih'
      simp only [go_sem, Nat.reduceLT, reduceCtorEq, Nat.reduceEqDiff, Nat.reduceBEq, Nat.reduceAdd, ev_len_str ty_descOf_217, ev_index ty_descOf_217, keep_247_2, w1, hlt, hg, hown, hc, Int.natCast_nonneg, Int.toNat_natCast, g1, wrap_nat n (by omega)]
      rw [exL_head]
      simp only [go_sem, reduceCtorEq, Nat.reduceEqDiff, keep_247_2]
      exact ih'
theorem run_den (s : List UInt8) (hs : s.length < 1000000000000) (p : UInt8 → Bool) (f : Nat) (hg : K.good f = true) (hown : K.ownRet f = false) (hf : ∀ c, den K f [U c] [] = some (.ret (B (p c)) [])) (from_ : Nat) (h : from_ ≤ s.length) : den K 247 [T s, I from_, FN f] [] = some (.ret (I (Tk.run p (s.drop from_) : Nat)) []) := by
  refine den_run rfl rfl Tryz.func247 rfl Tryz.ntmps247 ⟨by simp, by simp [LK]⟩ ?_
  have hr : Tryz.f247.results = #[.tmp 6] := rfl
  have hnext := run_loop s hs p f hg hown hf from_ (s.drop from_) 0 rfl (by omega)
  conv at hnext in loopAt _ _ => whnf
  obtain ⟨o, S', e, rfl, h7, hn⟩ := hnext
  rw [Nat.zero_add] at h7
  simp only [go_sem, Nat.reduceLT, Nat.reduceBEq]
  rw [exL_head]
  simp only [go_sem, reduceCtorEq, Nat.reduceEqDiff, keep_247_2]
  erw [e]
  simp only [go_sem, Nat.reduceLT, Nat.reduceEqDiff, Nat.reduceBEq, Nat.reduceAdd, hr, h7, hn]
end Go.Abs
namespace Go.Abs
open Go Go.Proofs
set_option maxRecDepth 10000
theorem name_den (s : List UInt8) (hs : s.length < 4000000000) (i : Nat) (h : i ≤ s.length) : den K 242 [T s, I i] [] = some (.ret (I (Tk.name (s.drop i) : Nat)) []) := by
  have d1 := at_den s i (by omega)
  have d2 := at_den s (i + 1) (by omega)
  have ht : (s.drop i).tail = s.drop (i + 1) := List.tail_drop
  have hrun := run_den s (by omega) Tk.within 249 good_249 rfl within_den i h
  unfold Tk.name Tk.nameB
  rw [ht]
  generalize Tk.at0 (s.drop i) = c at d1
  generalize Tk.at0 (s.drop (i + 1)) = d at d2
  have b1 := begins_den c
  have b2 := begins_den d
  have e1 : ((c.toNat : Int) == 45) = (c == 45) := u8_beq c 45
  have e2 : ((d.toNat : Int) == 45) = (d == 45) := u8_beq d 45
  refine den_run rfl rfl Tryz.func242 rfl Tryz.ntmps242 ⟨by simp, by simp [LK]⟩ ?_
  have hr : Tryz.f242.results = #[.tmp 4] := rfl
  cases h1 : Tk.begins c
  · rw [h1] at b1
    cases h2 : (c == 45)
    · rw [h2] at e1
      simp only [exL_seq, exL_region, exL_cond, exL_ret, exL_skip, runRegion, runOps, stepOp, guardA, absOp, takeOver, opd, avOf, cvOf, St.degAt, St.put, okPV, okVal, absBin, intBin, setBoxes, if_true, Bool.false_eq_true, if_false, Option.map_some, Option.map_none, Option.bind_some, thenO, upd, List.toList_toArray, isOwn, steal, appArgs, mvB, inApps, AV.deg, CV.deg, AV.gv, AV.isIter, some_beqN, Nat.reduceLT, reduceCtorEq, Nat.reduceEqDiff, List.length_nil, List.length_cons, List.filterMap_cons, List.filterMap_nil, List.getElem?_cons_zero, List.getElem?_cons_succ, Option.getD_some, K_hook, hookB, Nat.reduceBEq, Bool.false_and, Bool.and_self, K_P, K_own, absCall, doCall, getBoxes, lend, back, idx, dedup, AV.ren, CV.ren, AV.ptrs, CV.ptrs, zipBox, AV.flat, CV.flat, enterSt, leave, resOf, resVars, resVar, outBoxes, lentOnly, TV.deg, TV.av, LK, List.map_cons, List.map_nil, List.all_cons, List.all_nil, List.any_nil, List.contains_nil, List.append_nil, List.flatMap_cons, List.flatMap_nil, List.zip_nil_left, List.zip_nil_right, List.isEmpty_nil, Bool.or_true, Bool.or_false, Bool.not_true, Bool.not_false, Nat.reduceAdd, Nat.zero_add, List.toList_toArray, Option.some.injEq, ite_self, memOK, logOps, opKey, lentBoxes, Key.clash, Key.sees, Key.writes, beq_self_eq_true, Bool.false_beq, good_241, good_273, good_247, hr, d1, d2, b1, e1, wrap_nat i (by omega)]
      rfl
    · rw [h2] at e1
      cases h3 : Tk.begins d
      · rw [h3] at b2
        cases h4 : (d == 45)
        · rw [h4] at e2
          simp only [exL_seq, exL_region, exL_cond, exL_ret, exL_skip, runRegion, runOps, stepOp, guardA, absOp, takeOver, opd, avOf, cvOf, St.degAt, St.put, okPV, okVal, absBin, intBin, setBoxes, if_true, Bool.false_eq_true, if_false, Option.map_some, Option.map_none, Option.bind_some, thenO, upd, List.toList_toArray, isOwn, steal, appArgs, mvB, inApps, AV.deg, CV.deg, AV.gv, AV.isIter, some_beqN, Nat.reduceLT, reduceCtorEq, Nat.reduceEqDiff, List.length_nil, List.length_cons, List.filterMap_cons, List.filterMap_nil, List.getElem?_cons_zero, List.getElem?_cons_succ, Option.getD_some, K_hook, hookB, Nat.reduceBEq, Bool.and_false, Bool.and_self, K_P, K_own, absCall, doCall, getBoxes, lend, back, idx, dedup, AV.ren, CV.ren, AV.ptrs, CV.ptrs, zipBox, AV.flat, CV.flat, enterSt, leave, resOf, resVars, resVar, outBoxes, lentOnly, TV.deg, TV.av, LK, List.map_cons, List.map_nil, List.all_cons, List.all_nil, List.any_nil, List.contains_nil, List.append_nil, List.flatMap_cons, List.flatMap_nil, List.zip_nil_left, List.zip_nil_right, List.isEmpty_nil, Bool.or_true, Bool.or_false, Bool.not_false, Nat.reduceAdd, Nat.zero_add, List.toList_toArray, Option.some.injEq, ite_self, memOK, logOps, opKey, lentBoxes, Key.clash, Key.sees, Key.writes, beq_self_eq_true, good_241, good_273, good_247, hr, d1, d2, b1, b2, e1, e2, wrap_nat i (by omega)]
          rfl
        · rw [h4] at e2
          simp only [exL_seq, exL_region, exL_cond, exL_ret, exL_skip, runRegion, runOps, stepOp, guardA, absOp, takeOver, opd, avOf, cvOf, St.degAt, St.put, okPV, okVal, absBin, intBin, setBoxes, if_true, Bool.false_eq_true, if_false, Option.map_some, Option.map_none, Option.bind_some, thenO, upd, List.toList_toArray, isOwn, steal, appArgs, mvB, inApps, AV.deg, CV.deg, AV.isIter, some_beqN, Nat.reduceLT, reduceCtorEq, Nat.reduceEqDiff, List.length_nil, List.length_cons, List.filterMap_cons, List.filterMap_nil, List.getElem?_cons_zero, List.getElem?_cons_succ, Option.getD_some, K_hook, hookB, Nat.reduceBEq, Bool.and_self, K_P, K_own, absCall, doCall, getBoxes, lend, back, idx, dedup, AV.ren, CV.ren, AV.ptrs, CV.ptrs, zipBox, AV.flat, CV.flat, enterSt, leave, resOf, resVars, resVar, outBoxes, lentOnly, TV.deg, TV.av, LK, List.map_cons, List.map_nil, List.all_cons, List.all_nil, List.any_nil, List.contains_nil, List.append_nil, List.flatMap_cons, List.flatMap_nil, List.zip_nil_left, List.zip_nil_right, List.isEmpty_nil, Bool.or_true, Bool.or_false, Bool.not_false, Nat.reduceAdd, Nat.zero_add, List.toList_toArray, Option.some.injEq, ite_self, memOK, logOps, opKey, lentBoxes, Key.clash, Key.sees, Key.writes, beq_self_eq_true, good_241, good_273, good_247, hr, d1, d2, b1, b2, e1, e2, hrun, wrap_nat i (by omega)]
      · rw [h3] at b2
        simp only [exL_seq, exL_region, exL_cond, exL_ret, exL_skip, runRegion, runOps, stepOp, guardA, absOp, takeOver, opd, avOf, cvOf, St.degAt, St.put, okPV, okVal, absBin, intBin, setBoxes, if_true, Bool.false_eq_true, if_false, Option.map_some, Option.map_none, Option.bind_some, thenO, upd, List.toList_toArray, isOwn, steal, appArgs, mvB, inApps, AV.deg, CV.deg, AV.isIter, some_beqN, Nat.reduceLT, reduceCtorEq, Nat.reduceEqDiff, List.length_nil, List.length_cons, List.filterMap_cons, List.filterMap_nil, List.getElem?_cons_zero, List.getElem?_cons_succ, Option.getD_some, K_hook, hookB, Nat.reduceBEq, Bool.and_self, K_P, K_own, absCall, doCall, getBoxes, lend, back, idx, dedup, AV.ren, CV.ren, AV.ptrs, CV.ptrs, zipBox, AV.flat, CV.flat, enterSt, leave, resOf, resVars, resVar, outBoxes, lentOnly, TV.deg, TV.av, LK, List.map_cons, List.map_nil, List.all_cons, List.all_nil, List.any_nil, List.contains_nil, List.append_nil, List.flatMap_cons, List.flatMap_nil, List.zip_nil_left, List.zip_nil_right, List.isEmpty_nil, Bool.or_true, Bool.true_or, Bool.or_false, Bool.not_false, Nat.reduceAdd, Nat.zero_add, List.toList_toArray, Option.some.injEq, ite_self, memOK, logOps, opKey, lentBoxes, Key.clash, Key.sees, Key.writes, beq_self_eq_true, Bool.true_beq, good_241, good_273, good_247, hr, d1, d2, b1, b2, e1, hrun, wrap_nat i (by omega)]
  · rw [h1] at b1
    simp only [exL_seq, exL_region, exL_cond, exL_ret, exL_skip, runRegion, runOps, stepOp, guardA, absOp, takeOver, opd, avOf, cvOf, St.degAt, St.put, okPV, okVal, absBin, intBin, setBoxes, if_true, Bool.false_eq_true, if_false, Option.map_some, Option.map_none, Option.bind_some, thenO, upd, List.toList_toArray, isOwn, steal, appArgs, mvB, inApps, AV.deg, CV.deg, AV.isIter, some_beqN, Nat.reduceLT, reduceCtorEq, Nat.reduceEqDiff, List.length_nil, List.length_cons, List.filterMap_cons, List.filterMap_nil, List.getElem?_cons_zero, List.getElem?_cons_succ, Option.getD_some, K_hook, hookB, Nat.reduceBEq, Bool.and_self, K_P, K_own, absCall, doCall, getBoxes, lend, back, idx, dedup, AV.ren, CV.ren, AV.ptrs, CV.ptrs, zipBox, AV.flat, CV.flat, enterSt, leave, resOf, resVars, resVar, outBoxes, lentOnly, TV.deg, TV.av, LK, List.map_cons, List.map_nil, List.all_cons, List.all_nil, List.any_nil, List.contains_nil, List.append_nil, List.flatMap_cons, List.flatMap_nil, List.zip_nil_left, List.zip_nil_right, List.isEmpty_nil, Bool.or_true, Bool.true_or, Bool.or_false, Bool.not_false, Nat.reduceAdd, Nat.zero_add, List.toList_toArray, Option.some.injEq, ite_self, memOK, logOps, opKey, lentBoxes, Key.clash, Key.sees, Key.writes, Bool.true_beq, good_241, good_273, good_247, hr, d1, d2, b1, hrun, wrap_nat i (by omega)]
inductive TS where
  | nils
  | live
  | wr (l : List Tok)
def TS.toks : TS → List Tok
  | .wr l => l
  | _ => []
def TS.cell : TS → CV
  | .nils => .nils
  | .live => .own 0 []
  | .wr l => .own 47 (l.map Tok.enc)
abbrev scan (s : List UInt8) (x : TS) : List CV := [.pv (.str s), x.cell]
theorem lens_tok (a b c : PV) : lens 3 [[a, b, c]] = true := rfl
theorem lens_toks (l : List Tok) : lens 3 (l.map Tok.enc) = true := by simp [lens, Tok.enc]
theorem skip_den (s : List UInt8) (x : TS) (n : Nat) (h : n ≤ s.length) : den K 274 [P0, I n] [scan s x] = some (.ret (.tup []) [scan (s.drop n) x]) := by
  refine den_run rfl rfl Tryz.func274 rfl Tryz.ntmps274 ⟨by simp, by simp [LK]⟩ ?_
  have hr : Tryz.f274.results = #[] := rfl
  have hb : ((0 : Int) ≤ (n : Int) ∧ (n : Int) ≤ (s.length : Int)) = True := eq_true (by omega)
  have hd : (s.take s.length).drop n = s.drop n := by rw [List.take_length]
  cases x <;> simp only [TS.cell, scan, exL_region, runRegion, runOps, stepOp, guardA, absOp, takeOver, opd, St.degAt, St.put, okVal, okAV, setBoxes, if_true, Bool.false_eq_true, if_false, Option.map_some, Option.map_none, Option.bind_some, upd, List.toList_toArray, isOwn, steal, appArgs, mvB, inApps, AV.deg, CV.deg, AV.isIter, Nat.reduceLT, reduceCtorEq, Nat.reduceEqDiff, List.length_nil, List.length_cons, List.filterMap_cons, List.filterMap_nil, List.getElem?_cons_zero, List.getElem?_cons_succ, Option.getD_some, K_hook, hookB, Nat.reduceBEq, Bool.and_self, K_P, AV.ren, CV.ren, absLoad, absStore, cellsOfAV, setAt, absFieldAddr, enterSt, leave, resOf, resVars, outBoxes, lentOnly, LK, CV.plain, bound, List.map_cons, List.map_nil, List.all_cons, List.all_nil, List.any_cons, List.any_nil, List.contains_nil, List.cons_append, List.nil_append, List.take_zero, List.drop_succ_cons, List.drop_zero, Bool.and_true, Bool.true_and, Bool.or_true, Bool.true_or, Bool.or_false, Bool.false_or, Bool.not_true, Bool.not_false, Nat.reduceAdd, Nat.reduceLeDiff, Nat.add_zero, Nat.zero_add, decide_true, decide_false, List.toList_toArray, Nat.le_refl, and_self, Nat.sub_self, ite_self, memOK, logOps, opKey, Key.clash, Key.sees, Key.writes, Nat.lt_irrefl, beq_self_eq_true, ty_fieldOff_219_0, ty_szOf_217, ty_shapeT_217, ev_slice_str ty_descOf_217, hr, hb, Int.toNat_natCast, hd]
theorem put_den (s : List UInt8) (x : TS) (n : Nat) (kind : Int) (text : List UInt8) (v : Int) (h : n ≤ s.length) (hx : x.toks.length < 4000000000) :
    den K 246 [P0, I n, I kind, T text, I v] [scan s x] = some (.ret (.tup []) [scan (s.drop n) (.wr (x.toks ++ [⟨kind, text, v⟩]))]) := by
  refine den_run rfl rfl Tryz.func246 rfl Tryz.ntmps246 ⟨by simp, by simp [LK]⟩ ?_
  have hr : Tryz.f246.results = #[] := rfl
  have hsk := skip_den s (.wr (x.toks ++ [⟨kind, text, v⟩])) n h
  have hl : x.toks.length + 1 < appLim := by simp [appLim]; omega
  cases x <;> simp only [TS.cell, TS.toks, scan, List.map_append, List.map_cons, List.map_nil, Tok.enc, List.nil_append, List.length_nil] at hsk hl ⊢ <;>
    simp only [exL_seq, exL_region, runRegion, runOps, stepOp, guardA, absOp, takeOver, opd, avOf, cvOf, St.degAt, St.put, okVal, okAV, setBoxes, if_true, Bool.false_eq_true, if_false, Option.map_some, Option.map_none, Option.bind_some, thenO, upd, List.toList_toArray, isOwn, steal, appArgs, mvB, inApps, AV.deg, CV.deg, AV.gv, AV.isIter, Nat.reduceLT, reduceCtorEq, Nat.reduceEqDiff, List.length_nil, List.length_cons, List.filterMap_cons, List.filterMap_nil, List.getElem?_cons_zero, List.getElem?_cons_succ, Option.getD_some, K_hook, hookB, Nat.reduceBEq, Bool.and_false, Bool.and_self, K_P, K_own, absCall, doCall, getBoxes, lend, idx, dedup, AV.ren, CV.ren, AV.ptrs, CV.ptrs, zipBox, AV.flat, CV.flat, absLoad, absStore, cellsOfAV, setAt, absFieldAddr, CV.pv?, content, pushHead, ownT, fillCells, reps, pvs, chunks, enterSt, leave, resOf, resVars, outBoxes, lentOnly, LK, CV.plain, CV.noBld, List.map_cons, List.map_nil, List.all_cons, List.all_nil, List.any_cons, List.any_nil, List.contains_cons, List.contains_nil, List.cons_append, List.nil_append, List.append_nil, List.flatMap_cons, List.flatMap_nil, List.zip_cons_cons, List.zip_nil_right, List.take_succ_cons, List.take_zero, List.take_nil, List.drop_succ_cons, List.drop_zero, List.drop_nil, List.isEmpty_nil, Bool.and_true, Bool.true_and, Bool.or_true, Bool.true_or, Bool.or_false, Bool.false_or, Bool.not_true, Bool.not_false, Nat.reduceAdd, Nat.reduceLeDiff, Nat.add_zero, Nat.zero_add, Nat.reduceMul, decide_true, decide_false, List.toList_toArray, Nat.le_refl, and_self, Nat.sub_self, or_true, true_or, Option.some.injEq, List.length_map, ite_self, memOK, logOps, opKey, lentBoxes, Key.clash, Key.sees, Key.writes, Nat.lt_irrefl, beq_self_eq_true, ty_fieldOff_219_1, ty_szOf_90, ty_shapeT_90, ev_build ty_zeroCells_47 ty_placesOf_47, ev_buildSlice (len := 1) ty_descOf_90 ty_szOf_47 ty_zeroCells_47 ⟨rfl, by decide, by decide⟩, ev_append ty_appInfo_90, ev_appNew_sl ty_descOf_90, good_274, hr, hsk, hl, lens_nil, lens_tok, lens_toks]
end Go.Abs
namespace Go.Abs
open Go Go.Proofs
set_option maxRecDepth 10000
def shutI (r : List UInt8) : Int := match Tk.shut r with | some n => (n : Int) - 2 | none => -1
def innerI (c : UInt8) (r : List UInt8) : Int := match Tk.inner c r with | some n => (n : Int) | none => -1
theorem index_shut : ∀ r : List UInt8, Lib.index r [42, 47] = shutI r
  | [] => rfl
  | b :: l => by
    have ih := index_shut l
    have e : Lib.index (b :: l) [42, 47] = if [42, 47].isPrefixOf (b :: l) then 0 else if Lib.index l [42, 47] == -1 then -1 else Lib.index l [42, 47] + 1 := rfl
    rw [e, ih]
    have hp : ([42, 47].isPrefixOf (b :: l) = true) ↔ (b = 42 ∧ Tk.at0 l = 47) := by
      cases l with
      | nil =>
        refine ⟨fun h => ?_, fun h => absurd h.2 (by decide)⟩
        simp [List.isPrefixOf] at h
      | cons d l =>
        simp only [List.isPrefixOf, Bool.and_true, Bool.and_eq_true, beq_iff_eq, Tk.at0]
        exact ⟨fun h => ⟨h.1.symm, h.2.symm⟩, fun h => ⟨h.1.symm, h.2.symm⟩⟩
    by_cases h : b = 42 ∧ Tk.at0 l = 47
    · rw [if_pos (hp.2 h), shutI, Tk.shut, if_pos h]; rfl
    · rw [if_neg (fun x => h (hp.1 x)), shutI, shutI, Tk.shut, if_neg h]
      cases hs : Tk.shut l with
      | none => rfl
      | some n =>
        have := Tk.shut_le hs
        simp only [Option.map_some]
        rw [if_neg (by rw [beq_iff_eq]; omega)]
        omega
theorem ends_contains (b : UInt8) : ([10, 12, 13] : List UInt8).contains b = Tk.ending b := by
  unfold Tk.ending
  simp only [List.contains_cons, List.contains_nil, Bool.or_false, Bool.or_assoc]
theorem containsAny_cons (b : UInt8) (l : List UInt8) : Lib.containsAny (b :: l) [10, 12, 13] = (Tk.ending b || Lib.containsAny l [10, 12, 13]) := by
  unfold Lib.containsAny
  have e : Lib.indexAny (b :: l) [10, 12, 13] = if ([10, 12, 13] : List UInt8).contains b then 0 else if Lib.indexAny l [10, 12, 13] == -1 then -1 else Lib.indexAny l [10, 12, 13] + 1 := rfl
  rw [e, ends_contains]
  have hge := Lib.indexAny_ge [10, 12, 13] l
  cases Tk.ending b
  · simp only [Bool.false_eq_true, if_false, Bool.false_or]
    by_cases h : Lib.indexAny l [10, 12, 13] = -1
    · rw [if_pos (by rw [h]; rfl), h]
    · rw [if_neg (by simpa using h)]
      exact decide_eq_decide.2 (by omega)
  · rfl
theorem indexByte_app (b : UInt8) (l : List UInt8) (c : UInt8) : Lib.indexByte (b :: l) c = if b == c then 0 else if Lib.indexByte l c == -1 then -1 else Lib.indexByte l c + 1 := rfl
theorem indexByte_lt (c : UInt8) : ∀ r : List UInt8, 0 ≤ Lib.indexByte r c → Lib.indexByte r c < (r.length : Int)
  | [], h => absurd (show (0 : Int) ≤ -1 from h) (by decide)
  | b :: l, h => by
    have ih := indexByte_lt c l
    have hge := Lib.indexByte_ge l c
    rw [indexByte_app] at h ⊢
    simp only [List.length_cons]
    split at h
    · omega
    · split at h
      · omega
      · rename_i h2
        have : Lib.indexByte l c ≠ -1 := by simpa using h2
        have := ih (by omega)
        rw [if_neg h2]; omega
theorem inner_law (c : UInt8) : ∀ r : List UInt8, innerI c r = if 0 ≤ Lib.indexByte r c ∧ Lib.containsAny (r.take (Lib.indexByte r c).toNat) [10, 12, 13] = true then -1 else Lib.indexByte r c
  | [] => rfl
  | b :: l => by
    have ih := inner_law c l
    have hge := Lib.indexByte_ge l c
    by_cases hb : b = c
    · have e : Lib.indexByte (b :: l) c = 0 := by rw [indexByte_app, if_pos (by simp [hb])]
      have hc0 : Lib.containsAny ((b :: l).take (0 : Int).toNat) [10, 12, 13] = false := rfl
      rw [e, innerI, Tk.inner, if_pos hb, hc0]
      rfl
    · by_cases hm : Lib.indexByte l c = -1
      · have e : Lib.indexByte (b :: l) c = -1 := by rw [indexByte_app, if_neg (by simpa using hb), hm]; rfl
        rw [hm, if_neg (by omega)] at ih
        rw [e, if_neg (by omega), innerI, Tk.inner, if_neg hb]
        unfold innerI at ih
        cases hi : Tk.inner c l with
        | none => cases Tk.ending b <;> rfl
        | some n => rw [hi] at ih; simp only at ih; omega
      · have e : Lib.indexByte (b :: l) c = Lib.indexByte l c + 1 := by rw [indexByte_app, if_neg (by simpa using hb), if_neg (by simpa using hm)]
        have ht : (Lib.indexByte l c + 1).toNat = (Lib.indexByte l c).toNat + 1 := by omega
        rw [e, ht, List.take_succ_cons, containsAny_cons, innerI, Tk.inner, if_neg hb]
        unfold innerI at ih
        cases he : Tk.ending b
        · simp only [Bool.false_or, Bool.false_eq_true, if_false]
          by_cases hc : Lib.containsAny (l.take (Lib.indexByte l c).toNat) [10, 12, 13] = true
          · rw [if_pos ⟨by omega, hc⟩]
            rw [if_pos ⟨by omega, hc⟩] at ih
            cases hi : Tk.inner c l with
            | none => rfl
            | some n => rw [hi] at ih; simp only at ih; omega
          · rw [if_neg (fun x => hc x.2)]
            rw [if_neg (fun x => hc x.2)] at ih
            cases hi : Tk.inner c l with
            | none => rw [hi] at ih; simp only at ih; omega
            | some n => rw [hi] at ih; simp only at ih ⊢; simp only [Option.map_some]; omega
        · rw [Bool.true_or, if_pos (⟨by omega, rfl⟩ : 0 ≤ Lib.indexByte l c + 1 ∧ true = true)]
          rfl
theorem index_den (s p : List UInt8) (h : s.length < 4294967281) : den K 258 [T s, T p] [] = some (.ret (I (Lib.index s p)) []) := by
  refine prim_run (F := pIndex) rfl ?_
  simp [pIndex, h]
theorem indexByte_den (s : List UInt8) (c : UInt8) : den K 244 [T s, U c] [] = some (.ret (I (Lib.indexByte s c)) []) := by
  refine prim_run (F := pIndexByte) rfl ?_
  simp [pIndexByte]
theorem hasPrefix_den (s p : List UInt8) : den K 67 [T s, T p] [] = some (.ret (B (Lib.hasPrefix s p)) []) := prim_run (F := pHasPrefix) rfl rfl
theorem indexAny_den (s : List UInt8) (h : s.length < 4294967281) : den K 291 [T s, T [10, 12, 13]] [] = some (.ret (I (Lib.indexAny s [10, 12, 13])) []) := by
  refine prim_run (F := pIndexAny) rfl ?_
  simp [pIndexAny, h]
theorem containsAny_den (s : List UInt8) (h : s.length < 4294967281) : den K 276 [T s, T [10, 12, 13]] [] = some (.ret (B (Lib.containsAny s [10, 12, 13])) []) := by
  have d := indexAny_den s h
  unfold Lib.containsAny
  refine den_run rfl rfl Tryz.func276 rfl Tryz.ntmps276 ⟨by simp, by simp [LK]⟩ ?_
  have hr : Tryz.f276.results = #[.tmp 4] := rfl
  simp only [exL_seq, exL_region, exL_ret, runRegion, runOps, stepOp, guardA, absOp, takeOver, opd, avOf, cvOf, St.degAt, St.put, okPV, absBin, intBin, setBoxes, if_true, Bool.false_eq_true, if_false, Option.map_some, Option.map_none, Option.bind_some, thenO, upd, List.toList_toArray, isOwn, steal, appArgs, mvB, inApps, AV.deg, CV.deg, AV.isIter, some_beqN, Nat.reduceLT, reduceCtorEq, Nat.reduceEqDiff, List.length_nil, List.length_cons, List.filterMap_cons, List.filterMap_nil, List.getElem?_cons_zero, List.getElem?_cons_succ, Option.getD_some, K_hook, hookB, Nat.reduceBEq, Bool.and_self, K_P, K_own, absCall, doCall, getBoxes, lend, idx, dedup, AV.ren, CV.ren, AV.ptrs, CV.ptrs, zipBox, AV.flat, CV.flat, enterSt, leave, resOf, resVars, resVar, outBoxes, lentOnly, TV.deg, TV.av, LK, List.map_cons, List.map_nil, List.all_cons, List.all_nil, List.any_nil, List.contains_nil, List.append_nil, List.flatMap_cons, List.flatMap_nil, List.zip_nil_right, List.isEmpty_nil, Bool.or_true, Bool.or_false, Bool.not_false, Nat.reduceAdd, Nat.zero_add, List.toList_toArray, Option.some.injEq, ite_self, memOK, logOps, opKey, lentBoxes, Key.clash, Key.sees, Key.writes, good_291, hr, d]
theorem comment_den (s : List UInt8) (x : TS) (hs : s.length < 4000000000) (h : 2 ≤ s.length) : den K 243 [P0] [scan s x] = some (.ret (.tup []) [scan (s.drop (Tk.comment (s.drop 2))) x]) := by
  have hi := index_den (s.drop 2) [42, 47] (by simp; omega)
  rw [index_shut] at hi
  unfold shutI at hi
  refine den_run rfl rfl Tryz.func243 rfl Tryz.ntmps243 ⟨by simp, by simp [LK]⟩ ?_
  have hr : Tryz.f243.results = #[] := rfl
  have hb : ((0 : Int) ≤ 2 ∧ (2 : Int) ≤ (s.length : Int)) = True := eq_true (by omega)
  have hd : (s.take s.length).drop 2 = s.drop 2 := by rw [List.take_length]
  have t2 : Int.toNat 2 = 2 := rfl
  unfold Tk.comment
  cases hc : Tk.shut (s.drop 2) with
  | none =>
    rw [hc] at hi
    have hsk := skip_den s x s.length (Nat.le_refl _)
    have hn : decide ((-1 : Int) < 0) = true := by decide
    have hlen : (s.drop 2).length + 2 = s.length := by simp; omega
    rw [hlen]
    cases x <;> simp only [TS.cell, scan] at hsk ⊢ <;> simp only [exL_seq, exL_region, exL_cond, exL_ret, exL_skip, runRegion, runOps, stepOp, guardA, absOp, takeOver, opd, avOf, cvOf, St.degAt, St.put, okPV, okVal, okAV, absBin, intBin, setBoxes, if_true, Bool.false_eq_true, if_false, Option.map_some, Option.map_none, Option.bind_some, thenO, upd, List.toList_toArray, isOwn, steal, appArgs, mvB, inApps, AV.deg, CV.deg, AV.isIter, Nat.reduceLT, reduceCtorEq, Nat.reduceEqDiff, List.length_nil, List.length_cons, List.filterMap_cons, List.filterMap_nil, List.getElem?_cons_zero, List.getElem?_cons_succ, Option.getD_some, K_hook, hookB, Nat.reduceBEq, Bool.and_false, Bool.and_self, K_P, K_own, absCall, doCall, getBoxes, lend, idx, dedup, AV.ren, CV.ren, AV.ptrs, CV.ptrs, zipBox, AV.flat, CV.flat, absLoad, setAt, absFieldAddr, enterSt, leave, resOf, resVars, outBoxes, lentOnly, LK, CV.plain, bound, List.map_cons, List.map_nil, List.all_cons, List.all_nil, List.any_cons, List.any_nil, List.contains_cons, List.contains_nil, List.cons_append, List.nil_append, List.append_nil, List.flatMap_cons, List.flatMap_nil, List.zip_cons_cons, List.zip_nil_right, List.take_zero, List.drop_succ_cons, List.drop_zero, List.isEmpty_nil, Bool.and_true, Bool.true_and, Bool.or_true, Bool.true_or, Bool.or_false, Bool.false_or, Bool.not_true, Bool.not_false, Nat.reduceAdd, Nat.add_zero, Nat.zero_add, decide_true, decide_false, List.toList_toArray, Nat.le_refl, Nat.sub_self, Option.some.injEq, ite_self, memOK, logOps, opKey, lentBoxes, Key.clash, Key.sees, Key.writes, Nat.lt_irrefl, beq_self_eq_true, ty_fieldOff_219_0, ty_szOf_217, ty_shapeT_217, ev_slice_str ty_descOf_217, good_258, ev_len_str ty_descOf_217, good_274, hr, hi, hb, t2, hd, hn, hsk]
  | some n =>
    rw [hc] at hi
    have hle := Tk.shut_le hc
    simp only [List.length_drop] at hle
    have hsk := skip_den s x (n + 2) (by omega)
    have hn : decide ((n : Int) - 2 < 0) = false := decide_eq_false (by omega)
    have w1 : IntKind.i64.wrap (2 + ((n : Int) - 2)) = (n : Int) := by rw [IntWalk.i64_in _ (by omega)]; omega
    have w2 : IntKind.i64.wrap ((n : Int) + 2) = ((n + 2 : Nat) : Int) := by rw [IntWalk.i64_in _ (by omega)]; rfl
    cases x <;> simp only [TS.cell, scan] at hsk ⊢ <;> simp only [exL_seq, exL_region, exL_cond, exL_skip, runRegion, runOps, stepOp, guardA, absOp, takeOver, opd, avOf, cvOf, St.degAt, St.put, okPV, okVal, okAV, absBin, intBin, setBoxes, if_true, Bool.false_eq_true, if_false, Option.map_some, Option.map_none, Option.bind_some, thenO, upd, List.toList_toArray, isOwn, steal, appArgs, mvB, inApps, AV.deg, CV.deg, AV.gv, AV.isIter, Nat.reduceLT, reduceCtorEq, Nat.reduceEqDiff, List.length_nil, List.length_cons, List.filterMap_cons, List.filterMap_nil, List.getElem?_cons_zero, List.getElem?_cons_succ, Option.getD_some, K_hook, hookB, Nat.reduceBEq, Bool.and_false, Bool.and_self, K_P, K_own, absCall, doCall, getBoxes, lend, back, idx, dedup, AV.ren, CV.ren, AV.ptrs, CV.ptrs, zipBox, AV.flat, CV.flat, absLoad, setAt, absFieldAddr, enterSt, leave, resOf, resVars, outBoxes, lentOnly, LK, CV.plain, bound, List.map_cons, List.map_nil, List.all_cons, List.all_nil, List.any_cons, List.any_nil, List.contains_cons, List.contains_nil, List.cons_append, List.nil_append, List.append_nil, List.flatMap_cons, List.flatMap_nil, List.zip_cons_cons, List.zip_nil_right, List.take_zero, List.drop_succ_cons, List.drop_zero, List.isEmpty_nil, Bool.and_true, Bool.true_and, Bool.or_true, Bool.true_or, Bool.or_false, Bool.false_or, Bool.not_true, Bool.not_false, Nat.reduceAdd, Nat.add_zero, Nat.zero_add, decide_false, List.toList_toArray, Nat.le_refl, Nat.sub_self, Option.some.injEq, ite_self, memOK, logOps, opKey, lentBoxes, Key.clash, Key.sees, Key.writes, Nat.lt_irrefl, beq_self_eq_true, ty_fieldOff_219_0, ty_szOf_217, ty_shapeT_217, ev_slice_str ty_descOf_217, good_258, ev_len_str ty_descOf_217, good_274, hr, hi, hb, t2, hd, hn, w1, w2, hsk]
theorem inner_den (s : List UInt8) (c : UInt8) (r : List UInt8) (x : TS) (hsr : s = c :: r) (hs : s.length < 4000000000) : den K 248 [P0] [scan s x] = some (.ret (I (innerI c r)) [scan s x]) := by
  have hb : ((0 : Int) ≤ 1 ∧ (1 : Int) ≤ (s.length : Int)) = True := eq_true (by rw [hsr]; simp; omega)
  have hd : (s.take s.length).drop 1 = r := by rw [List.take_length, hsr]; rfl
  have hcell : s[(0 : Int).toNat]? = some c := by rw [hsr]; rfl
  have hrs : r.length ≤ s.length := by rw [hsr]; simp
  clear hsr
  have hi := indexByte_den r c
  have hge := Lib.indexByte_ge r c
  have hlt := indexByte_lt c r
  rw [inner_law]
  generalize Lib.indexByte r c = n at hi hge hlt
  refine den_run rfl rfl Tryz.func248 rfl Tryz.ntmps248 ⟨by simp, by simp [LK]⟩ ?_
  have hr : Tryz.f248.results = #[.tmp 2] := rfl
  have t1 : Int.toNat 1 = 1 := rfl
  by_cases h0 : 0 ≤ n
  · have hc := containsAny_den (r.take n.toNat) (by rw [List.length_take]; omega)
    have hn : decide (0 ≤ n) = true := decide_eq_true h0
    have hb2 : ((0 : Int) ≤ n ∧ n ≤ (r.length : Int)) = True := eq_true (by have := hlt h0; omega)
    cases hv : Lib.containsAny (r.take n.toNat) [10, 12, 13]
    · rw [hv] at hc
      rw [if_neg (fun e => by cases e.2)]
      cases x <;> simp only [TS.cell, scan] <;> simp only [exL_seq, exL_region, exL_cond, exL_ret, exL_skip, runRegion, runOps, stepOp, guardA, absOp, takeOver, opd, avOf, cvOf, St.degAt, St.put, okPV, okVal, okAV, absBin, intBin, setBoxes, if_true, Bool.false_eq_true, if_false, Option.map_some, Option.map_none, Option.bind_some, thenO, upd, List.toList_toArray, isOwn, steal, appArgs, mvB, inApps, AV.deg, CV.deg, AV.isIter, some_beqN, Nat.reduceLT, reduceCtorEq, Nat.reduceEqDiff, List.length_nil, List.length_cons, List.filterMap_cons, List.filterMap_nil, List.getElem?_cons_zero, List.getElem?_cons_succ, Option.getD_some, K_hook, hookB, Nat.reduceBEq, Bool.and_self, K_P, K_own, absCall, doCall, getBoxes, lend, idx, dedup, AV.ren, CV.ren, AV.ptrs, CV.ptrs, zipBox, AV.flat, CV.flat, absLoad, setAt, absFieldAddr, enterSt, leave, resOf, resVars, resVar, outBoxes, lentOnly, TV.deg, TV.av, LK, CV.plain, bound, List.map_cons, List.map_nil, List.all_cons, List.all_nil, List.any_cons, List.any_nil, List.contains_nil, List.cons_append, List.nil_append, List.append_nil, List.flatMap_cons, List.flatMap_nil, List.zip_nil_right, List.take_zero, List.drop_succ_cons, List.drop_zero, List.isEmpty_nil, Bool.and_true, Bool.or_true, Bool.true_or, Bool.or_false, Bool.not_true, Bool.not_false, Nat.reduceAdd, Nat.add_zero, Nat.zero_add, decide_false, List.toList_toArray, Nat.le_refl, Nat.sub_self, Option.some.injEq, ite_self, memOK, logOps, opKey, lentBoxes, Key.clash, Key.sees, Key.writes, Nat.lt_irrefl, beq_self_eq_true, ty_fieldOff_219_0, ty_szOf_217, ty_shapeT_217, ev_slice_str ty_descOf_217, ev_index ty_descOf_217, good_244, ev_slice_str ty_descOf_9, good_276, hr, hi, hb, hd, hn, t1, hb2, hc, hcell, Int.le_refl]
    · rw [hv] at hc
      rw [if_pos ⟨h0, rfl⟩]
      cases x <;> simp only [TS.cell, scan] <;> simp only [exL_seq, exL_region, exL_cond, exL_ret, exL_skip, runRegion, runOps, stepOp, guardA, absOp, takeOver, opd, avOf, cvOf, St.degAt, St.put, okPV, okVal, okAV, absBin, intBin, setBoxes, if_true, Bool.false_eq_true, if_false, Option.map_some, Option.map_none, Option.bind_some, thenO, upd, List.toList_toArray, isOwn, steal, appArgs, mvB, inApps, AV.deg, CV.deg, AV.isIter, some_beqN, Nat.reduceLT, reduceCtorEq, Nat.reduceEqDiff, List.length_nil, List.length_cons, List.filterMap_cons, List.filterMap_nil, List.getElem?_cons_zero, List.getElem?_cons_succ, Option.getD_some, K_hook, hookB, Nat.reduceBEq, Bool.and_self, K_P, K_own, absCall, doCall, getBoxes, lend, idx, dedup, AV.ren, CV.ren, AV.ptrs, CV.ptrs, zipBox, AV.flat, CV.flat, absLoad, setAt, absFieldAddr, enterSt, leave, resOf, resVars, resVar, outBoxes, lentOnly, TV.deg, TV.av, LK, CV.plain, bound, List.map_cons, List.map_nil, List.all_cons, List.all_nil, List.any_cons, List.any_nil, List.contains_nil, List.cons_append, List.nil_append, List.append_nil, List.flatMap_cons, List.flatMap_nil, List.zip_nil_right, List.take_zero, List.drop_succ_cons, List.drop_zero, List.isEmpty_nil, Bool.and_true, Bool.or_true, Bool.true_or, Bool.or_false, Bool.not_true, Bool.not_false, Nat.reduceAdd, Nat.add_zero, Nat.zero_add, decide_false, List.toList_toArray, Nat.le_refl, Nat.sub_self, Option.some.injEq, ite_self, memOK, logOps, opKey, lentBoxes, Key.clash, Key.sees, Key.writes, Nat.lt_irrefl, beq_self_eq_true, ty_fieldOff_219_0, ty_szOf_217, ty_shapeT_217, ev_slice_str ty_descOf_217, ev_index ty_descOf_217, good_244, ev_slice_str ty_descOf_9, good_276, hr, hi, hb, hd, hn, t1, hb2, hc, hcell, Int.le_refl]
  · have hn : decide (0 ≤ n) = false := decide_eq_false h0
    rw [if_neg (fun e => h0 e.1)]
    cases x <;> simp only [TS.cell, scan] <;> simp only [exL_seq, exL_region, exL_cond, exL_ret, exL_skip, runRegion, runOps, stepOp, guardA, absOp, takeOver, opd, avOf, cvOf, St.degAt, St.put, okPV, okVal, okAV, absBin, intBin, setBoxes, if_true, Bool.false_eq_true, if_false, Option.map_some, Option.map_none, Option.bind_some, thenO, upd, List.toList_toArray, isOwn, steal, appArgs, mvB, inApps, AV.deg, CV.deg, AV.isIter, some_beqN, Nat.reduceLT, reduceCtorEq, Nat.reduceEqDiff, List.length_nil, List.length_cons, List.filterMap_cons, List.filterMap_nil, List.getElem?_cons_zero, List.getElem?_cons_succ, Option.getD_some, K_hook, hookB, Nat.reduceBEq, Bool.and_self, K_P, K_own, absCall, doCall, getBoxes, lend, idx, dedup, AV.ren, CV.ren, AV.ptrs, CV.ptrs, zipBox, AV.flat, CV.flat, absLoad, setAt, absFieldAddr, enterSt, leave, resOf, resVars, resVar, outBoxes, lentOnly, TV.deg, TV.av, LK, CV.plain, bound, List.map_cons, List.map_nil, List.all_cons, List.all_nil, List.any_cons, List.any_nil, List.contains_nil, List.cons_append, List.nil_append, List.append_nil, List.flatMap_cons, List.flatMap_nil, List.zip_nil_right, List.take_zero, List.drop_succ_cons, List.drop_zero, List.isEmpty_nil, Bool.and_true, Bool.or_true, Bool.true_or, Bool.or_false, Bool.not_true, Bool.not_false, Nat.reduceAdd, Nat.add_zero, Nat.zero_add, decide_false, List.toList_toArray, Nat.le_refl, Nat.sub_self, Option.some.injEq, ite_self, memOK, logOps, opKey, lentBoxes, Key.clash, Key.sees, Key.writes, Nat.lt_irrefl, beq_self_eq_true, Bool.false_beq, ty_fieldOff_219_0, ty_szOf_217, ty_shapeT_217, ev_slice_str ty_descOf_217, ev_index ty_descOf_217, good_244, hr, hi, hb, hd, hn, t1, hcell, Int.le_refl]
end Go.Abs
namespace Go.Abs.Sl
theorem mem_trimR {l : List Val} {v : Val} (h : v ∈ trim l) : v ∈ l := by
  unfold trim at h
  have h1 := List.mem_reverse.1 h
  have h2 := (List.dropWhile_sublist _).subset h1
  exact (List.dropWhile_sublist _).subset (List.mem_reverse.1 h2)
end Go.Abs.Sl
namespace Go.Abs
structure Dcl where
  name : List UInt8
  l : List Val
  imp : Bool
namespace Sl
def customB : List UInt8 → Bool
  | a :: b :: _ => a == 45 && b == 45
  | _ => false
def proper (s : List UInt8) : List UInt8 := if customB s then s else low s
def isNamed : Val → Bool
  | .mk k t _ => k == 1 && t.kind == 1
def nameT : Val → List UInt8
  | .mk _ t _ => t.text
def importantT : List UInt8 := [105, 109, 112, 111, 114, 116, 97, 110, 116]
def strongR : List Val → Option (List Val)
  | v :: r => if isNamed v && low (nameT v) == importantT then (match r.dropWhile isBlank with
      | w :: r2 => if isSign [33] w then some (r2.dropWhile isBlank).reverse else none
      | [] => none) else none
  | [] => none
def strong (l : List Val) : Option (List Val) := strongR l.reverse
def hasSign (s : List UInt8) (l : List Val) : Bool := l.any (isSign s)
def fits (l : List Val) : Bool := !l.isEmpty && (!hasSign [33] l && decide (Ne.depth l ≤ 56))
def declOf (name : List UInt8) (b : List Val) : Dcl := match strong b with
  | some y => ⟨proper name, y, true⟩
  | none => ⟨proper name, b, false⟩
def readD (v : List Val) : Option Dcl := match trim v with
  | x :: r => if isNamed x then (match r.dropWhile isBlank with
      | c :: r2 => if isSign [58] c then (if fits (declOf (nameT x) (trim r2)).l then some (declOf (nameT x) (trim r2)) else none) else none
      | [] => none) else none
  | [] => none
def parseD (l : List Val) : List Dcl := (at_ [59] l).filterMap readD
def declV (d : Dcl) : List Val := iv d.name :: dv 58 :: (d.l ++ if d.imp then [dv 33, iv importantT] else [])
def Fr (l : List Val) : Prop := ∀ v r, l = v :: r → isBlank v = false
theorem Fr.drop {l : List Val} (h : Fr l) : l.dropWhile isBlank = l := by
  cases l with
  | nil => rfl
  | cons v r => rw [List.dropWhile_cons, if_neg (by rw [h v r rfl]; simp)]
theorem fr_trim (l : List Val) : Fr (trim l) := fun _ _ h => trim_head h
theorem fr_trim_rev (l : List Val) : Fr (trim l).reverse := fun v r h => by
  have := congrArg List.reverse h
  rw [List.reverse_reverse, List.reverse_cons] at this
  exact trim_last this
theorem Fr.pre {l a b : List Val} (h : Fr l) (e : l = a ++ b) : Fr a := fun v r h2 => by
  subst h2
  exact h v (r ++ b) (by rw [e]; rfl)
theorem Fr.trim {l : List Val} (h : Fr l) : trim l = (l.reverse.dropWhile isBlank).reverse := by
  unfold Sl.trim
  rw [h.drop]
def strongP (l : List Val) : Option (List Val) := match l.reverse with
  | v :: r => if isNamed v && low (nameT v) == importantT then (match (trim r.reverse).reverse with
      | w :: r2 => if isSign [33] w then some (trim r2.reverse) else none
      | [] => none) else none
  | [] => none
theorem strongP_eq {l : List Val} (h : Fr l) : strongP l = strong l := by
  unfold strongP strong
  cases hl : l.reverse with
  | nil => rfl
  | cons v r =>
    have el : l = r.reverse ++ [v] := by
      have := congrArg List.reverse hl
      rw [List.reverse_reverse, List.reverse_cons] at this
      exact this
    have f1 : Fr r.reverse := h.pre el
    rw [strongR]
    simp only
    rw [f1.trim, List.reverse_reverse, List.reverse_reverse]
    split
    · cases hr : r.dropWhile isBlank with
      | nil => rfl
      | cons w r2 =>
        obtain ⟨pre, hp⟩ := List.dropWhile_suffix isBlank (l := r)
        have f2 : Fr r2.reverse := f1.pre (b := w :: pre.reverse) (by rw [← hp, hr]; simp)
        simp only
        rw [f2.trim, List.reverse_reverse]
    · rfl
theorem at_free (s : List UInt8) : ∀ l : List Val, ∀ q ∈ at_ s l, (∀ v ∈ q, v ∈ l) ∧ hasSign s q = false
  | [], q, hq => by
    rw [at_, List.mem_singleton] at hq
    subst hq; exact ⟨fun v hv => hv, rfl⟩
  | x :: l, q, hq => by
    rw [at_] at hq
    split at hq
    · rcases List.mem_cons.1 hq with rfl | hq
      · exact ⟨(fun v hv => by cases hv), rfl⟩
      · obtain ⟨h1, h2⟩ := at_free s l q hq
        exact ⟨fun v hv => by simp [h1 v hv], h2⟩
    · rename_i hx
      split at hq
      · rename_i e
        rw [List.mem_singleton] at hq
        subst hq
        exact ⟨fun v hv => by rw [List.mem_singleton] at hv; simp [hv], by simp [hasSign, hx]⟩
      · rename_i p ps e
        rcases List.mem_cons.1 hq with rfl | hq
        · obtain ⟨h1, h2⟩ := at_free s l p (by rw [e]; simp)
          refine ⟨fun v hv => ?_, ?_⟩
          · rcases List.mem_cons.1 hv with rfl | hv
            · simp
            · simp [h1 v hv]
          · unfold hasSign at h2 ⊢
            rw [List.any_cons, h2]
            simpa using hx
        · obtain ⟨h1, h2⟩ := at_free s l q (by rw [e]; simp [hq])
          exact ⟨fun v hv => by simp [h1 v hv], h2⟩
theorem cut_at' (s : List UInt8) : ∀ l : List Val, cut (isSign s) l = at_ s l
  | [] => rfl
  | v :: l => by
    rw [cut, at_, cut_at' s l]
    all_goals (cases at_ s l <;> rfl)
theorem at_app {s : List UInt8} {x : Val} (hx : isSign s x = true) (b : List Val) : ∀ a : List Val, at_ s (a ++ x :: b) = at_ s a ++ at_ s b
  | [] => by
    have e : at_ s (x :: b) = [] :: at_ s b := by rw [at_, if_pos hx]
    rw [List.nil_append, e]; rfl
  | v :: a => by
    rw [List.cons_append, at_, at_, at_app hx b a]
    split
    · rfl
    · cases ha : at_ s a with
      | nil =>
        exfalso
        rw [← cut_at'] at ha
        obtain ⟨q, qs, e⟩ := cut_ne (isSign s) a
        rw [e] at ha; cases ha
      | cons p ps => rfl
theorem join_two (a b : List Val) : join [59] [a, b] = a ++ signV [59] :: b := by
  show a ++ joins [59] [b] = _
  rw [joins_cons, joins_nil, List.append_nil]
theorem sign_is (s : List UInt8) : isSign s (signV s) = true := by
  show ((1 : Int) == 1 && decide ((⟨7, s, 0⟩ : Tok) = ⟨7, s, 0⟩)) = true
  simp
theorem parse_apart (a b : List Val) : parseD (join [59] [a, b]) = parseD a ++ parseD b := by
  unfold parseD
  rw [join_two, at_app (sign_is [59]), List.filterMap_append]
theorem parse_length (l : List Val) : (parseD l).length ≤ (at_ [59] l).length := List.length_filterMap_le _ _
end Sl
end Go.Abs
namespace Go.Abs
open Go
inductive Clo (g : Nat) : CV → List AV → Option (List CV) → List (List CV) → Prop
  | no : Clo g (.fn g []) [] none []
  | one (cs : List PV) : Clo g (.fn g [(100000, 0)]) [P0] (some (cs.map CV.pv)) [cs.map CV.pv]
theorem arr_nil {α : Type} : (#[] : Array α).isEmpty = true := rfl
theorem ren_pvs (f : Nat → Option Nat) (cs : List PV) : (cs.map CV.pv).map (CV.ren f) = cs.map CV.pv := by
  rw [List.map_map]; exact List.map_congr_left fun _ _ => rfl
theorem live_pvs (bs : List Nat) (cs : List PV) : (cs.map CV.pv).map (CV.live bs) = cs.map CV.pv := by
  rw [List.map_map]; exact List.map_congr_left fun _ _ => rfl
def encT (l : List (List UInt8)) : List (List PV) := l.map fun s => [.str s]
theorem encT_len (l : List (List UInt8)) : (encT l).length = l.length := List.length_map ..
theorem txt_at (l : List (List UInt8)) (i : Nat) (x : List UInt8) (h : l[i]? = some x) : (encT l)[(i : Int).toNat]? = some [.str x] := by
  rw [Int.toNat_natCast, encT, List.getElem?_map, h]; rfl
def eqB {α : Type} (q : α → α → Bool) : List α → List α → Bool
  | [], [] => true
  | x :: a, y :: b => q x y && eqB q a b
  | _, _ => false
theorem eqB_len {α : Type} {q : α → α → Bool} : ∀ {a b : List α}, a.length ≠ b.length → eqB q a b = false
  | [], [], h => absurd rfl h
  | [], _ :: _, _ => rfl
  | _ :: _, [], _ => rfl
  | x :: a, y :: b, h => by
    rw [eqB, eqB_len (a := a) (b := b) (by simpa using h), Bool.and_false]
def ixI (o : Option Nat) : Int := match o with | some j => j | none => -1
theorem ix_any {α : Type} {p : α → Bool} {l : List α} : decide (0 ≤ ixI (l.findIdx? p)) = l.any p := by
  cases h : l.findIdx? p with
  | none =>
    rw [List.findIdx?_eq_none_iff] at h
    have : l.any p = false := by
      rw [List.any_eq_false]
      intro x hx
      rw [h x hx]; simp
    rw [this]; decide
  | some j =>
    obtain ⟨hj, hp, _⟩ := List.findIdx?_eq_some_iff_getElem.1 h
    have : l.any p = true := by
      rw [List.any_eq_true]
      exact ⟨_, List.getElem_mem hj, hp⟩
    rw [this]
    show decide ((0 : Int) ≤ (j : Int)) = true
    exact decide_eq_true (by omega)
end Go.Abs
namespace Go.Abs
open Go Go.Proofs
set_option maxRecDepth 10000
attribute [local go_sem] exL_seq exL_region exL_cond exL_block exL_scope exL_ret exL_skip exL_exit runRegion runOps stepOp guardA absOp takeOver opd avOf cvOf St.degAt St.put okPV okVal okAV absBin intBin strBin boolBin setBoxes if_true Bool.false_eq_true if_false Option.map_some Option.map_none Option.bind_some Option.bind_none thenO outOf upd List.toList_toArray isOwn steal appArgs mvB inApps AV.deg CV.deg AV.gv AV.isIter absNext some_bne some_beqN List.length_nil List.length_cons List.filterMap_cons List.filterMap_nil beq_iff_eq List.getElem?_cons_zero List.getElem?_cons_succ Option.getD_some K_hook hookB Bool.false_and Bool.and_false Bool.and_self K_P K_own absCall doCall getBoxes lend back idx dedup AV.ren CV.ren TV.ren AV.ptrs CV.ptrs zipBox AV.flat CV.flat absLoad absStore cellsOfAV setAt newBox markB bldTypes absFieldAddr absField absExtract absAssert noAssert absMkIface ifcOf CV.pv? content pushHead ownT fillCells reps pvs chunks enterSt leave resOf resVars resVar outBoxes lentOnly TV.deg TV.av LK CV.plain CV.noBld nilBin absUn bound List.map_cons List.map_nil List.all_cons List.all_nil List.any_cons List.any_nil List.contains_cons List.contains_nil List.elem_cons List.elem_nil List.cons_append List.nil_append List.append_nil List.flatMap_cons List.flatMap_nil List.zip_cons_cons List.zip_nil_left List.zip_nil_right List.take_succ_cons List.take_zero List.take_nil List.drop_succ_cons List.drop_zero List.drop_nil List.isEmpty_nil List.isEmpty_cons Bool.and_true Bool.true_and Bool.or_true Bool.true_or Bool.or_false Bool.false_or Bool.not_true Bool.not_false Nat.add_zero Nat.zero_add Option.isNone_none Option.isNone_some Option.getD_none true_and and_true not_true_eq_false not_false_eq_true decide_true decide_false Nat.le_refl and_self Bool.not_eq_true Nat.sub_self or_true true_or Option.some.injEq List.length_map List.nil_eq and_false false_and AV.live CV.live CV.liveIn K_keep firstReg Option.orElse_some Option.orElse_none head keepSlots keepBoxes Int.lt_irrefl List.length_append ite_self memOK logOps opKey lentBoxes Key.clash Key.sees Key.writes Nat.lt_irrefl gt_iff_lt nobox_at bot_at false_or or_false beq_self_eq_true Bool.true_beq Bool.false_beq
abbrev ixvH (l : List Val) (i : Nat) (fv : CV) (kb : Option (List CV)) : St :=
  { sl := upd (upd (upd (upd bot 8 (I i)) 7 (I l.length)) 1 (.c fv)) 0 (L (encL l)), bx := upd nobox 100000 kb, nt := 19 }
noncomputable def ixvlp : Code := .loop (loopAt Tryz.f168 2)
theorem ixv_loop {g : Nat} (hg : K.good g = true) (ho : K.ownRet g = false) {p : Val → Bool} {fv : CV} {xs : List AV} {kb : Option (List CV)} {kl : List (List CV)} (hc : Clo g fv xs kb kl) (l : List Val) (hl : l.length ≤ 1000000000)
    (hp : ∀ k t c, Val.mk k t c ∈ l → den K g (.agg [.pv (.int .i64 k), .pv (.int .i64 t.kind), .pv (.str t.text), .pv (.int .i64 t.n), .pv (.sl (encL c))] :: xs) kl = some (.ret (B (p (.mk k t c))) kl)) : ∀ (rest : List Val) (i : Nat), l.drop i = rest → i ≤ l.length →
    Ends (exL K 168 ixvlp (ixvH l i fv kb)) fun o S => S.bx 100000 = kb ∧ match rest.findIdx? p with
      | none => o = .exit 0 ∧ S.nt = 19
      | some j => o = .ret ∧ S.sl 4 = I ((i + j : Nat) : Int)
  | [], i, hd, hi => by
    have hin : i = l.length := by
      have := List.drop_eq_nil_iff.1 hd
      omega
    subst hin
    have hlt : decide ((l.length : Int) < (l.length : Int)) = false := decide_eq_false (by omega)
    unfold ixvlp
    conv in loopAt _ _ => whnf
    rw [exL_loop]
    cases hc
    all_goals simp only [go_sem, Nat.reduceLT, reduceCtorEq, Nat.reduceEqDiff, Nat.reduceBEq, keep_168_2, ends_some, List.findIdx?_nil, live_pvs]
  | .mk k t c :: rest, i, hd, hi => by
    obtain ⟨g1, g2, g3⟩ := drop_cons hd
    have hlt : decide ((i : Int) < (l.length : Int)) = true := decide_eq_true (by omega)
    have hget := val_at l i k t c g1
    have ih := ixv_loop hg ho hc l hl hp rest (i + 1) g2 (by omega)
    have hm := hp k t c (List.mem_of_getElem? g1)
    have hws : IntKind.i64.wrap ((i : Int) + 1) = ((i + 1 : Nat) : Int) := wrap_nat i (by omega)
    unfold ixvlp at ih ⊢
    conv at ih in loopAt _ _ => whnf
    rw [List.findIdx?_cons]
    conv in loopAt _ _ => whnf
    rw [exL_loop]
    cases hv : p (.mk k t c)
    · rw [if_neg (by simp)]
      rw [hv] at hm
      cases hc
      all_goals
        simp only [go_sem, Nat.reduceLT, reduceCtorEq, Nat.reduceEqDiff, Nat.reduceBEq, Nat.reduceAdd, ev_indexAddr ty_descOf_22, ty_szOf_49, ty_shapeT_49, keep_168_2, hlt, hget, Int.natCast_nonneg, hm, hg, ho, hws, ren_pvs, live_pvs]
        rw [exL_head]
        simp only [go_sem, reduceCtorEq, Nat.reduceEqDiff, keep_168_2, live_pvs]
        refine ends_imp ih fun o S q => ⟨q.1, ?_⟩
        have q2 := q.2
        cases hf : rest.findIdx? p with
        | none => rw [hf] at q2; exact q2
        | some j =>
          rw [hf] at q2
          refine ⟨q2.1, q2.2.trans ?_⟩
          rw [show i + 1 + j = i + (j + 1) by omega]
    · rw [if_pos rfl]
      rw [hv] at hm
      cases hc
      all_goals simp only [go_sem, Nat.reduceLT, reduceCtorEq, Nat.reduceEqDiff, Nat.reduceBEq, Nat.reduceAdd, ev_indexAddr ty_descOf_22, ty_szOf_49, ty_shapeT_49, keep_168_2, hlt, hget, Int.natCast_nonneg, hm, hg, ho, ends_some, Nat.add_zero, ren_pvs, live_pvs]
theorem IndexV_den {g : Nat} (hg : K.good g = true) (ho : K.ownRet g = false) {p : Val → Bool} {fv : CV} {xs : List AV} {kb : Option (List CV)} {kl : List (List CV)} (hc : Clo g fv xs kb kl) (l : List Val) (hl : l.length ≤ 1000000000)
    (hp : ∀ k t c, Val.mk k t c ∈ l → den K g (.agg [.pv (.int .i64 k), .pv (.int .i64 t.kind), .pv (.str t.text), .pv (.int .i64 t.n), .pv (.sl (encL c))] :: xs) kl = some (.ret (B (p (.mk k t c))) kl)) :
    den K 168 [L (encL l), .c fv] kl = some (.ret (I (ixI (l.findIdx? p))) kl) := by
  have hr : Tryz.f168.results = #[.tmp 4] := rfl
  have h := ixv_loop hg ho hc l hl hp l 0 rfl (Nat.zero_le _)
  unfold ixvlp at h
  conv at h in loopAt _ _ => whnf
  obtain ⟨o, S', w, hb, hq⟩ := h
  have z0 : ((0 : Nat) : Int) = 0 := rfl
  simp only [ixvH, z0] at w
  refine den_run rfl rfl Tryz.func168 rfl Tryz.ntmps168 ⟨by simp, by simp [LK]⟩ ?_
  cases hf : l.findIdx? p with
  | none =>
    rw [hf] at hq
    obtain ⟨rfl, hn⟩ := hq
    unfold ixI
    cases hc
    all_goals
      simp only [go_sem, Nat.reduceLT, reduceCtorEq, Nat.reduceEqDiff, Nat.reduceBEq, Nat.reduceAdd, ev_len_sl ty_descOf_22, encL_len]
      rw [exL_head]
      simp only [go_sem, reduceCtorEq, Nat.reduceEqDiff, keep_168_2, live_pvs]
      erw [w]
      simp only [go_sem, Nat.reduceLT, Nat.reduceBEq, hr, hn, hb, ren_pvs]
  | some j =>
    rw [hf] at hq
    obtain ⟨rfl, h4⟩ := hq
    rw [Nat.zero_add] at h4
    unfold ixI
    cases hc
    all_goals
      simp only [go_sem, Nat.reduceLT, reduceCtorEq, Nat.reduceEqDiff, Nat.reduceBEq, Nat.reduceAdd, ev_len_sl ty_descOf_22, encL_len]
      rw [exL_head]
      simp only [go_sem, reduceCtorEq, Nat.reduceEqDiff, keep_168_2, live_pvs]
      erw [w]
      simp only [go_sem, hr, h4, hb, ren_pvs]
theorem ContainsV_den {g : Nat} (hg : K.good g = true) (ho : K.ownRet g = false) {p : Val → Bool} {fv : CV} {xs : List AV} {kb : Option (List CV)} {kl : List (List CV)} (hc : Clo g fv xs kb kl) (l : List Val) (hl : l.length ≤ 1000000000)
    (hp : ∀ k t c, Val.mk k t c ∈ l → den K g (.agg [.pv (.int .i64 k), .pv (.int .i64 t.kind), .pv (.str t.text), .pv (.int .i64 t.n), .pv (.sl (encL c))] :: xs) kl = some (.ret (B (p (.mk k t c))) kl)) :
    den K 176 [L (encL l), .c fv] kl = some (.ret (B (l.any p)) kl) := by
  have hr : Tryz.f176.results = #[.tmp 4] := rfl
  have h := IndexV_den hg ho hc l hl hp
  rw [← ix_any]
  refine den_run rfl rfl Tryz.func176 rfl Tryz.ntmps176 ⟨by simp, by simp [LK]⟩ ?_
  cases hc
  all_goals simp only [go_sem, Nat.reduceLT, reduceCtorEq, Nat.reduceEqDiff, Nat.reduceBEq, Nat.reduceAdd, good_168, hr, h, ren_pvs, capsTo]
end Go.Abs
namespace Go.Abs
open Go Go.Proofs
set_option maxRecDepth 10000
attribute [local go_sem] exL_seq exL_region exL_cond exL_block exL_scope exL_ret exL_skip exL_exit runRegion runOps stepOp guardA absOp takeOver opd avOf cvOf St.degAt St.put okPV okVal okAV absBin intBin strBin boolBin setBoxes if_true Bool.false_eq_true if_false Option.map_some Option.map_none Option.bind_some Option.bind_none thenO outOf upd List.toList_toArray isOwn steal appArgs mvB inApps AV.deg CV.deg AV.gv AV.isIter absNext some_bne some_beqN List.length_nil List.length_cons List.filterMap_cons List.filterMap_nil beq_iff_eq List.getElem?_cons_zero List.getElem?_cons_succ Option.getD_some K_hook hookB Bool.false_and Bool.and_false Bool.and_self K_P K_own absCall doCall getBoxes lend back idx dedup AV.ren CV.ren TV.ren AV.ptrs CV.ptrs zipBox AV.flat CV.flat absLoad absStore cellsOfAV setAt newBox markB bldTypes absFieldAddr absField absExtract absAssert noAssert absMkIface ifcOf CV.pv? content pushHead ownT fillCells reps pvs chunks enterSt leave resOf resVars resVar outBoxes lentOnly TV.deg TV.av LK CV.plain CV.noBld nilBin absUn bound List.map_cons List.map_nil List.all_cons List.all_nil List.any_cons List.any_nil List.contains_cons List.contains_nil List.elem_cons List.elem_nil List.cons_append List.nil_append List.append_nil List.flatMap_cons List.flatMap_nil List.zip_cons_cons List.zip_nil_left List.zip_nil_right List.take_succ_cons List.take_zero List.take_nil List.drop_succ_cons List.drop_zero List.drop_nil List.isEmpty_nil List.isEmpty_cons Bool.and_true Bool.true_and Bool.or_true Bool.true_or Bool.or_false Bool.false_or Bool.not_true Bool.not_false Nat.add_zero Nat.zero_add Option.isNone_none Option.isNone_some Option.getD_none true_and and_true not_true_eq_false not_false_eq_true decide_true decide_false Nat.le_refl and_self Bool.not_eq_true Nat.sub_self or_true true_or Option.some.injEq List.length_map List.nil_eq and_false false_and AV.live CV.live CV.liveIn K_keep firstReg Option.orElse_some Option.orElse_none head keepSlots keepBoxes Int.lt_irrefl List.length_append ite_self memOK logOps opKey lentBoxes Key.clash Key.sees Key.writes Nat.lt_irrefl gt_iff_lt nobox_at bot_at false_or or_false beq_self_eq_true Bool.true_beq Bool.false_beq
abbrev ixsH (l : List (List UInt8)) (i : Nat) (fv : CV) (kb : Option (List CV)) : St :=
  { sl := upd (upd (upd (upd bot 8 (I i)) 7 (I l.length)) 1 (.c fv)) 0 (L (encT l)), bx := upd nobox 100000 kb, nt := 19 }
noncomputable def ixslp : Code := .loop (loopAt Tryz.f218 2)
theorem ixs_loop {g : Nat} (hg : K.good g = true) (ho : K.ownRet g = false) {p : List UInt8 → Bool} {fv : CV} {xs : List AV} {kb : Option (List CV)} {kl : List (List CV)} (hc : Clo g fv xs kb kl) (l : List (List UInt8)) (hl : l.length ≤ 1000000000)
    (hp : ∀ x, x ∈ l → den K g (T x :: xs) kl = some (.ret (B (p x)) kl)) : ∀ (rest : List (List UInt8)) (i : Nat), l.drop i = rest → i ≤ l.length →
    Ends (exL K 218 ixslp (ixsH l i fv kb)) fun o S => S.bx 100000 = kb ∧ match rest.findIdx? p with
      | none => o = .exit 0 ∧ S.nt = 19
      | some j => o = .ret ∧ S.sl 4 = I ((i + j : Nat) : Int)
  | [], i, hd, hi => by
    have hin : i = l.length := by
      have := List.drop_eq_nil_iff.1 hd
      omega
    subst hin
    have hlt : decide ((l.length : Int) < (l.length : Int)) = false := decide_eq_false (by omega)
    unfold ixslp
    conv in loopAt _ _ => whnf
    rw [exL_loop]
    cases hc
    all_goals simp only [go_sem, Nat.reduceLT, reduceCtorEq, Nat.reduceEqDiff, Nat.reduceBEq, keep_218_2, ends_some, List.findIdx?_nil, live_pvs]
  | x :: rest, i, hd, hi => by
    obtain ⟨g1, g2, g3⟩ := drop_cons hd
    have hlt : decide ((i : Int) < (l.length : Int)) = true := decide_eq_true (by omega)
    have hget := txt_at l i x g1
    have ih := ixs_loop hg ho hc l hl hp rest (i + 1) g2 (by omega)
    have hm := hp x (List.mem_of_getElem? g1)
    have hws : IntKind.i64.wrap ((i : Int) + 1) = ((i + 1 : Nat) : Int) := wrap_nat i (by omega)
    unfold ixslp at ih ⊢
    conv at ih in loopAt _ _ => whnf
    rw [List.findIdx?_cons]
    conv in loopAt _ _ => whnf
    rw [exL_loop]
    cases hv : p x
    · rw [if_neg (by simp)]
      rw [hv] at hm
      cases hc
      all_goals
        simp only [go_sem, Nat.reduceLT, reduceCtorEq, Nat.reduceEqDiff, Nat.reduceBEq, Nat.reduceAdd, ev_indexAddr ty_descOf_123, ty_szOf_9, ty_shapeT_9, keep_218_2, hlt, hget, Int.natCast_nonneg, hm, hg, ho, hws, ren_pvs, live_pvs]
        rw [exL_head]
        simp only [go_sem, reduceCtorEq, Nat.reduceEqDiff, keep_218_2, live_pvs]
        refine ends_imp ih fun o S q => ⟨q.1, ?_⟩
        have q2 := q.2
        cases hf : rest.findIdx? p with
        | none => rw [hf] at q2; exact q2
        | some j =>
          rw [hf] at q2
          refine ⟨q2.1, q2.2.trans ?_⟩
          rw [show i + 1 + j = i + (j + 1) by omega]
    · rw [if_pos rfl]
      rw [hv] at hm
      cases hc
      all_goals simp only [go_sem, Nat.reduceLT, reduceCtorEq, Nat.reduceEqDiff, Nat.reduceBEq, Nat.reduceAdd, ev_indexAddr ty_descOf_123, ty_szOf_9, ty_shapeT_9, keep_218_2, hlt, hget, Int.natCast_nonneg, hm, hg, ho, ends_some, Nat.add_zero, ren_pvs, live_pvs]
theorem IndexS_den {g : Nat} (hg : K.good g = true) (ho : K.ownRet g = false) {p : List UInt8 → Bool} {fv : CV} {xs : List AV} {kb : Option (List CV)} {kl : List (List CV)} (hc : Clo g fv xs kb kl) (l : List (List UInt8)) (hl : l.length ≤ 1000000000)
    (hp : ∀ x, x ∈ l → den K g (T x :: xs) kl = some (.ret (B (p x)) kl)) :
    den K 218 [L (encT l), .c fv] kl = some (.ret (I (ixI (l.findIdx? p))) kl) := by
  have hr : Tryz.f218.results = #[.tmp 4] := rfl
  have h := ixs_loop hg ho hc l hl hp l 0 rfl (Nat.zero_le _)
  unfold ixslp at h
  conv at h in loopAt _ _ => whnf
  obtain ⟨o, S', w, hb, hq⟩ := h
  have z0 : ((0 : Nat) : Int) = 0 := rfl
  simp only [ixsH, z0] at w
  refine den_run rfl rfl Tryz.func218 rfl Tryz.ntmps218 ⟨by simp, by simp [LK]⟩ ?_
  cases hf : l.findIdx? p with
  | none =>
    rw [hf] at hq
    obtain ⟨rfl, hn⟩ := hq
    unfold ixI
    cases hc
    all_goals
      simp only [go_sem, Nat.reduceLT, reduceCtorEq, Nat.reduceEqDiff, Nat.reduceBEq, Nat.reduceAdd, ev_len_sl ty_descOf_123, encT_len]
      rw [exL_head]
      simp only [go_sem, reduceCtorEq, Nat.reduceEqDiff, keep_218_2, live_pvs]
      erw [w]
      simp only [go_sem, Nat.reduceLT, Nat.reduceBEq, hr, hn, hb, ren_pvs]
  | some j =>
    rw [hf] at hq
    obtain ⟨rfl, h4⟩ := hq
    rw [Nat.zero_add] at h4
    unfold ixI
    cases hc
    all_goals
      simp only [go_sem, Nat.reduceLT, reduceCtorEq, Nat.reduceEqDiff, Nat.reduceBEq, Nat.reduceAdd, ev_len_sl ty_descOf_123, encT_len]
      rw [exL_head]
      simp only [go_sem, reduceCtorEq, Nat.reduceEqDiff, keep_218_2, live_pvs]
      erw [w]
      simp only [go_sem, hr, h4, hb, ren_pvs]
theorem ContainsS_den {g : Nat} (hg : K.good g = true) (ho : K.ownRet g = false) {p : List UInt8 → Bool} {fv : CV} {xs : List AV} {kb : Option (List CV)} {kl : List (List CV)} (hc : Clo g fv xs kb kl) (l : List (List UInt8)) (hl : l.length ≤ 1000000000)
    (hp : ∀ x, x ∈ l → den K g (T x :: xs) kl = some (.ret (B (p x)) kl)) :
    den K 178 [L (encT l), .c fv] kl = some (.ret (B (l.any p)) kl) := by
  have hr : Tryz.f178.results = #[.tmp 4] := rfl
  have h := IndexS_den hg ho hc l hl hp
  rw [← ix_any]
  refine den_run rfl rfl Tryz.func178 rfl Tryz.ntmps178 ⟨by simp, by simp [LK]⟩ ?_
  cases hc
  all_goals simp only [go_sem, Nat.reduceLT, reduceCtorEq, Nat.reduceEqDiff, Nat.reduceBEq, Nat.reduceAdd, good_218, hr, h, ren_pvs, capsTo]
end Go.Abs
namespace Go.Abs
open Go Go.Proofs
set_option maxRecDepth 10000
attribute [local go_sem] exL_seq exL_region exL_cond exL_block exL_scope exL_ret exL_skip exL_exit runRegion runOps stepOp guardA absOp takeOver opd avOf cvOf St.degAt St.put okPV okVal okAV absBin intBin strBin boolBin setBoxes if_true Bool.false_eq_true if_false Option.map_some Option.map_none Option.bind_some Option.bind_none thenO outOf upd List.toList_toArray isOwn steal appArgs mvB inApps AV.deg CV.deg AV.gv AV.isIter absNext some_bne some_beqN List.length_nil List.length_cons List.filterMap_cons List.filterMap_nil beq_iff_eq List.getElem?_cons_zero List.getElem?_cons_succ Option.getD_some K_hook hookB Bool.false_and Bool.and_false Bool.and_self K_P K_own absCall doCall getBoxes lend back idx dedup AV.ren CV.ren TV.ren AV.ptrs CV.ptrs zipBox AV.flat CV.flat absLoad absStore cellsOfAV setAt newBox markB bldTypes absFieldAddr absField absExtract absAssert noAssert absMkIface ifcOf CV.pv? content pushHead ownT fillCells reps pvs chunks enterSt leave resOf resVars resVar outBoxes lentOnly TV.deg TV.av LK CV.plain CV.noBld nilBin absUn bound List.map_cons List.map_nil List.all_cons List.all_nil List.any_cons List.any_nil List.contains_cons List.contains_nil List.elem_cons List.elem_nil List.cons_append List.nil_append List.append_nil List.flatMap_cons List.flatMap_nil List.zip_cons_cons List.zip_nil_left List.zip_nil_right List.take_succ_cons List.take_zero List.take_nil List.drop_succ_cons List.drop_zero List.drop_nil List.isEmpty_nil List.isEmpty_cons Bool.and_true Bool.true_and Bool.or_true Bool.true_or Bool.or_false Bool.false_or Bool.not_true Bool.not_false Nat.add_zero Nat.zero_add Option.isNone_none Option.isNone_some Option.getD_none true_and and_true not_true_eq_false not_false_eq_true decide_true decide_false Nat.le_refl and_self Bool.not_eq_true Nat.sub_self or_true true_or Option.some.injEq List.length_map List.nil_eq and_false false_and AV.live CV.live CV.liveIn K_keep firstReg Option.orElse_some Option.orElse_none head keepSlots keepBoxes Int.lt_irrefl List.length_append ite_self memOK logOps opKey lentBoxes Key.clash Key.sees Key.writes Nat.lt_irrefl gt_iff_lt nobox_at bot_at false_or or_false beq_self_eq_true Bool.true_beq Bool.false_beq
theorem smallD_den (s : List UInt8) (h : s.length < 1000000000) : den K 171 [T s] [] = some (.ret (T (Sl.low s)) []) := by
  have e : Sl.low s = s.map lowB := by unfold Sl.low; exact List.map_congr_left fun c _ => (low_byte c).symm
  rw [e]
  exact prim_run (F := pSmall) rfl (by unfold pSmall; simp only; rw [if_pos (by unfold strLim; omega)])
theorem customB_pre (s : List UInt8) : Lib.hasPrefix s [45, 45] = Sl.customB s := by
  cases s with
  | nil => rfl
  | cons a r => cases r with
    | nil => simp [Sl.customB, Lib.hasPrefix, List.isPrefixOf]
    | cons b r => simp [Sl.customB, Lib.hasPrefix, List.isPrefixOf, Bool.beq_comm (a := a), Bool.beq_comm (a := b)]
theorem Custom_den (s : List UInt8) : den K 26 [T s] [] = some (.ret (B (Sl.customB s)) []) := by
  refine den_run rfl rfl Tryz.func26 rfl Tryz.ntmps26 ⟨by simp, by simp [LK]⟩ ?_
  have hr : Tryz.f26.results = #[.tmp 2] := rfl
  have hp := hasPrefix_den s [45, 45]
  rw [customB_pre] at hp
  simp only [go_sem, Nat.reduceLT, reduceCtorEq, Nat.reduceEqDiff, Nat.reduceBEq, Nat.reduceAdd, good_67, hr, hp]
theorem proper_den (s : List UInt8) (h : s.length < 1000000000) : den K 106 [T s] [] = some (.ret (T (Sl.proper s)) []) := by
  refine den_run rfl rfl Tryz.func106 rfl Tryz.ntmps106 ⟨by simp, by simp [LK]⟩ ?_
  have hr : Tryz.f106.results = #[.tmp 2] := rfl
  have hc := Custom_den s
  have hs := smallD_den s h
  unfold Sl.proper
  cases e : Sl.customB s
  · rw [e] at hc
    simp only [go_sem, Nat.reduceLT, reduceCtorEq, Nat.reduceEqDiff, Nat.reduceBEq, Nat.reduceAdd, good_26, good_171, hr, hc, hs]
  · rw [e] at hc
    simp only [go_sem, Nat.reduceLT, reduceCtorEq, Nat.reduceEqDiff, Nat.reduceBEq, Nat.reduceAdd, good_26, hr, hc]
theorem signD_den (s : List UInt8) : den K 57 [T s] [] = some (.ret (.agg [.pv (.int .i64 7), .pv (.str s), .pv (.int .i64 0)]) []) := by
  refine den_run rfl rfl Tryz.func57 rfl Tryz.ntmps57 ⟨by simp, by simp [LK]⟩ ?_
  have hr : Tryz.f57.results = #[.cell 2 47] := rfl
  simp only [go_sem, Nat.reduceLT, reduceCtorEq, Nat.reduceEqDiff, Nat.reduceBEq, Nat.reduceAdd, Nat.reduceSub, Nat.reduceLeDiff, ty_shapeT_47, ty_zeroCells_47, ev_build ty_zeroCells_47 ty_placesOf_47, ty_szOf_47, hr]
theorem namedD_den (k : Int) (t : Tok) (l : List Val) : den K 105 [.agg (valCv k t l)] [] = some (.ret (B (Sl.isNamed (.mk k t l))) []) := by
  refine den_run rfl rfl Tryz.func105 rfl Tryz.ntmps105 ⟨by simp, by simp [LK]⟩ ?_
  have hr : Tryz.f105.results = #[.tmp 2] := rfl
  have hs : Sl.isNamed (.mk k t l) = ((k == 1) && (t.kind == 1)) := rfl
  rw [hs]
  cases e1 : (k == 1)
  · simp only [go_sem, Nat.reduceLT, Nat.reduceEqDiff, Nat.reduceBEq, Nat.reduceAdd, Nat.reduceSub, Nat.reduceLeDiff, ty_fieldOff_49_0, ty_szOf_3, ty_shapeT_3, hr, e1]
  · simp only [go_sem, Nat.reduceLT, Nat.reduceEqDiff, Nat.reduceBEq, Nat.reduceAdd, Nat.reduceSub, Nat.reduceLeDiff, ty_fieldOff_49_0, ty_szOf_3, ty_shapeT_3, ty_fieldOff_49_1, ty_szOf_47, ty_fieldOff_47_0, hr, e1]
theorem isD_den (k : Int) (t : Tok) (l : List Val) (s : List UInt8) : den K 107 [.agg (valCv k t l), .agg [.pv (.int .i64 7), .pv (.str s), .pv (.int .i64 0)]] [] = some (.ret (B (Sl.isSign s (.mk k t l))) []) := by
  refine den_run rfl rfl Tryz.func107 rfl Tryz.ntmps107 ⟨by simp, by simp [LK]⟩ ?_
  have hr : Tryz.f107.results = #[.tmp 4] := rfl
  have hs : Sl.isSign s (.mk k t l) = ((k == 1) && decide (t = ⟨7, s, 0⟩)) := rfl
  rw [hs]
  have heq := tok_eq t.kind 7 t.n 0 t.text s
  rw [tok_beq t ⟨7, s, 0⟩] at heq
  cases e1 : (k == 1)
  · simp only [go_sem, Nat.reduceLT, Nat.reduceEqDiff, Nat.reduceBEq, Nat.reduceAdd, Nat.reduceSub, Nat.reduceLeDiff, ty_fieldOff_49_0, ty_szOf_3, ty_shapeT_3, hr, e1]
  · simp only [go_sem, Nat.reduceLT, Nat.reduceEqDiff, Nat.reduceBEq, Nat.reduceAdd, Nat.reduceSub, Nat.reduceLeDiff, ty_fieldOff_49_0, ty_szOf_3, ty_shapeT_3, ty_fieldOff_49_1, ty_szOf_47, ty_shapeT_47, hr, e1, heq]
theorem has11_den (k : Int) (t : Tok) (l : List Val) (s : List UInt8) : den K 179 [T s, P0] [[.pv (.int .i64 k), .pv (.int .i64 t.kind), .pv (.str t.text), .pv (.int .i64 t.n), .pv (.sl (encL l))]] =
    some (.ret (B (Sl.isSign s (.mk k t l))) [[.pv (.int .i64 k), .pv (.int .i64 t.kind), .pv (.str t.text), .pv (.int .i64 t.n), .pv (.sl (encL l))]]) := by
  refine den_run rfl rfl Tryz.func179 rfl Tryz.ntmps179 ⟨by simp, by simp [LK]⟩ ?_
  have hr : Tryz.f179.results = #[.tmp 3] := rfl
  have h1 := signD_den s
  have h2 := isD_den k t l s
  simp only [go_sem, Nat.reduceLT, reduceCtorEq, Nat.reduceEqDiff, Nat.reduceBEq, Nat.reduceAdd, ty_shapeT_49, good_57, good_107, hr, h1, h2]
theorem has1_den (k : Int) (t : Tok) (l : List Val) (ss : List (List UInt8)) (hs : ss.length ≤ 1000) : den K 177 [.agg (valCv k t l), P0] [[.pv (.sl (encT ss))]] =
    some (.ret (B (ss.any fun s => Sl.isSign s (.mk k t l))) [[.pv (.sl (encT ss))]]) := by
  refine den_run rfl rfl Tryz.func177 rfl Tryz.ntmps177 ⟨by simp, by simp [LK]⟩ ?_
  have hr : Tryz.f177.results = #[.tmp 3] := rfl
  have h := ContainsS_den (g := 179) good_179 rfl (p := fun s => Sl.isSign s (.mk k t l)) (Clo.one [.int .i64 k, .int .i64 t.kind, .str t.text, .int .i64 t.n, .sl (encL l)]) ss (by omega) fun s _ => has11_den k t l s
  simp only [List.map_cons, List.map_nil] at h
  simp only [go_sem, Nat.reduceLT, Nat.reduceEqDiff, Nat.reduceBEq, Nat.reduceAdd, Nat.reduceSub, Nat.reduceLeDiff, ty_shapeT_123, good_178, hr, h, capsTo, locs, arr_nil]
theorem has_den (l : List Val) (ss : List (List UInt8)) (hl : l.length ≤ 1000000000) (hs : ss.length ≤ 1000) : den K 114 [L (encL l), L (encT ss)] [] = some (.ret (B (l.any fun v => ss.any fun s => Sl.isSign s v)) []) := by
  refine den_run rfl rfl Tryz.func114 rfl Tryz.ntmps114 ⟨by simp, by simp [LK]⟩ ?_
  have hr : Tryz.f114.results = #[.tmp 4] := rfl
  have h := ContainsV_den (g := 177) good_177 rfl (p := fun v => ss.any fun s => Sl.isSign s v) (Clo.one [.sl (encT ss)]) l hl fun k t c _ => has1_den k t c ss hs
  simp only [List.map_cons, List.map_nil] at h
  simp only [go_sem, Nat.reduceLT, reduceCtorEq, Nat.reduceEqDiff, Nat.reduceBEq, Nat.reduceAdd, Nat.reduceSub, Nat.reduceLeDiff, good_176, hr, h, capsTo, locs, arr_nil]
theorem hasOne_den (l : List Val) (c : UInt8) (hl : l.length ≤ 1000000000) : den K 114 [L (encL l), L [[.str [c]]]] [] = some (.ret (B (Sl.hasSign [c] l)) []) := by
  have h := has_den l [[c]] hl (by simp)
  have e : (l.any fun v => [[c]].any fun s => Sl.isSign s v) = Sl.hasSign [c] l := by
    unfold Sl.hasSign
    congr 1
    funext v
    simp
  rw [e] at h
  exact h
end Go.Abs
namespace Go.Abs
def Dcl.enc (d : Dcl) : List PV := [.str d.name, .sl (encL d.l), .bool d.imp]
def encD (ds : List Dcl) : List (List PV) := ds.map Dcl.enc
theorem encD_len (ds : List Dcl) : (encD ds).length = ds.length := List.length_map ..
theorem dcl_at (ds : List Dcl) (i : Nat) (d : Dcl) (h : ds[i]? = some d) : (encD ds)[(i : Int).toNat]? = some [.str d.name, .sl (encL d.l), .bool d.imp] := by
  rw [Int.toNat_natCast, encD, List.getElem?_map, h]; rfl
theorem lens_dcl (ds : List Dcl) : lens 3 (encD ds) = true := by
  simp only [encD, lens, List.all_map, List.all_eq_true, Function.comp_apply, beq_iff_eq]
  intro d _
  rfl
theorem lens_dcl1 (a b c : PV) : lens 3 [[a, b, c]] = true := rfl
theorem snoc_dcl (a : List Dcl) (d : Dcl) : encD a ++ [[PV.str d.name, .sl (encL d.l), .bool d.imp]] = encD (a ++ [d]) := by
  simp [encD, Dcl.enc]
theorem app_dcl (a b : List Dcl) : encD a ++ encD b = encD (a ++ b) := by simp [encD]
end Go.Abs
namespace Go.Abs
open Go Go.Proofs
set_option maxRecDepth 10000
attribute [local go_sem] exL_seq exL_region exL_cond exL_block exL_scope exL_ret exL_skip exL_exit runRegion runOps stepOp guardA absOp takeOver opd avOf cvOf St.degAt St.put okPV okVal okAV absBin intBin strBin boolBin setBoxes if_true Bool.false_eq_true if_false Option.map_some Option.map_none Option.bind_some Option.bind_none thenO outOf upd List.toList_toArray isOwn steal appArgs mvB inApps AV.deg CV.deg AV.gv AV.isIter absNext some_bne some_beqN List.length_nil List.length_cons List.filterMap_cons List.filterMap_nil beq_iff_eq List.getElem?_cons_zero List.getElem?_cons_succ Option.getD_some K_hook hookB Bool.false_and Bool.and_false Bool.and_self K_P K_own absCall doCall getBoxes lend back idx dedup AV.ren CV.ren TV.ren AV.ptrs CV.ptrs zipBox AV.flat CV.flat absLoad absStore cellsOfAV setAt newBox markB bldTypes absFieldAddr absField absExtract absAssert noAssert absMkIface ifcOf CV.pv? content pushHead ownT fillCells reps pvs chunks enterSt leave resOf resVars resVar outBoxes lentOnly TV.deg TV.av LK CV.plain CV.noBld nilBin absUn bound List.map_cons List.map_nil List.all_cons List.all_nil List.any_cons List.any_nil List.contains_cons List.contains_nil List.elem_cons List.elem_nil List.cons_append List.nil_append List.append_nil List.flatMap_cons List.flatMap_nil List.zip_cons_cons List.zip_nil_left List.zip_nil_right List.take_succ_cons List.take_zero List.take_nil List.drop_succ_cons List.drop_zero List.drop_nil List.isEmpty_nil List.isEmpty_cons Bool.and_true Bool.true_and Bool.or_true Bool.true_or Bool.or_false Bool.false_or Bool.not_true Bool.not_false Nat.add_zero Nat.zero_add Option.isNone_none Option.isNone_some Option.getD_none true_and and_true not_true_eq_false not_false_eq_true decide_true decide_false Nat.le_refl and_self Bool.not_eq_true Nat.sub_self or_true true_or Option.some.injEq List.length_map List.nil_eq and_false false_and AV.live CV.live CV.liveIn K_keep firstReg Option.orElse_some Option.orElse_none head keepSlots keepBoxes Int.lt_irrefl List.length_append ite_self memOK logOps opKey lentBoxes Key.clash Key.sees Key.writes Nat.lt_irrefl gt_iff_lt nobox_at bot_at false_or or_false beq_self_eq_true Bool.true_beq Bool.false_beq
theorem max_two (a b : Int) : absMax [I a, I b] = some (.int .i64 (max a b)) := by
  simp only [absMax, allInts, if_true, Option.map_some, List.foldl_cons, List.foldl_nil]
  rw [Int.max_def]
  congr 2
  split <;> split <;> omega
def DepthDen (l : List Val) : Prop := Ne.size l ≤ 1000000 → den K 172 [L (encL l)] [] = some (.ret (I (Ne.depth l)) [])
abbrev depthH (l : List Val) (i : Nat) (n : Nat) : St := { sl := upd (upd (upd (upd bot 8 (I i)) 7 (I l.length)) 6 (L (encL l))) 3 (I n), bx := nobox, nt := 28 }
theorem max_nat (a b : Nat) : max (a : Int) (b : Int) = ((max a b : Nat) : Int) := by omega
theorem depth_loop (l : List Val) (hl : l.length ≤ 1000000) (hin : ∀ k t l', Val.mk k t l' ∈ l → den K 172 [L (encL l')] [] = some (.ret (I (Ne.depth l')) []) ∧ Ne.depth l' ≤ 1000000) : ∀ (rest : List Val) (i n : Nat), l.drop i = rest → i ≤ l.length →
    Ends (exL K 172 (.loop (loopAt Tryz.f172 3)) (depthH l i n)) fun o S => o = .exit 0 ∧ S.nt = 28 ∧ S.sl 3 = I (max n (Ne.depth rest) : Nat)
  | [], i, n, hd, hi => by
    have hin : i = l.length := by
      have := List.drop_eq_nil_iff.1 hd
      omega
    subst hin
    have hv : max n (Ne.depth []) = n := by rw [Ne.depth]; omega
    rw [hv]
    conv in loopAt _ _ => whnf
    rw [exL_loop]
    simp only [go_sem, Nat.reduceLT, Nat.reduceEqDiff, Nat.reduceBEq, keep_172_3, ends_some]
  | .mk k t l' :: rest, i, n, hd, hi => by
    obtain ⟨g1, g2, g3⟩ := drop_cons hd
    have hmem : Val.mk k t l' ∈ l := List.mem_of_getElem? g1
    obtain ⟨hf, hb⟩ := hin k t l' hmem
    have hlt : decide ((i : Int) < (l.length : Int)) = true := decide_eq_true (by omega)
    have hget := val_at l i k t l' g1
    have hw : IntKind.i64.wrap ((i : Int) + 1) = ((i + 1 : Nat) : Int) := wrap_nat i (by omega)
    have hw2 : IntKind.i64.wrap (1 + (Ne.depth l' : Int)) = ((Ne.depth l' + 1 : Nat) : Int) := by rw [IntWalk.i64_in _ (by omega)]; omega
    conv in loopAt _ _ => whnf
    rw [exL_loop]
    by_cases hk : 2 ≤ k ∧ k ≤ 5
    · have e1 : decide (2 ≤ k) = true := decide_eq_true hk.1
      have e2 : decide (k ≤ 5) = true := decide_eq_true hk.2
      have hv : max n (Ne.depth (.mk k t l' :: rest)) = max (max n (Ne.depth l' + 1)) (Ne.depth rest) := by rw [Ne.depth, Ne.depthV, if_pos hk]; omega
      rw [hv]
      have ih := depth_loop l hl hin rest (i + 1) (max n (Ne.depth l' + 1)) g2 (by omega)
      conv at ih in loopAt _ _ => whnf
      simp only [go_sem, Nat.reduceLT, Nat.reduceEqDiff, Nat.reduceBEq, Nat.reduceAdd, ev_indexAddr ty_descOf_22, ty_szOf_49, ty_shapeT_49, ty_zeroCells_49, ty_fieldOff_49_0, ty_szOf_3, ty_shapeT_3, ty_fieldOff_49_2, ty_szOf_22, ty_shapeT_22, good_172, keep_172_3, hlt, hget, Int.natCast_nonneg, e1, e2, hf, hw, hw2, max_two, max_nat]
      rw [exL_head]
      simp only [go_sem, Nat.reduceEqDiff, keep_172_3]
      exact ih
    · have hv : max n (Ne.depth (.mk k t l' :: rest)) = max n (Ne.depth rest) := by rw [Ne.depth, Ne.depthV, if_neg hk]; omega
      rw [hv]
      have ih := depth_loop l hl hin rest (i + 1) n g2 (by omega)
      conv at ih in loopAt _ _ => whnf
      cases e1 : decide (2 ≤ k)
      · simp only [go_sem, Nat.reduceLT, Nat.reduceEqDiff, Nat.reduceBEq, Nat.reduceAdd, ev_indexAddr ty_descOf_22, ty_szOf_49, ty_shapeT_49, ty_zeroCells_49, ty_fieldOff_49_0, ty_szOf_3, ty_shapeT_3, ty_fieldOff_49_2, ty_szOf_22, ty_shapeT_22, good_172, keep_172_3, hlt, hget, Int.natCast_nonneg, e1, hw]
        rw [exL_head]
        simp only [go_sem, Nat.reduceEqDiff, keep_172_3]
        exact ih
      · have e2 : decide (k ≤ 5) = false := decide_eq_false (fun h => hk ⟨of_decide_eq_true e1, h⟩)
        simp only [go_sem, Nat.reduceLT, Nat.reduceEqDiff, Nat.reduceBEq, Nat.reduceAdd, ev_indexAddr ty_descOf_22, ty_szOf_49, ty_shapeT_49, ty_zeroCells_49, ty_fieldOff_49_0, ty_szOf_3, ty_shapeT_3, ty_fieldOff_49_2, ty_szOf_22, ty_shapeT_22, good_172, keep_172_3, hlt, hget, Int.natCast_nonneg, e1, e2, hw]
        rw [exL_head]
        simp only [go_sem, Nat.reduceEqDiff, keep_172_3]
        exact ih
theorem Depth_den (l : List Val) : DepthDen l := by
  refine ind_list (fun l hin hs => ?_) l
  have hl : l.length ≤ 1000000 := Nat.le_trans (Ne.length_size l) hs
  have hloop := depth_loop l hl (fun k t l' hm => by
    have := size_mem hm
    exact ⟨hin k t l' hm (by omega), Nat.le_trans (Ne.depth_size l') (by omega)⟩) l 0 0 rfl (by omega)
  conv at hloop in loopAt _ _ => whnf
  obtain ⟨o, S', w, rfl, hn, h3⟩ := hloop
  have hv : max 0 (Ne.depth l) = Ne.depth l := by omega
  rw [hv] at h3
  refine den_run rfl rfl Tryz.func172 rfl Tryz.ntmps172 ⟨by simp, by simp [LK]⟩ ?_
  have hr : Tryz.f172.results = #[.tmp 2] := rfl
  simp only [go_sem, Nat.reduceLT, reduceCtorEq, Nat.reduceEqDiff, Nat.reduceBEq, Nat.reduceAdd, ev_len_sl ty_descOf_22, encL_len]
  rw [exL_head]
  simp only [go_sem, Nat.reduceEqDiff, keep_172_3]
  erw [w]
  simp only [go_sem, Nat.reduceLT, Nat.reduceEqDiff, Nat.reduceBEq, Nat.reduceAdd, hr, hn, h3]
end Go.Abs
namespace Go.Abs
namespace Sl
theorem fr_suffix {l p r : List Val} (h : Fr l.reverse) (e : l = p ++ r) : Fr r.reverse := by
  subst e
  rw [List.reverse_append] at h
  exact h.pre rfl
end Sl
end Go.Abs
namespace Go.Abs
open Go Go.Proofs
set_option maxRecDepth 10000
attribute [local go_sem] exL_seq exL_region exL_cond exL_block exL_scope exL_ret exL_skip exL_exit runRegion runOps stepOp guardA absOp takeOver opd avOf cvOf St.degAt St.put okPV okVal okAV absBin intBin strBin boolBin setBoxes if_true Bool.false_eq_true if_false Option.map_some Option.map_none Option.bind_some Option.bind_none thenO outOf upd List.toList_toArray isOwn steal appArgs mvB inApps AV.deg CV.deg AV.gv AV.isIter absNext some_bne some_beqN List.length_nil List.length_cons List.filterMap_cons List.filterMap_nil beq_iff_eq List.getElem?_cons_zero List.getElem?_cons_succ Option.getD_some K_hook hookB Bool.false_and Bool.and_false Bool.and_self K_P K_own absCall doCall getBoxes lend back idx dedup AV.ren CV.ren TV.ren AV.ptrs CV.ptrs zipBox AV.flat CV.flat absLoad absStore cellsOfAV setAt newBox markB bldTypes absFieldAddr absField absExtract absAssert noAssert absMkIface ifcOf CV.pv? content pushHead ownT fillCells reps pvs chunks enterSt leave resOf resVars resVar outBoxes lentOnly TV.deg TV.av LK CV.plain CV.noBld nilBin absUn bound List.map_cons List.map_nil List.all_cons List.all_nil List.any_cons List.any_nil List.contains_cons List.contains_nil List.elem_cons List.elem_nil List.cons_append List.nil_append List.append_nil List.flatMap_cons List.flatMap_nil List.zip_cons_cons List.zip_nil_left List.zip_nil_right List.take_succ_cons List.take_zero List.take_nil List.drop_succ_cons List.drop_zero List.drop_nil List.isEmpty_nil List.isEmpty_cons Bool.and_true Bool.true_and Bool.or_true Bool.true_or Bool.or_false Bool.false_or Bool.not_true Bool.not_false Nat.add_zero Nat.zero_add Option.isNone_none Option.isNone_some Option.getD_none true_and and_true not_true_eq_false not_false_eq_true decide_true decide_false Nat.le_refl and_self Bool.not_eq_true Nat.sub_self or_true true_or Option.some.injEq List.length_map List.nil_eq and_false false_and AV.live CV.live CV.liveIn K_keep firstReg Option.orElse_some Option.orElse_none head keepSlots keepBoxes Int.lt_irrefl List.length_append ite_self memOK logOps opKey lentBoxes Key.clash Key.sees Key.writes Nat.lt_irrefl gt_iff_lt nobox_at bot_at false_or or_false beq_self_eq_true Bool.true_beq Bool.false_beq
def TxtOk (l : List Val) : Prop := ∀ v ∈ l, Sl.isNamed v = true → (Sl.nameT v).length < 1000000000
theorem TxtOk.sub {l m : List Val} (h : TxtOk l) (hs : ∀ v ∈ m, v ∈ l) : TxtOk m := fun v hv => h v (hs v hv)
def strA (l : List Val) : AV := match Sl.strongP l with
  | some y => .tup [.c (.pv (.sl (encL y))), .c (.pv (.bool true))]
  | none => .tup [.c (.pv (.sl (encL l))), .c (.pv (.bool false))]
theorem snoc_cases (l : List Val) : l = [] ∨ ∃ m v, l = m ++ [v] := by
  by_cases h : l = []
  · exact .inl h
  · exact .inr ⟨l.dropLast, l.getLast h, (List.dropLast_concat_getLast h).symm⟩
set_option maxHeartbeats 4000000 in
theorem strong_den (l : List Val) (hl : l.length ≤ 100000000) (ht : TxtOk l) : den K 108 [L (encL l)] [] = some (.ret (strA l) []) := by
  have hr : Tryz.f108.results = #[.tmp 2, .tmp 3] := rfl
  rcases snoc_cases l with rfl | ⟨m, v, rfl⟩
  · have e : strA [] = .tup [.c (.pv (.sl (encL []))), .c (.pv (.bool false))] := rfl
    have w0 : IntKind.i64.wrap (((0 : Nat) : Int) - 1) = -1 := by decide
    have d0 : decide ((-1 : Int) < 0) = true := rfl
    rw [e]
    refine den_run rfl rfl Tryz.func108 rfl Tryz.ntmps108 ⟨by simp, by simp [LK]⟩ ?_
    simp only [go_sem, Nat.reduceLT, reduceCtorEq, Nat.reduceEqDiff, Nat.reduceBEq, Nat.reduceAdd, ev_len_sl ty_descOf_22, hr, encL_len, List.length_nil, w0, d0]
  · obtain ⟨k, t, c⟩ := v
    have hn : (encL (m ++ [.mk k t c])).length = m.length + 1 := by rw [encL_len]; simp
    rw [List.length_append, List.length_singleton] at hl
    have hw : IntKind.i64.wrap (((m.length + 1 : Nat) : Int) - 1) = (m.length : Int) := by rw [IntWalk.i64_in _ (by omega)]; omega
    have hlt : decide ((m.length : Int) < 0) = false := decide_eq_false (by omega)
    have hget := last_val m k t c
    rw [Int.toNat_natCast] at hget
    have hcut := cut_last m (.mk k t c)
    have hb1 : ((m.length : Int) ≤ ((m.length + 1 : Nat) : Int)) = True := by rw [eq_iff_iff]; simp; omega
    have hlv := lens_valsK (m ++ [.mk k t c])
    have hd := namedD_den k t c
    have hT := TrimS_den m (by omega)
    have eS : Sl.strongP (m ++ [.mk k t c]) = if Sl.isNamed (.mk k t c) && Sl.low t.text == Sl.importantT then (match (Sl.trim m).reverse with
        | w :: r2 => if Sl.isSign [33] w then some (Sl.trim r2.reverse) else none
        | [] => none) else none := by
      unfold Sl.strongP
      rw [List.reverse_append, List.reverse_singleton, List.singleton_append]
      simp only [List.reverse_reverse]
      rfl
    unfold strA
    rw [eS]
    cases e1 : Sl.isNamed (.mk k t c)
    · rw [e1] at hd
      refine den_run rfl rfl Tryz.func108 rfl Tryz.ntmps108 ⟨by simp, by simp [LK]⟩ ?_
      simp only [go_sem, Nat.reduceLT, reduceCtorEq, Nat.reduceEqDiff, Nat.reduceBEq, Nat.reduceAdd, ev_len_sl ty_descOf_22, ev_indexAddr ty_descOf_22, ty_szOf_49, ty_shapeT_49, good_105, hr, hn, hw, hlt, hd, hget, Int.natCast_nonneg, Int.toNat_natCast]
    rw [e1] at hd
    have hsm := smallD_den t.text (ht (.mk k t c) (by simp) e1)
    cases e2 : (Sl.low t.text == Sl.importantT)
    · have hne : (Sl.low t.text != [105, 109, 112, 111, 114, 116, 97, 110, 116]) = true := by
        unfold Sl.importantT at e2
        rw [bne, e2]; rfl
      refine den_run rfl rfl Tryz.func108 rfl Tryz.ntmps108 ⟨by simp, by simp [LK]⟩ ?_
      simp only [go_sem, Nat.reduceLT, reduceCtorEq, Nat.reduceEqDiff, Nat.reduceBEq, Nat.reduceAdd, ev_len_sl ty_descOf_22, ev_indexAddr ty_descOf_22, ty_szOf_49, ty_shapeT_49, good_105, ty_fieldOff_49_1, ty_szOf_47, ty_fieldOff_47_1, ty_szOf_9, ty_shapeT_9, good_171, hr, hn, hw, hlt, hd, hget, Int.natCast_nonneg, Int.toNat_natCast, hsm, hne]
    have hne : (Sl.low t.text != [105, 109, 112, 111, 114, 116, 97, 110, 116]) = false := by
      unfold Sl.importantT at e2
      rw [bne, e2]; rfl
    have htl := Sl.trim_len m
    rcases snoc_cases (Sl.trim m) with e3 | ⟨b, w, e3⟩
    · rw [e3] at hT ⊢
      have w0 : IntKind.i64.wrap (((0 : Nat) : Int) - 1) = -1 := by decide
      have d0 : decide ((-1 : Int) < 0) = true := rfl
      refine den_run rfl rfl Tryz.func108 rfl Tryz.ntmps108 ⟨by simp, by simp [LK]⟩ ?_
      simp only [go_sem, Nat.reduceLT, reduceCtorEq, Nat.reduceEqDiff, Nat.reduceBEq, Nat.reduceAdd, ev_len_sl ty_descOf_22, ev_indexAddr ty_descOf_22, ty_szOf_49, ty_shapeT_49, good_105, ty_fieldOff_49_1, ty_szOf_47, ty_fieldOff_47_1, ty_szOf_9, ty_shapeT_9, good_171, ev_slice_sl ty_descOf_22 ty_szOf_49, good_104, hr, hn, hw, hlt, hd, hget, Int.natCast_nonneg, Int.toNat_natCast, hsm, hne, hb1, hlv, hcut, hT, encL_len, List.length_nil, w0, d0, List.reverse_nil]
    · obtain ⟨k2, t2, c2⟩ := w
      rw [e3] at hT htl ⊢
      rw [List.length_append, List.length_singleton] at htl
      have hn2 : (encL (b ++ [.mk k2 t2 c2])).length = b.length + 1 := by rw [encL_len]; simp
      have hw2 : IntKind.i64.wrap (((b.length + 1 : Nat) : Int) - 1) = (b.length : Int) := by rw [IntWalk.i64_in _ (by omega)]; omega
      have hlt2 : decide ((b.length : Int) < 0) = false := decide_eq_false (by omega)
      have hget2 := last_val b k2 t2 c2
      rw [Int.toNat_natCast] at hget2
      have hcut2 := cut_last b (.mk k2 t2 c2)
      have hb2 : ((b.length : Int) ≤ ((b.length + 1 : Nat) : Int)) = True := by rw [eq_iff_iff]; simp; omega
      have hlv2 := lens_valsK (b ++ [.mk k2 t2 c2])
      have hsg := signD_den [33]
      have his := isD_den k2 t2 c2 [33]
      have hT2 := TrimS_den b (by omega)
      rw [List.reverse_append, List.reverse_singleton, List.singleton_append]
      simp only [List.reverse_reverse]
      cases e4 : Sl.isSign [33] (.mk k2 t2 c2)
      · rw [e4] at his
        refine den_run rfl rfl Tryz.func108 rfl Tryz.ntmps108 ⟨by simp, by simp [LK]⟩ ?_
        simp only [go_sem, Nat.reduceLT, reduceCtorEq, Nat.reduceEqDiff, Nat.reduceBEq, Nat.reduceAdd, ev_len_sl ty_descOf_22, ev_indexAddr ty_descOf_22, ty_szOf_49, ty_shapeT_49, good_105, ty_fieldOff_49_1, ty_szOf_47, ty_fieldOff_47_1, ty_szOf_9, ty_shapeT_9, good_171, ev_slice_sl ty_descOf_22 ty_szOf_49, good_104, good_57, good_107, hr, hn, hw, hlt, hd, hget, Int.natCast_nonneg, Int.toNat_natCast, hsm, hne, hb1, hlv, hcut, hT, hn2, hw2, hlt2, hget2, hsg, his]
      · rw [e4] at his
        refine den_run rfl rfl Tryz.func108 rfl Tryz.ntmps108 ⟨by simp, by simp [LK]⟩ ?_
        simp only [go_sem, Nat.reduceLT, reduceCtorEq, Nat.reduceEqDiff, Nat.reduceBEq, Nat.reduceAdd, ev_len_sl ty_descOf_22, ev_indexAddr ty_descOf_22, ty_szOf_49, ty_shapeT_49, good_105, ty_fieldOff_49_1, ty_szOf_47, ty_fieldOff_47_1, ty_szOf_9, ty_shapeT_9, good_171, ev_slice_sl ty_descOf_22 ty_szOf_49, good_104, good_57, good_107, hr, hn, hw, hlt, hd, hget, Int.natCast_nonneg, Int.toNat_natCast, hsm, hne, hb1, hlv, hcut, hT, hn2, hw2, hlt2, hget2, hsg, his, hb2, hlv2, hcut2, hT2]
theorem fits_den (l : List Val) (hs : Ne.size l ≤ 1000000) : den K 109 [L (encL l)] [] = some (.ret (B (Sl.fits l)) []) := by
  have hr : Tryz.f109.results = #[.tmp 2] := rfl
  have hlen := Ne.length_size l
  have h1 := hasOne_den l 33 (by omega)
  have h2 := Depth_den l hs
  unfold Sl.fits
  cases l with
  | nil =>
    have d0 : decide ((0 : Int) < ((0 : Nat) : Int)) = false := rfl
    refine den_run rfl rfl Tryz.func109 rfl Tryz.ntmps109 ⟨by simp, by simp [LK]⟩ ?_
    simp only [go_sem, Nat.reduceLT, reduceCtorEq, Nat.reduceEqDiff, Nat.reduceBEq, Nat.reduceAdd, ev_len_sl ty_descOf_22, hr, encL_len, List.length_nil, d0]
  | cons v l =>
    have d0 : decide ((0 : Int) < ((l.length + 1 : Nat) : Int)) = true := decide_eq_true (by omega)
    have d1 : decide (((Ne.depth (v :: l) : Nat) : Int) ≤ 56) = decide (Ne.depth (v :: l) ≤ 56) := decide_eq_decide.2 (by omega)
    cases e : Sl.hasSign [33] (v :: l)
    · rw [e] at h1
      refine den_run rfl rfl Tryz.func109 rfl Tryz.ntmps109 ⟨by simp, by simp [LK]⟩ ?_
      simp only [go_sem, Nat.reduceLT, reduceCtorEq, Nat.reduceEqDiff, Nat.reduceBEq, Nat.reduceAdd, Nat.reduceMul, ev_len_sl ty_descOf_22, ev_buildSlice (len := 1) ty_descOf_123 ty_szOf_9 ty_zeroCells_9 ⟨rfl, by decide, by decide⟩, good_114, good_172, hr, encL_len, List.length_cons, d0, h1, h2, d1]
    · rw [e] at h1
      refine den_run rfl rfl Tryz.func109 rfl Tryz.ntmps109 ⟨by simp, by simp [LK]⟩ ?_
      simp only [go_sem, Nat.reduceLT, reduceCtorEq, Nat.reduceEqDiff, Nat.reduceBEq, Nat.reduceAdd, Nat.reduceMul, ev_len_sl ty_descOf_22, ev_buildSlice (len := 1) ty_descOf_123 ty_szOf_9 ty_zeroCells_9 ⟨rfl, by decide, by decide⟩, good_114, hr, encL_len, List.length_cons, d0, h1]
end Go.Abs
namespace Go.Abs
theorem cut_sizes (p : Val → Bool) : ∀ l : List Val, ∀ q ∈ Sl.cut p l, Ne.size q ≤ Ne.size l
  | [], q, hq => by
    rw [Sl.cut, List.mem_singleton] at hq
    subst hq; exact Nat.le_refl _
  | v :: l, q, hq => by
    rw [Ne.size]
    cases h : p v with
    | true =>
      rw [Sl.cut_yes h] at hq
      rcases List.mem_cons.1 hq with rfl | hq
      · rw [Ne.size]; omega
      · have := cut_sizes p l q hq
        omega
    | false =>
      obtain ⟨r, rs, e⟩ := Sl.cut_ne p l
      rw [Sl.cut_no h e] at hq
      rcases List.mem_cons.1 hq with rfl | hq
      · have := cut_sizes p l r (by rw [e]; simp)
        rw [Ne.size]; omega
      · have := cut_sizes p l q (by rw [e]; simp [hq])
        omega
theorem size_app : ∀ a b : List Val, Ne.size (a ++ b) = Ne.size a + Ne.size b
  | [], b => by rw [List.nil_append, Ne.size]; omega
  | v :: a, b => by rw [List.cons_append, Ne.size, Ne.size, size_app a b]; omega
theorem size_filter (p : Val → Bool) : ∀ l : List Val, Ne.size (l.filter p) ≤ Ne.size l
  | [] => Nat.le_refl _
  | v :: l => by
    have := size_filter p l
    rw [List.filter_cons]
    split
    · rw [Ne.size, Ne.size]; omega
    · rw [Ne.size]; omega
theorem size_dropWhile (p : Val → Bool) : ∀ l : List Val, Ne.size (l.dropWhile p) ≤ Ne.size l
  | [] => Nat.le_refl _
  | v :: l => by
    have := size_dropWhile p l
    rw [List.dropWhile_cons]
    split
    · rw [Ne.size]; omega
    · exact Nat.le_refl _
theorem size_rev : ∀ l : List Val, Ne.size l.reverse = Ne.size l
  | [] => rfl
  | v :: l => by rw [List.reverse_cons, size_app, size_rev l, Ne.size, Ne.size, Ne.size]; omega
theorem size_trim (l : List Val) : Ne.size (Sl.trim l) ≤ Ne.size l := by
  unfold Sl.trim
  rw [size_rev]
  refine Nat.le_trans (size_dropWhile _ _) ?_
  rw [size_rev]
  exact size_dropWhile _ _
end Go.Abs
namespace Go.Abs
open Go Go.Proofs
theorem at_sizes (s : List UInt8) (l : List Val) : ∀ q ∈ Sl.at_ s l, Ne.size q ≤ Ne.size l := by
  rw [← cut_at]; exact cut_sizes _ l
theorem at_length (s : List UInt8) (l : List Val) : (Sl.at_ s l).length ≤ l.length + 1 := by
  rw [← cut_at]; exact Sl.cut_length _ l
theorem joins_size (d : List UInt8) : ∀ ps : List (List Val), (Sl.joins d ps).length ≤ ps.length + Ne.size ps.flatten
  | [] => Nat.zero_le _
  | p :: ps => by
    have := joins_size d ps
    have := Ne.length_size p
    rw [Sl.joins_cons, List.length_cons, List.length_append, List.length_cons, List.flatten_cons, size_app]
    omega
theorem sizeV_sign (d : List UInt8) : Ne.sizeV (Sl.signV d) = 1 := rfl
theorem joins_vals (d : List UInt8) : ∀ ps : List (List Val), Ne.size (Sl.joins d ps) = ps.length + Ne.size ps.flatten
  | [] => rfl
  | p :: ps => by
    rw [Sl.joins_cons, Ne.size, size_app, joins_vals d ps, sizeV_sign, List.length_cons, List.flatten_cons, size_app]
    omega
theorem join_size (d : List UInt8) (ps : List (List Val)) : Ne.size (Sl.join d ps) ≤ ps.length + Ne.size ps.flatten := by
  cases ps with
  | nil => exact Nat.le_refl _
  | cons p ps =>
    rw [Sl.join, size_app, joins_vals, List.length_cons, List.flatten_cons, size_app]
    omega
end Go.Abs
