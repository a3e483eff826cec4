/-
  FACTS ON THE TYPES OF THIS PROGRAM, each by the kernel (printed by a program).
-/
import Derived.Test.YtlomcifkckgneaaGreatDoorProg
import Derived.KernelRfl
import Derived.Test.YtlomcifkckgneaaGreatDoorQa2
set_option linter.unusedSimpArgs false
set_option linter.unusedVariables false
namespace Go.Abs
open Go Go.Proofs
theorem ty_shapeT_3 : shapeT Tryz.prog 3 = Option.some Option.none := by kernel_rfl
theorem ty_szOf_3 : szOf Tryz.prog 3 = Option.some 1 := by kernel_rfl
theorem ty_zeroCells_3 : zeroCells Tryz.prog 3 = Option.some [Go.Abs.CV.pv (Go.Abs.PV.int Go.IntKind.i64 0)] := by kernel_rfl
theorem ty_descOf_3 : descOf Tryz.prog 3 = Option.some (Go.Abs.Desc.int Go.IntKind.i64) := by kernel_rfl
theorem ty_shapeT_4 : shapeT Tryz.prog 4 = Option.some Option.none := by kernel_rfl
theorem ty_szOf_4 : szOf Tryz.prog 4 = Option.some 1 := by kernel_rfl
theorem ty_isBoolT_4 : isBoolT Tryz.prog 4 = Bool.true := by kernel_rfl
theorem ty_szOf_5 : szOf Tryz.prog 5 = Option.some 1 := by kernel_rfl
theorem ty_zeroCells_5 : zeroCells Tryz.prog 5 = Option.some [Go.Abs.CV.pv (Go.Abs.PV.int Go.IntKind.u8 0)] := by kernel_rfl
theorem ty_descOf_5 : descOf Tryz.prog 5 = Option.some (Go.Abs.Desc.int Go.IntKind.u8) := by kernel_rfl
theorem ty_shapeT_9 : shapeT Tryz.prog 9 = Option.some Option.none := by kernel_rfl
theorem ty_szOf_9 : szOf Tryz.prog 9 = Option.some 1 := by kernel_rfl
theorem ty_zeroCells_9 : zeroCells Tryz.prog 9 = Option.some [Go.Abs.CV.pv (Go.Abs.PV.str [])] := by kernel_rfl
theorem ty_descOf_9 : descOf Tryz.prog 9 = Option.some Go.Abs.Desc.str := by kernel_rfl
theorem ty_descOf_21 : descOf Tryz.prog 21 = Option.some (Go.Abs.Desc.int Go.IntKind.i32) := by kernel_rfl
theorem ty_shapeT_23 : shapeT Tryz.prog 23 = Option.some Option.none := by kernel_rfl
theorem ty_szOf_23 : szOf Tryz.prog 23 = Option.some 1 := by kernel_rfl
theorem ty_appInfo_23 : appInfo Tryz.prog 23 = Option.some (93, 5) := by kernel_rfl
theorem ty_descOf_23 : descOf Tryz.prog 23 = Option.some (Go.Abs.Desc.sl 93 Bool.false) := by kernel_rfl
theorem ty_shapeT_60 : shapeT Tryz.prog 60 = Option.some Option.none := by kernel_rfl
theorem ty_szOf_60 : szOf Tryz.prog 60 = Option.some 1 := by kernel_rfl
theorem ty_appInfo_60 : appInfo Tryz.prog 60 = Option.some (91, 3) := by kernel_rfl
theorem ty_descOf_60 : descOf Tryz.prog 60 = Option.some (Go.Abs.Desc.sl 91 Bool.false) := by kernel_rfl
theorem ty_descOf_64 : descOf Tryz.prog 64 = Option.some (Go.Abs.Desc.sl 5 Bool.true) := by kernel_rfl
theorem ty_shapeT_91 : shapeT Tryz.prog 91 = Option.some (Option.some 3) := by kernel_rfl
theorem ty_szOf_91 : szOf Tryz.prog 91 = Option.some 3 := by kernel_rfl
theorem ty_zeroCells_91 : zeroCells Tryz.prog 91 = Option.some [Go.Abs.CV.pv (Go.Abs.PV.int Go.IntKind.i64 0), Go.Abs.CV.pv (Go.Abs.PV.str []), Go.Abs.CV.pv (Go.Abs.PV.int Go.IntKind.i64 0)] := by kernel_rfl
theorem ty_placesOf_91 : placesOf Tryz.prog 91 = Option.some [(0, 1), (1, 1), (2, 1)] := by kernel_rfl
theorem ty_fieldOff_91_0 : fieldOff Tryz.prog 91 0 = Option.some (0, 3) := by kernel_rfl
theorem ty_fieldOff_91_1 : fieldOff Tryz.prog 91 1 = Option.some (1, 9) := by kernel_rfl
theorem ty_fieldOff_91_2 : fieldOff Tryz.prog 91 2 = Option.some (2, 3) := by kernel_rfl
theorem ty_shapeT_93 : shapeT Tryz.prog 93 = Option.some (Option.some 5) := by kernel_rfl
theorem ty_szOf_93 : szOf Tryz.prog 93 = Option.some 5 := by kernel_rfl
theorem ty_zeroCells_93 : zeroCells Tryz.prog 93 = Option.some [Go.Abs.CV.pv (Go.Abs.PV.int Go.IntKind.i64 0), Go.Abs.CV.pv (Go.Abs.PV.int Go.IntKind.i64 0), Go.Abs.CV.pv (Go.Abs.PV.str []), Go.Abs.CV.pv (Go.Abs.PV.int Go.IntKind.i64 0), Go.Abs.CV.nils] := by kernel_rfl
theorem ty_placesOf_93 : placesOf Tryz.prog 93 = Option.some [(0, 1), (1, 3), (4, 1)] := by kernel_rfl
theorem ty_fieldOff_93_0 : fieldOff Tryz.prog 93 0 = Option.some (0, 3) := by kernel_rfl
theorem ty_fieldOff_93_1 : fieldOff Tryz.prog 93 1 = Option.some (1, 91) := by kernel_rfl
theorem ty_descOf_97 : descOf Tryz.prog 97 = Option.some (Go.Abs.Desc.sl 9 Bool.false) := by kernel_rfl
theorem ty_shapeT_102 : shapeT Tryz.prog 102 = Option.some (Option.some 3) := by kernel_rfl
theorem ty_szOf_102 : szOf Tryz.prog 102 = Option.some 3 := by kernel_rfl
theorem ty_zeroCells_102 : zeroCells Tryz.prog 102 = Option.some [Go.Abs.CV.nils, Go.Abs.CV.pv (Go.Abs.PV.int Go.IntKind.i64 0), Go.Abs.CV.pv (Go.Abs.PV.bool Bool.false)] := by kernel_rfl
theorem ty_placesOf_102 : placesOf Tryz.prog 102 = Option.some [(0, 1), (1, 1), (2, 1)] := by kernel_rfl
theorem ty_fieldOff_102_0 : fieldOff Tryz.prog 102 0 = Option.some (0, 23) := by kernel_rfl
theorem ty_fieldOff_102_1 : fieldOff Tryz.prog 102 1 = Option.some (1, 3) := by kernel_rfl
theorem ty_fieldOff_102_2 : fieldOff Tryz.prog 102 2 = Option.some (2, 4) := by kernel_rfl
theorem ty_zeroCells_115 : zeroCells Tryz.prog 115 = Option.some [] := by kernel_rfl
theorem ty_placesOf_115 : placesOf Tryz.prog 115 = Option.some [] := by kernel_rfl
theorem ty_concreteT_115 : concreteT Tryz.prog 115 = Bool.true := by kernel_rfl
theorem ty_fieldOff_118_0 : fieldOff Tryz.prog 118 0 = Option.some (0, 23) := by kernel_rfl
theorem ty_shapeT_181 : shapeT Tryz.prog 181 = Option.some Option.none := by kernel_rfl
theorem ty_szOf_181 : szOf Tryz.prog 181 = Option.some 1 := by kernel_rfl
theorem ty_descOf_181 : descOf Tryz.prog 181 = Option.some Go.Abs.Desc.str := by kernel_rfl
theorem ty_zeroCells_183 : zeroCells Tryz.prog 183 = Option.some [Go.Abs.CV.pv (Go.Abs.PV.str []), Go.Abs.CV.nils] := by kernel_rfl
theorem ty_placesOf_183 : placesOf Tryz.prog 183 = Option.some [(0, 1), (1, 1)] := by kernel_rfl
theorem ty_fieldOff_183_0 : fieldOff Tryz.prog 183 0 = Option.some (0, 181) := by kernel_rfl
theorem ty_fieldOff_183_1 : fieldOff Tryz.prog 183 1 = Option.some (1, 60) := by kernel_rfl
end Go.Abs
