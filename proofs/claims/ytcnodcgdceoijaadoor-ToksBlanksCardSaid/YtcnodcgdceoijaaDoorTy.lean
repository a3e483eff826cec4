/-
  FACTS ON THE TYPES OF THIS PROGRAM, each by the kernel (printed by a program).
-/
import Derived.Test.YtcnodcgdceoijaaDoorCfg
import Derived.Test.YtcnodcgdceoijaaDoorEv
import Derived.KernelRfl
set_option linter.unusedSimpArgs false
namespace Go.Abs
open Go Go.Proofs
theorem ty_shapeT_3 : shapeT Tryd.prog 3 = Option.some Option.none := by kernel_rfl
theorem ty_szOf_3 : szOf Tryd.prog 3 = Option.some 1 := by kernel_rfl
theorem ty_descOf_3 : descOf Tryd.prog 3 = Option.some (Go.Abs.Desc.int Go.IntKind.i64) := by kernel_rfl
theorem ty_concreteT_3 : concreteT Tryd.prog 3 = Bool.true := by kernel_rfl
theorem ty_tvZero_3 : tvZero Tryd.prog 3 = Option.some (Go.Abs.TV.c (Go.Abs.CV.pv (Go.Abs.PV.int Go.IntKind.i64 0))) := by kernel_rfl
theorem ty_isBoolT_4 : isBoolT Tryd.prog 4 = Bool.true := by kernel_rfl
theorem ty_szOf_5 : szOf Tryd.prog 5 = Option.some 1 := by kernel_rfl
theorem ty_zeroCells_5 : zeroCells Tryd.prog 5 = Option.some [Go.Abs.CV.pv (Go.Abs.PV.int Go.IntKind.u8 0)] := by kernel_rfl
theorem ty_descOf_5 : descOf Tryd.prog 5 = Option.some (Go.Abs.Desc.int Go.IntKind.u8) := by kernel_rfl
theorem ty_isU8_5 : isU8 Tryd.prog 5 = Bool.true := by kernel_rfl
theorem ty_shapeT_9 : shapeT Tryd.prog 9 = Option.some Option.none := by kernel_rfl
theorem ty_szOf_9 : szOf Tryd.prog 9 = Option.some 1 := by kernel_rfl
theorem ty_zeroCells_9 : zeroCells Tryd.prog 9 = Option.some [Go.Abs.CV.pv (Go.Abs.PV.str [])] := by kernel_rfl
theorem ty_descOf_9 : descOf Tryd.prog 9 = Option.some Go.Abs.Desc.str := by kernel_rfl
theorem ty_concreteT_9 : concreteT Tryd.prog 9 = Bool.true := by kernel_rfl
theorem ty_tvZero_9 : tvZero Tryd.prog 9 = Option.some (Go.Abs.TV.c (Go.Abs.CV.pv (Go.Abs.PV.str []))) := by kernel_rfl
theorem ty_shapeT_20 : shapeT Tryd.prog 20 = Option.some Option.none := by kernel_rfl
theorem ty_szOf_20 : szOf Tryd.prog 20 = Option.some 1 := by kernel_rfl
theorem ty_zeroCells_20 : zeroCells Tryd.prog 20 = Option.some [Go.Abs.CV.pv Go.Abs.PV.nilifc] := by kernel_rfl
theorem ty_descOf_21 : descOf Tryd.prog 21 = Option.some (Go.Abs.Desc.int Go.IntKind.i32) := by kernel_rfl
theorem ty_appInfo_22 : appInfo Tryd.prog 22 = Option.some (28, 2) := by kernel_rfl
theorem ty_descOf_22 : descOf Tryd.prog 22 = Option.some (Go.Abs.Desc.sl 28 Bool.false) := by kernel_rfl
theorem ty_shapeT_26 : shapeT Tryd.prog 26 = Option.some Option.none := by kernel_rfl
theorem ty_szOf_26 : szOf Tryd.prog 26 = Option.some 1 := by kernel_rfl
theorem ty_appInfo_26 : appInfo Tryd.prog 26 = Option.some (31, 2) := by kernel_rfl
theorem ty_descOf_26 : descOf Tryd.prog 26 = Option.some (Go.Abs.Desc.sl 31 Bool.false) := by kernel_rfl
theorem ty_shapeT_28 : shapeT Tryd.prog 28 = Option.some (Option.some 2) := by kernel_rfl
theorem ty_szOf_28 : szOf Tryd.prog 28 = Option.some 2 := by kernel_rfl
theorem ty_zeroCells_28 : zeroCells Tryd.prog 28 = Option.some [Go.Abs.CV.nils, Go.Abs.CV.pv (Go.Abs.PV.str [])] := by kernel_rfl
theorem ty_placesOf_28 : placesOf Tryd.prog 28 = Option.some [(0, 1), (1, 1)] := by kernel_rfl
theorem ty_fieldOff_28_0 : fieldOff Tryd.prog 28 0 = Option.some (0, 26) := by kernel_rfl
theorem ty_fieldOff_28_1 : fieldOff Tryd.prog 28 1 = Option.some (1, 9) := by kernel_rfl
theorem ty_shapeT_29 : shapeT Tryd.prog 29 = Option.some Option.none := by kernel_rfl
theorem ty_szOf_29 : szOf Tryd.prog 29 = Option.some 1 := by kernel_rfl
theorem ty_descOf_29 : descOf Tryd.prog 29 = Option.some (Go.Abs.Desc.sl 34 Bool.false) := by kernel_rfl
theorem ty_shapeT_31 : shapeT Tryd.prog 31 = Option.some (Option.some 2) := by kernel_rfl
theorem ty_szOf_31 : szOf Tryd.prog 31 = Option.some 2 := by kernel_rfl
theorem ty_zeroCells_31 : zeroCells Tryd.prog 31 = Option.some [Go.Abs.CV.pv (Go.Abs.PV.int Go.IntKind.i64 0), Go.Abs.CV.nils] := by kernel_rfl
theorem ty_fieldOff_31_0 : fieldOff Tryd.prog 31 0 = Option.some (0, 3) := by kernel_rfl
theorem ty_fieldOff_31_1 : fieldOff Tryd.prog 31 1 = Option.some (1, 29) := by kernel_rfl
theorem ty_shapeT_34 : shapeT Tryd.prog 34 = Option.some (Option.some 6) := by kernel_rfl
theorem ty_szOf_34 : szOf Tryd.prog 34 = Option.some 6 := by kernel_rfl
theorem ty_zeroCells_34 : zeroCells Tryd.prog 34 = Option.some [Go.Abs.CV.pv (Go.Abs.PV.int Go.IntKind.i64 0), Go.Abs.CV.pv (Go.Abs.PV.str []), Go.Abs.CV.pv (Go.Abs.PV.str []), Go.Abs.CV.pv (Go.Abs.PV.int Go.IntKind.i64 0), Go.Abs.CV.pv (Go.Abs.PV.int Go.IntKind.i64 0), Go.Abs.CV.nils] := by kernel_rfl
theorem ty_fieldOff_34_0 : fieldOff Tryd.prog 34 0 = Option.some (0, 3) := by kernel_rfl
theorem ty_fieldOff_34_1 : fieldOff Tryd.prog 34 1 = Option.some (1, 9) := by kernel_rfl
theorem ty_fieldOff_34_2 : fieldOff Tryd.prog 34 2 = Option.some (2, 9) := by kernel_rfl
theorem ty_fieldOff_34_3 : fieldOff Tryd.prog 34 3 = Option.some (3, 3) := by kernel_rfl
theorem ty_fieldOff_34_4 : fieldOff Tryd.prog 34 4 = Option.some (4, 3) := by kernel_rfl
theorem ty_fieldOff_34_5 : fieldOff Tryd.prog 34 5 = Option.some (5, 29) := by kernel_rfl
theorem ty_shapeT_44 : shapeT Tryd.prog 44 = Option.some Option.none := by kernel_rfl
theorem ty_szOf_44 : szOf Tryd.prog 44 = Option.some 1 := by kernel_rfl
theorem ty_appInfo_44 : appInfo Tryd.prog 44 = Option.some (46, 3) := by kernel_rfl
theorem ty_descOf_44 : descOf Tryd.prog 44 = Option.some (Go.Abs.Desc.sl 46 Bool.false) := by kernel_rfl
theorem ty_shapeT_46 : shapeT Tryd.prog 46 = Option.some (Option.some 3) := by kernel_rfl
theorem ty_szOf_46 : szOf Tryd.prog 46 = Option.some 3 := by kernel_rfl
theorem ty_zeroCells_46 : zeroCells Tryd.prog 46 = Option.some [Go.Abs.CV.pv (Go.Abs.PV.int Go.IntKind.i64 0), Go.Abs.CV.pv (Go.Abs.PV.str []), Go.Abs.CV.pv (Go.Abs.PV.int Go.IntKind.i64 0)] := by kernel_rfl
theorem ty_placesOf_46 : placesOf Tryd.prog 46 = Option.some [(0, 1), (1, 1), (2, 1)] := by kernel_rfl
theorem ty_fieldOff_46_0 : fieldOff Tryd.prog 46 0 = Option.some (0, 3) := by kernel_rfl
theorem ty_fieldOff_46_1 : fieldOff Tryd.prog 46 1 = Option.some (1, 9) := by kernel_rfl
theorem ty_fieldOff_46_2 : fieldOff Tryd.prog 46 2 = Option.some (2, 3) := by kernel_rfl
theorem ty_shapeT_60 : shapeT Tryd.prog 60 = Option.some Option.none := by kernel_rfl
theorem ty_szOf_60 : szOf Tryd.prog 60 = Option.some 1 := by kernel_rfl
theorem ty_appInfo_60 : appInfo Tryd.prog 60 = Option.some (5, 1) := by kernel_rfl
theorem ty_descOf_60 : descOf Tryd.prog 60 = Option.some (Go.Abs.Desc.sl 5 Bool.true) := by kernel_rfl
theorem ty_szOf_62 : szOf Tryd.prog 62 = Option.some 2 := by kernel_rfl
theorem ty_zeroCells_62 : zeroCells Tryd.prog 62 = Option.some [Go.Abs.CV.nilp, Go.Abs.CV.nils] := by kernel_rfl
theorem ty_fieldOff_62_1 : fieldOff Tryd.prog 62 1 = Option.some (1, 60) := by kernel_rfl
theorem ty_zeroCells_64 : zeroCells Tryd.prog 64 = Option.some [Go.Abs.CV.nilp, Go.Abs.CV.nils] := by kernel_rfl
theorem ty_fieldOff_64_0 : fieldOff Tryd.prog 64 0 = Option.some (0, 62) := by kernel_rfl
theorem ty_appInfo_72 : appInfo Tryd.prog 72 = Option.some (9, 1) := by kernel_rfl
theorem ty_descOf_72 : descOf Tryd.prog 72 = Option.some (Go.Abs.Desc.sl 9 Bool.false) := by kernel_rfl
theorem ty_shapeT_80 : shapeT Tryd.prog 80 = Option.some Option.none := by kernel_rfl
theorem ty_szOf_80 : szOf Tryd.prog 80 = Option.some 1 := by kernel_rfl
theorem ty_descOf_80 : descOf Tryd.prog 80 = Option.some Go.Abs.Desc.str := by kernel_rfl
theorem ty_zeroCells_82 : zeroCells Tryd.prog 82 = Option.some [Go.Abs.CV.pv (Go.Abs.PV.str []), Go.Abs.CV.nils] := by kernel_rfl
theorem ty_placesOf_82 : placesOf Tryd.prog 82 = Option.some [(0, 1), (1, 1)] := by kernel_rfl
theorem ty_fieldOff_82_0 : fieldOff Tryd.prog 82 0 = Option.some (0, 80) := by kernel_rfl
theorem ty_fieldOff_82_1 : fieldOff Tryd.prog 82 1 = Option.some (1, 44) := by kernel_rfl
theorem ty_descOf_93 : descOf Tryd.prog 93 = Option.some (Go.Abs.Desc.sl 20 Bool.false) := by kernel_rfl
theorem good_3 : K.good 3 = true := by kernel_rfl
theorem good_5 : K.good 5 = true := by kernel_rfl
theorem good_9 : K.good 9 = true := by kernel_rfl
theorem good_12 : K.good 12 = true := by kernel_rfl
theorem good_13 : K.good 13 = true := by kernel_rfl
theorem good_14 : K.good 14 = true := by kernel_rfl
theorem good_15 : K.good 15 = true := by kernel_rfl
theorem good_16 : K.good 16 = true := by kernel_rfl
theorem good_17 : K.good 17 = true := by kernel_rfl
theorem good_18 : K.good 18 = true := by kernel_rfl
theorem good_19 : K.good 19 = true := by kernel_rfl
theorem good_20 : K.good 20 = true := by kernel_rfl
theorem good_21 : K.good 21 = true := by kernel_rfl
theorem good_24 : K.good 24 = true := by kernel_rfl
theorem good_25 : K.good 25 = true := by kernel_rfl
theorem good_26 : K.good 26 = true := by kernel_rfl
theorem good_27 : K.good 27 = true := by kernel_rfl
theorem good_28 : K.good 28 = true := by kernel_rfl
theorem good_29 : K.good 29 = true := by kernel_rfl
theorem good_30 : K.good 30 = true := by kernel_rfl
theorem good_31 : K.good 31 = true := by kernel_rfl
theorem good_32 : K.good 32 = true := by kernel_rfl
theorem good_33 : K.good 33 = true := by kernel_rfl
theorem good_34 : K.good 34 = true := by kernel_rfl
theorem good_35 : K.good 35 = true := by kernel_rfl
theorem good_36 : K.good 36 = true := by kernel_rfl
theorem good_37 : K.good 37 = true := by kernel_rfl
theorem good_38 : K.good 38 = true := by kernel_rfl
theorem good_39 : K.good 39 = true := by kernel_rfl
theorem good_40 : K.good 40 = true := by kernel_rfl
theorem good_41 : K.good 41 = true := by kernel_rfl
theorem good_42 : K.good 42 = true := by kernel_rfl
theorem good_43 : K.good 43 = true := by kernel_rfl
theorem good_44 : K.good 44 = true := by kernel_rfl
theorem good_45 : K.good 45 = true := by kernel_rfl
theorem good_49 : K.good 49 = true := by kernel_rfl
theorem good_50 : K.good 50 = true := by kernel_rfl
theorem good_51 : K.good 51 = true := by kernel_rfl
theorem good_52 : K.good 52 = true := by kernel_rfl
theorem good_53 : K.good 53 = true := by kernel_rfl
theorem good_54 : K.good 54 = true := by kernel_rfl
theorem good_55 : K.good 55 = true := by kernel_rfl
theorem good_56 : K.good 56 = true := by kernel_rfl
theorem good_63 : K.good 63 = true := by kernel_rfl
theorem good_64 : K.good 64 = true := by kernel_rfl
theorem good_65 : K.good 65 = true := by kernel_rfl
theorem good_66 : K.good 66 = true := by kernel_rfl
theorem good_67 : K.good 67 = true := by kernel_rfl
theorem good_68 : K.good 68 = true := by kernel_rfl
theorem good_69 : K.good 69 = true := by kernel_rfl
theorem good_70 : K.good 70 = true := by kernel_rfl
theorem good_71 : K.good 71 = true := by kernel_rfl
theorem good_72 : K.good 72 = true := by kernel_rfl
theorem good_73 : K.good 73 = true := by kernel_rfl
theorem good_74 : K.good 74 = true := by kernel_rfl
theorem good_75 : K.good 75 = true := by kernel_rfl
theorem good_76 : K.good 76 = true := by kernel_rfl
theorem good_77 : K.good 77 = true := by kernel_rfl
theorem good_78 : K.good 78 = true := by kernel_rfl
theorem good_79 : K.good 79 = true := by kernel_rfl
theorem good_80 : K.good 80 = true := by kernel_rfl
theorem good_81 : K.good 81 = true := by kernel_rfl
theorem good_83 : K.good 83 = true := by kernel_rfl
theorem good_93 : K.good 93 = true := by kernel_rfl
theorem good_95 : K.good 95 = true := by kernel_rfl
theorem good_96 : K.good 96 = true := by kernel_rfl
theorem good_98 : K.good 98 = true := by kernel_rfl
theorem good_99 : K.good 99 = true := by kernel_rfl
theorem good_114 : K.good 114 = true := by kernel_rfl
theorem keep_3_4 : keepF 3 4 = ([0, 1, 2, 7], []) := by kernel_rfl
theorem keep_3_9 : keepF 3 9 = ([0, 1, 2, 7, 8], []) := by kernel_rfl
theorem keep_3_12 : keepF 3 12 = ([0, 1, 2, 7, 8, 9], []) := by kernel_rfl
theorem keep_7_8 : keepF 7 8 = ([1, 5, 7], []) := by kernel_rfl
theorem keep_7_13 : keepF 7 13 = ([1, 8], []) := by kernel_rfl
theorem keep_8_5 : keepF 8 5 = ([0, 1, 5, 6, 7], []) := by kernel_rfl
theorem keep_10_5 : keepF 10 5 = ([0, 3, 4], []) := by kernel_rfl
theorem keep_10_13 : keepF 10 13 = ([0, 3, 4, 5, 6], [5]) := by kernel_rfl
theorem keep_12_3 : keepF 12 3 = ([0, 1, 5, 6], []) := by kernel_rfl
theorem keep_12_7 : keepF 12 7 = ([0, 1, 5, 6, 7], []) := by kernel_rfl
theorem keep_14_3 : keepF 14 3 = ([1, 3, 7, 8, 9], [1, 3]) := by kernel_rfl
theorem keep_15_3 : keepF 15 3 = ([1, 3, 4], [1]) := by kernel_rfl
theorem keep_18_3 : keepF 18 3 = ([3, 6, 7, 8], []) := by kernel_rfl
theorem keep_19_3 : keepF 19 3 = ([0, 3, 4], []) := by kernel_rfl
theorem keep_24_2 : keepF 24 2 = ([0, 1, 5], []) := by kernel_rfl
theorem keep_26_4 : keepF 26 4 = ([0, 1, 5], []) := by kernel_rfl
theorem keep_27_2 : keepF 27 2 = ([3], [6]) := by kernel_rfl
theorem keep_28_3 : keepF 28 3 = ([0, 3, 4], []) := by kernel_rfl
theorem keep_29_3 : keepF 29 3 = ([0, 3, 6, 7, 8], [3]) := by kernel_rfl
theorem keep_30_3 : keepF 30 3 = ([0, 3, 4], []) := by kernel_rfl
theorem keep_35_2 : keepF 35 2 = ([0, 3], []) := by kernel_rfl
theorem keep_36_2 : keepF 36 2 = ([0, 1, 2, 7], []) := by kernel_rfl
theorem keep_37_1 : keepF 37 1 = ([0, 8, 9, 10], [100000]) := by kernel_rfl
theorem keep_39_1 : keepF 39 1 = ([0, 6, 7, 8], [100000]) := by kernel_rfl
theorem keep_41_3 : keepF 41 3 = ([0, 3, 4], []) := by kernel_rfl
theorem keep_43_2 : keepF 43 2 = ([0, 3], []) := by kernel_rfl
theorem keep_50_5 : keepF 50 5 = ([0, 4, 6], [4]) := by kernel_rfl
theorem keep_55_5 : keepF 55 5 = ([5, 15, 16, 17], []) := by kernel_rfl
theorem keep_70_2 : keepF 70 2 = ([0, 1, 2, 7], [100000]) := by kernel_rfl
theorem keep_74_6 : keepF 74 6 = ([0, 2, 3, 4, 29], [100000]) := by kernel_rfl
theorem keep_75_2 : keepF 75 2 = ([0, 5], []) := by kernel_rfl
theorem keep_77_2 : keepF 77 2 = ([0, 1, 5], []) := by kernel_rfl
theorem keep_78_1 : keepF 78 1 = ([0, 1], []) := by kernel_rfl
theorem keep_80_4 : keepF 80 4 = ([0, 1, 4, 6, 7], [4]) := by kernel_rfl
end Go.Abs
