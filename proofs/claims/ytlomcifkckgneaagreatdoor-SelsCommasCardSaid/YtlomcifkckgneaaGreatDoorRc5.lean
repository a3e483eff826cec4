/-
  FACTS ON THE TYPES OF THIS PROGRAM, each by the kernel (printed by a program).
-/
import Derived.Test.YtlomcifkckgneaaGreatDoorProg
import Derived.KernelRfl
import Derived.Test.YtlomcifkckgneaaGreatDoorRc2
set_option linter.unusedSimpArgs false
set_option linter.unusedVariables false
namespace Go.Abs
open Go Go.Proofs
theorem bC:db Tryz.prog 3=Option.some Option.none:=by kernel_rfl
theorem cx:szOf Tryz.prog 3=Option.some 1:=by kernel_rfl
theorem sU:zeroCells Tryz.prog 3=Option.some [Go.Abs.CV.pv (Go.Abs.PV.int Go.IntKind.i64 0)]:=by kernel_rfl
theorem dF:cP Tryz.prog 3=Option.some (Go.Abs.Desc.int Go.IntKind.i64):=by kernel_rfl
theorem iI:db Tryz.prog 4=Option.some Option.none:=by kernel_rfl
theorem kf:szOf Tryz.prog 4=Option.some 1:=by kernel_rfl
theorem oB:qO Tryz.prog 4=Bool.true:=by kernel_rfl
theorem kc:szOf Tryz.prog 5=Option.some 1:=by kernel_rfl
theorem fN:zeroCells Tryz.prog 5=Option.some [Go.Abs.CV.pv (Go.Abs.PV.int Go.IntKind.u8 0)]:=by kernel_rfl
theorem dZ:cP Tryz.prog 5=Option.some (Go.Abs.Desc.int Go.IntKind.u8):=by kernel_rfl
theorem b7:db Tryz.prog 9=Option.some Option.none:=by kernel_rfl
theorem aI:szOf Tryz.prog 9=Option.some 1:=by kernel_rfl
theorem aF:zeroCells Tryz.prog 9=Option.some [Go.Abs.CV.pv (Go.Abs.PV.str [])]:=by kernel_rfl
theorem al:cP Tryz.prog 9=Option.some Go.Abs.Desc.str:=by kernel_rfl
theorem u6:cP Tryz.prog 21=Option.some (Go.Abs.Desc.int Go.IntKind.i32):=by kernel_rfl
theorem eD:db Tryz.prog 23=Option.some Option.none:=by kernel_rfl
theorem cR:szOf Tryz.prog 23=Option.some 1:=by kernel_rfl
theorem dY:zeroCells Tryz.prog 23=Option.some [Go.Abs.CV.nils]:=by kernel_rfl
theorem cI:ic Tryz.prog 23=Option.some (93,5):=by kernel_rfl
theorem ap:cP Tryz.prog 23=Option.some (Go.Abs.Desc.sl 93 Bool.false):=by kernel_rfl
theorem kG:db Tryz.prog 31=Option.some Option.none:=by kernel_rfl
theorem qp:zeroCells Tryz.prog 31=Option.some [Go.Abs.CV.nils]:=by kernel_rfl
theorem j9:ic Tryz.prog 31=Option.some (47,2):=by kernel_rfl
theorem aP:cP Tryz.prog 31=Option.some (Go.Abs.Desc.sl 47 Bool.false):=by kernel_rfl
theorem j8:ic Tryz.prog 41=Option.some (23,1):=by kernel_rfl
theorem bE:cP Tryz.prog 41=Option.some (Go.Abs.Desc.sl 23 Bool.false):=by kernel_rfl
theorem g9:db Tryz.prog 45=Option.some Option.none:=by kernel_rfl
theorem jv:szOf Tryz.prog 45=Option.some 1:=by kernel_rfl
theorem j6:ic Tryz.prog 45=Option.some (50,2):=by kernel_rfl
theorem aN:cP Tryz.prog 45=Option.some (Go.Abs.Desc.sl 50 Bool.false):=by kernel_rfl
theorem g7:db Tryz.prog 47=Option.some (Option.some 2):=by kernel_rfl
theorem fS:szOf Tryz.prog 47=Option.some 2:=by kernel_rfl
theorem eU:zeroCells Tryz.prog 47=Option.some [Go.Abs.CV.nils,Go.Abs.CV.pv (Go.Abs.PV.str [])]:=by kernel_rfl
theorem fe:cv Tryz.prog 47 0=Option.some (0,45):=by kernel_rfl
theorem fg:cv Tryz.prog 47 1=Option.some (1,9):=by kernel_rfl
theorem eF:db Tryz.prog 48=Option.some Option.none:=by kernel_rfl
theorem fA:szOf Tryz.prog 48=Option.some 1:=by kernel_rfl
theorem tw:ic Tryz.prog 48=Option.some (52,6):=by kernel_rfl
theorem aa:cP Tryz.prog 48=Option.some (Go.Abs.Desc.sl 52 Bool.false):=by kernel_rfl
theorem jc:db Tryz.prog 50=Option.some (Option.some 2):=by kernel_rfl
theorem gJ:szOf Tryz.prog 50=Option.some 2:=by kernel_rfl
theorem dh:zeroCells Tryz.prog 50=Option.some [Go.Abs.CV.pv (Go.Abs.PV.int Go.IntKind.i64 0),Go.Abs.CV.nils]:=by kernel_rfl
theorem jw:eP Tryz.prog 50=Option.some [(0,1),(1,1)]:=by kernel_rfl
theorem ij:cv Tryz.prog 50 0=Option.some (0,3):=by kernel_rfl
theorem fZ:cv Tryz.prog 50 1=Option.some (1,48):=by kernel_rfl
theorem dw:db Tryz.prog 52=Option.some (Option.some 6):=by kernel_rfl
theorem dS:szOf Tryz.prog 52=Option.some 6:=by kernel_rfl
theorem ag:zeroCells Tryz.prog 52=Option.some [Go.Abs.CV.pv (Go.Abs.PV.int Go.IntKind.i64 0),Go.Abs.CV.pv (Go.Abs.PV.str []),Go.Abs.CV.pv (Go.Abs.PV.str []),Go.Abs.CV.pv (Go.Abs.PV.int Go.IntKind.i64 0),Go.Abs.CV.pv (Go.Abs.PV.int Go.IntKind.i64 0),Go.Abs.CV.nils]:=by kernel_rfl
theorem ak:eP Tryz.prog 52=Option.some [(0,1),(1,1),(2,1),(3,1),(4,1),(5,1)]:=by kernel_rfl
theorem cS:cv Tryz.prog 52 0=Option.some (0,3):=by kernel_rfl
theorem dG:cv Tryz.prog 52 1=Option.some (1,9):=by kernel_rfl
theorem dI:cv Tryz.prog 52 2=Option.some (2,9):=by kernel_rfl
theorem d9:cv Tryz.prog 52 3=Option.some (3,3):=by kernel_rfl
theorem ed:cv Tryz.prog 52 4=Option.some (4,3):=by kernel_rfl
theorem eI:cv Tryz.prog 52 5=Option.some (5,48):=by kernel_rfl
theorem dx:db Tryz.prog 60=Option.some Option.none:=by kernel_rfl
theorem eA:szOf Tryz.prog 60=Option.some 1:=by kernel_rfl
theorem j5:ic Tryz.prog 60=Option.some (91,3):=by kernel_rfl
theorem aA:cP Tryz.prog 60=Option.some (Go.Abs.Desc.sl 91 Bool.false):=by kernel_rfl
theorem ee:cP Tryz.prog 64=Option.some (Go.Abs.Desc.sl 5 Bool.true):=by kernel_rfl
theorem bf:db Tryz.prog 91=Option.some (Option.some 3):=by kernel_rfl
theorem aQ:szOf Tryz.prog 91=Option.some 3:=by kernel_rfl
theorem ab:zeroCells Tryz.prog 91=Option.some [Go.Abs.CV.pv (Go.Abs.PV.int Go.IntKind.i64 0),Go.Abs.CV.pv (Go.Abs.PV.str []),Go.Abs.CV.pv (Go.Abs.PV.int Go.IntKind.i64 0)]:=by kernel_rfl
theorem aj:eP Tryz.prog 91=Option.some [(0,1),(1,1),(2,1)]:=by kernel_rfl
theorem dJ:cv Tryz.prog 91 0=Option.some (0,3):=by kernel_rfl
theorem dH:cv Tryz.prog 91 1=Option.some (1,9):=by kernel_rfl
theorem fc:cv Tryz.prog 91 2=Option.some (2,3):=by kernel_rfl
theorem dv:db Tryz.prog 93=Option.some (Option.some 5):=by kernel_rfl
theorem a8:szOf Tryz.prog 93=Option.some 5:=by kernel_rfl
theorem az:zeroCells Tryz.prog 93=Option.some [Go.Abs.CV.pv (Go.Abs.PV.int Go.IntKind.i64 0),Go.Abs.CV.pv (Go.Abs.PV.int Go.IntKind.i64 0),Go.Abs.CV.pv (Go.Abs.PV.str []),Go.Abs.CV.pv (Go.Abs.PV.int Go.IntKind.i64 0),Go.Abs.CV.nils]:=by kernel_rfl
theorem bB:eP Tryz.prog 93=Option.some [(0,1),(1,3),(4,1)]:=by kernel_rfl
theorem c5:cv Tryz.prog 93 0=Option.some (0,3):=by kernel_rfl
theorem cu:cv Tryz.prog 93 1=Option.some (1,91):=by kernel_rfl
theorem eJ:cv Tryz.prog 93 2=Option.some (4,23):=by kernel_rfl
theorem aG:cP Tryz.prog 97=Option.some (Go.Abs.Desc.sl 9 Bool.false):=by kernel_rfl
theorem tg:db Tryz.prog 102=Option.some (Option.some 3):=by kernel_rfl
theorem p7:szOf Tryz.prog 102=Option.some 3:=by kernel_rfl
theorem fW:zeroCells Tryz.prog 102=Option.some [Go.Abs.CV.nils,Go.Abs.CV.pv (Go.Abs.PV.int Go.IntKind.i64 0),Go.Abs.CV.pv (Go.Abs.PV.bool Bool.false)]:=by kernel_rfl
theorem lq:eP Tryz.prog 102=Option.some [(0,1),(1,1),(2,1)]:=by kernel_rfl
theorem jP:cv Tryz.prog 102 0=Option.some (0,23):=by kernel_rfl
theorem nW:cv Tryz.prog 102 1=Option.some (1,3):=by kernel_rfl
theorem jJ:cv Tryz.prog 102 2=Option.some (2,4):=by kernel_rfl
theorem fh:zeroCells Tryz.prog 115=Option.some []:=by kernel_rfl
theorem fD:eP Tryz.prog 115=Option.some []:=by kernel_rfl
theorem ku:ji Tryz.prog 115=Bool.true:=by kernel_rfl
theorem bq:zeroCells Tryz.prog 118=Option.some [Go.Abs.CV.nils]:=by kernel_rfl
theorem bD:eP Tryz.prog 118=Option.some [(0,1)]:=by kernel_rfl
theorem gZ:cv Tryz.prog 118 0=Option.some (0,23):=by kernel_rfl
theorem m6:db Tryz.prog 146=Option.some (Option.some 5):=by kernel_rfl
theorem p9:szOf Tryz.prog 146=Option.some 5:=by kernel_rfl
theorem gg:zeroCells Tryz.prog 146=Option.some [Go.Abs.CV.pv (Go.Abs.PV.int Go.IntKind.i64 0),Go.Abs.CV.pv (Go.Abs.PV.str []),Go.Abs.CV.pv (Go.Abs.PV.str []),Go.Abs.CV.pv (Go.Abs.PV.int Go.IntKind.i64 0),Go.Abs.CV.pv (Go.Abs.PV.int Go.IntKind.i64 0)]:=by kernel_rfl
theorem lp:eP Tryz.prog 146=Option.some [(0,1),(1,1),(2,1),(3,1),(4,1)]:=by kernel_rfl
theorem iz:db Tryz.prog 181=Option.some Option.none:=by kernel_rfl
theorem jU:szOf Tryz.prog 181=Option.some 1:=by kernel_rfl
theorem ax:cP Tryz.prog 181=Option.some Go.Abs.Desc.str:=by kernel_rfl
theorem o3:zeroCells Tryz.prog 183=Option.some [Go.Abs.CV.pv (Go.Abs.PV.str []),Go.Abs.CV.nils]:=by kernel_rfl
theorem qo:eP Tryz.prog 183=Option.some [(0,1),(1,1)]:=by kernel_rfl
theorem fL:cv Tryz.prog 183 0=Option.some (0,181):=by kernel_rfl
theorem jG:cv Tryz.prog 183 1=Option.some (1,60):=by kernel_rfl
end Go.Abs
