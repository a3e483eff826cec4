/-
  FACTS ON THE TYPES OF THIS PROGRAM, each by the kernel (printed by a program).
-/
import Derived.Test.YtlomcifkckgneaaGreatDoorProg
import Derived.KernelRfl
import Derived.Test.YtlomcifkckgneaaGreatDoorRh2
set_option linter.unusedSimpArgs false
set_option linter.unusedVariables false
namespace Go.Abs
open Go Go.Proofs
theorem bl:cG Tryz.prog 3=Option.some Option.none:=by kernel_rfl
theorem cd:szOf Tryz.prog 3=Option.some 1:=by kernel_rfl
theorem nf:zeroCells Tryz.prog 3=Option.some [Go.Abs.CV.pv (Go.Abs.PV.int Go.IntKind.i64 0)]:=by kernel_rfl
theorem cf:bm Tryz.prog 3=Option.some (Go.Abs.Desc.int Go.IntKind.i64):=by kernel_rfl
theorem lF:cG Tryz.prog 4=Option.some Option.none:=by kernel_rfl
theorem ou:szOf Tryz.prog 4=Option.some 1:=by kernel_rfl
theorem fq:lY Tryz.prog 4=Bool.true:=by kernel_rfl
theorem gn:szOf Tryz.prog 5=Option.some 1:=by kernel_rfl
theorem dT:zeroCells Tryz.prog 5=Option.some [Go.Abs.CV.pv (Go.Abs.PV.int Go.IntKind.u8 0)]:=by kernel_rfl
theorem cM:bm Tryz.prog 5=Option.some (Go.Abs.Desc.int Go.IntKind.u8):=by kernel_rfl
theorem cL:cG Tryz.prog 9=Option.some Option.none:=by kernel_rfl
theorem cO:szOf Tryz.prog 9=Option.some 1:=by kernel_rfl
theorem dM:zeroCells Tryz.prog 9=Option.some [Go.Abs.CV.pv (Go.Abs.PV.str [])]:=by kernel_rfl
theorem aa:bm Tryz.prog 9=Option.some Go.Abs.Desc.str:=by kernel_rfl
theorem gQ:cG Tryz.prog 23=Option.some Option.none:=by kernel_rfl
theorem eO:szOf Tryz.prog 23=Option.some 1:=by kernel_rfl
theorem bC:g7 Tryz.prog 23=Option.some (93,5):=by kernel_rfl
theorem af:bm Tryz.prog 23=Option.some (Go.Abs.Desc.sl 93 Bool.false):=by kernel_rfl
theorem jt:g7 Tryz.prog 60=Option.some (91,3):=by kernel_rfl
theorem ag:bm Tryz.prog 60=Option.some (Go.Abs.Desc.sl 91 Bool.false):=by kernel_rfl
theorem cy:bm Tryz.prog 64=Option.some (Go.Abs.Desc.sl 5 Bool.true):=by kernel_rfl
theorem az:cG Tryz.prog 91=Option.some (Option.some 3):=by kernel_rfl
theorem au:szOf Tryz.prog 91=Option.some 3:=by kernel_rfl
theorem ab:zeroCells Tryz.prog 91=Option.some [Go.Abs.CV.pv (Go.Abs.PV.int Go.IntKind.i64 0),Go.Abs.CV.pv (Go.Abs.PV.str []),Go.Abs.CV.pv (Go.Abs.PV.int Go.IntKind.i64 0)]:=by kernel_rfl
theorem ai:er Tryz.prog 91=Option.some [(0,1),(1,1),(2,1)]:=by kernel_rfl
theorem cP:bN Tryz.prog 91 0=Option.some (0,3):=by kernel_rfl
theorem eP:bN Tryz.prog 91 1=Option.some (1,9):=by kernel_rfl
theorem eN:bN Tryz.prog 91 2=Option.some (2,3):=by kernel_rfl
theorem bT:cG Tryz.prog 93=Option.some (Option.some 5):=by kernel_rfl
theorem aE:szOf Tryz.prog 93=Option.some 5:=by kernel_rfl
theorem ah:zeroCells Tryz.prog 93=Option.some [Go.Abs.CV.pv (Go.Abs.PV.int Go.IntKind.i64 0),Go.Abs.CV.pv (Go.Abs.PV.int Go.IntKind.i64 0),Go.Abs.CV.pv (Go.Abs.PV.str []),Go.Abs.CV.pv (Go.Abs.PV.int Go.IntKind.i64 0),Go.Abs.CV.nils]:=by kernel_rfl
theorem aG:er Tryz.prog 93=Option.some [(0,1),(1,3),(4,1)]:=by kernel_rfl
theorem cu:bN Tryz.prog 93 0=Option.some (0,3):=by kernel_rfl
theorem aW:bN Tryz.prog 93 1=Option.some (1,91):=by kernel_rfl
theorem cK:bm Tryz.prog 97=Option.some (Go.Abs.Desc.sl 9 Bool.false):=by kernel_rfl
theorem nA:cG Tryz.prog 102=Option.some (Option.some 3):=by kernel_rfl
theorem lm:szOf Tryz.prog 102=Option.some 3:=by kernel_rfl
theorem d8:zeroCells Tryz.prog 102=Option.some [Go.Abs.CV.nils,Go.Abs.CV.pv (Go.Abs.PV.int Go.IntKind.i64 0),Go.Abs.CV.pv (Go.Abs.PV.bool Bool.false)]:=by kernel_rfl
theorem ig:er Tryz.prog 102=Option.some [(0,1),(1,1),(2,1)]:=by kernel_rfl
theorem ga:bN Tryz.prog 102 0=Option.some (0,23):=by kernel_rfl
theorem jS:bN Tryz.prog 102 1=Option.some (1,3):=by kernel_rfl
theorem fW:bN Tryz.prog 102 2=Option.some (2,4):=by kernel_rfl
theorem gx:zeroCells Tryz.prog 115=Option.some []:=by kernel_rfl
theorem ik:er Tryz.prog 115=Option.some []:=by kernel_rfl
theorem k9:fB Tryz.prog 115=Bool.true:=by kernel_rfl
theorem ky:bN Tryz.prog 118 0=Option.some (0,23):=by kernel_rfl
end Go.Abs
