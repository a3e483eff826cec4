/-
  FACTS ON THE TYPES OF THIS PROGRAM, each by the kernel (printed by a program).
-/
import Derived.Test.YtlomcifkckgneaaGreatDoorProg
import Derived.KernelRfl
import Derived.Test.YtlomcifkckgneaaGreatDoorRa2
set_option linter.unusedSimpArgs false
set_option linter.unusedVariables false
namespace Go.Abs
open Go Go.Proofs
theorem bN:cF Tryz.prog 3=Option.some Option.none:=by kernel_rfl
theorem cy:szOf Tryz.prog 3=Option.some 1:=by kernel_rfl
theorem ph:zeroCells Tryz.prog 3=Option.some [Go.Abs.CV.pv (Go.Abs.PV.int Go.IntKind.i64 0)]:=by kernel_rfl
theorem im:b8 Tryz.prog 3=Option.some (Go.Abs.Desc.int Go.IntKind.i64):=by kernel_rfl
theorem nk:b8 Tryz.prog 5=Option.some (Go.Abs.Desc.int Go.IntKind.u8):=by kernel_rfl
theorem cu:cF Tryz.prog 9=Option.some Option.none:=by kernel_rfl
theorem ar:szOf Tryz.prog 9=Option.some 1:=by kernel_rfl
theorem ah:zeroCells Tryz.prog 9=Option.some [Go.Abs.CV.pv (Go.Abs.PV.str [])]:=by kernel_rfl
theorem az:b8 Tryz.prog 9=Option.some Go.Abs.Desc.str:=by kernel_rfl
theorem sm:b8 Tryz.prog 21=Option.some (Go.Abs.Desc.int Go.IntKind.i32):=by kernel_rfl
theorem dU:cF Tryz.prog 23=Option.some Option.none:=by kernel_rfl
theorem dM:szOf Tryz.prog 23=Option.some 1:=by kernel_rfl
theorem ap:b8 Tryz.prog 23=Option.some (Go.Abs.Desc.sl 93 Bool.false):=by kernel_rfl
theorem jF:cF Tryz.prog 31=Option.some Option.none:=by kernel_rfl
theorem nM:zeroCells Tryz.prog 31=Option.some [Go.Abs.CV.nils]:=by kernel_rfl
theorem ax:b8 Tryz.prog 31=Option.some (Go.Abs.Desc.sl 47 Bool.false):=by kernel_rfl
theorem fP:b8 Tryz.prog 41=Option.some (Go.Abs.Desc.sl 23 Bool.false):=by kernel_rfl
theorem eU:cF Tryz.prog 45=Option.some Option.none:=by kernel_rfl
theorem fU:szOf Tryz.prog 45=Option.some 1:=by kernel_rfl
theorem fm:iq Tryz.prog 45=Option.some (50,2):=by kernel_rfl
theorem ay:b8 Tryz.prog 45=Option.some (Go.Abs.Desc.sl 50 Bool.false):=by kernel_rfl
theorem gG:cF Tryz.prog 47=Option.some (Option.some 2):=by kernel_rfl
theorem dk:szOf Tryz.prog 47=Option.some 2:=by kernel_rfl
theorem bG:zeroCells Tryz.prog 47=Option.some [Go.Abs.CV.nils,Go.Abs.CV.pv (Go.Abs.PV.str [])]:=by kernel_rfl
theorem fS:dK Tryz.prog 47=Option.some [(0,1),(1,1)]:=by kernel_rfl
theorem dA:bJ Tryz.prog 47 0=Option.some (0,45):=by kernel_rfl
theorem eV:bJ Tryz.prog 47 1=Option.some (1,9):=by kernel_rfl
theorem sT:cF Tryz.prog 48=Option.some Option.none:=by kernel_rfl
theorem xn:szOf Tryz.prog 48=Option.some 1:=by kernel_rfl
theorem qx:iq Tryz.prog 48=Option.some (52,6):=by kernel_rfl
theorem bX:b8 Tryz.prog 48=Option.some (Go.Abs.Desc.sl 52 Bool.false):=by kernel_rfl
theorem lL:cF Tryz.prog 50=Option.some (Option.some 2):=by kernel_rfl
theorem dN:szOf Tryz.prog 50=Option.some 2:=by kernel_rfl
theorem bd:zeroCells Tryz.prog 50=Option.some [Go.Abs.CV.pv (Go.Abs.PV.int Go.IntKind.i64 0),Go.Abs.CV.nils]:=by kernel_rfl
theorem dI:dK Tryz.prog 50=Option.some [(0,1),(1,1)]:=by kernel_rfl
theorem iP:bJ Tryz.prog 50 0=Option.some (0,3):=by kernel_rfl
theorem mA:bJ Tryz.prog 50 1=Option.some (1,48):=by kernel_rfl
theorem fM:cF Tryz.prog 52=Option.some (Option.some 6):=by kernel_rfl
theorem dJ:szOf Tryz.prog 52=Option.some 6:=by kernel_rfl
theorem ag:zeroCells Tryz.prog 52=Option.some [Go.Abs.CV.pv (Go.Abs.PV.int Go.IntKind.i64 0),Go.Abs.CV.pv (Go.Abs.PV.str []),Go.Abs.CV.pv (Go.Abs.PV.str []),Go.Abs.CV.pv (Go.Abs.PV.int Go.IntKind.i64 0),Go.Abs.CV.pv (Go.Abs.PV.int Go.IntKind.i64 0),Go.Abs.CV.nils]:=by kernel_rfl
theorem ao:dK Tryz.prog 52=Option.some [(0,1),(1,1),(2,1),(3,1),(4,1),(5,1)]:=by kernel_rfl
theorem f5:bJ Tryz.prog 52 0=Option.some (0,3):=by kernel_rfl
theorem i6:bJ Tryz.prog 52 1=Option.some (1,9):=by kernel_rfl
theorem iT:bJ Tryz.prog 52 2=Option.some (2,9):=by kernel_rfl
theorem mQ:bJ Tryz.prog 52 3=Option.some (3,3):=by kernel_rfl
theorem mM:bJ Tryz.prog 52 4=Option.some (4,3):=by kernel_rfl
theorem mG:bJ Tryz.prog 52 5=Option.some (5,48):=by kernel_rfl
theorem cL:cF Tryz.prog 60=Option.some Option.none:=by kernel_rfl
theorem de:szOf Tryz.prog 60=Option.some 1:=by kernel_rfl
theorem qm:iq Tryz.prog 60=Option.some (91,3):=by kernel_rfl
theorem aR:b8 Tryz.prog 60=Option.some (Go.Abs.Desc.sl 91 Bool.false):=by kernel_rfl
theorem aQ:cF Tryz.prog 91=Option.some (Option.some 3):=by kernel_rfl
theorem aK:szOf Tryz.prog 91=Option.some 3:=by kernel_rfl
theorem aA:zeroCells Tryz.prog 91=Option.some [Go.Abs.CV.pv (Go.Abs.PV.int Go.IntKind.i64 0),Go.Abs.CV.pv (Go.Abs.PV.str []),Go.Abs.CV.pv (Go.Abs.PV.int Go.IntKind.i64 0)]:=by kernel_rfl
theorem eJ:dK Tryz.prog 91=Option.some [(0,1),(1,1),(2,1)]:=by kernel_rfl
theorem ef:bJ Tryz.prog 91 0=Option.some (0,3):=by kernel_rfl
theorem dB:bJ Tryz.prog 91 1=Option.some (1,9):=by kernel_rfl
theorem iV:bJ Tryz.prog 91 2=Option.some (2,3):=by kernel_rfl
theorem cT:cF Tryz.prog 93=Option.some (Option.some 5):=by kernel_rfl
theorem bH:szOf Tryz.prog 93=Option.some 5:=by kernel_rfl
theorem aH:zeroCells Tryz.prog 93=Option.some [Go.Abs.CV.pv (Go.Abs.PV.int Go.IntKind.i64 0),Go.Abs.CV.pv (Go.Abs.PV.int Go.IntKind.i64 0),Go.Abs.CV.pv (Go.Abs.PV.str []),Go.Abs.CV.pv (Go.Abs.PV.int Go.IntKind.i64 0),Go.Abs.CV.nils]:=by kernel_rfl
theorem cQ:dK Tryz.prog 93=Option.some [(0,1),(1,3),(4,1)]:=by kernel_rfl
theorem co:bJ Tryz.prog 93 0=Option.some (0,3):=by kernel_rfl
theorem bw:bJ Tryz.prog 93 1=Option.some (1,91):=by kernel_rfl
theorem dC:bJ Tryz.prog 93 2=Option.some (4,23):=by kernel_rfl
theorem al:b8 Tryz.prog 97=Option.some (Go.Abs.Desc.sl 9 Bool.false):=by kernel_rfl
theorem d7:zeroCells Tryz.prog 115=Option.some []:=by kernel_rfl
theorem ev:dK Tryz.prog 115=Option.some []:=by kernel_rfl
theorem iX:gH Tryz.prog 115=Bool.true:=by kernel_rfl
theorem aM:zeroCells Tryz.prog 118=Option.some [Go.Abs.CV.nils]:=by kernel_rfl
theorem a6:dK Tryz.prog 118=Option.some [(0,1)]:=by kernel_rfl
theorem fT:bJ Tryz.prog 118 0=Option.some (0,23):=by kernel_rfl
theorem qz:cF Tryz.prog 146=Option.some (Option.some 5):=by kernel_rfl
theorem tA:szOf Tryz.prog 146=Option.some 5:=by kernel_rfl
theorem iZ:zeroCells Tryz.prog 146=Option.some [Go.Abs.CV.pv (Go.Abs.PV.int Go.IntKind.i64 0),Go.Abs.CV.pv (Go.Abs.PV.str []),Go.Abs.CV.pv (Go.Abs.PV.str []),Go.Abs.CV.pv (Go.Abs.PV.int Go.IntKind.i64 0),Go.Abs.CV.pv (Go.Abs.PV.int Go.IntKind.i64 0)]:=by kernel_rfl
theorem nP:dK Tryz.prog 146=Option.some [(0,1),(1,1),(2,1),(3,1),(4,1)]:=by kernel_rfl
theorem f7:cF Tryz.prog 181=Option.some Option.none:=by kernel_rfl
theorem g9:szOf Tryz.prog 181=Option.some 1:=by kernel_rfl
theorem af:b8 Tryz.prog 181=Option.some Go.Abs.Desc.str:=by kernel_rfl
theorem m0:zeroCells Tryz.prog 183=Option.some [Go.Abs.CV.pv (Go.Abs.PV.str []),Go.Abs.CV.nils]:=by kernel_rfl
theorem nN:dK Tryz.prog 183=Option.some [(0,1),(1,1)]:=by kernel_rfl
theorem eH:bJ Tryz.prog 183 0=Option.some (0,181):=by kernel_rfl
theorem hC:bJ Tryz.prog 183 1=Option.some (1,60):=by kernel_rfl
end Go.Abs
