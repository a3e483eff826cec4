/-
  FACTS ON THE TYPES OF THIS PROGRAM, each by the kernel (printed by a program).
-/
import Derived.Test.YtlomcifkckgneaaGreatDoorRt2
set_option linter.unusedSimpArgs false
set_option linter.unusedVariables false
namespace Go.Abs
open Go Go.Proofs
theorem bG:dF Tryz.prog 3=Option.some Option.none:=by kernel_rfl
theorem cB:szOf Tryz.prog 3=Option.some 1:=by kernel_rfl
theorem rP:zeroCells Tryz.prog 3=Option.some [Go.Abs.CV.pv (Go.Abs.PV.int Go.IntKind.i64 0)]:=by kernel_rfl
theorem cQ:cZ Tryz.prog 3=Option.some (Go.Abs.Desc.int Go.IntKind.i64):=by kernel_rfl
theorem ju:dF Tryz.prog 4=Option.some Option.none:=by kernel_rfl
theorem jQ:szOf Tryz.prog 4=Option.some 1:=by kernel_rfl
theorem jI:rf Tryz.prog 4=Bool.true:=by kernel_rfl
theorem ln:szOf Tryz.prog 5=Option.some 1:=by kernel_rfl
theorem gz:zeroCells Tryz.prog 5=Option.some [Go.Abs.CV.pv (Go.Abs.PV.int Go.IntKind.u8 0)]:=by kernel_rfl
theorem d9:cZ Tryz.prog 5=Option.some (Go.Abs.Desc.int Go.IntKind.u8):=by kernel_rfl
theorem bX:dF Tryz.prog 9=Option.some Option.none:=by kernel_rfl
theorem aL:szOf Tryz.prog 9=Option.some 1:=by kernel_rfl
theorem aH:zeroCells Tryz.prog 9=Option.some [Go.Abs.CV.pv (Go.Abs.PV.str [])]:=by kernel_rfl
theorem al:cZ Tryz.prog 9=Option.some Go.Abs.Desc.str:=by kernel_rfl
theorem wx:cZ Tryz.prog 21=Option.some (Go.Abs.Desc.int Go.IntKind.i32):=by kernel_rfl
theorem ff:dF Tryz.prog 23=Option.some Option.none:=by kernel_rfl
theorem dP:szOf Tryz.prog 23=Option.some 1:=by kernel_rfl
theorem ip:zeroCells Tryz.prog 23=Option.some [Go.Abs.CV.nils]:=by kernel_rfl
theorem de:iQ Tryz.prog 23=Option.some (93,5):=by kernel_rfl
theorem ak:cZ Tryz.prog 23=Option.some (Go.Abs.Desc.sl 93 Bool.false):=by kernel_rfl
theorem lM:dF Tryz.prog 31=Option.some Option.none:=by kernel_rfl
theorem q7:zeroCells Tryz.prog 31=Option.some [Go.Abs.CV.nils]:=by kernel_rfl
theorem kP:iQ Tryz.prog 31=Option.some (47,2):=by kernel_rfl
theorem aQ:cZ Tryz.prog 31=Option.some (Go.Abs.Desc.sl 47 Bool.false):=by kernel_rfl
theorem kR:iQ Tryz.prog 41=Option.some (23,1):=by kernel_rfl
theorem cM:cZ Tryz.prog 41=Option.some (Go.Abs.Desc.sl 23 Bool.false):=by kernel_rfl
theorem gS:dF Tryz.prog 45=Option.some Option.none:=by kernel_rfl
theorem i7:szOf Tryz.prog 45=Option.some 1:=by kernel_rfl
theorem cY:iQ Tryz.prog 45=Option.some (50,2):=by kernel_rfl
theorem aw:cZ Tryz.prog 45=Option.some (Go.Abs.Desc.sl 50 Bool.false):=by kernel_rfl
theorem gK:dF Tryz.prog 47=Option.some (Option.some 2):=by kernel_rfl
theorem fG:szOf Tryz.prog 47=Option.some 2:=by kernel_rfl
theorem a6:zeroCells Tryz.prog 47=Option.some [Go.Abs.CV.nils,Go.Abs.CV.pv (Go.Abs.PV.str [])]:=by kernel_rfl
theorem cG:eR Tryz.prog 47=Option.some [(0,1),(1,1)]:=by kernel_rfl
theorem fj:cq Tryz.prog 47 0=Option.some (0,45):=by kernel_rfl
theorem fk:cq Tryz.prog 47 1=Option.some (1,9):=by kernel_rfl
theorem eM:dF Tryz.prog 48=Option.some Option.none:=by kernel_rfl
theorem fH:szOf Tryz.prog 48=Option.some 1:=by kernel_rfl
theorem nT:iQ Tryz.prog 48=Option.some (52,6):=by kernel_rfl
theorem aa:cZ Tryz.prog 48=Option.some (Go.Abs.Desc.sl 52 Bool.false):=by kernel_rfl
theorem jF:dF Tryz.prog 50=Option.some (Option.some 2):=by kernel_rfl
theorem dl:szOf Tryz.prog 50=Option.some 2:=by kernel_rfl
theorem aP:zeroCells Tryz.prog 50=Option.some [Go.Abs.CV.pv (Go.Abs.PV.int Go.IntKind.i64 0),Go.Abs.CV.nils]:=by kernel_rfl
theorem cL:eR Tryz.prog 50=Option.some [(0,1),(1,1)]:=by kernel_rfl
theorem iZ:cq Tryz.prog 50 0=Option.some (0,3):=by kernel_rfl
theorem fV:cq Tryz.prog 50 1=Option.some (1,48):=by kernel_rfl
theorem dL:dF Tryz.prog 52=Option.some (Option.some 6):=by kernel_rfl
theorem dh:szOf Tryz.prog 52=Option.some 6:=by kernel_rfl
theorem ae:zeroCells Tryz.prog 52=Option.some [Go.Abs.CV.pv (Go.Abs.PV.int Go.IntKind.i64 0),Go.Abs.CV.pv (Go.Abs.PV.str []),Go.Abs.CV.pv (Go.Abs.PV.str []),Go.Abs.CV.pv (Go.Abs.PV.int Go.IntKind.i64 0),Go.Abs.CV.pv (Go.Abs.PV.int Go.IntKind.i64 0),Go.Abs.CV.nils]:=by kernel_rfl
theorem aj:eR Tryz.prog 52=Option.some [(0,1),(1,1),(2,1),(3,1),(4,1),(5,1)]:=by kernel_rfl
theorem c6:cq Tryz.prog 52 0=Option.some (0,3):=by kernel_rfl
theorem dK:cq Tryz.prog 52 1=Option.some (1,9):=by kernel_rfl
theorem dx:cq Tryz.prog 52 2=Option.some (2,9):=by kernel_rfl
theorem eI:cq Tryz.prog 52 3=Option.some (3,3):=by kernel_rfl
theorem eJ:cq Tryz.prog 52 4=Option.some (4,3):=by kernel_rfl
theorem eH:cq Tryz.prog 52 5=Option.some (5,48):=by kernel_rfl
theorem dX:dF Tryz.prog 60=Option.some Option.none:=by kernel_rfl
theorem eZ:szOf Tryz.prog 60=Option.some 1:=by kernel_rfl
theorem kS:iQ Tryz.prog 60=Option.some (91,3):=by kernel_rfl
theorem aE:cZ Tryz.prog 60=Option.some (Go.Abs.Desc.sl 91 Bool.false):=by kernel_rfl
theorem eN:cZ Tryz.prog 64=Option.some (Go.Abs.Desc.sl 5 Bool.true):=by kernel_rfl
theorem wh:dF Tryz.prog 83=Option.some (Option.some 2):=by kernel_rfl
theorem r8:szOf Tryz.prog 83=Option.some 2:=by kernel_rfl
theorem bJ:zeroCells Tryz.prog 83=Option.some [Go.Abs.CV.pv (Go.Abs.PV.int Go.IntKind.i64 0),Go.Abs.CV.pv (Go.Abs.PV.int Go.IntKind.i64 0)]:=by kernel_rfl
theorem cS:xF Tryz.prog 83=Option.some (2,1):=by kernel_rfl
theorem bo:dF Tryz.prog 91=Option.some (Option.some 3):=by kernel_rfl
theorem aZ:szOf Tryz.prog 91=Option.some 3:=by kernel_rfl
theorem ai:zeroCells Tryz.prog 91=Option.some [Go.Abs.CV.pv (Go.Abs.PV.int Go.IntKind.i64 0),Go.Abs.CV.pv (Go.Abs.PV.str []),Go.Abs.CV.pv (Go.Abs.PV.int Go.IntKind.i64 0)]:=by kernel_rfl
theorem am:eR Tryz.prog 91=Option.some [(0,1),(1,1),(2,1)]:=by kernel_rfl
theorem dA:cq Tryz.prog 91 0=Option.some (0,3):=by kernel_rfl
theorem dz:cq Tryz.prog 91 1=Option.some (1,9):=by kernel_rfl
theorem eG:cq Tryz.prog 91 2=Option.some (2,3):=by kernel_rfl
theorem dJ:dF Tryz.prog 93=Option.some (Option.some 5):=by kernel_rfl
theorem bq:szOf Tryz.prog 93=Option.some 5:=by kernel_rfl
theorem aF:zeroCells Tryz.prog 93=Option.some [Go.Abs.CV.pv (Go.Abs.PV.int Go.IntKind.i64 0),Go.Abs.CV.pv (Go.Abs.PV.int Go.IntKind.i64 0),Go.Abs.CV.pv (Go.Abs.PV.str []),Go.Abs.CV.pv (Go.Abs.PV.int Go.IntKind.i64 0),Go.Abs.CV.nils]:=by kernel_rfl
theorem bQ:eR Tryz.prog 93=Option.some [(0,1),(1,3),(4,1)]:=by kernel_rfl
theorem dp:cq Tryz.prog 93 0=Option.some (0,3):=by kernel_rfl
theorem cu:cq Tryz.prog 93 1=Option.some (1,91):=by kernel_rfl
theorem eK:cq Tryz.prog 93 2=Option.some (4,23):=by kernel_rfl
theorem aK:cZ Tryz.prog 97=Option.some (Go.Abs.Desc.sl 9 Bool.false):=by kernel_rfl
theorem uf:dF Tryz.prog 102=Option.some (Option.some 3):=by kernel_rfl
theorem ql:szOf Tryz.prog 102=Option.some 3:=by kernel_rfl
theorem gN:zeroCells Tryz.prog 102=Option.some [Go.Abs.CV.nils,Go.Abs.CV.pv (Go.Abs.PV.int Go.IntKind.i64 0),Go.Abs.CV.pv (Go.Abs.PV.bool Bool.false)]:=by kernel_rfl
theorem ma:eR Tryz.prog 102=Option.some [(0,1),(1,1),(2,1)]:=by kernel_rfl
theorem ky:cq Tryz.prog 102 0=Option.some (0,23):=by kernel_rfl
theorem om:cq Tryz.prog 102 1=Option.some (1,3):=by kernel_rfl
theorem kw:cq Tryz.prog 102 2=Option.some (2,4):=by kernel_rfl
theorem fM:zeroCells Tryz.prog 115=Option.some []:=by kernel_rfl
theorem f9:eR Tryz.prog 115=Option.some []:=by kernel_rfl
theorem kX:jO Tryz.prog 115=Bool.true:=by kernel_rfl
theorem bD:zeroCells Tryz.prog 118=Option.some [Go.Abs.CV.nils]:=by kernel_rfl
theorem bR:eR Tryz.prog 118=Option.some [(0,1)]:=by kernel_rfl
theorem iL:cq Tryz.prog 118 0=Option.some (0,23):=by kernel_rfl
theorem aI:zeroCells Tryz.prog 141=Option.some [Go.Abs.CV.nils,Go.Abs.CV.pv (Go.Abs.PV.int Go.IntKind.i64 0),Go.Abs.CV.pv (Go.Abs.PV.bool Bool.false)]:=by kernel_rfl
theorem aN:eR Tryz.prog 141=Option.some [(0,1),(1,1),(2,1)]:=by kernel_rfl
theorem iR:cq Tryz.prog 141 0=Option.some (0,23):=by kernel_rfl
theorem gp:cq Tryz.prog 141 1=Option.some (1,3):=by kernel_rfl
theorem gu:cq Tryz.prog 141 2=Option.some (2,4):=by kernel_rfl
theorem nC:dF Tryz.prog 146=Option.some (Option.some 5):=by kernel_rfl
theorem qS:szOf Tryz.prog 146=Option.some 5:=by kernel_rfl
theorem gM:zeroCells Tryz.prog 146=Option.some [Go.Abs.CV.pv (Go.Abs.PV.int Go.IntKind.i64 0),Go.Abs.CV.pv (Go.Abs.PV.str []),Go.Abs.CV.pv (Go.Abs.PV.str []),Go.Abs.CV.pv (Go.Abs.PV.int Go.IntKind.i64 0),Go.Abs.CV.pv (Go.Abs.PV.int Go.IntKind.i64 0)]:=by kernel_rfl
theorem mf:eR Tryz.prog 146=Option.some [(0,1),(1,1),(2,1),(3,1),(4,1)]:=by kernel_rfl
theorem ib:dF Tryz.prog 181=Option.some Option.none:=by kernel_rfl
theorem jj:szOf Tryz.prog 181=Option.some 1:=by kernel_rfl
theorem aD:cZ Tryz.prog 181=Option.some Go.Abs.Desc.str:=by kernel_rfl
theorem pI:zeroCells Tryz.prog 183=Option.some [Go.Abs.CV.pv (Go.Abs.PV.str []),Go.Abs.CV.nils]:=by kernel_rfl
theorem qW:eR Tryz.prog 183=Option.some [(0,1),(1,1)]:=by kernel_rfl
theorem fy:cq Tryz.prog 183 0=Option.some (0,181):=by kernel_rfl
theorem kL:cq Tryz.prog 183 1=Option.some (1,60):=by kernel_rfl
end Go.Abs
