/-
  FACTS ON THE TYPES OF THIS PROGRAM, each by the kernel (printed by a program).
-/
import Derived.Test.YtlomcifkckgneaaGreatDoorProg
import Derived.KernelRfl
import Derived.Test.YtlomcifkckgneaaGreatDoorRn2
set_option linter.unusedSimpArgs false
set_option linter.unusedVariables false
namespace Go.Abs
open Go Go.Proofs
theorem bB:cL Tryz.prog 3=Option.some Option.none:=by kernel_rfl
theorem ck:szOf Tryz.prog 3=Option.some 1:=by kernel_rfl
theorem rH:zeroCells Tryz.prog 3=Option.some [Go.Abs.CV.pv (Go.Abs.PV.int Go.IntKind.i64 0)]:=by kernel_rfl
theorem c7:bT Tryz.prog 3=Option.some (Go.Abs.Desc.int Go.IntKind.i64):=by kernel_rfl
theorem ia:cL Tryz.prog 4=Option.some Option.none:=by kernel_rfl
theorem jN:szOf Tryz.prog 4=Option.some 1:=by kernel_rfl
theorem jM:szOf Tryz.prog 5=Option.some 1:=by kernel_rfl
theorem fk:zeroCells Tryz.prog 5=Option.some [Go.Abs.CV.pv (Go.Abs.PV.int Go.IntKind.u8 0)]:=by kernel_rfl
theorem dt:bT Tryz.prog 5=Option.some (Go.Abs.Desc.int Go.IntKind.u8):=by kernel_rfl
theorem cy:cL Tryz.prog 9=Option.some Option.none:=by kernel_rfl
theorem aE:szOf Tryz.prog 9=Option.some 1:=by kernel_rfl
theorem au:zeroCells Tryz.prog 9=Option.some [Go.Abs.CV.pv (Go.Abs.PV.str [])]:=by kernel_rfl
theorem aa:bT Tryz.prog 9=Option.some Go.Abs.Desc.str:=by kernel_rfl
theorem ui:bT Tryz.prog 21=Option.some (Go.Abs.Desc.int Go.IntKind.i32):=by kernel_rfl
theorem dS:cL Tryz.prog 23=Option.some Option.none:=by kernel_rfl
theorem dK:szOf Tryz.prog 23=Option.some 1:=by kernel_rfl
theorem cO:iw Tryz.prog 23=Option.some (93,5):=by kernel_rfl
theorem ah:bT Tryz.prog 23=Option.some (Go.Abs.Desc.sl 93 Bool.false):=by kernel_rfl
theorem kf:cL Tryz.prog 31=Option.some Option.none:=by kernel_rfl
theorem pq:zeroCells Tryz.prog 31=Option.some [Go.Abs.CV.nils]:=by kernel_rfl
theorem aM:bT Tryz.prog 31=Option.some (Go.Abs.Desc.sl 47 Bool.false):=by kernel_rfl
theorem fL:bT Tryz.prog 41=Option.some (Go.Abs.Desc.sl 23 Bool.false):=by kernel_rfl
theorem iA:cL Tryz.prog 45=Option.some Option.none:=by kernel_rfl
theorem kx:szOf Tryz.prog 45=Option.some 1:=by kernel_rfl
theorem jx:iw Tryz.prog 45=Option.some (50,2):=by kernel_rfl
theorem aQ:bT Tryz.prog 45=Option.some (Go.Abs.Desc.sl 50 Bool.false):=by kernel_rfl
theorem nc:cL Tryz.prog 47=Option.some (Option.some 2):=by kernel_rfl
theorem f9:szOf Tryz.prog 47=Option.some 2:=by kernel_rfl
theorem ec:zeroCells Tryz.prog 47=Option.some [Go.Abs.CV.nils,Go.Abs.CV.pv (Go.Abs.PV.str [])]:=by kernel_rfl
theorem rm:dM Tryz.prog 47=Option.some [(0,1),(1,1)]:=by kernel_rfl
theorem fB:bv Tryz.prog 47 0=Option.some (0,45):=by kernel_rfl
theorem fI:bv Tryz.prog 47 1=Option.some (1,9):=by kernel_rfl
theorem km:cL Tryz.prog 48=Option.some Option.none:=by kernel_rfl
theorem mC:szOf Tryz.prog 48=Option.some 1:=by kernel_rfl
theorem r5:iw Tryz.prog 48=Option.some (52,6):=by kernel_rfl
theorem bG:bT Tryz.prog 48=Option.some (Go.Abs.Desc.sl 52 Bool.false):=by kernel_rfl
theorem mN:cL Tryz.prog 50=Option.some (Option.some 2):=by kernel_rfl
theorem gc:szOf Tryz.prog 50=Option.some 2:=by kernel_rfl
theorem cP:zeroCells Tryz.prog 50=Option.some [Go.Abs.CV.pv (Go.Abs.PV.int Go.IntKind.i64 0),Go.Abs.CV.nils]:=by kernel_rfl
theorem gB:dM Tryz.prog 50=Option.some [(0,1),(1,1)]:=by kernel_rfl
theorem nU:bv Tryz.prog 50 0=Option.some (0,3):=by kernel_rfl
theorem gM:bv Tryz.prog 50 1=Option.some (1,48):=by kernel_rfl
theorem fC:cL Tryz.prog 52=Option.some (Option.some 6):=by kernel_rfl
theorem eN:szOf Tryz.prog 52=Option.some 6:=by kernel_rfl
theorem ar:zeroCells Tryz.prog 52=Option.some [Go.Abs.CV.pv (Go.Abs.PV.int Go.IntKind.i64 0),Go.Abs.CV.pv (Go.Abs.PV.str []),Go.Abs.CV.pv (Go.Abs.PV.str []),Go.Abs.CV.pv (Go.Abs.PV.int Go.IntKind.i64 0),Go.Abs.CV.pv (Go.Abs.PV.int Go.IntKind.i64 0),Go.Abs.CV.nils]:=by kernel_rfl
theorem aF:dM Tryz.prog 52=Option.some [(0,1),(1,1),(2,1),(3,1),(4,1),(5,1)]:=by kernel_rfl
theorem fG:bv Tryz.prog 52 0=Option.some (0,3):=by kernel_rfl
theorem jT:bv Tryz.prog 52 1=Option.some (1,9):=by kernel_rfl
theorem jY:bv Tryz.prog 52 2=Option.some (2,9):=by kernel_rfl
theorem nY:bv Tryz.prog 52 3=Option.some (3,3):=by kernel_rfl
theorem n9:bv Tryz.prog 52 4=Option.some (4,3):=by kernel_rfl
theorem nS:bv Tryz.prog 52 5=Option.some (5,48):=by kernel_rfl
theorem c6:cL Tryz.prog 60=Option.some Option.none:=by kernel_rfl
theorem dI:szOf Tryz.prog 60=Option.some 1:=by kernel_rfl
theorem dU:iw Tryz.prog 60=Option.some (91,3):=by kernel_rfl
theorem ag:bT Tryz.prog 60=Option.some (Go.Abs.Desc.sl 91 Bool.false):=by kernel_rfl
theorem dA:bT Tryz.prog 64=Option.some (Go.Abs.Desc.sl 5 Bool.true):=by kernel_rfl
theorem aL:cL Tryz.prog 91=Option.some (Option.some 3):=by kernel_rfl
theorem aG:szOf Tryz.prog 91=Option.some 3:=by kernel_rfl
theorem ae:zeroCells Tryz.prog 91=Option.some [Go.Abs.CV.pv (Go.Abs.PV.int Go.IntKind.i64 0),Go.Abs.CV.pv (Go.Abs.PV.str []),Go.Abs.CV.pv (Go.Abs.PV.int Go.IntKind.i64 0)]:=by kernel_rfl
theorem aA:dM Tryz.prog 91=Option.some [(0,1),(1,1),(2,1)]:=by kernel_rfl
theorem cR:bv Tryz.prog 91 0=Option.some (0,3):=by kernel_rfl
theorem c8:bv Tryz.prog 91 1=Option.some (1,9):=by kernel_rfl
theorem fF:bv Tryz.prog 91 2=Option.some (2,3):=by kernel_rfl
theorem c5:cL Tryz.prog 93=Option.some (Option.some 5):=by kernel_rfl
theorem aZ:szOf Tryz.prog 93=Option.some 5:=by kernel_rfl
theorem ax:zeroCells Tryz.prog 93=Option.some [Go.Abs.CV.pv (Go.Abs.PV.int Go.IntKind.i64 0),Go.Abs.CV.pv (Go.Abs.PV.int Go.IntKind.i64 0),Go.Abs.CV.pv (Go.Abs.PV.str []),Go.Abs.CV.pv (Go.Abs.PV.int Go.IntKind.i64 0),Go.Abs.CV.nils]:=by kernel_rfl
theorem bm:dM Tryz.prog 93=Option.some [(0,1),(1,3),(4,1)]:=by kernel_rfl
theorem cx:bv Tryz.prog 93 0=Option.some (0,3):=by kernel_rfl
theorem bz:bv Tryz.prog 93 1=Option.some (1,91):=by kernel_rfl
theorem dz:bv Tryz.prog 93 2=Option.some (4,23):=by kernel_rfl
theorem ay:bT Tryz.prog 97=Option.some (Go.Abs.Desc.sl 9 Bool.false):=by kernel_rfl
theorem rS:cL Tryz.prog 102=Option.some (Option.some 3):=by kernel_rfl
theorem pb:szOf Tryz.prog 102=Option.some 3:=by kernel_rfl
theorem fN:zeroCells Tryz.prog 102=Option.some [Go.Abs.CV.nils,Go.Abs.CV.pv (Go.Abs.PV.int Go.IntKind.i64 0),Go.Abs.CV.pv (Go.Abs.PV.bool Bool.false)]:=by kernel_rfl
theorem kN:dM Tryz.prog 102=Option.some [(0,1),(1,1),(2,1)]:=by kernel_rfl
theorem jn:bv Tryz.prog 102 0=Option.some (0,23):=by kernel_rfl
theorem mV:bv Tryz.prog 102 1=Option.some (1,3):=by kernel_rfl
theorem jb:bv Tryz.prog 102 2=Option.some (2,4):=by kernel_rfl
theorem eH:zeroCells Tryz.prog 115=Option.some []:=by kernel_rfl
theorem eX:dM Tryz.prog 115=Option.some []:=by kernel_rfl
theorem jI:iG Tryz.prog 115=Bool.true:=by kernel_rfl
theorem aP:zeroCells Tryz.prog 118=Option.some [Go.Abs.CV.nils]:=by kernel_rfl
theorem a6:dM Tryz.prog 118=Option.some [(0,1)]:=by kernel_rfl
theorem gC:bv Tryz.prog 118 0=Option.some (0,23):=by kernel_rfl
theorem rT:cL Tryz.prog 146=Option.some (Option.some 5):=by kernel_rfl
theorem wT:szOf Tryz.prog 146=Option.some 5:=by kernel_rfl
theorem jJ:zeroCells Tryz.prog 146=Option.some [Go.Abs.CV.pv (Go.Abs.PV.int Go.IntKind.i64 0),Go.Abs.CV.pv (Go.Abs.PV.str []),Go.Abs.CV.pv (Go.Abs.PV.str []),Go.Abs.CV.pv (Go.Abs.PV.int Go.IntKind.i64 0),Go.Abs.CV.pv (Go.Abs.PV.int Go.IntKind.i64 0)]:=by kernel_rfl
theorem pu:dM Tryz.prog 146=Option.some [(0,1),(1,1),(2,1),(3,1),(4,1)]:=by kernel_rfl
theorem gX:cL Tryz.prog 181=Option.some Option.none:=by kernel_rfl
theorem jf:szOf Tryz.prog 181=Option.some 1:=by kernel_rfl
theorem ao:bT Tryz.prog 181=Option.some Go.Abs.Desc.str:=by kernel_rfl
theorem n7:zeroCells Tryz.prog 183=Option.some [Go.Abs.CV.pv (Go.Abs.PV.str []),Go.Abs.CV.nils]:=by kernel_rfl
theorem pp:dM Tryz.prog 183=Option.some [(0,1),(1,1)]:=by kernel_rfl
theorem fe:bv Tryz.prog 183 0=Option.some (0,181):=by kernel_rfl
theorem jo:bv Tryz.prog 183 1=Option.some (1,60):=by kernel_rfl
end Go.Abs
