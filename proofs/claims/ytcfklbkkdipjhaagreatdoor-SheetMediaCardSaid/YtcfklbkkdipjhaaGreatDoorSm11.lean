/-
  Items of a sheet as the interpreter's data.
-/
import Derived.Test.YtcfklbkkdipjhaaGreatDoorSm10
set_option linter.unusedSimpArgs false
set_option linter.unusedVariables false
namespace Go.Abs
mutual
def Itm.enc:Itm→List PV
 | .mk k s d n a b v l=>[.int .i64 k,.sl (s.map Cpx.enc),.sl (encD d),.sl (encT n),.int .i64 a,.int .i64 b,.sl (encL v),.sl (encI l)]
def encI:List Itm→List (List PV)
 | []=>[]
 | x::l=>x.enc::encI l
end
end Go.Abs
