/-
  Lemmas. No condition.
-/
import Derived.Test.YtaknlhnolkgndaaGreatDoorZh
import Derived.Test.YtaknlhnolkgndaaGreatDoorZi
import Derived.Test.YtaknlhnolkgndaaGreatDoorZj
import Derived.Test.YtaknlhnolkgndaaGreatDoorZk
section
namespace Go.Proofs.Tryz.Kn
open Go Go.CE Go.RowKit
namespace KL
def nsums:List Zl:=[e2,e3,e4,e5,e6,e7,e8,e9,e10,e11,e12,e13]
theorem nsums_ok:∀s∈nsums,kE Tryz.prog s:=by
 intro s hs;simp only[nsums,Yzv,Yzp,or_false]at hs;rcases hs with rfl|rfl|rfl|rfl|rfl|rfl|rfl|rfl|rfl|rfl|rfl|rfl
 .exact zxG
 .exact zxF
 .exact zxE
 .exact zxD
 .exact zxC
 .exact kT
 .exact kM
 .exact kB
 .exact kh
 .exact kb
 .exact jA
 .exact jm
end KL
end Go.Proofs.Tryz.Kn
end
