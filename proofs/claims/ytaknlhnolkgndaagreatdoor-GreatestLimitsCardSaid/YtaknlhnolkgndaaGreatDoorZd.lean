/-
  Lemmas. No condition.
-/
import Derived.Test.YtaknlhnolkgndaaGreatDoorVb
import Derived.Test.YtaknlhnolkgndaaGreatDoorProg
noncomputable section
namespace Go.Proofs.Tryz.Kn
open Go Go.CE Go.RowKit
def fs:Nat->Option Zj:=cFs (yL Tryz.prog)
theorem zpE:zqI Tryz.prog fs:=zlQ _
def str(s:ByteArray):Zb:=.s (.one (.str s))
end Go.Proofs.Tryz.Kn
end
