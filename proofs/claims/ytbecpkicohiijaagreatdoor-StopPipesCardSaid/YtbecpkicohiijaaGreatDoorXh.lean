/-
  Lemmas: Sh. No condition.
-/
import Derived.Test.YtbecpkicohiijaaGreatDoorZg
section
namespace Go.Proofs.Tryz.Kn
open Go Go.CE Go.PE
set_option maxRecDepth 10000
end Go.Proofs.Tryz.Kn
end
