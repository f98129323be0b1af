/-
  Lemmas. No condition.
-/
import Derived.Test.YtajlcdcddofboaaGreatDoorUf
section
namespace Go.Proofs.Tryz.Kn
open Go Go.CE Go.RowKit
theorem km2:zwQ (xw (2,0))=true:=by kernel_rfl
theorem km4:zwQ (xw (4,0))=true:=by kernel_rfl
theorem km6:zwQ (xw (6,5))=true:=by kernel_rfl
theorem km8:zwQ (xw (8,7))=true:=by kernel_rfl
theorem zB4:zwQ (xw (10,8))=true:=by kernel_rfl
theorem zB3:zwQ (xw (12,5))=true:=by kernel_rfl
theorem zB2:zwQ (xw (14,2))=true:=by kernel_rfl
theorem zB1:zwQ (xw (16,7))=true:=by kernel_rfl
theorem zB0:zwQ (xw (20,8))=true:=by kernel_rfl
theorem zBZ:zwQ (xw (24,9))=true:=by kernel_rfl
theorem zBY:zwQ (xw (28,2))=true:=by kernel_rfl
end Go.Proofs.Tryz.Kn
end
