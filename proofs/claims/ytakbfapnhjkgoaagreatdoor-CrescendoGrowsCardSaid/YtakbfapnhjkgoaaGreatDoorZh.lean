/-
  Lemmas. No condition.
-/
import Derived.Test.YtakbfapnhjkgoaaGreatDoorZf
section
namespace Go.Proofs.Tryz.Kn
open Go Go.CE Go.RowKit
theorem km2:xb (xF (2,0))=true:=by kernel_rfl
theorem km4:xb (xF (4,0))=true:=by kernel_rfl
theorem km6:xb (xF (6,5))=true:=by kernel_rfl
theorem km8:xb (xF (8,7))=true:=by kernel_rfl
theorem zCP:xb (xF (10,8))=true:=by kernel_rfl
theorem zCO:xb (xF (12,5))=true:=by kernel_rfl
theorem zCN:xb (xF (14,2))=true:=by kernel_rfl
theorem zCM:xb (xF (16,7))=true:=by kernel_rfl
theorem zCL:xb (xF (20,8))=true:=by kernel_rfl
theorem zCK:xb (xF (24,9))=true:=by kernel_rfl
theorem zCJ:xb (xF (28,2))=true:=by kernel_rfl
end Go.Proofs.Tryz.Kn
end
