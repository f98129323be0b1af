/-
  Lemmas. No condition.
-/
import Derived.Test.YtakbfapnhjkgoaaGreatDoorZf
section
namespace Go.Proofs.Tryz.Kn
open Go Go.CE Go.RowKit
theorem zCI:xb (xF (32,7))=true:=by kernel_rfl
theorem zCH:xb (xF (40,8))=true:=by kernel_rfl
theorem zCG:xb (xF (48,9))=true:=by kernel_rfl
theorem zCF:xb (xF (56,9))=true:=by kernel_rfl
theorem zCE:xb (xF (64,7))=true:=by kernel_rfl
theorem zCD:xb (xF (80,8))=true:=by kernel_rfl
theorem zCC:xb (xF (96,9))=true:=by kernel_rfl
theorem zAc:xb (xF (112,2))=true:=by kernel_rfl
theorem zAb:xb (xF (128,7))=true:=by kernel_rfl
theorem zAa:xb (xF (256,4))=true:=by kernel_rfl
end Go.Proofs.Tryz.Kn
end
