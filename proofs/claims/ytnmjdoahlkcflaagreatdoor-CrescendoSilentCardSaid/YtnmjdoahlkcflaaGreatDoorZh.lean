/-
  Lemmas. No condition.
-/
import Derived.Test.YtnmjdoahlkcflaaGreatDoorZe
section
namespace Go.Proofs.Tryz.Kn
open Go Go.CE Go.RowKit
theorem zC3:y4 (xz (32,7))=true:=by kernel_rfl
theorem zC2:y4 (xz (40,8))=true:=by kernel_rfl
theorem zC1:y4 (xz (48,9))=true:=by kernel_rfl
theorem zC0:y4 (xz (56,9))=true:=by kernel_rfl
theorem zCZ:y4 (xz (64,7))=true:=by kernel_rfl
theorem zCY:y4 (xz (80,8))=true:=by kernel_rfl
theorem zCX:y4 (xz (96,9))=true:=by kernel_rfl
theorem zAr:y4 (xz (112,2))=true:=by kernel_rfl
theorem zAq:y4 (xz (128,7))=true:=by kernel_rfl
theorem zAp:y4 (xz (256,4))=true:=by kernel_rfl
end Go.Proofs.Tryz.Kn
end
