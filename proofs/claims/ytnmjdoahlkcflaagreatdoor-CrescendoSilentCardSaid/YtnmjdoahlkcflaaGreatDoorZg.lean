/-
  Lemmas. No condition.
-/
import Derived.Test.YtnmjdoahlkcflaaGreatDoorZe
section
namespace Go.Proofs.Tryz.Kn
open Go Go.CE Go.RowKit
theorem km2:y4 (xz (2,0))=true:=by kernel_rfl
theorem km4:y4 (xz (4,0))=true:=by kernel_rfl
theorem km6:y4 (xz (6,5))=true:=by kernel_rfl
theorem km8:y4 (xz (8,7))=true:=by kernel_rfl
theorem zDa:y4 (xz (10,8))=true:=by kernel_rfl
theorem zC9:y4 (xz (12,5))=true:=by kernel_rfl
theorem zC8:y4 (xz (14,2))=true:=by kernel_rfl
theorem zC7:y4 (xz (16,7))=true:=by kernel_rfl
theorem zC6:y4 (xz (20,8))=true:=by kernel_rfl
theorem zC5:y4 (xz (24,9))=true:=by kernel_rfl
theorem zC4:y4 (xz (28,2))=true:=by kernel_rfl
end Go.Proofs.Tryz.Kn
end
