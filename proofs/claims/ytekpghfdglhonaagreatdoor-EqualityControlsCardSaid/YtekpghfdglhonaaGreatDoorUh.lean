/-
  Lemmas: Shb. No condition.
-/
import Derived.Test.YtekpghfdglhonaaGreatDoorUf
section
namespace Go.Proofs.Tryz.Kn
open Go Go.CE Go.RowKit
theorem km2:chks (xf (2,0))=true:=by kernel_rfl
theorem km4:chks (xf (4,0))=true:=by kernel_rfl
theorem km6:chks (xf (6,5))=true:=by kernel_rfl
theorem km8:chks (xf (8,7))=true:=by kernel_rfl
theorem km10:chks (xf (10,8))=true:=by kernel_rfl
theorem km12:chks (xf (12,5))=true:=by kernel_rfl
theorem km14:chks (xf (14,2))=true:=by kernel_rfl
theorem km16:chks (xf (16,7))=true:=by kernel_rfl
theorem km20:chks (xf (20,8))=true:=by kernel_rfl
theorem km24:chks (xf (24,9))=true:=by kernel_rfl
theorem km28:chks (xf (28,2))=true:=by kernel_rfl
end Go.Proofs.Tryz.Kn
end
