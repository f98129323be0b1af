/-
  Lemmas: Shc. No condition.
-/
import Derived.Test.YtekpghfdglhonaaGreatDoorUf
section
namespace Go.Proofs.Tryz.Kn
open Go Go.CE Go.RowKit
theorem km32:chks (xf (32,7))=true:=by kernel_rfl
theorem km40:chks (xf (40,8))=true:=by kernel_rfl
theorem km48:chks (xf (48,9))=true:=by kernel_rfl
theorem km56:chks (xf (56,9))=true:=by kernel_rfl
theorem km64:chks (xf (64,7))=true:=by kernel_rfl
theorem km80:chks (xf (80,8))=true:=by kernel_rfl
theorem km96:chks (xf (96,9))=true:=by kernel_rfl
theorem zs9:chks (xf (112,2))=true:=by kernel_rfl
theorem zs8:chks (xf (128,7))=true:=by kernel_rfl
theorem zs7:chks (xf (256,4))=true:=by kernel_rfl
end Go.Proofs.Tryz.Kn
end
