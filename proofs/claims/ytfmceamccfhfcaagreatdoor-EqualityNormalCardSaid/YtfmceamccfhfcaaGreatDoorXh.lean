/-
  Lemmas. No condition.
-/
import Derived.Test.YtfmceamccfhfcaaGreatDoorXe
section
namespace Go.Proofs.Tryz.Kn
open Go Go.CE Go.RowKit
theorem zDQ:xy (xX (32,7))=true:=by kernel_rfl
theorem zDP:xy (xX (40,8))=true:=by kernel_rfl
theorem zDO:xy (xX (48,9))=true:=by kernel_rfl
theorem zDN:xy (xX (56,9))=true:=by kernel_rfl
theorem zDM:xy (xX (64,7))=true:=by kernel_rfl
theorem zDL:xy (xX (80,8))=true:=by kernel_rfl
theorem zDK:xy (xX (96,9))=true:=by kernel_rfl
theorem zAY:xy (xX (112,2))=true:=by kernel_rfl
theorem zAX:xy (xX (128,7))=true:=by kernel_rfl
theorem zAW:xy (xX (256,4))=true:=by kernel_rfl
end Go.Proofs.Tryz.Kn
end
