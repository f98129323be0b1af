/-
  Lemmas. No condition.
-/
import Derived.Test.YtfmceamccfhfcaaGreatDoorXe
section
namespace Go.Proofs.Tryz.Kn
open Go Go.CE Go.RowKit
theorem km2:xy (xX (2,0))=true:=by kernel_rfl
theorem km4:xy (xX (4,0))=true:=by kernel_rfl
theorem km6:xy (xX (6,5))=true:=by kernel_rfl
theorem km8:xy (xX (8,7))=true:=by kernel_rfl
theorem zDX:xy (xX (10,8))=true:=by kernel_rfl
theorem zDW:xy (xX (12,5))=true:=by kernel_rfl
theorem zDV:xy (xX (14,2))=true:=by kernel_rfl
theorem zDU:xy (xX (16,7))=true:=by kernel_rfl
theorem zDT:xy (xX (20,8))=true:=by kernel_rfl
theorem zDS:xy (xX (24,9))=true:=by kernel_rfl
theorem zDR:xy (xX (28,2))=true:=by kernel_rfl
end Go.Proofs.Tryz.Kn
end
