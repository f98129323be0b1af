/-
  Lemmas. No condition.
-/
import Derived.Test.YthnijnblnoflnaaGreatDoorXe
section
namespace Go.Proofs.Tryz.Kn
open Go Go.CE Go.RowKit
theorem km2:yT (xd (2,0))=true:=by kernel_rfl
theorem km4:yT (xd (4,0))=true:=by kernel_rfl
theorem km6:yT (xd (6,5))=true:=by kernel_rfl
theorem km8:yT (xd (8,7))=true:=by kernel_rfl
theorem zzz:yT (xd (10,8))=true:=by kernel_rfl
theorem zzy:yT (xd (12,5))=true:=by kernel_rfl
theorem zzx:yT (xd (14,2))=true:=by kernel_rfl
theorem zzw:yT (xd (16,7))=true:=by kernel_rfl
theorem zzv:yT (xd (20,8))=true:=by kernel_rfl
theorem zzu:yT (xd (24,9))=true:=by kernel_rfl
theorem zzt:yT (xd (28,2))=true:=by kernel_rfl
end Go.Proofs.Tryz.Kn
end
