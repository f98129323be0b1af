/-
  Lemmas. No condition.
-/
import Derived.Test.YthnijnblnoflnaaGreatDoorXe
section
namespace Go.Proofs.Tryz.Kn
open Go Go.CE Go.RowKit
theorem zzs:yT (xd (32,7))=true:=by kernel_rfl
theorem zzr:yT (xd (40,8))=true:=by kernel_rfl
theorem zzq:yT (xd (48,9))=true:=by kernel_rfl
theorem zzp:yT (xd (56,9))=true:=by kernel_rfl
theorem zzo:yT (xd (64,7))=true:=by kernel_rfl
theorem zzn:yT (xd (80,8))=true:=by kernel_rfl
theorem zzm:yT (xd (96,9))=true:=by kernel_rfl
theorem zwZ:yT (xd (112,2))=true:=by kernel_rfl
theorem zwY:yT (xd (128,7))=true:=by kernel_rfl
theorem zwX:yT (xd (256,4))=true:=by kernel_rfl
end Go.Proofs.Tryz.Kn
end
