/-
  Lemmas. No condition.
-/
import Derived.Test.YthnijnblnoflnaaGreatDoorXe
section
namespace Go.Proofs.Tryz.Kn
open Go Go.CE Go.RowKit
theorem kp2:yT [q7 2,ofS 2]=true:=by kernel_rfl
theorem kp4:yT [q7 4,ofS 4]=true:=by kernel_rfl
theorem kp6:yT [q7 6,ofS 6]=true:=by kernel_rfl
theorem kp8:yT [q7 8,ofS 8]=true:=by kernel_rfl
theorem zzl:yT [q7 10,ofS 10]=true:=by kernel_rfl
theorem zzk:yT [q7 12,ofS 12]=true:=by kernel_rfl
theorem zzj:yT [q7 14,ofS 14]=true:=by kernel_rfl
theorem zzi:yT [q7 16,ofS 16]=true:=by kernel_rfl
theorem zzh:yT [q7 20,ofS 20]=true:=by kernel_rfl
theorem zzg:yT [q7 24,ofS 24]=true:=by kernel_rfl
theorem zzf:yT [q7 28,ofS 28]=true:=by kernel_rfl
theorem zze:yT [q7 32,ofS 32]=true:=by kernel_rfl
theorem zzd:yT [q7 40,ofS 40]=true:=by kernel_rfl
theorem zzc:yT [q7 48,ofS 48]=true:=by kernel_rfl
theorem zzb:yT [q7 56,ofS 56]=true:=by kernel_rfl
theorem zza:yT [q7 64,ofS 64]=true:=by kernel_rfl
theorem zy9:yT [q7 80,ofS 80]=true:=by kernel_rfl
theorem zy8:yT [q7 96,ofS 96]=true:=by kernel_rfl
theorem zwW:yT [q7 112,ofS 112]=true:=by kernel_rfl
theorem zwV:yT [q7 128,ofS 128]=true:=by kernel_rfl
theorem zwU:yT [q7 160,ofS 160]=true:=by kernel_rfl
theorem zwT:yT [q7 192,ofS 192]=true:=by kernel_rfl
theorem zwS:yT [q7 256,ofS 256]=true:=by kernel_rfl
theorem zwR:yT [q7 320,ofS 320]=true:=by kernel_rfl
end Go.Proofs.Tryz.Kn
end
