/-
  Lemmas. No condition.
-/
import Derived.Test.YtaknlhnolkgndaaGreatDoorZe
section
namespace Go.Proofs.Tryz.Kn
open Go Go.CE Go.RowKit
theorem kp2:yS [zac 2,ofS 2]=true:=by kernel_rfl
theorem kp4:yS [zac 4,ofS 4]=true:=by kernel_rfl
theorem kp6:yS [zac 6,ofS 6]=true:=by kernel_rfl
theorem kp8:yS [zac 8,ofS 8]=true:=by kernel_rfl
theorem zzo:yS [zac 10,ofS 10]=true:=by kernel_rfl
theorem zzn:yS [zac 12,ofS 12]=true:=by kernel_rfl
theorem zzm:yS [zac 14,ofS 14]=true:=by kernel_rfl
theorem zzl:yS [zac 16,ofS 16]=true:=by kernel_rfl
theorem zzk:yS [zac 20,ofS 20]=true:=by kernel_rfl
theorem zzj:yS [zac 24,ofS 24]=true:=by kernel_rfl
theorem zzi:yS [zac 28,ofS 28]=true:=by kernel_rfl
theorem zzh:yS [zac 32,ofS 32]=true:=by kernel_rfl
theorem zzg:yS [zac 40,ofS 40]=true:=by kernel_rfl
theorem zzf:yS [zac 48,ofS 48]=true:=by kernel_rfl
theorem zze:yS [zac 56,ofS 56]=true:=by kernel_rfl
theorem zzd:yS [zac 64,ofS 64]=true:=by kernel_rfl
theorem zzc:yS [zac 80,ofS 80]=true:=by kernel_rfl
theorem zzb:yS [zac 96,ofS 96]=true:=by kernel_rfl
theorem zxh:yS [zac 112,ofS 112]=true:=by kernel_rfl
theorem zxg:yS [zac 128,ofS 128]=true:=by kernel_rfl
theorem zxf:yS [zac 160,ofS 160]=true:=by kernel_rfl
theorem zxe:yS [zac 192,ofS 192]=true:=by kernel_rfl
theorem zxd:yS [zac 256,ofS 256]=true:=by kernel_rfl
theorem zxc:yS [zac 320,ofS 320]=true:=by kernel_rfl
end Go.Proofs.Tryz.Kn
end
