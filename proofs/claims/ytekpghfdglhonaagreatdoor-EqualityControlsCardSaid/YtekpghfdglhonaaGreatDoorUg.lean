/-
  Lemmas: Sha. No condition.
-/
import Derived.Test.YtekpghfdglhonaaGreatDoorUf
section
namespace Go.Proofs.Tryz.Kn
open Go Go.CE Go.RowKit
theorem kp2:chks [powS 2,ofS 2]=true:=by kernel_rfl
theorem kp4:chks [powS 4,ofS 4]=true:=by kernel_rfl
theorem kp6:chks [powS 6,ofS 6]=true:=by kernel_rfl
theorem kp8:chks [powS 8,ofS 8]=true:=by kernel_rfl
theorem kp10:chks [powS 10,ofS 10]=true:=by kernel_rfl
theorem kp12:chks [powS 12,ofS 12]=true:=by kernel_rfl
theorem kp14:chks [powS 14,ofS 14]=true:=by kernel_rfl
theorem kp16:chks [powS 16,ofS 16]=true:=by kernel_rfl
theorem kp20:chks [powS 20,ofS 20]=true:=by kernel_rfl
theorem kp24:chks [powS 24,ofS 24]=true:=by kernel_rfl
theorem kp28:chks [powS 28,ofS 28]=true:=by kernel_rfl
theorem kp32:chks [powS 32,ofS 32]=true:=by kernel_rfl
theorem kp40:chks [powS 40,ofS 40]=true:=by kernel_rfl
theorem kp48:chks [powS 48,ofS 48]=true:=by kernel_rfl
theorem kp56:chks [powS 56,ofS 56]=true:=by kernel_rfl
theorem kp64:chks [powS 64,ofS 64]=true:=by kernel_rfl
theorem kp80:chks [powS 80,ofS 80]=true:=by kernel_rfl
theorem kp96:chks [powS 96,ofS 96]=true:=by kernel_rfl
theorem zs6:chks [powS 112,ofS 112]=true:=by kernel_rfl
theorem zs5:chks [powS 128,ofS 128]=true:=by kernel_rfl
theorem zs4:chks [powS 160,ofS 160]=true:=by kernel_rfl
theorem zs3:chks [powS 192,ofS 192]=true:=by kernel_rfl
theorem zs2:chks [powS 256,ofS 256]=true:=by kernel_rfl
theorem zs1:chks [powS 320,ofS 320]=true:=by kernel_rfl
end Go.Proofs.Tryz.Kn
end
