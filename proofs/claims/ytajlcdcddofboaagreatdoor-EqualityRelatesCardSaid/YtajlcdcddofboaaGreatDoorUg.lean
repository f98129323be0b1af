/-
  Lemmas. No condition.
-/
import Derived.Test.YtajlcdcddofboaaGreatDoorUf
section
namespace Go.Proofs.Tryz.Kn
open Go Go.CE Go.RowKit
theorem kp2:zwQ [zw9 2,ofS 2]=true:=by kernel_rfl
theorem kp4:zwQ [zw9 4,ofS 4]=true:=by kernel_rfl
theorem kp6:zwQ [zw9 6,ofS 6]=true:=by kernel_rfl
theorem kp8:zwQ [zw9 8,ofS 8]=true:=by kernel_rfl
theorem zBQ:zwQ [zw9 10,ofS 10]=true:=by kernel_rfl
theorem zBP:zwQ [zw9 12,ofS 12]=true:=by kernel_rfl
theorem zBO:zwQ [zw9 14,ofS 14]=true:=by kernel_rfl
theorem zBN:zwQ [zw9 16,ofS 16]=true:=by kernel_rfl
theorem zBM:zwQ [zw9 20,ofS 20]=true:=by kernel_rfl
theorem zBL:zwQ [zw9 24,ofS 24]=true:=by kernel_rfl
theorem zBK:zwQ [zw9 28,ofS 28]=true:=by kernel_rfl
theorem zBJ:zwQ [zw9 32,ofS 32]=true:=by kernel_rfl
theorem zBI:zwQ [zw9 40,ofS 40]=true:=by kernel_rfl
theorem zBH:zwQ [zw9 48,ofS 48]=true:=by kernel_rfl
theorem zBG:zwQ [zw9 56,ofS 56]=true:=by kernel_rfl
theorem zBF:zwQ [zw9 64,ofS 64]=true:=by kernel_rfl
theorem zBE:zwQ [zw9 80,ofS 80]=true:=by kernel_rfl
theorem zBD:zwQ [zw9 96,ofS 96]=true:=by kernel_rfl
theorem zv6:zwQ [zw9 112,ofS 112]=true:=by kernel_rfl
theorem zv5:zwQ [zw9 128,ofS 128]=true:=by kernel_rfl
theorem zv4:zwQ [zw9 160,ofS 160]=true:=by kernel_rfl
theorem zv3:zwQ [zw9 192,ofS 192]=true:=by kernel_rfl
theorem zv2:zwQ [zw9 256,ofS 256]=true:=by kernel_rfl
theorem zv1:zwQ [zw9 320,ofS 320]=true:=by kernel_rfl
end Go.Proofs.Tryz.Kn
end
