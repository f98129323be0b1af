/-
  Lemmas. No condition.
-/
import Derived.Test.YtnmjdoahlkcflaaGreatDoorZe
section
namespace Go.Proofs.Tryz.Kn
open Go Go.CE Go.RowKit
theorem kp2:y4 [zb0 2,ofS 2]=true:=by kernel_rfl
theorem kp4:y4 [zb0 4,ofS 4]=true:=by kernel_rfl
theorem kp6:y4 [zb0 6,ofS 6]=true:=by kernel_rfl
theorem kp8:y4 [zb0 8,ofS 8]=true:=by kernel_rfl
theorem zCW:y4 [zb0 10,ofS 10]=true:=by kernel_rfl
theorem zCV:y4 [zb0 12,ofS 12]=true:=by kernel_rfl
theorem zCU:y4 [zb0 14,ofS 14]=true:=by kernel_rfl
theorem zCT:y4 [zb0 16,ofS 16]=true:=by kernel_rfl
theorem zCS:y4 [zb0 20,ofS 20]=true:=by kernel_rfl
theorem zCR:y4 [zb0 24,ofS 24]=true:=by kernel_rfl
theorem zCQ:y4 [zb0 28,ofS 28]=true:=by kernel_rfl
theorem zCP:y4 [zb0 32,ofS 32]=true:=by kernel_rfl
theorem zCO:y4 [zb0 40,ofS 40]=true:=by kernel_rfl
theorem zCN:y4 [zb0 48,ofS 48]=true:=by kernel_rfl
theorem zCM:y4 [zb0 56,ofS 56]=true:=by kernel_rfl
theorem zCL:y4 [zb0 64,ofS 64]=true:=by kernel_rfl
theorem zCK:y4 [zb0 80,ofS 80]=true:=by kernel_rfl
theorem zCJ:y4 [zb0 96,ofS 96]=true:=by kernel_rfl
theorem zAo:y4 [zb0 112,ofS 112]=true:=by kernel_rfl
theorem zAn:y4 [zb0 128,ofS 128]=true:=by kernel_rfl
theorem zAm:y4 [zb0 160,ofS 160]=true:=by kernel_rfl
theorem zAl:y4 [zb0 192,ofS 192]=true:=by kernel_rfl
theorem zAk:y4 [zb0 256,ofS 256]=true:=by kernel_rfl
theorem zAj:y4 [zb0 320,ofS 320]=true:=by kernel_rfl
end Go.Proofs.Tryz.Kn
end
