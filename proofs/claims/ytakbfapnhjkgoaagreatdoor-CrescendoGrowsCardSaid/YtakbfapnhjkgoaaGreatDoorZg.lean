/-
  Lemmas. No condition.
-/
import Derived.Test.YtakbfapnhjkgoaaGreatDoorZf
section
namespace Go.Proofs.Tryz.Kn
open Go Go.CE Go.RowKit
theorem kp2:xb [zbc 2,ofS 2]=true:=by kernel_rfl
theorem kp4:xb [zbc 4,ofS 4]=true:=by kernel_rfl
theorem kp6:xb [zbc 6,ofS 6]=true:=by kernel_rfl
theorem kp8:xb [zbc 8,ofS 8]=true:=by kernel_rfl
theorem zCB:xb [zbc 10,ofS 10]=true:=by kernel_rfl
theorem zCA:xb [zbc 12,ofS 12]=true:=by kernel_rfl
theorem zCz:xb [zbc 14,ofS 14]=true:=by kernel_rfl
theorem zCy:xb [zbc 16,ofS 16]=true:=by kernel_rfl
theorem zCx:xb [zbc 20,ofS 20]=true:=by kernel_rfl
theorem zCw:xb [zbc 24,ofS 24]=true:=by kernel_rfl
theorem zCv:xb [zbc 28,ofS 28]=true:=by kernel_rfl
theorem zCu:xb [zbc 32,ofS 32]=true:=by kernel_rfl
theorem zCt:xb [zbc 40,ofS 40]=true:=by kernel_rfl
theorem zCs:xb [zbc 48,ofS 48]=true:=by kernel_rfl
theorem zCr:xb [zbc 56,ofS 56]=true:=by kernel_rfl
theorem zCq:xb [zbc 64,ofS 64]=true:=by kernel_rfl
theorem zCp:xb [zbc 80,ofS 80]=true:=by kernel_rfl
theorem zCo:xb [zbc 96,ofS 96]=true:=by kernel_rfl
theorem zz9:xb [zbc 112,ofS 112]=true:=by kernel_rfl
theorem zz8:xb [zbc 128,ofS 128]=true:=by kernel_rfl
theorem zz7:xb [zbc 160,ofS 160]=true:=by kernel_rfl
theorem zz6:xb [zbc 192,ofS 192]=true:=by kernel_rfl
theorem zz5:xb [zbc 256,ofS 256]=true:=by kernel_rfl
theorem zz4:xb [zbc 320,ofS 320]=true:=by kernel_rfl
end Go.Proofs.Tryz.Kn
end
