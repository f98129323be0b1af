/-
  Lemmas. No condition.
-/
import Derived.Test.YtfmceamccfhfcaaGreatDoorXe
section
namespace Go.Proofs.Tryz.Kn
open Go Go.CE Go.RowKit
theorem kp2:xy [za0 2,ofS 2]=true:=by kernel_rfl
theorem kp4:xy [za0 4,ofS 4]=true:=by kernel_rfl
theorem kp6:xy [za0 6,ofS 6]=true:=by kernel_rfl
theorem kp8:xy [za0 8,ofS 8]=true:=by kernel_rfl
theorem zDJ:xy [za0 10,ofS 10]=true:=by kernel_rfl
theorem zDI:xy [za0 12,ofS 12]=true:=by kernel_rfl
theorem zDH:xy [za0 14,ofS 14]=true:=by kernel_rfl
theorem zDG:xy [za0 16,ofS 16]=true:=by kernel_rfl
theorem zDF:xy [za0 20,ofS 20]=true:=by kernel_rfl
theorem zDE:xy [za0 24,ofS 24]=true:=by kernel_rfl
theorem zDD:xy [za0 28,ofS 28]=true:=by kernel_rfl
theorem zDC:xy [za0 32,ofS 32]=true:=by kernel_rfl
theorem zDB:xy [za0 40,ofS 40]=true:=by kernel_rfl
theorem zDA:xy [za0 48,ofS 48]=true:=by kernel_rfl
theorem zDz:xy [za0 56,ofS 56]=true:=by kernel_rfl
theorem zDy:xy [za0 64,ofS 64]=true:=by kernel_rfl
theorem zDx:xy [za0 80,ofS 80]=true:=by kernel_rfl
theorem zDw:xy [za0 96,ofS 96]=true:=by kernel_rfl
theorem zAV:xy [za0 112,ofS 112]=true:=by kernel_rfl
theorem zAU:xy [za0 128,ofS 128]=true:=by kernel_rfl
theorem zAT:xy [za0 160,ofS 160]=true:=by kernel_rfl
theorem zAS:xy [za0 192,ofS 192]=true:=by kernel_rfl
theorem zAR:xy [za0 256,ofS 256]=true:=by kernel_rfl
theorem zAQ:xy [za0 320,ofS 320]=true:=by kernel_rfl
end Go.Proofs.Tryz.Kn
end
