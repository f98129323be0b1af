/-
  Lemmas. No condition.
-/
import Derived.Test.YtkgdjnaidkhniaaGreatDoorZe
section
namespace Go.Proofs.Tryz.Kn
open Go Go.CE Go.RowKit
theorem kp2:xi [zdy 2,ofS 2]=true:=by kernel_rfl
theorem kp4:xi [zdy 4,ofS 4]=true:=by kernel_rfl
theorem kp6:xi [zdy 6,ofS 6]=true:=by kernel_rfl
theorem kp8:xi [zdy 8,ofS 8]=true:=by kernel_rfl
theorem zGU:xi [zdy 10,ofS 10]=true:=by kernel_rfl
theorem zGT:xi [zdy 12,ofS 12]=true:=by kernel_rfl
theorem zGS:xi [zdy 14,ofS 14]=true:=by kernel_rfl
theorem zGR:xi [zdy 16,ofS 16]=true:=by kernel_rfl
theorem zGQ:xi [zdy 20,ofS 20]=true:=by kernel_rfl
theorem zGP:xi [zdy 24,ofS 24]=true:=by kernel_rfl
theorem zGO:xi [zdy 28,ofS 28]=true:=by kernel_rfl
theorem zGN:xi [zdy 32,ofS 32]=true:=by kernel_rfl
theorem zGM:xi [zdy 40,ofS 40]=true:=by kernel_rfl
theorem zGL:xi [zdy 48,ofS 48]=true:=by kernel_rfl
theorem zGK:xi [zdy 56,ofS 56]=true:=by kernel_rfl
theorem zGJ:xi [zdy 64,ofS 64]=true:=by kernel_rfl
theorem zGI:xi [zdy 80,ofS 80]=true:=by kernel_rfl
theorem zGH:xi [zdy 96,ofS 96]=true:=by kernel_rfl
theorem zDY:xi [zdy 112,ofS 112]=true:=by kernel_rfl
theorem zDX:xi [zdy 128,ofS 128]=true:=by kernel_rfl
theorem zDW:xi [zdy 160,ofS 160]=true:=by kernel_rfl
theorem zDV:xi [zdy 192,ofS 192]=true:=by kernel_rfl
theorem zDU:xi [zdy 256,ofS 256]=true:=by kernel_rfl
theorem zDT:xi [zdy 320,ofS 320]=true:=by kernel_rfl
end Go.Proofs.Tryz.Kn
end
