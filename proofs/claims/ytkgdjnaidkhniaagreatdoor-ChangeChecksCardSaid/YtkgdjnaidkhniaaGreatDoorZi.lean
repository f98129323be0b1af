/-
  Lemmas. No condition.
-/
import Derived.Test.YtkgdjnaidkhniaaGreatDoorZe
section
namespace Go.Proofs.Tryz.Kn
open Go Go.CE Go.RowKit
theorem zD5:xi (yC (2,2,0))=true:=by kernel_rfl
theorem zD4:xi (yC (4,4,0))=true:=by kernel_rfl
theorem zD3:xi (yC (8,6,5))=true:=by kernel_rfl
theorem zD2:xi (yC (8,8,0))=true:=by kernel_rfl
theorem zBa:xi (yC (10,8,4))=true:=by kernel_rfl
theorem zA9:xi (yC (12,8,7))=true:=by kernel_rfl
theorem zye:xi (yC (16,10,8))=true:=by kernel_rfl
theorem zyd:xi (yC (16,12,5))=true:=by kernel_rfl
theorem zyc:xi (yC (16,14,2))=true:=by kernel_rfl
theorem zyb:xi (yC (16,16,0))=true:=by kernel_rfl
theorem zya:xi (yC (20,16,4))=true:=by kernel_rfl
theorem zx9:xi (yC (24,16,7))=true:=by kernel_rfl
theorem zx8:xi (yC (24,24,0))=true:=by kernel_rfl
theorem zx7:xi (yC (32,20,8))=true:=by kernel_rfl
theorem zx6:xi (yC (32,24,5))=true:=by kernel_rfl
theorem zx5:xi (yC (32,28,2))=true:=by kernel_rfl
theorem zx4:xi (yC (32,32,0))=true:=by kernel_rfl
theorem zx3:xi (yC (40,24,9))=true:=by kernel_rfl
theorem zx2:xi (yC (40,32,4))=true:=by kernel_rfl
theorem zx1:xi (yC (40,40,0))=true:=by kernel_rfl
theorem zx0:xi (yC (48,32,7))=true:=by kernel_rfl
theorem zxZ:xi (yC (48,40,3))=true:=by kernel_rfl
theorem zxY:xi (yC (48,48,0))=true:=by kernel_rfl
theorem zxX:xi (yC (64,40,8))=true:=by kernel_rfl
theorem zxW:xi (yC (64,48,5))=true:=by kernel_rfl
theorem zxV:xi (yC (64,56,2))=true:=by kernel_rfl
theorem zxU:xi (yC (64,64,0))=true:=by kernel_rfl
theorem zxT:xi (yC (80,48,9))=true:=by kernel_rfl
theorem zxS:xi (yC (80,56,6))=true:=by kernel_rfl
theorem zxR:xi (yC (80,64,4))=true:=by kernel_rfl
theorem zxQ:xi (yC (80,80,0))=true:=by kernel_rfl
theorem zxP:xi (yC (96,56,9))=true:=by kernel_rfl
theorem zxO:xi (yC (96,64,7))=true:=by kernel_rfl
theorem zxN:xi (yC (96,96,0))=true:=by kernel_rfl
theorem zuW:xi (yC (128,80,8))=true:=by kernel_rfl
theorem zr6:xi (yC (128,112,2))=true:=by kernel_rfl
theorem zuV:xi (yC (160,96,9))=true:=by kernel_rfl
theorem zr5:xi (yC (160,128,4))=true:=by kernel_rfl
theorem zr4:xi (yC (192,128,7))=true:=by kernel_rfl
theorem zr3:xi (yC (320,256,4))=true:=by kernel_rfl
end Go.Proofs.Tryz.Kn
end
