/-
  Lemmas. No condition.
-/
import Derived.Test.YthnijnblnoflnaaGreatDoorXe
section
namespace Go.Proofs.Tryz.Kn
open Go Go.CE Go.RowKit
theorem zw3:yT (yi (2,2,0))=true:=by kernel_rfl
theorem zw2:yT (yi (4,4,0))=true:=by kernel_rfl
theorem zw1:yT (yi (8,6,5))=true:=by kernel_rfl
theorem zw0:yT (yi (8,8,0))=true:=by kernel_rfl
theorem zut:yT (yi (10,8,4))=true:=by kernel_rfl
theorem zus:yT (yi (12,8,7))=true:=by kernel_rfl
theorem zr8:yT (yi (16,10,8))=true:=by kernel_rfl
theorem zr7:yT (yi (16,12,5))=true:=by kernel_rfl
theorem zr6:yT (yi (16,14,2))=true:=by kernel_rfl
theorem zr5:yT (yi (16,16,0))=true:=by kernel_rfl
theorem zr4:yT (yi (20,16,4))=true:=by kernel_rfl
theorem zr3:yT (yi (24,16,7))=true:=by kernel_rfl
theorem zr2:yT (yi (24,24,0))=true:=by kernel_rfl
theorem zr1:yT (yi (32,20,8))=true:=by kernel_rfl
theorem zr0:yT (yi (32,24,5))=true:=by kernel_rfl
theorem zrZ:yT (yi (32,28,2))=true:=by kernel_rfl
theorem zrY:yT (yi (32,32,0))=true:=by kernel_rfl
theorem zrX:yT (yi (40,24,9))=true:=by kernel_rfl
theorem zrW:yT (yi (40,32,4))=true:=by kernel_rfl
theorem zrV:yT (yi (40,40,0))=true:=by kernel_rfl
theorem zrU:yT (yi (48,32,7))=true:=by kernel_rfl
theorem zrT:yT (yi (48,40,3))=true:=by kernel_rfl
theorem zrS:yT (yi (48,48,0))=true:=by kernel_rfl
theorem zrR:yT (yi (64,40,8))=true:=by kernel_rfl
theorem zrQ:yT (yi (64,48,5))=true:=by kernel_rfl
theorem zrP:yT (yi (64,56,2))=true:=by kernel_rfl
theorem zrO:yT (yi (64,64,0))=true:=by kernel_rfl
theorem zrN:yT (yi (80,48,9))=true:=by kernel_rfl
theorem zrM:yT (yi (80,56,6))=true:=by kernel_rfl
theorem zrL:yT (yi (80,64,4))=true:=by kernel_rfl
theorem zrK:yT (yi (80,80,0))=true:=by kernel_rfl
theorem zrJ:yT (yi (96,56,9))=true:=by kernel_rfl
theorem zrI:yT (yi (96,64,7))=true:=by kernel_rfl
theorem zrH:yT (yi (96,96,0))=true:=by kernel_rfl
theorem zpf:yT (yi (128,80,8))=true:=by kernel_rfl
theorem zmM:yT (yi (128,112,2))=true:=by kernel_rfl
theorem zpe:yT (yi (160,96,9))=true:=by kernel_rfl
theorem zmL:yT (yi (160,128,4))=true:=by kernel_rfl
theorem zmK:yT (yi (192,128,7))=true:=by kernel_rfl
theorem zmJ:yT (yi (320,256,4))=true:=by kernel_rfl
end Go.Proofs.Tryz.Kn
end
