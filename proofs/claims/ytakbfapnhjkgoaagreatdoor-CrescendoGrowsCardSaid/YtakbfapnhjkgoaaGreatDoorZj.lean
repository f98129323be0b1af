/-
  Lemmas. No condition.
-/
import Derived.Test.YtakbfapnhjkgoaaGreatDoorZf
section
namespace Go.Proofs.Tryz.Kn
open Go Go.CE Go.RowKit
theorem zAg:xb (yx (2,2,0))=true:=by kernel_rfl
theorem zAf:xb (yx (4,4,0))=true:=by kernel_rfl
theorem zAe:xb (yx (8,6,5))=true:=by kernel_rfl
theorem zAd:xb (yx (8,8,0))=true:=by kernel_rfl
theorem zwM:xb (yx (10,8,4))=true:=by kernel_rfl
theorem zwL:xb (yx (12,8,7))=true:=by kernel_rfl
theorem zui:xb (yx (16,10,8))=true:=by kernel_rfl
theorem zuh:xb (yx (16,12,5))=true:=by kernel_rfl
theorem zug:xb (yx (16,14,2))=true:=by kernel_rfl
theorem zuf:xb (yx (16,16,0))=true:=by kernel_rfl
theorem zue:xb (yx (20,16,4))=true:=by kernel_rfl
theorem zud:xb (yx (24,16,7))=true:=by kernel_rfl
theorem zuc:xb (yx (24,24,0))=true:=by kernel_rfl
theorem zub:xb (yx (32,20,8))=true:=by kernel_rfl
theorem zua:xb (yx (32,24,5))=true:=by kernel_rfl
theorem zt9:xb (yx (32,28,2))=true:=by kernel_rfl
theorem zt8:xb (yx (32,32,0))=true:=by kernel_rfl
theorem zt7:xb (yx (40,24,9))=true:=by kernel_rfl
theorem zt6:xb (yx (40,32,4))=true:=by kernel_rfl
theorem zt5:xb (yx (40,40,0))=true:=by kernel_rfl
theorem zt4:xb (yx (48,32,7))=true:=by kernel_rfl
theorem zt3:xb (yx (48,40,3))=true:=by kernel_rfl
theorem zt2:xb (yx (48,48,0))=true:=by kernel_rfl
theorem zt1:xb (yx (64,40,8))=true:=by kernel_rfl
theorem zt0:xb (yx (64,48,5))=true:=by kernel_rfl
theorem ztZ:xb (yx (64,56,2))=true:=by kernel_rfl
theorem ztY:xb (yx (64,64,0))=true:=by kernel_rfl
theorem ztX:xb (yx (80,48,9))=true:=by kernel_rfl
theorem ztW:xb (yx (80,56,6))=true:=by kernel_rfl
theorem ztV:xb (yx (80,64,4))=true:=by kernel_rfl
theorem ztU:xb (yx (80,80,0))=true:=by kernel_rfl
theorem ztT:xb (yx (96,56,9))=true:=by kernel_rfl
theorem ztS:xb (yx (96,64,7))=true:=by kernel_rfl
theorem ztR:xb (yx (96,96,0))=true:=by kernel_rfl
theorem zrg:xb (yx (128,80,8))=true:=by kernel_rfl
theorem zoy:xb (yx (128,112,2))=true:=by kernel_rfl
theorem zrf:xb (yx (160,96,9))=true:=by kernel_rfl
theorem zox:xb (yx (160,128,4))=true:=by kernel_rfl
theorem zow:xb (yx (192,128,7))=true:=by kernel_rfl
theorem zov:xb (yx (320,256,4))=true:=by kernel_rfl
end Go.Proofs.Tryz.Kn
end
