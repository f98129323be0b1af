/-
  Lemmas. No condition.
-/
import Derived.Test.YtgfllfooijgdfaaGreatDoorXe
section
namespace Go.Proofs.Tryz.Kn
open Go Go.CE Go.RowKit
theorem zwy:zL (yb (64,10))=true:=by kernel_rfl
theorem zuR:zL (yb (128,10))=true:=by kernel_rfl
theorem zwE:zL (yb (24,9))=true:=by kernel_rfl
theorem zwI:zL (yb (12,9))=true:=by kernel_rfl
theorem zwB:zL (yb (40,8))=true:=by kernel_rfl
theorem zwJ:zL (yb (10,8))=true:=by kernel_rfl
theorem km3:zL (yb (3,5))=true:=by kernel_rfl
theorem km7:zL (yb (7,2))=true:=by kernel_rfl
theorem zuy:zL [vZ 768,ofS 768]=true:=by kernel_rfl
theorem kp6:zL [vZ 6,ofS 6]=true:=by kernel_rfl
theorem zwm:zL [vZ 48,ofS 48]=true:=by kernel_rfl
theorem zuC:zL [vZ 384,ofS 384]=true:=by kernel_rfl
theorem zwp:zL [vZ 28,ofS 28]=true:=by kernel_rfl
theorem zwr:zL [vZ 20,ofS 20]=true:=by kernel_rfl
theorem zws:zL [vZ 16,ofS 16]=true:=by kernel_rfl
theorem zuJ:zL [vZ 112,ofS 112]=true:=by kernel_rfl
theorem zqa:zL (zm (56,32,10))=true:=by kernel_rfl
theorem zkT:zL (zm (448,256,10))=true:=by kernel_rfl
theorem znF:zL (zm (112,64,10))=true:=by kernel_rfl
theorem zkW:zL (zm (384,224,9))=true:=by kernel_rfl
theorem zlb:zL (zm (192,112,9))=true:=by kernel_rfl
theorem zkQ:zL (zm (512,320,8))=true:=by kernel_rfl
theorem znC:zL (zm (128,80,8))=true:=by kernel_rfl
theorem zu2:zL (zm (3,2,7))=true:=by kernel_rfl
theorem zsL:zL (zm (12,8,7))=true:=by kernel_rfl
theorem zkS:zL (zm (448,320,6))=true:=by kernel_rfl
theorem zle:zL (zm (160,112,6))=true:=by kernel_rfl
theorem zu1:zL (zm (4,3,5))=true:=by kernel_rfl
theorem znB:zL (zm (128,96,5))=true:=by kernel_rfl
theorem zkY:zL (zm (320,256,4))=true:=by kernel_rfl
theorem zpW:zL (zm (96,80,3))=true:=by kernel_rfl
theorem zqc:zL (zm (48,40,3))=true:=by kernel_rfl
theorem zqq:zL (zm (24,20,3))=true:=by kernel_rfl
theorem znD:zL (zm (112,96,3))=true:=by kernel_rfl
theorem zlg:zL (zm (128,112,2))=true:=by kernel_rfl
theorem zuX:zL (zm (6,6,0))=true:=by kernel_rfl
theorem zqb:zL (zm (48,48,0))=true:=by kernel_rfl
theorem zu3:zL (zm (2,2,0))=true:=by kernel_rfl
theorem zu4:zL (zm (1,1,0))=true:=by kernel_rfl
theorem zqA:zL (zm (12,12,0))=true:=by kernel_rfl
end Go.Proofs.Tryz.Kn
end
