/-
  Lemmas. No condition.
-/
import Derived.Test.YtgfllfooijgdfaaGreatDoorXe
section
namespace Go.Proofs.Tryz.Kn
open Go Go.CE Go.RowKit
theorem zwC:zL (yb (32,10))=true:=by kernel_rfl
theorem zww:zL (yb (96,9))=true:=by kernel_rfl
theorem zwA:zL (yb (48,9))=true:=by kernel_rfl
theorem zuO:zL (yb (224,9))=true:=by kernel_rfl
theorem zuS:zL (yb (112,9))=true:=by kernel_rfl
theorem zwF:zL (yb (20,8))=true:=by kernel_rfl
theorem km2:zL (yb (2,7))=true:=by kernel_rfl
theorem zwj:zL [vZ 80,ofS 80]=true:=by kernel_rfl
theorem kp7:zL [vZ 7,ofS 7]=true:=by kernel_rfl
theorem zwl:zL [vZ 56,ofS 56]=true:=by kernel_rfl
theorem zuB:zL [vZ 448,ofS 448]=true:=by kernel_rfl
theorem zuD:zL [vZ 320,ofS 320]=true:=by kernel_rfl
theorem zuE:zL [vZ 256,ofS 256]=true:=by kernel_rfl
theorem kp2:zL [vZ 2,ofS 2]=true:=by kernel_rfl
theorem zwt:zL [vZ 14,ofS 14]=true:=by kernel_rfl
theorem zwv:zL [vZ 10,ofS 10]=true:=by kernel_rfl
theorem zqo:zL (zm (28,16,10))=true:=by kernel_rfl
theorem zpY:zL (zm (96,56,9))=true:=by kernel_rfl
theorem zqe:zL (zm (48,28,9))=true:=by kernel_rfl
theorem zqs:zL (zm (24,14,9))=true:=by kernel_rfl
theorem zuW:zL (zm (8,5,8))=true:=by kernel_rfl
theorem zk4:zL (zm (256,160,8))=true:=by kernel_rfl
theorem zuY:zL (zm (6,4,7))=true:=by kernel_rfl
theorem zqr:zL (zm (24,16,7))=true:=by kernel_rfl
theorem zkO:zL (zm (640,448,6))=true:=by kernel_rfl
theorem zkZ:zL (zm (320,224,6))=true:=by kernel_rfl
theorem zuV:zL (zm (8,6,5))=true:=by kernel_rfl
theorem zk3:zL (zm (256,192,5))=true:=by kernel_rfl
theorem zuZ:zL (zm (5,4,4))=true:=by kernel_rfl
theorem zld:zL (zm (160,128,4))=true:=by kernel_rfl
theorem zkR:zL (zm (448,384,3))=true:=by kernel_rfl
theorem zk5:zL (zm (224,192,3))=true:=by kernel_rfl
theorem zuU:zL (zm (8,7,2))=true:=by kernel_rfl
theorem zqk:zL (zm (32,28,2))=true:=by kernel_rfl
theorem zpV:zL (zm (96,96,0))=true:=by kernel_rfl
theorem zp3:zL (zm (64,64,0))=true:=by kernel_rfl
theorem zqf:zL (zm (40,40,0))=true:=by kernel_rfl
theorem zk1:zL (zm (256,256,0))=true:=by kernel_rfl
theorem zk8:zL (zm (192,192,0))=true:=by kernel_rfl
theorem zlf:zL (zm (128,128,0))=true:=by kernel_rfl
end Go.Proofs.Tryz.Kn
end
