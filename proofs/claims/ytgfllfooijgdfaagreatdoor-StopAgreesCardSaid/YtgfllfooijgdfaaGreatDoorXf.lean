/-
  Lemmas. No condition.
-/
import Derived.Test.YtgfllfooijgdfaaGreatDoorXe
section
namespace Go.Proofs.Tryz.Kn
open Go Go.CE Go.RowKit
theorem km8:zL (yb (8,10))=true:=by kernel_rfl
theorem zwG:zL (yb (16,10))=true:=by kernel_rfl
theorem zwD:zL (yb (28,9))=true:=by kernel_rfl
theorem zwH:zL (yb (14,9))=true:=by kernel_rfl
theorem km5:zL (yb (5,8))=true:=by kernel_rfl
theorem zuQ:zL (yb (160,8))=true:=by kernel_rfl
theorem km6:zL (yb (6,5))=true:=by kernel_rfl
theorem zuL:zL (yb (384,3))=true:=by kernel_rfl
theorem zuz:zL [vZ 640,ofS 640]=true:=by kernel_rfl
theorem zuA:zL [vZ 512,ofS 512]=true:=by kernel_rfl
theorem zwn:zL [vZ 40,ofS 40]=true:=by kernel_rfl
theorem zwo:zL [vZ 32,ofS 32]=true:=by kernel_rfl
theorem zwq:zL [vZ 24,ofS 24]=true:=by kernel_rfl
theorem zuG:zL [vZ 192,ofS 192]=true:=by kernel_rfl
theorem zuI:zL [vZ 128,ofS 128]=true:=by kernel_rfl
theorem kp1:zL [vZ 1,ofS 1]=true:=by kernel_rfl
theorem zsK:zL (zm (14,8,10))=true:=by kernel_rfl
theorem zkN:zL (zm (768,448,9))=true:=by kernel_rfl
theorem zk0:zL (zm (320,192,9))=true:=by kernel_rfl
theorem znA:zL (zm (160,96,9))=true:=by kernel_rfl
theorem zqm:zL (zm (32,20,8))=true:=by kernel_rfl
theorem zpX:zL (zm (96,64,7))=true:=by kernel_rfl
theorem zkV:zL (zm (384,256,7))=true:=by kernel_rfl
theorem zp1:zL (zm (80,56,6))=true:=by kernel_rfl
theorem zqh:zL (zm (40,28,6))=true:=by kernel_rfl
theorem znE:zL (zm (112,80,6))=true:=by kernel_rfl
theorem zql:zL (zm (32,24,5))=true:=by kernel_rfl
theorem zp0:zL (zm (80,64,4))=true:=by kernel_rfl
theorem zqu:zL (zm (20,16,4))=true:=by kernel_rfl
theorem zp8:zL (zm (56,48,3))=true:=by kernel_rfl
theorem zqn:zL (zm (28,24,3))=true:=by kernel_rfl
theorem zqB:zL (zm (12,10,3))=true:=by kernel_rfl
theorem zkP:zL (zm (512,448,2))=true:=by kernel_rfl
theorem zqx:zL (zm (16,14,2))=true:=by kernel_rfl
theorem zpZ:zL (zm (80,80,0))=true:=by kernel_rfl
theorem zu0:zL (zm (4,4,0))=true:=by kernel_rfl
theorem zkX:zL (zm (320,320,0))=true:=by kernel_rfl
theorem zqt:zL (zm (20,20,0))=true:=by kernel_rfl
theorem zlc:zL (zm (160,160,0))=true:=by kernel_rfl
end Go.Proofs.Tryz.Kn
end
