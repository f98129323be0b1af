/-
  Lemmas. No condition.
-/
import Derived.Test.YtgfllfooijgdfaaGreatDoorXe
section
namespace Go.Proofs.Tryz.Kn
open Go Go.CE Go.RowKit
theorem zuN:zL (yb (256,10))=true:=by kernel_rfl
theorem zwz:zL (yb (56,9))=true:=by kernel_rfl
theorem zuK:zL (yb (448,9))=true:=by kernel_rfl
theorem zuP:zL (yb (192,9))=true:=by kernel_rfl
theorem zwx:zL (yb (80,8))=true:=by kernel_rfl
theorem zuM:zL (yb (320,8))=true:=by kernel_rfl
theorem km4:zL (yb (4,7))=true:=by kernel_rfl
theorem zwi:zL [vZ 96,ofS 96]=true:=by kernel_rfl
theorem kp8:zL [vZ 8,ofS 8]=true:=by kernel_rfl
theorem zwk:zL [vZ 64,ofS 64]=true:=by kernel_rfl
theorem kp5:zL [vZ 5,ofS 5]=true:=by kernel_rfl
theorem kp4:zL [vZ 4,ofS 4]=true:=by kernel_rfl
theorem kp3:zL [vZ 3,ofS 3]=true:=by kernel_rfl
theorem zuF:zL [vZ 224,ofS 224]=true:=by kernel_rfl
theorem zuH:zL [vZ 160,ofS 160]=true:=by kernel_rfl
theorem zwu:zL [vZ 12,ofS 12]=true:=by kernel_rfl
theorem km1:zL (yb (1,0))=true:=by kernel_rfl
theorem zk7:zL (zm (224,128,10))=true:=by kernel_rfl
theorem zp2:zL (zm (80,48,9))=true:=by kernel_rfl
theorem zqi:zL (zm (40,24,9))=true:=by kernel_rfl
theorem zqv:zL (zm (20,12,9))=true:=by kernel_rfl
theorem zp6:zL (zm (64,40,8))=true:=by kernel_rfl
theorem zqz:zL (zm (16,10,8))=true:=by kernel_rfl
theorem zqd:zL (zm (48,32,7))=true:=by kernel_rfl
theorem zla:zL (zm (192,128,7))=true:=by kernel_rfl
theorem zp9:zL (zm (56,40,6))=true:=by kernel_rfl
theorem zk6:zL (zm (224,160,6))=true:=by kernel_rfl
theorem zp5:zL (zm (64,48,5))=true:=by kernel_rfl
theorem zqy:zL (zm (16,12,5))=true:=by kernel_rfl
theorem zqg:zL (zm (40,32,4))=true:=by kernel_rfl
theorem zsM:zL (zm (10,8,4))=true:=by kernel_rfl
theorem zkU:zL (zm (384,320,3))=true:=by kernel_rfl
theorem zk9:zL (zm (192,160,3))=true:=by kernel_rfl
theorem zp4:zL (zm (64,56,2))=true:=by kernel_rfl
theorem zk2:zL (zm (256,224,2))=true:=by kernel_rfl
theorem zuT:zL (zm (8,8,0))=true:=by kernel_rfl
theorem zp7:zL (zm (56,56,0))=true:=by kernel_rfl
theorem zqj:zL (zm (32,32,0))=true:=by kernel_rfl
theorem zqp:zL (zm (24,24,0))=true:=by kernel_rfl
theorem zqw:zL (zm (16,16,0))=true:=by kernel_rfl
theorem zlh:zL (zm (112,112,0))=true:=by kernel_rfl
end Go.Proofs.Tryz.Kn
end
