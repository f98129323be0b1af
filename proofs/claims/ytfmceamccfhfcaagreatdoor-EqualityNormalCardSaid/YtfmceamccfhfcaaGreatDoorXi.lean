/-
  Lemmas. No condition.
-/
import Derived.Test.YtfmceamccfhfcaaGreatDoorXe
section
namespace Go.Proofs.Tryz.Kn
open Go Go.CE Go.RowKit
theorem zA2:xy (yN (2,2,0))=true:=by kernel_rfl
theorem zA1:xy (yN (4,4,0))=true:=by kernel_rfl
theorem zA0:xy (yN (8,6,5))=true:=by kernel_rfl
theorem zAZ:xy (yN (8,8,0))=true:=by kernel_rfl
theorem zyh:xy (yN (10,8,4))=true:=by kernel_rfl
theorem zyg:xy (yN (12,8,7))=true:=by kernel_rfl
theorem zvU:xy (yN (16,10,8))=true:=by kernel_rfl
theorem zvT:xy (yN (16,12,5))=true:=by kernel_rfl
theorem zvS:xy (yN (16,14,2))=true:=by kernel_rfl
theorem zvR:xy (yN (16,16,0))=true:=by kernel_rfl
theorem zvQ:xy (yN (20,16,4))=true:=by kernel_rfl
theorem zvP:xy (yN (24,16,7))=true:=by kernel_rfl
theorem zvO:xy (yN (24,24,0))=true:=by kernel_rfl
theorem zvN:xy (yN (32,20,8))=true:=by kernel_rfl
theorem zvM:xy (yN (32,24,5))=true:=by kernel_rfl
theorem zvL:xy (yN (32,28,2))=true:=by kernel_rfl
theorem zvK:xy (yN (32,32,0))=true:=by kernel_rfl
theorem zvJ:xy (yN (40,24,9))=true:=by kernel_rfl
theorem zvI:xy (yN (40,32,4))=true:=by kernel_rfl
theorem zvH:xy (yN (40,40,0))=true:=by kernel_rfl
theorem zvG:xy (yN (48,32,7))=true:=by kernel_rfl
theorem zvF:xy (yN (48,40,3))=true:=by kernel_rfl
theorem zvE:xy (yN (48,48,0))=true:=by kernel_rfl
theorem zvD:xy (yN (64,40,8))=true:=by kernel_rfl
theorem zvC:xy (yN (64,48,5))=true:=by kernel_rfl
theorem zvB:xy (yN (64,56,2))=true:=by kernel_rfl
theorem zvA:xy (yN (64,64,0))=true:=by kernel_rfl
theorem zvz:xy (yN (80,48,9))=true:=by kernel_rfl
theorem zvy:xy (yN (80,56,6))=true:=by kernel_rfl
theorem zvx:xy (yN (80,64,4))=true:=by kernel_rfl
theorem zvw:xy (yN (80,80,0))=true:=by kernel_rfl
theorem zvv:xy (yN (96,56,9))=true:=by kernel_rfl
theorem zvu:xy (yN (96,64,7))=true:=by kernel_rfl
theorem zvt:xy (yN (96,96,0))=true:=by kernel_rfl
theorem zsG:xy (yN (128,80,8))=true:=by kernel_rfl
theorem zpv:xy (yN (128,112,2))=true:=by kernel_rfl
theorem zsF:xy (yN (160,96,9))=true:=by kernel_rfl
theorem zpu:xy (yN (160,128,4))=true:=by kernel_rfl
theorem zpt:xy (yN (192,128,7))=true:=by kernel_rfl
theorem zps:xy (yN (320,256,4))=true:=by kernel_rfl
end Go.Proofs.Tryz.Kn
end
