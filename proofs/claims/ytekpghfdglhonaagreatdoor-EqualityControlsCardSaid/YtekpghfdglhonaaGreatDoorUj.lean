/-
  Lemmas: Shd. No condition.
-/
import Derived.Test.YtekpghfdglhonaaGreatDoorUf
section
namespace Go.Proofs.Tryz.Kn
open Go Go.CE Go.RowKit
theorem ztd:chks (yi (2,2,0))=true:=by kernel_rfl
theorem ztc:chks (yi (4,4,0))=true:=by kernel_rfl
theorem ztb:chks (yi (8,6,5))=true:=by kernel_rfl
theorem zta:chks (yi (8,8,0))=true:=by kernel_rfl
theorem zrt:chks (yi (10,8,4))=true:=by kernel_rfl
theorem zrs:chks (yi (12,8,7))=true:=by kernel_rfl
theorem zpN:chks (yi (16,10,8))=true:=by kernel_rfl
theorem zpM:chks (yi (16,12,5))=true:=by kernel_rfl
theorem zpL:chks (yi (16,14,2))=true:=by kernel_rfl
theorem zpK:chks (yi (16,16,0))=true:=by kernel_rfl
theorem zpJ:chks (yi (20,16,4))=true:=by kernel_rfl
theorem zpI:chks (yi (24,16,7))=true:=by kernel_rfl
theorem zpH:chks (yi (24,24,0))=true:=by kernel_rfl
theorem zpG:chks (yi (32,20,8))=true:=by kernel_rfl
theorem zpF:chks (yi (32,24,5))=true:=by kernel_rfl
theorem zpE:chks (yi (32,28,2))=true:=by kernel_rfl
theorem zpD:chks (yi (32,32,0))=true:=by kernel_rfl
theorem zpC:chks (yi (40,24,9))=true:=by kernel_rfl
theorem zpB:chks (yi (40,32,4))=true:=by kernel_rfl
theorem zpA:chks (yi (40,40,0))=true:=by kernel_rfl
theorem zpz:chks (yi (48,32,7))=true:=by kernel_rfl
theorem zpy:chks (yi (48,40,3))=true:=by kernel_rfl
theorem zpx:chks (yi (48,48,0))=true:=by kernel_rfl
theorem zpw:chks (yi (64,40,8))=true:=by kernel_rfl
theorem zpv:chks (yi (64,48,5))=true:=by kernel_rfl
theorem zpu:chks (yi (64,56,2))=true:=by kernel_rfl
theorem zpt:chks (yi (64,64,0))=true:=by kernel_rfl
theorem zps:chks (yi (80,48,9))=true:=by kernel_rfl
theorem zpr:chks (yi (80,56,6))=true:=by kernel_rfl
theorem zpq:chks (yi (80,64,4))=true:=by kernel_rfl
theorem zpp:chks (yi (80,80,0))=true:=by kernel_rfl
theorem zpo:chks (yi (96,56,9))=true:=by kernel_rfl
theorem zpn:chks (yi (96,64,7))=true:=by kernel_rfl
theorem zpm:chks (yi (96,96,0))=true:=by kernel_rfl
theorem zng:chks (yi (128,80,8))=true:=by kernel_rfl
theorem zkS:chks (yi (128,112,2))=true:=by kernel_rfl
theorem znf:chks (yi (160,96,9))=true:=by kernel_rfl
theorem zkR:chks (yi (160,128,4))=true:=by kernel_rfl
theorem zkQ:chks (yi (192,128,7))=true:=by kernel_rfl
theorem zkP:chks (yi (320,256,4))=true:=by kernel_rfl
end Go.Proofs.Tryz.Kn
end
