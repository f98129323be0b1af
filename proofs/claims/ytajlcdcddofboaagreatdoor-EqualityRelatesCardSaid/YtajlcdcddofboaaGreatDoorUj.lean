/-
  Lemmas. No condition.
-/
import Derived.Test.YtajlcdcddofboaaGreatDoorUf
section
namespace Go.Proofs.Tryz.Kn
open Go Go.CE Go.RowKit
theorem zwd:zwQ (yw (2,2,0))=true:=by kernel_rfl
theorem zwc:zwQ (yw (4,4,0))=true:=by kernel_rfl
theorem zwb:zwQ (yw (8,6,5))=true:=by kernel_rfl
theorem zwa:zwQ (yw (8,8,0))=true:=by kernel_rfl
theorem zuj:zwQ (yw (10,8,4))=true:=by kernel_rfl
theorem zui:zwQ (yw (12,8,7))=true:=by kernel_rfl
theorem zss:zwQ (yw (16,10,8))=true:=by kernel_rfl
theorem zsr:zwQ (yw (16,12,5))=true:=by kernel_rfl
theorem zsq:zwQ (yw (16,14,2))=true:=by kernel_rfl
theorem zsp:zwQ (yw (16,16,0))=true:=by kernel_rfl
theorem zso:zwQ (yw (20,16,4))=true:=by kernel_rfl
theorem zsn:zwQ (yw (24,16,7))=true:=by kernel_rfl
theorem zsm:zwQ (yw (24,24,0))=true:=by kernel_rfl
theorem zsl:zwQ (yw (32,20,8))=true:=by kernel_rfl
theorem zsk:zwQ (yw (32,24,5))=true:=by kernel_rfl
theorem zsj:zwQ (yw (32,28,2))=true:=by kernel_rfl
theorem zsi:zwQ (yw (32,32,0))=true:=by kernel_rfl
theorem zsh:zwQ (yw (40,24,9))=true:=by kernel_rfl
theorem zsg:zwQ (yw (40,32,4))=true:=by kernel_rfl
theorem zsf:zwQ (yw (40,40,0))=true:=by kernel_rfl
theorem zse:zwQ (yw (48,32,7))=true:=by kernel_rfl
theorem zsd:zwQ (yw (48,40,3))=true:=by kernel_rfl
theorem zsc:zwQ (yw (48,48,0))=true:=by kernel_rfl
theorem zsb:zwQ (yw (64,40,8))=true:=by kernel_rfl
theorem zsa:zwQ (yw (64,48,5))=true:=by kernel_rfl
theorem zr9:zwQ (yw (64,56,2))=true:=by kernel_rfl
theorem zr8:zwQ (yw (64,64,0))=true:=by kernel_rfl
theorem zr7:zwQ (yw (80,48,9))=true:=by kernel_rfl
theorem zr6:zwQ (yw (80,56,6))=true:=by kernel_rfl
theorem zr5:zwQ (yw (80,64,4))=true:=by kernel_rfl
theorem zr4:zwQ (yw (80,80,0))=true:=by kernel_rfl
theorem zr3:zwQ (yw (96,56,9))=true:=by kernel_rfl
theorem zr2:zwQ (yw (96,64,7))=true:=by kernel_rfl
theorem zr1:zwQ (yw (96,96,0))=true:=by kernel_rfl
theorem zpC:zwQ (yw (128,80,8))=true:=by kernel_rfl
theorem zna:zwQ (yw (128,112,2))=true:=by kernel_rfl
theorem zpB:zwQ (yw (160,96,9))=true:=by kernel_rfl
theorem zm9:zwQ (yw (160,128,4))=true:=by kernel_rfl
theorem zm8:zwQ (yw (192,128,7))=true:=by kernel_rfl
theorem zm7:zwQ (yw (320,256,4))=true:=by kernel_rfl
end Go.Proofs.Tryz.Kn
end
