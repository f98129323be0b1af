/-
  Lemmas. No condition.
-/
import Derived.Test.YtaknlhnolkgndaaGreatDoorZe
section
namespace Go.Proofs.Tryz.Kn
open Go Go.CE Go.RowKit
theorem zxo:yS (yj (2,2,0))=true:=by kernel_rfl
theorem zxn:yS (yj (4,4,0))=true:=by kernel_rfl
theorem zxm:yS (yj (8,6,5))=true:=by kernel_rfl
theorem zxl:yS (yj (8,8,0))=true:=by kernel_rfl
theorem zuO:yS (yj (10,8,4))=true:=by kernel_rfl
theorem zuN:yS (yj (12,8,7))=true:=by kernel_rfl
theorem zsk:yS (yj (16,10,8))=true:=by kernel_rfl
theorem zsj:yS (yj (16,12,5))=true:=by kernel_rfl
theorem zsi:yS (yj (16,14,2))=true:=by kernel_rfl
theorem zsh:yS (yj (16,16,0))=true:=by kernel_rfl
theorem zsg:yS (yj (20,16,4))=true:=by kernel_rfl
theorem zsf:yS (yj (24,16,7))=true:=by kernel_rfl
theorem zse:yS (yj (24,24,0))=true:=by kernel_rfl
theorem zsd:yS (yj (32,20,8))=true:=by kernel_rfl
theorem zsc:yS (yj (32,24,5))=true:=by kernel_rfl
theorem zsb:yS (yj (32,28,2))=true:=by kernel_rfl
theorem zsa:yS (yj (32,32,0))=true:=by kernel_rfl
theorem zr9:yS (yj (40,24,9))=true:=by kernel_rfl
theorem zr8:yS (yj (40,32,4))=true:=by kernel_rfl
theorem zr7:yS (yj (40,40,0))=true:=by kernel_rfl
theorem zr6:yS (yj (48,32,7))=true:=by kernel_rfl
theorem zr5:yS (yj (48,40,3))=true:=by kernel_rfl
theorem zr4:yS (yj (48,48,0))=true:=by kernel_rfl
theorem zr3:yS (yj (64,40,8))=true:=by kernel_rfl
theorem zr2:yS (yj (64,48,5))=true:=by kernel_rfl
theorem zr1:yS (yj (64,56,2))=true:=by kernel_rfl
theorem zr0:yS (yj (64,64,0))=true:=by kernel_rfl
theorem zrZ:yS (yj (80,48,9))=true:=by kernel_rfl
theorem zrY:yS (yj (80,56,6))=true:=by kernel_rfl
theorem zrX:yS (yj (80,64,4))=true:=by kernel_rfl
theorem zrW:yS (yj (80,80,0))=true:=by kernel_rfl
theorem zrV:yS (yj (96,56,9))=true:=by kernel_rfl
theorem zrU:yS (yj (96,64,7))=true:=by kernel_rfl
theorem zrT:yS (yj (96,96,0))=true:=by kernel_rfl
theorem zpo:yS (yj (128,80,8))=true:=by kernel_rfl
theorem zmN:yS (yj (128,112,2))=true:=by kernel_rfl
theorem zpn:yS (yj (160,96,9))=true:=by kernel_rfl
theorem zmM:yS (yj (160,128,4))=true:=by kernel_rfl
theorem zmL:yS (yj (192,128,7))=true:=by kernel_rfl
theorem zmK:yS (yj (320,256,4))=true:=by kernel_rfl
end Go.Proofs.Tryz.Kn
end
