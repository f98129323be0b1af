/-
  Lemmas. No condition.
-/
import Derived.Test.YtnmjdoahlkcflaaGreatDoorZe
section
namespace Go.Proofs.Tryz.Kn
open Go Go.CE Go.RowKit
theorem zAv:y4 (yx (2,2,0))=true:=by kernel_rfl
theorem zAu:y4 (yx (4,4,0))=true:=by kernel_rfl
theorem zAt:y4 (yx (8,6,5))=true:=by kernel_rfl
theorem zAs:y4 (yx (8,8,0))=true:=by kernel_rfl
theorem zxL:y4 (yx (10,8,4))=true:=by kernel_rfl
theorem zxK:y4 (yx (12,8,7))=true:=by kernel_rfl
theorem zvn:y4 (yx (16,10,8))=true:=by kernel_rfl
theorem zvm:y4 (yx (16,12,5))=true:=by kernel_rfl
theorem zvl:y4 (yx (16,14,2))=true:=by kernel_rfl
theorem zvk:y4 (yx (16,16,0))=true:=by kernel_rfl
theorem zvj:y4 (yx (20,16,4))=true:=by kernel_rfl
theorem zvi:y4 (yx (24,16,7))=true:=by kernel_rfl
theorem zvh:y4 (yx (24,24,0))=true:=by kernel_rfl
theorem zvg:y4 (yx (32,20,8))=true:=by kernel_rfl
theorem zvf:y4 (yx (32,24,5))=true:=by kernel_rfl
theorem zve:y4 (yx (32,28,2))=true:=by kernel_rfl
theorem zvd:y4 (yx (32,32,0))=true:=by kernel_rfl
theorem zvc:y4 (yx (40,24,9))=true:=by kernel_rfl
theorem zvb:y4 (yx (40,32,4))=true:=by kernel_rfl
theorem zva:y4 (yx (40,40,0))=true:=by kernel_rfl
theorem zu9:y4 (yx (48,32,7))=true:=by kernel_rfl
theorem zu8:y4 (yx (48,40,3))=true:=by kernel_rfl
theorem zu7:y4 (yx (48,48,0))=true:=by kernel_rfl
theorem zu6:y4 (yx (64,40,8))=true:=by kernel_rfl
theorem zu5:y4 (yx (64,48,5))=true:=by kernel_rfl
theorem zu4:y4 (yx (64,56,2))=true:=by kernel_rfl
theorem zu3:y4 (yx (64,64,0))=true:=by kernel_rfl
theorem zu2:y4 (yx (80,48,9))=true:=by kernel_rfl
theorem zu1:y4 (yx (80,56,6))=true:=by kernel_rfl
theorem zu0:y4 (yx (80,64,4))=true:=by kernel_rfl
theorem zuZ:y4 (yx (80,80,0))=true:=by kernel_rfl
theorem zuY:y4 (yx (96,56,9))=true:=by kernel_rfl
theorem zuX:y4 (yx (96,64,7))=true:=by kernel_rfl
theorem zuW:y4 (yx (96,96,0))=true:=by kernel_rfl
theorem zsp:y4 (yx (128,80,8))=true:=by kernel_rfl
theorem zpE:y4 (yx (128,112,2))=true:=by kernel_rfl
theorem zso:y4 (yx (160,96,9))=true:=by kernel_rfl
theorem zpD:y4 (yx (160,128,4))=true:=by kernel_rfl
theorem zpC:y4 (yx (192,128,7))=true:=by kernel_rfl
theorem zpB:y4 (yx (320,256,4))=true:=by kernel_rfl
end Go.Proofs.Tryz.Kn
end
