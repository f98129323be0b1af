/-
  Lemmas. No condition.
-/
import Derived.Test.YtajlcdcddofboaaGreatDoorUf
section
namespace Go.Proofs.Tryz.Kn
open Go Go.CE Go.RowKit
theorem zBX:zwQ (xw (32,7))=true:=by kernel_rfl
theorem zBW:zwQ (xw (40,8))=true:=by kernel_rfl
theorem zBV:zwQ (xw (48,9))=true:=by kernel_rfl
theorem zBU:zwQ (xw (56,9))=true:=by kernel_rfl
theorem zBT:zwQ (xw (64,7))=true:=by kernel_rfl
theorem zBS:zwQ (xw (80,8))=true:=by kernel_rfl
theorem zBR:zwQ (xw (96,9))=true:=by kernel_rfl
theorem zv9:zwQ (xw (112,2))=true:=by kernel_rfl
theorem zv8:zwQ (xw (128,7))=true:=by kernel_rfl
theorem zv7:zwQ (xw (256,4))=true:=by kernel_rfl
end Go.Proofs.Tryz.Kn
end
