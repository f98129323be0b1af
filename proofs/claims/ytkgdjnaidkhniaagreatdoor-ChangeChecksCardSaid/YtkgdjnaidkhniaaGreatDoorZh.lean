/-
  Lemmas. No condition.
-/
import Derived.Test.YtkgdjnaidkhniaaGreatDoorZe
section
namespace Go.Proofs.Tryz.Kn
open Go Go.CE Go.RowKit
theorem zG1:xi (xP (32,7))=true:=by kernel_rfl
theorem zG0:xi (xP (40,8))=true:=by kernel_rfl
theorem zGZ:xi (xP (48,9))=true:=by kernel_rfl
theorem zGY:xi (xP (56,9))=true:=by kernel_rfl
theorem zGX:xi (xP (64,7))=true:=by kernel_rfl
theorem zGW:xi (xP (80,8))=true:=by kernel_rfl
theorem zGV:xi (xP (96,9))=true:=by kernel_rfl
theorem zD1:xi (xP (112,2))=true:=by kernel_rfl
theorem zD0:xi (xP (128,7))=true:=by kernel_rfl
theorem zDZ:xi (xP (256,4))=true:=by kernel_rfl
end Go.Proofs.Tryz.Kn
end
