/-
  Lemmas. No condition.
-/
import Derived.Test.YtkgdjnaidkhniaaGreatDoorZe
section
namespace Go.Proofs.Tryz.Kn
open Go Go.CE Go.RowKit
theorem km2:xi (xP (2,0))=true:=by kernel_rfl
theorem km4:xi (xP (4,0))=true:=by kernel_rfl
theorem km6:xi (xP (6,5))=true:=by kernel_rfl
theorem km8:xi (xP (8,7))=true:=by kernel_rfl
theorem zG8:xi (xP (10,8))=true:=by kernel_rfl
theorem zG7:xi (xP (12,5))=true:=by kernel_rfl
theorem zG6:xi (xP (14,2))=true:=by kernel_rfl
theorem zG5:xi (xP (16,7))=true:=by kernel_rfl
theorem zG4:xi (xP (20,8))=true:=by kernel_rfl
theorem zG3:xi (xP (24,9))=true:=by kernel_rfl
theorem zG2:xi (xP (28,2))=true:=by kernel_rfl
end Go.Proofs.Tryz.Kn
end
