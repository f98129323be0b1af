/-
  Lemmas: Shb. No condition.
-/
import Derived.Test.YthfdnggfegbbkaaGreatDoorUf
section
namespace Go.Proofs.Tryz.Kn
open Go Go.CE Go.RowKit
theorem km2 : chks (y6 (2, 0)) = true := by kernel_rfl
theorem km4 : chks (y6 (4, 0)) = true := by kernel_rfl
theorem km6 : chks (y6 (6, 5)) = true := by kernel_rfl
theorem km8 : chks (y6 (8, 7)) = true := by kernel_rfl
theorem km10 : chks (y6 (10, 8)) = true := by kernel_rfl
theorem km12 : chks (y6 (12, 5)) = true := by kernel_rfl
theorem km14 : chks (y6 (14, 2)) = true := by kernel_rfl
theorem km16 : chks (y6 (16, 7)) = true := by kernel_rfl
theorem km20 : chks (y6 (20, 8)) = true := by kernel_rfl
theorem km24 : chks (y6 (24, 9)) = true := by kernel_rfl
theorem km28 : chks (y6 (28, 2)) = true := by kernel_rfl
end Go.Proofs.Tryz.Kn
end
