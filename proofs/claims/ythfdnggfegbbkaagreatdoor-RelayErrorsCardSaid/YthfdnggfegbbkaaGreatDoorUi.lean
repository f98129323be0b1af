/-
  Lemmas: Shc. No condition.
-/
import Derived.Test.YthfdnggfegbbkaaGreatDoorUf
section
namespace Go.Proofs.Tryz.Kn
open Go Go.CE Go.RowKit
theorem km32 : chks (y6 (32, 7)) = true := by kernel_rfl
theorem km40 : chks (y6 (40, 8)) = true := by kernel_rfl
theorem km48 : chks (y6 (48, 9)) = true := by kernel_rfl
theorem km56 : chks (y6 (56, 9)) = true := by kernel_rfl
theorem km64 : chks (y6 (64, 7)) = true := by kernel_rfl
theorem km80 : chks (y6 (80, 8)) = true := by kernel_rfl
theorem km96 : chks (y6 (96, 9)) = true := by kernel_rfl
theorem zti : chks (y6 (112, 2)) = true := by kernel_rfl
theorem zth : chks (y6 (128, 7)) = true := by kernel_rfl
theorem ztg : chks (y6 (256, 4)) = true := by kernel_rfl
end Go.Proofs.Tryz.Kn
end
