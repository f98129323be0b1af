/-
  Lemmas: Shd. No condition.
-/
import Derived.Test.YthfdnggfegbbkaaGreatDoorUf
section
namespace Go.Proofs.Tryz.Kn
open Go Go.CE Go.RowKit
theorem ztm : chks (yd (2, 2, 0)) = true := by kernel_rfl
theorem ztl : chks (yd (4, 4, 0)) = true := by kernel_rfl
theorem ztk : chks (yd (8, 6, 5)) = true := by kernel_rfl
theorem ztj : chks (yd (8, 8, 0)) = true := by kernel_rfl
theorem zq9 : chks (yd (10, 8, 4)) = true := by kernel_rfl
theorem zq8 : chks (yd (12, 8, 7)) = true := by kernel_rfl
theorem zpx : chks (yd (16, 10, 8)) = true := by kernel_rfl
theorem zpw : chks (yd (16, 12, 5)) = true := by kernel_rfl
theorem zpv : chks (yd (16, 14, 2)) = true := by kernel_rfl
theorem zpu : chks (yd (16, 16, 0)) = true := by kernel_rfl
theorem zpt : chks (yd (20, 16, 4)) = true := by kernel_rfl
theorem zps : chks (yd (24, 16, 7)) = true := by kernel_rfl
theorem zpr : chks (yd (24, 24, 0)) = true := by kernel_rfl
theorem zpq : chks (yd (32, 20, 8)) = true := by kernel_rfl
theorem zpp : chks (yd (32, 24, 5)) = true := by kernel_rfl
theorem zpo : chks (yd (32, 28, 2)) = true := by kernel_rfl
theorem zpn : chks (yd (32, 32, 0)) = true := by kernel_rfl
theorem zpm : chks (yd (40, 24, 9)) = true := by kernel_rfl
theorem zpl : chks (yd (40, 32, 4)) = true := by kernel_rfl
theorem zpk : chks (yd (40, 40, 0)) = true := by kernel_rfl
theorem zpj : chks (yd (48, 32, 7)) = true := by kernel_rfl
theorem zpi : chks (yd (48, 40, 3)) = true := by kernel_rfl
theorem zph : chks (yd (48, 48, 0)) = true := by kernel_rfl
theorem zpg : chks (yd (64, 40, 8)) = true := by kernel_rfl
theorem zpf : chks (yd (64, 48, 5)) = true := by kernel_rfl
theorem zpe : chks (yd (64, 56, 2)) = true := by kernel_rfl
theorem zpd : chks (yd (64, 64, 0)) = true := by kernel_rfl
theorem zpc : chks (yd (80, 48, 9)) = true := by kernel_rfl
theorem zpb : chks (yd (80, 56, 6)) = true := by kernel_rfl
theorem zpa : chks (yd (80, 64, 4)) = true := by kernel_rfl
theorem zo9 : chks (yd (80, 80, 0)) = true := by kernel_rfl
theorem zo8 : chks (yd (96, 56, 9)) = true := by kernel_rfl
theorem zo7 : chks (yd (96, 64, 7)) = true := by kernel_rfl
theorem zo6 : chks (yd (96, 96, 0)) = true := by kernel_rfl
theorem zmB : chks (yd (128, 80, 8)) = true := by kernel_rfl
theorem zkr : chks (yd (128, 112, 2)) = true := by kernel_rfl
theorem zmA : chks (yd (160, 96, 9)) = true := by kernel_rfl
theorem zkq : chks (yd (160, 128, 4)) = true := by kernel_rfl
theorem zkp : chks (yd (192, 128, 7)) = true := by kernel_rfl
theorem zko : chks (yd (320, 256, 4)) = true := by kernel_rfl
end Go.Proofs.Tryz.Kn
end
