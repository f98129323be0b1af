/-
  Lemmas: Kn. No condition.
-/
import Derived.Test.YtjnfoimeajajeaaGreatDoorYe
import Derived.Test.YtjnfoimeajajeaaGreatDoorProg
section
namespace Go.Proofs.Tryz.Kn
open Go Go.CE Go.RowKit
noncomputable def fs : Nat → Option RFunc := cFs (cProg Tryz.prog)
theorem fs_ok : FsOk Tryz.prog fs := prog_ok _
noncomputable def sums : List Sum := []
theorem sums_ok : ∀ s ∈ sums, SumOk Tryz.prog s := fun s hs => by cases hs
noncomputable def known : Res := evCallS (cCode Tryz.prog) fs sums 100000 (.inl 5) [] ⟨.z, .nil⟩
theorem known_true : isTrue known = true := by kernel_rfl
end Go.Proofs.Tryz.Kn
end
