/-
  Lemmas: Kn28. No condition.
-/
import Derived.Test.YthfdnggfegbbkaaGreatDoorUf
noncomputable section
namespace Go.Proofs.Tryz.Kn
open Go Go.CE Go.RowKit
def zud : Res := yk (zW Tryz.prog) fs [] 100000 (.inl 27) [] ⟨.z, .nil⟩
theorem ztS : isTrue zud = true := by kernel_rfl
def kSum28 : CE.Sum := ⟨27, [], [], .s (.one (.bool true))⟩
theorem ztZ : qr Tryz.prog kSum28 := by
 refine ⟨_, zdy zpL (sums := []) (fun s hs => by cases hs) 100000, ?_⟩
 obtain ⟨h2, e⟩ := zin ztS;unfold Sum.chk;rw [show yk (zW Tryz.prog) fs [] 100000 (.inl kSum28.g) kSum28.args kSum28.heap = some (.s (.one (.bool true)), h2) from e]
 rfl
end Go.Proofs.Tryz.Kn
end
