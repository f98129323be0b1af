/-
  Lemmas. No condition.
-/
import Derived.Test.YtfmceamccfhfcaaGreatDoorXk
noncomputable section
namespace Go.Proofs.Tryz.Kn
open Go Go.CE Go.RowKit
def zyi:Res:=zjt (ye Tryz.prog) fs K29.sums K29.nsums 100000 (.inl 7) [] ⟨.z,.nil⟩
theorem zji:isTrue zyi=true:=by kernel_rfl
def kSum29:CE.Sum:=⟨7,[],[],.s (.one (.bool true))⟩
theorem zpw:jM Tryz.prog kSum29:=by refine⟨_,zlv zwa K29.sums_ok K29.nsums_ok 100000,?_⟩;obtain⟨h2,e⟩:=zmO zji;unfold Sum.chk;rw[show zjt (ye Tryz.prog) fs K29.sums K29.nsums 100000 (.inl kSum29.g) kSum29.args kSum29.heap=some (.s (.one (.bool true)),h2) from e];rfl
end Go.Proofs.Tryz.Kn
end
