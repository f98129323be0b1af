/-
  Lemmas. No condition.
-/
import Derived.Test.YtaknlhnolkgndaaGreatDoorZe
noncomputable section
namespace Go.Proofs.Tryz.Kn
open Go Go.CE Go.RowKit
def zuQ:Res:=zhu (zH Tryz.prog) fs K36.sums K36.nsums 100000 (.inl 5) [] ⟨.z,.nil⟩
theorem zhj:isTrue zuQ=true:=by kernel_rfl
def kSum36:CE.Sum:=⟨5,[],[],.s (.one (.bool true))⟩
theorem zmO:ke Tryz.prog kSum36:=by refine⟨_,zju zpE K36.sums_ok K36.nsums_ok 100000,?_⟩;obtain⟨h2,e⟩:=zkr zhj;unfold Sum.chk;rw[show zhu (zH Tryz.prog) fs K36.sums K36.nsums 100000 (.inl kSum36.g) kSum36.args kSum36.heap=some (.s (.one (.bool true)),h2) from e];rfl
end Go.Proofs.Tryz.Kn
end
