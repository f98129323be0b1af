/-
  Lemmas. No condition.
-/
import Derived.Test.YtajlcdcddofboaaGreatDoorUk
noncomputable section
namespace Go.Proofs.Tryz.Kn
open Go Go.CE Go.RowKit
def zuk:Res:=zhL (zX Tryz.prog) fs K29.sums K29.nsums 100000 (.inl 9) [] ⟨.z,.nil⟩
theorem zhA:isTrue zuk=true:=by kernel_rfl
def kSum29:CE.Sum:=⟨9,[],[],.s (.one (.bool true))⟩
theorem znb:u6 Tryz.prog kSum29:=by
 refine⟨_,zjL zsI K29.sums_ok K29.nsums_ok 100000,?_⟩;obtain⟨h2,e⟩:=zkR zhA;unfold Sum.chk;rw[show zhL (zX Tryz.prog) fs K29.sums K29.nsums 100000 (.inl kSum29.g) kSum29.args kSum29.heap=some (.s (.one (.bool true)),h2) from e];rfl
end Go.Proofs.Tryz.Kn
end
