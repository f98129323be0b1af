/-
  Lemmas: Kn29. No condition.
-/
import Derived.Test.YtekpghfdglhonaaGreatDoorUl
noncomputable section
namespace Go.Proofs.Tryz.Kn
open Go Go.CE Go.RowKit
def zru:Res:=zf8 (z5 Tryz.prog) fs K29.sums K29.nsums 100000 (.inl 5) [] ⟨.z,.nil⟩
theorem zfX:isTrue zru=true:=by kernel_rfl
def kSum29:CE.Sum:=⟨5,[],[],.s (.one (.bool true))⟩
theorem zkT:jf Tryz.prog kSum29:=by
 refine⟨_,zhS zp0 K29.sums_ok K29.nsums_ok 100000,?_⟩;obtain⟨h2,e⟩:=ziM zfX;unfold Sum.chk;rw[show zf8 (z5 Tryz.prog) fs K29.sums K29.nsums 100000 (.inl kSum29.g) kSum29.args kSum29.heap=some (.s (.one (.bool true)),h2) from e]
 rfl
end Go.Proofs.Tryz.Kn
end
