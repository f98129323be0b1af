/-
  Lemmas. No condition.
-/
import Derived.Test.YtkgdjnaidkhniaaGreatDoorZe
noncomputable section
namespace Go.Proofs.Tryz.Kn
open Go Go.CE Go.RowKit
def zBb:Res:=zn4 (zT Tryz.prog) fs 100000 (.inl 7) [] ⟨.z,.nil⟩
theorem zlS:isTrue zBb=true:=by kernel_rfl
def kSum48:CE.Sum:=⟨7,[],[],.s (.one (.bool true))⟩
theorem zr7:zd9 Tryz.prog kSum48:=by refine⟨_,zmw zBr 100000,?_⟩;obtain⟨h2,e⟩:=zpu zlS;unfold Sum.chk;rw[show zn4 (zT Tryz.prog) fs 100000 (.inl kSum48.g) kSum48.args kSum48.heap=some (.s (.one (.bool true)),h2) from e];rfl
end Go.Proofs.Tryz.Kn
end
