/-
  Lemmas. No condition.
-/
import Derived.Test.YthnijnblnoflnaaGreatDoorXe
noncomputable section
namespace Go.Proofs.Tryz.Kn
open Go Go.CE Go.RowKit
def zuu:Res:=zho (zI Tryz.prog) fs [] 100000 (.inl 5) [] ⟨.z,.nil⟩
theorem zhc:isTrue zuu=true:=by kernel_rfl
def kSum28:CE.Sum:=⟨5,[],[],.s (.one (.bool true))⟩
theorem zmN:zaD Tryz.prog kSum28:=by refine⟨_,zjm zuI (sums:=[]) (fun s hs=>by cases hs) 100000,?_⟩;obtain⟨h2,e⟩:=zkn zhc;unfold Sum.chk;rw[show zho (zI Tryz.prog) fs [] 100000 (.inl kSum28.g) kSum28.args kSum28.heap=some (.s (.one (.bool true)),h2) from e];rfl
end Go.Proofs.Tryz.Kn
end
