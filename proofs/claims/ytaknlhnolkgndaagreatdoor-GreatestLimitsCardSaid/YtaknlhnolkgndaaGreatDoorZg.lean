/-
  Lemmas. No condition.
-/
import Derived.Test.YtaknlhnolkgndaaGreatDoorZf
noncomputable section
namespace Go.Proofs.Tryz.Kn
open Go Go.CE Go.RowKit
namespace KL
open K36
def e0:CE.Sum:=⟨11,[.s (.agg [.str ⟨#[79]⟩,.slc (bn 0) 0 1 1 true,.slc (bn 1) 0 1 1 true,.nils])],[.cells [.str ⟨#[80]⟩,.str ⟨#[112,114,105,110,99,105,112,97,108]⟩,I 8,I 1,I 36,.slc (bn 2) 0 3 3 true] 6,.cells [.str ⟨#[71,114,101,97,116]⟩,.bool false,I 36,I 46,.slc (bn 3) 0 1 1 true] 5,.cells [I 5,I 5,I 4] 1,.cells [.str ⟨#[80,114,105,110,99,105,112,97,108]⟩,I 8,I 1,.slc (bn 4) 0 1 1 true] 4,.cells [I 36,I 38,.slc (bn 5) 0 1 1 true] 3,.cells [I 0,I 0] 2],.s (.one (I 0))⟩
theorem zvj:e0.chk zvq=true:=by kernel_rfl
theorem zxJ:ke Tryz.prog e0:=⟨_,zpS,zvj⟩
def e1:CE.Sum:=⟨11,[.s (.agg [.str ⟨#[79]⟩,.slc (bn 0) 0 1 1 true,.slc (bn 1) 0 1 1 true,.nils])],[.cells [.str ⟨#[80]⟩,.str ⟨#[112,114,105,110,99,105,112,97,108]⟩,I 8,I 1,I 36,.slc (bn 2) 0 3 3 true] 6,.cells [.str ⟨#[71,114,101,97,116]⟩,.bool false,I 36,I 47,.slc (bn 3) 0 1 1 true] 5,.cells [I 5,I 5,I 4] 1,.cells [.str ⟨#[80,114,105,110,99,105,112,97,108]⟩,I 8,I 1,.slc (bn 4) 0 1 1 true] 4,.cells [I 36,I 38,.slc (bn 5) 0 1 1 true] 3,.cells [I 0,I 0] 2],.s (.one (I 0))⟩
theorem zvi:e1.chk zvq=true:=by kernel_rfl
theorem zxH:ke Tryz.prog e1:=⟨_,zpS,zvi⟩
def sums:List CE.Sum:=[e0,e1]
theorem sums_ok:∀s∈sums,ke Tryz.prog s:=by
 intro s hs;simp only[sums,Yzv,Yzp,or_false]at hs;rcases hs with rfl|rfl
 .exact zxJ
 .exact zxH
def zhP:zc:=zht (zH Tryz.prog) fs sums 100000
theorem jU:yQ Tryz.prog zhP:=zeZ zpE sums_ok 100000
end KL
end Go.Proofs.Tryz.Kn
end
