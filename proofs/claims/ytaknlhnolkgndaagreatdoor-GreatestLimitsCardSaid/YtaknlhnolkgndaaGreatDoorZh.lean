/-
  Lemmas. No condition.
-/
import Derived.Test.YtaknlhnolkgndaaGreatDoorZg
section
namespace Go.Proofs.Tryz.Kn
open Go Go.CE Go.RowKit
namespace KL
open K36 (I U)
def e2:Zl:=⟨32,[.s (.agg [.str ⟨#[79]⟩,.slc (bn 0) 0 1 1 true,.slc (bn 1) 0 1 1 true,.nils,.slc (bn 2) 0 1 1 true,U 0,U 0,I 1,I 12,I 0,I 0]),.s (.one (.slc (bn 3) 0 1 1 true)),.s (.one (.slc (bn 3) 0 1 1 true))],[.cells [.str ⟨#[80]⟩,.str ⟨#[112,114,105,110,99,105,112,97,108]⟩,I 8,I 1,I 36,.slc (bn 4) 0 3 3 true] 6,.cells [.str ⟨#[71,114,101,97,116]⟩,.bool false,I 36,I 46,.slc (bn 5) 0 1 1 true] 5,.cells [U 1] 1,.cells [U 0,U 0] 2,.cells [I 5,I 5,I 4] 1,.cells [.str ⟨#[80,114,105,110,99,105,112,97,108]⟩,I 8,I 1,.slc (bn 6) 0 1 1 true] 4,.cells [I 36,I 38,.slc (bn 7) 0 1 1 true] 3,.cells [I 0,I 0] 2],.tup [.one (I 10),.one (.slc (bn 8) 0 11 0 false),.one (I 0)],[.cells [I 0,I 5,.bool false,I 1,I 5,.bool false,I 2,I 4,.bool false,I 3,I 0,.bool false,I 4,I 0,.bool false,I 5,I 0,.bool false,I 6,I 0,.bool false,I 7,I 0,.bool false,I 8,I 0,.bool false,I 9,I 0,.bool false,I 10,I 0,.bool false] 3]⟩
theorem zvh:e2.chk zhP=true:=by kernel_rfl
theorem zxG:kE Tryz.prog e2:=⟨_,jU,zvh⟩
def e3:Zl:=⟨32,[.s (.agg [.str ⟨#[79]⟩,.slc (bn 0) 0 1 1 true,.slc (bn 1) 0 1 1 true,.nils,.slc (bn 2) 0 1 1 true,U 0,U 0,I 1,I 12,I 0,I 0]),.s (.one (.slc (bn 3) 0 1 0 false)),.s (.one (.slc (bn 4) 0 1 1 true))],[.cells [.str ⟨#[80]⟩,.str ⟨#[112,114,105,110,99,105,112,97,108]⟩,I 8,I 1,I 36,.slc (bn 5) 0 3 3 true] 6,.cells [.str ⟨#[71,114,101,97,116]⟩,.bool false,I 36,I 46,.slc (bn 6) 0 1 1 true] 5,.cells [U 1] 1,.cells [U 68719476736,U 0] 2,.cells [U 0,U 0] 2,.cells [I 5,I 5,I 4] 1,.cells [.str ⟨#[80,114,105,110,99,105,112,97,108]⟩,I 8,I 1,.slc (bn 7) 0 1 1 true] 4,.cells [I 36,I 38,.slc (bn 8) 0 1 1 true] 3,.cells [I 0,I 0] 2],.tup [.one (I 10),.one (.slc (bn 9) 0 10 0 false),.one (I 0)],[.cells [I 1,I 5,.bool false,I 2,I 4,.bool false,I 3,I 0,.bool false,I 4,I 0,.bool false,I 5,I 0,.bool false,I 6,I 0,.bool false,I 7,I 0,.bool false,I 8,I 0,.bool false,I 9,I 0,.bool false,I 10,I 0,.bool false] 3]⟩
theorem zvg:e3.chk zhP=true:=by kernel_rfl
theorem zxF:kE Tryz.prog e3:=⟨_,jU,zvg⟩
def e4:Zl:=⟨32,[.s (.agg [.str ⟨#[79]⟩,.slc (bn 0) 0 1 1 true,.slc (bn 1) 0 1 1 true,.nils,.slc (bn 2) 0 1 1 true,U 0,U 0,I 1,I 12,I 0,I 0]),.s (.one (.slc (bn 3) 0 1 0 false)),.s (.one (.slc (bn 4) 0 1 1 true))],[.cells [.str ⟨#[80]⟩,.str ⟨#[112,114,105,110,99,105,112,97,108]⟩,I 8,I 1,I 36,.slc (bn 5) 0 3 3 true] 6,.cells [.str ⟨#[71,114,101,97,116]⟩,.bool false,I 36,I 46,.slc (bn 6) 0 1 1 true] 5,.cells [U 1] 1,.cells [U 206158430208,U 0] 2,.cells [U 0,U 0] 2,.cells [I 5,I 5,I 4] 1,.cells [.str ⟨#[80,114,105,110,99,105,112,97,108]⟩,I 8,I 1,.slc (bn 7) 0 1 1 true] 4,.cells [I 36,I 38,.slc (bn 8) 0 1 1 true] 3,.cells [I 0,I 0] 2],.tup [.one (I 10),.one (.nils),.one (I 0)],[]⟩
theorem zvf:e4.chk zhP=true:=by kernel_rfl
theorem zxE:kE Tryz.prog e4:=⟨_,jU,zvf⟩
end KL
end Go.Proofs.Tryz.Kn
end
