/-
  Lemmas. No condition.
-/
import Derived.Test.YtaknlhnolkgndaaGreatDoorZd
import Derived.Test.YtaknlhnolkgndaaGreatDoorVb
noncomputable section
namespace Go.Proofs.Tryz.Kn
open Go Go.CE Go.RowKit
namespace K36
def I(n:Nat):Zc:=.int .i64 (.ofNat n)
def U(n:Nat):Zc:=.int .u64 (.ofNat n)
def zvq:zc:=zht (zH Tryz.prog) fs [] 100000
theorem zpS:yQ Tryz.prog zvq:=zeZ zpE (fun s hs=>by cases hs) 100000
def e0:CE.Sum:=⟨11,[.s (.agg [.str ⟨#[79]⟩,.slc (bn 0) 0 1 1 true,.slc (bn 1) 0 1 1 true,.nils])],[.cells [.str ⟨#[80]⟩,.str ⟨#[112,114,105,110,99,105,112,97,108]⟩,I 8,I 1,I 36,.slc (bn 2) 0 3 3 true] 6,.cells [.str ⟨#[71,114,101,97,116]⟩,.bool false,I 36,I 38,.slc (bn 3) 0 1 1 true] 5,.cells [I 5,I 5,I 4] 1,.cells [.str ⟨#[80,114,105,110,99,105,112,97,108]⟩,I 8,I 1,.slc (bn 4) 0 1 1 true] 4,.cells [I 36,I 38,.slc (bn 5) 0 1 1 true] 3,.cells [I 0,I 0] 2],.s (.one (I 0))⟩
theorem zvj:e0.chk zvq=true:=by kernel_rfl
theorem zxJ:ke Tryz.prog e0:=⟨_,zpS,zvj⟩
def sums:List CE.Sum:=[e0]
theorem sums_ok:∀s∈sums,ke Tryz.prog s:=by
 intro s hs;simp only[sums,Yzv,Yzp,or_false]at hs;rcases hs with rfl
 .exact zxJ
def zhP:zc:=zht (zH Tryz.prog) fs sums 100000
theorem jU:yQ Tryz.prog zhP:=zeZ zpE sums_ok 100000
def e1:Zl:=⟨32,[.s (.agg [.str ⟨#[79]⟩,.slc (bn 0) 0 1 1 true,.slc (bn 1) 0 1 1 true,.nils,.slc (bn 2) 0 1 1 true,U 0,U 0,I 1,I 12,I 0,I 0]),.s (.one (.slc (bn 3) 0 1 1 true)),.s (.one (.slc (bn 3) 0 1 1 true))],[.cells [.str ⟨#[80]⟩,.str ⟨#[112,114,105,110,99,105,112,97,108]⟩,I 8,I 1,I 36,.slc (bn 4) 0 3 3 true] 6,.cells [.str ⟨#[71,114,101,97,116]⟩,.bool false,I 36,I 38,.slc (bn 5) 0 1 1 true] 5,.cells [U 1] 1,.cells [U 0,U 0] 2,.cells [I 5,I 5,I 4] 1,.cells [.str ⟨#[80,114,105,110,99,105,112,97,108]⟩,I 8,I 1,.slc (bn 6) 0 1 1 true] 4,.cells [I 36,I 38,.slc (bn 7) 0 1 1 true] 3,.cells [I 0,I 0] 2],.tup [.one (I 10),.one (.slc (bn 8) 0 3 0 false),.one (I 0)],[.cells [I 0,I 5,.bool false,I 1,I 5,.bool false,I 2,I 4,.bool false] 3]⟩
theorem zvi:e1.chk zhP=true:=by kernel_rfl
theorem zxH:kE Tryz.prog e1:=⟨_,jU,zvi⟩
def e2:Zl:=⟨32,[.s (.agg [.str ⟨#[79]⟩,.slc (bn 0) 0 1 1 true,.slc (bn 1) 0 1 1 true,.nils,.slc (bn 2) 0 1 1 true,U 0,U 0,I 1,I 12,I 0,I 0]),.s (.one (.slc (bn 3) 0 1 0 false)),.s (.one (.slc (bn 4) 0 1 1 true))],[.cells [.str ⟨#[80]⟩,.str ⟨#[112,114,105,110,99,105,112,97,108]⟩,I 8,I 1,I 36,.slc (bn 5) 0 3 3 true] 6,.cells [.str ⟨#[71,114,101,97,116]⟩,.bool false,I 36,I 38,.slc (bn 6) 0 1 1 true] 5,.cells [U 1] 1,.cells [U 68719476736,U 0] 2,.cells [U 0,U 0] 2,.cells [I 5,I 5,I 4] 1,.cells [.str ⟨#[80,114,105,110,99,105,112,97,108]⟩,I 8,I 1,.slc (bn 7) 0 1 1 true] 4,.cells [I 36,I 38,.slc (bn 8) 0 1 1 true] 3,.cells [I 0,I 0] 2],.tup [.one (I 10),.one (.slc (bn 9) 0 2 0 false),.one (I 0)],[.cells [I 1,I 5,.bool false,I 2,I 4,.bool false] 3]⟩
theorem zvh:e2.chk zhP=true:=by kernel_rfl
theorem zxG:kE Tryz.prog e2:=⟨_,jU,zvh⟩
def e3:Zl:=⟨32,[.s (.agg [.str ⟨#[79]⟩,.slc (bn 0) 0 1 1 true,.slc (bn 1) 0 1 1 true,.nils,.slc (bn 2) 0 1 1 true,U 0,U 0,I 1,I 12,I 0,I 0]),.s (.one (.slc (bn 3) 0 1 0 false)),.s (.one (.slc (bn 4) 0 1 1 true))],[.cells [.str ⟨#[80]⟩,.str ⟨#[112,114,105,110,99,105,112,97,108]⟩,I 8,I 1,I 36,.slc (bn 5) 0 3 3 true] 6,.cells [.str ⟨#[71,114,101,97,116]⟩,.bool false,I 36,I 38,.slc (bn 6) 0 1 1 true] 5,.cells [U 1] 1,.cells [U 206158430208,U 0] 2,.cells [U 0,U 0] 2,.cells [I 5,I 5,I 4] 1,.cells [.str ⟨#[80,114,105,110,99,105,112,97,108]⟩,I 8,I 1,.slc (bn 7) 0 1 1 true] 4,.cells [I 36,I 38,.slc (bn 8) 0 1 1 true] 3,.cells [I 0,I 0] 2],.tup [.one (I 10),.one (.nils),.one (I 0)],[]⟩
theorem zvg:e3.chk zhP=true:=by kernel_rfl
theorem zxF:kE Tryz.prog e3:=⟨_,jU,zvg⟩
def e4:Zl:=⟨32,[.s (.agg [.str ⟨#[79]⟩,.slc (bn 0) 0 1 1 true,.slc (bn 1) 0 1 1 true,.nils,.slc (bn 2) 0 1 1 true,U 0,U 0,I 1,I 12,I 0,I 0]),.s (.one (.slc (bn 3) 0 1 0 false)),.s (.one (.slc (bn 4) 0 1 0 false))],[.cells [.str ⟨#[80]⟩,.str ⟨#[112,114,105,110,99,105,112,97,108]⟩,I 8,I 1,I 36,.slc (bn 5) 0 3 3 true] 6,.cells [.str ⟨#[71,114,101,97,116]⟩,.bool false,I 36,I 38,.slc (bn 6) 0 1 1 true] 5,.cells [U 1] 1,.cells [U 68719476736,U 0] 2,.cells [U 137438953472,U 0] 2,.cells [I 5,I 5,I 4] 1,.cells [.str ⟨#[80,114,105,110,99,105,112,97,108]⟩,I 8,I 1,.slc (bn 7) 0 1 1 true] 4,.cells [I 36,I 38,.slc (bn 8) 0 1 1 true] 3,.cells [I 0,I 0] 2],.tup [.one (I 9),.one (.slc (bn 9) 0 1 0 false),.one (I 0)],[.cells [I 2,I 4,.bool false] 3]⟩
theorem zvf:e4.chk zhP=true:=by kernel_rfl
theorem zxE:kE Tryz.prog e4:=⟨_,jU,zvf⟩
def e5:Zl:=⟨32,[.s (.agg [.str ⟨#[79]⟩,.slc (bn 0) 0 1 1 true,.slc (bn 1) 0 1 1 true,.nils,.slc (bn 2) 0 1 1 true,U 0,U 0,I 1,I 12,I 0,I 0]),.s (.one (.slc (bn 3) 0 1 1 true)),.s (.one (.slc (bn 4) 0 1 0 false))],[.cells [.str ⟨#[80]⟩,.str ⟨#[112,114,105,110,99,105,112,97,108]⟩,I 8,I 1,I 36,.slc (bn 5) 0 3 3 true] 6,.cells [.str ⟨#[71,114,101,97,116]⟩,.bool false,I 36,I 38,.slc (bn 6) 0 1 1 true] 5,.cells [U 1] 1,.cells [U 0,U 0] 2,.cells [U 68719476736,U 0] 2,.cells [I 5,I 5,I 4] 1,.cells [.str ⟨#[80,114,105,110,99,105,112,97,108]⟩,I 8,I 1,.slc (bn 7) 0 1 1 true] 4,.cells [I 36,I 38,.slc (bn 8) 0 1 1 true] 3,.cells [I 0,I 0] 2],.tup [.one (I 9),.one (.slc (bn 9) 0 2 0 false),.one (I 0)],[.cells [I 1,I 5,.bool false,I 2,I 4,.bool false] 3]⟩
theorem zve:e5.chk zhP=true:=by kernel_rfl
theorem zxD:kE Tryz.prog e5:=⟨_,jU,zve⟩
def e6:Zl:=⟨32,[.s (.agg [.str ⟨#[79]⟩,.slc (bn 0) 0 1 1 true,.slc (bn 1) 0 1 1 true,.nils,.slc (bn 2) 0 1 1 true,U 0,U 0,I 1,I 12,I 0,I 0]),.s (.one (.slc (bn 3) 0 1 1 true)),.s (.one (.slc (bn 4) 0 1 1 true))],[.cells [.str ⟨#[80]⟩,.str ⟨#[112,114,105,110,99,105,112,97,108]⟩,I 8,I 1,I 36,.slc (bn 5) 0 3 3 true] 6,.cells [.str ⟨#[71,114,101,97,116]⟩,.bool false,I 36,I 38,.slc (bn 6) 0 1 1 true] 5,.cells [U 1] 1,.cells [U 0,U 0] 2,.cells [U 0,U 0] 2,.cells [I 5,I 5,I 4] 1,.cells [.str ⟨#[80,114,105,110,99,105,112,97,108]⟩,I 8,I 1,.slc (bn 7) 0 1 1 true] 4,.cells [I 36,I 38,.slc (bn 8) 0 1 1 true] 3,.cells [I 0,I 0] 2],.tup [.one (I 10),.one (.slc (bn 9) 0 3 0 false),.one (I 0)],[.cells [I 0,I 5,.bool false,I 1,I 5,.bool false,I 2,I 4,.bool false] 3]⟩
theorem zvd:e6.chk zhP=true:=by kernel_rfl
theorem zxC:kE Tryz.prog e6:=⟨_,jU,zvd⟩
def nsums:List Zl:=[e1,e2,e3,e4,e5,e6]
theorem nsums_ok:∀s∈nsums,kE Tryz.prog s:=by
 intro s hs;simp only[nsums,Yzv,Yzp,or_false]at hs;rcases hs with rfl|rfl|rfl|rfl|rfl|rfl
 .exact zxH
 .exact zxG
 .exact zxF
 .exact zxE
 .exact zxD
 .exact zxC
end K36
end Go.Proofs.Tryz.Kn
end
