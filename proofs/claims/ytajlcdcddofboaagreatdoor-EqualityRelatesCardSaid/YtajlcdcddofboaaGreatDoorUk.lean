/-
  Lemmas. No condition.
-/
import Derived.Test.YtajlcdcddofboaaGreatDoorUf
import Derived.Test.YtajlcdcddofboaaGreatDoorVb
noncomputable section
namespace Go.Proofs.Tryz.Kn
open Go Go.CE Go.RowKit
namespace K29
def I(n:Nat):Zc:=.int .i64 (.ofNat n)
def U(n:Nat):Zc:=.int .u64 (.ofNat n)
def ob0:Ze:=.cells [.slc (bn 15) 0 1 0 false,.slc (bn 16) 0 1 0 false,.slc (bn 17) 0 1 0 false,.slc (bn 18) 0 1 0 false,.slc (bn 19) 0 1 0 false,.slc (bn 20) 0 1 0 false,.slc (bn 21) 0 1 0 false,.slc (bn 22) 0 1 0 false,.slc (bn 23) 0 1 0 false,.slc (bn 24) 0 1 0 false,.slc (bn 25) 0 1 0 false,.slc (bn 26) 0 1 0 false,.slc (bn 27) 0 1 0 false] 1
def ob1:Ze:=.cells [.str ⟨#[114]⟩,.str ⟨#[102,108,117,116,101]⟩,I 8,I 1,I 36,.slc (bn 4) 0 25 25 true,.str ⟨#[115]⟩,.str ⟨#[102,108,117,116,101]⟩,I 8,I 1,I 36,.slc (bn 5) 0 25 25 true] 6
def ob2:Ze:=.cells [.str ⟨#[111,110,101]⟩,.bool false,I 36,I 48,.slc (bn 6) 0 2 0 false,.str ⟨#[116,119,111]⟩,.bool false,I 36,I 48,.slc (bn 7) 0 1 1 true] 5
def ob3:Ze:=.cells [.str ⟨#[97]⟩,I 8,I 1,.slc (bn 8) 0 1 1 true,.str ⟨#[98]⟩,I 8,I 1,.slc (bn 8) 0 1 1 true] 4
def ob4:Ze:=.cells (List.replicate 25 (I 1)) 1
def ob5:Ze:=.cells [.str ⟨#[99]⟩,I 0,I 1,I 0,.bool false] 5
def ob6:Ze:=.cells [.slc (bn 13) 0 13 0 false,.slc (bn 14) 0 13 0 false] 1
def ob7:Ze:=.cells [.str ⟨#[97]⟩,I 4,I 1,.slc (bn 9) 0 1 1 true] 4
def ob8:Ze:=.cells [I 36,I 48,.slc (bn 11) 0 1 1 true] 3
def ob9:Ze:=.cells [I 36,I 48,.slc (bn 10) 0 1 1 true] 3
def zxW:Ze:=.cells (List.replicate 13 (.nils)) 1
def zAo:Ze:=.cells [.str ⟨#[97]⟩,I 8,I 1,.slc (bn 10) 0 1 1 true,.str ⟨#[98]⟩,I 8,I 1,.slc (bn 10) 0 1 1 true] 4
def zzL:Ze:=.cells [I 36,I 48,.slc (bn 12) 0 1 1 true] 3
def zAn:Ze:=.cells [.slc (bn 8) 0 2 2 true,U 0,U 0,.slc (bn 9) 0 2 2 true,U 0,U 0] 3
def zah:zg:=zhK (zX Tryz.prog) fs [] 100000
theorem xQ:yT Tryz.prog zah:=zfc zsI (fun s hs=>by cases hs) 100000
def e0:CE.Sum:=⟨38,[.s (.agg [.str ⟨#[101]⟩,.slc (bn 0) 0 2 2 true,.slc (bn 1) 0 2 2 true,.slc (bn 2) 0 1 1 true]),.s (.one (.slc (bn 3) 0 2 2 true))],[ob1,ob2,ob5,zAn,ob4,ob4,zAo,.cells [.str ⟨#[97]⟩,I 4,I 1,.slc (bn 11) 0 1 1 true] 4,.cells [U 1,U 0] 1,.cells [U 2,U 0] 1,zzL,.cells [I 36,I 48,.slc (bn 13) 0 1 1 true] 3,.cells [I 0,I 0] 2,.cells [I 1,I 12] 2],.s (.one (I 0))⟩
theorem zuP:e0.chk zah=true:=by kernel_rfl
theorem zwv:u6 Tryz.prog e0:=⟨_,xQ,zuP⟩
def e1:Zm:=⟨39,[.s (.agg [.str ⟨#[101]⟩,.slc (bn 0) 0 2 2 true,.slc (bn 1) 0 2 2 true,.slc (bn 2) 0 1 1 true]),.s (.agg [.slc (bn 3) 0 2 2 true,U 0,U 0])],[ob1,ob2,ob5,.cells [U 1,U 0] 1,ob4,ob4,ob3,ob7,ob9,ob8,.cells [I 0,I 0] 2,.cells [I 1,I 12] 2],.s (.one (.slc (bn 12) 0 2 2 true)),[ob6,ob0,zxW,.cells [I 0,I 0] 2,.cells [I 0,I 1] 2,.cells [I 0,I 2] 2,.cells [I 0,I 3] 2,.cells [I 0,I 4] 2,.cells [I 0,I 5] 2,.cells [I 0,I 6] 2,.cells [I 0,I 7] 2,.cells [I 0,I 8] 2,.cells [I 0,I 9] 2,.cells [I 0,I 10] 2,.cells [I 0,I 11] 2,.cells [I 0,I 12] 2]⟩
theorem zuL:e1.chk zah=true:=by kernel_rfl
theorem zwt:vY Tryz.prog e1:=⟨_,xQ,zuL⟩
def e2:Zm:=⟨39,[.s (.agg [.str ⟨#[101]⟩,.slc (bn 0) 0 2 2 true,.slc (bn 1) 0 2 2 true,.slc (bn 2) 0 1 1 true]),.s (.agg [.slc (bn 3) 0 2 2 true,U 0,U 0])],[ob1,ob2,ob5,.cells [U 2,U 0] 1,ob4,ob4,ob3,ob7,ob9,ob8,.cells [I 0,I 0] 2,.cells [I 1,I 12] 2],.s (.one (.slc (bn 12) 0 2 2 true)),[ob6,ob0,zxW,.cells [I 0,I 0] 2,.cells [I 0,I 1] 2,.cells [I 0,I 2] 2,.cells [I 0,I 3] 2,.cells [I 0,I 4] 2,.cells [I 0,I 5] 2,.cells [I 0,I 6] 2,.cells [I 0,I 7] 2,.cells [I 0,I 8] 2,.cells [I 0,I 9] 2,.cells [I 0,I 10] 2,.cells [I 0,I 11] 2,.cells [I 0,I 12] 2]⟩
theorem zuK:e2.chk zah=true:=by kernel_rfl
theorem zws:vY Tryz.prog e2:=⟨_,xQ,zuK⟩
def e3:CE.Sum:=⟨38,[.s (.agg [.str ⟨#[101]⟩,.slc (bn 0) 0 2 2 true,.slc (bn 1) 0 2 2 true,.slc (bn 2) 0 1 1 true]),.s (.one (.slc (bn 3) 0 1 1 true))],[ob1,ob2,ob5,.cells [.slc (bn 8) 0 2 2 true,U 1,U 0] 3,ob4,ob4,.cells [.str ⟨#[97]⟩,I 8,I 1,.slc (bn 9) 0 1 1 true,.str ⟨#[98]⟩,I 8,I 1,.slc (bn 9) 0 1 1 true] 4,.cells [.str ⟨#[97]⟩,I 4,I 1,.slc (bn 10) 0 1 1 true] 4,.cells [U 3,U 0] 1,ob8,zzL,.cells [I 0,I 0] 2,.cells [I 1,I 12] 2],.s (.one (I 0))⟩
theorem zuJ:e3.chk zah=true:=by kernel_rfl
theorem zwr:u6 Tryz.prog e3:=⟨_,xQ,zuJ⟩
def e4:Zm:=⟨39,[.s (.agg [.str ⟨#[101]⟩,.slc (bn 0) 0 2 2 true,.slc (bn 1) 0 2 2 true,.slc (bn 2) 0 1 1 true]),.s (.agg [.slc (bn 3) 0 2 2 true,U 1,U 0])],[ob1,ob2,ob5,.cells [U 3,U 0] 1,ob4,ob4,ob3,ob7,ob9,ob8,.cells [I 0,I 0] 2,.cells [I 1,I 12] 2],.s (.one (.slc (bn 12) 0 2 2 true)),[ob6,ob0,zxW,.cells (List.replicate 4 (I 0)) 2,.cells [I 0,I 1,I 0,I 0] 2,.cells [I 0,I 2,I 0,I 0] 2,.cells [I 0,I 3,I 0,I 0] 2,.cells [I 0,I 4,I 0,I 0] 2,.cells [I 0,I 5,I 0,I 0] 2,.cells [I 0,I 6,I 0,I 0] 2,.cells [I 0,I 7,I 0,I 0] 2,.cells [I 0,I 8,I 0,I 0] 2,.cells [I 0,I 9,I 0,I 0] 2,.cells [I 0,I 10,I 0,I 0] 2,.cells [I 0,I 11,I 0,I 0] 2,.cells [I 0,I 12,I 0,I 0] 2]⟩
theorem zuI:e4.chk zah=true:=by kernel_rfl
theorem zwq:vY Tryz.prog e4:=⟨_,xQ,zuI⟩
def e5:Zm:=⟨39,[.s (.agg [.str ⟨#[101]⟩,.slc (bn 0) 0 2 2 true,.slc (bn 1) 0 2 2 true,.slc (bn 2) 0 1 1 true]),.s (.agg [.slc (bn 3) 0 2 0 false,U 1,U 0])],[ob1,ob2,ob5,.cells [U 2,U 0] 1,ob4,ob4,ob3,ob7,ob9,ob8,.cells [I 0,I 0] 2,.cells [I 1,I 12] 2],.s (.one (.slc (bn 12) 0 2 2 true)),[ob6,ob0,zxW,.cells [I 0,I 0] 2,.cells [I 0,I 1] 2,.cells [I 0,I 2] 2,.cells [I 0,I 3] 2,.cells [I 0,I 4] 2,.cells [I 0,I 5] 2,.cells [I 0,I 6] 2,.cells [I 0,I 7] 2,.cells [I 0,I 8] 2,.cells [I 0,I 9] 2,.cells [I 0,I 10] 2,.cells [I 0,I 11] 2,.cells [I 0,I 12] 2]⟩
theorem zuH:e5.chk zah=true:=by kernel_rfl
theorem zwp:vY Tryz.prog e5:=⟨_,xQ,zuH⟩
def e6:Zm:=⟨39,[.s (.agg [.str ⟨#[101]⟩,.slc (bn 0) 0 2 2 true,.slc (bn 1) 0 2 2 true,.slc (bn 2) 0 1 1 true]),.s (.agg [.slc (bn 3) 0 2 0 false,U 1,U 0])],[ob1,ob2,ob5,.cells [U 1,U 0] 1,ob4,ob4,ob3,ob7,ob9,ob8,.cells [I 0,I 0] 2,.cells [I 1,I 12] 2],.s (.one (.slc (bn 12) 0 2 2 true)),[ob6,ob0,zxW,.cells [I 0,I 0] 2,.cells [I 0,I 1] 2,.cells [I 0,I 2] 2,.cells [I 0,I 3] 2,.cells [I 0,I 4] 2,.cells [I 0,I 5] 2,.cells [I 0,I 6] 2,.cells [I 0,I 7] 2,.cells [I 0,I 8] 2,.cells [I 0,I 9] 2,.cells [I 0,I 10] 2,.cells [I 0,I 11] 2,.cells [I 0,I 12] 2]⟩
theorem zuG:e6.chk zah=true:=by kernel_rfl
theorem zwo:vY Tryz.prog e6:=⟨_,xQ,zuG⟩
def e7:Zm:=⟨39,[.s (.agg [.str ⟨#[101]⟩,.slc (bn 0) 0 2 2 true,.slc (bn 1) 0 2 2 true,.slc (bn 2) 0 1 1 true]),.s (.agg [.slc (bn 3) 0 2 0 false,U 0,U 0])],[ob1,ob2,ob5,.cells [U 3,U 0] 1,ob4,ob4,ob3,ob7,ob9,ob8,.cells [I 0,I 0] 2,.cells [I 1,I 12] 2],.s (.one (.slc (bn 12) 0 2 2 true)),[ob6,ob0,zxW,.cells (List.replicate 4 (I 0)) 2,.cells [I 0,I 1,I 0,I 0] 2,.cells [I 0,I 2,I 0,I 0] 2,.cells [I 0,I 3,I 0,I 0] 2,.cells [I 0,I 4,I 0,I 0] 2,.cells [I 0,I 5,I 0,I 0] 2,.cells [I 0,I 6,I 0,I 0] 2,.cells [I 0,I 7,I 0,I 0] 2,.cells [I 0,I 8,I 0,I 0] 2,.cells [I 0,I 9,I 0,I 0] 2,.cells [I 0,I 10,I 0,I 0] 2,.cells [I 0,I 11,I 0,I 0] 2,.cells [I 0,I 12,I 0,I 0] 2]⟩
theorem zuF:e7.chk zah=true:=by kernel_rfl
theorem zwn:vY Tryz.prog e7:=⟨_,xQ,zuF⟩
def e8:Zm:=⟨39,[.s (.agg [.str ⟨#[101]⟩,.slc (bn 0) 0 2 2 true,.slc (bn 1) 0 2 2 true,.slc (bn 2) 0 1 1 true]),.s (.agg [.slc (bn 3) 0 2 0 false,U 1,U 0])],[ob1,ob2,ob5,.cells [U 0,U 0] 1,ob4,ob4,ob3,ob7,ob9,ob8,.cells [I 0,I 0] 2,.cells [I 1,I 12] 2],.s (.one (.slc (bn 12) 0 2 2 true)),[ob6,zxW,zxW]⟩
theorem zuE:e8.chk zah=true:=by kernel_rfl
theorem zwm:vY Tryz.prog e8:=⟨_,xQ,zuE⟩
def e9:Zm:=⟨39,[.s (.agg [.str ⟨#[101]⟩,.slc (bn 0) 0 2 2 true,.slc (bn 1) 0 2 2 true,.slc (bn 2) 0 1 1 true]),.s (.agg [.slc (bn 3) 0 2 0 false,U 0,U 0])],[ob1,ob2,ob5,.cells [U 2,U 0] 1,ob4,ob4,ob3,ob7,ob9,ob8,.cells [I 0,I 0] 2,.cells [I 1,I 12] 2],.s (.one (.slc (bn 12) 0 2 2 true)),[ob6,ob0,zxW,.cells [I 0,I 0] 2,.cells [I 0,I 1] 2,.cells [I 0,I 2] 2,.cells [I 0,I 3] 2,.cells [I 0,I 4] 2,.cells [I 0,I 5] 2,.cells [I 0,I 6] 2,.cells [I 0,I 7] 2,.cells [I 0,I 8] 2,.cells [I 0,I 9] 2,.cells [I 0,I 10] 2,.cells [I 0,I 11] 2,.cells [I 0,I 12] 2]⟩
theorem zuD:e9.chk zah=true:=by kernel_rfl
theorem zwl:vY Tryz.prog e9:=⟨_,xQ,zuD⟩
def e10:Zm:=⟨39,[.s (.agg [.str ⟨#[101]⟩,.slc (bn 0) 0 2 2 true,.slc (bn 1) 0 2 2 true,.slc (bn 2) 0 1 1 true]),.s (.agg [.slc (bn 3) 0 2 0 false,U 0,U 0])],[ob1,ob2,ob5,.cells [U 0,U 0] 1,ob4,ob4,ob3,ob7,ob9,ob8,.cells [I 0,I 0] 2,.cells [I 1,I 12] 2],.s (.one (.slc (bn 12) 0 2 2 true)),[ob6,zxW,zxW]⟩
theorem zsP:e10.chk zah=true:=by kernel_rfl
theorem zuO:vY Tryz.prog e10:=⟨_,xQ,zsP⟩
def e11:CE.Sum:=⟨38,[.s (.agg [.str ⟨#[101]⟩,.slc (bn 0) 0 2 2 true,.slc (bn 1) 0 2 2 true,.slc (bn 2) 0 1 1 true]),.s (.one (.slc (bn 3) 0 2 2 true))],[ob1,ob2,ob5,zAn,ob4,ob4,zAo,.cells [.str ⟨#[97]⟩,I 4,I 1,.slc (bn 11) 0 1 1 true] 4,.cells [U 1,U 0] 1,.cells [U 0,U 1] 1,zzL,.cells [I 36,I 48,.slc (bn 13) 0 1 1 true] 3,.cells [I 0,I 0] 2,.cells [I 1,I 12] 2],.s (.one (I 0))⟩
theorem zsO:e11.chk zah=true:=by kernel_rfl
theorem zuN:u6 Tryz.prog e11:=⟨_,xQ,zsO⟩
def e12:Zm:=⟨39,[.s (.agg [.str ⟨#[101]⟩,.slc (bn 0) 0 2 2 true,.slc (bn 1) 0 2 2 true,.slc (bn 2) 0 1 1 true]),.s (.agg [.slc (bn 3) 0 2 2 true,U 0,U 0])],[ob1,ob2,ob5,.cells [U 0,U 1] 1,ob4,ob4,ob3,ob7,ob9,ob8,.cells [I 0,I 0] 2,.cells [I 1,I 12] 2],.s (.one (.slc (bn 12) 0 2 2 true)),[ob6,zxW,ob0,.cells [I 1,I 12] 2,.cells [I 1,I 13] 2,.cells [I 1,I 14] 2,.cells [I 1,I 15] 2,.cells [I 1,I 16] 2,.cells [I 1,I 17] 2,.cells [I 1,I 18] 2,.cells [I 1,I 19] 2,.cells [I 1,I 20] 2,.cells [I 1,I 21] 2,.cells [I 1,I 22] 2,.cells [I 1,I 23] 2,.cells [I 1,I 24] 2]⟩
theorem zsN:e12.chk zah=true:=by kernel_rfl
theorem zuM:vY Tryz.prog e12:=⟨_,xQ,zsN⟩
def sums:List CE.Sum:=[e0,e3,e11]
theorem sums_ok:∀s∈sums,u6 Tryz.prog s:=by
 intro s hs;simp only[sums,YzO,YzK,or_false]at hs;rcases hs with rfl|rfl|rfl
 ·exact zwv
 ·exact zwr
 ·exact zuN
def nsums:List Zm:=[e1,e2,e4,e5,e6,e7,e8,e9,e10,e12]
theorem nsums_ok:∀s∈nsums,vY Tryz.prog s:=by
 intro s hs;simp only[nsums,YzO,YzK,or_false]at hs;rcases hs with rfl|rfl|rfl|rfl|rfl|rfl|rfl|rfl|rfl|rfl
 ·exact zwt
 ·exact zws
 ·exact zwq
 ·exact zwp
 ·exact zwo
 ·exact zwn
 ·exact zwm
 ·exact zwl
 ·exact zuO
 ·exact zuM
end K29
end Go.Proofs.Tryz.Kn
end
