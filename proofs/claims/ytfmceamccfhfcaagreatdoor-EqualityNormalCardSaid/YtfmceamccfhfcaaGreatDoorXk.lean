/-
  Lemmas. No condition.
-/
import Derived.Test.YtfmceamccfhfcaaGreatDoorXe
import Derived.Test.YtfmceamccfhfcaaGreatDoorVb
noncomputable section
namespace Go.Proofs.Tryz.Kn
open Go Go.CE Go.RowKit
namespace K29
def I(n:Nat):Zc:=.int .i64 (.ofNat n)
def U(n:Nat):Zc:=.int .u64 (.ofNat n)
def ob0:Zg:=.cells [.slc (bn 15) 0 1 0 false,.slc (bn 16) 0 1 0 false,.slc (bn 17) 0 1 0 false,.slc (bn 18) 0 1 0 false,.slc (bn 19) 0 1 0 false,.slc (bn 20) 0 1 0 false,.slc (bn 21) 0 1 0 false,.slc (bn 22) 0 1 0 false,.slc (bn 23) 0 1 0 false,.slc (bn 24) 0 1 0 false,.slc (bn 25) 0 1 0 false,.slc (bn 26) 0 1 0 false,.slc (bn 27) 0 1 0 false] 1
def ob1:Zg:=.cells [.str ⟨#[114]⟩,.str ⟨#[102,108,117,116,101]⟩,I 8,I 1,I 36,.slc (bn 4) 0 25 25 true,.str ⟨#[115]⟩,.str ⟨#[102,108,117,116,101]⟩,I 8,I 1,I 36,.slc (bn 5) 0 25 25 true] 6
def ob2:Zg:=.cells [.str ⟨#[111,110,101]⟩,.bool false,I 36,I 48,.slc (bn 6) 0 2 0 false,.str ⟨#[116,119,111]⟩,.bool false,I 36,I 48,.slc (bn 7) 0 1 1 true] 5
def ob3:Zg:=.cells [.str ⟨#[97]⟩,I 8,I 1,.slc (bn 8) 0 1 1 true,.str ⟨#[98]⟩,I 8,I 1,.slc (bn 8) 0 1 1 true] 4
def ob4:Zg:=.cells (List.replicate 25 (I 1)) 1
def ob5:Zg:=.cells [.str ⟨#[99]⟩,I 0,I 1,I 0,.bool false] 5
def ob6:Zg:=.cells [.slc (bn 13) 0 13 0 false,.slc (bn 14) 0 13 0 false] 1
def ob7:Zg:=.cells [.str ⟨#[97]⟩,I 4,I 1,.slc (bn 9) 0 1 1 true] 4
def ob8:Zg:=.cells [I 36,I 48,.slc (bn 11) 0 1 1 true] 3
def ob9:Zg:=.cells [I 36,I 48,.slc (bn 10) 0 1 1 true] 3
def znk:Zg:=.cells (List.replicate 13 (.nils)) 1
def zB4:Zg:=.cells [.str ⟨#[97]⟩,I 8,I 1,.slc (bn 10) 0 1 1 true,.str ⟨#[98]⟩,I 8,I 1,.slc (bn 10) 0 1 1 true] 4
def zAy:Zg:=.cells [I 36,I 48,.slc (bn 12) 0 1 1 true] 3
def zB3:Zg:=.cells [.slc (bn 8) 0 2 2 true,U 0,U 0,.slc (bn 9) 0 2 2 true,U 0,U 0] 3
def zaO:zj:=zjs (ye Tryz.prog) fs [] 100000
theorem wl:y4 Tryz.prog zaO:=zgr zwa (fun s hs=>by cases hs) 100000
def e0:CE.Sum:=⟨28,[.s (.agg [.str ⟨#[101]⟩,.slc (bn 0) 0 2 2 true,.slc (bn 1) 0 2 2 true,.slc (bn 2) 0 1 1 true]),.s (.one (.slc (bn 3) 0 2 2 true))],[ob1,ob2,ob5,zB3,ob4,ob4,zB4,.cells [.str ⟨#[97]⟩,I 4,I 1,.slc (bn 11) 0 1 1 true] 4,.cells [U 1,U 0] 1,.cells [U 2,U 0] 1,zAy,.cells [I 36,I 48,.slc (bn 13) 0 1 1 true] 3,.cells [I 0,I 0] 2,.cells [I 1,I 12] 2],.s (.one (I 0))⟩
theorem zyT:e0.chk zaO=true:=by kernel_rfl
theorem zBl:jM Tryz.prog e0:=⟨_,wl,zyT⟩
def e1:Zn:=⟨29,[.s (.agg [.str ⟨#[101]⟩,.slc (bn 0) 0 2 2 true,.slc (bn 1) 0 2 2 true,.slc (bn 2) 0 1 1 true]),.s (.agg [.slc (bn 3) 0 2 2 true,U 0,U 0])],[ob1,ob2,ob5,.cells [U 1,U 0] 1,ob4,ob4,ob3,ob7,ob9,ob8,.cells [I 0,I 0] 2,.cells [I 1,I 12] 2],.s (.one (.slc (bn 12) 0 2 2 true)),[ob6,ob0,znk,.cells [I 0,I 0] 2,.cells [I 0,I 1] 2,.cells [I 0,I 2] 2,.cells [I 0,I 3] 2,.cells [I 0,I 4] 2,.cells [I 0,I 5] 2,.cells [I 0,I 6] 2,.cells [I 0,I 7] 2,.cells [I 0,I 8] 2,.cells [I 0,I 9] 2,.cells [I 0,I 10] 2,.cells [I 0,I 11] 2,.cells [I 0,I 12] 2]⟩
theorem zyP:e1.chk zaO=true:=by kernel_rfl
theorem zBk:uB Tryz.prog e1:=⟨_,wl,zyP⟩
def e2:Zn:=⟨29,[.s (.agg [.str ⟨#[101]⟩,.slc (bn 0) 0 2 2 true,.slc (bn 1) 0 2 2 true,.slc (bn 2) 0 1 1 true]),.s (.agg [.slc (bn 3) 0 2 2 true,U 0,U 0])],[ob1,ob2,ob5,.cells [U 2,U 0] 1,ob4,ob4,ob3,ob7,ob9,ob8,.cells [I 0,I 0] 2,.cells [I 1,I 12] 2],.s (.one (.slc (bn 12) 0 2 2 true)),[ob6,ob0,znk,.cells [I 0,I 0] 2,.cells [I 0,I 1] 2,.cells [I 0,I 2] 2,.cells [I 0,I 3] 2,.cells [I 0,I 4] 2,.cells [I 0,I 5] 2,.cells [I 0,I 6] 2,.cells [I 0,I 7] 2,.cells [I 0,I 8] 2,.cells [I 0,I 9] 2,.cells [I 0,I 10] 2,.cells [I 0,I 11] 2,.cells [I 0,I 12] 2]⟩
theorem zyO:e2.chk zaO=true:=by kernel_rfl
theorem zBj:uB Tryz.prog e2:=⟨_,wl,zyO⟩
def e3:CE.Sum:=⟨28,[.s (.agg [.str ⟨#[101]⟩,.slc (bn 0) 0 2 2 true,.slc (bn 1) 0 2 2 true,.slc (bn 2) 0 1 1 true]),.s (.one (.slc (bn 3) 0 1 1 true))],[ob1,ob2,ob5,.cells [.slc (bn 8) 0 2 2 true,U 1,U 0] 3,ob4,ob4,.cells [.str ⟨#[97]⟩,I 8,I 1,.slc (bn 9) 0 1 1 true,.str ⟨#[98]⟩,I 8,I 1,.slc (bn 9) 0 1 1 true] 4,.cells [.str ⟨#[97]⟩,I 4,I 1,.slc (bn 10) 0 1 1 true] 4,.cells [U 3,U 0] 1,ob8,zAy,.cells [I 0,I 0] 2,.cells [I 1,I 12] 2],.s (.one (I 0))⟩
theorem zyN:e3.chk zaO=true:=by kernel_rfl
theorem zBi:jM Tryz.prog e3:=⟨_,wl,zyN⟩
def e4:Zn:=⟨29,[.s (.agg [.str ⟨#[101]⟩,.slc (bn 0) 0 2 2 true,.slc (bn 1) 0 2 2 true,.slc (bn 2) 0 1 1 true]),.s (.agg [.slc (bn 3) 0 2 2 true,U 1,U 0])],[ob1,ob2,ob5,.cells [U 3,U 0] 1,ob4,ob4,ob3,ob7,ob9,ob8,.cells [I 0,I 0] 2,.cells [I 1,I 12] 2],.s (.one (.slc (bn 12) 0 2 2 true)),[ob6,ob0,znk,.cells (List.replicate 4 (I 0)) 2,.cells [I 0,I 1,I 0,I 0] 2,.cells [I 0,I 2,I 0,I 0] 2,.cells [I 0,I 3,I 0,I 0] 2,.cells [I 0,I 4,I 0,I 0] 2,.cells [I 0,I 5,I 0,I 0] 2,.cells [I 0,I 6,I 0,I 0] 2,.cells [I 0,I 7,I 0,I 0] 2,.cells [I 0,I 8,I 0,I 0] 2,.cells [I 0,I 9,I 0,I 0] 2,.cells [I 0,I 10,I 0,I 0] 2,.cells [I 0,I 11,I 0,I 0] 2,.cells [I 0,I 12,I 0,I 0] 2]⟩
theorem zyM:e4.chk zaO=true:=by kernel_rfl
theorem zBh:uB Tryz.prog e4:=⟨_,wl,zyM⟩
def e5:Zn:=⟨29,[.s (.agg [.str ⟨#[101]⟩,.slc (bn 0) 0 2 2 true,.slc (bn 1) 0 2 2 true,.slc (bn 2) 0 1 1 true]),.s (.agg [.slc (bn 3) 0 2 0 false,U 1,U 0])],[ob1,ob2,ob5,.cells [U 2,U 0] 1,ob4,ob4,ob3,ob7,ob9,ob8,.cells [I 0,I 0] 2,.cells [I 1,I 12] 2],.s (.one (.slc (bn 12) 0 2 2 true)),[ob6,ob0,znk,.cells [I 0,I 0] 2,.cells [I 0,I 1] 2,.cells [I 0,I 2] 2,.cells [I 0,I 3] 2,.cells [I 0,I 4] 2,.cells [I 0,I 5] 2,.cells [I 0,I 6] 2,.cells [I 0,I 7] 2,.cells [I 0,I 8] 2,.cells [I 0,I 9] 2,.cells [I 0,I 10] 2,.cells [I 0,I 11] 2,.cells [I 0,I 12] 2]⟩
theorem zyL:e5.chk zaO=true:=by kernel_rfl
theorem zBg:uB Tryz.prog e5:=⟨_,wl,zyL⟩
def e6:Zn:=⟨29,[.s (.agg [.str ⟨#[101]⟩,.slc (bn 0) 0 2 2 true,.slc (bn 1) 0 2 2 true,.slc (bn 2) 0 1 1 true]),.s (.agg [.slc (bn 3) 0 2 0 false,U 1,U 0])],[ob1,ob2,ob5,.cells [U 1,U 0] 1,ob4,ob4,ob3,ob7,ob9,ob8,.cells [I 0,I 0] 2,.cells [I 1,I 12] 2],.s (.one (.slc (bn 12) 0 2 2 true)),[ob6,ob0,znk,.cells [I 0,I 0] 2,.cells [I 0,I 1] 2,.cells [I 0,I 2] 2,.cells [I 0,I 3] 2,.cells [I 0,I 4] 2,.cells [I 0,I 5] 2,.cells [I 0,I 6] 2,.cells [I 0,I 7] 2,.cells [I 0,I 8] 2,.cells [I 0,I 9] 2,.cells [I 0,I 10] 2,.cells [I 0,I 11] 2,.cells [I 0,I 12] 2]⟩
theorem zyK:e6.chk zaO=true:=by kernel_rfl
theorem zBf:uB Tryz.prog e6:=⟨_,wl,zyK⟩
def e7:Zn:=⟨29,[.s (.agg [.str ⟨#[101]⟩,.slc (bn 0) 0 2 2 true,.slc (bn 1) 0 2 2 true,.slc (bn 2) 0 1 1 true]),.s (.agg [.slc (bn 3) 0 2 0 false,U 0,U 0])],[ob1,ob2,ob5,.cells [U 3,U 0] 1,ob4,ob4,ob3,ob7,ob9,ob8,.cells [I 0,I 0] 2,.cells [I 1,I 12] 2],.s (.one (.slc (bn 12) 0 2 2 true)),[ob6,ob0,znk,.cells (List.replicate 4 (I 0)) 2,.cells [I 0,I 1,I 0,I 0] 2,.cells [I 0,I 2,I 0,I 0] 2,.cells [I 0,I 3,I 0,I 0] 2,.cells [I 0,I 4,I 0,I 0] 2,.cells [I 0,I 5,I 0,I 0] 2,.cells [I 0,I 6,I 0,I 0] 2,.cells [I 0,I 7,I 0,I 0] 2,.cells [I 0,I 8,I 0,I 0] 2,.cells [I 0,I 9,I 0,I 0] 2,.cells [I 0,I 10,I 0,I 0] 2,.cells [I 0,I 11,I 0,I 0] 2,.cells [I 0,I 12,I 0,I 0] 2]⟩
theorem zyJ:e7.chk zaO=true:=by kernel_rfl
theorem zBe:uB Tryz.prog e7:=⟨_,wl,zyJ⟩
def e8:Zn:=⟨29,[.s (.agg [.str ⟨#[101]⟩,.slc (bn 0) 0 2 2 true,.slc (bn 1) 0 2 2 true,.slc (bn 2) 0 1 1 true]),.s (.agg [.slc (bn 3) 0 2 0 false,U 1,U 0])],[ob1,ob2,ob5,.cells [U 0,U 0] 1,ob4,ob4,ob3,ob7,ob9,ob8,.cells [I 0,I 0] 2,.cells [I 1,I 12] 2],.s (.one (.slc (bn 12) 0 2 2 true)),[ob6,znk,znk]⟩
theorem zyI:e8.chk zaO=true:=by kernel_rfl
theorem zBd:uB Tryz.prog e8:=⟨_,wl,zyI⟩
def e9:Zn:=⟨29,[.s (.agg [.str ⟨#[101]⟩,.slc (bn 0) 0 2 2 true,.slc (bn 1) 0 2 2 true,.slc (bn 2) 0 1 1 true]),.s (.agg [.slc (bn 3) 0 2 0 false,U 0,U 0])],[ob1,ob2,ob5,.cells [U 2,U 0] 1,ob4,ob4,ob3,ob7,ob9,ob8,.cells [I 0,I 0] 2,.cells [I 1,I 12] 2],.s (.one (.slc (bn 12) 0 2 2 true)),[ob6,ob0,znk,.cells [I 0,I 0] 2,.cells [I 0,I 1] 2,.cells [I 0,I 2] 2,.cells [I 0,I 3] 2,.cells [I 0,I 4] 2,.cells [I 0,I 5] 2,.cells [I 0,I 6] 2,.cells [I 0,I 7] 2,.cells [I 0,I 8] 2,.cells [I 0,I 9] 2,.cells [I 0,I 10] 2,.cells [I 0,I 11] 2,.cells [I 0,I 12] 2]⟩
theorem zyH:e9.chk zaO=true:=by kernel_rfl
theorem zBc:uB Tryz.prog e9:=⟨_,wl,zyH⟩
def e10:Zn:=⟨29,[.s (.agg [.str ⟨#[101]⟩,.slc (bn 0) 0 2 2 true,.slc (bn 1) 0 2 2 true,.slc (bn 2) 0 1 1 true]),.s (.agg [.slc (bn 3) 0 2 0 false,U 0,U 0])],[ob1,ob2,ob5,.cells [U 0,U 0] 1,ob4,ob4,ob3,ob7,ob9,ob8,.cells [I 0,I 0] 2,.cells [I 1,I 12] 2],.s (.one (.slc (bn 12) 0 2 2 true)),[ob6,znk,znk]⟩
theorem zwk:e10.chk zaO=true:=by kernel_rfl
theorem zyS:uB Tryz.prog e10:=⟨_,wl,zwk⟩
def e11:CE.Sum:=⟨28,[.s (.agg [.str ⟨#[101]⟩,.slc (bn 0) 0 2 2 true,.slc (bn 1) 0 2 2 true,.slc (bn 2) 0 1 1 true]),.s (.one (.slc (bn 3) 0 2 2 true))],[ob1,ob2,ob5,zB3,ob4,ob4,zB4,.cells [.str ⟨#[97]⟩,I 4,I 1,.slc (bn 11) 0 1 1 true] 4,.cells [U 1,U 0] 1,.cells [U 0,U 1] 1,zAy,.cells [I 36,I 48,.slc (bn 13) 0 1 1 true] 3,.cells [I 0,I 0] 2,.cells [I 1,I 12] 2],.s (.one (I 0))⟩
theorem zwj:e11.chk zaO=true:=by kernel_rfl
theorem zyR:jM Tryz.prog e11:=⟨_,wl,zwj⟩
def e12:Zn:=⟨29,[.s (.agg [.str ⟨#[101]⟩,.slc (bn 0) 0 2 2 true,.slc (bn 1) 0 2 2 true,.slc (bn 2) 0 1 1 true]),.s (.agg [.slc (bn 3) 0 2 2 true,U 0,U 0])],[ob1,ob2,ob5,.cells [U 0,U 1] 1,ob4,ob4,ob3,ob7,ob9,ob8,.cells [I 0,I 0] 2,.cells [I 1,I 12] 2],.s (.one (.slc (bn 12) 0 2 2 true)),[ob6,znk,ob0,.cells [I 1,I 12] 2,.cells [I 1,I 13] 2,.cells [I 1,I 14] 2,.cells [I 1,I 15] 2,.cells [I 1,I 16] 2,.cells [I 1,I 17] 2,.cells [I 1,I 18] 2,.cells [I 1,I 19] 2,.cells [I 1,I 20] 2,.cells [I 1,I 21] 2,.cells [I 1,I 22] 2,.cells [I 1,I 23] 2,.cells [I 1,I 24] 2]⟩
theorem zwi:e12.chk zaO=true:=by kernel_rfl
theorem zyQ:uB Tryz.prog e12:=⟨_,wl,zwi⟩
def sums:List CE.Sum:=[e0,e3,e11]
theorem sums_ok:∀s∈sums,jM Tryz.prog s:=by
 intro s hs;simp only[sums,YzA,Yzs,or_false]at hs;rcases hs with rfl|rfl|rfl
 ·exact zBl
 ·exact zBi
 ·exact zyR
def nsums:List Zn:=[e1,e2,e4,e5,e6,e7,e8,e9,e10,e12]
theorem nsums_ok:∀s∈nsums,uB Tryz.prog s:=by
 intro s hs;simp only[nsums,YzA,Yzs,or_false]at hs;rcases hs with rfl|rfl|rfl|rfl|rfl|rfl|rfl|rfl|rfl|rfl
 ·exact zBk
 ·exact zBj
 ·exact zBh
 ·exact zBg
 ·exact zBf
 ·exact zBe
 ·exact zBd
 ·exact zBc
 ·exact zyS
 ·exact zyQ
end K29
end Go.Proofs.Tryz.Kn
end
