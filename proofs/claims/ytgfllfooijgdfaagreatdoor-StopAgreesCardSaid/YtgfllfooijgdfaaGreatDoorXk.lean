/-
  Lemmas. No condition.
-/
import Derived.Test.YtgfllfooijgdfaaGreatDoorXe
noncomputable section
namespace Go.Proofs.Tryz.Kn
open Go Go.CE Go.RowKit
def k15s0:Sum:=⟨7,[.s (.agg [.int .i64 (.ofNat 4),.int .i64 (.ofNat 1)]),.s (.agg [.int .i64 (.ofNat 8),.int .i64 (.ofNat 1)])],[],.tup [.one (.int .i64 (.ofNat 12)),.one (.int .i64 (.ofNat 0))]⟩
theorem zlo:k15s0.chk (zca (zH Tryz.prog) fs 100000)=true:=by kernel_rfl
def k15s1:Sum:=⟨7,[.s (.agg [.int .i64 (.ofNat 2),.int .i64 (.ofNat 1)]),.s (.agg [.int .i64 (.ofNat 8),.int .i64 (.ofNat 1)])],[],.tup [.one (.int .i64 (.ofNat 24)),.one (.int .i64 (.ofNat 0))]⟩
theorem zln:k15s1.chk (zca (zH Tryz.prog) fs 100000)=true:=by kernel_rfl
def k15s2:Sum:=⟨7,[.s (.agg [.int .i64 (.ofNat 4),.int .i64 (.ofNat 3)]),.s (.agg [.int .i64 (.ofNat 8),.int .i64 (.ofNat 1)])],[],.tup [.one (.int .i64 (.ofNat 31)),.one (.int .i64 (.ofNat 0))]⟩
theorem zlm:k15s2.chk (zca (zH Tryz.prog) fs 100000)=true:=by kernel_rfl
def k15s3:Sum:=⟨7,[.s (.agg [.int .i64 (.ofNat 8),.int .i64 (.ofNat 3)]),.s (.agg [.int .i64 (.ofNat 8),.int .i64 (.ofNat 1)])],[],.tup [.one (.int .i64 (.ofNat 19)),.one (.int .i64 (.ofNat 0))]⟩
theorem zll:k15s3.chk (zca (zH Tryz.prog) fs 100000)=true:=by kernel_rfl
def zgo:List Sum:=[k15s0,k15s1,k15s2,k15s3]
theorem zjd:∀s∈zgo,kH Tryz.prog s:=by
 intro s hs;simp only[zgo,YzL,YzK,or_false]at hs;rcases hs with rfl|rfl|rfl|rfl
 ·exact⟨_,qg ziL 100000,zlo⟩
 ·exact⟨_,qg ziL 100000,zln⟩
 ·exact⟨_,qg ziL 100000,zlm⟩
 ·exact⟨_,qg ziL 100000,zll⟩
def zsN:Res:=zfJ (zH Tryz.prog) fs zgo 100000 (.inl 4) [] ⟨.z,.nil⟩
theorem zfy:isTrue zsN=true:=by kernel_rfl
def kSum15:CE.Sum:=⟨4,[],[],.s (.one (.bool true))⟩
theorem zli:kH Tryz.prog kSum15:=by refine⟨_,zhD ziL zjd 100000,?_⟩;obtain⟨h2,e⟩:=ziC zfy;unfold Sum.chk;rw[show zfJ (zH Tryz.prog) fs zgo 100000 (.inl kSum15.g) kSum15.args kSum15.heap=some (.s (.one (.bool true)),h2) from e];rfl
end Go.Proofs.Tryz.Kn
end
