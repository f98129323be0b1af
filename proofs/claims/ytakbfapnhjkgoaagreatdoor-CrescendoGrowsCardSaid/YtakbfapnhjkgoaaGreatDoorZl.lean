/-
  Lemmas. No condition.
-/
import Derived.Test.YtakbfapnhjkgoaaGreatDoorZf
noncomputable section
namespace Go.Proofs.Tryz.Kn
open Go Go.CE Go.RowKit
def s31:Sum:=⟨27,[.s (.agg [.str ⟨#[111]⟩,.slc (.z) 0 1 1 true,.slc (.o (.z)) 0 1 1 true,.slc (.d (.z)) 0 1 1 true])],[.cells [.str ⟨#[114]⟩,.str ⟨#[116]⟩,.int .i64 (.ofNat 8),.int .i64 (.ofNat 1),.int .i64 (.ofNat 36),.slc (.o (.o (.z))) 0 3 3 true] 6,.cells [.str ⟨#[100]⟩,.bool false,.int .i64 (.ofNat 36),.int .i64 (.ofNat 40),.slc (.d (.o (.z))) 0 2 2 true] 5,.cells [.str ⟨#[99]⟩,.int .i64 (.ofNat 0),.int .i64 (.ofNat 0),.int .i64 (.ofNat 1),.bool false] 5,.cells [.int .i64 (.ofNat 1),.int .i64 (.ofNat 1),.int .i64 (.ofNat 1)] 1,.cells [.str ⟨#[115]⟩,.int .i64 (.ofNat 8),.int .i64 (.ofNat 1),.slc (.o (.d (.z))) 0 1 1 true,.str ⟨#[116]⟩,.int .i64 (.ofNat 8),.int .i64 (.ofNat 1),.slc (.o (.d (.z))) 0 1 1 true] 4,.cells [.int .i64 (.ofNat 36),.int .i64 (.ofNat 40),.slc (.d (.d (.z))) 0 1 1 true] 3,.cells [.int .i64 (.ofNat 0),.int .i64 (.ofNat 0)] 2],.s (.one (.int .i64 (.ofNat 0)))⟩
theorem zte:s31.chk (zoV (zQ Tryz.prog) fs 100000)=true:=by kernel_rfl
def zjx:List Sum:=[s31]
theorem zmJ:∀s∈zjx,za4 Tryz.prog s:=by intro s hs;simp only[zjx,Yzw,Yzt,or_false]at hs;subst hs;exact⟨_,zi6 zuB 100000,zte⟩
def zwN:Res:=zfV (zQ Tryz.prog) fs zjx 100000 (.inl 5) [] ⟨.z,.nil⟩
theorem ziA:isTrue zwN=true:=by kernel_rfl
def kSum31:CE.Sum:=⟨5,[],[],.s (.one (.bool true))⟩
theorem zoz:za4 Tryz.prog kSum31:=by refine⟨_,zgc zuB zmJ 100000,?_⟩;obtain⟨h2,e⟩:=zlR ziA;unfold Sum.chk;rw[show zfV (zQ Tryz.prog) fs zjx 100000 (.inl kSum31.g) kSum31.args kSum31.heap=some (.s (.one (.bool true)),h2) from e];rfl
end Go.Proofs.Tryz.Kn
end
