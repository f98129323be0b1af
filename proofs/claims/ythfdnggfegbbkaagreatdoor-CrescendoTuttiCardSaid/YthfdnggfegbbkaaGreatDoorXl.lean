/-
  Lemmas: Kn31. No condition.
-/
import Derived.Test.YthfdnggfegbbkaaGreatDoorXk
section
namespace Go.Proofs.Tryz.Kn
open Go Go.CE Go.RowKit
def s31 : Sum := ⟨36, [.s (.agg [.str ⟨#[111]⟩, .slc (.z) 0 1 1 true, .slc (.o (.z)) 0 1 1 true, .slc (.d (.z)) 0 1 1 true])], [.cells [.str ⟨#[114]⟩, .str ⟨#[116]⟩, .int .i64 (.ofNat 8), .int .i64 (.ofNat 1), .int .i64 (.ofNat 36), .slc (.o (.o (.z))) 0 3 3 true] 6, .cells [.str ⟨#[100]⟩, .bool false, .int .i64 (.ofNat 36), .int .i64 (.ofNat 40), .slc (.d (.o (.z))) 0 2 2 true] 5, .cells [.str ⟨#[99]⟩, .int .i64 (.ofNat 0), .int .i64 (.ofNat 0), .int .i64 (.ofNat 1), .bool false] 5, .cells [.int .i64 (.ofNat 1), .int .i64 (.ofNat 1), .int .i64 (.ofNat 1)] 1, .cells [.str ⟨#[115]⟩, .int .i64 (.ofNat 8), .int .i64 (.ofNat 1), .slc (.o (.d (.z))) 0 1 1 true, .str ⟨#[116]⟩, .int .i64 (.ofNat 8), .int .i64 (.ofNat 1), .slc (.o (.d (.z))) 0 1 1 true] 4, .cells [.int .i64 (.ofNat 36), .int .i64 (.ofNat 40), .slc (.d (.d (.z))) 0 1 1 true] 3, .cells [.int .i64 (.ofNat 0), .int .i64 (.ofNat 0)] 2], .s (.one (.int .i64 (.ofNat 0)))⟩
theorem zoD : s31.chk (zkP (zW Tryz.prog) fs 100000) = true := by kernel_rfl
def zgr : List Sum := [s31]
theorem ziS : ∀ s ∈ zgr, qr Tryz.prog s := by
 intro s hs
 simp only [zgr, List.mem_cons, List.not_mem_nil, or_false] at hs
 subst hs
 exact ⟨_, zf7 zpL 100000, zoD⟩
noncomputable def zra : Res := yk (zW Tryz.prog) fs zgr 100000 (.inl 20) [] ⟨.z, .nil⟩
theorem zfF : isTrue zra = true := by kernel_rfl
def kSum31 : CE.Sum := ⟨20, [], [], .s (.one (.bool true))⟩
theorem zks : qr Tryz.prog kSum31 := by
 refine ⟨_, zdy zpL ziS 100000, ?_⟩
 obtain ⟨h2, e⟩ := zin zfF
 unfold Sum.chk
 rw [show yk (zW Tryz.prog) fs zgr 100000 (.inl kSum31.g) kSum31.args kSum31.heap = some (.s (.one (.bool true)), h2) from e]
 rfl
end Go.Proofs.Tryz.Kn
end
