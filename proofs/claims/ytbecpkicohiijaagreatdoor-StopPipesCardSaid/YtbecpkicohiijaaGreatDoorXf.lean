/-
  Lemmas: Kn. No condition.
-/
import Derived.Test.YtbecpkicohiijaaGreatDoorYe
import Derived.Test.YtbecpkicohiijaaGreatDoorProg
section
namespace Go.Proofs.Tryz.Kn
open Go Go.CE Go.RowKit
noncomputable def fs : Nat → Option RFunc := cFs (cProg Tryz.prog)
theorem fs_ok : FsOk Tryz.prog fs := prog_ok _
def s0 : Sum := ⟨19, [.s (.agg [.int .i64 (.ofNat 4), .int .i64 (.ofNat 1)]), .s (.agg [.int .i64 (.ofNat 8), .int .i64 (.ofNat 1)])], [], .tup [.one (.int .i64 (.ofNat 12)), .one (.int .i64 (.ofNat 0))]⟩
theorem s0_chk : s0.chk (evCall (cCode Tryz.prog) fs 100000) = true := by kernel_rfl
def s1 : Sum := ⟨19, [.s (.agg [.int .i64 (.ofNat 2), .int .i64 (.ofNat 1)]), .s (.agg [.int .i64 (.ofNat 8), .int .i64 (.ofNat 1)])], [], .tup [.one (.int .i64 (.ofNat 24)), .one (.int .i64 (.ofNat 0))]⟩
theorem s1_chk : s1.chk (evCall (cCode Tryz.prog) fs 100000) = true := by kernel_rfl
def s2 : Sum := ⟨19, [.s (.agg [.int .i64 (.ofNat 4), .int .i64 (.ofNat 3)]), .s (.agg [.int .i64 (.ofNat 8), .int .i64 (.ofNat 1)])], [], .tup [.one (.int .i64 (.ofNat 31)), .one (.int .i64 (.ofNat 0))]⟩
theorem s2_chk : s2.chk (evCall (cCode Tryz.prog) fs 100000) = true := by kernel_rfl
def s3 : Sum := ⟨19, [.s (.agg [.int .i64 (.ofNat 8), .int .i64 (.ofNat 3)]), .s (.agg [.int .i64 (.ofNat 8), .int .i64 (.ofNat 1)])], [], .tup [.one (.int .i64 (.ofNat 19)), .one (.int .i64 (.ofNat 0))]⟩
theorem s3_chk : s3.chk (evCall (cCode Tryz.prog) fs 100000) = true := by kernel_rfl
noncomputable def sums : List Sum := [s0, s1, s2, s3]
theorem sums_ok : ∀ s ∈ sums, SumOk Tryz.prog s := by
 intro s hs
 simp only [sums, List.mem_cons, List.not_mem_nil, or_false] at hs
 rcases hs with rfl | rfl | rfl | rfl
 ·exact ⟨_, call_ok fs_ok 100000, s0_chk⟩
 ·exact ⟨_, call_ok fs_ok 100000, s1_chk⟩
 ·exact ⟨_, call_ok fs_ok 100000, s2_chk⟩
 ·exact ⟨_, call_ok fs_ok 100000, s3_chk⟩
noncomputable def known : Res := evCallS (cCode Tryz.prog) fs sums 100000 (.inl 9) [] ⟨.z, .nil⟩
theorem known_true : isTrue known = true := by kernel_rfl
end Go.Proofs.Tryz.Kn
end
