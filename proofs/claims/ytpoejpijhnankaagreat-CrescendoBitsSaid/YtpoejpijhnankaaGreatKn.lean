/-
  What known() of the law's package answers: true, in every world, with nothing written that was there before. No condition.
-/
import Derived.Test.YtpoejpijhnankaaGreatCEu
import Derived.Test.YtpoejpijhnankaaGreatProg
namespace Go.Proofs.Tryz.Kn
open Go Go.CE Go.RowKit

noncomputable def fs : Nat → Option RFunc := cFs (cProg Tryz.prog)
theorem fs_ok : FsOk Tryz.prog fs := prog_ok _

def s0 : Sum := ⟨21, [.s (.agg [.str ⟨#[111]⟩, .slc (.z) 0 1 1 true, .slc (.o (.z)) 0 1 1 true, .slc (.d (.z)) 0 1 1 true])], [.cells [.str ⟨#[114]⟩, .str ⟨#[116]⟩, .int .i64 (.ofNat 8), .int .i64 (.ofNat 1), .int .i64 (.ofNat 36), .slc (.o (.o (.z))) 0 3 3 true] 6, .cells [.str ⟨#[100]⟩, .bool false, .int .i64 (.ofNat 36), .int .i64 (.ofNat 40), .slc (.d (.o (.z))) 0 2 2 true] 5, .cells [.str ⟨#[99]⟩, .int .i64 (.ofNat 0), .int .i64 (.ofNat 0), .int .i64 (.ofNat 1), .bool false] 5, .cells [.int .i64 (.ofNat 1), .int .i64 (.ofNat 1), .int .i64 (.ofNat 1)] 1, .cells [.str ⟨#[115]⟩, .int .i64 (.ofNat 8), .int .i64 (.ofNat 1), .slc (.o (.d (.z))) 0 1 1 true, .str ⟨#[116]⟩, .int .i64 (.ofNat 8), .int .i64 (.ofNat 1), .slc (.o (.d (.z))) 0 1 1 true] 4, .cells [.int .i64 (.ofNat 36), .int .i64 (.ofNat 40), .slc (.d (.d (.z))) 0 1 1 true] 3, .cells [.int .i64 (.ofNat 0), .int .i64 (.ofNat 0)] 2], .s (.one (.int .i64 (.ofNat 0)))⟩
theorem s0_chk : s0.chk (evCall (cCode Tryz.prog) fs 100000) = true := by kernel_rfl

noncomputable def sums : List Sum := [s0]
theorem sums_ok : ∀ s ∈ sums, SumOk Tryz.prog s := by
  intro s hs
  simp only [sums, List.mem_cons, List.not_mem_nil, or_false] at hs
  subst hs
  exact ⟨_, call_ok fs_ok 100000, s0_chk⟩

noncomputable def known : Res := evCallS (cCode Tryz.prog) fs sums 100000 (.inl 4) [] ⟨.z, .nil⟩
theorem known_true : isTrue known = true := by kernel_rfl

theorem known_calls (w : World) : CallsIn (FR none) 0 Tryz.prog 4 #[] w (fun e w2 => e = .returned (.bool true) ∧ Below w.heap.size w w2) := by
  obtain ⟨h2, e⟩ := isTrue_inv known_true
  refine (calls_of_sound (callS_ok fs_ok sums_ok 100000) e w).2.mono ?_
  rintro _ _ ⟨_, rfl, hb⟩
  exact ⟨rfl, hb⟩

end Go.Proofs.Tryz.Kn
