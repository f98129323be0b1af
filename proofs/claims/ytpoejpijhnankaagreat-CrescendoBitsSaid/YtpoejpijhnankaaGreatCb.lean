/-
  The callers of this seat: known() by its summary. No condition.
-/
import Derived.Test.YtpoejpijhnankaaGreatKn
import Derived.Test.YtpoejpijhnankaaGreatCEz
namespace Go.Proofs.Tryz.Kn
open Go Go.CE

def sK : Sum := ⟨4, [], [], .s (.one (.bool true))⟩
noncomputable abbrev C (n : Nat) : Caller := evCallS (cCode Tryz.prog) (cFs (cProg Tryz.prog)) [sK] n

theorem sK_ok : SumOk Tryz.prog sK := by
  refine ⟨_, callS_ok fs_ok sums_ok 100000, ?_⟩
  obtain ⟨h2, e⟩ := isTrue_inv known_true
  have e' : evCallS (cCode Tryz.prog) fs sums 100000 (.inl sK.g) sK.args sK.heap = some (.s (.one (.bool true)), h2) := e
  unfold Sum.chk
  rw [e']
  rfl
theorem C_ok (n : Nat) : SoundC Tryz.prog (C n) := callS_ok fs_ok (fun s hs => by rw [List.mem_singleton.1 hs]; exact sK_ok) n

theorem noSum {g : Nat} (hg : Nat.beq g 4 = false) (args : List AVal) (h : AHeap) : findSum g args h [sK] = none := by
  simp only [findSum, sK, hg, Bool.false_and, cond_false]

theorem fn {g : Nat} (hg : Nat.beq g 4 = false) {args : List AVal} {h : AHeap} {Q : AVal × AHeap → Prop} (H : Ev (fun n => kFun Tryz.prog g (C n) n args h) Q) : Ev (fun n => C n (.inl g) args h) Q :=
  Ev.call (noSum hg args h) H
theorem known_ev (h : AHeap) : Ev (fun n => C n (.inl 4) [] h) (fun p => p = (.s (.one (.bool true)), h)) := Ev.sum rfl

end Go.Proofs.Tryz.Kn
