/-
  The law ChangeChecks of the program answers true for every input, and each argument reads as before: its card. No condition.
-/
import Derived.Test.YtkgdjnaidkhniaaGreatDoorWo
section
namespace Go.Proofs.YtkgdjnaidkhniaaGreatDoor
open Go Go.CE Go.PE Go.ChangeShapes Go.WideShapes Go.ChangeAt Go.RowKit Go.Proofs.Tryz.Kn Go.Joins
theorem xb{a b:Bool}(h:a=true)(h':b=true):(a&&b)=true:=by rw[h,h'];rfl
set_option maxHeartbeats 4000000 in
theorem u7:joinedFacts Tryz.pinned.checked.prog 6 Tryz.f6 Rows.changeChecksSpec Rows.changeChecksRow=true:=by
 unfold joinedFacts;refine xb (xb (xb (xb (xb (xb (xb (xb (xb (xb (xb (xb (xb (xb (xb (xb (xb (xb (xb (xb (xb (xb (xb (xb (xb (xb (xb (xb (xb (xb (xb ?_ ?_) ?_) ?_) ?_) ?_) ?_) ?_) ?_) ?_) ?_) ?_) ?_) ?_) ?_) ?_) ?_) ?_) ?_) ?_) ?_) ?_) ?_) ?_) ?_) ?_) ?_) ?_) ?_) ?_) ?_) ?_
 all_goals as_aux_lemma=>kernel_rfl
theorem ja:Rows.ChangeChecksSaid:=
 OpenClaim.holds_of_wide 6 Tryz.f6 rfl rfl rfl rfl rfl rfl rfl ⟨rfl,rfl,rfl,rfl,rfl⟩ rfl rfl rfl rfl rfl (by as_aux_lemma=>kernel_rfl) Tryz.func6 u7
  (of_decide_eq_true (by kernel_rfl)) (by unfold Func.isWrapper;first|(rw[Yzc (by decide +kernel)];kernel_rfl)|(rw[Yza (by decide +kernel)];exact⟨rfl,rfl⟩))
  (fun os started H enc _=>ChangeChecks.lifted os started H enc)
theorem changeChecks_holds:Rows.ChangeChecksCardSaid:=
 Claim7.holds_tied_plain_at .later [] [.data,.data,.data] true (true,"cd07dd1390a742ab616c3704d9a0edb236e555cf01509f4b6c29f38c4100ba1e") false
  ja (fun _ h=>by cases h) (by kernel_rfl) (fun _ h=>by cases h) changeChecks_row_tie rfl ⟨rfl,rfl⟩ (by kernel_rfl) rfl
  (fun f fn hf hfn => by
   obtain rfl:f=6:=Option.some.inj ((show Tryz.prog.funcNamed "bombarde/bombardelaw48.ChangeChecks" = some 6 by kernel_rfl).symm.trans hf) |>.symm;obtain rfl:fn=Tryz.f6:=(Option.some.inj (Tryz.func6.symm.trans hfn)).symm;exact⟨by kernel_rfl,fun j t ht=>by
    rw[Tryz.params6]at ht;have hm:t∈[36,86,55]:=by simpa using Array.mem_of_getElem? ht
    have hall:([36,86,55].all fun u=>!Tryz.prog.wantsStandIn u)=true:=by kernel_rfl
    exact(show Tryz.prog.wantsStandIn t=false by simpa using YzJ.1 hall t hm)⟩)
  (by kernel_rfl)
#print axioms changeChecks_holds
end Go.Proofs.YtkgdjnaidkhniaaGreatDoor
end
