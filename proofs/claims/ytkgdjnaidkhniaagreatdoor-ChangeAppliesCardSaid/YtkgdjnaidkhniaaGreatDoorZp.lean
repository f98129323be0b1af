/-
  The law ChangeApplies of the program answers true for every input, and each argument reads as before: its card. No condition.
-/
import Derived.Test.YtkgdjnaidkhniaaGreatDoorWo
section
namespace Go.Proofs.YtkgdjnaidkhniaaGreatDoor
open Go Go.CE Go.PE Go.ChangeShapes Go.WideShapes Go.ChangeAt Go.RowKit Go.Proofs.Tryz.Kn Go.Joins
theorem xb{a b:Bool}(h:a=true)(h':b=true):(a&&b)=true:=by rw[h,h'];rfl
set_option maxHeartbeats 4000000 in
theorem jb:joinedFacts Tryz.pinned.checked.prog 4 Tryz.f4 Rows.changeAppliesSpec Rows.changeAppliesRow=true:=by
 unfold joinedFacts;refine xb (xb (xb (xb (xb (xb (xb (xb (xb (xb (xb (xb (xb (xb (xb (xb (xb (xb (xb (xb (xb (xb (xb (xb (xb (xb (xb (xb (xb (xb (xb ?_ ?_) ?_) ?_) ?_) ?_) ?_) ?_) ?_) ?_) ?_) ?_) ?_) ?_) ?_) ?_) ?_) ?_) ?_) ?_) ?_) ?_) ?_) ?_) ?_) ?_) ?_) ?_) ?_) ?_) ?_) ?_
 all_goals as_aux_lemma=>kernel_rfl
theorem jc:Rows.ChangeAppliesSaid:=
 OpenClaim.holds_of_wide 4 Tryz.f4 rfl rfl rfl rfl rfl rfl rfl ⟨rfl,rfl,rfl,rfl,rfl⟩ rfl rfl rfl rfl rfl (by as_aux_lemma=>kernel_rfl) Tryz.func4 jb
  (of_decide_eq_true (by kernel_rfl)) (by unfold Func.isWrapper;first|(rw[Yzc (by decide +kernel)];kernel_rfl)|(rw[Yza (by decide +kernel)];exact⟨rfl,rfl⟩))
  (fun os started H enc _=>ChangeApplies.lifted os started H enc)
theorem changeApplies_holds:Rows.ChangeAppliesCardSaid:=
 Claim7.holds_tied_plain_at .later [] [.data,.data,.data] true (true,"cd07dd1390a742ab616c3704d9a0edb236e555cf01509f4b6c29f38c4100ba1e") false
  jc (fun _ h=>by cases h) (by kernel_rfl) (fun _ h=>by cases h) changeApplies_row_tie rfl ⟨rfl,rfl⟩ (by kernel_rfl) rfl
  (fun f fn hf hfn => by
   obtain rfl:f=4:=Option.some.inj ((show Tryz.prog.funcNamed "bombarde/bombardelaw48.ChangeApplies" = some 4 by kernel_rfl).symm.trans hf) |>.symm;obtain rfl:fn=Tryz.f4:=(Option.some.inj (Tryz.func4.symm.trans hfn)).symm;exact⟨by kernel_rfl,fun j t ht=>by
    rw[Tryz.params4]at ht;have hm:t∈[36,64,66]:=by simpa using Array.mem_of_getElem? ht
    have hall:([36,64,66].all fun u=>!Tryz.prog.wantsStandIn u)=true:=by kernel_rfl
    exact(show Tryz.prog.wantsStandIn t=false by simpa using YzJ.1 hall t hm)⟩)
  (by kernel_rfl)
#print axioms changeApplies_holds
end Go.Proofs.YtkgdjnaidkhniaaGreatDoor
end
