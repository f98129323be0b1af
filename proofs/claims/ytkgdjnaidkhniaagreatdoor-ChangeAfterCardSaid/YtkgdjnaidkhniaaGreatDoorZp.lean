/-
  The law ChangeAfter of the program answers true for every input, and each argument reads as before: its card. No condition.
-/
import Derived.Test.YtkgdjnaidkhniaaGreatDoorWo
section
namespace Go.Proofs.YtkgdjnaidkhniaaGreatDoor
open Go Go.CE Go.PE Go.ChangeShapes Go.WideShapes Go.ChangeAt Go.RowKit Go.Proofs.Tryz.Kn Go.Joins
theorem xb{a b:Bool}(h:a=true)(h':b=true):(a&&b)=true:=by rw[h,h'];rfl
set_option maxHeartbeats 4000000 in
theorem zd3:joinedFacts Tryz.pinned.checked.prog 5 Tryz.f5 Rows.changeAfterSpec Rows.changeAfterRow=true:=by
 unfold joinedFacts;refine xb (xb (xb (xb (xb (xb (xb (xb (xb (xb (xb (xb (xb (xb (xb (xb (xb (xb (xb (xb (xb (xb (xb (xb (xb (xb (xb (xb (xb (xb (xb ?_ ?_) ?_) ?_) ?_) ?_) ?_) ?_) ?_) ?_) ?_) ?_) ?_) ?_) ?_) ?_) ?_) ?_) ?_) ?_) ?_) ?_) ?_) ?_) ?_) ?_) ?_) ?_) ?_) ?_) ?_) ?_
 all_goals as_aux_lemma=>kernel_rfl
theorem zeJ:Rows.ChangeAfterSaid:=
 OpenClaim.holds_of_wide 5 Tryz.f5 rfl rfl rfl rfl rfl rfl rfl ⟨rfl,rfl,rfl,rfl,rfl⟩ rfl rfl rfl rfl rfl (by as_aux_lemma=>kernel_rfl) Tryz.func5 zd3
  (of_decide_eq_true (by kernel_rfl)) (by unfold Func.isWrapper;first|(rw[Yzc (by decide +kernel)];kernel_rfl)|(rw[Yza (by decide +kernel)];exact⟨rfl,rfl⟩))
  (fun os started H enc _=>ChangeAfter.lifted os started H enc)
theorem changeAfter_holds:Rows.ChangeAfterCardSaid:=
 Claim7.holds_tied_plain_at .later [] [.data,.data,.data] true (true,"cd07dd1390a742ab616c3704d9a0edb236e555cf01509f4b6c29f38c4100ba1e") false
  zeJ (fun _ h=>by cases h) (by kernel_rfl) (fun _ h=>by cases h) changeAfter_row_tie rfl ⟨rfl,rfl⟩ (by kernel_rfl) rfl
  (fun f fn hf hfn => by
   obtain rfl:f=5:=Option.some.inj ((show Tryz.prog.funcNamed "bombarde/bombardelaw48.ChangeAfter" = some 5 by kernel_rfl).symm.trans hf) |>.symm;obtain rfl:fn=Tryz.f5:=(Option.some.inj (Tryz.func5.symm.trans hfn)).symm;exact⟨by kernel_rfl,fun j t ht=>by
    rw[Tryz.params5]at ht;have hm:t∈[36,76,3]:=by simpa using Array.mem_of_getElem? ht
    have hall:([36,76,3].all fun u=>!Tryz.prog.wantsStandIn u)=true:=by kernel_rfl
    exact(show Tryz.prog.wantsStandIn t=false by simpa using YzJ.1 hall t hm)⟩)
  (by kernel_rfl)
#print axioms changeAfter_holds
end Go.Proofs.YtkgdjnaidkhniaaGreatDoor
end
