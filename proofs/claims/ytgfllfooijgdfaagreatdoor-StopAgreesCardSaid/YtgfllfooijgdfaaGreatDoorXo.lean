/-
  The law StopAgrees of the program answers true for every input, and each argument reads as before: its card. No condition.
-/
import Derived.Test.YtgfllfooijgdfaaGreatDoorWn
section
namespace Go.Proofs.YtgfllfooijgdfaaGreatDoor
open Go Go.CE Go.PE Go.ChangeShapes Go.WideShapes Go.ChangeAt Go.RowKit Go.Proofs.Tryz.Kn Go.Joins
theorem yw{a b:Bool}(h:a=true)(h':b=true):(a&&b)=true:=by rw[h,h'];rfl
set_option maxHeartbeats 4000000 in
theorem qG:joinedFacts Tryz.pinned.checked.prog 3 Tryz.f3 Rows.stopAgreesSpec Rows.stopAgreesRow=true:=by
 unfold joinedFacts;refine yw (yw (yw (yw (yw (yw (yw (yw (yw (yw (yw (yw (yw (yw (yw (yw (yw (yw (yw (yw (yw (yw (yw (yw (yw (yw (yw (yw (yw (yw (yw ?_ ?_) ?_) ?_) ?_) ?_) ?_) ?_) ?_) ?_) ?_) ?_) ?_) ?_) ?_) ?_) ?_) ?_) ?_) ?_) ?_) ?_) ?_) ?_) ?_) ?_) ?_) ?_) ?_) ?_) ?_) ?_
 all_goals as_aux_lemma=>kernel_rfl
theorem zaf:Rows.StopAgreesSaid:=
 OpenClaim.holds_of_wide 3 Tryz.f3 rfl rfl rfl rfl rfl rfl rfl ⟨rfl,rfl,rfl,rfl,rfl⟩ rfl rfl rfl rfl rfl (by as_aux_lemma=>kernel_rfl) Tryz.func3 qG
  (of_decide_eq_true (by kernel_rfl)) (by unfold Func.isWrapper;first|(rw[Yzd (by decide +kernel)];kernel_rfl)|(rw[Yzc (by decide +kernel)];exact⟨rfl,rfl⟩))
  (fun os started H enc _=>StopAgrees.lifted os started H enc)
theorem stopAgrees_holds:Rows.StopAgreesCardSaid:=
 Claim7.holds_tied_plain_at .later [] [.data,.data,.data] true (true,"fbcb48c0586e355bd9196d862dadda5edcdbd4cf0c552404606676e554ba24b7") false
  zaf (fun _ h=>by cases h) (by kernel_rfl) (fun _ h=>by cases h) stopAgrees_row_tie rfl ⟨rfl,rfl⟩ (by kernel_rfl) rfl
  (fun f fn hf hfn => by
   obtain rfl:f=3:=Option.some.inj ((show Tryz.prog.funcNamed "bombarde/bombardelaw15.StopAgrees" = some 3 by kernel_rfl).symm.trans hf) |>.symm;obtain rfl:fn=Tryz.f3:=(Option.some.inj (Tryz.func3.symm.trans hfn)).symm;exact⟨by kernel_rfl,fun j t ht=>by
    rw[Tryz.params3]at ht;have hm:t∈[26,34]:=by simpa using Array.mem_of_getElem? ht
    have hall:([26,34].all fun u=>!Tryz.prog.wantsStandIn u)=true:=by kernel_rfl
    exact(show Tryz.prog.wantsStandIn t=false by simpa using YzF.1 hall t hm)⟩)
  (by kernel_rfl)
#print axioms stopAgrees_holds
end Go.Proofs.YtgfllfooijgdfaaGreatDoor
end
