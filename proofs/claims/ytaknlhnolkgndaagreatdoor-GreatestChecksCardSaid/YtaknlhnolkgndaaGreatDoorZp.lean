/-
  The law GreatestChecks of the program answers true for every input, and each argument reads as before: its card. No condition.
-/
import Derived.Test.YtaknlhnolkgndaaGreatDoorWo
section
namespace Go.Proofs.YtaknlhnolkgndaaGreatDoor
open Go Go.CE Go.PE Go.ChangeShapes Go.WideShapes Go.ChangeAt Go.RowKit Go.Proofs.Tryz.Kn Go.Joins
theorem yM{a b:Bool}(h:a=true)(h':b=true):(a&&b)=true:=by rw[h,h'];rfl
set_option maxHeartbeats 4000000 in
theorem j8:joinedFacts Tryz.pinned.checked.prog 4 Tryz.f4 Rows.greatestChecksSpec Rows.greatestChecksRow=true:=by
 unfold joinedFacts;refine yM (yM (yM (yM (yM (yM (yM (yM (yM (yM (yM (yM (yM (yM (yM (yM (yM (yM (yM (yM (yM (yM (yM (yM (yM (yM (yM (yM (yM (yM (yM ?_ ?_) ?_) ?_) ?_) ?_) ?_) ?_) ?_) ?_) ?_) ?_) ?_) ?_) ?_) ?_) ?_) ?_) ?_) ?_) ?_) ?_) ?_) ?_) ?_) ?_) ?_) ?_) ?_) ?_) ?_) ?_
 all_goals as_aux_lemma=>kernel_rfl
theorem kP:Rows.GreatestChecksSaid:=
 OpenClaim.holds_of_wide 4 Tryz.f4 rfl rfl rfl rfl rfl rfl rfl ⟨rfl,rfl,rfl,rfl,rfl⟩ rfl rfl rfl rfl rfl (by as_aux_lemma=>kernel_rfl) Tryz.func4 j8
  (of_decide_eq_true (by kernel_rfl)) (by unfold Func.isWrapper;first|(rw[Yzd (by decide +kernel)];kernel_rfl)|(rw[Yzb (by decide +kernel)];exact⟨rfl,rfl⟩))
  (fun os started H enc _=>GreatestChecks.lifted os started H enc)
theorem greatestChecks_holds:Rows.GreatestChecksCardSaid:=
 Claim7.holds_tied_plain_at .later [] [.data,.data,.data] true (true,"632365d5f88600c783d1054022a7ee12d479cdf88927b79ce439f7ac3f361078") false
  kP (fun _ h=>by cases h) (by kernel_rfl) (fun _ h=>by cases h) greatestChecks_row_tie rfl ⟨rfl,rfl⟩ (by kernel_rfl) rfl
  (fun f fn hf hfn => by
   obtain rfl:f=4:=Option.some.inj ((show Tryz.prog.funcNamed "bombarde/bombardelaw36.GreatestChecks" = some 4 by kernel_rfl).symm.trans hf) |>.symm;obtain rfl:fn=Tryz.f4:=(Option.some.inj (Tryz.func4.symm.trans hfn)).symm;exact⟨by kernel_rfl,fun j t ht=>by
    rw[Tryz.params4]at ht;have hm:t∈[59,61,35]:=by simpa using Array.mem_of_getElem? ht
    have hall:([59,61,35].all fun u=>!Tryz.prog.wantsStandIn u)=true:=by kernel_rfl
    exact(show Tryz.prog.wantsStandIn t=false by simpa using YzI.1 hall t hm)⟩)
  (by kernel_rfl)
#print axioms greatestChecks_holds
end Go.Proofs.YtaknlhnolkgndaaGreatDoor
end
