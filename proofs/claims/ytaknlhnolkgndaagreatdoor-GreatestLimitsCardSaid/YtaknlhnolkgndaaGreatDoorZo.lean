/-
  The law GreatestLimits of the program answers true for every input, and each argument reads as before: its card. No condition.
-/
import Derived.Test.YtaknlhnolkgndaaGreatDoorWn
section
namespace Go.Proofs.YtaknlhnolkgndaaGreatDoor
open Go Go.CE Go.PE Go.ChangeShapes Go.WideShapes Go.ChangeAt Go.RowKit Go.Proofs.Tryz.Kn Go.Joins
theorem yM{a b:Bool}(h:a=true)(h':b=true):(a&&b)=true:=by rw[h,h'];rfl
set_option maxHeartbeats 4000000 in
theorem xA:joinedFacts Tryz.pinned.checked.prog 3 Tryz.f3 Rows.greatestLimitsSpec Rows.greatestLimitsRow=true:=by
 unfold joinedFacts;refine yM (yM (yM (yM (yM (yM (yM (yM (yM (yM (yM (yM (yM (yM (yM (yM (yM (yM (yM (yM (yM (yM (yM (yM (yM (yM (yM (yM (yM (yM (yM ?_ ?_) ?_) ?_) ?_) ?_) ?_) ?_) ?_) ?_) ?_) ?_) ?_) ?_) ?_) ?_) ?_) ?_) ?_) ?_) ?_) ?_) ?_) ?_) ?_) ?_) ?_) ?_) ?_) ?_) ?_) ?_
 all_goals as_aux_lemma=>kernel_rfl
theorem xB:Rows.GreatestLimitsSaid:=
 OpenClaim.holds_of_wide 3 Tryz.f3 rfl rfl rfl rfl rfl rfl rfl ⟨rfl,rfl,rfl,rfl,rfl⟩ rfl rfl rfl rfl rfl (by as_aux_lemma=>kernel_rfl) Tryz.func3 xA
  (of_decide_eq_true (by kernel_rfl)) (by unfold Func.isWrapper;first|(rw[Yzd (by decide +kernel)];kernel_rfl)|(rw[Yzb (by decide +kernel)];exact⟨rfl,rfl⟩))
  (fun os started H enc _=>GreatestLimits.lifted os started H enc)
theorem greatestLimits_holds:Rows.GreatestLimitsCardSaid:=
 Claim7.holds_tied_plain_at .later [] [.data] true (true,"632365d5f88600c783d1054022a7ee12d479cdf88927b79ce439f7ac3f361078") false
  xB (fun _ h=>by cases h) (by kernel_rfl) (fun _ h=>by cases h) greatestLimits_row_tie rfl ⟨rfl,rfl⟩ (by kernel_rfl) rfl
  (fun f fn hf hfn => by
   obtain rfl:f=3:=Option.some.inj ((show Tryz.prog.funcNamed "bombarde/bombardelaw36.GreatestLimits" = some 3 by kernel_rfl).symm.trans hf) |>.symm;obtain rfl:fn=Tryz.f3:=(Option.some.inj (Tryz.func3.symm.trans hfn)).symm;exact⟨by kernel_rfl,fun j t ht=>by
    rw[Tryz.params3]at ht;have hm:t∈[5]:=by simpa using Array.mem_of_getElem? ht
    have hall:([5].all fun u=>!Tryz.prog.wantsStandIn u)=true:=by kernel_rfl
    exact(show Tryz.prog.wantsStandIn t=false by simpa using YzI.1 hall t hm)⟩)
  (by kernel_rfl)
#print axioms greatestLimits_holds
end Go.Proofs.YtaknlhnolkgndaaGreatDoor
end
