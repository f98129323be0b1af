/-
  The law CrescendoGrows of the program answers true for every input, and each argument reads as before: its card. No condition.
-/
import Derived.Test.YtakbfapnhjkgoaaGreatDoorWp
section
namespace Go.Proofs.YtakbfapnhjkgoaaGreatDoor
open Go Go.CE Go.PE Go.ChangeShapes Go.WideShapes Go.ChangeAt Go.RowKit Go.Proofs.Tryz.Kn Go.Joins
theorem y4{a b:Bool}(h:a=true)(h':b=true):(a&&b)=true:=by rw[h,h'];rfl
set_option maxHeartbeats 4000000 in
theorem jq:joinedFacts Tryz.pinned.checked.prog 4 Tryz.f4 Rows.crescendoGrowsSpec Rows.crescendoGrowsRow=true:=by
 unfold joinedFacts;refine y4 (y4 (y4 (y4 (y4 (y4 (y4 (y4 (y4 (y4 (y4 (y4 (y4 (y4 (y4 (y4 (y4 (y4 (y4 (y4 (y4 (y4 (y4 (y4 (y4 (y4 (y4 (y4 (y4 (y4 (y4 ?_ ?_) ?_) ?_) ?_) ?_) ?_) ?_) ?_) ?_) ?_) ?_) ?_) ?_) ?_) ?_) ?_) ?_) ?_) ?_) ?_) ?_) ?_) ?_) ?_) ?_) ?_) ?_) ?_) ?_) ?_) ?_
 all_goals as_aux_lemma=>kernel_rfl
theorem jt:Rows.CrescendoGrowsSaid:=
 OpenClaim.holds_of_wide 4 Tryz.f4 rfl rfl rfl rfl rfl rfl rfl ⟨rfl,rfl,rfl,rfl,rfl⟩ rfl rfl rfl rfl rfl (by as_aux_lemma=>kernel_rfl) Tryz.func4 jq
  (of_decide_eq_true (by kernel_rfl)) (by unfold Func.isWrapper;first|(rw[Yzd (by decide +kernel)];kernel_rfl)|(rw[Yzb (by decide +kernel)];exact⟨rfl,rfl⟩))
  (fun os started H enc _=>CrescendoGrows.lifted os started H enc)
theorem crescendoGrows_holds:Rows.CrescendoGrowsCardSaid:=
 Claim7.holds_tied_plain_at .later [] [.data,.data,.data] true (true,"e975ba37f0acf64185dac46ea0f21bc0bb2c84b52098fde4dbfed7bafd2d1122") false
  jt (fun _ h=>by cases h) (by kernel_rfl) (fun _ h=>by cases h) crescendoGrows_row_tie rfl ⟨rfl,rfl⟩ (by kernel_rfl) rfl
  (fun f fn hf hfn => by
   obtain rfl:f=4:=Option.some.inj ((show Tryz.prog.funcNamed "bombarde/bombardelaw31.CrescendoGrows" = some 4 by kernel_rfl).symm.trans hf) |>.symm;obtain rfl:fn=Tryz.f4:=(Option.some.inj (Tryz.func4.symm.trans hfn)).symm;exact⟨by kernel_rfl,fun j t ht=>by
    rw[Tryz.params4]at ht;have hm:t∈[26,52,5]:=by simpa using Array.mem_of_getElem? ht
    have hall:([26,52,5].all fun u=>!Tryz.prog.wantsStandIn u)=true:=by kernel_rfl
    exact(show Tryz.prog.wantsStandIn t=false by simpa using YzL.1 hall t hm)⟩)
  (by kernel_rfl)
#print axioms crescendoGrows_holds
end Go.Proofs.YtakbfapnhjkgoaaGreatDoor
end
