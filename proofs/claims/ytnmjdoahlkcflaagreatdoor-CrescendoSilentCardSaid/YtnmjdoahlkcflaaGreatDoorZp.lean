/-
  The law CrescendoSilent of the program answers true for every input, and each argument reads as before: its card. No condition.
-/
import Derived.Test.YtnmjdoahlkcflaaGreatDoorWo
section
namespace Go.Proofs.YtnmjdoahlkcflaaGreatDoor
open Go Go.CE Go.PE Go.ChangeShapes Go.WideShapes Go.ChangeAt Go.RowKit Go.Proofs.Tryz.Kn Go.Joins
theorem yZ{a b:Bool}(h:a=true)(h':b=true):(a&&b)=true:=by rw[h,h'];rfl
set_option maxHeartbeats 4000000 in
theorem ua:joinedFacts Tryz.pinned.checked.prog 3 Tryz.f3 Rows.crescendoSilentSpec Rows.crescendoSilentRow=true:=by
 unfold joinedFacts;refine yZ (yZ (yZ (yZ (yZ (yZ (yZ (yZ (yZ (yZ (yZ (yZ (yZ (yZ (yZ (yZ (yZ (yZ (yZ (yZ (yZ (yZ (yZ (yZ (yZ (yZ (yZ (yZ (yZ (yZ (yZ ?_ ?_) ?_) ?_) ?_) ?_) ?_) ?_) ?_) ?_) ?_) ?_) ?_) ?_) ?_) ?_) ?_) ?_) ?_) ?_) ?_) ?_) ?_) ?_) ?_) ?_) ?_) ?_) ?_) ?_) ?_) ?_
 all_goals as_aux_lemma=>kernel_rfl
theorem ub:Rows.CrescendoSilentSaid:=
 OpenClaim.holds_of_wide 3 Tryz.f3 rfl rfl rfl rfl rfl rfl rfl ⟨rfl,rfl,rfl,rfl,rfl⟩ rfl rfl rfl rfl rfl (by as_aux_lemma=>kernel_rfl) Tryz.func3 ua
  (of_decide_eq_true (by kernel_rfl)) (by unfold Func.isWrapper;first|(rw[Yzd (by decide +kernel)];kernel_rfl)|(rw[Yzb (by decide +kernel)];exact⟨rfl,rfl⟩))
  (fun os started H enc _=>CrescendoSilent.lifted os started H enc)
theorem crescendoSilent_holds:Rows.CrescendoSilentCardSaid:=
 Claim7.holds_tied_plain_at .later [] [.data,.data,.data] true (true,"39e7e50a67e78fdfdc2de280a53df78e8ba61764d535e90ba0f49edbaae013b1") false
  ub (fun _ h=>by cases h) (by kernel_rfl) (fun _ h=>by cases h) crescendoSilent_row_tie rfl ⟨rfl,rfl⟩ (by kernel_rfl) rfl
  (fun f fn hf hfn => by
   obtain rfl:f=3:=Option.some.inj ((show Tryz.prog.funcNamed "bombarde/bombardelaw31.CrescendoSilent" = some 3 by kernel_rfl).symm.trans hf) |>.symm;obtain rfl:fn=Tryz.f3:=(Option.some.inj (Tryz.func3.symm.trans hfn)).symm;exact⟨by kernel_rfl,fun j t ht=>by
    rw[Tryz.params3]at ht;have hm:t∈[26,27,29]:=by simpa using Array.mem_of_getElem? ht
    have hall:([26,27,29].all fun u=>!Tryz.prog.wantsStandIn u)=true:=by kernel_rfl
    exact(show Tryz.prog.wantsStandIn t=false by simpa using YzM.1 hall t hm)⟩)
  (by kernel_rfl)
#print axioms crescendoSilent_holds
end Go.Proofs.YtnmjdoahlkcflaaGreatDoor
end
