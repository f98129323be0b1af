/-
  The law RelayValues of the program answers true for every input, and each argument reads as before: its card. No condition.
-/
import Derived.Test.YthnijnblnoflnaaGreatDoorWn
section
namespace Go.Proofs.YthnijnblnoflnaaGreatDoor
open Go Go.CE Go.PE Go.ChangeShapes Go.WideShapes Go.ChangeAt Go.RowKit Go.Proofs.Tryz.Kn Go.Joins
theorem yO{a b:Bool}(h:a=true)(h':b=true):(a&&b)=true:=by rw[h,h'];rfl
set_option maxHeartbeats 4000000 in
theorem zz3:joinedFacts Tryz.pinned.checked.prog 4 Tryz.f4 Rows.relayValuesSpec Rows.relayValuesRow=true:=by
 unfold joinedFacts;refine yO (yO (yO (yO (yO (yO (yO (yO (yO (yO (yO (yO (yO (yO (yO (yO (yO (yO (yO (yO (yO (yO (yO (yO (yO (yO (yO (yO (yO (yO (yO ?_ ?_) ?_) ?_) ?_) ?_) ?_) ?_) ?_) ?_) ?_) ?_) ?_) ?_) ?_) ?_) ?_) ?_) ?_) ?_) ?_) ?_) ?_) ?_) ?_) ?_) ?_) ?_) ?_) ?_) ?_) ?_
 all_goals as_aux_lemma=>kernel_rfl
theorem zz7:Rows.RelayValuesSaid:=
 OpenClaim.holds_of_wide 4 Tryz.f4 rfl rfl rfl rfl rfl rfl rfl ⟨rfl,rfl,rfl,rfl,rfl⟩ rfl rfl rfl rfl rfl (by as_aux_lemma=>kernel_rfl) Tryz.func4 zz3
  (of_decide_eq_true (by kernel_rfl)) (by unfold Func.isWrapper;first|(rw[Yzd (by decide +kernel)];kernel_rfl)|(rw[Yzc (by decide +kernel)];exact⟨rfl,rfl⟩))
  (fun os started H enc _=>RelayValues.lifted os started H enc)
theorem relayValues_holds:Rows.RelayValuesCardSaid:=
 Claim7.holds_tied_plain_at .later [] [.data,.data,.data] true (true,"e9da33c13d3926d42708cf967ed720f5cf1f0f9241afa4ddbe6923658ed7955a") false
  zz7 (fun _ h=>by cases h) (by kernel_rfl) (fun _ h=>by cases h) relayValues_row_tie rfl ⟨rfl,rfl⟩ (by kernel_rfl) rfl
  (fun f fn hf hfn => by
   obtain rfl:f=4:=Option.some.inj ((show Tryz.prog.funcNamed "bombarde/bombardelaw28.RelayValues" = some 4 by kernel_rfl).symm.trans hf) |>.symm;obtain rfl:fn=Tryz.f4:=(Option.some.inj (Tryz.func4.symm.trans hfn)).symm;exact⟨by kernel_rfl,fun j t ht=>by
    rw[Tryz.params4]at ht;have hm:t∈[26,57,59]:=by simpa using Array.mem_of_getElem? ht
    have hall:([26,57,59].all fun u=>!Tryz.prog.wantsStandIn u)=true:=by kernel_rfl
    exact(show Tryz.prog.wantsStandIn t=false by simpa using YzJ.1 hall t hm)⟩)
  (by kernel_rfl)
#print axioms relayValues_holds
end Go.Proofs.YthnijnblnoflnaaGreatDoor
end
