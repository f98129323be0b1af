/-
  The law EqualityControls of the program answers true for every input, and each argument reads as before: its card. No condition.
-/
import Derived.Test.YtekpghfdglhonaaGreatDoorWp
section
namespace Go.Proofs.YtekpghfdglhonaaGreatDoor
open Go Go.CE Go.PE Go.ChangeShapes Go.WideShapes Go.ChangeAt Go.RowKit Go.Proofs.Tryz.Kn Go.Joins
theorem yQ{a b:Bool}(h:a=true)(h':b=true):(a&&b)=true:=by rw[h,h'];rfl
set_option maxHeartbeats 4000000 in
theorem uB:joinedFacts Tryz.pinned.checked.prog 3 Tryz.f3 Rows.equalityControlsSpec Rows.equalityControlsRow=true:=by
 unfold joinedFacts;refine yQ (yQ (yQ (yQ (yQ (yQ (yQ (yQ (yQ (yQ (yQ (yQ (yQ (yQ (yQ (yQ (yQ (yQ (yQ (yQ (yQ (yQ (yQ (yQ (yQ (yQ (yQ (yQ (yQ (yQ (yQ ?_ ?_) ?_) ?_) ?_) ?_) ?_) ?_) ?_) ?_) ?_) ?_) ?_) ?_) ?_) ?_) ?_) ?_) ?_) ?_) ?_) ?_) ?_) ?_) ?_) ?_) ?_) ?_) ?_) ?_) ?_) ?_
 all_goals as_aux_lemma=>kernel_rfl
theorem uY:Rows.EqualityControlsSaid:=
 OpenClaim.holds_of_wide 3 Tryz.f3 rfl rfl rfl rfl rfl rfl rfl ⟨rfl,rfl,rfl,rfl,rfl⟩ rfl rfl rfl rfl rfl (by as_aux_lemma=>kernel_rfl) Tryz.func3 uB
  (of_decide_eq_true (by kernel_rfl)) (by unfold Func.isWrapper;first|(rw[if_pos (by decide +kernel)];kernel_rfl)|(rw[if_neg (by decide +kernel)];exact⟨rfl,rfl⟩))
  (fun os started H enc _=>EqualityControls.lifted os started H enc)
theorem equalityControls_holds:Rows.EqualityControlsCardSaid:=
 Claim7.holds_tied_plain_at .later [] [.data,.data,.data] true (true,"27cb69c2108f34043855c2901679a21611188f021d82c2cc1d16535444e641cf") false
  uY (fun _ h=>by cases h) (by kernel_rfl) (fun _ h=>by cases h) equalityControls_row_tie rfl ⟨rfl,rfl⟩ (by kernel_rfl) rfl
  (fun f fn hf hfn => by
   obtain rfl:f=3:=Option.some.inj ((show Tryz.prog.funcNamed "bombarde/bombardelaw29.EqualityControls" = some 3 by kernel_rfl).symm.trans hf) |>.symm
   obtain rfl:fn=Tryz.f3:=(Option.some.inj (Tryz.func3.symm.trans hfn)).symm;exact⟨by kernel_rfl,fun j t ht=>by
    rw[Tryz.params3]at ht;have hm:t∈[26,27,29]:=by simpa using Array.mem_of_getElem? ht
    have hall:([26,27,29].all fun u=>!Tryz.prog.wantsStandIn u)=true:=by kernel_rfl
    exact(show Tryz.prog.wantsStandIn t=false by simpa using List.all_eq_true.1 hall t hm)⟩)
  (by kernel_rfl)
#print axioms equalityControls_holds
end Go.Proofs.YtekpghfdglhonaaGreatDoor
end
