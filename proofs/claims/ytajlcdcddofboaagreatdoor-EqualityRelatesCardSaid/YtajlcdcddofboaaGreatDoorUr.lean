/-
  The law EqualityRelates of the program answers true for every input, and each argument reads as before: its card. No condition.
-/
import Derived.Test.YtajlcdcddofboaaGreatDoorWq
section
namespace Go.Proofs.YtajlcdcddofboaaGreatDoor
open Go Go.CE Go.PE Go.ChangeShapes Go.WideShapes Go.ChangeAt Go.RowKit Go.Proofs.Tryz.Kn Go.Joins
theorem y1{a b:Bool}(h:a=true)(h':b=true):(a&&b)=true:=by rw[h,h'];rfl
set_option maxHeartbeats 4000000 in
theorem jN:joinedFacts Tryz.pinned.checked.prog 7 Tryz.f7 Rows.equalityRelatesSpec Rows.equalityRelatesRow=true:=by
 unfold joinedFacts;refine y1 (y1 (y1 (y1 (y1 (y1 (y1 (y1 (y1 (y1 (y1 (y1 (y1 (y1 (y1 (y1 (y1 (y1 (y1 (y1 (y1 (y1 (y1 (y1 (y1 (y1 (y1 (y1 (y1 (y1 (y1 ?_ ?_) ?_) ?_) ?_) ?_) ?_) ?_) ?_) ?_) ?_) ?_) ?_) ?_) ?_) ?_) ?_) ?_) ?_) ?_) ?_) ?_) ?_) ?_) ?_) ?_) ?_) ?_) ?_) ?_) ?_) ?_
 all_goals as_aux_lemma=>kernel_rfl
theorem kH:Rows.EqualityRelatesSaid:=
 OpenClaim.holds_of_wide 7 Tryz.f7 rfl rfl rfl rfl rfl rfl rfl ⟨rfl,rfl,rfl,rfl,rfl⟩ rfl rfl rfl rfl rfl (by as_aux_lemma=>kernel_rfl) Tryz.func7 jN
  (of_decide_eq_true (by kernel_rfl)) (by unfold Func.isWrapper;first|(rw[Yzd (by decide +kernel)];kernel_rfl)|(rw[Yzb (by decide +kernel)];exact⟨rfl,rfl⟩))
  (fun os started H enc _=>EqualityRelates.lifted os started H enc)
theorem equalityRelates_holds:Rows.EqualityRelatesCardSaid:=
 Claim7.holds_tied_plain_at .later [] [.data,.data,.data] true (true,"fcda5340233370afb622f98bd274b669b2b9c8a8c0a813f3db0aec4b7de59773") false
  kH (fun _ h=>by cases h) (by kernel_rfl) (fun _ h=>by cases h) equalityRelates_row_tie rfl ⟨rfl,rfl⟩ (by kernel_rfl) rfl
  (fun f fn hf hfn => by
   obtain rfl:f=7:=Option.some.inj ((show Tryz.prog.funcNamed "bombarde/bombardelaw29.EqualityRelates" = some 7 by kernel_rfl).symm.trans hf) |>.symm;obtain rfl:fn=Tryz.f7:=(Option.some.inj (Tryz.func7.symm.trans hfn)).symm;exact⟨by kernel_rfl,fun j t ht=>by
    rw[Tryz.params7]at ht;have hm:t∈[26,27,27]:=by simpa using Array.mem_of_getElem? ht
    have hall:([26,27,27].all fun u=>!Tryz.prog.wantsStandIn u)=true:=by kernel_rfl
    exact(show Tryz.prog.wantsStandIn t=false by simpa using Yz1.1 hall t hm)⟩)
  (by kernel_rfl)
#print axioms equalityRelates_holds
end Go.Proofs.YtajlcdcddofboaaGreatDoor
end
