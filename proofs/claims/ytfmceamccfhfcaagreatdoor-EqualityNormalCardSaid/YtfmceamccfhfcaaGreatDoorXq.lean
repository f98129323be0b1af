/-
  The law EqualityNormal of the program answers true for every input, and each argument reads as before: its card. No condition.
-/
import Derived.Test.YtfmceamccfhfcaaGreatDoorWp
section
namespace Go.Proofs.YtfmceamccfhfcaaGreatDoor
open Go Go.CE Go.PE Go.ChangeShapes Go.WideShapes Go.ChangeAt Go.RowKit Go.Proofs.Tryz.Kn Go.Joins
theorem xn{a b:Bool}(h:a=true)(h':b=true):(a&&b)=true:=by rw[h,h'];rfl
set_option maxHeartbeats 4000000 in
theorem zEo:joinedFacts Tryz.pinned.checked.prog 3 Tryz.f3 Rows.equalityNormalSpec Rows.equalityNormalRow=true:=by
 unfold joinedFacts;refine xn (xn (xn (xn (xn (xn (xn (xn (xn (xn (xn (xn (xn (xn (xn (xn (xn (xn (xn (xn (xn (xn (xn (xn (xn (xn (xn (xn (xn (xn (xn ?_ ?_) ?_) ?_) ?_) ?_) ?_) ?_) ?_) ?_) ?_) ?_) ?_) ?_) ?_) ?_) ?_) ?_) ?_) ?_) ?_) ?_) ?_) ?_) ?_) ?_) ?_) ?_) ?_) ?_) ?_) ?_
 all_goals as_aux_lemma=>kernel_rfl
theorem zEp:Rows.EqualityNormalSaid:=
 OpenClaim.holds_of_wide 3 Tryz.f3 rfl rfl rfl rfl rfl rfl rfl ⟨rfl,rfl,rfl,rfl,rfl⟩ rfl rfl rfl rfl rfl (by as_aux_lemma=>kernel_rfl) Tryz.func3 zEo
  (of_decide_eq_true (by kernel_rfl)) (by unfold Func.isWrapper;first|(rw[Yze (by decide +kernel)];kernel_rfl)|(rw[Yzb (by decide +kernel)];exact⟨rfl,rfl⟩))
  (fun os started H enc _=>EqualityNormal.lifted os started H enc)
theorem equalityNormal_holds:Rows.EqualityNormalCardSaid:=
 Claim7.holds_tied_plain_at .later [] [.data,.data,.data] true (true,"e60ebfd97aeef885f0d76fa5a2656080ce82052947440bcb63df5539fcf3b969") false
  zEp (fun _ h=>by cases h) (by kernel_rfl) (fun _ h=>by cases h) equalityNormal_row_tie rfl ⟨rfl,rfl⟩ (by kernel_rfl) rfl
  (fun f fn hf hfn => by
   obtain rfl:f=3:=Option.some.inj ((show Tryz.prog.funcNamed "bombarde/bombardelaw29.EqualityNormal" = some 3 by kernel_rfl).symm.trans hf) |>.symm;obtain rfl:fn=Tryz.f3:=(Option.some.inj (Tryz.func3.symm.trans hfn)).symm;exact⟨by kernel_rfl,fun j t ht=>by
    rw[Tryz.params3]at ht;have hm:t∈[26,27]:=by simpa using Array.mem_of_getElem? ht
    have hall:([26,27].all fun u=>!Tryz.prog.wantsStandIn u)=true:=by kernel_rfl
    exact(show Tryz.prog.wantsStandIn t=false by simpa using Yz3.1 hall t hm)⟩)
  (by kernel_rfl)
#print axioms equalityNormal_holds
end Go.Proofs.YtfmceamccfhfcaaGreatDoor
end
