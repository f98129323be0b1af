/-
  The law EqualityTables of the program answers true for every input, and each argument reads as before: its card. No condition.
-/
import Derived.Test.YtfmceamccfhfcaaGreatDoorWp
section
namespace Go.Proofs.YtfmceamccfhfcaaGreatDoor
open Go Go.CE Go.PE Go.ChangeShapes Go.WideShapes Go.ChangeAt Go.RowKit Go.Proofs.Tryz.Kn Go.Joins
theorem xn{a b:Bool}(h:a=true)(h':b=true):(a&&b)=true:=by rw[h,h'];rfl
set_option maxHeartbeats 4000000 in
theorem wa:joinedFacts Tryz.pinned.checked.prog 4 Tryz.f4 Rows.equalityTablesSpec Rows.equalityTablesRow=true:=by
 unfold joinedFacts;refine xn (xn (xn (xn (xn (xn (xn (xn (xn (xn (xn (xn (xn (xn (xn (xn (xn (xn (xn (xn (xn (xn (xn (xn (xn (xn (xn (xn (xn (xn (xn ?_ ?_) ?_) ?_) ?_) ?_) ?_) ?_) ?_) ?_) ?_) ?_) ?_) ?_) ?_) ?_) ?_) ?_) ?_) ?_) ?_) ?_) ?_) ?_) ?_) ?_) ?_) ?_) ?_) ?_) ?_) ?_
 all_goals as_aux_lemma=>kernel_rfl
theorem wb:Rows.EqualityTablesSaid:=
 OpenClaim.holds_of_wide 4 Tryz.f4 rfl rfl rfl rfl rfl rfl rfl ⟨rfl,rfl,rfl,rfl,rfl⟩ rfl rfl rfl rfl rfl (by as_aux_lemma=>kernel_rfl) Tryz.func4 wa
  (of_decide_eq_true (by kernel_rfl)) (by unfold Func.isWrapper;first|(rw[Yze (by decide +kernel)];kernel_rfl)|(rw[Yzb (by decide +kernel)];exact⟨rfl,rfl⟩))
  (fun os started H enc _=>EqualityTables.lifted os started H enc)
theorem equalityTables_holds:Rows.EqualityTablesCardSaid:=
 Claim7.holds_tied_plain_at .later [] [.data,.data,.data] true (true,"e60ebfd97aeef885f0d76fa5a2656080ce82052947440bcb63df5539fcf3b969") false
  wb (fun _ h=>by cases h) (by kernel_rfl) (fun _ h=>by cases h) equalityTables_row_tie rfl ⟨rfl,rfl⟩ (by kernel_rfl) rfl
  (fun f fn hf hfn => by
   obtain rfl:f=4:=Option.some.inj ((show Tryz.prog.funcNamed "bombarde/bombardelaw29.EqualityTables" = some 4 by kernel_rfl).symm.trans hf) |>.symm;obtain rfl:fn=Tryz.f4:=(Option.some.inj (Tryz.func4.symm.trans hfn)).symm;exact⟨by kernel_rfl,fun j t ht=>by
    rw[Tryz.params4]at ht;have hm:t∈[26,27]:=by simpa using Array.mem_of_getElem? ht
    have hall:([26,27].all fun u=>!Tryz.prog.wantsStandIn u)=true:=by kernel_rfl
    exact(show Tryz.prog.wantsStandIn t=false by simpa using Yz3.1 hall t hm)⟩)
  (by kernel_rfl)
#print axioms equalityTables_holds
end Go.Proofs.YtfmceamccfhfcaaGreatDoor
end
