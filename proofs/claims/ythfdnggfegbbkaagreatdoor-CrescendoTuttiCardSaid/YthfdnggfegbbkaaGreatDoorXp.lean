/-
  CrescendoTutti (bombardelaw31): for any planned organ and any five bytes, the full registration has every stop and coupler, and what is drawn lies within it. Condition: the three listed variables hold what their initialisers lay.
-/
import Derived.Test.YthfdnggfegbbkaaGreatDoorZo
section
namespace Go.Proofs.YthfdnggfegbbkaaGreatDoor
open Go Go.CE Go.PE Go.ChangeShapes Go.WideShapes Go.ChangeAt Go.RowKit Go.Proofs.Tryz.Kn Go.Joins
theorem yJ {a b : Bool} (h : a = true) (h' : b = true) : (a && b) = true := by rw [h, h']; rfl
set_option maxHeartbeats 4000000 in
theorem ztL : joinedFacts Tryz.pinned.checked.prog 5 Tryz.f5 Rows.crescendoTuttiSpec Rows.crescendoTuttiRow = true := by
 unfold joinedFacts
 refine yJ (yJ (yJ (yJ (yJ (yJ (yJ (yJ (yJ (yJ (yJ (yJ (yJ (yJ (yJ (yJ (yJ (yJ (yJ (yJ (yJ (yJ (yJ (yJ (yJ (yJ (yJ (yJ (yJ (yJ (yJ ?_ ?_) ?_) ?_) ?_) ?_) ?_) ?_) ?_) ?_) ?_) ?_) ?_) ?_) ?_) ?_) ?_) ?_) ?_) ?_) ?_) ?_) ?_) ?_) ?_) ?_) ?_) ?_) ?_) ?_) ?_) ?_
 all_goals as_aux_lemma => kernel_rfl
theorem ztM : Rows.CrescendoTuttiSaid :=
 OpenClaim.holds_of_wide 5 Tryz.f5 rfl rfl rfl rfl rfl rfl rfl ⟨rfl, rfl, rfl, rfl, rfl⟩ rfl rfl rfl rfl rfl (by as_aux_lemma => kernel_rfl) Tryz.func5 ztL
  (of_decide_eq_true (by kernel_rfl)) (by unfold Func.isWrapper; first | (rw [if_pos (by decide +kernel)]; kernel_rfl) | (rw [if_neg (by decide +kernel)]; exact ⟨rfl, rfl⟩))
  (fun os started H enc _ => CrescendoTutti.lifted os started H enc)
theorem crescendoTutti_holds : Rows.CrescendoTuttiCardSaid :=
 Claim7.holds_tied_plain_at .later [] [.data, .data, .data] true (true, "f4e0ac8375e240031d55ec1c60315eea08c52967d1dadacc6c8a5b7a791b3581") false
  ztM (fun _ h => by cases h) (by kernel_rfl) (fun _ h => by cases h) crescendoTutti_row_tie rfl ⟨rfl, rfl⟩ (by kernel_rfl) rfl
  (fun f fn hf hfn => by
   obtain rfl : f = 5 := Option.some.inj ((show Tryz.prog.funcNamed "bombarde/bombardelaw31.CrescendoTutti" = some 5 by kernel_rfl).symm.trans hf) |>.symm
   obtain rfl : fn = Tryz.f5 := (Option.some.inj (Tryz.func5.symm.trans hfn)).symm
   exact ⟨by kernel_rfl, fun j t ht => by
    rw [Tryz.params5] at ht
    have hm : t ∈ [26, 27] := by simpa using Array.mem_of_getElem? ht
    have hall : ([26, 27].all fun u => !Tryz.prog.wantsStandIn u) = true := by kernel_rfl
    exact (show Tryz.prog.wantsStandIn t = false by simpa using List.all_eq_true.1 hall t hm)⟩)
  (by kernel_rfl)
#print axioms crescendoTutti_holds
end Go.Proofs.YthfdnggfegbbkaaGreatDoor
end
