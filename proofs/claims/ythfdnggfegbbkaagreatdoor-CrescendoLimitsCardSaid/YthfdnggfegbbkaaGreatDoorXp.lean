/-
  CrescendoLimits (bombardelaw31): for any planned organ and any number, so many stages with nothing drawn are right, or ErrLimit if there are more than 100. Condition: the three listed variables hold what their initialisers lay.
-/
import Derived.Test.YthfdnggfegbbkaaGreatDoorZo
section
namespace Go.Proofs.YthfdnggfegbbkaaGreatDoor
open Go Go.CE Go.PE Go.ChangeShapes Go.WideShapes Go.ChangeAt Go.RowKit Go.Proofs.Tryz.Kn Go.Joins
theorem yJ {a b : Bool} (h : a = true) (h' : b = true) : (a && b) = true := by rw [h, h']; rfl
set_option maxHeartbeats 4000000 in
theorem uU : joinedFacts Tryz.pinned.checked.prog 4 Tryz.f4 Rows.crescendoLimitsSpec Rows.crescendoLimitsRow = true := by
 unfold joinedFacts
 refine yJ (yJ (yJ (yJ (yJ (yJ (yJ (yJ (yJ (yJ (yJ (yJ (yJ (yJ (yJ (yJ (yJ (yJ (yJ (yJ (yJ (yJ (yJ (yJ (yJ (yJ (yJ (yJ (yJ (yJ (yJ ?_ ?_) ?_) ?_) ?_) ?_) ?_) ?_) ?_) ?_) ?_) ?_) ?_) ?_) ?_) ?_) ?_) ?_) ?_) ?_) ?_) ?_) ?_) ?_) ?_) ?_) ?_) ?_) ?_) ?_) ?_) ?_
 all_goals as_aux_lemma => kernel_rfl
theorem ji : Rows.CrescendoLimitsSaid :=
 OpenClaim.holds_of_wide 4 Tryz.f4 rfl rfl rfl rfl rfl rfl rfl ⟨rfl, rfl, rfl, rfl, rfl⟩ rfl rfl rfl rfl rfl (by as_aux_lemma => kernel_rfl) Tryz.func4 uU
  (of_decide_eq_true (by kernel_rfl)) (by unfold Func.isWrapper; first | (rw [if_pos (by decide +kernel)]; kernel_rfl) | (rw [if_neg (by decide +kernel)]; exact ⟨rfl, rfl⟩))
  (fun os started H enc _ => CrescendoLimits.lifted os started H enc)
theorem crescendoLimits_holds : Rows.CrescendoLimitsCardSaid :=
 Claim7.holds_tied_plain_at .later [] [.data, .data, .data] true (true, "f4e0ac8375e240031d55ec1c60315eea08c52967d1dadacc6c8a5b7a791b3581") false
  ji (fun _ h => by cases h) (by kernel_rfl) (fun _ h => by cases h) crescendoLimits_row_tie rfl ⟨rfl, rfl⟩ (by kernel_rfl) rfl
  (fun f fn hf hfn => by
   obtain rfl : f = 4 := Option.some.inj ((show Tryz.prog.funcNamed "bombarde/bombardelaw31.CrescendoLimits" = some 4 by kernel_rfl).symm.trans hf) |>.symm
   obtain rfl : fn = Tryz.f4 := (Option.some.inj (Tryz.func4.symm.trans hfn)).symm
   exact ⟨by kernel_rfl, fun j t ht => by
    rw [Tryz.params4] at ht
    have hm : t ∈ [26, 5] := by simpa using Array.mem_of_getElem? ht
    have hall : ([26, 5].all fun u => !Tryz.prog.wantsStandIn u) = true := by kernel_rfl
    exact (show Tryz.prog.wantsStandIn t = false by simpa using List.all_eq_true.1 hall t hm)⟩)
  (by kernel_rfl)
#print axioms crescendoLimits_holds
end Go.Proofs.YthfdnggfegbbkaaGreatDoor
end
