/-
  RelayErrors (bombardelaw28): for any planned organ, any change of it and any registration, a wrong organ makes each of the seven answers empty with the organ's error, and no keys at all are ErrLength or the registration's error. Condition: the three listed variables hold what their initialisers lay.
-/
import Derived.Test.YthfdnggfegbbkaaGreatDoorWo
section
namespace Go.Proofs.YthfdnggfegbbkaaGreatDoor
open Go Go.CE Go.PE Go.ChangeShapes Go.WideShapes Go.ChangeAt Go.RowKit Go.Proofs.Tryz.Kn Go.Joins
theorem yJ {a b : Bool} (h : a = true) (h' : b = true) : (a && b) = true := by rw [h, h']; rfl
set_option maxHeartbeats 4000000 in
theorem ztK : joinedFacts Tryz.pinned.checked.prog 7 Tryz.f7 Rows.relayErrorsSpec Rows.relayErrorsRow = true := by
 unfold joinedFacts;refine yJ (yJ (yJ (yJ (yJ (yJ (yJ (yJ (yJ (yJ (yJ (yJ (yJ (yJ (yJ (yJ (yJ (yJ (yJ (yJ (yJ (yJ (yJ (yJ (yJ (yJ (yJ (yJ (yJ (yJ (yJ ?_ ?_) ?_) ?_) ?_) ?_) ?_) ?_) ?_) ?_) ?_) ?_) ?_) ?_) ?_) ?_) ?_) ?_) ?_) ?_) ?_) ?_) ?_) ?_) ?_) ?_) ?_) ?_) ?_) ?_) ?_) ?_
 all_goals as_aux_lemma => kernel_rfl
theorem ztM : Rows.RelayErrorsSaid :=
 OpenClaim.holds_of_wide 7 Tryz.f7 rfl rfl rfl rfl rfl rfl rfl ⟨rfl, rfl, rfl, rfl, rfl⟩ rfl rfl rfl rfl rfl (by as_aux_lemma => kernel_rfl) Tryz.func7 ztK
  (of_decide_eq_true (by kernel_rfl)) (by unfold Func.isWrapper; first | (rw [if_pos (by decide +kernel)]; kernel_rfl) | (rw [if_neg (by decide +kernel)]; exact ⟨rfl, rfl⟩))
  (fun os started H enc _ => RelayErrors.lifted os started H enc)
theorem relayErrors_holds : Rows.RelayErrorsCardSaid :=
 Claim7.holds_tied_plain_at .later [] [.data, .data, .data] true (true, "f4e0ac8375e240031d55ec1c60315eea08c52967d1dadacc6c8a5b7a791b3581") false
  ztM (fun _ h => by cases h) (by kernel_rfl) (fun _ h => by cases h) relayErrors_row_tie rfl ⟨rfl, rfl⟩ (by kernel_rfl) rfl
  (fun f fn hf hfn => by
   obtain rfl : f = 7 := Option.some.inj ((show Tryz.prog.funcNamed "bombarde/bombardelaw28.RelayErrors" = some 7 by kernel_rfl).symm.trans hf) |>.symm
   obtain rfl : fn = Tryz.f7 := (Option.some.inj (Tryz.func7.symm.trans hfn)).symm;exact ⟨by kernel_rfl, fun j t ht => by
    rw [Tryz.params7] at ht;have hm : t ∈ [26, 89, 41] := by simpa using Array.mem_of_getElem? ht
    have hall : ([26, 89, 41].all fun u => !Tryz.prog.wantsStandIn u) = true := by kernel_rfl
    exact (show Tryz.prog.wantsStandIn t = false by simpa using List.all_eq_true.1 hall t hm)⟩)
  (by kernel_rfl)
#print axioms relayErrors_holds
end Go.Proofs.YthfdnggfegbbkaaGreatDoor
end
