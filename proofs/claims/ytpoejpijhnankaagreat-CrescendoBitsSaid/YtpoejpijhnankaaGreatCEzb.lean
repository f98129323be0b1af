/-
  A world as an abstract heap of blocks that are only read; what a call that only makes new blocks does to it. No condition.
-/
import Derived.Test.YtpoejpijhnankaaGreatCEza
namespace Go.CE
open Go.RowKit

section
variable (w : World)

/-- The value of a cell, if it is one that the evaluator knows. -/
noncomputable def absV (w : World) : Value → Option CVal
  | .bool b => some (.bool b)
  | .int k n => some (.int k n)
  | .string s => some (.str s)
  | .pointer none => some .nilp
  | .pointer (some a) => bif decide (a.block < w.heap.size ∧ a.spot = none) then some (.ptr (bn a.block) a.off) else none
  | .slice none len cap => bif decide (len = 0 ∧ cap = 0) then some .nils else none
  | .slice (some a) len cap => bif decide (a.block < w.heap.size ∧ a.spot = none ∧ len ≤ cap) then some (.slc (bn a.block) a.off len cap true) else none
  | .map none => some .nilm
  | .nilFunc => some .nilf
  | .nilIface => some .nili
  | _ => none
def φ0 : Phi := fun b => ⟨b.toNat, 0, 0⟩
noncomputable def roOf (w : World) : Obj → AObj
  | .cells arr e fr => .ro (.cells arr e fr) (fun i => (arr[i]?).bind (absV w))
  | _ => .dead
noncomputable def heapOf (w : World) : AHeap := ⟨bn w.heap.size, Tr.ofList .z (w.heap.toList.map (roOf w)) .nil⟩

theorem heapOf_get (b : BN) : (heapOf w).t.get b = (w.heap[b.toNat]?).map (roOf w) := by
  have e0 : BN.z = bn 0 := rfl
  show (Tr.ofList .z (w.heap.toList.map (roOf w)) .nil).get b = _
  have := ofList_get (w.heap.toList.map (roOf w)) 0 (.nil : Tr AObj) b.toNat
  rw [bn_of_toNat, ← e0] at this
  rw [this]
  have hn : (Tr.nil : Tr AObj).get b = none := by cases b <;> rfl
  rw [hn]
  simp
theorem heapOf_n : (heapOf w).n.toNat = w.heap.size := bn_toNat _

theorem abs_ok {v : Value} {c : CVal} (h : absV w v = some c) : concC φ0 c = v ∧ wfC φ0 w.heap.size c := by
  unfold absV at h
  split at h
  · cases h; exact ⟨rfl, trivial⟩
  · cases h; exact ⟨rfl, trivial⟩
  · cases h; exact ⟨rfl, trivial⟩
  · cases h; exact ⟨rfl, trivial⟩
  · rename_i a
    by_cases hc : a.block < w.heap.size ∧ a.spot = none
    · rw [decide_eq_true hc] at h
      cases h
      obtain ⟨b, off, sp⟩ := a
      obtain ⟨h1, rfl⟩ := hc
      refine ⟨by simp [concC, adr, φ0, bn_toNat], ?_⟩
      show (bn b).toNat < _
      rw [bn_toNat]; exact h1
    · rw [decide_eq_false hc] at h; cases h
  · rename_i len cap
    by_cases hc : len = 0 ∧ cap = 0
    · rw [decide_eq_true hc] at h
      cases h
      obtain ⟨rfl, rfl⟩ := hc
      exact ⟨rfl, trivial⟩
    · rw [decide_eq_false hc] at h; cases h
  · rename_i a len cap
    by_cases hc : a.block < w.heap.size ∧ a.spot = none ∧ len ≤ cap
    · rw [decide_eq_true hc] at h
      cases h
      obtain ⟨b, off, sp⟩ := a
      obtain ⟨h1, rfl, h3⟩ := hc
      refine ⟨by simp [concC, adr, φ0, bn_toNat], ?_, fun hh => (by cases hh), fun _ => h3⟩
      rw [bn_toNat]; exact h1
    · rw [decide_eq_false hc] at h; cases h
  · cases h; exact ⟨rfl, trivial⟩
  · cases h; exact ⟨rfl, trivial⟩
  · cases h; exact ⟨rfl, trivial⟩
  · cases h

theorem heapOf_hw : HW (heapOf w) := fun b o hb => by
  rw [heapOf_get] at hb
  rw [heapOf_n]
  cases hx : w.heap[b.toNat]? with
  | none => rw [hx] at hb; cases hb
  | some x => exact (Array.getElem?_eq_some_iff.1 hx).1

theorem heapOf_rel : HRel w (fun k => ∃ arr e fr, w.heap[k]? = some (.cells arr e fr)) φ0 (heapOf w) w := by
  refine ⟨heapOf_hw w, fun b o hb => ?_, fun b b' o o' _ _ _ _ hh => ?_, fun b o hb hl => ?_, rfl, rfl, rfl, Nat.le_refl _, fun _ _ _ => rfl⟩
  · rw [heapOf_get] at hb
    rw [heapOf_n]
    cases hx : w.heap[b.toNat]? with
    | none => rw [hx] at hb; cases hb
    | some x =>
      rw [hx] at hb
      cases x with
      | cells arr e fr =>
        cases hb
        refine ⟨hx, arr, e, fr, rfl, fun i c hc => ?_⟩
        replace hc : (arr[i]?).bind (absV w) = some c := hc
        cases ha : arr[i]? with
        | none => rw [ha] at hc; cases hc
        | some v =>
          rw [ha] at hc
          obtain ⟨k1, k2⟩ := abs_ok w hc
          refine ⟨?_, k2⟩
          show arr[0 + i]? = _
          rw [Nat.zero_add, ha, k1]
      | _ => cases hb; trivial
  · have h2 : b.toNat = b'.toNat := hh
    rw [← bn_of_toNat b, h2, bn_of_toNat]
  · rw [heapOf_get] at hb
    cases hx : w.heap[b.toNat]? with
    | none => rw [hx] at hb; cases hb
    | some x =>
      rw [hx] at hb
      cases x with
      | cells arr e fr => exact .inl ⟨arr, e, fr, hx⟩
      | _ => cases hb; exact hl.elim

/-- **A CALL THAT ONLY MAKES NEW BLOCKS.** -/
theorem calls_world {P : Program} {call : Caller} (C : SoundC P call) {f : Nat} {args : List AVal} {v : AVal} {h2 : AHeap} (ha : ∀ x ∈ args, wfA φ0 w.heap.size x) (e : call (.inl f) args (heapOf w) = some (v, h2)) (hg : Gr (heapOf w) h2) :
    CallsIn (FR none) 0 P f (args.map (concA φ0)).toArray w (fun e w2 => ∃ φ, e = .returned (concA φ v) ∧ Below w.heap.size w w2) := by
  refine ((C w _ _ _ w args v h2 (heapOf_rel w) (by rw [heapOf_n]; exact ha)).1 f e).2.mono ?_
  rintro e9 w9 ⟨φ2, rfl, he, H2, _, _⟩
  refine ⟨φ2, rfl, H2.os, H2.tape, H2.output, H2.size, fun k hk => ?_⟩
  by_cases hc : ∃ arr e fr, w.heap[k]? = some (.cells arr e fr)
  · obtain ⟨arr, e, fr, hc⟩ := hc
    have hb : (heapOf w).t.get (bn k) = some (roOf w (.cells arr e fr)) := by rw [heapOf_get, bn_toNat, hc]; rfl
    have hn : (bn k).toNat < (heapOf w).n.toNat := by rw [heapOf_n, bn_toNat]; exact hk
    have hb2 := (hg.old _ hn).trans hb
    obtain ⟨h1, _⟩ := H2.obj _ _ hb2
    rw [he _ hn] at h1
    have h1 : w9.heap[(bn k).toNat]? = _ := h1
    rw [bn_toNat] at h1
    rw [h1, hc]
  · exact H2.kept k hk hc
end
end Go.CE
