/-
  The concrete evaluator: each operation, evaluated, is what the model's operation does (indexing, building, slicing). No condition.
-/
import Derived.Test.YtpoejpijhnankaaGreatCEg
namespace Go.CE
open Go.RowKit

section
variable {P : Program} {w0 : World} {S : Nat → Prop} {φ : Phi} {h h2 : AHeap} {w w2 : World} {nt : Nat} {t : Tr AVal} {a : Act} {v : AVal} {call : Caller}

theorem s_ixarr (H : HRel w0 S φ h w) {ty el : TypeId} {len : Nat} (hu : P.underlying ty = some (.array len el)) {i : TypeInfo} (hi : P.info? el = some i) {x j : Opd} {vx vj : Value}
    (hx : vx = concA φ (x t) ∧ wfA φ h.n.toNat (x t)) (hj : vj = concA φ (j t)) (e : opIxarr len i.size x j call t h = some (v, h2)) :
    Done w0 S φ h v h2 ((do pure (Next.value (← Instr.indexAt ty vx vj)) : Sem Next).run P w) := by
  unfold opIxarr at e
  split at e
  · rename_i b off hxe
    rw [hxe] at hx
    split at e
    · rename_i m hm
      obtain ⟨k, hk⟩ := asI_inv hm
      cases hb : Nat.ble (Nat.succ m) len with
      | false => rw [hb] at e; cases e
      | true =>
        rw [hb] at e
        cases e
        have hlt := ble_true hb
        refine Done.same H ?_ (run_val ?_)
        · exact hx.2
        rw [hx.1, hj, hk, concA_ptr, concA_int, concA_ptr, adr_off]
        simp [Instr.indexAt, asIntOf, Sem.run_bind, run_underlying hu, sizeOf, typeInfo, hi, Instr.sureAddr]
        intro hbad; omega
    · cases e
  · cases e

theorem s_ixagg (H : HRel w0 S φ h w) {ty el : TypeId} {len : Nat} (hu : P.underlying ty = some (.array len el)) {i : TypeInfo} (hi : P.info? el = some i) {n : Option Nat} (hs : sizeT P el = some n)
    {x j : Opd} {vx vj : Value} (hx : vx = concA φ (x t) ∧ wfA φ h.n.toNat (x t)) (hj : vj = concA φ (j t)) (e : opIxagg len i.size n x j call t h = some (v, h2)) :
    Done w0 S φ h v h2 ((do pure (Next.value (← Instr.index ty vx vj)) : Sem Next).run P w) := by
  unfold opIxagg at e
  split at e
  · rename_i cs hxe
    rw [hxe] at hx
    split at e
    · rename_i m hm
      obtain ⟨k, hk⟩ := asI_inv hm
      cases hb : Nat.ble (Nat.succ m) len with
      | false => rw [hb] at e; cases e
      | true =>
        rw [hb] at e
        have hlt := ble_true hb
        obtain ⟨h1, h3, rfl⟩ := part_agg (P := P) (φ := φ) (w := w) hs hx.2 e
        refine Done.same H h3 (run_val ?_)
        rw [hx.1, hj, hk, concA_agg, concA_int]
        have h1' : (Go.part el (cs.map (concC φ)).toArray (m * i.size)).run P w = .ok (concA φ v) w := h1
        simp [Instr.index, asIntOf, Sem.run_bind, run_underlying hu, sizeOf, typeInfo, hi]
        rw [if_pos (by omega)]
        exact h1'
    · cases e
  · cases e

theorem s_ixstr (H : HRel w0 S φ h w) {ty : TypeId} (hu : P.underlying ty = some .string) {x j : Opd} {vx vj : Value} (hx : vx = concA φ (x t)) (hj : vj = concA φ (j t))
    (e : opIxstr x j call t h = some (v, h2)) : Done w0 S φ h v h2 ((do pure (Next.value (← Instr.index ty vx vj)) : Sem Next).run P w) := by
  unfold opIxstr at e
  split at e
  · rename_i s hxe
    split at e
    · rename_i m hm
      obtain ⟨k, hk⟩ := asI_inv hm
      obtain ⟨c, hc, rfl, rfl⟩ := retC_inv e
      rw [byteAt_eq] at hc
      cases hb : s.data.toList[m]? with
      | none => rw [hb] at hc; cases hc
      | some q =>
        rw [hb] at hc
        cases hc
        refine Done.same H ?_ (run_val ?_)
        · exact trivial
        rw [hx, hj, hxe, hk, concA_str, concA_int, concA_int]
        have hq : s[m]? = some q := by
          rw [Array.getElem?_toList] at hb
          have hlt : m < s.data.size := (Array.getElem?_eq_some_iff.1 hb).1
          have hlt' : m < s.size := hlt
          rw [getElem?_pos s m hlt']
          congr 1
          exact (Array.getElem?_eq_some_iff.1 hb).2
        simp [Instr.index, asIntOf, Sem.run_bind, run_underlying hu, hq]
    · cases e
  · cases e

/-! ### Aggregates and slices built -/

/-- The parts, as the model has them: the place of each, its size, its value. -/
def placed (φ : Phi) (t : Tr AVal) (place : Nat → Option (Nat × Nat)) : List (Nat × Nat × Opd) → List (Nat × Value) → Prop
  | [], [] => True
  | (off, size, x) :: r, (i, y) :: r' => place i = some (off, size) ∧ y = concA φ (x t) ∧ placed φ t place r r'
  | _, _ => False

theorem foldl_set (vs : List Value) : ∀ (k : Nat) (cs : Array Value) (off : Nat), off + k + vs.length ≤ cs.size →
    ((vs.zipIdx k).foldl (fun cs (p : Value × Nat) => cs.setIfInBounds (off + p.2) p.1) cs).toList = cs.toList.take (off + k) ++ vs ++ cs.toList.drop (off + k + vs.length) := by
  induction vs with
  | nil => intro k cs off _; simp
  | cons x vs ih =>
    intro k cs off hle
    simp only [List.zipIdx_cons, List.foldl_cons]
    rw [ih (k + 1) (cs.setIfInBounds (off + k) x) off (by simp at hle ⊢; omega)]
    have e := list_seg_step cs.toList (off + k) x vs (by simp at hle ⊢; omega)
    simpa [Array.toList_setIfInBounds, Nat.add_assoc] using e

theorem fill_sound {place : Nat → Option (Nat × Nat)} : ∀ {parts : List (Nat × Nat × Opd)} {vs : List (Nat × Value)} {cs cs' : List CVal} {n : Nat}, placed φ t place parts vs →
    (∀ c ∈ cs, wfC φ n c) → (∀ p ∈ parts, wfA φ n (p.2.2 t)) → fillR t parts cs = some cs' →
    Instr.fill place (cs.map (concC φ)).toArray vs = some (cs'.map (concC φ)).toArray ∧ (∀ c ∈ cs', wfC φ n c) ∧ cs'.length = cs.length
  | [], [], cs, cs', n, _, hw, _, e => by cases e; exact ⟨rfl, hw, rfl⟩
  | [], _ :: _, _, _, _, hp, _, _, _ => hp.elim
  | (_, _, _) :: _, [], _, _, _, hp, _, _, _ => hp.elim
  | (off, size, x) :: r, (i, y) :: r', cs, cs', n, hp, hw, hq, e => by
    obtain ⟨hpl, hy, hr⟩ := hp
    simp only [fillR] at e
    split at e
    · rename_i u hu
      cases hl : lenIs u.cells size with
      | false => rw [hl] at e; cases e
      | true =>
        rw [hl] at e
        simp only [cond_true] at e
        cases hpa : putAt u.cells cs off with
        | none => rw [hpa] at e; cases e
        | some cs1 =>
          rw [hpa] at e
          have hsz := lenIs_eq _ _ hl
          obtain ⟨he, hle⟩ := putAt_eq _ _ _ _ hpa
          have hwx : ∀ c ∈ u.cells, wfC φ n c := by
            have := hq _ (List.mem_cons_self)
            simp only [hu] at this
            exact wfS_cells this
          have hw1 : ∀ c ∈ cs1, wfC φ n c := by
            intro c hc
            rw [he] at hc
            simp only [List.mem_append] at hc
            rcases hc with (hc | hc) | hc
            · exact hw c (List.mem_of_mem_take hc)
            · exact hwx c hc
            · exact hw c (List.mem_of_mem_drop hc)
          have ih := fill_sound hr hw1 (fun p hp => hq p (List.mem_cons_of_mem _ hp)) e
          refine ⟨?_, ih.2.1, ?_⟩
          · rw [← ih.1]
            rw [hy, hu, concA_s]
            simp only [Instr.fill, hpl, concS_cells, List.size_toArray, List.length_map]
            rw [if_neg (by simp; omega)]
            congr 1
            have := foldl_set (u.cells.map (concC φ)) 0 (cs.map (concC φ)).toArray off (by simp; omega)
            simp only [Nat.add_zero, List.length_map] at this
            apply Array.ext'
            rw [he]
            rw [← Array.foldl_toList, Array.toList_zipIdx]
            simpa [List.map_take, List.map_drop] using this
          · rw [ih.2.2, he]; simp; omega
    · cases e

end
end Go.CE
