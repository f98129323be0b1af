/-
  The concrete evaluator: each operation, evaluated, is what the model's operation does (composite literals, make, slice expressions, len). No condition.
-/
import Derived.Test.YtpoejpijhnankaaGreatCEh
import Derived.Laws.Tables
import Derived.Laws.MakeOwn
import Derived.ChangeMaps3
namespace Go.CE
open Go.RowKit

section
variable {P : Program} {w0 : World} {S : Nat → Prop} {φ : Phi} {h h2 : AHeap} {w w2 : World} {nt : Nat} {t : Tr AVal} {a : Act} {v : AVal} {call : Caller}

theorem zeroT_inv {ty : TypeId} {z : SVal} (hz : zeroT P ty = some z) : ∃ i zv, P.info? ty = some i ∧ i.zero = some zv ∧ concS φ z = zv ∧ (∀ c ∈ z.cells, wfC φ 0 c) := by
  unfold zeroT at hz
  split at hz
  · rename_i i hi
    split at hz
    · rename_i zv hzv
      have := cVal_conc φ hz
      exact ⟨i, zv, hi, hzv, this.1, wfS_cells this.2⟩
    · cases hz
  · cases hz

theorem fieldParts_placed (T : TRel φ nt h.n.toNat t a.tmps) {fs : Array Field} {places : List (Nat × Nat)}
    (hpl : ∀ (i : Nat) f info, fs[i]? = some f → P.info? f.type = some info → places[i]? = some (f.offset, info.size)) :
    ∀ {parts : List (Nat × Operand)} {r : List (Nat × Nat × Opd)}, fieldParts P fs parts = some r →
      placed φ t (fun i => places.toArray[i]?) r (parts.map fun p => (p.1, a.eval p.2)) ∧ ∀ p ∈ r, wfA φ h.n.toNat (p.2.2 t)
  | [], r, e => by cases e; exact ⟨trivial, fun p hp => by cases hp⟩
  | (i, x) :: parts, r, e => by
    simp only [fieldParts] at e
    split at e
    · rename_i f y rest hf hx hr
      split at e
      · rename_i info hinfo
        cases e
        have ih := fieldParts_placed T hpl hr
        have ho := opd_conc T hx
        refine ⟨⟨by simp [hpl i f info hf hinfo], ho.1, ih.1⟩, fun p hp => ?_⟩
        cases hp with
        | head => exact ho.2
        | tail _ hm => exact ih.2 p hm
      · cases e
    · cases e

theorem elemParts_placed (T : TRel φ nt h.n.toNat t a.tmps) (size : Nat) :
    ∀ {parts : List (Nat × Operand)} {r : List (Nat × Nat × Opd)}, elemParts size parts = some r →
      placed φ t (fun i => some (i * size, size)) r (parts.map fun p => (p.1, a.eval p.2)) ∧ ∀ p ∈ r, wfA φ h.n.toNat (p.2.2 t)
  | [], r, e => by cases e; exact ⟨trivial, fun p hp => by cases hp⟩
  | (i, x) :: parts, r, e => by
    simp only [elemParts] at e
    split at e
    · rename_i y rest hx hr
      cases e
      have ih := elemParts_placed T size hr
      have ho := opd_conc T hx
      refine ⟨⟨rfl, ho.1, ih.1⟩, fun p hp => ?_⟩
      cases hp with
      | head => exact ho.2
      | tail _ hm => exact ih.2 p hm
    · cases e

theorem s_buildA (H : HRel w0 S φ h w) (T : TRel φ nt h.n.toNat t a.tmps) {ty el : TypeId} {len : Nat} (hu : P.underlying ty = some (.array len el)) {z : SVal} (hz : zeroT P ty = some z)
    {i : TypeInfo} (hi : P.info? el = some i) {parts : Array (Nat × Operand)} {r : List (Nat × Nat × Opd)} (hr : elemParts i.size parts.toList = some r) (e : opBuild z.cells r call t h = some (v, h2)) :
    Done w0 S φ h v h2 ((do pure (Next.value (← Instr.build ty (parts.map fun (i, x) => (i, a.eval x)))) : Sem Next).run P w) := by
  obtain ⟨cs, hc, rfl, rfl⟩ := retA_inv e
  obtain ⟨it, zv, hit, hzv, hcz, hwz⟩ := zeroT_inv (φ := φ) hz
  obtain ⟨hp, hw⟩ := elemParts_placed T i.size hr
  have hf := fill_sound hp (fun c hc => wfC_mono (Nat.zero_le _) (hwz c hc)) hw hc
  refine Done.same H ?_ (run_val ?_)
  · exact hf.2.1
  · rw [concA_agg]
    refine run_build w ty _ _ ?_
    unfold Program.built
    simp only [hit, hu, hzv, hi]
    rw [← hcz, concS_cells]
    simpa using hf.1

theorem s_buildS (H : HRel w0 S φ h w) (T : TRel φ nt h.n.toNat t a.tmps) {ty : TypeId} {fs : Array Field} (hu : P.underlying ty = some (.struct fs)) {z : SVal} (hz : zeroT P ty = some z)
    (hall : allInfo P fs.toList = true) {parts : Array (Nat × Operand)} {r : List (Nat × Nat × Opd)} (hr : fieldParts P fs parts.toList = some r) (e : opBuild z.cells r call t h = some (v, h2)) :
    Done w0 S φ h v h2 ((do pure (Next.value (← Instr.build ty (parts.map fun (i, x) => (i, a.eval x)))) : Sem Next).run P w) := by
  obtain ⟨cs, hc, rfl, rfl⟩ := retA_inv e
  obtain ⟨it, zv, hit, hzv, hcz, hwz⟩ := zeroT_inv (φ := φ) hz
  have hm := ChangeMaps.mapM_total (f := fun f : Field => (P.info? f.type).map fun i => (f.offset, i.size)) (0, 0) (l := fs.toList) (fun f hf => by
    have := (List.all_eq_true.1 hall) f hf
    obtain ⟨i, hi⟩ := Option.isSome_iff_exists.1 this
    exact ⟨_, by rw [hi]; rfl⟩)
  have hpl : ∀ (i : Nat) f info, fs[i]? = some f → P.info? f.type = some info → (fs.toList.map fun x => ((P.info? x.type).map fun i => (x.offset, i.size)).getD (0, 0))[i]? = some (f.offset, info.size) := by
    intro i f info hf hinfo
    rw [List.getElem?_map, Array.getElem?_toList, hf]
    simp [hinfo]
  obtain ⟨hp, hw⟩ := fieldParts_placed T hpl hr
  have hf := fill_sound hp (fun c hc => wfC_mono (Nat.zero_le _) (hwz c hc)) hw hc
  refine Done.same H ?_ (run_val ?_)
  · exact hf.2.1
  · rw [concA_agg]
    refine run_build w ty _ _ ?_
    unfold Program.built
    simp only [hit, hu, hzv, hm]
    rw [← hcz, concS_cells]
    simpa using hf.1

theorem getElem_repl (zs : List CVal) : ∀ (n i : Nat), i < n * zs.length → (repl zs n)[i]? = zs[i % zs.length]?
  | 0, i, hi => by simp at hi
  | n + 1, i, hi => by
    have hz : 0 < zs.length := by
      rcases Nat.eq_zero_or_pos zs.length with h0 | h0
      · rw [h0] at hi; simp at hi
      · exact h0
    simp only [repl]
    by_cases h1 : i < zs.length
    · rw [List.getElem?_append_left h1, Nat.mod_eq_of_lt h1]
    · rw [List.getElem?_append_right (by omega), getElem_repl zs n (i - zs.length) (by rw [Nat.succ_mul] at hi; omega)]
      congr 1
      rw [Nat.mod_eq_sub_mod (a := i) (by omega)]

theorem madeCells_repl (zs : List CVal) (n : Nat) (hz : 0 < zs.length) : (Array.range (n * zs.length)).map ((zs.map (concC φ)).toArray[· % (zs.map (concC φ)).toArray.size]!) = ((repl zs n).map (concC φ)).toArray := by
  apply Array.ext'
  apply List.ext_getElem?
  intro i
  simp only [Array.toList_map, Array.toList_range, List.getElem?_map, List.size_toArray, List.length_map]
  by_cases hi : i < n * zs.length
  · rw [getElem_repl zs n i hi, List.getElem?_range hi]
    have hm : i % zs.length < zs.length := Nat.mod_lt _ hz
    simp [hm]
  · rw [List.getElem?_eq_none (by simp; omega), List.getElem?_eq_none (by rw [repl_length]; omega)]
    rfl

theorem wf_repl {φ : Phi} {n : Nat} {zs : List CVal} (hw : ∀ c ∈ zs, wfC φ n c) : ∀ m, ∀ c ∈ repl zs m, wfC φ n c
  | 0, c, hc => by cases hc
  | m + 1, c, hc => by
    simp only [repl, List.mem_append] at hc
    rcases hc with hc | hc
    · exact hw c hc
    · exact wf_repl hw m c hc

/-- A new row whose capacity is known. -/
theorem s_row (H : HRel w0 S φ h w) (cs : List CVal) (st l c : Nat) (hlc : l ≤ c) (hcs : ∀ x ∈ cs, wfC φ h.n.toNat x) (el : TypeId) {s : Sem Value}
    (hs : s.run P w = .ok (.slice (some ⟨w.heap.size, 0, none⟩) l c) (w.alloc (.cells (cs.map (concC φ)).toArray el)))
    (e : newB h (.cells cs st) (fun b => .slc b 0 l c true) = some (v, h2)) : Done w0 S φ h v h2 ((do pure (Next.value (← s)) : Sem Next).run P w) := by
  obtain ⟨rfl, rfl⟩ := newB_inv e
  refine ⟨upd φ h.n ⟨w.heap.size, 0, 0⟩, _, .inl (run_val ?_), upd_ext _ _ _, new_cells H cs st hcs el (cs.map (concC φ)).toArray 0 (fun i c hi => by rw [List.getElem?_toArray, List.getElem?_map, hi]; rfl) (by simp), ?_, by rw [size_new]; omega⟩
  · rw [hs]
    simp [concA, concS, concC, adr, upd_same]
  · refine ⟨?_, (fun hh => by cases hh), fun _ => hlc⟩
    rw [size_new]; omega

theorem s_bslice (H : HRel w0 S φ h w) (T : TRel φ nt h.n.toNat t a.tmps) {ty el : TypeId} {len : Nat} (hu : P.underlying ty = some (.slice el)) {i : TypeInfo} (hi : P.info? el = some i)
    (hle : len * i.size ≤ 16777216) {zs : List CVal} (hz : (len * i.size = 0 ∧ zs = []) ∨ (len * i.size ≠ 0 ∧ ∃ z, zeroT P el = some z ∧ zs = z.cells ∧ zs.length = i.size))
    {parts : Array (Nat × Operand)} {r : List (Nat × Nat × Opd)} (hr : elemParts i.size parts.toList = some r) (e : opBslice i.size len (repl zs len) r call t h = some (v, h2)) :
    Done w0 S φ h v h2 ((do pure (Next.value (← Instr.buildSlice ty len (parts.map fun (i, x) => (i, a.eval x)))) : Sem Next).run P w) := by
  unfold opBslice at e
  split at e
  · rename_i cs hc
    obtain ⟨hp, hw⟩ := elemParts_placed T i.size hr
    have hwz : ∀ c ∈ repl zs len, wfC φ h.n.toNat c := by
      rcases hz with ⟨_, rfl⟩ | ⟨_, z, hz, rfl, _⟩
      · exact wf_repl (fun c hc => by cases hc) len
      · obtain ⟨_, _, _, _, _, hwz⟩ := zeroT_inv (φ := φ) hz
        exact wf_repl (fun c hc => wfC_mono (Nat.zero_le _) (hwz c hc)) len
    have hf := fill_sound hp hwz hw hc
    refine s_row H cs i.size len len (Nat.le_refl _) hf.2.1 el ?_ e
    have hn : ¬ len * i.size > 2 ^ 24 := by omega
    rcases hz with ⟨h0, rfl⟩ | ⟨h0, z, hz, rfl, hlen⟩
    · have hrep : ∀ n, repl ([] : List CVal) n = [] := fun n => by induction n with | zero => rfl | succ n ih => simp [repl, ih]
      rw [hrep] at hf
      have hf' : Instr.fill (fun j => some (j * i.size, i.size)) #[] (parts.toList.map fun p => (p.1, a.eval p.2)) = some (cs.map (concC φ)).toArray := by simpa using hf.1
      simp [Instr.buildSlice, Sem.run_bind, run_underlying hu, sizeOf, typeInfo, hi, h0, Array.range_zero', hf', newRow]
    · obtain ⟨it, zv, hit, hzv, hcz, _⟩ := zeroT_inv (φ := φ) hz
      obtain rfl : it = i := Option.some.inj (hit.symm.trans hi)
      have hpos : 0 < z.cells.length := by
        rw [hlen]
        rcases Nat.eq_zero_or_pos it.size with h9 | h9
        · rw [h9] at h0; simp at h0
        · exact h9
      have hm := madeCells_repl (φ := φ) z.cells len hpos
      have hf' : Instr.fill (fun j => some (j * it.size, it.size)) ((repl z.cells len).map (concC φ)).toArray (parts.toList.map fun p => (p.1, a.eval p.2)) = some (cs.map (concC φ)).toArray := by simpa using hf.1
      rw [← hm, hlen, ← concS_cells, hcz] at hf'
      have hnn : ¬ (len = 0 ∨ it.size = 0) := by intro hh; rcases hh with hh | hh <;> rw [hh] at h0 <;> simp at h0
      have hzr : (zeroValue el).run P w = .ok zv w := by simp [zeroValue, typeInfo, hi, hzv]
      have hsz : (sizeOf el).run P w = .ok it.size w := by simp [sizeOf, typeInfo, hi]
      simp only [Instr.buildSlice, Sem.run_bind, run_underlying hu, Result.andThen_ok, hsz]
      rw [if_neg hn, if_neg h0]
      have hl : (parts.map fun (x : Nat × Operand) => (x.1, a.eval x.2)).toList = parts.toList.map fun p => (p.1, a.eval p.2) := by simp
      simp only [Sem.run_bind, hzr, Result.andThen_ok, Sem.run_pure]
      rw [hl, hf']
      simp [newRow]
  · cases e

end
end Go.CE
