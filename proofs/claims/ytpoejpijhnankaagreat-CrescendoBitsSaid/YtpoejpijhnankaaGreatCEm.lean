/-
  The concrete evaluator: each operation, evaluated, is what the model's operation does (append, clear). No condition.
-/
import Derived.Test.YtpoejpijhnankaaGreatCEl
import Derived.Deep.AppendSrc
namespace Go.CE
open Go.RowKit

section
variable {P : Program} {w0 : World} {S : Nat → Prop} {φ : Phi} {h h2 : AHeap} {w w2 : World} {nt : Nat} {t : Tr AVal} {a : Act} {v : AVal} {call : Caller}

/-- The cells cut out of a block, as the model reads them. -/
theorem cut_cells (H : HRel w0 S φ h w) {b : BN} {cs : List CVal} {st off n : Nat} {l : List CVal} (hb : h.t.get b = some (.cells cs st)) (hc : cut n cs off = some l) :
    (∀ j u, (l.map (concC φ))[j]? = some u → w.cell? ((adr φ b off).add j) = some u) ∧ (∀ c ∈ l, wfC φ h.n.toNat c) ∧ l.length = n := by
  obtain ⟨hl, hg⟩ := cut_get hc
  refine ⟨fun j u hu => ?_, fun c hcm => ?_, hl⟩
  · rw [List.getElem?_map] at hu
    cases hj : l[j]? with
    | none => rw [hj] at hu; cases hu
    | some c =>
      rw [hj] at hu
      cases hu
      rw [adr_add]
      exact H_cells H hb (hg j c hj)
  · obtain ⟨j, hj⟩ := List.mem_iff_getElem?.1 hcm
    exact H_wf H hb c (List.mem_of_getElem? (hg j c hj))

theorem cutF_cells (H : HRel w0 S φ h w) {b : BN} {x : Obj} {f : Nat → Option CVal} {off n : Nat} {l : List CVal} (hb : h.t.get b = some (.ro x f)) (hc : cutF f n off = some l) :
    (∀ j u, (l.map (concC φ))[j]? = some u → w.cell? ((adr φ b off).add j) = some u) ∧ (∀ c ∈ l, wfC φ h.n.toNat c) ∧ l.length = n := by
  obtain ⟨hl, hg⟩ := cutF_get hc
  refine ⟨fun j u hu => ?_, fun c hcm => ?_, hl⟩
  · rw [List.getElem?_map] at hu
    cases hj : l[j]? with
    | none => rw [hj] at hu; cases hu
    | some c =>
      rw [hj] at hu
      cases hu
      rw [adr_add]
      exact (H_ro H hb (hg j c hj)).1
  · obtain ⟨j, hj⟩ := List.mem_iff_getElem?.1 hcm
    exact (H_ro H hb (hg j c hj)).2

theorem one_map (φ : Phi) (l : List CVal) : ∀ u ∈ l.map (concC φ), u.oneCell' = true := fun u hu => by
  obtain ⟨c, _, rfl⟩ := List.mem_map.1 hu
  exact concC_one φ c

/-- What is appended, as the model sees it. -/
theorem src_sound (H : HRel w0 S φ h w) {str : Bool} {st : Nat} {x : AVal} {new : List CVal} {n : Nat} {tx : TypeId} (hk : (str = false ∧ ∃ e, P.underlying tx = some (.slice e)) ∨ (str = true ∧ P.underlying tx = some .string))
    (e : srcOf str st h x = some (new, n)) : Src P st tx (concA φ x) n (new.map (concC φ)) w ∧ (∀ c ∈ new, wfC φ h.n.toNat c) := by
  unfold srcOf at e
  rcases hk with ⟨rfl, el, hk⟩ | ⟨rfl, hk⟩
  · simp only [cond_false] at e
    split at e
    · rename_i b off len cap ex
      split at e
      · rename_i cs st' hb
        split at e
        · rename_i l hl
          cases e
          obtain ⟨h1, h2', h3⟩ := cut_cells H hb hl
          exact ⟨Src.ofSlice w hk _ n _ _ (by rw [List.length_map, h3]; rfl) h1 (one_map φ _), h2'⟩
        · cases e
      · rename_i x f hb
        split at e
        · rename_i l hl
          cases e
          obtain ⟨h1, h2', h3⟩ := cutF_cells H hb hl
          exact ⟨Src.ofSlice w hk _ n _ _ (by rw [List.length_map, h3]; rfl) h1 (one_map φ _), h2'⟩
        · cases e
      · cases e
    · cases e
      exact ⟨Src.ofNil w hk 0, fun c hc => by cases hc⟩
    · cases e
  · simp only [cond_true] at e
    split at e
    · rename_i s
      cases hb : Nat.beq st 1 with
      | false => rw [hb] at e; cases e
      | true =>
        rw [hb] at e
        cases e
        obtain rfl := beq_true hb
        refine ⟨?_, fun c hc => ?_⟩
        · have hm : (s.data.toList.map fun c => CVal.int .u8 (.ofNat c.toNat)).map (concC φ) = byteCells s := by
            simp [byteCells, List.map_map, Function.comp_def, concC]
          rw [hm]
          exact Src.ofString w hk s
        · obtain ⟨q, _, rfl⟩ := List.mem_map.1 hc
          trivial
    · cases e

/-- In place: there is room. -/
theorem run_append_in {ty tx rt el : TypeId} {i : TypeInfo} (ht : P.underlying ty = some (.slice el)) (hi : P.info? el = some i) {ad : Addr} {len cap : Nat} {x : Value} {n : Nat} {news : List Value} (hs : Src P i.size tx x n news w)
    (hroom : len + n ≤ cap) {w' : World} (hst : (storeCells (ad.add (len * i.size)) news).run P w = .ok () w') :
    (Builtin.append_ #[ty, tx] rt #[.slice (some ad) len cap, x]).run P w = .ok (.slice (some ad) (len + n) cap) w' := by
  rcases hs.kind with ⟨e', hk⟩ | hk <;> simp [Builtin.append_, run_underlying ht, run_underlying hk, sizeOf, typeInfo, hi, hs.len, hroom, hs.cells, hst]

theorem fits_inv {bytes n : Nat} (e : fits bytes n = true) : n * bytes * 2 ≤ 281474976710656 ∧ n ≤ 4611686018427387904 := by
  unfold fits at e
  simp only [Bool.and_eq_true] at e
  exact ⟨ble_true e.1, ble_true e.2⟩

/-- A new row: the old cells, what is appended, and zeros. -/
theorem grown_sound (H : HRel w0 S φ h w) {ty tx rt el : TypeId} {i : TypeInfo} {z : SVal} (ht : P.underlying ty = some (.slice el)) (hi : P.info? el = some i) (hz : zeroT P el = some z) (hzl : z.cells.length = i.size)
    {base : Option Addr} {sLen sCap : Nat} {old new : List CVal} (hol : old.length = sLen * i.size) (hold : (Builtin.firstCells i.size sLen (.slice base sLen sCap)).run P w.drew = .ok (old.map (concC φ)).toArray w.drew)
    (hwo : ∀ c ∈ old, wfC φ h.n.toNat c) {x : Value} {n : Nat} (hs : Src P i.size tx x n (new.map (concC φ)) w) (hwn : ∀ c ∈ new, wfC φ h.n.toNat c) (hg : sCap < sLen + n) (hf : fits i.bytes (sLen + n) = true)
    {h' : AHeap} (H' : HRel w0 S φ h' w.drew) (hn' : h'.n = h.n) (e : grown h' i.size (sLen + n) old new = some (v, h2)) :
    Done w0 S φ h v h2 ((do pure (Next.value (← Builtin.append_ #[ty, tx] rt #[.slice base sLen sCap, x])) : Sem Next).run P w) := by
  obtain ⟨it, zv, hit, hzv, hcz, _⟩ := zeroT_inv (φ := φ) hz
  obtain rfl : it = i := Option.some.inj (hit.symm.trans hi)
  obtain ⟨hf1, hf2⟩ := fits_inv hf
  have hcap := nextslicecap_le hg
  have hrun := run_append_grow_src (P := P) w ty tx rt el it zv ht hi hzv base sLen sCap (old.map (concC φ)) hold x n (new.map (concC φ)) hs hg (by omega) (by
    have : Builtin.nextslicecap (sLen + n) sCap * it.bytes ≤ 2 * (sLen + n) * it.bytes := Nat.mul_le_mul_right _ hcap
    have e2 : 2 * (sLen + n) * it.bytes = (sLen + n) * it.bytes * 2 := by rw [Nat.mul_assoc, Nat.mul_comm]
    omega)
  obtain ⟨rfl, rfl⟩ := newB_inv e
  have hnl : new.length = n * it.size := by have := hs.newsLen; simpa using this
  have hge := grownCap_ge w (sLen + n) sCap el
  generalize grownCap w (sLen + n) sCap el = C at hrun hge
  have hsz : w.drew.heap.size = w.heap.size := rfl
  refine ⟨upd φ h'.n ⟨w.heap.size, 0, C⟩, _, .inl (run_val ?_), by rw [hn']; exact upd_ext _ _ _, new_cells H' (old ++ new) it.size (fun c hc => ?_) el ((old.map (concC φ) ++ new.map (concC φ)).toArray ++ Builtin.zeroCells zv.cells (C - (sLen + n))) C (fun j c hj => ?_) ?_, ?_, by rw [size_new, hn']; omega⟩
  · rw [hrun]
    simp [concA, concS, concC, adr, upd_same]
  · rw [hn']
    rcases List.mem_append.1 hc with hc | hc
    · exact hwo c hc
    · exact hwn c hc
  · rw [Array.getElem?_append_left (by
      have := (List.getElem?_eq_some_iff.1 hj).1
      simpa using this)]
    rw [← List.map_append, List.getElem?_toArray, List.getElem?_map, hj]
    rfl
  · have hzc : zv.cells.size = it.size := by rw [← hcz, concS_cells]; simpa using hzl
    simp only [Array.size_append, List.size_toArray, List.length_append, List.length_map, size_zeroCells, hzc, hol, hnl]
    rw [← Nat.add_mul, ← Nat.add_mul]
    apply Nat.mul_le_mul_right
    omega
  · refine ⟨by rw [size_new]; omega, fun _ => ?_, fun hh => by cases hh⟩
    rw [upd_same]
    show 0 + (sLen + n) ≤ C
    omega

theorem s_append (H : HRel w0 S φ h w) {ty tx rt el : TypeId} {i : TypeInfo} {z : SVal} (ht : P.underlying ty = some (.slice el)) (hi : P.info? el = some i) (hz : zeroT P el = some z) (hzl : z.cells.length = i.size)
    {str : Bool} (hk : (str = false ∧ ∃ e, P.underlying tx = some (.slice e)) ∨ (str = true ∧ P.underlying tx = some .string)) {s x : Opd} {vs vx : Value}
    (hs : vs = concA φ (s t) ∧ wfA φ h.n.toNat (s t)) (hx : vx = concA φ (x t)) (e : opAppend str i.size i.bytes s x call t h = some (v, h2)) :
    Done w0 S φ h v h2 ((do pure (Next.value (← Builtin.append_ #[ty, tx] rt #[vs, vx])) : Sem Next).run P w) := by
  unfold opAppend at e
  split at e
  · cases e
  · rename_i new n hsrc
    obtain ⟨hsr, hwn⟩ := src_sound (P := P) (w := w) H hk hsrc
    rw [← hx] at hsr
    split at e
    · rename_i hse
      rw [hse] at hs
      rw [hs.1, concA_nils]
      cases hn : Nat.beq n 0 with
      | true =>
        rw [hn] at e
        cases e
        obtain rfl := beq_true hn
        refine Done.same H ?_ (run_val ?_)
        · exact trivial
        · rcases hsr.kind with ⟨e', hk'⟩ | hk' <;> simp [Builtin.append_, run_underlying ht, run_underlying hk', sizeOf, typeInfo, hi, hsr.len, hsr.cells, concA_nils]
      | false =>
        rw [hn] at e
        have hn0 := beq_false hn
        simp only [cond_false] at e
        cases hf : fits i.bytes n with
        | false => rw [hf] at e; cases e
        | true =>
          rw [hf] at e
          simp only [cond_true] at e
          refine grown_sound H (sLen := 0) (sCap := 0) (old := []) ht hi hz hzl (by simp) (by simpa using run_firstCells_none (P := P) w.drew i.size 0 0 0) (fun c hc => by cases hc) hsr hwn (by omega) (by simpa using hf) H.drew rfl (by simpa using e)
    · rename_i b off len cap ex hse
      rw [hse] at hs
      rw [hs.1, concA_slc]
      obtain ⟨hwb, hwu, hwe⟩ := hs.2
      have hcapl : len ≤ (bif ex then cap else (φ b).cap - cap) := by
        cases ex
        · have := hwu rfl; simp only [cond_false]; omega
        · have := hwe rfl; simpa using this
      cases hn : Nat.beq n 0 with
      | true =>
        rw [hn] at e
        cases e
        obtain rfl := beq_true hn
        refine Done.same H hs.2 (run_val ?_)
        have hnl : new = [] := by
          have := hsr.newsLen
          simp only [Nat.zero_mul, List.length_map] at this
          exact List.eq_nil_of_length_eq_zero this
        subst hnl
        exact run_append_in ht hi hsr (by omega) rfl
      | false =>
        rw [hn] at e
        have hn0 := beq_false hn
        simp only [cond_false] at e
        cases hf : fits i.bytes (Nat.add len n) with
        | false => rw [hf] at e; cases e
        | true =>
          rw [hf] at e
          simp only [cond_true] at e
          unfold appendAt at e
          split at e
          · rename_i cs st' hb
            split at e
            · rename_i old hold
              obtain ⟨ho1, ho2, ho3⟩ := cut_cells H hb hold
              have hold' : ∀ c, (Builtin.firstCells i.size len (.slice (some (adr φ b off)) len c)).run P w.drew = .ok (old.map (concC φ)).toArray w.drew :=
                fun c => run_firstCells_some (P := P) w.drew i.size len (adr φ b off) len c (old.map (concC φ)) (by rw [List.length_map, ho3]; rfl) (by simpa using ho1)
              cases ex with
              | true =>
                simp only [cond_true] at e
                cases hr : Nat.ble (Nat.add len n) cap with
                | true =>
                  rw [hr] at e
                  simp only [cond_true] at e
                  split at e
                  · rename_i h' hp
                    cases e
                    cases hpa : putAt new cs (Nat.add off (Nat.mul len i.size)) with
                    | none => rw [hpa] at hp; cases hp
                    | some cs' =>
                      rw [hpa] at hp
                      cases hp
                      obtain ⟨w', hrun, H'⟩ := put_cells (P := P) H hb hwn hpa
                      have hroom := ble_true hr
                      refine ⟨φ, w', .inl (run_val ?_), Ext.refl _ _, H', ⟨hwb, (fun hh => by cases hh), fun _ => hroom⟩, Nat.le_refl _⟩
                      rw [concA_slc]
                      have e1 : adr φ b (Nat.add off (Nat.mul len i.size)) = (adr φ b off).add (len * i.size) := (adr_add φ b off (len * i.size)).symm
                      rw [e1] at hrun
                      exact run_append_in ht hi hsr hroom hrun
                  · cases e
                | false =>
                  rw [hr] at e
                  simp only [cond_false] at e
                  have hg : cap < len + n := by
                    rcases Nat.lt_or_ge cap (len + n) with hh | hh
                    · exact hh
                    · have := Nat.ble_eq_true_of_le hh
                      have e9 : Nat.ble (Nat.add len n) cap = true := this
                      rw [hr] at e9; cases e9
                  exact grown_sound H ht hi hz hzl ho3 (hold' cap) ho2 hsr hwn hg hf H.drew rfl e
              | false =>
                simp only [cond_false] at e
                cases hc : (Nat.beq i.size st' && Nat.beq off (Nat.mul cap i.size)) with
                | false => rw [hc] at e; cases e
                | true =>
                  rw [hc] at e
                  simp only [cond_true] at e
                  simp only [Bool.and_eq_true] at hc
                  have hst := beq_true hc.1
                  have hoff : off = cap * i.size := beq_true hc.2
                  by_cases hroom : len + n ≤ (φ b).cap - cap
                  · -- in place: the block is described anew
                    obtain ⟨rfl, rfl⟩ := newB_inv e
                    obtain ⟨arr, el', h1, h2', h3, h4⟩ := H.obj b _ hb
                    have hroom2 := hwu rfl
                    have hnl : new.length = n * i.size := by have := hsr.newsLen; simpa using this
                    have hfit : (φ b).base + off + len * i.size + new.length ≤ arr.size := by
                      rw [hnl, hoff]
                      have e1 : (φ b).base + cap * i.size + len * i.size + n * i.size = (φ b).base + (cap + len + n) * i.size := by rw [Nat.add_mul, Nat.add_mul]; omega
                      rw [e1]
                      have : (cap + len + n) * i.size ≤ (φ b).cap * i.size := Nat.mul_le_mul_right _ (by omega)
                      rw [← hst] at h3
                      omega
                    have hrun := run_storeCells_at P (φ b).blk ((φ b).base + off + len * i.size) el' (new.map (concC φ)) 0 arr w h1 (by simpa using hfit) (one_map φ new)
                    simp only [Nat.add_zero, List.length_map] at hrun
                    generalize hA : (arr.toList.take ((φ b).base + off + len * i.size) ++ new.map (concC φ) ++ arr.toList.drop ((φ b).base + off + len * i.size + new.length)).toArray = arr' at hrun
                    have hsz : arr'.size = arr.size := by rw [← hA]; simp; omega
                    refine ⟨upd φ h.n ⟨(φ b).blk, (φ b).base + off, (φ b).cap - cap⟩, w.setRow (φ b).blk arr', .inl (run_val ?_), upd_ext _ _ _,
                      H.move hb trivial (fun k hk => setRow_other w _ k _ hk) (by simp) rfl rfl rfl _ rfl ⟨arr', el', ?_, fun j c hj => ?_, ?_, fun c hc' => ?_⟩, ?_, ?_⟩
                    · rw [concA_slc]
                      have e1 : (⟨(φ b).blk, (φ b).base + off + len * i.size, none⟩ : Addr) = (adr φ b off).add (len * i.size) := (Addr.add_mid _ _ _).symm
                      rw [e1] at hrun
                      have := run_append_in (rt := rt) ht hi hsr hroom hrun
                      rw [cond_false, this]
                      simp [adr, upd_same, put_n]
                    · rw [upd_same]; exact setRow_heap w (φ b).blk arr _ el' _ h1
                    · rw [upd_same]
                      show arr'[(φ b).base + off + j]? = _
                      have hwc : wfC φ h.n.toNat c := by
                        rcases List.mem_append.1 (List.mem_of_getElem? hj) with hc' | hc'
                        · exact ho2 c hc'
                        · exact hwn c hc'
                      rw [conc_extC (upd_ext φ h.n _) hwc, ← hA, List.getElem?_toArray]
                      have hol : old.length = len * i.size := ho3
                      by_cases hjl : j < old.length
                      · rw [List.getElem?_append_left hjl] at hj
                        obtain ⟨_, hg⟩ := cut_get hold
                        have hcell := h2' (off + j) c (hg j c hj)
                        have hlt := (Array.getElem?_eq_some_iff.1 hcell).1
                        rw [List.append_assoc, List.getElem?_append_left (by simp; omega), List.getElem?_take, if_pos (by omega)]
                        rw [← Nat.add_assoc] at hcell
                        simpa using hcell
                      · rw [List.getElem?_append_right (by omega)] at hj
                        have e0 : (arr.toList.take ((φ b).base + off + len * i.size)).length = (φ b).base + off + len * i.size := by simp; omega
                        have hjn := (List.getElem?_eq_some_iff.1 hj).1
                        rw [List.append_assoc, List.getElem?_append_right (by rw [e0]; omega), e0, List.getElem?_append_left (by simp; omega), List.getElem?_map]
                        have e1 : (φ b).base + off + j - ((φ b).base + off + len * i.size) = j - old.length := by omega
                        rw [e1, hj]
                        rfl
                    · rw [upd_same, hsz]
                      show (φ b).base + off + ((φ b).cap - cap) * i.size ≤ arr.size
                      rw [hoff, Nat.sub_mul]
                      rw [← hst] at h3
                      have : cap * i.size ≤ (φ b).cap * i.size := Nat.mul_le_mul_right _ (by omega)
                      omega
                    · refine wfC_ext (upd_ext φ h.n _) (Nat.le_succ _) ?_
                      rcases List.mem_append.1 hc' with hc' | hc'
                      · exact ho2 c hc'
                      · exact hwn c hc'
                    · refine ⟨?_, fun _ => ?_, fun hh => by cases hh⟩
                      · rw [size_new]; show h.n.toNat < h.n.toNat + 1; omega
                      · show 0 + (len + n) ≤ (upd φ h.n _ h.n).cap
                        rw [upd_same]; show 0 + (len + n) ≤ (φ b).cap - cap; omega
                    · rw [size_new]; show h.n.toNat ≤ h.n.toNat + 1; omega
                  · have Hd : HRel w0 S φ (h.put b .dead) w.drew := H.drew.put hb trivial (fun k _ => rfl) rfl rfl rfl rfl trivial
                    exact grown_sound H ht hi hz hzl ho3 (hold' _) ho2 hsr hwn (by show (φ b).cap - cap < len + n; omega) hf Hd rfl e
            · cases e
          · rename_i x f hb
            split at e
            · rename_i old hold
              obtain ⟨ho1, ho2, ho3⟩ := cutF_cells H hb hold
              have hold' : ∀ c, (Builtin.firstCells i.size len (.slice (some (adr φ b off)) len c)).run P w.drew = .ok (old.map (concC φ)).toArray w.drew :=
                fun c => run_firstCells_some (P := P) w.drew i.size len (adr φ b off) len c (old.map (concC φ)) (by rw [List.length_map, ho3]; rfl) (by simpa using ho1)
              cases ex with
              | true =>
                simp only [cond_true] at e
                cases hr : Nat.ble (Nat.add len n) cap with
                | true => rw [hr] at e; cases e
                | false =>
                  rw [hr] at e
                  simp only [cond_false] at e
                  have hg : cap < len + n := by
                    rcases Nat.lt_or_ge cap (len + n) with hh | hh
                    · exact hh
                    · have := Nat.ble_eq_true_of_le hh
                      have e9 : Nat.ble (Nat.add len n) cap = true := this
                      rw [hr] at e9; cases e9
                  exact grown_sound H ht hi hz hzl ho3 (hold' cap) ho2 hsr hwn hg hf H.drew rfl e
              | false => cases e
            · cases e
          · cases e
    · cases e

theorem s_clear (H : HRel w0 S φ h w) {ty rt el : TypeId} {i : TypeInfo} {z : SVal} (ht : P.underlying ty = some (.slice el)) (hi : P.info? el = some i) (hz : zeroT P el = some z) (hzl : z.cells.length = i.size) (hpos : i.size ≠ 0)
    {x : Opd} {vx : Value} (hx : vx = concA φ (x t)) {ats : Array TypeId} {args : Array Value} (ha : ats[0]? = some ty) (hb : args[0]? = some vx) (e : opClear i.size z.cells x call t h = some (v, h2)) :
    Done w0 S φ h v h2 ((do pure (Next.value (← Builtin.clear_ ats rt args)) : Sem Next).run P w) := by
  unfold opClear at e
  split at e
  · rename_i hxe
    cases e
    refine Done.same H ?_ (run_val ?_)
    · intro _ hv; cases hv
    · rw [hxe, concA_nils] at hx
      simp [Builtin.clear_, ha, hb, run_underlying ht, hx]; rfl
  · rename_i b off len cap ex hxe
    rw [hxe, concA_slc] at hx
    cases hl : Nat.beq len 0 with
    | true =>
      rw [hl] at e
      cases e
      obtain rfl := beq_true hl
      refine Done.same H ?_ (run_val ?_)
      · intro _ hv; cases hv
      · simp [Builtin.clear_, ha, hb, run_underlying ht, hx]; rfl
    | false =>
      rw [hl] at e
      simp only [cond_false] at e
      have hl0 := beq_false hl
      unfold clearAt at e
      split at e
      · rename_i cs st' hbb
        cases hz9 : Nat.beq z.cells.length i.size with
        | false => rw [hz9] at e; cases e
        | true =>
          rw [hz9] at e
          simp only [cond_true] at e
          cases hpa : putAt (repl z.cells len) cs off with
          | none => rw [hpa] at e; cases e
          | some cs' =>
            rw [hpa] at e
            cases e
            obtain ⟨it, zv, hit, hzv, hcz, hwz⟩ := zeroT_inv (φ := φ) hz
            obtain rfl : it = i := Option.some.inj (hit.symm.trans hi)
            obtain ⟨w', hrun, H'⟩ := put_cells (P := P) H hbb (wf_repl (fun c hc => wfC_mono (Nat.zero_le _) (hwz c hc)) len) hpa
            refine ⟨φ, w', .inl (run_val ?_), Ext.refl _ _, H', (fun _ hv => by cases hv), Nat.le_refl _⟩
            have hm := madeCells_repl (φ := φ) z.cells len (by omega)
            have hzc : (Builtin.zeroCells zv.cells len).toList = (repl z.cells len).map (concC φ) := by
              unfold Builtin.zeroCells
              rw [← hcz, concS_cells]
              have e1 : len * ((z.cells.map (concC φ)).toArray).size = len * z.cells.length := by simp
              rw [e1, hm]
            obtain ⟨m, rfl⟩ : ∃ m, len = m + 1 := ⟨len - 1, by omega⟩
            have hzr : (zeroValue el).run P w = .ok zv w := by simp [zeroValue, typeInfo, hi, hzv]
            simp [Builtin.clear_, ha, hb, run_underlying ht, hx, hzr, hzc, hrun]
            rfl
      · cases e
  · cases e

end
end Go.CE
