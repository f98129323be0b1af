/-
  The concrete evaluator: each operation, evaluated, is what the model's operation does (operations that read, compute or make memory). No condition.
-/
import Derived.Test.YtpoejpijhnankaaGreatCEe
namespace Go.CE
open Go.RowKit

/-- What an operation that was evaluated to 'v' and the heap 'h2' has done: its value (or nothing), in a world that 'h2' describes. -/
def Done (w0 : World) (S : Nat → Prop) (φ : Phi) (h : AHeap) (v : AVal) (h2 : AHeap) (r : Result Next) : Prop :=
  ∃ φ2 w2, (r = .ok (.value (concA φ2 v)) w2 ∨ (r = .ok .skip w2 ∧ v = aundef)) ∧ Ext h.n.toNat φ φ2 ∧ HRel w0 S φ2 h2 w2 ∧ wfA φ2 h2.n.toNat v ∧ h.n.toNat ≤ h2.n.toNat

section
variable {P : Program} {w0 : World} {S : Nat → Prop} {φ : Phi} {h h2 : AHeap} {w w2 : World} {nt : Nat} {t : Tr AVal} {a : Act} {v : AVal} {call : Caller}

theorem concA_s (φ : Phi) (u : SVal) : concA φ (.s u) = concS φ u := rfl
theorem concS_one (φ : Phi) (c : CVal) : concS φ (.one c) = concC φ c := rfl
theorem concC_ptr (φ : Phi) (b : BN) (off : Nat) : concC φ (.ptr b off) = .pointer (some (adr φ b off)) := rfl
theorem concA_ptr (φ : Phi) (b : BN) (off : Nat) : concA φ (.s (.one (.ptr b off))) = .pointer (some (adr φ b off)) := rfl
theorem concA_int (φ : Phi) (k : IntKind) (n : Int) : concA φ (.s (.one (.int k n))) = .int k n := rfl
theorem concA_bool (φ : Phi) (q : Bool) : concA φ (.s (.one (.bool q))) = .bool q := rfl
theorem concA_str (φ : Phi) (s : ByteArray) : concA φ (.s (.one (.str s))) = .string s := rfl
theorem concA_agg (φ : Phi) (cs : List CVal) : concA φ (.s (.agg cs)) = .agg (cs.map (concC φ)).toArray := rfl
theorem concA_tup (φ : Phi) (vs : List SVal) : concA φ (.tup vs) = .tuple (vs.map (concS φ)).toArray := rfl
theorem concA_slc (φ : Phi) (b : BN) (off len cap : Nat) (ex : Bool) : concA φ (.s (.one (.slc b off len cap ex))) = .slice (some (adr φ b off)) len (bif ex then cap else (φ b).cap - cap) := rfl
theorem concA_nils (φ : Phi) : concA φ (.s (.one .nils)) = .slice none 0 0 := rfl

theorem run_val {s : Sem Value} {x : Value} {w' : World} (hs : s.run P w = .ok x w') : ((do pure (Next.value (← s))) : Sem Next).run P w = .ok (.value x) w' := by
  simp [Sem.run_bind, hs]
theorem run_skip {s : Sem Unit} {w' : World} (hs : s.run P w = .ok () w') : ((do s; pure Next.skip) : Sem Next).run P w = .ok .skip w' := by
  simp [Sem.run_bind, hs]

/-- Nothing but a value. -/
theorem Done.same (H : HRel w0 S φ h w) (hv : wfA φ h.n.toNat v) {r : Result Next} (hr : r = .ok (.value (concA φ v)) w) : Done w0 S φ h v h r :=
  ⟨φ, w, .inl hr, Ext.refl _ _, H, hv, Nat.le_refl _⟩

theorem s_mv (H : HRel w0 S φ h w) {x : Opd} {y : Value} (hy : y = concA φ (x t) ∧ wfA φ h.n.toNat (x t)) (e : opMv x call t h = some (v, h2)) :
    Done w0 S φ h v h2 (.ok (.value y) w) := by
  cases e
  exact Done.same H hy.2 (by rw [hy.1])

theorem s_pick (H : HRel w0 S φ h w) {c x y : Opd} {vc vx vy : Value} (hc : vc = concA φ (c t)) (hx : vx = concA φ (x t) ∧ wfA φ h.n.toNat (x t)) (hy : vy = concA φ (y t) ∧ wfA φ h.n.toNat (y t))
    (e : opPick c x y call t h = some (v, h2)) : Done w0 S φ h v h2 ((do pure (Next.value (if ← asBool vc then vx else vy)) : Sem Next).run P w) := by
  unfold opPick at e
  split at e
  · rename_i q hq
    cases e
    rw [hc, hq]
    cases q
    · exact Done.same H hy.2 (by simp [concA, concS, concC, asBool, hy.1])
    · exact Done.same H hx.2 (by simp [concA, concS, concC, asBool, hx.1])
  · cases e

/-- A new block of plain cells. -/
theorem new_cells (H : HRel w0 S φ h w) (cs : List CVal) (st : Nat) (hcs : ∀ c ∈ cs, wfC φ h.n.toNat c) (e : TypeId) (cells : Array Value) (cap : Nat)
    (hc : ∀ (i : Nat) (c : CVal), cs[i]? = some c → cells[i]? = some (concC φ c)) (hcap : cap * st ≤ cells.size) :
    HRel w0 S (upd φ h.n ⟨w.heap.size, 0, cap⟩) (h.new (.cells cs st)) (w.alloc (.cells cells e)) := by
  refine H.new _ _ ⟨w.heap.size, 0, cap⟩ rfl ?_
  refine ⟨cells, e, ?_, fun i c hi => ?_, ?_, fun c hc => wfC_ext (upd_ext φ h.n _) (Nat.le_succ _) (hcs c hc)⟩
  · rw [upd_same]; exact heap_alloc_new w _
  · rw [upd_same, conc_extC (upd_ext φ h.n _) (hcs c (List.mem_of_getElem? hi))]
    simpa using hc i c hi
  · rw [upd_same]; simpa using hcap

theorem newB_inv {o : AObj} {g : BN → CVal} (e : newB h o g = some (v, h2)) : v = .s (.one (g h.n)) ∧ h2 = h.new o := by
  unfold newB at e
  cases h
  cases e
  exact ⟨rfl, rfl⟩

theorem size_new (h : AHeap) (o : AObj) : (h.new o).n.toNat = h.n.toNat + 1 := by simp [AHeap.new, BN.toNat_succ]

/-- A new variable: its address. -/
theorem s_new (H : HRel w0 S φ h w) (cs : List CVal) (hcs : ∀ c ∈ cs, wfC φ h.n.toNat c) (ty : TypeId) {s : Sem Value}
    (hs : s.run P w = .ok (.pointer (some ⟨w.heap.size, 0, none⟩)) (w.alloc (.cells (cs.map (concC φ)).toArray ty)))
    (e : newB h (.cells cs 0) (fun b => .ptr b 0) = some (v, h2)) : Done w0 S φ h v h2 ((do pure (Next.value (← s)) : Sem Next).run P w) := by
  obtain ⟨rfl, rfl⟩ := newB_inv e
  refine ⟨upd φ h.n ⟨w.heap.size, 0, 0⟩, _, .inl (run_val ?_), upd_ext _ _ _, new_cells H cs 0 hcs ty (cs.map (concC φ)).toArray 0 (fun i c hi => by rw [List.getElem?_toArray, List.getElem?_map, hi]; rfl) (by simp), ?_, by rw [size_new]; omega⟩
  · rw [hs]
    simp [concA, concS, concC, adr, upd_same]
  · show h.n.toNat < _
    rw [size_new]; omega

theorem s_alloc (H : HRel w0 S φ h w) {ty : TypeId} {z : SVal} (hz : zeroT P ty = some z) (e : opAlloc z.cells call t h = some (v, h2)) :
    Done w0 S φ h v h2 ((do pure (Next.value (← Instr.alloc ty true (.tuple #[]))) : Sem Next).run P w) := by
  unfold zeroT at hz
  split at hz
  · rename_i i hi
    split at hz
    · rename_i zv hzv
      have hc := cVal_conc φ hz
      refine s_new H z.cells (fun c hc' => wfC_mono (Nat.zero_le _) (wfS_cells hc.2 c hc')) ty ?_ e
      have hz' : (zeroValue ty).run P w = .ok zv w := by simp [zeroValue, typeInfo, hi, hzv]
      simp only [Instr.alloc, Sem.run_bind, hz', Result.andThen_ok, newVar, newRow]
      rw [← hc.1, concS_cells]
      simp
    · cases hz
  · cases hz

theorem s_box (H : HRel w0 S φ h w) {ty : TypeId} {x : Opd} {y : Value} (hy : y = concA φ (x t) ∧ wfA φ h.n.toNat (x t)) (e : opBox x call t h = some (v, h2)) :
    Done w0 S φ h v h2 ((do pure (Next.value (← Instr.box ty y)) : Sem Next).run P w) := by
  unfold opBox at e
  split at e
  · rename_i u hu
    rw [hu] at hy
    refine s_new H u.cells (wfS_cells hy.2) ty ?_ e
    simp only [Instr.box, newVar, newRow, hy.1, concA]
    rw [concS_cells]
    simp
  · cases e

/-! ### Loads -/

theorem H_cells (H : HRel w0 S φ h w) {b : BN} {cs : List CVal} {st : Nat} (hb : h.t.get b = some (.cells cs st)) {i : Nat} {c : CVal} (hi : cs[i]? = some c) :
    w.cell? (adr φ b i) = some (concC φ c) := by
  obtain ⟨arr, e, h1, h2', _⟩ := H.obj b _ hb
  simp [World.cell?, adr, h1, h2' i c hi]

theorem H_wf (H : HRel w0 S φ h w) {b : BN} {cs : List CVal} {st : Nat} (hb : h.t.get b = some (.cells cs st)) : ∀ c ∈ cs, wfC φ h.n.toNat c := by
  obtain ⟨arr, e, _, _, _, h4⟩ := H.obj b _ hb
  exact h4

theorem H_ro (H : HRel w0 S φ h w) {b : BN} {x : Obj} {f : Nat → Option CVal} (hb : h.t.get b = some (.ro x f)) {i : Nat} {c : CVal} (hi : f i = some c) :
    w.cell? (adr φ b i) = some (concC φ c) ∧ wfC φ h.n.toNat c := by
  obtain ⟨h1, arr, e, fr, rfl, h2'⟩ := H.obj b _ hb
  obtain ⟨k1, k2⟩ := h2' i c hi
  exact ⟨by simp [World.cell?, adr, h1, k1], k2⟩

theorem cutF_get {f : Nat → Option CVal} : ∀ {n i : Nat} {l : List CVal}, cutF f n i = some l → l.length = n ∧ ∀ j c, l[j]? = some c → f (i + j) = some c
  | 0, i, l, e => by cases e; exact ⟨rfl, fun j c hj => by simp at hj⟩
  | n + 1, i, l, e => by
    unfold cutF at e
    split at e
    · rename_i c hc
      cases hr : cutF f n (Nat.succ i) with
      | none => rw [hr] at e; cases e
      | some l' =>
        rw [hr] at e
        cases e
        obtain ⟨h1, h2⟩ := cutF_get hr
        refine ⟨by simp [h1], fun j d hj => ?_⟩
        cases j with
        | zero => simp only [List.getElem?_cons_zero, Option.some.injEq] at hj; rw [← hj]; exact hc
        | succ j => rw [List.getElem?_cons_succ] at hj; have := h2 j d hj; rwa [show i + (j + 1) = Nat.succ i + j by omega]
    · cases e

theorem sizeT_inv {ty : TypeId} {n : Option Nat} (hs : sizeT P ty = some n) : ∃ i d, P.info? ty = some i ∧ P.underlying ty = some d ∧
    ((n = none ∧ d.isRow = false) ∨ (n = some i.size ∧ d.isRow = true)) := by
  unfold sizeT isAggT at hs
  cases hu : P.underlying ty with
  | none => rw [hu] at hs; cases hs
  | some d =>
    cases hi : P.info? ty with
    | none => rw [hu, hi] at hs; cases d <;> cases hs
    | some i =>
      rw [hu, hi] at hs
      refine ⟨i, d, rfl, rfl, ?_⟩
      cases d <;> cases hs <;> first | exact .inl ⟨rfl, rfl⟩ | exact .inr ⟨rfl, rfl⟩

/-- Cells that lie in a block, read as a variable. -/
theorem load_part (H : HRel w0 S φ h w) {ty : TypeId} {n : Option Nat} (hs : sizeT P ty = some n) {b : BN} {off : Nat} {cs : List CVal} {st : Nat} (hb : h.t.get b = some (.cells cs st))
    (e : part n cs off h = some (v, h2)) : (loadVar ty (adr φ b off)).run P w = .ok (concA φ v) w ∧ wfA φ h.n.toNat v ∧ h2 = h := by
  obtain ⟨i, d, hi, hu, hn | hn⟩ := sizeT_inv hs
  · obtain ⟨rfl, hd⟩ := hn
    simp only [part, retC, getAt_eq] at e
    cases hc : cs[off]? with
    | none => rw [hc] at e; cases e
    | some c =>
      rw [hc] at e
      cases e
      refine ⟨?_, H_wf H hb c (List.mem_of_getElem? hc), rfl⟩
      have hagg : (isAgg ty).run P w = .ok false w := by
        unfold isAgg
        rw [Sem.run_bind, run_underlying hu w]
        cases d <;> first | (simp [TypeDesc.isRow] at hd; done) | simp
      simp only [loadVar, Sem.run_bind, hagg, Result.andThen_ok, Bool.false_eq_true, if_false]
      simp [load, Sem.run, H_cells H hb hc, concA, concS]
  · obtain ⟨rfl, hd⟩ := hn
    simp only [part, retA] at e
    cases hc : cut i.size cs off with
    | none => rw [hc] at e; cases e
    | some l =>
      rw [hc] at e
      cases e
      obtain ⟨hl, hg⟩ := cut_get hc
      refine ⟨?_, fun c hc' => ?_, rfl⟩
      · have := run_loadVar_mid (P := P) w (φ b).blk ((φ b).base + off) ty (l.map (concC φ)) d ?_ hu hd (by simp [hi, hl])
        · simpa [adr, concA, concS] using this
        · intro j x hx
          rw [List.getElem?_map] at hx
          cases hj : l[j]? with
          | none => rw [hj] at hx; cases hx
          | some c =>
            rw [hj] at hx
            cases hx
            have := H_cells H hb (hg j c hj)
            simpa [adr, Nat.add_assoc] using this
      · obtain ⟨j, hj⟩ := List.mem_iff_getElem?.1 hc'
        exact H_wf H hb c (List.mem_of_getElem? (hg j c hj))

theorem load_partF (H : HRel w0 S φ h w) {ty : TypeId} {n : Option Nat} (hs : sizeT P ty = some n) {b : BN} {off : Nat} {x : Obj} {f : Nat → Option CVal} (hb : h.t.get b = some (.ro x f))
    (e : partF n f off h = some (v, h2)) : (loadVar ty (adr φ b off)).run P w = .ok (concA φ v) w ∧ wfA φ h.n.toNat v ∧ h2 = h := by
  obtain ⟨i, d, hi, hu, hn | hn⟩ := sizeT_inv hs
  · obtain ⟨rfl, hd⟩ := hn
    simp only [partF, retC] at e
    cases hc : f off with
    | none => rw [hc] at e; cases e
    | some c =>
      rw [hc] at e
      cases e
      refine ⟨?_, (H_ro H hb hc).2, rfl⟩
      have hagg : (isAgg ty).run P w = .ok false w := by
        unfold isAgg
        rw [Sem.run_bind, run_underlying hu w]
        cases d <;> first | (simp [TypeDesc.isRow] at hd; done) | simp
      simp only [loadVar, Sem.run_bind, hagg, Result.andThen_ok, Bool.false_eq_true, if_false]
      simp [load, Sem.run, (H_ro H hb hc).1, concA, concS]
  · obtain ⟨rfl, hd⟩ := hn
    simp only [partF, retA] at e
    cases hc : cutF f i.size off with
    | none => rw [hc] at e; cases e
    | some l =>
      rw [hc] at e
      cases e
      obtain ⟨hl, hg⟩ := cutF_get hc
      refine ⟨?_, fun c hc' => ?_, rfl⟩
      · have := run_loadVar_mid (P := P) w (φ b).blk ((φ b).base + off) ty (l.map (concC φ)) d ?_ hu hd (by simp [hi, hl])
        · simpa [adr, concA, concS] using this
        · intro j x hx
          rw [List.getElem?_map] at hx
          cases hj : l[j]? with
          | none => rw [hj] at hx; cases hx
          | some c =>
            rw [hj] at hx
            cases hx
            have := (H_ro H hb (hg j c hj)).1
            simpa [adr, Nat.add_assoc] using this
      · obtain ⟨j, hj⟩ := List.mem_iff_getElem?.1 hc'
        exact (H_ro H hb (hg j c hj)).2

theorem s_load (H : HRel w0 S φ h w) {ty : TypeId} {n : Option Nat} (hs : sizeT P ty = some n) {x : Opd} {y : Value} (hy : y = concA φ (x t)) (e : opLoad n x call t h = some (v, h2)) :
    Done w0 S φ h v h2 ((do pure (Next.value (← Instr.loadAt ty y)) : Sem Next).run P w) := by
  unfold opLoad at e
  split at e
  · rename_i b off hx
    unfold loadAt at e
    split at e
    · rename_i cs st hb
      obtain ⟨h1, h3, rfl⟩ := load_part H hs hb e
      refine Done.same H h3 (run_val ?_)
      rw [hy, hx]
      simp only [Instr.loadAt, concA, concS, concC, Instr.sureAddr, Sem.run_bind, Sem.run_pure, Result.andThen_ok]
      exact h1
    · rename_i x f hb
      obtain ⟨h1, h3, rfl⟩ := load_partF H hs hb e
      refine Done.same H h3 (run_val ?_)
      rw [hy, hx]
      simp only [Instr.loadAt, concA, concS, concC, Instr.sureAddr, Sem.run_bind, Sem.run_pure, Result.andThen_ok]
      exact h1
    · cases e
  · cases e

/-! ### Stores -/

theorem setRow_heapOther (w : World) (g k : Nat) (c : Array Value) (h : k ≠ g) : (w.setRow g c).heap[k]? = w.heap[k]? := setRow_other w g k c h

/-- Cells of a described block written over. -/
theorem put_cells (H : HRel w0 S φ h w) {b : BN} {off : Nat} {cs vs cs' : List CVal} {st : Nat} (hb : h.t.get b = some (.cells cs st)) (hvs : ∀ c ∈ vs, wfC φ h.n.toNat c) (e : putAt vs cs off = some cs') :
    ∃ w', (storeCells (adr φ b off) (vs.map (concC φ))).run P w = .ok () w' ∧ HRel w0 S φ (h.put b (.cells cs' st)) w' := by
  obtain ⟨arr, el, h1, h2', h3, h4⟩ := H.obj b _ hb
  obtain ⟨he, hle⟩ := putAt_eq vs cs off cs' e
  have hfit : (φ b).base + off + vs.length ≤ arr.size := by
    rcases Nat.eq_zero_or_pos (off + vs.length) with h0 | h0
    · have : off = 0 ∧ vs.length = 0 := by omega
      obtain ⟨e1, e2⟩ := this
      rw [e1, e2]
      have : (φ b).base ≤ arr.size := by omega
      omega
    · have hlt : off + vs.length - 1 < cs.length := by omega
      have := h2' (off + vs.length - 1) cs[off + vs.length - 1] (List.getElem?_eq_getElem hlt)
      have := (Array.getElem?_eq_some_iff.1 this).1
      omega
  have hrun := run_storeCells_at P (φ b).blk ((φ b).base + off) el (vs.map (concC φ)) 0 arr w h1 (by simpa using hfit) (fun x hx => by
    obtain ⟨c, _, rfl⟩ := List.mem_map.1 hx
    exact concC_one φ c)
  simp only [Nat.add_zero, List.length_map] at hrun
  refine ⟨_, hrun, H.put hb trivial (fun k hk => setRow_other w _ k _ hk) (by simp) rfl rfl rfl ?_⟩
  refine ⟨_, el, setRow_heap w (φ b).blk arr _ el _ h1, fun i c hi => ?_, ?_, fun c hc => ?_⟩
  · rw [he] at hi
    rw [List.getElem?_toArray]
    by_cases c1 : i < off
    · have hi' : cs[i]? = some c := by
        rw [List.append_assoc, List.getElem?_append_left (by simp; omega), List.getElem?_take] at hi
        rwa [if_pos c1] at hi
      have := h2' i c hi'
      rw [List.append_assoc, List.getElem?_append_left (by
        have := (Array.getElem?_eq_some_iff.1 this).1
        simp; omega), List.getElem?_take, if_pos (by omega)]
      simpa using this
    · by_cases c2 : i < off + vs.length
      · have hi' : vs[i - off]? = some c := by
          rw [List.append_assoc, List.getElem?_append_right (by simp; omega)] at hi
          have e0 : (cs.take off).length = off := by simp; omega
          rw [e0, List.getElem?_append_left (by omega)] at hi
          exact hi
        have e0 : (arr.toList.take ((φ b).base + off)).length = (φ b).base + off := by simp; omega
        rw [List.append_assoc, List.getElem?_append_right (by rw [e0]; omega), e0, List.getElem?_append_left (by simp; omega), List.getElem?_map]
        have : (φ b).base + i - ((φ b).base + off) = i - off := by omega
        rw [this, hi']
        rfl
      · have hi' : cs[i]? = some c := by
          have e0 : (cs.take off ++ vs).length = off + vs.length := by simp; omega
          rw [List.getElem?_append_right (by rw [e0]; omega), e0, List.getElem?_drop] at hi
          have : off + vs.length + (i - (off + vs.length)) = i := by omega
          rwa [this] at hi
        have := h2' i c hi'
        have e0 : (arr.toList.take ((φ b).base + off) ++ vs.map (concC φ)).length = (φ b).base + off + vs.length := by simp; omega
        rw [List.getElem?_append_right (by rw [e0]; omega), e0, List.getElem?_drop]
        have e1 : (φ b).base + off + vs.length + ((φ b).base + i - ((φ b).base + off + vs.length)) = (φ b).base + i := by omega
        rw [e1]
        simpa using this
  · have : (arr.toList.take ((φ b).base + off) ++ vs.map (concC φ) ++ arr.toList.drop ((φ b).base + off + vs.length)).toArray.size = arr.size := by simp; omega
    rw [this]; exact h3
  · rw [he] at hc
    simp only [List.mem_append] at hc
    rcases hc with (hc | hc) | hc
    · exact h4 c (List.mem_of_mem_take hc)
    · exact hvs c hc
    · exact h4 c (List.mem_of_mem_drop hc)

theorem put_n (h : AHeap) (b : BN) (o : AObj) : (h.put b o).n = h.n := rfl

theorem s_store (H : HRel w0 S φ h w) {ty : TypeId} {i : TypeInfo} (hi : P.info? ty = some i) {x y : Opd} {vx vy : Value} (hx : vx = concA φ (x t)) (hy : vy = concA φ (y t) ∧ wfA φ h.n.toNat (y t))
    (e : opStore i.size x y call t h = some (v, h2)) : Done w0 S φ h v h2 ((do Instr.storeAt ty vx vy; pure Next.skip : Sem Next).run P w) := by
  unfold opStore at e
  split at e
  · rename_i b off hxe
    split at e
    · rename_i u hu
      rw [hu] at hy
      unfold storeAt at e
      split at e
      · rename_i cs st hb
        cases hl : lenIs u.cells i.size with
        | false => rw [hl] at e; cases e
        | true =>
          rw [hl] at e
          simp only [cond_true] at e
          cases hp : putAt u.cells cs off with
          | none => rw [hp] at e; cases e
          | some cs' =>
            rw [hp] at e
            cases e
            obtain ⟨w', hrun, H'⟩ := put_cells (P := P) H hb (wfS_cells hy.2) hp
            refine ⟨φ, w', .inr ⟨run_skip ?_, rfl⟩, Ext.refl _ _, H', (fun _ hv => by cases hv), Nat.le_refl _⟩
            rw [hx, hxe, hy.1, concA_ptr, concA_s]
            have hlen := lenIs_eq _ _ hl
            simp [Instr.storeAt, Instr.sureAddr, storeVar, sizeOf, typeInfo, hi, concS_cells, hlen, hrun]
      · cases e
    · cases e
  · cases e

end
end Go.CE
