/-
  The concrete evaluator: each operation, evaluated, is what the model's operation does (make, slice expressions, len, min, max, tuples, nil). No condition.
-/
import Derived.Test.YtpoejpijhnankaaGreatCEi
namespace Go.CE
open Go.RowKit

section
variable {P : Program} {w0 : World} {S : Nat → Prop} {φ : Phi} {h h2 : AHeap} {w w2 : World} {nt : Nat} {t : Tr AVal} {a : Act} {v : AVal} {call : Caller}

theorem s_mkslice (H : HRel w0 S φ h w) {ty el : TypeId} (hu : P.underlying ty = some (.slice el)) {i : TypeInfo} (hi : P.info? el = some i) {z : SVal} (hz : zeroT P el = some z)
    (hlen : z.cells.length = i.size) (hpos : i.size ≠ 0) {l c : Opd} {vl vc : Value} (hl : vl = concA φ (l t)) (hc : vc = concA φ (c t)) (e : opMkslice i.size z.cells i.bytes l c call t h = some (v, h2)) :
    Done w0 S φ h v h2 ((do pure (Next.value (← Instr.makeSlice ty vl vc)) : Sem Next).run P w) := by
  unfold opMkslice at e
  split at e
  · rename_i m n hm hn
    obtain ⟨kl, hl'⟩ := asI_inv hm
    obtain ⟨kc, hc'⟩ := asI_inv hn
    cases hb : (Nat.ble m n && Nat.ble n 1073741824 && Nat.ble (i.bytes * n) 281474976710656) with
    | false => rw [hb] at e; cases e
    | true =>
      rw [hb] at e
      simp only [Bool.and_eq_true] at hb
      obtain ⟨⟨h1, h2'⟩, h3⟩ := hb
      have h1 := ble_true h1
      have h2' := ble_true h2'
      have h3 := ble_true h3
      obtain ⟨it, zv, hit, hzv, hcz, hwz⟩ := zeroT_inv (φ := φ) hz
      obtain rfl : it = i := Option.some.inj (hit.symm.trans hi)
      refine s_row H (repl z.cells n) it.size m n h1 (wf_repl (fun c hc => wfC_mono (Nat.zero_le _) (hwz c hc)) n) el ?_ e
      have hmul : (it.bytes : Int) * (Int.ofNat n) ≤ 281474976710656 := by
        show (it.bytes : Int) * (n : Int) ≤ 281474976710656
        rw [← Int.natCast_mul]; omega
      have hr := run_make (P := P) w ty el it zv hu hi hzv kl kc (Int.ofNat m) (Int.ofNat n) (Int.natCast_nonneg m) (by show (m : Int) ≤ (n : Int); omega) hmul (by show (n : Int) ≤ 9223372036854775807; omega)
      rw [hl, hc, hl', hc', concA_int, concA_int, hr]
      have hmc := madeCells_repl (φ := φ) z.cells n (by omega)
      rw [← concS_cells, hcz, hlen] at hmc
      have e1 : (Int.ofNat m).toNat = m := rfl
      have e2 : (Int.ofNat n).toNat = n := rfl
      rw [e1, e2, ← hmc]
      rfl
  · cases e

/-! ### Slice expressions -/

theorem cOpt_inv {x : Option Operand} {x' : Option Opd} (e : cOpt x = some x') : (x = none ∧ x' = none) ∨ ∃ xo f, x = some xo ∧ x' = some f ∧ cOpd xo = some f := by
  cases x with
  | none => cases e; exact .inl ⟨rfl, rfl⟩
  | some xo =>
    simp only [cOpt] at e
    cases hx : cOpd xo with
    | none => rw [hx] at e; cases e
    | some f => rw [hx] at e; cases e; exact .inr ⟨xo, f, rfl, rfl, hx⟩

/-- A bound, as the model takes it. -/
def Bound (x : Option Value) (d y l : Nat) : Prop := (x = none ∧ l = d) ∨ (∃ k, x = some (.int k (l : Int)) ∧ l ≤ y)

theorem bnd_sound (T : TRel φ nt h.n.toNat t a.tmps) {x : Option Operand} {x' : Option Opd} (hx : cOpt x = some x') {d y l : Nat} (e : bnd t x' d y = some l) : Bound (x.map a.eval) d y l := by
  rcases cOpt_inv hx with ⟨rfl, rfl⟩ | ⟨xo, f, rfl, rfl, hf⟩
  · cases e; exact .inl ⟨rfl, rfl⟩
  · simp only [bnd] at e
    split at e
    · rename_i i hi
      obtain ⟨k, hk⟩ := asI_inv hi
      cases hb : Nat.ble i y with
      | false => rw [hb] at e; cases e
      | true =>
        rw [hb] at e
        cases e
        refine .inr ⟨k, ?_, ble_true hb⟩
        rw [Option.map_some, (opd_conc T hf).1, hk]
        rfl
    · cases e

theorem run_sliceBound (k : IntKind) (n y : Nat) (c : BoundsCode) (hn : n ≤ y) : (Instr.sliceBound (.int k (n : Int)) y c).run P w = .ok n w := by
  simp [Instr.sliceBound, asIntOf]
  intro hh; omega

theorem run_bounds (isSlice : Bool) (len cap : Nat) (lo hi mx : Option Value) (l hh m : Nat) (hm : Bound mx cap cap m) (hh' : Bound hi len m hh) (hl : Bound lo 0 hh l) (hmx : mx.isSome = true → hi.isSome = true) :
    (Instr.sliceBounds isSlice len cap lo hi mx).run P w = .ok (l, hh, m) w := by
  rcases hm with ⟨rfl, rfl⟩ | ⟨k1, rfl, h1⟩ <;> rcases hh' with ⟨rfl, rfl⟩ | ⟨k2, rfl, h2'⟩ <;> rcases hl with ⟨rfl, rfl⟩ | ⟨k3, rfl, h3⟩ <;>
    simp_all [Instr.sliceBounds, run_sliceBound]

theorem s_slice (H : HRel w0 S φ h w) (T : TRel φ nt h.n.toNat t a.tmps) {ty el : TypeId} (hu : P.underlying ty = some (.slice el)) {i : TypeInfo} (hi : P.info? el = some i) {xo : Operand} {x : Opd} (hx : cOpd xo = some x)
    {lo hi' mx : Option Operand} {lo' hi'' mx' : Option Opd} (hlo : cOpt lo = some lo') (hhi : cOpt hi' = some hi'') (hmx : cOpt mx = some mx') (hmh : mx.isSome = true → hi'.isSome = true)
    (e : opSlice i.size x lo' hi'' mx' call t h = some (v, h2)) :
    Done w0 S φ h v h2 ((do pure (Next.value (← Instr.sliceAt ty (a.eval xo) (lo.map a.eval) (hi'.map a.eval) (mx.map a.eval))) : Sem Next).run P w) := by
  have hx' := opd_conc T hx
  have key : ∀ (ba : Option Addr) (len cap l hh m : Nat), a.eval xo = .slice ba len cap → Bound (mx.map a.eval) cap cap m → Bound (hi'.map a.eval) len m hh → Bound (lo.map a.eval) 0 hh l →
      (Instr.sliceAt ty (a.eval xo) (lo.map a.eval) (hi'.map a.eval) (mx.map a.eval)).run P w = .ok (.slice (if m = l then ba else ba.map (·.add (l * i.size))) (hh - l) (m - l)) w := by
    intro ba len cap l hh m hxe h1 h2' h3
    have hb := run_bounds (P := P) (w := w) true len cap _ _ _ l hh m h1 h2' h3 (by simpa using hmh)
    rw [hxe]
    simp [Instr.sliceAt, Sem.run_bind, run_underlying hu, Instr.slice, hb, sizeOf, typeInfo, hi]
  unfold opSlice at e
  split at e
  · rename_i hxe
    rw [hxe] at hx'
    unfold sliceNil at e
    split at e
    · rename_i m hh l hm hhh hl
      cases e
      have b1 := bnd_sound T hmx hm
      have b2 := bnd_sound T hhi hhh
      have b3 := bnd_sound T hlo hl
      have z1 : m = 0 := by rcases b1 with ⟨_, hz⟩ | ⟨_, _, hz⟩ <;> omega
      have z2 : hh = 0 := by rcases b2 with ⟨_, hz⟩ | ⟨_, _, hz⟩ <;> omega
      have z3 : l = 0 := by rcases b3 with ⟨_, hz⟩ | ⟨_, _, hz⟩ <;> omega
      subst z1; subst z2; subst z3
      refine Done.same H ?_ (run_val ?_)
      · exact trivial
      · rw [key none 0 0 0 0 0 hx'.1 b1 b2 b3]; rfl
    · cases e
  · rename_i b off len cap ex hxe
    rw [hxe] at hx'
    have hob : ∀ (m l : Nat), (if m = l then some (adr φ b off) else (some (adr φ b off)).map (·.add (l * i.size))) = some (adr φ b (bif Nat.beq m l then off else off + l * i.size)) := by
      intro m l
      cases hb : Nat.beq m l with
      | true => rw [if_pos (beq_true hb)]; rfl
      | false => rw [if_neg (beq_false hb)]; simp [adr_add]
    cases ex with
    | true =>
      simp only [cond_true] at e
      unfold sliceEx at e
      split at e
      · rename_i m hm
        split at e
        · rename_i hh hhh
          split at e
          · rename_i l hl
            cases hb : Nat.ble hh m with
            | false => rw [hb] at e; cases e
            | true =>
              rw [hb] at e
              cases e
              refine Done.same H ?_ (run_val ?_)
              · have := ble_true hb
                exact ⟨hx'.2.1, (fun hh => by cases hh), fun _ => by omega⟩
              · rw [key _ len cap l hh m hx'.1 (bnd_sound T hmx hm) (bnd_sound T hhi hhh) (bnd_sound T hlo hl), hob, concA_slc]
                rfl
          · cases e
        · cases e
      · cases e
    | false =>
      simp only [cond_false] at e
      have hroom : len ≤ (φ b).cap - cap := by have := hx'.2.2.1 rfl; omega
      have hxs : a.eval xo = .slice (some (adr φ b off)) len ((φ b).cap - cap) := hx'.1
      unfold sliceUn at e
      split at e
      · rename_i f
        split at e
        · rename_i m hm
          split at e
          · rename_i f2
            split at e
            · rename_i hh hhh
              split at e
              · rename_i l hl
                cases e
                have b1 := bnd_sound T hmx hm
                have b2 := bnd_sound T hhi hhh
                have b3 := bnd_sound T hlo hl
                have b1' : Bound (mx.map a.eval) ((φ b).cap - cap) ((φ b).cap - cap) m := by
                  rcases b1 with ⟨hn, _⟩ | ⟨k, hk, hle⟩
                  · rcases cOpt_inv hmx with ⟨_, hc⟩ | ⟨_, _, rfl, _, _⟩
                    · cases hc
                    · cases hn
                  · exact .inr ⟨k, hk, by omega⟩
                have b2' : Bound (hi'.map a.eval) len m hh := by
                  rcases b2 with ⟨hn, _⟩ | hk
                  · rcases cOpt_inv hhi with ⟨_, hc⟩ | ⟨_, _, rfl, _, _⟩
                    · cases hc
                    · cases hn
                  · exact .inr hk
                refine Done.same H ?_ (run_val ?_)
                · have : hh ≤ m := by
                    rcases b2' with ⟨hn, _⟩ | ⟨_, _, hz⟩
                    · rcases cOpt_inv hhi with ⟨_, hc⟩ | ⟨_, _, rfl, _, _⟩
                      · cases hc
                      · cases hn
                    · exact hz
                  exact ⟨hx'.2.1, (fun hh => by cases hh), fun _ => by omega⟩
                · rw [key _ len _ l hh m hxs b1' b2' b3, hob, concA_slc]
                  rfl
              · cases e
            · cases e
          · cases e
        · cases e
      · split at e
        · rename_i hh hhh
          split at e
          · rename_i l hl
            cases hb : (Nat.beq l 0 || !Nat.beq l hh) with
            | false => rw [hb] at e; cases e
            | true =>
              rw [hb] at e
              cases e
              have b2 := bnd_sound T hhi hhh
              have b3 := bnd_sound T hlo hl
              have b1 : Bound (mx.map a.eval) ((φ b).cap - cap) ((φ b).cap - cap) ((φ b).cap - cap) := by
                rcases cOpt_inv hmx with ⟨rfl, _⟩ | ⟨_, _, _, hc, _⟩
                · exact .inl ⟨rfl, rfl⟩
                · cases hc
              have hh1 : hh ≤ len := by rcases b2 with ⟨_, hz⟩ | ⟨_, _, hz⟩ <;> omega
              have hl1 : l ≤ hh := by rcases b3 with ⟨_, hz⟩ | ⟨_, _, hz⟩ <;> omega
              have b2' : Bound (hi'.map a.eval) len ((φ b).cap - cap) hh := by
                rcases b2 with hz | ⟨k, hk, hz⟩
                · exact .inl hz
                · exact .inr ⟨k, hk, by omega⟩
              have hroom2 := hx'.2.2.1 rfl
              refine Done.same H ?_ (run_val ?_)
              · exact ⟨hx'.2.1, (fun _ => by omega), fun hh => by cases hh⟩
              · rw [key _ len _ l hh _ hxs b1 b2' b3, concA_slc]
                have e1 : (if (φ b).cap - cap = l then some (adr φ b off) else (some (adr φ b off)).map (·.add (l * i.size))) = some (adr φ b (off + l * i.size)) := by
                  by_cases hz : l = 0
                  · subst hz; simp [adr_add]
                  · have : ¬ (φ b).cap - cap = l := by
                      simp only [Bool.or_eq_true, Bool.not_eq_true'] at hb
                      rcases hb with hb | hb
                      · exact absurd (beq_true hb) hz
                      · have := beq_false hb; omega
                    rw [if_neg this]; simp [adr_add]
                rw [e1]
                have e2 : (φ b).cap - cap - l = (φ b).cap - (cap + l) := by omega
                rw [e2]
                rfl
          · cases e
        · cases e
  · cases e

theorem s_extract (H : HRel w0 S φ h w) {x : Opd} {y : Value} (hy : y = concA φ (x t) ∧ wfA φ h.n.toNat (x t)) {i : Nat} (e : opExtract x i call t h = some (v, h2)) :
    Done w0 S φ h v h2 ((do pure (Next.value (← Instr.extract y i)) : Sem Next).run P w) := by
  unfold opExtract at e
  split at e
  · rename_i vs hx
    rw [hx] at hy
    rw [nthS_eq] at e
    split at e
    · rename_i u hu
      cases e
      refine Done.same H ?_ (run_val ?_)
      · exact hy.2 u (List.mem_of_getElem? hu)
      · rw [hy.1, concA_tup, concA_s]
        simp [Instr.extract, hu]
    · cases e
  · cases e

theorem s_sslice (H : HRel w0 S φ h w) (T : TRel φ nt h.n.toNat t a.tmps) {ty : TypeId} (hu : P.underlying ty = some .string) {xo : Operand} {x : Opd} (hx : cOpd xo = some x)
    {lo hi' : Option Operand} {lo' hi'' : Option Opd} (hlo : cOpt lo = some lo') (hhi : cOpt hi' = some hi'') (e : opSslice x lo' hi'' call t h = some (v, h2)) :
    Done w0 S φ h v h2 ((do pure (Next.value (← Instr.sliceAt ty (a.eval xo) (lo.map a.eval) (hi'.map a.eval) none)) : Sem Next).run P w) := by
  have hx' := opd_conc T hx
  unfold opSslice at e
  split at e
  · rename_i s hxe
    rw [hxe] at hx'
    split at e
    · rename_i hh hhh
      split at e
      · rename_i l hl
        cases e
        refine Done.same H ?_ (run_val ?_)
        · exact trivial
        · have hb := run_bounds (P := P) (w := w) false s.size s.size _ _ none l hh s.size (.inl ⟨rfl, rfl⟩) (bnd_sound T hhi hhh) (bnd_sound T hlo hl) (by simp)
          rw [hx'.1, concA_str, concA_str]
          simp [Instr.sliceAt, Sem.run_bind, run_underlying hu, Instr.slice, hb]
      · cases e
    · cases e
  · cases e

theorem s_lenS (H : HRel w0 S φ h w) {ty : TypeId} (hu : P.underlying ty = some .string) {x : Opd} {y : Value} (hy : y = concA φ (x t)) {ats : Array TypeId} {args : Array Value} (ha : ats[0]? = some ty) (hb : args[0]? = some y) {rt : TypeId}
    (e : opLenS x call t h = some (v, h2)) : Done w0 S φ h v h2 ((do pure (Next.value (← Builtin.len_ ats rt args)) : Sem Next).run P w) := by
  unfold opLenS at e
  split at e
  · rename_i s hx
    cases e
    refine Done.same H ?_ (run_val ?_)
    · exact trivial
    · rw [concA_int]; simp [Builtin.len_, ha, hb, Sem.run_bind, run_underlying hu, hy, hx, concA_str, goInt]
  · cases e

theorem s_lenL (H : HRel w0 S φ h w) {ty el : TypeId} (hu : P.underlying ty = some (.slice el)) {x : Opd} {y : Value} (hy : y = concA φ (x t)) {ats : Array TypeId} {args : Array Value} (ha : ats[0]? = some ty) (hb : args[0]? = some y) {rt : TypeId}
    (e : opLenL x call t h = some (v, h2)) : Done w0 S φ h v h2 ((do pure (Next.value (← Builtin.len_ ats rt args)) : Sem Next).run P w) := by
  unfold opLenL at e
  split at e
  · rename_i b off len cap ex hx
    cases e
    refine Done.same H ?_ (run_val ?_)
    · exact trivial
    · rw [concA_int]; simp [Builtin.len_, ha, hb, Sem.run_bind, run_underlying hu, hy, hx, concA_slc, goInt]
  · rename_i hx
    cases e
    refine Done.same H ?_ (run_val ?_)
    · exact trivial
    · rw [concA_int]; simp [Builtin.len_, ha, hb, Sem.run_bind, run_underlying hu, hy, hx, concA_nils, goInt]
  · cases e

theorem s_lenM (H : HRel w0 S φ h w) {ty k el : TypeId} (hu : P.underlying ty = some (.map k el)) {x : Opd} {y : Value} (hy : y = concA φ (x t)) {ats : Array TypeId} {args : Array Value} (ha : ats[0]? = some ty) (hb : args[0]? = some y) {rt : TypeId}
    (e : opLenM x call t h = some (v, h2)) : Done w0 S φ h v h2 ((do pure (Next.value (← Builtin.len_ ats rt args)) : Sem Next).run P w) := by
  unfold opLenM at e
  split at e
  · rename_i hx
    cases e
    refine Done.same H ?_ (run_val ?_)
    · exact trivial
    · rw [concA_int]
      have hy' : y = .map none := by rw [hy, hx]; rfl
      simp [Builtin.len_, ha, hb, Sem.run_bind, run_underlying hu, hy', goInt]
  · rename_i b hx
    split at e
    · rename_i es hes
      cases e
      obtain ⟨ents, clock, h1, h2', _⟩ := H.obj b _ hes
      refine Done.same H ?_ (run_val ?_)
      · exact trivial
      · rw [concA_int]
        have hy' : y = .map (some (φ b).blk) := by rw [hy, hx]; rfl
        have hl : ents.size = es.length := by have := congrArg List.length h2'; simpa using this
        simp [Builtin.len_, ha, hb, Sem.run_bind, run_underlying hu, hy', goInt, getObj, Sem.run, h1, hl]
    · cases e
  · cases e

theorem minI_sound (isMax : Bool) (k : IntKind) (T : TRel φ nt h.n.toNat t a.tmps) : ∀ {xs : List Operand} {fs : List Opd}, cOpds xs = some fs → ∀ (x n : Int), minI isMax k t fs x = some n →
    ((xs.map a.eval).foldlM (if isMax then Builtin.max2 else Builtin.min2) (Value.int k x)).run P w = .ok (.int k n) w
  | [], fs, hf, x, n, e => by cases hf; cases e; rfl
  | y :: ys, fs, hf, x, n, e => by
    simp only [cOpds] at hf
    cases h1 : cOpd y with
    | none => rw [h1] at hf; cases hf
    | some f =>
      cases h2 : cOpds ys with
      | none => rw [h1, h2] at hf; cases hf
      | some l =>
        rw [h1, h2] at hf
        cases hf
        simp only [minI] at e
        split at e
        · rename_i k' m hm
          cases hk : eqK k k' with
          | false => rw [hk] at e; cases e
          | true =>
            rw [hk] at e
            simp only [cond_true, ltI_eq] at e
            have ho := (opd_conc T h1).1
            rw [hm, concA_int] at ho
            have ih := minI_sound isMax k T h2 _ n e
            simp only [List.map_cons, List.foldlM_cons, ho, Sem.run_bind]
            cases isMax
            · simp only [Bool.false_eq_true, if_false, cond_false] at ih ⊢
              by_cases hlt : m < x
              · simp only [Builtin.min2, hlt, if_true, decide_true, cond_true, Sem.run_pure, Result.andThen_ok] at ih ⊢; exact ih
              · simp only [Builtin.min2, hlt, if_false, decide_false, cond_false, Sem.run_pure, Result.andThen_ok] at ih ⊢; exact ih
            · simp only [if_true, cond_true] at ih ⊢
              by_cases hlt : x < m
              · simp only [Builtin.max2, gt_iff_lt, hlt, if_true, decide_true, cond_true, Sem.run_pure, Result.andThen_ok] at ih ⊢; exact ih
              · simp only [Builtin.max2, gt_iff_lt, hlt, if_false, decide_false, cond_false, Sem.run_pure, Result.andThen_ok] at ih ⊢; exact ih
        · cases e

end
end Go.CE
