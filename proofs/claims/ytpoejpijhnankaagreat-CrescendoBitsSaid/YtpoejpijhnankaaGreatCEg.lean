/-
  The concrete evaluator: each operation, evaluated, is what the model's operation does (arithmetic, comparisons, parts of values). No condition.
-/
import Derived.Test.YtpoejpijhnankaaGreatCEf
import Derived.Laws.StructEq
namespace Go.CE
open Go.RowKit

section
variable {P : Program} {w0 : World} {S : Nat → Prop} {φ : Phi} {h h2 : AHeap} {w w2 : World} {nt : Nat} {t : Tr AVal} {a : Act} {v : AVal} {call : Caller}

theorem adr_add (φ : Phi) (b : BN) (off n : Nat) : (adr φ b off).add n = adr φ b (off + n) := by
  unfold adr; rw [Addr.add_mid, Nat.add_assoc]
theorem adr_off (φ : Phi) (b : BN) (off n : Nat) : adr φ b (Nat.add off n) = (adr φ b off).add n := (adr_add φ b off n).symm

theorem s_nilck (H : HRel w0 S φ h w) {ρ : Operand → Value} {o : Oper} {xo : Operand} (ho : o.op = .nilCheck xo) {x : Opd} (hy : ρ xo = concA φ (x t) ∧ wfA φ h.n.toNat (x t)) (e : opNilck x call t h = some (v, h2)) :
    Done w0 S φ h v h2 ((execOp ρ o).run P w) := by
  unfold opNilck at e
  split at e
  · rename_i b off hx; cases e; rw [hx] at hy; unfold execOp; simp only [ho, hy.1]; exact Done.same H hy.2 rfl
  · rename_i f caps hx; cases e; rw [hx] at hy; unfold execOp; simp only [ho, hy.1]; exact Done.same H hy.2 rfl
  · rename_i l hx; cases e; rw [hx] at hy; unfold execOp; simp only [ho, hy.1]; exact Done.same H hy.2 rfl
  · cases e

theorem retC_inv {o : Option CVal} (e : retC h o = some (v, h2)) : ∃ c, o = some c ∧ v = .s (.one c) ∧ h2 = h := by
  cases o with
  | none => cases e
  | some c => cases e; exact ⟨c, rfl, rfl, rfl⟩
theorem retA_inv {o : Option (List CVal)} (e : retA h o = some (v, h2)) : ∃ c, o = some c ∧ v = .s (.agg c) ∧ h2 = h := by
  cases o with
  | none => cases e
  | some c => cases e; exact ⟨c, rfl, rfl, rfl⟩

theorem eqGuard_int (op : BinOp) (ty : TypeId) (x y : Operand) (k k' : IntKind) (m n : Int) : (eqGuard op ty x y (.int k m) (.int k' n)).run P w = .ok () w := by
  unfold eqGuard; cases op <;> rfl
theorem eqGuard_str (op : BinOp) (ty : TypeId) (x y : Operand) (m n : ByteArray) : (eqGuard op ty x y (.string m) (.string n)).run P w = .ok () w := by
  unfold eqGuard; cases op <;> rfl

/-- What an integer operation yields. -/
theorem intFn_sound (op : BinOp) (k : IntKind) (m n : Int) {c : CVal} (e : intFn op k m n = some c) (ty : TypeId) :
    (binOp op ty (.int k m) (.int k n)).run P w = .ok (concC φ c) w ∧ wfC φ 0 c := by
  cases op <;> simp only [intFn, evNoI] at e
  case add => cases e; exact ⟨by simp [binOp, Op.intArith, concC, wrapF_eq] <;> rfl, trivial⟩
  case sub => cases e; exact ⟨by simp [binOp, Op.intArith, concC, wrapF_eq] <;> rfl, trivial⟩
  case mul => cases e; exact ⟨by simp [binOp, Op.intArith, concC, wrapF_eq] <;> rfl, trivial⟩
  case quo =>
    unfold evQuo at e
    rw [eqI_eq] at e
    by_cases h0 : n = 0
    · subst h0; cases e
    · have : (n == 0) = false := by simpa using h0
      rw [this] at e; cases e
      exact ⟨by simp [binOp, Op.intDiv, concC, wrapF_eq, h0], trivial⟩
  case rem =>
    unfold evRem at e
    rw [eqI_eq] at e
    by_cases h0 : n = 0
    · subst h0; cases e
    · have : (n == 0) = false := by simpa using h0
      rw [this] at e; cases e
      exact ⟨by simp [binOp, Op.intDiv, concC, h0], trivial⟩
  case and => cases e; exact ⟨by simp [binOp, Op.intBits, concC], trivial⟩
  case or => cases e; exact ⟨by simp [binOp, Op.intBits, concC], trivial⟩
  case xor => cases e; exact ⟨by simp [binOp, Op.intBits, concC], trivial⟩
  case andNot => cases e; exact ⟨by simp [binOp, Op.intBits, concC], trivial⟩
  case eql => cases e; exact ⟨by simp [binOp, Op.intCmp, concC, eqI_eq], trivial⟩
  case neq => cases e; exact ⟨by simp [binOp, Op.intCmp, concC, eqI_eq]; rfl, trivial⟩
  case lss => cases e; exact ⟨by simp [binOp, Op.intCmp, concC, ltI_eq], trivial⟩
  case leq => cases e; exact ⟨by simp [binOp, Op.intCmp, concC, leI_eq], trivial⟩
  case gtr => cases e; exact ⟨by simp [binOp, Op.intCmp, concC, ltI_eq], trivial⟩
  case geq => cases e; exact ⟨by simp [binOp, Op.intCmp, concC, leI_eq], trivial⟩
  all_goals cases e

theorem s_int (H : HRel w0 S φ h w) {op : BinOp} {ty : TypeId} {xo yo : Operand} {x y : Opd} {vx vy : Value} (hx : vx = concA φ (x t)) (hy : vy = concA φ (y t))
    (e : opInt (intFn op) x y call t h = some (v, h2)) :
    Done w0 S φ h v h2 ((do pure (Next.value (← (do eqGuard op ty xo yo vx vy; binOp op ty vx vy))) : Sem Next).run P w) := by
  unfold opInt at e
  split at e
  · rename_i k m hxe
    split at e
    · rename_i k' n hye
      cases hk : eqK k k' with
      | false => rw [hk] at e; cases e
      | true =>
        rw [hk] at e
        obtain rfl := eqK_iff hk
        obtain ⟨c, hc, rfl, rfl⟩ := retC_inv e
        obtain ⟨h1, h3⟩ := intFn_sound (P := P) (w := w) (φ := φ) op k m n hc ty
        refine Done.same H ?_ (run_val ?_)
        · exact wfC_mono (Nat.zero_le _) h3
        rw [hx, hy, hxe, hye, concA_int, concA_int]
        rw [Sem.run_bind, eqGuard_int, Result.andThen_ok]
        exact h1
    · cases e
  · cases e

theorem s_shift (H : HRel w0 S φ h w) {op : BinOp} {g : IntKind → Int → Int → Option CVal} (hg : (op = .shl ∧ g = evShl) ∨ (op = .shr ∧ g = evShr)) {ty : TypeId} {xo yo : Operand} {x y : Opd} {vx vy : Value}
    (hx : vx = concA φ (x t)) (hy : vy = concA φ (y t)) (e : opShift g x y call t h = some (v, h2)) :
    Done w0 S φ h v h2 ((do pure (Next.value (← (do eqGuard op ty xo yo vx vy; binOp op ty vx vy))) : Sem Next).run P w) := by
  unfold opShift at e
  split at e
  · rename_i k m hxe
    split at e
    · rename_i k' n hye
      obtain ⟨c, hc, rfl, rfl⟩ := retC_inv e
      have h3 : (binOp op ty (.int k m) (.int k' n)).run P w = .ok (concC φ c) w ∧ wfC φ 0 c := by
        rcases hg with ⟨rfl, rfl⟩ | ⟨rfl, rfl⟩
        · unfold evShl at hc
          rw [ltI_eq] at hc
          by_cases h0 : n < 0
          · rw [decide_eq_true h0] at hc; cases hc
          · rw [decide_eq_false h0] at hc; cases hc
            exact ⟨by simp [binOp, Op.shift, h0, concC, wrapF_eq] <;> rfl, trivial⟩
        · unfold evShr at hc
          rw [ltI_eq] at hc
          by_cases h0 : n < 0
          · rw [decide_eq_true h0] at hc; cases hc
          · rw [decide_eq_false h0] at hc; cases hc
            exact ⟨by simp [binOp, Op.shift, h0, concC], trivial⟩
      refine Done.same H ?_ (run_val ?_)
      · exact wfC_mono (Nat.zero_le _) h3.2
      rw [hx, hy, hxe, hye, concA_int, concA_int, Sem.run_bind, eqGuard_int, Result.andThen_ok]
      exact h3.1
    · cases e
  · cases e

theorem s_str (H : HRel w0 S φ h w) {op : BinOp} {ty : TypeId} {xo yo : Operand} {x y : Opd} {vx vy : Value} (hx : vx = concA φ (x t)) (hy : vy = concA φ (y t))
    (e : opStr op x y call t h = some (v, h2)) :
    Done w0 S φ h v h2 ((do pure (Next.value (← (do eqGuard op ty xo yo vx vy; binOp op ty vx vy))) : Sem Next).run P w) := by
  unfold opStr at e
  split at e
  · rename_i m n hxe hye
    obtain ⟨c, hc, rfl, rfl⟩ := retC_inv e
    have h3 : (binOp op ty (.string m) (.string n)).run P w = .ok (concC φ c) w ∧ wfC φ 0 c := by
      cases op <;> simp only [evStr] at hc
      case add =>
        cases hb : Nat.ble (m.size + n.size) 9223372036854775807 with
        | false => rw [hb] at hc; cases hc
        | true =>
          rw [hb] at hc; cases hc
          have := ble_true hb
          have h9 : ¬ ((m.size : Int) + (n.size : Int) > IntKind.i64.max) := by show ¬ ((m.size : Int) + (n.size : Int) > 9223372036854775807); omega
          exact ⟨by simp only [binOp, Op.stringOp, concC, ByteArray.toList_eq]; rw [if_neg (by simpa using h9)]; rfl, trivial⟩
      case eql => cases hc; exact ⟨by simp [binOp, Op.stringOp, concC, ByteArray.toList_eq], trivial⟩
      case neq => cases hc; exact ⟨by simp [binOp, Op.stringOp, concC, ByteArray.toList_eq], trivial⟩
      case lss => cases hc; exact ⟨by simp [binOp, Op.stringOp, concC, ByteArray.toList_eq], trivial⟩
      case leq => cases hc; exact ⟨by simp [binOp, Op.stringOp, concC, ByteArray.toList_eq], trivial⟩
      case gtr => cases hc; exact ⟨by simp [binOp, Op.stringOp, concC, ByteArray.toList_eq], trivial⟩
      case geq => cases hc; exact ⟨by simp [binOp, Op.stringOp, concC, ByteArray.toList_eq], trivial⟩
      all_goals cases hc
    refine Done.same H ?_ (run_val ?_)
    · exact wfC_mono (Nat.zero_le _) h3.2
    rw [hx, hy, hxe, hye, concA_str, concA_str, Sem.run_bind, eqGuard_str, Result.andThen_ok]
    exact h3.1
  · cases e

theorem s_not (H : HRel w0 S φ h w) {x : Opd} {y : Value} (hy : y = concA φ (x t)) (e : opNot x call t h = some (v, h2)) :
    Done w0 S φ h v h2 ((do pure (Next.value (← Op.unary .not y)) : Sem Next).run P w) := by
  unfold opNot at e
  split at e
  · rename_i q hx
    cases e
    refine Done.same H ?_ (run_val ?_)
    · exact trivial
    · rw [hy, hx]; rfl
  · cases e

theorem s_neg (H : HRel w0 S φ h w) {x : Opd} {y : Value} (hy : y = concA φ (x t)) (e : opNeg x call t h = some (v, h2)) :
    Done w0 S φ h v h2 ((do pure (Next.value (← Op.unary .neg y)) : Sem Next).run P w) := by
  unfold opNeg at e
  split at e
  · rename_i k n hx
    cases e
    refine Done.same H ?_ (run_val ?_)
    · exact trivial
    · rw [hy, hx, concA_int, concA_int, wrapF_eq]; rfl
  · cases e

theorem s_conv (H : HRel w0 S φ h w) {src dst : TypeId} {k0 k : IntKind} (hs : P.underlying src = some (.int k0)) (hd : P.underlying dst = some (.int k)) {x : Opd} {y : Value} (hy : y = concA φ (x t))
    (e : opConv k x call t h = some (v, h2)) : Done w0 S φ h v h2 ((do pure (Next.value (← convert src dst y)) : Sem Next).run P w) := by
  unfold opConv at e
  split at e
  · rename_i k1 n hx
    cases e
    refine Done.same H ?_ (run_val ?_)
    · exact trivial
    rw [hy, hx, concA_int, concA_int, wrapF_eq]
    simp [convert, Sem.run_bind, run_underlying hs, run_underlying hd, Conv.intToInt]
  · cases e

theorem ptrs_inv : ∀ {xs : List Opd} {l : List (BN × Nat)}, ptrs t xs = some l → xs.map (fun f => f t) = l.map (fun p => AVal.s (.one (.ptr p.1 p.2)))
  | [], l, e => by cases e; rfl
  | x :: xs, l, e => by
    simp only [ptrs] at e
    split at e
    · rename_i b off hx
      cases hr : ptrs t xs with
      | none => rw [hr] at e; cases e
      | some r =>
        rw [hr] at e
        cases e
        simp only [List.map_cons, hx, ptrs_inv hr]
    · cases e

theorem s_mkfn (H : HRel w0 S φ h w) {f : Nat} {caps : List Opd} {vs : List Value} (hv : vs = (caps.map fun f => f t).map (concA φ) ∧ ∀ v ∈ caps.map (fun f => f t), wfA φ h.n.toNat v)
    (e : opMkfn f caps call t h = some (v, h2)) : Done w0 S φ h v h2 ((do pure (Next.value (← Instr.makeFunc (.func f) #[] vs.toArray)) : Sem Next).run P w) := by
  unfold opMkfn at e
  split at e
  · rename_i l hl
    cases e
    have hm := ptrs_inv hl
    refine Done.same H ?_ (run_val ?_)
    · intro p hp
      have := hv.2 (.s (.one (.ptr p.1 p.2))) (by rw [hm]; exact List.mem_map.2 ⟨p, hp, rfl⟩)
      exact this
    · rw [hv.1, hm]
      simp [Instr.makeFunc, concA, concS, concC, List.map_map, Function.comp_def]
  · cases e

theorem s_foff (H : HRel w0 S φ h w) {ty : TypeId} {fs : Array Field} (hu : P.underlying ty = some (.struct fs)) {k : Nat} {fd : Field} (hf : fs[k]? = some fd) {i : TypeInfo} (hi : P.info? fd.type = some i)
    (h0 : Nat.beq i.size 0 = false) {x : Opd} {y : Value} (hy : y = concA φ (x t) ∧ wfA φ h.n.toNat (x t)) (e : opFoff x fd.offset call t h = some (v, h2)) :
    Done w0 S φ h v h2 ((do pure (Next.value (← Instr.fieldAt ty y k)) : Sem Next).run P w) := by
  unfold opFoff at e
  split at e
  · rename_i b o hx
    cases e
    rw [hx] at hy
    refine Done.same H ?_ (run_val ?_)
    · exact hy.2
    rw [hy.1, concA_ptr, concA_ptr]
    have hne : ¬ i.size = 0 := beq_false h0
    simp [Instr.fieldAt, Sem.run_bind, run_underlying hu, hf, Instr.sureAddr, fieldPlace, sizeOf, typeInfo, hi, hne, adr, Addr.add]
    split
    · rename_i hz; simp [hz]
    · simp [Nat.add_assoc]
  · cases e

/-- A part of an aggregate. -/
theorem part_agg {ty : TypeId} {n : Option Nat} (hs : sizeT P ty = some n) {cs : List CVal} {off : Nat} (hcs : ∀ c ∈ cs, wfC φ h.n.toNat c) (e : part n cs off h = some (v, h2)) :
    (Go.part ty (cs.map (concC φ)).toArray off).run P w = .ok (concA φ v) w ∧ wfA φ h.n.toNat v ∧ h2 = h := by
  obtain ⟨i, d, hi, hu, hn | hn⟩ := sizeT_inv hs
  · obtain ⟨rfl, hd⟩ := hn
    simp only [part, getAt_eq] at e
    obtain ⟨c, hc, rfl, rfl⟩ := retC_inv e
    refine ⟨?_, hcs c (List.mem_of_getElem? hc), rfl⟩
    have hagg : (isAgg ty).run P w = .ok false w := by
      unfold isAgg
      rw [Sem.run_bind, run_underlying hu w]
      cases d <;> first | (simp [TypeDesc.isRow] at hd; done) | simp
    simp [Go.part, Sem.run_bind, hagg, hc, concA, concS]
  · obtain ⟨rfl, hd⟩ := hn
    simp only [part] at e
    obtain ⟨l, hc, rfl, rfl⟩ := retA_inv e
    obtain ⟨he, hle⟩ := cut_eq _ _ _ _ hc
    refine ⟨?_, fun c hc' => hcs c (by rw [he] at hc'; exact List.mem_of_mem_drop (List.mem_of_mem_take hc')), rfl⟩
    have hagg : (isAgg ty).run P w = .ok true w := by
      unfold isAgg
      rw [Sem.run_bind, run_underlying hu w]
      cases d <;> simp_all
    have ex : (cs.map (concC φ)).toArray.extract off (off + i.size) = (l.map (concC φ)).toArray := by
      rw [List.extract_toArray, List.extract_eq_take_drop, he, List.map_take, List.map_drop]
      congr 2
      omega
    rw [concA_agg, ← ex]
    simp [Go.part, Sem.run_bind, hagg, sizeOf, typeInfo, hi, - List.extract_toArray]

theorem s_field (H : HRel w0 S φ h w) {ty : TypeId} {fs : Array Field} (hu : P.underlying ty = some (.struct fs)) {k : Nat} {fd : Field} (hf : fs[k]? = some fd) {n : Option Nat} (hs : sizeT P fd.type = some n)
    {x : Opd} {y : Value} (hy : y = concA φ (x t) ∧ wfA φ h.n.toNat (x t)) (e : opField x fd.offset n call t h = some (v, h2)) :
    Done w0 S φ h v h2 ((do pure (Next.value (← Instr.field ty y k)) : Sem Next).run P w) := by
  unfold opField at e
  split at e
  · rename_i cs hx
    rw [hx] at hy
    obtain ⟨h1, h3, rfl⟩ := part_agg (P := P) (φ := φ) (w := w) hs hy.2 e
    refine Done.same H h3 (run_val ?_)
    rw [hy.1, concA_agg]
    simp [Instr.field, Sem.run_bind, run_underlying hu, hf, asAgg, h1]
  · cases e

theorem asI_inv {x : AVal} {n : Int} (e : asI x = some n) : ∃ k, x = .s (.one (.int k n)) := by
  unfold asI at e
  split at e
  · cases e; exact ⟨_, rfl⟩
  · cases e

theorem s_ixs (H : HRel w0 S φ h w) {ty el : TypeId} (hu : P.underlying ty = some (.slice el)) {i : TypeInfo} (hi : P.info? el = some i) {x j : Opd} {vx vj : Value}
    (hx : vx = concA φ (x t) ∧ wfA φ h.n.toNat (x t)) (hj : vj = concA φ (j t)) (e : opIxs i.size x j call t h = some (v, h2)) :
    Done w0 S φ h v h2 ((do pure (Next.value (← Instr.indexAt ty vx vj)) : Sem Next).run P w) := by
  unfold opIxs at e
  split at e
  · rename_i b off len cap ex hxe
    rw [hxe] at hx
    split at e
    · rename_i m hm
      obtain ⟨k, hk⟩ := asI_inv hm
      cases hb : Nat.ble (Nat.succ m) len with
      | false => rw [hb] at e; cases e
      | true =>
        rw [hb] at e
        cases e
        have hlt := ble_true hb
        refine Done.same H ?_ (run_val ?_)
        · exact hx.2.1
        rw [hx.1, hj, hk, concA_slc, concA_int, concA_ptr]
        have h1 : (0 : Int) ≤ Int.ofNat m ∧ Int.ofNat m < (len : Int) := ⟨Int.natCast_nonneg m, by show (m : Int) < len; omega⟩
        rw [adr_off]
        simp [Instr.indexAt, asIntOf, Sem.run_bind, run_underlying hu, sizeOf, typeInfo, hi]
        intro hbad; omega
    · cases e
  · cases e

end
end Go.CE
