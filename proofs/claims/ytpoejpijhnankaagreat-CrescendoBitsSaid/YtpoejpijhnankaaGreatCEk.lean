/-
  The concrete evaluator: each operation, evaluated, is what the model's operation does (equality of plain values, maps). No condition.
-/
import Derived.Test.YtpoejpijhnankaaGreatCEj
import Derived.Laws.StructEq
namespace Go.CE
open Go.RowKit

section
variable {P : Program} {w0 : World} {S : Nat → Prop} {φ : Phi} {h h2 : AHeap} {w w2 : World} {nt : Nat} {t : Tr AVal} {a : Act} {v : AVal} {call : Caller}

/-- The two cells are of the kind: what they are. -/
theorem eqC_inv {k : Nat} {x y : CVal} {q : Bool} (e : eqC k x y = some q) :
    (k = 1 ∧ ∃ j m n, x = .int j m ∧ y = .int j n ∧ q = (m == n)) ∨ (k = 2 ∧ ∃ m n, x = .str m ∧ y = .str n ∧ q = (m.data.toList == n.data.toList)) ∨ (k = 0 ∧ ∃ m n, x = .bool m ∧ y = .bool n ∧ q = (m == n)) := by
  unfold eqC at e
  split at e
  · rename_i j m j' n
    cases hk : eqK j j' with
    | false => rw [hk] at e; cases e
    | true => rw [hk] at e; cases e; obtain rfl := eqK_iff hk; exact .inl ⟨rfl, j, m, n, rfl, rfl, eqI_eq m n⟩
  · cases e; exact .inr (.inl ⟨rfl, _, _, rfl, rfl, rfl⟩)
  · cases e; exact .inr (.inr ⟨rfl, _, _, rfl, rfl, rfl⟩)
  · cases e

theorem kindT_inv {ty : TypeId} {k : Nat} (hk : kindT P ty = some k) : (k = 0 ∧ P.underlying ty = some .bool) ∨ (k = 1 ∧ ∃ j, P.underlying ty = some (.int j)) ∨ (k = 2 ∧ P.underlying ty = some .string) := by
  unfold kindT at hk
  split at hk
  · cases hk; exact .inl ⟨rfl, by assumption⟩
  · cases hk; exact .inr (.inl ⟨rfl, _, by assumption⟩)
  · cases hk; exact .inr (.inr ⟨rfl, by assumption⟩)
  · cases hk

theorem equal_scalar (d : Nat) {ty : TypeId} {k : Nat} (hk : kindT P ty = some k) {x y : CVal} {q : Bool} (e : eqC k x y = some q) :
    (Op.equalIn (d + 1) ty (concC φ x) (concC φ y)).run P w = .ok q w := by
  rcases eqC_inv e with ⟨rfl, j, m, n, rfl, rfl, rfl⟩ | ⟨rfl, m, n, rfl, rfl, rfl⟩ | ⟨rfl, m, n, rfl, rfl, rfl⟩ <;> rcases kindT_inv hk with ⟨h0, hu⟩ | ⟨h0, j', hu⟩ | ⟨h0, hu⟩ <;> try omega
  · exact run_equalIn_int w d ty j j' m n hu
  · have := run_equalIn_string w d ty m n hu
    rw [ByteArray.toList_eq, ByteArray.toList_eq] at this
    exact this
  · exact run_equalIn_bool' w d ty m n hu

theorem kind_notAgg {ty : TypeId} {k : Nat} (hk : kindT P ty = some k) : (isAgg ty).run P w = .ok false w := by
  unfold isAgg
  rcases kindT_inv hk with ⟨_, hu⟩ | ⟨_, j, hu⟩ | ⟨_, hu⟩ <;> simp [Sem.run_bind, run_underlying hu]

theorem part_scalar {ty : TypeId} {k : Nat} (hk : kindT P ty = some k) {xs : List CVal} {i : Nat} {c : CVal} (hc : xs[i]? = some c) :
    (Go.part ty (xs.map (concC φ)).toArray i).run P w = .ok (concC φ c) w := by
  simp [Go.part, Sem.run_bind, kind_notAgg hk, hc]

theorem drop_cons {α : Type} {xs : List α} {i : Nat} {x : α} {r : List α} (e : xs.drop i = x :: r) : xs[i]? = some x ∧ xs.drop (i + 1) = r := by
  have h1 : (xs.drop i)[0]? = some x := by rw [e]; rfl
  rw [List.getElem?_drop] at h1
  refine ⟨by simpa using h1, ?_⟩
  rw [← List.drop_drop, e]; rfl

theorem eqFields_sound (d : Nat) (xs ys : List CVal) : ∀ (fs : List Field) (i : Nat) (ks : List Nat) (q : Bool), kindsF P i fs = some ks → eqCs ks (xs.drop i) (ys.drop i) = some q →
    (Op.eqFields (d + 1) (xs.map (concC φ)).toArray (ys.map (concC φ)).toArray fs).run P w = .ok q w
  | [], i, ks, q, hk, e => by
    cases hk
    generalize xs.drop i = l at e
    generalize ys.drop i = l' at e
    cases l <;> cases l' <;> cases e
    rfl
  | f :: fs, i, ks, q, hk, e => by
    simp only [kindsF] at hk
    cases hb : (!(f.name == "_") && Nat.beq f.offset i) with
    | false => rw [hb] at hk; cases hk
    | true =>
      rw [hb] at hk
      simp only [cond_true] at hk
      simp only [Bool.and_eq_true, Bool.not_eq_true'] at hb
      have hoff := beq_true hb.2
      have hname : f.name ≠ "_" := by simpa using hb.1
      split at hk
      · rename_i k ks' hk1 hk2
        cases hk
        cases hx : xs.drop i with
        | nil => rw [hx] at e; cases e
        | cons x xr =>
          cases hy : ys.drop i with
          | nil => rw [hx, hy] at e; cases e
          | cons y yr =>
            rw [hx, hy] at e
            simp only [eqCs] at e
            obtain ⟨gx, dx⟩ := drop_cons hx
            obtain ⟨gy, dy⟩ := drop_cons hy
            simp only [Op.eqFields, hname, ne_eq, not_false_eq_true, if_true, Sem.run_bind]
            rw [hoff, part_scalar hk1 gx, Result.andThen_ok, part_scalar hk1 gy, Result.andThen_ok]
            cases hc : eqC k x y with
            | none => rw [hc] at e; cases e
            | some b =>
              rw [hc] at e
              rw [equal_scalar d hk1 hc, Result.andThen_ok]
              cases b
              · cases e; simp
              · have ih := eqFields_sound d xs ys fs (i + 1) ks' q hk2 (by rw [dx, dy]; exact e)
                simpa using ih
      · cases hk

/-- Equality as the evaluator has it is the model's. -/
theorem equal_sound {ty : TypeId} {ks : Nat ⊕ List Nat} (hk : keyT P ty = some ks) {x y : SVal} {q : Bool} (e : eqS ks x y = some q) (d : Nat) :
    (Op.equalIn (d + 2) ty (concS φ x) (concS φ y)).run P w = .ok q w := by
  unfold keyT at hk
  split at hk
  · rename_i hu
    cases hk
    cases x <;> cases y <;> simp only [eqS] at e <;> try cases e
    exact equal_scalar (d + 1) (by unfold kindT; rw [hu]) e
  · rename_i hu
    cases hk
    cases x <;> cases y <;> simp only [eqS] at e <;> try cases e
    exact equal_scalar (d + 1) (by unfold kindT; rw [hu]) e
  · rename_i hu
    cases hk
    cases x <;> cases y <;> simp only [eqS] at e <;> try cases e
    exact equal_scalar (d + 1) (by unfold kindT; rw [hu]) e
  · rename_i fs hu
    cases hs : P.stoodInHeld ty with
    | true => rw [hs] at hk; cases hk
    | false =>
      rw [hs] at hk
      simp only [cond_false] at hk
      split at hk
      · rename_i ks' hks
        cases hk
        cases x <;> cases y <;> simp only [eqS] at e <;> try cases e
        rename_i xs ys
        have hf : P.fieldsOf ty = fs := by unfold Program.fieldsOf; rw [hu]
        have := run_equalIn_struct (P := P) w (d + 1) ty (xs.map (concC φ)).toArray (ys.map (concC φ)).toArray (by rw [hf]; exact hu) hs
        rw [hf] at this
        show (Op.equalIn (d + 1 + 1) ty (.agg (xs.map (concC φ)).toArray) (.agg (ys.map (concC φ)).toArray)).run P w = .ok q w
        rw [this]
        exact eqFields_sound d xs ys fs.toList 0 ks' q hks (by simpa using e)
      · cases hk
  · cases hk

/-- Equality's operands are no interface values. -/
theorem eqGuard_plain {op : BinOp} {ty : TypeId} (hg : P.eqGuardType P.depth ty = false) {ks : Nat ⊕ List Nat} {x y : SVal} {q : Bool} (e : eqS ks x y = some q) (xo yo : Operand) :
    (eqGuard op ty xo yo (concS φ x) (concS φ y)).run P w = .ok () w := by
  cases ks with
  | inl k =>
    cases x <;> cases y <;> simp only [eqS] at e <;> try cases e
    rcases eqC_inv e with ⟨_, j, m, n, rfl, rfl, _⟩ | ⟨_, m, n, rfl, rfl, _⟩ | ⟨_, m, n, rfl, rfl, _⟩ <;> (unfold eqGuard; cases op <;> rfl)
  | inr ks =>
    cases x <;> cases y <;> simp only [eqS] at e <;> try cases e
    exact run_eqGuard_agg w op ty xo yo _ _ hg

theorem binOp_eqlS (ty : TypeId) {ks : Nat ⊕ List Nat} {x y : SVal} {q : Bool} (e : eqS ks x y = some q) (hr : (Op.equal ty (concS φ x) (concS φ y)).run P w = .ok q w) (neg : Bool) :
    (binOp (bif neg then .neq else .eql) ty (concS φ x) (concS φ y)).run P w = .ok (.bool (bif neg then !q else q)) w ∨ ∃ m n, x = .one (.int m n) ∨ ∃ s, x = .one (.str s) := by
  cases ks with
  | inl k =>
    cases x <;> cases y <;> simp only [eqS] at e <;> try cases e
    rcases eqC_inv e with ⟨_, j, m, n, rfl, rfl, _⟩ | ⟨_, m, n, rfl, rfl, _⟩ | ⟨_, m, n, rfl, rfl, _⟩
    · exact .inr ⟨j, m, .inl rfl⟩
    · exact .inr ⟨.i8, 0, .inr ⟨m, rfl⟩⟩
    · refine .inl ?_
      cases neg <;> (simp only [concS, concC] at hr ⊢; simp [binOp, hr])
  | inr ks =>
    cases x <;> cases y <;> simp only [eqS] at e <;> try cases e
    refine .inl ?_
    cases neg <;> (simp only [concS] at hr ⊢; simp [binOp, hr])

theorem s_eq (H : HRel w0 S φ h w) {op : BinOp} {neg : Bool} (hop : op = bif neg then .neq else .eql) {ty : TypeId} (hg : P.eqGuardType P.depth ty = false) {ks : Nat ⊕ List Nat} (hk : keyT P ty = some ks)
    (hni : ∀ j, P.underlying ty ≠ some (.int j)) (hns : P.underlying ty ≠ some .string) {xo yo : Operand} {x y : Opd} {vx vy : Value} (hx : vx = concA φ (x t)) (hy : vy = concA φ (y t)) (e : opEq ks neg x y call t h = some (v, h2)) :
    Done w0 S φ h v h2 ((do pure (Next.value (← (do eqGuard op ty xo yo vx vy; binOp op ty vx vy))) : Sem Next).run P w) := by
  unfold opEq at e
  split at e
  · rename_i u u' hxe hye
    split at e
    · rename_i q hq
      cases e
      refine Done.same H ?_ (run_val ?_)
      · exact trivial
      rw [hx, hy, hxe, hye, concA_s, concA_s, Sem.run_bind, eqGuard_plain hg hq, Result.andThen_ok, hop]
      have hr : (Op.equal ty (concS φ u) (concS φ u')).run P w = .ok q w := equal_sound hk hq 9998
      rcases binOp_eqlS ty hq hr neg with hb | ⟨m, n, hb⟩
      · exact hb
      · exfalso
        unfold keyT at hk
        split at hk
        · cases hk
          rcases hb with rfl | ⟨s, rfl⟩ <;> cases u' <;> simp only [eqS] at hq <;> try cases hq
        · rename_i j hu; exact hni j hu
        · rename_i hu; exact hns hu
        · cases hs : P.stoodInHeld ty with
          | true => rw [hs] at hk; cases hk
          | false =>
            rw [hs] at hk
            simp only [cond_false] at hk
            split at hk
            · cases hk
              rcases hb with rfl | ⟨s, rfl⟩ <;> simp only [eqS] at hq <;> cases hq
            · cases hk
        · cases hk
    · cases e
  · cases e

theorem run_equal_of {ty : TypeId} {x y : Value} {q : Bool} (hr : ∀ d, (Op.equalIn (d + 1) ty x y).run P w = .ok q w) : (Op.equal ty x y).run P w = .ok q w := hr 9999

theorem s_nilS (H : HRel w0 S φ h w) {op : BinOp} {neg : Bool} (hop : op = bif neg then .neq else .eql) {ty el : TypeId} (hu : P.underlying ty = some (.slice el)) {xo yo : Operand} {x y : Opd} {vx vy : Value} (hx : vx = concA φ (x t)) (hy : vy = concA φ (y t))
    (e : opNilS neg x y call t h = some (v, h2)) : Done w0 S φ h v h2 ((do pure (Next.value (← (do eqGuard op ty xo yo vx vy; binOp op ty vx vy))) : Sem Next).run P w) := by
  unfold opNilS at e
  split at e
  · rename_i hye
    split at e
    · rename_i hxe
      cases e
      refine Done.same H ?_ (run_val ?_)
      · exact trivial
      rw [hx, hy, hxe, hye, concA_nils, concA_bool, hop]
      have hr : (Op.equal ty (.slice none 0 0) (.slice none 0 0)).run P w = .ok true w := run_equal_of fun d => by simp [Op.equalIn, run_underlying hu]
      cases neg <;> simp [eqGuard, binOp, hr]
    · rename_i b off len cap ex hxe
      cases e
      refine Done.same H ?_ (run_val ?_)
      · exact trivial
      rw [hx, hy, hxe, hye, concA_nils, concA_slc, concA_bool, hop]
      have hr : ∀ n c, (Op.equal ty (.slice (some (adr φ b off)) n c) (.slice none 0 0)).run P w = .ok false w := fun n c => run_equal_of fun d => by simp [Op.equalIn, run_underlying hu]
      cases neg <;> simp [eqGuard, binOp, hr]
    · cases e
  · cases e

theorem s_nilF (H : HRel w0 S φ h w) {op : BinOp} {neg : Bool} (hop : op = bif neg then .neq else .eql) {ty : TypeId} {ps rs : Array TypeId} {va : Bool} (hu : P.underlying ty = some (.func ps rs va)) {xo yo : Operand} {x y : Opd} {vx vy : Value} (hx : vx = concA φ (x t)) (hy : vy = concA φ (y t))
    (e : opNilF neg x y call t h = some (v, h2)) : Done w0 S φ h v h2 ((do pure (Next.value (← (do eqGuard op ty xo yo vx vy; binOp op ty vx vy))) : Sem Next).run P w) := by
  unfold opNilF at e
  split at e
  · rename_i hye
    split at e
    · rename_i hxe
      cases e
      refine Done.same H ?_ (run_val ?_)
      · exact trivial
      rw [hx, hy, hxe, hye, concA_bool, hop]
      have e1 : concA φ (.s (.one .nilf)) = .nilFunc := rfl
      rw [e1]
      have hr : (Op.equal ty .nilFunc .nilFunc).run P w = .ok true w := run_equal_of fun d => by simp [Op.equalIn, run_underlying hu]
      cases neg <;> simp [eqGuard, binOp, hr]
    · rename_i f caps hxe
      cases e
      refine Done.same H ?_ (run_val ?_)
      · exact trivial
      rw [hx, hy, hxe, hye, concA_bool, hop]
      have e1 : concA φ (.s (.one .nilf)) = .nilFunc := rfl
      have e2 : ∃ q, concA φ (.s (.one (.fn f caps))) = .func (.func f) #[] q := ⟨_, rfl⟩
      obtain ⟨q, e2⟩ := e2
      rw [e1, e2]
      have hr : (Op.equal ty (.func (.func f) #[] q) .nilFunc).run P w = .ok false w := run_equal_of fun d => by simp [Op.equalIn, run_underlying hu]
      cases neg <;> simp [eqGuard, binOp, hr]
    · cases e
  · cases e

end
end Go.CE
