/-
  The concrete evaluator: operations one after another, calls among them. No condition.
-/
import Derived.Test.YtpoejpijhnankaaGreatCEn
import Derived.TacticsIn
namespace Go.CE
open Go.RowKit

/-- The fence that fences nothing, in a frame of whatever make. -/
abbrev FR (ro : Option Nat) : Fence := { Fence.wide with round := ro }

theorem FR_calls {ro : Option Nat} {n : Nat} {P : Program} {f : FuncId} {args : Array Value} {w : World} {R : Ending → World → Prop} (h : CallsIn (FR none) n P f args w R) : CallsIn (FR ro) n P f args w R := h
theorem FR_round {ro : Option Nat} {n : Nat} {P : Program} {l : Nat} {f : FuncId} {tmps : Array Value} {assign body : Code} {w : World} {R : Ending → World → Prop} (h : RoundIn (FR none) n P l f tmps assign body w R) : RoundIn (FR ro) n P l f tmps assign body w R := h

/-- What a call that was evaluated has done. -/
def Ret (w0 : World) (S : Nat → Prop) (φ : Phi) (h : AHeap) (v : AVal) (h2 : AHeap) (e : Ending) (w2 : World) : Prop :=
  ∃ φ2, e = .returned (concA φ2 v) ∧ Ext h.n.toNat φ φ2 ∧ HRel w0 S φ2 h2 w2 ∧ wfA φ2 h2.n.toNat v ∧ h.n.toNat ≤ h2.n.toNat

/-- What the answers of a caller mean. -/
def SoundC (P : Program) (call : Caller) : Prop :=
  ∀ (w0 : World) (S : Nat → Prop) (φ : Phi) (h : AHeap) (w : World) (args : List AVal) (v : AVal) (h2 : AHeap), HRel w0 S φ h w → (∀ x ∈ args, wfA φ h.n.toNat x) →
    (∀ g, call (.inl g) args h = some (v, h2) → (∀ as w, (callFunc g as).run P w = .ok (.enter g as) w) ∧ CallsIn (FR none) 0 P g (args.map (concA φ)).toArray w (Ret w0 S φ h v h2)) ∧
    (∀ l, call (.inr l) args h = some (v, h2) → ∃ f tmps assign body, (Instr.yield (φ l).blk (args.map (concA φ)).toArray).run P w = .ok (.round (φ l).blk f tmps assign body) w ∧
      RoundIn (FR none) 0 P (φ l).blk f tmps assign body w (Ret w0 S φ h v h2))

/-- The frame and the world behind an operation. -/
def Next1 (w0 : World) (S : Nat → Prop) (φ : Phi) (nt : Nat) (h : AHeap) (t2 : Tr AVal) (h2 : AHeap) (a : Act) (a2 : Act) (w2 : World) : Prop :=
  ∃ φ2, Ext h.n.toNat φ φ2 ∧ HRel w0 S φ2 h2 w2 ∧ TRel φ2 nt h2.n.toNat t2 a2.tmps ∧ a2.defers = a.defers ∧ h.n.toNat ≤ h2.n.toNat

section
variable {P : Program} {w0 : World} {S : Nat → Prop} {φ : Phi} {h h2 : AHeap} {w w2 : World} {nt : Nat} {t t2 : Tr AVal} {a : Act} {v : AVal} {call : Caller} {ro : Option Nat}

theorem cOp_defer {c : Call} (e : cOp P (.defer c) call t h = some (v, h2)) : False := by cases e

theorem put_defers (a : Act) (d : Option Tmp) (x : Value) : (a.put d x).defers = a.defers := by cases d <;> rfl

theorem next_put (T : TRel φ nt h.n.toNat t a.tmps) {φ2 : Phi} (he : Ext h.n.toNat φ φ2) (H2 : HRel w0 S φ2 h2 w2) (hv : wfA φ2 h2.n.toNat v) (hn : h.n.toNat ≤ h2.n.toNat) (dst : Option Nat) (hd : inT nt dst = true) :
    Next1 w0 S φ nt h (setT t v (dst.map bn)) h2 a (a.put dst (concA φ2 v)) w2 :=
  ⟨φ2, he, H2, TRel.put (T.ext he hn) hv dst hd, put_defers _ _ _, hn⟩

/-- One operation that is wanted, looking at what another frame has. -/
theorem op_wp2 (C : SoundC P call) (H : HRel w0 S φ h w) {ar : Act} (T : TRel φ nt h.n.toNat t ar.tmps) {o : Oper} (hx : execOp a.eval o = execOp ar.eval o) (e : cOp P o.op call t h = some (v, h2)) {K : Act → World → Prop} {Q : Exit → Act → World → Prop}
    (hK : ∀ φ2 w2, Ext h.n.toNat φ φ2 → HRel w0 S φ2 h2 w2 → wfA φ2 h2.n.toNat v → h.n.toNat ≤ h2.n.toNat → K (a.put o.dst (concA φ2 v)) w2) : o.wpIn (FR ro) 0 P a w K Q := by
  refine ⟨fun f _ => trivial, ?_⟩
  rw [Oper.semAt_eq _ _ _ (fun c hc => by rw [hc] at e; exact cOp_defer e)]
  show o.uponIn (FR ro) 0 P a K Q ((execOp a.eval o).run P w)
  rw [hx]
  by_cases hp : plainOp o.op = true
  · obtain ⟨φ2, w2, hr, he, H2, hv, hn⟩ := op_sound (P := P) H T hp e
    rcases hr with hr | ⟨hr, hu⟩
    · rw [hr]
      exact hK _ _ he H2 hv hn
    · rw [hr]
      subst hu
      exact hK _ _ he H2 hv hn
  · cases ho : o.op <;> rw [ho] at hp <;> try (exact absurd rfl hp)
    rename_i c
    obtain ⟨callee, args, argTypes⟩ := c
    cases callee with
    | builtin b => exact absurd rfl hp
    | invoke r m => rw [ho] at e; cases e
    | value f =>
      rw [ho] at e
      cases hf : cOpd f with
      | none => simp only [cOp, hf] at e; exact (bad_no rfl e).elim
      | some ff =>
        cases ha : cOpds args.toList with
        | none => simp only [cOp, hf, ha] at e; exact (bad_no rfl e).elim
        | some fa =>
          simp only [cOp, hf, ha] at e
          have e : opCall ff fa call t h = some (v, h2) := e
          have of := opd_conc T hf
          have oa := opds_conc T ha
          have hargs : args.map ar.eval = ((fa.map fun f => f t).map (concA φ)).toArray := by
            apply Array.ext'; rw [Array.toList_map, oa.1]
          unfold execOp; simp only [ho]
          unfold opCall at e
          split at e
          · rename_i g caps hg
            rw [hg] at of
            have hcap : ∀ x ∈ (caps.map fun p => AVal.s (.one (.ptr p.1 p.2))), wfA φ h.n.toNat x := by
              intro x hx
              obtain ⟨p, hp', rfl⟩ := List.mem_map.1 hx
              exact of.2 p hp'
            obtain ⟨hcf, hcall⟩ := (C w0 S φ h w _ v h2 H (by
              intro x hx
              rcases List.mem_append.1 hx with hx | hx
              · exact oa.2 x hx
              · exact hcap x hx)).1 g e
            have hargs2 : ((fa.map (fun x => x t) ++ caps.map fun p => AVal.s (.one (.ptr p.1 p.2))).map (concA φ)).toArray = args.map ar.eval ++ (caps.map fun p => Value.pointer (some (adr φ p.1 p.2))).toArray := by
              rw [hargs, List.map_append, List.append_toArray]
              congr 2
              simp [List.map_map, Function.comp_def, concA, concS, concC]
            rw [hargs2] at hcall
            have hfv : ar.eval f = .func (.func g) #[] (caps.map fun p => Value.pointer (some (adr φ p.1 p.2))).toArray := of.1
            simp only [resolve, hfv, Deferred.ofValue, Sem.run_bind, Sem.run_pure, Result.andThen_ok, invoke, Array.empty_append, hcf]
            refine ⟨fun hh => by simp [Fence.wide] at hh, FR_calls hcall |>.mono ?_⟩
            rintro e9 w9 ⟨φ2, rfl, he, H2, hv, hn⟩
            exact hK _ _ he H2 hv hn
          · rename_i l hl
            rw [hl] at of
            obtain ⟨f9, tmps, assign, body, hy, hround⟩ := (C w0 S φ h w _ v h2 H oa.2).2 l e
            rw [← hargs] at hy
            have hfv : ar.eval f = .func (.yield (φ l).blk) #[] #[] := of.1
            simp only [resolve, hfv, Deferred.ofValue, Sem.run_bind, Sem.run_pure, Result.andThen_ok, invoke, Array.empty_append, hy]
            refine ⟨fun hh => by simp [Fence.wide] at hh, FR_round hround |>.mono ?_⟩
            rintro e9 w9 ⟨φ2, rfl, he, H2, hv, hn⟩
            exact hK _ _ he H2 hv hn
          · cases e

/-- One operation that is wanted. -/
theorem op_wp (C : SoundC P call) (H : HRel w0 S φ h w) (T : TRel φ nt h.n.toNat t a.tmps) {o : Oper} (hd : inT nt o.dst = true) (e : cOp P o.op call t h = some (v, h2)) {K : Act → World → Prop} {Q : Exit → Act → World → Prop}
    (hK : ∀ a2 w2, Next1 w0 S φ nt h (setT t v (o.dst.map bn)) h2 a a2 w2 → K a2 w2) : o.wpIn (FR ro) 0 P a w K Q :=
  op_wp2 C H T rfl e fun _ _ he H2 hv hn => hK _ _ (next_put T he H2 hv hn o.dst hd)

theorem yielded_eq (T : TRel φ nt h.n.toNat t a.tmps) {ops : Array Oper} {j d : Nat} (hj : (ops[j]?).bind (·.dst) = some d) (hd : d < nt) (b : Bool) :
    (yielded ops a.tmps j == some b) = want t (some (bn d, b)) := by
  unfold yielded want
  rw [hj]
  simp only [Option.bind_some]
  rw [T.get d hd]
  cases hg : t.get (bn d) with
  | none => rfl
  | some x =>
    simp only [Option.getD_some]
    cases x with
    | tup vs => rfl
    | s y =>
      cases y with
      | agg cs => rfl
      | one c => cases c <;> rfl

/-- What an operation of a region became. -/
theorem cOper_inv {ops : Array Oper} {o : Oper} (e : evOper call (cOper P nt ops o) t h = some (t2, h2)) (T : TRel φ nt h.n.toNat t a.tmps) : inT nt o.dst = true ∧
    ((Region.wanted o (yielded ops a.tmps) = true ∧ ∃ v, cOp P o.op call t h = some (v, h2) ∧ t2 = setT t v (o.dst.map bn)) ∨
     (Region.wanted o (yielded ops a.tmps) = false ∧ t2 = setT t aundef (o.dst.map bn) ∧ h2 = h)) := by
  unfold cOper at e
  have bad : ∀ {o' : ROper}, o' = ⟨none, opBad, none⟩ → evOper call o' t h = some (t2, h2) → False := by
    intro o' ho' e; subst ho'; cases e
  cases hd : inT nt o.dst with
  | false => rw [hd] at e; exact (bad rfl e).elim
  | true =>
    rw [hd] at e
    refine ⟨rfl, ?_⟩
    simp only [cond_true] at e
    have fin : ∀ g, evOper call ⟨o.dst.map bn, cOp P o.op, g⟩ t h = some (t2, h2) → (want t g = true ∧ ∃ v, cOp P o.op call t h = some (v, h2) ∧ t2 = setT t v (o.dst.map bn)) ∨ (want t g = false ∧ t2 = setT t aundef (o.dst.map bn) ∧ h2 = h) := by
      intro g e
      unfold evOper at e
      simp only at e
      cases hw : want t g with
      | false => rw [hw] at e; cases e; exact .inr ⟨rfl, rfl, rfl⟩
      | true =>
        rw [hw] at e
        simp only [cond_true] at e
        unfold setR at e
        split at e
        · rename_i v9 h9 hv; cases e; exact .inl ⟨rfl, v9, hv, rfl⟩
        · cases e
    split at e
    · rename_i hg
      rcases fin none e with hh | ⟨hw, _⟩
      · exact .inl ⟨by simp [Region.wanted, hg], hh.2⟩
      · cases hw
    · rename_i j b hg
      split at e
      · rename_i d hjd
        cases hb : Nat.ble (Nat.succ d) nt with
        | false => rw [hb] at e; exact (bad rfl e).elim
        | true =>
          rw [hb] at e
          have hyd := yielded_eq T hjd (ble_true hb) b
          rcases fin (some (bn d, b)) e with ⟨hw, hh⟩ | ⟨hw, hh⟩
          · exact .inl ⟨by simp only [Region.wanted, hg]; rw [hyd]; exact hw, hh⟩
          · exact .inr ⟨by simp only [Region.wanted, hg]; rw [hyd]; exact hw, hh⟩
      · exact (bad rfl e).elim

theorem evOps_nil : evOps call [] t h = some (t, h) := rfl
theorem evOps_cons (o : ROper) (os : List ROper) : evOps call (o :: os) t h = match evOper call o t h with | some (t2, h2) => evOps call os t2 h2 | none => none := rfl

theorem Next1.refl (H : HRel w0 S φ h w) (T : TRel φ nt h.n.toNat t a.tmps) : Next1 w0 S φ nt h t h a a w := ⟨φ, Ext.refl _ _, H, T, rfl, Nat.le_refl _⟩

/-- Operations in their order. -/
theorem ops_wp (C : SoundC P call) {ops : Array Oper} {Q : Exit → Act → World → Prop} : ∀ (l : List Oper) {φ : Phi} {h : AHeap} {w : World} {t : Tr AVal} {a : Act}, HRel w0 S φ h w → TRel φ nt h.n.toNat t a.tmps →
    evOps call (l.map (cOper P nt ops)) t h = some (t2, h2) → (∀ a2 w2, Next1 w0 S φ nt h t2 h2 a a2 w2 → Q .normal a2 w2) → wpListIn (FR ro) 0 P ops Q l a w
  | [], φ, h, w, t, a, H, T, e, hQ => by
    cases e
    exact hQ _ _ (Next1.refl H T)
  | o :: l, φ, h, w, t, a, H, T, e, hQ => by
    simp only [List.map_cons] at e
    rw [evOps_cons] at e
    split at e
    · rename_i t1 h1 ho
      obtain ⟨hd, hh⟩ := cOper_inv ho T
      unfold wpListIn
      rcases hh with ⟨hw, v, hv, rfl⟩ | ⟨hw, rfl, rfl⟩
      · rw [if_pos hw]
        refine op_wp C H T hd hv fun a2 w2 hn => ?_
        obtain ⟨φ2, he, H2, T2, hdef, hle⟩ := hn
        refine ops_wp C l H2 T2 e fun a3 w3 hn3 => hQ a3 w3 ?_
        obtain ⟨φ3, he3, H3, T3, hdef3, hle3⟩ := hn3
        exact ⟨φ3, he.trans he3 hle, H3, T3, hdef3.trans hdef, Nat.le_trans hle hle3⟩
      · rw [if_neg (by rw [hw]; simp)]
        refine ⟨fun f _ => trivial, ?_⟩
        have T2 := TRel.put T (v := aundef) (fun _ hv => by cases hv) o.dst hd
        refine ops_wp C l H T2 e fun a3 w3 hn3 => hQ a3 w3 ?_
        obtain ⟨φ3, he3, H3, T3, hdef3, hle3⟩ := hn3
        exact ⟨φ3, he3, H3, T3, hdef3.trans (put_defers _ _ _), hle3⟩
    · cases e

end
end Go.CE
