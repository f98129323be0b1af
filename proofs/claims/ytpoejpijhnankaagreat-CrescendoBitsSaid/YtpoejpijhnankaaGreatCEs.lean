/-
  The concrete evaluator: regions that draw their order. No condition.
-/
import Derived.Test.YtpoejpijhnankaaGreatCEp
import Derived.Test.YtpoejpijhnankaaGreatCEr
import Derived.OrdersIn
namespace Go.CE
open Go.RowKit

/-! ### Equality -/

theorem and2 {a b : Bool} (h : (a && b) = true) : a = true ∧ b = true := by simpa using h

theorem eqBN_eq : ∀ {a b : BN}, eqBN a b = true → a = b
  | .z, .z, _ => rfl
  | .o a, .o b, h => by rw [eqBN_eq (a := a) (b := b) h]
  | .d a, .d b, h => by rw [eqBN_eq (a := a) (b := b) h]
  | .z, .o _, h => by cases h
  | .z, .d _, h => by cases h
  | .o _, .z, h => by cases h
  | .o _, .d _, h => by cases h
  | .d _, .z, h => by cases h
  | .d _, .o _, h => by cases h
theorem eqB_eq {a b : Bool} (h : eqB a b = true) : a = b := by cases a <;> cases b <;> first | rfl | cases h
theorem eqPs_eq : ∀ {a b : List (BN × Nat)}, eqPs a b = true → a = b
  | [], [], _ => rfl
  | (b, o) :: l, (b', o') :: l', h => by
    obtain ⟨h1, h2⟩ := and2 h
    obtain ⟨h3, h4⟩ := and2 h1
    rw [eqBN_eq h3, beq_true h4, eqPs_eq h2]
  | [], _ :: _, h => by cases h
  | _ :: _, [], h => by cases h
theorem eqU_eq : ∀ {a b : List UInt8}, eqU a b = true → a = b
  | [], [], _ => rfl
  | a :: l, b :: l', h => by
    obtain ⟨h1, h2⟩ := and2 h
    rw [UInt8.toNat_inj.1 (beq_true h1), eqU_eq h2]
  | [], _ :: _, h => by cases h
  | _ :: _, [], h => by cases h
theorem eqStr_eq {a b : ByteArray} (h : eqU a.data.toList b.data.toList = true) : a = b := by
  have := eqU_eq h
  cases a; cases b
  congr 1
  exact Array.ext' this
theorem eqII {a b : Int} (h : eqI a b = true) : a = b := by rw [eqI_eq] at h; simpa using h
theorem eqV_eq {a b : CVal} (h : eqV a b = true) : a = b := by
  cases a <;> cases b <;> first
    | rfl
    | (cases h; done)
    | skip
  · exact congrArg _ (eqB_eq h)
  · obtain ⟨h1, h2⟩ := and2 h
    rw [eqK_iff h1, eqII h2]
  · exact congrArg _ (eqStr_eq h)
  · obtain ⟨h1, h2⟩ := and2 h
    rw [eqBN_eq h1, beq_true h2]
  · obtain ⟨h1, h2⟩ := and2 h
    obtain ⟨h1, h3⟩ := and2 h1
    obtain ⟨h1, h4⟩ := and2 h1
    obtain ⟨h1, h5⟩ := and2 h1
    rw [eqBN_eq h1, beq_true h5, beq_true h4, beq_true h3, eqB_eq h2]
  · exact congrArg _ (eqBN_eq h)
  · obtain ⟨h1, h2⟩ := and2 h
    rw [beq_true h1, eqPs_eq h2]
  · exact congrArg _ (eqBN_eq h)
theorem eqVs_eq : ∀ {a b : List CVal}, eqVs a b = true → a = b
  | [], [], _ => rfl
  | a :: l, b :: l', h => by
    obtain ⟨h1, h2⟩ := and2 h
    rw [eqV_eq h1, eqVs_eq h2]
  | [], _ :: _, h => by cases h
  | _ :: _, [], h => by cases h
theorem eqSv_eq {a b : SVal} (h : eqSv a b = true) : a = b := by
  cases a <;> cases b <;> first
    | (cases h; done)
    | exact congrArg _ (eqV_eq h)
    | exact congrArg _ (eqVs_eq h)
theorem eqSs_eq : ∀ {a b : List SVal}, eqSs a b = true → a = b
  | [], [], _ => rfl
  | a :: l, b :: l', h => by
    obtain ⟨h1, h2⟩ := and2 h
    rw [eqSv_eq h1, eqSs_eq h2]
  | [], _ :: _, h => by cases h
  | _ :: _, [], h => by cases h
theorem eqA_eq {a b : AVal} (h : eqA a b = true) : a = b := by
  cases a <;> cases b <;> first
    | (cases h; done)
    | exact congrArg _ (eqSv_eq h)
    | exact congrArg _ (eqSs_eq h)

/-! ### Frames by the set of what has come up -/

noncomputable def frL (L : Nat → Bool) : Nat → List (Option BN × AVal) → Tr AVal → Tr AVal
  | _, [], t => t
  | i, (d, v) :: r, t => frL L (i + 1) r (bif L i then setT t v d else t)

open Classical in
noncomputable def lw (L : Nat → Bool) (s : BN) : Nat → List (Option BN × AVal) → Option AVal
  | _, [] => none
  | i, (d, v) :: r => (lw L s (i + 1) r).or (if L i = true ∧ d = some s then some v else none)

theorem setT_get (t : Tr AVal) (v : AVal) (d : Option BN) (s : BN) [Decidable (d = some s)] : (setT t v d).get s = if d = some s then some v else t.get s := by
  cases d with
  | none => simp [setT]
  | some d =>
    by_cases h : d = s
    · subst h; simp [setT, get_set_same]
    · rw [if_neg (fun hh => h (Option.some.inj hh))]
      exact get_set_other _ _ _ _ (fun hh => h hh.symm)

section
variable {L L' : Nat → Bool} {s : BN}

open Classical in
theorem frL_get : ∀ (r : List (Option BN × AVal)) (i : Nat) (t : Tr AVal), (frL L i r t).get s = (lw L s i r).or (t.get s)
  | [], i, t => rfl
  | (d, v) :: r, i, t => by
    unfold frL lw
    rw [frL_get r (i + 1), Option.or_assoc]
    congr 1
    cases hL : L i with
    | false => simp
    | true =>
      simp only [cond_true, true_and]
      rw [setT_get]
      split <;> simp

theorem lw_congr : ∀ (r : List (Option BN × AVal)) (i : Nat), (∀ j d v, r[j]? = some (d, v) → d = some s → L (i + j) = L' (i + j)) → lw L s i r = lw L' s i r
  | [], i, _ => rfl
  | (d, v) :: r, i, h => by
    unfold lw
    rw [lw_congr r (i + 1) fun j d v hj hd => by have := h (j + 1) d v (by simpa using hj) hd; rwa [show i + (j + 1) = i + 1 + j by omega] at this]
    congr 1
    by_cases hd : d = some s
    · have := h 0 d v (by simp) hd
      simp only [Nat.add_zero] at this
      rw [this]
    · simp [hd]

theorem lw_none : ∀ (r : List (Option BN × AVal)) (i : Nat), (∀ j d v, r[j]? = some (d, v) → d = some s → L (i + j) = false) → lw L s i r = none
  | [], i, _ => rfl
  | (d, v) :: r, i, h => by
    unfold lw
    rw [lw_none r (i + 1) fun j d v hj hd => by have := h (j + 1) d v (by simpa using hj) hd; rwa [show i + (j + 1) = i + 1 + j by omega] at this]
    by_cases hd : d = some s
    · have := h 0 d v (by simp) hd
      simp only [Nat.add_zero] at this
      simp [this]
    · simp [hd]

theorem lw_last : ∀ (r : List (Option BN × AVal)) (i k : Nat) (v : AVal), r[k]? = some (some s, v) → L (i + k) = true → (∀ j d u, k < j → r[j]? = some (d, u) → d = some s → L (i + j) = false) → lw L s i r = some v
  | [], i, k, v, hk, _, _ => by simp at hk
  | (d, u) :: r, i, 0, v, hk, hL, h => by
    simp only [List.getElem?_cons_zero, Option.some.injEq, Prod.mk.injEq] at hk
    obtain ⟨rfl, rfl⟩ := hk
    unfold lw
    rw [lw_none r (i + 1) fun j d v hj hd => by have := h (j + 1) d v (by omega) (by simpa using hj) hd; rwa [show i + (j + 1) = i + 1 + j by omega] at this]
    simp only [Nat.add_zero] at hL
    simp [hL]
  | (d, u) :: r, i, k + 1, v, hk, hL, h => by
    unfold lw
    rw [lw_last r (i + 1) k v (by simpa using hk) (by rwa [show i + 1 + k = i + (k + 1) by omega]) fun j d v hj hjr hd => by
      have := h (j + 1) d v (by omega) (by simpa using hjr) hd; rwa [show i + (j + 1) = i + 1 + j by omega] at this]
    rfl

theorem frL_cons (d : Option BN) (v : AVal) (r : List (Option BN × AVal)) (i : Nat) (t : Tr AVal) : frL L i ((d, v) :: r) t = frL L (i + 1) r (bif L i then setT t v d else t) := rfl
theorem ce_cons (e : Bool) (es : List Bool) (i : Nat) : ce L i (e :: es) = bif L i && e then ce L (i + 1) es + 1 else ce L (i + 1) es := rfl

theorem frL_shift : ∀ (r : List (Option BN × AVal)) (i : Nat) (t : Tr AVal), frL L (i + 1) r t = frL (fun k => L (k + 1)) i r t
  | [], i, t => rfl
  | (d, v) :: r, i, t => by unfold frL; exact frL_shift r (i + 1) _

theorem frL_congr : ∀ (r : List (Option BN × AVal)) (i : Nat) (t : Tr AVal), (∀ j, j < r.length → L (i + j) = L' (i + j)) → frL L i r t = frL L' i r t
  | [], i, t, _ => rfl
  | (d, v) :: r, i, t, h => by
    unfold frL
    have h0 := h 0 (by simp)
    simp only [Nat.add_zero] at h0
    rw [h0]
    exact frL_congr r (i + 1) _ fun j hj => by have := h (j + 1) (by simpa using hj); rwa [show i + (j + 1) = i + 1 + j by omega] at this

theorem ce_shift : ∀ (es : List Bool) (i : Nat), ce L (i + 1) es = ce (fun k => L (k + 1)) i es
  | [], i => rfl
  | e :: es, i => by
    unfold ce
    rw [Nat.succ_eq_add_one, Nat.succ_eq_add_one, ce_shift es (i + 1)]

theorem ce_congr : ∀ (es : List Bool) (i : Nat), (∀ j, es[j]? = some true → L (i + j) = L' (i + j)) → ce L i es = ce L' i es
  | [], i, _ => rfl
  | e :: es, i, h => by
    unfold ce
    have ih := ce_congr es (i + 1) fun j hj => by have := h (j + 1) (by simpa using hj); rwa [show i + (j + 1) = i + 1 + j by omega] at this
    rw [Nat.succ_eq_add_one, ih]
    cases e with
    | false => simp
    | true =>
      have h0 := h 0 (by simp)
      simp only [Nat.add_zero] at h0
      rw [h0]

theorem ce_mono : ∀ (es : List Bool) (i : Nat), (∀ j, es[j]? = some true → L (i + j) = true → L' (i + j) = true) → ce L i es ≤ ce L' i es
  | [], i, _ => Nat.le_refl _
  | e :: es, i, h => by
    unfold ce
    have ih := ce_mono es (i + 1) fun j hj hL => by have := h (j + 1) (by simpa using hj) (by rwa [show i + (j + 1) = i + 1 + j by omega]); rwa [show i + (j + 1) = i + 1 + j by omega] at this
    simp only [Nat.succ_eq_add_one]
    cases e with
    | false => simpa using ih
    | true =>
      have h0 := h 0 (by simp)
      simp only [Nat.add_zero] at h0
      cases hL : L i with
      | false => cases L' i <;> simp <;> omega
      | true => rw [h0 hL]; simp; omega

theorem ce_add : ∀ (es : List Bool) (i k : Nat), es[k]? = some true → L (i + k) = false → L' (i + k) = true → (∀ j, j ≠ i + k → L' j = L j) → ce L' i es = ce L i es + 1
  | [], i, k, hk, _, _, _ => by simp at hk
  | e :: es, i, 0, hk, h1, h2, h3 => by
    simp only [List.getElem?_cons_zero, Option.some.injEq] at hk
    subst hk
    simp only [Nat.add_zero] at h1 h2 h3
    unfold ce
    rw [h1, h2]
    simp only [Nat.succ_eq_add_one, Bool.and_true, cond_true, cond_false]
    rw [ce_congr (L := L') (L' := L) es (i + 1) fun j _ => h3 _ (by omega)]
  | e :: es, i, k + 1, hk, h1, h2, h3 => by
    unfold ce
    have ih := ce_add es (i + 1) k (by simpa using hk) (by rwa [show i + 1 + k = i + (k + 1) by omega]) (by rwa [show i + 1 + k = i + (k + 1) by omega]) fun j hj => h3 j (by omega)
    simp only [Nat.succ_eq_add_one]
    rw [ih, h3 i (by omega)]
    cases (L i && e) <;> simp
end

theorem restr_get (t : Tr AVal) (s : BN) [DecidableEq BN] : ∀ (l : List BN), (restr t l).get s = if s ∈ l then t.get s else none
  | [] => by cases s <;> rfl
  | x :: l => by
    unfold restr
    split
    · rename_i v hv
      by_cases hx : s = x
      · subst hx; rw [get_set_same, hv]; simp
      · rw [get_set_other _ _ _ _ hx, restr_get t s l]
        simp [hx]
    · rename_i hv
      rw [restr_get t s l]
      by_cases hx : s = x
      · subst hx; simp [hv]
      · simp [hx]

/-! ### What an evaluation in the text's order says -/

def dv (x : DOper × Tr AVal × AVal) : Option BN × AVal := (x.1.rop.dst, x.2.2)

theorem evD_spec (call : Caller) : ∀ (ds : List DOper) (t : Tr AVal) (h : AHeap) (l : List (DOper × Tr AVal × AVal)) (t2 : Tr AVal) (hs : List AHeap), evD call ds t h = some (l, t2, hs) →
    l.map (·.1) = ds ∧ hs[0]? = some h ∧ hs.length = ce (fun _ => true) 0 (ds.map (·.eff)) + 1 ∧ t2 = frL (fun _ => true) 0 (l.map dv) t ∧
    ∀ j d tr v, l[j]? = some (d, tr, v) → tr = restr (frL (fun k => decide (k < j)) 0 (l.map dv) t) d.looks ∧
      ∃ hk h', hs[ce (fun k => decide (k < j)) 0 (ds.map (·.eff))]? = some hk ∧ evOne call d.rop tr hk = some (v, h') ∧ (d.eff = true → hs[ce (fun k => decide (k < j)) 0 (ds.map (·.eff)) + 1]? = some h')
  | [], t, h, l, t2, hs, e => by
    cases e
    exact ⟨rfl, rfl, rfl, rfl, fun j d tr v hj => by simp at hj⟩
  | d :: ds, t, h, l, t2, hs, e => by
    unfold evD at e
    split at e
    · rename_i v0 h0 hv0
      cases hr : evD call ds (setT t v0 d.rop.dst) (bif d.eff then h0 else h) with
      | none => rw [hr] at e; cases e
      | some p =>
        obtain ⟨l', t', hs'⟩ := p
        rw [hr] at e
        simp only [consD, Option.some.injEq, Prod.mk.injEq] at e
        obtain ⟨rfl, rfl, rfl⟩ := e
        obtain ⟨g1, g2, g3, g4, g5⟩ := evD_spec call ds _ _ l' _ hs' hr
        have hsh : ∀ (L : Nat → Bool), ce L 0 ((d :: ds).map (·.eff)) = (bif L 0 && d.eff then 1 else 0) + ce (fun k => L (k + 1)) 0 (ds.map (·.eff)) := by
          intro L
          simp only [List.map_cons]
          rw [ce_cons, ce_shift]
          cases (L 0 && d.eff) <;> simp <;> omega
        have hfr : ∀ (L : Nat → Bool), frL L 0 (((d, restr t d.looks, v0) :: l').map dv) t = frL (fun k => L (k + 1)) 0 (l'.map dv) (bif L 0 then setT t v0 d.rop.dst else t) := by
          intro L
          simp only [List.map_cons]
          show frL L 0 ((d.rop.dst, v0) :: l'.map dv) t = _
          rw [frL_cons, frL_shift]
        refine ⟨by simp [g1], ?_, ?_, ?_, ?_⟩
        · cases hd : d.eff with
          | true => rfl
          | false => rw [hd] at g2; exact g2
        · rw [hsh]
          cases hd : d.eff with
          | true => simp only [cond_true, List.length_cons, Bool.and_self]; omega
          | false => simp only [cond_false, Bool.and_false]; omega
        · rw [hfr, g4]; rfl
        · intro j dj tr v hj
          cases j with
          | zero =>
            simp only [List.getElem?_cons_zero, Option.some.injEq, Prod.mk.injEq] at hj
            obtain ⟨rfl, rfl, rfl⟩ := hj
            have hz : ce (fun k => decide (k < 0)) 0 ((d :: ds).map (·.eff)) = 0 := by
              rw [hsh]
              simp only [Nat.not_lt_zero, decide_false, Bool.false_and, cond_false, Nat.zero_add]
              have : ∀ (es : List Bool) (i : Nat), ce (fun _ => false) i es = 0 := by
                intro es
                induction es with
                | nil => intro i; rfl
                | cons e es ih => intro i; unfold ce; simp [ih]
              exact this _ _
            refine ⟨?_, h, h0, ?_, hv0, ?_⟩
            · rw [hfr]
              simp only [Nat.not_lt_zero, decide_false, cond_false]
              congr 1
              have : ∀ (r : List (Option BN × AVal)) (i : Nat) (t : Tr AVal), frL (fun _ => false) i r t = t := by
                intro r
                induction r with
                | nil => intro i t; rfl
                | cons p r ih => intro i t; obtain ⟨d, v⟩ := p; unfold frL; exact ih _ _
              exact (this _ _ _).symm
            · rw [hz]
              cases hd : d.eff with
              | true => rfl
              | false => rw [hd] at g2; exact g2
            · intro hd
              rw [hz]
              rw [hd] at g2 ⊢
              exact g2
          | succ j =>
            simp only [List.getElem?_cons_succ] at hj
            obtain ⟨k1, hk, h', k2, k3, k4⟩ := g5 j dj tr v hj
            have hc : ce (fun k => decide (k < j + 1)) 0 ((d :: ds).map (·.eff)) = (bif d.eff then 1 else 0) + ce (fun k => decide (k < j)) 0 (ds.map (·.eff)) := by
              rw [hsh]
              simp
            refine ⟨?_, hk, h', ?_, k3, ?_⟩
            · rw [hfr, k1]
              simp
            · rw [hc]
              cases hd : d.eff with
              | true => simp only [cond_true]; rw [Nat.add_comm 1, List.getElem?_cons_succ]; exact k2
              | false => simp only [cond_false, Nat.zero_add]; exact k2
            · intro hdj
              rw [hc]
              cases hd : d.eff with
              | true => simp only [cond_true]; rw [Nat.add_comm 1, List.getElem?_cons_succ]; exact k4 hdj
              | false => simp only [cond_false, Nat.zero_add]; exact k4 hdj
    · cases e

theorem sameAt_spec {call : Caller} {o : ROper} {tr : Tr AVal} {v : AVal} : ∀ (hs : List AHeap), sameAt call o tr v hs = true → ∀ (k : Nat) (hk : AHeap), hs[k]? = some hk → ∃ h', evOne call o tr hk = some (v, h')
  | [], _, k, hk, hh => by simp at hh
  | h :: hs, e, k, hk, hh => by
    unfold sameAt at e
    split at e
    · rename_i v' h' hv
      obtain ⟨e1, e2⟩ := and2 e
      cases k with
      | zero =>
        simp only [List.getElem?_cons_zero, Option.some.injEq] at hh
        subst hh
        exact ⟨h', by rw [hv, eqA_eq e1]⟩
      | succ k => exact sameAt_spec hs e2 k hk (by simpa using hh)
    · cases e

theorem checkD_spec {call : Caller} {hs : List AHeap} : ∀ (l : List (DOper × Tr AVal × AVal)), checkD call hs l = true → ∀ (j : Nat) (d : DOper) (tr : Tr AVal) (v : AVal), l[j]? = some (d, tr, v) → d.eff = false →
    d.lo = d.hi ∨ ∀ k hk, d.lo ≤ k → k ≤ d.hi → hs[k]? = some hk → ∃ h', evOne call d.rop tr hk = some (v, h')
  | [], _, j, d, tr, v, hj, _ => by simp at hj
  | (d0, tr0, v0) :: l, e, j, d, tr, v, hj, hd => by
    obtain ⟨e1, e2⟩ := and2 e
    cases j with
    | zero =>
      simp only [List.getElem?_cons_zero, Option.some.injEq, Prod.mk.injEq] at hj
      obtain ⟨rfl, rfl, rfl⟩ := hj
      rw [hd] at e1
      simp only [Bool.false_or, Bool.or_eq_true] at e1
      rcases e1 with e1 | e1
      · exact .inl (beq_true e1)
      · refine .inr fun k hk h1 h2 h3 => ?_
        refine sameAt_spec _ e1 (k - d0.lo) hk ?_
        rw [List.getElem?_take_of_lt (by show k - d0.lo < Nat.sub (Nat.succ d0.hi) d0.lo; have : Nat.sub (Nat.succ d0.hi) d0.lo = d0.hi + 1 - d0.lo := rfl; omega), List.getElem?_drop]
        rw [show d0.lo + (k - d0.lo) = k by omega]
        exact h3
    | succ j => exact checkD_spec l e2 j d tr v (by simpa using hj) hd

theorem lastH_eq : ∀ (hs : List AHeap) (h : AHeap), hs ≠ [] → hs[hs.length - 1]? = some (lastH h hs)
  | [], _, h => absurd rfl h
  | [x], _, _ => rfl
  | x :: y :: hs, h, _ => by
    have := lastH_eq (y :: hs) x (by simp)
    simpa [lastH] using this

theorem cDrawnL_get (P : Program) (nt : Nat) (ops : Array Oper) (bs : List Nat) (es : List Bool) : ∀ (os : List Oper) (i j : Nat), (cDrawnL P nt ops bs es i os)[j]? = (os[j]?).map fun o =>
    (⟨cOper P nt ops o, (o.looksAt ops).map bn, !quietOp o.op, ce (fun k => bef bs k (i + j)) 0 es, ce (fun k => !bef bs (i + j) k) 0 es⟩ : DOper)
  | [], i, j => by simp [cDrawnL]
  | o :: os, i, 0 => by simp [cDrawnL]
  | o :: os, i, j + 1 => by
    simp only [cDrawnL, List.getElem?_cons_succ]
    rw [cDrawnL_get P nt ops bs es os (Nat.succ i) j, show Nat.succ i + j = i + (j + 1) by omega]

theorem cDrawnL_eff (P : Program) (nt : Nat) (ops : Array Oper) (bs : List Nat) (es : List Bool) : ∀ (os : List Oper) (i : Nat), (cDrawnL P nt ops bs es i os).map (·.eff) = effs os
  | [], i => rfl
  | o :: os, i => by
    have := cDrawnL_eff P nt ops bs es os (Nat.succ i)
    simp only [cDrawnL, List.map_cons, this]
    rfl

theorem allI_spec {p : Nat → Oper → Bool} : ∀ (os : List Oper) (i : Nat), allI p i os = true → ∀ (j : Nat) (o : Oper), os[j]? = some o → p (i + j) o = true
  | [], _, _, j, o, hj => by simp at hj
  | o :: os, i, e, 0, o', hj => by
    simp only [List.getElem?_cons_zero, Option.some.injEq] at hj
    subst hj
    exact (and2 e).1
  | o :: os, i, e, j + 1, o', hj => by
    have := allI_spec os (Nat.succ i) (and2 e).2 j o' (by simpa using hj)
    rwa [show Nat.succ i + j = i + (j + 1) by omega] at this

/-! ### What comes before -/

section
variable {ops : Array Oper}

def Rdy (ops : Array Oper) (L : Nat → Bool) (i : Nat) : Prop := ∀ o e, ops[i]? = some o → e ∈ o.after.toList → Region.binds .any e = true → L e.on = true
def Clo (ops : Array Oper) (L : Nat → Bool) : Prop := ∀ i, L i = true → Rdy ops L i

def GoodB (ops : Array Oper) (acc : List Nat) : Prop := ∀ (i x : Nat), acc[i]? = some x → ∀ (j : Nat), Nat.testBit x j = true → ∀ (L : Nat → Bool), Clo ops L → Rdy ops L i → L j = true

theorem befOf_spec {acc : List Nat} {j : Nat} : ∀ (es : List Edge), Nat.testBit (befOf acc es) j = true → ∃ e ∈ es, Region.binds .any e = true ∧ (e.on = j ∨ ∃ x, acc[e.on]? = some x ∧ Nat.testBit x j = true)
  | [], h => by simp [befOf] at h
  | e :: es, h => by
    unfold befOf at h
    cases hb : Region.binds .any e with
    | false =>
      rw [hb] at h
      obtain ⟨e', h1, h2⟩ := befOf_spec es h
      exact ⟨e', by simp [h1], h2⟩
    | true =>
      rw [hb] at h
      simp only [cond_true] at h
      have h : Nat.testBit ((2 ^ e.on ||| (acc[e.on]?).getD 0) ||| befOf acc es) j = true := h
      rw [Nat.testBit_or, Nat.testBit_or, Bool.or_eq_true, Bool.or_eq_true] at h
      rcases h with (h | h) | h
      · rw [Nat.testBit_two_pow] at h
        exact ⟨e, by simp, hb, .inl (by simpa using h)⟩
      · cases hx : acc[e.on]? with
        | none => rw [hx] at h; simp at h
        | some x => rw [hx] at h; exact ⟨e, by simp, hb, .inr ⟨x, hx, h⟩⟩
      · obtain ⟨e', h1, h2⟩ := befOf_spec es h
        exact ⟨e', by simp [h1], h2⟩

theorem befAll_good : ∀ (os pre : List Oper) (acc : List Nat), ops.toList = pre ++ os → acc.length = pre.length → GoodB ops acc → GoodB ops (befAll os acc)
  | [], _, acc, _, _, hg => hg
  | o :: os, pre, acc, hp, hl, hg => by
    unfold befAll
    refine befAll_good os (pre ++ [o]) _ (by simp [hp]) (by simp [hl]) ?_
    intro i x hi j hj L hC hR
    by_cases hlt : i < acc.length
    · rw [List.getElem?_append_left hlt] at hi
      exact hg i x hi j hj L hC hR
    · rw [List.getElem?_append_right (by omega)] at hi
      have h0 : i - acc.length = 0 := by
        apply Decidable.byContradiction
        intro hne
        rw [List.getElem?_eq_none (by simp; omega)] at hi
        cases hi
      rw [h0] at hi
      simp only [List.getElem?_cons_zero, Option.some.injEq] at hi
      subst hi
      obtain ⟨e, he, hb, hh⟩ := befOf_spec _ hj
      have ho : ops[i]? = some o := by
        rw [← Array.getElem?_toList, hp, List.getElem?_append_right (by omega)]
        rw [show i - pre.length = 0 by omega]
        rfl
      have hon := hR o e ho he hb
      rcases hh with hh | ⟨x, hx, hh⟩
      · rw [← hh]; exact hon
      · exact hg _ x hx j hh L hC (hC _ hon)

theorem bef_spec {i j : Nat} (h : bef (befs ops.toList) j i = true) {L : Nat → Bool} (hC : Clo ops L) (hR : Rdy ops L i) : L j = true := by
  have hg : GoodB ops (befs ops.toList) := befAll_good ops.toList [] [] rfl rfl (fun i x hi => by simp at hi)
  unfold bef at h
  cases hx : (befs ops.toList)[i]? with
  | none => rw [hx] at h; simp at h
  | some x => rw [hx] at h; exact hg i x hx j h L hC hR

/-! ### What may come up -/

def lst (listed : Array Bool) (i : Nat) : Bool := listed.getD i false

theorem mem_ready {listed : Array Bool} {i : Nat} (h : i ∈ Region.ready .any ops listed) : ∃ o, ops[i]? = some o ∧ i < listed.size ∧ lst listed i = false ∧ Rdy ops (lst listed) i := by
  unfold Region.ready at h
  rw [List.mem_filter] at h
  obtain ⟨h1, h2⟩ := h
  obtain ⟨h3, h4⟩ := and2 h2
  have hlt : i < listed.size := by
    apply Decidable.byContradiction
    intro hn
    rw [Array.getD_eq_getD_getElem?, Array.getElem?_eq_none (by omega)] at h3
    simp at h3
  cases ho : ops[i]? with
  | none => rw [ho] at h4; simp at h4
  | some o =>
    rw [ho] at h4
    refine ⟨o, rfl, hlt, ?_, ?_⟩
    · unfold lst
      rw [Array.getD_eq_getD_getElem?, Array.getElem?_eq_getElem hlt] at h3 ⊢
      simpa using h3
    · intro o' e ho' he hb
      cases ho.symm.trans ho'
      simp only [Option.map_some, Option.getD_some, Array.all_eq_true'] at h4
      have := h4 e (by simpa using he)
      rw [hb] at this
      simpa [lst] using this

theorem ready_mem {listed : Array Bool} (hsz : listed.size = ops.size) {i : Nat} {o : Oper} (ho : ops[i]? = some o) (hl : lst listed i = false) (hR : Rdy ops (lst listed) i) : i ∈ Region.ready .any ops listed := by
  have hi : i < ops.size := (Array.getElem?_eq_some_iff.1 ho).1
  unfold Region.ready
  rw [List.mem_filter]
  refine ⟨by simpa using hi, ?_⟩
  rw [Bool.and_eq_true]
  constructor
  · unfold lst at hl
    rw [Array.getD_eq_getD_getElem?, Array.getElem?_eq_getElem (by omega)] at hl ⊢
    simpa using hl
  · rw [ho]
    simp only [Option.map_some, Option.getD_some, Array.all_eq_true']
    intro e he
    cases hb : Region.binds .any e with
    | false => rfl
    | true => simpa [lst] using hR o e ho (by simpa using he) hb

theorem all_listed {listed : Array Bool} (hsz : listed.size = ops.size) (hA : ∀ (i : Nat) (o : Oper) (e : Edge), ops[i]? = some o → e ∈ o.after.toList → Region.binds .any e = true → e.on < i)
    (hnil : Region.ready .any ops listed = []) : ∀ i, i < ops.size → lst listed i = true := by
  intro i
  induction i using Nat.strongRecOn with
  | _ i ih =>
    intro hi
    cases hl : lst listed i with
    | true => rfl
    | false =>
      have := ready_mem (ops := ops) hsz (Array.getElem?_eq_getElem hi) hl (fun o e ho he hb => by
        have h1 := hA i o e ho he hb
        exact ih _ h1 (by omega))
      rw [hnil] at this
      cases this

theorem lst_set {listed : Array Bool} {i : Nat} (hi : i < listed.size) (j : Nat) : lst (listed.setIfInBounds i true) j = (decide (j = i) || lst listed j) := by
  unfold lst
  rw [Array.getD_eq_getD_getElem?, Array.getD_eq_getD_getElem?, Array.getElem?_setIfInBounds]
  by_cases h : i = j
  · subst h; simp [hi]
  · rw [if_neg h]
    have : ¬ j = i := fun e => h e.symm
    simp [this]

def unl (listed : Array Bool) : Nat := listed.toList.count false

theorem unl_set {listed : Array Bool} {i : Nat} (hi : i < listed.size) (hl : lst listed i = false) : unl (listed.setIfInBounds i true) + 1 = unl listed := by
  unfold unl
  rw [Array.toList_setIfInBounds, List.count_set (by simpa using hi)]
  have hg : listed.toList[i]'(by simpa using hi) = false := by
    unfold lst at hl
    rw [Array.getD_eq_getD_getElem?, Array.getElem?_eq_getElem hi] at hl
    simpa using hl
  have hpos : 0 < listed.toList.count false := List.count_pos_iff.2 (by rw [← hg]; exact List.getElem_mem _)
  rw [hg]
  simp only [beq_self_eq_true, if_true]
  have : (true == false) = false := rfl
  rw [this]
  simp only [Bool.false_eq_true, if_false]
  omega

theorem unl_zero {listed : Array Bool} (h : unl listed = 0) {i : Nat} (hi : i < listed.size) : lst listed i = true := by
  unfold unl at h
  rw [List.count_eq_zero] at h
  unfold lst
  rw [Array.getD_eq_getD_getElem?, Array.getElem?_eq_getElem hi]
  simp only [Option.getD_some]
  cases hb : listed[i] with
  | true => rfl
  | false => exact absurd (by rw [← hb]; simp) h

end
end Go.CE
