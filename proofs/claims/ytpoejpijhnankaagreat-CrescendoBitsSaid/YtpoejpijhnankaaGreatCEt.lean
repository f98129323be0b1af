/-
  The concrete evaluator: regions that draw their order are sound. No condition.
-/
import Derived.Test.YtpoejpijhnankaaGreatCEs
namespace Go.CE
open Go.RowKit

section
variable {P : Program} {w0 : World} {S : Nat → Prop} {nt : Nat} {call : Caller} {ops : Array Oper}

theorem TRel.of_get {φ : Phi} {n : Nat} {t t' : Tr AVal} {arr : Array Value} (T : TRel φ nt n t arr) (h : ∀ s, t'.get s = t.get s) : TRel φ nt n t' arr :=
  ⟨T.size, fun i hi => by rw [h]; exact T.get i hi, fun i hi => by rw [h]; exact T.out i hi, fun i v hv => T.wf i v (by rw [← h]; exact hv)⟩

noncomputable def concT (φ : Phi) (nt : Nat) (t : Tr AVal) : Array Value := Array.ofFn (n := nt) fun i => concA φ ((t.get (bn i.val)).getD aundef)

theorem concT_rel {φ : Phi} {n : Nat} {t : Tr AVal} (h1 : ∀ i, nt ≤ i → t.get (bn i) = none) (h2 : ∀ i v, t.get i = some v → wfA φ n v) : TRel φ nt n t (concT φ nt t) :=
  ⟨by simp [concT], fun i hi => by simp [concT, hi], h1, h2⟩

/-- What an operation became, looked at alone. -/
theorem evOne_inv {φ : Phi} {t : Tr AVal} {h h2 : AHeap} {a : Act} {v : AVal} {o : Oper} (e : evOne call (cOper P nt ops o) t h = some (v, h2)) (T : TRel φ nt h.n.toNat t a.tmps) :
    (Region.wanted o (yielded ops a.tmps) = true ∧ cOp P o.op call t h = some (v, h2)) ∨ (Region.wanted o (yielded ops a.tmps) = false ∧ v = aundef ∧ h2 = h) := by
  unfold cOper at e
  have bad : ∀ {o' : ROper}, o' = ⟨none, opBad, none⟩ → evOne call o' t h = some (v, h2) → False := by
    intro o' ho' e; subst ho'; cases e
  cases hd : inT nt o.dst with
  | false => rw [hd] at e; exact (bad rfl e).elim
  | true =>
    rw [hd] at e
    simp only [cond_true] at e
    have fin : ∀ g, evOne call ⟨o.dst.map bn, cOp P o.op, g⟩ t h = some (v, h2) → (want t g = true ∧ cOp P o.op call t h = some (v, h2)) ∨ (want t g = false ∧ v = aundef ∧ h2 = h) := by
      intro g e
      unfold evOne at e
      simp only at e
      cases hw : want t g with
      | false => rw [hw] at e; cases e; exact .inr ⟨rfl, rfl, rfl⟩
      | true => rw [hw] at e; exact .inl ⟨rfl, e⟩
    split at e
    · rename_i hg
      rcases fin none e with hh | ⟨hw, _⟩
      · exact .inl ⟨by simp [Region.wanted, hg], hh.2⟩
      · cases hw
    · rename_i j b hg
      split at e
      · rename_i d hjd
        cases hb : Nat.ble (Nat.succ d) nt with
        | false => rw [hb] at e; exact (bad rfl e).elim
        | true =>
          rw [hb] at e
          have hyd := yielded_eq T hjd (ble_true hb) b
          rcases fin (some (bn d, b)) e with ⟨hw, hh⟩ | ⟨hw, hh⟩
          · exact .inl ⟨by simp only [Region.wanted, hg]; rw [hyd]; exact hw, hh⟩
          · exact .inr ⟨by simp only [Region.wanted, hg]; rw [hyd]; exact hw, hh⟩
      · exact (bad rfl e).elim

theorem evOne_dst {t : Tr AVal} {h : AHeap} {r : AVal × AHeap} {o : Oper} (e : evOne call (cOper P nt ops o) t h = some r) : (cOper P nt ops o).dst = o.dst.map bn ∧ inT nt o.dst = true := by
  have bad : ∀ {o' : ROper}, o' = ⟨none, opBad, none⟩ → evOne call o' t h = some r → False := by
    intro o' ho' e; subst ho'; cases e
  unfold cOper at e ⊢
  cases hd : inT nt o.dst with
  | false => rw [hd] at e; exact (bad rfl e).elim
  | true =>
    rw [hd] at e
    simp only [cond_true] at e ⊢
    cases hg : o.guard with
    | none => exact ⟨rfl, trivial⟩
    | some gb =>
      obtain ⟨j, b⟩ := gb
      rw [hg] at e
      simp only at e ⊢
      cases hj : (ops[j]?).bind (·.dst) with
      | none => rw [hj] at e; exact (bad rfl e).elim
      | some d =>
        rw [hj] at e
        simp only at e ⊢
        cases hb : Nat.ble (Nat.succ d) nt with
        | false => rw [hb] at e; exact (bad rfl e).elim
        | true => exact ⟨rfl, trivial⟩

theorem drawOk_spec (hok : drawOk ops (befs ops.toList) = true) : (∀ (i : Nat) (o : Oper), ops[i]? = some o → (∀ cs b, o.op ≠ .select cs b) ∧ ∀ e ∈ o.after.toList, Region.binds .any e = true → e.on < i) ∧
    ∀ (i j : Nat) (oi oj : Oper), ops[i]? = some oi → ops[j]? = some oj → i < j → bef (befs ops.toList) i j = true ∨ (oi.apart ops oj = true ∧ (quietOp oi.op = true ∨ quietOp oj.op = true)) := by
  obtain ⟨h1, h2⟩ := and2 hok
  constructor
  · intro i o ho
    have := allI_spec _ 0 h1 i o (by rw [Array.getElem?_toList]; exact ho)
    rw [Nat.zero_add] at this
    obtain ⟨g1, g2⟩ := and2 this
    refine ⟨(fun cs b hh => by rw [hh] at g1; cases g1), fun e he hb => ?_⟩
    rw [List.all_eq_true] at g2
    have := g2 e he
    rw [hb] at this
    exact ble_true (by simpa using this)
  · intro i j oi oj hi hj hlt
    have := allI_spec _ 0 h2 j oj (by rw [Array.getElem?_toList]; exact hj)
    rw [Nat.zero_add] at this
    have := allI_spec _ 0 this i oi (by rw [Array.getElem?_toList]; exact hi)
    rw [Nat.zero_add] at this
    simp only [Bool.or_eq_true] at this
    rcases this with (this | this) | this
    · have hle : Nat.ble (Nat.succ i) j = true := Nat.ble_eq_true_of_le hlt
      rw [hle] at this
      cases this
    · exact .inl this
    · obtain ⟨k1, k2⟩ := and2 this
      exact .inr ⟨k1, by simpa using k2⟩

theorem drawn_any (C : SoundC P call) {Q : Exit → Act → World → Prop} {a0 : Act} {t t2 : Tr AVal} {h : AHeap} {φ0 : Phi} {l : List (DOper × Tr AVal × AVal)} {hs : List AHeap} {ro : Option Nat}
    (hok : drawOk ops (befs ops.toList) = true) (hev : evD call (cDrawn P nt ops) t h = some (l, t2, hs)) (hch : checkD call hs l = true)
    (hQ : ∀ a2 w2, Next1 w0 S φ0 nt h t2 (lastH h hs) a0 a2 w2 → Q .normal a2 w2) :
    ∀ (fuel : Nat) (listed : Array Bool) (φ : Phi) (a : Act) (w : World) (Hk : AHeap), listed.size = ops.size → unl listed ≤ fuel → Clo ops (lst listed) → Ext h.n.toNat φ0 φ →
      hs[ce (lst listed) 0 (effs ops.toList)]? = some Hk → HRel w0 S φ Hk w → h.n.toNat ≤ Hk.n.toNat → TRel φ nt Hk.n.toNat (frL (lst listed) 0 (l.map dv) t) a.tmps → a.defers = a0.defers →
      wpAnyIn (FR ro) 0 P .any ops Q fuel listed a w := by
  obtain ⟨hA, hord⟩ := drawOk_spec hok
  obtain ⟨g1, g2, g3, g4, g5⟩ := evD_spec call _ _ _ _ _ _ hev
  have heff : (cDrawn P nt ops).map (·.eff) = effs ops.toList := cDrawnL_eff _ _ _ _ _ _ _
  rw [heff] at g3 g5
  -- what lies at a place
  have hl : ∀ (j : Nat) (o : Oper), ops[j]? = some o → ∃ tr v, l[j]? = some ((⟨cOper P nt ops o, (o.looksAt ops).map bn, !quietOp o.op, ce (fun k => bef (befs ops.toList) k j) 0 (effs ops.toList), ce (fun k => !bef (befs ops.toList) j k) 0 (effs ops.toList)⟩ : DOper), tr, v) := by
    intro j o ho
    have h1 : (cDrawn P nt ops)[j]? = some ⟨cOper P nt ops o, (o.looksAt ops).map bn, !quietOp o.op, ce (fun k => bef (befs ops.toList) k j) 0 (effs ops.toList), ce (fun k => !bef (befs ops.toList) j k) 0 (effs ops.toList)⟩ := by
      unfold cDrawn
      rw [cDrawnL_get, Array.getElem?_toList, ho, Nat.zero_add]
      rfl
    rw [← g1, List.getElem?_map] at h1
    cases hx : l[j]? with
    | none => rw [hx] at h1; cases h1
    | some x =>
      obtain ⟨d, tr, v⟩ := x
      rw [hx] at h1
      simp only [Option.map_some, Option.some.injEq] at h1
      exact ⟨tr, v, by rw [← h1]⟩
  have hlen : l.length = ops.size := by
    have h1 := congrArg List.length g1
    have h2 := congrArg List.length heff
    simp only [List.length_map, effs, Array.length_toList] at h1 h2
    omega
  have hdst : ∀ (j : Nat) (o : Oper) (d : DOper) (tr : Tr AVal) (v : AVal), ops[j]? = some o → l[j]? = some (d, tr, v) → d.rop.dst = o.dst.map bn ∧ inT nt o.dst = true := by
    intro j o d tr v ho hj
    obtain ⟨tr', v', hj'⟩ := hl j o ho
    cases hj.symm.trans hj'
    obtain ⟨_, hk, h', _, hone, _⟩ := g5 j _ tr v hj
    exact evOne_dst hone
  have hdv : ∀ (j : Nat) (d : Option BN) (v : AVal) (s : BN), (l.map dv)[j]? = some (d, v) → d = some s → ∃ o sn, ops[j]? = some o ∧ o.dst = some sn ∧ bn sn = s := by
    intro j d v s hj hd
    rw [List.getElem?_map] at hj
    cases hx : l[j]? with
    | none => rw [hx] at hj; cases hj
    | some x =>
      obtain ⟨d', tr, v'⟩ := x
      rw [hx] at hj
      simp only [Option.map_some, Option.some.injEq, dv, Prod.mk.injEq] at hj
      have hjl : j < ops.size := by
        have := (List.getElem?_eq_some_iff.1 hx).1
        omega
      have ho : ops[j]? = some ops[j] := Array.getElem?_eq_getElem hjl
      have := (hdst j _ d' tr v' ho hx).1
      rw [hj.1, hd] at this
      cases hod : (ops[j]).dst with
      | none => rw [hod] at this; cases this
      | some sn =>
        rw [hod] at this
        exact ⟨_, sn, ho, hod, by simpa using this.symm⟩
  have hes : ∀ (j : Nat), (effs ops.toList)[j]? = some true → ∃ o, ops[j]? = some o ∧ quietOp o.op = false := by
    intro j hj
    unfold effs at hj
    rw [List.getElem?_map, Array.getElem?_toList] at hj
    cases ho : ops[j]? with
    | none => rw [ho] at hj; cases hj
    | some o => rw [ho] at hj; exact ⟨o, rfl, by simpa using hj⟩
  have hes' : ∀ (j : Nat) (o : Oper), ops[j]? = some o → (effs ops.toList)[j]? = some (!quietOp o.op) := by
    intro j o ho
    unfold effs
    rw [List.getElem?_map, Array.getElem?_toList, ho]
    rfl
  intro fuel
  induction fuel with
  | zero =>
    intro listed φ a w Hk hsz hu hC hE hH HR hn T hdf
    have hall : ∀ i, i < ops.size → lst listed i = true := fun i hi => unl_zero (by omega) (by omega)
    have hnil : Region.ready .any ops listed = [] := by
      cases hr : Region.ready .any ops listed with
      | nil => rfl
      | cons i r =>
        obtain ⟨o, ho, h1, h2, h3⟩ := mem_ready (ops := ops) (listed := listed) (i := i) (by rw [hr]; simp)
        rw [hall i (by omega)] at h2
        cases h2
    refine ⟨hnil, hQ a w ⟨φ, hE, ?_, ?_, hdf, ?_⟩⟩
    all_goals
      have hk : Hk = lastH h hs := by
        have h1 := lastH_eq hs h (fun hh => by rw [hh] at g2; cases g2)
        rw [g3, Nat.add_sub_cancel] at h1
        rw [ce_congr (L := lst listed) (L' := fun _ => true) _ 0 (fun j hj => by obtain ⟨o, ho, _⟩ := hes j hj; rw [Nat.zero_add]; exact hall j (Array.getElem?_eq_some_iff.1 ho).1)] at hH
        exact Option.some.inj (hH.symm.trans h1)
      subst hk
    · exact HR
    · rw [g4, ← frL_congr (L := lst listed) (l.map dv) 0 t (fun j hj => by rw [Nat.zero_add]; exact hall j (by simpa [hlen] using hj))]
      exact T
    · exact hn
  | succ fuel ih =>
    intro listed φ a w Hk hsz hu hC hE hH HR hn T hdf
    refine ⟨fun hnil => ?_, fun i hi => ?_⟩
    · have hall := all_listed (ops := ops) hsz (fun i o e ho he hb => (hA i o ho).2 e he hb) hnil
      have hk : Hk = lastH h hs := by
        have h1 := lastH_eq hs h (fun hh => by rw [hh] at g2; cases g2)
        rw [g3, Nat.add_sub_cancel] at h1
        rw [ce_congr (L := lst listed) (L' := fun _ => true) _ 0 (fun j hj => by obtain ⟨o, ho, _⟩ := hes j hj; rw [Nat.zero_add]; exact hall j (Array.getElem?_eq_some_iff.1 ho).1)] at hH
        exact Option.some.inj (hH.symm.trans h1)
      subst hk
      refine hQ a w ⟨φ, hE, HR, ?_, hdf, hn⟩
      rw [g4, ← frL_congr (L := lst listed) (l.map dv) 0 t (fun j hj => by rw [Nat.zero_add]; exact hall j (by simpa [hlen] using hj))]
      exact T
    · obtain ⟨o, ho, hlt, hli, hR⟩ := mem_ready hi
      obtain ⟨tr, v, hj⟩ := hl i o ho
      obtain ⟨htr, hk0, h0', hk0s, hone0, heff0⟩ := g5 i _ tr v hj
      obtain ⟨hnosel, hedge⟩ := hA i o ho
      obtain ⟨hdd, hdin⟩ := hdst i o _ tr v ho hj
      -- who is listed, as to what lies apart
      have before : ∀ j, bef (befs ops.toList) j i = true → lst listed j = true := fun j hb => bef_spec hb hC hR
      have after : ∀ j, bef (befs ops.toList) i j = true → lst listed j = false := by
        intro j hb
        cases hj : lst listed j with
        | false => rfl
        | true =>
          have := bef_spec hb hC (hC j hj)
          rw [hli] at this
          cases this
      have hCi : Clo ops (fun k => decide (k < i)) := by
        intro j hj o' e ho' he hb
        have := (hA j o' ho').2 e he hb
        simp only [decide_eq_true_eq] at hj ⊢
        omega
      have hRi : Rdy ops (fun k => decide (k < i)) i := by
        intro o' e ho' he hb
        have := (hA i o' ho').2 e he hb
        simpa using this
      -- the slots looked at
      have hagree : ∀ s ∈ (o.looksAt ops).map bn, (frL (fun k => decide (k < i)) 0 (l.map dv) t).get s = (frL (lst listed) 0 (l.map dv) t).get s := by
        intro s hs'
        obtain ⟨sn, hsn, rfl⟩ := List.mem_map.1 hs'
        rw [frL_get, frL_get]
        congr 1
        refine lw_congr _ 0 fun j d v hjd hds => ?_
        obtain ⟨oj, sj, hoj, hsj, hbe⟩ := hdv j d v _ hjd hds
        have := bn_inj hbe
        subst this
        rw [Nat.zero_add]
        rcases Nat.lt_trichotomy j i with hji | hji | hji
        · rcases hord j i oj o hoj ho hji with hb | ⟨hap, _⟩
          · rw [before j hb]; simpa using hji
          · exact absurd hsn ((Oper.apart_spec hap).1 _ hsj)
        · subst hji; rw [hli]; simp
        · rcases hord i j o oj ho hoj hji with hb | ⟨hap, _⟩
          · rw [after j hb]; simp; omega
          · exact absurd hsn ((Oper.apart_spec hap).2.2 _ hsj)
      have htrg : ∀ s, tr.get s = (frL (lst listed) 0 (l.map dv) t).get s ∧ s ∈ (o.looksAt ops).map bn ∨ tr.get s = none := by
        intro s
        classical
        have := restr_get (frL (fun k => decide (k < i)) 0 (l.map dv) t) s ((o.looksAt ops).map bn)
        rw [← htr] at this
        by_cases hm : s ∈ (o.looksAt ops).map bn
        · rw [if_pos hm, hagree s hm] at this; exact .inl ⟨this, hm⟩
        · rw [if_neg hm] at this; exact .inr this
      have Tr' : TRel φ nt Hk.n.toNat tr (concT φ nt tr) := by
        refine concT_rel (fun j hj => ?_) (fun s v hv => ?_)
        · rcases htrg (bn j) with ⟨h1, _⟩ | h1
          · rw [h1]; exact T.out j hj
          · exact h1
        · rcases htrg s with ⟨h1, _⟩ | h1
          · rw [h1] at hv; exact T.wf s v hv
          · rw [h1] at hv; cases hv
      have htmps : ∀ sn ∈ o.looksAt ops, a.tmps[sn]? = (concT φ nt tr)[sn]? := by
        intro sn hsn
        by_cases hlt' : sn < nt
        · rw [T.get sn hlt', Tr'.get sn hlt']
          have hm : bn sn ∈ (o.looksAt ops).map bn := List.mem_map.2 ⟨sn, hsn, rfl⟩
          rw [← hagree _ hm]
          classical
          have := restr_get (frL (fun k => decide (k < i)) 0 (l.map dv) t) (bn sn) ((o.looksAt ops).map bn)
          rw [← htr, if_pos hm] at this
          rw [this]
        · have e1 : a.tmps[sn]? = none := Array.getElem?_eq_none (by rw [T.size]; exact Nat.le_of_not_lt hlt')
          have e2 : (concT φ nt tr)[sn]? = none := Array.getElem?_eq_none (by rw [Tr'.size]; exact Nat.le_of_not_lt hlt')
          rw [e1, e2]
      have hexec : execOp a.eval o = execOp ({ tmps := concT φ nt tr, defers := [] } : Act).eval o := by
        refine execOp_congr o hnosel fun x hx => ?_
        cases x with
        | tmp sn =>
          have := htmps sn (List.mem_append_left _ (List.mem_filterMap.2 ⟨.tmp sn, by simpa using hx, rfl⟩))
          simp only [Act.eval, Array.getD_eq_getD_getElem?, this]
        | _ => rfl
      have hwant : Region.wanted o (yielded ops a.tmps) = Region.wanted o (yielded ops (concT φ nt tr)) := by
        unfold Region.wanted
        cases hg : o.guard with
        | none => rfl
        | some gb =>
          obtain ⟨g, b⟩ := gb
          simp only
          have : yielded ops a.tmps g = yielded ops (concT φ nt tr) g := by
            unfold yielded
            cases hd : (ops[g]?).bind (·.dst) with
            | none => rfl
            | some sn =>
              have := htmps sn (List.mem_append_right _ (by simp [hg, hd]))
              simp only [Option.bind_some, this]
          rw [this]
      -- the sets' sizes
      have hone : ∃ h', evOne call (cOper P nt ops o) tr Hk = some (v, h') ∧ hs[ce (lst (listed.setIfInBounds i true)) 0 (effs ops.toList)]? = some h' := by
        cases hq : quietOp o.op with
        | false =>
          have hce : ce (lst listed) 0 (effs ops.toList) = ce (fun k => decide (k < i)) 0 (effs ops.toList) := by
            refine ce_congr _ 0 fun j hj => ?_
            obtain ⟨oj, hoj, hqj⟩ := hes j hj
            rw [Nat.zero_add]
            rcases Nat.lt_trichotomy j i with hji | hji | hji
            · rcases hord j i oj o hoj ho hji with hb | ⟨_, hqq⟩
              · rw [before j hb]; simpa using hji
              · rw [hq, hqj] at hqq; simp at hqq
            · subst hji; rw [hli]; simp
            · rcases hord i j o oj ho hoj hji with hb | ⟨_, hqq⟩
              · rw [after j hb]; simp; omega
              · rw [hq, hqj] at hqq; simp at hqq
          rw [hce] at hH
          cases hH.symm.trans hk0s
          refine ⟨h0', hone0, ?_⟩
          have := heff0 (by simp [hq])
          rw [← hce] at this
          rw [ce_add (L := lst listed) (effs ops.toList) 0 i (by rw [hes' i o ho, hq]; rfl) (by rw [Nat.zero_add]; exact hli) (by rw [lst_set hlt]; simp) (fun j hj => by rw [Nat.zero_add] at hj; rw [lst_set hlt]; simp [hj])]
          exact this
        | true =>
          have hsame : ce (lst (listed.setIfInBounds i true)) 0 (effs ops.toList) = ce (lst listed) 0 (effs ops.toList) := by
            refine ce_congr _ 0 fun j hj => ?_
            rw [Nat.zero_add, lst_set hlt]
            obtain ⟨oj, hoj, hqj⟩ := hes j hj
            have : j ≠ i := fun hh => by subst hh; cases ho.symm.trans hoj; rw [hq] at hqj; cases hqj
            simp [this]
          have hlo : ce (fun k => bef (befs ops.toList) k i) 0 (effs ops.toList) ≤ ce (lst listed) 0 (effs ops.toList) := ce_mono _ 0 fun j _ hb => by rw [Nat.zero_add] at hb ⊢; exact before j hb
          have hhi : ce (lst listed) 0 (effs ops.toList) ≤ ce (fun k => !bef (befs ops.toList) i k) 0 (effs ops.toList) := ce_mono _ 0 fun j _ hb => by
            rw [Nat.zero_add] at hb ⊢
            cases hbb : bef (befs ops.toList) i j with
            | false => rfl
            | true => rw [after j hbb] at hb; cases hb
          have hlo0 : ce (fun k => bef (befs ops.toList) k i) 0 (effs ops.toList) ≤ ce (fun k => decide (k < i)) 0 (effs ops.toList) := ce_mono _ 0 fun j _ hb => by rw [Nat.zero_add] at hb ⊢; exact bef_spec hb hCi hRi
          have hhi0 : ce (fun k => decide (k < i)) 0 (effs ops.toList) ≤ ce (fun k => !bef (befs ops.toList) i k) 0 (effs ops.toList) := ce_mono _ 0 fun j _ hb => by
            rw [Nat.zero_add] at hb ⊢
            cases hbb : bef (befs ops.toList) i j with
            | false => rfl
            | true =>
              have := bef_spec hbb hCi (hCi j hb)
              simp at this
          have hex : ∃ h', evOne call (cOper P nt ops o) tr Hk = some (v, h') := by
            rcases checkD_spec l hch i _ tr v hj (by simp [hq]) with heq | hall
            · simp only at heq
              have : ce (lst listed) 0 (effs ops.toList) = ce (fun k => decide (k < i)) 0 (effs ops.toList) := by omega
              rw [this] at hH
              cases hH.symm.trans hk0s
              exact ⟨h0', hone0⟩
            · exact hall _ Hk hlo hhi hH
          obtain ⟨h', hh'⟩ := hex
          refine ⟨h', hh', ?_⟩
          have : h' = Hk := by
            rcases evOne_inv (a := { tmps := concT φ nt tr, defers := [] }) hh' Tr' with ⟨_, hc⟩ | ⟨_, _, hc⟩
            · exact still_cOp P o.op hq _ _ _ _ _ hc
            · exact hc
          rw [this, hsame]
          exact hH
      obtain ⟨h', hone, hH'⟩ := hone
      have hC' : Clo ops (lst (listed.setIfInBounds i true)) := by
        intro j hj o' e ho' he hb
        rw [lst_set hlt] at hj ⊢
        rw [Bool.or_eq_true]
        right
        simp only [Bool.or_eq_true, decide_eq_true_eq] at hj
        rcases hj with hj | hj
        · subst hj
          exact hR o' e ho' he hb
        · exact hC j hj o' e ho' he hb
      have next : ∀ (φ2 : Phi) (w2 : World), Ext Hk.n.toNat φ φ2 → HRel w0 S φ2 h' w2 → wfA φ2 h'.n.toNat v → Hk.n.toNat ≤ h'.n.toNat → wpAnyIn (FR ro) 0 P .any ops Q fuel (listed.setIfInBounds i true) (a.put o.dst (concA φ2 v)) w2 := by
        intro φ2 w2 he H2 hv hle
        refine ih _ φ2 _ w2 h' (by simpa using hsz) ?_ hC' (hE.trans he hn) hH' H2 (Nat.le_trans hn hle) ?_ ((put_defers _ _ _).trans hdf)
        · have := unl_set hlt hli
          omega
        · refine TRel.of_get (TRel.put (T.ext he hle) hv o.dst hdin) fun s => ?_
          classical
          rw [setT_get, frL_get]
          have hri : (l.map dv)[i]? = some (o.dst.map bn, v) := by
            rw [List.getElem?_map, hj]
            simp only [Option.map_some, dv]
            rw [← hdd]
          by_cases hd : o.dst.map bn = some s
          · rw [if_pos hd]
            rw [hd] at hri
            rw [lw_last (l.map dv) 0 i v hri (by rw [Nat.zero_add, lst_set hlt]; simp) (fun j d u hij hjd hds => ?_)]
            · rfl
            · rw [Nat.zero_add, lst_set hlt]
              obtain ⟨oj, sj, hoj, hsj, hbe⟩ := hdv j d u _ hjd hds
              have hne : ¬ j = i := by omega
              simp only [hne, decide_false, Bool.false_or]
              rcases hord i j o oj ho hoj hij with hb | ⟨hap, _⟩
              · exact after j hb
              · cases hod : o.dst with
                | none => rw [hod] at hd; cases hd
                | some so =>
                  rw [hod] at hd
                  have : so = sj := bn_inj (by rw [hbe]; simpa using hd)
                  subst this
                  exact absurd hsj ((Oper.apart_spec hap).2.1 _ hod)
          · rw [if_neg hd, frL_get]
            congr 1
            refine lw_congr _ 0 fun j d u hjd hds => ?_
            rw [Nat.zero_add, lst_set hlt]
            have hne : ¬ j = i := fun hh => by
              subst hh
              rw [hri] at hjd
              cases hjd
              exact hd hds
            simp [hne]
      unfold wpOpIn
      simp only [ho]
      rcases evOne_inv (a := { tmps := concT φ nt tr, defers := [] }) hone Tr' with ⟨hw, hc⟩ | ⟨hw, hv, hh⟩
      · rw [if_pos (by rw [hwant]; exact hw)]
        exact op_wp2 C HR (ar := { tmps := concT φ nt tr, defers := [] }) Tr' hexec hc next
      · rw [if_neg (by rw [hwant, hw]; simp)]
        subst hv hh
        exact ⟨fun f _ => trivial, next φ w (Ext.refl _ _) HR (fun _ hv => by cases hv) (Nat.le_refl _)⟩

theorem ok_drawn (C : SoundC P call) (id : Nat) (ops : Array Oper) : CodeOk P w0 S nt call (.region id ops true) := by
  intro f fn round ro φ s s2 e a w Q hc R hr hQ
  have hc : (bif P.follows .mixedOrders && drawOk ops (befs ops.toList) then drawnF (cDrawn P nt ops) else badF) call f fn round s = some (e, s2) := hc
  cases hb : (P.follows .mixedOrders && drawOk ops (befs ops.toList)) with
  | false => rw [hb] at hc; cases hc
  | true =>
    rw [hb] at hc
    obtain ⟨hm, hok⟩ := and2 hb
    obtain ⟨t, d, h⟩ := s
    simp only [cond_true, drawnF] at hc
    cases hev : evD call (cDrawn P nt ops) t h with
    | none => rw [hev] at hc; cases hc
    | some p =>
      obtain ⟨l, t2, hs⟩ := p
      rw [hev] at hc
      simp only at hc
      cases hch : checkD call hs l with
      | false => rw [hch] at hc; cases hc
      | true =>
        rw [hch] at hc
        cases hc
        refine wpIn_region_any hm ?_
        have hz : ∀ i, lst (Array.replicate ops.size false) i = false := by
          intro i
          unfold lst
          rw [Array.getD_eq_getD_getElem?, Array.getElem?_replicate]
          split <;> rfl
        have hzf : lst (Array.replicate ops.size false) = fun _ => false := funext hz
        have hce : ∀ (es : List Bool) (i : Nat), ce (fun _ => false) i es = 0 := by
          intro es
          induction es with
          | nil => intro i; rfl
          | cons e es ih => intro i; unfold ce; simp [ih]
        have hfr : ∀ (r : List (Option BN × AVal)) (i : Nat) (t : Tr AVal), frL (fun _ => false) i r t = t := by
          intro r
          induction r with
          | nil => intro i t; rfl
          | cons p r ih => intro i t; obtain ⟨d, v⟩ := p; unfold frL; exact ih _ _
        obtain ⟨_, g2, _, _, _⟩ := evD_spec call _ _ _ _ _ _ hev
        refine drawn_any C hok hev hch (fun a2 w2 hn => hQ a2 w2 (next_after R hn)) ops.size (Array.replicate ops.size false) φ a _ h (by simp) (by unfold unl; simp [List.count_replicate]) ?_ (Ext.refl _ _) ?_ R.H.drew (Nat.le_refl _) ?_ rfl
        · intro i hi; rw [hz] at hi; cases hi
        · rw [hzf, hce]; exact g2
        · rw [hzf, hfr]; exact R.T

end
end Go.CE
