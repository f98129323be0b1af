/-
  Lemmas: CEte, CEtf, CEq, CEu, CEv, CEw, CEx, CEy, CEz, CEza, CEzb, CEzc, PEa, PEb, PEc. No condition.
-/
import Derived.Test.YtjnfoimeajajeaaGreatDoorYb
import Derived.RangeFuncLeaves
import Derived.RangeFuncIn
import Derived.Laws.Sem
import Derived.ProofKit
import Derived.OpenShut
import Derived.FnData
import Derived.MakeChecks
section
namespace Go.CE
open Go.RowKit
section
variable {P : Program} {w0 : World} {S : Nat → Prop} {nt : Nat} {call : Caller} {ops : Array Oper}
theorem drawOk2_spec (hok : drawOk2 P ops (befs ops.toList) = true) : (∀ (i : Nat) (o : Oper), ops[i]? = some o → (∀ cs b, o.op ≠ .select cs b) ∧ ∀ e ∈ o.after.toList, Region.binds .any e = true → e.on < i) ∧
  ∀ (i j : Nat) (oi oj : Oper), ops[i]? = some oi → ops[j]? = some oj → i < j → bef (befs ops.toList) i j = true ∨ (oi.apart ops oj = true ∧ (anchor P oi.op = false ∨ anchor P oj.op = false)) := by
 obtain ⟨h1, h2⟩ := and2 hok
 constructor
 ·intro i o ho
  have := allI_spec _ 0 h1 i o (by rw [Array.getElem?_toList]; exact ho)
  rw [Nat.zero_add] at this
  obtain ⟨g1, g2⟩ := and2 this
  refine ⟨(fun cs b hh => by rw [hh] at g1; cases g1), fun e he hb => ?_⟩
  rw [List.all_eq_true] at g2
  have := g2 e he
  rw [hb] at this
  exact ble_true (by simpa using this)
 ·intro i j oi oj hi hj hlt
  have := allI_spec _ 0 h2 j oj (by rw [Array.getElem?_toList]; exact hj)
  rw [Nat.zero_add] at this
  have := allI_spec _ 0 this i oi (by rw [Array.getElem?_toList]; exact hi)
  rw [Nat.zero_add] at this
  simp only [Bool.or_eq_true] at this
  rcases this with (this | this) | this
  ·have hle : Nat.ble (Nat.succ i) j = true := Nat.ble_eq_true_of_le hlt
   rw [hle] at this
   cases this
  ·exact .inl this
  ·obtain ⟨k1, k2⟩ := and2 this
   exact .inr ⟨k1, by simpa using k2⟩
theorem sameG_spec {n0 : Nat} {d : GOper} {tr : Tr AVal} {v : AVal} {mks : List (Nat × Nat × AObj)} : ∀ (hs : List AHeap) (c : Nat), sameG call n0 d tr v mks c hs = true → ∀ (k : Nat) (hk : AHeap), hs[k]? = some hk →
  ∃ h', evOne call d.rop tr ⟨hk.n, delH n0 d.hide (fullT n0 (c + k) mks hk.t)⟩ = some (v, h')
 | [], _, _, k, hk, hh => by simp at hh
 | h :: hs, c, e, k, hk, hh => by
  unfold sameG at e
  split at e
  ·rename_i v' h' hv
   obtain ⟨e1, e2⟩ := and2 e
   cases k with
   | zero =>
    simp only [List.getElem?_cons_zero, Option.some.injEq] at hh
    subst hh
    exact ⟨h', by rw [Nat.add_zero, hv, eqA_eq e1]⟩
   | succ k =>
    have := sameG_spec hs (Nat.succ c) e2 k hk (by simpa using hh)
    rwa [show Nat.succ c + k = c + (k + 1) by omega] at this
  ·cases e
theorem checkG_spec {n0 : Nat} {mks : List (Nat × Nat × AObj)} {hs : List AHeap} : ∀ (l : List GE), checkG call n0 mks hs l = true → ∀ (j : Nat) (g : GE), l[j]? = some g → g.d.eff = false → g.d.mkb = false →
  g.d.lo = g.d.hi ∨ ∀ k hk, g.d.lo ≤ k → k ≤ g.d.hi → hs[k]? = some hk → ∃ h', evOne call g.d.rop g.tr ⟨hk.n, delH n0 g.d.hide (fullT n0 k mks hk.t)⟩ = some (g.v, h')
 | [], _, j, g, hj, _, _ => by simp at hj
 | g0 :: l, e, j, g, hj, hd, hm => by
  obtain ⟨e1, e2⟩ := and2 e
  cases j with
  | zero =>
   simp only [List.getElem?_cons_zero, Option.some.injEq] at hj
   subst hj
   rw [hd, hm] at e1
   simp only [Bool.false_or, Bool.or_eq_true] at e1
   rcases e1 with e1 | e1
   ·exact .inl (beq_true e1)
   ·refine .inr fun k hk h1 h2 h3 => ?_
    have := sameG_spec _ _ e1 (k - g0.d.lo) hk (by
     rw [List.getElem?_take_of_lt (by show k - g0.d.lo < Nat.sub (Nat.succ g0.d.hi) g0.d.lo; have : Nat.sub (Nat.succ g0.d.hi) g0.d.lo = g0.d.hi + 1 - g0.d.lo := rfl; omega), List.getElem?_drop]
     rw [show g0.d.lo + (k - g0.d.lo) = k by omega]
     exact h3)
    rwa [show g0.d.lo + (k - g0.d.lo) = k by omega] at this
  | succ j => exact checkG_spec l e2 j g (by simpa using hj) hd hm
theorem drawn_any2 (C : SoundC P call) {Q : Exit → Act → World → Prop} {a0 : Act} {t t2 : Tr AVal} {hh0 h0 h2 : AHeap} {φ0 : Phi} {l : List GE} {ro : Option Nat} {n0 : Nat}
  (hok : drawOk2 P ops (befs ops.toList) = true) (X : Txt P nt call ops n0 t t2 h0 h2 l) (hch : checkG call n0 (mksG n0 0 0 l) (h0 :: hsG l) l = true) (hn0 : hh0.n.toNat = n0) (hh0n : h0.n.toNat = n0 + ops.size)
  (hQ : ∀ a2 w2, Next1 w0 S φ0 nt hh0 t2 h2 a0 a2 w2 → Q .normal a2 w2) :
  ∀ (fuel : Nat) (listed : Array Bool) (φ : Phi) (a : Act) (w : World) (Hk H : AHeap), listed.size = ops.size → unl listed ≤ fuel → Clo ops (lst listed) → Ext n0 φ0 φ →
   (h0 :: hsG l)[ce (lst listed) 0 (ancs P ops.toList)]? = some Hk → Spc n0 ops.size l (lst listed) (ce (lst listed) 0 (ancs P ops.toList)) Hk H → HRel w0 S φ H w → n0 + ops.size ≤ H.n.toNat →
   TRel φ nt H.n.toNat (frL (lst listed) 0 (l.map gdv) t) a.tmps → a.defers = a0.defers → (∀ m, m < ops.size → lst listed m = false → (φ (nm n0 m)).ok = false) →
   wpAnyIn (FR ro) 0 P .any ops Q fuel listed a w := by
 obtain ⟨hA, hord⟩ := drawOk2_spec hok
 have hA' : ∀ (i : Nat) (o : Oper), ops[i]? = some o → ∀ e ∈ o.after.toList, Region.binds .any e = true → e.on < i := fun i o ho => (hA i o ho).2
 have hbef : ∀ i j, bef (befs ops.toList) i j = true → i < j := by
  intro i j hb
  have hC : Clo ops (fun k => decide (k < j)) := by
   intro q hq o' e ho' he hb'
   have := hA' q o' ho' e he hb'
   simp only [decide_eq_true_eq] at hq ⊢
   omega
  have hR : Rdy ops (fun k => decide (k < j)) j := by
   intro o' e ho' he hb'
   have := hA' j o' ho' e he hb'
   simpa using this
  simpa using bef_spec hb hC hR
 have hspc := X.spc hA'
 have hcmE : ∀ j, cmG l j = ce (fun k => decide (k < j)) 0 (ancs P ops.toList) := fun j => by unfold cmG; rw [X.es]
 have hdst : ∀ (j : Nat) (o : Oper) (g : GE), ops[j]? = some o → l[j]? = some g → g.d.rop.dst = o.dst.map bn ∧ inT nt o.dst = true := by
  intro j o g ho hj
  obtain ⟨g', hj', hd⟩ := X.ent j o ho
  cases hj.symm.trans hj'
  rw [hd]
  rcases kinds3 P o.op with hm | ⟨hm, ha⟩ | ⟨hm, ha, _⟩
  ·obtain ⟨_, _, h', he, _⟩ := X.made ho hj hm
   exact evOne_dst he
  ·obtain ⟨h', he, _⟩ := X.anchor ho hj hm ha
   exact evOne_dst he
  ·obtain ⟨_, h', he⟩ := X.quiet ho hj hm ha
   exact evOne_dst he
 have hdv : ∀ (j : Nat) (d : Option BN) (v : AVal) (s : BN), (l.map gdv)[j]? = some (d, v) → d = some s → ∃ o sn, ops[j]? = some o ∧ o.dst = some sn ∧ bn sn = s := by
  intro j d v s hj hd
  rw [List.getElem?_map] at hj
  cases hx : l[j]? with
  | none => rw [hx] at hj; cases hj
  | some g =>
   rw [hx] at hj
   simp only [Option.map_some, Option.some.injEq, gdv, Prod.mk.injEq] at hj
   have hjl : j < ops.size := by
    have := (List.getElem?_eq_some_iff.1 hx).1
    have := X.len
    omega
   have ho : ops[j]? = some ops[j] := Array.getElem?_eq_getElem hjl
   have := (hdst j _ g ho hx).1
   rw [hj.1, hd] at this
   cases hod : (ops[j]).dst with
   | none => rw [hod] at this; cases this
   | some sn =>
    rw [hod] at this
    exact ⟨_, sn, ho, hod, by simpa using this.symm⟩
 have hes : ∀ (j : Nat), (ancs P ops.toList)[j]? = some true → ∃ o, ops[j]? = some o ∧ anchor P o.op = true := by
  intro j hj
  unfold ancs at hj
  rw [List.getElem?_map, Array.getElem?_toList] at hj
  cases ho : ops[j]? with
  | none => rw [ho] at hj; cases hj
  | some o => rw [ho] at hj; exact ⟨o, rfl, by simpa using hj⟩
 have hes' : ∀ (j : Nat) (o : Oper), ops[j]? = some o → (ancs P ops.toList)[j]? = some (anchor P o.op) := by
  intro j o ho
  unfold ancs
  rw [List.getElem?_map, Array.getElem?_toList, ho]
  rfl
 have hhid : ∀ (i m : Nat) (om : Oper), ops[m]? = some om → (m ∈ hides (befs ops.toList) i 0 ops.toList ↔ (mkOp om.op && bef (befs ops.toList) m i) = false) := by
  intro i m om hom
  rw [hides_mem]
  constructor
  ·rintro ⟨j, o, h1, h2, h3⟩
   rw [Nat.zero_add] at h2 h3
   subst h2
   rw [Array.getElem?_toList] at h1
   cases hom.symm.trans h1
   exact h3
  ·intro hq
   exact ⟨m, om, by rw [Array.getElem?_toList]; exact hom, by omega, by rw [Nat.zero_add]; exact hq⟩
 have hhidlt : ∀ (i m : Nat), m ∈ hides (befs ops.toList) i 0 ops.toList → m < ops.size := by
  intro i m hm
  rw [hides_mem] at hm
  obtain ⟨j, o, h1, h2, _⟩ := hm
  rw [Array.getElem?_toList] at h1
  have := (Array.getElem?_eq_some_iff.1 h1).1
  omega
 have hFG : ∀ (j : Nat) (o : Oper) (g : GE) (Hk : AHeap) (m : Nat), ops[j]? = some o → l[j]? = some g → mkOp o.op = false → anchor P o.op = true → (h0 :: hsG l)[cmG l j]? = some Hk → m ∈ hides (befs ops.toList) j 0 ops.toList →
   FG n0 l (cmG l j + 1) g.ha m = FG n0 l (cmG l j) Hk m := by
  intro j o g Hk m ho hg hm ha hHk hmem
  have hmN := hhidlt j m hmem
  obtain ⟨h', k1, k2, k3, k4⟩ := X.anchor ho hg hm ha
  have hjN : j < ops.size := (Array.getElem?_eq_some_iff.1 ho).1
  obtain ⟨Hk', hHk', Sp⟩ := hspc j (by omega)
  cases hHk.symm.trans hHk'
  have hhb := (X.step j g hg).2.1
  have hgm : g.ha.t.get (nm n0 m) = if decide (m < j) = true then FG n0 l (cmG l j) Hk m else none := by
   rw [(k3 m hmem).1, hhb]; exact Sp.res m hmN
  show (if cmG l j + 1 ≤ cmG l m then obG n0 l m else g.ha.t.get (nm n0 m)) = if cmG l j ≤ cmG l m then obG n0 l m else Hk.t.get (nm n0 m)
  rcases Nat.lt_trichotomy m j with hmj | hmj | hmj
  ·have hle : cmG l m ≤ cmG l j := ce_mono _ 0 fun k _ hk => by simp only [decide_eq_true_eq] at hk ⊢; omega
   rw [if_neg (by omega), hgm, if_pos (by simpa using hmj)]
  ·subst hmj
   rw [if_neg (by omega), hgm, if_neg (by simp), if_pos (Nat.le_refl _), X.ob ho hg, hm]
   rfl
  ·have hle : cmG l j + 1 ≤ cmG l m := by
    have h1 : cmG l (j + 1) = cmG l j + 1 := by
     refine ce_add _ 0 j ?_ (by simp) (by simp) (fun k hk => by rw [Nat.zero_add] at hk; simp only [decide_eq_decide]; omega)
     rw [X.es, hes' j o ho, ha]
    have h2 : cmG l (j + 1) ≤ cmG l m := ce_mono _ 0 fun k _ hk => by simp only [decide_eq_true_eq] at hk ⊢; omega
    omega
   rw [if_pos hle, if_pos (by omega)]
 have FGu : ∀ (k : Nat) (Hk : AHeap) (m : Nat), m < ops.size → (h0 :: hsG l)[k]? = some Hk → (∀ (j : Nat) (oj : Oper), ops[j]? = some oj → anchor P oj.op = true → cmG l j < k → m ∈ hides (befs ops.toList) j 0 ops.toList) → FG n0 l k Hk m = obG n0 l m := by
  intro k
  induction k with
  | zero => intro Hk m _ _ _; exact if_pos (Nat.zero_le _)
  | succ k ih =>
   intro Hk m hmN hHk hall
   rw [List.getElem?_cons_succ] at hHk
   obtain ⟨j, g, k1, k2, k3, k4⟩ := hsG_inv l k Hk hHk
   have hjN : j < ops.size := by rw [← X.len]; exact (List.getElem?_eq_some_iff.1 k1).1
   have ho : ops[j]? = some ops[j] := Array.getElem?_eq_getElem hjN
   obtain ⟨g', hg', hd⟩ := X.ent j _ ho
   cases k1.symm.trans hg'
   have ha : anchor P ops[j].op = true := by rw [hd] at k2; exact k2
   have hm : mkOp ops[j].op = false := by
    cases hm : mkOp ops[j].op with
    | false => rfl
    | true => rw [mk_not_anchor hm] at ha; cases ha
   obtain ⟨Hk', hHk', _⟩ := hspc j (by omega)
   have := hFG j _ g Hk' m ho k1 hm ha hHk' (hall j _ ho ha (by omega))
   rw [k3, k4] at this
   rw [this]
   rw [k3] at hHk'
   exact ih Hk' m hmN hHk' fun j oj hoj haj hlt => hall j oj hoj haj (by omega)
 have FGn : ∀ (k : Nat) (Hk : AHeap) (m : Nat) (om : Oper), ops[m]? = some om → mkOp om.op = false → (h0 :: hsG l)[k]? = some Hk → FG n0 l k Hk m = none := by
  intro k Hk m om hom hmk hHk
  have hmN : m < ops.size := (Array.getElem?_eq_some_iff.1 hom).1
  obtain ⟨g, hg, _⟩ := X.ent m om hom
  rw [FGu k Hk m hmN hHk fun j oj _ _ _ => (hhid j m om hom).2 (by rw [hmk]; rfl), X.ob hom hg, hmk]
  rfl
 have hkNone : ∀ (k : Nat) (Hk : AHeap) (m : Nat), m < ops.size → (h0 :: hsG l)[k]? = some Hk → k ≤ cmG l m → Hk.t.get (nm n0 m) = none := by
  intro k Hk m hmN hHk hle
  cases k with
  | zero => simp only [List.getElem?_cons_zero, Option.some.injEq] at hHk; subst hHk; exact X.fresh m hmN
  | succ k =>
   rw [List.getElem?_cons_succ] at hHk
   obtain ⟨j, g, k1, k2, k3, k4⟩ := hsG_inv l k Hk hHk
   have hjN : j < ops.size := by rw [← X.len]; exact (List.getElem?_eq_some_iff.1 k1).1
   obtain ⟨Hk', _, Sp⟩ := hspc (j + 1) (by omega)
   rw [hAt_succ l h0 j g k1, k4] at Sp
   have hmj : ¬ m < j + 1 := fun hh => by
    have : cmG l m ≤ cmG l j := ce_mono _ 0 fun q _ hq => by simp only [decide_eq_true_eq] at hq ⊢; omega
    omega
   rw [Sp.res m hmN, if_neg (show ¬ decide (m < j + 1) = true by simpa using hmj)]
 have finish : ∀ (listed : Array Bool) (φ : Phi) (a : Act) (w : World) (Hk H : AHeap), (∀ i, i < ops.size → lst listed i = true) → Ext n0 φ0 φ →
   (h0 :: hsG l)[ce (lst listed) 0 (ancs P ops.toList)]? = some Hk → Spc n0 ops.size l (lst listed) (ce (lst listed) 0 (ancs P ops.toList)) Hk H → HRel w0 S φ H w → n0 + ops.size ≤ H.n.toNat →
   TRel φ nt H.n.toNat (frL (lst listed) 0 (l.map gdv) t) a.tmps → a.defers = a0.defers → Q .normal a w := by
  intro listed φ a w Hk H hall hE hH Sp HR hn T hdf
  have hce : ce (lst listed) 0 (ancs P ops.toList) = cmG l ops.size := by
   rw [hcmE]
   refine ce_congr _ 0 fun j hj => ?_
   obtain ⟨o, ho, _⟩ := hes j hj
   have := (Array.getElem?_eq_some_iff.1 ho).1
   rw [Nat.zero_add, hall j this]
   simpa using this
  rw [hce] at hH Sp
  obtain ⟨Hk', hHk', Sp'⟩ := hspc ops.size (Nat.le_refl _)
  cases hH.symm.trans hHk'
  rw [← X.fin] at Sp'
  have hg : ∀ b, h2.t.get b = H.t.get b := by
   intro b
   rcases name_cases n0 ops.size b with hb | ⟨m, hm, rfl⟩
   ·rw [Sp.old b hb, Sp'.old b hb]
   ·rw [Sp.res m hm, Sp'.res m hm, if_pos (hall m hm), if_pos (show decide (m < ops.size) = true by simpa using hm)]
  have hnn : h2.n.toNat = H.n.toNat := by rw [Sp.n, Sp'.n]
  refine hQ a w ⟨φ, by rw [hn0]; exact hE, HR.of_get hg hnn, ?_, hdf, by rw [hn0, hnn]; omega⟩
  rw [hnn, X.fr, ← frL_congr (L := lst listed) (l.map gdv) 0 t (fun j hj => by rw [Nat.zero_add]; exact hall j (by simpa [X.len] using hj))]
  exact T
 intro fuel
 induction fuel with
 | zero =>
  intro listed φ a w Hk H hsz hu hC hE hH Sp HR hn T hdf hbad
  have hall : ∀ i, i < ops.size → lst listed i = true := fun i hi => unl_zero (by omega) (by omega)
  have hnil : Region.ready .any ops listed = [] := by
   cases hr : Region.ready .any ops listed with
   | nil => rfl
   | cons i r =>
    obtain ⟨o, ho, h1, h2, h3⟩ := mem_ready (ops := ops) (listed := listed) (i := i) (by rw [hr]; simp)
    rw [hall i (by omega)] at h2
    cases h2
  exact ⟨hnil, finish listed φ a w Hk H hall hE hH Sp HR hn T hdf⟩
 | succ fuel ih =>
  intro listed φ a w Hk H hsz hu hC hE hH Sp HR hn T hdf hbad
  refine ⟨fun hnil => finish listed φ a w Hk H (all_listed (ops := ops) hsz (fun i o e ho he hb => hA' i o ho e he hb) hnil) hE hH Sp HR hn T hdf, fun i hi => ?_⟩
  obtain ⟨o, ho, hlt, hli, hR⟩ := mem_ready hi
  have hiN : i < ops.size := (Array.getElem?_eq_some_iff.1 ho).1
  obtain ⟨g, hj, hgd⟩ := X.ent i o ho
  obtain ⟨htr, hhb, _⟩ := X.step i g hj
  obtain ⟨hnosel, hedge⟩ := hA i o ho
  obtain ⟨hdd, hdin⟩ := hdst i o g ho hj
  generalize hk : ce (lst listed) 0 (ancs P ops.toList) = k at hH Sp
  have before : ∀ j, bef (befs ops.toList) j i = true → lst listed j = true := fun j hb => bef_spec hb hC hR
  have after : ∀ j, bef (befs ops.toList) i j = true → lst listed j = false := by
   intro j hb
   cases hj : lst listed j with
   | false => rfl
   | true =>
    have := bef_spec hb hC (hC j hj)
    rw [hli] at this
    cases this
  have hCi : Clo ops (fun k => decide (k < i)) := by
   intro j hj o' e ho' he hb
   have := hA' j o' ho' e he hb
   simp only [decide_eq_true_eq] at hj ⊢
   omega
  have hRi : Rdy ops (fun k => decide (k < i)) i := by
   intro o' e ho' he hb
   have := hA' i o' ho' e he hb
   simpa using this
  have hlk : g.d.looks = (o.looksAt ops).map bn := by rw [hgd]
  rw [hlk] at htr
  have hagree : ∀ s ∈ (o.looksAt ops).map bn, (frL (fun k => decide (k < i)) 0 (l.map gdv) t).get s = (frL (lst listed) 0 (l.map gdv) t).get s := by
   intro s hs'
   obtain ⟨sn, hsn, rfl⟩ := List.mem_map.1 hs'
   rw [frL_get, frL_get]
   congr 1
   refine lw_congr _ 0 fun j d v hjd hds => ?_
   obtain ⟨oj, sj, hoj, hsj, hbe⟩ := hdv j d v _ hjd hds
   have := bn_inj hbe
   subst this
   rw [Nat.zero_add]
   rcases Nat.lt_trichotomy j i with hji | hji | hji
   ·rcases hord j i oj o hoj ho hji with hb | ⟨hap, _⟩
    ·rw [before j hb]; simpa using hji
    ·exact absurd hsn ((Oper.apart_spec hap).1 _ hsj)
   ·subst hji; rw [hli]; simp
   ·rcases hord i j o oj ho hoj hji with hb | ⟨hap, _⟩
    ·rw [after j hb]; simp; omega
    ·exact absurd hsn ((Oper.apart_spec hap).2.2 _ hsj)
  have htrg : ∀ s, g.tr.get s = (frL (lst listed) 0 (l.map gdv) t).get s ∧ s ∈ (o.looksAt ops).map bn ∨ g.tr.get s = none := by
   intro s
   classical
   have := restr_get (frL (fun k => decide (k < i)) 0 (l.map gdv) t) s ((o.looksAt ops).map bn)
   rw [← htr] at this
   by_cases hm : s ∈ (o.looksAt ops).map bn
   ·rw [if_pos hm, hagree s hm] at this; exact .inl ⟨this, hm⟩
   ·rw [if_neg hm] at this; exact .inr this
  have Tr' : TRel φ nt H.n.toNat g.tr (concT φ nt g.tr) := by
   refine concT_rel (fun j hj => ?_) (fun s v hv => ?_)
   ·rcases htrg (bn j) with ⟨h1, _⟩ | h1
    ·rw [h1]; exact T.out j hj
    ·exact h1
   ·rcases htrg s with ⟨h1, _⟩ | h1
    ·rw [h1] at hv; exact T.wf s v hv
    ·rw [h1] at hv; cases hv
  have htmps : ∀ sn ∈ o.looksAt ops, a.tmps[sn]? = (concT φ nt g.tr)[sn]? := by
   intro sn hsn
   by_cases hlt' : sn < nt
   ·rw [T.get sn hlt', Tr'.get sn hlt']
    have hm : bn sn ∈ (o.looksAt ops).map bn := List.mem_map.2 ⟨sn, hsn, rfl⟩
    rw [← hagree _ hm]
    classical
    have := restr_get (frL (fun k => decide (k < i)) 0 (l.map gdv) t) (bn sn) ((o.looksAt ops).map bn)
    rw [← htr, if_pos hm] at this
    rw [this]
   ·have e1 : a.tmps[sn]? = none := Array.getElem?_eq_none (by rw [T.size]; exact Nat.le_of_not_lt hlt')
    have e2 : (concT φ nt g.tr)[sn]? = none := Array.getElem?_eq_none (by rw [Tr'.size]; exact Nat.le_of_not_lt hlt')
    rw [e1, e2]
  have hexec : execOp a.eval o = execOp ({ tmps := concT φ nt g.tr, defers := [] } : Act).eval o := by
   refine execOp_congr o hnosel fun x hx => ?_
   cases x with
   | tmp sn =>
    have := htmps sn (List.mem_append_left _ (List.mem_filterMap.2 ⟨.tmp sn, by simpa using hx, rfl⟩))
    simp only [Act.eval, Array.getD_eq_getD_getElem?, this]
   | _ => rfl
  have hwant : Region.wanted o (yielded ops a.tmps) = Region.wanted o (yielded ops (concT φ nt g.tr)) := by
   unfold Region.wanted
   cases hg : o.guard with
   | none => rfl
   | some gb =>
    obtain ⟨q, b⟩ := gb
    simp only
    have : yielded ops a.tmps q = yielded ops (concT φ nt g.tr) q := by
     unfold yielded
     cases hd : (ops[q]?).bind (·.dst) with
     | none => rfl
     | some sn =>
      have := htmps sn (List.mem_append_right _ (by simp [hg, hd]))
      simp only [Option.bind_some, this]
    rw [this]
  have hC' : Clo ops (lst (listed.setIfInBounds i true)) := by
   intro j hj o' e ho' he hb
   rw [lst_set hlt] at hj ⊢
   rw [Bool.or_eq_true]
   right
   simp only [Bool.or_eq_true, decide_eq_true_eq] at hj
   rcases hj with hj | hj
   ·subst hj
    exact hR o' e ho' he hb
   ·exact hC j hj o' e ho' he hb
  have next : ∀ (φ2 : Phi) (w2 : World) (Hk' H' : AHeap), ExtW H.n.toNat φ φ2 → Ext n0 φ φ2 → H.n.toNat ≤ H'.n.toNat →
    (h0 :: hsG l)[ce (lst (listed.setIfInBounds i true)) 0 (ancs P ops.toList)]? = some Hk' → Spc n0 ops.size l (lst (listed.setIfInBounds i true)) (ce (lst (listed.setIfInBounds i true)) 0 (ancs P ops.toList)) Hk' H' →
    HRel w0 S φ2 H' w2 → wfA φ2 H'.n.toNat g.v → (∀ m, m < ops.size → lst (listed.setIfInBounds i true) m = false → (φ2 (nm n0 m)).ok = false) →
    wpAnyIn (FR ro) 0 P .any ops Q fuel (listed.setIfInBounds i true) (a.put o.dst (concA φ2 g.v)) w2 := by
   intro φ2 w2 Hk' H' he he0 hle hH' Sp' H2 hv hbad'
   refine ih _ φ2 _ w2 Hk' H' (by simpa using hsz) ?_ hC' (hE.trans he0 (Nat.le_refl _)) hH' Sp' H2 (Nat.le_trans hn hle) ?_ ((put_defers _ _ _).trans hdf) hbad'
   ·have := unl_set hlt hli
    omega
   ·refine TRel.of_get (TRel.put (T.extW he hle) hv o.dst hdin) fun s => ?_
    classical
    rw [setT_get, frL_get]
    have hri : (l.map gdv)[i]? = some (o.dst.map bn, g.v) := by
     rw [List.getElem?_map, hj]
     simp only [Option.map_some, gdv]
     rw [← hdd]
    by_cases hd : o.dst.map bn = some s
    ·rw [if_pos hd]
     rw [hd] at hri
     rw [lw_last (l.map gdv) 0 i g.v hri (by rw [Nat.zero_add, lst_set hlt]; simp) (fun j d u hij hjd hds => ?_)]
     ·rfl
     ·rw [Nat.zero_add, lst_set hlt]
      obtain ⟨oj, sj, hoj, hsj, hbe⟩ := hdv j d u _ hjd hds
      have hne : ¬ j = i := by omega
      simp only [hne, decide_false, Bool.false_or]
      rcases hord i j o oj ho hoj hij with hb | ⟨hap, _⟩
      ·exact after j hb
      ·cases hod : o.dst with
       | none => rw [hod] at hd; cases hd
       | some so =>
        rw [hod] at hd
        have : so = sj := bn_inj (by rw [hbe]; simpa using hd)
        subst this
        exact absurd hsj ((Oper.apart_spec hap).2.1 _ hod)
    ·rw [if_neg hd, frL_get]
     congr 1
     refine lw_congr _ 0 fun j d u hjd hds => ?_
     rw [Nat.zero_add, lst_set hlt]
     have hne : ¬ j = i := fun hh => by
      subst hh
      rw [hri] at hjd
      cases hjd
      exact hd hds
     simp [hne]
  have lset : ∀ m, lst (listed.setIfInBounds i true) m = (decide (m = i) || lst listed m) := lst_set hlt
  have badK : ∀ (φ2 : Phi), (∀ m, m < ops.size → m ≠ i → lst listed m = false → φ2 (nm n0 m) = φ (nm n0 m)) → ∀ m, m < ops.size → lst (listed.setIfInBounds i true) m = false → (φ2 (nm n0 m)).ok = false := by
   intro φ2 hsame m hm hl
   rw [lset, Bool.or_eq_false_iff] at hl
   rw [hsame m hm (by simpa using hl.1) hl.2]
   exact hbad m hm hl.2
  unfold wpOpIn
  simp only [ho]
  obtain ⟨Hi, hHi, Spi⟩ := hspc i (by omega)
  rw [← hhb] at Spi
  have partOf : ∀ (t' : Tr AObj) (n' : BN), (∀ b o', (b.toNat < n0 ∨ n0 + ops.size ≤ b.toNat) → t'.get b = some o' → Hk.t.get b = some o') →
    (∀ m, m < ops.size → m ∉ hides (befs ops.toList) i 0 ops.toList → ∀ o', t'.get (nm n0 m) = some o' → FG n0 l k Hk m = some o') → (∀ m ∈ hides (befs ops.toList) i 0 ops.toList, t'.get (nm n0 m) = none) → Sbh ⟨n', t'⟩ H := by
   intro t' n' h1 h2 h3 b o' hb
   rcases name_cases n0 ops.size b with hb' | ⟨m, hm, rfl⟩
   ·rw [Sp.old b hb']; exact h1 b o' hb' hb
   ·by_cases hmem : m ∈ hides (befs ops.toList) i 0 ops.toList
    ·have hb : t'.get (nm n0 m) = some o' := hb
     rw [h3 m hmem] at hb; cases hb
    ·have hq : (mkOp ops[m].op && bef (befs ops.toList) m i) = true := by
      cases hq : mkOp ops[m].op && bef (befs ops.toList) m i with
      | true => rfl
      | false => exact absurd ((hhid i m _ (Array.getElem?_eq_getElem hm)).2 hq) hmem
     rw [Sp.res m hm, if_pos (before m (and2 hq).2)]
     exact h2 m hm hmem o' hb
  have hself : Sbh ⟨g.hb.n, delH n0 (hides (befs ops.toList) i 0 ops.toList) g.hb.t⟩ H ∨ cmG l i ≠ k := by
   by_cases hki : cmG l i = k
   ·left
    rw [hki] at hHi Spi
    cases hH.symm.trans hHi
    refine partOf _ _ (fun b o' hb hget => ?_) (fun m hmN hmem o' hget => ?_) (fun m hmem => delH_in _ _ m hmem)
    ·rw [delH_out _ _ b fun j hj hh => by have := hhidlt i j hj; rw [hh, nm_toNat] at hb; omega] at hget
     rw [← Spi.old b hb]; exact hget
    ·rw [delH_out _ _ _ fun j hj hh => hmem (by rw [nm_inj hh]; exact hj), Spi.res m hmN] at hget
     by_cases hmi : decide (m < i) = true
     ·rw [if_pos hmi] at hget; exact hget
     ·rw [if_neg hmi] at hget; cases hget
   ·exact .inr hki
  have hnE : cmG l i = k → g.hb.n.toNat = H.n.toNat := by
   intro hki
   rw [hki] at hHi
   cases hH.symm.trans hHi
   rw [Spi.n, Sp.n]
  have ceSame : anchor P o.op = false → ce (lst (listed.setIfInBounds i true)) 0 (ancs P ops.toList) = k := by
   intro ha
   rw [← hk]
   refine ce_congr _ 0 fun j hj => ?_
   rw [Nat.zero_add, lset]
   obtain ⟨oj, hoj, haj⟩ := hes j hj
   have : j ≠ i := fun hh => by subst hh; cases ho.symm.trans hoj; rw [ha] at haj; cases haj
   simp [this]
  have spcSame : anchor P o.op = false → FG n0 l k Hk i = none → Spc n0 ops.size l (lst (listed.setIfInBounds i true)) k Hk H := by
   intro ha hnone
   refine ⟨Sp.n, Sp.old, fun m hmN => ?_⟩
   rw [Sp.res m hmN, lset]
   by_cases hmi : m = i
   ·subst hmi
    rw [if_neg (by rw [hli]; simp), if_pos (by simp)]
    exact hnone.symm
   ·simp only [hmi, decide_false, Bool.false_or]
  rcases kinds3 P o.op with hm | ⟨hm, ha⟩ | ⟨hm, ha, hq⟩
  ·
   have ha := mk_not_anchor (P := P) hm
   obtain ⟨k1, k2, h', k3, k4⟩ := X.made ho hj hm
   have hob : FG n0 l k Hk i = obG n0 l i := by
    refine FGu k Hk i hiN hH fun j oj hoj haj hlt => (hhid j i o ho).2 ?_
    cases hb : bef (befs ops.toList) i j with
    | false => simp
    | true =>
     have hlj := after j hb
     exfalso
     have hle : ce (lst listed) 0 (ancs P ops.toList) ≤ ce (fun q => decide (q < j)) 0 (ancs P ops.toList) := by
      refine ce_mono _ 0 fun q hq hlq => ?_
      rw [Nat.zero_add] at hlq ⊢
      obtain ⟨oq, hoq, haq⟩ := hes q hq
      rcases Nat.lt_trichotomy q j with hqj | hqj | hqj
      ·simpa using hqj
      ·subst hqj; rw [hlj] at hlq; cases hlq
      ·rcases hord j q oj oq hoj hoq hqj with hb' | ⟨_, hc | hc⟩
       ·have := bef_spec hb' hC (hC q hlq)
        rw [hlj] at this; cases this
       ·rw [haj] at hc; cases hc
       ·rw [haq] at hc; cases hc
     rw [hk, ← hcmE] at hle
     omega
   have hHnone : H.t.get (nm n0 i) = none := by rw [Sp.res i hiN, if_neg (by rw [hli]; simp)]
   have hnmlt : (nm n0 i).toNat < H.n.toNat := by rw [nm_toNat]; omega
   rcases evOne_inv2 (a := { tmps := concT φ nt g.tr, defers := [] }) k3 Tr' with ⟨hw, hc⟩ | ⟨hw, hv, hh⟩
   ·rw [if_pos (by rw [hwant]; exact hw)]
    obtain ⟨obj, vf, hsh, hconc, hwf, howf⟩ := mk_shape (nt := nt) hm hc
    have e1 := hsh ⟨nm n0 i, g.hb.t⟩
    rw [hc] at e1
    simp only [Option.some.injEq, Prod.mk.injEq] at e1
    obtain ⟨ev, eh⟩ := e1
    have hobj : obG n0 l i = some obj := by
     rw [X.ob ho hj, hm]
     show g.ha.t.get (nm n0 i) = some obj
     rw [← k4, eh]
     exact get_set_same _ _ _
    refine op_wp2 C HR (ar := { tmps := concT φ nt g.tr, defers := [] }) Tr' hexec (hsh H) ?_
    intro φ1 w2 he H2 hv hle
    obtain ⟨HR2, he2⟩ := HR.rename H2 he (howf φ _ _ Tr') hnmlt (hbad i hiN hli) hHnone
    have hcv : concA φ1 (.s (.one (vf H.n))) = concA (upd φ (nm n0 i) (φ1 H.n)) g.v := by
     rw [ev]
     exact hconc _ _ _ _ (upd_same _ _ _).symm
    rw [hcv]
    refine next _ w2 Hk (H.put (nm n0 i) obj) he2 (fun b hb => ?_) (Nat.le_refl _) (by rw [ceSame ha]; exact hH) ?_ HR2 ?_ (badK _ fun m hmN hmi _ => ?_)
    ·have : b ≠ nm n0 i := fun hh => by rw [hh, nm_toNat] at hb; omega
     simp [upd, this]
    ·rw [ceSame ha]
     refine ⟨Sp.n, fun b hb => ?_, fun m hmN => ?_⟩
     ·show (H.t.set (nm n0 i) obj).get b = _
      rw [get_set_other _ _ _ _ (fun hh => by rw [hh, nm_toNat] at hb; omega)]
      exact Sp.old b hb
     ·show (H.t.set (nm n0 i) obj).get (nm n0 m) = _
      rw [lset]
      by_cases hmi : m = i
      ·subst hmi
       rw [get_set_same, if_pos (by simp)]
       exact (hob.trans hobj).symm
      ·rw [get_set_other _ _ _ _ (fun hh => hmi (nm_inj hh)), Sp.res m hmN]
       simp only [hmi, decide_false, Bool.false_or]
    ·rw [ev]
     refine hwf _ _ _ ⟨hnmlt, ?_⟩
     rw [upd_same]
     exact H2.okb H.n obj (by simp only [AHeap.new]; exact get_set_same _ _ _)
    ·have : nm n0 m ≠ nm n0 i := fun hh => hmi (nm_inj hh)
     simp [upd, this]
   ·rw [if_neg (by rw [hwant, hw]; simp)]
    have hnone : FG n0 l k Hk i = none := by
     rw [hob, X.ob ho hj, hm]
     show g.ha.t.get (nm n0 i) = none
     rw [← k4, hh]
     show g.hb.t.get (nm n0 i) = none
     rw [Spi.res i hiN, if_neg (by simp)]
    have hn' := next φ w Hk H (Ext.refl _ _).w (Ext.refl _ _) (Nat.le_refl _) (by rw [ceSame ha]; exact hH) (by rw [ceSame ha]; exact spcSame ha hnone) HR (by rw [hv]; exact fun _ hv => by cases hv) (badK φ fun _ _ _ _ => rfl)
    rw [hv] at hn'
    exact ⟨fun f _ => trivial, hn'⟩
  ·
   have hki : cmG l i = k := by
    rw [hcmE, ← hk]
    refine (ce_congr _ 0 fun j hj => ?_).symm
    obtain ⟨oj, hoj, haj⟩ := hes j hj
    rw [Nat.zero_add]
    rcases Nat.lt_trichotomy j i with hji | hji | hji
    ·rcases hord j i oj o hoj ho hji with hb | ⟨_, hc | hc⟩
     ·rw [before j hb]; simpa using hji
     ·rw [haj] at hc; cases hc
     ·rw [ha] at hc; cases hc
    ·subst hji; rw [hli]; simp
    ·rcases hord i j o oj ho hoj hji with hb | ⟨_, hc | hc⟩
     ·rw [after j hb]; simp; omega
     ·rw [ha] at hc; cases hc
     ·rw [haj] at hc; cases hc
   have hsub := hself.resolve_right (fun hh => hh hki)
   have hEn := hnE hki
   obtain ⟨h', k1, k2, k3, k4⟩ := X.anchor ho hj hm ha
   have hce1 : ce (lst (listed.setIfInBounds i true)) 0 (ancs P ops.toList) = k + 1 := by
    rw [← hk]
    exact ce_add (L := lst listed) (ancs P ops.toList) 0 i (by rw [hes' i o ho, ha]) (by rw [Nat.zero_add]; exact hli) (by rw [lset]; simp) (fun j hj => by rw [Nat.zero_add] at hj; rw [lset]; simp [hj])
   have hH1 : (h0 :: hsG l)[k + 1]? = some g.ha := by
    rw [List.getElem?_cons_succ, ← hki]
    exact hsG_get l i g hj (by rw [hgd]; exact ha)
   have HE := HR.sub hsub hEn
   have go : ∀ (φ2 : Phi) (w2 : World), Ext H.n.toNat φ φ2 → HRel w (Desc φ ⟨g.hb.n, delH n0 (hides (befs ops.toList) i 0 ops.toList) g.hb.t⟩) φ2 h' w2 → wfA φ2 h'.n.toNat g.v → H.n.toNat ≤ h'.n.toNat →
     wpAnyIn (FR ro) 0 P .any ops Q fuel (listed.setIfInBounds i true) (a.put o.dst (concA φ2 g.v)) w2 := by
    intro φ2 w2 he H2 hv hle
    obtain ⟨t', m1, m2⟩ := mixT (n0 := n0) H.t h'.t (hides (befs ops.toList) i 0 ops.toList)
    have HR2 : HRel w0 S φ2 ⟨h'.n, t'⟩ w2 := by
     refine HR.join hsub hEn H2 he hle rfl fun b o' hb => ?_
     by_cases hmem : ∃ m ∈ hides (befs ops.toList) i 0 ops.toList, b = nm n0 m
     ·obtain ⟨m, hmem, rfl⟩ := hmem
      right
      exact ⟨by rw [← m1 m hmem]; exact hb, delH_in _ _ m hmem⟩
     ·left
      rw [← m2 b fun j hj hh => hmem ⟨j, hj, hh⟩]; exact hb
    refine next φ2 w2 g.ha ⟨h'.n, t'⟩ he.w (he.mono (by omega)) hle (by rw [hce1]; exact hH1) ?_ HR2 hv (badK φ2 fun m hmN _ _ => he _ (by rw [nm_toNat]; omega))
    rw [hce1]
    refine ⟨by rw [k2], fun b hb => ?_, fun m hmN => ?_⟩
    ·have hb' : ∀ j ∈ hides (befs ops.toList) i 0 ops.toList, b ≠ nm n0 j := fun j hj hh => by have := hhidlt i j hj; rw [hh, nm_toNat] at hb; omega
     show t'.get b = _
     rw [m2 b hb', k4 b hb']
    ·show t'.get (nm n0 m) = _
     rw [lset]
     by_cases hmem : m ∈ hides (befs ops.toList) i 0 ops.toList
     ·have hfg : FG n0 l (k + 1) g.ha m = FG n0 l k Hk m := by
       have := hFG i o g Hk m ho hj hm ha (by rw [hki]; exact hH) hmem
       rwa [hki] at this
      rw [m1 m hmem, Sp.res m hmN]
      by_cases hmi : m = i
      ·subst hmi
       rw [if_neg (by rw [hli]; simp), if_pos (by simp)]
       exact (hfg.trans (FGn k Hk m o ho hm hH)).symm
      ·simp only [hmi, decide_false, Bool.false_or]
       by_cases hlm : lst listed m = true
       ·rw [if_pos hlm, if_pos hlm]; exact hfg.symm
       ·rw [if_neg hlm, if_neg hlm]
     ·have hq : (mkOp ops[m].op && bef (befs ops.toList) m i) = true := by
       cases hq : mkOp ops[m].op && bef (befs ops.toList) m i with
       | true => rfl
       | false => exact absurd ((hhid i m _ (Array.getElem?_eq_getElem hmN)).2 hq) hmem
      have hbm := (and2 hq).2
      have hmi := hbef m i hbm
      have hle' : cmG l m ≤ cmG l i := ce_mono _ 0 fun q _ hq => by simp only [decide_eq_true_eq] at hq ⊢; omega
      have hb' : ∀ j ∈ hides (befs ops.toList) i 0 ops.toList, nm n0 m ≠ nm n0 j := fun j hj hh => hmem (by rw [nm_inj hh]; exact hj)
      rw [m2 _ hb', if_pos (by rw [before m hbm]; simp), if_neg (by omega), k4 _ hb']
   have TrE : TRel φ nt (AHeap.n ⟨g.hb.n, delH n0 (hides (befs ops.toList) i 0 ops.toList) g.hb.t⟩).toNat g.tr (concT φ nt g.tr) := by
    show TRel φ nt g.hb.n.toNat g.tr _
    rw [hEn]; exact Tr'
   rcases evOne_inv2 (a := { tmps := concT φ nt g.tr, defers := [] }) k1 Tr' with ⟨hw, hc⟩ | ⟨hw, hv, hh⟩
   ·rw [if_pos (by rw [hwant]; exact hw)]
    refine op_wp2 C HE (ar := { tmps := concT φ nt g.tr, defers := [] }) TrE hexec hc ?_
    intro φ2 w2 he H2 hv hle
    exact go φ2 w2 (by rw [← hEn]; exact he) H2 hv (by rw [← hEn]; exact hle)
   ·rw [if_neg (by rw [hwant, hw]; simp)]
    have := go φ w (Ext.refl _ _) (by rw [hh]; exact HE) (by rw [hv]; exact fun _ hv => by cases hv) (by rw [hh]; exact Nat.le_of_eq hEn.symm)
    rw [hv] at this
    exact ⟨fun f _ => trivial, this⟩
  ·
   have hex : ∃ X' : AHeap, Sbh X' H ∧ ∃ h', evOne call (cOper P nt ops o) g.tr X' = some (g.v, h') := by
    obtain ⟨_, h', he⟩ := X.quiet ho hj hm ha
    have hlo : ce (fun q => bef (befs ops.toList) q i) 0 (ancs P ops.toList) ≤ k := by
     rw [← hk]
     exact ce_mono _ 0 fun j _ hb => by rw [Nat.zero_add] at hb ⊢; exact before j hb
    have hhi : k ≤ ce (fun q => !bef (befs ops.toList) i q) 0 (ancs P ops.toList) := by
     rw [← hk]
     refine ce_mono _ 0 fun j _ hb => ?_
     rw [Nat.zero_add] at hb ⊢
     cases hbb : bef (befs ops.toList) i j with
     | false => rfl
     | true => rw [after j hbb] at hb; cases hb
    have hlo0 : ce (fun q => bef (befs ops.toList) q i) 0 (ancs P ops.toList) ≤ cmG l i := by
     rw [hcmE]
     exact ce_mono _ 0 fun j _ hb => by rw [Nat.zero_add] at hb ⊢; exact bef_spec hb hCi hRi
    have hhi0 : cmG l i ≤ ce (fun q => !bef (befs ops.toList) i q) 0 (ancs P ops.toList) := by
     rw [hcmE]
     refine ce_mono _ 0 fun j _ hb => ?_
     rw [Nat.zero_add] at hb ⊢
     cases hbb : bef (befs ops.toList) i j with
     | false => rfl
     | true =>
      have := bef_spec hbb hCi (hCi j hb)
      simp at this
    rcases checkG_spec l hch i g hj (by rw [hgd]; exact ha) (by rw [hgd]; exact hm) with heq | hall
    ·rw [hgd] at heq
     simp only at heq
     exact ⟨_, hself.resolve_right (fun hh => hh (by omega)), h', he⟩
    ·rw [hgd] at hall
     obtain ⟨h'', he''⟩ := hall k Hk hlo hhi hH
     refine ⟨_, partOf _ _ (fun b o' hb hget => ?_) (fun m hmN hmem o' hget => ?_) (fun m hmem => delH_in _ _ m hmem), h'', he''⟩
     ·rw [delH_out _ _ b fun j hj hh => by have := hhidlt i j hj; rw [hh, nm_toNat] at hb; omega] at hget
      rcases fullT_get (mksG n0 0 0 l) Hk.t b (n0 := n0) (k := k) with h1 | ⟨x, hx, _, h2, _⟩
      ·rw [← h1]; exact hget
      ·obtain ⟨m, q1, ⟨gm, q2, _⟩, _⟩ := mksG_mem l 0 0 x X.mkeff hx
       have : m < ops.size := by rw [← X.len]; exact (List.getElem?_eq_some_iff.1 q2).1
       rw [h2, nm_toNat, q1] at hb
       omega
     ·rw [delH_out _ _ _ fun j hj hh => hmem (by rw [nm_inj hh]; exact hj)] at hget
      rcases fullT_get (mksG n0 0 0 l) Hk.t (nm n0 m) (n0 := n0) (k := k) with h1 | ⟨x, hx, hkx, h2, h3⟩
      ·rw [h1] at hget
       by_cases hle : k ≤ cmG l m
       ·rw [hkNone k Hk m hmN hH hle] at hget; cases hget
       ·show (if k ≤ cmG l m then _ else _) = _
        rw [if_neg hle]; exact hget
      ·obtain ⟨m', q1, ⟨gm, q2, q3, q4⟩, q5⟩ := mksG_mem l 0 0 x X.mkeff hx
       rw [Nat.zero_add] at q1 q4 q5
       have hmm : m = m' := by rw [q1] at h2; exact nm_inj h2
       subst hmm
       rw [hget] at h3
       cases h3
       show (if k ≤ cmG l m then _ else _) = _
       rw [if_pos (by omega)]
       unfold obG
       rw [q2]
       simp only [q3, cond_true]
       exact q4
   obtain ⟨X', hsub, h', he⟩ := hex
   have hnone := FGn k Hk i o ho hm hH
   rcases evOne_inv2 (a := { tmps := concT φ nt g.tr, defers := [] }) he Tr' with ⟨hw, hc⟩ | ⟨hw, hv, hh⟩
   ·rw [if_pos (by rw [hwant]; exact hw)]
    refine op_wp2 C HR (ar := { tmps := concT φ nt g.tr, defers := [] }) Tr' hexec (mono_cOp P o.op hq _ _ _ _ _ _ hc hsub) ?_
    intro φ2 w2 he2 H2 hv hle
    exact next φ2 w2 Hk H he2.w (he2.mono (by omega)) hle (by rw [ceSame ha]; exact hH) (by rw [ceSame ha]; exact spcSame ha hnone) H2 hv (badK φ2 fun m hmN _ _ => he2 _ (by rw [nm_toNat]; omega))
   ·rw [if_neg (by rw [hwant, hw]; simp)]
    have := next φ w Hk H (Ext.refl _ _).w (Ext.refl _ _) (Nat.le_refl _) (by rw [ceSame ha]; exact hH) (by rw [ceSame ha]; exact spcSame ha hnone) HR (by rw [hv]; exact fun _ hv => by cases hv) (badK φ fun _ _ _ _ => rfl)
    rw [hv] at this
    exact ⟨fun f _ => trivial, this⟩
end
end Go.CE
end
section
namespace Go.CE
open Go.RowKit
section
variable {P : Program} {w0 : World} {S : Nat → Prop} {nt : Nat} {call : Caller}
theorem ok_drawn (C : SoundC P call) (id : Nat) (ops : Array Oper) : CodeOk P w0 S nt call (.region id ops true) := by
 intro f fn round ro φ s s2 e a w Q hc R hr hQ
 have hc : (bif P.follows .mixedOrders && drawOk P ops (befs ops.toList) then drawnF (cDrawn P nt ops) else bif P.follows .mixedOrders && drawOk2 P ops (befs ops.toList) then drawnG (cDrawnG P nt ops) else badF) call f fn round s = some (e, s2) := hc
 cases hb : (P.follows .mixedOrders && drawOk P ops (befs ops.toList)) with
 | false =>
  rw [hb] at hc
  simp only [cond_false] at hc
  cases hb2 : (P.follows .mixedOrders && drawOk2 P ops (befs ops.toList)) with
  | false => rw [hb2] at hc; cases hc
  | true =>
   rw [hb2] at hc
   obtain ⟨hm, hok⟩ := and2 hb2
   obtain ⟨t, d, h⟩ := s
   simp only [cond_true, drawnG] at hc
   have hlen : (cDrawnG P nt ops).length = ops.size := by
    have key : ∀ (os : List Oper) (i : Nat), (cDrawnGL P nt ops (befs ops.toList) (ancs P ops.toList) i os).length = os.length := by
     intro os
     induction os with
     | nil => intro i; rfl
     | cons o os ih => intro i; simp only [cDrawnGL, List.length_cons, ih]
    unfold cDrawnG
    rw [key, Array.length_toList]
   rw [hlen] at hc
   cases hev : evG call h.n.toNat 0 (cDrawnG P nt ops) t ⟨bn (Nat.add h.n.toNat ops.size), h.t⟩ with
   | none => rw [hev] at hc; cases hc
   | some p =>
    obtain ⟨l, t2, h2⟩ := p
    rw [hev] at hc
    simp only at hc
    cases hch : checkG call h.n.toNat (mksG h.n.toNat 0 0 l) (⟨bn (Nat.add h.n.toNat ops.size), h.t⟩ :: hsG l) l with
    | false => rw [hch] at hc; cases hc
    | true =>
     rw [hch] at hc
     cases hc
     have hkn : (bn (Nat.add h.n.toNat ops.size)).toNat = h.n.toNat + ops.size := bn_toNat _
     have X := txt_of (P := P) hev (fun m hm => by
      show h.t.get (nm h.n.toNat m) = none
      cases hx : h.t.get (nm h.n.toNat m) with
      | none => rfl
      | some o => have := R.H.keys _ _ hx; rw [nm_toNat] at this; exact absurd this (by show ¬ h.n.toNat + m < h.n.toNat; omega))
     refine wpIn_region_any hm ?_
     have hz : ∀ i, lst (Array.replicate ops.size false) i = false := by
      intro i
      unfold lst
      rw [Array.getD_eq_getD_getElem?, Array.getElem?_replicate]
      split <;> rfl
     have hzf : lst (Array.replicate ops.size false) = fun _ => false := funext hz
     have hfr : ∀ (r : List (Option BN × AVal)) (i : Nat) (t : Tr AVal), frL (fun _ => false) i r t = t := by
      intro r
      induction r with
      | nil => intro i t; rfl
      | cons p r ih => intro i t; obtain ⟨d, v⟩ := p; unfold frL; exact ih _ _
     have he := keepφ_ext φ h.n.toNat ops.size
     refine drawn_any2 (hh0 := h) (φ0 := φ) C hok X hch rfl hkn (fun a2 w2 hn => hQ a2 w2 (next_after R hn)) ops.size (Array.replicate ops.size false) (keepφ φ h.n.toNat ops.size) a _ ⟨bn (Nat.add h.n.toNat ops.size), h.t⟩ ⟨bn (Nat.add h.n.toNat ops.size), h.t⟩
      (by simp) (by unfold unl; simp) ?_ he ?_ ?_ (R.H.drew.keep ops.size) (by rw [hkn]; omega) ?_ rfl (fun m hm _ => keepφ_nm φ _ _ m hm)
     ·intro i hi; rw [hz] at hi; cases hi
     ·rw [hzf, ce_false]; rfl
     ·rw [hzf, ce_false]
      exact ⟨rfl, fun _ _ => rfl, fun m hm => by rw [if_neg (by simp)]; exact X.fresh m hm⟩
     ·rw [hzf, hfr, hkn]
      exact R.T.ext he (by show h.n.toNat ≤ _; omega)
 | true =>
  rw [hb] at hc
  obtain ⟨hm, hok⟩ := and2 hb
  obtain ⟨t, d, h⟩ := s
  simp only [cond_true, drawnF] at hc
  cases hev : evD call (cDrawn P nt ops) t h with
  | none => rw [hev] at hc; cases hc
  | some p =>
   obtain ⟨l, t2, hs⟩ := p
   rw [hev] at hc
   simp only at hc
   cases hch : checkD call hs l with
   | false => rw [hch] at hc; cases hc
   | true =>
    rw [hch] at hc
    cases hc
    refine wpIn_region_any hm ?_
    have hz : ∀ i, lst (Array.replicate ops.size false) i = false := by
     intro i
     unfold lst
     rw [Array.getD_eq_getD_getElem?, Array.getElem?_replicate]
     split <;> rfl
    have hzf : lst (Array.replicate ops.size false) = fun _ => false := funext hz
    have hce : ∀ (es : List Bool) (i : Nat), ce (fun _ => false) i es = 0 := by
     intro es
     induction es with
     | nil => intro i; rfl
     | cons e es ih => intro i; unfold ce; simp [ih]
    have hfr : ∀ (r : List (Option BN × AVal)) (i : Nat) (t : Tr AVal), frL (fun _ => false) i r t = t := by
     intro r
     induction r with
     | nil => intro i t; rfl
     | cons p r ih => intro i t; obtain ⟨d, v⟩ := p; unfold frL; exact ih _ _
    obtain ⟨_, g2, _, _, _⟩ := evD_spec call _ _ _ _ _ _ hev
    refine drawn_any C hok hev hch (fun a2 w2 hn => hQ a2 w2 (next_after R hn)) ops.size (Array.replicate ops.size false) φ a _ h (by simp) (by unfold unl; simp) ?_ (Ext.refl _ _) ?_ R.H.drew (Nat.le_refl _) ?_ rfl
    ·intro i hi; rw [hz] at hi; cases hi
    ·rw [hzf, hce]; exact g2
    ·rw [hzf, hfr]; exact R.T
end
end Go.CE
end
section
namespace Go.CE
open Go.RowKit
section
variable {P : Program} {w0 : World} {S : Nat → Prop} {nt : Nat} {call : Caller}
theorem code_ok (C : SoundC P call) (c : Code) : CodeOk P w0 S nt call c := by
 induction c with
 | skip => intro f fn round ro φ s s2 e a w Q hc R hr hQ; cases hc; exact wpIn_skip (hQ _ _ R.after)
 | region id ops draw =>
  cases draw with
  | false => exact ok_region C id ops
  | true => exact ok_drawn C id ops
 | seq x y hx hy => exact ok_seq hx hy
 | cond c x y hx hy => exact ok_cond hx hy
 | block id x hx => exact ok_block hx
 | loop x hx => exact ok_loop hx
 | rangeFunc g ps assign body _ _ => exact ok_range C
 | exit id => intro f fn round ro φ s s2 e a w Q hc R hr hQ; cases hc; exact wpIn_exit (hQ _ _ R.after)
 | ret => intro f fn round ro φ s s2 e a w Q hc R hr hQ; cases hc; exact wpIn_ret (hQ _ _ R.after)
 | _ => intro f fn round ro φ s s2 e a w Q hc R hr hQ; cases hc
theorem shut_n : ∀ (d : List BN) (h h2 : AHeap), shut d h = some h2 → h2.n = h.n
 | [], h, h2, e => by cases e; rfl
 | b :: d, h, h2, e => by
  unfold shut at e
  split at e
  ·exact (shut_n d _ _ e).trans rfl
  ·cases e
theorem leavesM {φ : Phi} {fn : Func} {tmps : Array Value} {R : Ending → World → Prop} {h2 : AHeap} (hR : ∀ w2, HRel w0 S φ h2 w2 → LeavesIn (FR none) 0 P fn tmps R [] .returning w2) :
  ∀ (d : List BN) (h : AHeap) (w : World), shut d h = some h2 → HRel w0 S φ h w → LeavesInM (FR none) 0 P fn tmps R (marks φ d) .returning w
 | [], h, w, e, H => by cases e; exact hR w H
 | b :: d, h, w, e, H => by
  unfold shut at e
  split at e
  ·rename_i hb
   have g1 : w.heap[(φ b).blk]? = some (.deferred (some [])) := H.obj b _ hb
   refine ⟨by simp, .inl ⟨(φ b).blk, _, rfl, run_takeDeferred g1, ?_⟩⟩
   refine leavesM hR d _ _ e ?_
   exact H.put hb trivial (fun k hk => World.putObj_heap_other hk) (by simp) rfl rfl rfl trivial
  ·cases e
def resF (tmps : Array Value) : ResultVar → Sem Value
 | .tmp t => pure (tmps.getD t undef)
 | .cell a t => do loadVar t (← asAddr (tmps.getD a undef))
theorem getD_conc {φ : Phi} {n : Nat} {t : Tr AVal} {tmps : Array Value} (T : TRel φ nt n t tmps) {i : Nat} {v : AVal} (hi : t.get (bn i) = some v) : tmps.getD i undef = concA φ v ∧ wfA φ n v := by
 have hlt : i < nt := by
  apply Decidable.byContradiction
  intro hn
  rw [T.out i (by omega)] at hi
  cases hi
 have := T.get i hlt
 rw [hi] at this
 refine ⟨?_, T.wf _ _ hi⟩
 rw [Array.getD_eq_getD_getElem?, this]
 rfl
theorem evResL_inv {t : Tr AVal} {h : AHeap} {r : BN × Option (Option Nat)} {rs : List (BN × Option (Option Nat))} {vs : List SVal} (e : evResL t h (r :: rs) = some vs) :
  ∃ v vs', vs = v :: vs' ∧ evRes1 t h r = some v ∧ evResL t h rs = some vs' := by
 unfold evResL at e
 split at e
 ·rename_i v hv
  unfold consO at e
  split at e
  ·rename_i vs' hvs
   cases e
   exact ⟨v, vs', rfl, hv, hvs⟩
  ·cases e
 ·cases e
theorem resL_ok {φ : Phi} {h : AHeap} {w : World} {t : Tr AVal} {tmps : Array Value} (H : HRel w0 S φ h w) (T : TRel φ nt h.n.toNat t tmps) : ∀ (l : List ResultVar) (rs : List (BN × Option (Option Nat))) (vs : List SVal),
  cRes P l = some rs → evResL t h rs = some vs → (l.mapM (resF tmps)).run P w = .ok (vs.map (concS φ)) w ∧ ∀ v ∈ vs, wfS φ h.n.toNat v
 | [], rs, vs, hc, he => by
  cases hc
  cases he
  exact ⟨by simp, fun v hv => by cases hv⟩
 | .tmp i :: l, rs, vs, hc, he => by
  unfold cRes at hc
  split at hc
  ·rename_i rs' hrs
   cases hc
   obtain ⟨v1, vs', rfl, hv1, hvs⟩ := evResL_inv he
   simp only [evRes1] at hv1
   split at hv1
   ·rename_i u hu
    cases hv1
    obtain ⟨h1, h2⟩ := resL_ok H T l rs' vs' hrs hvs
    obtain ⟨g1, g2⟩ := getD_conc T hu
    refine ⟨?_, fun v hv => ?_⟩
    ·rw [List.mapM_cons]
     simp only [resF, Sem.run_bind, Sem.run_pure, Result.andThen_ok, h1, g1]
     rfl
    ·cases hv with
     | head => exact g2
     | tail _ hm => exact h2 v hm
   ·cases hv1
  ·cases hc
 | .cell i ty :: l, rs, vs, hc, he => by
  unfold cRes at hc
  split at hc
  ·rename_i n rs' hn hrs
   cases hc
   obtain ⟨v1, vs', rfl, hv1, hvs⟩ := evResL_inv he
   simp only [evRes1] at hv1
   split at hv1
   ·rename_i b off hu
    obtain ⟨h1, h2⟩ := resL_ok H T l rs' vs' hrs hvs
    obtain ⟨g1, g2⟩ := getD_conc T hu
    have key : (loadVar ty (adr φ b off)).run P w = .ok (concS φ v1) w ∧ wfS φ h.n.toNat v1 := by
     unfold resCell at hv1
     split at hv1
     ·rename_i cs st hb
      have hp : part n cs off h = some (.s v1, h) := by
       cases n with
       | none =>
        simp only at hv1
        split at hv1
        ·rename_i c hcc; cases hv1; simp [part, retC, hcc]
        ·cases hv1
       | some n =>
        simp only at hv1
        split at hv1
        ·rename_i c hcc; cases hv1; simp [part, retA, hcc]
        ·cases hv1
      obtain ⟨k1, k2, _⟩ := load_part (P := P) H hn hb hp
      exact ⟨k1, k2⟩
     ·cases hv1
    refine ⟨?_, fun v hv => ?_⟩
    ·rw [List.mapM_cons]
     simp only [resF, Sem.run_bind, g1, concA, concS, concC, asAddr, Sem.run_pure, Result.andThen_ok, key.1, h1]
     rfl
    ·cases hv with
     | head => exact key.2
     | tail _ hm => exact h2 v hm
   ·cases hv1
  ·cases hc
theorem results_eq (fn : Func) (tmps : Array Value) : results fn tmps = (do
  let vs ← fn.results.toList.mapM (resF tmps)
  pure (match vs with | [v] => v | vs => .tuple vs.toArray)) := by
 have : fn.results.mapM (resF tmps) = List.toArray <$> fn.results.toList.mapM (resF tmps) := by
  rw [← List.mapM_toArray]
 have e : results fn tmps = (do
   let vs ← fn.results.mapM (resF tmps)
   pure (if h : vs.size = 1 then vs[0] else .tuple vs)) := by
  unfold results
  congr 1
 rw [e, this, map_eq_pure_bind, bind_assoc]
 congr 1
 funext vs
 rw [pure_bind]
 congr 1
 match vs with
 | [] => rfl
 | [v] => rfl
 | v :: u :: vs => rfl
theorem results_ok {φ : Phi} {h : AHeap} {w : World} {t : Tr AVal} {tmps : Array Value} (H : HRel w0 S φ h w) (T : TRel φ nt h.n.toNat t tmps) {fn : Func} {rs : List (BN × Option (Option Nat))} (hc : cRes P fn.results.toList = some rs)
  {v : AVal} {h2 : AHeap} (he : evRes h (evResL t h rs) = some (v, h2)) : (results fn tmps).run P w = .ok (concA φ v) w ∧ wfA φ h.n.toNat v ∧ h2 = h := by
 cases hv : evResL t h rs with
 | none => rw [hv] at he; cases he
 | some vs =>
  rw [hv] at he
  obtain ⟨h1, hw⟩ := resL_ok H T _ rs vs hc hv
  rw [results_eq, Sem.run_bind, h1]
  match vs, he, hw with
  | [], he, hw => cases he; exact ⟨rfl, (fun v hv => by cases hv), rfl⟩
  | [u], he, hw => cases he; exact ⟨rfl, hw u (by simp), rfl⟩
  | u :: u' :: vs, he, hw => cases he; exact ⟨rfl, hw, rfl⟩
theorem enterT_get : ∀ (args : List AVal) (i : Nat) (t : Tr AVal) (j : Nat), (enterT (bn i) t args).get (bn j) = if j < i then t.get (bn j) else (args[j - i]?).or (t.get (bn j))
 | [], i, t, j => by simp [enterT]
 | v :: vs, i, t, j => by
  unfold enterT
  rw [bn_succ, enterT_get vs (i + 1) _ j]
  by_cases h1 : j < i
  ·rw [if_pos h1, if_pos (by omega), get_set_other _ _ _ _ (fun hh => by have := bn_inj hh; omega)]
  ·rw [if_neg h1]
   by_cases h2 : j = i
   ·subst h2
    rw [if_pos (by omega), get_set_same]
    simp
   ·rw [if_neg (by omega), get_set_other _ _ _ _ (fun hh => by have := bn_inj hh; omega)]
    have : j - i = (j - (i + 1)) + 1 := by omega
    rw [this, List.getElem?_cons_succ]
theorem enter_ok {φ : Phi} {n nt : Nat} {args : List AVal} (hl : args.length ≤ nt) (hw : ∀ x ∈ args, wfA φ n x) :
  TRel φ nt n (enterT .z .nil args) ((args.map (concA φ)).toArray ++ Array.replicate (nt - (args.map (concA φ)).toArray.size) undef) := by
 have key : ∀ j, (enterT .z .nil args).get (bn j) = args[j]? := by
  intro j
  have := enterT_get args 0 .nil j
  simp only [Nat.not_lt_zero, if_false, Nat.sub_zero] at this
  have e0 : bn 0 = .z := rfl
  rw [e0] at this
  rw [this]
  have : (Tr.nil : Tr AVal).get (bn j) = none := by cases bn j <;> rfl
  rw [this]
  simp
 refine ⟨by simp; omega, fun i hi => ?_, fun i hi => ?_, fun i v hv => ?_⟩
 ·rw [key]
  by_cases hlt : i < args.length
  ·rw [Array.getElem?_append_left (by simpa using hlt)]
   simp [hlt]
  ·rw [Array.getElem?_append_right (by simp; omega)]
   have : args[i]? = none := by simp; omega
   rw [this]
   simp only [List.size_toArray, List.length_map, Option.getD_none]
   rw [Array.getElem?_replicate, if_pos (by omega)]
   rfl
 ·rw [key]; simp; omega
 ·rw [← bn_of_toNat i, key] at hv
  exact hw v (List.mem_of_getElem? hv)
theorem callFunc_ok {g : Nat} {fn : Func} {c : Code} (hf : P.funcs[g]? = some fn) (hb : fn.body = some c) (hn : (fn.name == "runtime.NumGoroutine") = false) (as : Array Value) (w : World) : (callFunc g as).run P w = .ok (.enter g as) w := by
 simp only [callFunc, Sem.run_bind, run_program, Result.andThen, hf, hn, hb]; rfl
theorem cFunc_inv {fn : Func} {r : RFunc} (h : cFunc P fn = some r) : ∃ c rs, fn.body = some c ∧ cRes P fn.results.toList = some rs ∧ (fn.name == "runtime.NumGoroutine") = false ∧ r = ⟨fn.ntmps, rs, cCode P fn.ntmps c⟩ := by
 unfold cFunc at h
 split at h
 ·rename_i c rs hb hr
  cases hn : fn.name == "runtime.NumGoroutine" with
  | true => rw [hn] at h; cases h
  | false => rw [hn] at h; cases h; exact ⟨c, rs, hb, hr, rfl, rfl⟩
 ·cases h
def FsOk (P : Program) (fs : Nat → Option RFunc) : Prop := ∀ g r, fs g = some r → ∃ fn, P.funcs[g]? = some fn ∧ cFunc P fn = some r
theorem fun_ok (C : SoundC P call) {fs : Nat → Option RFunc} (hfs : FsOk P fs) {f g : Nat} {φ : Phi} {h h2 : AHeap} {w : World} {args : List AVal} {v : AVal} (H : HRel w0 S φ h w) (hw : ∀ x ∈ args, wfA φ h.n.toNat x)
  (e : evFun fs call f g args h = some (v, h2)) : (∀ as w, (callFunc g as).run P w = .ok (.enter g as) w) ∧ CallsIn (FR none) 0 P g (args.map (concA φ)).toArray w (Ret w0 S φ h v h2) := by
 unfold evFun at e
 split at e
 ·rename_i ntmps rs body hfg
  obtain ⟨fn, hf, hcf⟩ := hfs g _ hfg
  obtain ⟨c, rs', hb, hrs, hname, hr⟩ := cFunc_inv hcf
  cases hr
  refine ⟨callFunc_ok hf hb hname, ?_⟩
  cases hl : lenA args fn.ntmps with
  | false => rw [hl] at e; cases e
  | true =>
   rw [hl] at e
   simp only [cond_true] at e
   cases hbody : cCode P fn.ntmps c call f g none ⟨enterT .z .nil args, [], h⟩ with
   | none => rw [hbody] at e; cases e
   | some p =>
    obtain ⟨ex, t1, d1, h1⟩ := p
    rw [hbody] at e
    refine callsIn_of_wp_marks hf hb trivial (code_ok C c f g none none φ _ _ ex _ w _ hbody ⟨H, enter_ok (lenA_eq _ _ hl) hw, rfl, fun b hb => by cases hb⟩ rfl fun a2 w2 hA => ?_) rfl
    obtain ⟨φ2, he2, ⟨H2, T2, D2, dn2⟩, hle⟩ := hA
    simp only at H2 T2 D2 dn2 he2 hle
    have key : leave rs (some (.normal, ⟨t1, d1, h1⟩)) = some (v, h2) → LeavesInM (FR none) 0 P fn a2.tmps (Ret w0 S φ h v h2) a2.defers .returning w2 := by
     intro e
     simp only [leave] at e
     split at e
     ·rename_i h3 hs
      rw [D2]
      refine leavesM (fun w3 H3 => ?_) d1 h1 w2 hs H2
      have hn3 := shut_n _ _ _ hs
      have T3 : TRel φ2 fn.ntmps h3.n.toNat t1 a2.tmps := by rw [hn3]; exact T2
      obtain ⟨k1, k2, rfl⟩ := results_ok H3 T3 hrs e
      exact ⟨_, k1, φ2, rfl, he2, H3, k2, by rw [hn3]; exact hle⟩
     ·cases e
    cases ex with
    | normal => exact key e
    | exit id => cases e
    | ret => exact key e
 ·cases e
theorem setPs_ok {φ : Phi} {n : Nat} : ∀ (ps : List Nat) (args : List AVal) (t t2 : Tr AVal) (arr : Array Value), setPs nt t ps args = some t2 → TRel φ nt n t arr → (∀ x ∈ args, wfA φ n x) →
  TRel φ nt n t2 ((ps.zip (args.map (concA φ))).foldl (fun t (p : Nat × Value) => t.setIfInBounds p.1 p.2) arr) ∧ args.length = ps.length
 | [], [], t, t2, arr, e, T, hw => by cases e; exact ⟨T, rfl⟩
 | p :: ps, v :: vs, t, t2, arr, e, T, hw => by
  unfold setPs at e
  cases hp : Nat.ble (Nat.succ p) nt with
  | false => rw [hp] at e; cases e
  | true =>
   rw [hp] at e
   simp only [cond_true] at e
   have T2 := TRel.put (a := { tmps := arr, defers := [] }) T (hw v (by simp)) (some p) hp
   obtain ⟨k1, k2⟩ := setPs_ok ps vs _ t2 _ e T2 fun x hx => hw x (by simp [hx])
   exact ⟨k1, by simp [k2]⟩
 | [], _ :: _, t, t2, arr, e, T, hw => by cases e
 | _ :: _, [], t, t2, arr, e, T, hw => by cases e
theorem round_ok (C : SoundC P call) {f : Nat} {l : BN} {φ : Phi} {h h2 : AHeap} {w : World} {args : List AVal} {v : AVal} (H : HRel w0 S φ h w) (hw : ∀ x ∈ args, wfA φ h.n.toNat x)
  (e : evRound (cCode P) call f l args h = some (v, h2)) : ∃ f tmps assign body, (Instr.yield (φ l).blk (args.map (concA φ)).toArray).run P w = .ok (.round (φ l).blk f tmps assign body) w ∧
   RoundIn (FR none) 0 P (φ l).blk f tmps assign body w (Ret w0 S φ h v h2) := by
 unfold evRound at e
 split at e
 ·rename_i pend lf ln lt lps la lb ld hl
  split at e
  ·rename_i t ht
   obtain ⟨arr, f8, g1, g2, g3⟩ := H.obj l _ hl
   have hln := H.okk _ _ hl
   obtain ⟨T, hlen⟩ := setPs_ok _ _ _ _ arr ht g2 hw
   refine ⟨f8, _, la, lb, run_yield g1 (by simp [hlen]), ?_⟩
   have harr : ((lps.zip (args.map (concA φ)).toArray).foldl (fun tmps (x : Nat × Value) => tmps.setIfInBounds x.1 x.2) arr) = ((lps.toList.zip (args.map (concA φ))).foldl (fun t (p : Nat × Value) => t.setIfInBounds p.1 p.2) arr) := by
    rw [← Array.foldl_toList, Array.toList_zip]
   split at e
   ·rename_i t1 d1 h1 has
    split at e
    ·rename_i h3 hbe
     refine roundIn_of_wpIn trivial ?_
     refine code_ok C la f lf (some l) (some (φ l).blk) φ ⟨t, [], h⟩ ⟨t1, d1, h1⟩ .normal _ w _ has ⟨H, ?_, rfl, fun b hb => by cases hb⟩ ⟨rfl, hln⟩ fun a1 w1 hA => ?_
     ·show TRel φ ln h.n.toNat t _
      rw [harr]; exact T
     ·obtain ⟨φ1, he1, ⟨H1, T1, D1, dn1⟩, hle1⟩ := hA
      simp only at H1 T1 D1 dn1 he1 hle1
      unfold beginR at hbe
      split at hbe
      ·rename_i p9 lf9 ln9 lt9 lps9 la9 lb9 ld9 hl9
       cases hbe
       obtain ⟨arr9, f9, k1, k2, k3⟩ := H1.obj l _ hl9
       have el : φ1 l = φ l := he1 l hln.1
       have hlt : (φ1 l).blk < w1.heap.size := (Array.getElem?_eq_some_iff.1 k1).1
       have H3 : HRel w0 S φ1 (h1.put l (.loop .busy p9 lf9 ln9 lt9 lps9 la9 lb9 ld9)) (w1.putObj (φ1 l).blk (.loop { state := .busy, pending := p9.map jumpOf, fn := f9, tmps := arr9, params := lps9, assign := la9, body := lb9, defers := (φ1 ld9).blk })) :=
        H1.put hl9 trivial (fun k hk => World.putObj_heap_other hk) (by simp) rfl rfl rfl ⟨arr9, f9, World.putObj_heap_same hlt, k2, k3⟩
       have hbr := run_beginRound (P := P) k1 rfl
       rw [el] at hbr
       refine ⟨_, hbr, ?_⟩
       rw [el] at H3
       cases hbd : cCode P ln lb call f lf (some l) ⟨t1, d1, h1.put l (.loop .busy p9 lf9 ln9 lt9 lps9 la9 lb9 ld9)⟩ with
       | none => rw [hbd] at e; cases e
       | some p =>
        obtain ⟨ex, t4, d4, h4⟩ := p
        rw [hbd] at e
        refine code_ok C lb f lf (some l) (some (φ l).blk) φ1 _ _ ex a1 _ _ hbd ⟨H3, T1, D1, dn1⟩ ⟨by rw [el], okB.ext he1 hle1 hln⟩ fun a5 w5 hA5 => ?_
        obtain ⟨φ5, he5, ⟨H5, T5, D5, dn5⟩, hle5⟩ := hA5
        simp only [put_n] at H5 T5 D5 dn5 he5 hle5
        cases d4 with
        | cons b d => cases e
        | nil =>
         simp only [leaveR, endR] at e
         split at e
         ·rename_i s6 p6 lf6 ln6 lt6 lps6 la6 lb6 ld6 hl6
          obtain ⟨arr6, f6, m1, m2, m3⟩ := H5.obj l _ hl6
          have el5 : φ5 l = φ l := (he5 l (okB.ext he1 hle1 hln).1).trans el
          rw [el5] at m1
          have hlt5 : (φ l).blk < w5.heap.size := (Array.getElem?_eq_some_iff.1 m1).1
          have hE : Ext h.n.toNat φ φ5 := he1.trans he5 hle1
          have fin : ∀ (j : Option RExit) (st : LoopState), st = (if (j.map jumpOf).isNone then .ready else .done) → HRel w0 S φ5 (h4.put l (.loop st j lf6 ln6 lt6 lps6 la6 lb6 ld6)) (w5.putObj (φ l).blk (.loop { state := if (j.map jumpOf).isNone then .ready else .done, pending := j.map jumpOf, fn := f6, tmps := arr6, params := lps6, assign := la6, body := lb6, defers := (φ5 ld6).blk })) := by
           intro j st hst
           subst hst
           refine H5.put hl6 trivial (fun k hk => ?_) (by simp) rfl rfl rfl ⟨arr6, f6, ?_, m2, m3⟩
           ·rw [el5] at hk; exact World.putObj_heap_other hk
           ·rw [el5]; exact World.putObj_heap_same hlt5
          cases ex with
          | normal =>
           cases e
           exact ⟨_, _, run_endRound none m1, φ5, rfl, hE, fin none .ready rfl, trivial, Nat.le_trans hle1 hle5⟩
          | exit id =>
           cases e
           exact ⟨_, _, run_endRound (some (.exit id)) m1, φ5, rfl, hE, fin (some (.exit id)) .done rfl, trivial, Nat.le_trans hle1 hle5⟩
          | ret =>
           cases e
           exact ⟨_, _, run_endRound (some .ret) m1, φ5, rfl, hE, fin (some .ret) .done rfl, trivial, Nat.le_trans hle1 hle5⟩
         ·cases e
      ·cases hbe
    ·cases e
   ·cases e
  ·cases e
 ·cases e
theorem both_ok (C : SoundC P call) {fs : Nat → Option RFunc} (hfs : FsOk P fs) (f : Nat) : SoundC P (evBoth (cCode P) fs call f) :=
 fun _ _ _ _ _ _ _ _ H hw => ⟨fun _ e => fun_ok C hfs H hw e, fun _ e => round_ok C H hw e⟩
theorem none_ok : SoundC P (fun _ _ _ => none) :=
 fun _ _ _ _ _ _ _ _ _ _ => ⟨fun _ e => (by cases e), fun _ e => (by cases e)⟩
theorem ofList_get {α : Type} : ∀ (l : List α) (i : Nat) (t : Tr α) (j : Nat), (Tr.ofList (bn i) l t).get (bn j) = if j < i then t.get (bn j) else (l[j - i]?).or (t.get (bn j))
 | [], i, t, j => by simp [Tr.ofList]
 | v :: vs, i, t, j => by
  unfold Tr.ofList
  rw [bn_succ, ofList_get vs (i + 1) _ j]
  by_cases h1 : j < i
  ·rw [if_pos h1, if_pos (by omega), get_set_other _ _ _ _ (fun hh => by have := bn_inj hh; omega)]
  ·rw [if_neg h1]
   by_cases h2 : j = i
   ·subst h2
    rw [if_pos (by omega), get_set_same]
    simp
   ·rw [if_neg (by omega), get_set_other _ _ _ _ (fun hh => by have := bn_inj hh; omega)]
    have : j - i = (j - (i + 1)) + 1 := by omega
    rw [this, List.getElem?_cons_succ]
theorem prog_ok (P : Program) : FsOk P (cFs (cProg P)) := by
 intro g r h
 unfold cFs cProg at h
 have e0 : BN.z = bn 0 := rfl
 rw [e0, ofList_get] at h
 have : (Tr.nil : Tr (Option RFunc)).get (bn g) = none := by cases bn g <;> rfl
 rw [this] at h
 simp only [Nat.not_lt_zero, if_false, Nat.sub_zero, Option.or_none, List.getElem?_map, Array.getElem?_toList] at h
 cases hg : P.funcs[g]? with
 | none => rw [hg] at h; cases h
 | some fn =>
  rw [hg] at h
  exact ⟨fn, rfl, h⟩
end
end Go.CE
end
section
namespace Go.CE
open Go.RowKit
noncomputable section
structure Mt where
 ρ : Tr BN
 inv : Tr BN
 work : List (BN × BN)
def mB (b b' : BN) (m : Mt) : Option Mt :=
 match m with
 | ⟨ρ, inv, work⟩ =>
  match ρ.get b with
  | some b'' => bif eqBN b'' b' then some ⟨ρ, inv, work⟩ else none
  | none =>
   match inv.get b' with
   | some _ => none
   | none => some ⟨ρ.set b b', inv.set b' b, (b, b') :: work⟩
def plainC : CVal → Bool
 | .bool _ | .int _ _ | .str _ | .nilp | .nils | .nilm | .nilf | .nili => true
 | _ => false
def mC (m : Mt) (c c' : CVal) : Option Mt :=
 match c with
 | .ptr b o =>
  match c' with
  | .ptr b' o' => bif Nat.beq o o' then mB b b' m else none
  | _ => none
 | .slc b o l k e =>
  match c' with
  | .slc b' o' l' k' e' => bif Nat.beq o o' && Nat.beq l l' && Nat.beq k k' && eqB e e' then mB b b' m else none
  | _ => none
 | c => bif plainC c && eqV c c' then some m else none
def mCs : List CVal → List CVal → Mt → Option Mt
 | [], [], m => some m
 | c :: cs, c' :: cs', m =>
  match mC m c c' with
  | some m' => mCs cs cs' m'
  | none => none
 | _, _, _ => none
def mS (m : Mt) : SVal → SVal → Option Mt
 | .one c, .one c' => mC m c c'
 | .agg cs, .agg cs' => mCs cs cs' m
 | _, _ => none
def mA : List AVal → List AVal → Mt → Option Mt
 | [], [], m => some m
 | .s v :: vs, .s v' :: vs', m =>
  match mS m v v' with
  | some m' => mA vs vs' m'
  | none => none
 | _, _, _ => none
def mWork (hc h : AHeap) : Nat → Mt → Option (Tr BN)
 | 0, _ => none
 | f + 1, ⟨ρ, inv, work⟩ =>
  match work with
  | [] => some ρ
  | (b, b') :: ws =>
   match hc.t.get b, h.t.get b' with
   | some (.cells cs st), some (.cells cs' st') =>
    bif Nat.beq st st' then
     match mCs cs cs' ⟨ρ, inv, ws⟩ with
     | some m' => mWork hc h f m'
     | none => none
    else none
   | _, _ => none
structure Sum where
 g : Nat
 args : List AVal
 objs : List AObj
 res : AVal
def Sum.heap (s : Sum) : AHeap := ⟨bn s.objs.length, Tr.ofList .z s.objs .nil⟩
def allR (ρ : Tr BN) : BN → List AObj → Bool
 | _, [] => true
 | i, _ :: l =>
  match ρ.get i with
  | some _ => allR ρ i.succ l
  | none => false
def Sum.fits (s : Sum) (args : List AVal) (h : AHeap) : Bool :=
 match mA s.args args ⟨.nil, .nil, []⟩ with
 | some m =>
  match mWork s.heap h (Nat.succ s.objs.length) m with
  | some ρ => allR ρ .z s.objs
  | none => false
 | none => false
def plainS : SVal → Bool
 | .one c => plainC c
 | .agg cs => cs.all plainC
def plainA : AVal → Bool
 | .s v => plainS v
 | .tup vs => vs.all plainS
def sameH (h2 : AHeap) : BN → List AObj → Bool
 | _, [] => true
 | i, .cells cs st :: l =>
  match h2.t.get i with
  | some (.cells cs' st') => eqVs cs cs' && Nat.beq st st' && sameH h2 i.succ l
  | _ => false
 | _, _ :: _ => false
def Sum.chk (call : Caller) (s : Sum) : Bool :=
 match call (.inl s.g) s.args s.heap with
 | some (v, h2) => eqA s.res v && plainA s.res && sameH h2 .z s.objs
 | none => false
def findSum (g : Nat) (args : List AVal) (h : AHeap) : List Sum → Option AVal
 | [] => none
 | s :: l => bif Nat.beq g s.g && s.fits args h then some s.res else findSum g args h l
def withS (sums : List Sum) (call : Caller) : Caller
 | .inl g, args, h =>
  match findSum g args h sums with
  | some v => some (v, h)
  | none => call (.inl g) args h
 | .inr l, args, h => call (.inr l) args h
def evCallS (cc : Nat → Code → CodeFn) (fs : Nat → Option RFunc) (sums : List Sum) (n : Nat) : Caller :=
 Nat.rec (motive := fun _ => Caller) (fun _ _ _ => none) (fun f ih => withS sums (evBoth cc fs ih f)) n
def isTrue : Res → Bool
 | some (.s (.one (.bool b)), _) => b
 | _ => false
end
theorem isTrue_inv {r : Res} (h : isTrue r = true) : ∃ h2, r = some (.s (.one (.bool true)), h2) := by
 unfold isTrue at h
 split at h
 ·subst h; exact ⟨_, rfl⟩
 ·cases h
def RC (ρ : Tr BN) : CVal → CVal → Prop
 | .ptr b o, c' => ∃ b', c' = .ptr b' o ∧ ρ.get b = some b'
 | .slc b o l k e, c' => ∃ b', c' = .slc b' o l k e ∧ ρ.get b = some b'
 | c, c' => plainC c = true ∧ c' = c
def Sub (ρ ρ' : Tr BN) : Prop := ∀ b b', ρ.get b = some b' → ρ'.get b = some b'
theorem Sub.refl (ρ : Tr BN) : Sub ρ ρ := fun _ _ h => h
theorem Sub.trans {a b c : Tr BN} (h : Sub a b) (k : Sub b c) : Sub a c := fun _ _ hh => k _ _ (h _ _ hh)
theorem RC.mono {ρ ρ' : Tr BN} (hs : Sub ρ ρ') {c c' : CVal} (h : RC ρ c c') : RC ρ' c c' := by
 cases c with
 | ptr b o => obtain ⟨b', h1, h2⟩ := h; exact ⟨b', h1, hs _ _ h2⟩
 | slc b o l k e => obtain ⟨b', h1, h2⟩ := h; exact ⟨b', h1, hs _ _ h2⟩
 | _ => exact h
def RCs (ρ : Tr BN) (cs cs' : List CVal) : Prop := cs'.length = cs.length ∧ ∀ (i : Nat) (c : CVal), cs[i]? = some c → ∃ c', cs'[i]? = some c' ∧ RC ρ c c'
theorem RCs.mono {ρ ρ' : Tr BN} (hs : Sub ρ ρ') {cs cs' : List CVal} (h : RCs ρ cs cs') : RCs ρ' cs cs' :=
 ⟨h.1, fun i c hc => by obtain ⟨c', h1, h2⟩ := h.2 i c hc; exact ⟨c', h1, h2.mono hs⟩⟩
def RS (ρ : Tr BN) : SVal → SVal → Prop
 | .one c, v => ∃ c', v = .one c' ∧ RC ρ c c'
 | .agg cs, v => ∃ cs', v = .agg cs' ∧ RCs ρ cs cs'
theorem RS.mono {ρ ρ' : Tr BN} (hs : Sub ρ ρ') {v v' : SVal} (h : RS ρ v v') : RS ρ' v v' := by
 cases v with
 | one c => obtain ⟨c', h1, h2⟩ := h; exact ⟨c', h1, h2.mono hs⟩
 | agg cs => obtain ⟨cs', h1, h2⟩ := h; exact ⟨cs', h1, h2.mono hs⟩
structure MI (D : BN → BN → Prop) (hc h : AHeap) (m : Mt) : Prop where
 inv : ∀ b b', m.ρ.get b = some b' → m.inv.get b' = some b
 pairs : ∀ b b', m.ρ.get b = some b' → (b, b') ∈ m.work ∨ D b b' ∨ ∃ cs cs' st, hc.t.get b = some (.cells cs st) ∧ h.t.get b' = some (.cells cs' st) ∧ RCs m.ρ cs cs'
section
variable {D : BN → BN → Prop} {hc h : AHeap}
theorem mB_ok {m m' : Mt} {b b' : BN} (I : MI D hc h m) (e : mB b b' m = some m') : MI D hc h m' ∧ Sub m.ρ m'.ρ ∧ m'.ρ.get b = some b' := by
 obtain ⟨ρ, inv, work⟩ := m
 unfold mB at e
 simp only at e
 split at e
 ·rename_i b'' hb
  cases hq : eqBN b'' b' with
  | false => rw [hq] at e; cases e
  | true =>
   rw [hq] at e
   cases e
   rw [eqBN_eq hq] at hb
   exact ⟨I, Sub.refl _, hb⟩
 ·rename_i hb
  split at e
  ·cases e
  ·rename_i hi
   cases e
   have hsub : Sub ρ (ρ.set b b') := by
    intro x y hx
    have : x ≠ b := fun hh => by subst hh; rw [hb] at hx; cases hx
    rw [get_set_other _ _ _ _ this]
    exact hx
   refine ⟨⟨fun x y hx => ?_, fun x y hx => ?_⟩, hsub, get_set_same _ _ _⟩
   ·show (inv.set b' b).get y = some x
    by_cases hxb : x = b
    ·subst hxb
     have : y = b' := by
      have hx : (ρ.set x b').get x = some y := hx
      rw [get_set_same] at hx
      exact (Option.some.inj hx).symm
     subst this
     exact get_set_same _ _ _
    ·have hx : (ρ.set b b').get x = some y := hx
     rw [get_set_other _ _ _ _ hxb] at hx
     have h1 := I.inv x y hx
     have : y ≠ b' := fun hh => by subst hh; rw [hi] at h1; cases h1
     rw [get_set_other _ _ _ _ this]
     exact h1
   ·by_cases hxb : x = b
    ·subst hxb
     have : y = b' := by
      have hx : (ρ.set x b').get x = some y := hx
      rw [get_set_same] at hx
      exact (Option.some.inj hx).symm
     subst this
     exact .inl (List.mem_cons_self ..)
    ·have hx : (ρ.set b b').get x = some y := hx
     rw [get_set_other _ _ _ _ hxb] at hx
     rcases I.pairs x y hx with h1 | h1 | ⟨cs, cs', st, h1, h2, h3⟩
     ·exact .inl (List.mem_cons_of_mem _ h1)
     ·exact .inr (.inl h1)
     ·exact .inr (.inr ⟨cs, cs', st, h1, h2, h3.mono hsub⟩)
theorem mC_ok {m m' : Mt} {c c' : CVal} (I : MI D hc h m) (e : mC m c c' = some m') : MI D hc h m' ∧ Sub m.ρ m'.ρ ∧ RC m'.ρ c c' := by
 have rest : (bif plainC c && eqV c c' then some m else none) = some m' → (plainC c = true → RC m'.ρ c c' ∨ True) → MI D hc h m' ∧ Sub m.ρ m'.ρ ∧ plainC c = true ∧ c' = c := by
  intro e _
  cases hq : (plainC c && eqV c c') with
  | false => rw [hq] at e; cases e
  | true =>
   rw [hq] at e
   cases e
   obtain ⟨h1, h2⟩ := and2 hq
   exact ⟨I, Sub.refl _, h1, (eqV_eq h2).symm⟩
 cases c with
 | ptr b o =>
  cases c' with
  | ptr b' o' =>
   simp only [mC] at e
   cases hq : Nat.beq o o' with
   | false => rw [hq] at e; cases e
   | true =>
    rw [hq] at e
    obtain ⟨h1, h2, h3⟩ := mB_ok I e
    exact ⟨h1, h2, b', by rw [beq_true hq], h3⟩
  | _ => cases e
 | slc b o l k x =>
  cases c' with
  | slc b' o' l' k' x' =>
   simp only [mC] at e
   cases hq : (Nat.beq o o' && Nat.beq l l' && Nat.beq k k' && eqB x x') with
   | false => rw [hq] at e; cases e
   | true =>
    rw [hq] at e
    obtain ⟨h1, h2, h3⟩ := mB_ok I e
    obtain ⟨q1, q2⟩ := and2 hq
    obtain ⟨q1, q3⟩ := and2 q1
    obtain ⟨q1, q4⟩ := and2 q1
    exact ⟨h1, h2, b', by rw [beq_true q1, beq_true q4, beq_true q3, eqB_eq q2], h3⟩
  | _ => cases e
 | _ => exact rest e (fun _ => .inr trivial)
theorem mCs_ok : ∀ (cs cs' : List CVal) (m m' : Mt), MI D hc h m → mCs cs cs' m = some m' → MI D hc h m' ∧ Sub m.ρ m'.ρ ∧ RCs m'.ρ cs cs'
 | [], [], m, m', I, e => by cases e; exact ⟨I, Sub.refl _, rfl, fun i c hc => by simp at hc⟩
 | c :: cs, c' :: cs', m, m', I, e => by
  unfold mCs at e
  split at e
  ·rename_i m1 h1
   obtain ⟨I1, s1, r1⟩ := mC_ok I h1
   obtain ⟨I2, s2, r2⟩ := mCs_ok cs cs' m1 m' I1 e
   refine ⟨I2, s1.trans s2, by simp [r2.1], fun i x hx => ?_⟩
   cases i with
   | zero =>
    simp only [List.getElem?_cons_zero, Option.some.injEq] at hx
    subst hx
    exact ⟨c', rfl, r1.mono s2⟩
   | succ i =>
    simp only [List.getElem?_cons_succ] at hx ⊢
    exact r2.2 i x hx
  ·cases e
 | [], _ :: _, m, m', I, e => by cases e
 | _ :: _, [], m, m', I, e => by cases e
theorem mS_ok {m m' : Mt} {v v' : SVal} (I : MI D hc h m) (e : mS m v v' = some m') : MI D hc h m' ∧ Sub m.ρ m'.ρ ∧ RS m'.ρ v v' := by
 cases v with
 | one c =>
  cases v' with
  | one c' => obtain ⟨h1, h2, h3⟩ := mC_ok I e; exact ⟨h1, h2, c', rfl, h3⟩
  | agg cs' => cases e
 | agg cs =>
  cases v' with
  | one c' => cases e
  | agg cs' => obtain ⟨h1, h2, h3⟩ := mCs_ok _ _ _ _ I e; exact ⟨h1, h2, cs', rfl, h3⟩
def RAs (ρ : Tr BN) : List AVal → List AVal → Prop
 | [], [] => True
 | .s v :: vs, .s v' :: vs' => RS ρ v v' ∧ RAs ρ vs vs'
 | _, _ => False
theorem RAs.mono {ρ ρ' : Tr BN} (hs : Sub ρ ρ') : ∀ {vs vs' : List AVal}, RAs ρ vs vs' → RAs ρ' vs vs'
 | [], [], _ => trivial
 | .s _ :: _, .s _ :: _, h => ⟨h.1.mono hs, RAs.mono hs h.2⟩
 | [], _ :: _, h => h.elim
 | .tup _ :: _, _, h => by cases h
 | .s _ :: _, [], h => by cases h
 | .s _ :: _, .tup _ :: _, h => by cases h
theorem mA_ok : ∀ (vs vs' : List AVal) (m m' : Mt), MI D hc h m → mA vs vs' m = some m' → MI D hc h m' ∧ Sub m.ρ m'.ρ ∧ RAs m'.ρ vs vs'
 | [], [], m, m', I, e => by cases e; exact ⟨I, Sub.refl _, trivial⟩
 | .s v :: vs, .s v' :: vs', m, m', I, e => by
  unfold mA at e
  split at e
  ·rename_i m1 h1
   obtain ⟨I1, s1, r1⟩ := mS_ok I h1
   obtain ⟨I2, s2, r2⟩ := mA_ok vs vs' m1 m' I1 e
   exact ⟨I2, s1.trans s2, r1.mono s2, r2⟩
  ·cases e
 | [], _ :: _, m, m', I, e => by cases e
 | .tup _ :: _, _, m, m', I, e => by unfold mA at e; cases e
 | .s _ :: _, [], m, m', I, e => by cases e
 | .s _ :: _, .tup _ :: _, m, m', I, e => by cases e
theorem mWork_ok : ∀ (f : Nat) (m : Mt) (ρ : Tr BN), MI (fun _ _ => False) hc h m → mWork hc h f m = some ρ → ∃ inv, MI (fun _ _ => False) hc h ⟨ρ, inv, []⟩ ∧ Sub m.ρ ρ
 | 0, m, ρ, I, e => by cases e
 | f + 1, ⟨ρ0, inv, work⟩, ρ, I, e => by
  unfold mWork at e
  cases work with
  | nil => cases e; exact ⟨inv, I, Sub.refl _⟩
  | cons p ws =>
   obtain ⟨b, b'⟩ := p
   simp only at e
   split at e
   ·rename_i cs st cs' st' h1 h2
    cases hq : Nat.beq st st' with
    | false => rw [hq] at e; cases e
    | true =>
     rw [hq] at e
     simp only [cond_true] at e
     have hst := beq_true hq
     subst hst
     cases hm : mCs cs cs' ⟨ρ0, inv, ws⟩ with
     | none => rw [hm] at e; cases e
     | some m1 =>
      rw [hm] at e
      have I0 : MI (fun x y => x = b ∧ y = b') hc h ⟨ρ0, inv, ws⟩ := by
       refine ⟨I.inv, fun x y hx => ?_⟩
       rcases I.pairs x y hx with k | k | k
       ·cases k with
        | head => exact .inr (.inl ⟨rfl, rfl⟩)
        | tail _ hm => exact .inl hm
       ·exact k.elim
       ·exact .inr (.inr k)
      obtain ⟨I1, s1, r1⟩ := mCs_ok cs cs' _ m1 I0 hm
      have I2 : MI (fun _ _ => False) hc h m1 := by
       refine ⟨I1.inv, fun x y hx => ?_⟩
       rcases I1.pairs x y hx with k | ⟨rfl, rfl⟩ | k
       ·exact .inl k
       ·exact .inr (.inr ⟨cs, cs', st, h1, h2, r1⟩)
       ·exact .inr (.inr k)
      obtain ⟨inv', k1, k2⟩ := mWork_ok f m1 ρ I2 e
      exact ⟨inv', k1, s1.trans k2⟩
   ·cases e
theorem fits_ok {s : Sum} {args : List AVal} (e : s.fits args h = true) : ∃ ρ : Tr BN, RAs ρ s.args args ∧ (∀ b c b', ρ.get b = some b' → ρ.get c = some b' → b = c) ∧
  (∀ b b', ρ.get b = some b' → ∃ cs cs' st, s.heap.t.get b = some (.cells cs st) ∧ h.t.get b' = some (.cells cs' st) ∧ RCs ρ cs cs') ∧ allR ρ .z s.objs = true := by
 unfold Sum.fits at e
 split at e
 ·rename_i m hm
  split at e
  ·rename_i ρ hρ
   have I0 : MI (fun _ _ => False) s.heap h ⟨.nil, .nil, []⟩ := ⟨(fun b b' hb => by cases b <;> cases hb), (fun b b' hb => by cases b <;> cases hb)⟩
   obtain ⟨I1, s1, r1⟩ := mA_ok _ _ _ _ I0 hm
   obtain ⟨inv, I2, s2⟩ := mWork_ok _ _ _ I1 hρ
   refine ⟨ρ, r1.mono s2, fun b c b' hb hc => ?_, fun b b' hb => ?_, e⟩
   ·have h1 := I2.inv b b' hb
    have h2 := I2.inv c b' hc
    exact Option.some.inj (h1.symm.trans h2)
   ·rcases I2.pairs b b' hb with k | k | k
    ·cases k
    ·exact k.elim
    ·exact k
  ·cases e
 ·cases e
end
section
variable {P : Program} {w0 : World} {S : Nat → Prop} {φ : Phi} {h : AHeap} {w : World}
noncomputable def via (ρ : Tr BN) (φ : Phi) : Phi := fun b => match ρ.get b with | some b' => φ b' | none => ⟨0, 0, 0, true, none⟩
theorem via_eq {ρ : Tr BN} {b b' : BN} (hb : ρ.get b = some b') : via ρ φ b = φ b' := by unfold via; rw [hb]
theorem RC_conc {ρ : Tr BN} {c c' : CVal} (hr : RC ρ c c') : concC φ c' = concC (via ρ φ) c := by
 cases c with
 | ptr b o => obtain ⟨b', rfl, hb⟩ := hr; simp only [concC, adr, via_eq hb]
 | slc b o l k e => obtain ⟨b', rfl, hb⟩ := hr; simp only [concC, adr, via_eq hb]
 | _ => obtain ⟨hp, rfl⟩ := hr; first | rfl | cases hp
theorem RC_wf {ρ : Tr BN} {n m : Nat} (hlt : ∀ b b', ρ.get b = some b' → b.toNat < m) {c c' : CVal} (hr : RC ρ c c') (hw : wfC φ n c') : wfC (via ρ φ) m c := by
 cases c with
 | ptr b o => obtain ⟨b', rfl, hb⟩ := hr; exact ⟨hlt _ _ hb, by rw [via_eq hb]; exact hw.2⟩
 | slc b o l k e =>
  obtain ⟨b', rfl, hb⟩ := hr
  exact ⟨⟨hlt _ _ hb, by rw [via_eq hb]; exact hw.1.2⟩, by rw [via_eq hb]; exact hw.2.1, hw.2.2⟩
 | _ => obtain ⟨hp, rfl⟩ := hr; first | trivial | cases hp
theorem RCs_conc {ρ : Tr BN} {cs cs' : List CVal} (hr : RCs ρ cs cs') : cs'.map (concC φ) = cs.map (concC (via ρ φ)) := by
 apply List.ext_getElem?
 intro i
 rw [List.getElem?_map, List.getElem?_map]
 cases hc : cs[i]? with
 | none =>
  have : cs'[i]? = none := by
   have := hr.1
   rw [List.getElem?_eq_none_iff] at hc ⊢
   omega
  rw [this]; rfl
 | some c =>
  obtain ⟨c', h1, h2⟩ := hr.2 i c hc
  rw [h1]
  simp only [Option.map_some, RC_conc h2]
theorem RS_conc {ρ : Tr BN} {v v' : SVal} (hr : RS ρ v v') : concS φ v' = concS (via ρ φ) v := by
 cases v with
 | one c => obtain ⟨c', rfl, h2⟩ := hr; exact RC_conc h2
 | agg cs => obtain ⟨cs', rfl, h2⟩ := hr; simp only [concS, RCs_conc h2]
theorem RS_wf {ρ : Tr BN} {n m : Nat} (hlt : ∀ b b', ρ.get b = some b' → b.toNat < m) {v v' : SVal} (hr : RS ρ v v') (hw : wfS φ n v') : wfS (via ρ φ) m v := by
 cases v with
 | one c => obtain ⟨c', rfl, h2⟩ := hr; exact RC_wf hlt h2 hw
 | agg cs =>
  obtain ⟨cs', rfl, h2⟩ := hr
  intro c hc
  obtain ⟨i, hi⟩ := List.mem_iff_getElem?.1 hc
  obtain ⟨c', h3, h4⟩ := h2.2 i c hi
  exact RC_wf hlt h4 (hw c' (List.mem_of_getElem? h3))
theorem RAs_ok {ρ : Tr BN} {n m : Nat} (hlt : ∀ b b', ρ.get b = some b' → b.toNat < m) : ∀ {vs vs' : List AVal}, RAs ρ vs vs' → (∀ x ∈ vs', wfA φ n x) → vs'.map (concA φ) = vs.map (concA (via ρ φ)) ∧ ∀ x ∈ vs, wfA (via ρ φ) m x
 | [], [], _, _ => ⟨rfl, fun x hx => by cases hx⟩
 | .s v :: vs, .s v' :: vs', hr, hw => by
  obtain ⟨h1, h2⟩ := RAs_ok (n := n) hlt hr.2 fun x hx => hw x (by simp [hx])
  refine ⟨?_, fun x hx => ?_⟩
  ·simp only [List.map_cons, h1, concA, RS_conc hr.1]
  ·cases hx with
   | head => exact RS_wf hlt hr.1 (hw (.s v') (by simp))
   | tail _ hm => exact h2 x hm
 | [], _ :: _, hr, _ => hr.elim
 | .tup _ :: _, _, hr, _ => by cases hr
 | .s _ :: _, [], hr, _ => by cases hr
 | .s _ :: _, .tup _ :: _, hr, _ => by cases hr
theorem allR_spec {ρ : Tr BN} : ∀ (l : List AObj) (i j : Nat) (o : AObj), allR ρ (bn i) l = true → l[j]? = some o → ∃ b', ρ.get (bn (i + j)) = some b'
 | [], i, j, o, e, hj => by simp at hj
 | x :: l, i, j, o, e, hj => by
  unfold allR at e
  split at e
  ·rename_i b' hb
   cases j with
   | zero => exact ⟨b', hb⟩
   | succ j =>
    rw [bn_succ] at e
    obtain ⟨b'', hb''⟩ := allR_spec l (i + 1) j o e (by simpa using hj)
    exact ⟨b'', by rwa [show i + (j + 1) = i + 1 + j by omega]⟩
  ·cases e
theorem heap_get (s : Sum) (b : BN) : s.heap.t.get b = s.objs[b.toNat]? := by
 have e0 : BN.z = bn 0 := rfl
 show (Tr.ofList .z s.objs .nil).get b = _
 have := ofList_get s.objs 0 (.nil : Tr AObj) b.toNat
 rw [bn_of_toNat, ← e0] at this
 rw [this]
 have hn : (Tr.nil : Tr AObj).get b = none := by cases b <;> rfl
 rw [hn]
 simp
theorem sameH_spec {h2 : AHeap} : ∀ (l : List AObj) (i j : Nat) (o : AObj), sameH h2 (bn i) l = true → l[j]? = some o → ∃ cs st, o = .cells cs st ∧ h2.t.get (bn (i + j)) = some (.cells cs st)
 | [], i, j, o, e, hj => by simp at hj
 | x :: l, i, j, o, e, hj => by
  cases x with
  | cells cs st =>
   unfold sameH at e
   split at e
   ·rename_i cs' st' hb
    obtain ⟨e1, e2⟩ := and2 e
    obtain ⟨e1, e3⟩ := and2 e1
    cases j with
    | zero =>
     simp only [List.getElem?_cons_zero, Option.some.injEq] at hj
     exact ⟨cs, st, hj.symm, by rw [eqVs_eq e1, beq_true e3]; exact hb⟩
    | succ j =>
     rw [bn_succ] at e2
     obtain ⟨cs2, st2, k1, k2⟩ := sameH_spec l (i + 1) j o e2 (by simpa using hj)
     exact ⟨cs2, st2, k1, by rwa [show i + (j + 1) = i + 1 + j by omega]⟩
   ·cases e
  | _ => cases e
theorem plainC_conc {φ ψ : Phi} {c : CVal} (hp : plainC c = true) : concC φ c = concC ψ c := by cases c <;> first | rfl | cases hp
theorem plainC_wf {n : Nat} {c : CVal} (hp : plainC c = true) : wfC φ n c := by cases c <;> first | trivial | cases hp
theorem plainS_conc {φ ψ : Phi} {v : SVal} (hp : plainS v = true) : concS φ v = concS ψ v := by
 cases v with
 | one c => exact plainC_conc hp
 | agg cs =>
  simp only [concS]
  congr 2
  exact List.map_congr_left fun c hc => plainC_conc (List.all_eq_true.1 hp c hc)
theorem plainS_wf {n : Nat} {v : SVal} (hp : plainS v = true) : wfS φ n v := by
 cases v with
 | one c => exact plainC_wf hp
 | agg cs => exact fun c hc => plainC_wf (List.all_eq_true.1 hp c hc)
theorem plainA_conc {φ ψ : Phi} {v : AVal} (hp : plainA v = true) : concA φ v = concA ψ v := by
 cases v with
 | s v => exact plainS_conc hp
 | tup vs =>
  simp only [concA]
  congr 2
  exact List.map_congr_left fun c hc => plainS_conc (List.all_eq_true.1 hp c hc)
theorem plainA_wf {n : Nat} {v : AVal} (hp : plainA v = true) : wfA φ n v := by
 cases v with
 | s v => exact plainS_wf hp
 | tup vs => exact fun c hc => plainS_wf (List.all_eq_true.1 hp c hc)
def SumOk (P : Program) (s : Sum) : Prop := ∃ call, SoundC P call ∧ s.chk call = true
theorem sum_ok {s : Sum} (hs : SumOk P s) {args : List AVal} (H : HRel w0 S φ h w) (hw : ∀ x ∈ args, wfA φ h.n.toNat x) (hf : s.fits args h = true) :
  (∀ as w, (callFunc s.g as).run P w = .ok (.enter s.g as) w) ∧ CallsIn (FR none) 0 P s.g (args.map (concA φ)).toArray w (Ret w0 S φ h s.res h) := by
 obtain ⟨call, C, hchk⟩ := hs
 obtain ⟨ρ, hargs, hinj, hpair, hall⟩ := fits_ok hf
 unfold Sum.chk at hchk
 split at hchk
 ·rename_i v h2 hcall
  obtain ⟨e1, e2⟩ := and2 hchk
  obtain ⟨e1, e3⟩ := and2 e1
  have hv := eqA_eq e1
  subst hv
  have hn : s.heap.n.toNat = s.objs.length := bn_toNat _
  have hlt : ∀ b b', ρ.get b = some b' → b.toNat < s.heap.n.toNat := by
   intro b b' hb
   obtain ⟨cs, cs', st, h1, _⟩ := hpair b b' hb
   rw [heap_get] at h1
   rw [hn]
   exact (List.getElem?_eq_some_iff.1 h1).1
  have hin : ∀ b o, s.heap.t.get b = some o → ∃ b' cs cs' st, ρ.get b = some b' ∧ o = .cells cs st ∧ h.t.get b' = some (.cells cs' st) ∧ RCs ρ cs cs' := by
   intro b o hb
   have hb' := hb
   rw [heap_get] at hb'
   obtain ⟨b', hρ⟩ := allR_spec s.objs 0 b.toNat o hall hb'
   rw [Nat.zero_add, bn_of_toNat] at hρ
   obtain ⟨cs, cs', st, h1, h3, h4⟩ := hpair b b' hρ
   rw [hb] at h1
   exact ⟨b', cs, cs', st, hρ, Option.some.inj h1, h3, h4⟩
  obtain ⟨hconc, hwf⟩ := RAs_ok (φ := φ) (n := h.n.toNat) (m := s.heap.n.toNat) hlt hargs hw
  have HC : HRel w (fun k => ∃ b b', ρ.get b = some b' ∧ k = (φ b').blk) (via ρ φ) s.heap w := by
   refine ⟨fun b o hb => ?_, fun b o hb => ?_, fun b o hb => ?_, fun b c o o' hb hc _ _ hh => ?_, fun b o hb _ => ?_, rfl, rfl, rfl, Nat.le_refl _, fun _ _ _ => rfl, H.glob, fun b o hb _ => ?_, fun b o hb _ => ?_⟩
   ·rw [heap_get] at hb
    rw [hn]
    exact (List.getElem?_eq_some_iff.1 hb).1
   ·obtain ⟨b', cs, cs', st, hρ, rfl, hb', hr⟩ := hin b o hb
    rw [via_eq hρ]
    exact H.okb b' _ hb'
   ·obtain ⟨b', cs, cs', st, hρ, rfl, hb', hr⟩ := hin b o hb
    obtain ⟨arr, e, g1, g2, g3, g4⟩ := H.obj b' _ hb'
    refine ⟨arr, e, by rw [via_eq hρ]; exact g1, fun i c hc => ?_, by rw [via_eq hρ]; exact g3, fun c hc => ?_⟩
    ·obtain ⟨c', k1, k2⟩ := hr.2 i c hc
     rw [via_eq hρ, ← RC_conc k2]
     exact g2 i c' k1
    ·obtain ⟨i, hi⟩ := List.mem_iff_getElem?.1 hc
     obtain ⟨c', k1, k2⟩ := hr.2 i c hi
     exact RC_wf hlt k2 (g4 c' (List.mem_of_getElem? k1))
   ·obtain ⟨b', cs, cs', st, hρ, rfl, hb', _⟩ := hin b o hb
    obtain ⟨c', ds, ds', st2, hρc, rfl, hc', _⟩ := hin c o' hc
    rw [via_eq hρ, via_eq hρc] at hh
    have := H.inj b' c' _ _ hb' hc' trivial trivial hh
    subst this
    exact hinj b c b' hρ hρc
   ·obtain ⟨b', cs, cs', st, hρ, rfl, hb', _⟩ := hin b o hb
    exact .inl ⟨b, b', hρ, by rw [via_eq hρ]⟩
   ·obtain ⟨b', cs, cs', st, hρ, rfl, hb', _⟩ := hin b o hb
    rw [via_eq hρ]
    exact H.flat b' _ hb' trivial
   ·obtain ⟨b', cs, cs', st, hρ, rfl, hb', _⟩ := hin b o hb
    rw [via_eq hρ]
    exact H.ng b' _ hb' trivial
  obtain ⟨hcf, hcl⟩ := (C w _ _ _ w _ _ h2 HC hwf).1 s.g hcall
  refine ⟨hcf, ?_⟩
  rw [hconc]
  refine hcl.mono ?_
  rintro e9 w9 ⟨φ2, rfl, he, H2, _, hle⟩
  refine ⟨φ, by rw [plainA_conc (ψ := φ) e3], Ext.refl _ _, ?_, plainA_wf e3, Nat.le_refl _⟩
  have hkeep : ∀ k, k < w.heap.size → (¬ ∃ b b', ρ.get b = some b' ∧ k = (φ b').blk) → w9.heap[k]? = w.heap[k]? := fun k hk hS => H2.kept k hk hS
  refine ⟨H.keys, H.okb, fun b o hb => ?_, H.inj, H.own, H2.os.trans H.os, H2.tape.trans H.tape, H2.output.trans H.output, Nat.le_trans H.size H2.size, fun k hk hS => ?_, H2.glob, H.flat, H.ng⟩
  ·by_cases hl : live o
   ·by_cases hm : ∃ c c', ρ.get c = some c' ∧ (φ b).blk = (φ c').blk
    ·obtain ⟨c, c', hρ, hblk⟩ := hm
     obtain ⟨cs, cs', st, k1, k2, k3⟩ := hpair c c' hρ
     have := H.inj b c' _ _ hb k2 hl trivial hblk
     subst this
     cases hb.symm.trans k2
     have k1' := k1
     rw [heap_get] at k1'
     obtain ⟨cs2, st2, q1, q2⟩ := sameH_spec s.objs 0 c.toNat _ e2 k1'
     rw [Nat.zero_add, bn_of_toNat] at q2
     cases q1
     obtain ⟨arr, e, g1, g2, g3, g4⟩ := H2.obj c _ q2
     have ec : φ2 c = φ b := (he c (hlt _ _ hρ)).trans (via_eq hρ)
     obtain ⟨_, _, _, _, _, o4⟩ := H.obj b _ hb
     refine ⟨arr, e, by rw [← ec]; exact g1, fun i x hx => ?_, by rw [← ec]; exact g3, o4⟩
     have hi : i < cs.length := by
      have := (List.getElem?_eq_some_iff.1 hx).1
      have := k3.1
      omega
     obtain ⟨x', j1, j2⟩ := k3.2 i cs[i] (List.getElem?_eq_getElem hi)
     rw [hx] at j1
     cases j1
     have := g2 i cs[i] (List.getElem?_eq_getElem hi)
     rw [ec] at this
     rw [this, RC_conc j2]
     have hwc : wfC (via ρ φ) s.heap.n.toNat cs[i] := RC_wf hlt j2 (o4 x (List.mem_of_getElem? hx))
     rw [conc_extC he hwc]
    ·exact (H.obj b o hb).world fun _ => hkeep _ ((H.obj b o hb).there hl) (fun ⟨c, c', h1, h2⟩ => hm ⟨c, c', h1, h2⟩)
   ·exact (H.obj b o hb).world fun hh => absurd hh hl
  ·by_cases hm : ∃ c c', ρ.get c = some c' ∧ k = (φ c').blk
   ·obtain ⟨c, c', hρ, rfl⟩ := hm
    obtain ⟨cs, cs', st, _, k2, _⟩ := hpair c c' hρ
    rcases H.own c' _ k2 trivial with h1 | h1
    ·exact absurd h1 hS
    ·omega
   ·rw [hkeep k (Nat.lt_of_lt_of_le hk H.size) hm]
    exact H.kept k hk hS
 ·cases hchk
theorem findSum_ok {g : Nat} {args : List AVal} {v : AVal} : ∀ (l : List Sum), findSum g args h l = some v → ∃ s ∈ l, s.g = g ∧ s.fits args h = true ∧ s.res = v
 | [], e => by cases e
 | s :: l, e => by
  unfold findSum at e
  cases hq : (Nat.beq g s.g && s.fits args h) with
  | true =>
   rw [hq] at e
   obtain ⟨h1, h2⟩ := and2 hq
   exact ⟨s, by simp, (beq_true h1).symm, h2, Option.some.inj e⟩
  | false =>
   rw [hq] at e
   obtain ⟨s', k1, k2⟩ := findSum_ok l e
   exact ⟨s', by simp [k1], k2⟩
theorem withS_ok {sums : List Sum} (hs : ∀ s ∈ sums, SumOk P s) {call : Caller} (C : SoundC P call) : SoundC P (withS sums call) := by
 intro w0 S φ h w args v h2 H hw
 refine ⟨fun g e => ?_, fun l e => (C w0 S φ h w args v h2 H hw).2 l e⟩
 unfold withS at e
 simp only at e
 split at e
 ·rename_i v' hf
  cases e
  obtain ⟨s, h1, rfl, h3, rfl⟩ := findSum_ok sums hf
  exact sum_ok (hs s h1) H hw h3
 ·exact (C w0 S φ h w args v h2 H hw).1 g e
theorem callS_ok {fs : Nat → Option RFunc} (hfs : FsOk P fs) {sums : List Sum} (hs : ∀ s ∈ sums, SumOk P s) : ∀ n, SoundC P (evCallS (cCode P) fs sums n)
 | 0 => none_ok
 | n + 1 => withS_ok hs (both_ok (callS_ok hfs hs n) hfs n)
theorem calls_of_sound {call : Caller} (C : SoundC P call) {f : Nat} {c : CVal} {h2 : AHeap} (e : call (.inl f) [] ⟨.z, .nil⟩ = some (.s (.one c), h2)) (w : World) (hG : GOk w) :
  (∀ as w, (callFunc f as).run P w = .ok (.enter f as) w) ∧ CallsIn (FR none) 0 P f #[] w (fun e w2 => ∃ φ, e = .returned (concC φ c) ∧ Below w.heap.size w w2) := by
 have H : HRel w (fun _ => False) (fun _ => ⟨0, 0, 0, true, none⟩) ⟨.z, .nil⟩ w := by
  have hnil : ∀ b, (Tr.nil : Tr AObj).get b = none := by intro b; cases b <;> rfl
  refine ⟨?_, ?_, ?_, ?_, ?_, rfl, rfl, rfl, Nat.le_refl _, fun _ _ _ => rfl, hG, ?_, ?_⟩
  ·intro b o hb; rw [hnil] at hb; cases hb
  ·intro b o hb; rfl
  ·intro b o hb; rw [hnil] at hb; cases hb
  ·intro b b' o o' hb; rw [hnil] at hb; cases hb
  ·intro b o hb; rw [hnil] at hb; cases hb
  ·intro b o hb; rw [hnil] at hb; cases hb
  ·intro b o hb; rw [hnil] at hb; cases hb
 have := (C w _ _ _ w [] _ h2 H (fun x hx => by cases hx)).1 f e
 refine ⟨this.1, this.2.mono ?_⟩
 rintro e9 w9 ⟨φ2, rfl, he, H2, _, _⟩
 exact ⟨φ2, rfl, ⟨H2.os, H2.tape, H2.output, H2.size, fun k hk => H2.kept k hk (fun hh => hh)⟩⟩
end
end Go.CE
end
section
namespace Go.CE
noncomputable section
abbrev Fr := Nat → AVal
def frOf (t : Tr AVal) : Fr := fun i => tmpF (bn i) t
def coK (r : Fr) : Operand → Option Opd
 | .tmp t => some (constF (r t))
 | .const v => match cVal v with | some s => some (constF (.s s)) | none => none
 | .func f => some (constF (.s (.one (.fn f []))))
 | .global g => match gtabK g with | some _ => some (constF (.s (.one (.gptr g 0)))) | none => none
def cOpdsG (co : Operand → Option Opd) : List Operand → Option (List Opd)
 | [] => some []
 | x :: xs =>
  match co x, cOpdsG co xs with
  | some y, some ys => some (y :: ys)
  | _, _ => none
def cOptG (co : Operand → Option Opd) : Option Operand → Option (Option Opd)
 | none => some none
 | some x => match co x with | some y => some (some y) | none => none
section
variable (P : Program)
def fieldPartsG (co : Operand → Option Opd) (fs : Array Field) : List (Nat × Operand) → Option (List (Nat × Nat × Opd))
 | [] => some []
 | (i, x) :: r =>
  match fs[i]?, co x, fieldPartsG co fs r with
  | some f, some y, some rest =>
   match P.info? f.type with
   | some info => some ((f.offset, info.size, y) :: rest)
   | none => none
  | _, _, _ => none
def elemPartsG (co : Operand → Option Opd) (size : Nat) : List (Nat × Operand) → Option (List (Nat × Nat × Opd))
 | [] => some []
 | (i, x) :: r =>
  match co x, elemPartsG co size r with
  | some y, some rest => some ((i * size, size, y) :: rest)
  | _, _ => none
def cOpG (co : Operand → Option Opd) (o : Op) : OpFn := orBad <| match o with
 | .move x | .assign x => (co x).map opMv
 | .pick c a b => do pure (opPick (← co c) (← co a) (← co b))
 | .alloc t => bif isBldT P t then do pure (opAllocT t (← zeroT P t).cells) else do pure (opAlloc (← zeroT P t).cells)
 | .box _ x => do pure (opBox (← co x))
 | .build t parts =>
  match P.underlying t, zeroT P t with
  | some (.struct fs), some z => bif allInfo P fs.toList then do pure (opBuild z.cells (← fieldPartsG P co fs parts.toList)) else none
  | some (.array _ e), some z =>
   match P.info? e with
   | some i => do pure (opBuild z.cells (← elemPartsG co i.size parts.toList))
   | none => none
  | _, _ => none
 | .buildSlice t len parts =>
  match P.underlying t with
  | some (.slice e) =>
   match P.info? e with
   | some i =>
    bif Nat.ble (len * i.size) 16777216 then
     match (bif Nat.beq (len * i.size) 0 then some [] else (zeroT P e).map SVal.cells) with
     | some zs => bif Nat.beq (len * i.size) 0 || Nat.beq zs.length i.size then do pure (opBslice i.size len (repl zs len) (← elemPartsG co i.size parts.toList)) else none
     | none => none
    else none
   | none => none
  | _ => none
 | .load t x => do pure (opLoad (← sizeT P t) (← co x))
 | .store t x v => do pure (opStore (← P.info? t).size (← co x) (← co v))
 | .nilCheck x => do pure (opNilck (← co x))
 | .binOp op t x y _ =>
  match P.underlying t with
  | some (.int _) =>
   match op with
   | .shl => do pure (opShift evShl (← co x) (← co y))
   | .shr => do pure (opShift evShr (← co x) (← co y))
   | op => do pure (opInt (intFn op) (← co x) (← co y))
  | some .string => do pure (opStr op (← co x) (← co y))
  | some (.slice _) =>
   match op with
   | .eql => do pure (opNilS false (← co x) (← co y))
   | .neq => do pure (opNilS true (← co x) (← co y))
   | _ => none
  | some (.pointer e) =>
   bif hasSize P e then
   match op with
   | .eql => do pure (opPtrEq false (← co x) (← co y))
   | .neq => do pure (opPtrEq true (← co x) (← co y))
   | _ => none
   else none
  | some (.func _ _ _) =>
   match op with
   | .eql => do pure (opNilF false (← co x) (← co y))
   | .neq => do pure (opNilF true (← co x) (← co y))
   | _ => none
  | some _ =>
   bif P.eqGuardType P.depth t then none else
   match op with
   | .eql => do pure (opEq (← keyT P t) false (← co x) (← co y))
   | .neq => do pure (opEq (← keyT P t) true (← co x) (← co y))
   | _ => none
  | none => none
 | .unOp .not _ x => do pure (opNot (← co x))
 | .unOp .neg _ x => do pure (opNeg (← co x))
 | .convert s d x =>
  match P.underlying s, P.underlying d with
  | some (.int _), some (.int k) => do pure (opConv k (← co x))
  | some .string, some (.slice e) => bif isByteT P e then do pure (opS2b (← co x)) else none
  | some (.slice e), some .string => bif isByteT P e then do pure (opB2s (← co x)) else none
  | some (.pointer e), some .unsafePointer => bif hasSize P e then do pure (opP2U (← co x)) else none
  | some .unsafePointer, some (.pointer u) => bif liesT P u then do pure (opU2P u (P.cellsOf u) (← co x)) else none
  | _, _ => none
 | .makeFunc (.func f) first captured => bif first.isEmpty then do pure (opMkfn f (← cOpdsG co captured.toList)) else none
 | .makeMap _ none => some opMkmap
 | .makeSlice t l c =>
  match P.underlying t with
  | some (.slice e) =>
   match P.info? e, zeroT P e with
   | some i, some z => bif Nat.beq z.cells.length i.size && !Nat.beq i.size 0 then do pure (opMkslice i.size z.cells i.bytes (← co l) (← co c)) else none
   | _, _ => none
  | _ => none
 | .slice t x lo hi mx =>
  match P.underlying t with
  | some (.slice e) =>
   match P.info? e with
   | some i => bif mx.isSome && !hi.isSome then none else do pure (opSlice i.size (← co x) (← cOptG co lo) (← cOptG co hi) (← cOptG co mx))
   | none => none
  | some (.array n e) =>
   match P.info? e with
   | some i => bif mx.isSome && !hi.isSome then none else do pure (opSliceA n i.size (← co x) (← cOptG co lo) (← cOptG co hi) (← cOptG co mx))
   | none => none
  | some .string => bif mx.isSome then none else do pure (opSslice (← co x) (← cOptG co lo) (← cOptG co hi))
  | _ => none
 | .fieldAddr t x f =>
  match P.underlying t with
  | some (.struct fs) =>
   match fs[f]? with
   | some fd =>
    match P.info? fd.type with
    | some i => bif Nat.beq i.size 0 then none else do pure (opFoff (← co x) fd.offset)
    | none => none
   | none => none
  | _ => none
 | .field t x f =>
  match P.underlying t with
  | some (.struct fs) =>
   match fs[f]? with
   | some fd => do pure (opField (← co x) fd.offset (← sizeT P fd.type))
   | none => none
  | _ => none
 | .indexAddr t x i =>
  match P.underlying t with
  | some (.slice e) =>
   match P.info? e with
   | some info => do pure (opIxs info.size (← co x) (← co i))
   | none => none
  | some (.array len e) =>
   match P.info? e with
   | some info => do pure (opIxarr len info.size (← co x) (← co i))
   | none => none
  | _ => none
 | .index t x i =>
  match P.underlying t with
  | some (.array len e) =>
   match P.info? e with
   | some info => do pure (opIxagg len info.size (← sizeT P e) (← co x) (← co i))
   | none => none
  | some .string => do pure (opIxstr (← co x) (← co i))
  | _ => none
 | .lookup t m k ok =>
  match P.underlying t with
  | some (.map key e) => do pure (opLookup (← keyT P key) (← zeroT P e) ok (← co m) (← co k))
  | _ => none
 | .mapUpdate t m k v | .insert t m k v =>
  match P.underlying t with
  | some (.map key _) => do pure (opMupd (← keyT P key) (← co m) (← co k) (← co v))
  | _ => none
 | .mapEntry t m k =>
  match P.underlying t with
  | some (.map key e) => do pure (opMentry (← keyT P key) (← zeroT P e) (← co m) (← co k))
  | _ => none
 | .entryStore _ m s v => do pure (opEstore (← co m) (← co s) (← co v))
 | .extract x i => do pure (opExtract (← co x) i)
 | .call c =>
  match c.callee with
  | .value f =>
   bif Nat.beq (extOf P f) 0 then do pure (opCall (← co f) (← cOpdsG co c.args.toList)) else cExt co (extOf P f) c.args.toList
  | .builtin .unsafeSliceData =>
   match c.args.toList with
   | [x] => do pure (opSliceData (← co x))
   | _ => none
  | .builtin .unsafeString =>
   match c.argTypes.toList, c.args.toList with
   | [pt, _], [x, n] =>
    match P.underlying pt with
    | some (.pointer e) => bif isByteT P e && Nat.beq (P.cellsOf e) 1 then do pure (opUStr e (← co x) (← co n)) else none
    | _ => none
   | _, _ => none
  | .builtin .cap =>
   match c.argTypes[0]?, c.args[0]? with
   | some t, some x =>
    match P.underlying t with
    | some (.slice _) => do pure (opCap (← co x))
    | _ => none
   | _, _ => none
  | .builtin .copy =>
   match c.argTypes.toList, c.args.toList with
   | [t, t2], [d, s] =>
    match P.underlying t, P.underlying t2 with
    | some (.slice e), some (.slice _) =>
     match P.info? e with
     | some i => bif Nat.beq i.size 0 then none else do pure (opCopy i.size (← co d) (← co s))
     | none => none
    | _, _ => none
   | _, _ => none
  | .builtin .len =>
   match c.argTypes[0]?, c.args[0]? with
   | some t, some x =>
    match P.underlying t with
    | some .string => do pure (opLenS (← co x))
    | some (.slice _) => do pure (opLenL (← co x))
    | some (.map _ _) => do pure (opLenM (← co x))
    | some (.array n _) => some (opMv (constF (.s (.one (.int .i64 (.ofNat n))))))
    | _ => none
   | _, _ => none
  | .builtin .append =>
   match c.argTypes.toList, c.args.toList with
   | [t, t2], [s, x] =>
    match P.underlying t with
    | some (.slice e) =>
     match P.info? e, zeroT P e with
     | some i, some z =>
      bif Nat.beq z.cells.length i.size && !Nat.beq i.size 0 then
       match P.underlying t2 with
       | some (.slice _) => bif isByteT P e && Nat.beq i.size 1 then do pure (opAppendB e i.bytes (← co s) (← co x)) else do pure (opAppend false i.size i.bytes (← co s) (← co x))
       | some .string => bif Nat.beq i.size 1 then do pure (opAppendS e i.bytes (← co s) (← co x)) else none
       | _ => none
      else none
     | _, _ => none
    | _ => none
   | _, _ => none
  | .builtin .clear =>
   match c.argTypes[0]?, c.args[0]? with
   | some t, some x =>
    match P.underlying t with
    | some (.slice e) =>
     match P.info? e, zeroT P e with
     | some i, some z => bif Nat.beq z.cells.length i.size && !Nat.beq i.size 0 then do pure (opClear i.size z.cells (← co x)) else none
     | _, _ => none
    | _ => none
   | _, _ => none
  | .builtin .max =>
   match cOpdsG co c.args.toList with
   | some (x :: xs) => some (opMinmax true x xs)
   | _ => none
  | .builtin .min =>
   match cOpdsG co c.args.toList with
   | some (x :: xs) => some (opMinmax false x xs)
   | _ => none
  | _ => none
 | _ => none
end
end
section
variable {P : Program} {t : Tr AVal}
def OR (t : Tr AVal) (a b : Option Opd) : Prop := (a = none ∧ b = none) ∨ ∃ x y, a = some x ∧ b = some y ∧ x .nil = y t
theorem co_rel (x : Operand) : OR t (coK (frOf t) x) (cOpd x) := by
 cases x with
 | tmp i => exact .inr ⟨_, _, rfl, rfl, rfl⟩
 | const v =>
  simp only [coK, cOpd]
  cases cVal v with
  | none => exact .inl ⟨rfl, rfl⟩
  | some s => exact .inr ⟨_, _, rfl, rfl, rfl⟩
 | func f => exact .inr ⟨_, _, rfl, rfl, rfl⟩
 | global g =>
  simp only [coK, cOpd]
  cases gtabK g with
  | none => exact .inl ⟨rfl, rfl⟩
  | some q => exact .inr ⟨_, _, rfl, rfl, rfl⟩
def LR (t : Tr AVal) : List Opd → List Opd → Prop
 | [], [] => True
 | x :: xs, y :: ys => x .nil = y t ∧ LR t xs ys
 | _, _ => False
theorem cos_rel : ∀ l : List Operand, (cOpdsG (coK (frOf t)) l = none ∧ cOpds l = none) ∨ ∃ xs ys, cOpdsG (coK (frOf t)) l = some xs ∧ cOpds l = some ys ∧ LR t xs ys
 | [] => .inr ⟨[], [], rfl, rfl, trivial⟩
 | x :: l => by
  simp only [cOpdsG, cOpds]
  rcases co_rel (t := t) x with ⟨h1, h2⟩ | ⟨a, b, h1, h2, h3⟩
  ·rw [h1, h2]; exact .inl ⟨rfl, rfl⟩
  ·rw [h1, h2]
   rcases cos_rel l with ⟨k1, k2⟩ | ⟨as, bs, k1, k2, k3⟩
   ·rw [k1, k2]; exact .inl ⟨rfl, rfl⟩
   ·rw [k1, k2]; exact .inr ⟨_, _, rfl, rfl, h3, k3⟩
def PR (t : Tr AVal) : List (Nat × Nat × Opd) → List (Nat × Nat × Opd) → Prop
 | [], [] => True
 | x :: xs, y :: ys => x.1 = y.1 ∧ x.2.1 = y.2.1 ∧ x.2.2 .nil = y.2.2 t ∧ PR t xs ys
 | _, _ => False
theorem fieldParts_rel (fs : Array Field) : ∀ l : List (Nat × Operand), (fieldPartsG P (coK (frOf t)) fs l = none ∧ fieldParts P fs l = none) ∨ ∃ xs ys, fieldPartsG P (coK (frOf t)) fs l = some xs ∧ fieldParts P fs l = some ys ∧ PR t xs ys
 | [] => .inr ⟨[], [], rfl, rfl, trivial⟩
 | (i, x) :: l => by
  simp only [fieldPartsG, fieldParts]
  cases fs[i]? with
  | none => exact .inl ⟨rfl, rfl⟩
  | some f =>
   rcases co_rel (t := t) x with ⟨h1, h2⟩ | ⟨a, b, h1, h2, h3⟩
   ·rw [h1, h2]; exact .inl ⟨rfl, rfl⟩
   ·rw [h1, h2]
    rcases fieldParts_rel fs l with ⟨k1, k2⟩ | ⟨as, bs, k1, k2, k3⟩
    ·rw [k1, k2]; exact .inl ⟨rfl, rfl⟩
    ·rw [k1, k2]
     simp only
     cases P.info? f.type with
     | none => exact .inl ⟨rfl, rfl⟩
     | some i => exact .inr ⟨_, _, rfl, rfl, rfl, rfl, h3, k3⟩
theorem elemParts_rel (n : Nat) : ∀ l : List (Nat × Operand), (elemPartsG (coK (frOf t)) n l = none ∧ elemParts n l = none) ∨ ∃ xs ys, elemPartsG (coK (frOf t)) n l = some xs ∧ elemParts n l = some ys ∧ PR t xs ys
 | [] => .inr ⟨[], [], rfl, rfl, trivial⟩
 | (i, x) :: l => by
  simp only [elemPartsG, elemParts]
  rcases co_rel (t := t) x with ⟨h1, h2⟩ | ⟨a, b, h1, h2, h3⟩
  ·rw [h1, h2]; exact .inl ⟨rfl, rfl⟩
  ·rw [h1, h2]
   rcases elemParts_rel n l with ⟨k1, k2⟩ | ⟨as, bs, k1, k2, k3⟩
   ·rw [k1, k2]; exact .inl ⟨rfl, rfl⟩
   ·rw [k1, k2]; exact .inr ⟨_, _, rfl, rfl, rfl, rfl, h3, k3⟩
theorem fillR_rel : ∀ (xs ys : List (Nat × Nat × Opd)) (cs : List CVal), PR t xs ys → fillR .nil xs cs = fillR t ys cs
 | [], [], _, _ => rfl
 | (a, b, x) :: xs, (a', b', y) :: ys, cs, ⟨h1, h2, h3, h4⟩ => by
  simp only at h1 h2 h3
  subst h1 h2
  simp only [fillR]
  rw [h3]
  cases y t with
  | tup _ => rfl
  | s v =>
   simp only
   cases lenIs v.cells b with
   | false => rfl
   | true =>
    simp only [cond_true]
    cases putAt v.cells cs a with
    | none => rfl
    | some cs' => exact fillR_rel xs ys cs' h4
theorem map_rel : ∀ (xs ys : List Opd), LR t xs ys → xs.map (fun x => x .nil) = ys.map (fun x => x t)
 | [], [], _ => rfl
 | x :: xs, y :: ys, ⟨h1, h2⟩ => by rw [List.map_cons, List.map_cons, h1, map_rel xs ys h2]
theorem ptrs_rel : ∀ (xs ys : List Opd), LR t xs ys → ptrs .nil xs = ptrs t ys
 | [], [], _ => rfl
 | x :: xs, y :: ys, ⟨h1, h2⟩ => by simp only [ptrs]; rw [h1, ptrs_rel xs ys h2]
theorem minI_rel (m : Bool) (k : IntKind) : ∀ (xs ys : List Opd) (z : Int), LR t xs ys → minI m k .nil xs z = minI m k t ys z
 | [], [], _, _ => rfl
 | x :: xs, y :: ys, z, ⟨h1, h2⟩ => by
  simp only [minI]
  rw [h1]
  split
  ·rename_i k' y' _
   cases eqK k k' with
   | false => rfl
   | true => exact minI_rel m k xs ys _ h2
  ·rfl
def QR (t : Tr AVal) (a b : Option Opd) : Prop := (a = none ∧ b = none) ∨ ∃ x y, a = some x ∧ b = some y ∧ x .nil = y t
theorem QR.bnd {a b : Option Opd} (h : QR t a b) (d y : Nat) : bnd .nil a d y = CE.bnd t b d y := by
 rcases h with ⟨rfl, rfl⟩ | ⟨x, z, rfl, rfl, h⟩
 ·rfl
 ·simp only [CE.bnd]; rw [h]
theorem opt_rel (x : Option Operand) : (cOptG (coK (frOf t)) x = none ∧ cOpt x = none) ∨ ∃ a b, cOptG (coK (frOf t)) x = some a ∧ cOpt x = some b ∧ QR t a b := by
 cases x with
 | none => exact .inr ⟨none, none, rfl, rfl, .inl ⟨rfl, rfl⟩⟩
 | some x =>
  simp only [cOptG, cOpt]
  rcases co_rel (t := t) x with ⟨h1, h2⟩ | ⟨a, b, h1, h2, h3⟩
  ·rw [h1, h2]; exact .inl ⟨rfl, rfl⟩
  ·rw [h1, h2]; exact .inr ⟨_, _, rfl, rfl, .inr ⟨_, _, rfl, rfl, h3⟩⟩
theorem sliceUn_rel {lo hi mx lo' hi' mx' : Option Opd} (h1 : QR t lo lo') (h2 : QR t hi hi') (h3 : QR t mx mx') (st : Nat) (h : AHeap) (b : BN) (off len cap : Nat) :
  sliceUn st lo hi mx .nil h b off len cap = sliceUn st lo' hi' mx' t h b off len cap := by
 have e1 := h1.bnd
 have e2 := h2.bnd
 have e3 := h3.bnd
 rcases h3 with ⟨rfl, rfl⟩ | ⟨x, z, rfl, rfl, h⟩
 ·simp only [sliceUn, e2, e1]
 ·rcases h2 with ⟨rfl, rfl⟩ | ⟨x', z', rfl, rfl, h'⟩
  ·simp only [sliceUn, e3]
  ·simp only [sliceUn, e3, e2, e1]
variable (call : Caller) (h : AHeap)
theorem cOpG_eq (o : Op) : cOpG P (coK (frOf t)) o call .nil h = cOp P o call t h := by
 cases o with
 | move x => rcases co_rel (t := t) x with ⟨h1, h2⟩ | ⟨a, b, h1, h2, h3⟩ <;> simp only [cOpG, cOp, orBad, Option.map_none, Option.map_some, opMv, opBad, *]
 | assign x => rcases co_rel (t := t) x with ⟨h1, h2⟩ | ⟨a, b, h1, h2, h3⟩ <;> simp only [cOpG, cOp, orBad, Option.map_none, Option.map_some, opMv, opBad, *]
 | pick c a b =>
  rcases co_rel (t := t) c with ⟨h1c, h2c⟩ | ⟨oac, obc, h1c, h2c, h3c⟩ <;> rcases co_rel (t := t) a with ⟨h1a, h2a⟩ | ⟨oaa, oba, h1a, h2a, h3a⟩ <;> rcases co_rel (t := t) b with ⟨h1b, h2b⟩ | ⟨oab, obb, h1b, h2b, h3b⟩ <;> simp [cOpG, cOp, orBad, opBad, opPick, *]
 | alloc ty =>
  simp only [cOpG, cOp]
  cases isBldT P ty <;> cases zeroT P ty <;> rfl
 | box ty x =>
  rcases co_rel (t := t) x with ⟨h1, h2⟩ | ⟨a, b, h1, h2, h3⟩ <;> simp [cOpG, cOp, orBad, opBad, opBox, *]
 | build ty parts =>
  simp only [cOpG, cOp]
  cases P.underlying ty with
  | none => rfl
  | some u =>
   cases zeroT P ty with
   | none => cases u <;> rfl
   | some z =>
    cases u with
    | struct fs =>
     simp only
     cases allInfo P fs.toList with
     | false => rfl
     | true =>
      rcases fieldParts_rel (P := P) (t := t) fs parts.toList with ⟨h1, h2⟩ | ⟨xs, ys, h1, h2, h3⟩
      ·simp only [cond_true, h1, h2]; rfl
      ·simp only [cond_true, h1, h2, Option.bind_eq_bind, Option.bind_some, Option.pure_def, orBad, opBuild, fillR_rel _ _ _ h3]
    | array n e =>
     simp only
     cases P.info? e with
     | none => rfl
     | some i =>
      rcases elemParts_rel (t := t) i.size parts.toList with ⟨h1, h2⟩ | ⟨xs, ys, h1, h2, h3⟩
      ·simp only [h1, h2]; rfl
      ·simp only [h1, h2, Option.bind_eq_bind, Option.bind_some, Option.pure_def, orBad, opBuild, fillR_rel _ _ _ h3]
    | _ => rfl
 | buildSlice ty len parts =>
  simp only [cOpG, cOp]
  cases P.underlying ty with
  | none => rfl
  | some u =>
   cases u with
   | slice e =>
    simp only
    cases P.info? e with
    | none => rfl
    | some i =>
     simp only
     cases Nat.ble (len * i.size) 16777216 with
     | false => rfl
     | true =>
      simp only [cond_true]
      generalize (bif Nat.beq (len * i.size) 0 then some [] else (zeroT P e).map SVal.cells) = q
      cases q with
      | none => rfl
      | some zs =>
       simp only
       generalize (Nat.beq (len * i.size) 0 || Nat.beq zs.length i.size) = q2
       cases q2 with
       | false => rfl
       | true =>
        rcases elemParts_rel (t := t) i.size parts.toList with ⟨h1, h2⟩ | ⟨xs, ys, h1, h2, h3⟩
        ·simp only [cond_true, h1, h2]; rfl
        ·simp only [cond_true, h1, h2, Option.bind_eq_bind, Option.bind_some, Option.pure_def, orBad, opBslice, fillR_rel _ _ _ h3]
   | _ => rfl
 | load ty x =>
  simp only [cOpG, cOp]
  cases sizeT P ty with
  | none => rfl
  | some n =>
   rcases co_rel (t := t) x with ⟨h1, h2⟩ | ⟨a, b, h1, h2, h3⟩ <;> simp [orBad, opBad, opLoad, *]
 | store ty x v =>
  simp only [cOpG, cOp]
  cases P.info? ty with
  | none => rfl
  | some n =>
   rcases co_rel (t := t) x with ⟨h1x, h2x⟩ | ⟨oax, obx, h1x, h2x, h3x⟩ <;> rcases co_rel (t := t) v with ⟨h1v, h2v⟩ | ⟨oav, obv, h1v, h2v, h3v⟩ <;> simp [orBad, opBad, opStore, *]
 | nilCheck x =>
  rcases co_rel (t := t) x with ⟨h1, h2⟩ | ⟨a, b, h1, h2, h3⟩ <;> simp [cOpG, cOp, orBad, opBad, opNilck, *]
 | binOp op ty x y ty2 =>
  simp only [cOpG, cOp]
  cases P.underlying ty with
  | none => rfl
  | some u =>
   by_cases hu : ∃ te, u = .pointer te
   ·obtain ⟨te, rfl⟩ := hu
    simp only
    cases hasSize P te with
    | false => rfl
    | true => rcases co_rel (t := t) x with ⟨h1x, h2x⟩ | ⟨oax, obx, h1x, h2x, h3x⟩ <;> rcases co_rel (t := t) y with ⟨h1y, h2y⟩ | ⟨oay, oby, h1y, h2y, h3y⟩ <;> cases op <;> first | rfl | simp [orBad, opBad, opPtrEq, *]
   ·rcases co_rel (t := t) x with ⟨h1x, h2x⟩ | ⟨oax, obx, h1x, h2x, h3x⟩ <;> rcases co_rel (t := t) y with ⟨h1y, h2y⟩ | ⟨oay, oby, h1y, h2y, h3y⟩ <;> simp only [h1x, h2x, h1y, h2y]
    all_goals (cases u <;> first | rfl | (exfalso; exact hu ⟨_, rfl⟩) | skip)
    all_goals (clear hu)
    all_goals (try generalize P.eqGuardType P.depth ty = q)
    all_goals (try generalize keyT P ty = q2)
    all_goals (cases op <;> first | rfl | simp only [Option.bind_eq_bind, Option.bind_some, Option.bind_none, Option.pure_def, orBad, opInt, opShift, opStr, opNilS, opNilF, *])
    all_goals (cases q <;> first | rfl | skip)
    all_goals (cases q2 <;> first | rfl | simp only [cond_false, Option.bind_some, opEq, *])
 | unOp op ty x =>
  cases op <;> first | rfl | (rcases co_rel (t := t) x with ⟨h1, h2⟩ | ⟨a, b, h1, h2, h3⟩ <;> simp [cOpG, cOp, orBad, opBad, opNot, opNeg, *])
 | convert s d x =>
  simp only [cOpG, cOp]
  cases P.underlying s with
  | none => rfl
  | some u =>
   cases P.underlying d with
   | none => cases u <;> rfl
   | some u2 =>
    cases u <;> first | rfl | skip
    all_goals (cases u2 <;> first | rfl | skip)
    case string.slice el => cases hb : isByteT P el <;> rcases co_rel (t := t) x with ⟨h1, h2⟩ | ⟨a, b, h1, h2, h3⟩ <;> simp [orBad, opBad, opS2b, *]
    case slice.string el => cases hb : isByteT P el <;> rcases co_rel (t := t) x with ⟨h1, h2⟩ | ⟨a, b, h1, h2, h3⟩ <;> simp [orBad, opBad, opB2s, *]
    case pointer.unsafePointer el => cases hb : hasSize P el <;> rcases co_rel (t := t) x with ⟨h1, h2⟩ | ⟨a, b, h1, h2, h3⟩ <;> simp [orBad, opBad, opP2U, *]
    case unsafePointer.pointer el => cases hb : liesT P el <;> rcases co_rel (t := t) x with ⟨h1, h2⟩ | ⟨a, b, h1, h2, h3⟩ <;> simp [orBad, opBad, opU2P, *]
    all_goals (rcases co_rel (t := t) x with ⟨h1, h2⟩ | ⟨a, b, h1, h2, h3⟩ <;> simp [orBad, opBad, opConv, *])
 | makeFunc fn first captured =>
  cases fn <;> first | rfl | skip
  simp only [cOpG, cOp]
  cases first.isEmpty with
  | false => rfl
  | true =>
   rcases cos_rel (t := t) captured.toList with ⟨h1, h2⟩ | ⟨xs, ys, h1, h2, h3⟩
   ·simp only [cond_true, h1, h2]; rfl
   ·simp only [cond_true, h1, h2, Option.bind_eq_bind, Option.bind_some, Option.pure_def, orBad, opMkfn, ptrs_rel _ _ h3]
 | makeMap ty r =>
  cases r <;> rfl
 | makeSlice ty l c =>
  simp only [cOpG, cOp]
  cases P.underlying ty with
  | none => rfl
  | some u =>
   cases u with
   | slice e =>
    simp only
    cases P.info? e with
    | none => rfl
    | some i =>
     cases zeroT P e with
     | none => rfl
     | some z =>
      simp only
      generalize (Nat.beq z.cells.length i.size && !Nat.beq i.size 0) = q
      cases q with
      | false => rfl
      | true => rcases co_rel (t := t) l with ⟨h1l, h2l⟩ | ⟨oal, obl, h1l, h2l, h3l⟩ <;> rcases co_rel (t := t) c with ⟨h1c, h2c⟩ | ⟨oac, obc, h1c, h2c, h3c⟩ <;> simp [orBad, opBad, opMkslice, *]
   | _ => rfl
 | slice ty x lo hi mx =>
  simp only [cOpG, cOp]
  cases P.underlying ty with
  | none => rfl
  | some u =>
   cases u with
   | slice e =>
    simp only
    cases P.info? e with
    | none => rfl
    | some i =>
     simp only
     generalize (mx.isSome && !hi.isSome) = q
     cases q with
     | true => rfl
     | false =>
      rcases co_rel (t := t) x with ⟨h1x, h2x⟩ | ⟨oax, obx, h1x, h2x, h3x⟩
      ·simp only [h1x, h2x, cond_false]; rfl
      ·rcases opt_rel (t := t) lo with ⟨k1, k2⟩ | ⟨l1, l2, k1, k2, k3⟩
       ·simp only [h1x, h2x, k1, k2, cond_false]; rfl
       ·rcases opt_rel (t := t) hi with ⟨m1, m2⟩ | ⟨g1, g2, m1, m2, m3⟩
        ·simp only [h1x, h2x, k1, k2, m1, m2, cond_false]; rfl
        ·rcases opt_rel (t := t) mx with ⟨n1, n2⟩ | ⟨j1, j2, n1, n2, n3⟩
         ·simp only [h1x, h2x, k1, k2, m1, m2, n1, n2, cond_false]; rfl
         ·simp only [h1x, h2x, k1, k2, m1, m2, n1, n2, cond_false, Option.bind_eq_bind, Option.bind_some, Option.pure_def, orBad, opSlice, h3x, sliceNil, sliceEx, sliceUn_rel k3 m3 n3, k3.bnd, m3.bnd, n3.bnd]
   | array len e =>
    simp only
    cases P.info? e with
    | none => rfl
    | some i =>
     simp only
     generalize (mx.isSome && !hi.isSome) = q
     cases q with
     | true => rfl
     | false =>
      rcases co_rel (t := t) x with ⟨h1x, h2x⟩ | ⟨oax, obx, h1x, h2x, h3x⟩
      ·simp only [h1x, h2x, cond_false]; rfl
      ·rcases opt_rel (t := t) lo with ⟨k1, k2⟩ | ⟨l1, l2, k1, k2, k3⟩
       ·simp only [h1x, h2x, k1, k2, cond_false]; rfl
       ·rcases opt_rel (t := t) hi with ⟨m1, m2⟩ | ⟨g1, g2, m1, m2, m3⟩
        ·simp only [h1x, h2x, k1, k2, m1, m2, cond_false]; rfl
        ·rcases opt_rel (t := t) mx with ⟨n1, n2⟩ | ⟨j1, j2, n1, n2, n3⟩
         ·simp only [h1x, h2x, k1, k2, m1, m2, n1, n2, cond_false]; rfl
         ·simp only [h1x, h2x, k1, k2, m1, m2, n1, n2, cond_false, Option.bind_eq_bind, Option.bind_some, Option.pure_def, orBad, opSliceA, h3x, sliceEx, k3.bnd, m3.bnd, n3.bnd]
   | string =>
    simp only
    cases mx.isSome with
    | true => rfl
    | false =>
     rcases co_rel (t := t) x with ⟨h1x, h2x⟩ | ⟨oax, obx, h1x, h2x, h3x⟩
     ·simp only [h1x, h2x, cond_false]; rfl
     ·rcases opt_rel (t := t) lo with ⟨k1, k2⟩ | ⟨l1, l2, k1, k2, k3⟩
      ·simp only [h1x, h2x, k1, k2, cond_false]; rfl
      ·rcases opt_rel (t := t) hi with ⟨m1, m2⟩ | ⟨g1, g2, m1, m2, m3⟩
       ·simp only [h1x, h2x, k1, k2, m1, m2, cond_false]; rfl
       ·simp only [h1x, h2x, k1, k2, m1, m2, cond_false, Option.bind_eq_bind, Option.bind_some, Option.pure_def, orBad, opSslice, h3x, k3.bnd, m3.bnd]
   | _ => rfl
 | fieldAddr ty x f =>
  simp only [cOpG, cOp]
  cases P.underlying ty with
  | none => rfl
  | some u =>
   cases u with
   | struct fs =>
    simp only
    cases fs[f]? with
    | none => rfl
    | some fd =>
     simp only
     cases P.info? fd.type with
     | none => rfl
     | some i =>
      simp only
      cases Nat.beq i.size 0 with
      | true => rfl
      | false => rcases co_rel (t := t) x with ⟨h1, h2⟩ | ⟨a, b, h1, h2, h3⟩ <;> simp [orBad, opBad, opFoff, *]
   | _ => rfl
 | field ty x f =>
  simp only [cOpG, cOp]
  cases P.underlying ty with
  | none => rfl
  | some u =>
   cases u with
   | struct fs =>
    simp only
    cases fs[f]? with
    | none => rfl
    | some fd =>
     simp only
     rcases co_rel (t := t) x with ⟨h1, h2⟩ | ⟨a, b, h1, h2, h3⟩ <;> cases sizeT P fd.type <;> simp [orBad, opBad, opField, *]
   | _ => rfl
 | indexAddr ty x i =>
  simp only [cOpG, cOp]
  cases P.underlying ty with
  | none => rfl
  | some u =>
   cases u with
   | slice e =>
    simp only
    cases P.info? e with
    | none => rfl
    | some n => rcases co_rel (t := t) x with ⟨h1x, h2x⟩ | ⟨oax, obx, h1x, h2x, h3x⟩ <;> rcases co_rel (t := t) i with ⟨h1i, h2i⟩ | ⟨oai, obi, h1i, h2i, h3i⟩ <;> simp [orBad, opBad, opIxs, *]
   | array len e =>
    simp only
    cases P.info? e with
    | none => rfl
    | some n => rcases co_rel (t := t) x with ⟨h1x, h2x⟩ | ⟨oax, obx, h1x, h2x, h3x⟩ <;> rcases co_rel (t := t) i with ⟨h1i, h2i⟩ | ⟨oai, obi, h1i, h2i, h3i⟩ <;> simp [orBad, opBad, opIxarr, *]
   | _ => rfl
 | index ty x i =>
  simp only [cOpG, cOp]
  cases P.underlying ty with
  | none => rfl
  | some u =>
   cases u with
   | array len e =>
    simp only
    cases P.info? e with
    | none => rfl
    | some n => rcases co_rel (t := t) x with ⟨h1x, h2x⟩ | ⟨oax, obx, h1x, h2x, h3x⟩ <;> rcases co_rel (t := t) i with ⟨h1i, h2i⟩ | ⟨oai, obi, h1i, h2i, h3i⟩ <;> cases sizeT P e <;> simp [orBad, opBad, opIxagg, *]
   | string => rcases co_rel (t := t) x with ⟨h1x, h2x⟩ | ⟨oax, obx, h1x, h2x, h3x⟩ <;> rcases co_rel (t := t) i with ⟨h1i, h2i⟩ | ⟨oai, obi, h1i, h2i, h3i⟩ <;> simp [orBad, opBad, opIxstr, *]
   | _ => rfl
 | lookup ty m k ok =>
  simp only [cOpG, cOp]
  cases P.underlying ty with
  | none => rfl
  | some u =>
   cases u with
   | map key e =>
    simp only
    rcases co_rel (t := t) m with ⟨h1m, h2m⟩ | ⟨oam, obm, h1m, h2m, h3m⟩ <;> rcases co_rel (t := t) k with ⟨h1k, h2k⟩ | ⟨oak, obk, h1k, h2k, h3k⟩ <;> generalize keyT P key = q1 <;> generalize zeroT P e = q2 <;> cases q1 <;> cases q2 <;> simp only [h1m, h2m, h1k, h2k] <;> first | rfl | simp [orBad, opLookup, *]
   | _ => rfl
 | mapUpdate ty m k v =>
  simp only [cOpG, cOp]
  cases P.underlying ty with
  | none => rfl
  | some u =>
   cases u with
   | map key e =>
    simp only
    rcases co_rel (t := t) m with ⟨h1m, h2m⟩ | ⟨oam, obm, h1m, h2m, h3m⟩ <;> rcases co_rel (t := t) k with ⟨h1k, h2k⟩ | ⟨oak, obk, h1k, h2k, h3k⟩ <;> rcases co_rel (t := t) v with ⟨h1v, h2v⟩ | ⟨oav, obv, h1v, h2v, h3v⟩ <;> generalize keyT P key = q1 <;> cases q1 <;> simp only [h1m, h2m, h1k, h2k] <;> first | rfl | simp [orBad, opBad, opMupd, *]
   | _ => rfl
 | insert ty m k v =>
  simp only [cOpG, cOp]
  cases P.underlying ty with
  | none => rfl
  | some u =>
   cases u with
   | map key e =>
    simp only
    rcases co_rel (t := t) m with ⟨h1m, h2m⟩ | ⟨oam, obm, h1m, h2m, h3m⟩ <;> rcases co_rel (t := t) k with ⟨h1k, h2k⟩ | ⟨oak, obk, h1k, h2k, h3k⟩ <;> rcases co_rel (t := t) v with ⟨h1v, h2v⟩ | ⟨oav, obv, h1v, h2v, h3v⟩ <;> generalize keyT P key = q1 <;> cases q1 <;> simp only [h1m, h2m, h1k, h2k] <;> first | rfl | simp [orBad, opBad, opMupd, *]
   | _ => rfl
 | mapEntry ty m k =>
  simp only [cOpG, cOp]
  cases P.underlying ty with
  | none => rfl
  | some u =>
   cases u with
   | map key e =>
    simp only
    rcases co_rel (t := t) m with ⟨h1m, h2m⟩ | ⟨oam, obm, h1m, h2m, h3m⟩ <;> rcases co_rel (t := t) k with ⟨h1k, h2k⟩ | ⟨oak, obk, h1k, h2k, h3k⟩ <;> generalize keyT P key = q1 <;> generalize zeroT P e = q2 <;> cases q1 <;> cases q2 <;> simp only [h1m, h2m, h1k, h2k] <;> first | rfl | simp [orBad, opMentry, *]
   | _ => rfl
 | entryStore ty m s v =>
  simp only [cOpG, cOp]
  rcases co_rel (t := t) m with ⟨h1m, h2m⟩ | ⟨oam, obm, h1m, h2m, h3m⟩ <;> rcases co_rel (t := t) s with ⟨h1k, h2k⟩ | ⟨oak, obk, h1k, h2k, h3k⟩ <;> rcases co_rel (t := t) v with ⟨h1v, h2v⟩ | ⟨oav, obv, h1v, h2v, h3v⟩ <;> simp only [h1m, h2m, h1k, h2k] <;> first | rfl | simp [orBad, opBad, opEstore, *]
 | extract x i =>
  rcases co_rel (t := t) x with ⟨h1, h2⟩ | ⟨a, b, h1, h2, h3⟩ <;> simp [cOpG, cOp, orBad, opBad, opExtract, *]
 | call c =>
  obtain ⟨callee, args, tys⟩ := c
  cases callee with
  | invoke _ _ => rfl
  | value f =>
   simp only [cOpG, cOp]
   cases hk : Nat.beq (extOf P f) 0 with
   | false =>
    simp only [cond_false]
    unfold cExt
    rcases args.toList with _ | ⟨x, _ | ⟨y, _ | ⟨z, l⟩⟩⟩ <;> try rfl
    ·simp only
     cases Nat.beq (extOf P f) 1 with
     | false => rfl
     | true => rcases co_rel (t := t) x with ⟨h1, h2⟩ | ⟨a, b, h1, h2, h3⟩ <;> simp [orBad, opBad, opMv, *]
    ·simp only
     cases Nat.beq (extOf P f) 2 with
     | false => rfl
     | true => rcases co_rel (t := t) x with ⟨h1, h2⟩ | ⟨a, b, h1, h2, h3⟩ <;> rcases co_rel (t := t) y with ⟨h1x, h2x⟩ | ⟨oax, obx, h1x, h2x, h3x⟩ <;> simp [orBad, opBad, opCmpS, *]
   | true =>
   simp only [cond_true]
   rcases co_rel (t := t) f with ⟨h1x, h2x⟩ | ⟨oax, obx, h1x, h2x, h3x⟩
   ·simp only [h1x, h2x]; rfl
   ·rcases cos_rel (t := t) args.toList with ⟨h1, h2⟩ | ⟨xs, ys, h1, h2, h3⟩
    ·simp only [h1x, h2x, h1, h2]; rfl
    ·simp only [h1x, h2x, h1, h2, Option.bind_eq_bind, Option.bind_some, Option.pure_def, orBad, opCall, h3x, map_rel _ _ h3]
  | builtin b =>
   cases b with
   | len =>
    simp only [cOpG, cOp]
    cases tys[0]? with
    | none => rfl
    | some ty =>
     cases args[0]? with
     | none => rfl
     | some x =>
      simp only
      cases P.underlying ty with
      | none => rfl
      | some u => cases u <;> first | rfl | (rcases co_rel (t := t) x with ⟨h1, h2⟩ | ⟨a, b, h1, h2, h3⟩ <;> simp [orBad, opBad, opLenS, opLenL, opLenM, *])
   | append =>
    simp only [cOpG, cOp]
    rcases tys.toList with _ | ⟨t1, _ | ⟨t2, _ | ⟨t3, l⟩⟩⟩ <;> try rfl
    rcases args.toList with _ | ⟨s, _ | ⟨x, _ | ⟨y, l⟩⟩⟩ <;> try rfl
    simp only
    cases P.underlying t1 with
    | none => rfl
    | some u =>
     cases u <;> try rfl
     rename_i e
     simp only
     cases P.info? e with
     | none => rfl
     | some i =>
      cases zeroT P e with
      | none => rfl
      | some z =>
       simp only
       generalize (Nat.beq z.cells.length i.size && !Nat.beq i.size 0) = q
       cases q with
       | false => rfl
       | true =>
        cases P.underlying t2 with
        | none => rfl
        | some u2 =>
         generalize (isByteT P e && Nat.beq i.size 1) = q6
         generalize Nat.beq i.size 1 = q5
         rcases co_rel (t := t) s with ⟨h1, h2⟩ | ⟨a, b, h1, h2, h3⟩ <;> rcases co_rel (t := t) x with ⟨h1x, h2x⟩ | ⟨oax, obx, h1x, h2x, h3x⟩ <;> cases u2 <;> cases q5 <;> cases q6 <;> first | rfl | simp [orBad, opBad, opAppend, opAppendS, opAppendB, *]
   | unsafeSliceData =>
    simp only [cOpG, cOp]
    rcases args.toList with _ | ⟨x, _ | ⟨y, l⟩⟩ <;> try rfl
    rcases co_rel (t := t) x with ⟨h1, h2⟩ | ⟨a, b, h1, h2, h3⟩ <;> simp [orBad, opBad, opSliceData, *]
   | unsafeString =>
    simp only [cOpG, cOp]
    rcases tys.toList with _ | ⟨t1, _ | ⟨t2, _ | ⟨t3, l⟩⟩⟩ <;> try rfl
    rcases args.toList with _ | ⟨x, _ | ⟨y, _ | ⟨z, l⟩⟩⟩ <;> try rfl
    simp only
    cases P.underlying t1 with
    | none => rfl
    | some u =>
     cases u <;> try rfl
     rename_i e
     simp only
     generalize (isByteT P e && Nat.beq (P.cellsOf e) 1) = q
     cases q with
     | false => rfl
     | true => rcases co_rel (t := t) x with ⟨h1, h2⟩ | ⟨a, b, h1, h2, h3⟩ <;> rcases co_rel (t := t) y with ⟨h1x, h2x⟩ | ⟨oax, obx, h1x, h2x, h3x⟩ <;> simp [orBad, opBad, opUStr, *]
   | cap =>
    simp only [cOpG, cOp]
    cases tys[0]? with
    | none => rfl
    | some ty =>
     cases args[0]? with
     | none => rfl
     | some x =>
      simp only
      cases P.underlying ty with
      | none => rfl
      | some u => cases u <;> first | rfl | (rcases co_rel (t := t) x with ⟨h1, h2⟩ | ⟨a, b, h1, h2, h3⟩ <;> simp [orBad, opBad, opCap, *])
   | copy =>
    simp only [cOpG, cOp]
    rcases tys.toList with _ | ⟨t1, _ | ⟨t2, _ | ⟨t3, l⟩⟩⟩ <;> try rfl
    rcases args.toList with _ | ⟨x, _ | ⟨y, _ | ⟨z, l⟩⟩⟩ <;> try rfl
    simp only
    cases P.underlying t1 with
    | none => rfl
    | some u =>
     cases P.underlying t2 with
     | none => cases u <;> rfl
     | some u2 =>
      cases u <;> try rfl
      all_goals (cases u2 <;> try rfl)
      rename_i e e2
      simp only
      cases P.info? e with
      | none => rfl
      | some i =>
       simp only
       generalize Nat.beq i.size 0 = q
       cases q with
       | true => rfl
       | false => rcases co_rel (t := t) x with ⟨h1, h2⟩ | ⟨a, b, h1, h2, h3⟩ <;> rcases co_rel (t := t) y with ⟨h1x, h2x⟩ | ⟨oax, obx, h1x, h2x, h3x⟩ <;> simp [orBad, opBad, opCopy, *]
   | clear =>
    simp only [cOpG, cOp]
    cases tys[0]? with
    | none => rfl
    | some ty =>
     cases args[0]? with
     | none => rfl
     | some x =>
      simp only
      cases P.underlying ty with
      | none => rfl
      | some u =>
       cases u <;> try rfl
       rename_i e
       simp only
       cases P.info? e with
       | none => rfl
       | some i =>
        cases zeroT P e with
        | none => rfl
        | some z =>
         simp only
         generalize (Nat.beq z.cells.length i.size && !Nat.beq i.size 0) = q
         cases q with
         | false => rfl
         | true => rcases co_rel (t := t) x with ⟨h1, h2⟩ | ⟨a, b, h1, h2, h3⟩ <;> simp [orBad, opBad, opClear, *]
   | max =>
    simp only [cOpG, cOp]
    rcases cos_rel (t := t) args.toList with ⟨h1, h2⟩ | ⟨xs, ys, h1, h2, h3⟩
    ·simp only [h1, h2]; rfl
    ·simp only [h1, h2]
     cases xs <;> cases ys <;> first | rfl | exact h3.elim | simp only [orBad, opMinmax, h3.1, minI_rel _ _ _ _ _ h3.2]
   | min =>
    simp only [cOpG, cOp]
    rcases cos_rel (t := t) args.toList with ⟨h1, h2⟩ | ⟨xs, ys, h1, h2, h3⟩
    ·simp only [h1, h2]; rfl
    ·simp only [h1, h2]
     cases xs <;> cases ys <;> first | rfl | exact h3.elim | simp only [orBad, opMinmax, h3.1, minI_rel _ _ _ _ _ h3.2]
   | _ => rfl
 | _ =>
  rfl
end
end Go.CE
end
section
namespace Go.CE
noncomputable section
def fset (r : Fr) (v : AVal) : Option Nat → Fr
 | none => r
 | some d => fun i => bif Nat.beq i d then v else r i
def bindR {β : Type} (x : Res) (k : AVal → AHeap → Option β) : Option β :=
 match x with
 | some (v, h) => k v h
 | none => none
def wantV (v : AVal) (b : Bool) : Bool :=
 match v with
 | .s (.one (.bool c)) => c == b
 | _ => false
section
variable (P : Program)
def kOper (nt : Nat) (ops : Array Oper) (o : Oper) (call : Caller) (r : Fr) (h : AHeap) : Res :=
 bif inT nt o.dst then
  match o.guard with
  | none => cOpG P (coK r) o.op call .nil h
  | some (j, b) =>
   match (ops[j]?).bind (·.dst) with
   | some d => bif Nat.ble (Nat.succ d) nt then (bif wantV (r d) b then cOpG P (coK r) o.op call .nil h else some (aundef, h)) else none
   | none => none
 else none
def movV (nt : Nat) (o : Oper) (r : Fr) : Option AVal :=
 match o.guard with
 | some _ => none
 | none =>
  bif inT nt o.dst then
   match o.op with
   | .move x => (coK r x).map fun c => c .nil
   | .assign x => (coK r x).map fun c => c .nil
   | _ => none
  else none
def kOps {β : Type} (nt : Nat) (ops : Array Oper) (call : Caller) : List Oper → Fr → AHeap → (Fr → AHeap → Option β) → Option β
 | [], r, h, k => k r h
 | o :: os, r, h, k =>
  match movV nt o r with
  | some v => kOps nt ops call os (fset r v o.dst) h k
  | none => bindR (kOper P nt ops o call r h) fun v h' => kOps nt ops call os (fset r v o.dst) h' k
def memB (i : Nat) : List Nat → Bool
 | [] => false
 | j :: l => bif Nat.beq i j then true else memB i l
def rrestr (r : Fr) (l : List Nat) : Fr := fun i => bif memB i l then r i else aundef
def sameK (run : AHeap → Res) (v : AVal) : List AHeap → Bool
 | [] => true
 | h :: hs =>
  (match run h with
  | some (v', _) => eqA v v'
  | none => false) && sameK run v hs
def chkK (hs : List AHeap) : List ((AHeap → Res) × AVal × Nat × Nat) → Bool
 | [] => true
 | (run, v, lo, hi) :: l => (Nat.beq lo hi || sameK run v ((hs.drop lo).take (Nat.sub (Nat.succ hi) lo))) && chkK hs l
def kDr {β : Type} (nt : Nat) (ops : Array Oper) (call : Caller) (bs : List Nat) (es : List Bool) : Nat → List Oper → Fr → AHeap → List AHeap → List ((AHeap → Res) × AVal × Nat × Nat) → (Fr → AHeap → Option β) → Option β
 | _, [], r, h, hs, cs, k => bif chkK (hs ++ [h]) cs then k r h else none
 | i, o :: os, r, h, hs, cs, k =>
  match movV nt o (rrestr r (o.looksAt ops)) with
  | some v => kDr nt ops call bs es (Nat.succ i) os (fset r v o.dst) h hs (cs ++ [(kOper P nt ops o call (rrestr r (o.looksAt ops)), v, ce (fun j => bef bs j i) 0 es, ce (fun j => !bef bs i j) 0 es)]) k
  | none => bindR (kOper P nt ops o call (rrestr r (o.looksAt ops)) h) fun v h' =>
  bif quietOp P o.op then kDr nt ops call bs es (Nat.succ i) os (fset r v o.dst) h hs (cs ++ [(kOper P nt ops o call (rrestr r (o.looksAt ops)), v, ce (fun j => bef bs j i) 0 es, ce (fun j => !bef bs i j) 0 es)]) k
  else kDr nt ops call bs es (Nat.succ i) os (fset r v o.dst) h' (hs ++ [h]) cs k
abbrev CkG := (AHeap → Res) × AVal × Nat × Nat × List Nat
def sameGK (run : AHeap → Res) (v : AVal) (n0 : Nat) (hide : List Nat) (mks : List (Nat × Nat × AObj)) : Nat → List AHeap → Bool
 | _, [] => true
 | k, h :: hs =>
  match run ⟨h.n, delH n0 hide (fullT n0 k mks h.t)⟩ with
  | some (v', _) => eqA v v' && sameGK run v n0 hide mks (Nat.succ k) hs
  | none => false
def chkGK (n0 : Nat) (mks : List (Nat × Nat × AObj)) (hs : List AHeap) : List CkG → Bool
 | [] => true
 | (run, v, lo, hi, hide) :: l => (Nat.beq lo hi || sameGK run v n0 hide mks lo ((hs.drop lo).take (Nat.sub (Nat.succ hi) lo))) && chkGK n0 mks hs l
def mk1 (n0 c j : Nat) (t : Tr AObj) : List (Nat × Nat × AObj) :=
 match t.get (bn (Nat.add n0 j)) with
 | some o => [(c, j, o)]
 | none => []
def kDr2 {β : Type} (nt : Nat) (ops : Array Oper) (call : Caller) (bs : List Nat) (es : List Bool) (n0 : Nat) : Nat → List Oper → Fr → AHeap → Nat → List AHeap → List CkG → List (Nat × Nat × AObj) → (Fr → AHeap → Option β) → Option β
 | _, [], r, h, _, hs, cs, mks, k => bif chkGK n0 mks hs cs then k r h else none
 | i, o :: os, r, h, c, hs, cs, mks, k =>
  bif mkOp o.op then
   bindR (kOper P nt ops o call (rrestr r (o.looksAt ops)) ⟨bn (Nat.add n0 i), h.t⟩) fun v h' => kDr2 nt ops call bs es n0 (Nat.succ i) os (fset r v o.dst) ⟨h.n, h'.t⟩ c hs cs (mks ++ mk1 n0 c i h'.t) k
  else
   bindR (kOper P nt ops o call (rrestr r (o.looksAt ops)) ⟨h.n, delH n0 (hides bs i 0 ops.toList) h.t⟩) fun v h' =>
    bif anchor P o.op then
     match backH n0 h.t (hides bs i 0 ops.toList) h'.t with
     | some t => kDr2 nt ops call bs es n0 (Nat.succ i) os (fset r v o.dst) ⟨h'.n, t⟩ (Nat.succ c) (hs ++ [⟨h'.n, t⟩]) cs mks k
     | none => none
    else kDr2 nt ops call bs es n0 (Nat.succ i) os (fset r v o.dst) h c hs (cs ++ [(kOper P nt ops o call (rrestr r (o.looksAt ops)), v, ce (fun j => bef bs j i) 0 es, ce (fun j => !bef bs i j) 0 es, hides bs i 0 ops.toList)]) mks k
def loopL (c : List AVal → AHeap → Option (RExit × List AVal × AHeap)) : Nat → List AVal → AHeap → Option (RExit × List AVal × AHeap)
 | 0, _, _ => none
 | n + 1, r, h =>
  match c r h with
  | some (.normal, r', h') => loopL c n r' h'
  | x => x
def bindX {β : Type} (x : Option (RExit × List AVal × AHeap)) (kx : Nat → List AVal → AHeap → Option β) (kr : List AVal → AHeap → Option β) : Option β :=
 match x with
 | some (.exit id, r, h) => kx id r h
 | some (.ret, r, h) => kr r h
 | _ => none
def ifK {β : Type} (v : AVal) (a b : Option β) : Option β :=
 match v with
 | .s (.one (.bool q)) => bif q then a else b
 | _ => none
def thenK {β : Type} (a : Fr → AHeap → Option β) (k : RExit → Fr → AHeap → Option β) : RExit → Fr → AHeap → Option β
 | .normal, r, h => a r h
 | .exit id, r, h => k (.exit id) r h
 | .ret, r, h => k .ret r h
def outK {β : Type} (id : Nat) (k : RExit → Fr → AHeap → Option β) : RExit → Fr → AHeap → Option β
 | .exit id', r, h => bif Nat.beq id' id then k .normal r h else k (.exit id') r h
 | .normal, r, h => k .normal r h
 | .ret, r, h => k .ret r h
def writes : Code → List Nat
 | .region _ ops _ => ops.toList.filterMap (·.dst)
 | .seq a b => writes a ++ writes b
 | .cond _ a b => writes a ++ writes b
 | .block _ c => writes c
 | .loop c => writes c
 | _ => []
def nthA : List AVal → Nat → AVal
 | [], _ => aundef
 | v :: l, n => bif Nat.beq n 0 then v else nthA l (Nat.sub n 1)
def mixL : List Nat → Nat → Fr → List AVal → Fr
 | [], _, r, _ => r
 | w :: W, k, r, ys => fun i => bif Nat.beq i w then nthA ys k else mixL W (Nat.succ k) r ys i
def kCode (nt : Nat) (call : Caller) (f : Nat) : Code → {β : Type} → Fr → AHeap → (RExit → Fr → AHeap → Option β) → Option β
 | .skip, _, r, h, k => k .normal r h
 | .region _ ops draw, _, r, h, k =>
  bif draw then (bif P.follows .mixedOrders && drawOk P ops (befs ops.toList) then kDr P nt ops call (befs ops.toList) (effs P ops.toList) 0 ops.toList r h [] [] (fun r h => k .normal r h)
   else bif P.follows .mixedOrders && drawOk2 P ops (befs ops.toList) then kDr2 P nt ops call (befs ops.toList) (ancs P ops.toList) h.n.toNat 0 ops.toList r ⟨bn (Nat.add h.n.toNat ops.toList.length), h.t⟩ 0 [⟨bn (Nat.add h.n.toNat ops.toList.length), h.t⟩] [] [] (fun r h => k .normal r h) else none)
  else kOps P nt ops call ops.toList r h (fun r h => k .normal r h)
 | .seq a b, _, r, h, k => kCode nt call f a r h (thenK (fun r h => kCode nt call f b r h k) k)
 | .cond c a b, _, r, h, k =>
  match coK r c with
  | some c => ifK (c .nil) (kCode nt call f a r h k) (kCode nt call f b r h k)
  | none => none
 | .block id c, _, r, h, k => kCode nt call f c r h (outK id k)
 | .loop c, _, r, h, k => bindX (loopL (fun ys h => kCode nt call f c (mixL (writes c) 0 r ys) h (fun e s h => some (e, (writes c).map s, h))) f ((writes c).map r) h)
   (fun id ys h => k (.exit id) (mixL (writes c) 0 r ys) h) (fun ys h => k .ret (mixL (writes c) 0 r ys) h)
 | .exit id, _, r, h, k => k (.exit id) r h
 | .ret, _, r, h, k => k .ret r h
 | _, _, _, _, _ => none
def resV (v : AVal) : Option SVal :=
 match v with
 | .s v => some v
 | _ => none
def resP (n : Option Nat) (v : AVal) (h : AHeap) : Option SVal :=
 match v with
 | .s (.one (.ptr b off)) => resCell n off (h.t.get b)
 | _ => none
def consV (v : Option SVal) (l : Option (List SVal)) : Option (List SVal) :=
 match v with
 | some v => consO v l
 | none => none
def resK1 (r : Fr) (h : AHeap) : ResultVar → Option SVal
 | .tmp i => resV (r i)
 | .cell i t =>
  match sizeT P t with
  | some n => resP n (r i) h
  | none => none
def resKL (r : Fr) (h : AHeap) : List ResultVar → Option (List SVal)
 | [] => some []
 | x :: rs => consV (resK1 P r h x) (resKL r h rs)
def endK (rs : List ResultVar) : RExit → Fr → AHeap → Res
 | .exit _, _, _ => none
 | .normal, r, h => evRes h (resKL P r h rs)
 | .ret, r, h => evRes h (resKL P r h rs)
def kFun (g : Nat) (call : Caller) (f : Nat) (args : List AVal) (h : AHeap) : Res :=
 match P.funcs[g]? with
 | some fn =>
  match fn.body with
  | some c => bif (cRes P fn.results.toList).isNone || fn.name == "runtime.NumGoroutine" then none else bif lenA args fn.ntmps then kCode P fn.ntmps call f c (frOf (enterT .z .nil args)) h (endK P fn.results.toList) else none
  | none => none
 | none => none
end
end
section
variable {P : Program} {nt : Nat}
theorem beq_iff (a b : Nat) : Nat.beq a b = true ↔ a = b := ⟨Nat.eq_of_beq_eq_true, fun h => by subst h; exact Nat.beq_refl a⟩
theorem frOf_setT (t : Tr AVal) (v : AVal) (d : Option Nat) : frOf (setT t v (d.map bn)) = fset (frOf t) v d := by
 cases d with
 | none => rfl
 | some d =>
  funext i
  simp only [frOf, setT, fset, tmpF, Option.map_some]
  cases hq : Nat.beq i d with
  | true => rw [(beq_iff i d).1 hq, get_set_same]; rfl
  | false =>
   have : bn i ≠ bn d := fun e => by rw [(beq_iff i d).2 (bn_inj e)] at hq; cases hq
   rw [get_set_other _ _ _ _ this]; rfl
theorem want_eq (t : Tr AVal) (g : Nat) (b : Bool) : want t (some (bn g, b)) = wantV (frOf t g) b := by
 simp only [want, frOf, tmpF]
 cases t.get (bn g) with
 | none => rfl
 | some v => cases v with
  | tup _ => rfl
  | s v => cases v with
   | agg _ => rfl
   | one c => cases c <;> rfl
theorem kOper_eq (ops : Array Oper) (o : Oper) (call : Caller) (t : Tr AVal) (h : AHeap) (v : AVal) (h' : AHeap) (e : kOper P nt ops o call (frOf t) h = some (v, h')) :
  evOne call (cOper P nt ops o) t h = some (v, h') ∧ (cOper P nt ops o).dst = o.dst.map bn := by
 unfold kOper at e
 unfold cOper
 cases hin : inT nt o.dst with
 | false => rw [hin] at e; cases e
 | true =>
  rw [hin] at e
  simp only [cond_true] at e ⊢
  cases hg : o.guard with
  | none =>
   rw [hg] at e
   simp only [cOpG_eq] at e
   exact ⟨e, rfl⟩
  | some p =>
   obtain ⟨j, b⟩ := p
   rw [hg] at e
   simp only at e ⊢
   cases hd : (ops[j]?).bind (·.dst) with
   | none => rw [hd] at e; cases e
   | some d =>
    rw [hd] at e
    simp only at e ⊢
    cases hb : Nat.ble (Nat.succ d) nt with
    | false => rw [hb] at e; cases e
    | true =>
     rw [hb] at e
     simp only [cond_true, cOpG_eq] at e ⊢
     refine ⟨?_, trivial⟩
     unfold evOne
     simp only
     rw [want_eq]
     exact e
theorem evOper_eq (call : Caller) (o : ROper) (t : Tr AVal) (h : AHeap) : evOper call o t h = setR t o.dst (evOne call o t h) := by
 obtain ⟨d, op, g⟩ := o
 simp only [evOper, evOne]
 cases want t g <;> rfl
theorem fset_other {r : Fr} {v : AVal} {d : Option Nat} {i : Nat} (h : d ≠ some i) : fset r v d i = r i := by
 cases d with
 | none => rfl
 | some d =>
  simp only [fset]
  cases hq : Nat.beq i d with
  | true => exact absurd (by rw [(beq_iff i d).1 hq]) h
  | false => rfl
theorem movV_eq {ops : Array Oper} {o : Oper} {call : Caller} {r : Fr} {v : AVal} (e : movV nt o r = some v) (h : AHeap) : kOper P nt ops o call r h = some (v, h) ∧ quietOp P o.op = true := by
 unfold movV at e
 unfold kOper
 cases hg : o.guard with
 | some p => rw [hg] at e; cases e
 | none =>
  rw [hg] at e
  simp only at e ⊢
  cases hi : inT nt o.dst with
  | false => rw [hi] at e; cases e
  | true =>
   rw [hi] at e
   simp only [cond_true] at e ⊢
   split at e
   ·rename_i x hx
    rw [hx]
    simp only [cOpG, quietOp]
    cases hc : coK r x with
    | none => rw [hc] at e; cases e
    | some c => rw [hc] at e; cases e; exact ⟨rfl, trivial⟩
   ·rename_i x hx
    rw [hx]
    simp only [cOpG, quietOp]
    cases hc : coK r x with
    | none => rw [hc] at e; cases e
    | some c => rw [hc] at e; cases e; exact ⟨rfl, trivial⟩
   ·cases e
theorem kOps_cons {β : Type} (ops : Array Oper) (call : Caller) (o : Oper) (os : List Oper) (r : Fr) (h : AHeap) (k : Fr → AHeap → Option β) :
  kOps P nt ops call (o :: os) r h k = bindR (kOper P nt ops o call r h) fun v h' => kOps P nt ops call os (fset r v o.dst) h' k := by
 rw [kOps]
 split
 ·rename_i v hv
  rw [(movV_eq hv h).1]
  rfl
 ·rfl
theorem kDr_cons {β : Type} (ops : Array Oper) (call : Caller) (bs : List Nat) (es : List Bool) (i : Nat) (o : Oper) (os : List Oper) (r : Fr) (h : AHeap) (hs : List AHeap) (cs : List ((AHeap → Res) × AVal × Nat × Nat)) (k : Fr → AHeap → Option β) :
  kDr P nt ops call bs es i (o :: os) r h hs cs k = bindR (kOper P nt ops o call (rrestr r (o.looksAt ops)) h) fun v h' =>
   bif quietOp P o.op then kDr P nt ops call bs es (Nat.succ i) os (fset r v o.dst) h hs (cs ++ [(kOper P nt ops o call (rrestr r (o.looksAt ops)), v, ce (fun j => bef bs j i) 0 es, ce (fun j => !bef bs i j) 0 es)]) k
   else kDr P nt ops call bs es (Nat.succ i) os (fset r v o.dst) h' (hs ++ [h]) cs k := by
 rw [kDr]
 split
 ·rename_i v hv
  rw [(movV_eq hv h).1]
  simp only [bindR]
  rw [(movV_eq (P := P) (ops := ops) (call := call) hv h).2]
  rfl
 ·rfl
theorem kOps_ok {β : Type} (ops : Array Oper) (call : Caller) : ∀ (os : List Oper) (t : Tr AVal) (h : AHeap) (k : Fr → AHeap → Option β) (x : β), kOps P nt ops call os (frOf t) h k = some x →
  ∃ t' h', evOps call (os.map (cOper P nt ops)) t h = some (t', h') ∧ k (frOf t') h' = some x ∧ ∀ i, i ∉ os.filterMap (·.dst) → frOf t' i = frOf t i
 | [], t, h, k, x, e => ⟨t, h, rfl, e, fun _ _ => rfl⟩
 | o :: os, t, h, k, x, e => by
  rw [kOps_cons] at e
  simp only [bindR] at e
  split at e
  ·rename_i v h' hq
   obtain ⟨e1, e2⟩ := kOper_eq ops o call t h v h' hq
   rw [← frOf_setT] at e
   obtain ⟨t', h'', e3, e4, e5⟩ := kOps_ok ops call os _ _ _ _ e
   refine ⟨t', h'', ?_, e4, fun i hi => ?_⟩
   ·rw [List.map_cons, evOps_cons, evOper_eq, e1, e2]
    exact e3
   ·simp only [List.filterMap_cons] at hi
    rw [e5 i, frOf_setT, fset_other]
    ·intro hd; rw [hd] at hi; simp at hi
    ·intro hm; apply hi; cases o.dst <;> simp [hm]
  ·cases e
theorem memB_iff (i : Nat) : ∀ l : List Nat, memB i l = true ↔ i ∈ l
 | [] => by simp [memB]
 | j :: l => by
  simp only [memB, List.mem_cons]
  cases hq : Nat.beq i j with
  | true => simp [(beq_iff i j).1 hq]
  | false =>
   have : i ≠ j := fun e => by rw [(beq_iff i j).2 e] at hq; cases hq
   simp [this, memB_iff i l]
theorem frOf_restr (t : Tr AVal) (l : List Nat) : frOf (restr t (l.map bn)) = rrestr (frOf t) l := by
 funext i
 simp only [frOf, rrestr, tmpF]
 rw [restr_get]
 have hm : bn i ∈ l.map bn ↔ i ∈ l := ⟨fun h => by obtain ⟨j, h1, h2⟩ := List.mem_map.1 h; exact bn_inj h2 ▸ h1, fun h => List.mem_map_of_mem h⟩
 cases hq : memB i l with
 | true => rw [if_pos (hm.2 ((memB_iff i l).1 hq))]; rfl
 | false => rw [if_neg (fun hh => by rw [(memB_iff i l).2 (hm.1 hh)] at hq; cases hq)]; rfl
theorem sameK_ok {call : Caller} {ops : Array Oper} {o : Oper} {t : Tr AVal} {v : AVal} : ∀ hs : List AHeap, sameK (kOper P nt ops o call (frOf t)) v hs = true → sameAt call (cOper P nt ops o) t v hs = true
 | [], _ => rfl
 | h :: hs, e => by
  simp only [sameK] at e
  obtain ⟨e1, e2⟩ := and2 e
  unfold sameAt
  split at e1
  ·rename_i v' h' hq
   obtain ⟨k1, _⟩ := kOper_eq ops o call t h v' h' hq
   rw [k1]
   simp only
   rw [e1, sameK_ok hs e2]
   rfl
  ·cases e1
def CkR (P : Program) (nt : Nat) (ops : Array Oper) (call : Caller) : List ((AHeap → Res) × AVal × Nat × Nat) → List (DOper × Tr AVal × AVal) → Prop
 | [], l => ∀ x ∈ l, x.1.eff = true
 | (run, v, lo, hi) :: cs, l => ∃ pre d tr rest, l = pre ++ (d, tr, v) :: rest ∧ (∀ x ∈ pre, x.1.eff = true) ∧ d.lo = lo ∧ d.hi = hi ∧ (∃ o, d.rop = cOper P nt ops o ∧ run = kOper P nt ops o call (frOf tr)) ∧ CkR P nt ops call cs rest
theorem checkD_app (call : Caller) (hs : List AHeap) (l l' : List (DOper × Tr AVal × AVal)) : checkD call hs (l ++ l') = (checkD call hs l && checkD call hs l') := by
 induction l with
 | nil => rfl
 | cons x l ih => obtain ⟨d, tr, v⟩ := x; simp only [List.cons_append, checkD, ih, Bool.and_assoc]
theorem checkD_eff (call : Caller) (hs : List AHeap) : ∀ l : List (DOper × Tr AVal × AVal), (∀ x ∈ l, x.1.eff = true) → checkD call hs l = true
 | [], _ => rfl
 | (d, tr, v) :: l, h => by
  simp only [checkD]
  rw [h _ (List.mem_cons_self ..), checkD_eff call hs l fun x hx => h x (List.mem_cons_of_mem _ hx)]
  rfl
theorem chk_ok {call : Caller} {ops : Array Oper} {hs : List AHeap} : ∀ (cs : List ((AHeap → Res) × AVal × Nat × Nat)) (l : List (DOper × Tr AVal × AVal)), CkR P nt ops call cs l → chkK hs cs = true → checkD call hs l = true
 | [], l, h, _ => checkD_eff call hs l h
 | (run, v, lo, hi) :: cs, l, ⟨pre, d, tr, rest, h1, h2, h3, h4, ⟨o, h5, h6⟩, h7⟩, e => by
  subst h1 h3 h4 h6
  simp only [chkK] at e
  obtain ⟨e1, e2⟩ := and2 e
  rw [checkD_app, checkD_eff call hs pre h2]
  simp only [checkD, Bool.true_and]
  rw [chk_ok cs rest h7 e2, Bool.and_true]
  rcases Bool.or_eq_true _ _ |>.mp e1 with k | k
  ·rw [k]; simp
  ·rw [h5, sameK_ok _ k]; simp
theorem CkR_eff {call : Caller} {ops : Array Oper} {x : DOper × Tr AVal × AVal} (hx : x.1.eff = true) : ∀ (cs : List ((AHeap → Res) × AVal × Nat × Nat)) (l : List (DOper × Tr AVal × AVal)), CkR P nt ops call cs l → CkR P nt ops call cs (l ++ [x])
 | [], l, h => fun y hy => by
  rcases List.mem_append.1 hy with k | k
  ·exact h y k
  ·rw [List.mem_singleton.1 k]; exact hx
 | (run, v, lo, hi) :: cs, l, ⟨pre, d, tr, rest, h1, h2, h3, h4, h5, h6⟩ => ⟨pre, d, tr, rest ++ [x], by rw [h1]; simp, h2, h3, h4, h5, CkR_eff hx cs rest h6⟩
theorem CkR_quiet {call : Caller} {ops : Array Oper} {d : DOper} {tr : Tr AVal} {v : AVal} {o : Oper} (hd : d.rop = cOper P nt ops o) : ∀ (cs : List ((AHeap → Res) × AVal × Nat × Nat)) (l : List (DOper × Tr AVal × AVal)), CkR P nt ops call cs l →
  CkR P nt ops call (cs ++ [(kOper P nt ops o call (frOf tr), v, d.lo, d.hi)]) (l ++ [(d, tr, v)])
 | [], l, h => ⟨l, d, tr, [], rfl, h, rfl, rfl, ⟨o, hd, rfl⟩, fun y hy => by cases hy⟩
 | (run, v', lo, hi) :: cs, l, ⟨pre, d', tr', rest, h1, h2, h3, h4, h5, h6⟩ => ⟨pre, d', tr', rest ++ [(d, tr, v)], by rw [h1]; simp, h2, h3, h4, h5, CkR_quiet hd cs rest h6⟩
theorem kDr_ok {β : Type} (ops : Array Oper) (call : Caller) (bs : List Nat) (es : List Bool) (k : Fr → AHeap → Option β) (x : β) :
  ∀ (os : List Oper) (i : Nat) (t : Tr AVal) (h : AHeap) (hs : List AHeap) (cs : List ((AHeap → Res) × AVal × Nat × Nat)) (l0 : List (DOper × Tr AVal × AVal)), CkR P nt ops call cs l0 →
   kDr P nt ops call bs es i os (frOf t) h hs cs k = some x →
   ∃ l t' hs', evD call (cDrawnL P nt ops bs es i os) t h = some (l, t', hs') ∧ checkD call (hs ++ hs') (l0 ++ l) = true ∧ hs' ≠ [] ∧ k (frOf t') (lastH h hs') = some x ∧ ∀ i, i ∉ os.filterMap (·.dst) → frOf t' i = frOf t i
 | [], i, t, h, hs, cs, l0, hc, e => by
  simp only [kDr] at e
  cases hq : chkK (hs ++ [h]) cs with
  | false => rw [hq] at e; cases e
  | true =>
   rw [hq] at e
   exact ⟨[], t, [h], rfl, by rw [List.append_nil]; exact chk_ok cs l0 hc hq, by simp, e, fun _ _ => rfl⟩
 | o :: os, i, t, h, hs, cs, l0, hc, e => by
  rw [kDr_cons] at e
  simp only [bindR] at e
  split at e
  ·rename_i v h' hq
   rw [← frOf_restr] at hq e
   obtain ⟨e1, e2⟩ := kOper_eq ops o call _ h v h' hq
   rw [← frOf_setT] at e
   simp only [cDrawnL, evD]
   rw [e1]
   simp only
   cases hqo : quietOp P o.op with
   | true =>
    rw [hqo] at e
    simp only [cond_true, Bool.not_true, cond_false] at e ⊢
    obtain ⟨l, t', hs', k1, k2, k3, k4, k5⟩ := kDr_ok ops call bs es k x os _ _ _ _ _ (l0 ++ [(⟨cOper P nt ops o, (o.looksAt ops).map bn, false, ce (fun j => bef bs j i) 0 es, ce (fun j => !bef bs i j) 0 es⟩, restr t ((o.looksAt ops).map bn), v)])
     (CkR_quiet (d := ⟨cOper P nt ops o, (o.looksAt ops).map bn, false, ce (fun j => bef bs j i) 0 es, ce (fun j => !bef bs i j) 0 es⟩) rfl cs l0 hc) e
    rw [e2, k1]
    refine ⟨_, _, _, rfl, ?_, ?_, ?_, fun i hi => ?_⟩
    ·rw [List.append_assoc] at k2; exact k2
    ·exact k3
    ·exact k4
    ·simp only [List.filterMap_cons] at hi
     rw [k5 i, frOf_setT, fset_other]
     ·intro hd; rw [hd] at hi; simp at hi
     ·intro hm; apply hi; cases o.dst <;> simp [hm]
   | false =>
    rw [hqo] at e
    simp only [cond_false, Bool.not_false, cond_true] at e ⊢
    obtain ⟨l, t', hs', k1, k2, k3, k4, k5⟩ := kDr_ok ops call bs es k x os _ _ _ _ _ (l0 ++ [(⟨cOper P nt ops o, (o.looksAt ops).map bn, true, ce (fun j => bef bs j i) 0 es, ce (fun j => !bef bs i j) 0 es⟩, restr t ((o.looksAt ops).map bn), v)])
     (CkR_eff rfl cs l0 hc) e
    rw [e2, k1]
    refine ⟨_, _, _, rfl, ?_, ?_, ?_, fun i hi => ?_⟩
    ·rw [List.append_assoc, List.append_assoc] at k2; exact k2
    ·simp
    ·simp only [cond_true, lastH]
     cases hs' with
     | nil => exact absurd rfl k3
     | cons a b => exact k4
    ·simp only [List.filterMap_cons] at hi
     rw [k5 i, frOf_setT, fset_other]
     ·intro hd; rw [hd] at hi; simp at hi
     ·intro hm; apply hi; cases o.dst <;> simp [hm]
  ·cases e
section
variable {ops : Array Oper} {call : Caller} {n0 : Nat}
theorem sameGK_ok {o : Oper} {t : Tr AVal} {v : AVal} {d : GOper} (hd : d.rop = cOper P nt ops o) {mks : List (Nat × Nat × AObj)} : ∀ (hs : List AHeap) (k : Nat), sameGK (kOper P nt ops o call (frOf t)) v n0 d.hide mks k hs = true → sameG call n0 d t v mks k hs = true
 | [], _, _ => rfl
 | h :: hs, k, e => by
  simp only [sameGK] at e
  simp only [sameG]
  split at e
  ·rename_i v' h' hq
   obtain ⟨k1, _⟩ := kOper_eq ops o call t _ v' h' hq
   obtain ⟨e1, e2⟩ := and2 e
   rw [hd, k1]
   simp only
   rw [e1, sameGK_ok hd hs _ e2]
   rfl
  ·cases e
def CkGR (P : Program) (nt : Nat) (ops : Array Oper) (call : Caller) : List CkG → List GE → Prop
 | [], l => ∀ g ∈ l, (g.d.eff || g.d.mkb) = true
 | (run, v, lo, hi, hide) :: cs, l => ∃ pre g rest, l = pre ++ g :: rest ∧ (∀ x ∈ pre, (x.d.eff || x.d.mkb) = true) ∧ g.v = v ∧ g.d.lo = lo ∧ g.d.hi = hi ∧ g.d.hide = hide ∧ (∃ o, g.d.rop = cOper P nt ops o ∧ run = kOper P nt ops o call (frOf g.tr)) ∧ CkGR P nt ops call cs rest
theorem checkG_app {mks : List (Nat × Nat × AObj)} {hs : List AHeap} (l l' : List GE) : checkG call n0 mks hs (l ++ l') = (checkG call n0 mks hs l && checkG call n0 mks hs l') := by
 induction l with
 | nil => rfl
 | cons x l ih => simp only [List.cons_append, checkG, ih, Bool.and_assoc]
theorem checkG_eff {mks : List (Nat × Nat × AObj)} {hs : List AHeap} : ∀ l : List GE, (∀ x ∈ l, (x.d.eff || x.d.mkb) = true) → checkG call n0 mks hs l = true
 | [], _ => rfl
 | g :: l, h => by
  simp only [checkG]
  rw [h _ (List.mem_cons_self ..), checkG_eff l fun x hx => h x (List.mem_cons_of_mem _ hx)]
  simp
theorem chkG_ok {mks : List (Nat × Nat × AObj)} {hs : List AHeap} : ∀ (cs : List CkG) (l : List GE), CkGR P nt ops call cs l → chkGK n0 mks hs cs = true → checkG call n0 mks hs l = true
 | [], l, h, _ => checkG_eff l h
 | (run, v, lo, hi, hide) :: cs, l, ⟨pre, g, rest, h1, h2, h3, h4, h5, h6, ⟨o, h7, h8⟩, h9⟩, e => by
  subst h1 h3 h4 h5 h6 h8
  simp only [chkGK] at e
  obtain ⟨e1, e2⟩ := and2 e
  rw [checkG_app, checkG_eff pre h2]
  simp only [checkG, Bool.true_and]
  rw [chkG_ok cs rest h9 e2, Bool.and_true]
  rcases Bool.or_eq_true _ _ |>.mp e1 with k | k
  ·rw [k]; simp
  ·rw [sameGK_ok h7 _ _ k]; simp
theorem CkGR_eff {x : GE} (hx : (x.d.eff || x.d.mkb) = true) : ∀ (cs : List CkG) (l : List GE), CkGR P nt ops call cs l → CkGR P nt ops call cs (l ++ [x])
 | [], l, h => fun y hy => by
  rcases List.mem_append.1 hy with k | k
  ·exact h y k
  ·rw [List.mem_singleton.1 k]; exact hx
 | (run, v, lo, hi, hide) :: cs, l, ⟨pre, g, rest, h1, h2, h3, h4, h5, h6, h7, h8⟩ => ⟨pre, g, rest ++ [x], by rw [h1]; simp, h2, h3, h4, h5, h6, h7, CkGR_eff hx cs rest h8⟩
theorem CkGR_quiet {g : GE} {o : Oper} (hd : g.d.rop = cOper P nt ops o) : ∀ (cs : List CkG) (l : List GE), CkGR P nt ops call cs l →
  CkGR P nt ops call (cs ++ [(kOper P nt ops o call (frOf g.tr), g.v, g.d.lo, g.d.hi, g.d.hide)]) (l ++ [g])
 | [], l, h => ⟨l, g, [], rfl, h, rfl, rfl, rfl, rfl, ⟨o, hd, rfl⟩, fun y hy => by cases hy⟩
 | (run, v', lo, hi, hide) :: cs, l, ⟨pre, g', rest, h1, h2, h3, h4, h5, h6, h7, h8⟩ => ⟨pre, g', rest ++ [g], by rw [h1]; simp, h2, h3, h4, h5, h6, h7, CkGR_quiet hd cs rest h8⟩
theorem kDr2_ok {β : Type} (bs : List Nat) (es : List Bool) (k : Fr → AHeap → Option β) (x : β) :
  ∀ (os : List Oper) (i : Nat) (t : Tr AVal) (h : AHeap) (c : Nat) (hs : List AHeap) (cs : List CkG) (mks : List (Nat × Nat × AObj)) (l0 : List GE), CkGR P nt ops call cs l0 →
   kDr2 P nt ops call bs es n0 i os (frOf t) h c hs cs mks k = some x →
   ∃ l t' h', evG call n0 i (cDrawnGL P nt ops bs es i os) t h = some (l, t', h') ∧ checkG call n0 (mks ++ mksG n0 c i l) (hs ++ hsG l) (l0 ++ l) = true ∧ k (frOf t') h' = some x ∧ ∀ i, i ∉ os.filterMap (·.dst) → frOf t' i = frOf t i
 | [], i, t, h, c, hs, cs, mks, l0, hc, e => by
  simp only [kDr2] at e
  cases hq : chkGK n0 mks hs cs with
  | false => rw [hq] at e; cases e
  | true =>
   rw [hq] at e
   exact ⟨[], t, h, rfl, by simp only [mksG, hsG, List.append_nil]; exact chkG_ok cs l0 hc hq, e, fun _ _ => rfl⟩
 | o :: os, i, t, h, c, hs, cs, mks, l0, hc, e => by
  have agree : ∀ (t2 t' : Tr AVal) (v : AVal), (cOper P nt ops o).dst = o.dst.map bn → t2 = setT t v (cOper P nt ops o).dst → (∀ i, i ∉ os.filterMap (·.dst) → frOf t' i = frOf t2 i) → ∀ i, i ∉ (o :: os).filterMap (·.dst) → frOf t' i = frOf t i := by
   intro t2 t' v hd h2 H i hi
   subst h2
   simp only [List.filterMap_cons] at hi
   rw [H i (fun hm => hi (by cases o.dst <;> simp [hm])), hd, frOf_setT]
   exact fset_other (fun hd => hi (by rw [hd]; simp))
  simp only [kDr2] at e
  simp only [cDrawnGL, evG, stepG]
  cases hm : mkOp o.op with
  | true =>
   rw [hm] at e
   have ha : anchor P o.op = false := by unfold anchor; rw [hm]; simp
   simp only [cond_true, bindR] at e ⊢
   split at e
   ·rename_i v h' hq
    rw [← frOf_restr] at hq
    obtain ⟨e1, e2⟩ := kOper_eq ops o call _ _ v h' hq
    rw [← frOf_setT, ← e2] at e
    rw [e1]
    simp only
    let g : GE := ⟨⟨cOper P nt ops o, (o.looksAt ops).map bn, anchor P o.op, true, ce (fun j => bef bs j i) 0 es, ce (fun j => !bef bs i j) 0 es, hides bs i 0 ops.toList⟩, restr t ((o.looksAt ops).map bn), v, h, ⟨h.n, h'.t⟩⟩
    obtain ⟨l, t', h2, k1, k2, k3, k4⟩ := kDr2_ok bs es k x os _ _ _ _ _ _ _ (l0 ++ [g]) (CkGR_eff (x := g) (by show (_ || true) = true; simp) cs l0 hc) e
    rw [k1]
    refine ⟨_, _, _, rfl, ?_, k3, agree _ _ v e2 rfl k4⟩
    simp only [mksG, hsG, ha, cond_true, cond_false]
    rw [List.append_assoc] at k2
    simp only [List.singleton_append, List.append_assoc] at k2
    simp only [mk1] at k2
    revert k2
    cases hx : h'.t.get (bn (Nat.add n0 i)) with
    | none => intro k2; simpa [hx, g, ha] using k2
    | some ob => intro k2; simpa [hx, g, ha] using k2
   ·cases e
  | false =>
   rw [hm] at e
   simp only [cond_false, bindR] at e ⊢
   split at e
   ·rename_i v h' hq
    rw [← frOf_restr] at hq
    obtain ⟨e1, e2⟩ := kOper_eq ops o call _ _ v h' hq
    rw [← frOf_setT, ← e2] at e
    rw [e1]
    simp only
    cases ha : anchor P o.op with
    | true =>
     rw [ha] at e
     simp only [cond_true] at e ⊢
     split at e
     ·rename_i t1 ht
      rw [ht]
      simp only
      let g : GE := ⟨⟨cOper P nt ops o, (o.looksAt ops).map bn, true, false, ce (fun j => bef bs j i) 0 es, ce (fun j => !bef bs i j) 0 es, hides bs i 0 ops.toList⟩, restr t ((o.looksAt ops).map bn), v, h, ⟨h'.n, t1⟩⟩
      obtain ⟨l, t', h2, k1, k2, k3, k4⟩ := kDr2_ok bs es k x os _ _ _ _ _ _ _ (l0 ++ [g]) (CkGR_eff (x := g) rfl cs l0 hc) e
      rw [k1]
      refine ⟨_, _, _, rfl, ?_, k3, agree _ _ v e2 rfl k4⟩
      simpa [mksG, hsG, g] using k2
     ·cases e
    | false =>
     rw [ha, ← frOf_restr] at e
     simp only [cond_false] at e ⊢
     let g : GE := ⟨⟨cOper P nt ops o, (o.looksAt ops).map bn, false, false, ce (fun j => bef bs j i) 0 es, ce (fun j => !bef bs i j) 0 es, hides bs i 0 ops.toList⟩, restr t ((o.looksAt ops).map bn), v, h, h⟩
     obtain ⟨l, t', h2, k1, k2, k3, k4⟩ := kDr2_ok bs es k x os _ _ _ _ _ _ _ (l0 ++ [g]) (CkGR_quiet (g := g) rfl cs l0 hc) e
     rw [k1]
     refine ⟨_, _, _, rfl, ?_, k3, agree _ _ v e2 rfl k4⟩
     simpa [mksG, hsG, g] using k2
   ·cases e
theorem cDrawnGL_len (bs : List Nat) (es : List Bool) : ∀ (os : List Oper) (i : Nat), (cDrawnGL P nt ops bs es i os).length = os.length
 | [], _ => rfl
 | o :: os, i => by simp only [cDrawnGL, List.length_cons, cDrawnGL_len bs es os]
end
theorem nthA_eq : ∀ (l : List AVal) (n : Nat), nthA l n = (l[n]?).getD aundef
 | [], _ => rfl
 | v :: l, n => by
  cases n with
  | zero => rfl
  | succ n => simp only [nthA, List.getElem?_cons_succ]; exact nthA_eq l n
theorem mixL_aux {r s : Fr} (V : List Nat) : ∀ (W : List Nat) (k : Nat), (∀ n w, W[n]? = some w → V[k + n]? = some w) → ∀ i, (i ∉ W → s i = r i) → mixL W k r (V.map s) i = s i
 | [], k, _, i, h => (h (by simp)).symm
 | w :: W, k, hW, i, h => by
  simp only [mixL]
  cases hq : Nat.beq i w with
  | true =>
   have := hW 0 w rfl
   simp only [cond_true, nthA_eq, List.getElem?_map]
   rw [Nat.add_zero] at this
   rw [this, (beq_iff i w).1 hq]
   rfl
  | false =>
   simp only [cond_false]
   refine mixL_aux V W (k + 1) (fun n w' hn => ?_) i (fun hi => h ?_)
   ·have := hW (n + 1) w' hn
    rwa [show k + 1 + n = k + (n + 1) by omega]
   ·intro hm
    rcases List.mem_cons.1 hm with rfl | hm
    ·rw [(beq_iff i i).2 rfl] at hq; cases hq
    ·exact hi hm
theorem mixL_eq {W : List Nat} {r s : Fr} (h : ∀ i, i ∉ W → s i = r i) : mixL W 0 r (W.map s) = s :=
 funext fun i => mixL_aux W W 0 (fun n w hn => by rwa [Nat.zero_add]) i (h i)
theorem loopL_ok {call : Caller} {f fn : Nat} {c : Code} {r0 : Fr} (H : ∀ (β : Type) (t : Tr AVal) (d : List BN) (h : AHeap) (k : RExit → Fr → AHeap → Option β) (x : β), kCode P nt call f c (frOf t) h k = some x →
   ∃ e t' h', cCode P nt c call f fn none ⟨t, d, h⟩ = some (e, ⟨t', d, h'⟩) ∧ k e (frOf t') h' = some x ∧ ∀ i, i ∉ writes c → frOf t' i = frOf t i) :
  ∀ (n : Nat) (t : Tr AVal) (d : List BN) (h : AHeap) (e : RExit) (ys : List AVal) (h' : AHeap), (∀ i, i ∉ writes c → frOf t i = r0 i) →
   loopL (fun ys h => kCode P nt call f c (mixL (writes c) 0 r0 ys) h (fun e s h => some (e, (writes c).map s, h))) n ((writes c).map (frOf t)) h = some (e, ys, h') →
   ∃ t', loopN (cCode P nt c call f fn none) n ⟨t, d, h⟩ = some (e, ⟨t', d, h'⟩) ∧ ys = (writes c).map (frOf t') ∧ ∀ i, i ∉ writes c → frOf t' i = r0 i
 | 0, _, _, _, _, _, _, _, e => by cases e
 | n + 1, t, d, h, e, ys, h', ht, hh => by
  simp only [loopL] at hh
  rw [mixL_eq ht] at hh
  have hN : loopN (cCode P nt c call f fn none) (n + 1) ⟨t, d, h⟩ = (match cCode P nt c call f fn none ⟨t, d, h⟩ with
   | some (.normal, s') => loopN (cCode P nt c call f fn none) n s'
   | r => r) := rfl
  rw [hN]
  split at hh
  ·rename_i r1 h1 hq
   obtain ⟨e1, t1, h2, k1, k2, k3⟩ := H _ t d h _ _ hq
   cases k2
   rw [k1]
   exact loopL_ok H n t1 d h1 e ys h' (fun i hi => (k3 i hi).trans (ht i hi)) hh
  ·rename_i x hx
   obtain ⟨e1, t1, h2, k1, k2, k3⟩ := H _ t d h _ _ hh
   cases k2
   rw [k1]
   cases e with
   | normal => exact absurd hh (hx _ _)
   | exit id => exact ⟨t1, rfl, rfl, fun i hi => (k3 i hi).trans (ht i hi)⟩
   | ret => exact ⟨t1, rfl, rfl, fun i hi => (k3 i hi).trans (ht i hi)⟩
theorem kCode_ok {call : Caller} {f fn : Nat} (c : Code) : ∀ (β : Type) (t : Tr AVal) (d : List BN) (h : AHeap) (k : RExit → Fr → AHeap → Option β) (x : β), kCode P nt call f c (frOf t) h k = some x →
  ∃ e t' h', cCode P nt c call f fn none ⟨t, d, h⟩ = some (e, ⟨t', d, h'⟩) ∧ k e (frOf t') h' = some x ∧ ∀ i, i ∉ writes c → frOf t' i = frOf t i := by
 induction c with
 | skip => exact fun β t d h k x e => ⟨.normal, t, h, rfl, e, fun _ _ => rfl⟩
 | region id ops draw =>
  intro β t d h k x e
  simp only [kCode] at e
  simp only [cCode]
  cases draw with
  | false =>
   simp only [cond_false] at e ⊢
   obtain ⟨t', h', k1, k2, k3⟩ := kOps_ok ops call ops.toList t h _ x e
   exact ⟨.normal, t', h', by simp only [regF, k1]; rfl, k2, k3⟩
  | true =>
   simp only [cond_true] at e ⊢
   cases hq : P.follows .mixedOrders && drawOk P ops (befs ops.toList) with
   | false =>
    rw [hq] at e
    simp only [cond_false] at e ⊢
    cases hq2 : P.follows .mixedOrders && drawOk2 P ops (befs ops.toList) with
    | false => rw [hq2] at e; cases e
    | true =>
     rw [hq2] at e
     simp only [cond_true] at e ⊢
     obtain ⟨l, t', h', k1, k2, k3, k4⟩ := kDr2_ok (call := call) (n0 := h.n.toNat) _ _ _ x ops.toList 0 t _ 0 _ [] [] [] (fun y hy => by cases hy) e
     refine ⟨.normal, t', h', ?_, k3, k4⟩
     simp only [drawnG, cDrawnG, cDrawnGL_len]
     rw [k1]
     simp only
     rw [List.nil_append, List.nil_append] at k2
     rw [show ((⟨bn (Nat.add h.n.toNat ops.toList.length), h.t⟩ : AHeap) :: hsG l) = [⟨bn (Nat.add h.n.toNat ops.toList.length), h.t⟩] ++ hsG l from rfl, k2]
     rfl
   | true =>
    rw [hq] at e
    simp only [cond_true] at e ⊢
    obtain ⟨l, t', hs', k1, k2, k3, k4, k5⟩ := kDr_ok ops call _ _ _ x ops.toList 0 t h [] [] [] (fun y hy => by cases hy) e
    refine ⟨.normal, t', lastH h hs', ?_, k4, k5⟩
    simp only [drawnF, cDrawn]
    rw [k1]
    simp only
    rw [List.nil_append, List.nil_append] at k2
    rw [k2]
    rfl
 | seq a b iha ihb =>
  intro β t d h k x e
  simp only [kCode] at e
  obtain ⟨e1, t1, h1, k1, k2, k3⟩ := iha β t d h _ x e
  simp only [cCode, seqF]
  rw [k1]
  have hw : ∀ i, i ∉ writes (a.seq b) → i ∉ writes a ∧ i ∉ writes b := fun i hi => by simpa [writes] using hi
  cases e1 with
  | normal =>
   obtain ⟨e2, t2, h2, j1, j2, j3⟩ := ihb β t1 d h1 k x k2
   exact ⟨e2, t2, h2, j1, j2, fun i hi => (j3 i (hw i hi).2).trans (k3 i (hw i hi).1)⟩
  | exit id => exact ⟨_, t1, h1, rfl, k2, fun i hi => k3 i (hw i hi).1⟩
  | ret => exact ⟨_, t1, h1, rfl, k2, fun i hi => k3 i (hw i hi).1⟩
 | cond c a b iha ihb =>
  intro β t d h k x e
  simp only [kCode] at e
  simp only [cCode]
  have hw : ∀ i, i ∉ writes (Code.cond c a b) → i ∉ writes a ∧ i ∉ writes b := fun i hi => by simpa [writes] using hi
  rcases co_rel (t := t) c with ⟨h1, h2⟩ | ⟨p, q, h1, h2, h3⟩
  ·rw [h1] at e; cases e
  ·rw [h1] at e
   rw [h2]
   simp only [ifK, condF] at e ⊢
   rw [h3] at e
   split at e
   ·rename_i qq hqq
    rw [hqq]
    cases qq with
    | true =>
     obtain ⟨e2, t2, h2, j1, j2, j3⟩ := iha β t d h k x e
     exact ⟨e2, t2, h2, j1, j2, fun i hi => j3 i (hw i hi).1⟩
    | false =>
     obtain ⟨e2, t2, h2, j1, j2, j3⟩ := ihb β t d h k x e
     exact ⟨e2, t2, h2, j1, j2, fun i hi => j3 i (hw i hi).2⟩
   ·cases e
 | block id c ih =>
  intro β t d h k x e
  simp only [kCode] at e
  obtain ⟨e1, t1, h1, k1, k2, k3⟩ := ih β t d h _ x e
  simp only [cCode, blockF]
  rw [k1]
  cases e1 with
  | normal => exact ⟨_, t1, h1, rfl, k2, k3⟩
  | ret => exact ⟨_, t1, h1, rfl, k2, k3⟩
  | exit id' =>
   simp only [outF, outK] at k2 ⊢
   cases hq : Nat.beq id' id with
   | true => rw [hq] at k2; exact ⟨_, t1, h1, rfl, k2, k3⟩
   | false => rw [hq] at k2; exact ⟨_, t1, h1, rfl, k2, k3⟩
 | loop c ih =>
  intro β t d h k x e
  simp only [kCode, bindX] at e
  simp only [cCode, loopF]
  split at e
  ·rename_i id ys h1 hq
   obtain ⟨t', k1, k2, k3⟩ := loopL_ok ih f t d h _ ys h1 (fun _ _ => rfl) hq
   rw [k2, mixL_eq k3] at e
   exact ⟨_, t', h1, k1, e, k3⟩
  ·rename_i ys h1 hq
   obtain ⟨t', k1, k2, k3⟩ := loopL_ok ih f t d h _ ys h1 (fun _ _ => rfl) hq
   rw [k2, mixL_eq k3] at e
   exact ⟨_, t', h1, k1, e, k3⟩
  ·cases e
 | exit id => exact fun β t d h k x e => ⟨.exit id, t, h, rfl, e, fun _ _ => rfl⟩
 | ret => exact fun β t d h k x e => ⟨.ret, t, h, rfl, e, fun _ _ => rfl⟩
 | _ => intro β t d h k x e; simp only [kCode] at e; cases e
theorem resK_eq (t : Tr AVal) (h : AHeap) : ∀ (l : List ResultVar) (rs : List (BN × Option (Option Nat))), cRes P l = some rs → resKL P (frOf t) h l = evResL t h rs
 | [], rs, e => by cases e; rfl
 | .tmp i :: l, rs, e => by
  simp only [cRes] at e
  split at e
  ·rename_i rs' hq
   cases e
   simp only [resKL, evResL]
   rw [resK_eq t h l rs' hq]
   simp only [resK1, evRes1, resV, frOf, tmpF]
   cases t.get (bn i) with
   | none => rfl
   | some v => cases v <;> rfl
  ·cases e
 | .cell i ty :: l, rs, e => by
  simp only [cRes] at e
  split at e
  ·rename_i n rs' hn hq
   cases e
   simp only [resKL, evResL]
   rw [resK_eq t h l rs' hq]
   simp only [resK1, evRes1, resP, frOf, tmpF, hn]
   cases t.get (bn i) with
   | none => rfl
   | some v =>
    cases v with
    | tup _ => rfl
    | s v => cases v with
     | agg _ => rfl
     | one c => cases c <;> rfl
  ·cases e
theorem cFs_eq (P : Program) (g : Nat) : cFs (cProg P) g = (P.funcs[g]?).bind (cFunc P) := by
 unfold cFs cProg
 have := ofList_get (P.funcs.toList.map (cFunc P)) 0 .nil g
 rw [show bn 0 = BN.z from rfl] at this
 rw [this]
 simp only [Nat.not_lt_zero, if_false, Nat.sub_zero, List.getElem?_map, Array.getElem?_toList]
 have hn : (Tr.nil : Tr (Option RFunc)).get (bn g) = none := by cases bn g <;> rfl
 cases P.funcs[g]? with
 | none => simp [hn]
 | some fn => simp
theorem kFun_ok {g : Nat} {call : Caller} {f : Nat} {args : List AVal} {h : AHeap} {x : AVal × AHeap} (e : kFun P g call f args h = some x) : evFun (cFs (cProg P)) call f g args h = some x := by
 unfold kFun at e
 unfold evFun
 rw [cFs_eq]
 cases hf : P.funcs[g]? with
 | none => rw [hf] at e; cases e
 | some fn =>
  rw [hf] at e
  simp only [Option.bind_some] at e ⊢
  unfold cFunc
  cases hb : fn.body with
  | none => rw [hb] at e; cases e
  | some c =>
   rw [hb] at e
   simp only at e ⊢
   cases hr : cRes P fn.results.toList with
   | none => rw [hr] at e; cases e
   | some rs =>
    rw [hr] at e
    simp only [Option.isNone_some, Bool.false_or] at e ⊢
    cases hn : fn.name == "runtime.NumGoroutine" with
    | true => rw [hn] at e; cases e
    | false =>
     rw [hn] at e
     simp only [cond_false] at e ⊢
     cases hl : lenA args fn.ntmps with
     | false => rw [hl] at e; cases e
     | true =>
      rw [hl] at e
      simp only [cond_true] at e ⊢
      obtain ⟨e1, t1, h1, k1, k2, _⟩ := kCode_ok (fn := g) c _ _ [] h _ _ e
      rw [k1]
      cases e1 with
      | exit id => cases k2
      | normal => simp only [endK, resK_eq _ _ _ _ hr] at k2; exact k2
      | ret => simp only [endK, resK_eq _ _ _ _ hr] at k2; exact k2
end
end Go.CE
end
section
namespace Go.CE
noncomputable section
def noCall : Caller := fun _ _ _ => none
def cP (l : List (Nat × Nat × AVal)) : List (Nat × Nat × Opd) := l.map fun p => (p.1, p.2.1, constF p.2.2)
def cL (l : List AVal) : List Opd := l.map constF
def cO : Option AVal → Option Opd
 | none => none
 | some v => some (constF v)
def vPick (c a b : AVal) (h : AHeap) : Res := opPick (constF c) (constF a) (constF b) noCall .nil h
def vAlloc (zs : List CVal) (h : AHeap) : Res := opAlloc zs noCall .nil h
def vBox (x : AVal) (h : AHeap) : Res := opBox (constF x) noCall .nil h
def vBuild (zs : List CVal) (l : List (Nat × Nat × AVal)) (h : AHeap) : Res := opBuild zs (cP l) noCall .nil h
def vBslice (st len : Nat) (zs : List CVal) (l : List (Nat × Nat × AVal)) (h : AHeap) : Res := opBslice st len zs (cP l) noCall .nil h
def vLoad (n : Option Nat) (x : AVal) (h : AHeap) : Res := opLoad n (constF x) noCall .nil h
def vStore (n : Nat) (x v : AVal) (h : AHeap) : Res := opStore n (constF x) (constF v) noCall .nil h
def vNilck (x : AVal) (h : AHeap) : Res := opNilck (constF x) noCall .nil h
def vInt (g : IntKind → Int → Int → Option CVal) (x y : AVal) (h : AHeap) : Res := opInt g (constF x) (constF y) noCall .nil h
def vShift (g : IntKind → Int → Int → Option CVal) (x y : AVal) (h : AHeap) : Res := opShift g (constF x) (constF y) noCall .nil h
def vStr (op : BinOp) (x y : AVal) (h : AHeap) : Res := opStr op (constF x) (constF y) noCall .nil h
def vEq (ks : Nat ⊕ List Nat) (neg : Bool) (x y : AVal) (h : AHeap) : Res := opEq ks neg (constF x) (constF y) noCall .nil h
def vNilS (neg : Bool) (x y : AVal) (h : AHeap) : Res := opNilS neg (constF x) (constF y) noCall .nil h
def vNot (x : AVal) (h : AHeap) : Res := opNot (constF x) noCall .nil h
def vNeg (x : AVal) (h : AHeap) : Res := opNeg (constF x) noCall .nil h
def vConv (k : IntKind) (x : AVal) (h : AHeap) : Res := opConv k (constF x) noCall .nil h
def vMkfn (f : Nat) (caps : List AVal) (h : AHeap) : Res := opMkfn f (cL caps) noCall .nil h
def vMkmap (h : AHeap) : Res := opMkmap noCall .nil h
def vMkslice (st : Nat) (zs : List CVal) (bytes : Nat) (l c : AVal) (h : AHeap) : Res := opMkslice st zs bytes (constF l) (constF c) noCall .nil h
def vSlice (st : Nat) (x : AVal) (lo hi mx : Option AVal) (h : AHeap) : Res := opSlice st (constF x) (cO lo) (cO hi) (cO mx) noCall .nil h
def vSslice (x : AVal) (lo hi : Option AVal) (h : AHeap) : Res := opSslice (constF x) (cO lo) (cO hi) noCall .nil h
def vFoff (x : AVal) (off : Nat) (h : AHeap) : Res := opFoff (constF x) off noCall .nil h
def vField (x : AVal) (off : Nat) (n : Option Nat) (h : AHeap) : Res := opField (constF x) off n noCall .nil h
def vIxs (st : Nat) (x i : AVal) (h : AHeap) : Res := opIxs st (constF x) (constF i) noCall .nil h
def vIxarr (len st : Nat) (x i : AVal) (h : AHeap) : Res := opIxarr len st (constF x) (constF i) noCall .nil h
def vIxagg (len st : Nat) (n : Option Nat) (x i : AVal) (h : AHeap) : Res := opIxagg len st n (constF x) (constF i) noCall .nil h
def vIxstr (x i : AVal) (h : AHeap) : Res := opIxstr (constF x) (constF i) noCall .nil h
def vLookup (q : Nat ⊕ List Nat) (z : SVal) (ok : Bool) (m k : AVal) (h : AHeap) : Res := opLookup q z ok (constF m) (constF k) noCall .nil h
def vMupd (q : Nat ⊕ List Nat) (m k v : AVal) (h : AHeap) : Res := opMupd q (constF m) (constF k) (constF v) noCall .nil h
def vExtract (x : AVal) (i : Nat) (h : AHeap) : Res := opExtract (constF x) i noCall .nil h
def vLenS (x : AVal) (h : AHeap) : Res := opLenS (constF x) noCall .nil h
def vLenL (x : AVal) (h : AHeap) : Res := opLenL (constF x) noCall .nil h
def vLenM (x : AVal) (h : AHeap) : Res := opLenM (constF x) noCall .nil h
def vAppend (str : Bool) (st bytes : Nat) (s x : AVal) (h : AHeap) : Res := opAppend str st bytes (constF s) (constF x) noCall .nil h
def vMinmax (m : Bool) (x : AVal) (xs : List AVal) (h : AHeap) : Res := opMinmax m (constF x) (cL xs) noCall .nil h
def vClear (st : Nat) (zs : List CVal) (x : AVal) (h : AHeap) : Res := opClear st zs (constF x) noCall .nil h
def vCall (call : Caller) (f : AVal) (args : List AVal) (h : AHeap) : Res := opCall (constF f) (cL args) call .nil h
end
end Go.CE
end
section
namespace Go.CE
def Ev {α : Type} (m : Nat → Option α) (Q : α → Prop) : Prop := ∃ a, Q a ∧ ∃ N, ∀ n, N ≤ n → m n = some a
theorem Ev.some {α : Type} {a : α} {Q : α → Prop} (h : Q a) : Ev (fun _ => some a) Q := ⟨a, h, 0, fun _ _ => rfl⟩
theorem Ev.mono {α : Type} {m : Nat → Option α} {Q Q' : α → Prop} (h : Ev m Q) (hq : ∀ a, Q a → Q' a) : Ev m Q' := by
 obtain ⟨a, h1, h2⟩ := h
 exact ⟨a, hq a h1, h2⟩
theorem Ev.bindR {β : Type} {m : Nat → Res} {k : Nat → AVal → AHeap → Option β} {Q : β → Prop} (h : Ev m (fun p => Ev (fun n => k n p.1 p.2) Q)) : Ev (fun n => CE.bindR (m n) (k n)) Q := by
 obtain ⟨⟨v, h'⟩, ⟨x, h1, N1, h2⟩, N2, h3⟩ := h
 refine ⟨x, h1, max N1 N2, fun n hn => ?_⟩
 have e := h3 n (by omega)
 simp only [e, CE.bindR]
 exact h2 n (by omega)
theorem Ev.bindX {β : Type} {m : Nat → Option (RExit × List AVal × AHeap)} {kx : Nat → Nat → List AVal → AHeap → Option β} {kr : Nat → List AVal → AHeap → Option β} {Q : β → Prop}
  (h : Ev m (fun p => match p.1 with
   | .exit id => Ev (fun n => kx n id p.2.1 p.2.2) Q
   | .ret => Ev (fun n => kr n p.2.1 p.2.2) Q
   | .normal => False)) : Ev (fun n => CE.bindX (m n) (kx n) (kr n)) Q := by
 obtain ⟨⟨e, ys, h'⟩, h1, N2, h3⟩ := h
 cases e with
 | normal => exact h1.elim
 | exit id =>
  obtain ⟨x, h1, N1, h2⟩ := h1
  exact ⟨x, h1, max N1 N2, fun n hn => by have e := h3 n (by omega); simp only [e, CE.bindX]; exact h2 n (by omega)⟩
 | ret =>
  obtain ⟨x, h1, N1, h2⟩ := h1
  exact ⟨x, h1, max N1 N2, fun n hn => by have e := h3 n (by omega); simp only [e, CE.bindX]; exact h2 n (by omega)⟩
theorem Ev.loop {c : Nat → List AVal → AHeap → Option (RExit × List AVal × AHeap)} {Q : RExit × List AVal × AHeap → Prop} (I : Nat → List AVal → AHeap → Prop)
  (H : ∀ k ys h, I k ys h → Ev (fun n => c n ys h) (fun p => match p.1 with
   | .normal => ∃ k', k' < k ∧ I k' p.2.1 p.2.2
   | e => Q (e, p.2.1, p.2.2))) :
  ∀ k ys h, I k ys h → Ev (fun n => loopL (c n) n ys h) Q := by
 have key : ∀ K k ys h, k ≤ K → I k ys h → ∃ a, Q a ∧ ∃ N, ∀ n, N ≤ n → ∀ f, N ≤ f → loopL (c n) f ys h = Option.some a := by
  intro K
  induction K with
  | zero =>
   intro k ys h hk hi
   obtain ⟨⟨e, ys', h'⟩, h1, N, h2⟩ := H k ys h hi
   cases e with
   | normal => obtain ⟨k', hk', _⟩ := h1; omega
   | exit id =>
    refine ⟨_, h1, N + 1, fun n hn f hf => ?_⟩
    cases f with
    | zero => omega
    | succ f => have e := h2 n (by omega); simp only [loopL, e]
   | ret =>
    refine ⟨_, h1, N + 1, fun n hn f hf => ?_⟩
    cases f with
    | zero => omega
    | succ f => have e := h2 n (by omega); simp only [loopL, e]
  | succ K ih =>
   intro k ys h hk hi
   obtain ⟨⟨e, ys', h'⟩, h1, N, h2⟩ := H k ys h hi
   cases e with
   | normal =>
    obtain ⟨k', hk', hi'⟩ := h1
    obtain ⟨a, ha, N', h3⟩ := ih k' ys' h' (by omega) hi'
    refine ⟨a, ha, max N N' + 1, fun n hn f hf => ?_⟩
    cases f with
    | zero => omega
    | succ f => have e := h2 n (by omega); simp only [loopL, e]; exact h3 n (by omega) f (by omega)
   | exit id =>
    refine ⟨_, h1, N + 1, fun n hn f hf => ?_⟩
    cases f with
    | zero => omega
    | succ f => have e := h2 n (by omega); simp only [loopL, e]
   | ret =>
    refine ⟨_, h1, N + 1, fun n hn f hf => ?_⟩
    cases f with
    | zero => omega
    | succ f => have e := h2 n (by omega); simp only [loopL, e]
 intro k ys h hi
 obtain ⟨a, ha, N, h1⟩ := key k k ys h (Nat.le_refl _) hi
 exact ⟨a, ha, N, fun n hn => h1 n hn n hn⟩
def HW (h : AHeap) : Prop := ∀ b o, h.t.get b = some o → b.toNat < h.n.toNat
structure Gr (h h' : AHeap) : Prop where
 le : h.n.toNat ≤ h'.n.toNat
 old : ∀ b : BN, b.toNat < h.n.toNat → h'.t.get b = h.t.get b
theorem Gr.refl (h : AHeap) : Gr h h := ⟨Nat.le_refl _, fun _ _ => rfl⟩
theorem Gr.trans {a b c : AHeap} (h : Gr a b) (k : Gr b c) : Gr a c := ⟨Nat.le_trans h.le k.le, fun x hx => (k.old x (Nat.lt_of_lt_of_le hx h.le)).trans (h.old x hx)⟩
theorem Gr.get {h h' : AHeap} (g : Gr h h') (w : HW h) {b : BN} {o : AObj} (e : h.t.get b = some o) : h'.t.get b = some o := (g.old b (w b o e)).trans e
theorem bn_ne {a b : BN} (h : a.toNat ≠ b.toNat) : a ≠ b := fun e => h (by rw [e])
theorem HW.new {h : AHeap} (w : HW h) (o : AObj) : HW (h.new o) := fun b o' e => by
 simp only [AHeap.new] at e ⊢
 rw [BN.toNat_succ]
 by_cases hb : b = h.n
 ·rw [hb]; omega
 ·rw [get_set_other _ _ _ _ hb] at e
  have := w b o' e
  omega
theorem Gr.new (h : AHeap) (o : AObj) : Gr h (h.new o) := ⟨by simp only [AHeap.new]; rw [BN.toNat_succ]; omega, fun b hb => by
 simp only [AHeap.new]
 exact get_set_other _ _ _ _ (bn_ne (by omega))⟩
theorem HW.put {h : AHeap} (w : HW h) {b : BN} {o o' : AObj} (e : h.t.get b = some o) : HW (h.put b o') := fun c x hx => by
 simp only [AHeap.put] at hx ⊢
 by_cases hb : c = b
 ·rw [hb]; exact w b o e
 ·rw [get_set_other _ _ _ _ hb] at hx; exact w c x hx
theorem Gr.put {h0 h : AHeap} (g : Gr h0 h) {b : BN} {o' : AObj} (hb : h0.n.toNat ≤ b.toNat) : Gr h0 (h.put b o') := ⟨g.le, fun c hc => by
 simp only [AHeap.put]
 rw [get_set_other _ _ _ _ (bn_ne (by omega))]
 exact g.old c hc⟩
theorem put_same (h : AHeap) (b : BN) (o : AObj) : (h.put b o).t.get b = some o := get_set_same _ _ _
theorem put_other (h : AHeap) {b c : BN} (o : AObj) (hc : c ≠ b) : (h.put b o).t.get c = h.t.get c := get_set_other _ _ _ _ hc
theorem eqA_refl : ∀ v : AVal, eqA v v = true := by
 have hbn : ∀ a : BN, eqBN a a = true := fun a => by induction a with | z => rfl | o n ih => exact ih | d n ih => exact ih
 have hn : ∀ a : Nat, Nat.beq a a = true := Nat.beq_refl
 have hps : ∀ l : List (BN × Nat), eqPs l l = true := fun l => by
  induction l with
  | nil => rfl
  | cons p l ih => obtain ⟨b, o⟩ := p; simp only [eqPs, hbn, hn, ih]; rfl
 have hu : ∀ l : List UInt8, eqU l l = true := fun l => by
  induction l with
  | nil => rfl
  | cons a l ih => simp only [eqU, hn, ih]; rfl
 have hb : ∀ b : Bool, eqB b b = true := fun b => by cases b <;> rfl
 have hi : ∀ i : Int, eqI i i = true := fun i => by cases i <;> exact hn _
 have hk : ∀ k : IntKind, eqK k k = true := fun k => by cases k <;> rfl
 have hv : ∀ c : CVal, eqV c c = true := fun c => by cases c <;> simp only [eqV, hbn, hn, hps, hu, hb, hi, hk, Bool.and_self]
 have hvs : ∀ l : List CVal, eqVs l l = true := fun l => by
  induction l with
  | nil => rfl
  | cons a l ih => simp only [eqVs, hv, ih, Bool.and_self]
 have hsv : ∀ v : SVal, eqSv v v = true := fun v => by cases v <;> simp only [eqSv, hv, hvs]
 have hss : ∀ l : List SVal, eqSs l l = true := fun l => by
  induction l with
  | nil => rfl
  | cons a l ih => simp only [eqSs, hsv, ih, Bool.and_self]
 intro v
 cases v <;> simp only [eqA, hsv, hss]
end Go.CE
end
section
namespace Go.CE
theorem Ev.call {P : Program} {sums : List Sum} {g : Nat} {args : List AVal} {h : AHeap} {Q : AVal × AHeap → Prop} (hs : findSum g args h sums = none)
  (H : Ev (fun n => kFun P g (evCallS (cCode P) (cFs (cProg P)) sums n) n args h) Q) : Ev (fun n => evCallS (cCode P) (cFs (cProg P)) sums n (.inl g) args h) Q := by
 obtain ⟨x, hx, N, hN⟩ := H
 refine ⟨x, hx, N + 1, fun n hn => ?_⟩
 cases n with
 | zero => omega
 | succ n =>
  have e := kFun_ok (hN n (by omega))
  have : evCallS (cCode P) (cFs (cProg P)) sums (n + 1) (.inl g) args h = withS sums (evBoth (cCode P) (cFs (cProg P)) (evCallS (cCode P) (cFs (cProg P)) sums n) n) (.inl g) args h := rfl
  show evCallS (cCode P) (cFs (cProg P)) sums (n + 1) (.inl g) args h = _
  rw [this]
  unfold withS
  simp only [hs]
  exact e
theorem Ev.sum {P : Program} {fs : Nat → Option RFunc} {sums : List Sum} {g : Nat} {args : List AVal} {h : AHeap} {v : AVal} (hs : findSum g args h sums = Option.some v) :
  Ev (fun n => evCallS (cCode P) fs sums n (.inl g) args h) (fun p => p = (v, h)) := by
 refine ⟨_, rfl, 1, fun n hn => ?_⟩
 cases n with
 | zero => omega
 | succ n =>
  have : evCallS (cCode P) fs sums (n + 1) (.inl g) args h = withS sums (evBoth (cCode P) fs (evCallS (cCode P) fs sums n) n) (.inl g) args h := rfl
  show evCallS (cCode P) fs sums (n + 1) (.inl g) args h = _
  rw [this]
  unfold withS
  simp only [hs]
def rd (n off : Nat) : AObj → Option (List CVal)
 | .cells cs _ => cut n cs off
 | .ro _ f => cutF f n off
 | .void => bif Nat.beq n 0 then some [] else none
 | _ => none
theorem cut_one {cs : List CVal} {i : Nat} {c : CVal} (h : cut 1 cs i = some [c]) : getAt cs i = some c := by
 rw [getAt_eq]
 have := (cut_get h).2 0 c rfl
 simpa using this
theorem rd_one {o : AObj} {off : Nat} {c : CVal} {h : AHeap} (e : rd 1 off o = some [c]) : loadAt none h off (some o) = some (.s (.one c), h) := by
 cases o with
 | cells cs st => show retC h (getAt cs off) = _; rw [cut_one e]; rfl
 | ro x f =>
  show retC h (f off) = _
  simp only [rd, cutF] at e
  cases hf : f off with
  | none => rw [hf] at e; cases e
  | some d => rw [hf] at e; cases e; rfl
 | _ => cases e
end Go.CE
end
section
namespace Go.CE
theorem takeN_full : ∀ l : List CVal, takeN l.length l = some l
 | [] => rfl
 | c :: l => by simp only [List.length_cons, takeN, takeN_full l, consO]
theorem cut_full (l : List CVal) : cut l.length l 0 = some l := by
 cases l with
 | nil => rfl
 | cons c l => simp only [cut]; exact takeN_full (c :: l)
end Go.CE
end
section
namespace Go.CE
open Go.RowKit
section
variable (w : World)
def oddV : Value → List Addr
 | .slice (some a) 0 0 => [a]
 | _ => []
def oddO : Obj → List Addr
 | .cells arr _ _ => arr.toList.flatMap oddV
 | _ => []
def odds (w : World) : List Addr := w.heap.toList.flatMap oddO
theorem odds_mem {w : World} {b : Nat} {arr : Array Value} {e : TypeId} {fr : Nat × Nat} {i : Nat} {a : Addr} (h : w.heap[b]? = some (.cells arr e fr)) (hi : arr[i]? = some (.slice (some a) 0 0)) : a ∈ odds w := by
 unfold odds
 refine List.mem_flatMap.2 ⟨.cells arr e fr, ?_, List.mem_flatMap.2 ⟨.slice (some a) 0 0, ?_, by simp [oddV]⟩⟩
 ·exact List.mem_of_getElem? (by rw [Array.getElem?_toList]; exact h)
 ·exact List.mem_of_getElem? (by rw [Array.getElem?_toList]; exact hi)
def descB (w : World) (k : Nat) : Bool := match w.heap[k]? with | some (.cells _ _ _) => true | _ => false
theorem descB_inv {w : World} {k : Nat} (h : descB w k = true) : ∃ arr e fr, w.heap[k]? = some (.cells arr e fr) := by
 unfold descB at h
 split at h
 ·rename_i arr e fr hx; exact ⟨arr, e, fr, hx⟩
 ·cases h
theorem descB_lt {w : World} {k : Nat} (h : descB w k = true) : k < w.heap.size := by
 obtain ⟨arr, e, fr, hx⟩ := descB_inv h
 exact (Array.getElem?_eq_some_iff.1 hx).1
def idxA (a : Addr) : List Addr → Nat
 | [] => 0
 | x :: l => if x = a then 0 else idxA a l + 1
theorem idxA_get {a : Addr} : ∀ {l : List Addr}, a ∈ l → l[idxA a l]? = some a
 | [], h => by cases h
 | x :: l, h => by
  unfold idxA
  by_cases hx : x = a
  ·rw [if_pos hx, hx]; rfl
  ·rw [if_neg hx]
   rcases List.mem_cons.1 h with h | h
   ·exact absurd h.symm hx
   ·rw [List.getElem?_cons_succ]; exact idxA_get h
noncomputable def absV (w : World) : Value → Option CVal
 | .bool b => some (.bool b)
 | .int k n => some (.int k n)
 | .string s => some (.str s)
 | .pointer none => some .nilp
 | .pointer (some a) => bif decide (a.block < w.heap.size ∧ a.spot = none) then some (.ptr (bn a.block) a.off) else none
 | .slice none len cap => bif decide (len = 0 ∧ cap = 0) then some .nils else none
 | .slice (some a) len cap =>
  bif decide (descB w a.block = true ∧ a.spot = none ∧ len ≤ cap) then some (.slc (bn a.block) a.off len cap true)
  else bif decide (len = 0 ∧ cap = 0 ∧ a ∈ odds w) then some (.slc (bn (w.heap.size + idxA a (odds w))) 0 0 0 true) else none
 | .map none => some .nilm
 | .nilFunc => some .nilf
 | .nilIface => some .nili
 | _ => none
def φ0 (w : World) : Phi := fun b =>
 if b.toNat < w.heap.size then ⟨b.toNat, 0, 0, true, none⟩
 else match (odds w)[b.toNat - w.heap.size]? with | some a => ⟨a.block, a.off, 0, true, a.spot⟩ | none => ⟨b.toNat, 0, 0, true, none⟩
theorem φ0_lt {b : BN} (h : b.toNat < w.heap.size) : φ0 w b = ⟨b.toNat, 0, 0, true, none⟩ := if_pos h
theorem φ0_odd {i : Nat} {a : Addr} (h : (odds w)[i]? = some a) : φ0 w (bn (w.heap.size + i)) = ⟨a.block, a.off, 0, true, a.spot⟩ := by
 unfold φ0
 rw [if_neg (by rw [bn_toNat]; omega), bn_toNat, show w.heap.size + i - w.heap.size = i by omega, h]
theorem φ0_ok (b : BN) : (φ0 w b).ok = true := by
 unfold φ0
 split
 ·rfl
 ·split <;> rfl
noncomputable def roOf (w : World) : Obj → AObj
 | .cells arr e fr => .ro (some (.cells arr e fr)) (fun i => (arr[i]?).bind (absV w))
 | _ => .dead
noncomputable def roAt (w : World) (k : Nat) : AObj := match w.heap[k]? with | some x => roOf w x | none => .dead
noncomputable def heapOf (w : World) : AHeap := ⟨bn (w.heap.size + (odds w).length), Tr.ofList .z ((List.range w.heap.size).map (roAt w) ++ (odds w).map fun _ => .void) .nil⟩
theorem heapOf_get (b : BN) : (heapOf w).t.get b = if b.toNat < w.heap.size then some (roAt w b.toNat) else if b.toNat < w.heap.size + (odds w).length then some .void else none := by
 have e0 : BN.z = bn 0 := rfl
 show (Tr.ofList .z ((List.range w.heap.size).map (roAt w) ++ (odds w).map fun _ => .void) .nil).get b = _
 have := ofList_get ((List.range w.heap.size).map (roAt w) ++ (odds w).map fun _ => AObj.void) 0 (.nil : Tr AObj) b.toNat
 rw [bn_of_toNat, ← e0] at this
 rw [this]
 have hn : (Tr.nil : Tr AObj).get b = none := by cases b <;> rfl
 rw [hn]
 by_cases hb : b.toNat < w.heap.size
 ·rw [if_pos hb, List.getElem?_append_left (by simpa using hb)]
  simp [List.getElem?_range hb, hb]
 ·rw [if_neg hb]
  by_cases hb2 : b.toNat < w.heap.size + (odds w).length
  ·rw [if_pos hb2, List.getElem?_append_right (by simp; omega)]
   have : b.toNat - w.heap.size < (odds w).length := by omega
   simp [List.getElem?_eq_getElem this]
  ·rw [if_neg hb2]
   simp
   omega
theorem heapOf_n : (heapOf w).n.toNat = w.heap.size + (odds w).length := bn_toNat _
theorem heapOf_cells {b : BN} {arr : Array Value} {e : TypeId} {fr : Nat × Nat} (h : w.heap[b.toNat]? = some (.cells arr e fr)) : (heapOf w).t.get b = some (roOf w (.cells arr e fr)) := by
 rw [heapOf_get, if_pos (Array.getElem?_eq_some_iff.1 h).1]
 simp only [roAt, h]
theorem heapOf_odd {i : Nat} (h : i < (odds w).length) : (heapOf w).t.get (bn (w.heap.size + i)) = some .void := by
 rw [heapOf_get, bn_toNat, if_neg (by omega), if_pos (by omega)]
theorem abs_ok {v : Value} {c : CVal} (h : absV w v = some c) : concC (φ0 w) c = v ∧ wfC (φ0 w) (heapOf w).n.toNat c := by
 rw [heapOf_n]
 unfold absV at h
 split at h
 ·cases h; exact ⟨rfl, trivial⟩
 ·cases h; exact ⟨rfl, trivial⟩
 ·cases h; exact ⟨rfl, trivial⟩
 ·cases h; exact ⟨rfl, trivial⟩
 ·rename_i a
  by_cases hc : a.block < w.heap.size ∧ a.spot = none
  ·rw [decide_eq_true hc] at h
   cases h
   obtain ⟨b, off, sp⟩ := a
   obtain ⟨h1, rfl⟩ := hc
   have hp := φ0_lt w (b := bn b) (by rw [bn_toNat]; exact h1)
   refine ⟨?_, by rw [bn_toNat]; exact Nat.lt_of_lt_of_le h1 (Nat.le_add_right _ _), φ0_ok w _⟩
   rw [concC, adr_of (by rw [hp]), hp, bn_toNat, Nat.zero_add]
  ·rw [decide_eq_false hc] at h; cases h
 ·rename_i len cap
  by_cases hc : len = 0 ∧ cap = 0
  ·rw [decide_eq_true hc] at h
   cases h
   obtain ⟨rfl, rfl⟩ := hc
   exact ⟨rfl, trivial⟩
  ·rw [decide_eq_false hc] at h; cases h
 ·rename_i a len cap
  by_cases hc : descB w a.block = true ∧ a.spot = none ∧ len ≤ cap
  ·rw [decide_eq_true hc] at h
   cases h
   obtain ⟨b, off, sp⟩ := a
   obtain ⟨h1, rfl, h3⟩ := hc
   have h1 := descB_lt h1
   have hp := φ0_lt w (b := bn b) (by rw [bn_toNat]; exact h1)
   refine ⟨?_, ⟨by rw [bn_toNat]; exact Nat.lt_of_lt_of_le h1 (Nat.le_add_right _ _), φ0_ok w _⟩, fun hh => (by cases hh), fun _ => h3⟩
   rw [concC, adr_of (by rw [hp]), hp, bn_toNat, Nat.zero_add, cond_true]
  ·rw [decide_eq_false hc, cond_false] at h
   by_cases hc2 : len = 0 ∧ cap = 0 ∧ a ∈ odds w
   ·rw [decide_eq_true hc2] at h
    cases h
    obtain ⟨rfl, rfl, hm⟩ := hc2
    have hi := idxA_get hm
    have hlt := (List.getElem?_eq_some_iff.1 hi).1
    have hp := φ0_odd w hi
    refine ⟨?_, ⟨by rw [bn_toNat]; omega, φ0_ok w _⟩, fun hh => (by cases hh), fun _ => Nat.le_refl _⟩
    rw [concC, cond_true]
    unfold adr
    rw [hp]
    rfl
   ·rw [decide_eq_false hc2] at h; cases h
 ·cases h; exact ⟨rfl, trivial⟩
 ·cases h; exact ⟨rfl, trivial⟩
 ·cases h; exact ⟨rfl, trivial⟩
 ·cases h
theorem heapOf_hw : HW (heapOf w) := fun b o hb => by
 rw [heapOf_get] at hb
 rw [heapOf_n]
 by_cases h : b.toNat < w.heap.size
 ·omega
 ·rw [if_neg h] at hb
  by_cases h2 : b.toNat < w.heap.size + (odds w).length
  ·exact h2
  ·rw [if_neg h2] at hb; cases hb
def SW (w : World) (k : Nat) : Prop := ∃ arr e fr, w.heap[k]? = some (.cells arr e fr)
theorem roAt_live {k : Nat} (hl : live (roAt w k)) : ∃ arr e fr, w.heap[k]? = some (.cells arr e fr) ∧ roAt w k = roOf w (.cells arr e fr) := by
 unfold roAt at hl ⊢
 split at hl
 ·rename_i x hx
  cases x with
  | cells arr e fr => exact ⟨arr, e, fr, hx, by simp only⟩
  | _ => exact hl.elim
 ·exact hl.elim
theorem heapOf_rel (hG : GOk w) : HRel w (SW w) (φ0 w) (heapOf w) w := by
 refine ⟨heapOf_hw w, fun b o hb => φ0_ok w b, fun b o hb => ?_, fun b b' o o' hb hb' hl hl' hh => ?_, fun b o hb hl => ?_, rfl, rfl, rfl, Nat.le_refl _, fun _ _ _ => rfl, hG, fun b o hb hl => ?_, fun b o hb hl => ?_⟩
 ·rw [heapOf_get] at hb
  by_cases hlt : b.toNat < w.heap.size
  ·rw [if_pos hlt] at hb
   cases hb
   have hp := φ0_lt w hlt
   by_cases hl : live (roAt w b.toNat)
   ·obtain ⟨arr, e, fr, hx, hr⟩ := roAt_live w hl
    rw [hr]
    refine ⟨fun y hy => by cases hy; rw [hp]; exact hx, arr, e, fr, by rw [hp]; exact hx, fun i c hc => ?_⟩
    replace hc : (arr[i]?).bind (absV w) = some c := hc
    cases ha : arr[i]? with
    | none => rw [ha] at hc; cases hc
    | some v =>
     rw [ha] at hc
     obtain ⟨k1, k2⟩ := abs_ok w hc
     refine ⟨?_, k2⟩
     rw [hp, Nat.zero_add, ha, k1]
   ·generalize roAt w b.toNat = o at hl
    cases o with
    | dead => trivial
    | void => trivial
    | _ => exact absurd trivial hl
  ·rw [if_neg hlt] at hb
   by_cases h2 : b.toNat < w.heap.size + (odds w).length
   ·rw [if_pos h2] at hb; cases hb; trivial
   ·rw [if_neg h2] at hb; cases hb
 ·have k1 := lt_live hb hl
  have k2 := lt_live hb' hl'
  rw [φ0_lt w k1, φ0_lt w k2] at hh
  have h2 : b.toNat = b'.toNat := hh
  rw [← bn_of_toNat b, h2, bn_of_toNat]
 ·have k1 := lt_live hb hl
  rw [φ0_lt w k1]
  rw [heapOf_get, if_pos k1] at hb
  cases hb
  obtain ⟨arr, e, fr, h2, _⟩ := roAt_live w hl
  exact .inl ⟨arr, e, fr, h2⟩
 ·rw [φ0_lt w (lt_live hb hl)]
 ·have k1 := lt_live hb hl.live
  rw [heapOf_get, if_pos k1] at hb
  cases hb
  obtain ⟨arr, e, fr, _, h2⟩ := roAt_live w hl.live
  rw [h2] at hl
  exact hl.elim
where
 lt_live {b : BN} {o : AObj} (hb : (heapOf w).t.get b = some o) (hl : live o) : b.toNat < w.heap.size := by
  rw [heapOf_get] at hb
  by_cases hlt : b.toNat < w.heap.size
  ·exact hlt
  ·rw [if_neg hlt] at hb
   by_cases h2 : b.toNat < w.heap.size + (odds w).length
   ·rw [if_pos h2] at hb; cases hb; exact hl.elim
   ·rw [if_neg h2] at hb; cases hb
theorem calls_world {P : Program} {call : Caller} (C : SoundC P call) (hG : GOk w) {f : Nat} {args : List AVal} {v : AVal} {h2 : AHeap} (ha : ∀ x ∈ args, wfA (φ0 w) (heapOf w).n.toNat x) (e : call (.inl f) args (heapOf w) = some (v, h2)) (hg : Gr (heapOf w) h2) :
  CallsIn (FR none) 0 P f (args.map (concA (φ0 w))).toArray w (fun e w2 => ∃ φ, e = .returned (concA φ v) ∧ Below w.heap.size w w2) := by
 refine ((C w _ _ _ w args v h2 (heapOf_rel w hG) ha).1 f e).2.mono ?_
 rintro e9 w9 ⟨φ2, rfl, he, H2, _, _⟩
 refine ⟨φ2, rfl, H2.os, H2.tape, H2.output, H2.size, fun k hk => ?_⟩
 by_cases hc : SW w k
 ·obtain ⟨arr, e, fr, hc⟩ := hc
  have hb : (heapOf w).t.get (bn k) = some (roOf w (.cells arr e fr)) := heapOf_cells w (by rw [bn_toNat]; exact hc)
  have hn : (bn k).toNat < (heapOf w).n.toNat := by rw [heapOf_n, bn_toNat]; omega
  have hb2 := (hg.old _ hn).trans hb
  obtain ⟨h1, _⟩ := H2.obj _ _ hb2
  have h1 := h1 _ rfl
  rw [he _ hn, φ0_lt w (by rw [bn_toNat]; exact hk)] at h1
  have h1 : w9.heap[(bn k).toNat]? = _ := h1
  rw [bn_toNat] at h1
  rw [h1, hc]
 ·exact H2.kept k hk hc
end
end Go.CE
end
section
namespace Go.CE
open Go Go.ChangeShapes Go.WideShapes Go.ChangeAt Go.RowKit
theorem cell_inv {w : World} {b off : Nat} {v : Value} (h : w.cell? ⟨b, off, none⟩ = some v) : ∃ arr e fr, w.heap[b]? = some (.cells arr e fr) ∧ arr[off]? = some v := by
 unfold World.cell? at h
 cases hx : w.heap[b]? with
 | none => simp [hx] at h
 | some x =>
  cases x with
  | cells arr e fr => refine ⟨arr, e, fr, rfl, ?_⟩; simpa [hx] using h
  | _ => simp [hx] at h
def litI (k : IntKind) (n : Nat) : DataW Unit := .lit (.int k (n : Int))
theorem laid_ints {P : Program} {w : World} {nm : String} {g : Nat} {t e : TypeId} {n : Nat} {k : IntKind} {ns : List Nat} {cs : Array Value} {fuel : Nat} {q : List MemPlace}
  (hg : P.globalNamed nm = some g) (ht : P.underlying t = some (.array n e)) (he : P.underlying e = some (.int k)) (hc : P.cellsOf e = 1) (hv : w.var? P nm = some cs)
  (h : DataW.trod (fun _ => ()) P w 0 (fun _ => true) false fuel t cs.toList = some (.agg (ns.map (litI k)), q)) {off m : Nat} (hm : ns[off]? = some m) :
  ∃ arr ty fr, w.heap[g]? = some (.cells arr ty fr) ∧ arr[off]? = some (.int k (m : Int)) := by
 obtain ⟨xs, m1, rfl, hx1, hlen, hn, hel⟩ := DataW.trod_array ht h
 simp only [Prod.mk.injEq, DataW.agg.injEq] at hx1
 have hxl : xs.length = ns.length := by have := congrArg List.length hx1.1; simpa using this.symm
 have hoff : off < ns.length := (List.getElem?_eq_some_iff.1 hm).1
 have h0 := hel off (by omega)
 obtain ⟨x, hx⟩ : ∃ x, xs[off]? = some x := ⟨_, List.getElem?_eq_getElem (by omega)⟩
 rw [hx, hc, Nat.mul_one] at h0
 obtain ⟨r, e1, e2, _⟩ := DataW.trod_int he h0
 have e3 : x.1 = litI k m := by
  have h1 : (xs.map (·.1))[off]? = some x.1 := by rw [List.getElem?_map, hx]; rfl
  rw [← hx1.1, List.getElem?_map, hm] at h1
  exact (Option.some.inj h1).symm
 have hr : r = (m : Int) := by rw [e2] at e3; simpa [litI] using e3
 subst hr
 have h2 : cs.toList[off]? = some (.int k (m : Int)) := by
  have : ((cs.toList.drop off).take 1)[0]? = some (.int k (m : Int)) := by rw [e1]; rfl
  rw [List.getElem?_take, if_pos (by decide), List.getElem?_drop] at this
  exact this
 refine cell_inv ?_
 rw [World.var?_cell hg hv off, ← Array.getElem?_toList]
 exact h2
theorem nthN_get : ∀ (l : List Nat) (i : Nat), nthN l i = l[i]?
 | [], i => by simp [nthN]
 | x :: l, 0 => rfl
 | x :: l, i + 1 => by show nthN l i = _; rw [nthN_get l i]; simp
theorem gw_var {w : World} {g : Nat} {k : IntKind} {ns : List Nat} (hg : gtabK g = some (k, ns)) (H : ∀ (off m : Nat), ns[off]? = some m → ∃ arr ty fr, w.heap[g]? = some (.cells arr ty fr) ∧ arr[off]? = some (.int k (m : Int)))
  {off : Nat} {c : CVal} (h : gLoad g off = some c) : ∃ arr e fr, w.heap[g]? = some (.cells arr e fr) ∧ ∀ φ, arr[off]? = some (concC φ c) := by
 unfold gLoad at h
 rw [hg] at h
 simp only [nthN_get] at h
 cases hm : ns[off]? with
 | none => rw [hm] at h; cases h
 | some m =>
  rw [hm] at h; cases h
  obtain ⟨arr, ty, fr, h1, h2⟩ := H off m hm
  exact ⟨arr, ty, fr, h1, fun φ => h2⟩
end Go.CE
end
section
namespace Go.PE
open Go Go.CE
inductive DV where
 | bool (b : Bool)
 | int (k : IntKind) (n : Int)
 | str (s : ByteArray)
 | nils
 | lst (st : Nat) (xs : List (List DV))
 | fp (xs : List DV) (off : Nat)
 | fn (f : Nat) (caps : List (List DV))
 | nilf
 | nilp
 | nilm
 | nili
 | u
inductive DS where
 | one (d : DV)
 | agg (ds : List DV)
inductive DA where
 | s (d : DS)
 | tup (l : List DS)
def DS.cells : DS → List DV
 | .one d => [d]
 | .agg ds => ds
inductive Rep (fz : BN → Prop) (h : AHeap) : CVal → DV → Prop
 | bool (b : Bool) : Rep fz h (.bool b) (.bool b)
 | int (k : IntKind) (n : Int) : Rep fz h (.int k n) (.int k n)
 | str (s : ByteArray) : Rep fz h (.str s) (.str s)
 | nils : Rep fz h .nils .nils
 | nilf : Rep fz h .nilf .nilf
 | nilp : Rep fz h .nilp .nilp
 | nilm : Rep fz h .nilm .nilm
 | nili : Rep fz h .nili .nili
 | u (c : CVal) : Rep fz h c .u
 | lst {b : BN} {o : AObj} {off cap : Nat} {ex : Bool} {st : Nat} {xs : List (List DV)} (cs : List CVal) (hb : fz b) (hg : h.t.get b = some o) (hc : ex = true → xs.length ≤ cap)
   (ha : rd (xs.length * st) off o = some cs) (h1 : ∀ (i : Nat) (x : List DV), xs[i]? = some x → x.length = st)
   (h2 : ∀ (i : Nat) (x : List DV) (j : Nat) (c : CVal) (d : DV), xs[i]? = some x → cs[i * st + j]? = some c → x[j]? = some d → Rep fz h c d) : Rep fz h (.slc b off xs.length cap ex) (.lst st xs)
 | fp {b : BN} {o : AObj} {base : Nat} {xs : List DV} {off : Nat} (cs : List CVal) (hb : fz b) (hg : h.t.get b = some o) (h1 : rd xs.length base o = some cs)
   (h2 : ∀ (j : Nat) (c : CVal) (d : DV), cs[j]? = some c → xs[j]? = some d → Rep fz h c d) : Rep fz h (.ptr b (base + off)) (.fp xs off)
 | fn {f : Nat} {ps : List (BN × Nat)} {caps : List (List DV)} (css : Nat → List CVal) (os : Nat → AObj) (hl : ps.length = caps.length)
   (h1 : ∀ (i : Nat) (p : BN × Nat) (x : List DV), ps[i]? = some p → caps[i]? = some x → fz p.1 ∧ h.t.get p.1 = some (os i) ∧ rd x.length p.2 (os i) = some (css i))
   (h2 : ∀ (i : Nat) (p : BN × Nat) (x : List DV) (j : Nat) (c : CVal) (d : DV), ps[i]? = some p → caps[i]? = some x → (css i)[j]? = some c → x[j]? = some d → Rep fz h c d) : Rep fz h (.fn f ps) (.fn f caps)
structure FG (fz : BN → Prop) (h : AHeap) (fz' : BN → Prop) (h' : AHeap) : Prop where
 sub : ∀ b o, fz b → h.t.get b = some o → fz' b
 old : ∀ b o, fz b → h.t.get b = some o → h'.t.get b = some o
theorem FG.refl (fz : BN → Prop) (h : AHeap) : FG fz h fz h := ⟨fun _ _ h _ => h, fun _ _ _ h => h⟩
theorem FG.trans {f1 f2 f3 : BN → Prop} {h1 h2 h3 : AHeap} (a : FG f1 h1 f2 h2) (b : FG f2 h2 f3 h3) : FG f1 h1 f3 h3 := ⟨fun x o hx ho => b.sub x o (a.sub x o hx ho) (a.old x o hx ho), fun x o hx ho => b.old x o (a.sub x o hx ho) (a.old x o hx ho)⟩
theorem Rep.mono {fz fz' : BN → Prop} {h h' : AHeap} (g : FG fz h fz' h') {c : CVal} {d : DV} (H : Rep fz h c d) : Rep fz' h' c d := by
 induction H with
 | bool b => exact .bool b
 | int k n => exact .int k n
 | str s => exact .str s
 | nils => exact .nils
 | nilf => exact .nilf
 | nilp => exact .nilp
 | nilm => exact .nilm
 | nili => exact .nili
 | u c => exact .u c
 | lst cs hb hg hc ha h1 h2 ih => exact .lst cs (g.sub _ _ hb hg) (g.old _ _ hb hg) hc ha h1 ih
 | fp cs hb hg h1 h2 ih => exact .fp cs (g.sub _ _ hb hg) (g.old _ _ hb hg) h1 ih
 | fn css os hl h1 h2 ih => exact .fn css os hl (fun i p x hp hx => by obtain ⟨a, b, c⟩ := h1 i p x hp hx; exact ⟨g.sub _ _ a b, g.old _ _ a b, c⟩) ih
def RepL (fz : BN → Prop) (h : AHeap) (cs : List CVal) (ds : List DV) : Prop := cs.length = ds.length ∧ ∀ (j : Nat) (c : CVal) (d : DV), cs[j]? = some c → ds[j]? = some d → Rep fz h c d
theorem RepL.mono {fz fz' : BN → Prop} {h h' : AHeap} (g : FG fz h fz' h') {cs : List CVal} {ds : List DV} (H : RepL fz h cs ds) : RepL fz' h' cs ds := ⟨H.1, fun j c d a b => (H.2 j c d a b).mono g⟩
theorem RepL.nil (fz : BN → Prop) (h : AHeap) : RepL fz h [] [] := ⟨rfl, fun j c d a => by simp at a⟩
theorem RepL.cons {fz : BN → Prop} {h : AHeap} {c : CVal} {d : DV} {cs : List CVal} {ds : List DV} (a : Rep fz h c d) (b : RepL fz h cs ds) : RepL fz h (c :: cs) (d :: ds) := by
 refine ⟨by simp [b.1], fun j c' d' hc hd => ?_⟩
 cases j with
 | zero => simp only [List.getElem?_cons_zero, Option.some.injEq] at hc hd; subst hc; subst hd; exact a
 | succ j => simp only [List.getElem?_cons_succ] at hc hd; exact b.2 j c' d' hc hd
theorem RepL.inv {fz : BN → Prop} {h : AHeap} {c : CVal} {d : DV} {cs : List CVal} {ds : List DV} (H : RepL fz h (c :: cs) (d :: ds)) : Rep fz h c d ∧ RepL fz h cs ds :=
 ⟨H.2 0 c d rfl rfl, by have := H.1; simp at this; exact this, fun j c' d' hc hd => H.2 (j + 1) c' d' (by simpa using hc) (by simpa using hd)⟩
theorem RepL.app {fz : BN → Prop} {h : AHeap} {cs cs' : List CVal} {ds ds' : List DV} (a : RepL fz h cs ds) (b : RepL fz h cs' ds') : RepL fz h (cs ++ cs') (ds ++ ds') := by
 refine ⟨by simp [a.1, b.1], fun j c d hc hd => ?_⟩
 by_cases hj : j < cs.length
 ·rw [List.getElem?_append_left hj] at hc
  rw [List.getElem?_append_left (by have := a.1; omega)] at hd
  exact a.2 j c d hc hd
 ·rw [List.getElem?_append_right (by omega)] at hc
  rw [List.getElem?_append_right (by have := a.1; omega), ← a.1] at hd
  exact b.2 _ c d hc hd
theorem RepL.sub {fz : BN → Prop} {h : AHeap} {cs : List CVal} {ds : List DV} (a : RepL fz h cs ds) (i n : Nat) : RepL fz h ((cs.drop i).take n) ((ds.drop i).take n) := by
 refine ⟨by simp [a.1], fun j c d hc hd => ?_⟩
 rw [List.getElem?_take] at hc hd
 split at hc
 ·rename_i hj
  rw [if_pos hj] at hd
  rw [List.getElem?_drop] at hc hd
  exact a.2 _ c d hc hd
 ·cases hc
theorem RepL.set {fz : BN → Prop} {h : AHeap} {cs cs' : List CVal} {ds ds' : List DV} (a : RepL fz h cs ds) (b : RepL fz h cs' ds') (i : Nat) :
  RepL fz h (cs.take i ++ cs' ++ cs.drop (i + cs'.length)) (ds.take i ++ ds' ++ ds.drop (i + ds'.length)) := by
 have h1 : RepL fz h (cs.take i) (ds.take i) := by simpa using a.sub 0 i
 have h2 : RepL fz h (cs.drop (i + cs'.length)) (ds.drop (i + ds'.length)) := by
  have := a.sub (i + cs'.length) (cs.length - (i + cs'.length))
  rw [b.1] at this ⊢
  have e1 : List.take (cs.length - (i + ds'.length)) (List.drop (i + ds'.length) cs) = List.drop (i + ds'.length) cs := List.take_of_length_le (by simp)
  have e2 : List.take (cs.length - (i + ds'.length)) (List.drop (i + ds'.length) ds) = List.drop (i + ds'.length) ds := List.take_of_length_le (by simp [a.1])
  rwa [e1, e2] at this
 exact (h1.app b).app h2
def RepS (fz : BN → Prop) (h : AHeap) : SVal → DS → Prop
 | .one c, .one d => Rep fz h c d
 | .agg cs, .agg ds => RepL fz h cs ds
 | _, _ => False
theorem RepS.mono {fz fz' : BN → Prop} {h h' : AHeap} (g : FG fz h fz' h') {c : SVal} {d : DS} (H : RepS fz h c d) : RepS fz' h' c d := by
 cases c <;> cases d <;> simp only [RepS] at H ⊢
 ·exact H.mono g
 ·exact H.mono g
def RepSL (fz : BN → Prop) (h : AHeap) : List SVal → List DS → Prop
 | [], [] => True
 | c :: cs, d :: ds => RepS fz h c d ∧ RepSL fz h cs ds
 | _, _ => False
theorem RepSL.mono {fz fz' : BN → Prop} {h h' : AHeap} (g : FG fz h fz' h') : ∀ {c : List SVal} {d : List DS}, RepSL fz h c d → RepSL fz' h' c d
 | [], [], _ => trivial
 | _ :: _, _ :: _, H => ⟨H.1.mono g, RepSL.mono g H.2⟩
 | [], _ :: _, H => H.elim
 | _ :: _, [], H => H.elim
def RepA (fz : BN → Prop) (h : AHeap) : AVal → DA → Prop
 | .s c, .s d => RepS fz h c d
 | .tup cs, .tup ds => RepSL fz h cs ds
 | _, _ => False
theorem RepA.of {fz : BN → Prop} {h : AHeap} {c : SVal} {d : DS} (H : RepS fz h c d) : RepA fz h (.s c) (.s d) := H
theorem RepA.inv {fz : BN → Prop} {h : AHeap} {v : AVal} {d : DS} (H : RepA fz h v (.s d)) : ∃ w, v = .s w ∧ RepS fz h w d := by
 cases v with
 | s v => exact ⟨_, rfl, H⟩
 | tup l => exact H.elim
theorem RepA.mono {fz fz' : BN → Prop} {h h' : AHeap} (g : FG fz h fz' h') {c : AVal} {d : DA} (H : RepA fz h c d) : RepA fz' h' c d := by
 cases d with
 | s d =>
  obtain ⟨w, rfl, hw⟩ := H.inv
  exact .of (hw.mono g)
 | tup ds =>
  cases c with
  | s c => exact H.elim
  | tup cs => exact RepSL.mono g H
def RepAL (fz : BN → Prop) (h : AHeap) : List AVal → List DA → Prop
 | [], [] => True
 | c :: cs, d :: ds => RepA fz h c d ∧ RepAL fz h cs ds
 | _, _ => False
theorem RepAL.mono {fz fz' : BN → Prop} {h h' : AHeap} (g : FG fz h fz' h') : ∀ {c : List AVal} {d : List DA}, RepAL fz h c d → RepAL fz' h' c d
 | [], [], _ => trivial
 | _ :: _, _ :: _, H => ⟨H.1.mono g, RepAL.mono g H.2⟩
 | [], _ :: _, H => H.elim
 | _ :: _, [], H => H.elim
theorem RepAL.app {fz : BN → Prop} {h : AHeap} : ∀ {c c' : List AVal} {d d' : List DA}, RepAL fz h c d → RepAL fz h c' d' → RepAL fz h (c ++ c') (d ++ d')
 | [], _, [], _, _, H => H
 | _ :: _, _, _ :: _, _, H, K => ⟨H.1, RepAL.app H.2 K⟩
 | [], _, _ :: _, _, H, _ => H.elim
 | _ :: _, _, [], _, H, _ => H.elim
theorem cut_of : ∀ (cs : List CVal) (n i : Nat), i + n ≤ cs.length → cut n cs i = some ((cs.drop i).take n) := by
 have tk : ∀ (n : Nat) (cs : List CVal), n ≤ cs.length → takeN n cs = some (cs.take n) := by
  intro n
  induction n with
  | zero => intro cs _; simp [takeN]
  | succ n ih =>
   intro cs h
   cases cs with
   | nil => simp at h
   | cons c cs => simp only [takeN, ih cs (by simpa using h), consO, List.take_succ_cons]
 intro cs
 induction cs with
 | nil => intro n i h; simp at h; obtain ⟨rfl, rfl⟩ := h; rfl
 | cons c cs ih =>
  intro n i h
  cases i with
  | zero =>
   show takeN n (c :: cs) = _
   rw [tk n _ (by simpa using h)]
   rfl
  | succ i =>
   show cut n cs i = _
   rw [ih n i (by simp at h; omega)]
   rfl
theorem cutF_of {f : Nat → Option CVal} : ∀ {n i : Nat} {l : List CVal}, l.length = n → (∀ j c, l[j]? = some c → f (i + j) = some c) → cutF f n i = some l := by
 intro n
 induction n with
 | zero => intro i l hl _; rw [List.length_eq_zero_iff.1 hl]; rfl
 | succ n ih =>
  intro i l hl H
  cases l with
  | nil => simp at hl
  | cons c l =>
   have h0 := H 0 c rfl
   simp only [Nat.add_zero] at h0
   have h1 := ih (i := i + 1) (l := l) (by simpa using hl) (fun j d hd => by have := H (j + 1) d (by simpa using hd); rw [← this]; congr 1; omega)
   simp only [cutF, h0]
   show consO c (cutF f n (i + 1)) = _
   rw [h1]; rfl
theorem rd_void {n off : Nat} {cs : List CVal} (h : rd n off .void = some cs) : n = 0 ∧ cs = [] := by
 have h : (bif Nat.beq n 0 then some [] else none) = some cs := h
 cases hn : Nat.beq n 0 with
 | true => rw [hn] at h; cases h; exact ⟨Nat.eq_of_beq_eq_true hn, rfl⟩
 | false => rw [hn] at h; cases h
theorem rd_len {n off : Nat} {o : AObj} {cs : List CVal} (h : rd n off o = some cs) : cs.length = n := by
 cases o with
 | void => obtain ⟨rfl, rfl⟩ := rd_void h; rfl
 | cells l st => exact (cut_get h).1
 | ro x f => exact (cutF_get h).1
 | _ => cases h
theorem rd_sub {n base : Nat} {o : AObj} {cs : List CVal} (h : rd n base o = some cs) {off m : Nat} (hm : off + m ≤ n) : rd m (base + off) o = some ((cs.drop off).take m) := by
 cases o with
 | void =>
  obtain ⟨rfl, rfl⟩ := rd_void h
  have : m = 0 := by omega
  subst this
  simp [rd]
 | cells l st =>
  obtain ⟨rfl, h2⟩ := cut_eq n l base cs h
  show cut m l (base + off) = _
  rw [cut_of l m (base + off) (by omega)]
  congr 1
  rw [List.drop_take, List.drop_drop, List.take_take]
  congr 1
  omega
 | ro x f =>
  obtain ⟨h1, h2⟩ := cutF_get h
  refine cutF_of (by simp; omega) fun j c hc => ?_
  rw [List.getElem?_take] at hc
  split at hc
  ·rw [List.getElem?_drop] at hc
   rw [Nat.add_assoc]
   exact h2 _ c hc
  ·cases hc
 | _ => cases h
theorem rd_load {n off : Nat} {o : AObj} {cs : List CVal} (h' : AHeap) (h : rd n off o = some cs) (h0 : n ≠ 0 ∨ o ≠ .void) : loadAt (some n) h' off (some o) = some (.s (.agg cs), h') := by
 cases o with
 | void =>
  obtain ⟨rfl, _⟩ := rd_void h
  rcases h0 with h0 | h0 <;> exact absurd rfl h0
 | cells l st => show retA h' (cut n l off) = _; rw [show cut n l off = some cs from h]; rfl
 | ro x f => show retA h' (cutF f n off) = _; rw [show cutF f n off = some cs from h]; rfl
 | _ => cases h
theorem rd_load1 {n base : Nat} {o : AObj} {cs : List CVal} (h' : AHeap) (h : rd n base o = some cs) {off : Nat} {c : CVal} (hc : cs[off]? = some c) : loadAt none h' (base + off) (some o) = some (.s (.one c), h') := by
 have hl := (List.getElem?_eq_some_iff.1 hc).1
 have e := rd_sub h (off := off) (m := 1) (by have := rd_len h; omega)
 refine rd_one (e.trans ?_)
 congr 1
 rw [List.take_one, List.head?_drop, hc]; rfl
def DV.scal : DV → Option CVal
 | .bool b => some (.bool b)
 | .int k n => some (.int k n)
 | .str s => some (.str s)
 | .nils => some .nils
 | .nilf => some .nilf
 | .nilp => some .nilp
 | .nilm => some .nilm
 | .nili => some .nili
 | _ => none
theorem Rep.scal {fz : BN → Prop} {h : AHeap} {c : CVal} {d : DV} (H : Rep fz h c d) {c' : CVal} (e : d.scal = some c') : c = c' := by
 cases H <;> simp only [DV.scal] at e <;> first | cases e; rfl | cases e
theorem Rep.ofScal {fz : BN → Prop} {h : AHeap} {d : DV} {c : CVal} (e : d.scal = some c) : Rep fz h c d := by
 cases d <;> simp only [DV.scal] at e <;> cases e
 ·exact .bool _
 ·exact .int _ _
 ·exact .str _
 ·exact .nils
 ·exact .nilf
 ·exact .nilp
 ·exact .nilm
 ·exact .nili
theorem Rep.lst_inv {fz : BN → Prop} {h : AHeap} {c : CVal} {st : Nat} {xs : List (List DV)} (H : Rep fz h c (.lst st xs)) :
  ∃ b o off cap ex cs, c = .slc b off xs.length cap ex ∧ fz b ∧ h.t.get b = some o ∧ (ex = true → xs.length ≤ cap) ∧ rd (xs.length * st) off o = some cs ∧
   ∀ (i : Nat) (x : List DV), xs[i]? = some x → x.length = st ∧ RepL fz h ((cs.drop (i * st)).take st) x := by
 cases H with
 | lst cs hb hg hc ha h1 h2 =>
  refine ⟨_, _, _, _, _, cs, rfl, hb, hg, hc, ha, fun i x hx => ⟨h1 i x hx, ?_, fun j c d hc hd => ?_⟩⟩
  ·have hi := (List.getElem?_eq_some_iff.1 hx).1
   have : (i + 1) * st ≤ xs.length * st := Nat.mul_le_mul_right st hi
   rw [Nat.succ_mul] at this
   have hl := rd_len ha
   simp only [List.length_take, List.length_drop, h1 i x hx]
   omega
  ·rw [List.getElem?_take] at hc
   split at hc
   ·rw [List.getElem?_drop] at hc
    exact h2 i x j c d hx hc hd
   ·cases hc
theorem Rep.lst_mk {fz : BN → Prop} {h : AHeap} {b : BN} {o : AObj} {off cap : Nat} {ex : Bool} {st : Nat} {xs : List (List DV)} {cs : List CVal} (hb : fz b) (hg : h.t.get b = some o) (hc : ex = true → xs.length ≤ cap)
  (ha : rd (xs.length * st) off o = some cs) (H : ∀ (i : Nat) (x : List DV), xs[i]? = some x → x.length = st ∧ RepL fz h ((cs.drop (i * st)).take st) x) : Rep fz h (.slc b off xs.length cap ex) (.lst st xs) := by
 refine .lst cs hb hg hc ha (fun i x hx => (H i x hx).1) (fun i x j c d hx hcs hd => (H i x hx).2.2 j c d ?_ hd)
 have hj := (List.getElem?_eq_some_iff.1 hd).1
 rw [List.getElem?_take, if_pos (by have := (H i x hx).1; omega), List.getElem?_drop]
 exact hcs
theorem Rep.fp_inv {fz : BN → Prop} {h : AHeap} {c : CVal} {xs : List DV} {off : Nat} (H : Rep fz h c (.fp xs off)) :
  ∃ b o base cs, c = .ptr b (base + off) ∧ fz b ∧ h.t.get b = some o ∧ rd xs.length base o = some cs ∧ RepL fz h cs xs := by
 cases H with
 | fp cs hb hg h1 h2 => exact ⟨_, _, _, cs, rfl, hb, hg, h1, rd_len h1, h2⟩
theorem Rep.fp_mk {fz : BN → Prop} {h : AHeap} {b : BN} {o : AObj} {base : Nat} {cs : List CVal} {xs : List DV} {off : Nat} (hb : fz b) (hg : h.t.get b = some o) (h1 : rd xs.length base o = some cs) (h2 : RepL fz h cs xs) :
  Rep fz h (.ptr b (base + off)) (.fp xs off) := .fp cs hb hg h1 h2.2
theorem Rep.fn_inv {fz : BN → Prop} {h : AHeap} {c : CVal} {f : Nat} {caps : List (List DV)} (H : Rep fz h c (.fn f caps)) :
  ∃ ps, c = .fn f ps ∧ RepL fz h (ps.map fun p => .ptr p.1 p.2) (caps.map fun x => .fp x 0) := by
 cases H with
 | fn css os hl h1 h2 =>
  refine ⟨_, rfl, by simp [hl], fun j c d hc hd => ?_⟩
  simp only [List.getElem?_map, Option.map_eq_some_iff] at hc hd
  obtain ⟨p, hp, rfl⟩ := hc
  obtain ⟨x, hx, rfl⟩ := hd
  obtain ⟨a, b, c⟩ := h1 j p x hp hx
  exact .fp (base := p.2) (off := 0) (css j) a b c (fun i c d hc hd => h2 j p x i c d hp hx hc hd)
theorem Rep.fn_mk {fz : BN → Prop} {h : AHeap} {f : Nat} {ps : List (BN × Nat)} {caps : List (List DV)} (H : RepL fz h (ps.map fun p => .ptr p.1 p.2) (caps.map fun x => .fp x 0)) : Rep fz h (.fn f ps) (.fn f caps) := by
 have hl : ps.length = caps.length := by simpa using H.1
 have : ∀ i : Nat, ∃ q : List CVal × AObj, ∀ (p : BN × Nat) (x : List DV), ps[i]? = some p → caps[i]? = some x → fz p.1 ∧ h.t.get p.1 = some q.2 ∧ rd x.length p.2 q.2 = some q.1 ∧ RepL fz h q.1 x := by
  intro i
  cases hp : ps[i]? with
  | none => exact ⟨([], .dead), fun p x hp' => by cases hp'⟩
  | some p =>
   cases hx : caps[i]? with
   | none => exact ⟨([], .dead), fun p x _ hx' => by cases hx'⟩
   | some x =>
    have := H.2 i (.ptr p.1 p.2) (.fp x 0) (by simp [hp]) (by simp [hx])
    obtain ⟨b, o, base, cs, e, a1, a2, a3, a4⟩ := this.fp_inv
    simp only [CVal.ptr.injEq, Nat.add_zero] at e
    obtain ⟨rfl, rfl⟩ := e
    exact ⟨(cs, o), fun p' x' hp' hx' => by cases hp'; cases hx'; exact ⟨a1, a2, a3, a4⟩⟩
 obtain ⟨q, hq⟩ := Classical.axiomOfChoice this
 exact .fn (fun i => (q i).1) (fun i => (q i).2) hl (fun i p x hp hx => ⟨(hq i p x hp hx).1, (hq i p x hp hx).2.1, (hq i p x hp hx).2.2.1⟩) (fun i p x j c d hp hx hc hd => (hq i p x hp hx).2.2.2.2 j c d hc hd)
end Go.PE
end
section
namespace Go.PE
open Go Go.CE
def shC : SVal → Nat
 | .one _ => 0
 | .agg cs => Nat.succ cs.length
def mpTag (k v : SVal) : Nat := Nat.add 1048576 (Nat.add (Nat.mul (shC k) 1024) (shC v))
inductive KOp where
 | mv (x : Operand)
 | pick (c a b : Operand)
 | alloc (zs : List CVal)
 | box (x : Operand)
 | build (zs : List CVal) (parts : List (Nat × Nat × Operand))
 | bslice (st len : Nat) (zs : List CVal) (parts : List (Nat × Nat × Operand))
 | load (n : Option Nat) (x : Operand)
 | store (n : Nat) (x v : Operand)
 | nilck (x : Operand)
 | bin (op : BinOp) (x y : Operand)
 | shift (left : Bool) (x y : Operand)
 | str (op : BinOp) (x y : Operand)
 | nilS (neg : Bool) (x y : Operand)
 | eq (ks : Nat ⊕ List Nat) (neg : Bool) (x y : Operand)
 | not (x : Operand)
 | neg (x : Operand)
 | conv (k : IntKind) (x : Operand)
 | b2s (x : Operand)
 | s2b (x : Operand)
 | mkfn (f : Nat) (caps : List Operand)
 | mkmap (st : Nat)
 | mkslice (st : Nat) (zs : List CVal) (bytes : Nat) (l c : Operand)
 | slice (st : Nat) (x : Operand) (lo hi mx : Option Operand)
 | sslice (x : Operand) (lo hi : Option Operand)
 | foff (x : Operand) (off : Nat)
 | field (x : Operand) (off : Nat) (n : Option Nat)
 | ixs (st : Nat) (x i : Operand)
 | ixarr (len st : Nat) (x i : Operand)
 | ixagg (len st : Nat) (n : Option Nat) (x i : Operand)
 | ixstr (x i : Operand)
 | lookup (q : Nat ⊕ List Nat) (z : SVal) (ok : Bool) (m k : Operand)
 | mupd (q : Nat ⊕ List Nat) (m k v : Operand)
 | extract (x : Operand) (i : Nat)
 | lenS (x : Operand)
 | lenL (x : Operand)
 | lenM (x : Operand)
 | append (st bytes : Nat) (s x : Operand)
 | minmax (m : Bool) (x : Operand) (xs : List Operand)
 | clear (st : Nat) (zs : List CVal) (x : Operand)
 | call (f : Operand) (args : List Operand)
section
variable (P : Program)
def fParts (fs : Array Field) : List (Nat × Operand) → Option (List (Nat × Nat × Operand))
 | [] => some []
 | (i, x) :: r =>
  match fs[i]?, fParts fs r with
  | some f, some rest =>
   match P.info? f.type with
   | some info => some ((f.offset, info.size, x) :: rest)
   | none => none
  | _, _ => none
def eParts (size : Nat) : List (Nat × Operand) → List (Nat × Nat × Operand)
 | [] => []
 | (i, x) :: r => (i * size, size, x) :: eParts size r
def comp (o : Op) : Option KOp :=
 match o with
 | .move x => some (.mv x)
 | .assign x => some (.mv x)
 | .pick c a b => some (.pick c a b)
 | .alloc t => bif isBldT P t then none else (match zeroT P t with | some z => some (.alloc z.cells) | none => none)
 | .box _ x => some (.box x)
 | .build t parts =>
  match P.underlying t, zeroT P t with
  | some (.struct fs), some z => bif allInfo P fs.toList then (match fParts P fs parts.toList with | some l => some (.build z.cells l) | none => none) else none
  | some (.array _ e), some z =>
   match P.info? e with
   | some i => some (.build z.cells (eParts i.size parts.toList))
   | none => none
  | _, _ => none
 | .buildSlice t len parts =>
  match P.underlying t with
  | some (.slice e) =>
   match P.info? e with
   | some i =>
    bif Nat.ble (len * i.size) 16777216 then
     match (bif Nat.beq (len * i.size) 0 then some [] else (zeroT P e).map SVal.cells) with
     | some zs => bif Nat.beq (len * i.size) 0 || Nat.beq zs.length i.size then some (.bslice i.size len (repl zs len) (eParts i.size parts.toList)) else none
     | none => none
    else none
   | none => none
  | _ => none
 | .load t x => match sizeT P t with | some n => some (.load n x) | none => none
 | .store t x v => match P.info? t with | some i => some (.store i.size x v) | none => none
 | .nilCheck x => some (.nilck x)
 | .binOp op t x y _ =>
  match P.underlying t with
  | some (.int _) =>
   match op with
   | .shl => some (.shift true x y)
   | .shr => some (.shift false x y)
   | op => some (.bin op x y)
  | some .string => some (.str op x y)
  | some (.slice _) =>
   match op with
   | .eql => some (.nilS false x y)
   | .neq => some (.nilS true x y)
   | _ => none
  | some (.struct _) =>
   bif P.eqGuardType P.depth t then none else
   match op, keyT P t with
   | .eql, some q => some (.eq q false x y)
   | .neq, some q => some (.eq q true x y)
   | _, _ => none
  | some .bool =>
   bif P.eqGuardType P.depth t then none else
   match op, keyT P t with
   | .eql, some q => some (.eq q false x y)
   | .neq, some q => some (.eq q true x y)
   | _, _ => none
  | _ => none
 | .unOp .not _ x => some (.not x)
 | .unOp .neg _ x => some (.neg x)
 | .convert s d x =>
  match P.underlying s, P.underlying d with
  | some (.int _), some (.int k) => some (.conv k x)
  | some (.slice e), some .string => bif isByteT P e then some (.b2s x) else none
  | some .string, some (.slice e) => bif isByteT P e then some (.s2b x) else none
  | _, _ => none
 | .makeFunc (.func f) first captured => bif first.isEmpty then some (.mkfn f captured.toList) else none
 | .makeMap t none =>
  match P.underlying t with
  | some (.map key e) => match zeroT P key, zeroT P e with | some zk, some ze => some (.mkmap (mpTag zk ze)) | _, _ => none
  | _ => none
 | .makeSlice t l c =>
  match P.underlying t with
  | some (.slice e) =>
   match P.info? e, zeroT P e with
   | some i, some z => bif Nat.beq z.cells.length i.size && !Nat.beq i.size 0 then some (.mkslice i.size z.cells i.bytes l c) else none
   | _, _ => none
  | _ => none
 | .slice t x lo hi mx =>
  match P.underlying t with
  | some (.slice e) =>
   match P.info? e with
   | some i => bif mx.isSome && !hi.isSome then none else some (.slice i.size x lo hi mx)
   | none => none
  | some .string => bif mx.isSome then none else some (.sslice x lo hi)
  | _ => none
 | .fieldAddr t x f =>
  match P.underlying t with
  | some (.struct fs) =>
   match fs[f]? with
   | some fd =>
    match P.info? fd.type with
    | some i => bif Nat.beq i.size 0 then none else some (.foff x fd.offset)
    | none => none
   | none => none
  | _ => none
 | .field t x f =>
  match P.underlying t with
  | some (.struct fs) =>
   match fs[f]? with
   | some fd => match sizeT P fd.type with | some n => some (.field x fd.offset n) | none => none
   | none => none
  | _ => none
 | .indexAddr t x i =>
  match P.underlying t with
  | some (.slice e) =>
   match P.info? e with
   | some info => some (.ixs info.size x i)
   | none => none
  | some (.array len e) =>
   match P.info? e with
   | some info => some (.ixarr len info.size x i)
   | none => none
  | _ => none
 | .index t x i =>
  match P.underlying t with
  | some (.array len e) =>
   match P.info? e, sizeT P e with
   | some info, some n => some (.ixagg len info.size n x i)
   | _, _ => none
  | some .string => some (.ixstr x i)
  | _ => none
 | .lookup t m k ok =>
  match P.underlying t with
  | some (.map key e) => match keyT P key, zeroT P e with | some q, some z => some (.lookup q z ok m k) | _, _ => none
  | _ => none
 | .mapUpdate t m k v =>
  match P.underlying t with
  | some (.map key _) => match keyT P key with | some q => some (.mupd q m k v) | none => none
  | _ => none
 | .extract x i => some (.extract x i)
 | .call c =>
  match c.callee with
  | .value f => bif Nat.beq (extOf P f) 0 then some (.call f c.args.toList) else none
  | .builtin .len =>
   match c.argTypes[0]?, c.args[0]? with
   | some t, some x =>
    match P.underlying t with
    | some .string => some (.lenS x)
    | some (.slice _) => some (.lenL x)
    | some (.map _ _) => some (.lenM x)
    | _ => none
   | _, _ => none
  | .builtin .append =>
   match c.argTypes.toList, c.args.toList with
   | [t, t2], [s, x] =>
    match P.underlying t with
    | some (.slice e) =>
     match P.info? e, zeroT P e with
     | some i, some z =>
      bif Nat.beq z.cells.length i.size && !Nat.beq i.size 0 then
       match P.underlying t2 with
       | some (.slice _) => bif isByteT P e && Nat.beq i.size 1 then none else some (.append i.size i.bytes s x)
       | _ => none
      else none
     | _, _ => none
    | _ => none
   | _, _ => none
  | .builtin .clear =>
   match c.argTypes[0]?, c.args[0]? with
   | some t, some x =>
    match P.underlying t with
    | some (.slice e) =>
     match P.info? e, zeroT P e with
     | some i, some z => bif Nat.beq z.cells.length i.size && !Nat.beq i.size 0 then some (.clear i.size z.cells x) else none
     | _, _ => none
    | _ => none
   | _, _ => none
  | .builtin .max =>
   match c.args.toList with
   | x :: xs => some (.minmax true x xs)
   | _ => none
  | .builtin .min =>
   match c.args.toList with
   | x :: xs => some (.minmax false x xs)
   | _ => none
  | _ => none
 | _ => none
end
def kv (r : Fr) : Operand → Option AVal
 | .tmp t => some (r t)
 | .const v => match cVal v with | some s => some (.s s) | none => none
 | .func f => some (.s (.one (.fn f [])))
 | .global g => match gtabK g with | some _ => some (.s (.one (.gptr g 0))) | none => none
theorem coK_kv (r : Fr) (x : Operand) : coK r x = (kv r x).map constF := by
 cases x with
 | tmp t => rfl
 | const v => simp only [coK, kv]; cases cVal v <;> rfl
 | func f => rfl
 | global g => simp only [coK, kv]; cases gtabK g <;> rfl
def kvs (r : Fr) : List Operand → Option (List AVal)
 | [] => some []
 | x :: xs =>
  match kv r x, kvs r xs with
  | some y, some ys => some (y :: ys)
  | _, _ => none
theorem cOpdsG_kv (r : Fr) : ∀ l : List Operand, cOpdsG (coK r) l = (kvs r l).map (·.map constF)
 | [] => rfl
 | x :: l => by
  simp only [cOpdsG, kvs, coK_kv, cOpdsG_kv r l]
  cases kv r x <;> cases kvs r l <;> rfl
def kvo (r : Fr) : Option Operand → Option (Option AVal)
 | none => some none
 | some x => match kv r x with | some y => some (some y) | none => none
theorem cOptG_kv (r : Fr) (x : Option Operand) : cOptG (coK r) x = (kvo r x).map (·.map constF) := by
 cases x with
 | none => rfl
 | some x => simp only [cOptG, kvo, coK_kv]; cases kv r x <;> rfl
def kvp (r : Fr) : List (Nat × Nat × Operand) → Option (List (Nat × Nat × AVal))
 | [] => some []
 | (a, b, x) :: l =>
  match kv r x, kvp r l with
  | some y, some ys => some ((a, b, y) :: ys)
  | _, _ => none
theorem eParts_kv (r : Fr) (n : Nat) : ∀ l : List (Nat × Operand), elemPartsG (coK r) n l = (kvp r (eParts n l)).map cP
 | [] => rfl
 | (i, x) :: l => by
  simp only [elemPartsG, eParts, kvp, coK_kv, eParts_kv r n l]
  cases kv r x <;> cases kvp r (eParts n l) <;> rfl
theorem fParts_kv (P : Program) (r : Fr) (fs : Array Field) : ∀ (l : List (Nat × Operand)) (q : List (Nat × Nat × Operand)), fParts P fs l = some q → fieldPartsG P (coK r) fs l = (kvp r q).map cP
 | [], q, h => by cases h; rfl
 | (i, x) :: l, q, h => by
  simp only [fParts] at h
  cases hf : fs[i]? with
  | none => rw [hf] at h; cases h
  | some f =>
   cases hl : fParts P fs l with
   | none => rw [hf, hl] at h; cases h
   | some rest =>
    rw [hf, hl] at h
    simp only at h
    cases hi : P.info? f.type with
    | none => rw [hi] at h; cases h
    | some info =>
     rw [hi] at h
     cases h
     simp only [fieldPartsG, kvp, hf, coK_kv, fParts_kv P r fs l rest hl]
     cases kv r x with
     | none => rfl
     | some y =>
      cases kvp r rest with
      | none => rfl
      | some ys => simp only [Option.map_some, hi]; rfl
def bind1 (x : Option AVal) (k : AVal → Res) : Res := match x with | some v => k v | none => none
noncomputable def runK (r : Fr) (o : KOp) (call : Caller) (h : AHeap) : Res :=
 match o with
 | .mv x => bind1 (kv r x) fun x => some (x, h)
 | .pick c a b => bind1 (kv r c) fun c => bind1 (kv r a) fun a => bind1 (kv r b) fun b => vPick c a b h
 | .alloc zs => vAlloc zs h
 | .box x => bind1 (kv r x) fun x => vBox x h
 | .build zs parts => match kvp r parts with | some l => vBuild zs l h | none => none
 | .bslice st len zs parts => match kvp r parts with | some l => vBslice st len zs l h | none => none
 | .load n x => bind1 (kv r x) fun x => vLoad n x h
 | .store n x v => bind1 (kv r x) fun x => bind1 (kv r v) fun v => vStore n x v h
 | .nilck x => bind1 (kv r x) fun x => vNilck x h
 | .bin op x y => bind1 (kv r x) fun x => bind1 (kv r y) fun y => vInt (intFn op) x y h
 | .shift l x y => bind1 (kv r x) fun x => bind1 (kv r y) fun y => vShift (bif l then evShl else evShr) x y h
 | .str op x y => bind1 (kv r x) fun x => bind1 (kv r y) fun y => vStr op x y h
 | .nilS n x y => bind1 (kv r x) fun x => bind1 (kv r y) fun y => vNilS n x y h
 | .eq q n x y => bind1 (kv r x) fun x => bind1 (kv r y) fun y => vEq q n x y h
 | .not x => bind1 (kv r x) fun x => vNot x h
 | .neg x => bind1 (kv r x) fun x => vNeg x h
 | .conv k x => bind1 (kv r x) fun x => vConv k x h
 | .b2s x => bind1 (kv r x) fun x => opB2s (constF x) noCall .nil h
 | .s2b x => bind1 (kv r x) fun x => opS2b (constF x) noCall .nil h
 | .mkfn f caps => match kvs r caps with | some l => vMkfn f l h | none => none
 | .mkmap _ => vMkmap h
 | .mkslice st zs bytes l c => bind1 (kv r l) fun l => bind1 (kv r c) fun c => vMkslice st zs bytes l c h
 | .slice st x lo hi mx => bind1 (kv r x) fun x => match kvo r lo, kvo r hi, kvo r mx with | some lo, some hi, some mx => vSlice st x lo hi mx h | _, _, _ => none
 | .sslice x lo hi => bind1 (kv r x) fun x => match kvo r lo, kvo r hi with | some lo, some hi => vSslice x lo hi h | _, _ => none
 | .foff x off => bind1 (kv r x) fun x => vFoff x off h
 | .field x off n => bind1 (kv r x) fun x => vField x off n h
 | .ixs st x i => bind1 (kv r x) fun x => bind1 (kv r i) fun i => vIxs st x i h
 | .ixarr len st x i => bind1 (kv r x) fun x => bind1 (kv r i) fun i => vIxarr len st x i h
 | .ixagg len st n x i => bind1 (kv r x) fun x => bind1 (kv r i) fun i => vIxagg len st n x i h
 | .ixstr x i => bind1 (kv r x) fun x => bind1 (kv r i) fun i => vIxstr x i h
 | .lookup q z ok m k => bind1 (kv r m) fun m => bind1 (kv r k) fun k => vLookup q z ok m k h
 | .mupd q m k v => bind1 (kv r m) fun m => bind1 (kv r k) fun k => bind1 (kv r v) fun v => vMupd q m k v h
 | .extract x i => bind1 (kv r x) fun x => vExtract x i h
 | .lenS x => bind1 (kv r x) fun x => vLenS x h
 | .lenL x => bind1 (kv r x) fun x => vLenL x h
 | .lenM x => bind1 (kv r x) fun x => vLenM x h
 | .append st bytes s x => bind1 (kv r s) fun s => bind1 (kv r x) fun x => vAppend false st bytes s x h
 | .minmax m x xs => bind1 (kv r x) fun x => match kvs r xs with | some l => vMinmax m x l h | none => none
 | .clear st zs x => bind1 (kv r x) fun x => vClear st zs x h
 | .call f args => bind1 (kv r f) fun f => match kvs r args with | some l => vCall call f l h | none => none
theorem kop_eq (P : Program) (r : Fr) {o : Op} {ko : KOp} (call : Caller) (h : AHeap) (e : comp P o = some ko) : cOpG P (coK r) o call .nil h = runK r ko call h := by
 unfold comp at e
 cases o with
 | move x => cases e; simp only [cOpG, coK_kv, runK]; cases kv r x <;> rfl
 | assign x => cases e; simp only [cOpG, coK_kv, runK]; cases kv r x <;> rfl
 | pick c a b => cases e; simp only [cOpG, coK_kv, runK]; cases kv r c <;> cases kv r a <;> cases kv r b <;> rfl
 | alloc t =>
  simp only at e
  cases hb : isBldT P t with
  | true => rw [hb] at e; cases e
  | false =>
   cases hz : zeroT P t with
   | none => rw [hb, hz] at e; cases e
   | some z => rw [hb, hz] at e; cases e; simp only [cOpG, hb, hz, runK]; rfl
 | box t x => cases e; simp only [cOpG, coK_kv, runK]; cases kv r x <;> rfl
 | build t parts =>
  simp only at e
  split at e
  ·rename_i fs z hu hz
   cases ha : allInfo P fs.toList with
   | false => rw [ha] at e; cases e
   | true =>
    rw [ha] at e
    cases hf : fParts P fs parts.toList with
    | none => rw [hf] at e; cases e
    | some l =>
     rw [hf] at e
     cases e
     simp only [cOpG, hu, hz, ha, cond_true, fParts_kv P r fs _ _ hf, runK]
     cases kvp r l <;> rfl
  ·rename_i n e' z hu hz
   split at e
   ·rename_i i hi
    cases e
    simp only [cOpG, hu, hz, hi, eParts_kv, runK]
    cases kvp r (eParts i.size parts.toList) <;> rfl
   ·cases e
  ·cases e
 | buildSlice t len parts =>
  simp only at e
  split at e
  ·rename_i e' hu
   split at e
   ·rename_i i hi
    cases hl : Nat.ble (len * i.size) 16777216 with
    | false => rw [hl] at e; cases e
    | true =>
     rw [hl] at e
     simp only [cond_true] at e
     split at e
     ·rename_i zs hzs
      cases hc : (Nat.beq (len * i.size) 0 || Nat.beq zs.length i.size) with
      | false => rw [hc] at e; cases e
      | true =>
       rw [hc] at e
       cases e
       simp only [cOpG, hu, hi, hl, cond_true, hzs, hc, eParts_kv, runK]
       cases kvp r (eParts i.size parts.toList) <;> rfl
     ·cases e
   ·cases e
  ·cases e
 | load t x =>
  simp only at e
  cases hs : sizeT P t with
  | none => rw [hs] at e; cases e
  | some n => rw [hs] at e; cases e; simp only [cOpG, hs, coK_kv, runK]; cases kv r x <;> rfl
 | store t x v =>
  simp only at e
  cases hs : P.info? t with
  | none => rw [hs] at e; cases e
  | some i => rw [hs] at e; cases e; simp only [cOpG, hs, coK_kv, runK]; cases kv r x <;> cases kv r v <;> rfl
 | nilCheck x => cases e; simp only [cOpG, coK_kv, runK]; cases kv r x <;> rfl
 | binOp op t x y p =>
  simp only at e
  split at e
  ·rename_i hu
   simp only [cOpG, hu]
   split at e <;> cases e <;> simp only [coK_kv, runK] <;> cases kv r x <;> cases kv r y <;> rfl
  ·rename_i hu
   cases e; simp only [cOpG, hu, coK_kv, runK]; cases kv r x <;> cases kv r y <;> rfl
  ·rename_i hu
   simp only [cOpG, hu]
   split at e <;> cases e <;> simp only [coK_kv, runK] <;> cases kv r x <;> cases kv r y <;> rfl
  ·rename_i fs hu
   cases hg : P.eqGuardType P.depth t with
   | true => rw [hg] at e; cases e
   | false =>
    rw [hg] at e
    simp only [cond_false] at e
    split at e
    ·rename_i q hk
     cases e; simp only [cOpG, hu, hg, cond_false, hk, coK_kv, runK]; cases kv r x <;> cases kv r y <;> rfl
    ·rename_i q hk
     cases e; simp only [cOpG, hu, hg, cond_false, hk, coK_kv, runK]; cases kv r x <;> cases kv r y <;> rfl
    ·cases e
  ·rename_i hu
   cases hg : P.eqGuardType P.depth t with
   | true => rw [hg] at e; cases e
   | false =>
    rw [hg] at e
    simp only [cond_false] at e
    split at e
    ·rename_i q hk
     cases e; simp only [cOpG, hu, hg, cond_false, hk, coK_kv, runK]; cases kv r x <;> cases kv r y <;> rfl
    ·rename_i q hk
     cases e; simp only [cOpG, hu, hg, cond_false, hk, coK_kv, runK]; cases kv r x <;> cases kv r y <;> rfl
    ·cases e
  ·cases e
 | unOp u t x =>
  cases u <;> first | cases e | skip
  ·simp only [cOpG, coK_kv, runK]; cases kv r x <;> rfl
  ·simp only [cOpG, coK_kv, runK]; cases kv r x <;> rfl
 | convert s d x =>
  simp only at e
  split at e
  ·rename_i k hs hd
   cases e; simp only [cOpG, hs, hd, coK_kv, runK]; cases kv r x <;> rfl
  ·rename_i el hs hd
   cases hb : isByteT P el with
   | false => rw [hb] at e; cases e
   | true => rw [hb] at e; cases e; simp only [cOpG, hs, hd, hb, cond_true, coK_kv, runK]; cases kv r x <;> rfl
  ·rename_i el hs hd
   cases hb : isByteT P el with
   | false => rw [hb] at e; cases e
   | true => rw [hb] at e; cases e; simp only [cOpG, hs, hd, hb, cond_true, coK_kv, runK]; cases kv r x <;> rfl
  ·cases e
 | makeFunc f first captured =>
  cases f with
  | func f =>
   simp only at e
   cases hf : first.isEmpty with
   | false => rw [hf] at e; cases e
   | true => rw [hf] at e; cases e; simp only [cOpG, hf, cond_true, cOpdsG_kv, runK]; cases kvs r captured.toList <;> rfl
  | _ => cases e
 | makeMap t n =>
  cases n with
  | none =>
   simp only at e
   split at e
   ·split at e
    ·cases e; rfl
    ·cases e
   ·cases e
  | some n => cases e
 | makeSlice t l c =>
  simp only at e
  split at e
  ·rename_i el hu
   split at e
   ·rename_i i z hi hz
    cases hc : (Nat.beq z.cells.length i.size && !Nat.beq i.size 0) with
    | false => rw [hc] at e; cases e
    | true => rw [hc] at e; cases e; simp only [cOpG, hu, hi, hz, hc, cond_true, coK_kv, runK]; cases kv r l <;> cases kv r c <;> rfl
   ·cases e
  ·cases e
 | slice t x lo hi mx =>
  simp only at e
  split at e
  ·rename_i el hu
   split at e
   ·rename_i i hi'
    cases hc : (mx.isSome && !hi.isSome) with
    | true => rw [hc] at e; cases e
    | false => rw [hc] at e; cases e; simp only [cOpG, hu, hi', hc, cond_false, coK_kv, cOptG_kv, runK]; cases kv r x <;> rcases kvo r lo with _ | (_ | _) <;> rcases kvo r hi with _ | (_ | _) <;> rcases kvo r mx with _ | (_ | _) <;> rfl
   ·cases e
  ·rename_i hu
   cases hc : mx.isSome with
   | true => rw [hc] at e; cases e
   | false => rw [hc] at e; cases e; simp only [cOpG, hu, hc, cond_false, coK_kv, cOptG_kv, runK]; cases kv r x <;> rcases kvo r lo with _ | (_ | _) <;> rcases kvo r hi with _ | (_ | _) <;> rfl
  ·cases e
 | fieldAddr t x f =>
  simp only at e
  split at e
  ·rename_i fs hu
   split at e
   ·rename_i fd hf
    split at e
    ·rename_i i hi
     cases hc : Nat.beq i.size 0 with
     | true => rw [hc] at e; cases e
     | false => rw [hc] at e; cases e; simp only [cOpG, hu, hf, hi, hc, cond_false, coK_kv, runK]; cases kv r x <;> rfl
    ·cases e
   ·cases e
  ·cases e
 | field t x f =>
  simp only at e
  split at e
  ·rename_i fs hu
   split at e
   ·rename_i fd hf
    split at e
    ·rename_i n hn
     cases e; simp only [cOpG, hu, hf, hn, coK_kv, runK]; cases kv r x <;> rfl
    ·cases e
   ·cases e
  ·cases e
 | indexAddr t x i =>
  simp only at e
  split at e
  ·rename_i el hu
   split at e
   ·rename_i info hi
    cases e; simp only [cOpG, hu, hi, coK_kv, runK]; cases kv r x <;> cases kv r i <;> rfl
   ·cases e
  ·rename_i len el hu
   split at e
   ·rename_i info hi
    cases e; simp only [cOpG, hu, hi, coK_kv, runK]; cases kv r x <;> cases kv r i <;> rfl
   ·cases e
  ·cases e
 | index t x i =>
  simp only at e
  split at e
  ·rename_i len el hu
   split at e
   ·rename_i info n hi hn
    cases e; simp only [cOpG, hu, hi, hn, coK_kv, runK]; cases kv r x <;> cases kv r i <;> rfl
   ·cases e
  ·rename_i hu
   cases e; simp only [cOpG, hu, coK_kv, runK]; cases kv r x <;> cases kv r i <;> rfl
  ·cases e
 | lookup t m k ok =>
  simp only at e
  split at e
  ·rename_i key el hu
   split at e
   ·rename_i q z hq hz
    cases e; simp only [cOpG, hu, hq, hz, coK_kv, runK]; cases kv r m <;> cases kv r k <;> rfl
   ·cases e
  ·cases e
 | mapUpdate t m k v =>
  simp only at e
  split at e
  ·rename_i key el hu
   split at e
   ·rename_i q hq
    cases e; simp only [cOpG, hu, hq, coK_kv, runK]; cases kv r m <;> cases kv r k <;> cases kv r v <;> rfl
   ·cases e
  ·cases e
 | extract x i => cases e; simp only [cOpG, coK_kv, runK]; cases kv r x <;> rfl
 | call c =>
  simp only at e
  split at e
  ·rename_i f hc
   cases hx : Nat.beq (extOf P f) 0 with
   | false => rw [hx] at e; cases e
   | true =>
    rw [hx] at e; cases e
    simp only [cOpG, hc, hx, cond_true, coK_kv, cOpdsG_kv, runK]
    cases kv r f <;> cases kvs r c.args.toList <;> rfl
  ·rename_i hc
   split at e
   ·rename_i t x ht hx
    simp only [cOpG, hc, ht, hx]
    split at e
    ·rename_i hu; cases e; simp only [hu, coK_kv, runK]; cases kv r x <;> rfl
    ·rename_i el hu; cases e; simp only [hu, coK_kv, runK]; cases kv r x <;> rfl
    ·rename_i k el hu; cases e; simp only [hu, coK_kv, runK]; cases kv r x <;> rfl
    ·cases e
   ·cases e
  ·rename_i hc
   split at e
   ·rename_i t t2 s x ht hx
    simp only [cOpG, hc, ht, hx]
    split at e
    ·rename_i el hu
     split at e
     ·rename_i i z hi hz
      cases hb : (Nat.beq z.cells.length i.size && !Nat.beq i.size 0) with
      | false => rw [hb] at e; cases e
      | true =>
       rw [hb] at e
       simp only [cond_true] at e
       split at e
       ·rename_i e2 hu2
        cases hB : (isByteT P el && Nat.beq i.size 1) with
        | true => rw [hB] at e; cases e
        | false =>
         rw [hB] at e
         cases e
         simp only [hu, hi, hz, hb, cond_true, hu2, hB, cond_false, coK_kv, runK]; cases kv r s <;> cases kv r x <;> rfl
       ·cases e
     ·cases e
    ·cases e
   ·cases e
  ·rename_i hc
   split at e
   ·rename_i t x ht hx
    simp only [cOpG, hc, ht, hx]
    split at e
    ·rename_i el hu
     split at e
     ·rename_i i z hi hz
      cases hb : (Nat.beq z.cells.length i.size && !Nat.beq i.size 0) with
      | false => rw [hb] at e; cases e
      | true => rw [hb] at e; cases e; simp only [hu, hi, hz, hb, cond_true, coK_kv, runK]; cases kv r x <;> rfl
     ·cases e
    ·cases e
   ·cases e
  ·rename_i hc
   split at e
   ·rename_i x xs hx
    cases e
    simp only [cOpG, hc, hx, cOpdsG_kv, kvs, runK]
    cases kv r x <;> cases kvs r xs <;> rfl
   ·cases e
  ·rename_i hc
   split at e
   ·rename_i x xs hx
    cases e
    simp only [cOpG, hc, hx, cOpdsG_kv, kvs, runK]
    cases kv r x <;> cases kvs r xs <;> rfl
   ·cases e
  ·cases e
 | _ => cases e
end Go.PE
end
section
namespace Go.PE
open Go Go.CE
inductive PC where
 | d (v : DV)
 | own (k : Nat)
 | ptr (k off : Nat)
 | ep (k st i off : Nat)
 | ip (k off len st i o : Nat)
 | vw (k st lo len : Nat)
 | clo (f : Nat) (caps : List (Nat ⊕ List DV))
inductive PV where
 | one (c : PC)
 | agg (cs : List PC)
inductive PA where
 | s (v : PV)
 | tup (l : List DS)
 | bad
 | undef
def PV.cells : PV → List PC
 | .one c => [c]
 | .agg cs => cs
abbrev OC := Option (List (List DV))
def mkL (st : Nat) : OC → DV
 | none => .nils
 | some xs => .lst st xs
inductive PO where
 | box (cs : List PC)
 | arr (st : Nat) (v : OC)
 | frz (v : DV)
 | fbox (ds : List DV)
 | mp (st : Nat) (xs : List (List DV))
 | dead
def og : List PO → Nat → PO
 | [], _ => .dead
 | o :: l, k => bif Nat.beq k 0 then o else og l (Nat.sub k 1)
def oset (o : PO) : List PO → Nat → List PO
 | [], _ => []
 | x :: l, k => bif Nat.beq k 0 then o :: l else x :: oset o l (Nat.sub k 1)
theorem beq_zero_succ (k : Nat) : Nat.beq (k + 1) 0 = false := rfl
theorem og_eq : ∀ (l : List PO) (k : Nat), og l k = (l[k]?).getD .dead
 | [], k => by simp [og]
 | o :: l, 0 => by simp [og]
 | o :: l, k + 1 => by
  have := og_eq l k
  simp only [og, beq_zero_succ, cond_false, List.getElem?_cons_succ]
  exact this
theorem oset_len (o : PO) : ∀ (l : List PO) (k : Nat), (oset o l k).length = l.length
 | [], k => rfl
 | x :: l, 0 => rfl
 | x :: l, k + 1 => by
  have := oset_len o l k
  show ((x :: oset o l k)).length = _
  simp [this]
theorem og_oset (o : PO) : ∀ (l : List PO) (k j : Nat), og (oset o l k) j = if j = k ∧ k < l.length then o else og l j
 | [], k, j => by simp [oset, og]
 | x :: l, 0, j => by
  cases j with
  | zero => simp [oset, og]
  | succ j => simp [oset, og, beq_zero_succ]
 | x :: l, k + 1, j => by
  show og (x :: oset o l k) j = _
  cases j with
  | zero => simp [og]
  | succ j =>
   have := og_oset o l k j
   show og (oset o l k) j = _
   rw [this]
   show _ = if j + 1 = k + 1 ∧ k + 1 < (x :: l).length then o else og l j
   simp
theorem oset_self : ∀ (l : List PO) (k : Nat), oset (og l k) l k = l
 | [], _ => rfl
 | x :: l, 0 => rfl
 | x :: l, k + 1 => by
  show x :: oset (og l k) l k = _
  rw [oset_self l k]
theorem og_app (l : List PO) (o : PO) (j : Nat) : og (l ++ [o]) j = if j = l.length then o else og l j := by
 rw [og_eq, og_eq]
 by_cases h : j < l.length
 ·rw [List.getElem?_append_left h, if_neg (by omega)]
 ·rw [List.getElem?_append_right (by omega)]
  by_cases h2 : j = l.length
  ·subst h2; simp
  ·rw [if_neg h2]
   have h3 : j - l.length ≠ 0 := by omega
   obtain ⟨m, hm⟩ := Nat.exists_eq_succ_of_ne_zero h3
   rw [hm]
   simp
   rw [List.getElem?_eq_none (by omega)]
   rfl
theorem og_lt {l : List PO} {k : Nat} (h : og l k ≠ .dead) : k < l.length := by
 rw [og_eq] at h
 by_cases hk : k < l.length
 ·exact hk
 ·exact absurd (by rw [List.getElem?_eq_none (by omega)]; rfl) h
def blk : CVal → Option BN
 | .ptr b _ => some b
 | .slc b _ _ _ _ => some b
 | .map b => some b
 | _ => none
def shN (n : Nat) : Option Nat := match n with | 0 => none | n + 1 => some n
def shK (st : Nat) : Option Nat := shN (Nat.mod (Nat.div st 1024) 1024)
def shV (st : Nat) : Option Nat := shN (Nat.mod st 1024)
def shLen : Option Nat → Nat
 | none => 1
 | some n => n
def atD : List DV → Nat → DV
 | [], _ => .u
 | d :: l, i => bif Nat.beq i 0 then d else atD l (Nat.sub i 1)
def exp (x : List DV) : Nat → Nat → List DV
 | 0, _ => []
 | n + 1, i => atD x i :: exp x n (Nat.succ i)
def shD (sh : Option Nat) (x : List DV) (i : Nat) : DS :=
 match sh with
 | none => .one (atD x i)
 | some n => .agg (exp x n i)
def kD (st : Nat) (x : List DV) : DS := shD (shK st) x 0
def vD (st : Nat) (x : List DV) : DS := shD (shV st) x (shLen (shK st))
structure Nm where
 μ : Nat → CVal
 n : Nat
 fz : BN → Prop
 h : AHeap
def RepCap (N : Nm) : BN × Nat → Nat ⊕ List DV → Prop
 | p, .inl k => k < N.n ∧ N.μ k = .ptr p.1 0 ∧ p.2 = 0
 | p, .inr xs => Rep N.fz N.h (.ptr p.1 p.2) (.fp xs 0)
def RepCaps (N : Nm) : List (BN × Nat) → List (Nat ⊕ List DV) → Prop
 | [], [] => True
 | p :: ps, x :: xs => RepCap N p x ∧ RepCaps N ps xs
 | _, _ => False
def RepPC (N : Nm) (c : CVal) : PC → Prop
 | .d v => Rep N.fz N.h c v
 | .own k => k < N.n ∧ c = N.μ k
 | .ptr k off => k < N.n ∧ ∃ b, N.μ k = .ptr b 0 ∧ c = .ptr b off
 | .ep k st i off => k < N.n ∧ ∃ b l cap ex, N.μ k = .slc b 0 l cap ex ∧ c = .ptr b (i * st + off) ∧ i < l
 | .ip k off len st i o => k < N.n ∧ ∃ b, N.μ k = .ptr b 0 ∧ c = .ptr b (off + i * st + o) ∧ i < len
 | .vw k st lo len => k < N.n ∧ ((N.μ k = .nils ∧ c = .nils ∧ lo = 0 ∧ len = 0) ∨ ∃ b l cap ex cap' ex', N.μ k = .slc b 0 l cap ex ∧ c = .slc b (lo * st) len cap' ex' ∧ lo + len ≤ l ∧ (ex' = true → len ≤ cap'))
 | .clo f caps => ∃ ps, c = .fn f ps ∧ RepCaps N ps caps
def RepPL (N : Nm) : List CVal → List PC → Prop
 | [], [] => True
 | c :: cs, p :: ps => RepPC N c p ∧ RepPL N cs ps
 | _, _ => False
def RepPV (N : Nm) : SVal → PV → Prop
 | .one c, .one p => RepPC N c p
 | .agg cs, .agg ps => RepPL N cs ps
 | _, _ => False
def RepPA (N : Nm) : AVal → PA → Prop
 | _, .bad => True
 | v, .undef => v = aundef
 | .s v, .s p => RepPV N v p
 | .tup l, .tup ds => RepSL N.fz N.h l ds
 | _, _ => False
theorem RepPA.bad {N : Nm} (v : AVal) : RepPA N v .bad := by cases v <;> trivial
theorem RepPA.of {N : Nm} {v : SVal} {p : PV} (H : RepPV N v p) : RepPA N (.s v) (.s p) := H
theorem RepPA.inv {N : Nm} {v : AVal} {p : PV} (H : RepPA N v (.s p)) : ∃ w, v = .s w ∧ RepPV N w p := by
 cases v with
 | s v => exact ⟨_, rfl, H⟩
 | tup l => exact H.elim
def RepO (N : Nm) (k : Nat) : PO → Prop
 | .box cs => ∃ b vs, N.μ k = .ptr b 0 ∧ ¬ N.fz b ∧ N.h.t.get b = some (.cells vs 0) ∧ RepPL N vs cs
 | .arr _ none => N.μ k = .nils
 | .arr st (some xs) => ∃ b vs ex, N.μ k = .slc b 0 xs.length (bif ex then xs.length else 0) ex ∧ ¬ N.fz b ∧ N.h.t.get b = some (.cells vs st) ∧ vs.length = xs.length * st ∧
   ∀ (i : Nat) (x : List DV), xs[i]? = some x → x.length = st ∧ RepL N.fz N.h ((vs.drop (i * st)).take st) x
 | .frz v => Rep N.fz N.h (N.μ k) v
 | .fbox ds => ∃ b, N.μ k = .ptr b 0 ∧ Rep N.fz N.h (.ptr b 0) (.fp ds 0)
 | .mp st xs => ∃ b es, N.μ k = .map b ∧ ¬ N.fz b ∧ N.h.t.get b = some (.map es) ∧ es.length = xs.length ∧
   ∀ (i : Nat) (e : SVal × SVal) (x : List DV), es[i]? = some e → xs[i]? = some x → RepS N.fz N.h e.1 (kD st x) ∧ RepS N.fz N.h e.2 (vD st x)
 | .dead => True
def live : PO → Prop
 | .box _ => True
 | .arr _ (some _) => True
 | .mp _ _ => True
 | _ => False
structure Nx (N N' : Nm) : Prop where
 fg : FG N.fz N.h N'.fz N'.h
 le : N.n ≤ N'.n
 mu : ∀ k, k < N.n → N'.μ k = N.μ k
theorem Nx.refl (N : Nm) : Nx N N := ⟨FG.refl _ _, Nat.le_refl _, fun _ _ => rfl⟩
theorem Nx.trans {A B C : Nm} (a : Nx A B) (b : Nx B C) : Nx A C := ⟨a.fg.trans b.fg, Nat.le_trans a.le b.le, fun k hk => (b.mu k (Nat.lt_of_lt_of_le hk a.le)).trans (a.mu k hk)⟩
section
variable {N N' : Nm} (g : Nx N N')
include g
theorem RepCap.mono {p : BN × Nat} {x : Nat ⊕ List DV} (H : RepCap N p x) : RepCap N' p x := by
 cases x with
 | inl k => exact ⟨Nat.lt_of_lt_of_le H.1 g.le, (g.mu k H.1).trans H.2.1, H.2.2⟩
 | inr xs => exact Rep.mono g.fg H
theorem RepCaps.mono : ∀ {ps : List (BN × Nat)} {xs : List (Nat ⊕ List DV)}, RepCaps N ps xs → RepCaps N' ps xs
 | [], [], _ => trivial
 | _ :: _, _ :: _, H => ⟨RepCap.mono g H.1, RepCaps.mono H.2⟩
 | [], _ :: _, H => H.elim
 | _ :: _, [], H => H.elim
theorem RepPC.mono {c : CVal} {p : PC} (H : RepPC N c p) : RepPC N' c p := by
 cases p with
 | d v => exact Rep.mono g.fg H
 | own k => exact ⟨Nat.lt_of_lt_of_le H.1 g.le, H.2.trans (g.mu k H.1).symm⟩
 | ptr k off => obtain ⟨h1, b, h2, h3⟩ := H; exact ⟨Nat.lt_of_lt_of_le h1 g.le, b, (g.mu k h1).trans h2, h3⟩
 | ep k st i off => obtain ⟨h1, b, l, cap, ex, h2, h3, h4⟩ := H; exact ⟨Nat.lt_of_lt_of_le h1 g.le, b, l, cap, ex, (g.mu k h1).trans h2, h3, h4⟩
 | ip k off len st i o => obtain ⟨h1, b, h2, h3, h4⟩ := H; exact ⟨Nat.lt_of_lt_of_le h1 g.le, b, (g.mu k h1).trans h2, h3, h4⟩
 | vw k st lo len => obtain ⟨h1, h⟩ := H; exact ⟨Nat.lt_of_lt_of_le h1 g.le, by rw [g.mu k h1]; exact h⟩
 | clo f caps => obtain ⟨ps, h1, h2⟩ := H; exact ⟨ps, h1, RepCaps.mono g h2⟩
theorem RepPL.mono : ∀ {cs : List CVal} {ps : List PC}, RepPL N cs ps → RepPL N' cs ps
 | [], [], _ => trivial
 | _ :: _, _ :: _, H => ⟨RepPC.mono g H.1, RepPL.mono H.2⟩
 | [], _ :: _, H => H.elim
 | _ :: _, [], H => H.elim
theorem RepPV.mono {v : SVal} {p : PV} (H : RepPV N v p) : RepPV N' v p := by
 cases v <;> cases p <;> simp only [RepPV] at H ⊢
 ·exact RepPC.mono g H
 ·exact RepPL.mono g H
theorem RepPA.mono {v : AVal} {p : PA} (H : RepPA N v p) : RepPA N' v p := by
 cases p with
 | bad => exact .bad v
 | undef => cases v <;> exact H
 | s p =>
  obtain ⟨w, rfl, h⟩ := H.inv
  exact .of (RepPV.mono g h)
 | tup ds =>
  cases v with
  | s v => exact H.elim
  | tup l => exact RepSL.mono g.fg H
end
theorem RepPL.len {N : Nm} : ∀ {cs : List CVal} {ps : List PC}, RepPL N cs ps → cs.length = ps.length
 | [], [], _ => rfl
 | _ :: _, _ :: _, H => by simp [RepPL.len H.2]
 | [], _ :: _, H => H.elim
 | _ :: _, [], H => H.elim
theorem RepPL.get {N : Nm} : ∀ {cs : List CVal} {ps : List PC}, RepPL N cs ps → ∀ {j : Nat} {c : CVal} {p : PC}, cs[j]? = some c → ps[j]? = some p → RepPC N c p
 | [], [], _, j, c, p, hc, _ => by simp at hc
 | c0 :: cs, p0 :: ps, H, j, c, p, hc, hp => by
  cases j with
  | zero => simp only [List.getElem?_cons_zero, Option.some.injEq] at hc hp; subst hc; subst hp; exact H.1
  | succ j => exact RepPL.get H.2 (j := j) (by simpa using hc) (by simpa using hp)
 | [], _ :: _, H, _, _, _, _, _ => H.elim
 | _ :: _, [], H, _, _, _, _, _ => H.elim
theorem RepPL.of {N : Nm} : ∀ {cs : List CVal} {ps : List PC}, cs.length = ps.length → (∀ (j : Nat) (c : CVal) (p : PC), cs[j]? = some c → ps[j]? = some p → RepPC N c p) → RepPL N cs ps
 | [], [], _, _ => trivial
 | c :: cs, p :: ps, hl, H => ⟨H 0 c p rfl rfl, RepPL.of (by simpa using hl) fun j c p hc hp => H (j + 1) c p (by simpa using hc) (by simpa using hp)⟩
 | [], _ :: _, hl, _ => by simp at hl
 | _ :: _, [], hl, _ => by simp at hl
theorem RepPL.app {N : Nm} : ∀ {cs cs' : List CVal} {ps ps' : List PC}, RepPL N cs ps → RepPL N cs' ps' → RepPL N (cs ++ cs') (ps ++ ps')
 | [], _, [], _, _, H => H
 | _ :: _, _, _ :: _, _, H, K => ⟨H.1, RepPL.app H.2 K⟩
 | [], _, _ :: _, _, H, _ => H.elim
 | _ :: _, _, [], _, H, _ => H.elim
theorem RepPL.take {N : Nm} : ∀ {cs : List CVal} {ps : List PC} (n : Nat), RepPL N cs ps → RepPL N (cs.take n) (ps.take n)
 | _, _, 0, _ => by simp [RepPL]
 | [], [], n + 1, _ => by simp [RepPL]
 | _ :: _, _ :: _, n + 1, H => ⟨H.1, RepPL.take n H.2⟩
 | [], _ :: _, _ + 1, H => H.elim
 | _ :: _, [], _ + 1, H => H.elim
theorem RepPL.drop {N : Nm} : ∀ {cs : List CVal} {ps : List PC} (n : Nat), RepPL N cs ps → RepPL N (cs.drop n) (ps.drop n)
 | _, _, 0, H => H
 | [], [], n + 1, _ => by simp [RepPL]
 | _ :: _, _ :: _, n + 1, H => RepPL.drop n H.2
 | [], _ :: _, _ + 1, H => H.elim
 | _ :: _, [], _ + 1, H => H.elim
theorem RepPL.ofD {N : Nm} {cs : List CVal} {ds : List DV} (H : RepL N.fz N.h cs ds) : RepPL N cs (ds.map .d) :=
 RepPL.of (by simp [H.1]) fun j c p hc hp => by
  simp only [List.getElem?_map, Option.map_eq_some_iff] at hp
  obtain ⟨d, hd, rfl⟩ := hp
  exact H.2 j c d hc hd
structure En where
 h0 : AHeap
 ok : BN → Prop
structure InvO (E : En) (N : Nm) (os : List PO) : Prop where
 hw : HW N.h
 gr : Gr E.h0 N.h
 fzlt : ∀ b, N.fz b → b.toNat < N.h.n.toNat
 fzok : ∀ b, N.fz b → E.ok b ∨ E.h0.n.toNat ≤ b.toNat
 fzex : ∀ b, N.fz b → b.toNat < E.h0.n.toNat ∨ ∃ y, N.h.t.get b = some y
 len : N.n = os.length
 own : ∀ k b, live (og os k) → blk (N.μ k) = some b → E.h0.n.toNat ≤ b.toNat
 inj : ∀ k k' b, live (og os k) → live (og os k') → blk (N.μ k) = some b → blk (N.μ k') = some b → k = k'
 obj : ∀ k, RepO N k (og os k)
theorem live_blk {N : Nm} {k : Nat} {o : PO} (hl : live o) (H : RepO N k o) : ∃ b x, blk (N.μ k) = some b ∧ ¬ N.fz b ∧ N.h.t.get b = some x := by
 cases o with
 | box cs => obtain ⟨b, vs, h1, h2, h3, _⟩ := H; exact ⟨b, _, by rw [h1]; rfl, h2, h3⟩
 | arr st v =>
  cases v with
  | none => exact hl.elim
  | some xs => obtain ⟨b, vs, ex, h1, h2, h3, _⟩ := H; exact ⟨b, _, by rw [h1]; rfl, h2, h3⟩
 | mp st xs => obtain ⟨b, es, h1, h2, h3, _⟩ := H; exact ⟨b, _, by rw [h1]; rfl, h2, h3⟩
 | _ => exact hl.elim
theorem RepO.mono {N N' : Nm} {k : Nat} {o : PO} (g : Nx N N') (hk : N'.μ k = N.μ k) (hb : live o → ∀ b, blk (N.μ k) = some b → ¬ N'.fz b ∧ N'.h.t.get b = N.h.t.get b) (H : RepO N k o) : RepO N' k o := by
 cases o with
 | box cs =>
  obtain ⟨b, vs, h1, h2, h3, h4⟩ := H
  obtain ⟨k1, k2⟩ := hb trivial b (by rw [h1]; rfl)
  exact ⟨b, vs, hk.trans h1, k1, k2.trans h3, h4.mono g⟩
 | arr st v =>
  cases v with
  | none => exact hk.trans H
  | some xs =>
   obtain ⟨b, vs, ex, h1, h2, h3, h4, h5⟩ := H
   obtain ⟨k1, k2⟩ := hb trivial b (by rw [h1]; rfl)
   exact ⟨b, vs, ex, hk.trans h1, k1, k2.trans h3, h4, fun i x hx => ⟨(h5 i x hx).1, (h5 i x hx).2.mono g.fg⟩⟩
 | frz v => show Rep _ _ _ _; rw [hk]; exact Rep.mono g.fg H
 | fbox ds => obtain ⟨b, h1, h2⟩ := H; exact ⟨b, hk.trans h1, h2.mono g.fg⟩
 | mp st xs =>
  obtain ⟨b, es, h1, h2, h3, h4, h5⟩ := H
  obtain ⟨k1, k2⟩ := hb trivial b (by rw [h1]; rfl)
  exact ⟨b, es, hk.trans h1, k1, k2.trans h3, h4, fun i e x he hx => ⟨(h5 i e x he hx).1.mono g.fg, (h5 i e x he hx).2.mono g.fg⟩⟩
 | dead => trivial
def upd (μ : Nat → CVal) (k : Nat) (c : CVal) : Nat → CVal := fun j => if j = k then c else μ j
theorem InvO.new {E : En} {N : Nm} {os : List PO} (I : InvO E N os) (x : AObj) (o : PO) (c : CVal) (hc : blk c = some N.h.n)
  (ho : RepO ⟨upd N.μ os.length c, os.length + 1, N.fz, N.h.new x⟩ os.length o) :
  InvO E ⟨upd N.μ os.length c, os.length + 1, N.fz, N.h.new x⟩ (os ++ [o]) ∧ Nx N ⟨upd N.μ os.length c, os.length + 1, N.fz, N.h.new x⟩ ∧
   (∀ b y, N.h.t.get b = some y → (N.h.new x).t.get b = some y) := by
 have G := Gr.new N.h x
 have old : ∀ b y, N.h.t.get b = some y → (N.h.new x).t.get b = some y := fun b y hy => G.get I.hw hy
 have nx : Nx N ⟨upd N.μ os.length c, os.length + 1, N.fz, N.h.new x⟩ := ⟨⟨fun _ _ h _ => h, fun b y _ hy => old b y hy⟩, by have := I.len; show N.n ≤ os.length + 1; omega, fun k hk => by
  have := I.len
  show (if k = os.length then c else N.μ k) = _
  rw [if_neg (by omega)]⟩
 have mu : ∀ k, k ≠ os.length → upd N.μ os.length c k = N.μ k := fun k hk => by show (if k = os.length then c else N.μ k) = _; rw [if_neg hk]
 have muL : upd N.μ os.length c os.length = c := by show (if os.length = os.length then c else _) = _; rw [if_pos rfl]
 have lt : ∀ k b, live (og os k) → blk (N.μ k) = some b → b.toNat < N.h.n.toNat := fun k b hl hb => by
  obtain ⟨b', x', h1, _, h3⟩ := live_blk hl (I.obj k)
  rw [h1] at hb; cases hb
  exact I.hw _ _ h3
 refine ⟨⟨I.hw.new x, I.gr.trans G, fun b hb => Nat.lt_of_lt_of_le (I.fzlt b hb) G.le, I.fzok, fun b hb => (I.fzex b hb).imp id fun ⟨y, hy⟩ => ⟨y, old b y hy⟩, by simp, ?_, ?_, ?_⟩, nx, old⟩
 ·intro k b hl hb
  rw [og_app] at hl
  by_cases hk : k = os.length
  ·subst hk
   rw [show (Nm.mk (upd N.μ os.length c) (os.length + 1) N.fz (N.h.new x)).μ os.length = c from muL, hc] at hb
   cases hb
   exact I.gr.le
  ·rw [if_neg hk] at hl
   rw [show (Nm.mk (upd N.μ os.length c) (os.length + 1) N.fz (N.h.new x)).μ k = N.μ k from mu k hk] at hb
   exact I.own k b hl hb
 ·intro k k' b hl hl' hb hb'
  rw [og_app] at hl hl'
  simp only at hb hb'
  by_cases hk : k = os.length <;> by_cases hk' : k' = os.length
  ·rw [hk, hk']
  ·subst hk
   rw [muL, hc] at hb
   rw [if_neg hk'] at hl'
   rw [mu k' hk'] at hb'
   cases hb
   have := lt k' _ hl' hb'
   omega
  ·subst hk'
   rw [muL, hc] at hb'
   rw [if_neg hk] at hl
   rw [mu k hk] at hb
   cases hb'
   have := lt k _ hl hb
   omega
  ·rw [if_neg hk] at hl
   rw [if_neg hk'] at hl'
   rw [mu k hk] at hb
   rw [mu k' hk'] at hb'
   exact I.inj k k' b hl hl' hb hb'
 ·intro k
  rw [og_app]
  by_cases hk : k = os.length
  ·rw [if_pos hk, hk]; exact ho
  ·rw [if_neg hk]
   refine (I.obj k).mono nx (mu k hk) fun hl b hb => ?_
   obtain ⟨b', x', h1, h2, h3⟩ := live_blk hl (I.obj k)
   rw [h1] at hb; cases hb
   exact ⟨h2, (old _ _ h3).trans h3.symm⟩
theorem InvO.put {E : En} {N : Nm} {os : List PO} (I : InvO E N os) {k : Nat} (hl : live (og os k)) {b : BN} (hb : blk (N.μ k) = some b) (x : AObj) (o : PO)
  (ho : RepO ⟨N.μ, N.n, N.fz, N.h.put b x⟩ k o) : InvO E ⟨N.μ, N.n, N.fz, N.h.put b x⟩ (oset o os k) ∧ Nx N ⟨N.μ, N.n, N.fz, N.h.put b x⟩ ∧ (∀ b' y, N.h.t.get b' = some y → b' ≠ b → (N.h.put b x).t.get b' = some y) := by
 obtain ⟨b0, x0, h1, h2, h3⟩ := live_blk hl (I.obj k)
 rw [h1] at hb; cases hb
 have hk : k < os.length := og_lt (by intro e; rw [e] at hl; exact hl)
 have old : ∀ b' y, N.h.t.get b' = some y → b' ≠ b → (N.h.put b x).t.get b' = some y := fun b' y hy hne => by rw [put_other _ _ hne]; exact hy
 have nx : Nx N ⟨N.μ, N.n, N.fz, N.h.put b x⟩ := ⟨⟨fun _ _ h _ => h, fun b' y hf hy => old b' y hy (fun e => h2 (e ▸ hf))⟩, Nat.le_refl _, fun _ _ => rfl⟩
 refine ⟨⟨HW.put I.hw h3, I.gr.put (I.own k b hl h1), I.fzlt, I.fzok, fun b' hb' => (I.fzex b' hb').imp id fun ⟨y, hy⟩ => ⟨y, old b' y hy (fun e => h2 (e ▸ hb'))⟩, I.len.trans (oset_len o os k).symm, ?_, ?_, ?_⟩, nx, old⟩
 ·intro j b' hl' hb'
  by_cases hj : j = k
  ·subst hj; exact I.own j b' hl hb'
  ·rw [og_oset, if_neg (fun e => hj e.1)] at hl'
   exact I.own j b' hl' hb'
 ·intro j j' b' hl1 hl2 hb1 hb2
  have t : ∀ i, live (og (oset o os k) i) → live (og os i) := fun i hi => by
   by_cases hj : i = k
   ·subst hj; exact hl
   ·rwa [og_oset, if_neg (fun e => hj e.1)] at hi
  exact I.inj j j' b' (t j hl1) (t j' hl2) hb1 hb2
 ·intro j
  by_cases hj : j = k
  ·subst hj; rw [og_oset, if_pos ⟨rfl, hk⟩]; exact ho
  ·rw [og_oset, if_neg (fun e => hj e.1)]
   refine (I.obj j).mono nx rfl fun hlj b' hb' => ?_
   obtain ⟨b1, x1, k1, k2, k3⟩ := live_blk hlj (I.obj j)
   rw [k1] at hb'; cases hb'
   have hne : b' ≠ b := fun e => hj (I.inj j k b' hlj hl k1 (by rw [e]; exact h1))
   exact ⟨k2, put_other _ _ hne⟩
theorem InvO.freeze {E : En} {N : Nm} {os : List PO} (I : InvO E N os) {k : Nat} (hl : live (og os k)) {b : BN} (hb : blk (N.μ k) = some b) (o : PO) (hno : ¬ live o)
  (ho : RepO ⟨N.μ, N.n, fun b' => N.fz b' ∨ b' = b, N.h⟩ k o) : InvO E ⟨N.μ, N.n, fun b' => N.fz b' ∨ b' = b, N.h⟩ (oset o os k) ∧ Nx N ⟨N.μ, N.n, fun b' => N.fz b' ∨ b' = b, N.h⟩ := by
 obtain ⟨b0, x0, h1, h2, h3⟩ := live_blk hl (I.obj k)
 rw [h1] at hb; cases hb
 have hk : k < os.length := og_lt (by intro e; rw [e] at hl; exact hl)
 have nx : Nx N ⟨N.μ, N.n, fun b' => N.fz b' ∨ b' = b, N.h⟩ := ⟨⟨fun _ _ h _ => .inl h, fun _ _ _ hy => hy⟩, Nat.le_refl _, fun _ _ => rfl⟩
 have t : ∀ i, live (og (oset o os k) i) → i ≠ k ∧ live (og os i) := fun i hi => by
  by_cases hj : i = k
  ·subst hj; rw [og_oset, if_pos ⟨rfl, hk⟩] at hi; exact (hno hi).elim
  ·rw [og_oset, if_neg (fun e => hj e.1)] at hi; exact ⟨hj, hi⟩
 refine ⟨⟨I.hw, I.gr, fun b' hb' => hb'.elim (I.fzlt b') (fun e => by rw [e]; exact I.hw _ _ h3), fun b' hb' => hb'.elim (I.fzok b') (fun e => .inr (by rw [e]; exact I.own k b hl h1)), fun b' hb' => hb'.elim (I.fzex b') (fun e => .inr ⟨x0, by rw [e]; exact h3⟩), I.len.trans (oset_len o os k).symm, ?_, ?_, ?_⟩, nx⟩
 ·intro j b' hl' hb'; exact I.own j b' (t j hl').2 hb'
 ·intro j j' b' hl1 hl2 hb1 hb2; exact I.inj j j' b' (t j hl1).2 (t j' hl2).2 hb1 hb2
 ·intro j
  by_cases hj : j = k
  ·subst hj; rw [og_oset, if_pos ⟨rfl, hk⟩]; exact ho
  ·rw [og_oset, if_neg (fun e => hj e.1)]
   refine (I.obj j).mono nx rfl fun hlj b' hb' => ?_
   obtain ⟨b1, x1, k1, k2, k3⟩ := live_blk hlj (I.obj j)
   rw [k1] at hb'; cases hb'
   exact ⟨fun e => e.elim k2 (fun e => hj (I.inj j k b' hlj hl k1 (by rw [e]; exact h1))), rfl⟩
theorem InvO.turn {E : En} {N : Nm} {os : List PO} (I : InvO E N os) (k : Nat) (o : PO) (hno : ¬ live o) (ho : RepO N k o) : InvO E N (oset o os k) := by
 have t : ∀ i, live (og (oset o os k) i) → live (og os i) := fun i hi => by
  rw [og_oset] at hi
  split at hi
  ·exact (hno hi).elim
  ·exact hi
 refine ⟨I.hw, I.gr, I.fzlt, I.fzok, I.fzex, I.len.trans (oset_len o os k).symm, fun j b' hl' hb' => I.own j b' (t j hl') hb', fun j j' b' hl1 hl2 hb1 hb2 => I.inj j j' b' (t j hl1) (t j' hl2) hb1 hb2, fun j => ?_⟩
 rw [og_oset]
 split
 ·rename_i e; rw [e.1]; exact ho
 ·exact I.obj j
theorem InvO.grow {E : En} {N : Nm} {os : List PO} (I : InvO E N os) {h' : AHeap} (hw : HW h') (G : Gr N.h h') :
  InvO E ⟨N.μ, N.n, fun b => N.fz b ∨ (N.h.n.toNat ≤ b.toNat ∧ ∃ y, h'.t.get b = some y), h'⟩ os ∧ Nx N ⟨N.μ, N.n, fun b => N.fz b ∨ (N.h.n.toNat ≤ b.toNat ∧ ∃ y, h'.t.get b = some y), h'⟩ := by
 have nx : Nx N ⟨N.μ, N.n, fun b => N.fz b ∨ (N.h.n.toNat ≤ b.toNat ∧ ∃ y, h'.t.get b = some y), h'⟩ := ⟨⟨fun _ _ h _ => .inl h, fun b y _ hy => G.get I.hw hy⟩, Nat.le_refl _, fun _ _ => rfl⟩
 refine ⟨⟨hw, I.gr.trans G, fun b hb => hb.elim (fun h => Nat.lt_of_lt_of_le (I.fzlt b h) G.le) (fun h => by obtain ⟨_, y, hy⟩ := h; exact hw b y hy), fun b hb => hb.elim (I.fzok b) (fun h => .inr (Nat.le_trans I.gr.le h.1)), fun b hb => hb.elim (fun h => (I.fzex b h).imp id fun ⟨y, hy⟩ => ⟨y, G.get I.hw hy⟩) (fun h => .inr h.2), I.len, I.own, I.inj, fun k => ?_⟩, nx⟩
 refine (I.obj k).mono nx rfl fun hl b hb => ?_
 obtain ⟨b', x', h1, h2, h3⟩ := live_blk hl (I.obj k)
 rw [h1] at hb; cases hb
 exact ⟨fun e => e.elim h2 (fun e => absurd (I.hw _ _ h3) (by omega)), (G.get I.hw h3).trans h3.symm⟩
end Go.PE
end
