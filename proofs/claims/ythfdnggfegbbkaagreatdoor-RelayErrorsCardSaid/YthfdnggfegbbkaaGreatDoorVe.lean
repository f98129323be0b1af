/-
  Lemmas: PEt, PEm, PEn, PEna, PEu, PEv, PEw, PEx, PEy, PEz. No condition.
-/
import Derived.Test.YthfdnggfegbbkaaGreatDoorVd
section
namespace Go.PE
open Go Go.CE
section
variable {P : Program} {O : Orc} {C : Nat → zh} {E : En}
theorem MkOk.up {n0 len i : Nat} {mk : List (Nat × Nat)} {N : Nm} {os : List PO} (M : MkOk E n0 len i mk N os) : MkOk E n0 len (Nat.succ i) mk N os :=
 ⟨M.e0, M.top, fun p hp => ⟨Nat.lt_succ_of_lt (M.mks p hp).1, (M.mks p hp).2⟩, fun j hj h => M.free j hj (by omega), M.all⟩
theorem zto {ops : Array Oper} {bs : List Nat} {i : Nat} {mk : List (Nat × Nat)} {n0 : Nat} {N : Nm} {os : List PO} (_M : MkOk E n0 ops.toList.length i mk N os) (hm : ∀ p ∈ mk, ∃ o, ops.toList[p.1]? = some o ∧ mkOp o.op = true) :
  HdOk bs i ops.toList.length mk (yv bs i 0 ops.toList) := by
 refine ⟨zaZ _ _, fun j hj => ?_, fun j k hjk => ?_⟩
 ·obtain ⟨m, o, h1, h2, _⟩ := (wN _ _ _).1 hj;have := (Lz0.1 h1).1;omega
 ·obtain ⟨o, h1, h2⟩ := hm _ hjk;rw [wN]
  constructor
  ·rintro ⟨m, o', g1, g2, g3⟩
   have : m = j := by omega
   subst this;rw [h1] at g1; cases g1;rw [Nat.zero_add, h2, Bool.true_and] at g3;exact g3
  ·intro hb;exact ⟨j, o, h1, by omega, by rw [Nat.zero_add, hb, Bool.and_false]⟩
theorem PendOk2.up {S X : List Sn} {n0 : Nat} {mk mk' : List (Nat × Nat)} {mks mks' : List (Nat × Nat × AObj)} {ps ps' : List (Nat × Nat × List Nat)} (hps : ∀ p ∈ ps, p ∈ ps') (hmk : ∀ p ∈ mk, p ∈ mk') (hmks : ∀ p ∈ mks, p ∈ mks') {q : CkG} (h : PendOk2 S n0 mk mks ps q) : PendOk2 (S ++ X) n0 mk' mks' ps' q := by
 rcases h with g | g | ⟨rd', g1, ne, b, A, Al, a1, a2, a3, a4, a5⟩ | ⟨k, z, g1, g2, g3, g4⟩
 ·exact .inl g
 ·exact .inr (.inl g)
 ·refine .inr (.inr (.inl ⟨rd', hps _ g1, ne, b, A, Al, a1, a2, ?_, ?_, a5⟩))
  ·rw [Lz2 (Lz0.1 a3).1]; exact a3
  ·rw [Lz2 (Lz0.1 a4).1]; exact a4
 ·exact .inr (.inr (.inr ⟨k, z, hps _ g1, hmks _ g2, hmk _ g3, g4⟩))
theorem zcS (hO : jj O C) {β γ : Type} {Q : γ → Prop} {lk : Nat → Bool} {nt : Nat} {ops : Array Oper} {bs : List Nat} {es : List Bool} {n0 : Nat} {x : β} {K : (Nat → PA) → List PO → Option β} {kk : Nat → Fr → AHeap → Option γ} :
    ∀ (l : List Oper) (i : Nat) (ρ : Nat → PA) (os : List PO) (N : Nm) (r : Fr) (bo : Nat → Nat) (ws : List (List Nat)) (ps : List (Nat × Nat × List Nat)) (mk : List (Nat × Nat)) (fr : Bool) (S : List Sn) (cs : Nat → List CkG) (mks : List (Nat × Nat × AObj)),
    pDr2 P O lk nt ops bs es i l ρ os bo ws ps mk fr K = some x → InvO E N os → (∀ i, RepPA N (r i) (ρ i)) → (∀ j, lk j = true → j < os.length) →
    (∃ pre, ops.toList = pre ++ l ∧ pre.length = i) → MkOk E n0 ops.toList.length i mk N os → (∀ p ∈ mk, ∃ o, ops.toList[p.1]? = some o ∧ mkOp o.op = true) →
    S.length = ws.length + 1 → znb E S ws → (∀ A ∈ S, InvO E A.1 A.2) → (∀ A ∈ S, ∀ j, j < ops.toList.length → i ≤ j → A.1.h.t.get (nm n0 j) = none) →
    (∃ A, S[ws.length]? = some A ∧ Aft A.1 A.2 [] N os ∧ (∀ k b, A.1.n ≤ k → k < N.n → blk (N.μ k) = some b → A.1.h.t.get b = none) ∧ (fr = true → FG N.fz N.h A.1.fz A.1.h)) →
    (∀ s, bo s ≤ ws.length + 1 ∧ ∀ A : Sn, S[bo s]? = some A → RepPA A.1 (r s) (ρ s)) →
    (∀ y ∈ mks, y.1 ≤ ws.length ∧ ∀ e A, e ≤ y.1 → S[e]? = some A → A.1.h.t.get (nm n0 y.2.1) = none) → MV n0 i ws S N mk mks → (∀ n, ∀ q ∈ cs n, PendOk2 S n0 mk mks ps q) →
    (∀ ρ' os' N' r', K ρ' os' = some x → InvO E N' os' → (∀ i, RepPA N' (r' i) (ρ' i)) → Nx N N' → (∀ j, lk j = true → og os' j = og os j) → (∀ i, i ∉ l.filterMap (·.dst) → r' i = r i) → Ev (fun n => kk n r' N'.h) Q) →
    Ev (fun n => kDr2 P nt ops (C n) bs es n0 i l r N.h ws.length (S.map fun x => x.1.h) (cs n) mks (kk n)) Q
  | [], i, ρ, os, N, r, bo, ws, ps, mk, fr, S, cs, mks, e, I, F, hlk, sfx, M, hmo, hl, ch, hi, hf, la, sl, hms, mv, pe, H => by
    simp only [pDr2] at e;cases hps : (ps.all fun p => okW ws p.1 p.2.1 p.2.2) with
    | false => rw [hps] at e; cases e
    | true =>
      rw [hps] at e;have run : ∀ n, kDr2 P nt ops (C n) bs es n0 i [] r N.h ws.length (S.map fun x => x.1.h) (cs n) mks (kk n) = kk n r N.h := fun n => by
        simp only [kDr2];rw [zk3 hl ch hi (fun y hy => (hms y hy).2) mv hps (pe n), cond_true]
      simp only [run];exact H ρ os N r e I F (.refl N) (fun _ _ => rfl) (fun _ _ => rfl)
  | o :: l, i, ρ, os, N, r, bo, ws, ps, mk, fr, S, cs, mks, e, I, F, hlk, sfx, M, hmo, hl, ch, hi, hf, la, sl, hms, mv, pe, H => by
    have agree : ∀ (r2 : Fr) (v : AVal), (∀ i, i ∉ l.filterMap (·.dst) → r2 i = fset r v o.dst i) → ∀ i, i ∉ (o :: l).filterMap (·.dst) → r2 i = r i := fun r2 v hr i hi => by
      simp only [List.filterMap_cons] at hi;rw [hr i (fun hm => hi (by cases o.dst <;> simp [hm]))]
      exact xF (fun hd => hi (by rw [hd]; simp))
    have FR := zji F (o.looksAt ops);obtain ⟨pre, hpre, hprel⟩ := sfx;have sfx' : ∃ pre, ops.toList = pre ++ l ∧ pre.length = Nat.succ i := ⟨pre ++ [o], by rw [hpre]; simp, by simp [hprel]⟩
    have hop : ops.toList[i]? = some o := by rw [hpre, ← hprel, Lz8 (LzB _), Nat.sub_self]; rfl
    have hilt : i < ops.toList.length := (Lz0.1 hop).1;obtain ⟨A, eA, aA, nA, gA⟩ := la;have hf' : ∀ A ∈ S, ∀ j, j < ops.toList.length → Nat.succ i ≤ j → A.1.h.t.get (nm n0 j) = none := fun A hA j hj h => hf A hA j hj (by omega)
    simp only [pDr2] at e;simp only [kDr2];cases hm : mkOp o.op with
    | true =>
      rw [hm] at e;simp only [cond_true] at e ⊢;cases hc : comp P o.op with
      | none => rw [hc] at e; cases e
      | some ko =>
        cases hg : o.guard with
        | some g => rw [hc, hg] at e; cases e
        | none =>
          rw [hc, hg] at e;simp only at e;cases hk : mkK ko with
          | false => rw [hk] at e; cases e
          | true =>
            rw [hk] at e;cases hT : inT nt o.dst with
            | false => rw [hT] at e; cases e
            | true =>
              rw [hT] at e;simp only [Bool.and_self, cond_true] at e;obtain ⟨a, os1, ob, N1, e1, f1, S1, hlen1, hN1, hob, vf, y, hvf, run, fin⟩ := zq0 hk I FR e;have e1 : (bif jP mk (os1 ++ [ob]) then pDr2 P O lk nt ops bs es (Nat.succ i) l (pset ρ a o.dst) (os1 ++ [ob]) (bset bo (Nat.succ ws.length) o.dst) ws ps (mk ++ [(i, os.length)]) (fr && soft ko) K else none) = some x := e1
              cases hal : jP mk (os1 ++ [ob]) with
              | false => rw [hal] at e1; cases e1
              | true =>
                rw [hal] at e1;simp only [cond_true] at e1
                let b : BN := nm n0 i
                have hbt : b.toNat = n0 + i := yl _ _;have hbn : N1.h.t.get b = none := by rw [f1.h]; exact M.free i hilt (LzB _)
                have hE : E.h0.n.toNat ≤ b.toNat := by have := M.e0; omega
                have hnf : ¬ N1.fz b := fun h => by
                  rcases S1.inv.fzex b h with h | ⟨z, hz⟩
                  · have := M.e0; omega
                  · rw [hbn] at hz; cases hz
                obtain ⟨I2, A2⟩ := S1.inv.newAt (b := b) (by rw [f1.h]; have := M.top; omega) hbn hE hnf y ob (vf b) (hvf b) fun N' nx hmu hf hgt hlt => (fin b N' nx hmu hf hgt hlt).1
                let N2 : Nm := ⟨upd N1.μ os1.length (vf b), os1.length + 1, N1.fz, ⟨N1.h.n, N1.h.t.set b y⟩⟩
                have mu2 : ∀ k, k ≠ os1.length → N2.μ k = N1.μ k := fun k hk => by show (if k = os1.length then vf b else N1.μ k) = _; rw [if_neg hk]
                have muL : N2.μ os1.length = vf b := by show (if os1.length = os1.length then vf b else _) = _; rw [if_pos rfl]
                have hval := (fin b N2 A2.nx muL hnf (zx _ _ _) (Nat.lt_succ_self _)).2;have hN : N.n = os1.length := by rw [hlen1]; exact I.len
                have A1 : Aft N os [] N1 os1 := S1.aft I.hw;have A12 : Aft N os [] N2 (os1 ++ [ob]) := A1.trans (fun k b' h1 h2 _ => by rw [f1.n] at h2; omega) A2
                have step : ∀ n, CE.bindR (yh P nt ops o (C n) (zK r (o.looksAt ops)) ⟨bn (Nat.add n0 i), N.h.t⟩) (fun v h' => kDr2 P nt ops (C n) bs es n0 (Nat.succ i) l (fset r v o.dst) ⟨N.h.n, h'.t⟩ ws.length (S.map fun x => x.1.h) (cs n) (mks ++ mk1 n0 ws.length i h'.t) (kk n)) =
                    kDr2 P nt ops (C n) bs es n0 (Nat.succ i) l (fset r (.s (.one (vf b))) o.dst) N2.h ws.length (S.map fun x => x.1.h) (cs n) (mks ++ [(ws.length, i, y)]) (kk n) := fun n => by
                  have hr : yh P nt ops o (C n) (zK r (o.looksAt ops)) ⟨bn (Nat.add n0 i), N.h.t⟩ = some (.s (.one (vf b)), (⟨b, N.h.t⟩ : AHeap).new y) := by
                    unfold yh;rw [hT, hg];exact (zb5 P _ _ _ hc).trans (run _ b N.h.t)
                  rw [hr];simp only [CE.bindR];have h1 : ((⟨b, N.h.t⟩ : AHeap).new y).t = N.h.t.set b y := rfl;have h2 : mk1 n0 ws.length i (N.h.t.set b y) = [(ws.length, i, y)] := by
                    unfold mk1;rw [show bn (Nat.add n0 i) = b from rfl, zx]
                  rw [h1, h2];show kDr2 P nt ops (C n) bs es n0 (Nat.succ i) l _ ⟨N.h.n, N.h.t.set b y⟩ _ _ _ _ _ = kDr2 P nt ops (C n) bs es n0 (Nat.succ i) l _ ⟨N1.h.n, N1.h.t.set b y⟩ _ _ _ _ _;rw [f1.h]
                simp only [step];have hmkl : ∀ p ∈ mk, live (og (os1 ++ [ob]) p.2) := fun p hp => zen (by
                  unfold jP at hal;rw [List.all_eq_true] at hal;exact hal p hp)
                refine zcS hO l (Nat.succ i) _ (os1 ++ [ob]) N2 _ _ ws ps (mk ++ [(i, os.length)]) _ S cs (mks ++ [(ws.length, i, y)]) e1 I2 (zbt (fun s => (F s).mono A12.nx) hval o.dst) (fun j hj => ?_) sfx' ⟨M.e0, ?_, fun p hp => ?_, fun j hj hij => ?_, fun j z hj hz => ?_⟩ (fun p hp => ?_)
                  hl ch hi hf' ⟨A, eA, aA.trans nA A12, fun k b' h1 h2 h3 => ?_, fun hfr => ?_⟩ (fun s => ?_) (fun z hz => ?_) ⟨fun z hz k hzk => ?_, fun z hz => ?_, fun z hz z' hz' he => ?_, fun p hp => ?_⟩ (fun n q hq => by have := (pe n q hq).up (X := []) (ps' := ps) (mk' := mk ++ [(i, os.length)]) (mks' := mks ++ [(ws.length, i, y)]) (fun _ h => h) (fun _ h => List.mem_append_left _ h) (fun _ h => List.mem_append_left _ h); rwa [List.append_nil] at this) fun ρ2 os2 N3 r2 k1 k2 k3 k4 k5 k6 => H ρ2 os2 N3 r2 k1 k2 k3 (A12.nx.trans k4) (fun j hj => (k5 j hj).trans ?_) (agree r2 _ k6)
                · have := hlk j hj; simp; omega
                · show _ ≤ N1.h.n.toNat; rw [f1.h]; exact M.top
                · rcases List.mem_append.1 hp with hp1 | hp1
                  · obtain ⟨q1, q2, q3, q4, q5⟩ := M.mks p hp1
                    refine ⟨by omega, q2, by show p.2 < os1.length + 1; omega, hmkl p hp1, ?_⟩
                    rw [mu2 p.2 (by omega), f1.μ]; exact q5
                  · rw [List.mem_singleton] at hp1
                    subst hp1;refine ⟨Nat.lt_succ_self i, hilt, by show os.length < os1.length + 1; omega, ?_, ?_⟩
                    · show live (og (os1 ++ [ob]) os.length)
                      rw [wm, if_pos hlen1.symm]; exact hob
                    · show blk (N2.μ os.length) = some b
                      rw [← hlen1, muL]; exact hvf b
                · show (N1.h.t.set b y).get (nm n0 j) = none
                  rw [zn _ _ _ _ (fun e => by have := wU e; omega), f1.h]
                  exact M.free j hj (by omega)
                · by_cases hji : j = i
                  · exact ⟨os.length, by rw [hji]; simp⟩
                  · have hz : (N1.h.t.set b y).get (nm n0 j) = some z := hz
                    rw [zn _ _ _ _ (fun e => hji (wU e)), f1.h] at hz
                    obtain ⟨k, hk⟩ := M.all j z hj hz;exact ⟨k, List.mem_append_left _ hk⟩
                · rcases List.mem_append.1 hp with hp1 | hp1
                  · exact hmo p hp1
                  · rw [List.mem_singleton] at hp1
                    subst hp1;exact ⟨o, hop, hm⟩
                · by_cases hko : k = os1.length
                  · rw [hko, muL, hvf b] at h3
                    cases h3;exact hf A (Lz3 eA) i hilt (LzB _)
                  · have h2 : k < os1.length + 1 := h2
                    rw [mu2 k hko, f1.μ] at h3;exact nA k b' h1 (by omega) h3
                · rw [LzC] at hfr
                  have hNN := hN1 hfr.2;have g := gA hfr.1;have up : ∀ b' z, N2.fz b' → N2.h.t.get b' = some z → N.fz b' ∧ N.h.t.get b' = some z := fun b' z h1 h2 => by
                    have h1 : N1.fz b' := h1;have h2 : (N1.h.t.set b y).get b' = some z := h2;have hbb : b' ≠ b := fun e => hnf (by rw [← e]; exact h1)
                    rw [zn _ _ _ _ hbb] at h2;rw [hNN] at h1 h2;exact ⟨h1, h2⟩
                  exact ⟨fun b' z h1 h2 => g.sub b' z (up b' z h1 h2).1 (up b' z h1 h2).2, fun b' z h1 h2 => g.old b' z (up b' z h1 h2).1 (up b' z h1 h2).2⟩
                · cases hd : o.dst with
                  | none => exact sl s
                  | some d =>
                    show (bif Nat.beq s d then Nat.succ ws.length else bo s) ≤ ws.length + 1 ∧ ∀ A : Sn, S[bif Nat.beq s d then Nat.succ ws.length else bo s]? = some A → RepPA A.1 (bif Nat.beq s d then AVal.s (.one (vf b)) else r s) (bif Nat.beq s d then a else ρ s)
                    cases Nat.beq s d with
                    | false => exact sl s
                    | true => exact ⟨LzB _, fun A hA => by have := (Lz0.1 hA).1; simp at this; omega⟩
                · rcases List.mem_append.1 hz with hz1 | hz1
                  · exact hms z hz1
                  · rw [List.mem_singleton] at hz1
                    subst hz1;exact ⟨LzB _, fun e A he hA => hf A (Lz3 hA) i hilt (LzB _)⟩
                · rcases List.mem_append.1 hz with hz1 | hz1
                  · have hzi := mv.lt z hz1
                    have hzk2 : (z.2.1, k) ∈ mk := by
                      rcases List.mem_append.1 hzk with h | h
                      · exact h
                      · rw [List.mem_singleton] at h
                        have : z.2.1 = i := congrArg Prod.fst h;omega
                    obtain ⟨g1, g2⟩ := mv.val z hz1 k hzk2;refine ⟨g1, fun hnw => ?_⟩
                    show (N1.h.t.set b y).get (nm n0 z.2.1) = _;rw [zn _ _ _ _ (fun e => by have := wU e; omega), f1.h]
                    exact g2 hnw
                  · rw [List.mem_singleton] at hz1
                    subst hz1;refine ⟨fun e A he hA => ?_, fun _ => zx _ _ _⟩
                    have := (Lz0.1 hA).1;have he : ws.length < e := he;omega
                · rcases List.mem_append.1 hz with hz1 | hz1
                  · exact Nat.lt_succ_of_lt (mv.lt z hz1)
                  · rw [List.mem_singleton] at hz1; subst hz1; exact Nat.lt_succ_self i
                · rcases List.mem_append.1 hz with hz1 | hz1 <;> rcases List.mem_append.1 hz' with hz2 | hz2
                  · exact mv.uniq z hz1 z' hz2 he
                  · rw [List.mem_singleton] at hz2; subst hz2
                    have := mv.lt z hz1;have he : z.2.1 = i := he;omega
                  · rw [List.mem_singleton] at hz1; subst hz1
                    have := mv.lt z' hz2;have he : i = z'.2.1 := he;omega
                  · rw [List.mem_singleton] at hz1 hz2; rw [hz1, hz2]
                · rcases List.mem_append.1 hp with hp1 | hp1
                  · obtain ⟨z, h1, h2⟩ := mv.ex p hp1
                    exact ⟨z, List.mem_append_left _ h1, h2⟩
                  · rw [List.mem_singleton] at hp1; subst hp1
                    exact ⟨_, List.mem_append_right _ (List.mem_singleton_self _), rfl⟩
                · have := hlk j hj
                  rw [wm, if_neg (by omega)]
                  exact S1.lock j hj
    | false =>
      rw [hm] at e;simp only [cond_false] at e ⊢;have D : HdOk bs i ops.toList.length mk (yv bs i 0 ops.toList) := zto M hmo;have IH := zha M I D;have nxH := zfK M I D;have FH : ∀ s, RepPA (uK n0 (yv bs i 0 ops.toList) N) (zK r (o.looksAt ops) s) (zN ρ (o.looksAt ops) s) := fun s => (FR s).mono nxH
      have hlenH : (uo bs i mk os).length = os.length := vF mk os;cases ha : anchor P o.op with
      | true =>
        rw [ha] at e;simp only [cond_true] at e ⊢;obtain ⟨ref, a, os1, wr, rd, e1, F1, ev⟩ := zcO hO IH FH (fun j hj => by rw [hlenH]; exact hlk j hj) e
        refine Ev.bindR (ev.mono ?_)
        rintro ⟨v, h'⟩ ⟨N1, hh, Sm⟩
        simp only at hh Sm ⊢;subst hh;obtain ⟨t, ht, I2, A2, nx1, lk2, fr2⟩ := zpW M I D Sm;simp only [ht];cases hal : jP mk (wk bs i os mk os1) with
        | false => rw [hal] at e1; cases e1
        | true =>
          rw [hal] at e1;simp only [cond_true] at e1
          let N2 : Nm := ⟨N1.μ, N1.n, N1.fz, ⟨N1.h.n, t⟩⟩
          have F2 : ∀ s, RepPA N (r s) (refine ρ ref s) := fun s => jC F1 (F s)
          have hmap : (S.map fun x => x.1.h) ++ [(⟨N1.h.n, t⟩ : AHeap)] = (S ++ [((N2, wk bs i os mk os1) : Sn)]).map fun x => x.1.h := by simp [N2]
          rw [hmap];have hwl : Nat.succ ws.length = (ws ++ [wr]).length := by simp
          have step : ∀ n, kDr2 P nt ops (C n) bs es n0 (Nat.succ i) l (fset r v o.dst) ⟨N1.h.n, t⟩ (Nat.succ ws.length) ((S ++ [((N2, wk bs i os mk os1) : Sn)]).map fun x => x.1.h) (cs n) mks (kk n) =
              kDr2 P nt ops (C n) bs es n0 (Nat.succ i) l (fset r v o.dst) N2.h (ws ++ [wr]).length ((S ++ [((N2, wk bs i os mk os1) : Sn)]).map fun x => x.1.h) (cs n) mks (kk n) := fun n => by rw [hwl]
          simp only [step];have AT := aA.trans nA A2;have hmkl : ∀ p ∈ mk, live (og (wk bs i os mk os1) p.2) := fun p hp => zen (by
            unfold jP at hal;rw [List.all_eq_true] at hal;exact hal p hp)
          have hlast : (S ++ [((N2, wk bs i os mk os1) : Sn)])[ws.length + 1]? = some (N2, wk bs i os mk os1) := by rw [← hl]; exact List.getElem?_concat_length
          refine zcS hO l (Nat.succ i) _ (wk bs i os mk os1) N2 (fset r v o.dst) _ (ws ++ [wr]) ps mk true (S ++ [(N2, wk bs i os mk os1)]) cs mks e1 I2 (zbt (fun s => (F2 s).mono A2.nx) (Sm.val.mono nx1) o.dst) (fun j hj => ?_) sfx'
            ⟨M.e0, Nat.le_trans M.top A2.nle, fun p hp => ?_, fun j hj hij => fr2 j hj (M.free j hj (by omega)), fun j z hj hz => ?_⟩ hmo (by simp [hl]) (fun e w hw B1 B2 b1 b2 => ?_) (fun B hB => ?_) (fun B hB j hj hij => ?_)
            ⟨(N2, wk bs i os mk os1), by rw [← hwl]; exact hlast, .refl _ _, fun k b h1 h2 _ => absurd h2 (Nat.not_lt.2 h1), fun _ => .refl _ _⟩ (fun s => ?_) (fun y hy => ?_) ⟨fun z hz k hzk => ?_, fun z hz => Nat.lt_succ_of_lt (mv.lt z hz), mv.uniq, mv.ex⟩ (fun n q hq => (pe n q hq).up (fun _ h => h) (fun _ h => h) (fun _ h => h)) fun ρ2 os2 N3 r2 k1 k2 k3 k4 k5 k6 => H ρ2 os2 N3 r2 k1 k2 k3 (A2.nx.trans k4) (fun j hj => (k5 j hj).trans (lk2 j hj)) (agree r2 v k6)
          · have h1 := Sm.nx.le
            rw [Sm.inv.len, show (uK n0 (yv bs i 0 ops.toList) N).n = N.n from rfl, I.len] at h1
            rw [uY];exact Lz9 (hlk j hj) h1
          · obtain ⟨q1, q2, q3, q4, q5⟩ := M.mks p hp
            exact ⟨by omega, q2, Lz9 q3 A2.nx.le, hmkl p hp, by rw [A2.nx.mu p.2 q3]; exact q5⟩
          · cases hx : N.h.t.get (nm n0 j) with
            | none =>
              have hz : t.get (nm n0 j) = some z := hz;rw [fr2 j hj hx] at hz; cases hz
            | some z' => exact M.all j z' hj hx
          · by_cases he : e < ws.length
            · rw [Lz2 he] at hw
              rw [Lz2 (by omega)] at b1
              rw [Lz2 (by omega)] at b2
              exact ch e w hw B1 B2 b1 b2
            · have he2 : e = ws.length := by
                have := (Lz0.1 hw).1;simp at this; omega
              subst he2;rw [List.getElem?_concat_length] at hw;cases hw;rw [Lz2 (by omega), eA] at b1
              cases b1;rw [hlast] at b2;cases b2;exact ⟨hi A (Lz3 eA), AT.nx, AT.bk, AT.ho⟩
          · rcases List.mem_append.1 hB with h | h
            · exact hi B h
            · rw [List.mem_singleton] at h; subst h; exact I2
          · rcases List.mem_append.1 hB with h | h
            · exact hf' B h j hj hij
            · rw [List.mem_singleton] at h; subst h; exact fr2 j hj (M.free j hj (by omega))
          · have old : bo s ≤ (ws ++ [wr]).length + 1 ∧ ∀ B : Sn, (S ++ [((N2, wk bs i os mk os1) : Sn)])[bo s]? = some B → RepPA B.1 (r s) (refine ρ ref s) := by
              refine ⟨by have := (sl s).1; simp; omega, fun B hB => ?_⟩
              by_cases hbs : bo s ≤ ws.length
              · rw [Lz2 (by omega)] at hB
                exact jC F1 ((sl s).2 B hB)
              · have hbs2 : bo s = ws.length + 1 := by have := (sl s).1; omega
                rw [hbs2, hlast] at hB;cases hB;exact (F2 s).mono A2.nx
            cases hd : o.dst with
            | none => exact old
            | some d =>
              show (bif Nat.beq s d then Nat.succ ws.length else bo s) ≤ (ws ++ [wr]).length + 1 ∧ ∀ B : Sn, (S ++ [((N2, wk bs i os mk os1) : Sn)])[bif Nat.beq s d then Nat.succ ws.length else bo s]? = some B → RepPA B.1 (bif Nat.beq s d then v else r s) (bif Nat.beq s d then a else refine ρ ref s)
              cases Nat.beq s d with
              | false => exact old
              | true =>
                refine ⟨by simp, fun B hB => ?_⟩
                simp only [cond_true] at hB ⊢;rw [show Nat.succ ws.length = ws.length + 1 from rfl, hlast] at hB
                cases hB;exact Sm.val.mono nx1
          · obtain ⟨h1, h2⟩ := hms y hy
            refine ⟨by simp; omega, fun e B he hB => h2 e B he ?_⟩
            rw [Lz2 (by omega)] at hB
            exact hB
          · obtain ⟨g1, g2⟩ := mv.val z hz k hzk
            have old : ∀ e, e ≤ ws.length → NW (ws ++ [wr]) e k → NW ws e k := fun e he hn i w h1 h2 => hn i w h1 (by rw [Lz2 (by omega)]; exact h2)
            have key : NW (ws ++ [wr]) (ws.length + 1) k → N2.h.t.get (nm n0 z.2.1) = some z.2.2 := fun hn => by
              have h1 := g2 (old ws.length (LzB _) fun i w h1 h2 => hn i w (by omega) h2)
              refine A2.bk _ _ h1 fun k' hk' hkn hlv hkb => ?_
              obtain ⟨_, _, q3, q4, q5⟩ := M.mks _ hzk;have := I.inj k' k _ hlv q4 hkb q5;subst this;exact hn ws.length wr (Nat.lt_succ_self _) List.getElem?_concat_length hk'
            refine ⟨fun e B he hB hn => ?_, fun hn => key (by simpa using hn)⟩
            by_cases hle : e ≤ ws.length
            · rw [Lz2 (by omega)] at hB
              exact g1 e B he hB (old e hle hn)
            · have h1 := (Lz0.1 hB).1
              simp at h1;have h2 : e = ws.length + 1 := by omega
              subst h2;rw [hlast] at hB;cases hB;exact key hn
      | false =>
        rw [ha] at e;simp only [cond_false] at e ⊢;cases hc : comp P o.op with
        | none => rw [hc] at e; cases e
        | some ko =>
          rw [hc] at e;simp only at e;have go : ∀ (okr : List Nat → Bool) (nb : Option (Nat × Bool) → PA → Nat) (ps' : List Nat → List (Nat × Nat × List Nat)) (hk : jk ko = true ∨ ∃ y, memX ko = some y), (∀ ref a, nb ref a ≤ ws.length + 1) → (∀ rd, ∀ p ∈ ps, p ∈ ps' rd) →
              (∀ ref, (∀ s, RepPA (uK n0 (yv bs i 0 ops.toList) N) (zK r (o.looksAt ops) s) (refine (zN ρ (o.looksAt ops)) ref s)) → ∀ v a, RepPA N v a → (∀ xo, trk (refine (zN ρ (o.looksAt ops)) ref) ko = some xo → ∀ N' : Nm, (∀ t, xo = .tmp t → RepPA N' (zK r (o.looksAt ops) t) (refine (zN ρ (o.looksAt ops)) ref t)) → RepPA N' v a) → ∀ B : Sn, S[nb ref a]? = some B → RepPA B.1 v a) →
              (∀ ref, (∀ s, RepPA (uK n0 (yv bs i 0 ops.toList) N) (zK r (o.looksAt ops) s) (refine (zN ρ (o.looksAt ops)) ref s)) → ∀ v rd n, okr rd = true → ((∀ call h2, ∃ h', yh P nt ops o call (zK r (o.looksAt ops)) h2 = some (v, h')) ∨ (∃ xo, memX ko = some xo ∧ ∃ b : BN, (∀ call h2, h2.t.get b = (uK n0 (yv bs i 0 ops.toList) N).h.t.get b → ∃ h', yh P nt ops o call (zK r (o.looksAt ops)) h2 = some (v, h')) ∧
                  ((∃ j, rd = [j] ∧ j < (uK n0 (yv bs i 0 ops.toList) N).n ∧ blk ((uK n0 (yv bs i 0 ops.toList) N).μ j) = some b ∧ held (og (uo bs i mk os) j) ∧ ∀ N' : Nm, (∀ t, xo = .tmp t → RepPA N' (zK r (o.looksAt ops) t) (refine (zN ρ (o.looksAt ops)) ref t)) → j < N'.n) ∨
                   (rd = [] ∧ ∀ N' : Nm, (∀ t, xo = .tmp t → RepPA N' (zK r (o.looksAt ops) t) (refine (zN ρ (o.looksAt ops)) ref t)) → N'.fz b ∧ ∃ y, N'.h.t.get b = some y)))) →
                PendOk2 S n0 mk mks (ps' rd) (yh P nt ops o (C n) (zK r (o.looksAt ops)), v, ce (fun j => bef bs j i) 0 es, ce (fun j => !bef bs i j) 0 es, yv bs i 0 ops.toList)) →
              (jh P O (fun _ => true) nt ops o (zN ρ (o.looksAt ops)) (uo bs i mk os) fun ref a _ _ rd => bif okr rd then pDr2 P O lk nt ops bs es (Nat.succ i) l (pset (refine ρ ref) a o.dst) os (bset bo (nb ref a) o.dst) ws (ps' rd) mk fr K else none) = some x →
              Ev (fun n => CE.bindR (yh P nt ops o (C n) (zK r (o.looksAt ops)) ⟨N.h.n, delH n0 (yv bs i 0 ops.toList) N.h.t⟩) fun v h' => kDr2 P nt ops (C n) bs es n0 (Nat.succ i) l (fset r v o.dst) N.h ws.length (S.map fun x => x.1.h) (cs n ++ [(yh P nt ops o (C n) (zK r (o.looksAt ops)), v, ce (fun j => bef bs j i) 0 es, ce (fun j => !bef bs i j) 0 es, yv bs i 0 ops.toList)]) mks (kk n)) Q := by
            intro okr nb ps' hk hnb hps hxb hpe e;obtain ⟨ref, a, rd, v, e1, F1, rv, run, tr, pend⟩ := zd2 IH FH hc hk e;have e1 : (bif okr rd then pDr2 P O lk nt ops bs es (Nat.succ i) l (pset (refine ρ ref) a o.dst) os (bset bo (nb ref a) o.dst) ws (ps' rd) mk fr K else none) = some x := e1
            cases hok : okr rd with
            | false => rw [hok] at e1; cases e1
            | true =>
            rw [hok] at e1;simp only [cond_true] at e1;have : (fun n => CE.bindR (yh P nt ops o (C n) (zK r (o.looksAt ops)) ⟨N.h.n, delH n0 (yv bs i 0 ops.toList) N.h.t⟩) fun v h' => kDr2 P nt ops (C n) bs es n0 (Nat.succ i) l (fset r v o.dst) N.h ws.length (S.map fun x => x.1.h) (cs n ++ [(yh P nt ops o (C n) (zK r (o.looksAt ops)), v, ce (fun j => bef bs j i) 0 es, ce (fun j => !bef bs i j) 0 es, yv bs i 0 ops.toList)]) mks (kk n)) =
                fun n => kDr2 P nt ops (C n) bs es n0 (Nat.succ i) l (fset r v o.dst) N.h ws.length (S.map fun x => x.1.h) (cs n ++ [(yh P nt ops o (C n) (zK r (o.looksAt ops)), v, ce (fun j => bef bs j i) 0 es, ce (fun j => !bef bs i j) 0 es, yv bs i 0 ops.toList)]) mks (kk n) := by
              funext n
              rw [show (⟨N.h.n, delH n0 (yv bs i 0 ops.toList) N.h.t⟩ : AHeap) = (uK n0 (yv bs i 0 ops.toList) N).h from rfl, run]; rfl
            rw [this];have F2 : ∀ s, RepPA N (r s) (refine ρ ref s) := fun s => jC F1 (F s)
            refine zcS hO l (Nat.succ i) _ os N (fset r v o.dst) _ ws (ps' rd) mk fr S _ mks e1 I (zbt F2 (rv.mono zg9) o.dst) hlk sfx' M.up hmo hl ch hi hf' ⟨A, eA, aA, nA, gA⟩ (fun s => ?_) hms ⟨mv.val, fun z hz => Nat.lt_succ_of_lt (mv.lt z hz), mv.uniq, mv.ex⟩ (fun n q hqm => ?_) fun ρ2 os2 N2 r2 k1 k2 k3 k4 k5 k6 => H ρ2 os2 N2 r2 k1 k2 k3 k4 k5 (agree r2 v k6)
            · have old : bo s ≤ ws.length + 1 ∧ ∀ B : Sn, S[bo s]? = some B → RepPA B.1 (r s) (refine ρ ref s) := ⟨(sl s).1, fun B hh => jC F1 ((sl s).2 B hh)⟩
              cases hd : o.dst with
              | none => exact old
              | some d =>
                show (bif Nat.beq s d then nb ref a else bo s) ≤ ws.length + 1 ∧ ∀ B : Sn, S[bif Nat.beq s d then nb ref a else bo s]? = some B → RepPA B.1 (bif Nat.beq s d then v else r s) (bif Nat.beq s d then a else refine ρ ref s)
                cases Nat.beq s d with
                | false => exact old
                | true => exact ⟨hnb ref a, hxb ref F1 v a (rv.mono zg9) tr⟩
            · rcases List.mem_append.1 hqm with h | h
              · have := (pe n q h).up (X := []) (mk' := mk) (mks' := mks) (hps rd) (fun _ h => h) (fun _ h => h)
                rwa [List.append_nil] at this
              · rw [List.mem_singleton] at h
                subst h;exact hpe ref F1 v rd n hok pend
          have none1 : ∀ B : Sn, S[ws.length + 1]? = some B → False := fun B hB => by have := (Lz0.1 hB).1; omega
          have here : ∀ v a, RepPA N v a → ∀ B : Sn, S[bif fr && xR a then ws.length else Nat.succ ws.length]? = some B → RepPA B.1 v a := fun v a rv B hB => by
            cases hfp : fr && xR a with
            | false => rw [hfp] at hB; exact (none1 B hB).elim
            | true =>
              rw [hfp] at hB;rw [LzC] at hfp;simp only [cond_true] at hB;rw [eA] at hB;cases hB;exact zh6 (gA hfp.1) hfp.2 rv
          have hle1 : ∀ a, (bif fr && xR a then ws.length else Nat.succ ws.length) ≤ ws.length + 1 := fun a => by
            cases (fr && xR a) with
            | true => exact Nat.le_succ _
            | false => exact LzB _
          cases hst : jk ko with
          | true =>
            rw [hst] at e;simp only [cond_true] at e;refine go (fun _ => true) (fun ref a => match trk (refine (zN ρ (o.looksAt ops)) ref) ko with | some x => bOf bo x | none => bif fr && xR a then ws.length else Nat.succ ws.length) (fun _ => ps) (.inl hst) ?_ (fun _ p hp => hp) ?_ ?_ e
            · intro ref a
              cases htk : trk (refine (zN ρ (o.looksAt ops)) ref) ko with
              | none => exact hle1 a
              | some y =>
                cases y with
                | tmp t => exact (sl t).1
                | _ => exact Nat.zero_le _
            · intro ref F1 v a rv tr B hh
              cases htk : trk (refine (zN ρ (o.looksAt ops)) ref) ko with
              | none => simp only [htk] at hh; exact here v a rv B hh
              | some y =>
                simp only [htk] at hh;refine tr y htk _ fun t ht => ?_
                subst ht;exact jY F1 ((sl t).2 B hh)
            · intro ref F1 v rd n hok pend
              rcases pend with g | ⟨xo, g, _⟩
              · exact .inl fun h => g (C n) h
              · exfalso
                cases ko <;> first | exact Bool.noConfusion hst | (simp only [memX] at g; cases g)
          | false =>
            rw [hst] at e;simp only [cond_false] at e;cases hmx : memX ko with
            | none => rw [hmx] at e; cases e
            | some y =>
              rw [hmx] at e;simp only at e;cases hb : Nat.beq (ce (fun j => bef bs j i) 0 es) (ce (fun j => !bef bs i j) 0 es) with
              | true =>
                rw [hb] at e;exact go (fun _ => true) (fun _ a => bif fr && xR a then ws.length else Nat.succ ws.length) (fun _ => ps) (.inr ⟨y, hmx⟩) (fun _ a => hle1 a) (fun _ p hp => hp) (fun ref F1 v a rv tr B hh => here v a rv B hh) (fun ref F1 v rd n hok pend => .inr (.inl hb)) e
              | false =>
                rw [hb] at e;simp only [cond_false] at e;cases hw : (Nat.ble (bOf bo y) (ce (fun j => bef bs j i) 0 es) && Nat.ble (ce (fun j => bef bs j i) 0 es) ws.length && Nat.ble ws.length (ce (fun j => !bef bs i j) 0 es)) with
                | false =>
                  rw [hw] at e;simp only [cond_false] at e;cases hwl : Nat.ble ws.length (ce (fun j => !bef bs i j) 0 es) with
                  | false => rw [hwl] at e; cases e
                  | true =>
                    rw [hwl] at e;simp only [cond_true] at e;refine go (fun rd => zkg mk rd && okW ws 0 ws.length rd) (fun _ a => bif fr && xR a then ws.length else Nat.succ ws.length) (fun rd => ps ++ [(0, ce (fun j => !bef bs i j) 0 es, rd)]) (.inr ⟨y, hmx⟩) (fun _ a => hle1 a) (fun _ p hp => List.mem_append_left _ hp) (fun ref F1 v a rv tr B hh => here v a rv B hh) (fun ref F1 v rd n hok pend => ?_) e
                    rcases pend with g | ⟨xo, g, b, g2, g1⟩
                    · exact .inl fun h => g (C n) h
                    · rw [LzC] at hok
                      rcases g1 with ⟨j, q1, q2, q3, q4, q5⟩ | ⟨q1, q2⟩
                      · subst q1
                        obtain ⟨ok1, ok2⟩ := hok;simp only [zkg, List.any_eq_true] at ok1;obtain ⟨⟨jm, k⟩, hp, hpk⟩ := ok1;have hpk : k = j := Lz1 hpk;subst hpk;obtain ⟨z, hz, hzj⟩ := mv.ex _ hp;have hzj : z.2.1 = jm := hzj;subst hzj;obtain ⟨_, _, _, _, p5⟩ := M.mks _ hp;obtain ⟨w, hw1⟩ := za0 q4 (IH.obj k) q3;have q3' : blk (N.μ k) = some b := q3;rw [p5] at q3';cases q3';obtain ⟨hz1, hz2⟩ := km hw1;have hv := (mv.val z hz k hp).2 (NW.of ok2);rw [hz2] at hv;refine .inr (.inr (.inr ⟨k, z, List.mem_append_right _ (List.mem_singleton_self _), hz, hp, fun j hj e => hz1 (List.mem_map.2 ⟨j, hj, e.symm⟩), fun h2 hh => g2 (C n) h2 (by rw [hh, hw1, hv])⟩))
                      · subst q1
                        cases hok.1
                | true =>
                  rw [hw] at e;simp only [LzC] at hw;obtain ⟨⟨w1, w2⟩, w3⟩ := hw;have w1 := Lz4 w1;have w2 := Lz4 w2;have w3 := Lz4 w3;refine go (fun _ => true) (fun _ a => bif fr && xR a then ws.length else Nat.succ ws.length) (fun rd => ps ++ [(ce (fun j => bef bs j i) 0 es, ce (fun j => !bef bs i j) 0 es, rd)]) (.inr ⟨y, hmx⟩) (fun _ a => hle1 a) (fun _ p hp => List.mem_append_left _ hp) (fun ref F1 v a rv tr B hh => here v a rv B hh) (fun ref F1 v rd n hok pend => ?_) e
                  rcases pend with g | ⟨xo, g, b, g2, g1⟩
                  · exact .inl fun h => g (C n) h
                  · rw [hmx] at g
                    cases g;obtain ⟨Al, elo⟩ : ∃ B : Sn, S[ce (fun j => bef bs j i) 0 es]? = some B := ⟨_, Lz5 (by omega)⟩
                    have hrel : ∀ t, y = .tmp t → RepPA Al.1 (zK r (o.looksAt ops) t) (refine (zN ρ (o.looksAt ops)) ref t) := fun t ht => by
                      subst ht;refine jY F1 ?_;have hle : bo t ≤ ce (fun j => bef bs j i) 0 es := w1
                      obtain ⟨Ab, eb0⟩ : ∃ B : Sn, S[bo t]? = some B := ⟨_, Lz5 (by omega)⟩
                      exact ((sl t).2 Ab eb0).mono (xw hl ch eb0 (ce (fun j => bef bs j i) 0 es - bo t) Al (by rw [show bo t + (ce (fun j => bef bs j i) 0 es - bo t) = ce (fun j => bef bs j i) 0 es by omega]; exact elo))
                    have nxlA : Nx Al.1 A.1 := xw hl ch elo (ws.length - ce (fun j => bef bs j i) 0 es) A (by rw [show ce (fun j => bef bs j i) 0 es + (ws.length - ce (fun j => bef bs j i) 0 es) = ws.length by omega]; exact eA)
                    have IA := hi A (Lz3 eA);have nin : b ∉ (yv bs i 0 ops.toList).map (nm n0) → ∀ j ∈ yv bs i 0 ops.toList, b ≠ nm n0 j := fun h j hj e => h (List.mem_map.2 ⟨j, hj, e.symm⟩)
                    rcases g1 with ⟨j, q1, q2, q3, q4, q5⟩ | ⟨q1, q2⟩
                    · have hnh : ¬ Hid bs i mk j := fun h => by rw [(xd j mk os).1 h] at q4; exact q4
                      obtain ⟨z, hz⟩ := za0 q4 (IH.obj j) q3;obtain ⟨hz1, hz2⟩ := km hz;have q4' : held (og os j) := by rw [(xd j mk os).2 hnh] at q4; exact q4
                      have jl := q5 Al.1 hrel;have jA : j < A.1.n := Lz9 jl nxlA.le;have hA : held (og A.2 j) := (aA.ho j jA).1 q4';have hbA : blk (A.1.μ j) = some b := by rw [← aA.nx.mu j jA]; exact q3
                      obtain ⟨z', hz'⟩ := za0 hA (IA.obj j) hbA;have h3 := aA.bk b z' hz' fun j hj => by cases hj
                      rw [hz2] at h3;exact .inr (.inr (.inl ⟨rd, List.mem_append_right _ (List.mem_singleton_self _), ws.length, b, A, Al, w2, w3, eA, elo, nin hz1, fun h2 hh => g2 (C n) h2 (by rw [hh, hz', hz, h3]), .inl ⟨j, q1, jl, hbA, hA⟩⟩))
                    · obtain ⟨f1, z, f2⟩ := q2 Al.1 hrel
                      have f3 := nxlA.fg.old b z f1 f2;have f4 := nxlA.fg.sub b z f1 f2;have f5 := aA.nx.fg.old b z f4 f3;have f6 := aA.nx.fg.sub b z f4 f3;have f7 := nxH.fg.old b z f6 f5;exact .inr (.inr (.inl ⟨rd, List.mem_append_right _ (List.mem_singleton_self _), ws.length, b, A, Al, w2, w3, eA, elo, nin (km f7).1, fun h2 hh => g2 (C n) h2 (by rw [hh, f3, f7]), .inr ⟨f1, z, f2⟩⟩))
end
end Go.PE
end
section
namespace Go.PE
open Go Go.CE
section
variable (P : Program) (O : Orc) (tab : Nat → Bool) (Y : Inl)
noncomputable def ve (nt : Nat) (an : Nat → Option LA) : Code → (Nat → Bool) → Nat → {β : Type} → (Nat → PA) → List PO → (RExit → (Nat → PA) → List PO → Option β) → Option β
 | .skip, _, _, _, ρ, os, K => K .normal ρ os
 | .region _ ops draw, lk, _, _, ρ, os, K => bif draw then (bif P.follows .mixedOrders && kJ P ops (befs ops.toList) then pDr P O lk nt ops (befs ops.toList) (effs P ops.toList) 0 ops.toList ρ os (fun _ => 0) [] [] (fun ρ os => K .normal ρ os) else bif P.follows .mixedOrders && ui P ops (befs ops.toList) then pDr2 P O lk nt ops (befs ops.toList) (ancs P ops.toList) 0 ops.toList ρ os (fun _ => 0) [] [] [] true (fun ρ os => K .normal ρ os) else none) else pOps P O tab Y lk nt ops ops.toList ρ os (fun ρ os => K .normal ρ os)
 | .seq a b, lk, i, _, ρ, os, K => ve nt an a lk i ρ os (zsz (fun ρ os => ve nt an b lk (i + j9 a) ρ os K) K)
 | .cond c a b, lk, i, _, ρ, os, K =>
  match pv ρ c with
  | some (.s (.one (.d v))) =>
   ifB v (ve nt an a lk i (refine ρ (zoq c true)) os K) (ve nt an b lk (i + j9 a) (refine ρ (zoq c false)) os K)
  | _ => none
 | .block id c, lk, i, _, ρ, os, K => ve nt an c lk i ρ os (outP id K)
 | .loop c, lk, i, _, ρ, os, K =>
  match an i with
  | some la =>
   bif free lk la then
    match ziv lk la.frz os with
    | none => none
    | some os =>
    match vec lk (fun m => !lk m && !listed la m) la .normal ρ os with
    | some (os1, L0, M0, ms) =>
     xy (ya (fun L M => ve nt an c (lkIn la os.length) (i + 1) (hFr la.data la.own (writes c) ρ os.length L) (hOs la.data la.own la (kill ms os1) os.length L M) (vecX (lkIn la os.length) os.length la)) L0 M0)
      (fun id L M => K (.exit id) (hFr la.xdata la.xown (writes c) ρ os.length L) (hOs la.xdata la.xown la (kill ms os1) os.length L M))
      (fun L M => bif ky c then K .ret (hFr la.rdata la.rown (writes c) ρ os.length L) (hOs la.rdata la.rown la (kill ms os1) os.length L M) else none)
    | none => none
   else none
  | none => none
 | .exit id, _, _, _, ρ, os, K => K (.exit id) ρ os
 | .ret, _, _, _, ρ, os, K => K .ret ρ os
 | _, _, _, _, _, _, _ => none
end
def zbm (m : Nat) (N : Nm) : Nm := ⟨N.μ, N.n, N.fz, ⟨bn (Nat.add N.h.n.toNat m), N.h.t⟩⟩
theorem InvO.bump {E : En} {N : Nm} {os : List PO} (I : InvO E N os) (m : Nat) : InvO E (zbm m N) os ∧ Nx N (zbm m N) := by
 have hn : (zbm m N).h.n.toNat = N.h.n.toNat + m := zO _;have nx : Nx N (zbm m N) := ⟨⟨fun _ _ h _ => h, fun _ _ _ h => h⟩, LzB _, fun _ _ => rfl⟩
 refine ⟨⟨fun b y hy => by rw [hn]; have := I.hw b y hy; omega, ⟨by rw [hn]; have := I.gr.le; omega, I.gr.old⟩, fun b hb => by rw [hn]; have := I.fzlt b hb; omega, I.fzok, I.fzex, I.len, I.own, I.inj, fun k => (I.obj k).mono nx rfl fun hl b hb => ?_⟩, nx⟩
 obtain ⟨b', x', h1, h2, h3⟩ := yw hl (I.obj k);rw [h1] at hb; cases hb;exact ⟨h2, rfl⟩
section
variable {P : Program} {O : Orc} {tab : Nat → Bool} {Y : Inl} {C : Nat → zh} {E : En} {nt : Nat} {an : Nat → Option LA}
theorem ziK {lk okm : Nat → Bool} {la : LA} {b : RExit} {N : Nm} {os os1 : List PO} {r : Fr} {ρ : Nat → PA} {L : List DV} {M : List OC} {ms : List (Option Nat)} (I : InvO E N os) (F : ∀ i, RepPA N (r i) (ρ i)) (e : vec lk okm la b ρ os = some (os1, L, M, ms)) :
  (∃ N1, Fz N N1 ∧ Stp E lk N os [] N1 os1) ∧ ∀ m, some m ∈ ms → okm m = true := by
 unfold vec at e;cases h1 : vecD lk ρ (selD la b) os with
 | none => rw [h1] at e; cases e
 | some q =>
  obtain ⟨o1, ds⟩ := q;rw [h1] at e;simp only at e;obtain ⟨N1, f1, S1, _⟩ := ze5 I F h1;split at e
  ·rename_i vs ms0 ws h2 h3;cases h4 : (qk o1 la.boxes && zfd okm ms0) with
   | false => rw [h4] at e; cases e
   | true =>
    rw [h4] at e;cases e;rw [LzC] at h4;refine ⟨⟨N1, f1, S1⟩, fun m hm => ?_⟩
    obtain ⟨i, hi⟩ := List.getElem?_of_mem hm;exact (qW h4.2).1 i m hi
  ·cases e
theorem zof {lk : Nat → Bool} {n0 : Nat} {la : LA} {e e1 : RExit} {ρ : Nat → PA} {os : List PO} {L : List DV} {M : List OC} (h : vecX lk n0 la e ρ os = some (e1, L, M)) : e = e1 ∧ ∃ os1 ms, vec lk (fun m => Nat.ble n0 m) la e ρ os = some (os1, L, M, ms) := by
 unfold vecX at h;split at h
 ·rename_i os1 L' M' ms hv;cases h;exact ⟨rfl, os1, ms, hv⟩
 ·cases h
theorem zgM (hO : jj O C) (hY : zm9 tab Y C) : ∀ (c : Code) {β γ : Type} {Q : γ → Prop} {x : β} (lk : Nat → Bool) (i : Nat) (ρ : Nat → PA) (os : List PO) (N : Nm) (r : Fr) (K : RExit → (Nat → PA) → List PO → Option β) (kk : Nat → RExit → Fr → AHeap → Option γ),
  ve P O tab Y nt an c lk i ρ os K = some x → InvO E N os → (∀ i, RepPA N (r i) (ρ i)) → (∀ j, lk j = true → j < os.length) →
  (∀ e ρ' os' N' r', K e ρ' os' = some x → InvO E N' os' → (∀ i, RepPA N' (r' i) (ρ' i)) → Nx N N' → (∀ j, lk j = true → og os' j = og os j) → (∀ i, i ∉ writes c → r' i = r i) → Ev (fun n => kk n e r' N'.h) Q) →
  Ev (fun n => yR P nt (C n) n c r N.h (kk n)) Q := by
 intro c
 induction c with
 | skip => exact fun lk i ρ os N r K kk e I F hlk H => H .normal ρ os N r e I F (.refl N) (fun _ _ => rfl) (fun _ _ => rfl)
 | exit id => exact fun lk i ρ os N r K kk e I F hlk H => H (.exit id) ρ os N r e I F (.refl N) (fun _ _ => rfl) (fun _ _ => rfl)
 | ret => exact fun lk i ρ os N r K kk e I F hlk H => H .ret ρ os N r e I F (.refl N) (fun _ _ => rfl) (fun _ _ => rfl)
 | region id ops draw =>
  intro β γ Q x lk i ρ os N r K kk e I F hlk H;simp only [ve] at e;cases draw with
  | true =>
   simp only [cond_true] at e;cases hd : (P.follows .mixedOrders && kJ P ops (befs ops.toList)) with
   | false =>
    rw [hd] at e;simp only [cond_false] at e;cases hd2 : (P.follows .mixedOrders && ui P ops (befs ops.toList)) with
    | false => rw [hd2] at e; cases e
    | true =>
     rw [hd2] at e;simp only [cond_true] at e;obtain ⟨IB, xB⟩ := I.bump ops.toList.length;have hnB : (zbm ops.toList.length N).h.n.toNat = N.h.n.toNat + ops.toList.length := zO _;have hno : ∀ j, N.h.t.get (nm N.h.n.toNat j) = none := fun j => by
      cases hx : N.h.t.get (nm N.h.n.toNat j) with
      | none => rfl
      | some y => have := I.hw _ _ hx; rw [yl] at this; omega
     have : (fun n => yR P nt (C n) n (.region id ops true) r N.h (kk n)) = fun n => kDr2 P nt ops (C n) (befs ops.toList) (ancs P ops.toList) N.h.n.toNat 0 ops.toList r (zbm ops.toList.length N).h 0 [(zbm ops.toList.length N).h] [] [] (fun r h => kk n .normal r h) := by
      funext n; simp only [yR, cond_true, cond_false, hd, hd2]; rfl
     rw [this];have hS : ∀ (e : Nat) (A : Sn), ([(zbm ops.toList.length N, os)] : List Sn)[e]? = some A → A = (zbm ops.toList.length N, os) := fun e A hA => List.mem_singleton.1 (Lz3 hA)
     refine zcS hO (n0 := N.h.n.toNat) (kk := fun n r h => kk n .normal r h) ops.toList 0 ρ os (zbm ops.toList.length N) r (fun _ => 0) [] [] [] true [(zbm ops.toList.length N, os)] (fun _ => []) [] e IB (fun s => (F s).mono xB) hlk ⟨[], rfl, rfl⟩
      ⟨I.gr.le, by rw [hnB]; exact LzB _, fun p hp => (by cases hp), fun j _ _ => hno j, fun j y _ hy => ?_⟩ (fun p hp => by cases hp) rfl (fun e w hw => by simp at hw) (fun A hA => by rw [List.mem_singleton.1 hA]; exact IB) (fun A hA j _ _ => by rw [List.mem_singleton.1 hA]; exact hno j)
      ⟨_, rfl, .refl _ _, fun k b h1 h2 _ => absurd h2 (Nat.not_lt.2 h1), fun _ => .refl _ _⟩ (fun s => ⟨Nat.zero_le _, fun A hA => by rw [hS _ _ hA]; exact (F s).mono xB⟩) (fun y hy => by cases hy) ⟨fun z hz => (by cases hz), fun z hz => (by cases hz), fun z hz => (by cases hz), fun p hp => (by cases hp)⟩ (fun n q hq => by cases hq) fun ρ' os' N' r' h1 h2 h3 h4 h5 h6 => H .normal ρ' os' N' r' h1 h2 h3 (xB.trans h4) h5 h6
     have hy : N.h.t.get (nm N.h.n.toNat j) = some y := hy;rw [hno j] at hy; cases hy
   | true =>
    rw [hd] at e;simp only [cond_true] at e;have : (fun n => yR P nt (C n) n (.region id ops true) r N.h (kk n)) = fun n => kDr P nt ops (C n) (befs ops.toList) (effs P ops.toList) 0 ops.toList r N.h [] [] (fun r h => kk n .normal r h) := by
     funext n; simp only [yR, cond_true, hd]
    rw [this];refine zjC hO (kk := fun n r h => kk n .normal r h) ops.toList 0 ρ os N r (fun _ => 0) [] [] [] (fun _ => []) e I F hlk rfl (fun e w hw => by simp at hw) (fun s => ⟨LzB _, fun A hh => ?_⟩) (fun n q hq => by cases hq) fun ρ' os' N' r' h1 h2 h3 h4 h5 h6 => H .normal ρ' os' N' r' h1 h2 h3 h4 h5 h6
    simp only [List.nil_append, List.getElem?_cons_zero, Option.some.injEq] at hh;subst hh;exact F s
  | false =>
   simp only [cond_false] at e;have : (fun n => yR P nt (C n) n (.region id ops false) r N.h (kk n)) = fun n => kOps P nt ops (C n) ops.toList r N.h (fun r h => kk n .normal r h) := by
    funext n; simp only [yR, cond_false]
   rw [this];exact zfn hO hY ops.toList ρ os N r e I F hlk fun ρ' os' N' r' h1 h2 h3 h4 h5 h6 => H .normal ρ' os' N' r' h1 h2 h3 h4 h5 h6
 | seq a b iha ihb =>
  intro β γ Q x lk i ρ os N r K kk e I F hlk H;simp only [ve] at e;have : (fun n => yR P nt (C n) n (.seq a b) r N.h (kk n)) = fun n => yR P nt (C n) n a r N.h (zon (fun r h => yR P nt (C n) n b r h (kk n)) (kk n)) := by
   funext n; simp only [yR]
  rw [this];refine iha lk i ρ os N r _ (fun n => zon (fun r h => yR P nt (C n) n b r h (kk n)) (kk n)) e I F hlk fun ex ρ1 os1 N1 r1 h1 h2 h3 h4 h5 h6 => ?_
  have hag : ∀ r2 : Fr, (∀ i, i ∉ writes b → r2 i = r1 i) → ∀ i, i ∉ writes (.seq a b) → r2 i = r i := fun r2 hr i hi => by
   simp only [writes, List.mem_append, not_or] at hi;rw [hr i hi.2, h6 i hi.1]
  cases ex with
  | normal =>
   refine ihb lk (i + j9 a) ρ1 os1 N1 r1 K kk h1 h2 h3 (fun j hj => ?_) fun e2 ρ2 os2 N2 r2 k1 k2 k3 k4 k5 k6 => H e2 ρ2 os2 N2 r2 k1 k2 k3 (h4.trans k4) (fun j hj => (k5 j hj).trans (h5 j hj)) (hag r2 k6)
   have := h4.le;rw [h2.len, I.len] at this;exact Lz9 (hlk j hj) this
  | exit id => exact H (.exit id) ρ1 os1 N1 r1 h1 h2 h3 h4 h5 (hag r1 (fun _ _ => rfl))
  | ret => exact H .ret ρ1 os1 N1 r1 h1 h2 h3 h4 h5 (hag r1 (fun _ _ => rfl))
 | cond c a b iha ihb =>
  intro β γ Q x lk i ρ os N r K kk e I F hlk H;simp only [ve] at e;split at e
  ·rename_i v hv;obtain ⟨q, rfl, e⟩ := zep e;obtain ⟨w, k1, k2⟩ := x4 F hv;have hw := z8 k2 (c := .bool q) rfl;subst hw;have hco : coK r c = some (zp (.s (.one (.bool q)))) := by rw [yg, k1]; rfl
   have F' : ∀ i, RepPA N (r i) (refine ρ (zoq c q) i) := by
    cases c with
    | tmp t => exact zag F (Option.some.inj k1)
    | _ => exact F
   have run : ∀ n, yR P nt (C n) n (.cond c a b) r N.h (kk n) = bif q then yR P nt (C n) n a r N.h (kk n) else yR P nt (C n) n b r N.h (kk n) := fun n => by
    simp only [yR, hco]; rfl
   cases q with
   | true =>
    simp only [run, cond_true];exact iha lk i _ os N r K kk e I F' hlk fun e2 ρ2 os2 N2 r2 k1 k2 k3 k4 k5 k6 => H e2 ρ2 os2 N2 r2 k1 k2 k3 k4 k5 (fun i hi => k6 i (fun h => hi (by simp [writes, h])))
   | false =>
    simp only [run, cond_false];exact ihb lk _ _ os N r K kk e I F' hlk fun e2 ρ2 os2 N2 r2 k1 k2 k3 k4 k5 k6 => H e2 ρ2 os2 N2 r2 k1 k2 k3 k4 k5 (fun i hi => k6 i (fun h => hi (by simp [writes, h])))
  ·cases e
 | block id c ih =>
  intro β γ Q x lk i ρ os N r K kk e I F hlk H;simp only [ve] at e;have : (fun n => yR P nt (C n) n (.block id c) r N.h (kk n)) = fun n => yR P nt (C n) n c r N.h (outK id (kk n)) := by
   funext n; simp only [yR]
  rw [this];refine ih lk i ρ os N r _ (fun n => outK id (kk n)) e I F hlk fun ex ρ1 os1 N1 r1 h1 h2 h3 h4 h5 h6 => ?_
  cases ex with
  | normal => exact H .normal ρ1 os1 N1 r1 h1 h2 h3 h4 h5 h6
  | exit id' =>
   simp only [outP] at h1;simp only [outK];cases hq : Nat.beq id' id with
   | true => rw [hq] at h1; exact H .normal ρ1 os1 N1 r1 h1 h2 h3 h4 h5 h6
   | false => rw [hq] at h1; exact H (.exit id') ρ1 os1 N1 r1 h1 h2 h3 h4 h5 h6
  | ret => exact H .ret ρ1 os1 N1 r1 h1 h2 h3 h4 h5 h6
 | loop c ih =>
  intro β γ Q x lk i ρ os N r K kk e I F hlk H;simp only [ve] at e;cases ha : an i with
  | none => rw [ha] at e; cases e
  | some la =>
   rw [ha] at e;simp only at e;cases hfr : free lk la with
   | false => rw [hfr] at e; cases e
   | true =>
    rw [hfr] at e;simp only [cond_true] at e;have core : ∀ (os : List PO) (N : Nm), InvO E N os → (∀ i, RepPA N (r i) (ρ i)) → (∀ j, lk j = true → j < os.length) →
      (match vec lk (fun m => !lk m && !listed la m) la .normal ρ os with
       | some (os1, L0, M0, ms) =>
        xy (ya (fun L M => ve P O tab Y nt an c (lkIn la os.length) (i + 1) (hFr la.data la.own (writes c) ρ os.length L) (hOs la.data la.own la (kill ms os1) os.length L M) (vecX (lkIn la os.length) os.length la)) L0 M0)
         (fun id L M => K (.exit id) (hFr la.xdata la.xown (writes c) ρ os.length L) (hOs la.xdata la.xown la (kill ms os1) os.length L M))
         (fun L M => bif ky c then K .ret (hFr la.rdata la.rown (writes c) ρ os.length L) (hOs la.rdata la.rown la (kill ms os1) os.length L M) else none)
       | none => none) = some x →
      (∀ e ρ' os' N' r', K e ρ' os' = some x → InvO E N' os' → (∀ i, RepPA N' (r' i) (ρ' i)) → Nx N N' → (∀ j, lk j = true → og os' j = og os j) → (∀ i, i ∉ writes (.loop c) → r' i = r i) → Ev (fun n => kk n e r' N'.h) Q) →
      Ev (fun n => yR P nt (C n) n (.loop c) r N.h (kk n)) Q := by
     clear e hlk F I H N os;intro os N I F hlk e H;cases hv : vec lk (fun m => !lk m && !listed la m) la .normal ρ os with
     | none => rw [hv] at e; cases e
     | some q =>
      obtain ⟨os1, L0, M0, ms⟩ := q;rw [hv] at e;simp only at e;obtain ⟨⟨N1, f1, S1⟩, hms⟩ := ziK I F hv;have hl1 : os1.length = os.length := by rw [← S1.inv.len, f1.n, I.len]
      have hBl : (kill ms os1).length = os.length := by rw [zc2, hl1]
      generalize hB : kill ms os1 = B at e hBl;rw [← hBl] at e;have hBox : ∀ k, ∀ cs, og B k = .box cs → ∃ (N' : Nm) (vs0 : List CVal), N'.n = B.length ∧ RepPL N' vs0 cs := fun k cs hk => by
       rw [← hB] at hk;rcases ja ms os1 k with ⟨_, h2⟩ | ⟨_, h2⟩
       ·rw [h2] at hk; cases hk
       ·rw [h2] at hk;obtain ⟨b, vs, _, _, _, h4⟩ := uk S1.inv hk;exact ⟨N1, vs, by rw [f1.n, I.len, hBl], h4⟩
      have hBk : ∀ k, og B k = .dead ∨ og B k = og os1 k := fun k => by
       rw [← hB];rcases ja ms os1 k with ⟨_, h2⟩ | ⟨_, h2⟩
       ·exact .inl h2
       ·exact .inr h2
      obtain ⟨N2, e2h, i2, F2, nx2⟩ := zkB (W := writes c) I F hv (I.len.trans hBl.symm) (.refl N) F (fun _ _ => rfl)
       (fun k hk hul => (hBk k).imp id fun h => ⟨h, hBox k⟩)
       (fun m hm hmB => by
        have hm' := hms m hm;rw [LzC, Bool.not_eq_true', Bool.not_eq_true'] at hm';refine ⟨?_, hm'.2⟩;rw [← hB];rcases ja ms os1 m with ⟨_, h2⟩ | ⟨h1, _⟩
        ·rw [h2]; exact fun h => h
        ·exact absurd hm h1)
      simp only [selD, selO] at i2 F2;have hlp : ∃ ex Lx Mx n, ex ≠ .normal ∧ xQ (fun L M => ve P O tab Y nt an c (lkIn la B.length) (i + 1) (hFr la.data la.own (writes c) ρ B.length L) (hOs la.data la.own la B B.length L M) (vecX (lkIn la B.length) B.length la)) n L0 M0 = some (ex, Lx, Mx) ∧
        K ex (hFr (selD la ex) (selO la ex) (writes c) ρ B.length Lx) (hOs (selD la ex) (selO la ex) la B B.length Lx Mx) = some x := by
       cases hp : ya (fun L M => ve P O tab Y nt an c (lkIn la B.length) (i + 1) (hFr la.data la.own (writes c) ρ B.length L) (hOs la.data la.own la B B.length L M) (vecX (lkIn la B.length) B.length la)) L0 M0 with
       | none => rw [hp] at e; cases e
       | some q =>
        obtain ⟨ex, Lx, Mx⟩ := q;rw [hp] at e;obtain ⟨n, hn⟩ := zav.1 hp;cases ex with
        | normal => cases e
        | exit id => exact ⟨.exit id, Lx, Mx, n, by simp, hn, e⟩
        | ret =>
         simp only [xy] at e;cases hR : ky c with
         | false => rw [hR] at e; cases e
         | true => rw [hR] at e; exact ⟨.ret, Lx, Mx, n, by simp, hn, e⟩
      obtain ⟨ex, Lx, Mx, n, hne, hpl, hK⟩ := hlp;have run : (fun n => yR P nt (C n) n (.loop c) r N.h (kk n)) = fun n => bindX (qS ((fun n ys h => yR P nt (C n) n c (mixL (writes c) 0 r ys) h (fun e s h => some (e, (writes c).map s, h))) n) n ((writes c).map r) N.h)
        (fun id ys h => kk n (.exit id) (mixL (writes c) 0 r ys) h) (fun ys h => kk n .ret (mixL (writes c) 0 r ys) h) := by
       funext n; simp only [yR]
      rw [run];refine Ev.bindX ((Ev.loop (Q := fun p => p.1 = ex ∧ ∃ N' r', p.2.1 = (writes c).map r' ∧ (∀ i, i ∉ writes c → r' i = r i) ∧ N'.h = p.2.2 ∧ InvO E N' (hOs (selD la ex) (selO la ex) la B B.length Lx Mx) ∧ (∀ i, RepPA N' (r' i) (hFr (selD la ex) (selO la ex) (writes c) ρ B.length Lx i)) ∧ Nx N N')
       (fun k ys h => ∃ L M N' r', xQ (fun L M => ve P O tab Y nt an c (lkIn la B.length) (i + 1) (hFr la.data la.own (writes c) ρ B.length L) (hOs la.data la.own la B B.length L M) (vecX (lkIn la B.length) B.length la)) k L M = some (ex, Lx, Mx) ∧
        ys = (writes c).map r' ∧ (∀ i, i ∉ writes c → r' i = r i) ∧ N'.h = h ∧ InvO E N' (hOs la.data la.own la B B.length L M) ∧ (∀ i, RepPA N' (r' i) (hFr la.data la.own (writes c) ρ B.length L i)) ∧ Nx N N')
       ?_ n _ _ ⟨L0, M0, N2, r, hpl, rfl, fun _ _ => rfl, e2h, i2, F2, nx2⟩).mono ?_)
      ·rintro k ys h ⟨L, M, N', r', h1, rfl, h3, rfl, h5, h6, h7⟩
       cases k with
       | zero => cases h1
       | succ k =>
        have hstep : ∃ e1 L1 M1, ve P O tab Y nt an c (lkIn la B.length) (i + 1) (hFr la.data la.own (writes c) ρ B.length L) (hOs la.data la.own la B B.length L M) (vecX (lkIn la B.length) B.length la) = some (e1, L1, M1) ∧
          ((e1 = .normal ∧ xQ (fun L M => ve P O tab Y nt an c (lkIn la B.length) (i + 1) (hFr la.data la.own (writes c) ρ B.length L) (hOs la.data la.own la B B.length L M) (vecX (lkIn la B.length) B.length la)) k L1 M1 = some (ex, Lx, Mx)) ∨ (e1 ≠ .normal ∧ e1 = ex ∧ L1 = Lx ∧ M1 = Mx)) := by
         simp only [xQ] at h1;split at h1
         ·rename_i L' M' hb;exact ⟨.normal, L', M', hb, .inl ⟨rfl, h1⟩⟩
         ·rename_i hnn;exact ⟨ex, Lx, Mx, h1, .inr ⟨hne, rfl, rfl, rfl⟩⟩
        obtain ⟨e1, L1, M1, hb, hor⟩ := hstep;have hmix : mixL (writes c) 0 r ((writes c).map r') = r' := zaS h3;simp only [hmix];refine ih (lkIn la B.length) (i + 1) _ _ N' r' _ (fun n e s h => some (e, (writes c).map s, h)) hb h5 h6 (fun j hj => Lz9 (zo4 hj).1 (zpJ rfl)) fun e3 ρ3 os3 N3 r3 k1 k2 k3 k4 k5 k6 => ?_
        obtain ⟨rfl, os1', ms', hv'⟩ := zof k1;obtain ⟨⟨N1', f1', S1'⟩, hms'⟩ := ziK k2 k3 hv';have hag : ∀ i, i ∉ writes c → r3 i = r i := fun i hi => (k6 i hi).trans (h3 i hi)
        obtain ⟨N4, g1, g2, g3, g4⟩ := zkB (W := writes c) k2 k3 hv' (I.len.trans hBl.symm) (h7.trans k4) F hag
         (fun k hk hul => by
          have hlkk : lkIn la B.length k = true := by
           unfold lkIn;rw [hul, Nat.ble_eq_true_of_le hk]; rfl
          refine .inr ⟨?_, hBox k⟩;rw [S1'.lock k hlkk, k5 k hlkk, qE hk hul])
         (fun m hm hmB => by
          have := Lz4 (hms' m hm);omega)
        refine Ev.some ?_;rcases hor with ⟨rfl, hrest⟩ | ⟨hn1, rfl, rfl, rfl⟩
        ·exact ⟨k, Nat.lt_succ_self k, L1, M1, N4, r3, hrest, rfl, hag, g1, g2, g3, g4⟩
        ·cases e3 with
         | normal => exact absurd rfl hn1
         | exit id => exact ⟨rfl, N4, r3, rfl, hag, g1, g2, g3, g4⟩
         | ret => exact ⟨rfl, N4, r3, rfl, hag, g1, g2, g3, g4⟩
      ·rintro ⟨e4, ys, h4⟩ ⟨hex, N', r', hys, hag, hh, i4, F4, nx4⟩
       simp only at hex hys hh;subst hex hys hh;have hmix : mixL (writes c) 0 r ((writes c).map r') = r' := zaS hag;have hfin := H e4 _ _ N' r' hK i4 F4 nx4 (fun j hj => by
        have hj1 := hlk j hj;have hul : listed la j = false := by
         unfold free at hfr;rw [LzC, List.all_eq_true, List.all_eq_true] at hfr;unfold listed;rw [Bool.or_eq_false_iff]
         constructor
         ·cases hb : (la.boxes.any fun x => Nat.beq j x.1) with
          | false => rfl
          | true =>
           obtain ⟨y, h, h'⟩ := List.any_eq_true.1 hb;have := hfr.1 y h;rw [← Lz1 h', hj] at this;cases this
         ·cases hb : (la.arrs.any fun x => Nat.beq j x.1) with
          | false => rfl
          | true =>
           obtain ⟨y, h, h'⟩ := List.any_eq_true.1 hb;have := hfr.2 y h;rw [← Lz1 h', hj] at this;cases this
        rw [qE (by rw [hBl]; exact hj1) hul, ← hB]
        rcases ja ms os1 j with ⟨h1, _⟩ | ⟨_, h2⟩
        ·have := hms j h1;rw [hj] at this;cases this
        ·rw [h2]; exact S1.lock j hj) hag
       cases e4 with
       | normal => exact absurd rfl hne
       | exit id => simp only [hmix]; exact hfin
       | ret => simp only [hmix]; exact hfin
    cases hfa : ziv lk la.frz os with
    | none => rw [hfa] at e; cases e
    | some os0 =>
     rw [hfa] at e;obtain ⟨Nz, fz0, Sz⟩ := zhf I hfa;rw [← fz0.h];exact core os0 Nz Sz.inv (fun i => (F i).mono Sz.nx) (fun j hj => by
      have := Sz.inv.len;rw [fz0.n, I.len] at this;rw [← this]; exact hlk j hj) e fun e ρ' os' N' r' a1 a2 a3 a4 a5 a6 => H e ρ' os' N' r' a1 a2 a3 (Sz.nx.trans a4) (fun j hj => (a5 j hj).trans (Sz.lock j hj)) a6
 | _ =>
  intro β γ Q x lk i ρ os N r K kk e;simp only [ve] at e;cases e
end
end Go.PE
end
section
namespace Go.PE
open Go Go.CE
def paOf : DA → PA
 | .s (.one d) => .s (.one (.d d))
 | .s (.agg l) => .s (.agg (l.map .d))
 | .tup l => .tup l
def zhp (args : List DA) : Nat → PA := fun i => match args[i]? with | some a => paOf a | none => .bad
section
variable (P : Program)
def zh3 (lk : Nat → Bool) (ρ : Nat → PA) (os : List PO) : ResultVar → Option (List PO × DS)
 | .tmp i => match ρ i with | .s v => frV lk os v | _ => none
 | .cell i t =>
  match xx P t, ρ i with
  | some n, .s (.one (.ptr k off)) =>
   match og os k with
   | .box cs =>
    match n with
    | none => match cs[off]? with | some c => frV lk os (.one c) | none => none
    | some n => bif Nat.ble (off + n) cs.length then frV lk os (.agg ((cs.drop off).take n)) else none
   | _ => none
  | _, _ => none
def jX (lk : Nat → Bool) (ρ : Nat → PA) : List PO → List ResultVar → Option (List DS × List PO)
 | os, [] => some ([], os)
 | os, x :: l =>
  match zh3 P lk ρ os x with
  | some (os', d) => match jX lk ρ os' l with | some (ds, os'') => some (d :: ds, os'') | none => none
  | none => none
def daOf : List DS → DA
 | [d] => .s d
 | l => .tup l
def endP (rs : List ResultVar) : RExit → (Nat → PA) → List PO → Option DA
 | .exit _, _, _ => none
 | .normal, ρ, os => match jX P (fun _ => false) ρ os rs with | some (l, _) => some (daOf l) | none => none
 | .ret, ρ, os => match jX P (fun _ => false) ρ os rs with | some (l, _) => some (daOf l) | none => none
def resI (lk : Nat → Bool) (ρ : Nat → PA) (os : List PO) : List ResultVar → Option (PA × List PO)
 | [.tmp i] => match ρ i with | .s v => some (.s v, os) | _ => none
 | [.cell i t] =>
  match xx P t, ρ i with
  | some n, .s (.one (.ptr k off)) =>
   match og os k with
   | .box cs =>
    match n with
    | none => match cs[off]? with | some c => some (.s (.one c), os) | none => none
    | some n => bif Nat.ble (off + n) cs.length then some (.s (.agg ((cs.drop off).take n)), os) else none
   | _ => none
  | _, _ => none
 | rs => match jX P lk ρ os rs with | some (l, os') => some (.tup l, os') | none => none
def zdl (as : List PA) : Nat → PA := fun i => match as[i]? with | some a => a | none => .bad
abbrev Red := Nat → List PA → Option (Bool × Nat × List PA)
def zqZ : Red := fun _ _ => none
noncomputable def inl (O : Orc) (tab : Nat → Bool) (an : Nat → List PA → Nat → Nat → Option LA) (R : Red) : Nat → Inl
 | 0 => fun _ _ _ _ _ _ => none
 | k + 1 => fun g lk as os β K =>
  match R g as with
  | some (b, g', as') => bif b then inl O tab an R k g' lk as' os β (fun _ os' => K (.tup []) os') else none
  | none =>
  match P.funcs[g]? with
  | some fn =>
   match fn.body with
   | some c =>
    bif (cRes P fn.results.toList).isNone || fn.name == "runtime.NumGoroutine" then none else bif Nat.ble as.length fn.ntmps then
     ve P O tab (inl O tab an R k) fn.ntmps (an g as os.length) c lk 0 (zdl as) os (fun ex ρ os' =>
      match ex with
      | .exit _ => none
      | _ => match resI P lk ρ os' fn.results.toList with | some (a, os'') => K a os'' | none => none)
    else none
   | none => none
  | none => none
noncomputable def pFun (O : Orc) (tab : Nat → Bool) (Y : Inl) (an : Nat → Option LA) (g : Nat) (args : List DA) : Option DA :=
 match P.funcs[g]? with
 | some fn =>
  match fn.body with
  | some c => bif (cRes P fn.results.toList).isNone || fn.name == "runtime.NumGoroutine" then none else bif Nat.ble args.length fn.ntmps then ve P O tab Y fn.ntmps an c (fun _ => false) 0 (zhp args) [] (endP P fn.results.toList) else none
  | none => none
 | none => none
end
section
variable {P : Program} {E : En}
theorem RepPA.paOf {N : Nm} {v : AVal} {d : DA} (H : RepA N.fz N.h v d) : RepPA N v (PE.paOf d) := by
 cases d with
 | s d =>
  obtain ⟨w, rfl, hw⟩ := H.inv;cases d with
  | one d =>
   cases w with
   | one c => exact vz hw
   | agg l => exact hw.elim
  | agg ds =>
   cases w with
   | one c => exact hw.elim
   | agg l => exact RepPA.of (v := .agg l) (p := .agg _) (RepPL.ofD hw)
 | tup l =>
  cases v with
  | s v => exact H.elim
  | tup vs => exact H
theorem RepAL.get {fz : BN → Prop} {h : AHeap} : ∀ {vs : List AVal} {ds : List DA}, RepAL fz h vs ds → vs.length = ds.length ∧ ∀ (i : Nat) (v : AVal) (d : DA), vs[i]? = some v → ds[i]? = some d → RepA fz h v d
 | [], [], _ => ⟨rfl, fun i v d e => by simp at e⟩
 | v :: vs, d :: ds, H => by
  obtain ⟨a, b⟩ := RepAL.get H.2;refine ⟨by simp [a], fun i v' d' hv hd => ?_⟩
  cases i with
  | zero => simp only [List.getElem?_cons_zero, Option.some.injEq] at hv hd; subst hv; subst hd; exact H.1
  | succ i => exact b i v' d' (by simpa using hv) (by simpa using hd)
 | [], _ :: _, H => H.elim
 | _ :: _, [], H => H.elim
theorem zcb (args : List AVal) (i : Nat) : frOf (wc .z .nil args) i = (args[i]?).getD zX := by
 have h := qb args 0 .nil i;have hn : (Tr.nil : Tr AVal).get (bn i) = none := by cases bn i <;> rfl
 rw [if_neg (by omega), hn, Nat.sub_zero, Option.or_none] at h
 show tmpF (bn i) (wc .z .nil args) = _;unfold tmpF;rw [show (wc .z .nil args).get (bn i) = args[i]? from h]
 cases args[i]? <;> rfl
theorem zfD : ∀ (l : List AVal) (n : Nat), l.length ≤ n → lenA l n = true
 | [], _, _ => rfl
 | _ :: l, 0, h => by simp at h
 | _ :: l, n + 1, h => by
  show (bif Nat.beq (n + 1) 0 then false else lenA l n) = true
  rw [zfD l n (by simpa using h)]; rfl
theorem zoE {lk : Nat → Bool} {os os' : List PO} {N : Nm} {r : Fr} {ρ : Nat → PA} {x : ResultVar} {d : DS} (I : InvO E N os) (F : ∀ i, RepPA N (r i) (ρ i)) (e : zh3 P lk ρ os x = some (os', d)) :
  ∃ N' sv, Fz N N' ∧ Stp E lk N os [] N' os' ∧ zbx P r N.h x = some sv ∧ RepS N'.fz N'.h sv d := by
 cases x with
 | tmp i =>
  simp only [zh3] at e;split at e
  ·rename_i p hp;have := F i;rw [hp] at this;obtain ⟨w, hw, hv⟩ := this.inv;obtain ⟨N', f, S, R⟩ := zev I hv e;exact ⟨N', w, f, S, by simp only [zbx, hw, resV], R⟩
  ·cases e
 | cell i t =>
  simp only [zh3] at e;split at e
  ·rename_i n k off hn hp;have := F i;rw [hp] at this;obtain ⟨w, hw, hk, b, hb, rfl⟩ := yf this;split at e
   ·rename_i cs ho;obtain ⟨b', vs, h1, h2, h3, h4⟩ := uk I ho;rw [hb] at h1; cases h1;have hl := h4.len;have run : zbx P r N.h (.cell i t) = vX n off (some (.cells vs 0)) := by
     simp only [zbx, hn, hw, resP, h3]
    cases n with
    | none =>
     simp only at e;cases hc : cs[off]? with
     | none => rw [hc] at e; cases e
     | some c =>
      rw [hc] at e;have hi := (Lz0.1 hc).1;obtain ⟨v, hv⟩ : ∃ v, vs[off]? = some v := ⟨_, Lz5 (by omega)⟩
      obtain ⟨N', f, S, R⟩ := zev (v := .one v) (p := .one c) I (h4.get hv hc) e;refine ⟨N', .one v, f, S, ?_, R⟩;rw [run];simp only [vX, xt, hv]
    | some n =>
     simp only at e;cases hle : Nat.ble (off + n) cs.length with
     | false => rw [hle] at e; cases e
     | true =>
      rw [hle] at e;have hle := Lz4 hle;obtain ⟨N', f, S, R⟩ := zev (v := .agg ((vs.drop off).take n)) (p := .agg ((cs.drop off).take n)) I ((h4.drop off).take n) e;refine ⟨N', _, f, S, ?_, R⟩;rw [run];simp only [vX, zbc vs n off (by omega)]
   ·cases e
  ·cases e
theorem jz {lk : Nat → Bool} {r : Fr} {ρ : Nat → PA} : ∀ {l : List ResultVar} {os os' : List PO} {N : Nm} {ds : List DS}, InvO E N os → (∀ i, RepPA N (r i) (ρ i)) → jX P lk ρ os l = some (ds, os') →
  ∃ N' svs, Fz N N' ∧ InvO E N' os' ∧ Nx N N' ∧ (∀ j, lk j = true → og os' j = og os j) ∧ jB P r N.h l = some svs ∧ RepSL N'.fz N'.h svs ds
 | [], os, os', N, ds, I, F, e => by cases e; exact ⟨N, [], .refl N, I, .refl N, fun _ _ => rfl, rfl, trivial⟩
 | x :: l, os, os', N, ds, I, F, e => by
  simp only [jX] at e;cases h1 : zh3 P lk ρ os x with
  | none => rw [h1] at e; cases e
  | some q =>
   obtain ⟨os1, d⟩ := q;rw [h1] at e;simp only at e;cases h2 : jX P lk ρ os1 l with
   | none => rw [h2] at e; cases e
   | some q2 =>
    obtain ⟨ds2, os2⟩ := q2;rw [h2] at e; cases e;obtain ⟨N1, sv, f1, S1, k1, R1⟩ := zoE I F h1;obtain ⟨N2, svs, f2, i2, x2, l2, k2, R2⟩ := jz S1.inv (fun i => (F i).mono S1.nx) h2
    refine ⟨N2, sv :: svs, f1.trans f2, i2, S1.nx.trans x2, fun j hj => (l2 j hj).trans (S1.lock j hj), ?_, R1.mono x2.fg, R2⟩
    rw [f1.h] at k2;simp only [jB, k1, k2, zk0, xI]
theorem zmS {h : AHeap} {fz : BN → Prop} {h' : AHeap} {svs : List SVal} {ds : List DS} (H : RepSL fz h' svs ds) : ∃ v, zbC h (some svs) = some (v, h) ∧ RepA fz h' v (daOf ds) := by
 match svs, ds, H with
 | [], [], _ => exact ⟨.tup [], rfl, trivial⟩
 | [v], [d], H => exact ⟨.s v, rfl, H.1⟩
 | v :: w :: vs, d :: e :: ds, H => exact ⟨.tup (v :: w :: vs), rfl, H⟩
theorem zkM {h : AHeap} {fz : BN → Prop} {h' : AHeap} {svs : List SVal} {ds : List DS} (H : RepSL fz h' svs ds) (hl : ds.length ≠ 1) : zbC h (some svs) = some (.tup svs, h) := by
 match svs, ds, H with
 | [], [], _ => rfl
 | [v], [d], _ => exact absurd rfl hl
 | v :: w :: vs, d :: e :: ds, H => rfl
theorem zdW {lk : Nat → Bool} {ρ : Nat → PA} : ∀ {l : List ResultVar} {os os' : List PO} {ds : List DS}, jX P lk ρ os l = some (ds, os') → ds.length = l.length
 | [], _, _, _, e => by cases e; rfl
 | x :: l, os, os', ds, e => by
  simp only [jX] at e;cases h1 : zh3 P lk ρ os x with
  | none => rw [h1] at e; cases e
  | some q =>
   obtain ⟨os1, d⟩ := q;rw [h1] at e;simp only at e;cases h2 : jX P lk ρ os1 l with
   | none => rw [h2] at e; cases e
   | some q2 => obtain ⟨ds2, os2⟩ := q2; rw [h2] at e; cases e; simp [zdW h2]
theorem zjj {lk : Nat → Bool} {os os' : List PO} {N : Nm} {r : Fr} {ρ : Nat → PA} {l : List ResultVar} {a : PA} (I : InvO E N os) (F : ∀ i, RepPA N (r i) (ρ i)) (e : resI P lk ρ os l = some (a, os')) :
  ∃ N' svs v, N'.h = N.h ∧ InvO E N' os' ∧ Nx N N' ∧ (∀ j, lk j = true → og os' j = og os j) ∧ jB P r N.h l = some svs ∧ zbC N.h (some svs) = some (v, N.h) ∧ RepPA N' v a := by
 unfold resI at e;split at e
 ·rename_i i;split at e
  ·rename_i v hp;cases e;have := F i;rw [hp] at this;obtain ⟨w, hw, hv⟩ := this.inv;exact ⟨N, [w], .s w, rfl, I, .refl N, fun _ _ => rfl, by simp only [jB, zbx, hw, resV, zk0, xI], rfl, RepPA.of hv⟩
  ·cases e
 ·rename_i i t;split at e
  ·rename_i n k off hn hp;have := F i;rw [hp] at this;obtain ⟨w, hw, hk, b, hb, rfl⟩ := yf this;split at e
   ·rename_i cs ho;obtain ⟨b', vs, h1, h2, h3, h4⟩ := uk I ho;rw [hb] at h1; cases h1;have hl := h4.len;have run : zbx P r N.h (.cell i t) = vX n off (some (.cells vs 0)) := by
     simp only [zbx, hn, hw, resP, h3]
    cases n with
    | none =>
     simp only at e;cases hc : cs[off]? with
     | none => rw [hc] at e; cases e
     | some c =>
      rw [hc] at e;cases e;have hi := (Lz0.1 hc).1;obtain ⟨v, hv⟩ : ∃ v, vs[off]? = some v := ⟨_, Lz5 (by omega)⟩
      refine ⟨N, [.one v], .s (.one v), rfl, I, .refl N, fun _ _ => rfl, ?_, rfl, RepPA.of (v := .one v) (p := .one c) (h4.get hv hc)⟩
      simp only [jB, run, vX, xt, hv, zk0, xI]
    | some n =>
     simp only at e;cases hle : Nat.ble (off + n) cs.length with
     | false => rw [hle] at e; cases e
     | true =>
      rw [hle] at e;cases e;have hle := Lz4 hle;refine ⟨N, [.agg ((vs.drop off).take n)], .s (.agg ((vs.drop off).take n)), rfl, I, .refl N, fun _ _ => rfl, ?_, rfl, RepPA.of (v := .agg ((vs.drop off).take n)) (p := .agg ((cs.drop off).take n)) ((h4.drop off).take n)⟩
      simp only [jB, run, vX, zbc vs n off (by omega), zk0, xI]
   ·cases e
  ·cases e
 ·rename_i h1 h2;cases h3 : jX P lk ρ os l with
  | none => rw [h3] at e; cases e
  | some q =>
   obtain ⟨ds, os2⟩ := q;rw [h3] at e;cases e;obtain ⟨N', svs, f, i, x, lo, k, R⟩ := jz I F h3;have hne : ds.length ≠ 1 := by
    rw [zdW h3];intro hl
    match l, hl with
    | [.tmp i], _ => exact h1 i rfl
    | [.cell i t], _ => exact h2 i t rfl
   exact ⟨N', svs, .tup svs, f.h, i, x, lo, k, zkM R hne, R⟩
theorem zmQ {_fn : Func} {vs : List AVal} {as : List PA} {N : Nm} (H : RepPAL N vs as) : (∀ i, RepPA N (frOf (wc .z .nil vs) i) (zdl as i)) ∧ vs.length = as.length := by
 have key : ∀ {vs : List AVal} {as : List PA}, RepPAL N vs as → vs.length = as.length ∧ ∀ (i : Nat) (v : AVal) (d : PA), vs[i]? = some v → as[i]? = some d → RepPA N v d := by
  intro vs
  induction vs with
  | nil => intro as H; cases as with | nil => exact ⟨rfl, fun i v d e => by simp at e⟩ | cons _ _ => exact H.elim
  | cons v vs ih =>
   intro as H;cases as with
   | nil => exact H.elim
   | cons d ds =>
    obtain ⟨a, b⟩ := ih H.2;refine ⟨by simp [a], fun i v' d' hv hd => ?_⟩
    cases i with
    | zero => simp only [List.getElem?_cons_zero, Option.some.injEq] at hv hd; subst hv; subst hd; exact H.1
    | succ i => exact b i v' d' (by simpa using hv) (by simpa using hd)
 obtain ⟨hl, hg⟩ := key H;refine ⟨fun i => ?_, hl⟩
 rw [zcb];unfold zdl;cases ha : as[i]? with
 | none => exact .bad _
 | some a =>
  have hi := (Lz0.1 ha).1;obtain ⟨v, hv⟩ : ∃ v, vs[i]? = some v := ⟨_, Lz5 (by omega)⟩
  rw [hv];exact hg i v a hv ha
theorem qG {g : Nat} {vs : List AVal} {h : AHeap} : ∀ {sums : List Sum}, (∀ s ∈ sums, Nat.beq g s.g = false) → xA g vs h sums = none
 | [], _ => rfl
 | s :: l, hs => by
  simp only [xA];rw [hs s (List.mem_cons_self ..), Bool.false_and, cond_false];exact qG fun s' h' => hs s' (List.mem_cons_of_mem _ h')
def zm6 (tab : Nat → Bool) (R : Red) (C : Nat → zh) : Prop :=
 ∀ {N : Nm} {g g' : Nat} {as as' : List PA} {vs : List AVal}, R g as = some (true, g', as') → RepPAL N vs as → tab g' = true ∧ ∃ vs', RepPAL N vs' as' ∧ ∀ Q, Ev (fun n => C n (.inl g') vs' N.h) Q → Ev (fun n => C n (.inl g) vs N.h) (fun p => p.1 = .tup [] ∧ ∃ v, Q (v, p.2))
theorem zmg {tab : Nat → Bool} {C : Nat → zh} : zm6 tab zqZ C := by
 intro N g g' as as' vs e;cases e
theorem zrb {sums : List Sum} {O : Orc} {tab : Nat → Bool} {an : Nat → List PA → Nat → Nat → Option LA} {R : Red} (hR : zm6 tab R (fun n => yk (zW P) (cFs (xJ P)) sums n)) (hO : jj O (fun n => yk (zW P) (cFs (xJ P)) sums n)) (hs : ∀ g, tab g = true → ∀ s ∈ sums, Nat.beq g s.g = false) :
  ∀ k, zm9 tab (inl P O tab an R k) (fun n => yk (zW P) (cFs (xJ P)) sums n) := by
 intro k
 induction k with
 | zero => intro β E lk N os g as vs K x _ _ _ _ e; cases e
 | succ k ihk =>
  intro β E lk N os g as vs K x ht I RR hlk e;simp only [inl] at e;cases hr : R g as with
  | some q =>
   obtain ⟨b, g', as'⟩ := q;rw [hr] at e;cases b with
   | false => cases e
   | true =>
    obtain ⟨ht', vs', r', h'⟩ := hR hr RR;obtain ⟨a, os', q1, q2⟩ := ihk ht' I r' hlk e;refine ⟨.tup [], os', q1, (h' _ q2).mono ?_⟩
    rintro ⟨v, h1⟩ ⟨e1, w, N', e2, i2, x2, l2, _⟩
    cases e1;exact ⟨N', e2, i2, x2, l2, trivial⟩
  | none =>
  rw [hr] at e;simp only at e;cases hf : P.funcs[g]? with
  | none => rw [hf] at e; cases e
  | some fn =>
   rw [hf] at e;simp only at e;cases hb : fn.body with
   | none => rw [hb] at e; cases e
   | some c =>
    rw [hb] at e;simp only at e;cases hc : ((cRes P fn.results.toList).isNone || fn.name == "runtime.NumGoroutine") with
    | true => rw [hc] at e; cases e
    | false =>
     rw [hc] at e;simp only [cond_false] at e;cases hl : Nat.ble as.length fn.ntmps with
     | false => rw [hl] at e; cases e
     | true =>
      rw [hl] at e;simp only [cond_true] at e;have hll := Lz4 hl;obtain ⟨F0, hlen⟩ := zmQ (_fn := fn) RR;have run : (fun n => kFun P g (yk (zW P) (cFs (xJ P)) sums n) n vs N.h) = fun n => yR P fn.ntmps (yk (zW P) (cFs (xJ P)) sums n) n c (frOf (wc .z .nil vs)) N.h (endK P fn.results.toList) := by
       funext n
       unfold kFun;rw [hf];simp only [hb, hc, cond_false];rw [zfD vs fn.ntmps (by omega), cond_true]
      have ev : Ev (fun n => yR P fn.ntmps (yk (zW P) (cFs (xJ P)) sums n) n c (frOf (wc .z .nil vs)) N.h (endK P fn.results.toList)) (fun p => ∃ a os' N', K a os' = some x ∧ N'.h = p.2 ∧ InvO E N' os' ∧ Nx N N' ∧ (∀ j, lk j = true → og os' j = og os j) ∧ RepPA N' p.1 a) := by
       refine zgM (E := E) hO ihk c lk 0 (zdl as) os N _ _ (fun _ => endK P fn.results.toList) e I F0 hlk fun ex ρ1 os1 N1 r1 h1 h2 h3 h4 h5 _ => ?_
       cases ex with
       | exit id => cases h1
       | normal =>
        simp only at h1;cases hr : resI P lk ρ1 os1 fn.results.toList with
        | none => rw [hr] at h1; cases h1
        | some q =>
         obtain ⟨a, os2⟩ := q;rw [hr] at h1;obtain ⟨N2, svs, v, g1, g2, g3, g4, g5, g6, g7⟩ := zjj (P := P) h2 h3 hr;show Ev (fun _ => zbC N1.h (jB P r1 N1.h fn.results.toList)) _
         rw [g5, g6];exact Ev.some ⟨a, os2, N2, h1, g1, g2, h4.trans g3, fun j hj => (g4 j hj).trans (h5 j hj), g7⟩
       | ret =>
        simp only at h1;cases hr : resI P lk ρ1 os1 fn.results.toList with
        | none => rw [hr] at h1; cases h1
        | some q =>
         obtain ⟨a, os2⟩ := q;rw [hr] at h1;obtain ⟨N2, svs, v, g1, g2, g3, g4, g5, g6, g7⟩ := zjj (P := P) h2 h3 hr;show Ev (fun _ => zbC N1.h (jB P r1 N1.h fn.results.toList)) _
         rw [g5, g6];exact Ev.some ⟨a, os2, N2, h1, g1, g2, h4.trans g3, fun j hj => (g4 j hj).trans (h5 j hj), g7⟩
      obtain ⟨p, ⟨a, os', N', q1, q2, q3, q4, q5, q6⟩, M, hM⟩ := ev;refine ⟨a, os', q1, Ev.call (qG (hs g ht)) ?_⟩;rw [run];exact ⟨p, ⟨N', q2, q3, q4, q5, q6⟩, M, hM⟩
theorem zoM {sums : List Sum} {O : Orc} {tab : Nat → Bool} {Y : Inl} {an : Nat → Option LA} {g : Nat} {args : List DA} {res : DA} (hO : jj O (fun n => yk (zW P) (cFs (xJ P)) sums n)) (hY : zm9 tab Y (fun n => yk (zW P) (cFs (xJ P)) sums n)) (hs : ∀ s ∈ sums, Nat.beq g s.g = false)
  (e : pFun P O tab Y an g args = some res) : zob (fun n => yk (zW P) (cFs (xJ P)) sums n) g args res := by
 intro fz h vs hw hfz hrep;obtain ⟨hlen, hget⟩ := hrep.get;have hfs : xA g vs h sums = none := by
  clear hrep hlen hget e hO hY
  induction sums with
  | nil => rfl
  | cons s l ih =>
   simp only [xA];rw [hs s (List.mem_cons_self ..), Bool.false_and, cond_false];exact ih fun s' h' => hs s' (List.mem_cons_of_mem _ h')
 refine Ev.call hfs ?_;unfold pFun at e;cases hf : P.funcs[g]? with
 | none => rw [hf] at e; cases e
 | some fn =>
  rw [hf] at e;simp only at e;cases hb : fn.body with
  | none => rw [hb] at e; cases e
  | some c =>
   rw [hb] at e;simp only at e;cases hc : ((cRes P fn.results.toList).isNone || fn.name == "runtime.NumGoroutine") with
   | true => rw [hc] at e; cases e
   | false =>
    rw [hc] at e;simp only [cond_false] at e;cases hl : Nat.ble args.length fn.ntmps with
    | false => rw [hl] at e; cases e
    | true =>
     rw [hl] at e;simp only [cond_true] at e;have hll := Lz4 hl;have run : (fun n => kFun P g (yk (zW P) (cFs (xJ P)) sums n) n vs h) = fun n => yR P fn.ntmps (yk (zW P) (cFs (xJ P)) sums n) n c (frOf (wc .z .nil vs)) h (endK P fn.results.toList) := by
      funext n
      unfold kFun;rw [hf];simp only [hb, hc, cond_false];rw [zfD vs fn.ntmps (by omega), cond_true]
     rw [run]
     let E0 : En := ⟨h, fz⟩
     let N0 : Nm := ⟨fun _ => .nilp, 0, fz, h⟩
     have I0 : InvO E0 N0 [] := ⟨hw, .refl h, hfz, fun b hb => .inl hb, fun b hb => .inl (hfz b hb), rfl, fun k b hl => hl.elim, fun k k' b hl => hl.elim, fun k => trivial⟩
     have F0 : ∀ i, RepPA N0 (frOf (wc .z .nil vs) i) (zhp args i) := fun i => by
      rw [zcb];unfold zhp;cases ha : args[i]? with
      | none => exact .bad _
      | some a =>
       have hi := (Lz0.1 ha).1;obtain ⟨v, hv⟩ : ∃ v, vs[i]? = some v := ⟨_, Lz5 (by omega)⟩
       rw [hv];exact RepPA.paOf (N := N0) (hget i v a hv ha)
     refine zgM (E := E0) hO hY c (fun _ => false) 0 (zhp args) [] N0 _ (endP P fn.results.toList) (fun _ => endK P fn.results.toList) e I0 F0 (fun j hj => by cases hj) fun ex ρ1 os1 N1 r1 h1 h2 h3 h4 _ _ => ?_
     have fin : ∀ l os2, jX P (fun _ => false) ρ1 os1 fn.results.toList = some (l, os2) → daOf l = res → Ev (fun _ => zbC N1.h (jB P r1 N1.h fn.results.toList)) (fun p => HW p.2 ∧ Gr h p.2 ∧ RepA (fzN fz h p.2) p.2 p.1 res) := by
      intro l os2 hl hd;obtain ⟨N2, svs, f2, i2, x2, _, k2, R2⟩ := jz (P := P) h2 h3 hl;obtain ⟨v, g1, g2⟩ := zmS (h := N1.h) R2;rw [k2, g1];refine Ev.some ⟨h2.hw, h2.gr, ?_⟩;rw [← hd, ← f2.h];refine g2.mono ⟨fun b _ hb _ => ?_, fun _ _ _ h => h⟩
      rcases i2.fzok b hb with h' | h'
      ·exact .inl h'
      ·exact .inr ⟨h', i2.fzlt b hb⟩
     cases ex with
     | exit id => cases h1
     | normal =>
      simp only [endP] at h1;cases hl : jX P (fun _ => false) ρ1 os1 fn.results.toList with
      | none => rw [hl] at h1; cases h1
      | some q => obtain ⟨l, os2⟩ := q; rw [hl] at h1; cases h1; exact fin l os2 hl rfl
     | ret =>
      simp only [endP] at h1;cases hl : jX P (fun _ => false) ρ1 os1 fn.results.toList with
      | none => rw [hl] at h1; cases h1
      | some q => obtain ⟨l, os2⟩ := q; rw [hl] at h1; cases h1; exact fin l os2 hl rfl
end
end Go.PE
end
section
namespace Go.PE
open Go Go.CE
end Go.PE
end
section
namespace Go.PE
open Go Go.CE
section
variable (P : Program) (sums : List CE.Sum) (B : Orc) (an : Nat → Nat → Option LA) (tab : Nat → Bool) (anI : Nat → Nat → List PA → Nat → Nat → Option LA) (R : Red) (d : Nat)
noncomputable def deep : Nat → Orc
 | 0 => B
 | k + 1 => fun g args =>
  match B g args with
  | some r => some r
  | none => bif sums.all (fun s => !Nat.beq g s.g) then pFun P (deep k) tab (inl P (deep k) tab (anI g) R d) (an g) g args else none
end
section
variable {P : Program} {B : Orc} {an : Nat → Nat → Option LA} {sums : List CE.Sum} {tab : Nat → Bool} {anI : Nat → Nat → List PA → Nat → Nat → Option LA} {R : Red} {d : Nat}
theorem zfZ (hR : zm6 tab R (fun n => yk (zW P) (cFs (xJ P)) sums n)) (hT : ∀ g, tab g = true → ∀ s ∈ sums, Nat.beq g s.g = false) (hB : jj B (fun n => yk (zW P) (cFs (xJ P)) sums n)) : ∀ k, jj (deep P sums B an tab anI R d k) (fun n => yk (zW P) (cFs (xJ P)) sums n)
 | 0 => hB
 | k + 1 => fun g args res e => by
  simp only [deep] at e;split at e
  ·rename_i r hr;cases e;exact hB g args _ hr
  ·cases hs : sums.all (fun s => !Nat.beq g s.g) with
   | false => rw [hs] at e; cases e
   | true =>
    rw [hs] at e;rw [List.all_eq_true] at hs;exact zoM (zfZ hR hT hB k) (zrb hR (zfZ hR hT hB k) hT d) (fun s h => by simpa using hs s h) e
theorem zeD {k g : Nat} {args : List DA} {r : DA} (h : B g args = some r) : deep P sums B an tab anI R d k g args = some r := by
 cases k with
 | zero => exact h
 | succ k => simp only [deep, h]
theorem zB {k g : Nat} {args : List DA} (h : B g args = none) (hs : sums.all (fun s => !Nat.beq g s.g) = true) : deep P sums B an tab anI R d (k + 1) g args = pFun P (deep P sums B an tab anI R d k) tab (inl P (deep P sums B an tab anI R d k) tab (anI g) R d) (an g) g args := by
 simp only [deep, h, hs, cond_true]
end
end Go.PE
end
section
namespace Go.PE
open Go Go.CE
abbrev I6 (n : Int) : DV := .int .i64 n
theorem yU (k : IntKind) : eqK k k = true := by cases k <;> rfl
theorem wrap64 {n : Int} (h1 : -9223372036854775808 ≤ n) (h2 : n ≤ 9223372036854775807) : xK .i64 n = n := by
 cases n with
 | ofNat m =>
  show (bif Nat.ble m 9223372036854775807 then (Int.ofNat m) else IntKind.wrap .i64 (.ofNat m)) = _
  rw [Nat.ble_eq_true_of_le (by have : (m : Int) ≤ 9223372036854775807 := h2; omega)]; rfl
 | negSucc m =>
  show (bif Nat.ble m 9223372036854775807 then (Int.negSucc m) else IntKind.wrap .i64 (.negSucc m)) = _
  rw [Nat.ble_eq_true_of_le (by omega)]; rfl
section
variable (k : IntKind) (a b : Int)
theorem zt : pBin .lss (.int k a) (.int k b) = some (.bool (decide (a < b))) := by
 simp only [pBin, yU, cond_true, wQ, evLt, oD, uI]
theorem q9 : pBin .leq (.int k a) (.int k b) = some (.bool (decide (a ≤ b))) := by
 simp only [pBin, yU, cond_true, wQ, evLe, oD, zg3]
theorem yj : pBin .gtr (.int k a) (.int k b) = some (.bool (decide (b < a))) := by
 simp only [pBin, yU, cond_true, wQ, evGt, oD, uI]
theorem u5 : pBin .geq (.int k a) (.int k b) = some (.bool (decide (b ≤ a))) := by
 simp only [pBin, yU, cond_true, wQ, evGe, oD, zg3]
theorem wt : pBin .eql (.int k a) (.int k b) = some (.bool (a == b)) := by
 simp only [pBin, yU, cond_true, wQ, evEq, oD, uP]
theorem yz : pBin .neq (.int k a) (.int k b) = some (.bool (!(a == b))) := by
 simp only [pBin, yU, cond_true, wQ, evNe, oD, uP]
theorem zl6 : pBin .add (.int k a) (.int k b) = some (.int k (xK k (a + b))) := by
 simp only [pBin, yU, cond_true, wQ, zrq, oD]; rfl
theorem zgN : pBin .sub (.int k a) (.int k b) = some (.int k (xK k (a - b))) := by
 simp only [pBin, yU, cond_true, wQ, zrm, oD]; rfl
theorem zl4 : pBin .mul (.int k a) (.int k b) = some (.int k (xK k (a * b))) := by
 simp only [pBin, yU, cond_true, wQ, zro, oD]; rfl
theorem zl3 (h : b ≠ 0) : pBin .quo (.int k a) (.int k b) = some (.int k (xK k (a.tdiv b))) := by
 have : (b == 0) = false := by simpa using h
 simp only [pBin, yU, cond_true, wQ, zpO, uP, this, cond_false, oD]
theorem q8 (h : b ≠ 0) : pBin .rem (.int k a) (.int k b) = some (.int k (a.tmod b)) := by
 have : (b == 0) = false := by simpa using h
 simp only [pBin, yU, cond_true, wQ, zpN, uP, this, cond_false, oD]
theorem zia (h1 : -9223372036854775808 ≤ a + b) (h2 : a + b ≤ 9223372036854775807) : pBin .add (I6 a) (I6 b) = some (I6 (a + b)) := by rw [zl6, wrap64 h1 h2]
theorem zh9 (h1 : -9223372036854775808 ≤ a - b) (h2 : a - b ≤ 9223372036854775807) : pBin .sub (I6 a) (I6 b) = some (I6 (a - b)) := by rw [zgN, wrap64 h1 h2]
theorem zoO (k' : IntKind) (h1 : -9223372036854775808 ≤ a) (h2 : a ≤ 9223372036854775807) : yQ .i64 (.int k' a) = some (I6 a) := by
 show some (DV.int .i64 (xK .i64 a)) = _;rw [wrap64 h1 h2]
end
theorem zw {β : Type} (q : Bool) (a b : Option β) : ifB (.bool q) a b = if q = true then a else b := by cases q <;> rfl
theorem zb {α β : Type} (a : α) (k : α → Option β) : za (some a) k = k a := rfl
theorem ye {β : Type} (d : DV) (k : DV → Option β) : b1 (some (.s (.one d))) k = k d := rfl
theorem ztC {β : Type} (b : Bool) (k : DV → Option β) : b1s (some (.s (.one (.bool b)))) k = k (.bool b) := rfl
theorem zrB {β : Type} (t : IntKind) (n : Int) (k : DV → Option β) : b1s (some (.s (.one (.int t n)))) k = k (.int t n) := rfl
theorem zpX {β : Type} (l : List DV) (k : List DV → Option β) : bA l.length (some (.s (.agg l))) k = k l := by
 show (bif Nat.beq l.length l.length then k l else none) = _
 rw [Nat.beq_refl]; rfl
end Go.PE
end
section
namespace Go.PE
open Go Go.CE
abbrev U8 (n : Int) : DV := .int .u8 n
abbrev U64 (n : Int) : DV := .int .u64 n
abbrev S1 (d : DV) : DA := .s (.one d)
abbrev SA (l : List DV) : DA := .s (.agg l)
abbrev Bo (b : Bool) : DV := .bool b
abbrev St (s : ByteArray) : DV := .str s
attribute [simp] zt q9 yj u5 wt yz zb ye zw
@[simp] theorem zqc {α β : Type} (k : α → Option β) : za none k = none := rfl
@[simp] theorem ztD {β : Type} (k : DV → Option β) : b1 none k = none := rfl
@[simp] theorem xn (q : Bool) : pNot (.bool q) = some (.bool (!q)) := rfl
@[simp] theorem zqM : pLen .nils = some (I6 0) := rfl
@[simp] theorem zsm (st : Nat) (xs : List (List DV)) : pLen (.lst st xs) = some (I6 (xs.length : Int)) := rfl
@[simp] theorem zsl (st : Nat) (v : OC) : pLen (mkL st v) = some (I6 (lenO v : Int)) := by cases v <;> rfl
@[simp] theorem zp6 : zcP .nils = some true := rfl
@[simp] theorem zqI (st : Nat) (xs : List (List DV)) : zcP (.lst st xs) = some false := rfl
@[simp] theorem zoN (st : Nat) : j4 st .nils = some [] := rfl
@[simp] theorem zp8 (st : Nat) (xs : List (List DV)) : j4 st (.lst st xs) = some xs := by
 show (bif Nat.beq st st then some xs else none) = _
 rw [Nat.beq_refl]; rfl
@[simp] theorem zp7 (st : Nat) (v : OC) : j4 st (mkL st v) = some (zM v) := by cases v <;> simp [mkL, zM]
@[simp] theorem zaz (s : ByteArray) : zh8 (.str s) = some (I6 (s.size : Int)) := rfl
@[simp] theorem zea (n : Nat) : Int.ofNat n = (n : Int) := rfl
@[simp] theorem zq7 : lenO none = 0 := rfl
@[simp] theorem zel (xs : List (List DV)) : lenO (some xs) = xs.length := rfl
@[simp] theorem zpR : zM none = [] := rfl
@[simp] theorem jM (xs : List (List DV)) : zM (some xs) = xs := rfl
@[simp] theorem zsp (st : Nat) : mkL st none = .nils := rfl
@[simp] theorem zms (st : Nat) (xs : List (List DV)) : mkL st (some xs) = .lst st xs := rfl
@[simp] theorem zst (v : OC) : appO v [] = v := rfl
@[simp] theorem zrF (v : OC) (x : List DV) (l : List (List DV)) : appO v (x :: l) = some (zM v ++ (x :: l)) := rfl
@[simp] theorem jH {β : Type} (k : Option β) : gd true k = k := rfl
@[simp] theorem y2 {β : Type} (id : Nat) (L : List DV) (M : List OC) (kx : Nat → List DV → List OC → Option β) (kr : List DV → List OC → Option β) : xy (some (.exit id, L, M)) kx kr = kx id L M := rfl
@[simp] theorem zej {β : Type} (L : List DV) (M : List OC) (kx : Nat → List DV → List OC → Option β) (kr : List DV → List OC → Option β) : xy (some (.ret, L, M)) kx kr = kr L M := rfl
@[simp] theorem zJ (d : DV) (l : List DV) : nthD (d :: l) 0 = d := rfl
@[simp] theorem y5 (d : DV) (l : List DV) (n : Nat) : nthD (d :: l) (n + 1) = nthD l n := rfl
@[simp] theorem xN (d : OC) (l : List OC) : nthM (d :: l) 0 = d := rfl
@[simp] theorem qA (d : OC) (l : List OC) (n : Nat) : nthM (d :: l) (n + 1) = nthM l n := rfl
@[simp] theorem wR (d : DV) (l : List DV) : atD (d :: l) 0 = d := rfl
@[simp] theorem vS (d : DV) (l : List DV) (n : Nat) : atD (d :: l) (n + 1) = atD l n := rfl
@[simp] theorem zcj (d : DS) (l : List DS) : dsAt (d :: l) 0 = d := rfl
@[simp] theorem zrs (d : DS) (l : List DS) (n : Nat) : dsAt (d :: l) (n + 1) = dsAt l n := rfl
@[simp] theorem za9 (d : DV) : dsO (.one d) = d := rfl
@[simp] theorem zpS (l : List DV) : dsA (.agg l) = l := rfl
theorem ztB {β : Type} {n : Nat} {l : List DV} (h : l.length = n) (k : List DV → Option β) : bA n (some (.s (.agg l))) k = k l := by subst h; exact zpX l k
@[simp] theorem ztA {β : Type} (r : DA) (k : Option β) : bN (some r) k = k := rfl
@[simp] theorem zsT : okT [] [] = true := rfl
@[simp] theorem zsS (shs : List (Option Nat)) (d : DV) (l : List DS) : okT (none :: shs) (.one d :: l) = okT shs l := rfl
@[simp] theorem zsU (shs : List (Option Nat)) (n : Nat) (ds : List DV) (l : List DS) : okT (some n :: shs) (.agg ds :: l) = (Nat.beq ds.length n && okT shs l) := rfl
@[simp] theorem zl1 (k : IntKind) (n : Int) : pNeg (.int k n) = some (.int k (xK k (-n))) := by
 show some (DV.int k (xK k (0 - n))) = _;rw [Int.zero_sub]
theorem ug {b n : Nat} (hb : b ≤ 4096) (h : n ≤ 1000000000) : fits b n = true := by
 unfold fits;rw [LzC, Nat.ble_eq, Nat.ble_eq];refine ⟨?_, by omega⟩
 have : n * b ≤ 1000000000 * 4096 := Nat.mul_le_mul h hb;show (n * b) * 2 ≤ _;omega
theorem zod (n : Int) : xK .u64 n = n % 18446744073709551616 := wo .u64 n
theorem zlt (n : Int) : xK .u8 n = n % 256 := wo .u8 n
theorem xa {a b : Int} (h1 : -9223372036854775808 ≤ a + b := by omega) (h2 : a + b ≤ 9223372036854775807 := by omega) : pBin .add (I6 a) (I6 b) = some (I6 (a + b)) := zia a b h1 h2
theorem zhL {a b : Int} (h1 : -9223372036854775808 ≤ a - b := by omega) (h2 : a - b ≤ 9223372036854775807 := by omega) : pBin .sub (I6 a) (I6 b) = some (I6 (a - b)) := zh9 a b h1 h2
theorem zft {a b : Int} (h1 : -9223372036854775808 ≤ a * b) (h2 : a * b ≤ 9223372036854775807) : pBin .mul (I6 a) (I6 b) = some (I6 (a * b)) := by rw [zl4, wrap64 h1 h2]
theorem ju {k : IntKind} {a : Int} (h1 : -9223372036854775808 ≤ a := by omega) (h2 : a ≤ 9223372036854775807 := by omega) : yQ .i64 (.int k a) = some (I6 a) := zoO a k h1 h2
theorem zqK (k : IntKind) (a b : Int) : vZ false (.int k a) [.int k b] = some (.int k (min a b)) := by
 simp only [vZ, minD, yU, cond_true, cond_false, uI]
 congr 2
 by_cases h : b < a
 ·rw [decide_eq_true h]; simp only [cond_true]; omega
 ·rw [decide_eq_false h]; simp only [cond_false]; omega
theorem zqL (k : IntKind) (a b : Int) : vZ true (.int k a) [.int k b] = some (.int k (max a b)) := by
 simp only [vZ, minD, yU, cond_true, uI]
 congr 2
 by_cases h : a < b
 ·rw [decide_eq_true h]; simp only [cond_true]; omega
 ·rw [decide_eq_false h]; simp only [cond_false]; omega
attribute [simp] zqK zqL
abbrev Sl (α : Type) := Option (List α)
abbrev Sl.els {α : Type} (s : Sl α) : List α := s.getD []
def enL {α : Type} (st : Nat) (f : α → List DV) : Sl α → DV
 | none => .nils
 | some l => .lst st (l.map f)
section
variable {α : Type} {st : Nat} {f : α → List DV}
@[simp] theorem zsr : enL st f none = .nils := rfl
theorem kI (l : List α) : enL st f (some l) = .lst st (l.map f) := rfl
@[simp] theorem ztt (v : Sl α) : mkL st (v.map (List.map f)) = enL st f v := by cases v <;> rfl
@[simp] theorem zL (v : Sl α) : pLen (enL st f v) = some (I6 (v.els.length : Int)) := by cases v <;> simp [enL]
@[simp] theorem zp9 (v : Sl α) : j4 st (enL st f v) = some (v.els.map f) := by cases v <;> simp [enL]
@[simp] theorem zqJ (v : Sl α) : zcP (enL st f v) = some v.isNone := by cases v <;> rfl
theorem zl2 (k : IntKind) (xs : List (List DV)) (i : Nat) : pIdx st (.lst st xs) (.int k (i : Int)) = xs[i]? := by
 show (bif Nat.beq st st then xs[i]? else none) = _
 rw [Nat.beq_refl]; rfl
theorem u4 (k : IntKind) (v : Sl α) (i : Nat) : pIdx st (enL st f v) (.int k (i : Int)) = (v.els[i]?).map f := by
 cases v with
 | none => rfl
 | some l => rw [kI, zl2, Lz6]; rfl
theorem yL {l : List α} {i : Nat} {x : α} {r : List α} (h : l.drop i = x :: r) : l[i]? = some x := by
 have := List.getElem?_drop (xs := l) (i := i) (j := 0);rw [h] at this
 simpa using this.symm
theorem yO {l : List α} {i : Nat} {x : α} {r : List α} (h : l.drop i = x :: r) : i < l.length := (Lz0.1 (yL h)).1
theorem z6 {l : List α} {i : Nat} {x : α} {r : List α} (h : l.drop i = x :: r) : l.drop (i + 1) = r := by
 rw [← List.drop_drop, h]; rfl
theorem ym {l : List α} {i : Nat} (h : l.drop i = []) : l.length ≤ i := by simpa using h
theorem yb {v : Sl α} {i : Nat} {x : α} {r : List α} (h : v.els.drop i = x :: r) (k : IntKind) : pIdx st (enL st f v) (.int k (i : Int)) = some (f x) := by rw [u4, yL h]; rfl
end
theorem lt_i {i n : Nat} (h : i < n) : decide ((i : Int) < (n : Int)) = true := decide_eq_true (by omega)
theorem x9 {i n : Nat} (h : n ≤ i) : decide ((i : Int) < (n : Int)) = false := decide_eq_false (by omega)
def ocL {α : Type} (f : α → List DV) (v : Sl α) : OC := v.map (List.map f)
section
variable {α : Type} {st : Nat} {f : α → List DV}
@[simp] theorem zso : ocL f (none : Sl α) = none := rfl
@[simp] theorem ub (v : Sl α) : lenO (ocL f v) = v.els.length := by cases v <;> simp [ocL]
@[simp] theorem xU (v : Sl α) : zM (ocL f v) = v.els.map f := by cases v <;> simp [ocL]
@[simp] theorem zfz (v : Sl α) : mkL st (ocL f v) = enL st f v := by cases v <;> rfl
theorem ua (v : Sl α) (x : α) : (some (v.els.map f ++ [f x]) : OC) = ocL f (some (v.els ++ [x])) := by simp [ocL]
end
@[simp] theorem yV {α : Type} (l : List α) : Sl.els (some l) = l := rfl
@[simp] theorem zss {α : Type} : Sl.els (none : Sl α) = [] := rfl
theorem remN {k : IntKind} {a b : Nat} (h : b ≠ 0) : pBin .rem (.int k (a : Int)) (.int k (b : Int)) = some (.int k ((a % b : Nat) : Int)) := by
 rw [q8 k _ _ (by omega)]; rfl
theorem quoN {k : IntKind} {a b : Nat} (h : b ≠ 0) (hw : xK k ((a / b : Nat) : Int) = ((a / b : Nat) : Int)) : pBin .quo (.int k (a : Int)) (.int k (b : Int)) = some (.int k ((a / b : Nat) : Int)) := by
 rw [zl3 k _ _ (by omega)]
 show some (DV.int k (xK k ((a / b : Nat) : Int))) = _;rw [hw]
theorem zgL {k : IntKind} {n i : Nat} (h : i < n) : qQ n (.int k (i : Int)) = some i := by
 show (bif Nat.ble (i + 1) n then some i else none) = _
 rw [Nat.ble_eq_true_of_le h]; rfl
theorem zcQ {k : IntKind} {xs : List (List DV)} {i : Nat} (h : i < xs.length) : qP (some xs) (.int k (i : Int)) = some i := by
 show (bif Nat.ble (i + 1) xs.length then some i else none) = _
 rw [Nat.ble_eq_true_of_le h]; rfl
theorem z5 {f : List DV → List OC → Option PX} {L L' : List DV} {M M' : List OC} (h : f L M = some (.normal, L', M')) : ya f L M = ya f L' M' := by rw [u3, h]
theorem zE {f : List DV → List OC → Option PX} {L L' : List DV} {M M' : List OC} {id : Nat} (h : f L M = some (.exit id, L', M')) : ya f L M = some (.exit id, L', M') := by rw [u3, h]
theorem zD {f : List DV → List OC → Option PX} {L L' : List DV} {M M' : List OC} (h : f L M = some (.ret, L', M')) : ya f L M = some (.ret, L', M') := by rw [u3, h]
end Go.PE
end
noncomputable section
namespace Go.PE
open Go Go.CE
def zgv : List DV → Option (List CVal)
 | [] => some []
 | d :: l => match d.scal, zgv l with | some c, some cs => some (c :: cs) | _, _ => none
def avS : DS → Option SVal
 | .one d => match d.scal with | some c => some (.one c) | none => none
 | .agg ds => match zgv ds with | some cs => some (.agg cs) | none => none
def avs : List DA → Option (List AVal)
 | [] => some []
 | .s d :: l => match avS d, avs l with | some v, some vs => some (.s v :: vs) | _, _ => none
 | .tup _ :: _ => none
def ofC : CVal → Option DV
 | .bool b => some (.bool b)
 | .int k n => some (.int k n)
 | .str s => some (.str s)
 | .nils => some .nils
 | .nilf => some .nilf
 | .nilp => some .nilp
 | .nilm => some .nilm
 | .nili => some .nili
 | _ => none
def ofCs : List CVal → Option (List DV)
 | [] => some []
 | c :: cs => match ofC c, ofCs cs with | some d, some ds => some (d :: ds) | _, _ => none
def ofS : SVal → Option DS
 | .one c => match ofC c with | some d => some (.one d) | none => none
 | .agg cs => match ofCs cs with | some ds => some (.agg ds) | none => none
def ofSs : List SVal → Option (List DS)
 | [] => some []
 | v :: vs => match ofS v, ofSs vs with | some d, some ds => some (d :: ds) | _, _ => none
def ofA : AVal → Option DA
 | .s v => match ofS v with | some d => some (.s d) | none => none
 | .tup vs => match ofSs vs with | some ds => some (.tup ds) | none => none
def sumB (ids : List Nat) (sums : List CE.Sum) : Orc := fun g args =>
 bif ids.any (Nat.beq g) then
  match avs args with
  | some vs => match xA g vs ⟨.z, .nil⟩ sums with | some v => ofA v | none => none
  | none => none
 else none
theorem zbL {d : DV} {c : CVal} (h : d.scal = some c) : xM c = true := by
 cases d <;> simp only [DV.scal] at h <;> first | cases h; rfl | cases h
theorem zg2 {m m' : Mt} {c c' : CVal} (hp : xM c' = true) (h : mC m c c' = some m') : m' = m := by
 unfold mC at h;split at h
 ·cases c' <;> simp [xM] at hp h
 ·cases c' <;> simp [xM] at hp h
 ·cases hb : (xM c && eqV c c') with
  | true => rw [hb] at h; cases h; rfl
  | false => rw [hb] at h; cases h
theorem zei : ∀ {cs cs' : List CVal} {m m' : Mt}, (∀ c ∈ cs', xM c = true) → mCs cs cs' m = some m' → m' = m
 | [], [], _, _, _, h => by cases h; rfl
 | c :: cs, c' :: cs', m, m', hp, h => by
  simp only [mCs] at h;split at h
  ·rename_i m1 h1;rw [zei (fun c hc => hp c (List.mem_cons_of_mem _ hc)) h]
   exact zg2 (hp c' (List.mem_cons_self ..)) h1
  ·cases h
 | [], _ :: _, _, _, _, h => by cases h
 | _ :: _, [], _, _, _, h => by cases h
def plS : SVal → Prop
 | .one c => xM c = true
 | .agg cs => ∀ c ∈ cs, xM c = true
def plA : AVal → Prop
 | .s v => plS v
 | .tup _ => False
theorem zmv {m m' : Mt} {v v' : SVal} (hp : plS v') (h : mS m v v' = some m') : m' = m := by
 cases v <;> cases v' <;> simp only [mS] at h
 ·exact zg2 hp h
 ·cases h
 ·cases h
 ·exact zei hp h
theorem zmw : ∀ {vs vs' : List AVal} {m m' : Mt}, (∀ v ∈ vs', plA v) → mA vs vs' m = some m' → m' = m := by
 intro vs
 induction vs with
 | nil =>
  intro vs' m m' _ h;cases vs' with
  | nil => cases h; rfl
  | cons v l => simp only [mA] at h; cases h
 | cons v vs ih =>
  intro vs' m m' hp h;cases vs' with
  | nil => cases v <;> cases h
  | cons v' vs' =>
   cases v with
   | tup l => cases h
   | s v =>
    cases v' with
    | tup l => cases h
    | s v' =>
     simp only [mA] at h;split at h
     ·rename_i m1 h1;rw [ih (fun c hc => hp c (List.mem_cons_of_mem _ hc)) h]
      exact zmv (hp (.s v') (List.mem_cons_self ..)) h1
     ·cases h
theorem zkJ {s : CE.Sum} {vs : List AVal} (hp : ∀ v ∈ vs, plA v) (h h' : AHeap) : s.fits vs h = s.fits vs h' := by
 unfold Sum.fits;cases hm : mA s.args vs ⟨.nil, .nil, []⟩ with
 | none => rfl
 | some m => rw [zmw hp hm]; rfl
theorem qH {g : Nat} {vs : List AVal} (hp : ∀ v ∈ vs, plA v) (h h' : AHeap) : ∀ l : List CE.Sum, xA g vs h l = xA g vs h' l
 | [] => rfl
 | s :: l => by simp only [xA, zkJ hp h h', qH hp h h' l]
theorem zdS {fz : BN → Prop} {h : AHeap} : ∀ {ds : List DV} {cs cs' : List CVal}, zgv ds = some cs' → RepL fz h cs ds → cs = cs' ∧ ∀ c ∈ cs', xM c = true
 | [], cs, cs', e, H => by
  cases e;have := H.1;exact ⟨List.length_eq_zero_iff.1 (by simpa using this), fun c hc => by cases hc⟩
 | d :: ds, cs, cs', e, H => by
  simp only [zgv] at e;split at e
  ·rename_i c1 cs1 h1 h2;cases e;cases cs with
   | nil => have := H.1; simp at this
   | cons c cs =>
    obtain ⟨ha, hb⟩ := H.inv;obtain ⟨k1, k2⟩ := zdS h2 hb;refine ⟨by rw [ha.scal h1, k1], fun x hx => ?_⟩
    rcases List.mem_cons.1 hx with rfl | hx
    ·exact zbL h1
    ·exact k2 x hx
  ·cases e
theorem zrC {fz : BN → Prop} {h : AHeap} {d : DS} {v v' : SVal} (e : avS d = some v') (H : RepS fz h v d) : v = v' ∧ plS v' := by
 cases d with
 | one d =>
  simp only [avS] at e;split at e
  ·rename_i c hc;cases e;cases v with
   | one x => exact ⟨by rw [Rep.scal H hc], zbL hc⟩
   | agg l => exact H.elim
  ·cases e
 | agg ds =>
  simp only [avS] at e;split at e
  ·rename_i cs hc;cases e;cases v with
   | one x => exact H.elim
   | agg l => obtain ⟨k1, k2⟩ := zdS hc H; exact ⟨by rw [k1], k2⟩
  ·cases e
theorem znK {fz : BN → Prop} {h : AHeap} : ∀ {ds : List DA} {vs vs' : List AVal}, avs ds = some vs' → RepAL fz h vs ds → vs = vs' ∧ ∀ v ∈ vs', plA v
 | [], vs, vs', e, H => by
  cases e;cases vs with
  | nil => exact ⟨rfl, fun v hv => by cases hv⟩
  | cons v l => exact H.elim
 | .tup _ :: _, _, _, e, _ => by cases e
 | .s d :: ds, vs, vs', e, H => by
  simp only [avs] at e;split at e
  ·rename_i v1 vs1 h1 h2;cases e;cases vs with
   | nil => exact H.elim
   | cons v vs =>
    obtain ⟨ha, hb⟩ := H;obtain ⟨w, rfl, hw⟩ := RepA.inv ha;obtain ⟨k1, k2⟩ := znK h2 hb;obtain ⟨k3, k4⟩ := zrC h1 hw;refine ⟨by rw [k1, k3], fun x hx => ?_⟩
    rcases List.mem_cons.1 hx with rfl | hx
    ·exact k4
    ·exact k2 x hx
  ·cases e
theorem znp {fz : BN → Prop} {h : AHeap} {c : CVal} {d : DV} (e : ofC c = some d) : Rep fz h c d := by
 cases c <;> simp only [ofC] at e <;> cases e
 ·exact .bool _
 ·exact .int _ _
 ·exact .str _
 ·exact .nilp
 ·exact .nils
 ·exact .nilm
 ·exact .nilf
 ·exact .nili
theorem zjK {fz : BN → Prop} {h : AHeap} : ∀ {cs : List CVal} {ds : List DV}, ofCs cs = some ds → RepL fz h cs ds
 | [], _, e => by cases e; exact RepL.nil _ _
 | c :: cs, ds, e => by
  simp only [ofCs] at e;split at e
  ·rename_i d1 ds1 h1 h2; cases e; exact RepL.cons (znp h1) (zjK h2)
  ·cases e
theorem zno {fz : BN → Prop} {h : AHeap} {v : SVal} {d : DS} (e : ofS v = some d) : RepS fz h v d := by
 cases v <;> simp only [ofS] at e <;> split at e
 ·rename_i h1; cases e; exact znp h1
 ·cases e
 ·rename_i h1; cases e; exact zjK h1
 ·cases e
theorem zjJ {fz : BN → Prop} {h : AHeap} : ∀ {vs : List SVal} {ds : List DS}, ofSs vs = some ds → RepSL fz h vs ds
 | [], _, e => by cases e; trivial
 | c :: cs, ds, e => by
  simp only [ofSs] at e;split at e
  ·rename_i d1 ds1 h1 h2; cases e; exact ⟨zno h1, zjJ h2⟩
  ·cases e
theorem zqO {fz : BN → Prop} {h : AHeap} {v : AVal} {d : DA} (e : ofA v = some d) : RepA fz h v d := by
 cases v <;> simp only [ofA] at e <;> split at e
 ·rename_i h1; cases e; exact zno h1
 ·cases e
 ·rename_i h1; cases e; exact zjJ h1
 ·cases e
theorem zop {P : Program} {ids : List Nat} {sums : List CE.Sum} : jj (sumB ids sums) (fun n => yk (zW P) (cFs (xJ P)) sums n) := by
 intro g args res e fz h vs hw hfz H;unfold sumB at e;cases hi : ids.any (Nat.beq g) with
 | false => rw [hi] at e; cases e
 | true =>
  rw [hi] at e;simp only [cond_true] at e;split at e
  ·rename_i vs' hvs;split at e
   ·rename_i v hv;obtain ⟨rfl, hp⟩ := znK hvs H;rw [qH hp _ h] at hv;refine (Ev.sum hv).mono ?_
    rintro _ rfl
    exact ⟨hw, .refl h, zqO e⟩
   ·cases e
  ·cases e
end Go.PE
end
section
namespace Go.PE
open Go Go.CE Go.RowKit
section
variable {P : Program} {sums : List CE.Sum} {O : Orc}
theorem zm2 (hs : ∀ s ∈ sums, qr P s) (hO : jj O (fun n => yk (zW P) (cFs (xJ P)) sums n)) {w : World} (hG : GOk w) {g : Nat} {vs : List AVal} {ds : List DA}
  (hr : RepAL (fun b => b.toNat < (z9 w).n.toNat) (z9 w) vs ds) (hw : ∀ x ∈ vs, wfA (φ0 w) (z9 w).n.toNat x) {b : Bool} (e : O g ds = some (.s (.one (.bool b)))) :
  CallsIn (FR none) 0 P g (vs.map (zo (φ0 w))).toArray w (fun e w2 => e = .returned (.bool b) ∧ Below w.heap.size w w2) := by
 obtain ⟨⟨v, h2⟩, ⟨_, hg, hv⟩, N, hN⟩ := hO g ds _ e (fun b => b.toNat < (z9 w).n.toNat) (z9 w) vs (zer w) (fun b hb => hb) hr
 refine (zf6 w (zdy (zju P) hs N) hG hw (hN N (LzB _)) hg).mono ?_
 rintro e9 w9 ⟨φ, rfl, hb⟩
 obtain ⟨v', hv', h1⟩ := RepA.inv hv;simp only at hv';subst hv';cases v' with
 | agg l => exact h1.elim
 | one c => rw [Rep.scal h1 rfl]; exact ⟨rfl, hb⟩
end
end Go.PE
end
section
namespace Go.PE
open Go Go.CE Go.RowKit
def zeF (P : Program) : List Field → Nat → Option Nat
 | [], o => some o
 | f :: l, o => bif Nat.beq f.offset o then zeF P l (o + P.cellsOf f.type) else none
def qc (P : Program) : Nat → TypeId → Bool
 | 0, _ => false
 | n + 1, t =>
  match P.underlying t with
  | some .bool => Nat.beq (P.cellsOf t) 1
  | some (.int _) => Nat.beq (P.cellsOf t) 1
  | some .string => Nat.beq (P.cellsOf t) 1
  | some (.slice e) => qc P n e && Nat.ble 1 (P.cellsOf e) && Nat.beq (P.cellsOf t) 1
  | some (.struct fs) => (fs.toList.all fun f => qc P n f.type) && (match zeF P fs.toList 0 with | some m => Nat.beq m (P.cellsOf t) | none => false)
  | some (.array k e) => qc P n e && Nat.beq (P.cellsOf t) (k * P.cellsOf e)
  | _ => false
def TyFs (T : TypeId → List DV → Prop) : List TypeId → List DV → Prop
 | [], ds => ds = []
 | t :: l, ds => ∃ a b, ds = a ++ b ∧ T t a ∧ TyFs T l b
def Ty (P : Program) : Nat → TypeId → List DV → Prop
 | 0, _, _ => False
 | n + 1, t, ds =>
  match P.underlying t with
  | some .bool => ∃ b, ds = [.bool b]
  | some (.int k) => ∃ m, ds = [.int k m] ∧ (Lit.int k m).wf = true
  | some .string => ∃ s, ds = [.str s] ∧ s.size ≤ maxLen
  | some (.slice e) => ds = [.nils] ∨ ∃ xs, ds = [.lst (P.cellsOf e) xs] ∧ xs.length ≤ maxLen ∧ ∀ x ∈ xs, Ty P n e x
  | some (.struct fs) => TyFs (Ty P n) (fs.toList.map (·.type)) ds
  | some (.array k e) => TyFs (Ty P n) (List.replicate k e) ds
  | _ => False
def AbsL (w : World) (cs : List Value) (vs : List CVal) : Prop := cs.map (absV w) = vs.map some
theorem AbsL.len {w : World} {cs : List Value} {vs : List CVal} (h : AbsL w cs vs) : cs.length = vs.length := by have := congrArg List.length h; simpa using this
theorem AbsL.get {w : World} {cs : List Value} {vs : List CVal} (h : AbsL w cs vs) {i : Nat} {v : Value} (hi : cs[i]? = some v) : ∃ c, vs[i]? = some c ∧ absV w v = some c := by
 have := congrArg (·[i]?) h;simp only [Lz6, hi, Option.map_some] at this;cases hv : vs[i]? with
 | none => rw [hv] at this; cases this
 | some c => rw [hv] at this; exact ⟨c, rfl, by simpa using this⟩
theorem AbsL.app {w : World} {a b : List Value} {x y : List CVal} (h : AbsL w a x) (k : AbsL w b y) : AbsL w (a ++ b) (x ++ y) := by
 unfold AbsL at *; rw [List.map_append, List.map_append, h, k]
theorem AbsL.conc {w : World} : ∀ {cs : List Value} {vs : List CVal}, AbsL w cs vs → vs.map (zi (φ0 w)) = cs ∧ ∀ c ∈ vs, wfC (φ0 w) (z9 w).n.toNat c
 | [], [], _ => ⟨rfl, fun c h => by cases h⟩
 | v :: cs, c :: vs, h => by
  simp only [AbsL, List.map_cons, List.cons.injEq] at h;obtain ⟨k1, k2⟩ := zn9 w h.1;obtain ⟨k3, k4⟩ := AbsL.conc (show AbsL w cs vs from h.2)
  refine ⟨by rw [List.map_cons, k1, k3], fun x hx => ?_⟩
  rcases List.mem_cons.1 hx with rfl | hx
  ·exact k2
  ·exact k4 x hx
 | [], _ :: _, h => by cases h
 | _ :: _, [], h => by cases h
def okV (w : World) (v : Value) : Prop := ∀ a, v = .slice (some a) 0 0 → (qT w a.block = true ∧ a.spot = none) ∨ a ∈ odds w
theorem zgP {w : World} {a : Addr} {v : Value} (h : w.cell? a = some v) : okV w v ∧ a.spot = none ∧ ∃ arr e fr, w.heap[a.block]? = some (.cells arr e fr) ∧ arr[a.off]? = some v := by
 have key : a.spot = none ∧ ∃ arr e fr, w.heap[a.block]? = some (.cells arr e fr) ∧ arr[a.off]? = some v := by
  unfold World.cell? at h;split at h
  ·rename_i arr e fr hx;split at h
   ·cases h
   ·rename_i hs; exact ⟨by simpa using hs, arr, e, fr, hx, h⟩
  ·cases h
 obtain ⟨h1, arr, e, fr, h2, h3⟩ := key;exact ⟨fun b hb => by subst hb; exact .inr (zmc h2 h3), h1, arr, e, fr, h2, h3⟩
theorem zg0 {α β : Type} {f : α → Option β} : ∀ {l : List α} {r : List β}, l.mapM f = some r → r.length = l.length ∧ ∀ (i : Nat) (x : α), l[i]? = some x → ∃ y, r[i]? = some y ∧ f x = some y
 | [], r, h => by simp at h; subst h; exact ⟨rfl, fun i x hi => by simp at hi⟩
 | a :: l, r, h => by
  simp only [List.mapM_cons, Option.bind_eq_bind, Option.bind_eq_some_iff, Option.pure_def, Option.some.injEq] at h;obtain ⟨b, hb, bs, hbs, rfl⟩ := h;obtain ⟨k1, k2⟩ := zg0 hbs;refine ⟨by simp [k1], fun i x hi => ?_⟩
  cases i with
  | zero => simp at hi; subst hi; exact ⟨b, rfl, hb⟩
  | succ i => simp at hi; obtain ⟨y, h1, h2⟩ := k2 i x hi; exact ⟨y, by simpa using h1, h2⟩
section
variable {H : Type} {enc : TypeId × Value → H} {P : Program} {w : World} {base : Nat} {held : Bool}
def zhF (P : Program) (w : World) (m : Nat) (t : TypeId) (cs : List Value) : Prop :=
 ∃ vs ds, AbsL w cs vs ∧ RepL (fun b => b.toNat < (z9 w).n.toNat) (z9 w) vs ds ∧ Ty P m t ds
theorem zeK {a : Addr} {n : Nat} {cs : List Value} (h : w.cells? base a n = some cs) : cs.length = n ∧ ∀ j, j < n → ∃ v, cs[j]? = some v ∧ w.cell? (a.add j) = some v := by
 unfold World.cells? at h;split at h
 ·obtain ⟨k1, k2⟩ := zg0 h;refine ⟨by simpa using k1, fun j hj => ?_⟩
  exact k2 j j (by rw [List.getElem?_range hj])
 ·cases h
theorem zao {a : Addr} {len cap st : Nat} (hst : 1 ≤ st) (hlc : len ≤ cap) {arr : Array Value} {e : TypeId} {fr : Nat × Nat} (hb : w.heap[a.block]? = some (.cells arr e fr)) (hsp : a.spot = none)
  (C : Nat → List CVal) (X : Nat → List DV) (hC : ∀ i, i < len → (C i).length = st ∧ (X i).length = st ∧ (∀ j c, (C i)[j]? = some c → (arr[a.off + (i * st + j)]?).bind (absV w) = some c) ∧ RepL (fun b => b.toNat < (z9 w).n.toNat) (z9 w) (C i) (X i)) :
  ∃ c, absV w (.slice (some a) len cap) = some c ∧ Rep (fun b => b.toNat < (z9 w).n.toNat) (z9 w) c (.lst st ((List.range len).map X)) := by
 have hd : qT w a.block = true := by unfold qT; rw [hb]
 have hlt := zhs hd;refine ⟨.slc (bn a.block) a.off len cap true, ?_, ?_⟩
 ·show (bif decide (qT w a.block = true ∧ a.spot = none ∧ len ≤ cap) then _ else _) = _
  rw [decide_eq_true ⟨hd, hsp, hlc⟩]; rfl
 ·have hg : (z9 w).t.get (bn a.block) = some (roOf w (.cells arr e fr)) := qD w (by rw [zO]; exact hb)
  let L := (List.range (len * st)).map fun j => ((C (j / st))[j % st]?).getD .nilp
  have hLl : L.length = len * st := by simp [L]
  have hLg : ∀ i j, i < len → j < st → ∃ c, L[i * st + j]? = some c ∧ (C i)[j]? = some c := fun i j hi hj => by
   obtain ⟨c, hc⟩ : ∃ c, (C i)[j]? = some c := ⟨_, Lz5 (by rw [(hC i hi).1]; exact hj)⟩
   refine ⟨c, ?_, hc⟩;have h1 : i * st + j < len * st := by
    have : (i + 1) * st ≤ len * st := Nat.mul_le_mul_right st hi;rw [Nat.succ_mul] at this; omega
   have e1 : (i * st + j) / st = i := by rw [Nat.mul_comm, Nat.mul_add_div (by omega), Nat.div_eq_of_lt hj, Nat.add_zero]
   have e2 : (i * st + j) % st = j := by rw [Nat.mul_comm, Nat.mul_add_mod, Nat.mod_eq_of_lt hj]
   simp only [L, Lz6, List.getElem?_range h1, Option.map_some, e1, e2, hc, Option.getD_some]
  have hrd : rd (((List.range len).map X).length * st) a.off (roOf w (.cells arr e fr)) = some L := by
   rw [List.length_map, List.length_range];refine zf0 hLl fun j c hj => ?_
   have hjl : j < len * st := by rw [← hLl]; exact (Lz0.1 hj).1
   have hi : j / st < len := Nat.div_lt_of_lt_mul (by rw [Nat.mul_comm]; exact hjl)
   have hr : j % st < st := Nat.mod_lt _ (by omega)
   have hj' : j / st * st + j % st = j := by rw [Nat.mul_comm]; exact Nat.div_add_mod j st
   obtain ⟨c', k1, k2⟩ := hLg (j / st) (j % st) hi hr;rw [hj', hj] at k1;cases k1;have := (hC _ hi).2.2.1 _ _ k2;rw [hj'] at this;exact this
  have hX : ∀ (i : Nat) (x : List DV), ((List.range len).map X)[i]? = some x → i < len ∧ x = X i := fun i x hx => by
   rw [Lz6] at hx;cases hr : (List.range len)[i]? with
   | none => rw [hr] at hx; cases hx
   | some q =>
    rw [hr] at hx;have hi : i < len := by have := (Lz0.1 hr).1; simpa using this
    rw [List.getElem?_range hi] at hr;cases hr;cases hx;exact ⟨hi, rfl⟩
  have := Rep.lst (fz := fun b => b.toNat < (z9 w).n.toNat) (h := z9 w) (b := bn a.block) (o := roOf w (.cells arr e fr)) (off := a.off) (cap := cap) (ex := true) (st := st) (xs := (List.range len).map X) L
   (by rw [zO, kq]; omega) hg (fun _ => by simpa using hlc) hrd (fun i x hx => by obtain ⟨hi, rfl⟩ := hX i x hx; exact (hC i hi).2.1)
   (fun i x j c d hx hc hd => by
    obtain ⟨hi, rfl⟩ := hX i x hx;have hj : j < st := by rw [← (hC i hi).2.1]; exact (Lz0.1 hd).1
    obtain ⟨c', k1, k2⟩ := hLg i j hi hj;rw [hc] at k1;cases k1;exact (hC i hi).2.2.2.2 j c d k2 hd)
  rw [List.length_map, List.length_range] at this;exact this
theorem zeQ {m n : Nat} {held : Bool} (ih : ∀ {t : TypeId} {cs : List Value} {x : DataW H × List MemPlace}, qc P m t = true → DataW.trod enc P w base (fun _ => true) held n t cs = some x → (∀ v ∈ cs, okV w v) → zhF P w m t cs ∧ cs.length = P.cellsOf t) :
  ∀ (fs : List Field) (o e : Nat) (cs : List Value), (fs.all fun f => qc P m f.type) = true → zeF P fs o = some e → e = cs.length → o ≤ e →
   (∀ f ∈ fs, ∃ y, DataW.trod enc P w base (fun _ => true) held n f.type ((cs.drop f.offset).take (P.cellsOf f.type)) = some y) → (∀ v ∈ cs, okV w v) →
   ∃ vs ds, AbsL w (cs.drop o) vs ∧ RepL (fun b => b.toNat < (z9 w).n.toNat) (z9 w) vs ds ∧ TyFs (Ty P m) (fs.map (·.type)) ds
 | [], o, e, cs, _, hc, he, _, _, _ => by
  cases hc;subst he;exact ⟨[], [], by simp [AbsL], RepL.nil _ _, rfl⟩
 | f :: fs, o, e, cs, hd, hc, he, hle, hm, hok => by
  simp only [List.all_cons, LzC] at hd;simp only [zeF] at hc;cases hb : Nat.beq f.offset o with
  | false => rw [hb] at hc; cases hc
  | true =>
   rw [hb, cond_true] at hc;have ho := Lz1 hb;obtain ⟨x, hx⟩ := hm f (List.mem_cons_self ..);rw [ho] at hx;obtain ⟨⟨v1, d1, a1, r1, t1⟩, hl⟩ := ih hd.1 hx (fun v hv => hok v (List.mem_of_mem_drop (List.mem_of_mem_take hv)))
   have hle2 : o + P.cellsOf f.type ≤ cs.length := by
    simp only [List.length_take, List.length_drop] at hl;rcases Nat.eq_zero_or_pos (P.cellsOf f.type) with h0 | h0
    ·omega
    ·omega
   obtain ⟨v2, d2, a2, r2, t2⟩ := zeQ ih fs (o + P.cellsOf f.type) e cs hd.2 hc he (by omega) (fun g hg => hm g (List.mem_cons_of_mem _ hg)) hok
   refine ⟨v1 ++ v2, d1 ++ d2, ?_, r1.app r2, d1, d2, rfl, t1, t2⟩;have : cs.drop o = (cs.drop o).take (P.cellsOf f.type) ++ cs.drop (o + P.cellsOf f.type) := by
    rw [← List.drop_drop, List.take_append_drop]
   rw [this];exact a1.app a2
theorem zhE {m n : Nat} {held : Bool} {e : TypeId} (ih : ∀ {t : TypeId} {cs : List Value} {x : DataW H × List MemPlace}, qc P m t = true → DataW.trod enc P w base (fun _ => true) held n t cs = some x → (∀ v ∈ cs, okV w v) → zhF P w m t cs ∧ cs.length = P.cellsOf t)
  (hd : qc P m e = true) : ∀ (k : Nat) (cs : List Value), cs.length = k * P.cellsOf e → (∀ i, i < k → ∃ x, DataW.trod enc P w base (fun _ => true) held n e ((cs.drop (i * P.cellsOf e)).take (P.cellsOf e)) = some x) → (∀ v ∈ cs, okV w v) →
   ∃ vs ds, AbsL w cs vs ∧ RepL (fun b => b.toNat < (z9 w).n.toNat) (z9 w) vs ds ∧ TyFs (Ty P m) (List.replicate k e) ds
 | 0, cs, hl, _, _ => by
  have : cs = [] := List.length_eq_zero_iff.1 (by simpa using hl)
  subst this;exact ⟨[], [], by simp [AbsL], RepL.nil _ _, rfl⟩
 | k + 1, cs, hl, hx, hok => by
  obtain ⟨x, h0⟩ := hx 0 (by omega)
  rw [Nat.zero_mul, List.drop_zero] at h0;obtain ⟨⟨v1, d1, a1, r1, t1⟩, _⟩ := ih hd h0 (fun v hv => hok v (List.mem_of_mem_take hv))
  rw [Nat.succ_mul] at hl;obtain ⟨v2, d2, a2, r2, t2⟩ := zhE ih hd k (cs.drop (P.cellsOf e)) (by simp; omega) (fun i hi => by
   obtain ⟨y, hy⟩ := hx (i + 1) (by omega)
   refine ⟨y, ?_⟩;rw [List.drop_drop, show P.cellsOf e + i * P.cellsOf e = (i + 1) * P.cellsOf e by rw [Nat.succ_mul, Nat.add_comm]]
   exact hy) (fun v hv => hok v (List.mem_of_mem_drop hv))
  refine ⟨v1 ++ v2, d1 ++ d2, ?_, r1.app r2, d1, d2, rfl, t1, t2⟩;rw [← List.take_append_drop (P.cellsOf e) cs];exact a1.app a2
theorem zaD : ∀ (m : Nat) {q : Nat} {t : TypeId} {cs : List Value} {x : DataW H × List MemPlace}, qc P m t = true → DataW.trod enc P w base (fun _ => true) held q t cs = some x → (∀ v ∈ cs, okV w v) → zhF P w m t cs ∧ cs.length = P.cellsOf t
 | 0, _, _, _, _, h, _, _ => by cases h
 | m + 1, fu, t, cs, x, hd, ht, hok => by
  have ih := @zaD m;unfold qc at hd;unfold zhF;unfold Ty;cases hu : P.underlying t with
  | none => rw [hu] at hd; cases hd
  | some d =>
   rw [hu] at hd;cases d <;> first | (cases (show false = true from hd); done) | skip
   case bool =>
    have h1 := Lz1 hd;obtain ⟨b, rfl, _⟩ := DataW.trod_bool hu ht;exact ⟨⟨[_], [_], rfl, RepL.cons (.bool _) (RepL.nil _ _), b, rfl⟩, h1.symm⟩
   case int k =>
    have h1 := Lz1 hd;obtain ⟨n, rfl, _, hw⟩ := DataW.trod_int hu ht;exact ⟨⟨[_], [_], rfl, RepL.cons (.int _ _) (RepL.nil _ _), n, rfl, hw⟩, h1.symm⟩
   case string =>
    have h1 := Lz1 hd;obtain ⟨s, rfl, _, hw⟩ := DataW.trod_string hu ht;exact ⟨⟨[_], [_], rfl, RepL.cons (.str _) (RepL.nil _ _), s, rfl, hw⟩, h1.symm⟩
   case slice e =>
    simp only [LzC] at hd;obtain ⟨⟨hd1, hst⟩, hc1⟩ := hd;have hst := Lz4 hst;have hc1 := Lz1 hc1;rcases DataW.trod_slice hu ht with ⟨rfl, _⟩ | ⟨a, len, cap, elems, rest, n, hn, rfl, _, _, hlc, hcap, hel, hE, hR, _⟩
    ·exact ⟨⟨[_], [_], rfl, RepL.cons .nils (RepL.nil _ _), .inl rfl⟩, hc1.symm⟩
    ·subst hn;have hok := hok _ (List.mem_cons_self ..);refine ⟨?_, hc1.symm⟩;have one : ∀ i, i < len → ∃ vs ds, (vs.length = P.cellsOf e ∧ ds.length = P.cellsOf e ∧ (∀ j c, vs[j]? = some c → ∃ v, w.cell? ((a.add (i * P.cellsOf e)).add j) = some v ∧ absV w v = some c)) ∧ RepL (fun b => b.toNat < (z9 w).n.toNat) (z9 w) vs ds ∧ Ty P m e ds := fun i hi => by
      have h := hE i hi;obtain ⟨y, hy⟩ : ∃ y, elems[i]? = some y := ⟨_, Lz5 (by omega)⟩
      rw [hy, Option.bind_eq_some_iff] at h;obtain ⟨cs, h1, h2⟩ := h;obtain ⟨k1, k2⟩ := zeK h1;obtain ⟨⟨vs, ds, a1, r1, t1⟩, hl⟩ := ih hd1 h2 (fun v hv => by
       obtain ⟨j, hj⟩ := List.mem_iff_getElem?.1 hv;obtain ⟨v', g1, g2⟩ := k2 j (by rw [← k1]; exact (Lz0.1 hj).1)
       rw [hj] at g1;cases g1;exact (zgP g2).1)
      refine ⟨vs, ds, ⟨by rw [← a1.len, hl], by rw [← r1.1, ← a1.len, hl], fun j c hj => ?_⟩, r1, t1⟩
      obtain ⟨v', g1, g2⟩ := k2 j (by rw [← k1, a1.len]; exact (Lz0.1 hj).1)
      obtain ⟨c', q1, q2⟩ := a1.get g1;rw [hj] at q1;cases q1;exact ⟨v', g2, q2⟩
     by_cases hc0 : cap = 0
     ·have hl0 : len = 0 := by omega
      subst hc0 hl0;rcases hok a rfl with ⟨hdb, hsp⟩ | hm
      ·obtain ⟨arr, el, fr, hb⟩ := zba hdb;obtain ⟨c, q1, q2⟩ := zao (len := 0) (cap := 0) hst (LzB _) hb hsp (fun _ => []) (fun _ => []) (fun i hi => by omega)
       exact ⟨[c], [.lst (P.cellsOf e) []], by simp only [AbsL, List.map_cons, List.map_nil, q1], RepL.cons q2 (RepL.nil _ _), .inr ⟨[], rfl, by simp, fun x hx => by cases hx⟩⟩
      ·by_cases hdb : qT w a.block = true ∧ a.spot = none
       ·obtain ⟨arr, el, fr, hb⟩ := zba hdb.1;obtain ⟨c, q1, q2⟩ := zao (len := 0) (cap := 0) hst (LzB _) hb hdb.2 (fun _ => []) (fun _ => []) (fun i hi => by omega)
        exact ⟨[c], [.lst (P.cellsOf e) []], by simp only [AbsL, List.map_cons, List.map_nil, q1], RepL.cons q2 (RepL.nil _ _), .inr ⟨[], rfl, by simp, fun x hx => by cases hx⟩⟩
       ·have hi := zc9 hm;have hlt := (Lz0.1 hi).1;refine ⟨[.slc (bn (w.heap.size + idxA a (odds w))) 0 0 0 true], [.lst (P.cellsOf e) []], ?_, RepL.cons ?_ (RepL.nil _ _), .inr ⟨[], rfl, by simp, fun x hx => by cases hx⟩⟩
        ·have : absV w (.slice (some a) 0 0) = some (.slc (bn (w.heap.size + idxA a (odds w))) 0 0 0 true) := by
          show (bif decide (qT w a.block = true ∧ a.spot = none ∧ 0 ≤ 0) then _ else bif decide (0 = 0 ∧ 0 = 0 ∧ a ∈ odds w) then _ else _) = _
          rw [decide_eq_false (fun hh => hdb ⟨hh.1, hh.2.1⟩), decide_eq_true ⟨rfl, rfl, hm⟩]; rfl
         simp only [AbsL, List.map_cons, List.map_nil, this]
        ·exact Rep.lst (o := .void) (xs := []) [] (by rw [zO, kq]; omega) (zit w hlt) (fun _ => LzB _) (by simp [rd]) (fun i x hx => by simp at hx) (fun i x j c d hx => by simp at hx)
     ·
      have hthere : a.spot = none ∧ ∃ arr el fr, w.heap[a.block]? = some (.cells arr el fr) := by
       have go : ∀ cs, w.cells? base (a.add (0 * P.cellsOf e)) (P.cellsOf e) = some cs → a.spot = none ∧ ∃ arr el fr, w.heap[a.block]? = some (.cells arr el fr) := fun cs h => by
        obtain ⟨v, _, g2⟩ := (zeK h).2 0 (by omega)
        have e0 : (a.add (0 * P.cellsOf e)).add 0 = a := by rw [Nat.zero_mul]; rfl
        rw [e0] at g2;obtain ⟨_, g3, arr, el, fr, g4, _⟩ := zgP g2;exact ⟨g3, arr, el, fr, g4⟩
       by_cases hl0 : 0 < len
       ·have h := hE 0 hl0;obtain ⟨y, hy⟩ : ∃ y, elems[0]? = some y := ⟨_, Lz5 (by omega)⟩
        rw [hy, Option.bind_eq_some_iff] at h;obtain ⟨cs, h1, _⟩ := h;exact go cs h1
       ·obtain ⟨hrl, hr⟩ := hR rfl;have h := hr 0 (by omega)
        obtain ⟨y, hy⟩ : ∃ y, rest[0]? = some y := ⟨_, Lz5 (by omega)⟩
        rw [hy, Option.bind_eq_some_iff] at h;obtain ⟨cs, h1, _⟩ := h;rw [show len + 0 = 0 by omega] at h1
        exact go cs h1
      obtain ⟨hsp, arr, el, fr, hb⟩ := hthere;have hch : ∃ (C : Nat → List CVal) (X : Nat → List DV), ∀ i, i < len → ((C i).length = P.cellsOf e ∧ (X i).length = P.cellsOf e ∧ (∀ j c, (C i)[j]? = some c → ∃ v, w.cell? ((a.add (i * P.cellsOf e)).add j) = some v ∧ absV w v = some c)) ∧ RepL (fun b => b.toNat < (z9 w).n.toNat) (z9 w) (C i) (X i) ∧ Ty P m e (X i) := by
       have : ∀ i : Nat, ∃ q : List CVal × List DV, i < len → (q.1.length = P.cellsOf e ∧ q.2.length = P.cellsOf e ∧ (∀ j c, q.1[j]? = some c → ∃ v, w.cell? ((a.add (i * P.cellsOf e)).add j) = some v ∧ absV w v = some c)) ∧ RepL (fun b => b.toNat < (z9 w).n.toNat) (z9 w) q.1 q.2 ∧ Ty P m e q.2 := fun i => by
        by_cases hi : i < len
        ·obtain ⟨vs, ds, h1, h2, h3⟩ := one i hi; exact ⟨(vs, ds), fun _ => ⟨h1, h2, h3⟩⟩
        ·exact ⟨([], []), fun h => absurd h hi⟩
       obtain ⟨q, hq⟩ := Classical.axiomOfChoice this;exact ⟨fun i => (q i).1, fun i => (q i).2, hq⟩
      obtain ⟨C, X, hCX⟩ := hch;obtain ⟨c, q1, q2⟩ := zao hst hlc hb hsp C X (fun i hi => by
       obtain ⟨⟨g1, g2, g3⟩, g4, _⟩ := hCX i hi;refine ⟨g1, g2, fun j c hj => ?_, g4⟩
       obtain ⟨v, k1, k2⟩ := g3 j c hj;have e1 : (a.add (i * P.cellsOf e)).add j = ⟨a.block, a.off + (i * P.cellsOf e + j), none⟩ := by
        obtain ⟨ab, ao, as⟩ := a;simp only at hsp;subst hsp;unfold Addr.add;split <;> split <;> simp_all [Nat.add_assoc]
       rw [e1] at k1;obtain ⟨arr2, el2, fr2, z1, z2⟩ := zhx k1;rw [hb] at z1;cases z1;rw [z2];exact k2)
      refine ⟨[c], [.lst (P.cellsOf e) ((List.range len).map X)], by simp only [AbsL, List.map_cons, List.map_nil, q1], RepL.cons q2 (RepL.nil _ _), .inr ⟨_, rfl, by simp; omega, fun x hx => ?_⟩⟩
      obtain ⟨i, hi, rfl⟩ := List.mem_map.1 hx;exact (hCX i (by simpa using hi)).2.2
   case struct fs =>
    simp only [LzC] at hd;obtain ⟨xs, n, hn, _, hl, hxl, hx⟩ := DataW.trod_struct hu ht;subst hn;refine ⟨?_, hl⟩;cases hc : zeF P fs.toList 0 with
    | none => rw [hc] at hd; cases hd.2
    | some q =>
     rw [hc] at hd;have hq := Lz1 hd.2;have := zeQ (held := held) (fun a b c => ih a b c) fs.toList 0 q cs hd.1 hc (by rw [hq, hl]) (Nat.zero_le _) (fun f hf => by
      obtain ⟨i, hi⟩ := List.mem_iff_getElem?.1 hf;have h1 := hx i f (by rw [← LzA]; exact hi)
      have hlt : i < xs.length := by rw [hxl]; have := (Lz0.1 hi).1; simpa using this
      exact ⟨_, h1.trans (Lz5 hlt)⟩) hok
     rw [List.drop_zero] at this;exact this
   case array k e =>
    simp only [LzC] at hd;obtain ⟨xs, n, hn, _, hl, hxl, hx⟩ := DataW.trod_array hu ht;subst hn;refine ⟨?_, hl⟩;exact zhE (held := held) (fun a b c => ih a b c) hd.1 k cs (by rw [hl]; exact Lz1 hd.2) (fun i hi => ⟨_, (hx i hi).trans (Lz5 (by omega))⟩) hok
theorem zjH {P : Program} {w : World} {base : Nat} {t : TypeId} {v : Value} (h : Cell.okWide P w .any base t v) : okV w v := by
 intro a ha;subst ha
 left
 have h : Cell.ok P w .any base t (.slice (some a) 0 0) := by
  unfold Cell.okWide at h;split at h <;> first | (rename_i hh; cases hh; done) | skip
  all_goals first | exact h | (exfalso; simp_all)
 unfold Cell.ok at h;split at h <;> first | (rename_i hh; cases hh; done) | skip
 all_goals simp_all
 obtain ⟨_, _, _, h1, row, cells, h2, _⟩ := h;refine ⟨?_, h1⟩;unfold World.shape? at h2;unfold qT;split at h2
 ·rename_i hh; rw [hh]
 ·cases h2
theorem open_row {t : TypeId} {v : Value} {d : DataW H} {p : List MemPlace} (m : Nat) (hu : (match P.underlying t with | some (.struct _) | some (.array _ _) => true | _ => false) = true) (hd : qc P m t = true)
  (hv : Value.okWide P w .any base t v) (h : DataW.Trod enc P w 0 (fun _ => true) held t v d p) :
  ∃ vs ds, v = zo (φ0 w) (.s (.agg vs)) ∧ RepL (fun b => b.toNat < (z9 w).n.toNat) (z9 w) vs ds ∧ wfA (φ0 w) (z9 w).n.toNat (.s (.agg vs)) ∧ Ty P m t ds := by
 have : ∃ cs, v = .agg cs ∧ cs.size = P.cellsOf t ∧ Row.okWide P w .any base t cs := by
  unfold Value.okWide at hv;split at hv
  ·exact hv
  ·exact hv
  ·rename_i h1 h2;exfalso;split at hu
   ·rename_i fs h3; exact h1 fs h3
   ·rename_i n e h3; exact h2 n e h3
   ·cases hu
 obtain ⟨cs, rfl, hsz, ts, _, _, hc⟩ := this;obtain ⟨q, hq⟩ := h;obtain ⟨⟨vs, ds, a, r, ty⟩, _⟩ := zaD m hd hq (fun v hv => by
  obtain ⟨i, hi⟩ := List.mem_iff_getElem?.1 hv;obtain ⟨u, _, ho⟩ := hc i v (by rw [← LzA]; exact hi)
  exact zjH ho)
 obtain ⟨k1, k2⟩ := a.conc;refine ⟨vs, ds, ?_, r, k2, ty⟩;show Value.agg cs = .agg ((vs.map (zi (φ0 w))).toArray);rw [k1];rfl
end
end Go.PE
end
