/-
  The concrete evaluator: calls, rounds, and the whole. No condition.
-/
import Derived.Test.YtpoejpijhnankaaGreatCEt
import Derived.RangeFuncLeaves
import Derived.RangeFuncIn
import Derived.Laws.Sem
namespace Go.CE
open Go.RowKit

section
variable {P : Program} {w0 : World} {S : Nat → Prop} {nt : Nat} {call : Caller}

theorem code_ok (C : SoundC P call) (c : Code) : CodeOk P w0 S nt call c := by
  induction c with
  | skip => intro f fn round ro φ s s2 e a w Q hc R hr hQ; cases hc; exact wpIn_skip (hQ _ _ R.after)
  | region id ops draw =>
    cases draw with
    | false => exact ok_region C id ops
    | true => exact ok_drawn C id ops
  | seq x y hx hy => exact ok_seq hx hy
  | cond c x y hx hy => exact ok_cond hx hy
  | block id x hx => exact ok_block hx
  | loop x hx => exact ok_loop hx
  | rangeFunc g ps assign body _ _ => exact ok_range C
  | exit id => intro f fn round ro φ s s2 e a w Q hc R hr hQ; cases hc; exact wpIn_exit (hQ _ _ R.after)
  | ret => intro f fn round ro φ s s2 e a w Q hc R hr hQ; cases hc; exact wpIn_ret (hQ _ _ R.after)
  | _ => intro f fn round ro φ s s2 e a w Q hc R hr hQ; cases hc

/-! ### The end of a function -/

theorem shut_n : ∀ (d : List BN) (h h2 : AHeap), shut d h = some h2 → h2.n = h.n
  | [], h, h2, e => by cases e; rfl
  | b :: d, h, h2, e => by
    unfold shut at e
    split at e
    · exact (shut_n d _ _ e).trans rfl
    · cases e

theorem leavesM {φ : Phi} {fn : Func} {tmps : Array Value} {R : Ending → World → Prop} {h2 : AHeap} (hR : ∀ w2, HRel w0 S φ h2 w2 → LeavesIn (FR none) 0 P fn tmps R [] .returning w2) :
    ∀ (d : List BN) (h : AHeap) (w : World), shut d h = some h2 → HRel w0 S φ h w → LeavesInM (FR none) 0 P fn tmps R (marks φ d) .returning w
  | [], h, w, e, H => by cases e; exact hR w H
  | b :: d, h, w, e, H => by
    unfold shut at e
    split at e
    · rename_i hb
      have g1 : w.heap[(φ b).blk]? = some (.deferred (some [])) := H.obj b _ hb
      refine ⟨by simp, .inl ⟨(φ b).blk, _, rfl, run_takeDeferred g1, ?_⟩⟩
      refine leavesM hR d _ _ e ?_
      exact H.put hb trivial (fun k hk => World.putObj_heap_other hk) (by simp) rfl rfl rfl trivial
    · cases e

def resF (tmps : Array Value) : ResultVar → Sem Value
  | .tmp t => pure (tmps.getD t undef)
  | .cell a t => do loadVar t (← asAddr (tmps.getD a undef))

theorem getD_conc {φ : Phi} {n : Nat} {t : Tr AVal} {tmps : Array Value} (T : TRel φ nt n t tmps) {i : Nat} {v : AVal} (hi : t.get (bn i) = some v) : tmps.getD i undef = concA φ v ∧ wfA φ n v := by
  have hlt : i < nt := by
    apply Decidable.byContradiction
    intro hn
    rw [T.out i (by omega)] at hi
    cases hi
  have := T.get i hlt
  rw [hi] at this
  refine ⟨?_, T.wf _ _ hi⟩
  rw [Array.getD_eq_getD_getElem?, this]
  rfl

theorem evResL_inv {t : Tr AVal} {h : AHeap} {r : BN × Option (Option Nat)} {rs : List (BN × Option (Option Nat))} {vs : List SVal} (e : evResL t h (r :: rs) = some vs) :
    ∃ v vs', vs = v :: vs' ∧ evRes1 t h r = some v ∧ evResL t h rs = some vs' := by
  unfold evResL at e
  split at e
  · rename_i v hv
    unfold consO at e
    split at e
    · rename_i vs' hvs
      cases e
      exact ⟨v, vs', rfl, hv, hvs⟩
    · cases e
  · cases e

theorem resL_ok {φ : Phi} {h : AHeap} {w : World} {t : Tr AVal} {tmps : Array Value} (H : HRel w0 S φ h w) (T : TRel φ nt h.n.toNat t tmps) : ∀ (l : List ResultVar) (rs : List (BN × Option (Option Nat))) (vs : List SVal),
    cRes P l = some rs → evResL t h rs = some vs → (l.mapM (resF tmps)).run P w = .ok (vs.map (concS φ)) w ∧ ∀ v ∈ vs, wfS φ h.n.toNat v
  | [], rs, vs, hc, he => by
    cases hc
    cases he
    exact ⟨by simp, fun v hv => by cases hv⟩
  | .tmp i :: l, rs, vs, hc, he => by
    unfold cRes at hc
    split at hc
    · rename_i rs' hrs
      cases hc
      obtain ⟨v1, vs', rfl, hv1, hvs⟩ := evResL_inv he
      simp only [evRes1] at hv1
      split at hv1
      · rename_i u hu
        cases hv1
        obtain ⟨h1, h2⟩ := resL_ok H T l rs' vs' hrs hvs
        obtain ⟨g1, g2⟩ := getD_conc T hu
        refine ⟨?_, fun v hv => ?_⟩
        · rw [List.mapM_cons]
          simp only [resF, Sem.run_bind, Sem.run_pure, Result.andThen_ok, h1, g1]
          rfl
        · cases hv with
          | head => exact g2
          | tail _ hm => exact h2 v hm
      · cases hv1
    · cases hc
  | .cell i ty :: l, rs, vs, hc, he => by
    unfold cRes at hc
    split at hc
    · rename_i n rs' hn hrs
      cases hc
      obtain ⟨v1, vs', rfl, hv1, hvs⟩ := evResL_inv he
      simp only [evRes1] at hv1
      split at hv1
      · rename_i b off hu
        obtain ⟨h1, h2⟩ := resL_ok H T l rs' vs' hrs hvs
        obtain ⟨g1, g2⟩ := getD_conc T hu
        have key : (loadVar ty (adr φ b off)).run P w = .ok (concS φ v1) w ∧ wfS φ h.n.toNat v1 := by
          unfold resCell at hv1
          split at hv1
          · rename_i cs st hb
            have hp : part n cs off h = some (.s v1, h) := by
              cases n with
              | none =>
                simp only at hv1
                split at hv1
                · rename_i c hcc; cases hv1; simp [part, retC, hcc]
                · cases hv1
              | some n =>
                simp only at hv1
                split at hv1
                · rename_i c hcc; cases hv1; simp [part, retA, hcc]
                · cases hv1
            obtain ⟨k1, k2, _⟩ := load_part (P := P) H hn hb hp
            exact ⟨k1, k2⟩
          · cases hv1
        refine ⟨?_, fun v hv => ?_⟩
        · rw [List.mapM_cons]
          simp only [resF, Sem.run_bind, g1, concA, concS, concC, asAddr, Sem.run_pure, Result.andThen_ok, key.1, h1]
          rfl
        · cases hv with
          | head => exact key.2
          | tail _ hm => exact h2 v hm
      · cases hv1
    · cases hc

theorem results_eq (fn : Func) (tmps : Array Value) : results fn tmps = (do
    let vs ← fn.results.toList.mapM (resF tmps)
    pure (match vs with | [v] => v | vs => .tuple vs.toArray)) := by
  have : fn.results.mapM (resF tmps) = List.toArray <$> fn.results.toList.mapM (resF tmps) := by
    rw [← List.mapM_toArray]
  have e : results fn tmps = (do
      let vs ← fn.results.mapM (resF tmps)
      pure (if h : vs.size = 1 then vs[0] else .tuple vs)) := by
    unfold results
    congr 1
  rw [e, this, map_eq_pure_bind, bind_assoc]
  congr 1
  funext vs
  rw [pure_bind]
  congr 1
  match vs with
  | [] => rfl
  | [v] => rfl
  | v :: u :: vs => rfl

theorem results_ok {φ : Phi} {h : AHeap} {w : World} {t : Tr AVal} {tmps : Array Value} (H : HRel w0 S φ h w) (T : TRel φ nt h.n.toNat t tmps) {fn : Func} {rs : List (BN × Option (Option Nat))} (hc : cRes P fn.results.toList = some rs)
    {v : AVal} {h2 : AHeap} (he : evRes h (evResL t h rs) = some (v, h2)) : (results fn tmps).run P w = .ok (concA φ v) w ∧ wfA φ h.n.toNat v ∧ h2 = h := by
  cases hv : evResL t h rs with
  | none => rw [hv] at he; cases he
  | some vs =>
    rw [hv] at he
    obtain ⟨h1, hw⟩ := resL_ok H T _ rs vs hc hv
    rw [results_eq, Sem.run_bind, h1]
    match vs, he, hw with
    | [], he, hw => cases he; exact ⟨rfl, (fun v hv => by cases hv), rfl⟩
    | [u], he, hw => cases he; exact ⟨rfl, hw u (by simp), rfl⟩
    | u :: u' :: vs, he, hw => cases he; exact ⟨rfl, hw, rfl⟩

/-! ### The beginning of a function -/

theorem enterT_get : ∀ (args : List AVal) (i : Nat) (t : Tr AVal) (j : Nat), (enterT (bn i) t args).get (bn j) = if j < i then t.get (bn j) else (args[j - i]?).or (t.get (bn j))
  | [], i, t, j => by simp [enterT]
  | v :: vs, i, t, j => by
    unfold enterT
    rw [bn_succ, enterT_get vs (i + 1) _ j]
    by_cases h1 : j < i
    · rw [if_pos h1, if_pos (by omega), get_set_other _ _ _ _ (fun hh => by have := bn_inj hh; omega)]
    · rw [if_neg h1]
      by_cases h2 : j = i
      · subst h2
        rw [if_pos (by omega), get_set_same]
        simp
      · rw [if_neg (by omega), get_set_other _ _ _ _ (fun hh => by have := bn_inj hh; omega)]
        have : j - i = (j - (i + 1)) + 1 := by omega
        rw [this, List.getElem?_cons_succ]

theorem enter_ok {φ : Phi} {n nt : Nat} {args : List AVal} (hl : args.length ≤ nt) (hw : ∀ x ∈ args, wfA φ n x) :
    TRel φ nt n (enterT .z .nil args) ((args.map (concA φ)).toArray ++ Array.replicate (nt - (args.map (concA φ)).toArray.size) undef) := by
  have key : ∀ j, (enterT .z .nil args).get (bn j) = args[j]? := by
    intro j
    have := enterT_get args 0 .nil j
    simp only [Nat.not_lt_zero, if_false, Nat.sub_zero] at this
    have e0 : bn 0 = .z := rfl
    rw [e0] at this
    rw [this]
    have : (Tr.nil : Tr AVal).get (bn j) = none := by cases bn j <;> rfl
    rw [this]
    simp
  refine ⟨by simp; omega, fun i hi => ?_, fun i hi => ?_, fun i v hv => ?_⟩
  · rw [key]
    by_cases hlt : i < args.length
    · rw [Array.getElem?_append_left (by simpa using hlt)]
      simp [hlt]
    · rw [Array.getElem?_append_right (by simp; omega)]
      have : args[i]? = none := by simp; omega
      rw [this]
      simp only [List.size_toArray, List.length_map, Option.getD_none]
      rw [Array.getElem?_replicate, if_pos (by omega)]
      rfl
  · rw [key]; simp; omega
  · rw [← bn_of_toNat i, key] at hv
    exact hw v (List.mem_of_getElem? hv)

theorem callFunc_ok {g : Nat} {fn : Func} {c : Code} (hf : P.funcs[g]? = some fn) (hb : fn.body = some c) (hn : (fn.name == "runtime.NumGoroutine") = false) (as : Array Value) (w : World) : (callFunc g as).run P w = .ok (.enter g as) w := by
  simp only [callFunc, Sem.run_bind, run_program, Result.andThen, hf, hn, hb]; rfl

theorem cFunc_inv {fn : Func} {r : RFunc} (h : cFunc P fn = some r) : ∃ c rs, fn.body = some c ∧ cRes P fn.results.toList = some rs ∧ (fn.name == "runtime.NumGoroutine") = false ∧ r = ⟨fn.ntmps, rs, cCode P fn.ntmps c⟩ := by
  unfold cFunc at h
  split at h
  · rename_i c rs hb hr
    cases hn : fn.name == "runtime.NumGoroutine" with
    | true => rw [hn] at h; cases h
    | false => rw [hn] at h; cases h; exact ⟨c, rs, hb, hr, rfl, rfl⟩
  · cases h

/-- Which functions an evaluator knows. -/
def FsOk (P : Program) (fs : Nat → Option RFunc) : Prop := ∀ g r, fs g = some r → ∃ fn, P.funcs[g]? = some fn ∧ cFunc P fn = some r

theorem fun_ok (C : SoundC P call) {fs : Nat → Option RFunc} (hfs : FsOk P fs) {f g : Nat} {φ : Phi} {h h2 : AHeap} {w : World} {args : List AVal} {v : AVal} (H : HRel w0 S φ h w) (hw : ∀ x ∈ args, wfA φ h.n.toNat x)
    (e : evFun fs call f g args h = some (v, h2)) : (∀ as w, (callFunc g as).run P w = .ok (.enter g as) w) ∧ CallsIn (FR none) 0 P g (args.map (concA φ)).toArray w (Ret w0 S φ h v h2) := by
  unfold evFun at e
  split at e
  · rename_i ntmps rs body hfg
    obtain ⟨fn, hf, hcf⟩ := hfs g _ hfg
    obtain ⟨c, rs', hb, hrs, hname, hr⟩ := cFunc_inv hcf
    cases hr
    refine ⟨callFunc_ok hf hb hname, ?_⟩
    cases hl : lenA args fn.ntmps with
    | false => rw [hl] at e; cases e
    | true =>
      rw [hl] at e
      simp only [cond_true] at e
      cases hbody : cCode P fn.ntmps c call f g none ⟨enterT .z .nil args, [], h⟩ with
      | none => rw [hbody] at e; cases e
      | some p =>
        obtain ⟨ex, t1, d1, h1⟩ := p
        rw [hbody] at e
        refine callsIn_of_wp_marks hf hb trivial (code_ok C c f g none none φ _ _ ex _ w _ hbody ⟨H, enter_ok (lenA_eq _ _ hl) hw, rfl, fun b hb => by cases hb⟩ rfl fun a2 w2 hA => ?_) rfl
        obtain ⟨φ2, he2, ⟨H2, T2, D2, dn2⟩, hle⟩ := hA
        simp only at H2 T2 D2 dn2 he2 hle
        have key : leave rs (some (.normal, ⟨t1, d1, h1⟩)) = some (v, h2) → LeavesInM (FR none) 0 P fn a2.tmps (Ret w0 S φ h v h2) a2.defers .returning w2 := by
          intro e
          simp only [leave] at e
          split at e
          · rename_i h3 hs
            rw [D2]
            refine leavesM (fun w3 H3 => ?_) d1 h1 w2 hs H2
            have hn3 := shut_n _ _ _ hs
            have T3 : TRel φ2 fn.ntmps h3.n.toNat t1 a2.tmps := by rw [hn3]; exact T2
            obtain ⟨k1, k2, rfl⟩ := results_ok H3 T3 hrs e
            exact ⟨_, k1, φ2, rfl, he2, H3, k2, by rw [hn3]; exact hle⟩
          · cases e
        cases ex with
        | normal => exact key e
        | exit id => cases e
        | ret => exact key e
  · cases e

/-! ### A round -/

theorem setPs_ok {φ : Phi} {n : Nat} : ∀ (ps : List Nat) (args : List AVal) (t t2 : Tr AVal) (arr : Array Value), setPs nt t ps args = some t2 → TRel φ nt n t arr → (∀ x ∈ args, wfA φ n x) →
    TRel φ nt n t2 ((ps.zip (args.map (concA φ))).foldl (fun t (p : Nat × Value) => t.setIfInBounds p.1 p.2) arr) ∧ args.length = ps.length
  | [], [], t, t2, arr, e, T, hw => by cases e; exact ⟨T, rfl⟩
  | p :: ps, v :: vs, t, t2, arr, e, T, hw => by
    unfold setPs at e
    cases hp : Nat.ble (Nat.succ p) nt with
    | false => rw [hp] at e; cases e
    | true =>
      rw [hp] at e
      simp only [cond_true] at e
      have T2 := TRel.put (a := { tmps := arr, defers := [] }) T (hw v (by simp)) (some p) hp
      obtain ⟨k1, k2⟩ := setPs_ok ps vs _ t2 _ e T2 fun x hx => hw x (by simp [hx])
      exact ⟨k1, by simp [k2]⟩
  | [], _ :: _, t, t2, arr, e, T, hw => by cases e
  | _ :: _, [], t, t2, arr, e, T, hw => by cases e

theorem round_ok (C : SoundC P call) {f : Nat} {l : BN} {φ : Phi} {h h2 : AHeap} {w : World} {args : List AVal} {v : AVal} (H : HRel w0 S φ h w) (hw : ∀ x ∈ args, wfA φ h.n.toNat x)
    (e : evRound (cCode P) call f l args h = some (v, h2)) : ∃ f tmps assign body, (Instr.yield (φ l).blk (args.map (concA φ)).toArray).run P w = .ok (.round (φ l).blk f tmps assign body) w ∧
      RoundIn (FR none) 0 P (φ l).blk f tmps assign body w (Ret w0 S φ h v h2) := by
  unfold evRound at e
  split at e
  · rename_i pend lf ln lt lps la lb ld hl
    split at e
    · rename_i t ht
      obtain ⟨arr, f8, g1, g2, g3⟩ := H.obj l _ hl
      have hln := H.keys _ _ hl
      obtain ⟨T, hlen⟩ := setPs_ok _ _ _ _ arr ht g2 hw
      refine ⟨f8, _, la, lb, run_yield g1 (by simp [hlen]), ?_⟩
      have harr : ((lps.zip (args.map (concA φ)).toArray).foldl (fun tmps (x : Nat × Value) => tmps.setIfInBounds x.1 x.2) arr) = ((lps.toList.zip (args.map (concA φ))).foldl (fun t (p : Nat × Value) => t.setIfInBounds p.1 p.2) arr) := by
        rw [← Array.foldl_toList, Array.toList_zip]
      split at e
      · rename_i t1 d1 h1 has
        split at e
        · rename_i h3 hbe
          refine roundIn_of_wpIn trivial ?_
          refine code_ok C la f lf (some l) (some (φ l).blk) φ ⟨t, [], h⟩ ⟨t1, d1, h1⟩ .normal _ w _ has ⟨H, ?_, rfl, fun b hb => by cases hb⟩ ⟨rfl, hln⟩ fun a1 w1 hA => ?_
          · show TRel φ ln h.n.toNat t _
            rw [harr]; exact T
          · obtain ⟨φ1, he1, ⟨H1, T1, D1, dn1⟩, hle1⟩ := hA
            simp only at H1 T1 D1 dn1 he1 hle1
            unfold beginR at hbe
            split at hbe
            · rename_i p9 lf9 ln9 lt9 lps9 la9 lb9 ld9 hl9
              cases hbe
              obtain ⟨arr9, f9, k1, k2, k3⟩ := H1.obj l _ hl9
              have el : φ1 l = φ l := he1 l hln
              have hlt : (φ1 l).blk < w1.heap.size := (Array.getElem?_eq_some_iff.1 k1).1
              have H3 : HRel w0 S φ1 (h1.put l (.loop .busy p9 lf9 ln9 lt9 lps9 la9 lb9 ld9)) (w1.putObj (φ1 l).blk (.loop { state := .busy, pending := p9.map jumpOf, fn := f9, tmps := arr9, params := lps9, assign := la9, body := lb9, defers := (φ1 ld9).blk })) :=
                H1.put hl9 trivial (fun k hk => World.putObj_heap_other hk) (by simp) rfl rfl rfl ⟨arr9, f9, World.putObj_heap_same hlt, k2, k3⟩
              have hbr := run_beginRound (P := P) k1 rfl
              rw [el] at hbr
              refine ⟨_, hbr, ?_⟩
              rw [el] at H3
              cases hbd : cCode P ln lb call f lf (some l) ⟨t1, d1, h1.put l (.loop .busy p9 lf9 ln9 lt9 lps9 la9 lb9 ld9)⟩ with
              | none => rw [hbd] at e; cases e
              | some p =>
                obtain ⟨ex, t4, d4, h4⟩ := p
                rw [hbd] at e
                refine code_ok C lb f lf (some l) (some (φ l).blk) φ1 _ _ ex a1 _ _ hbd ⟨H3, T1, D1, dn1⟩ ⟨by rw [el], Nat.lt_of_lt_of_le hln hle1⟩ fun a5 w5 hA5 => ?_
                obtain ⟨φ5, he5, ⟨H5, T5, D5, dn5⟩, hle5⟩ := hA5
                simp only [put_n] at H5 T5 D5 dn5 he5 hle5
                cases d4 with
                | cons b d => cases e
                | nil =>
                  simp only [leaveR, endR] at e
                  split at e
                  · rename_i s6 p6 lf6 ln6 lt6 lps6 la6 lb6 ld6 hl6
                    obtain ⟨arr6, f6, m1, m2, m3⟩ := H5.obj l _ hl6
                    have el5 : φ5 l = φ l := (he5 l (Nat.lt_of_lt_of_le hln hle1)).trans el
                    rw [el5] at m1
                    have hlt5 : (φ l).blk < w5.heap.size := (Array.getElem?_eq_some_iff.1 m1).1
                    have hE : Ext h.n.toNat φ φ5 := he1.trans he5 hle1
                    have fin : ∀ (j : Option RExit) (st : LoopState), st = (if (j.map jumpOf).isNone then .ready else .done) → HRel w0 S φ5 (h4.put l (.loop st j lf6 ln6 lt6 lps6 la6 lb6 ld6)) (w5.putObj (φ l).blk (.loop { state := if (j.map jumpOf).isNone then .ready else .done, pending := j.map jumpOf, fn := f6, tmps := arr6, params := lps6, assign := la6, body := lb6, defers := (φ5 ld6).blk })) := by
                      intro j st hst
                      subst hst
                      refine H5.put hl6 trivial (fun k hk => ?_) (by simp) rfl rfl rfl ⟨arr6, f6, ?_, m2, m3⟩
                      · rw [el5] at hk; exact World.putObj_heap_other hk
                      · rw [el5]; exact World.putObj_heap_same hlt5
                    cases ex with
                    | normal =>
                      cases e
                      exact ⟨_, _, run_endRound none m1, φ5, rfl, hE, fin none .ready rfl, trivial, Nat.le_trans hle1 hle5⟩
                    | exit id =>
                      cases e
                      exact ⟨_, _, run_endRound (some (.exit id)) m1, φ5, rfl, hE, fin (some (.exit id)) .done rfl, trivial, Nat.le_trans hle1 hle5⟩
                    | ret =>
                      cases e
                      exact ⟨_, _, run_endRound (some .ret) m1, φ5, rfl, hE, fin (some .ret) .done rfl, trivial, Nat.le_trans hle1 hle5⟩
                  · cases e
            · cases hbe
        · cases e
      · cases e
    · cases e
  · cases e

/-! ### The whole -/

theorem both_ok (C : SoundC P call) {fs : Nat → Option RFunc} (hfs : FsOk P fs) (f : Nat) : SoundC P (evBoth (cCode P) fs call f) :=
  fun _ _ _ _ _ _ _ _ H hw => ⟨fun _ e => fun_ok C hfs H hw e, fun _ e => round_ok C H hw e⟩

theorem none_ok : SoundC P (fun _ _ _ => none) :=
  fun _ _ _ _ _ _ _ _ _ _ => ⟨fun _ e => (by cases e), fun _ e => (by cases e)⟩

theorem call_ok {fs : Nat → Option RFunc} (hfs : FsOk P fs) : ∀ n, SoundC P (evCall (cCode P) fs n)
  | 0 => none_ok
  | n + 1 => both_ok (call_ok hfs n) hfs n

theorem ofList_get {α : Type} : ∀ (l : List α) (i : Nat) (t : Tr α) (j : Nat), (Tr.ofList (bn i) l t).get (bn j) = if j < i then t.get (bn j) else (l[j - i]?).or (t.get (bn j))
  | [], i, t, j => by simp [Tr.ofList]
  | v :: vs, i, t, j => by
    unfold Tr.ofList
    rw [bn_succ, ofList_get vs (i + 1) _ j]
    by_cases h1 : j < i
    · rw [if_pos h1, if_pos (by omega), get_set_other _ _ _ _ (fun hh => by have := bn_inj hh; omega)]
    · rw [if_neg h1]
      by_cases h2 : j = i
      · subst h2
        rw [if_pos (by omega), get_set_same]
        simp
      · rw [if_neg (by omega), get_set_other _ _ _ _ (fun hh => by have := bn_inj hh; omega)]
        have : j - i = (j - (i + 1)) + 1 := by omega
        rw [this, List.getElem?_cons_succ]

theorem prog_ok (P : Program) : FsOk P (cFs (cProg P)) := by
  intro g r h
  unfold cFs cProg at h
  have e0 : BN.z = bn 0 := rfl
  rw [e0, ofList_get] at h
  have : (Tr.nil : Tr (Option RFunc)).get (bn g) = none := by cases bn g <;> rfl
  rw [this] at h
  simp only [Nat.not_lt_zero, if_false, Nat.sub_zero, Option.or_none, List.getElem?_map, Array.getElem?_toList] at h
  cases hg : P.funcs[g]? with
  | none => rw [hg] at h; cases h
  | some fn =>
    rw [hg] at h
    exact ⟨fn, rfl, h⟩

/-- **WHAT A CALL WITHOUT ARGUMENTS ANSWERS**, from an evaluation. -/
theorem calls_of_eval {fs : Nat → Option RFunc} (hfs : FsOk P fs) {n f : Nat} {c : CVal} {h2 : AHeap} (e : evCall (cCode P) fs n (.inl f) [] ⟨.z, .nil⟩ = some (.s (.one c), h2)) (hc : wfC (fun _ => ⟨0, 0, 0⟩) 0 c) (w : World) :
    CallsIn (FR none) 0 P f #[] w (fun e w2 => ∃ φ, e = .returned (concC φ c) ∧ Below w.heap.size w w2) := by
  have H : HRel w (fun _ => False) (fun _ => ⟨0, 0, 0⟩) ⟨.z, .nil⟩ w := by
    have hnil : ∀ b, (Tr.nil : Tr AObj).get b = none := by intro b; cases b <;> rfl
    refine ⟨?_, ?_, ?_, ?_, rfl, rfl, rfl, Nat.le_refl _, fun _ _ _ => rfl⟩
    · intro b o hb; rw [hnil] at hb; cases hb
    · intro b o hb; rw [hnil] at hb; cases hb
    · intro b b' o o' hb; rw [hnil] at hb; cases hb
    · intro b o hb; rw [hnil] at hb; cases hb
  have := ((call_ok hfs n) w _ _ _ w [] _ h2 H (fun x hx => by cases hx)).1 f e
  refine this.2.mono ?_
  rintro e9 w9 ⟨φ2, rfl, he, H2, _, _⟩
  exact ⟨φ2, rfl, ⟨H2.os, H2.tape, H2.output, H2.size, fun k hk => H2.kept k hk (fun hh => hh)⟩⟩

end
end Go.CE
