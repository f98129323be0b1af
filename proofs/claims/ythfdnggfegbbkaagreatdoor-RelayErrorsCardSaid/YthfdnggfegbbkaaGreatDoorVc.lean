/-
  Lemmas: CEq, CEu, CEv, CEw, CEx, CEy, CEz, CEza, CEzb, CEzc, PEa, PEb, PEc, PEd, PEe, PEf. No condition.
-/
import Derived.Test.YthfdnggfegbbkaaGreatDoorVb
import Derived.RangeFuncLeaves
import Derived.RangeFuncIn
import Derived.Laws.Sem
import Derived.ProofKit
import Derived.OpenShut
import Derived.FnData
import Derived.MakeChecks
section
namespace Go.CE
open Go.RowKit
section
variable {P : Program} {w0 : World} {S : Nat → Prop} {nt : Nat} {call : zh}
theorem zf4 (C : xq P call) (c : Code) : w7 P w0 S nt call c := by
 induction c with
 | skip => intro f fn round ro φ s s2 e a w Q hc R hr hQ; cases hc; exact wpIn_skip (hQ _ _ R.after)
 | region id ops draw =>
  cases draw with
  | false => exact zjG C id ops
  | true => exact zl9 C id ops
 | seq x y hx hy => exact zqN hx hy
 | cond c x y hx hy => exact zoQ hx hy
 | block id x hx => exact zma hx
 | loop x hx => exact zoP hx
 | rangeFunc g ps assign body _ _ => exact zl8 C
 | exit id => intro f fn round ro φ s s2 e a w Q hc R hr hQ; cases hc; exact wpIn_exit (hQ _ _ R.after)
 | ret => intro f fn round ro φ s s2 e a w Q hc R hr hQ; cases hc; exact wpIn_ret (hQ _ _ R.after)
 | _ => intro f fn round ro φ s s2 e a w Q hc R hr hQ; cases hc
theorem znf : ∀ (d : List BN) (h h2 : AHeap), shut d h = some h2 → h2.n = h.n
 | [], h, h2, e => by cases e; rfl
 | b :: d, h, h2, e => by
  unfold shut at e;split at e
  ·exact (znf d _ _ e).trans rfl
  ·cases e
theorem zkk {φ : Phi} {fn : Func} {tmps : Array Value} {R : Ending → World → Prop} {h2 : AHeap} (hR : ∀ w2, HRel w0 S φ h2 w2 → LeavesIn (FR none) 0 P fn tmps R [] .returning w2) :
  ∀ (d : List BN) (h : AHeap) (w : World), shut d h = some h2 → HRel w0 S φ h w → LeavesInM (FR none) 0 P fn tmps R (marks φ d) .returning w
 | [], h, w, e, H => by cases e; exact hR w H
 | b :: d, h, w, e, H => by
  unfold shut at e;split at e
  ·rename_i hb;have g1 : w.heap[(φ b).blk]? = some (.deferred (some [])) := H.obj b _ hb;refine ⟨by simp, .inl ⟨(φ b).blk, _, rfl, run_takeDeferred g1, ?_⟩⟩
   refine zkk hR d _ _ e ?_;exact H.put hb trivial (fun k hk => World.putObj_heap_other hk) (by simp) rfl rfl rfl trivial
  ·cases e
def resF (tmps : Array Value) : ResultVar → Sem Value
 | .tmp t => pure (tmps.getD t undef)
 | .cell a t => do loadVar t (← asAddr (tmps.getD a undef))
theorem zes {φ : Phi} {n : Nat} {t : Tr AVal} {tmps : Array Value} (T : TRel φ nt n t tmps) {i : Nat} {v : AVal} (hi : t.get (bn i) = some v) : tmps.getD i undef = zo φ v ∧ wfA φ n v := by
 have hlt : i < nt := by
  apply Decidable.byContradiction;intro hn;rw [T.out i (by omega)] at hi
  cases hi
 have := T.get i hlt;rw [hi] at this;refine ⟨?_, T.wf _ _ hi⟩;rw [Array.getD_eq_getD_getElem?, this];rfl
theorem zcf {t : Tr AVal} {h : AHeap} {r : BN × Option (Option Nat)} {rs : List (BN × Option (Option Nat))} {vs : List SVal} (e : uO t h (r :: rs) = some vs) :
  ∃ v vs', vs = v :: vs' ∧ zcg t h r = some v ∧ uO t h rs = some vs' := by
 unfold uO at e;split at e
 ·rename_i v hv;unfold xI at e;split at e
  ·rename_i vs' hvs;cases e;exact ⟨v, vs', rfl, hv, hvs⟩
  ·cases e
 ·cases e
theorem jz {φ : Phi} {h : AHeap} {w : World} {t : Tr AVal} {tmps : Array Value} (H : HRel w0 S φ h w) (T : TRel φ nt h.n.toNat t tmps) : ∀ (l : List ResultVar) (rs : List (BN × Option (Option Nat))) (vs : List SVal),
  cRes P l = some rs → uO t h rs = some vs → (l.mapM (resF tmps)).run P w = .ok (vs.map (zF φ)) w ∧ ∀ v ∈ vs, wfS φ h.n.toNat v
 | [], rs, vs, hc, he => by
  cases hc;cases he;exact ⟨by simp, fun v hv => by cases hv⟩
 | .tmp i :: l, rs, vs, hc, he => by
  unfold cRes at hc;split at hc
  ·rename_i rs' hrs;cases hc;obtain ⟨v1, vs', rfl, hv1, hvs⟩ := zcf he;simp only [zcg] at hv1;split at hv1
   ·rename_i u hu;cases hv1;obtain ⟨h1, h2⟩ := jz H T l rs' vs' hrs hvs;obtain ⟨g1, g2⟩ := zes T hu;refine ⟨?_, fun v hv => ?_⟩
    ·rw [List.mapM_cons];simp only [resF, Sem.run_bind, Sem.run_pure, Result.andThen_ok, h1, g1];rfl
    ·cases hv with
     | head => exact g2
     | tail _ hm => exact h2 v hm
   ·cases hv1
  ·cases hc
 | .cell i ty :: l, rs, vs, hc, he => by
  unfold cRes at hc;split at hc
  ·rename_i n rs' hn hrs;cases hc;obtain ⟨v1, vs', rfl, hv1, hvs⟩ := zcf he;simp only [zcg] at hv1;split at hv1
   ·rename_i b off hu;obtain ⟨h1, h2⟩ := jz H T l rs' vs' hrs hvs;obtain ⟨g1, g2⟩ := zes T hu;have key : (loadVar ty (adr φ b off)).run P w = .ok (zF φ v1) w ∧ wfS φ h.n.toNat v1 := by
     unfold vX at hv1;split at hv1
     ·rename_i cs st hb;have hp : part n cs off h = some (.s v1, h) := by
       cases n with
       | none =>
        simp only at hv1;split at hv1
        ·rename_i c hcc; cases hv1; simp [part, retC, hcc]
        ·cases hv1
       | some n =>
        simp only at hv1;split at hv1
        ·rename_i c hcc; cases hv1; simp [part, retA, hcc]
        ·cases hv1
      obtain ⟨k1, k2, _⟩ := zaU (P := P) H hn hb hp;exact ⟨k1, k2⟩
     ·cases hv1
    refine ⟨?_, fun v hv => ?_⟩
    ·rw [List.mapM_cons];simp only [resF, Sem.run_bind, g1, zo, zF, zi, asAddr, Sem.run_pure, Result.andThen_ok, key.1, h1];rfl
    ·cases hv with
     | head => exact key.2
     | tail _ hm => exact h2 v hm
   ·cases hv1
  ·cases hc
theorem zh2 (fn : Func) (tmps : Array Value) : results fn tmps = (do
  let vs ← fn.results.toList.mapM (resF tmps)
  pure (match vs with | [v] => v | vs => .tuple vs.toArray)) := by
 have : fn.results.mapM (resF tmps) = List.toArray <$> fn.results.toList.mapM (resF tmps) := by
  rw [← List.mapM_toArray]
 have e : results fn tmps = (do
   let vs ← fn.results.mapM (resF tmps)
   pure (if h : vs.size = 1 then vs[0] else .tuple vs)) := by
  unfold results
  congr 1
 rw [e, this, map_eq_pure_bind, bind_assoc]
 congr 1
 funext vs
 rw [pure_bind]
 congr 1
 match vs with
 | [] => rfl
 | [v] => rfl
 | v :: u :: vs => rfl
theorem zh1 {φ : Phi} {h : AHeap} {w : World} {t : Tr AVal} {tmps : Array Value} (H : HRel w0 S φ h w) (T : TRel φ nt h.n.toNat t tmps) {fn : Func} {rs : List (BN × Option (Option Nat))} (hc : cRes P fn.results.toList = some rs)
  {v : AVal} {h2 : AHeap} (he : zbC h (uO t h rs) = some (v, h2)) : (results fn tmps).run P w = .ok (zo φ v) w ∧ wfA φ h.n.toNat v ∧ h2 = h := by
 cases hv : uO t h rs with
 | none => rw [hv] at he; cases he
 | some vs =>
  rw [hv] at he;obtain ⟨h1, hw⟩ := jz H T _ rs vs hc hv;rw [zh2, Sem.run_bind, h1]
  match vs, he, hw with
  | [], he, hw => cases he; exact ⟨rfl, (fun v hv => by cases hv), rfl⟩
  | [u], he, hw => cases he; exact ⟨rfl, hw u (by simp), rfl⟩
  | u :: u' :: vs, he, hw => cases he; exact ⟨rfl, hw, rfl⟩
theorem qb : ∀ (args : List AVal) (i : Nat) (t : Tr AVal) (j : Nat), (wc (bn i) t args).get (bn j) = if j < i then t.get (bn j) else (args[j - i]?).or (t.get (bn j))
 | [], i, t, j => by simp [wc]
 | v :: vs, i, t, j => by
  unfold wc;rw [zdA, qb vs (i + 1) _ j];by_cases h1 : j < i
  ·rw [if_pos h1, if_pos (by omega), zn _ _ _ _ (fun hh => by have := un hh; omega)]
  ·rw [if_neg h1];by_cases h2 : j = i
   ·subst h2;rw [if_pos (by omega), zx]
    simp
   ·rw [if_neg (by omega), zn _ _ _ _ (fun hh => by have := un hh; omega)]
    have : j - i = (j - (i + 1)) + 1 := by omega
    rw [this, List.getElem?_cons_succ]
theorem zmV {φ : Phi} {n nt : Nat} {args : List AVal} (hl : args.length ≤ nt) (hw : ∀ x ∈ args, wfA φ n x) :
  TRel φ nt n (wc .z .nil args) ((args.map (zo φ)).toArray ++ Array.replicate (nt - (args.map (zo φ)).toArray.size) undef) := by
 have key : ∀ j, (wc .z .nil args).get (bn j) = args[j]? := by
  intro j;have := qb args 0 .nil j;simp only [Nat.not_lt_zero, if_false, Nat.sub_zero] at this;have e0 : bn 0 = .z := rfl;rw [e0] at this;rw [this];have : (Tr.nil : Tr AVal).get (bn j) = none := by cases bn j <;> rfl
  rw [this];simp
 refine ⟨by simp; omega, fun i hi => ?_, fun i hi => ?_, fun i v hv => ?_⟩
 ·rw [key];by_cases hlt : i < args.length
  ·rw [Array.getElem?_append_left (by simpa using hlt)]
   simp [hlt]
  ·rw [Array.getElem?_append_right (by simp; omega)]
   have : args[i]? = none := by simp; omega
   rw [this];simp only [List.size_toArray, List.length_map, Option.getD_none];rw [Array.getElem?_replicate, if_pos (by omega)]
   rfl
 ·rw [key]; simp; omega
 ·rw [← xE i, key] at hv;exact hw v (Lz3 hv)
theorem zf8 {g : Nat} {fn : Func} {c : Code} (hf : P.funcs[g]? = some fn) (hb : fn.body = some c) (hn : (fn.name == "runtime.NumGoroutine") = false) (as : Array Value) (w : World) : (callFunc g as).run P w = .ok (.enter g as) w := by
 simp only [callFunc, Sem.run_bind, run_program, Result.andThen, hf, hn, hb]; rfl
theorem zla {fn : Func} {r : RFunc} (h : zf9 P fn = some r) : ∃ c rs, fn.body = some c ∧ cRes P fn.results.toList = some rs ∧ (fn.name == "runtime.NumGoroutine") = false ∧ r = ⟨fn.ntmps, rs, zW P fn.ntmps c⟩ := by
 unfold zf9 at h;split at h
 ·rename_i c rs hb hr;cases hn : fn.name == "runtime.NumGoroutine" with
  | true => rw [hn] at h; cases h
  | false => rw [hn] at h; cases h; exact ⟨c, rs, hb, hr, rfl, rfl⟩
 ·cases h
def FsOk (P : Program) (fs : Nat → Option RFunc) : Prop := ∀ g r, fs g = some r → ∃ fn, P.funcs[g]? = some fn ∧ zf9 P fn = some r
theorem zri (C : xq P call) {fs : Nat → Option RFunc} (hfs : FsOk P fs) {f g : Nat} {φ : Phi} {h h2 : AHeap} {w : World} {args : List AVal} {v : AVal} (H : HRel w0 S φ h w) (hw : ∀ x ∈ args, wfA φ h.n.toNat x)
  (e : zkO fs call f g args h = some (v, h2)) : (∀ as w, (callFunc g as).run P w = .ok (.enter g as) w) ∧ CallsIn (FR none) 0 P g (args.map (zo φ)).toArray w (Ret w0 S φ h v h2) := by
 unfold zkO at e;split at e
 ·rename_i ntmps rs body hfg;obtain ⟨fn, hf, hcf⟩ := hfs g _ hfg;obtain ⟨c, rs', hb, hrs, hname, hr⟩ := zla hcf;cases hr;refine ⟨zf8 hf hb hname, ?_⟩;cases hl : lenA args fn.ntmps with
  | false => rw [hl] at e; cases e
  | true =>
   rw [hl] at e;simp only [cond_true] at e;cases hbody : zW P fn.ntmps c call f g none ⟨wc .z .nil args, [], h⟩ with
   | none => rw [hbody] at e; cases e
   | some p =>
    obtain ⟨ex, t1, d1, h1⟩ := p;rw [hbody] at e;refine callsIn_of_wp_marks hf hb trivial (zf4 C c f g none none φ _ _ ex _ w _ hbody ⟨H, zmV (zkj _ _ hl) hw, rfl, fun b hb => by cases hb⟩ rfl fun a2 w2 hA => ?_) rfl
    obtain ⟨φ2, he2, ⟨H2, T2, D2, dn2⟩, hle⟩ := hA;simp only at H2 T2 D2 dn2 he2 hle;have key : leave rs (some (.normal, ⟨t1, d1, h1⟩)) = some (v, h2) → LeavesInM (FR none) 0 P fn a2.tmps (Ret w0 S φ h v h2) a2.defers .returning w2 := by
     intro e;simp only [leave] at e;split at e
     ·rename_i h3 hs;rw [D2];refine zkk (fun w3 H3 => ?_) d1 h1 w2 hs H2
      have hn3 := znf _ _ _ hs;have T3 : TRel φ2 fn.ntmps h3.n.toNat t1 a2.tmps := by rw [hn3]; exact T2
      obtain ⟨k1, k2, rfl⟩ := zh1 H3 T3 hrs e;exact ⟨_, k1, φ2, rfl, he2, H3, k2, by rw [hn3]; exact hle⟩
     ·cases e
    cases ex with
    | normal => exact key e
    | exit id => cases e
    | ret => exact key e
 ·cases e
theorem zgu {φ : Phi} {n : Nat} : ∀ (ps : List Nat) (args : List AVal) (t t2 : Tr AVal) (arr : Array Value), zlL nt t ps args = some t2 → TRel φ nt n t arr → (∀ x ∈ args, wfA φ n x) →
  TRel φ nt n t2 ((ps.zip (args.map (zo φ))).foldl (fun t (p : Nat × Value) => t.setIfInBounds p.1 p.2) arr) ∧ args.length = ps.length
 | [], [], t, t2, arr, e, T, hw => by cases e; exact ⟨T, rfl⟩
 | p :: ps, v :: vs, t, t2, arr, e, T, hw => by
  unfold zlL at e;cases hp : Nat.ble (Nat.succ p) nt with
  | false => rw [hp] at e; cases e
  | true =>
   rw [hp] at e;simp only [cond_true] at e;have T2 := TRel.put (a := { tmps := arr, defers := [] }) T (hw v (by simp)) (some p) hp
   obtain ⟨k1, k2⟩ := zgu ps vs _ t2 _ e T2 fun x hx => hw x (by simp [hx])
   exact ⟨k1, by simp [k2]⟩
 | [], _ :: _, t, t2, arr, e, T, hw => by cases e
 | _ :: _, [], t, t2, arr, e, T, hw => by cases e
theorem zlW (C : xq P call) {f : Nat} {l : BN} {φ : Phi} {h h2 : AHeap} {w : World} {args : List AVal} {v : AVal} (H : HRel w0 S φ h w) (hw : ∀ x ∈ args, wfA φ h.n.toNat x)
  (e : zfO (zW P) call f l args h = some (v, h2)) : ∃ f tmps assign body, (Instr.yield (φ l).blk (args.map (zo φ)).toArray).run P w = .ok (.round (φ l).blk f tmps assign body) w ∧
   RoundIn (FR none) 0 P (φ l).blk f tmps assign body w (Ret w0 S φ h v h2) := by
 unfold zfO at e;split at e
 ·rename_i pend lf ln lt lps la lb ld hl;split at e
  ·rename_i t ht;obtain ⟨arr, f8, g1, g2, g3⟩ := H.obj l _ hl;have hln := H.okk _ _ hl;obtain ⟨T, hlen⟩ := zgu _ _ _ _ arr ht g2 hw;refine ⟨f8, _, la, lb, run_yield g1 (by simp [hlen]), ?_⟩
   have harr : ((lps.zip (args.map (zo φ)).toArray).foldl (fun tmps (x : Nat × Value) => tmps.setIfInBounds x.1 x.2) arr) = ((lps.toList.zip (args.map (zo φ))).foldl (fun t (p : Nat × Value) => t.setIfInBounds p.1 p.2) arr) := by
    rw [← Array.foldl_toList, Array.toList_zip]
   split at e
   ·rename_i t1 d1 h1 has;split at e
    ·rename_i h3 hbe;refine roundIn_of_wpIn trivial ?_;refine zf4 C la f lf (some l) (some (φ l).blk) φ ⟨t, [], h⟩ ⟨t1, d1, h1⟩ .normal _ w _ has ⟨H, ?_, rfl, fun b hb => by cases hb⟩ ⟨rfl, hln⟩ fun a1 w1 hA => ?_
     ·show TRel φ ln h.n.toNat t _;rw [harr]; exact T
     ·obtain ⟨φ1, he1, ⟨H1, T1, D1, dn1⟩, hle1⟩ := hA;simp only at H1 T1 D1 dn1 he1 hle1;unfold znI at hbe;split at hbe
      ·rename_i p9 lf9 ln9 lt9 lps9 la9 lb9 ld9 hl9;cases hbe;obtain ⟨arr9, f9, k1, k2, k3⟩ := H1.obj l _ hl9;have el : φ1 l = φ l := he1 l hln.1;have hlt : (φ1 l).blk < w1.heap.size := (Lz7.1 k1).1;have H3 : HRel w0 S φ1 (h1.put l (.loop .busy p9 lf9 ln9 lt9 lps9 la9 lb9 ld9)) (w1.putObj (φ1 l).blk (.loop { state := .busy, pending := p9.map qC, fn := f9, tmps := arr9, params := lps9, assign := la9, body := lb9, defers := (φ1 ld9).blk })) :=
        H1.put hl9 trivial (fun k hk => World.putObj_heap_other hk) (by simp) rfl rfl rfl ⟨arr9, f9, World.putObj_heap_same hlt, k2, k3⟩
       have hbr := run_beginRound (P := P) k1 rfl;rw [el] at hbr;refine ⟨_, hbr, ?_⟩;rw [el] at H3;cases hbd : zW P ln lb call f lf (some l) ⟨t1, d1, h1.put l (.loop .busy p9 lf9 ln9 lt9 lps9 la9 lb9 ld9)⟩ with
       | none => rw [hbd] at e; cases e
       | some p =>
        obtain ⟨ex, t4, d4, h4⟩ := p;rw [hbd] at e;refine zf4 C lb f lf (some l) (some (φ l).blk) φ1 _ _ ex a1 _ _ hbd ⟨H3, T1, D1, dn1⟩ ⟨by rw [el], okB.ext he1 hle1 hln⟩ fun a5 w5 hA5 => ?_
        obtain ⟨φ5, he5, ⟨H5, T5, D5, dn5⟩, hle5⟩ := hA5;simp only [zlY] at H5 T5 D5 dn5 he5 hle5;cases d4 with
        | cons b d => cases e
        | nil =>
         simp only [znz, endR] at e;split at e
         ·rename_i s6 p6 lf6 ln6 lt6 lps6 la6 lb6 ld6 hl6;obtain ⟨arr6, f6, m1, m2, m3⟩ := H5.obj l _ hl6;have el5 : φ5 l = φ l := (he5 l (okB.ext he1 hle1 hln).1).trans el;rw [el5] at m1;have hlt5 : (φ l).blk < w5.heap.size := (Lz7.1 m1).1;have hE : Ext h.n.toNat φ φ5 := he1.trans he5 hle1;have fin : ∀ (j : Option RExit) (st : LoopState), st = (if (j.map qC).isNone then .ready else .done) → HRel w0 S φ5 (h4.put l (.loop st j lf6 ln6 lt6 lps6 la6 lb6 ld6)) (w5.putObj (φ l).blk (.loop { state := if (j.map qC).isNone then .ready else .done, pending := j.map qC, fn := f6, tmps := arr6, params := lps6, assign := la6, body := lb6, defers := (φ5 ld6).blk })) := by
           intro j st hst;subst hst;refine H5.put hl6 trivial (fun k hk => ?_) (by simp) rfl rfl rfl ⟨arr6, f6, ?_, m2, m3⟩
           ·rw [el5] at hk; exact World.putObj_heap_other hk
           ·rw [el5]; exact World.putObj_heap_same hlt5
          cases ex with
          | normal =>
           cases e;exact ⟨_, _, run_endRound none m1, φ5, rfl, hE, fin none .ready rfl, trivial, Nat.le_trans hle1 hle5⟩
          | exit id =>
           cases e;exact ⟨_, _, run_endRound (some (.exit id)) m1, φ5, rfl, hE, fin (some (.exit id)) .done rfl, trivial, Nat.le_trans hle1 hle5⟩
          | ret =>
           cases e;exact ⟨_, _, run_endRound (some .ret) m1, φ5, rfl, hE, fin (some .ret) .done rfl, trivial, Nat.le_trans hle1 hle5⟩
         ·cases e
      ·cases hbe
    ·cases e
   ·cases e
  ·cases e
 ·cases e
theorem zlb (C : xq P call) {fs : Nat → Option RFunc} (hfs : FsOk P fs) (f : Nat) : xq P (zeB (zW P) fs call f) :=
 fun _ _ _ _ _ _ _ _ H hw => ⟨fun _ e => zri C hfs H hw e, fun _ e => zlW C H hw e⟩
theorem zjX : xq P (fun _ _ _ => none) :=
 fun _ _ _ _ _ _ _ _ _ _ => ⟨fun _ e => (by cases e), fun _ e => (by cases e)⟩
theorem zf7 {fs : Nat → Option RFunc} (hfs : FsOk P fs) : ∀ n, xq P (zkP (zW P) fs n)
 | 0 => zjX
 | n + 1 => zlb (zf7 hfs n) hfs n
theorem vB {α : Type} : ∀ (l : List α) (i : Nat) (t : Tr α) (j : Nat), (Tr.ofList (bn i) l t).get (bn j) = if j < i then t.get (bn j) else (l[j - i]?).or (t.get (bn j))
 | [], i, t, j => by simp [Tr.ofList]
 | v :: vs, i, t, j => by
  unfold Tr.ofList;rw [zdA, vB vs (i + 1) _ j];by_cases h1 : j < i
  ·rw [if_pos h1, if_pos (by omega), zn _ _ _ _ (fun hh => by have := un hh; omega)]
  ·rw [if_neg h1];by_cases h2 : j = i
   ·subst h2;rw [if_pos (by omega), zx]
    simp
   ·rw [if_neg (by omega), zn _ _ _ _ (fun hh => by have := un hh; omega)]
    have : j - i = (j - (i + 1)) + 1 := by omega
    rw [this, List.getElem?_cons_succ]
theorem zju (P : Program) : FsOk P (cFs (xJ P)) := by
 intro g r h;unfold cFs xJ at h;have e0 : BN.z = bn 0 := rfl;rw [e0, vB] at h;have : (Tr.nil : Tr (Option RFunc)).get (bn g) = none := by cases bn g <;> rfl
 rw [this] at h;simp only [Nat.not_lt_zero, if_false, Nat.sub_zero, Option.or_none, Lz6, LzA] at h;cases hg : P.funcs[g]? with
 | none => rw [hg] at h; cases h
 | some fn =>
  rw [hg] at h;exact ⟨fn, rfl, h⟩
end
end Go.CE
end
section
namespace Go.CE
open Go.RowKit
noncomputable section
structure Mt where
 ρ : Tr BN
 inv : Tr BN
 work : List (BN × BN)
def mB (b b' : BN) (m : Mt) : Option Mt :=
 match m with
 | ⟨ρ, inv, work⟩ =>
  match ρ.get b with
  | some b'' => bif eqBN b'' b' then some ⟨ρ, inv, work⟩ else none
  | none =>
   match inv.get b' with
   | some _ => none
   | none => some ⟨ρ.set b b', inv.set b' b, (b, b') :: work⟩
def xM : CVal → Bool
 | .bool _ | .int _ _ | .str _ | .nilp | .nils | .nilm | .nilf | .nili => true
 | _ => false
def mC (m : Mt) (c c' : CVal) : Option Mt :=
 match c with
 | .ptr b o =>
  match c' with
  | .ptr b' o' => bif Nat.beq o o' then mB b b' m else none
  | _ => none
 | .slc b o l k e =>
  match c' with
  | .slc b' o' l' k' e' => bif Nat.beq o o' && Nat.beq l l' && Nat.beq k k' && eqB e e' then mB b b' m else none
  | _ => none
 | c => bif xM c && eqV c c' then some m else none
def mCs : List CVal → List CVal → Mt → Option Mt
 | [], [], m => some m
 | c :: cs, c' :: cs', m =>
  match mC m c c' with
  | some m' => mCs cs cs' m'
  | none => none
 | _, _, _ => none
def mS (m : Mt) : SVal → SVal → Option Mt
 | .one c, .one c' => mC m c c'
 | .agg cs, .agg cs' => mCs cs cs' m
 | _, _ => none
def mA : List AVal → List AVal → Mt → Option Mt
 | [], [], m => some m
 | .s v :: vs, .s v' :: vs', m =>
  match mS m v v' with
  | some m' => mA vs vs' m'
  | none => none
 | _, _, _ => none
def zmu (hc h : AHeap) : Nat → Mt → Option (Tr BN)
 | 0, _ => none
 | f + 1, ⟨ρ, inv, work⟩ =>
  match work with
  | [] => some ρ
  | (b, b') :: ws =>
   match hc.t.get b, h.t.get b' with
   | some (.cells cs st), some (.cells cs' st') =>
    bif Nat.beq st st' then
     match mCs cs cs' ⟨ρ, inv, ws⟩ with
     | some m' => zmu hc h f m'
     | none => none
    else none
   | _, _ => none
structure Sum where
 g : Nat
 args : List AVal
 objs : List AObj
 res : AVal
def Sum.heap (s : Sum) : AHeap := ⟨bn s.objs.length, Tr.ofList .z s.objs .nil⟩
def allR (ρ : Tr BN) : BN → List AObj → Bool
 | _, [] => true
 | i, _ :: l =>
  match ρ.get i with
  | some _ => allR ρ i.succ l
  | none => false
def Sum.fits (s : Sum) (args : List AVal) (h : AHeap) : Bool :=
 match mA s.args args ⟨.nil, .nil, []⟩ with
 | some m =>
  match zmu s.heap h (Nat.succ s.objs.length) m with
  | some ρ => allR ρ .z s.objs
  | none => false
 | none => false
def zgH : SVal → Bool
 | .one c => xM c
 | .agg cs => cs.all xM
def xR : AVal → Bool
 | .s v => zgH v
 | .tup vs => vs.all zgH
def zlN (h2 : AHeap) : BN → List AObj → Bool
 | _, [] => true
 | i, .cells cs st :: l =>
  match h2.t.get i with
  | some (.cells cs' st') => eqVs cs cs' && Nat.beq st st' && zlN h2 i.succ l
  | _ => false
 | _, _ :: _ => false
def Sum.chk (call : zh) (s : Sum) : Bool :=
 match call (.inl s.g) s.args s.heap with
 | some (v, h2) => eqA s.res v && xR s.res && zlN h2 .z s.objs
 | none => false
def xA (g : Nat) (args : List AVal) (h : AHeap) : List Sum → Option AVal
 | [] => none
 | s :: l => bif Nat.beq g s.g && s.fits args h then some s.res else xA g args h l
def ze4 (sums : List Sum) (call : zh) : zh
 | .inl g, args, h =>
  match xA g args h sums with
  | some v => some (v, h)
  | none => call (.inl g) args h
 | .inr l, args, h => call (.inr l) args h
def yk (cc : Nat → Code → xf) (fs : Nat → Option RFunc) (sums : List Sum) (n : Nat) : zh :=
 Nat.rec (motive := fun _ => zh) (fun _ _ _ => none) (fun f ih => ze4 sums (zeB cc fs ih f)) n
def isTrue : Res → Bool
 | some (.s (.one (.bool b)), _) => b
 | _ => false
end
theorem zin {r : Res} (h : isTrue r = true) : ∃ h2, r = some (.s (.one (.bool true)), h2) := by
 unfold isTrue at h;split at h
 ·subst h; exact ⟨_, rfl⟩
 ·cases h
def RC (ρ : Tr BN) : CVal → CVal → Prop
 | .ptr b o, c' => ∃ b', c' = .ptr b' o ∧ ρ.get b = some b'
 | .slc b o l k e, c' => ∃ b', c' = .slc b' o l k e ∧ ρ.get b = some b'
 | c, c' => xM c = true ∧ c' = c
def Sub (ρ ρ' : Tr BN) : Prop := ∀ b b', ρ.get b = some b' → ρ'.get b = some b'
theorem Sub.refl (ρ : Tr BN) : Sub ρ ρ := fun _ _ h => h
theorem Sub.trans {a b c : Tr BN} (h : Sub a b) (k : Sub b c) : Sub a c := fun _ _ hh => k _ _ (h _ _ hh)
theorem RC.mono {ρ ρ' : Tr BN} (hs : Sub ρ ρ') {c c' : CVal} (h : RC ρ c c') : RC ρ' c c' := by
 cases c with
 | ptr b o => obtain ⟨b', h1, h2⟩ := h; exact ⟨b', h1, hs _ _ h2⟩
 | slc b o l k e => obtain ⟨b', h1, h2⟩ := h; exact ⟨b', h1, hs _ _ h2⟩
 | _ => exact h
def RCs (ρ : Tr BN) (cs cs' : List CVal) : Prop := cs'.length = cs.length ∧ ∀ (i : Nat) (c : CVal), cs[i]? = some c → ∃ c', cs'[i]? = some c' ∧ RC ρ c c'
theorem RCs.mono {ρ ρ' : Tr BN} (hs : Sub ρ ρ') {cs cs' : List CVal} (h : RCs ρ cs cs') : RCs ρ' cs cs' :=
 ⟨h.1, fun i c hc => by obtain ⟨c', h1, h2⟩ := h.2 i c hc; exact ⟨c', h1, h2.mono hs⟩⟩
def RS (ρ : Tr BN) : SVal → SVal → Prop
 | .one c, v => ∃ c', v = .one c' ∧ RC ρ c c'
 | .agg cs, v => ∃ cs', v = .agg cs' ∧ RCs ρ cs cs'
theorem RS.mono {ρ ρ' : Tr BN} (hs : Sub ρ ρ') {v v' : SVal} (h : RS ρ v v') : RS ρ' v v' := by
 cases v with
 | one c => obtain ⟨c', h1, h2⟩ := h; exact ⟨c', h1, h2.mono hs⟩
 | agg cs => obtain ⟨cs', h1, h2⟩ := h; exact ⟨cs', h1, h2.mono hs⟩
structure MI (D : BN → BN → Prop) (hc h : AHeap) (m : Mt) : Prop where
 inv : ∀ b b', m.ρ.get b = some b' → m.inv.get b' = some b
 pairs : ∀ b b', m.ρ.get b = some b' → (b, b') ∈ m.work ∨ D b b' ∨ ∃ cs cs' st, hc.t.get b = some (.cells cs st) ∧ h.t.get b' = some (.cells cs' st) ∧ RCs m.ρ cs cs'
section
variable {D : BN → BN → Prop} {hc h : AHeap}
theorem zq2 {m m' : Mt} {b b' : BN} (I : MI D hc h m) (e : mB b b' m = some m') : MI D hc h m' ∧ Sub m.ρ m'.ρ ∧ m'.ρ.get b = some b' := by
 obtain ⟨ρ, inv, work⟩ := m;unfold mB at e;simp only at e;split at e
 ·rename_i b'' hb;cases hq : eqBN b'' b' with
  | false => rw [hq] at e; cases e
  | true =>
   rw [hq] at e;cases e;rw [uR hq] at hb;exact ⟨I, Sub.refl _, hb⟩
 ·rename_i hb;split at e
  ·cases e
  ·rename_i hi;cases e;have hsub : Sub ρ (ρ.set b b') := by
    intro x y hx;have : x ≠ b := fun hh => by subst hh; rw [hb] at hx; cases hx
    rw [zn _ _ _ _ this];exact hx
   refine ⟨⟨fun x y hx => ?_, fun x y hx => ?_⟩, hsub, zx _ _ _⟩
   ·show (inv.set b' b).get y = some x;by_cases hxb : x = b
    ·subst hxb;have : y = b' := by
      have hx : (ρ.set x b').get x = some y := hx;rw [zx] at hx;exact (Option.some.inj hx).symm
     subst this;exact zx _ _ _
    ·have hx : (ρ.set b b').get x = some y := hx;rw [zn _ _ _ _ hxb] at hx;have h1 := I.inv x y hx;have : y ≠ b' := fun hh => by subst hh; rw [hi] at h1; cases h1
     rw [zn _ _ _ _ this];exact h1
   ·by_cases hxb : x = b
    ·subst hxb;have : y = b' := by
      have hx : (ρ.set x b').get x = some y := hx;rw [zx] at hx;exact (Option.some.inj hx).symm
     subst this;exact .inl (List.mem_cons_self ..)
    ·have hx : (ρ.set b b').get x = some y := hx;rw [zn _ _ _ _ hxb] at hx;rcases I.pairs x y hx with h1 | h1 | ⟨cs, cs', st, h1, h2, h3⟩
     ·exact .inl (List.mem_cons_of_mem _ h1)
     ·exact .inr (.inl h1)
     ·exact .inr (.inr ⟨cs, cs', st, h1, h2, h3.mono hsub⟩)
theorem zq1 {m m' : Mt} {c c' : CVal} (I : MI D hc h m) (e : mC m c c' = some m') : MI D hc h m' ∧ Sub m.ρ m'.ρ ∧ RC m'.ρ c c' := by
 have rest : (bif xM c && eqV c c' then some m else none) = some m' → (xM c = true → RC m'.ρ c c' ∨ True) → MI D hc h m' ∧ Sub m.ρ m'.ρ ∧ xM c = true ∧ c' = c := by
  intro e _;cases hq : (xM c && eqV c c') with
  | false => rw [hq] at e; cases e
  | true =>
   rw [hq] at e;cases e;obtain ⟨h1, h2⟩ := and2 hq;exact ⟨I, Sub.refl _, h1, (zkQ h2).symm⟩
 cases c with
 | ptr b o =>
  cases c' with
  | ptr b' o' =>
   simp only [mC] at e;cases hq : Nat.beq o o' with
   | false => rw [hq] at e; cases e
   | true =>
    rw [hq] at e;obtain ⟨h1, h2, h3⟩ := zq2 I e;exact ⟨h1, h2, b', by rw [beq_true hq], h3⟩
  | _ => cases e
 | slc b o l k x =>
  cases c' with
  | slc b' o' l' k' x' =>
   simp only [mC] at e;cases hq : (Nat.beq o o' && Nat.beq l l' && Nat.beq k k' && eqB x x') with
   | false => rw [hq] at e; cases e
   | true =>
    rw [hq] at e;obtain ⟨h1, h2, h3⟩ := zq2 I e;obtain ⟨q1, q2⟩ := and2 hq;obtain ⟨q1, q3⟩ := and2 q1;obtain ⟨q1, q4⟩ := and2 q1;exact ⟨h1, h2, b', by rw [beq_true q1, beq_true q4, beq_true q3, zkX q2], h3⟩
  | _ => cases e
 | _ => exact rest e (fun _ => .inr trivial)
theorem zkh : ∀ (cs cs' : List CVal) (m m' : Mt), MI D hc h m → mCs cs cs' m = some m' → MI D hc h m' ∧ Sub m.ρ m'.ρ ∧ RCs m'.ρ cs cs'
 | [], [], m, m', I, e => by cases e; exact ⟨I, Sub.refl _, rfl, fun i c hc => by simp at hc⟩
 | c :: cs, c' :: cs', m, m', I, e => by
  unfold mCs at e;split at e
  ·rename_i m1 h1;obtain ⟨I1, s1, r1⟩ := zq1 I h1;obtain ⟨I2, s2, r2⟩ := zkh cs cs' m1 m' I1 e;refine ⟨I2, s1.trans s2, by simp [r2.1], fun i x hx => ?_⟩
   cases i with
   | zero =>
    simp only [List.getElem?_cons_zero, Option.some.injEq] at hx;subst hx;exact ⟨c', rfl, r1.mono s2⟩
   | succ i =>
    simp only [List.getElem?_cons_succ] at hx ⊢;exact r2.2 i x hx
  ·cases e
 | [], _ :: _, m, m', I, e => by cases e
 | _ :: _, [], m, m', I, e => by cases e
theorem zs2 {m m' : Mt} {v v' : SVal} (I : MI D hc h m) (e : mS m v v' = some m') : MI D hc h m' ∧ Sub m.ρ m'.ρ ∧ RS m'.ρ v v' := by
 cases v with
 | one c =>
  cases v' with
  | one c' => obtain ⟨h1, h2, h3⟩ := zq1 I e; exact ⟨h1, h2, c', rfl, h3⟩
  | agg cs' => cases e
 | agg cs =>
  cases v' with
  | one c' => cases e
  | agg cs' => obtain ⟨h1, h2, h3⟩ := zkh _ _ _ _ I e; exact ⟨h1, h2, cs', rfl, h3⟩
def RAs (ρ : Tr BN) : List AVal → List AVal → Prop
 | [], [] => True
 | .s v :: vs, .s v' :: vs' => RS ρ v v' ∧ RAs ρ vs vs'
 | _, _ => False
theorem RAs.mono {ρ ρ' : Tr BN} (hs : Sub ρ ρ') : ∀ {vs vs' : List AVal}, RAs ρ vs vs' → RAs ρ' vs vs'
 | [], [], _ => trivial
 | .s _ :: _, .s _ :: _, h => ⟨h.1.mono hs, RAs.mono hs h.2⟩
 | [], _ :: _, h => h.elim
 | .tup _ :: _, _, h => by cases h
 | .s _ :: _, [], h => by cases h
 | .s _ :: _, .tup _ :: _, h => by cases h
theorem zq3 : ∀ (vs vs' : List AVal) (m m' : Mt), MI D hc h m → mA vs vs' m = some m' → MI D hc h m' ∧ Sub m.ρ m'.ρ ∧ RAs m'.ρ vs vs'
 | [], [], m, m', I, e => by cases e; exact ⟨I, Sub.refl _, trivial⟩
 | .s v :: vs, .s v' :: vs', m, m', I, e => by
  unfold mA at e;split at e
  ·rename_i m1 h1;obtain ⟨I1, s1, r1⟩ := zs2 I h1;obtain ⟨I2, s2, r2⟩ := zq3 vs vs' m1 m' I1 e;exact ⟨I2, s1.trans s2, r1.mono s2, r2⟩
  ·cases e
 | [], _ :: _, m, m', I, e => by cases e
 | .tup _ :: _, _, m, m', I, e => by unfold mA at e; cases e
 | .s _ :: _, [], m, m', I, e => by cases e
 | .s _ :: _, .tup _ :: _, m, m', I, e => by cases e
theorem zg1 : ∀ (f : Nat) (m : Mt) (ρ : Tr BN), MI (fun _ _ => False) hc h m → zmu hc h f m = some ρ → ∃ inv, MI (fun _ _ => False) hc h ⟨ρ, inv, []⟩ ∧ Sub m.ρ ρ
 | 0, m, ρ, I, e => by cases e
 | f + 1, ⟨ρ0, inv, work⟩, ρ, I, e => by
  unfold zmu at e;cases work with
  | nil => cases e; exact ⟨inv, I, Sub.refl _⟩
  | cons p ws =>
   obtain ⟨b, b'⟩ := p;simp only at e;split at e
   ·rename_i cs st cs' st' h1 h2;cases hq : Nat.beq st st' with
    | false => rw [hq] at e; cases e
    | true =>
     rw [hq] at e;simp only [cond_true] at e;have hst := beq_true hq;subst hst;cases hm : mCs cs cs' ⟨ρ0, inv, ws⟩ with
     | none => rw [hm] at e; cases e
     | some m1 =>
      rw [hm] at e;have I0 : MI (fun x y => x = b ∧ y = b') hc h ⟨ρ0, inv, ws⟩ := by
       refine ⟨I.inv, fun x y hx => ?_⟩
       rcases I.pairs x y hx with k | k | k
       ·cases k with
        | head => exact .inr (.inl ⟨rfl, rfl⟩)
        | tail _ hm => exact .inl hm
       ·exact k.elim
       ·exact .inr (.inr k)
      obtain ⟨I1, s1, r1⟩ := zkh cs cs' _ m1 I0 hm;have I2 : MI (fun _ _ => False) hc h m1 := by
       refine ⟨I1.inv, fun x y hx => ?_⟩
       rcases I1.pairs x y hx with k | ⟨rfl, rfl⟩ | k
       ·exact .inl k
       ·exact .inr (.inr ⟨cs, cs', st, h1, h2, r1⟩)
       ·exact .inr (.inr k)
      obtain ⟨inv', k1, k2⟩ := zg1 f m1 ρ I2 e;exact ⟨inv', k1, s1.trans k2⟩
   ·cases e
theorem ug {s : Sum} {args : List AVal} (e : s.fits args h = true) : ∃ ρ : Tr BN, RAs ρ s.args args ∧ (∀ b c b', ρ.get b = some b' → ρ.get c = some b' → b = c) ∧
  (∀ b b', ρ.get b = some b' → ∃ cs cs' st, s.heap.t.get b = some (.cells cs st) ∧ h.t.get b' = some (.cells cs' st) ∧ RCs ρ cs cs') ∧ allR ρ .z s.objs = true := by
 unfold Sum.fits at e;split at e
 ·rename_i m hm;split at e
  ·rename_i ρ hρ;have I0 : MI (fun _ _ => False) s.heap h ⟨.nil, .nil, []⟩ := ⟨(fun b b' hb => by cases b <;> cases hb), (fun b b' hb => by cases b <;> cases hb)⟩
   obtain ⟨I1, s1, r1⟩ := zq3 _ _ _ _ I0 hm;obtain ⟨inv, I2, s2⟩ := zg1 _ _ _ I1 hρ;refine ⟨ρ, r1.mono s2, fun b c b' hb hc => ?_, fun b b' hb => ?_, e⟩
   ·have h1 := I2.inv b b' hb;have h2 := I2.inv c b' hc;exact Option.some.inj (h1.symm.trans h2)
   ·rcases I2.pairs b b' hb with k | k | k
    ·cases k
    ·exact k.elim
    ·exact k
  ·cases e
 ·cases e
end
section
variable {P : Program} {w0 : World} {S : Nat → Prop} {φ : Phi} {h : AHeap} {w : World}
noncomputable def via (ρ : Tr BN) (φ : Phi) : Phi := fun b => match ρ.get b with | some b' => φ b' | none => ⟨0, 0, 0, true, none⟩
theorem wB {ρ : Tr BN} {b b' : BN} (hb : ρ.get b = some b') : via ρ φ b = φ b' := by unfold via; rw [hb]
theorem zdE {ρ : Tr BN} {c c' : CVal} (hr : RC ρ c c') : zi φ c' = zi (via ρ φ) c := by
 cases c with
 | ptr b o => obtain ⟨b', rfl, hb⟩ := hr; simp only [zi, adr, wB hb]
 | slc b o l k e => obtain ⟨b', rfl, hb⟩ := hr; simp only [zi, adr, wB hb]
 | _ => obtain ⟨hp, rfl⟩ := hr; first | rfl | cases hp
theorem zm8 {ρ : Tr BN} {n m : Nat} (hlt : ∀ b b', ρ.get b = some b' → b.toNat < m) {c c' : CVal} (hr : RC ρ c c') (hw : wfC φ n c') : wfC (via ρ φ) m c := by
 cases c with
 | ptr b o => obtain ⟨b', rfl, hb⟩ := hr; exact ⟨hlt _ _ hb, by rw [wB hb]; exact hw.2⟩
 | slc b o l k e =>
  obtain ⟨b', rfl, hb⟩ := hr;exact ⟨⟨hlt _ _ hb, by rw [wB hb]; exact hw.1.2⟩, by rw [wB hb]; exact hw.2.1, hw.2.2⟩
 | _ => obtain ⟨hp, rfl⟩ := hr; first | trivial | cases hp
theorem zm7 {ρ : Tr BN} {cs cs' : List CVal} (hr : RCs ρ cs cs') : cs'.map (zi φ) = cs.map (zi (via ρ φ)) := by
 apply List.ext_getElem?;intro i;rw [Lz6, Lz6];cases hc : cs[i]? with
 | none =>
  have : cs'[i]? = none := by
   have := hr.1;rw [List.getElem?_eq_none_iff] at hc ⊢;omega
  rw [this]; rfl
 | some c =>
  obtain ⟨c', h1, h2⟩ := hr.2 i c hc;rw [h1];simp only [Option.map_some, zdE h2]
theorem zp1 {ρ : Tr BN} {v v' : SVal} (hr : RS ρ v v') : zF φ v' = zF (via ρ φ) v := by
 cases v with
 | one c => obtain ⟨c', rfl, h2⟩ := hr; exact zdE h2
 | agg cs => obtain ⟨cs', rfl, h2⟩ := hr; simp only [zF, zm7 h2]
theorem ztE {ρ : Tr BN} {n m : Nat} (hlt : ∀ b b', ρ.get b = some b' → b.toNat < m) {v v' : SVal} (hr : RS ρ v v') (hw : wfS φ n v') : wfS (via ρ φ) m v := by
 cases v with
 | one c => obtain ⟨c', rfl, h2⟩ := hr; exact zm8 hlt h2 hw
 | agg cs =>
  obtain ⟨cs', rfl, h2⟩ := hr;intro c hc;obtain ⟨i, hi⟩ := List.mem_iff_getElem?.1 hc;obtain ⟨c', h3, h4⟩ := h2.2 i c hi;exact zm8 hlt h4 (hw c' (Lz3 h3))
theorem zoa {ρ : Tr BN} {n m : Nat} (hlt : ∀ b b', ρ.get b = some b' → b.toNat < m) : ∀ {vs vs' : List AVal}, RAs ρ vs vs' → (∀ x ∈ vs', wfA φ n x) → vs'.map (zo φ) = vs.map (zo (via ρ φ)) ∧ ∀ x ∈ vs, wfA (via ρ φ) m x
 | [], [], _, _ => ⟨rfl, fun x hx => by cases hx⟩
 | .s v :: vs, .s v' :: vs', hr, hw => by
  obtain ⟨h1, h2⟩ := zoa (n := n) hlt hr.2 fun x hx => hw x (by simp [hx])
  refine ⟨?_, fun x hx => ?_⟩
  ·simp only [List.map_cons, h1, zo, zp1 hr.1]
  ·cases hx with
   | head => exact ztE hlt hr.1 (hw (.s v') (by simp))
   | tail _ hm => exact h2 x hm
 | [], _ :: _, hr, _ => hr.elim
 | .tup _ :: _, _, hr, _ => by cases hr
 | .s _ :: _, [], hr, _ => by cases hr
 | .s _ :: _, .tup _ :: _, hr, _ => by cases hr
theorem zeP {ρ : Tr BN} : ∀ (l : List AObj) (i j : Nat) (o : AObj), allR ρ (bn i) l = true → l[j]? = some o → ∃ b', ρ.get (bn (i + j)) = some b'
 | [], i, j, o, e, hj => by simp at hj
 | x :: l, i, j, o, e, hj => by
  unfold allR at e;split at e
  ·rename_i b' hb;cases j with
   | zero => exact ⟨b', hb⟩
   | succ j =>
    rw [zdA] at e;obtain ⟨b'', hb''⟩ := zeP l (i + 1) j o e (by simpa using hj)
    exact ⟨b'', by rwa [show i + (j + 1) = i + 1 + j by omega]⟩
  ·cases e
theorem zac (s : Sum) (b : BN) : s.heap.t.get b = s.objs[b.toNat]? := by
 have e0 : BN.z = bn 0 := rfl;show (Tr.ofList .z s.objs .nil).get b = _;have := vB s.objs 0 (.nil : Tr AObj) b.toNat;rw [xE, ← e0] at this;rw [this];have hn : (Tr.nil : Tr AObj).get b = none := by cases b <;> rfl
 rw [hn];simp
theorem zbM {h2 : AHeap} : ∀ (l : List AObj) (i j : Nat) (o : AObj), zlN h2 (bn i) l = true → l[j]? = some o → ∃ cs st, o = .cells cs st ∧ h2.t.get (bn (i + j)) = some (.cells cs st)
 | [], i, j, o, e, hj => by simp at hj
 | x :: l, i, j, o, e, hj => by
  cases x with
  | cells cs st =>
   unfold zlN at e;split at e
   ·rename_i cs' st' hb;obtain ⟨e1, e2⟩ := and2 e;obtain ⟨e1, e3⟩ := and2 e1;cases j with
    | zero =>
     simp only [List.getElem?_cons_zero, Option.some.injEq] at hj;exact ⟨cs, st, hj.symm, by rw [zfP e1, beq_true e3]; exact hb⟩
    | succ j =>
     rw [zdA] at e2;obtain ⟨cs2, st2, k1, k2⟩ := zbM l (i + 1) j o e2 (by simpa using hj)
     exact ⟨cs2, st2, k1, by rwa [show i + (j + 1) = i + 1 + j by omega]⟩
   ·cases e
  | _ => cases e
theorem zax {φ ψ : Phi} {c : CVal} (hp : xM c = true) : zi φ c = zi ψ c := by cases c <;> first | rfl | cases hp
theorem zdZ {n : Nat} {c : CVal} (hp : xM c = true) : wfC φ n c := by cases c <;> first | trivial | cases hp
theorem zaw {φ ψ : Phi} {v : SVal} (hp : zgH v = true) : zF φ v = zF ψ v := by
 cases v with
 | one c => exact zax hp
 | agg cs =>
  simp only [zF]
  congr 2
  exact List.map_congr_left fun c hc => zax (List.all_eq_true.1 hp c hc)
theorem zdY {n : Nat} {v : SVal} (hp : zgH v = true) : wfS φ n v := by
 cases v with
 | one c => exact zdZ hp
 | agg cs => exact fun c hc => zdZ (List.all_eq_true.1 hp c hc)
theorem zfl {φ ψ : Phi} {v : AVal} (hp : xR v = true) : zo φ v = zo ψ v := by
 cases v with
 | s v => exact zaw hp
 | tup vs =>
  simp only [zo]
  congr 2
  exact List.map_congr_left fun c hc => zaw (List.all_eq_true.1 hp c hc)
theorem zjx {n : Nat} {v : AVal} (hp : xR v = true) : wfA φ n v := by
 cases v with
 | s v => exact zdY hp
 | tup vs => exact fun c hc => zdY (List.all_eq_true.1 hp c hc)
def qr (P : Program) (s : Sum) : Prop := ∃ call, xq P call ∧ s.chk call = true
theorem zqk {s : Sum} (hs : qr P s) {args : List AVal} (H : HRel w0 S φ h w) (hw : ∀ x ∈ args, wfA φ h.n.toNat x) (hf : s.fits args h = true) :
  (∀ as w, (callFunc s.g as).run P w = .ok (.enter s.g as) w) ∧ CallsIn (FR none) 0 P s.g (args.map (zo φ)).toArray w (Ret w0 S φ h s.res h) := by
 obtain ⟨call, C, hchk⟩ := hs;obtain ⟨ρ, hargs, hinj, hpair, hall⟩ := ug hf;unfold Sum.chk at hchk;split at hchk
 ·rename_i v h2 hcall;obtain ⟨e1, e2⟩ := and2 hchk;obtain ⟨e1, e3⟩ := and2 e1;have hv := zhn e1;subst hv;have hn : s.heap.n.toNat = s.objs.length := zO _;have hlt : ∀ b b', ρ.get b = some b' → b.toNat < s.heap.n.toNat := by
   intro b b' hb;obtain ⟨cs, cs', st, h1, _⟩ := hpair b b' hb;rw [zac] at h1;rw [hn];exact (Lz0.1 h1).1
  have hin : ∀ b o, s.heap.t.get b = some o → ∃ b' cs cs' st, ρ.get b = some b' ∧ o = .cells cs st ∧ h.t.get b' = some (.cells cs' st) ∧ RCs ρ cs cs' := by
   intro b o hb;have hb' := hb;rw [zac] at hb';obtain ⟨b', hρ⟩ := zeP s.objs 0 b.toNat o hall hb';rw [Nat.zero_add, xE] at hρ;obtain ⟨cs, cs', st, h1, h3, h4⟩ := hpair b b' hρ;rw [hb] at h1;exact ⟨b', cs, cs', st, hρ, Option.some.inj h1, h3, h4⟩
  obtain ⟨hconc, hwf⟩ := zoa (φ := φ) (n := h.n.toNat) (m := s.heap.n.toNat) hlt hargs hw;have HC : HRel w (fun k => ∃ b b', ρ.get b = some b' ∧ k = (φ b').blk) (via ρ φ) s.heap w := by
   refine ⟨fun b o hb => ?_, fun b o hb => ?_, fun b o hb => ?_, fun b c o o' hb hc _ _ hh => ?_, fun b o hb _ => ?_, rfl, rfl, rfl, LzB _, fun _ _ _ => rfl, H.glob, fun b o hb _ => ?_, fun b o hb _ => ?_⟩
   ·rw [zac] at hb;rw [hn];exact (Lz0.1 hb).1
   ·obtain ⟨b', cs, cs', st, hρ, rfl, hb', hr⟩ := hin b o hb;rw [wB hρ];exact H.okb b' _ hb'
   ·obtain ⟨b', cs, cs', st, hρ, rfl, hb', hr⟩ := hin b o hb;obtain ⟨arr, e, g1, g2, g3, g4⟩ := H.obj b' _ hb';refine ⟨arr, e, by rw [wB hρ]; exact g1, fun i c hc => ?_, by rw [wB hρ]; exact g3, fun c hc => ?_⟩
    ·obtain ⟨c', k1, k2⟩ := hr.2 i c hc;rw [wB hρ, ← zdE k2];exact g2 i c' k1
    ·obtain ⟨i, hi⟩ := List.mem_iff_getElem?.1 hc;obtain ⟨c', k1, k2⟩ := hr.2 i c hi;exact zm8 hlt k2 (g4 c' (Lz3 k1))
   ·obtain ⟨b', cs, cs', st, hρ, rfl, hb', _⟩ := hin b o hb;obtain ⟨c', ds, ds', st2, hρc, rfl, hc', _⟩ := hin c o' hc;rw [wB hρ, wB hρc] at hh;have := H.inj b' c' _ _ hb' hc' trivial trivial hh;subst this;exact hinj b c b' hρ hρc
   ·obtain ⟨b', cs, cs', st, hρ, rfl, hb', _⟩ := hin b o hb;exact .inl ⟨b, b', hρ, by rw [wB hρ]⟩
   ·obtain ⟨b', cs, cs', st, hρ, rfl, hb', _⟩ := hin b o hb;rw [wB hρ];exact H.flat b' _ hb' trivial
   ·obtain ⟨b', cs, cs', st, hρ, rfl, hb', _⟩ := hin b o hb;rw [wB hρ];exact H.ng b' _ hb' trivial
  obtain ⟨hcf, hcl⟩ := (C w _ _ _ w _ _ h2 HC hwf).1 s.g hcall;refine ⟨hcf, ?_⟩;rw [hconc];refine hcl.mono ?_
  rintro e9 w9 ⟨φ2, rfl, he, H2, _, hle⟩
  refine ⟨φ, by rw [zfl (ψ := φ) e3], Ext.refl _ _, ?_, zjx e3, LzB _⟩
  have hkeep : ∀ k, k < w.heap.size → (¬ ∃ b b', ρ.get b = some b' ∧ k = (φ b').blk) → w9.heap[k]? = w.heap[k]? := fun k hk hS => H2.kept k hk hS
  refine ⟨H.keys, H.okb, fun b o hb => ?_, H.inj, H.own, H2.os.trans H.os, H2.tape.trans H.tape, H2.output.trans H.output, Nat.le_trans H.size H2.size, fun k hk hS => ?_, H2.glob, H.flat, H.ng⟩
  ·by_cases hl : live o
   ·by_cases hm : ∃ c c', ρ.get c = some c' ∧ (φ b).blk = (φ c').blk
    ·obtain ⟨c, c', hρ, hblk⟩ := hm;obtain ⟨cs, cs', st, k1, k2, k3⟩ := hpair c c' hρ;have := H.inj b c' _ _ hb k2 hl trivial hblk;subst this;cases hb.symm.trans k2;have k1' := k1;rw [zac] at k1';obtain ⟨cs2, st2, q1, q2⟩ := zbM s.objs 0 c.toNat _ e2 k1';rw [Nat.zero_add, xE] at q2;cases q1;obtain ⟨arr, e, g1, g2, g3, g4⟩ := H2.obj c _ q2;have ec : φ2 c = φ b := (he c (hlt _ _ hρ)).trans (wB hρ);obtain ⟨_, _, _, _, _, o4⟩ := H.obj b _ hb;refine ⟨arr, e, by rw [← ec]; exact g1, fun i x hx => ?_, by rw [← ec]; exact g3, o4⟩
     have hi : i < cs.length := by
      have := (Lz0.1 hx).1;have := k3.1;omega
     obtain ⟨x', j1, j2⟩ := k3.2 i cs[i] (Lz5 hi);rw [hx] at j1;cases j1;have := g2 i cs[i] (Lz5 hi);rw [ec] at this;rw [this, zdE j2];have hwc : wfC (via ρ φ) s.heap.n.toNat cs[i] := zm8 hlt j2 (o4 x (Lz3 hx));rw [vO he hwc]
    ·exact (H.obj b o hb).world fun _ => hkeep _ ((H.obj b o hb).there hl) (fun ⟨c, c', h1, h2⟩ => hm ⟨c, c', h1, h2⟩)
   ·exact (H.obj b o hb).world fun hh => absurd hh hl
  ·by_cases hm : ∃ c c', ρ.get c = some c' ∧ k = (φ c').blk
   ·obtain ⟨c, c', hρ, rfl⟩ := hm;obtain ⟨cs, cs', st, _, k2, _⟩ := hpair c c' hρ;rcases H.own c' _ k2 trivial with h1 | h1
    ·exact absurd h1 hS
    ·omega
   ·rw [hkeep k (Lz9 hk H.size) hm];exact H.kept k hk hS
 ·cases hchk
theorem zcc {g : Nat} {args : List AVal} {v : AVal} : ∀ (l : List Sum), xA g args h l = some v → ∃ s ∈ l, s.g = g ∧ s.fits args h = true ∧ s.res = v
 | [], e => by cases e
 | s :: l, e => by
  unfold xA at e;cases hq : (Nat.beq g s.g && s.fits args h) with
  | true =>
   rw [hq] at e;obtain ⟨h1, h2⟩ := and2 hq;exact ⟨s, by simp, (beq_true h1).symm, h2, Option.some.inj e⟩
  | false =>
   rw [hq] at e;obtain ⟨s', k1, k2⟩ := zcc l e;exact ⟨s', by simp [k1], k2⟩
theorem zlu {sums : List Sum} (hs : ∀ s ∈ sums, qr P s) {call : zh} (C : xq P call) : xq P (ze4 sums call) := by
 intro w0 S φ h w args v h2 H hw;refine ⟨fun g e => ?_, fun l e => (C w0 S φ h w args v h2 H hw).2 l e⟩
 unfold ze4 at e;simp only at e;split at e
 ·rename_i v' hf;cases e;obtain ⟨s, h1, rfl, h3, rfl⟩ := zcc sums hf;exact zqk (hs s h1) H hw h3
 ·exact (C w0 S φ h w args v h2 H hw).1 g e
theorem zdy {fs : Nat → Option RFunc} (hfs : FsOk P fs) {sums : List Sum} (hs : ∀ s ∈ sums, qr P s) : ∀ n, xq P (yk (zW P) fs sums n)
 | 0 => zjX
 | n + 1 => zlu hs (zlb (zdy hfs hs n) hfs n)
theorem zlr {call : zh} (C : xq P call) {f : Nat} {c : CVal} {h2 : AHeap} (e : call (.inl f) [] ⟨.z, .nil⟩ = some (.s (.one c), h2)) (w : World) (hG : GOk w) :
  (∀ as w, (callFunc f as).run P w = .ok (.enter f as) w) ∧ CallsIn (FR none) 0 P f #[] w (fun e w2 => ∃ φ, e = .returned (zi φ c) ∧ Below w.heap.size w w2) := by
 have H : HRel w (fun _ => False) (fun _ => ⟨0, 0, 0, true, none⟩) ⟨.z, .nil⟩ w := by
  have hnil : ∀ b, (Tr.nil : Tr AObj).get b = none := by intro b; cases b <;> rfl
  refine ⟨?_, ?_, ?_, ?_, ?_, rfl, rfl, rfl, LzB _, fun _ _ _ => rfl, hG, ?_, ?_⟩
  ·intro b o hb; rw [hnil] at hb; cases hb
  ·intro b o hb; rfl
  ·intro b o hb; rw [hnil] at hb; cases hb
  ·intro b b' o o' hb; rw [hnil] at hb; cases hb
  ·intro b o hb; rw [hnil] at hb; cases hb
  ·intro b o hb; rw [hnil] at hb; cases hb
  ·intro b o hb; rw [hnil] at hb; cases hb
 have := (C w _ _ _ w [] _ h2 H (fun x hx => by cases hx)).1 f e
 refine ⟨this.1, this.2.mono ?_⟩
 rintro e9 w9 ⟨φ2, rfl, he, H2, _, _⟩
 exact ⟨φ2, rfl, ⟨H2.os, H2.tape, H2.output, H2.size, fun k hk => H2.kept k hk (fun hh => hh)⟩⟩
end
end Go.CE
end
section
namespace Go.CE
noncomputable section
abbrev Fr := Nat → AVal
def frOf (t : Tr AVal) : Fr := fun i => tmpF (bn i) t
def coK (r : Fr) : Operand → Option Opd
 | .tmp t => some (zp (r t))
 | .const v => match cVal v with | some s => some (zp (.s s)) | none => none
 | .func f => some (zp (.s (.one (.fn f []))))
 | .global g => match kB g with | some _ => some (zp (.s (.one (.gptr g 0)))) | none => none
def jv (co : Operand → Option Opd) : List Operand → Option (List Opd)
 | [] => some []
 | x :: xs =>
  match co x, jv co xs with
  | some y, some ys => some (y :: ys)
  | _, _ => none
def qj (co : Operand → Option Opd) : Option Operand → Option (Option Opd)
 | none => some none
 | some x => match co x with | some y => some (some y) | none => none
section
variable (P : Program)
def xC (co : Operand → Option Opd) (fs : Array Field) : List (Nat × Operand) → Option (List (Nat × Nat × Opd))
 | [] => some []
 | (i, x) :: r =>
  match fs[i]?, co x, xC co fs r with
  | some f, some y, some rest =>
   match P.info? f.type with
   | some info => some ((f.offset, info.size, y) :: rest)
   | none => none
  | _, _, _ => none
def xG (co : Operand → Option Opd) (size : Nat) : List (Nat × Operand) → Option (List (Nat × Nat × Opd))
 | [] => some []
 | (i, x) :: r =>
  match co x, xG co size r with
  | some y, some rest => some ((i * size, size, y) :: rest)
  | _, _ => none
def cOpG (co : Operand → Option Opd) (o : Op) : OpFn := zV <| match o with
 | .move x | .assign x => (co x).map opMv
 | .pick c a b => do pure (uy (← co c) (← co a) (← co b))
 | .alloc t => bif kj P t then do pure (zab t (← zZ P t).cells) else do pure (zaL (← zZ P t).cells)
 | .box _ x => do pure (zby (← co x))
 | .build t parts =>
  match P.underlying t, zZ P t with
  | some (.struct fs), some z => bif jQ P fs.toList then do pure (wM z.cells (← xC P co fs parts.toList)) else none
  | some (.array _ e), some z =>
   match P.info? e with
   | some i => do pure (wM z.cells (← xG co i.size parts.toList))
   | none => none
  | _, _ => none
 | .buildSlice t len parts =>
  match P.underlying t with
  | some (.slice e) =>
   match P.info? e with
   | some i =>
    bif Nat.ble (len * i.size) 16777216 then
     match (bif Nat.beq (len * i.size) 0 then some [] else (zZ P e).map SVal.cells) with
     | some zs => bif Nat.beq (len * i.size) 0 || Nat.beq zs.length i.size then do pure (xX i.size len (repl zs len) (← xG co i.size parts.toList)) else none
     | none => none
    else none
   | none => none
  | _ => none
 | .load t x => do pure (uB (← xx P t) (← co x))
 | .store t x v => do pure (kS (← P.info? t).size (← co x) (← co v))
 | .nilCheck x => do pure (wH (← co x))
 | .binOp op t x y _ =>
  match P.underlying t with
  | some (.int _) =>
   match op with
   | .shl => do pure (xS zdg (← co x) (← co y))
   | .shr => do pure (xS zdf (← co x) (← co y))
   | op => do pure (qR (wQ op) (← co x) (← co y))
  | some .string => do pure (zaF op (← co x) (← co y))
  | some (.slice _) =>
   match op with
   | .eql => do pure (vA false (← co x) (← co y))
   | .neq => do pure (vA true (← co x) (← co y))
   | _ => none
  | some (.pointer e) =>
   bif xz P e then
   match op with
   | .eql => do pure (wG false (← co x) (← co y))
   | .neq => do pure (wG true (← co x) (← co y))
   | _ => none
   else none
  | some (.func _ _ _) =>
   match op with
   | .eql => do pure (uz false (← co x) (← co y))
   | .neq => do pure (uz true (← co x) (← co y))
   | _ => none
  | some _ =>
   bif P.eqGuardType P.depth t then none else
   match op with
   | .eql => do pure (opEq (← keyT P t) false (← co x) (← co y))
   | .neq => do pure (opEq (← keyT P t) true (← co x) (← co y))
   | _ => none
  | none => none
 | .unOp .not _ x => do pure (zaG (← co x))
 | .unOp .neg _ x => do pure (zaH (← co x))
 | .convert s d x =>
  match P.underlying s, P.underlying d with
  | some (.int _), some (.int k) => do pure (uF k (← co x))
  | some .string, some (.slice e) => bif yy P e then do pure (zib (← co x)) else none
  | some (.slice e), some .string => bif yy P e then do pure (j8 (← co x)) else none
  | some (.pointer e), some .unsafePointer => bif xz P e then do pure (zcU (← co x)) else none
  | some .unsafePointer, some (.pointer u) => bif zim P u then do pure (zcT u (P.cellsOf u) (← co x)) else none
  | _, _ => none
 | .makeFunc (.func f) first captured => bif first.isEmpty then do pure (uA f (← jv co captured.toList)) else none
 | .makeMap _ none => some zaJ
 | .makeSlice t l c =>
  match P.underlying t with
  | some (.slice e) =>
   match P.info? e, zZ P e with
   | some i, some z => bif Nat.beq z.cells.length i.size && !Nat.beq i.size 0 then do pure (xp i.size z.cells i.bytes (← co l) (← co c)) else none
   | _, _ => none
  | _ => none
 | .slice t x lo hi mx =>
  match P.underlying t with
  | some (.slice e) =>
   match P.info? e with
   | some i => bif mx.isSome && !hi.isSome then none else do pure (wF i.size (← co x) (← qj co lo) (← qj co hi) (← qj co mx))
   | none => none
  | some (.array n e) =>
   match P.info? e with
   | some i => bif mx.isSome && !hi.isSome then none else do pure (wu n i.size (← co x) (← qj co lo) (← qj co hi) (← qj co mx))
   | none => none
  | some .string => bif mx.isSome then none else do pure (xi (← co x) (← qj co lo) (← qj co hi))
  | _ => none
 | .fieldAddr t x f =>
  match P.underlying t with
  | some (.struct fs) =>
   match fs[f]? with
   | some fd =>
    match P.info? fd.type with
    | some i => bif Nat.beq i.size 0 then none else do pure (uE (← co x) fd.offset)
    | none => none
   | none => none
  | _ => none
 | .field t x f =>
  match P.underlying t with
  | some (.struct fs) =>
   match fs[f]? with
   | some fd => do pure (wL (← co x) fd.offset (← xx P fd.type))
   | none => none
  | _ => none
 | .indexAddr t x i =>
  match P.underlying t with
  | some (.slice e) =>
   match P.info? e with
   | some info => do pure (zaK info.size (← co x) (← co i))
   | none => none
  | some (.array len e) =>
   match P.info? e with
   | some info => do pure (wJ len info.size (← co x) (← co i))
   | none => none
  | _ => none
 | .index t x i =>
  match P.underlying t with
  | some (.array len e) =>
   match P.info? e with
   | some info => do pure (wK len info.size (← xx P e) (← co x) (← co i))
   | none => none
  | some .string => do pure (wI (← co x) (← co i))
  | _ => none
 | .lookup t m k ok =>
  match P.underlying t with
  | some (.map key e) => do pure (xW (← keyT P key) (← zZ P e) ok (← co m) (← co k))
  | _ => none
 | .mapUpdate t m k v | .insert t m k v =>
  match P.underlying t with
  | some (.map key _) => do pure (zaI (← keyT P key) (← co m) (← co k) (← co v))
  | _ => none
 | .mapEntry t m k =>
  match P.underlying t with
  | some (.map key e) => do pure (j6 (← keyT P key) (← zZ P e) (← co m) (← co k))
  | _ => none
 | .entryStore _ m s v => do pure (j7 (← co m) (← co s) (← co v))
 | .extract x i => do pure (xb (← co x) i)
 | .call c =>
  match c.callee with
  | .value f =>
   bif Nat.beq (jJ P f) 0 then do pure (zbX (← co f) (← jv co c.args.toList)) else cExt co (jJ P f) c.args.toList
  | .builtin .unsafeSliceData =>
   match c.args.toList with
   | [x] => do pure (wE (← co x))
   | _ => none
  | .builtin .unsafeString =>
   match c.argTypes.toList, c.args.toList with
   | [pt, _], [x, n] =>
    match P.underlying pt with
    | some (.pointer e) => bif yy P e && Nat.beq (P.cellsOf e) 1 then do pure (zd7 e (← co x) (← co n)) else none
    | _ => none
   | _, _ => none
  | .builtin .cap =>
   match c.argTypes[0]?, c.args[0]? with
   | some t, some x =>
    match P.underlying t with
    | some (.slice _) => do pure (zjF (← co x))
    | _ => none
   | _, _ => none
  | .builtin .copy =>
   match c.argTypes.toList, c.args.toList with
   | [t, t2], [d, s] =>
    match P.underlying t, P.underlying t2 with
    | some (.slice e), some (.slice _) =>
     match P.info? e with
     | some i => bif Nat.beq i.size 0 then none else do pure (zd8 i.size (← co d) (← co s))
     | none => none
    | _, _ => none
   | _, _ => none
  | .builtin .len =>
   match c.argTypes[0]?, c.args[0]? with
   | some t, some x =>
    match P.underlying t with
    | some .string => do pure (uC (← co x))
    | some (.slice _) => do pure (uD (← co x))
    | some (.map _ _) => do pure (jp (← co x))
    | some (.array n _) => some (opMv (zp (.s (.one (.int .i64 (.ofNat n))))))
    | _ => none
   | _, _ => none
  | .builtin .append =>
   match c.argTypes.toList, c.args.toList with
   | [t, t2], [s, x] =>
    match P.underlying t with
    | some (.slice e) =>
     match P.info? e, zZ P e with
     | some i, some z =>
      bif Nat.beq z.cells.length i.size && !Nat.beq i.size 0 then
       match P.underlying t2 with
       | some (.slice _) => bif yy P e && Nat.beq i.size 1 then do pure (uH e i.bytes (← co s) (← co x)) else do pure (xj false i.size i.bytes (← co s) (← co x))
       | some .string => bif Nat.beq i.size 1 then do pure (uG e i.bytes (← co s) (← co x)) else none
       | _ => none
      else none
     | _, _ => none
    | _ => none
   | _, _ => none
  | .builtin .clear =>
   match c.argTypes[0]?, c.args[0]? with
   | some t, some x =>
    match P.underlying t with
    | some (.slice e) =>
     match P.info? e, zZ P e with
     | some i, some z => bif Nat.beq z.cells.length i.size && !Nat.beq i.size 0 then do pure (kT i.size z.cells (← co x)) else none
     | _, _ => none
    | _ => none
   | _, _ => none
  | .builtin .max =>
   match jv co c.args.toList with
   | some (x :: xs) => some (yT true x xs)
   | _ => none
  | .builtin .min =>
   match jv co c.args.toList with
   | some (x :: xs) => some (yT false x xs)
   | _ => none
  | _ => none
 | _ => none
end
end
section
variable {P : Program} {t : Tr AVal}
def OR (t : Tr AVal) (a b : Option Opd) : Prop := (a = none ∧ b = none) ∨ ∃ x y, a = some x ∧ b = some y ∧ x .nil = y t
theorem zH (x : Operand) : OR t (coK (frOf t) x) (cOpd x) := by
 cases x with
 | tmp i => exact .inr ⟨_, _, rfl, rfl, rfl⟩
 | const v =>
  simp only [coK, cOpd];cases cVal v with
  | none => exact .inl ⟨rfl, rfl⟩
  | some s => exact .inr ⟨_, _, rfl, rfl, rfl⟩
 | func f => exact .inr ⟨_, _, rfl, rfl, rfl⟩
 | global g =>
  simp only [coK, cOpd];cases kB g with
  | none => exact .inl ⟨rfl, rfl⟩
  | some q => exact .inr ⟨_, _, rfl, rfl, rfl⟩
def LR (t : Tr AVal) : List Opd → List Opd → Prop
 | [], [] => True
 | x :: xs, y :: ys => x .nil = y t ∧ LR t xs ys
 | _, _ => False
theorem zbd : ∀ l : List Operand, (jv (coK (frOf t)) l = none ∧ vr l = none) ∨ ∃ xs ys, jv (coK (frOf t)) l = some xs ∧ vr l = some ys ∧ LR t xs ys
 | [] => .inr ⟨[], [], rfl, rfl, trivial⟩
 | x :: l => by
  simp only [jv, vr];rcases zH (t := t) x with ⟨h1, h2⟩ | ⟨a, b, h1, h2, h3⟩
  ·rw [h1, h2]; exact .inl ⟨rfl, rfl⟩
  ·rw [h1, h2];rcases zbd l with ⟨k1, k2⟩ | ⟨as, bs, k1, k2, k3⟩
   ·rw [k1, k2]; exact .inl ⟨rfl, rfl⟩
   ·rw [k1, k2]; exact .inr ⟨_, _, rfl, rfl, h3, k3⟩
def PR (t : Tr AVal) : List (Nat × Nat × Opd) → List (Nat × Nat × Opd) → Prop
 | [], [] => True
 | x :: xs, y :: ys => x.1 = y.1 ∧ x.2.1 = y.2.1 ∧ x.2.2 .nil = y.2.2 t ∧ PR t xs ys
 | _, _ => False
theorem jr (fs : Array Field) : ∀ l : List (Nat × Operand), (xC P (coK (frOf t)) fs l = none ∧ xk P fs l = none) ∨ ∃ xs ys, xC P (coK (frOf t)) fs l = some xs ∧ xk P fs l = some ys ∧ PR t xs ys
 | [] => .inr ⟨[], [], rfl, rfl, trivial⟩
 | (i, x) :: l => by
  simp only [xC, xk];cases fs[i]? with
  | none => exact .inl ⟨rfl, rfl⟩
  | some f =>
   rcases zH (t := t) x with ⟨h1, h2⟩ | ⟨a, b, h1, h2, h3⟩
   ·rw [h1, h2]; exact .inl ⟨rfl, rfl⟩
   ·rw [h1, h2];rcases jr fs l with ⟨k1, k2⟩ | ⟨as, bs, k1, k2, k3⟩
    ·rw [k1, k2]; exact .inl ⟨rfl, rfl⟩
    ·rw [k1, k2];simp only;cases P.info? f.type with
     | none => exact .inl ⟨rfl, rfl⟩
     | some i => exact .inr ⟨_, _, rfl, rfl, rfl, rfl, h3, k3⟩
theorem uh (n : Nat) : ∀ l : List (Nat × Operand), (xG (coK (frOf t)) n l = none ∧ y1 n l = none) ∨ ∃ xs ys, xG (coK (frOf t)) n l = some xs ∧ y1 n l = some ys ∧ PR t xs ys
 | [] => .inr ⟨[], [], rfl, rfl, trivial⟩
 | (i, x) :: l => by
  simp only [xG, y1];rcases zH (t := t) x with ⟨h1, h2⟩ | ⟨a, b, h1, h2, h3⟩
  ·rw [h1, h2]; exact .inl ⟨rfl, rfl⟩
  ·rw [h1, h2];rcases uh n l with ⟨k1, k2⟩ | ⟨as, bs, k1, k2, k3⟩
   ·rw [k1, k2]; exact .inl ⟨rfl, rfl⟩
   ·rw [k1, k2]; exact .inr ⟨_, _, rfl, rfl, rfl, rfl, h3, k3⟩
theorem kF : ∀ (xs ys : List (Nat × Nat × Opd)) (cs : List CVal), PR t xs ys → kG .nil xs cs = kG t ys cs
 | [], [], _, _ => rfl
 | (a, b, x) :: xs, (a', b', y) :: ys, cs, ⟨h1, h2, h3, h4⟩ => by
  simp only at h1 h2 h3;subst h1 h2;simp only [kG];rw [h3];cases y t with
  | tup _ => rfl
  | s v =>
   simp only;cases uJ v.cells b with
   | false => rfl
   | true =>
    simp only [cond_true];cases putAt v.cells cs a with
    | none => rfl
    | some cs' => exact kF xs ys cs' h4
theorem zkf : ∀ (xs ys : List Opd), LR t xs ys → xs.map (fun x => x .nil) = ys.map (fun x => x t)
 | [], [], _ => rfl
 | x :: xs, y :: ys, ⟨h1, h2⟩ => by rw [List.map_cons, List.map_cons, h1, zkf xs ys h2]
theorem zgF : ∀ (xs ys : List Opd), LR t xs ys → ptrs .nil xs = ptrs t ys
 | [], [], _ => rfl
 | x :: xs, y :: ys, ⟨h1, h2⟩ => by simp only [ptrs]; rw [h1, zgF xs ys h2]
theorem zcY (m : Bool) (k : IntKind) : ∀ (xs ys : List Opd) (z : Int), LR t xs ys → minI m k .nil xs z = minI m k t ys z
 | [], [], _, _ => rfl
 | x :: xs, y :: ys, z, ⟨h1, h2⟩ => by
  simp only [minI];rw [h1];split
  ·rename_i k' y' _;cases eqK k k' with
   | false => rfl
   | true => exact zcY m k xs ys _ h2
  ·rfl
def QR (t : Tr AVal) (a b : Option Opd) : Prop := (a = none ∧ b = none) ∨ ∃ x y, a = some x ∧ b = some y ∧ x .nil = y t
theorem QR.bnd {a b : Option Opd} (h : QR t a b) (d y : Nat) : bnd .nil a d y = CE.bnd t b d y := by
 rcases h with ⟨rfl, rfl⟩ | ⟨x, z, rfl, rfl, h⟩
 ·rfl
 ·simp only [CE.bnd]; rw [h]
theorem ux (x : Option Operand) : (qj (coK (frOf t)) x = none ∧ cOpt x = none) ∨ ∃ a b, qj (coK (frOf t)) x = some a ∧ cOpt x = some b ∧ QR t a b := by
 cases x with
 | none => exact .inr ⟨none, none, rfl, rfl, .inl ⟨rfl, rfl⟩⟩
 | some x =>
  simp only [qj, cOpt];rcases zH (t := t) x with ⟨h1, h2⟩ | ⟨a, b, h1, h2, h3⟩
  ·rw [h1, h2]; exact .inl ⟨rfl, rfl⟩
  ·rw [h1, h2]; exact .inr ⟨_, _, rfl, rfl, .inr ⟨_, _, rfl, rfl, h3⟩⟩
theorem zfe {lo hi mx lo' hi' mx' : Option Opd} (h1 : QR t lo lo') (h2 : QR t hi hi') (h3 : QR t mx mx') (st : Nat) (h : AHeap) (b : BN) (off len cap : Nat) :
  y0 st lo hi mx .nil h b off len cap = y0 st lo' hi' mx' t h b off len cap := by
 have e1 := h1.bnd;have e2 := h2.bnd;have e3 := h3.bnd;rcases h3 with ⟨rfl, rfl⟩ | ⟨x, z, rfl, rfl, h⟩
 ·simp only [y0, e2, e1]
 ·rcases h2 with ⟨rfl, rfl⟩ | ⟨x', z', rfl, rfl, h'⟩
  ·simp only [y0, e3]
  ·simp only [y0, e3, e2, e1]
variable (call : zh) (h : AHeap)
theorem zk9 (o : Op) : cOpG P (coK (frOf t)) o call .nil h = cOp P o call t h := by
 cases o with
 | move x => rcases zH (t := t) x with ⟨h1, h2⟩ | ⟨a, b, h1, h2, h3⟩ <;> simp only [cOpG, cOp, zV, Option.map_none, Option.map_some, opMv, yN, *]
 | assign x => rcases zH (t := t) x with ⟨h1, h2⟩ | ⟨a, b, h1, h2, h3⟩ <;> simp only [cOpG, cOp, zV, Option.map_none, Option.map_some, opMv, yN, *]
 | pick c a b =>
  rcases zH (t := t) c with ⟨h1c, h2c⟩ | ⟨oac, obc, h1c, h2c, h3c⟩ <;> rcases zH (t := t) a with ⟨h1a, h2a⟩ | ⟨oaa, oba, h1a, h2a, h3a⟩ <;> rcases zH (t := t) b with ⟨h1b, h2b⟩ | ⟨oab, obb, h1b, h2b, h3b⟩ <;> simp [cOpG, cOp, zV, yN, uy, *]
 | alloc ty =>
  simp only [cOpG, cOp];cases kj P ty <;> cases zZ P ty <;> rfl
 | box ty x =>
  rcases zH (t := t) x with ⟨h1, h2⟩ | ⟨a, b, h1, h2, h3⟩ <;> simp [cOpG, cOp, zV, yN, zby, *]
 | build ty parts =>
  simp only [cOpG, cOp];cases P.underlying ty with
  | none => rfl
  | some u =>
   cases zZ P ty with
   | none => cases u <;> rfl
   | some z =>
    cases u with
    | struct fs =>
     simp only;cases jQ P fs.toList with
     | false => rfl
     | true =>
      rcases jr (P := P) (t := t) fs parts.toList with ⟨h1, h2⟩ | ⟨xs, ys, h1, h2, h3⟩
      ·simp only [cond_true, h1, h2]; rfl
      ·simp only [cond_true, h1, h2, Option.bind_eq_bind, Option.bind_some, Option.pure_def, zV, wM, kF _ _ _ h3]
    | array n e =>
     simp only;cases P.info? e with
     | none => rfl
     | some i =>
      rcases uh (t := t) i.size parts.toList with ⟨h1, h2⟩ | ⟨xs, ys, h1, h2, h3⟩
      ·simp only [h1, h2]; rfl
      ·simp only [h1, h2, Option.bind_eq_bind, Option.bind_some, Option.pure_def, zV, wM, kF _ _ _ h3]
    | _ => rfl
 | buildSlice ty len parts =>
  simp only [cOpG, cOp];cases P.underlying ty with
  | none => rfl
  | some u =>
   cases u with
   | slice e =>
    simp only;cases P.info? e with
    | none => rfl
    | some i =>
     simp only;cases Nat.ble (len * i.size) 16777216 with
     | false => rfl
     | true =>
      simp only [cond_true];generalize (bif Nat.beq (len * i.size) 0 then some [] else (zZ P e).map SVal.cells) = q
      cases q with
      | none => rfl
      | some zs =>
       simp only;generalize (Nat.beq (len * i.size) 0 || Nat.beq zs.length i.size) = q2
       cases q2 with
       | false => rfl
       | true =>
        rcases uh (t := t) i.size parts.toList with ⟨h1, h2⟩ | ⟨xs, ys, h1, h2, h3⟩
        ·simp only [cond_true, h1, h2]; rfl
        ·simp only [cond_true, h1, h2, Option.bind_eq_bind, Option.bind_some, Option.pure_def, zV, xX, kF _ _ _ h3]
   | _ => rfl
 | load ty x =>
  simp only [cOpG, cOp];cases xx P ty with
  | none => rfl
  | some n =>
   rcases zH (t := t) x with ⟨h1, h2⟩ | ⟨a, b, h1, h2, h3⟩ <;> simp [zV, yN, uB, *]
 | store ty x v =>
  simp only [cOpG, cOp];cases P.info? ty with
  | none => rfl
  | some n =>
   rcases zH (t := t) x with ⟨h1x, h2x⟩ | ⟨oax, obx, h1x, h2x, h3x⟩ <;> rcases zH (t := t) v with ⟨h1v, h2v⟩ | ⟨oav, obv, h1v, h2v, h3v⟩ <;> simp [zV, yN, kS, *]
 | nilCheck x =>
  rcases zH (t := t) x with ⟨h1, h2⟩ | ⟨a, b, h1, h2, h3⟩ <;> simp [cOpG, cOp, zV, yN, wH, *]
 | binOp op ty x y ty2 =>
  simp only [cOpG, cOp];cases P.underlying ty with
  | none => rfl
  | some u =>
   by_cases hu : ∃ te, u = .pointer te
   ·obtain ⟨te, rfl⟩ := hu;simp only;cases xz P te with
    | false => rfl
    | true => rcases zH (t := t) x with ⟨h1x, h2x⟩ | ⟨oax, obx, h1x, h2x, h3x⟩ <;> rcases zH (t := t) y with ⟨h1y, h2y⟩ | ⟨oay, oby, h1y, h2y, h3y⟩ <;> cases op <;> first | rfl | simp [zV, yN, wG, *]
   ·rcases zH (t := t) x with ⟨h1x, h2x⟩ | ⟨oax, obx, h1x, h2x, h3x⟩ <;> rcases zH (t := t) y with ⟨h1y, h2y⟩ | ⟨oay, oby, h1y, h2y, h3y⟩ <;> simp only [h1x, h2x, h1y, h2y]
    all_goals (cases u <;> first | rfl | (exfalso; exact hu ⟨_, rfl⟩) | skip)
    all_goals (clear hu)
    all_goals (try generalize P.eqGuardType P.depth ty = q)
    all_goals (try generalize keyT P ty = q2)
    all_goals (cases op <;> first | rfl | simp only [Option.bind_eq_bind, Option.bind_some, Option.bind_none, Option.pure_def, zV, qR, xS, zaF, vA, uz, *])
    all_goals (cases q <;> first | rfl | skip)
    all_goals (cases q2 <;> first | rfl | simp only [cond_false, Option.bind_some, opEq, *])
 | unOp op ty x =>
  cases op <;> first | rfl | (rcases zH (t := t) x with ⟨h1, h2⟩ | ⟨a, b, h1, h2, h3⟩ <;> simp [cOpG, cOp, zV, yN, zaG, zaH, *])
 | convert s d x =>
  simp only [cOpG, cOp];cases P.underlying s with
  | none => rfl
  | some u =>
   cases P.underlying d with
   | none => cases u <;> rfl
   | some u2 =>
    cases u <;> first | rfl | skip
    all_goals (cases u2 <;> first | rfl | skip)
    case string.slice el => cases hb : yy P el <;> rcases zH (t := t) x with ⟨h1, h2⟩ | ⟨a, b, h1, h2, h3⟩ <;> simp [zV, yN, zib, *]
    case slice.string el => cases hb : yy P el <;> rcases zH (t := t) x with ⟨h1, h2⟩ | ⟨a, b, h1, h2, h3⟩ <;> simp [zV, yN, j8, *]
    case pointer.unsafePointer el => cases hb : xz P el <;> rcases zH (t := t) x with ⟨h1, h2⟩ | ⟨a, b, h1, h2, h3⟩ <;> simp [zV, yN, zcU, *]
    case unsafePointer.pointer el => cases hb : zim P el <;> rcases zH (t := t) x with ⟨h1, h2⟩ | ⟨a, b, h1, h2, h3⟩ <;> simp [zV, yN, zcT, *]
    all_goals (rcases zH (t := t) x with ⟨h1, h2⟩ | ⟨a, b, h1, h2, h3⟩ <;> simp [zV, yN, uF, *])
 | makeFunc fn first captured =>
  cases fn <;> first | rfl | skip
  simp only [cOpG, cOp];cases first.isEmpty with
  | false => rfl
  | true =>
   rcases zbd (t := t) captured.toList with ⟨h1, h2⟩ | ⟨xs, ys, h1, h2, h3⟩
   ·simp only [cond_true, h1, h2]; rfl
   ·simp only [cond_true, h1, h2, Option.bind_eq_bind, Option.bind_some, Option.pure_def, zV, uA, zgF _ _ h3]
 | makeMap ty r =>
  cases r <;> rfl
 | makeSlice ty l c =>
  simp only [cOpG, cOp];cases P.underlying ty with
  | none => rfl
  | some u =>
   cases u with
   | slice e =>
    simp only;cases P.info? e with
    | none => rfl
    | some i =>
     cases zZ P e with
     | none => rfl
     | some z =>
      simp only;generalize (Nat.beq z.cells.length i.size && !Nat.beq i.size 0) = q;cases q with
      | false => rfl
      | true => rcases zH (t := t) l with ⟨h1l, h2l⟩ | ⟨oal, obl, h1l, h2l, h3l⟩ <;> rcases zH (t := t) c with ⟨h1c, h2c⟩ | ⟨oac, obc, h1c, h2c, h3c⟩ <;> simp [zV, yN, xp, *]
   | _ => rfl
 | slice ty x lo hi mx =>
  simp only [cOpG, cOp];cases P.underlying ty with
  | none => rfl
  | some u =>
   cases u with
   | slice e =>
    simp only;cases P.info? e with
    | none => rfl
    | some i =>
     simp only;generalize (mx.isSome && !hi.isSome) = q;cases q with
     | true => rfl
     | false =>
      rcases zH (t := t) x with ⟨h1x, h2x⟩ | ⟨oax, obx, h1x, h2x, h3x⟩
      ·simp only [h1x, h2x, cond_false]; rfl
      ·rcases ux (t := t) lo with ⟨k1, k2⟩ | ⟨l1, l2, k1, k2, k3⟩
       ·simp only [h1x, h2x, k1, k2, cond_false]; rfl
       ·rcases ux (t := t) hi with ⟨m1, m2⟩ | ⟨g1, g2, m1, m2, m3⟩
        ·simp only [h1x, h2x, k1, k2, m1, m2, cond_false]; rfl
        ·rcases ux (t := t) mx with ⟨n1, n2⟩ | ⟨j1, j2, n1, n2, n3⟩
         ·simp only [h1x, h2x, k1, k2, m1, m2, n1, n2, cond_false]; rfl
         ·simp only [h1x, h2x, k1, k2, m1, m2, n1, n2, cond_false, Option.bind_eq_bind, Option.bind_some, Option.pure_def, zV, wF, h3x, xg, y3, zfe k3 m3 n3, k3.bnd, m3.bnd, n3.bnd]
   | array len e =>
    simp only;cases P.info? e with
    | none => rfl
    | some i =>
     simp only;generalize (mx.isSome && !hi.isSome) = q;cases q with
     | true => rfl
     | false =>
      rcases zH (t := t) x with ⟨h1x, h2x⟩ | ⟨oax, obx, h1x, h2x, h3x⟩
      ·simp only [h1x, h2x, cond_false]; rfl
      ·rcases ux (t := t) lo with ⟨k1, k2⟩ | ⟨l1, l2, k1, k2, k3⟩
       ·simp only [h1x, h2x, k1, k2, cond_false]; rfl
       ·rcases ux (t := t) hi with ⟨m1, m2⟩ | ⟨g1, g2, m1, m2, m3⟩
        ·simp only [h1x, h2x, k1, k2, m1, m2, cond_false]; rfl
        ·rcases ux (t := t) mx with ⟨n1, n2⟩ | ⟨j1, j2, n1, n2, n3⟩
         ·simp only [h1x, h2x, k1, k2, m1, m2, n1, n2, cond_false]; rfl
         ·simp only [h1x, h2x, k1, k2, m1, m2, n1, n2, cond_false, Option.bind_eq_bind, Option.bind_some, Option.pure_def, zV, wu, h3x, y3, k3.bnd, m3.bnd, n3.bnd]
   | string =>
    simp only;cases mx.isSome with
    | true => rfl
    | false =>
     rcases zH (t := t) x with ⟨h1x, h2x⟩ | ⟨oax, obx, h1x, h2x, h3x⟩
     ·simp only [h1x, h2x, cond_false]; rfl
     ·rcases ux (t := t) lo with ⟨k1, k2⟩ | ⟨l1, l2, k1, k2, k3⟩
      ·simp only [h1x, h2x, k1, k2, cond_false]; rfl
      ·rcases ux (t := t) hi with ⟨m1, m2⟩ | ⟨g1, g2, m1, m2, m3⟩
       ·simp only [h1x, h2x, k1, k2, m1, m2, cond_false]; rfl
       ·simp only [h1x, h2x, k1, k2, m1, m2, cond_false, Option.bind_eq_bind, Option.bind_some, Option.pure_def, zV, xi, h3x, k3.bnd, m3.bnd]
   | _ => rfl
 | fieldAddr ty x f =>
  simp only [cOpG, cOp];cases P.underlying ty with
  | none => rfl
  | some u =>
   cases u with
   | struct fs =>
    simp only;cases fs[f]? with
    | none => rfl
    | some fd =>
     simp only;cases P.info? fd.type with
     | none => rfl
     | some i =>
      simp only;cases Nat.beq i.size 0 with
      | true => rfl
      | false => rcases zH (t := t) x with ⟨h1, h2⟩ | ⟨a, b, h1, h2, h3⟩ <;> simp [zV, yN, uE, *]
   | _ => rfl
 | field ty x f =>
  simp only [cOpG, cOp];cases P.underlying ty with
  | none => rfl
  | some u =>
   cases u with
   | struct fs =>
    simp only;cases fs[f]? with
    | none => rfl
    | some fd =>
     simp only;rcases zH (t := t) x with ⟨h1, h2⟩ | ⟨a, b, h1, h2, h3⟩ <;> cases xx P fd.type <;> simp [zV, yN, wL, *]
   | _ => rfl
 | indexAddr ty x i =>
  simp only [cOpG, cOp];cases P.underlying ty with
  | none => rfl
  | some u =>
   cases u with
   | slice e =>
    simp only;cases P.info? e with
    | none => rfl
    | some n => rcases zH (t := t) x with ⟨h1x, h2x⟩ | ⟨oax, obx, h1x, h2x, h3x⟩ <;> rcases zH (t := t) i with ⟨h1i, h2i⟩ | ⟨oai, obi, h1i, h2i, h3i⟩ <;> simp [zV, yN, zaK, *]
   | array len e =>
    simp only;cases P.info? e with
    | none => rfl
    | some n => rcases zH (t := t) x with ⟨h1x, h2x⟩ | ⟨oax, obx, h1x, h2x, h3x⟩ <;> rcases zH (t := t) i with ⟨h1i, h2i⟩ | ⟨oai, obi, h1i, h2i, h3i⟩ <;> simp [zV, yN, wJ, *]
   | _ => rfl
 | index ty x i =>
  simp only [cOpG, cOp];cases P.underlying ty with
  | none => rfl
  | some u =>
   cases u with
   | array len e =>
    simp only;cases P.info? e with
    | none => rfl
    | some n => rcases zH (t := t) x with ⟨h1x, h2x⟩ | ⟨oax, obx, h1x, h2x, h3x⟩ <;> rcases zH (t := t) i with ⟨h1i, h2i⟩ | ⟨oai, obi, h1i, h2i, h3i⟩ <;> cases xx P e <;> simp [zV, yN, wK, *]
   | string => rcases zH (t := t) x with ⟨h1x, h2x⟩ | ⟨oax, obx, h1x, h2x, h3x⟩ <;> rcases zH (t := t) i with ⟨h1i, h2i⟩ | ⟨oai, obi, h1i, h2i, h3i⟩ <;> simp [zV, yN, wI, *]
   | _ => rfl
 | lookup ty m k ok =>
  simp only [cOpG, cOp];cases P.underlying ty with
  | none => rfl
  | some u =>
   cases u with
   | map key e =>
    simp only;rcases zH (t := t) m with ⟨h1m, h2m⟩ | ⟨oam, obm, h1m, h2m, h3m⟩ <;> rcases zH (t := t) k with ⟨h1k, h2k⟩ | ⟨oak, obk, h1k, h2k, h3k⟩ <;> generalize keyT P key = q1 <;> generalize zZ P e = q2 <;> cases q1 <;> cases q2 <;> simp only [h1m, h2m, h1k, h2k] <;> first | rfl | simp [zV, xW, *]
   | _ => rfl
 | mapUpdate ty m k v =>
  simp only [cOpG, cOp];cases P.underlying ty with
  | none => rfl
  | some u =>
   cases u with
   | map key e =>
    simp only;rcases zH (t := t) m with ⟨h1m, h2m⟩ | ⟨oam, obm, h1m, h2m, h3m⟩ <;> rcases zH (t := t) k with ⟨h1k, h2k⟩ | ⟨oak, obk, h1k, h2k, h3k⟩ <;> rcases zH (t := t) v with ⟨h1v, h2v⟩ | ⟨oav, obv, h1v, h2v, h3v⟩ <;> generalize keyT P key = q1 <;> cases q1 <;> simp only [h1m, h2m, h1k, h2k] <;> first | rfl | simp [zV, yN, zaI, *]
   | _ => rfl
 | insert ty m k v =>
  simp only [cOpG, cOp];cases P.underlying ty with
  | none => rfl
  | some u =>
   cases u with
   | map key e =>
    simp only;rcases zH (t := t) m with ⟨h1m, h2m⟩ | ⟨oam, obm, h1m, h2m, h3m⟩ <;> rcases zH (t := t) k with ⟨h1k, h2k⟩ | ⟨oak, obk, h1k, h2k, h3k⟩ <;> rcases zH (t := t) v with ⟨h1v, h2v⟩ | ⟨oav, obv, h1v, h2v, h3v⟩ <;> generalize keyT P key = q1 <;> cases q1 <;> simp only [h1m, h2m, h1k, h2k] <;> first | rfl | simp [zV, yN, zaI, *]
   | _ => rfl
 | mapEntry ty m k =>
  simp only [cOpG, cOp];cases P.underlying ty with
  | none => rfl
  | some u =>
   cases u with
   | map key e =>
    simp only;rcases zH (t := t) m with ⟨h1m, h2m⟩ | ⟨oam, obm, h1m, h2m, h3m⟩ <;> rcases zH (t := t) k with ⟨h1k, h2k⟩ | ⟨oak, obk, h1k, h2k, h3k⟩ <;> generalize keyT P key = q1 <;> generalize zZ P e = q2 <;> cases q1 <;> cases q2 <;> simp only [h1m, h2m, h1k, h2k] <;> first | rfl | simp [zV, j6, *]
   | _ => rfl
 | entryStore ty m s v =>
  simp only [cOpG, cOp];rcases zH (t := t) m with ⟨h1m, h2m⟩ | ⟨oam, obm, h1m, h2m, h3m⟩ <;> rcases zH (t := t) s with ⟨h1k, h2k⟩ | ⟨oak, obk, h1k, h2k, h3k⟩ <;> rcases zH (t := t) v with ⟨h1v, h2v⟩ | ⟨oav, obv, h1v, h2v, h3v⟩ <;> simp only [h1m, h2m, h1k, h2k] <;> first | rfl | simp [zV, yN, j7, *]
 | extract x i =>
  rcases zH (t := t) x with ⟨h1, h2⟩ | ⟨a, b, h1, h2, h3⟩ <;> simp [cOpG, cOp, zV, yN, xb, *]
 | call c =>
  obtain ⟨callee, args, tys⟩ := c;cases callee with
  | invoke _ _ => rfl
  | value f =>
   simp only [cOpG, cOp];cases hk : Nat.beq (jJ P f) 0 with
   | false =>
    simp only [cond_false];unfold cExt;rcases args.toList with _ | ⟨x, _ | ⟨y, _ | ⟨z, l⟩⟩⟩ <;> try rfl
    ·simp only;cases Nat.beq (jJ P f) 1 with
     | false => rfl
     | true => rcases zH (t := t) x with ⟨h1, h2⟩ | ⟨a, b, h1, h2, h3⟩ <;> simp [zV, yN, opMv, *]
    ·simp only;cases Nat.beq (jJ P f) 2 with
     | false => rfl
     | true => rcases zH (t := t) x with ⟨h1, h2⟩ | ⟨a, b, h1, h2, h3⟩ <;> rcases zH (t := t) y with ⟨h1x, h2x⟩ | ⟨oax, obx, h1x, h2x, h3x⟩ <;> simp [zV, yN, zgO, *]
   | true =>
   simp only [cond_true];rcases zH (t := t) f with ⟨h1x, h2x⟩ | ⟨oax, obx, h1x, h2x, h3x⟩
   ·simp only [h1x, h2x]; rfl
   ·rcases zbd (t := t) args.toList with ⟨h1, h2⟩ | ⟨xs, ys, h1, h2, h3⟩
    ·simp only [h1x, h2x, h1, h2]; rfl
    ·simp only [h1x, h2x, h1, h2, Option.bind_eq_bind, Option.bind_some, Option.pure_def, zV, zbX, h3x, zkf _ _ h3]
  | builtin b =>
   cases b with
   | len =>
    simp only [cOpG, cOp];cases tys[0]? with
    | none => rfl
    | some ty =>
     cases args[0]? with
     | none => rfl
     | some x =>
      simp only;cases P.underlying ty with
      | none => rfl
      | some u => cases u <;> first | rfl | (rcases zH (t := t) x with ⟨h1, h2⟩ | ⟨a, b, h1, h2, h3⟩ <;> simp [zV, yN, uC, uD, jp, *])
   | append =>
    simp only [cOpG, cOp];rcases tys.toList with _ | ⟨t1, _ | ⟨t2, _ | ⟨t3, l⟩⟩⟩ <;> try rfl
    rcases args.toList with _ | ⟨s, _ | ⟨x, _ | ⟨y, l⟩⟩⟩ <;> try rfl
    simp only;cases P.underlying t1 with
    | none => rfl
    | some u =>
     cases u <;> try rfl
     rename_i e;simp only;cases P.info? e with
     | none => rfl
     | some i =>
      cases zZ P e with
      | none => rfl
      | some z =>
       simp only;generalize (Nat.beq z.cells.length i.size && !Nat.beq i.size 0) = q;cases q with
       | false => rfl
       | true =>
        cases P.underlying t2 with
        | none => rfl
        | some u2 =>
         generalize (yy P e && Nat.beq i.size 1) = q6;generalize Nat.beq i.size 1 = q5;rcases zH (t := t) s with ⟨h1, h2⟩ | ⟨a, b, h1, h2, h3⟩ <;> rcases zH (t := t) x with ⟨h1x, h2x⟩ | ⟨oax, obx, h1x, h2x, h3x⟩ <;> cases u2 <;> cases q5 <;> cases q6 <;> first | rfl | simp [zV, yN, xj, uG, uH, *]
   | unsafeSliceData =>
    simp only [cOpG, cOp];rcases args.toList with _ | ⟨x, _ | ⟨y, l⟩⟩ <;> try rfl
    rcases zH (t := t) x with ⟨h1, h2⟩ | ⟨a, b, h1, h2, h3⟩ <;> simp [zV, yN, wE, *]
   | unsafeString =>
    simp only [cOpG, cOp];rcases tys.toList with _ | ⟨t1, _ | ⟨t2, _ | ⟨t3, l⟩⟩⟩ <;> try rfl
    rcases args.toList with _ | ⟨x, _ | ⟨y, _ | ⟨z, l⟩⟩⟩ <;> try rfl
    simp only;cases P.underlying t1 with
    | none => rfl
    | some u =>
     cases u <;> try rfl
     rename_i e;simp only;generalize (yy P e && Nat.beq (P.cellsOf e) 1) = q;cases q with
     | false => rfl
     | true => rcases zH (t := t) x with ⟨h1, h2⟩ | ⟨a, b, h1, h2, h3⟩ <;> rcases zH (t := t) y with ⟨h1x, h2x⟩ | ⟨oax, obx, h1x, h2x, h3x⟩ <;> simp [zV, yN, zd7, *]
   | cap =>
    simp only [cOpG, cOp];cases tys[0]? with
    | none => rfl
    | some ty =>
     cases args[0]? with
     | none => rfl
     | some x =>
      simp only;cases P.underlying ty with
      | none => rfl
      | some u => cases u <;> first | rfl | (rcases zH (t := t) x with ⟨h1, h2⟩ | ⟨a, b, h1, h2, h3⟩ <;> simp [zV, yN, zjF, *])
   | copy =>
    simp only [cOpG, cOp];rcases tys.toList with _ | ⟨t1, _ | ⟨t2, _ | ⟨t3, l⟩⟩⟩ <;> try rfl
    rcases args.toList with _ | ⟨x, _ | ⟨y, _ | ⟨z, l⟩⟩⟩ <;> try rfl
    simp only;cases P.underlying t1 with
    | none => rfl
    | some u =>
     cases P.underlying t2 with
     | none => cases u <;> rfl
     | some u2 =>
      cases u <;> try rfl
      all_goals (cases u2 <;> try rfl)
      rename_i e e2;simp only;cases P.info? e with
      | none => rfl
      | some i =>
       simp only;generalize Nat.beq i.size 0 = q;cases q with
       | true => rfl
       | false => rcases zH (t := t) x with ⟨h1, h2⟩ | ⟨a, b, h1, h2, h3⟩ <;> rcases zH (t := t) y with ⟨h1x, h2x⟩ | ⟨oax, obx, h1x, h2x, h3x⟩ <;> simp [zV, yN, zd8, *]
   | clear =>
    simp only [cOpG, cOp];cases tys[0]? with
    | none => rfl
    | some ty =>
     cases args[0]? with
     | none => rfl
     | some x =>
      simp only;cases P.underlying ty with
      | none => rfl
      | some u =>
       cases u <;> try rfl
       rename_i e;simp only;cases P.info? e with
       | none => rfl
       | some i =>
        cases zZ P e with
        | none => rfl
        | some z =>
         simp only;generalize (Nat.beq z.cells.length i.size && !Nat.beq i.size 0) = q;cases q with
         | false => rfl
         | true => rcases zH (t := t) x with ⟨h1, h2⟩ | ⟨a, b, h1, h2, h3⟩ <;> simp [zV, yN, kT, *]
   | max =>
    simp only [cOpG, cOp];rcases zbd (t := t) args.toList with ⟨h1, h2⟩ | ⟨xs, ys, h1, h2, h3⟩
    ·simp only [h1, h2]; rfl
    ·simp only [h1, h2];cases xs <;> cases ys <;> first | rfl | exact h3.elim | simp only [zV, yT, h3.1, zcY _ _ _ _ _ h3.2]
   | min =>
    simp only [cOpG, cOp];rcases zbd (t := t) args.toList with ⟨h1, h2⟩ | ⟨xs, ys, h1, h2, h3⟩
    ·simp only [h1, h2]; rfl
    ·simp only [h1, h2];cases xs <;> cases ys <;> first | rfl | exact h3.elim | simp only [zV, yT, h3.1, zcY _ _ _ _ _ h3.2]
   | _ => rfl
 | _ =>
  rfl
end
end Go.CE
end
section
namespace Go.CE
noncomputable section
def fset (r : Fr) (v : AVal) : Option Nat → Fr
 | none => r
 | some d => fun i => bif Nat.beq i d then v else r i
def bindR {β : Type} (x : Res) (k : AVal → AHeap → Option β) : Option β :=
 match x with
 | some (v, h) => k v h
 | none => none
def zdH (v : AVal) (b : Bool) : Bool :=
 match v with
 | .s (.one (.bool c)) => c == b
 | _ => false
section
variable (P : Program)
def yh (nt : Nat) (ops : Array Oper) (o : Oper) (call : zh) (r : Fr) (h : AHeap) : Res :=
 bif inT nt o.dst then
  match o.guard with
  | none => cOpG P (coK r) o.op call .nil h
  | some (j, b) =>
   match (ops[j]?).bind (·.dst) with
   | some d => bif Nat.ble (Nat.succ d) nt then (bif zdH (r d) b then cOpG P (coK r) o.op call .nil h else some (zX, h)) else none
   | none => none
 else none
def movV (nt : Nat) (o : Oper) (r : Fr) : Option AVal :=
 match o.guard with
 | some _ => none
 | none =>
  bif inT nt o.dst then
   match o.op with
   | .move x => (coK r x).map fun c => c .nil
   | .assign x => (coK r x).map fun c => c .nil
   | _ => none
  else none
def kOps {β : Type} (nt : Nat) (ops : Array Oper) (call : zh) : List Oper → Fr → AHeap → (Fr → AHeap → Option β) → Option β
 | [], r, h, k => k r h
 | o :: os, r, h, k =>
  match movV nt o r with
  | some v => kOps nt ops call os (fset r v o.dst) h k
  | none => bindR (yh P nt ops o call r h) fun v h' => kOps nt ops call os (fset r v o.dst) h' k
def memB (i : Nat) : List Nat → Bool
 | [] => false
 | j :: l => bif Nat.beq i j then true else memB i l
def zK (r : Fr) (l : List Nat) : Fr := fun i => bif memB i l then r i else zX
def zhZ (run : AHeap → Res) (v : AVal) : List AHeap → Bool
 | [] => true
 | h :: hs =>
  (match run h with
  | some (v', _) => eqA v v'
  | none => false) && zhZ run v hs
def chkK (hs : List AHeap) : List ((AHeap → Res) × AVal × Nat × Nat) → Bool
 | [] => true
 | (run, v, lo, hi) :: l => (Nat.beq lo hi || zhZ run v ((hs.drop lo).take (Nat.sub (Nat.succ hi) lo))) && chkK hs l
def kDr {β : Type} (nt : Nat) (ops : Array Oper) (call : zh) (bs : List Nat) (es : List Bool) : Nat → List Oper → Fr → AHeap → List AHeap → List ((AHeap → Res) × AVal × Nat × Nat) → (Fr → AHeap → Option β) → Option β
 | _, [], r, h, hs, cs, k => bif chkK (hs ++ [h]) cs then k r h else none
 | i, o :: os, r, h, hs, cs, k =>
  match movV nt o (zK r (o.looksAt ops)) with
  | some v => kDr nt ops call bs es (Nat.succ i) os (fset r v o.dst) h hs (cs ++ [(yh P nt ops o call (zK r (o.looksAt ops)), v, ce (fun j => bef bs j i) 0 es, ce (fun j => !bef bs i j) 0 es)]) k
  | none => bindR (yh P nt ops o call (zK r (o.looksAt ops)) h) fun v h' =>
  bif yq P o.op then kDr nt ops call bs es (Nat.succ i) os (fset r v o.dst) h hs (cs ++ [(yh P nt ops o call (zK r (o.looksAt ops)), v, ce (fun j => bef bs j i) 0 es, ce (fun j => !bef bs i j) 0 es)]) k
  else kDr nt ops call bs es (Nat.succ i) os (fset r v o.dst) h' (hs ++ [h]) cs k
abbrev CkG := (AHeap → Res) × AVal × Nat × Nat × List Nat
def zbO (run : AHeap → Res) (v : AVal) (n0 : Nat) (hide : List Nat) (mks : List (Nat × Nat × AObj)) : Nat → List AHeap → Bool
 | _, [] => true
 | k, h :: hs =>
  match run ⟨h.n, delH n0 hide (jI n0 k mks h.t)⟩ with
  | some (v', _) => eqA v v' && zbO run v n0 hide mks (Nat.succ k) hs
  | none => false
def zf5 (n0 : Nat) (mks : List (Nat × Nat × AObj)) (hs : List AHeap) : List CkG → Bool
 | [] => true
 | (run, v, lo, hi, hide) :: l => (Nat.beq lo hi || zbO run v n0 hide mks lo ((hs.drop lo).take (Nat.sub (Nat.succ hi) lo))) && zf5 n0 mks hs l
def mk1 (n0 c j : Nat) (t : Tr AObj) : List (Nat × Nat × AObj) :=
 match t.get (bn (Nat.add n0 j)) with
 | some o => [(c, j, o)]
 | none => []
def kDr2 {β : Type} (nt : Nat) (ops : Array Oper) (call : zh) (bs : List Nat) (es : List Bool) (n0 : Nat) : Nat → List Oper → Fr → AHeap → Nat → List AHeap → List CkG → List (Nat × Nat × AObj) → (Fr → AHeap → Option β) → Option β
 | _, [], r, h, _, hs, cs, mks, k => bif zf5 n0 mks hs cs then k r h else none
 | i, o :: os, r, h, c, hs, cs, mks, k =>
  bif mkOp o.op then
   bindR (yh P nt ops o call (zK r (o.looksAt ops)) ⟨bn (Nat.add n0 i), h.t⟩) fun v h' => kDr2 nt ops call bs es n0 (Nat.succ i) os (fset r v o.dst) ⟨h.n, h'.t⟩ c hs cs (mks ++ mk1 n0 c i h'.t) k
  else
   bindR (yh P nt ops o call (zK r (o.looksAt ops)) ⟨h.n, delH n0 (yv bs i 0 ops.toList) h.t⟩) fun v h' =>
    bif anchor P o.op then
     match zdB n0 h.t (yv bs i 0 ops.toList) h'.t with
     | some t => kDr2 nt ops call bs es n0 (Nat.succ i) os (fset r v o.dst) ⟨h'.n, t⟩ (Nat.succ c) (hs ++ [⟨h'.n, t⟩]) cs mks k
     | none => none
    else kDr2 nt ops call bs es n0 (Nat.succ i) os (fset r v o.dst) h c hs (cs ++ [(yh P nt ops o call (zK r (o.looksAt ops)), v, ce (fun j => bef bs j i) 0 es, ce (fun j => !bef bs i j) 0 es, yv bs i 0 ops.toList)]) mks k
def qS (c : List AVal → AHeap → Option (RExit × List AVal × AHeap)) : Nat → List AVal → AHeap → Option (RExit × List AVal × AHeap)
 | 0, _, _ => none
 | n + 1, r, h =>
  match c r h with
  | some (.normal, r', h') => qS c n r' h'
  | x => x
def bindX {β : Type} (x : Option (RExit × List AVal × AHeap)) (kx : Nat → List AVal → AHeap → Option β) (kr : List AVal → AHeap → Option β) : Option β :=
 match x with
 | some (.exit id, r, h) => kx id r h
 | some (.ret, r, h) => kr r h
 | _ => none
def ifK {β : Type} (v : AVal) (a b : Option β) : Option β :=
 match v with
 | .s (.one (.bool q)) => bif q then a else b
 | _ => none
def zon {β : Type} (a : Fr → AHeap → Option β) (k : RExit → Fr → AHeap → Option β) : RExit → Fr → AHeap → Option β
 | .normal, r, h => a r h
 | .exit id, r, h => k (.exit id) r h
 | .ret, r, h => k .ret r h
def outK {β : Type} (id : Nat) (k : RExit → Fr → AHeap → Option β) : RExit → Fr → AHeap → Option β
 | .exit id', r, h => bif Nat.beq id' id then k .normal r h else k (.exit id') r h
 | .normal, r, h => k .normal r h
 | .ret, r, h => k .ret r h
def writes : Code → List Nat
 | .region _ ops _ => ops.toList.filterMap (·.dst)
 | .seq a b => writes a ++ writes b
 | .cond _ a b => writes a ++ writes b
 | .block _ c => writes c
 | .loop c => writes c
 | _ => []
def nthA : List AVal → Nat → AVal
 | [], _ => zX
 | v :: l, n => bif Nat.beq n 0 then v else nthA l (Nat.sub n 1)
def mixL : List Nat → Nat → Fr → List AVal → Fr
 | [], _, r, _ => r
 | w :: W, k, r, ys => fun i => bif Nat.beq i w then nthA ys k else mixL W (Nat.succ k) r ys i
def yR (nt : Nat) (call : zh) (f : Nat) : Code → {β : Type} → Fr → AHeap → (RExit → Fr → AHeap → Option β) → Option β
 | .skip, _, r, h, k => k .normal r h
 | .region _ ops draw, _, r, h, k =>
  bif draw then (bif P.follows .mixedOrders && kJ P ops (befs ops.toList) then kDr P nt ops call (befs ops.toList) (effs P ops.toList) 0 ops.toList r h [] [] (fun r h => k .normal r h)
   else bif P.follows .mixedOrders && ui P ops (befs ops.toList) then kDr2 P nt ops call (befs ops.toList) (ancs P ops.toList) h.n.toNat 0 ops.toList r ⟨bn (Nat.add h.n.toNat ops.toList.length), h.t⟩ 0 [⟨bn (Nat.add h.n.toNat ops.toList.length), h.t⟩] [] [] (fun r h => k .normal r h) else none)
  else kOps P nt ops call ops.toList r h (fun r h => k .normal r h)
 | .seq a b, _, r, h, k => yR nt call f a r h (zon (fun r h => yR nt call f b r h k) k)
 | .cond c a b, _, r, h, k =>
  match coK r c with
  | some c => ifK (c .nil) (yR nt call f a r h k) (yR nt call f b r h k)
  | none => none
 | .block id c, _, r, h, k => yR nt call f c r h (outK id k)
 | .loop c, _, r, h, k => bindX (qS (fun ys h => yR nt call f c (mixL (writes c) 0 r ys) h (fun e s h => some (e, (writes c).map s, h))) f ((writes c).map r) h)
   (fun id ys h => k (.exit id) (mixL (writes c) 0 r ys) h) (fun ys h => k .ret (mixL (writes c) 0 r ys) h)
 | .exit id, _, r, h, k => k (.exit id) r h
 | .ret, _, r, h, k => k .ret r h
 | _, _, _, _, _ => none
def resV (v : AVal) : Option SVal :=
 match v with
 | .s v => some v
 | _ => none
def resP (n : Option Nat) (v : AVal) (h : AHeap) : Option SVal :=
 match v with
 | .s (.one (.ptr b off)) => vX n off (h.t.get b)
 | _ => none
def zk0 (v : Option SVal) (l : Option (List SVal)) : Option (List SVal) :=
 match v with
 | some v => xI v l
 | none => none
def zbx (r : Fr) (h : AHeap) : ResultVar → Option SVal
 | .tmp i => resV (r i)
 | .cell i t =>
  match xx P t with
  | some n => resP n (r i) h
  | none => none
def jB (r : Fr) (h : AHeap) : List ResultVar → Option (List SVal)
 | [] => some []
 | x :: rs => zk0 (zbx P r h x) (jB r h rs)
def endK (rs : List ResultVar) : RExit → Fr → AHeap → Res
 | .exit _, _, _ => none
 | .normal, r, h => zbC h (jB P r h rs)
 | .ret, r, h => zbC h (jB P r h rs)
def kFun (g : Nat) (call : zh) (f : Nat) (args : List AVal) (h : AHeap) : Res :=
 match P.funcs[g]? with
 | some fn =>
  match fn.body with
  | some c => bif (cRes P fn.results.toList).isNone || fn.name == "runtime.NumGoroutine" then none else bif lenA args fn.ntmps then yR P fn.ntmps call f c (frOf (wc .z .nil args)) h (endK P fn.results.toList) else none
  | none => none
 | none => none
end
end
section
variable {P : Program} {nt : Nat}
theorem beq_iff (a b : Nat) : Nat.beq a b = true ↔ a = b := ⟨Lz1, fun h => by subst h; exact Nat.beq_refl a⟩
theorem wb (t : Tr AVal) (v : AVal) (d : Option Nat) : frOf (setT t v (d.map bn)) = fset (frOf t) v d := by
 cases d with
 | none => rfl
 | some d =>
  funext i
  simp only [frOf, setT, fset, tmpF, Option.map_some];cases hq : Nat.beq i d with
  | true => rw [(beq_iff i d).1 hq, zx]; rfl
  | false =>
   have : bn i ≠ bn d := fun e => by rw [(beq_iff i d).2 (un e)] at hq; cases hq
   rw [zn _ _ _ _ this]; rfl
theorem zoe (t : Tr AVal) (g : Nat) (b : Bool) : want t (some (bn g, b)) = zdH (frOf t g) b := by
 simp only [want, frOf, tmpF];cases t.get (bn g) with
 | none => rfl
 | some v => cases v with
  | tup _ => rfl
  | s v => cases v with
   | agg _ => rfl
   | one c => cases c <;> rfl
theorem jb (ops : Array Oper) (o : Oper) (call : zh) (t : Tr AVal) (h : AHeap) (v : AVal) (h' : AHeap) (e : yh P nt ops o call (frOf t) h = some (v, h')) :
  y9 call (yF P nt ops o) t h = some (v, h') ∧ (yF P nt ops o).dst = o.dst.map bn := by
 unfold yh at e;unfold yF;cases hin : inT nt o.dst with
 | false => rw [hin] at e; cases e
 | true =>
  rw [hin] at e;simp only [cond_true] at e ⊢;cases hg : o.guard with
  | none =>
   rw [hg] at e;simp only [zk9] at e;exact ⟨e, rfl⟩
  | some p =>
   obtain ⟨j, b⟩ := p;rw [hg] at e;simp only at e ⊢;cases hd : (ops[j]?).bind (·.dst) with
   | none => rw [hd] at e; cases e
   | some d =>
    rw [hd] at e;simp only at e ⊢;cases hb : Nat.ble (Nat.succ d) nt with
    | false => rw [hb] at e; cases e
    | true =>
     rw [hb] at e;simp only [cond_true, zk9] at e ⊢;refine ⟨?_, trivial⟩;unfold y9;simp only;rw [zoe];exact e
theorem zkN (call : zh) (o : ROper) (t : Tr AVal) (h : AHeap) : qI call o t h = setR t o.dst (y9 call o t h) := by
 obtain ⟨d, op, g⟩ := o;simp only [qI, y9];cases want t g <;> rfl
theorem xF {r : Fr} {v : AVal} {d : Option Nat} {i : Nat} (h : d ≠ some i) : fset r v d i = r i := by
 cases d with
 | none => rfl
 | some d =>
  simp only [fset];cases hq : Nat.beq i d with
  | true => exact absurd (by rw [(beq_iff i d).1 hq]) h
  | false => rfl
theorem zfu {ops : Array Oper} {o : Oper} {call : zh} {r : Fr} {v : AVal} (e : movV nt o r = some v) (h : AHeap) : yh P nt ops o call r h = some (v, h) ∧ yq P o.op = true := by
 unfold movV at e;unfold yh;cases hg : o.guard with
 | some p => rw [hg] at e; cases e
 | none =>
  rw [hg] at e;simp only at e ⊢;cases hi : inT nt o.dst with
  | false => rw [hi] at e; cases e
  | true =>
   rw [hi] at e;simp only [cond_true] at e ⊢;split at e
   ·rename_i x hx;rw [hx];simp only [cOpG, yq];cases hc : coK r x with
    | none => rw [hc] at e; cases e
    | some c => rw [hc] at e; cases e; exact ⟨rfl, trivial⟩
   ·rename_i x hx;rw [hx];simp only [cOpG, yq];cases hc : coK r x with
    | none => rw [hc] at e; cases e
    | some c => rw [hc] at e; cases e; exact ⟨rfl, trivial⟩
   ·cases e
theorem zaW {β : Type} (ops : Array Oper) (call : zh) (o : Oper) (os : List Oper) (r : Fr) (h : AHeap) (k : Fr → AHeap → Option β) :
  kOps P nt ops call (o :: os) r h k = bindR (yh P nt ops o call r h) fun v h' => kOps P nt ops call os (fset r v o.dst) h' k := by
 rw [kOps];split
 ·rename_i v hv;rw [(zfu hv h).1];rfl
 ·rfl
theorem zg4 {β : Type} (ops : Array Oper) (call : zh) (bs : List Nat) (es : List Bool) (i : Nat) (o : Oper) (os : List Oper) (r : Fr) (h : AHeap) (hs : List AHeap) (cs : List ((AHeap → Res) × AVal × Nat × Nat)) (k : Fr → AHeap → Option β) :
  kDr P nt ops call bs es i (o :: os) r h hs cs k = bindR (yh P nt ops o call (zK r (o.looksAt ops)) h) fun v h' =>
   bif yq P o.op then kDr P nt ops call bs es (Nat.succ i) os (fset r v o.dst) h hs (cs ++ [(yh P nt ops o call (zK r (o.looksAt ops)), v, ce (fun j => bef bs j i) 0 es, ce (fun j => !bef bs i j) 0 es)]) k
   else kDr P nt ops call bs es (Nat.succ i) os (fset r v o.dst) h' (hs ++ [h]) cs k := by
 rw [kDr];split
 ·rename_i v hv;rw [(zfu hv h).1];simp only [bindR];rw [(zfu (P := P) (ops := ops) (call := call) hv h).2];rfl
 ·rfl
theorem zkt {β : Type} (ops : Array Oper) (call : zh) : ∀ (os : List Oper) (t : Tr AVal) (h : AHeap) (k : Fr → AHeap → Option β) (x : β), kOps P nt ops call os (frOf t) h k = some x →
  ∃ t' h', zix call (os.map (yF P nt ops)) t h = some (t', h') ∧ k (frOf t') h' = some x ∧ ∀ i, i ∉ os.filterMap (·.dst) → frOf t' i = frOf t i
 | [], t, h, k, x, e => ⟨t, h, rfl, e, fun _ _ => rfl⟩
 | o :: os, t, h, k, x, e => by
  rw [zaW] at e;simp only [bindR] at e;split at e
  ·rename_i v h' hq;obtain ⟨e1, e2⟩ := jb ops o call t h v h' hq;rw [← wb] at e;obtain ⟨t', h'', e3, e4, e5⟩ := zkt ops call os _ _ _ _ e;refine ⟨t', h'', ?_, e4, fun i hi => ?_⟩
   ·rw [List.map_cons, zch, zkN, e1, e2];exact e3
   ·simp only [List.filterMap_cons] at hi;rw [e5 i, wb, xF]
    ·intro hd; rw [hd] at hi; simp at hi
    ·intro hm; apply hi; cases o.dst <;> simp [hm]
  ·cases e
theorem kg (i : Nat) : ∀ l : List Nat, memB i l = true ↔ i ∈ l
 | [] => by simp [memB]
 | j :: l => by
  simp only [memB, List.mem_cons];cases hq : Nat.beq i j with
  | true => simp [(beq_iff i j).1 hq]
  | false =>
   have : i ≠ j := fun e => by rw [(beq_iff i j).2 e] at hq; cases hq
   simp [this, kg i l]
theorem jd (t : Tr AVal) (l : List Nat) : frOf (vW t (l.map bn)) = zK (frOf t) l := by
 funext i
 simp only [frOf, zK, tmpF];rw [wC];have hm : bn i ∈ l.map bn ↔ i ∈ l := ⟨fun h => by obtain ⟨j, h1, h2⟩ := List.mem_map.1 h; exact un h2 ▸ h1, fun h => List.mem_map_of_mem h⟩
 cases hq : memB i l with
 | true => rw [if_pos (hm.2 ((kg i l).1 hq))]; rfl
 | false => rw [if_neg (fun hh => by rw [(kg i l).2 (hm.1 hh)] at hq; cases hq)]; rfl
theorem zgx {call : zh} {ops : Array Oper} {o : Oper} {t : Tr AVal} {v : AVal} : ∀ hs : List AHeap, zhZ (yh P nt ops o call (frOf t)) v hs = true → sameAt call (yF P nt ops o) t v hs = true
 | [], _ => rfl
 | h :: hs, e => by
  simp only [zhZ] at e;obtain ⟨e1, e2⟩ := and2 e;unfold sameAt;split at e1
  ·rename_i v' h' hq;obtain ⟨k1, _⟩ := jb ops o call t h v' h' hq;rw [k1];simp only;rw [e1, zgx hs e2];rfl
  ·cases e1
def CkR (P : Program) (nt : Nat) (ops : Array Oper) (call : zh) : List ((AHeap → Res) × AVal × Nat × Nat) → List (DOper × Tr AVal × AVal) → Prop
 | [], l => ∀ x ∈ l, x.1.eff = true
 | (run, v, lo, hi) :: cs, l => ∃ pre d tr rest, l = pre ++ (d, tr, v) :: rest ∧ (∀ x ∈ pre, x.1.eff = true) ∧ d.lo = lo ∧ d.hi = hi ∧ (∃ o, d.rop = yF P nt ops o ∧ run = yh P nt ops o call (frOf tr)) ∧ CkR P nt ops call cs rest
theorem ziD (call : zh) (hs : List AHeap) (l l' : List (DOper × Tr AVal × AVal)) : wZ call hs (l ++ l') = (wZ call hs l && wZ call hs l') := by
 induction l with
 | nil => rfl
 | cons x l ih => obtain ⟨d, tr, v⟩ := x; simp only [List.cons_append, wZ, ih, Bool.and_assoc]
theorem qi (call : zh) (hs : List AHeap) : ∀ l : List (DOper × Tr AVal × AVal), (∀ x ∈ l, x.1.eff = true) → wZ call hs l = true
 | [], _ => rfl
 | (d, tr, v) :: l, h => by
  simp only [wZ];rw [h _ (List.mem_cons_self ..), qi call hs l fun x hx => h x (List.mem_cons_of_mem _ hx)]
  rfl
theorem zeJ {call : zh} {ops : Array Oper} {hs : List AHeap} : ∀ (cs : List ((AHeap → Res) × AVal × Nat × Nat)) (l : List (DOper × Tr AVal × AVal)), CkR P nt ops call cs l → chkK hs cs = true → wZ call hs l = true
 | [], l, h, _ => qi call hs l h
 | (run, v, lo, hi) :: cs, l, ⟨pre, d, tr, rest, h1, h2, h3, h4, ⟨o, h5, h6⟩, h7⟩, e => by
  subst h1 h3 h4 h6;simp only [chkK] at e;obtain ⟨e1, e2⟩ := and2 e;rw [ziD, qi call hs pre h2];simp only [wZ, Bool.true_and];rw [zeJ cs rest h7 e2, Bool.and_true];rcases Bool.or_eq_true _ _ |>.mp e1 with k | k
  ·rw [k]; simp
  ·rw [h5, zgx _ k]; simp
theorem zlq {call : zh} {ops : Array Oper} {x : DOper × Tr AVal × AVal} (hx : x.1.eff = true) : ∀ (cs : List ((AHeap → Res) × AVal × Nat × Nat)) (l : List (DOper × Tr AVal × AVal)), CkR P nt ops call cs l → CkR P nt ops call cs (l ++ [x])
 | [], l, h => fun y hy => by
  rcases List.mem_append.1 hy with k | k
  ·exact h y k
  ·rw [List.mem_singleton.1 k]; exact hx
 | (run, v, lo, hi) :: cs, l, ⟨pre, d, tr, rest, h1, h2, h3, h4, h5, h6⟩ => ⟨pre, d, tr, rest ++ [x], by rw [h1]; simp, h2, h3, h4, h5, zlq hx cs rest h6⟩
theorem ze3 {call : zh} {ops : Array Oper} {d : DOper} {tr : Tr AVal} {v : AVal} {o : Oper} (hd : d.rop = yF P nt ops o) : ∀ (cs : List ((AHeap → Res) × AVal × Nat × Nat)) (l : List (DOper × Tr AVal × AVal)), CkR P nt ops call cs l →
  CkR P nt ops call (cs ++ [(yh P nt ops o call (frOf tr), v, d.lo, d.hi)]) (l ++ [(d, tr, v)])
 | [], l, h => ⟨l, d, tr, [], rfl, h, rfl, rfl, ⟨o, hd, rfl⟩, fun y hy => by cases hy⟩
 | (run, v', lo, hi) :: cs, l, ⟨pre, d', tr', rest, h1, h2, h3, h4, h5, h6⟩ => ⟨pre, d', tr', rest ++ [(d, tr, v)], by rw [h1]; simp, h2, h3, h4, h5, ze3 hd cs rest h6⟩
theorem zku {β : Type} (ops : Array Oper) (call : zh) (bs : List Nat) (es : List Bool) (k : Fr → AHeap → Option β) (x : β) :
  ∀ (os : List Oper) (i : Nat) (t : Tr AVal) (h : AHeap) (hs : List AHeap) (cs : List ((AHeap → Res) × AVal × Nat × Nat)) (l0 : List (DOper × Tr AVal × AVal)), CkR P nt ops call cs l0 →
   kDr P nt ops call bs es i os (frOf t) h hs cs k = some x →
   ∃ l t' hs', evD call (vt P nt ops bs es i os) t h = some (l, t', hs') ∧ wZ call (hs ++ hs') (l0 ++ l) = true ∧ hs' ≠ [] ∧ k (frOf t') (zbz h hs') = some x ∧ ∀ i, i ∉ os.filterMap (·.dst) → frOf t' i = frOf t i
 | [], i, t, h, hs, cs, l0, hc, e => by
  simp only [kDr] at e;cases hq : chkK (hs ++ [h]) cs with
  | false => rw [hq] at e; cases e
  | true =>
   rw [hq] at e;exact ⟨[], t, [h], rfl, by rw [List.append_nil]; exact zeJ cs l0 hc hq, by simp, e, fun _ _ => rfl⟩
 | o :: os, i, t, h, hs, cs, l0, hc, e => by
  rw [zg4] at e;simp only [bindR] at e;split at e
  ·rename_i v h' hq;rw [← jd] at hq e;obtain ⟨e1, e2⟩ := jb ops o call _ h v h' hq;rw [← wb] at e;simp only [vt, evD];rw [e1];simp only;cases hqo : yq P o.op with
   | true =>
    rw [hqo] at e;simp only [cond_true, Bool.not_true, cond_false] at e ⊢;obtain ⟨l, t', hs', k1, k2, k3, k4, k5⟩ := zku ops call bs es k x os _ _ _ _ _ (l0 ++ [(⟨yF P nt ops o, (o.looksAt ops).map bn, false, ce (fun j => bef bs j i) 0 es, ce (fun j => !bef bs i j) 0 es⟩, vW t ((o.looksAt ops).map bn), v)])
     (ze3 (d := ⟨yF P nt ops o, (o.looksAt ops).map bn, false, ce (fun j => bef bs j i) 0 es, ce (fun j => !bef bs i j) 0 es⟩) rfl cs l0 hc) e
    rw [e2, k1];refine ⟨_, _, _, rfl, ?_, ?_, ?_, fun i hi => ?_⟩
    ·rw [List.append_assoc] at k2; exact k2
    ·exact k3
    ·exact k4
    ·simp only [List.filterMap_cons] at hi;rw [k5 i, wb, xF]
     ·intro hd; rw [hd] at hi; simp at hi
     ·intro hm; apply hi; cases o.dst <;> simp [hm]
   | false =>
    rw [hqo] at e;simp only [cond_false, Bool.not_false, cond_true] at e ⊢;obtain ⟨l, t', hs', k1, k2, k3, k4, k5⟩ := zku ops call bs es k x os _ _ _ _ _ (l0 ++ [(⟨yF P nt ops o, (o.looksAt ops).map bn, true, ce (fun j => bef bs j i) 0 es, ce (fun j => !bef bs i j) 0 es⟩, vW t ((o.looksAt ops).map bn), v)])
     (zlq rfl cs l0 hc) e
    rw [e2, k1];refine ⟨_, _, _, rfl, ?_, ?_, ?_, fun i hi => ?_⟩
    ·rw [List.append_assoc, List.append_assoc] at k2; exact k2
    ·simp
    ·simp only [cond_true, zbz];cases hs' with
     | nil => exact absurd rfl k3
     | cons a b => exact k4
    ·simp only [List.filterMap_cons] at hi;rw [k5 i, wb, xF]
     ·intro hd; rw [hd] at hi; simp at hi
     ·intro hm; apply hi; cases o.dst <;> simp [hm]
  ·cases e
section
variable {ops : Array Oper} {call : zh} {n0 : Nat}
theorem zdU {o : Oper} {t : Tr AVal} {v : AVal} {d : GOper} (hd : d.rop = yF P nt ops o) {mks : List (Nat × Nat × AObj)} : ∀ (hs : List AHeap) (k : Nat), zbO (yh P nt ops o call (frOf t)) v n0 d.hide mks k hs = true → zh0 call n0 d t v mks k hs = true
 | [], _, _ => rfl
 | h :: hs, k, e => by
  simp only [zbO] at e;simp only [zh0];split at e
  ·rename_i v' h' hq;obtain ⟨k1, _⟩ := jb ops o call t _ v' h' hq;obtain ⟨e1, e2⟩ := and2 e;rw [hd, k1];simp only;rw [e1, zdU hd hs _ e2];rfl
  ·cases e
def CkGR (P : Program) (nt : Nat) (ops : Array Oper) (call : zh) : List CkG → List GE → Prop
 | [], l => ∀ g ∈ l, (g.d.eff || g.d.mkb) = true
 | (run, v, lo, hi, hide) :: cs, l => ∃ pre g rest, l = pre ++ g :: rest ∧ (∀ x ∈ pre, (x.d.eff || x.d.mkb) = true) ∧ g.v = v ∧ g.d.lo = lo ∧ g.d.hi = hi ∧ g.d.hide = hide ∧ (∃ o, g.d.rop = yF P nt ops o ∧ run = yh P nt ops o call (frOf g.tr)) ∧ CkGR P nt ops call cs rest
theorem ziC {mks : List (Nat × Nat × AObj)} {hs : List AHeap} (l l' : List GE) : wY call n0 mks hs (l ++ l') = (wY call n0 mks hs l && wY call n0 mks hs l') := by
 induction l with
 | nil => rfl
 | cons x l ih => simp only [List.cons_append, wY, ih, Bool.and_assoc]
theorem qh {mks : List (Nat × Nat × AObj)} {hs : List AHeap} : ∀ l : List GE, (∀ x ∈ l, (x.d.eff || x.d.mkb) = true) → wY call n0 mks hs l = true
 | [], _ => rfl
 | g :: l, h => by
  simp only [wY];rw [h _ (List.mem_cons_self ..), qh l fun x hx => h x (List.mem_cons_of_mem _ hx)]
  simp
theorem zk2 {mks : List (Nat × Nat × AObj)} {hs : List AHeap} : ∀ (cs : List CkG) (l : List GE), CkGR P nt ops call cs l → zf5 n0 mks hs cs = true → wY call n0 mks hs l = true
 | [], l, h, _ => qh l h
 | (run, v, lo, hi, hide) :: cs, l, ⟨pre, g, rest, h1, h2, h3, h4, h5, h6, ⟨o, h7, h8⟩, h9⟩, e => by
  subst h1 h3 h4 h5 h6 h8;simp only [zf5] at e;obtain ⟨e1, e2⟩ := and2 e;rw [ziC, qh pre h2];simp only [wY, Bool.true_and];rw [zk2 cs rest h9 e2, Bool.and_true];rcases Bool.or_eq_true _ _ |>.mp e1 with k | k
  ·rw [k]; simp
  ·rw [zdU h7 _ _ k]; simp
theorem zdF {x : GE} (hx : (x.d.eff || x.d.mkb) = true) : ∀ (cs : List CkG) (l : List GE), CkGR P nt ops call cs l → CkGR P nt ops call cs (l ++ [x])
 | [], l, h => fun y hy => by
  rcases List.mem_append.1 hy with k | k
  ·exact h y k
  ·rw [List.mem_singleton.1 k]; exact hx
 | (run, v, lo, hi, hide) :: cs, l, ⟨pre, g, rest, h1, h2, h3, h4, h5, h6, h7, h8⟩ => ⟨pre, g, rest ++ [x], by rw [h1]; simp, h2, h3, h4, h5, h6, h7, zdF hx cs rest h8⟩
theorem zcq {g : GE} {o : Oper} (hd : g.d.rop = yF P nt ops o) : ∀ (cs : List CkG) (l : List GE), CkGR P nt ops call cs l →
  CkGR P nt ops call (cs ++ [(yh P nt ops o call (frOf g.tr), g.v, g.d.lo, g.d.hi, g.d.hide)]) (l ++ [g])
 | [], l, h => ⟨l, g, [], rfl, h, rfl, rfl, rfl, rfl, ⟨o, hd, rfl⟩, fun y hy => by cases hy⟩
 | (run, v', lo, hi, hide) :: cs, l, ⟨pre, g', rest, h1, h2, h3, h4, h5, h6, h7, h8⟩ => ⟨pre, g', rest ++ [g], by rw [h1]; simp, h2, h3, h4, h5, h6, h7, zcq hd cs rest h8⟩
theorem zc3 {β : Type} (bs : List Nat) (es : List Bool) (k : Fr → AHeap → Option β) (x : β) :
  ∀ (os : List Oper) (i : Nat) (t : Tr AVal) (h : AHeap) (c : Nat) (hs : List AHeap) (cs : List CkG) (mks : List (Nat × Nat × AObj)) (l0 : List GE), CkGR P nt ops call cs l0 →
   kDr2 P nt ops call bs es n0 i os (frOf t) h c hs cs mks k = some x →
   ∃ l t' h', evG call n0 i (yW P nt ops bs es i os) t h = some (l, t', h') ∧ wY call n0 (mks ++ mksG n0 c i l) (hs ++ hsG l) (l0 ++ l) = true ∧ k (frOf t') h' = some x ∧ ∀ i, i ∉ os.filterMap (·.dst) → frOf t' i = frOf t i
 | [], i, t, h, c, hs, cs, mks, l0, hc, e => by
  simp only [kDr2] at e;cases hq : zf5 n0 mks hs cs with
  | false => rw [hq] at e; cases e
  | true =>
   rw [hq] at e;exact ⟨[], t, h, rfl, by simp only [mksG, hsG, List.append_nil]; exact zk2 cs l0 hc hq, e, fun _ _ => rfl⟩
 | o :: os, i, t, h, c, hs, cs, mks, l0, hc, e => by
  have agree : ∀ (t2 t' : Tr AVal) (v : AVal), (yF P nt ops o).dst = o.dst.map bn → t2 = setT t v (yF P nt ops o).dst → (∀ i, i ∉ os.filterMap (·.dst) → frOf t' i = frOf t2 i) → ∀ i, i ∉ (o :: os).filterMap (·.dst) → frOf t' i = frOf t i := by
   intro t2 t' v hd h2 H i hi;subst h2;simp only [List.filterMap_cons] at hi;rw [H i (fun hm => hi (by cases o.dst <;> simp [hm])), hd, wb]
   exact xF (fun hd => hi (by rw [hd]; simp))
  simp only [kDr2] at e;simp only [yW, evG, stepG];cases hm : mkOp o.op with
  | true =>
   rw [hm] at e;have ha : anchor P o.op = false := by unfold anchor; rw [hm]; simp
   simp only [cond_true, bindR] at e ⊢;split at e
   ·rename_i v h' hq;rw [← jd] at hq;obtain ⟨e1, e2⟩ := jb ops o call _ _ v h' hq;rw [← wb, ← e2] at e;rw [e1];simp only
    let g : GE := ⟨⟨yF P nt ops o, (o.looksAt ops).map bn, anchor P o.op, true, ce (fun j => bef bs j i) 0 es, ce (fun j => !bef bs i j) 0 es, yv bs i 0 ops.toList⟩, vW t ((o.looksAt ops).map bn), v, h, ⟨h.n, h'.t⟩⟩
    obtain ⟨l, t', h2, k1, k2, k3, k4⟩ := zc3 bs es k x os _ _ _ _ _ _ _ (l0 ++ [g]) (zdF (x := g) (by show (_ || true) = true; simp) cs l0 hc) e
    rw [k1];refine ⟨_, _, _, rfl, ?_, k3, agree _ _ v e2 rfl k4⟩;simp only [mksG, hsG, ha, cond_true, cond_false];rw [List.append_assoc] at k2;simp only [List.singleton_append, List.append_assoc] at k2;simp only [mk1] at k2
    revert k2
    cases hx : h'.t.get (bn (Nat.add n0 i)) with
    | none => intro k2; simpa [hx, g, ha] using k2
    | some ob => intro k2; simpa [hx, g, ha] using k2
   ·cases e
  | false =>
   rw [hm] at e;simp only [cond_false, bindR] at e ⊢;split at e
   ·rename_i v h' hq;rw [← jd] at hq;obtain ⟨e1, e2⟩ := jb ops o call _ _ v h' hq;rw [← wb, ← e2] at e;rw [e1];simp only;cases ha : anchor P o.op with
    | true =>
     rw [ha] at e;simp only [cond_true] at e ⊢;split at e
     ·rename_i t1 ht;rw [ht];simp only
      let g : GE := ⟨⟨yF P nt ops o, (o.looksAt ops).map bn, true, false, ce (fun j => bef bs j i) 0 es, ce (fun j => !bef bs i j) 0 es, yv bs i 0 ops.toList⟩, vW t ((o.looksAt ops).map bn), v, h, ⟨h'.n, t1⟩⟩
      obtain ⟨l, t', h2, k1, k2, k3, k4⟩ := zc3 bs es k x os _ _ _ _ _ _ _ (l0 ++ [g]) (zdF (x := g) rfl cs l0 hc) e;rw [k1];refine ⟨_, _, _, rfl, ?_, k3, agree _ _ v e2 rfl k4⟩
      simpa [mksG, hsG, g] using k2
     ·cases e
    | false =>
     rw [ha, ← jd] at e;simp only [cond_false] at e ⊢
     let g : GE := ⟨⟨yF P nt ops o, (o.looksAt ops).map bn, false, false, ce (fun j => bef bs j i) 0 es, ce (fun j => !bef bs i j) 0 es, yv bs i 0 ops.toList⟩, vW t ((o.looksAt ops).map bn), v, h, h⟩
     obtain ⟨l, t', h2, k1, k2, k3, k4⟩ := zc3 bs es k x os _ _ _ _ _ _ _ (l0 ++ [g]) (zcq (g := g) rfl cs l0 hc) e;rw [k1];refine ⟨_, _, _, rfl, ?_, k3, agree _ _ v e2 rfl k4⟩
     simpa [mksG, hsG, g] using k2
   ·cases e
theorem qK (bs : List Nat) (es : List Bool) : ∀ (os : List Oper) (i : Nat), (yW P nt ops bs es i os).length = os.length
 | [], _ => rfl
 | o :: os, i => by simp only [yW, List.length_cons, qK bs es os]
end
theorem zjW : ∀ (l : List AVal) (n : Nat), nthA l n = (l[n]?).getD zX
 | [], _ => rfl
 | v :: l, n => by
  cases n with
  | zero => rfl
  | succ n => simp only [nthA, List.getElem?_cons_succ]; exact zjW l n
theorem zgZ {r s : Fr} (V : List Nat) : ∀ (W : List Nat) (k : Nat), (∀ n w, W[n]? = some w → V[k + n]? = some w) → ∀ i, (i ∉ W → s i = r i) → mixL W k r (V.map s) i = s i
 | [], k, _, i, h => (h (by simp)).symm
 | w :: W, k, hW, i, h => by
  simp only [mixL];cases hq : Nat.beq i w with
  | true =>
   have := hW 0 w rfl;simp only [cond_true, zjW, Lz6];rw [Nat.add_zero] at this;rw [this, (beq_iff i w).1 hq];rfl
  | false =>
   simp only [cond_false];refine zgZ V W (k + 1) (fun n w' hn => ?_) i (fun hi => h ?_)
   ·have := hW (n + 1) w' hn
    rwa [show k + 1 + n = k + (n + 1) by omega]
   ·intro hm;rcases List.mem_cons.1 hm with rfl | hm
    ·rw [(beq_iff i i).2 rfl] at hq; cases hq
    ·exact hi hm
theorem zaS {W : List Nat} {r s : Fr} (h : ∀ i, i ∉ W → s i = r i) : mixL W 0 r (W.map s) = s :=
 funext fun i => zgZ W W 0 (fun n w hn => by rwa [Nat.zero_add]) i (h i)
theorem zcZ {call : zh} {f fn : Nat} {c : Code} {r0 : Fr} (H : ∀ (β : Type) (t : Tr AVal) (d : List BN) (h : AHeap) (k : RExit → Fr → AHeap → Option β) (x : β), yR P nt call f c (frOf t) h k = some x →
   ∃ e t' h', zW P nt c call f fn none ⟨t, d, h⟩ = some (e, ⟨t', d, h'⟩) ∧ k e (frOf t') h' = some x ∧ ∀ i, i ∉ writes c → frOf t' i = frOf t i) :
  ∀ (n : Nat) (t : Tr AVal) (d : List BN) (h : AHeap) (e : RExit) (ys : List AVal) (h' : AHeap), (∀ i, i ∉ writes c → frOf t i = r0 i) →
   qS (fun ys h => yR P nt call f c (mixL (writes c) 0 r0 ys) h (fun e s h => some (e, (writes c).map s, h))) n ((writes c).map (frOf t)) h = some (e, ys, h') →
   ∃ t', zek (zW P nt c call f fn none) n ⟨t, d, h⟩ = some (e, ⟨t', d, h'⟩) ∧ ys = (writes c).map (frOf t') ∧ ∀ i, i ∉ writes c → frOf t' i = r0 i
 | 0, _, _, _, _, _, _, _, e => by cases e
 | n + 1, t, d, h, e, ys, h', ht, hh => by
  simp only [qS] at hh;rw [zaS ht] at hh;have hN : zek (zW P nt c call f fn none) (n + 1) ⟨t, d, h⟩ = (match zW P nt c call f fn none ⟨t, d, h⟩ with
   | some (.normal, s') => zek (zW P nt c call f fn none) n s'
   | r => r) := rfl
  rw [hN];split at hh
  ·rename_i r1 h1 hq;obtain ⟨e1, t1, h2, k1, k2, k3⟩ := H _ t d h _ _ hq;cases k2;rw [k1];exact zcZ H n t1 d h1 e ys h' (fun i hi => (k3 i hi).trans (ht i hi)) hh
  ·rename_i x hx;obtain ⟨e1, t1, h2, k1, k2, k3⟩ := H _ t d h _ _ hh;cases k2;rw [k1];cases e with
   | normal => exact absurd hh (hx _ _)
   | exit id => exact ⟨t1, rfl, rfl, fun i hi => (k3 i hi).trans (ht i hi)⟩
   | ret => exact ⟨t1, rfl, rfl, fun i hi => (k3 i hi).trans (ht i hi)⟩
theorem zmD {call : zh} {f fn : Nat} (c : Code) : ∀ (β : Type) (t : Tr AVal) (d : List BN) (h : AHeap) (k : RExit → Fr → AHeap → Option β) (x : β), yR P nt call f c (frOf t) h k = some x →
  ∃ e t' h', zW P nt c call f fn none ⟨t, d, h⟩ = some (e, ⟨t', d, h'⟩) ∧ k e (frOf t') h' = some x ∧ ∀ i, i ∉ writes c → frOf t' i = frOf t i := by
 induction c with
 | skip => exact fun β t d h k x e => ⟨.normal, t, h, rfl, e, fun _ _ => rfl⟩
 | region id ops draw =>
  intro β t d h k x e;simp only [yR] at e;simp only [zW];cases draw with
  | false =>
   simp only [cond_false] at e ⊢;obtain ⟨t', h', k1, k2, k3⟩ := zkt ops call ops.toList t h _ x e;exact ⟨.normal, t', h', by simp only [regF, k1]; rfl, k2, k3⟩
  | true =>
   simp only [cond_true] at e ⊢;cases hq : P.follows .mixedOrders && kJ P ops (befs ops.toList) with
   | false =>
    rw [hq] at e;simp only [cond_false] at e ⊢;cases hq2 : P.follows .mixedOrders && ui P ops (befs ops.toList) with
    | false => rw [hq2] at e; cases e
    | true =>
     rw [hq2] at e;simp only [cond_true] at e ⊢;obtain ⟨l, t', h', k1, k2, k3, k4⟩ := zc3 (call := call) (n0 := h.n.toNat) _ _ _ x ops.toList 0 t _ 0 _ [] [] [] (fun y hy => by cases hy) e
     refine ⟨.normal, t', h', ?_, k3, k4⟩;simp only [zhq, wO, qK];rw [k1];simp only;rw [List.nil_append, List.nil_append] at k2;rw [show ((⟨bn (Nat.add h.n.toNat ops.toList.length), h.t⟩ : AHeap) :: hsG l) = [⟨bn (Nat.add h.n.toNat ops.toList.length), h.t⟩] ++ hsG l from rfl, k2]
     rfl
   | true =>
    rw [hq] at e;simp only [cond_true] at e ⊢;obtain ⟨l, t', hs', k1, k2, k3, k4, k5⟩ := zku ops call _ _ _ x ops.toList 0 t h [] [] [] (fun y hy => by cases hy) e
    refine ⟨.normal, t', zbz h hs', ?_, k4, k5⟩;simp only [zhr, qM];rw [k1];simp only;rw [List.nil_append, List.nil_append] at k2;rw [k2];rfl
 | seq a b iha ihb =>
  intro β t d h k x e;simp only [yR] at e;obtain ⟨e1, t1, h1, k1, k2, k3⟩ := iha β t d h _ x e;simp only [zW, seqF];rw [k1];have hw : ∀ i, i ∉ writes (a.seq b) → i ∉ writes a ∧ i ∉ writes b := fun i hi => by simpa [writes] using hi
  cases e1 with
  | normal =>
   obtain ⟨e2, t2, h2, j1, j2, j3⟩ := ihb β t1 d h1 k x k2;exact ⟨e2, t2, h2, j1, j2, fun i hi => (j3 i (hw i hi).2).trans (k3 i (hw i hi).1)⟩
  | exit id => exact ⟨_, t1, h1, rfl, k2, fun i hi => k3 i (hw i hi).1⟩
  | ret => exact ⟨_, t1, h1, rfl, k2, fun i hi => k3 i (hw i hi).1⟩
 | cond c a b iha ihb =>
  intro β t d h k x e;simp only [yR] at e;simp only [zW];have hw : ∀ i, i ∉ writes (Code.cond c a b) → i ∉ writes a ∧ i ∉ writes b := fun i hi => by simpa [writes] using hi
  rcases zH (t := t) c with ⟨h1, h2⟩ | ⟨p, q, h1, h2, h3⟩
  ·rw [h1] at e; cases e
  ·rw [h1] at e;rw [h2];simp only [ifK, zpU] at e ⊢;rw [h3] at e;split at e
   ·rename_i qq hqq;rw [hqq];cases qq with
    | true =>
     obtain ⟨e2, t2, h2, j1, j2, j3⟩ := iha β t d h k x e;exact ⟨e2, t2, h2, j1, j2, fun i hi => j3 i (hw i hi).1⟩
    | false =>
     obtain ⟨e2, t2, h2, j1, j2, j3⟩ := ihb β t d h k x e;exact ⟨e2, t2, h2, j1, j2, fun i hi => j3 i (hw i hi).2⟩
   ·cases e
 | block id c ih =>
  intro β t d h k x e;simp only [yR] at e;obtain ⟨e1, t1, h1, k1, k2, k3⟩ := ih β t d h _ x e;simp only [zW, znH];rw [k1];cases e1 with
  | normal => exact ⟨_, t1, h1, rfl, k2, k3⟩
  | ret => exact ⟨_, t1, h1, rfl, k2, k3⟩
  | exit id' =>
   simp only [outF, outK] at k2 ⊢;cases hq : Nat.beq id' id with
   | true => rw [hq] at k2; exact ⟨_, t1, h1, rfl, k2, k3⟩
   | false => rw [hq] at k2; exact ⟨_, t1, h1, rfl, k2, k3⟩
 | loop c ih =>
  intro β t d h k x e;simp only [yR, bindX] at e;simp only [zW, zq5];split at e
  ·rename_i id ys h1 hq;obtain ⟨t', k1, k2, k3⟩ := zcZ ih f t d h _ ys h1 (fun _ _ => rfl) hq
   rw [k2, zaS k3] at e;exact ⟨_, t', h1, k1, e, k3⟩
  ·rename_i ys h1 hq;obtain ⟨t', k1, k2, k3⟩ := zcZ ih f t d h _ ys h1 (fun _ _ => rfl) hq
   rw [k2, zaS k3] at e;exact ⟨_, t', h1, k1, e, k3⟩
  ·cases e
 | exit id => exact fun β t d h k x e => ⟨.exit id, t, h, rfl, e, fun _ _ => rfl⟩
 | ret => exact fun β t d h k x e => ⟨.ret, t, h, rfl, e, fun _ _ => rfl⟩
 | _ => intro β t d h k x e; simp only [yR] at e; cases e
theorem zcE (t : Tr AVal) (h : AHeap) : ∀ (l : List ResultVar) (rs : List (BN × Option (Option Nat))), cRes P l = some rs → jB P (frOf t) h l = uO t h rs
 | [], rs, e => by cases e; rfl
 | .tmp i :: l, rs, e => by
  simp only [cRes] at e;split at e
  ·rename_i rs' hq;cases e;simp only [jB, uO];rw [zcE t h l rs' hq];simp only [zbx, zcg, resV, frOf, tmpF];cases t.get (bn i) with
   | none => rfl
   | some v => cases v <;> rfl
  ·cases e
 | .cell i ty :: l, rs, e => by
  simp only [cRes] at e;split at e
  ·rename_i n rs' hn hq;cases e;simp only [jB, uO];rw [zcE t h l rs' hq];simp only [zbx, zcg, resP, frOf, tmpF, hn];cases t.get (bn i) with
   | none => rfl
   | some v =>
    cases v with
    | tup _ => rfl
    | s v => cases v with
     | agg _ => rfl
     | one c => cases c <;> rfl
  ·cases e
theorem zrw (P : Program) (g : Nat) : cFs (xJ P) g = (P.funcs[g]?).bind (zf9 P) := by
 unfold cFs xJ;have := vB (P.funcs.toList.map (zf9 P)) 0 .nil g;rw [show bn 0 = BN.z from rfl] at this
 rw [this];simp only [Nat.not_lt_zero, if_false, Nat.sub_zero, Lz6, LzA];have hn : (Tr.nil : Tr (Option RFunc)).get (bn g) = none := by cases bn g <;> rfl
 cases P.funcs[g]? with
 | none => simp [hn]
 | some fn => simp
theorem zpz {g : Nat} {call : zh} {f : Nat} {args : List AVal} {h : AHeap} {x : AVal × AHeap} (e : kFun P g call f args h = some x) : zkO (cFs (xJ P)) call f g args h = some x := by
 unfold kFun at e;unfold zkO;rw [zrw];cases hf : P.funcs[g]? with
 | none => rw [hf] at e; cases e
 | some fn =>
  rw [hf] at e;simp only [Option.bind_some] at e ⊢;unfold zf9;cases hb : fn.body with
  | none => rw [hb] at e; cases e
  | some c =>
   rw [hb] at e;simp only at e ⊢;cases hr : cRes P fn.results.toList with
   | none => rw [hr] at e; cases e
   | some rs =>
    rw [hr] at e;simp only [Option.isNone_some, Bool.false_or] at e ⊢;cases hn : fn.name == "runtime.NumGoroutine" with
    | true => rw [hn] at e; cases e
    | false =>
     rw [hn] at e;simp only [cond_false] at e ⊢;cases hl : lenA args fn.ntmps with
     | false => rw [hl] at e; cases e
     | true =>
      rw [hl] at e;simp only [cond_true] at e ⊢;obtain ⟨e1, t1, h1, k1, k2, _⟩ := zmD (fn := g) c _ _ [] h _ _ e;rw [k1];cases e1 with
      | exit id => cases k2
      | normal => simp only [endK, zcE _ _ _ _ hr] at k2; exact k2
      | ret => simp only [endK, zcE _ _ _ _ hr] at k2; exact k2
end
end Go.CE
end
section
namespace Go.CE
noncomputable section
def yc : zh := fun _ _ _ => none
def cP (l : List (Nat × Nat × AVal)) : List (Nat × Nat × Opd) := l.map fun p => (p.1, p.2.1, zp p.2.2)
def cL (l : List AVal) : List Opd := l.map zp
def cO : Option AVal → Option Opd
 | none => none
 | some v => some (zp v)
def zlv (c a b : AVal) (h : AHeap) : Res := uy (zp c) (zp a) (zp b) yc .nil h
def zqg (zs : List CVal) (h : AHeap) : Res := zaL zs yc .nil h
def vBox (x : AVal) (h : AHeap) : Res := zby (zp x) yc .nil h
def ziP (zs : List CVal) (l : List (Nat × Nat × AVal)) (h : AHeap) : Res := wM zs (cP l) yc .nil h
def zoh (st len : Nat) (zs : List CVal) (l : List (Nat × Nat × AVal)) (h : AHeap) : Res := xX st len zs (cP l) yc .nil h
def zly (n : Option Nat) (x : AVal) (h : AHeap) : Res := uB n (zp x) yc .nil h
def zqe (n : Nat) (x v : AVal) (h : AHeap) : Res := kS n (zp x) (zp v) yc .nil h
def zgl (x : AVal) (h : AHeap) : Res := wH (zp x) yc .nil h
def vInt (g : IntKind → Int → Int → Option CVal) (x y : AVal) (h : AHeap) : Res := qR g (zp x) (zp y) yc .nil h
def zgk (g : IntKind → Int → Int → Option CVal) (x y : AVal) (h : AHeap) : Res := xS g (zp x) (zp y) yc .nil h
def vStr (op : BinOp) (x y : AVal) (h : AHeap) : Res := zaF op (zp x) (zp y) yc .nil h
def vEq (ks : Nat ⊕ List Nat) (neg : Bool) (x y : AVal) (h : AHeap) : Res := opEq ks neg (zp x) (zp y) yc .nil h
def ziN (neg : Bool) (x y : AVal) (h : AHeap) : Res := vA neg (zp x) (zp y) yc .nil h
def vNot (x : AVal) (h : AHeap) : Res := zaG (zp x) yc .nil h
def vNeg (x : AVal) (h : AHeap) : Res := zaH (zp x) yc .nil h
def zlB (k : IntKind) (x : AVal) (h : AHeap) : Res := uF k (zp x) yc .nil h
def zlx (f : Nat) (caps : List AVal) (h : AHeap) : Res := uA f (cL caps) yc .nil h
def zqf (h : AHeap) : Res := zaJ yc .nil h
def zlw (st : Nat) (zs : List CVal) (bytes : Nat) (l c : AVal) (h : AHeap) : Res := xp st zs bytes (zp l) (zp c) yc .nil h
def ul (st : Nat) (x : AVal) (lo hi mx : Option AVal) (h : AHeap) : Res := wF st (zp x) (cO lo) (cO hi) (cO mx) yc .nil h
def zcs (x : AVal) (lo hi : Option AVal) (h : AHeap) : Res := xi (zp x) (cO lo) (cO hi) yc .nil h
def zlA (x : AVal) (off : Nat) (h : AHeap) : Res := uE (zp x) off yc .nil h
def zgp (x : AVal) (off : Nat) (n : Option Nat) (h : AHeap) : Res := wL (zp x) off n yc .nil h
def vIxs (st : Nat) (x i : AVal) (h : AHeap) : Res := zaK st (zp x) (zp i) yc .nil h
def zgn (len st : Nat) (x i : AVal) (h : AHeap) : Res := wJ len st (zp x) (zp i) yc .nil h
def zgo (len st : Nat) (n : Option Nat) (x i : AVal) (h : AHeap) : Res := wK len st n (zp x) (zp i) yc .nil h
def zgm (x i : AVal) (h : AHeap) : Res := wI (zp x) (zp i) yc .nil h
def zog (q : Nat ⊕ List Nat) (z : SVal) (ok : Bool) (m k : AVal) (h : AHeap) : Res := xW q z ok (zp m) (zp k) yc .nil h
def zsv (q : Nat ⊕ List Nat) (m k v : AVal) (h : AHeap) : Res := zaI q (zp m) (zp k) (zp v) yc .nil h
def qV (x : AVal) (i : Nat) (h : AHeap) : Res := xb (zp x) i yc .nil h
def zlz (x : AVal) (h : AHeap) : Res := uC (zp x) yc .nil h
def ziO (x : AVal) (h : AHeap) : Res := uD (zp x) yc .nil h
def zsw (x : AVal) (h : AHeap) : Res := jp (zp x) yc .nil h
def zoi (str : Bool) (st bytes : Nat) (s x : AVal) (h : AHeap) : Res := xj str st bytes (zp s) (zp x) yc .nil h
def zct (m : Bool) (x : AVal) (xs : List AVal) (h : AHeap) : Res := yT m (zp x) (cL xs) yc .nil h
def znd (st : Nat) (zs : List CVal) (x : AVal) (h : AHeap) : Res := kT st zs (zp x) yc .nil h
def zsy (call : zh) (f : AVal) (args : List AVal) (h : AHeap) : Res := zbX (zp f) (cL args) call .nil h
end
end Go.CE
end
section
namespace Go.CE
def Ev {α : Type} (m : Nat → Option α) (Q : α → Prop) : Prop := ∃ a, Q a ∧ ∃ N, ∀ n, N ≤ n → m n = some a
theorem Ev.some {α : Type} {a : α} {Q : α → Prop} (h : Q a) : Ev (fun _ => some a) Q := ⟨a, h, 0, fun _ _ => rfl⟩
theorem Ev.mono {α : Type} {m : Nat → Option α} {Q Q' : α → Prop} (h : Ev m Q) (hq : ∀ a, Q a → Q' a) : Ev m Q' := by
 obtain ⟨a, h1, h2⟩ := h;exact ⟨a, hq a h1, h2⟩
theorem Ev.bindR {β : Type} {m : Nat → Res} {k : Nat → AVal → AHeap → Option β} {Q : β → Prop} (h : Ev m (fun p => Ev (fun n => k n p.1 p.2) Q)) : Ev (fun n => CE.bindR (m n) (k n)) Q := by
 obtain ⟨⟨v, h'⟩, ⟨x, h1, N1, h2⟩, N2, h3⟩ := h;refine ⟨x, h1, max N1 N2, fun n hn => ?_⟩
 have e := h3 n (by omega)
 simp only [e, CE.bindR];exact h2 n (by omega)
theorem Ev.bindX {β : Type} {m : Nat → Option (RExit × List AVal × AHeap)} {kx : Nat → Nat → List AVal → AHeap → Option β} {kr : Nat → List AVal → AHeap → Option β} {Q : β → Prop}
  (h : Ev m (fun p => match p.1 with
   | .exit id => Ev (fun n => kx n id p.2.1 p.2.2) Q
   | .ret => Ev (fun n => kr n p.2.1 p.2.2) Q
   | .normal => False)) : Ev (fun n => CE.bindX (m n) (kx n) (kr n)) Q := by
 obtain ⟨⟨e, ys, h'⟩, h1, N2, h3⟩ := h;cases e with
 | normal => exact h1.elim
 | exit id =>
  obtain ⟨x, h1, N1, h2⟩ := h1;exact ⟨x, h1, max N1 N2, fun n hn => by have e := h3 n (by omega); simp only [e, CE.bindX]; exact h2 n (by omega)⟩
 | ret =>
  obtain ⟨x, h1, N1, h2⟩ := h1;exact ⟨x, h1, max N1 N2, fun n hn => by have e := h3 n (by omega); simp only [e, CE.bindX]; exact h2 n (by omega)⟩
theorem Ev.loop {c : Nat → List AVal → AHeap → Option (RExit × List AVal × AHeap)} {Q : RExit × List AVal × AHeap → Prop} (I : Nat → List AVal → AHeap → Prop)
  (H : ∀ k ys h, I k ys h → Ev (fun n => c n ys h) (fun p => match p.1 with
   | .normal => ∃ k', k' < k ∧ I k' p.2.1 p.2.2
   | e => Q (e, p.2.1, p.2.2))) :
  ∀ k ys h, I k ys h → Ev (fun n => qS (c n) n ys h) Q := by
 have key : ∀ K k ys h, k ≤ K → I k ys h → ∃ a, Q a ∧ ∃ N, ∀ n, N ≤ n → ∀ f, N ≤ f → qS (c n) f ys h = Option.some a := by
  intro K
  induction K with
  | zero =>
   intro k ys h hk hi;obtain ⟨⟨e, ys', h'⟩, h1, N, h2⟩ := H k ys h hi;cases e with
   | normal => obtain ⟨k', hk', _⟩ := h1; omega
   | exit id =>
    refine ⟨_, h1, N + 1, fun n hn f hf => ?_⟩
    cases f with
    | zero => omega
    | succ f => have e := h2 n (by omega); simp only [qS, e]
   | ret =>
    refine ⟨_, h1, N + 1, fun n hn f hf => ?_⟩
    cases f with
    | zero => omega
    | succ f => have e := h2 n (by omega); simp only [qS, e]
  | succ K ih =>
   intro k ys h hk hi;obtain ⟨⟨e, ys', h'⟩, h1, N, h2⟩ := H k ys h hi;cases e with
   | normal =>
    obtain ⟨k', hk', hi'⟩ := h1;obtain ⟨a, ha, N', h3⟩ := ih k' ys' h' (by omega) hi'
    refine ⟨a, ha, max N N' + 1, fun n hn f hf => ?_⟩
    cases f with
    | zero => omega
    | succ f => have e := h2 n (by omega); simp only [qS, e]; exact h3 n (by omega) f (by omega)
   | exit id =>
    refine ⟨_, h1, N + 1, fun n hn f hf => ?_⟩
    cases f with
    | zero => omega
    | succ f => have e := h2 n (by omega); simp only [qS, e]
   | ret =>
    refine ⟨_, h1, N + 1, fun n hn f hf => ?_⟩
    cases f with
    | zero => omega
    | succ f => have e := h2 n (by omega); simp only [qS, e]
 intro k ys h hi;obtain ⟨a, ha, N, h1⟩ := key k k ys h (LzB _) hi;exact ⟨a, ha, N, fun n hn => h1 n hn n hn⟩
def HW (h : AHeap) : Prop := ∀ b o, h.t.get b = some o → b.toNat < h.n.toNat
structure Gr (h h' : AHeap) : Prop where
 le : h.n.toNat ≤ h'.n.toNat
 old : ∀ b : BN, b.toNat < h.n.toNat → h'.t.get b = h.t.get b
theorem Gr.refl (h : AHeap) : Gr h h := ⟨LzB _, fun _ _ => rfl⟩
theorem Gr.trans {a b c : AHeap} (h : Gr a b) (k : Gr b c) : Gr a c := ⟨Nat.le_trans h.le k.le, fun x hx => (k.old x (Lz9 hx h.le)).trans (h.old x hx)⟩
theorem Gr.get {h h' : AHeap} (g : Gr h h') (w : HW h) {b : BN} {o : AObj} (e : h.t.get b = some o) : h'.t.get b = some o := (g.old b (w b o e)).trans e
theorem zrz {a b : BN} (h : a.toNat ≠ b.toNat) : a ≠ b := fun e => h (by rw [e])
theorem HW.new {h : AHeap} (w : HW h) (o : AObj) : HW (h.new o) := fun b o' e => by
 simp only [AHeap.new] at e ⊢;rw [BN.toNat_succ];by_cases hb : b = h.n
 ·rw [hb]; omega
 ·rw [zn _ _ _ _ hb] at e;have := w b o' e;omega
theorem Gr.new (h : AHeap) (o : AObj) : Gr h (h.new o) := ⟨by simp only [AHeap.new]; rw [BN.toNat_succ]; omega, fun b hb => by
 simp only [AHeap.new];exact zn _ _ _ _ (zrz (by omega))⟩
theorem HW.put {h : AHeap} (w : HW h) {b : BN} {o o' : AObj} (e : h.t.get b = some o) : HW (h.put b o') := fun c x hx => by
 simp only [AHeap.put] at hx ⊢;by_cases hb : c = b
 ·rw [hb]; exact w b o e
 ·rw [zn _ _ _ _ hb] at hx; exact w c x hx
theorem Gr.put {h0 h : AHeap} (g : Gr h0 h) {b : BN} {o' : AObj} (hb : h0.n.toNat ≤ b.toNat) : Gr h0 (h.put b o') := ⟨g.le, fun c hc => by
 simp only [AHeap.put];rw [zn _ _ _ _ (zrz (by omega))]
 exact g.old c hc⟩
theorem qY (h : AHeap) (b : BN) (o : AObj) : (h.put b o).t.get b = some o := zx _ _ _
theorem wD (h : AHeap) {b c : BN} (o : AObj) (hc : c ≠ b) : (h.put b o).t.get c = h.t.get c := zn _ _ _ _ hc
theorem zhm : ∀ v : AVal, eqA v v = true := by
 have hbn : ∀ a : BN, eqBN a a = true := fun a => by induction a with | z => rfl | o n ih => exact ih | d n ih => exact ih
 have hn : ∀ a : Nat, Nat.beq a a = true := Nat.beq_refl;have hps : ∀ l : List (BN × Nat), eqPs l l = true := fun l => by
  induction l with
  | nil => rfl
  | cons p l ih => obtain ⟨b, o⟩ := p; simp only [eqPs, hbn, hn, ih]; rfl
 have hu : ∀ l : List UInt8, eqU l l = true := fun l => by
  induction l with
  | nil => rfl
  | cons a l ih => simp only [eqU, hn, ih]; rfl
 have hb : ∀ b : Bool, eqB b b = true := fun b => by cases b <;> rfl
 have hi : ∀ i : Int, eqI i i = true := fun i => by cases i <;> exact hn _
 have hk : ∀ k : IntKind, eqK k k = true := fun k => by cases k <;> rfl
 have hv : ∀ c : CVal, eqV c c = true := fun c => by cases c <;> simp only [eqV, hbn, hn, hps, hu, hb, hi, hk, Bool.and_self]
 have hvs : ∀ l : List CVal, eqVs l l = true := fun l => by
  induction l with
  | nil => rfl
  | cons a l ih => simp only [eqVs, hv, ih, Bool.and_self]
 have hsv : ∀ v : SVal, eqSv v v = true := fun v => by cases v <;> simp only [eqSv, hv, hvs]
 have hss : ∀ l : List SVal, eqSs l l = true := fun l => by
  induction l with
  | nil => rfl
  | cons a l ih => simp only [eqSs, hsv, ih, Bool.and_self]
 intro v;cases v <;> simp only [eqA, hsv, hss]
end Go.CE
end
section
namespace Go.CE
theorem Ev.call {P : Program} {sums : List Sum} {g : Nat} {args : List AVal} {h : AHeap} {Q : AVal × AHeap → Prop} (hs : xA g args h sums = none)
  (H : Ev (fun n => kFun P g (yk (zW P) (cFs (xJ P)) sums n) n args h) Q) : Ev (fun n => yk (zW P) (cFs (xJ P)) sums n (.inl g) args h) Q := by
 obtain ⟨x, hx, N, hN⟩ := H;refine ⟨x, hx, N + 1, fun n hn => ?_⟩
 cases n with
 | zero => omega
 | succ n =>
  have e := zpz (hN n (by omega))
  have : yk (zW P) (cFs (xJ P)) sums (n + 1) (.inl g) args h = ze4 sums (zeB (zW P) (cFs (xJ P)) (yk (zW P) (cFs (xJ P)) sums n) n) (.inl g) args h := rfl;show yk (zW P) (cFs (xJ P)) sums (n + 1) (.inl g) args h = _;rw [this];unfold ze4;simp only [hs];exact e
theorem Ev.sum {P : Program} {fs : Nat → Option RFunc} {sums : List Sum} {g : Nat} {args : List AVal} {h : AHeap} {v : AVal} (hs : xA g args h sums = Option.some v) :
  Ev (fun n => yk (zW P) fs sums n (.inl g) args h) (fun p => p = (v, h)) := by
 refine ⟨_, rfl, 1, fun n hn => ?_⟩
 cases n with
 | zero => omega
 | succ n =>
  have : yk (zW P) fs sums (n + 1) (.inl g) args h = ze4 sums (zeB (zW P) fs (yk (zW P) fs sums n) n) (.inl g) args h := rfl;show yk (zW P) fs sums (n + 1) (.inl g) args h = _;rw [this];unfold ze4;simp only [hs]
def rd (n off : Nat) : AObj → Option (List CVal)
 | .cells cs _ => cut n cs off
 | .ro _ f => cutF f n off
 | .void => bif Nat.beq n 0 then some [] else none
 | _ => none
def Sl {α : Type} (st : Nat) (R : AHeap → List CVal → α → Prop) (h : AHeap) (c : CVal) (l : List α) : Prop :=
 (c = .nils ∧ l = []) ∨ ∃ b off cap ex, c = .slc b off l.length cap ex ∧ ∀ i x, l[i]? = some x → ∃ o ds, h.t.get b = some o ∧ rd st (off + i * st) o = some ds ∧ R h ds x
theorem zpT {cs : List CVal} {i : Nat} {c : CVal} (h : cut 1 cs i = some [c]) : vK cs i = some c := by
 rw [xt];have := (qd h).2 0 c rfl
 simpa using this
theorem zqG {o : AObj} {off : Nat} {c : CVal} {h : AHeap} (e : rd 1 off o = some [c]) : loadAt none h off (some o) = some (.s (.one c), h) := by
 cases o with
 | cells cs st => show retC h (vK cs off) = _; rw [zpT e]; rfl
 | ro x f =>
  show retC h (f off) = _;simp only [rd, cutF] at e;cases hf : f off with
  | none => rw [hf] at e; cases e
  | some d => rw [hf] at e; cases e; rfl
 | _ => cases e
end Go.CE
end
section
namespace Go.CE
theorem zbG : ∀ l : List CVal, takeN l.length l = some l
 | [] => rfl
 | c :: l => by simp only [List.length_cons, takeN, zbG l, xI]
theorem zdq (l : List CVal) : cut l.length l 0 = some l := by
 cases l with
 | nil => rfl
 | cons c l => simp only [cut]; exact zbG (c :: l)
end Go.CE
end
section
namespace Go.CE
open Go.RowKit
section
variable (w : World)
def oddV : Value → List Addr
 | .slice (some a) 0 0 => [a]
 | _ => []
def oddO : Obj → List Addr
 | .cells arr _ _ => arr.toList.flatMap oddV
 | _ => []
def odds (w : World) : List Addr := w.heap.toList.flatMap oddO
theorem zmc {w : World} {b : Nat} {arr : Array Value} {e : TypeId} {fr : Nat × Nat} {i : Nat} {a : Addr} (h : w.heap[b]? = some (.cells arr e fr)) (hi : arr[i]? = some (.slice (some a) 0 0)) : a ∈ odds w := by
 unfold odds;refine List.mem_flatMap.2 ⟨.cells arr e fr, ?_, List.mem_flatMap.2 ⟨.slice (some a) 0 0, ?_, by simp [oddV]⟩⟩
 ·exact Lz3 (by rw [LzA]; exact h)
 ·exact Lz3 (by rw [LzA]; exact hi)
def qT (w : World) (k : Nat) : Bool := match w.heap[k]? with | some (.cells _ _ _) => true | _ => false
theorem zba {w : World} {k : Nat} (h : qT w k = true) : ∃ arr e fr, w.heap[k]? = some (.cells arr e fr) := by
 unfold qT at h;split at h
 ·rename_i arr e fr hx; exact ⟨arr, e, fr, hx⟩
 ·cases h
theorem zhs {w : World} {k : Nat} (h : qT w k = true) : k < w.heap.size := by
 obtain ⟨arr, e, fr, hx⟩ := zba h;exact (Lz7.1 hx).1
def idxA (a : Addr) : List Addr → Nat
 | [] => 0
 | x :: l => if x = a then 0 else idxA a l + 1
theorem zc9 {a : Addr} : ∀ {l : List Addr}, a ∈ l → l[idxA a l]? = some a
 | [], h => by cases h
 | x :: l, h => by
  unfold idxA;by_cases hx : x = a
  ·rw [if_pos hx, hx]; rfl
  ·rw [if_neg hx];rcases List.mem_cons.1 h with h | h
   ·exact absurd h.symm hx
   ·rw [List.getElem?_cons_succ]; exact zc9 h
noncomputable def absV (w : World) : Value → Option CVal
 | .bool b => some (.bool b)
 | .int k n => some (.int k n)
 | .string s => some (.str s)
 | .pointer none => some .nilp
 | .pointer (some a) => bif decide (a.block < w.heap.size ∧ a.spot = none) then some (.ptr (bn a.block) a.off) else none
 | .slice none len cap => bif decide (len = 0 ∧ cap = 0) then some .nils else none
 | .slice (some a) len cap =>
  bif decide (qT w a.block = true ∧ a.spot = none ∧ len ≤ cap) then some (.slc (bn a.block) a.off len cap true)
  else bif decide (len = 0 ∧ cap = 0 ∧ a ∈ odds w) then some (.slc (bn (w.heap.size + idxA a (odds w))) 0 0 0 true) else none
 | .map none => some .nilm
 | .nilFunc => some .nilf
 | .nilIface => some .nili
 | _ => none
def φ0 (w : World) : Phi := fun b =>
 if b.toNat < w.heap.size then ⟨b.toNat, 0, 0, true, none⟩
 else match (odds w)[b.toNat - w.heap.size]? with | some a => ⟨a.block, a.off, 0, true, a.spot⟩ | none => ⟨b.toNat, 0, 0, true, none⟩
theorem qu {b : BN} (h : b.toNat < w.heap.size) : φ0 w b = ⟨b.toNat, 0, 0, true, none⟩ := if_pos h
theorem zoc {i : Nat} {a : Addr} (h : (odds w)[i]? = some a) : φ0 w (bn (w.heap.size + i)) = ⟨a.block, a.off, 0, true, a.spot⟩ := by
 unfold φ0;rw [if_neg (by rw [zO]; omega), zO, show w.heap.size + i - w.heap.size = i by omega, h]
theorem zgh (b : BN) : (φ0 w b).ok = true := by
 unfold φ0;split
 ·rfl
 ·split <;> rfl
noncomputable def roOf (w : World) : Obj → AObj
 | .cells arr e fr => .ro (some (.cells arr e fr)) (fun i => (arr[i]?).bind (absV w))
 | _ => .dead
noncomputable def roAt (w : World) (k : Nat) : AObj := match w.heap[k]? with | some x => roOf w x | none => .dead
noncomputable def z9 (w : World) : AHeap := ⟨bn (w.heap.size + (odds w).length), Tr.ofList .z ((List.range w.heap.size).map (roAt w) ++ (odds w).map fun _ => .void) .nil⟩
theorem xT (b : BN) : (z9 w).t.get b = if b.toNat < w.heap.size then some (roAt w b.toNat) else if b.toNat < w.heap.size + (odds w).length then some .void else none := by
 have e0 : BN.z = bn 0 := rfl;show (Tr.ofList .z ((List.range w.heap.size).map (roAt w) ++ (odds w).map fun _ => .void) .nil).get b = _
 have := vB ((List.range w.heap.size).map (roAt w) ++ (odds w).map fun _ => AObj.void) 0 (.nil : Tr AObj) b.toNat
 rw [xE, ← e0] at this;rw [this];have hn : (Tr.nil : Tr AObj).get b = none := by cases b <;> rfl
 rw [hn];by_cases hb : b.toNat < w.heap.size
 ·rw [if_pos hb, Lz2 (by simpa using hb)]
  simp [List.getElem?_range hb, hb]
 ·rw [if_neg hb];by_cases hb2 : b.toNat < w.heap.size + (odds w).length
  ·rw [if_pos hb2, Lz8 (by simp; omega)]
   have : b.toNat - w.heap.size < (odds w).length := by omega
   simp [Lz5 this]
  ·rw [if_neg hb2];simp;omega
theorem kq : (z9 w).n.toNat = w.heap.size + (odds w).length := zO _
theorem qD {b : BN} {arr : Array Value} {e : TypeId} {fr : Nat × Nat} (h : w.heap[b.toNat]? = some (.cells arr e fr)) : (z9 w).t.get b = some (roOf w (.cells arr e fr)) := by
 rw [xT, if_pos (Lz7.1 h).1];simp only [roAt, h]
theorem zit {i : Nat} (h : i < (odds w).length) : (z9 w).t.get (bn (w.heap.size + i)) = some .void := by
 rw [xT, zO, if_neg (by omega), if_pos (by omega)]
theorem zn9 {v : Value} {c : CVal} (h : absV w v = some c) : zi (φ0 w) c = v ∧ wfC (φ0 w) (z9 w).n.toNat c := by
 rw [kq];unfold absV at h;split at h
 ·cases h; exact ⟨rfl, trivial⟩
 ·cases h; exact ⟨rfl, trivial⟩
 ·cases h; exact ⟨rfl, trivial⟩
 ·cases h; exact ⟨rfl, trivial⟩
 ·rename_i a;by_cases hc : a.block < w.heap.size ∧ a.spot = none
  ·rw [decide_eq_true hc] at h;cases h;obtain ⟨b, off, sp⟩ := a;obtain ⟨h1, rfl⟩ := hc;have hp := qu w (b := bn b) (by rw [zO]; exact h1)
   refine ⟨?_, by rw [zO]; exact Lz9 h1 (Nat.le_add_right _ _), zgh w _⟩
   rw [zi, zhD (by rw [hp]), hp, zO, Nat.zero_add]
  ·rw [decide_eq_false hc] at h; cases h
 ·rename_i len cap;by_cases hc : len = 0 ∧ cap = 0
  ·rw [decide_eq_true hc] at h;cases h;obtain ⟨rfl, rfl⟩ := hc;exact ⟨rfl, trivial⟩
  ·rw [decide_eq_false hc] at h; cases h
 ·rename_i a len cap;by_cases hc : qT w a.block = true ∧ a.spot = none ∧ len ≤ cap
  ·rw [decide_eq_true hc] at h;cases h;obtain ⟨b, off, sp⟩ := a;obtain ⟨h1, rfl, h3⟩ := hc;have h1 := zhs h1;have hp := qu w (b := bn b) (by rw [zO]; exact h1)
   refine ⟨?_, ⟨by rw [zO]; exact Lz9 h1 (Nat.le_add_right _ _), zgh w _⟩, fun hh => (by cases hh), fun _ => h3⟩
   rw [zi, zhD (by rw [hp]), hp, zO, Nat.zero_add, cond_true]
  ·rw [decide_eq_false hc, cond_false] at h;by_cases hc2 : len = 0 ∧ cap = 0 ∧ a ∈ odds w
   ·rw [decide_eq_true hc2] at h;cases h;obtain ⟨rfl, rfl, hm⟩ := hc2;have hi := zc9 hm;have hlt := (Lz0.1 hi).1;have hp := zoc w hi;refine ⟨?_, ⟨by rw [zO]; omega, zgh w _⟩, fun hh => (by cases hh), fun _ => LzB _⟩
    rw [zi, cond_true];unfold adr;rw [hp];rfl
   ·rw [decide_eq_false hc2] at h; cases h
 ·cases h; exact ⟨rfl, trivial⟩
 ·cases h; exact ⟨rfl, trivial⟩
 ·cases h; exact ⟨rfl, trivial⟩
 ·cases h
theorem zer : HW (z9 w) := fun b o hb => by
 rw [xT] at hb;rw [kq];by_cases h : b.toNat < w.heap.size
 ·omega
 ·rw [if_neg h] at hb;by_cases h2 : b.toNat < w.heap.size + (odds w).length
  ·exact h2
  ·rw [if_neg h2] at hb; cases hb
def SW (w : World) (k : Nat) : Prop := ∃ arr e fr, w.heap[k]? = some (.cells arr e fr)
theorem zar {k : Nat} (hl : live (roAt w k)) : ∃ arr e fr, w.heap[k]? = some (.cells arr e fr) ∧ roAt w k = roOf w (.cells arr e fr) := by
 unfold roAt at hl ⊢;split at hl
 ·rename_i x hx;cases x with
  | cells arr e fr => exact ⟨arr, e, fr, hx, by simp only⟩
  | _ => exact hl.elim
 ·exact hl.elim
theorem zis (hG : GOk w) : HRel w (SW w) (φ0 w) (z9 w) w := by
 refine ⟨zer w, fun b o hb => zgh w b, fun b o hb => ?_, fun b b' o o' hb hb' hl hl' hh => ?_, fun b o hb hl => ?_, rfl, rfl, rfl, LzB _, fun _ _ _ => rfl, hG, fun b o hb hl => ?_, fun b o hb hl => ?_⟩
 ·rw [xT] at hb;by_cases hlt : b.toNat < w.heap.size
  ·rw [if_pos hlt] at hb;cases hb;have hp := qu w hlt;by_cases hl : live (roAt w b.toNat)
   ·obtain ⟨arr, e, fr, hx, hr⟩ := zar w hl;rw [hr];refine ⟨fun y hy => by cases hy; rw [hp]; exact hx, arr, e, fr, by rw [hp]; exact hx, fun i c hc => ?_⟩
    replace hc : (arr[i]?).bind (absV w) = some c := hc
    cases ha : arr[i]? with
    | none => rw [ha] at hc; cases hc
    | some v =>
     rw [ha] at hc;obtain ⟨k1, k2⟩ := zn9 w hc;refine ⟨?_, k2⟩;rw [hp, Nat.zero_add, ha, k1]
   ·generalize roAt w b.toNat = o at hl;cases o with
    | dead => trivial
    | void => trivial
    | _ => exact absurd trivial hl
  ·rw [if_neg hlt] at hb;by_cases h2 : b.toNat < w.heap.size + (odds w).length
   ·rw [if_pos h2] at hb; cases hb; trivial
   ·rw [if_neg h2] at hb; cases hb
 ·have k1 := lt_live hb hl;have k2 := lt_live hb' hl';rw [qu w k1, qu w k2] at hh;have h2 : b.toNat = b'.toNat := hh;rw [← xE b, h2, xE]
 ·have k1 := lt_live hb hl;rw [qu w k1];rw [xT, if_pos k1] at hb;cases hb;obtain ⟨arr, e, fr, h2, _⟩ := zar w hl;exact .inl ⟨arr, e, fr, h2⟩
 ·rw [qu w (lt_live hb hl)]
 ·have k1 := lt_live hb hl.live;rw [xT, if_pos k1] at hb;cases hb;obtain ⟨arr, e, fr, _, h2⟩ := zar w hl.live;rw [h2] at hl;exact hl.elim
where
 lt_live {b : BN} {o : AObj} (hb : (z9 w).t.get b = some o) (hl : live o) : b.toNat < w.heap.size := by
  rw [xT] at hb;by_cases hlt : b.toNat < w.heap.size
  ·exact hlt
  ·rw [if_neg hlt] at hb;by_cases h2 : b.toNat < w.heap.size + (odds w).length
   ·rw [if_pos h2] at hb; cases hb; exact hl.elim
   ·rw [if_neg h2] at hb; cases hb
theorem zf6 {P : Program} {call : zh} (C : xq P call) (hG : GOk w) {f : Nat} {args : List AVal} {v : AVal} {h2 : AHeap} (ha : ∀ x ∈ args, wfA (φ0 w) (z9 w).n.toNat x) (e : call (.inl f) args (z9 w) = some (v, h2)) (hg : Gr (z9 w) h2) :
  CallsIn (FR none) 0 P f (args.map (zo (φ0 w))).toArray w (fun e w2 => ∃ φ, e = .returned (zo φ v) ∧ Below w.heap.size w w2) := by
 refine ((C w _ _ _ w args v h2 (zis w hG) ha).1 f e).2.mono ?_
 rintro e9 w9 ⟨φ2, rfl, he, H2, _, _⟩
 refine ⟨φ2, rfl, H2.os, H2.tape, H2.output, H2.size, fun k hk => ?_⟩
 by_cases hc : SW w k
 ·obtain ⟨arr, e, fr, hc⟩ := hc;have hb : (z9 w).t.get (bn k) = some (roOf w (.cells arr e fr)) := qD w (by rw [zO]; exact hc)
  have hn : (bn k).toNat < (z9 w).n.toNat := by rw [kq, zO]; omega
  have hb2 := (hg.old _ hn).trans hb;obtain ⟨h1, _⟩ := H2.obj _ _ hb2;have h1 := h1 _ rfl;rw [he _ hn, qu w (by rw [zO]; exact hk)] at h1
  have h1 : w9.heap[(bn k).toNat]? = _ := h1;rw [zO] at h1;rw [h1, hc]
 ·exact H2.kept k hk hc
end
end Go.CE
end
section
namespace Go.CE
open Go Go.ChangeShapes Go.WideShapes Go.ChangeAt Go.RowKit
theorem zhx {w : World} {b off : Nat} {v : Value} (h : w.cell? ⟨b, off, none⟩ = some v) : ∃ arr e fr, w.heap[b]? = some (.cells arr e fr) ∧ arr[off]? = some v := by
 unfold World.cell? at h;cases hx : w.heap[b]? with
 | none => simp [hx] at h
 | some x =>
  cases x with
  | cells arr e fr => refine ⟨arr, e, fr, rfl, ?_⟩; simpa [hx] using h
  | _ => simp [hx] at h
def litI (k : IntKind) (n : Nat) : DataW Unit := .lit (.int k (n : Int))
theorem zem {P : Program} {w : World} {nm : String} {g : Nat} {t e : TypeId} {n : Nat} {k : IntKind} {ns : List Nat} {cs : Array Value} {fuel : Nat} {q : List MemPlace}
  (hg : P.globalNamed nm = some g) (ht : P.underlying t = some (.array n e)) (he : P.underlying e = some (.int k)) (hc : P.cellsOf e = 1) (hv : w.var? P nm = some cs)
  (h : DataW.trod (fun _ => ()) P w 0 (fun _ => true) false fuel t cs.toList = some (.agg (ns.map (litI k)), q)) {off m : Nat} (hm : ns[off]? = some m) :
  ∃ arr ty fr, w.heap[g]? = some (.cells arr ty fr) ∧ arr[off]? = some (.int k (m : Int)) := by
 obtain ⟨xs, m1, rfl, hx1, hlen, hn, hel⟩ := DataW.trod_array ht h;simp only [Prod.mk.injEq, DataW.agg.injEq] at hx1;have hxl : xs.length = ns.length := by have := congrArg List.length hx1.1; simpa using this.symm
 have hoff : off < ns.length := (Lz0.1 hm).1;have h0 := hel off (by omega)
 obtain ⟨x, hx⟩ : ∃ x, xs[off]? = some x := ⟨_, Lz5 (by omega)⟩
 rw [hx, hc, Nat.mul_one] at h0;obtain ⟨r, e1, e2, _⟩ := DataW.trod_int he h0;have e3 : x.1 = litI k m := by
  have h1 : (xs.map (·.1))[off]? = some x.1 := by rw [Lz6, hx]; rfl
  rw [← hx1.1, Lz6, hm] at h1;exact (Option.some.inj h1).symm
 have hr : r = (m : Int) := by rw [e2] at e3; simpa [litI] using e3
 subst hr;have h2 : cs.toList[off]? = some (.int k (m : Int)) := by
  have : ((cs.toList.drop off).take 1)[0]? = some (.int k (m : Int)) := by rw [e1]; rfl
  rw [List.getElem?_take, if_pos (by decide), List.getElem?_drop] at this
  exact this
 refine zhx ?_;rw [World.var?_cell hg hv off, ← LzA];exact h2
theorem zgU : ∀ (l : List Nat) (i : Nat), nthN l i = l[i]?
 | [], i => by simp [nthN]
 | x :: l, 0 => rfl
 | x :: l, i + 1 => by show nthN l i = _; rw [zgU l i]; simp
theorem znB {w : World} {g : Nat} {k : IntKind} {ns : List Nat} (hg : kB g = some (k, ns)) (H : ∀ (off m : Nat), ns[off]? = some m → ∃ arr ty fr, w.heap[g]? = some (.cells arr ty fr) ∧ arr[off]? = some (.int k (m : Int)))
  {off : Nat} {c : CVal} (h : zbB g off = some c) : ∃ arr e fr, w.heap[g]? = some (.cells arr e fr) ∧ ∀ φ, arr[off]? = some (zi φ c) := by
 unfold zbB at h;rw [hg] at h;simp only [zgU] at h;cases hm : ns[off]? with
 | none => rw [hm] at h; cases h
 | some m =>
  rw [hm] at h; cases h;obtain ⟨arr, ty, fr, h1, h2⟩ := H off m hm;exact ⟨arr, ty, fr, h1, fun φ => h2⟩
end Go.CE
end
section
namespace Go.PE
open Go Go.CE
inductive DV where
 | bool (b : Bool)
 | int (k : IntKind) (n : Int)
 | str (s : ByteArray)
 | nils
 | lst (st : Nat) (xs : List (List DV))
 | fp (xs : List DV) (off : Nat)
 | fn (f : Nat) (caps : List (List DV))
 | nilf
 | nilp
 | nilm
 | nili
 | u
inductive DS where
 | one (d : DV)
 | agg (ds : List DV)
inductive DA where
 | s (d : DS)
 | tup (l : List DS)
def DS.cells : DS → List DV
 | .one d => [d]
 | .agg ds => ds
inductive Rep (fz : BN → Prop) (h : AHeap) : CVal → DV → Prop
 | bool (b : Bool) : Rep fz h (.bool b) (.bool b)
 | int (k : IntKind) (n : Int) : Rep fz h (.int k n) (.int k n)
 | str (s : ByteArray) : Rep fz h (.str s) (.str s)
 | nils : Rep fz h .nils .nils
 | nilf : Rep fz h .nilf .nilf
 | nilp : Rep fz h .nilp .nilp
 | nilm : Rep fz h .nilm .nilm
 | nili : Rep fz h .nili .nili
 | u (c : CVal) : Rep fz h c .u
 | lst {b : BN} {o : AObj} {off cap : Nat} {ex : Bool} {st : Nat} {xs : List (List DV)} (cs : List CVal) (hb : fz b) (hg : h.t.get b = some o) (hc : ex = true → xs.length ≤ cap)
   (ha : rd (xs.length * st) off o = some cs) (h1 : ∀ (i : Nat) (x : List DV), xs[i]? = some x → x.length = st)
   (h2 : ∀ (i : Nat) (x : List DV) (j : Nat) (c : CVal) (d : DV), xs[i]? = some x → cs[i * st + j]? = some c → x[j]? = some d → Rep fz h c d) : Rep fz h (.slc b off xs.length cap ex) (.lst st xs)
 | fp {b : BN} {o : AObj} {base : Nat} {xs : List DV} {off : Nat} (cs : List CVal) (hb : fz b) (hg : h.t.get b = some o) (h1 : rd xs.length base o = some cs)
   (h2 : ∀ (j : Nat) (c : CVal) (d : DV), cs[j]? = some c → xs[j]? = some d → Rep fz h c d) : Rep fz h (.ptr b (base + off)) (.fp xs off)
 | fn {f : Nat} {ps : List (BN × Nat)} {caps : List (List DV)} (css : Nat → List CVal) (os : Nat → AObj) (hl : ps.length = caps.length)
   (h1 : ∀ (i : Nat) (p : BN × Nat) (x : List DV), ps[i]? = some p → caps[i]? = some x → fz p.1 ∧ h.t.get p.1 = some (os i) ∧ rd x.length p.2 (os i) = some (css i))
   (h2 : ∀ (i : Nat) (p : BN × Nat) (x : List DV) (j : Nat) (c : CVal) (d : DV), ps[i]? = some p → caps[i]? = some x → (css i)[j]? = some c → x[j]? = some d → Rep fz h c d) : Rep fz h (.fn f ps) (.fn f caps)
structure FG (fz : BN → Prop) (h : AHeap) (fz' : BN → Prop) (h' : AHeap) : Prop where
 sub : ∀ b o, fz b → h.t.get b = some o → fz' b
 old : ∀ b o, fz b → h.t.get b = some o → h'.t.get b = some o
theorem FG.refl (fz : BN → Prop) (h : AHeap) : FG fz h fz h := ⟨fun _ _ h _ => h, fun _ _ _ h => h⟩
theorem FG.trans {f1 f2 f3 : BN → Prop} {h1 h2 h3 : AHeap} (a : FG f1 h1 f2 h2) (b : FG f2 h2 f3 h3) : FG f1 h1 f3 h3 := ⟨fun x o hx ho => b.sub x o (a.sub x o hx ho) (a.old x o hx ho), fun x o hx ho => b.old x o (a.sub x o hx ho) (a.old x o hx ho)⟩
theorem Rep.mono {fz fz' : BN → Prop} {h h' : AHeap} (g : FG fz h fz' h') {c : CVal} {d : DV} (H : Rep fz h c d) : Rep fz' h' c d := by
 induction H with
 | bool b => exact .bool b
 | int k n => exact .int k n
 | str s => exact .str s
 | nils => exact .nils
 | nilf => exact .nilf
 | nilp => exact .nilp
 | nilm => exact .nilm
 | nili => exact .nili
 | u c => exact .u c
 | lst cs hb hg hc ha h1 h2 ih => exact .lst cs (g.sub _ _ hb hg) (g.old _ _ hb hg) hc ha h1 ih
 | fp cs hb hg h1 h2 ih => exact .fp cs (g.sub _ _ hb hg) (g.old _ _ hb hg) h1 ih
 | fn css os hl h1 h2 ih => exact .fn css os hl (fun i p x hp hx => by obtain ⟨a, b, c⟩ := h1 i p x hp hx; exact ⟨g.sub _ _ a b, g.old _ _ a b, c⟩) ih
def RepL (fz : BN → Prop) (h : AHeap) (cs : List CVal) (ds : List DV) : Prop := cs.length = ds.length ∧ ∀ (j : Nat) (c : CVal) (d : DV), cs[j]? = some c → ds[j]? = some d → Rep fz h c d
theorem RepL.mono {fz fz' : BN → Prop} {h h' : AHeap} (g : FG fz h fz' h') {cs : List CVal} {ds : List DV} (H : RepL fz h cs ds) : RepL fz' h' cs ds := ⟨H.1, fun j c d a b => (H.2 j c d a b).mono g⟩
theorem RepL.nil (fz : BN → Prop) (h : AHeap) : RepL fz h [] [] := ⟨rfl, fun j c d a => by simp at a⟩
theorem RepL.cons {fz : BN → Prop} {h : AHeap} {c : CVal} {d : DV} {cs : List CVal} {ds : List DV} (a : Rep fz h c d) (b : RepL fz h cs ds) : RepL fz h (c :: cs) (d :: ds) := by
 refine ⟨by simp [b.1], fun j c' d' hc hd => ?_⟩
 cases j with
 | zero => simp only [List.getElem?_cons_zero, Option.some.injEq] at hc hd; subst hc; subst hd; exact a
 | succ j => simp only [List.getElem?_cons_succ] at hc hd; exact b.2 j c' d' hc hd
theorem RepL.inv {fz : BN → Prop} {h : AHeap} {c : CVal} {d : DV} {cs : List CVal} {ds : List DV} (H : RepL fz h (c :: cs) (d :: ds)) : Rep fz h c d ∧ RepL fz h cs ds :=
 ⟨H.2 0 c d rfl rfl, by have := H.1; simp at this; exact this, fun j c' d' hc hd => H.2 (j + 1) c' d' (by simpa using hc) (by simpa using hd)⟩
theorem RepL.app {fz : BN → Prop} {h : AHeap} {cs cs' : List CVal} {ds ds' : List DV} (a : RepL fz h cs ds) (b : RepL fz h cs' ds') : RepL fz h (cs ++ cs') (ds ++ ds') := by
 refine ⟨by simp [a.1, b.1], fun j c d hc hd => ?_⟩
 by_cases hj : j < cs.length
 ·rw [Lz2 hj] at hc;rw [Lz2 (by have := a.1; omega)] at hd
  exact a.2 j c d hc hd
 ·rw [Lz8 (by omega)] at hc
  rw [Lz8 (by have := a.1; omega), ← a.1] at hd
  exact b.2 _ c d hc hd
theorem RepL.sub {fz : BN → Prop} {h : AHeap} {cs : List CVal} {ds : List DV} (a : RepL fz h cs ds) (i n : Nat) : RepL fz h ((cs.drop i).take n) ((ds.drop i).take n) := by
 refine ⟨by simp [a.1], fun j c d hc hd => ?_⟩
 rw [List.getElem?_take] at hc hd;split at hc
 ·rename_i hj;rw [if_pos hj] at hd;rw [List.getElem?_drop] at hc hd;exact a.2 _ c d hc hd
 ·cases hc
theorem RepL.set {fz : BN → Prop} {h : AHeap} {cs cs' : List CVal} {ds ds' : List DV} (a : RepL fz h cs ds) (b : RepL fz h cs' ds') (i : Nat) :
  RepL fz h (cs.take i ++ cs' ++ cs.drop (i + cs'.length)) (ds.take i ++ ds' ++ ds.drop (i + ds'.length)) := by
 have h1 : RepL fz h (cs.take i) (ds.take i) := by simpa using a.sub 0 i
 have h2 : RepL fz h (cs.drop (i + cs'.length)) (ds.drop (i + ds'.length)) := by
  have := a.sub (i + cs'.length) (cs.length - (i + cs'.length));rw [b.1] at this ⊢;have e1 : List.take (cs.length - (i + ds'.length)) (List.drop (i + ds'.length) cs) = List.drop (i + ds'.length) cs := List.take_of_length_le (by simp)
  have e2 : List.take (cs.length - (i + ds'.length)) (List.drop (i + ds'.length) ds) = List.drop (i + ds'.length) ds := List.take_of_length_le (by simp [a.1])
  rwa [e1, e2] at this
 exact (h1.app b).app h2
def RepS (fz : BN → Prop) (h : AHeap) : SVal → DS → Prop
 | .one c, .one d => Rep fz h c d
 | .agg cs, .agg ds => RepL fz h cs ds
 | _, _ => False
theorem RepS.mono {fz fz' : BN → Prop} {h h' : AHeap} (g : FG fz h fz' h') {c : SVal} {d : DS} (H : RepS fz h c d) : RepS fz' h' c d := by
 cases c <;> cases d <;> simp only [RepS] at H ⊢
 ·exact H.mono g
 ·exact H.mono g
def RepSL (fz : BN → Prop) (h : AHeap) : List SVal → List DS → Prop
 | [], [] => True
 | c :: cs, d :: ds => RepS fz h c d ∧ RepSL fz h cs ds
 | _, _ => False
theorem RepSL.mono {fz fz' : BN → Prop} {h h' : AHeap} (g : FG fz h fz' h') : ∀ {c : List SVal} {d : List DS}, RepSL fz h c d → RepSL fz' h' c d
 | [], [], _ => trivial
 | _ :: _, _ :: _, H => ⟨H.1.mono g, RepSL.mono g H.2⟩
 | [], _ :: _, H => H.elim
 | _ :: _, [], H => H.elim
def RepA (fz : BN → Prop) (h : AHeap) : AVal → DA → Prop
 | .s c, .s d => RepS fz h c d
 | .tup cs, .tup ds => RepSL fz h cs ds
 | _, _ => False
theorem RepA.of {fz : BN → Prop} {h : AHeap} {c : SVal} {d : DS} (H : RepS fz h c d) : RepA fz h (.s c) (.s d) := H
theorem RepA.inv {fz : BN → Prop} {h : AHeap} {v : AVal} {d : DS} (H : RepA fz h v (.s d)) : ∃ w, v = .s w ∧ RepS fz h w d := by
 cases v with
 | s v => exact ⟨_, rfl, H⟩
 | tup l => exact H.elim
theorem RepA.mono {fz fz' : BN → Prop} {h h' : AHeap} (g : FG fz h fz' h') {c : AVal} {d : DA} (H : RepA fz h c d) : RepA fz' h' c d := by
 cases d with
 | s d =>
  obtain ⟨w, rfl, hw⟩ := H.inv;exact .of (hw.mono g)
 | tup ds =>
  cases c with
  | s c => exact H.elim
  | tup cs => exact RepSL.mono g H
def RepAL (fz : BN → Prop) (h : AHeap) : List AVal → List DA → Prop
 | [], [] => True
 | c :: cs, d :: ds => RepA fz h c d ∧ RepAL fz h cs ds
 | _, _ => False
theorem RepAL.mono {fz fz' : BN → Prop} {h h' : AHeap} (g : FG fz h fz' h') : ∀ {c : List AVal} {d : List DA}, RepAL fz h c d → RepAL fz' h' c d
 | [], [], _ => trivial
 | _ :: _, _ :: _, H => ⟨H.1.mono g, RepAL.mono g H.2⟩
 | [], _ :: _, H => H.elim
 | _ :: _, [], H => H.elim
theorem RepAL.app {fz : BN → Prop} {h : AHeap} : ∀ {c c' : List AVal} {d d' : List DA}, RepAL fz h c d → RepAL fz h c' d' → RepAL fz h (c ++ c') (d ++ d')
 | [], _, [], _, _, H => H
 | _ :: _, _, _ :: _, _, H, K => ⟨H.1, RepAL.app H.2 K⟩
 | [], _, _ :: _, _, H, _ => H.elim
 | _ :: _, _, [], _, H, _ => H.elim
theorem zbc : ∀ (cs : List CVal) (n i : Nat), i + n ≤ cs.length → cut n cs i = some ((cs.drop i).take n) := by
 have tk : ∀ (n : Nat) (cs : List CVal), n ≤ cs.length → takeN n cs = some (cs.take n) := by
  intro n
  induction n with
  | zero => intro cs _; simp [takeN]
  | succ n ih =>
   intro cs h;cases cs with
   | nil => simp at h
   | cons c cs => simp only [takeN, ih cs (by simpa using h), xI, List.take_succ_cons]
 intro cs
 induction cs with
 | nil => intro n i h; simp at h; obtain ⟨rfl, rfl⟩ := h; rfl
 | cons c cs ih =>
  intro n i h;cases i with
  | zero =>
   show takeN n (c :: cs) = _;rw [tk n _ (by simpa using h)]
   rfl
  | succ i =>
   show cut n cs i = _;rw [ih n i (by simp at h; omega)]
   rfl
theorem zf0 {f : Nat → Option CVal} : ∀ {n i : Nat} {l : List CVal}, l.length = n → (∀ j c, l[j]? = some c → f (i + j) = some c) → cutF f n i = some l := by
 intro n
 induction n with
 | zero => intro i l hl _; rw [List.length_eq_zero_iff.1 hl]; rfl
 | succ n ih =>
  intro i l hl H;cases l with
  | nil => simp at hl
  | cons c l =>
   have h0 := H 0 c rfl;simp only [Nat.add_zero] at h0;have h1 := ih (i := i + 1) (l := l) (by simpa using hl) (fun j d hd => by have := H (j + 1) d (by simpa using hd); rw [← this]; congr 1; omega)
   simp only [cutF, h0];show xI c (cutF f n (i + 1)) = _;rw [h1]; rfl
theorem zcH {n off : Nat} {cs : List CVal} (h : rd n off .void = some cs) : n = 0 ∧ cs = [] := by
 have h : (bif Nat.beq n 0 then some [] else none) = some cs := h
 cases hn : Nat.beq n 0 with
 | true => rw [hn] at h; cases h; exact ⟨Lz1 hn, rfl⟩
 | false => rw [hn] at h; cases h
theorem zbT {n off : Nat} {o : AObj} {cs : List CVal} (h : rd n off o = some cs) : cs.length = n := by
 cases o with
 | void => obtain ⟨rfl, rfl⟩ := zcH h; rfl
 | cells l st => exact (qd h).1
 | ro x f => exact (kL h).1
 | _ => cases h
theorem zbS {n base : Nat} {o : AObj} {cs : List CVal} (h : rd n base o = some cs) {off m : Nat} (hm : off + m ≤ n) : rd m (base + off) o = some ((cs.drop off).take m) := by
 cases o with
 | void =>
  obtain ⟨rfl, rfl⟩ := zcH h;have : m = 0 := by omega
  subst this;simp [rd]
 | cells l st =>
  obtain ⟨rfl, h2⟩ := zht n l base cs h;show cut m l (base + off) = _;rw [zbc l m (base + off) (by omega)]
  congr 1
  rw [List.drop_take, List.drop_drop, List.take_take]
  congr 1
  omega
 | ro x f =>
  obtain ⟨h1, h2⟩ := kL h;refine zf0 (by simp; omega) fun j c hc => ?_
  rw [List.getElem?_take] at hc;split at hc
  ·rw [List.getElem?_drop] at hc;rw [Nat.add_assoc];exact h2 _ c hc
  ·cases hc
 | _ => cases h
theorem zoF {n off : Nat} {o : AObj} {cs : List CVal} (h' : AHeap) (h : rd n off o = some cs) (h0 : n ≠ 0 ∨ o ≠ .void) : loadAt (some n) h' off (some o) = some (.s (.agg cs), h') := by
 cases o with
 | void =>
  obtain ⟨rfl, _⟩ := zcH h;rcases h0 with h0 | h0 <;> exact absurd rfl h0
 | cells l st => show retA h' (cut n l off) = _; rw [show cut n l off = some cs from h]; rfl
 | ro x f => show retA h' (cutF f n off) = _; rw [show cutF f n off = some cs from h]; rfl
 | _ => cases h
theorem zlX {n base : Nat} {o : AObj} {cs : List CVal} (h' : AHeap) (h : rd n base o = some cs) {off : Nat} {c : CVal} (hc : cs[off]? = some c) : loadAt none h' (base + off) (some o) = some (.s (.one c), h') := by
 have hl := (Lz0.1 hc).1;have e := zbS h (off := off) (m := 1) (by have := zbT h; omega)
 refine zqG (e.trans ?_)
 congr 1
 rw [List.take_one, List.head?_drop, hc]; rfl
def DV.scal : DV → Option CVal
 | .bool b => some (.bool b)
 | .int k n => some (.int k n)
 | .str s => some (.str s)
 | .nils => some .nils
 | .nilf => some .nilf
 | .nilp => some .nilp
 | .nilm => some .nilm
 | .nili => some .nili
 | _ => none
theorem Rep.scal {fz : BN → Prop} {h : AHeap} {c : CVal} {d : DV} (H : Rep fz h c d) {c' : CVal} (e : d.scal = some c') : c = c' := by
 cases H <;> simp only [DV.scal] at e <;> first | cases e; rfl | cases e
theorem Rep.ofScal {fz : BN → Prop} {h : AHeap} {d : DV} {c : CVal} (e : d.scal = some c) : Rep fz h c d := by
 cases d <;> simp only [DV.scal] at e <;> cases e
 ·exact .bool _
 ·exact .int _ _
 ·exact .str _
 ·exact .nils
 ·exact .nilf
 ·exact .nilp
 ·exact .nilm
 ·exact .nili
theorem Rep.lst_inv {fz : BN → Prop} {h : AHeap} {c : CVal} {st : Nat} {xs : List (List DV)} (H : Rep fz h c (.lst st xs)) :
  ∃ b o off cap ex cs, c = .slc b off xs.length cap ex ∧ fz b ∧ h.t.get b = some o ∧ (ex = true → xs.length ≤ cap) ∧ rd (xs.length * st) off o = some cs ∧
   ∀ (i : Nat) (x : List DV), xs[i]? = some x → x.length = st ∧ RepL fz h ((cs.drop (i * st)).take st) x := by
 cases H with
 | lst cs hb hg hc ha h1 h2 =>
  refine ⟨_, _, _, _, _, cs, rfl, hb, hg, hc, ha, fun i x hx => ⟨h1 i x hx, ?_, fun j c d hc hd => ?_⟩⟩
  ·have hi := (Lz0.1 hx).1;have : (i + 1) * st ≤ xs.length * st := Nat.mul_le_mul_right st hi;rw [Nat.succ_mul] at this;have hl := zbT ha;simp only [List.length_take, List.length_drop, h1 i x hx];omega
  ·rw [List.getElem?_take] at hc;split at hc
   ·rw [List.getElem?_drop] at hc;exact h2 i x j c d hx hc hd
   ·cases hc
theorem Rep.lst_mk {fz : BN → Prop} {h : AHeap} {b : BN} {o : AObj} {off cap : Nat} {ex : Bool} {st : Nat} {xs : List (List DV)} {cs : List CVal} (hb : fz b) (hg : h.t.get b = some o) (hc : ex = true → xs.length ≤ cap)
  (ha : rd (xs.length * st) off o = some cs) (H : ∀ (i : Nat) (x : List DV), xs[i]? = some x → x.length = st ∧ RepL fz h ((cs.drop (i * st)).take st) x) : Rep fz h (.slc b off xs.length cap ex) (.lst st xs) := by
 refine .lst cs hb hg hc ha (fun i x hx => (H i x hx).1) (fun i x j c d hx hcs hd => (H i x hx).2.2 j c d ?_ hd)
 have hj := (Lz0.1 hd).1;rw [List.getElem?_take, if_pos (by have := (H i x hx).1; omega), List.getElem?_drop]
 exact hcs
theorem Rep.fp_inv {fz : BN → Prop} {h : AHeap} {c : CVal} {xs : List DV} {off : Nat} (H : Rep fz h c (.fp xs off)) :
  ∃ b o base cs, c = .ptr b (base + off) ∧ fz b ∧ h.t.get b = some o ∧ rd xs.length base o = some cs ∧ RepL fz h cs xs := by
 cases H with
 | fp cs hb hg h1 h2 => exact ⟨_, _, _, cs, rfl, hb, hg, h1, zbT h1, h2⟩
theorem Rep.fp_mk {fz : BN → Prop} {h : AHeap} {b : BN} {o : AObj} {base : Nat} {cs : List CVal} {xs : List DV} {off : Nat} (hb : fz b) (hg : h.t.get b = some o) (h1 : rd xs.length base o = some cs) (h2 : RepL fz h cs xs) :
  Rep fz h (.ptr b (base + off)) (.fp xs off) := .fp cs hb hg h1 h2.2
theorem Rep.fn_inv {fz : BN → Prop} {h : AHeap} {c : CVal} {f : Nat} {caps : List (List DV)} (H : Rep fz h c (.fn f caps)) :
  ∃ ps, c = .fn f ps ∧ RepL fz h (ps.map fun p => .ptr p.1 p.2) (caps.map fun x => .fp x 0) := by
 cases H with
 | fn css os hl h1 h2 =>
  refine ⟨_, rfl, by simp [hl], fun j c d hc hd => ?_⟩
  simp only [Lz6, Option.map_eq_some_iff] at hc hd;obtain ⟨p, hp, rfl⟩ := hc;obtain ⟨x, hx, rfl⟩ := hd;obtain ⟨a, b, c⟩ := h1 j p x hp hx;exact .fp (base := p.2) (off := 0) (css j) a b c (fun i c d hc hd => h2 j p x i c d hp hx hc hd)
theorem Rep.fn_mk {fz : BN → Prop} {h : AHeap} {f : Nat} {ps : List (BN × Nat)} {caps : List (List DV)} (H : RepL fz h (ps.map fun p => .ptr p.1 p.2) (caps.map fun x => .fp x 0)) : Rep fz h (.fn f ps) (.fn f caps) := by
 have hl : ps.length = caps.length := by simpa using H.1
 have : ∀ i : Nat, ∃ q : List CVal × AObj, ∀ (p : BN × Nat) (x : List DV), ps[i]? = some p → caps[i]? = some x → fz p.1 ∧ h.t.get p.1 = some q.2 ∧ rd x.length p.2 q.2 = some q.1 ∧ RepL fz h q.1 x := by
  intro i;cases hp : ps[i]? with
  | none => exact ⟨([], .dead), fun p x hp' => by cases hp'⟩
  | some p =>
   cases hx : caps[i]? with
   | none => exact ⟨([], .dead), fun p x _ hx' => by cases hx'⟩
   | some x =>
    have := H.2 i (.ptr p.1 p.2) (.fp x 0) (by simp [hp]) (by simp [hx])
    obtain ⟨b, o, base, cs, e, a1, a2, a3, a4⟩ := this.fp_inv;simp only [CVal.ptr.injEq, Nat.add_zero] at e;obtain ⟨rfl, rfl⟩ := e;exact ⟨(cs, o), fun p' x' hp' hx' => by cases hp'; cases hx'; exact ⟨a1, a2, a3, a4⟩⟩
 obtain ⟨q, hq⟩ := Classical.axiomOfChoice this;exact .fn (fun i => (q i).1) (fun i => (q i).2) hl (fun i p x hp hx => ⟨(hq i p x hp hx).1, (hq i p x hp hx).2.1, (hq i p x hp hx).2.2.1⟩) (fun i p x j c d hp hx hc hd => (hq i p x hp hx).2.2.2.2 j c d hc hd)
end Go.PE
end
section
namespace Go.PE
open Go Go.CE
def shC : SVal → Nat
 | .one _ => 0
 | .agg cs => Nat.succ cs.length
def zs0 (k v : SVal) : Nat := Nat.add 1048576 (Nat.add (Nat.mul (shC k) 1024) (shC v))
inductive KOp where
 | mv (x : Operand)
 | pick (c a b : Operand)
 | alloc (zs : List CVal)
 | box (x : Operand)
 | build (zs : List CVal) (parts : List (Nat × Nat × Operand))
 | bslice (st len : Nat) (zs : List CVal) (parts : List (Nat × Nat × Operand))
 | load (n : Option Nat) (x : Operand)
 | store (n : Nat) (x v : Operand)
 | nilck (x : Operand)
 | bin (op : BinOp) (x y : Operand)
 | shift (left : Bool) (x y : Operand)
 | str (op : BinOp) (x y : Operand)
 | nilS (neg : Bool) (x y : Operand)
 | eq (ks : Nat ⊕ List Nat) (neg : Bool) (x y : Operand)
 | not (x : Operand)
 | neg (x : Operand)
 | conv (k : IntKind) (x : Operand)
 | b2s (x : Operand)
 | s2b (x : Operand)
 | mkfn (f : Nat) (caps : List Operand)
 | mkmap (st : Nat)
 | mkslice (st : Nat) (zs : List CVal) (bytes : Nat) (l c : Operand)
 | slice (st : Nat) (x : Operand) (lo hi mx : Option Operand)
 | sslice (x : Operand) (lo hi : Option Operand)
 | foff (x : Operand) (off : Nat)
 | field (x : Operand) (off : Nat) (n : Option Nat)
 | ixs (st : Nat) (x i : Operand)
 | ixarr (len st : Nat) (x i : Operand)
 | ixagg (len st : Nat) (n : Option Nat) (x i : Operand)
 | ixstr (x i : Operand)
 | lookup (q : Nat ⊕ List Nat) (z : SVal) (ok : Bool) (m k : Operand)
 | mupd (q : Nat ⊕ List Nat) (m k v : Operand)
 | extract (x : Operand) (i : Nat)
 | lenS (x : Operand)
 | lenL (x : Operand)
 | lenM (x : Operand)
 | append (st bytes : Nat) (s x : Operand)
 | minmax (m : Bool) (x : Operand) (xs : List Operand)
 | clear (st : Nat) (zs : List CVal) (x : Operand)
 | call (f : Operand) (args : List Operand)
section
variable (P : Program)
def zcd (fs : Array Field) : List (Nat × Operand) → Option (List (Nat × Nat × Operand))
 | [] => some []
 | (i, x) :: r =>
  match fs[i]?, zcd fs r with
  | some f, some rest =>
   match P.info? f.type with
   | some info => some ((f.offset, info.size, x) :: rest)
   | none => none
  | _, _ => none
def qJ (size : Nat) : List (Nat × Operand) → List (Nat × Nat × Operand)
 | [] => []
 | (i, x) :: r => (i * size, size, x) :: qJ size r
def comp (o : Op) : Option KOp :=
 match o with
 | .move x => some (.mv x)
 | .assign x => some (.mv x)
 | .pick c a b => some (.pick c a b)
 | .alloc t => bif kj P t then none else (match zZ P t with | some z => some (.alloc z.cells) | none => none)
 | .box _ x => some (.box x)
 | .build t parts =>
  match P.underlying t, zZ P t with
  | some (.struct fs), some z => bif jQ P fs.toList then (match zcd P fs parts.toList with | some l => some (.build z.cells l) | none => none) else none
  | some (.array _ e), some z =>
   match P.info? e with
   | some i => some (.build z.cells (qJ i.size parts.toList))
   | none => none
  | _, _ => none
 | .buildSlice t len parts =>
  match P.underlying t with
  | some (.slice e) =>
   match P.info? e with
   | some i =>
    bif Nat.ble (len * i.size) 16777216 then
     match (bif Nat.beq (len * i.size) 0 then some [] else (zZ P e).map SVal.cells) with
     | some zs => bif Nat.beq (len * i.size) 0 || Nat.beq zs.length i.size then some (.bslice i.size len (repl zs len) (qJ i.size parts.toList)) else none
     | none => none
    else none
   | none => none
  | _ => none
 | .load t x => match xx P t with | some n => some (.load n x) | none => none
 | .store t x v => match P.info? t with | some i => some (.store i.size x v) | none => none
 | .nilCheck x => some (.nilck x)
 | .binOp op t x y _ =>
  match P.underlying t with
  | some (.int _) =>
   match op with
   | .shl => some (.shift true x y)
   | .shr => some (.shift false x y)
   | op => some (.bin op x y)
  | some .string => some (.str op x y)
  | some (.slice _) =>
   match op with
   | .eql => some (.nilS false x y)
   | .neq => some (.nilS true x y)
   | _ => none
  | some (.struct _) =>
   bif P.eqGuardType P.depth t then none else
   match op, keyT P t with
   | .eql, some q => some (.eq q false x y)
   | .neq, some q => some (.eq q true x y)
   | _, _ => none
  | some .bool =>
   bif P.eqGuardType P.depth t then none else
   match op, keyT P t with
   | .eql, some q => some (.eq q false x y)
   | .neq, some q => some (.eq q true x y)
   | _, _ => none
  | _ => none
 | .unOp .not _ x => some (.not x)
 | .unOp .neg _ x => some (.neg x)
 | .convert s d x =>
  match P.underlying s, P.underlying d with
  | some (.int _), some (.int k) => some (.conv k x)
  | some (.slice e), some .string => bif yy P e then some (.b2s x) else none
  | some .string, some (.slice e) => bif yy P e then some (.s2b x) else none
  | _, _ => none
 | .makeFunc (.func f) first captured => bif first.isEmpty then some (.mkfn f captured.toList) else none
 | .makeMap t none =>
  match P.underlying t with
  | some (.map key e) => match zZ P key, zZ P e with | some zk, some ze => some (.mkmap (zs0 zk ze)) | _, _ => none
  | _ => none
 | .makeSlice t l c =>
  match P.underlying t with
  | some (.slice e) =>
   match P.info? e, zZ P e with
   | some i, some z => bif Nat.beq z.cells.length i.size && !Nat.beq i.size 0 then some (.mkslice i.size z.cells i.bytes l c) else none
   | _, _ => none
  | _ => none
 | .slice t x lo hi mx =>
  match P.underlying t with
  | some (.slice e) =>
   match P.info? e with
   | some i => bif mx.isSome && !hi.isSome then none else some (.slice i.size x lo hi mx)
   | none => none
  | some .string => bif mx.isSome then none else some (.sslice x lo hi)
  | _ => none
 | .fieldAddr t x f =>
  match P.underlying t with
  | some (.struct fs) =>
   match fs[f]? with
   | some fd =>
    match P.info? fd.type with
    | some i => bif Nat.beq i.size 0 then none else some (.foff x fd.offset)
    | none => none
   | none => none
  | _ => none
 | .field t x f =>
  match P.underlying t with
  | some (.struct fs) =>
   match fs[f]? with
   | some fd => match xx P fd.type with | some n => some (.field x fd.offset n) | none => none
   | none => none
  | _ => none
 | .indexAddr t x i =>
  match P.underlying t with
  | some (.slice e) =>
   match P.info? e with
   | some info => some (.ixs info.size x i)
   | none => none
  | some (.array len e) =>
   match P.info? e with
   | some info => some (.ixarr len info.size x i)
   | none => none
  | _ => none
 | .index t x i =>
  match P.underlying t with
  | some (.array len e) =>
   match P.info? e, xx P e with
   | some info, some n => some (.ixagg len info.size n x i)
   | _, _ => none
  | some .string => some (.ixstr x i)
  | _ => none
 | .lookup t m k ok =>
  match P.underlying t with
  | some (.map key e) => match keyT P key, zZ P e with | some q, some z => some (.lookup q z ok m k) | _, _ => none
  | _ => none
 | .mapUpdate t m k v =>
  match P.underlying t with
  | some (.map key _) => match keyT P key with | some q => some (.mupd q m k v) | none => none
  | _ => none
 | .extract x i => some (.extract x i)
 | .call c =>
  match c.callee with
  | .value f => bif Nat.beq (jJ P f) 0 then some (.call f c.args.toList) else none
  | .builtin .len =>
   match c.argTypes[0]?, c.args[0]? with
   | some t, some x =>
    match P.underlying t with
    | some .string => some (.lenS x)
    | some (.slice _) => some (.lenL x)
    | some (.map _ _) => some (.lenM x)
    | _ => none
   | _, _ => none
  | .builtin .append =>
   match c.argTypes.toList, c.args.toList with
   | [t, t2], [s, x] =>
    match P.underlying t with
    | some (.slice e) =>
     match P.info? e, zZ P e with
     | some i, some z =>
      bif Nat.beq z.cells.length i.size && !Nat.beq i.size 0 then
       match P.underlying t2 with
       | some (.slice _) => bif yy P e && Nat.beq i.size 1 then none else some (.append i.size i.bytes s x)
       | _ => none
      else none
     | _, _ => none
    | _ => none
   | _, _ => none
  | .builtin .clear =>
   match c.argTypes[0]?, c.args[0]? with
   | some t, some x =>
    match P.underlying t with
    | some (.slice e) =>
     match P.info? e, zZ P e with
     | some i, some z => bif Nat.beq z.cells.length i.size && !Nat.beq i.size 0 then some (.clear i.size z.cells x) else none
     | _, _ => none
    | _ => none
   | _, _ => none
  | .builtin .max =>
   match c.args.toList with
   | x :: xs => some (.minmax true x xs)
   | _ => none
  | .builtin .min =>
   match c.args.toList with
   | x :: xs => some (.minmax false x xs)
   | _ => none
  | _ => none
 | _ => none
end
def kv (r : Fr) : Operand → Option AVal
 | .tmp t => some (r t)
 | .const v => match cVal v with | some s => some (.s s) | none => none
 | .func f => some (.s (.one (.fn f [])))
 | .global g => match kB g with | some _ => some (.s (.one (.gptr g 0))) | none => none
theorem yg (r : Fr) (x : Operand) : coK r x = (kv r x).map zp := by
 cases x with
 | tmp t => rfl
 | const v => simp only [coK, kv]; cases cVal v <;> rfl
 | func f => rfl
 | global g => simp only [coK, kv]; cases kB g <;> rfl
def kvs (r : Fr) : List Operand → Option (List AVal)
 | [] => some []
 | x :: xs =>
  match kv r x, kvs r xs with
  | some y, some ys => some (y :: ys)
  | _, _ => none
theorem uX (r : Fr) : ∀ l : List Operand, jv (coK r) l = (kvs r l).map (·.map zp)
 | [] => rfl
 | x :: l => by
  simp only [jv, kvs, yg, uX r l];cases kv r x <;> cases kvs r l <;> rfl
def kvo (r : Fr) : Option Operand → Option (Option AVal)
 | none => some none
 | some x => match kv r x with | some y => some (some y) | none => none
theorem zhy (r : Fr) (x : Option Operand) : qj (coK r) x = (kvo r x).map (·.map zp) := by
 cases x with
 | none => rfl
 | some x => simp only [qj, kvo, yg]; cases kv r x <;> rfl
def kvp (r : Fr) : List (Nat × Nat × Operand) → Option (List (Nat × Nat × AVal))
 | [] => some []
 | (a, b, x) :: l =>
  match kv r x, kvp r l with
  | some y, some ys => some ((a, b, y) :: ys)
  | _, _ => none
theorem za8 (r : Fr) (n : Nat) : ∀ l : List (Nat × Operand), xG (coK r) n l = (kvp r (qJ n l)).map cP
 | [] => rfl
 | (i, x) :: l => by
  simp only [xG, qJ, kvp, yg, za8 r n l];cases kv r x <;> cases kvp r (qJ n l) <;> rfl
theorem zez (P : Program) (r : Fr) (fs : Array Field) : ∀ (l : List (Nat × Operand)) (q : List (Nat × Nat × Operand)), zcd P fs l = some q → xC P (coK r) fs l = (kvp r q).map cP
 | [], q, h => by cases h; rfl
 | (i, x) :: l, q, h => by
  simp only [zcd] at h;cases hf : fs[i]? with
  | none => rw [hf] at h; cases h
  | some f =>
   cases hl : zcd P fs l with
   | none => rw [hf, hl] at h; cases h
   | some rest =>
    rw [hf, hl] at h;simp only at h;cases hi : P.info? f.type with
    | none => rw [hi] at h; cases h
    | some info =>
     rw [hi] at h;cases h;simp only [xC, kvp, hf, yg, zez P r fs l rest hl];cases kv r x with
     | none => rfl
     | some y =>
      cases kvp r rest with
      | none => rfl
      | some ys => simp only [Option.map_some, hi]; rfl
def zC (x : Option AVal) (k : AVal → Res) : Res := match x with | some v => k v | none => none
noncomputable def runK (r : Fr) (o : KOp) (call : zh) (h : AHeap) : Res :=
 match o with
 | .mv x => zC (kv r x) fun x => some (x, h)
 | .pick c a b => zC (kv r c) fun c => zC (kv r a) fun a => zC (kv r b) fun b => zlv c a b h
 | .alloc zs => zqg zs h
 | .box x => zC (kv r x) fun x => vBox x h
 | .build zs parts => match kvp r parts with | some l => ziP zs l h | none => none
 | .bslice st len zs parts => match kvp r parts with | some l => zoh st len zs l h | none => none
 | .load n x => zC (kv r x) fun x => zly n x h
 | .store n x v => zC (kv r x) fun x => zC (kv r v) fun v => zqe n x v h
 | .nilck x => zC (kv r x) fun x => zgl x h
 | .bin op x y => zC (kv r x) fun x => zC (kv r y) fun y => vInt (wQ op) x y h
 | .shift l x y => zC (kv r x) fun x => zC (kv r y) fun y => zgk (bif l then zdg else zdf) x y h
 | .str op x y => zC (kv r x) fun x => zC (kv r y) fun y => vStr op x y h
 | .nilS n x y => zC (kv r x) fun x => zC (kv r y) fun y => ziN n x y h
 | .eq q n x y => zC (kv r x) fun x => zC (kv r y) fun y => vEq q n x y h
 | .not x => zC (kv r x) fun x => vNot x h
 | .neg x => zC (kv r x) fun x => vNeg x h
 | .conv k x => zC (kv r x) fun x => zlB k x h
 | .b2s x => zC (kv r x) fun x => j8 (zp x) yc .nil h
 | .s2b x => zC (kv r x) fun x => zib (zp x) yc .nil h
 | .mkfn f caps => match kvs r caps with | some l => zlx f l h | none => none
 | .mkmap _ => zqf h
 | .mkslice st zs bytes l c => zC (kv r l) fun l => zC (kv r c) fun c => zlw st zs bytes l c h
 | .slice st x lo hi mx => zC (kv r x) fun x => match kvo r lo, kvo r hi, kvo r mx with | some lo, some hi, some mx => ul st x lo hi mx h | _, _, _ => none
 | .sslice x lo hi => zC (kv r x) fun x => match kvo r lo, kvo r hi with | some lo, some hi => zcs x lo hi h | _, _ => none
 | .foff x off => zC (kv r x) fun x => zlA x off h
 | .field x off n => zC (kv r x) fun x => zgp x off n h
 | .ixs st x i => zC (kv r x) fun x => zC (kv r i) fun i => vIxs st x i h
 | .ixarr len st x i => zC (kv r x) fun x => zC (kv r i) fun i => zgn len st x i h
 | .ixagg len st n x i => zC (kv r x) fun x => zC (kv r i) fun i => zgo len st n x i h
 | .ixstr x i => zC (kv r x) fun x => zC (kv r i) fun i => zgm x i h
 | .lookup q z ok m k => zC (kv r m) fun m => zC (kv r k) fun k => zog q z ok m k h
 | .mupd q m k v => zC (kv r m) fun m => zC (kv r k) fun k => zC (kv r v) fun v => zsv q m k v h
 | .extract x i => zC (kv r x) fun x => qV x i h
 | .lenS x => zC (kv r x) fun x => zlz x h
 | .lenL x => zC (kv r x) fun x => ziO x h
 | .lenM x => zC (kv r x) fun x => zsw x h
 | .append st bytes s x => zC (kv r s) fun s => zC (kv r x) fun x => zoi false st bytes s x h
 | .minmax m x xs => zC (kv r x) fun x => match kvs r xs with | some l => zct m x l h | none => none
 | .clear st zs x => zC (kv r x) fun x => znd st zs x h
 | .call f args => zC (kv r f) fun f => match kvs r args with | some l => zsy call f l h | none => none
theorem zb5 (P : Program) (r : Fr) {o : Op} {ko : KOp} (call : zh) (h : AHeap) (e : comp P o = some ko) : cOpG P (coK r) o call .nil h = runK r ko call h := by
 unfold comp at e;cases o with
 | move x => cases e; simp only [cOpG, yg, runK]; cases kv r x <;> rfl
 | assign x => cases e; simp only [cOpG, yg, runK]; cases kv r x <;> rfl
 | pick c a b => cases e; simp only [cOpG, yg, runK]; cases kv r c <;> cases kv r a <;> cases kv r b <;> rfl
 | alloc t =>
  simp only at e;cases hb : kj P t with
  | true => rw [hb] at e; cases e
  | false =>
   cases hz : zZ P t with
   | none => rw [hb, hz] at e; cases e
   | some z => rw [hb, hz] at e; cases e; simp only [cOpG, hb, hz, runK]; rfl
 | box t x => cases e; simp only [cOpG, yg, runK]; cases kv r x <;> rfl
 | build t parts =>
  simp only at e;split at e
  ·rename_i fs z hu hz;cases ha : jQ P fs.toList with
   | false => rw [ha] at e; cases e
   | true =>
    rw [ha] at e;cases hf : zcd P fs parts.toList with
    | none => rw [hf] at e; cases e
    | some l =>
     rw [hf] at e;cases e;simp only [cOpG, hu, hz, ha, cond_true, zez P r fs _ _ hf, runK];cases kvp r l <;> rfl
  ·rename_i n e' z hu hz;split at e
   ·rename_i i hi;cases e;simp only [cOpG, hu, hz, hi, za8, runK];cases kvp r (qJ i.size parts.toList) <;> rfl
   ·cases e
  ·cases e
 | buildSlice t len parts =>
  simp only at e;split at e
  ·rename_i e' hu;split at e
   ·rename_i i hi;cases hl : Nat.ble (len * i.size) 16777216 with
    | false => rw [hl] at e; cases e
    | true =>
     rw [hl] at e;simp only [cond_true] at e;split at e
     ·rename_i zs hzs;cases hc : (Nat.beq (len * i.size) 0 || Nat.beq zs.length i.size) with
      | false => rw [hc] at e; cases e
      | true =>
       rw [hc] at e;cases e;simp only [cOpG, hu, hi, hl, cond_true, hzs, hc, za8, runK];cases kvp r (qJ i.size parts.toList) <;> rfl
     ·cases e
   ·cases e
  ·cases e
 | load t x =>
  simp only at e;cases hs : xx P t with
  | none => rw [hs] at e; cases e
  | some n => rw [hs] at e; cases e; simp only [cOpG, hs, yg, runK]; cases kv r x <;> rfl
 | store t x v =>
  simp only at e;cases hs : P.info? t with
  | none => rw [hs] at e; cases e
  | some i => rw [hs] at e; cases e; simp only [cOpG, hs, yg, runK]; cases kv r x <;> cases kv r v <;> rfl
 | nilCheck x => cases e; simp only [cOpG, yg, runK]; cases kv r x <;> rfl
 | binOp op t x y p =>
  simp only at e;split at e
  ·rename_i hu;simp only [cOpG, hu];split at e <;> cases e <;> simp only [yg, runK] <;> cases kv r x <;> cases kv r y <;> rfl
  ·rename_i hu;cases e; simp only [cOpG, hu, yg, runK]; cases kv r x <;> cases kv r y <;> rfl
  ·rename_i hu;simp only [cOpG, hu];split at e <;> cases e <;> simp only [yg, runK] <;> cases kv r x <;> cases kv r y <;> rfl
  ·rename_i fs hu;cases hg : P.eqGuardType P.depth t with
   | true => rw [hg] at e; cases e
   | false =>
    rw [hg] at e;simp only [cond_false] at e;split at e
    ·rename_i q hk;cases e; simp only [cOpG, hu, hg, cond_false, hk, yg, runK]; cases kv r x <;> cases kv r y <;> rfl
    ·rename_i q hk;cases e; simp only [cOpG, hu, hg, cond_false, hk, yg, runK]; cases kv r x <;> cases kv r y <;> rfl
    ·cases e
  ·rename_i hu;cases hg : P.eqGuardType P.depth t with
   | true => rw [hg] at e; cases e
   | false =>
    rw [hg] at e;simp only [cond_false] at e;split at e
    ·rename_i q hk;cases e; simp only [cOpG, hu, hg, cond_false, hk, yg, runK]; cases kv r x <;> cases kv r y <;> rfl
    ·rename_i q hk;cases e; simp only [cOpG, hu, hg, cond_false, hk, yg, runK]; cases kv r x <;> cases kv r y <;> rfl
    ·cases e
  ·cases e
 | unOp u t x =>
  cases u <;> first | cases e | skip
  ·simp only [cOpG, yg, runK]; cases kv r x <;> rfl
  ·simp only [cOpG, yg, runK]; cases kv r x <;> rfl
 | convert s d x =>
  simp only at e;split at e
  ·rename_i k hs hd;cases e; simp only [cOpG, hs, hd, yg, runK]; cases kv r x <;> rfl
  ·rename_i el hs hd;cases hb : yy P el with
   | false => rw [hb] at e; cases e
   | true => rw [hb] at e; cases e; simp only [cOpG, hs, hd, hb, cond_true, yg, runK]; cases kv r x <;> rfl
  ·rename_i el hs hd;cases hb : yy P el with
   | false => rw [hb] at e; cases e
   | true => rw [hb] at e; cases e; simp only [cOpG, hs, hd, hb, cond_true, yg, runK]; cases kv r x <;> rfl
  ·cases e
 | makeFunc f first captured =>
  cases f with
  | func f =>
   simp only at e;cases hf : first.isEmpty with
   | false => rw [hf] at e; cases e
   | true => rw [hf] at e; cases e; simp only [cOpG, hf, cond_true, uX, runK]; cases kvs r captured.toList <;> rfl
  | _ => cases e
 | makeMap t n =>
  cases n with
  | none =>
   simp only at e;split at e
   ·split at e
    ·cases e; rfl
    ·cases e
   ·cases e
  | some n => cases e
 | makeSlice t l c =>
  simp only at e;split at e
  ·rename_i el hu;split at e
   ·rename_i i z hi hz;cases hc : (Nat.beq z.cells.length i.size && !Nat.beq i.size 0) with
    | false => rw [hc] at e; cases e
    | true => rw [hc] at e; cases e; simp only [cOpG, hu, hi, hz, hc, cond_true, yg, runK]; cases kv r l <;> cases kv r c <;> rfl
   ·cases e
  ·cases e
 | slice t x lo hi mx =>
  simp only at e;split at e
  ·rename_i el hu;split at e
   ·rename_i i hi';cases hc : (mx.isSome && !hi.isSome) with
    | true => rw [hc] at e; cases e
    | false => rw [hc] at e; cases e; simp only [cOpG, hu, hi', hc, cond_false, yg, zhy, runK]; cases kv r x <;> rcases kvo r lo with _ | (_ | _) <;> rcases kvo r hi with _ | (_ | _) <;> rcases kvo r mx with _ | (_ | _) <;> rfl
   ·cases e
  ·rename_i hu;cases hc : mx.isSome with
   | true => rw [hc] at e; cases e
   | false => rw [hc] at e; cases e; simp only [cOpG, hu, hc, cond_false, yg, zhy, runK]; cases kv r x <;> rcases kvo r lo with _ | (_ | _) <;> rcases kvo r hi with _ | (_ | _) <;> rfl
  ·cases e
 | fieldAddr t x f =>
  simp only at e;split at e
  ·rename_i fs hu;split at e
   ·rename_i fd hf;split at e
    ·rename_i i hi;cases hc : Nat.beq i.size 0 with
     | true => rw [hc] at e; cases e
     | false => rw [hc] at e; cases e; simp only [cOpG, hu, hf, hi, hc, cond_false, yg, runK]; cases kv r x <;> rfl
    ·cases e
   ·cases e
  ·cases e
 | field t x f =>
  simp only at e;split at e
  ·rename_i fs hu;split at e
   ·rename_i fd hf;split at e
    ·rename_i n hn;cases e; simp only [cOpG, hu, hf, hn, yg, runK]; cases kv r x <;> rfl
    ·cases e
   ·cases e
  ·cases e
 | indexAddr t x i =>
  simp only at e;split at e
  ·rename_i el hu;split at e
   ·rename_i info hi;cases e; simp only [cOpG, hu, hi, yg, runK]; cases kv r x <;> cases kv r i <;> rfl
   ·cases e
  ·rename_i len el hu;split at e
   ·rename_i info hi;cases e; simp only [cOpG, hu, hi, yg, runK]; cases kv r x <;> cases kv r i <;> rfl
   ·cases e
  ·cases e
 | index t x i =>
  simp only at e;split at e
  ·rename_i len el hu;split at e
   ·rename_i info n hi hn;cases e; simp only [cOpG, hu, hi, hn, yg, runK]; cases kv r x <;> cases kv r i <;> rfl
   ·cases e
  ·rename_i hu;cases e; simp only [cOpG, hu, yg, runK]; cases kv r x <;> cases kv r i <;> rfl
  ·cases e
 | lookup t m k ok =>
  simp only at e;split at e
  ·rename_i key el hu;split at e
   ·rename_i q z hq hz;cases e; simp only [cOpG, hu, hq, hz, yg, runK]; cases kv r m <;> cases kv r k <;> rfl
   ·cases e
  ·cases e
 | mapUpdate t m k v =>
  simp only at e;split at e
  ·rename_i key el hu;split at e
   ·rename_i q hq;cases e; simp only [cOpG, hu, hq, yg, runK]; cases kv r m <;> cases kv r k <;> cases kv r v <;> rfl
   ·cases e
  ·cases e
 | extract x i => cases e; simp only [cOpG, yg, runK]; cases kv r x <;> rfl
 | call c =>
  simp only at e;split at e
  ·rename_i f hc;cases hx : Nat.beq (jJ P f) 0 with
   | false => rw [hx] at e; cases e
   | true =>
    rw [hx] at e; cases e;simp only [cOpG, hc, hx, cond_true, yg, uX, runK];cases kv r f <;> cases kvs r c.args.toList <;> rfl
  ·rename_i hc;split at e
   ·rename_i t x ht hx;simp only [cOpG, hc, ht, hx];split at e
    ·rename_i hu; cases e; simp only [hu, yg, runK]; cases kv r x <;> rfl
    ·rename_i el hu; cases e; simp only [hu, yg, runK]; cases kv r x <;> rfl
    ·rename_i k el hu; cases e; simp only [hu, yg, runK]; cases kv r x <;> rfl
    ·cases e
   ·cases e
  ·rename_i hc;split at e
   ·rename_i t t2 s x ht hx;simp only [cOpG, hc, ht, hx];split at e
    ·rename_i el hu;split at e
     ·rename_i i z hi hz;cases hb : (Nat.beq z.cells.length i.size && !Nat.beq i.size 0) with
      | false => rw [hb] at e; cases e
      | true =>
       rw [hb] at e;simp only [cond_true] at e;split at e
       ·rename_i e2 hu2;cases hB : (yy P el && Nat.beq i.size 1) with
        | true => rw [hB] at e; cases e
        | false =>
         rw [hB] at e;cases e;simp only [hu, hi, hz, hb, cond_true, hu2, hB, cond_false, yg, runK]; cases kv r s <;> cases kv r x <;> rfl
       ·cases e
     ·cases e
    ·cases e
   ·cases e
  ·rename_i hc;split at e
   ·rename_i t x ht hx;simp only [cOpG, hc, ht, hx];split at e
    ·rename_i el hu;split at e
     ·rename_i i z hi hz;cases hb : (Nat.beq z.cells.length i.size && !Nat.beq i.size 0) with
      | false => rw [hb] at e; cases e
      | true => rw [hb] at e; cases e; simp only [hu, hi, hz, hb, cond_true, yg, runK]; cases kv r x <;> rfl
     ·cases e
    ·cases e
   ·cases e
  ·rename_i hc;split at e
   ·rename_i x xs hx;cases e;simp only [cOpG, hc, hx, uX, kvs, runK];cases kv r x <;> cases kvs r xs <;> rfl
   ·cases e
  ·rename_i hc;split at e
   ·rename_i x xs hx;cases e;simp only [cOpG, hc, hx, uX, kvs, runK];cases kv r x <;> cases kvs r xs <;> rfl
   ·cases e
  ·cases e
 | _ => cases e
end Go.PE
end
section
namespace Go.PE
open Go Go.CE
inductive PC where
 | d (v : DV)
 | own (k : Nat)
 | ptr (k off : Nat)
 | ep (k st i off : Nat)
 | ip (k off len st i o : Nat)
 | vw (k st lo len : Nat)
 | clo (f : Nat) (caps : List (Nat ⊕ List DV))
inductive PV where
 | one (c : PC)
 | agg (cs : List PC)
inductive PA where
 | s (v : PV)
 | tup (l : List DS)
 | bad
 | undef
def PV.cells : PV → List PC
 | .one c => [c]
 | .agg cs => cs
abbrev OC := Option (List (List DV))
def mkL (st : Nat) : OC → DV
 | none => .nils
 | some xs => .lst st xs
inductive PO where
 | box (cs : List PC)
 | arr (st : Nat) (v : OC)
 | frz (v : DV)
 | fbox (ds : List DV)
 | mp (st : Nat) (xs : List (List DV))
 | dead
def og : List PO → Nat → PO
 | [], _ => .dead
 | o :: l, k => bif Nat.beq k 0 then o else og l (Nat.sub k 1)
def oset (o : PO) : List PO → Nat → List PO
 | [], _ => []
 | x :: l, k => bif Nat.beq k 0 then o :: l else x :: oset o l (Nat.sub k 1)
theorem kP (k : Nat) : Nat.beq (k + 1) 0 = false := rfl
theorem zcV : ∀ (l : List PO) (k : Nat), og l k = (l[k]?).getD .dead
 | [], k => by simp [og]
 | o :: l, 0 => by simp [og]
 | o :: l, k + 1 => by
  have := zcV l k;simp only [og, kP, cond_false, List.getElem?_cons_succ];exact this
theorem yE (o : PO) : ∀ (l : List PO) (k : Nat), (oset o l k).length = l.length
 | [], k => rfl
 | x :: l, 0 => rfl
 | x :: l, k + 1 => by
  have := yE o l k;show ((x :: oset o l k)).length = _;simp [this]
theorem yu (o : PO) : ∀ (l : List PO) (k j : Nat), og (oset o l k) j = if j = k ∧ k < l.length then o else og l j
 | [], k, j => by simp [oset, og]
 | x :: l, 0, j => by
  cases j with
  | zero => simp [oset, og]
  | succ j => simp [oset, og, kP]
 | x :: l, k + 1, j => by
  show og (x :: oset o l k) j = _;cases j with
  | zero => simp [og]
  | succ j =>
   have := yu o l k j;show og (oset o l k) j = _;rw [this];show _ = if j + 1 = k + 1 ∧ k + 1 < (x :: l).length then o else og l j
   simp
theorem zd5 : ∀ (l : List PO) (k : Nat), oset (og l k) l k = l
 | [], _ => rfl
 | x :: l, 0 => rfl
 | x :: l, k + 1 => by
  show x :: oset (og l k) l k = _;rw [zd5 l k]
theorem wm (l : List PO) (o : PO) (j : Nat) : og (l ++ [o]) j = if j = l.length then o else og l j := by
 rw [zcV, zcV];by_cases h : j < l.length
 ·rw [Lz2 h, if_neg (by omega)]
 ·rw [Lz8 (by omega)]
  by_cases h2 : j = l.length
  ·subst h2; simp
  ·rw [if_neg h2];have h3 : j - l.length ≠ 0 := by omega
   obtain ⟨m, hm⟩ := Nat.exists_eq_succ_of_ne_zero h3;rw [hm];simp;rw [List.getElem?_eq_none (by omega)]
   rfl
theorem zd9 {l : List PO} {k : Nat} (h : og l k ≠ .dead) : k < l.length := by
 rw [zcV] at h;by_cases hk : k < l.length
 ·exact hk
 ·exact absurd (by rw [List.getElem?_eq_none (by omega)]; rfl) h
def blk : CVal → Option BN
 | .ptr b _ => some b
 | .slc b _ _ _ _ => some b
 | .map b => some b
 | _ => none
def shN (n : Nat) : Option Nat := match n with | 0 => none | n + 1 => some n
def shK (st : Nat) : Option Nat := shN (Nat.mod (Nat.div st 1024) 1024)
def shV (st : Nat) : Option Nat := shN (Nat.mod st 1024)
def zqo : Option Nat → Nat
 | none => 1
 | some n => n
def atD : List DV → Nat → DV
 | [], _ => .u
 | d :: l, i => bif Nat.beq i 0 then d else atD l (Nat.sub i 1)
def exp (x : List DV) : Nat → Nat → List DV
 | 0, _ => []
 | n + 1, i => atD x i :: exp x n (Nat.succ i)
def shD (sh : Option Nat) (x : List DV) (i : Nat) : DS :=
 match sh with
 | none => .one (atD x i)
 | some n => .agg (exp x n i)
def kD (st : Nat) (x : List DV) : DS := shD (shK st) x 0
def vD (st : Nat) (x : List DV) : DS := shD (shV st) x (zqo (shK st))
structure Nm where
 μ : Nat → CVal
 n : Nat
 fz : BN → Prop
 h : AHeap
def RepCap (N : Nm) : BN × Nat → Nat ⊕ List DV → Prop
 | p, .inl k => k < N.n ∧ N.μ k = .ptr p.1 0 ∧ p.2 = 0
 | p, .inr xs => Rep N.fz N.h (.ptr p.1 p.2) (.fp xs 0)
def RepCaps (N : Nm) : List (BN × Nat) → List (Nat ⊕ List DV) → Prop
 | [], [] => True
 | p :: ps, x :: xs => RepCap N p x ∧ RepCaps N ps xs
 | _, _ => False
def RepPC (N : Nm) (c : CVal) : PC → Prop
 | .d v => Rep N.fz N.h c v
 | .own k => k < N.n ∧ c = N.μ k
 | .ptr k off => k < N.n ∧ ∃ b, N.μ k = .ptr b 0 ∧ c = .ptr b off
 | .ep k st i off => k < N.n ∧ ∃ b l cap ex, N.μ k = .slc b 0 l cap ex ∧ c = .ptr b (i * st + off) ∧ i < l
 | .ip k off len st i o => k < N.n ∧ ∃ b, N.μ k = .ptr b 0 ∧ c = .ptr b (off + i * st + o) ∧ i < len
 | .vw k st lo len => k < N.n ∧ ((N.μ k = .nils ∧ c = .nils ∧ lo = 0 ∧ len = 0) ∨ ∃ b l cap ex cap' ex', N.μ k = .slc b 0 l cap ex ∧ c = .slc b (lo * st) len cap' ex' ∧ lo + len ≤ l ∧ (ex' = true → len ≤ cap'))
 | .clo f caps => ∃ ps, c = .fn f ps ∧ RepCaps N ps caps
def RepPL (N : Nm) : List CVal → List PC → Prop
 | [], [] => True
 | c :: cs, p :: ps => RepPC N c p ∧ RepPL N cs ps
 | _, _ => False
def RepPV (N : Nm) : SVal → PV → Prop
 | .one c, .one p => RepPC N c p
 | .agg cs, .agg ps => RepPL N cs ps
 | _, _ => False
def RepPA (N : Nm) : AVal → PA → Prop
 | _, .bad => True
 | v, .undef => v = zX
 | .s v, .s p => RepPV N v p
 | .tup l, .tup ds => RepSL N.fz N.h l ds
 | _, _ => False
theorem RepPA.bad {N : Nm} (v : AVal) : RepPA N v .bad := by cases v <;> trivial
theorem RepPA.of {N : Nm} {v : SVal} {p : PV} (H : RepPV N v p) : RepPA N (.s v) (.s p) := H
theorem RepPA.inv {N : Nm} {v : AVal} {p : PV} (H : RepPA N v (.s p)) : ∃ w, v = .s w ∧ RepPV N w p := by
 cases v with
 | s v => exact ⟨_, rfl, H⟩
 | tup l => exact H.elim
def RepO (N : Nm) (k : Nat) : PO → Prop
 | .box cs => ∃ b vs, N.μ k = .ptr b 0 ∧ ¬ N.fz b ∧ N.h.t.get b = some (.cells vs 0) ∧ RepPL N vs cs
 | .arr _ none => N.μ k = .nils
 | .arr st (some xs) => ∃ b vs ex, N.μ k = .slc b 0 xs.length (bif ex then xs.length else 0) ex ∧ ¬ N.fz b ∧ N.h.t.get b = some (.cells vs st) ∧ vs.length = xs.length * st ∧
   ∀ (i : Nat) (x : List DV), xs[i]? = some x → x.length = st ∧ RepL N.fz N.h ((vs.drop (i * st)).take st) x
 | .frz v => Rep N.fz N.h (N.μ k) v
 | .fbox ds => ∃ b, N.μ k = .ptr b 0 ∧ Rep N.fz N.h (.ptr b 0) (.fp ds 0)
 | .mp st xs => ∃ b es, N.μ k = .map b ∧ ¬ N.fz b ∧ N.h.t.get b = some (.map es) ∧ es.length = xs.length ∧
   ∀ (i : Nat) (e : SVal × SVal) (x : List DV), es[i]? = some e → xs[i]? = some x → RepS N.fz N.h e.1 (kD st x) ∧ RepS N.fz N.h e.2 (vD st x)
 | .dead => True
def live : PO → Prop
 | .box _ => True
 | .arr _ (some _) => True
 | .mp _ _ => True
 | _ => False
structure Nx (N N' : Nm) : Prop where
 fg : FG N.fz N.h N'.fz N'.h
 le : N.n ≤ N'.n
 mu : ∀ k, k < N.n → N'.μ k = N.μ k
theorem Nx.refl (N : Nm) : Nx N N := ⟨FG.refl _ _, LzB _, fun _ _ => rfl⟩
theorem Nx.trans {A B C : Nm} (a : Nx A B) (b : Nx B C) : Nx A C := ⟨a.fg.trans b.fg, Nat.le_trans a.le b.le, fun k hk => (b.mu k (Lz9 hk a.le)).trans (a.mu k hk)⟩
section
variable {N N' : Nm} (g : Nx N N')
include g
theorem RepCap.mono {p : BN × Nat} {x : Nat ⊕ List DV} (H : RepCap N p x) : RepCap N' p x := by
 cases x with
 | inl k => exact ⟨Lz9 H.1 g.le, (g.mu k H.1).trans H.2.1, H.2.2⟩
 | inr xs => exact Rep.mono g.fg H
theorem RepCaps.mono : ∀ {ps : List (BN × Nat)} {xs : List (Nat ⊕ List DV)}, RepCaps N ps xs → RepCaps N' ps xs
 | [], [], _ => trivial
 | _ :: _, _ :: _, H => ⟨RepCap.mono g H.1, RepCaps.mono H.2⟩
 | [], _ :: _, H => H.elim
 | _ :: _, [], H => H.elim
theorem RepPC.mono {c : CVal} {p : PC} (H : RepPC N c p) : RepPC N' c p := by
 cases p with
 | d v => exact Rep.mono g.fg H
 | own k => exact ⟨Lz9 H.1 g.le, H.2.trans (g.mu k H.1).symm⟩
 | ptr k off => obtain ⟨h1, b, h2, h3⟩ := H; exact ⟨Lz9 h1 g.le, b, (g.mu k h1).trans h2, h3⟩
 | ep k st i off => obtain ⟨h1, b, l, cap, ex, h2, h3, h4⟩ := H; exact ⟨Lz9 h1 g.le, b, l, cap, ex, (g.mu k h1).trans h2, h3, h4⟩
 | ip k off len st i o => obtain ⟨h1, b, h2, h3, h4⟩ := H; exact ⟨Lz9 h1 g.le, b, (g.mu k h1).trans h2, h3, h4⟩
 | vw k st lo len => obtain ⟨h1, h⟩ := H; exact ⟨Lz9 h1 g.le, by rw [g.mu k h1]; exact h⟩
 | clo f caps => obtain ⟨ps, h1, h2⟩ := H; exact ⟨ps, h1, RepCaps.mono g h2⟩
theorem RepPL.mono : ∀ {cs : List CVal} {ps : List PC}, RepPL N cs ps → RepPL N' cs ps
 | [], [], _ => trivial
 | _ :: _, _ :: _, H => ⟨RepPC.mono g H.1, RepPL.mono H.2⟩
 | [], _ :: _, H => H.elim
 | _ :: _, [], H => H.elim
theorem RepPV.mono {v : SVal} {p : PV} (H : RepPV N v p) : RepPV N' v p := by
 cases v <;> cases p <;> simp only [RepPV] at H ⊢
 ·exact RepPC.mono g H
 ·exact RepPL.mono g H
theorem RepPA.mono {v : AVal} {p : PA} (H : RepPA N v p) : RepPA N' v p := by
 cases p with
 | bad => exact .bad v
 | undef => cases v <;> exact H
 | s p =>
  obtain ⟨w, rfl, h⟩ := H.inv;exact .of (RepPV.mono g h)
 | tup ds =>
  cases v with
  | s v => exact H.elim
  | tup l => exact RepSL.mono g.fg H
end
theorem RepPL.len {N : Nm} : ∀ {cs : List CVal} {ps : List PC}, RepPL N cs ps → cs.length = ps.length
 | [], [], _ => rfl
 | _ :: _, _ :: _, H => by simp [RepPL.len H.2]
 | [], _ :: _, H => H.elim
 | _ :: _, [], H => H.elim
theorem RepPL.get {N : Nm} : ∀ {cs : List CVal} {ps : List PC}, RepPL N cs ps → ∀ {j : Nat} {c : CVal} {p : PC}, cs[j]? = some c → ps[j]? = some p → RepPC N c p
 | [], [], _, j, c, p, hc, _ => by simp at hc
 | c0 :: cs, p0 :: ps, H, j, c, p, hc, hp => by
  cases j with
  | zero => simp only [List.getElem?_cons_zero, Option.some.injEq] at hc hp; subst hc; subst hp; exact H.1
  | succ j => exact RepPL.get H.2 (j := j) (by simpa using hc) (by simpa using hp)
 | [], _ :: _, H, _, _, _, _, _ => H.elim
 | _ :: _, [], H, _, _, _, _, _ => H.elim
theorem RepPL.of {N : Nm} : ∀ {cs : List CVal} {ps : List PC}, cs.length = ps.length → (∀ (j : Nat) (c : CVal) (p : PC), cs[j]? = some c → ps[j]? = some p → RepPC N c p) → RepPL N cs ps
 | [], [], _, _ => trivial
 | c :: cs, p :: ps, hl, H => ⟨H 0 c p rfl rfl, RepPL.of (by simpa using hl) fun j c p hc hp => H (j + 1) c p (by simpa using hc) (by simpa using hp)⟩
 | [], _ :: _, hl, _ => by simp at hl
 | _ :: _, [], hl, _ => by simp at hl
theorem RepPL.app {N : Nm} : ∀ {cs cs' : List CVal} {ps ps' : List PC}, RepPL N cs ps → RepPL N cs' ps' → RepPL N (cs ++ cs') (ps ++ ps')
 | [], _, [], _, _, H => H
 | _ :: _, _, _ :: _, _, H, K => ⟨H.1, RepPL.app H.2 K⟩
 | [], _, _ :: _, _, H, _ => H.elim
 | _ :: _, _, [], _, H, _ => H.elim
theorem RepPL.take {N : Nm} : ∀ {cs : List CVal} {ps : List PC} (n : Nat), RepPL N cs ps → RepPL N (cs.take n) (ps.take n)
 | _, _, 0, _ => by simp [RepPL]
 | [], [], n + 1, _ => by simp [RepPL]
 | _ :: _, _ :: _, n + 1, H => ⟨H.1, RepPL.take n H.2⟩
 | [], _ :: _, _ + 1, H => H.elim
 | _ :: _, [], _ + 1, H => H.elim
theorem RepPL.drop {N : Nm} : ∀ {cs : List CVal} {ps : List PC} (n : Nat), RepPL N cs ps → RepPL N (cs.drop n) (ps.drop n)
 | _, _, 0, H => H
 | [], [], n + 1, _ => by simp [RepPL]
 | _ :: _, _ :: _, n + 1, H => RepPL.drop n H.2
 | [], _ :: _, _ + 1, H => H.elim
 | _ :: _, [], _ + 1, H => H.elim
theorem RepPL.ofD {N : Nm} {cs : List CVal} {ds : List DV} (H : RepL N.fz N.h cs ds) : RepPL N cs (ds.map .d) :=
 RepPL.of (by simp [H.1]) fun j c p hc hp => by
  simp only [Lz6, Option.map_eq_some_iff] at hp;obtain ⟨d, hd, rfl⟩ := hp;exact H.2 j c d hc hd
structure En where
 h0 : AHeap
 ok : BN → Prop
structure InvO (E : En) (N : Nm) (os : List PO) : Prop where
 hw : HW N.h
 gr : Gr E.h0 N.h
 fzlt : ∀ b, N.fz b → b.toNat < N.h.n.toNat
 fzok : ∀ b, N.fz b → E.ok b ∨ E.h0.n.toNat ≤ b.toNat
 fzex : ∀ b, N.fz b → b.toNat < E.h0.n.toNat ∨ ∃ y, N.h.t.get b = some y
 len : N.n = os.length
 own : ∀ k b, live (og os k) → blk (N.μ k) = some b → E.h0.n.toNat ≤ b.toNat
 inj : ∀ k k' b, live (og os k) → live (og os k') → blk (N.μ k) = some b → blk (N.μ k') = some b → k = k'
 obj : ∀ k, RepO N k (og os k)
theorem yw {N : Nm} {k : Nat} {o : PO} (hl : live o) (H : RepO N k o) : ∃ b x, blk (N.μ k) = some b ∧ ¬ N.fz b ∧ N.h.t.get b = some x := by
 cases o with
 | box cs => obtain ⟨b, vs, h1, h2, h3, _⟩ := H; exact ⟨b, _, by rw [h1]; rfl, h2, h3⟩
 | arr st v =>
  cases v with
  | none => exact hl.elim
  | some xs => obtain ⟨b, vs, ex, h1, h2, h3, _⟩ := H; exact ⟨b, _, by rw [h1]; rfl, h2, h3⟩
 | mp st xs => obtain ⟨b, es, h1, h2, h3, _⟩ := H; exact ⟨b, _, by rw [h1]; rfl, h2, h3⟩
 | _ => exact hl.elim
theorem RepO.mono {N N' : Nm} {k : Nat} {o : PO} (g : Nx N N') (hk : N'.μ k = N.μ k) (hb : live o → ∀ b, blk (N.μ k) = some b → ¬ N'.fz b ∧ N'.h.t.get b = N.h.t.get b) (H : RepO N k o) : RepO N' k o := by
 cases o with
 | box cs =>
  obtain ⟨b, vs, h1, h2, h3, h4⟩ := H;obtain ⟨k1, k2⟩ := hb trivial b (by rw [h1]; rfl)
  exact ⟨b, vs, hk.trans h1, k1, k2.trans h3, h4.mono g⟩
 | arr st v =>
  cases v with
  | none => exact hk.trans H
  | some xs =>
   obtain ⟨b, vs, ex, h1, h2, h3, h4, h5⟩ := H;obtain ⟨k1, k2⟩ := hb trivial b (by rw [h1]; rfl)
   exact ⟨b, vs, ex, hk.trans h1, k1, k2.trans h3, h4, fun i x hx => ⟨(h5 i x hx).1, (h5 i x hx).2.mono g.fg⟩⟩
 | frz v => show Rep _ _ _ _; rw [hk]; exact Rep.mono g.fg H
 | fbox ds => obtain ⟨b, h1, h2⟩ := H; exact ⟨b, hk.trans h1, h2.mono g.fg⟩
 | mp st xs =>
  obtain ⟨b, es, h1, h2, h3, h4, h5⟩ := H;obtain ⟨k1, k2⟩ := hb trivial b (by rw [h1]; rfl)
  exact ⟨b, es, hk.trans h1, k1, k2.trans h3, h4, fun i e x he hx => ⟨(h5 i e x he hx).1.mono g.fg, (h5 i e x he hx).2.mono g.fg⟩⟩
 | dead => trivial
def upd (μ : Nat → CVal) (k : Nat) (c : CVal) : Nat → CVal := fun j => if j = k then c else μ j
theorem InvO.new {E : En} {N : Nm} {os : List PO} (I : InvO E N os) (x : AObj) (o : PO) (c : CVal) (hc : blk c = some N.h.n)
  (ho : RepO ⟨upd N.μ os.length c, os.length + 1, N.fz, N.h.new x⟩ os.length o) :
  InvO E ⟨upd N.μ os.length c, os.length + 1, N.fz, N.h.new x⟩ (os ++ [o]) ∧ Nx N ⟨upd N.μ os.length c, os.length + 1, N.fz, N.h.new x⟩ ∧
   (∀ b y, N.h.t.get b = some y → (N.h.new x).t.get b = some y) := by
 have G := Gr.new N.h x;have old : ∀ b y, N.h.t.get b = some y → (N.h.new x).t.get b = some y := fun b y hy => G.get I.hw hy
 have nx : Nx N ⟨upd N.μ os.length c, os.length + 1, N.fz, N.h.new x⟩ := ⟨⟨fun _ _ h _ => h, fun b y _ hy => old b y hy⟩, by have := I.len; show N.n ≤ os.length + 1; omega, fun k hk => by
  have := I.len;show (if k = os.length then c else N.μ k) = _
  rw [if_neg (by omega)]⟩
 have mu : ∀ k, k ≠ os.length → upd N.μ os.length c k = N.μ k := fun k hk => by show (if k = os.length then c else N.μ k) = _; rw [if_neg hk]
 have muL : upd N.μ os.length c os.length = c := by show (if os.length = os.length then c else _) = _; rw [if_pos rfl]
 have lt : ∀ k b, live (og os k) → blk (N.μ k) = some b → b.toNat < N.h.n.toNat := fun k b hl hb => by
  obtain ⟨b', x', h1, _, h3⟩ := yw hl (I.obj k);rw [h1] at hb; cases hb;exact I.hw _ _ h3
 refine ⟨⟨I.hw.new x, I.gr.trans G, fun b hb => Lz9 (I.fzlt b hb) G.le, I.fzok, fun b hb => (I.fzex b hb).imp id fun ⟨y, hy⟩ => ⟨y, old b y hy⟩, by simp, ?_, ?_, ?_⟩, nx, old⟩
 ·intro k b hl hb;rw [wm] at hl;by_cases hk : k = os.length
  ·subst hk;rw [show (Nm.mk (upd N.μ os.length c) (os.length + 1) N.fz (N.h.new x)).μ os.length = c from muL, hc] at hb
   cases hb;exact I.gr.le
  ·rw [if_neg hk] at hl;rw [show (Nm.mk (upd N.μ os.length c) (os.length + 1) N.fz (N.h.new x)).μ k = N.μ k from mu k hk] at hb
   exact I.own k b hl hb
 ·intro k k' b hl hl' hb hb';rw [wm] at hl hl';simp only at hb hb';by_cases hk : k = os.length <;> by_cases hk' : k' = os.length
  ·rw [hk, hk']
  ·subst hk;rw [muL, hc] at hb;rw [if_neg hk'] at hl';rw [mu k' hk'] at hb';cases hb;have := lt k' _ hl' hb';omega
  ·subst hk';rw [muL, hc] at hb';rw [if_neg hk] at hl;rw [mu k hk] at hb;cases hb';have := lt k _ hl hb;omega
  ·rw [if_neg hk] at hl;rw [if_neg hk'] at hl';rw [mu k hk] at hb;rw [mu k' hk'] at hb';exact I.inj k k' b hl hl' hb hb'
 ·intro k;rw [wm];by_cases hk : k = os.length
  ·rw [if_pos hk, hk]; exact ho
  ·rw [if_neg hk];refine (I.obj k).mono nx (mu k hk) fun hl b hb => ?_
   obtain ⟨b', x', h1, h2, h3⟩ := yw hl (I.obj k);rw [h1] at hb; cases hb;exact ⟨h2, (old _ _ h3).trans h3.symm⟩
theorem InvO.put {E : En} {N : Nm} {os : List PO} (I : InvO E N os) {k : Nat} (hl : live (og os k)) {b : BN} (hb : blk (N.μ k) = some b) (x : AObj) (o : PO)
  (ho : RepO ⟨N.μ, N.n, N.fz, N.h.put b x⟩ k o) : InvO E ⟨N.μ, N.n, N.fz, N.h.put b x⟩ (oset o os k) ∧ Nx N ⟨N.μ, N.n, N.fz, N.h.put b x⟩ ∧ (∀ b' y, N.h.t.get b' = some y → b' ≠ b → (N.h.put b x).t.get b' = some y) := by
 obtain ⟨b0, x0, h1, h2, h3⟩ := yw hl (I.obj k);rw [h1] at hb; cases hb;have hk : k < os.length := zd9 (by intro e; rw [e] at hl; exact hl)
 have old : ∀ b' y, N.h.t.get b' = some y → b' ≠ b → (N.h.put b x).t.get b' = some y := fun b' y hy hne => by rw [wD _ _ hne]; exact hy
 have nx : Nx N ⟨N.μ, N.n, N.fz, N.h.put b x⟩ := ⟨⟨fun _ _ h _ => h, fun b' y hf hy => old b' y hy (fun e => h2 (e ▸ hf))⟩, LzB _, fun _ _ => rfl⟩
 refine ⟨⟨HW.put I.hw h3, I.gr.put (I.own k b hl h1), I.fzlt, I.fzok, fun b' hb' => (I.fzex b' hb').imp id fun ⟨y, hy⟩ => ⟨y, old b' y hy (fun e => h2 (e ▸ hb'))⟩, I.len.trans (yE o os k).symm, ?_, ?_, ?_⟩, nx, old⟩
 ·intro j b' hl' hb';by_cases hj : j = k
  ·subst hj; exact I.own j b' hl hb'
  ·rw [yu, if_neg (fun e => hj e.1)] at hl'
   exact I.own j b' hl' hb'
 ·intro j j' b' hl1 hl2 hb1 hb2;have t : ∀ i, live (og (oset o os k) i) → live (og os i) := fun i hi => by
   by_cases hj : i = k
   ·subst hj; exact hl
   ·rwa [yu, if_neg (fun e => hj e.1)] at hi
  exact I.inj j j' b' (t j hl1) (t j' hl2) hb1 hb2
 ·intro j;by_cases hj : j = k
  ·subst hj; rw [yu, if_pos ⟨rfl, hk⟩]; exact ho
  ·rw [yu, if_neg (fun e => hj e.1)]
   refine (I.obj j).mono nx rfl fun hlj b' hb' => ?_
   obtain ⟨b1, x1, k1, k2, k3⟩ := yw hlj (I.obj j);rw [k1] at hb'; cases hb';have hne : b' ≠ b := fun e => hj (I.inj j k b' hlj hl k1 (by rw [e]; exact h1))
   exact ⟨k2, wD _ _ hne⟩
theorem InvO.freeze {E : En} {N : Nm} {os : List PO} (I : InvO E N os) {k : Nat} (hl : live (og os k)) {b : BN} (hb : blk (N.μ k) = some b) (o : PO) (hno : ¬ live o)
  (ho : RepO ⟨N.μ, N.n, fun b' => N.fz b' ∨ b' = b, N.h⟩ k o) : InvO E ⟨N.μ, N.n, fun b' => N.fz b' ∨ b' = b, N.h⟩ (oset o os k) ∧ Nx N ⟨N.μ, N.n, fun b' => N.fz b' ∨ b' = b, N.h⟩ := by
 obtain ⟨b0, x0, h1, h2, h3⟩ := yw hl (I.obj k);rw [h1] at hb; cases hb;have hk : k < os.length := zd9 (by intro e; rw [e] at hl; exact hl)
 have nx : Nx N ⟨N.μ, N.n, fun b' => N.fz b' ∨ b' = b, N.h⟩ := ⟨⟨fun _ _ h _ => .inl h, fun _ _ _ hy => hy⟩, LzB _, fun _ _ => rfl⟩
 have t : ∀ i, live (og (oset o os k) i) → i ≠ k ∧ live (og os i) := fun i hi => by
  by_cases hj : i = k
  ·subst hj; rw [yu, if_pos ⟨rfl, hk⟩] at hi; exact (hno hi).elim
  ·rw [yu, if_neg (fun e => hj e.1)] at hi; exact ⟨hj, hi⟩
 refine ⟨⟨I.hw, I.gr, fun b' hb' => hb'.elim (I.fzlt b') (fun e => by rw [e]; exact I.hw _ _ h3), fun b' hb' => hb'.elim (I.fzok b') (fun e => .inr (by rw [e]; exact I.own k b hl h1)), fun b' hb' => hb'.elim (I.fzex b') (fun e => .inr ⟨x0, by rw [e]; exact h3⟩), I.len.trans (yE o os k).symm, ?_, ?_, ?_⟩, nx⟩
 ·intro j b' hl' hb'; exact I.own j b' (t j hl').2 hb'
 ·intro j j' b' hl1 hl2 hb1 hb2; exact I.inj j j' b' (t j hl1).2 (t j' hl2).2 hb1 hb2
 ·intro j;by_cases hj : j = k
  ·subst hj; rw [yu, if_pos ⟨rfl, hk⟩]; exact ho
  ·rw [yu, if_neg (fun e => hj e.1)]
   refine (I.obj j).mono nx rfl fun hlj b' hb' => ?_
   obtain ⟨b1, x1, k1, k2, k3⟩ := yw hlj (I.obj j);rw [k1] at hb'; cases hb';exact ⟨fun e => e.elim k2 (fun e => hj (I.inj j k b' hlj hl k1 (by rw [e]; exact h1))), rfl⟩
theorem InvO.turn {E : En} {N : Nm} {os : List PO} (I : InvO E N os) (k : Nat) (o : PO) (hno : ¬ live o) (ho : RepO N k o) : InvO E N (oset o os k) := by
 have t : ∀ i, live (og (oset o os k) i) → live (og os i) := fun i hi => by
  rw [yu] at hi;split at hi
  ·exact (hno hi).elim
  ·exact hi
 refine ⟨I.hw, I.gr, I.fzlt, I.fzok, I.fzex, I.len.trans (yE o os k).symm, fun j b' hl' hb' => I.own j b' (t j hl') hb', fun j j' b' hl1 hl2 hb1 hb2 => I.inj j j' b' (t j hl1) (t j' hl2) hb1 hb2, fun j => ?_⟩
 rw [yu];split
 ·rename_i e; rw [e.1]; exact ho
 ·exact I.obj j
theorem InvO.grow {E : En} {N : Nm} {os : List PO} (I : InvO E N os) {h' : AHeap} (hw : HW h') (G : Gr N.h h') :
  InvO E ⟨N.μ, N.n, fun b => N.fz b ∨ (N.h.n.toNat ≤ b.toNat ∧ ∃ y, h'.t.get b = some y), h'⟩ os ∧ Nx N ⟨N.μ, N.n, fun b => N.fz b ∨ (N.h.n.toNat ≤ b.toNat ∧ ∃ y, h'.t.get b = some y), h'⟩ := by
 have nx : Nx N ⟨N.μ, N.n, fun b => N.fz b ∨ (N.h.n.toNat ≤ b.toNat ∧ ∃ y, h'.t.get b = some y), h'⟩ := ⟨⟨fun _ _ h _ => .inl h, fun b y _ hy => G.get I.hw hy⟩, LzB _, fun _ _ => rfl⟩
 refine ⟨⟨hw, I.gr.trans G, fun b hb => hb.elim (fun h => Lz9 (I.fzlt b h) G.le) (fun h => by obtain ⟨_, y, hy⟩ := h; exact hw b y hy), fun b hb => hb.elim (I.fzok b) (fun h => .inr (Nat.le_trans I.gr.le h.1)), fun b hb => hb.elim (fun h => (I.fzex b h).imp id fun ⟨y, hy⟩ => ⟨y, G.get I.hw hy⟩) (fun h => .inr h.2), I.len, I.own, I.inj, fun k => ?_⟩, nx⟩
 refine (I.obj k).mono nx rfl fun hl b hb => ?_
 obtain ⟨b', x', h1, h2, h3⟩ := yw hl (I.obj k);rw [h1] at hb; cases hb;exact ⟨fun e => e.elim h2 (fun e => absurd (I.hw _ _ h3) (by omega)), (G.get I.hw h3).trans h3.symm⟩
end Go.PE
end
section
namespace Go.PE
open Go Go.CE
def oD : Option CVal → Option DV
 | some (.int k n) => some (.int k n)
 | some (.bool b) => some (.bool b)
 | some (.str s) => some (.str s)
 | _ => none
def pBin (op : BinOp) : DV → DV → Option DV
 | .int k a, .int k' b => bif eqK k k' then oD (wQ op k a b) else none
 | _, _ => none
def jo (l : Bool) : DV → DV → Option DV
 | .int k a, .int _ b => oD ((bif l then zdg else zdf) k a b)
 | _, _ => none
def pStr (op : BinOp) : DV → DV → Option DV
 | .str a, .str b => oD (zmR op a b)
 | _, _ => none
def eqD : Nat → DV → DV → Option Bool
 | 1, .int k a, .int k' b => bif eqK k k' then some (eqI a b) else none
 | 2, .str a, .str b => some (a.data.toList == b.data.toList)
 | 0, .bool a, .bool b => some (a == b)
 | _, _, _ => none
def eqDs : List Nat → List DV → List DV → Option Bool
 | [], [], [] => some true
 | k :: ks, x :: xs, y :: ys =>
  match eqD k x y with
  | some true => eqDs ks xs ys
  | some false => some false
  | none => none
 | _, _, _ => none
def pNot : DV → Option DV
 | .bool q => some (.bool (!q))
 | _ => none
def pNeg : DV → Option DV
 | .int k n => some (.int k (xK k (Int.sub 0 n)))
 | _ => none
def yQ (k : IntKind) : DV → Option DV
 | .int _ n => some (.int k (xK k n))
 | _ => none
def zoJ : DV → DV → DV → Option DV
 | .bool q, a, b => some (bif q then a else b)
 | _, _, _ => none
def zcP : DV → Option Bool
 | .nils => some true
 | .lst _ _ => some false
 | _ => none
def pIdx (st : Nat) : DV → DV → Option (List DV)
 | .lst st' xs, .int _ (.ofNat i) => bif Nat.beq st st' then xs[i]? else none
 | _, _ => none
def qP (v : OC) : DV → Option Nat
 | .int _ (.ofNat i) => match v with | some xs => bif Nat.ble (Nat.succ i) xs.length then some i else none | none => none
 | _ => none
def qQ (len : Nat) : DV → Option Nat
 | .int _ (.ofNat i) => bif Nat.ble (Nat.succ i) len then some i else none
 | _ => none
def bndD (x : Option DV) (d y : Nat) : Option Nat :=
 match x with
 | none => some d
 | some (.int _ (.ofNat i)) => bif Nat.ble i y then some i else none
 | _ => none
def uw (st : Nat) (v : DV) (lo hi : Option DV) : Option DV :=
 match v with
 | .nils => match bndD hi 0 0, bndD lo 0 0 with | some _, some _ => some .nils | _, _ => none
 | .lst st' xs =>
  bif Nat.beq st st' then
   match bndD hi xs.length xs.length with
   | some hh =>
    match bndD lo 0 hh with
    | some l => bif Nat.beq l 0 || !Nat.beq l hh then some (.lst st ((xs.drop l).take (hh - l))) else none
    | none => none
   | none => none
  else none
 | _ => none
def vwB (lo hi : Option DV) (y : Nat) : Option (Nat × Nat) :=
 match bndD hi y y with
 | some hh =>
  match bndD lo 0 hh with
  | some l => bif Nat.beq l 0 || !Nat.beq l hh then some (l, hh - l) else none
  | none => none
 | none => none
def zlZ (st lo len : Nat) : DV → DV
 | .nils => .nils
 | .lst st' xs => bif Nat.beq st st' then .lst st' ((xs.drop lo).take len) else .u
 | _ => .u
def pLen : DV → Option DV
 | .nils => some (.int .i64 (.ofNat 0))
 | .lst _ xs => some (.int .i64 (.ofNat xs.length))
 | _ => none
def lenO : OC → Nat
 | none => 0
 | some xs => xs.length
def zh8 : DV → Option DV
 | .str s => some (.int .i64 (.ofNat s.size))
 | _ => none
def zgb : List UInt8 → Nat → Option DV
 | [], _ => none
 | c :: cs, i => bif Nat.beq i 0 then some (.int .u8 (.ofNat c.toNat)) else zgb cs (Nat.sub i 1)
def qx : DV → DV → Option DV
 | .str s, .int _ (.ofNat i) => zgb s.data.toList i
 | _, _ => none
def zfm (v : DV) (lo hi : Option DV) : Option DV :=
 match v with
 | .str s =>
  match bndD hi s.size s.size with
  | some hh =>
   match bndD lo 0 hh with
   | some l => some (.str (s.extract l hh))
   | none => none
  | none => none
 | _ => none
def j4 (st : Nat) : DV → Option (List (List DV))
 | .nils => some []
 | .lst st' xs => bif Nat.beq st st' then some xs else none
 | _ => none
def zM : OC → List (List DV)
 | none => []
 | some xs => xs
def appO (v : OC) (new : List (List DV)) : OC :=
 match new with
 | [] => v
 | x :: l => some (zM v ++ (x :: l))
def zic : List (List DV) → Option (List Int)
 | [] => some []
 | [.int .u8 n] :: cs => match zic cs with | some l => some (n :: l) | none => none
 | _ => none
def pB2s : DV → Option DV
 | .nils => some (.str ByteArray.empty)
 | .lst 1 xs => match zic xs with | some ns => some (.str (zau ns ByteArray.empty)) | none => none
 | _ => none
def minD (isMax : Bool) (k : IntKind) : List DV → Int → Option Int
 | [], x => some x
 | .int k' y :: r, x => bif eqK k k' then minD isMax k r (bif isMax then (bif ltI x y then y else x) else (bif ltI y x then y else x)) else none
 | _ :: _, _ => none
def vZ (isMax : Bool) (v : DV) (l : List DV) : Option DV :=
 match v with
 | .int k n => match minD isMax k l n with | some m => some (.int k m) | none => none
 | _ => none
def nthO (v : OC) (i : Nat) : Option (List DV) := match v with | some xs => xs[i]? | none => none
def setO (st : Nat) (v : OC) (i off : Nat) (ds : List DV) : Option OC :=
 match v with
 | some xs =>
  match xs[i]? with
  | some x => bif Nat.ble (off + ds.length) st then some (some (xs.set i (x.take off ++ ds ++ x.drop (off + ds.length)))) else none
  | none => none
 | none => none
section
variable {α β : Type}
def za (o : Option α) (k : α → Option β) : Option β := match o with | some a => k a | none => none
def ifB (v : DV) (a b : Option β) : Option β := match v with | .bool q => bif q then a else b | _ => none
def gd (b : Bool) (k : Option β) : Option β := bif b then k else none
def gdN (v : DV) (k : Option β) : Option β := match v with | .nils => k | _ => none
def w1 (a : Option PA) (k : PC → Option β) : Option β := match a with | some (.s (.one c)) => k c | _ => none
def wd (a : Option PA) (k : DV → Option β) : Option β := match a with | some (.s (.one (.d v))) => k v | _ => none
inductive Sh where
 | one
 | agg (n : Nat)
 | tup (l : List (Option Nat))
 | no
 | sc
 | tsc (n : Nat)
def b1 (r : Option DA) (k : DV → Option β) : Option β := match r with | some (.s (.one d)) => k d | _ => none
def bA (n : Nat) (r : Option DA) (k : List DV → Option β) : Option β := match r with | some (.s (.agg l)) => bif Nat.beq l.length n then k l else none | _ => none
def okT : List (Option Nat) → List DS → Bool
 | [], [] => true
 | none :: shs, .one _ :: l => okT shs l
 | some n :: shs, .agg ds :: l => Nat.beq ds.length n && okT shs l
 | _, _ => false
def bT (shs : List (Option Nat)) (r : Option DA) (k : List DS → Option β) : Option β := match r with | some (.tup l) => bif okT shs l then k l else none | _ => none
def bN (r : Option DA) (k : Option β) : Option β := match r with | some _ => k | none => none
def zlM : DV → Bool
 | .bool _ => true
 | .int _ _ => true
 | .str _ => true
 | _ => false
def zi9 : List DS → Bool
 | [] => true
 | .one d :: l => zlM d && zi9 l
 | _ :: _ => false
def zec : Nat → List (Option Nat)
 | 0 => []
 | n + 1 => none :: zec n
def b1s (r : Option DA) (k : DV → Option β) : Option β := match r with | some (.s (.one d)) => bif zlM d then k d else none | _ => none
def bTs (n : Nat) (r : Option DA) (k : List DS → Option β) : Option β := match r with | some (.tup l) => bif okT (zec n) l && zi9 l then k l else none | _ => none
def dsAt : List DS → Nat → DS
 | [], _ => .one .u
 | d :: l, i => bif Nat.beq i 0 then d else dsAt l (Nat.sub i 1)
def dsO : DS → DV
 | .one d => d
 | .agg _ => .u
def dsA : DS → List DV
 | .agg l => l
 | .one _ => []
def qU (l : List DS) : List (Option Nat) → Nat → List DS
 | [], _ => []
 | none :: shs, i => .one (dsO (dsAt l i)) :: qU l shs (Nat.succ i)
 | some n :: shs, i => .agg (exp (dsA (dsAt l i)) n 0) :: qU l shs (Nat.succ i)
end
def cD : CVal → Option DV
 | .bool b => some (.bool b)
 | .int k n => some (.int k n)
 | .str s => some (.str s)
 | .nilp => some .nilp
 | .nils => some .nils
 | .nilm => some .nilm
 | .nilf => some .nilf
 | .nili => some .nili
 | .fn f [] => some (.fn f [])
 | _ => none
def cDs : List CVal → Option (List PC)
 | [] => some []
 | c :: cs =>
  match cD c, cDs cs with
  | some d, some ds => some (.d d :: ds)
  | _, _ => none
def pvS : SVal → Option PV
 | .one c => match cD c with | some d => some (.one (.d d)) | none => none
 | .agg cs => match cDs cs with | some ds => some (.agg ds) | none => none
def pv (ρ : Nat → PA) : Operand → Option PA
 | .tmp t => some (ρ t)
 | .const v => match cVal v with | some s => (match pvS s with | some p => some (.s p) | none => none) | none => none
 | .func f => some (.s (.one (.d (.fn f []))))
 | .global _ => none
def pvs (ρ : Nat → PA) : List Operand → Option (List PA)
 | [] => some []
 | x :: xs =>
  match pv ρ x, pvs ρ xs with
  | some a, some l => some (a :: l)
  | _, _ => none
def pvo (ρ : Nat → PA) : Option Operand → Option (Option DV)
 | none => some none
 | some x => match pv ρ x with | some (.s (.one (.d v))) => some (some v) | _ => none
def pvd (ρ : Nat → PA) : List Operand → Option (List DV)
 | [] => some []
 | x :: xs =>
  match pv ρ x, pvd ρ xs with
  | some (.s (.one (.d v))), some l => some (v :: l)
  | _, _ => none
def zey (ρ : Nat → PA) : List (Nat × Nat × Operand) → List PC → Option (List PC)
 | [], cs => some cs
 | (off, size, x) :: rest, cs =>
  match pv ρ x with
  | some (.s v) => bif Nat.beq v.cells.length size && Nat.ble (off + size) cs.length then zey ρ rest (cs.take off ++ v.cells ++ cs.drop (off + size)) else none
  | _ => none
mutual
def frC (lk : Nat → Bool) : Nat → List PO → PC → Option (List PO × DV)
 | _, os, .d v => some (os, v)
 | _, os, .own k =>
  match og os k with
  | .frz v => some (os, v)
  | .arr st v => bif lk k then none else some (oset (.frz (mkL st v)) os k, mkL st v)
  | _ => none
 | n + 1, os, .ptr k off =>
  match og os k with
  | .fbox ds => some (os, .fp ds off)
  | .box cs =>
   bif lk k then none else
   match frL lk n os cs with
   | some (os', ds) =>
    match og os' k with
    | .box cs' => bif Nat.beq cs'.length cs.length then some (oset (.fbox ds) os' k, .fp ds off) else none
    | _ => none
   | none => none
  | _ => none
 | _ + 1, os, .vw k st lo len =>
  match og os k with
  | .frz v => some (os, zlZ st lo len v)
  | .arr st' v => bif lk k then none else some (oset (.frz (mkL st' v)) os k, zlZ st lo len (mkL st' v))
  | _ => none
 | n + 1, os, .clo f caps =>
  match frK lk n os caps with
  | some (os', l) => some (os', .fn f l)
  | none => none
 | _, _, _ => none
def frL (lk : Nat → Bool) : Nat → List PO → List PC → Option (List PO × List DV)
 | _, os, [] => some (os, [])
 | n, os, c :: cs =>
  match n with
  | 0 => none
  | n + 1 =>
   match frC lk n os c with
   | some (os', d) =>
    match frL lk n os' cs with
    | some (os'', ds) => some (os'', d :: ds)
    | none => none
   | none => none
def frK (lk : Nat → Bool) : Nat → List PO → List (Nat ⊕ List DV) → Option (List PO × List (List DV))
 | _, os, [] => some (os, [])
 | n, os, c :: cs =>
  match n with
  | 0 => none
  | n + 1 =>
   match (match c with | .inl k => frC lk n os (.ptr k 0) | .inr xs => some (os, .fp xs 0)) with
   | some (os', .fp x 0) =>
    match frK lk n os' cs with
    | some (os'', xs) => some (os'', x :: xs)
    | none => none
   | _ => none
end
def y7 : Nat := 100
def frV (lk : Nat → Bool) (os : List PO) : PV → Option (List PO × DS)
 | .one c => match frC lk y7 os c with | some (os', d) => some (os', .one d) | none => none
 | .agg cs => match frL lk y7 os cs with | some (os', ds) => some (os', .agg ds) | none => none
def frA (lk : Nat → Bool) (os : List PO) : List PA → Option (List PO × List DA)
 | [] => some (os, [])
 | .s v :: l =>
  match frV lk os v with
  | some (os', d) =>
   match frA lk os' l with
   | some (os'', ds) => some (os'', .s d :: ds)
   | none => none
  | none => none
 | _ :: _ => none
abbrev KT (β : Type) := PA → List PO → List Nat → List Nat → Option β
abbrev Orc := Nat → List DA → Option DA
abbrev und : PA := .bad
abbrev pd (v : DV) : PA := .s (.one (.d v))
abbrev pc (c : PC) : PA := .s (.one c)
def appF (O : Orc) (v : DV) (ds : List DA) : Option DA :=
 match v with
 | .fn g caps => O g (ds ++ caps.map fun x => .s (.one (.fp x 0)))
 | _ => none
def mkN (bytes : Nat) (l c : DV) : Option Nat :=
 match l, c with
 | .int _ (.ofNat l), .int _ (.ofNat c) => bif Nat.beq l c && Nat.ble c 1073741824 && Nat.ble (bytes * c) 281474976710656 then some l else none
 | _, _ => none
def pS2b : DV → Option DV
 | .str s => some (.lst 1 (s.data.toList.map fun c => [.int .u8 (.ofNat c.toNat)]))
 | _ => none
def chunks (st : Nat) : Nat → List DV → List (List DV)
 | 0, _ => []
 | n + 1, ds => ds.take st :: chunks st n (ds.drop st)
def allD : List PC → Option (List DV)
 | [] => some []
 | .d v :: cs => match allD cs with | some l => some (v :: l) | none => none
 | _ => none
def gath (cs : List PC) (st : Nat) : Nat → Nat → Option (List DV)
 | 0, _ => some []
 | n + 1, off =>
  match cs[off]?, gath cs st n (off + st) with
  | some (.d v), some l => some (v :: l)
  | _, _ => none
def ipC (cs : List PC) (st len i : Nat) : Nat → Nat → Option (List PC)
 | 0, _ => some []
 | m + 1, off =>
  match gath cs st len off, ipC cs st len i m (Nat.succ off) with
  | some l, some r => some (.d (atD l i) :: r)
  | _, _ => none
def qO {β : Type} (n : Option Nat) (cs : List PC) (off : Nat) (k : PV → Option β) : Option β :=
 match n with
 | none => za cs[off]? fun c => k (.one c)
 | some m => bif Nat.ble (off + m) cs.length then k (.agg ((cs.drop off).take m)) else none
def zd1 {β : Type} (n : Option Nat) (cs : List PC) (off : Nat) (k : PV → Option β) : Option β :=
 match n with
 | some 0 => none
 | n => qO n cs off k
def zk6 (ρ : Nat → PA) : List Operand → Option (List (Nat ⊕ List DV))
 | [] => some []
 | x :: xs =>
  match pv ρ x, zk6 ρ xs with
  | some (.s (.one (.ptr k 0))), some l => some (.inl k :: l)
  | some (.s (.one (.d (.fp y 0)))), some l => some (.inr y :: l)
  | _, _ => none
def bSh {β : Type} (sh : Sh) (r : Option DA) (k : PA → Option β) : Option β :=
 match sh with
 | .one => b1 r fun d => k (pd d)
 | .agg n => bA n r fun l => k (.s (.agg ((exp l n 0).map .d)))
 | .tup shs => bT shs r fun l => k (.tup (qU l shs 0))
 | .no => bN r (k und)
 | .sc => b1 r fun d => k (pd d)
 | .tsc n => bT (zec n) r fun l => k (.tup (qU l (zec n) 0))
def bShS {β : Type} (sh : Sh) (r : Option DA) (k : PA → Option β) : Option β :=
 match sh with
 | .sc => b1s r fun d => k (pd d)
 | .tsc n => bTs n r fun l => k (.tup (qU l (zec n) 0))
 | _ => none
def scSh : Sh → Bool
 | .sc => true
 | .tsc _ => true
 | _ => false
def lvO : PO → Bool
 | .box _ => true
 | .arr _ _ => true
 | .mp _ _ => true
 | _ => false
def tchK (os : List PO) : List (Nat ⊕ List DV) → Bool
 | [] => false
 | .inl k :: l => lvO (og os k) || tchK os l
 | .inr _ :: l => tchK os l
def tchC (os : List PO) : PC → Bool
 | .own k => lvO (og os k)
 | .ptr k _ => lvO (og os k)
 | .vw k _ _ _ => lvO (og os k)
 | .clo _ caps => tchK os caps
 | _ => false
def tchL (os : List PO) : List PC → Bool
 | [] => false
 | c :: l => tchC os c || tchL os l
def tchA (os : List PO) : List PA → Bool
 | [] => false
 | .s v :: l => tchL os v.cells || tchA os l
 | _ :: l => tchA os l
def srcP {β : Type} (os : List PO) (st : Nat) (c : PC) (k : List (List DV) → Option β) : Option β :=
 match c with
 | .d v => za (j4 st v) k
 | .own j =>
  match og os j with
  | .arr st' v => bif Nat.beq st st' then k (zM v) else none
  | .frz v => za (j4 st v) k
  | _ => none
 | _ => none
variable {β : Type}
def zjA (os : List PO) (n : Option Nat) (c : PC) (k : KT β) : Option β :=
 match c with
 | .ptr j off =>
  match og os j with
  | .box cs => qO n cs off fun v => k (.s v) os [] [j]
  | .fbox ds => zd1 n (ds.map .d) off fun v => k (.s v) os [] [j]
  | _ => none
 | .d (.fp xs off) => zd1 n (xs.map .d) off fun v => k (.s v) os [] []
 | .ep j st i off =>
  match og os j with
  | .arr st' v => bif Nat.beq st st' then za (nthO v i) fun x => qO n ((exp x st 0).map .d) off fun v => k (.s v) os [] [j] else none
  | _ => none
 | .ip j off len st i o =>
  match og os j with
  | .box cs =>
   match n with
   | none => za (ipC cs st len i 1 (off + o)) fun l => match l with | [c] => k (pc c) os [] [j] | _ => none
   | some m => bif Nat.beq m 0 then none else za (ipC cs st len i m (off + o)) fun l => k (.s (.agg l)) os [] [j]
  | _ => none
 | _ => none
def zjz (lk : Nat → Bool) (os : List PO) (n : Nat) (c : PC) (v : PV) (k : KT β) : Option β :=
 bif Nat.beq v.cells.length n then
  match c with
  | .ptr j off =>
   match og os j with
   | .box cs => bif lk j then none else bif Nat.ble (off + n) cs.length then k und (oset (.box (cs.take off ++ v.cells ++ cs.drop (off + n))) os j) [j] [] else none
   | _ => none
  | .ep j st i off =>
   bif lk j then none else
   za (frL lk y7 os v.cells) fun p =>
   match og p.1 j with
   | .arr st' w => bif Nat.beq st st' then za (setO st w i off p.2) fun w' => k und (oset (.arr st w') p.1 j) [j] [] else none
   | _ => none
  | _ => none
 else none
def pIxs (os : List PO) (st : Nat) (c : PC) (i : DV) (k : KT β) : Option β :=
 match c with
 | .d v => za (pIdx st v i) fun x => k (pd (.fp (exp x st 0) 0)) os [] []
 | .own j =>
  match og os j with
  | .frz v => za (pIdx st v i) fun x => k (pd (.fp (exp x st 0) 0)) os [] []
  | .arr st' v => bif Nat.beq st st' then za (qP v i) fun n => k (pc (.ep j st n 0)) os [] [] else none
  | _ => none
 | .vw j st' lo len =>
  match og os j with
  | .frz v => za (pIdx st (zlZ st' lo len v) i) fun x => k (pd (.fp (exp x st 0) 0)) os [] []
  | .arr _ _ => bif Nat.beq st st' then za (qQ len i) fun n => k (pc (.ep j st (lo + n) 0)) os [] [] else none
  | _ => none
 | _ => none
def zcN (os : List PO) (st : Nat) (c : PC) (lo hi : Option DV) (k : KT β) : Option β :=
 match c with
 | .own j =>
  match og os j with
  | .arr st' v => bif Nat.beq st st' then za (vwB lo hi (lenO v)) fun p => k (pc (.vw j st p.1 p.2)) os [] [] else none
  | .frz v => za (uw st v lo hi) fun z => k (pd z) os [] []
  | _ => none
 | .vw j st' l n => bif Nat.beq st st' then za (vwB lo hi n) fun p => k (pc (.vw j st (l + p.1) p.2)) os [] [] else none
 | .d v => za (uw st v lo hi) fun z => k (pd z) os [] []
 | _ => none
def clrO (v : OC) (lo len : Nat) (ds : List DV) : OC :=
 match v with
 | none => none
 | some xs => some (xs.take lo ++ List.replicate len ds ++ xs.drop (lo + len))
def zjD (lk : Nat → Bool) (os : List PO) (st : Nat) (zs : List CVal) (c : PC) (k : KT β) : Option β :=
 match c with
 | .vw j st' lo len =>
  match og os j with
  | .arr st'' v => bif lk j then none else bif Nat.beq st st' && Nat.beq st st'' && Nat.beq zs.length st then za (cDs zs) fun ps => za (allD ps) fun ds => k und (oset (.arr st'' (clrO v lo len ds)) os j) [j] [] else none
  | _ => none
 | _ => none
def zfp (lk : Nat → Bool) (os : List PO) (st bytes : Nat) (s : PC) (x : PC) (k : KT β) : Option β :=
 srcP os st x fun new =>
 match s with
 | .d v => gdN v (gd (fits bytes new.length) (k (pc (.own os.length)) (os ++ [.arr st (appO none new)]) [] []))
 | .own j =>
  match og os j with
  | .arr st' v => bif lk j then none else bif Nat.beq st st' then gd (fits bytes (lenO v + new.length)) (k (pc (.own os.length)) (oset .dead os j ++ [.arr st (appO v new)]) [j] []) else none
  | _ => none
 | _ => none
def eqSh : Option Nat → Option Nat → Bool
 | none, none => true
 | some a, some b => Nat.beq a b
 | _, _ => false
def dsSh : DS → Option Nat
 | .one _ => none
 | .agg l => some l.length
def dsOf : PV → Option DS
 | .one (.d v) => some (.one v)
 | .agg cs => match allD cs with | some l => some (.agg l) | none => none
 | _ => none
def zDs (z : SVal) : Option DS := match pvS z with | some p => dsOf p | none => none
def eqDS (q : Nat ⊕ List Nat) (a b : DS) : Option Bool :=
 match q, a, b with
 | .inl t, .one x, .one y => eqD t x y
 | .inr ks, .agg xs, .agg ys => eqDs ks xs ys
 | _, _, _ => none
def zdd (q : Nat ⊕ List Nat) (st : Nat) (kd : DS) : List (List DV) → Option (Option DS)
 | [] => some none
 | x :: xs =>
  match eqDS q kd (kD st x) with
  | some true => some (some (vD st x))
  | some false => zdd q st kd xs
  | none => none
def putP (q : Nat ⊕ List Nat) (st : Nat) (kd : DS) (row : List DV) : List (List DV) → Option (List (List DV))
 | [] => some [row]
 | x :: xs =>
  match eqDS q kd (kD st x) with
  | some true => some (row :: xs)
  | some false => match putP q st kd row xs with | some l => some (x :: l) | none => none
  | none => none
def lkD (z : DS) (r : Option DS) : DS := match r with | some v => v | none => z
def zmx {β : Type} (z : DS) (ok : Bool) (r : Option DS) (os : List PO) (k : KT β) : Option β :=
 match z with
 | .one _ => bif ok then k (.tup [.one (dsO (lkD z r)), .one (.bool r.isSome)]) os [] [] else k (pd (dsO (lkD z r))) os [] []
 | .agg l => bif ok then k (.tup [.agg (exp (dsA (lkD z r)) l.length 0), .one (.bool r.isSome)]) os [] [] else k (.s (.agg ((exp (dsA (lkD z r)) l.length 0).map .d))) os [] []
def zfo {β : Type} (os : List PO) (q : Nat ⊕ List Nat) (z : SVal) (ok : Bool) (c : PC) (kp : PV) (k : KT β) : Option β :=
 za (dsOf kp) fun kd => za (zDs z) fun zd => za (eqDS q kd kd) fun _ =>
 match c with
 | .own j =>
  match og os j with
  | .mp st xs => bif eqSh (shV st) (dsSh zd) then za (zdd q st kd xs) fun r => zmx zd ok r os k else none
  | _ => none
 | .d .nilm => zmx zd ok none os k
 | _ => none
def zoL {β : Type} (lk : Nat → Bool) (os : List PO) (q : Nat ⊕ List Nat) (c : PC) (kp vp : PV) (k : KT β) : Option β :=
 za (dsOf kp) fun kd => za (frV lk os vp) fun p => za (eqDS q kd kd) fun _ =>
 match c with
 | .own j =>
  match og p.1 j with
  | .mp st xs =>
   bif lk j then none else
   bif eqSh (shK st) (dsSh kd) && eqSh (shV st) (dsSh p.2) then za (putP q st kd (kd.cells ++ p.2.cells) xs) fun ys => k und (oset (.mp st ys) p.1 j) [j] [] else none
  | _ => none
 | _ => none
def pOp (O : Orc) (lk : Nat → Bool) (sh : Sh) (ρ : Nat → PA) (os : List PO) (o : KOp) (k : KT β) : Option β :=
 match o with
 | .mv x => za (pv ρ x) fun a => k a os [] []
 | .pick c a b => wd (pv ρ c) fun v => za (pv ρ a) fun a => za (pv ρ b) fun b =>
  match a, b with
  | .s (.one (.d x)), .s (.one (.d y)) => za (zoJ v x y) fun z => k (pd z) os [] []
  | a, b => ifB v (k a os [] []) (k b os [] [])
 | .alloc zs => za (cDs zs) fun cs => k (pc (.ptr os.length 0)) (os ++ [.box cs]) [] []
 | .box x =>
  match pv ρ x with
  | some (.s v) => k (pc (.ptr os.length 0)) (os ++ [.box v.cells]) [] []
  | _ => none
 | .build zs parts => za (cDs zs) fun cs => za (zey ρ parts cs) fun cs => k (.s (.agg cs)) os [] []
 | .bslice st len zs parts => za (cDs zs) fun cs => za (zey ρ parts cs) fun cs => za (frL lk y7 os cs) fun p =>
  bif Nat.beq p.2.length (len * st) then k (pc (.own p.1.length)) (p.1 ++ [.arr st (some (chunks st len p.2))]) [] [] else none
 | .load n x => w1 (pv ρ x) fun c => zjA os n c k
 | .store n x v => w1 (pv ρ x) fun c =>
  match pv ρ v with
  | some (.s v) => zjz lk os n c v k
  | _ => none
 | .nilck x => w1 (pv ρ x) fun c =>
  match c with
  | .ptr j off => k (pc (.ptr j off)) os [] []
  | .clo f l => k (pc (.clo f l)) os [] []
  | .d (.fp xs off) => k (pd (.fp xs off)) os [] []
  | _ => none
 | .bin op x y => wd (pv ρ x) fun v => wd (pv ρ y) fun w => za (pBin op v w) fun z => k (pd z) os [] []
 | .shift l x y => wd (pv ρ x) fun v => wd (pv ρ y) fun w => za (jo l v w) fun z => k (pd z) os [] []
 | .str op x y => wd (pv ρ x) fun v => wd (pv ρ y) fun w => za (pStr op v w) fun z => k (pd z) os [] []
 | .nilS neg x y => w1 (pv ρ x) fun c => wd (pv ρ y) fun w =>
  match w with
  | .nils =>
   match c with
   | .d v => za (zcP v) fun q => k (pd (.bool (bif neg then !q else q))) os [] []
   | .own j =>
    match og os j with
    | .arr _ v => k (pd (.bool (bif neg then v.isSome else v.isNone))) os [] []
    | .frz v => za (zcP v) fun q => k (pd (.bool (bif neg then !q else q))) os [] []
    | _ => none
   | _ => none
  | _ => none
 | .eq q neg x y =>
  match q with
  | .inl t => wd (pv ρ x) fun v => wd (pv ρ y) fun w => za (eqD t v w) fun b => k (pd (.bool (bif neg then !b else b))) os [] []
  | .inr ks =>
   match pv ρ x, pv ρ y with
   | some (.s (.agg xs)), some (.s (.agg ys)) => za (allD xs) fun xs => za (allD ys) fun ys => za (eqDs ks xs ys) fun b => k (pd (.bool (bif neg then !b else b))) os [] []
   | _, _ => none
 | .not x => wd (pv ρ x) fun v => za (pNot v) fun z => k (pd z) os [] []
 | .neg x => wd (pv ρ x) fun v => za (pNeg v) fun z => k (pd z) os [] []
 | .conv t x => wd (pv ρ x) fun v => za (yQ t v) fun z => k (pd z) os [] []
 | .b2s x => w1 (pv ρ x) fun c =>
  match c with
  | .d v => za (pB2s v) fun z => k (pd z) os [] []
  | .own j =>
   match og os j with
   | .arr st v => za (pB2s (mkL st v)) fun z => k (pd z) os [] [j]
   | _ => none
  | _ => none
 | .mkfn f caps => za (zk6 ρ caps) fun l =>
  match l with
  | [] => k (pd (.fn f [])) os [] []
  | x :: l => k (pc (.clo f (x :: l))) os [] []
 | .slice st x lo hi mx =>
  match mx with
  | none => w1 (pv ρ x) fun c => za (pvo ρ lo) fun lo => za (pvo ρ hi) fun hi => zcN os st c lo hi k
  | some _ => none
 | .sslice x lo hi => wd (pv ρ x) fun v => za (pvo ρ lo) fun lo => za (pvo ρ hi) fun hi => za (zfm v lo hi) fun z => k (pd z) os [] []
 | .foff x off => w1 (pv ρ x) fun c =>
  match c with
  | .ptr j o => k (pc (.ptr j (o + off))) os [] []
  | .d (.fp xs o) => k (pd (.fp xs (o + off))) os [] []
  | .ep j st i o => k (pc (.ep j st i (o + off))) os [] []
  | .ip j f len st i o => k (pc (.ip j f len st i (o + off))) os [] []
  | _ => none
 | .field x off n =>
  match pv ρ x with
  | some (.s (.agg cs)) => qO n cs off fun v => k (.s v) os [] []
  | _ => none
 | .ixs st x i => w1 (pv ρ x) fun c => wd (pv ρ i) fun i => pIxs os st c i k
 | .ixarr len st x i => w1 (pv ρ x) fun c => wd (pv ρ i) fun i =>
  match c with
  | .ptr j off => za (qQ len i) fun n => k (pc (.ip j off len st n 0)) os [] []
  | _ => none
 | .ixagg len st n x i => wd (pv ρ i) fun i =>
  match pv ρ x with
  | some (.s (.agg cs)) => za (qQ len i) fun j =>
   match n with
   | none => za (ipC cs st len j 1 0) fun l => match l with | [c] => k (pc c) os [] [] | _ => none
   | some m => bif Nat.beq m 0 then none else za (ipC cs st len j m 0) fun l => k (.s (.agg l)) os [] []
  | _ => none
 | .ixstr x i => wd (pv ρ x) fun v => wd (pv ρ i) fun w => za (qx v w) fun z => k (pd z) os [] []
 | .extract x i =>
  match pv ρ x with
  | some (.tup l) =>
   match l[i]? with
   | some (.one d) => k (pd d) os [] []
   | some (.agg ds) => k (.s (.agg (ds.map .d))) os [] []
   | none => none
  | _ => none
 | .lenS x => wd (pv ρ x) fun v => za (zh8 v) fun z => k (pd z) os [] []
 | .lenL x => w1 (pv ρ x) fun c =>
  match c with
  | .d v => za (pLen v) fun z => k (pd z) os [] []
  | .own j =>
   match og os j with
   | .arr _ v => k (pd (.int .i64 (.ofNat (lenO v)))) os [] []
   | .frz v => za (pLen v) fun z => k (pd z) os [] []
   | _ => none
  | .vw _ _ _ len => k (pd (.int .i64 (.ofNat len))) os [] []
  | _ => none
 | .append st bytes s x => w1 (pv ρ s) fun s => w1 (pv ρ x) fun x => zfp lk os st bytes s x k
 | .minmax m x xs => wd (pv ρ x) fun v => za (pvd ρ xs) fun l => za (vZ m v l) fun z => k (pd z) os [] []
 | .mkslice st zs bytes l c => wd (pv ρ l) fun l => wd (pv ρ c) fun c => za (mkN bytes l c) fun n => za (cDs zs) fun ps => za (allD ps) fun ds => bif Nat.beq zs.length st then k (pc (.own os.length)) (os ++ [.arr st (some (List.replicate n ds))]) [] [] else none
 | .clear st zs x => w1 (pv ρ x) fun c => zjD lk os st zs c k
 | .mkmap st => k (pc (.own os.length)) (os ++ [.mp st []]) [] []
 | .lookup q z ok m x => w1 (pv ρ m) fun c =>
  match pv ρ x with
  | some (.s kp) => zfo os q z ok c kp k
  | _ => none
 | .mupd q m x v => w1 (pv ρ m) fun c =>
  match pv ρ x, pv ρ v with
  | some (.s kp), some (.s vp) => zoL lk os q c kp vp k
  | _, _ => none
 | .lenM x => w1 (pv ρ x) fun c =>
  match c with
  | .own j =>
   match og os j with
   | .mp _ xs => k (pd (.int .i64 (.ofNat xs.length))) os [] []
   | _ => none
  | .d .nilm => k (pd (.int .i64 (.ofNat 0))) os [] []
  | _ => none
 | .s2b x => wd (pv ρ x) fun v => za (pS2b v) fun z => k (pd z) os [] []
 | .call f args => w1 (pv ρ f) fun c => za (pvs ρ args) fun as =>
  bif scSh sh && (tchC os c || tchA os as) then za (frA (fun _ => false) os as) fun p => za (frC (fun _ => false) y7 p.1 c) fun q => bShS sh (appF O q.2 p.2) fun a => k a os [] []
  else za (frA lk os as) fun p => za (frC lk y7 p.1 c) fun q => bSh sh (appF O q.2 p.2) fun a => k a q.1 [] []
end Go.PE
end
section
namespace Go.PE
open Go Go.CE
structure Bk (N : Nm) (os : List PO) (N' : Nm) (wr : List Nat) : Prop where
 nle : N.h.n.toNat ≤ N'.h.n.toNat
 eq : ∀ b : BN, b.toNat < N.h.n.toNat → (∀ j, j ∈ wr → j < N.n → live (og os j) → blk (N.μ j) ≠ some b) → N'.h.t.get b = N.h.t.get b
theorem Bk.same {N N' : Nm} {os : List PO} {wr : List Nat} (h : N'.h = N.h) : Bk N os N' wr := ⟨by rw [h]; exact LzB _, fun b _ _ => by rw [h]⟩
theorem Bk.gr {N N' : Nm} {os : List PO} {wr : List Nat} (g : Gr N.h N'.h) : Bk N os N' wr := ⟨g.le, fun b hb _ => g.old b hb⟩
theorem Bk.put {N N' : Nm} {os : List PO} {b : BN} {x : AObj} {j : Nat} (h : N'.h = N.h.put b x) (hj : j < N.n) (hl : live (og os j)) (hb : blk (N.μ j) = some b) : Bk N os N' [j] :=
 ⟨by rw [h]; exact LzB _, fun b' _ H => by rw [h]; exact wD _ _ (fun e => H j (List.mem_singleton_self j) hj hl (by rw [e]; exact hb))⟩
def held : PO → Prop
 | .box _ => True
 | .arr _ (some _) => True
 | .frz v => ∃ st xs, v = .lst st xs
 | .fbox _ => True
 | .mp _ _ => True
 | _ => False
def Ho (n : Nat) (os os' : List PO) (wr : List Nat) : Prop := ∀ k, k < n → (held (og os' k) → held (og os k)) ∧ (held (og os k) → held (og os' k) ∨ k ∈ wr) ∧ (live (og os' k) → live (og os k))
theorem Ho.refl (n : Nat) (os : List PO) (wr : List Nat) : Ho n os os wr := fun _ _ => ⟨id, .inl, id⟩
theorem Ho.trans {n : Nat} {a b c : List PO} {w1 w2 : List Nat} (h : Ho n a b w1) (g : Ho n b c w2) : Ho n a c (w1 ++ w2) := fun k hk =>
 ⟨fun x => (h k hk).1 ((g k hk).1 x), fun x => ((h k hk).2.1 x).elim (fun y => ((g k hk).2.1 y).imp id (List.mem_append_right _)) (fun y => .inr (List.mem_append_left _ y)), fun x => (h k hk).2.2 ((g k hk).2.2 x)⟩
theorem Ho.oset {n : Nat} {os : List PO} {o : PO} {j : Nat} {wr : List Nat} (hb : held o → held (og os j)) (hf : held (og os j) → held o ∨ j ∈ wr) (hv : live o → live (og os j)) : Ho n os (PE.oset o os j) wr := fun k _ => by
 rw [yu];by_cases h : k = j ∧ j < os.length
 ·rw [if_pos h, h.1]; exact ⟨hb, hf, hv⟩
 ·rw [if_neg h]; exact ⟨id, .inl, id⟩
theorem Ho.app {n : Nat} {os : List PO} {o : PO} {wr : List Nat} (hn : n ≤ os.length) : Ho n os (os ++ [o]) wr := fun k hk => by
 rw [wm, if_neg (by omega)]; exact ⟨id, .inl, id⟩
theorem za0 {N : Nm} {k : Nat} {o : PO} {b : BN} (hh : held o) (H : RepO N k o) (hb : blk (N.μ k) = some b) : ∃ y, N.h.t.get b = some y := by
 cases o with
 | box cs => obtain ⟨b', x, k1, _, k3⟩ := yw (o := .box cs) trivial H; rw [k1] at hb; cases hb; exact ⟨x, k3⟩
 | arr st v =>
  cases v with
  | none => exact hh.elim
  | some xs => obtain ⟨b', x, k1, _, k3⟩ := yw (o := .arr st (some xs)) trivial H; rw [k1] at hb; cases hb; exact ⟨x, k3⟩
 | frz v =>
  obtain ⟨st, xs, rfl⟩ := hh;obtain ⟨b2, o2, off2, cap2, ex2, cs2, q1, q2, q3, _⟩ := Rep.lst_inv H;rw [q1] at hb;cases hb;exact ⟨_, q3⟩
 | fbox ds =>
  obtain ⟨b2, q1, q2⟩ := H;rw [q1] at hb;cases hb;obtain ⟨b3, o3, base3, cs3, p1, p2, p3, _⟩ := q2.fp_inv;cases p1;exact ⟨_, p3⟩
 | mp st xs => obtain ⟨b', x, k1, _, k3⟩ := yw (o := .mp st xs) trivial H; rw [k1] at hb; cases hb; exact ⟨x, k3⟩
 | dead => exact hh.elim
def BkE (N : Nm) (os : List PO) (N' : Nm) (wr : List Nat) : Prop :=
 ∀ (b : BN) y, N.h.t.get b = some y → (∀ j, j ∈ wr → j < N.n → live (og os j) → blk (N.μ j) ≠ some b) → N'.h.t.get b = some y
theorem Bk.ex {N N' : Nm} {os : List PO} {wr : List Nat} (K : Bk N os N' wr) (hw : HW N.h) : BkE N os N' wr := fun b y hy H => (K.eq b (hw b y hy) H).trans hy
structure Sim (E : En) (lk : Nat → Bool) (N : Nm) (os : List PO) (wr : List Nat) (N' : Nm) (os' : List PO) (v : AVal) (a : PA) : Prop where
 inv : InvO E N' os'
 nx : Nx N N'
 fr : Bk N os N' wr
 lock : ∀ j, lk j = true → og os' j = og os j
 ho : Ho N.n os os' wr
 val : RepPA N' v a
theorem Sim.quiet {E : En} {lk : Nat → Bool} {N : Nm} {os : List PO} {v : AVal} {a : PA} (I : InvO E N os) (H : RepPA N v a) : Sim E lk N os [] N os v a := ⟨I, .refl N, .same rfl, fun _ _ => rfl, .refl _ _ _, H⟩
structure Stp (E : En) (lk : Nat → Bool) (N : Nm) (os : List PO) (wr : List Nat) (N' : Nm) (os' : List PO) : Prop where
 inv : InvO E N' os'
 nx : Nx N N'
 fr : Bk N os N' wr
 lock : ∀ j, lk j = true → og os' j = og os j
 ho : Ho N.n os os' wr
theorem Stp.sim {E : En} {lk : Nat → Bool} {N N' : Nm} {os os' : List PO} {wr : List Nat} (S : Stp E lk N os wr N' os') {v : AVal} {a : PA} (H : RepPA N' v a) : Sim E lk N os wr N' os' v a := ⟨S.inv, S.nx, S.fr, S.lock, S.ho, H⟩
theorem Stp.refl {E : En} {lk : Nat → Bool} {N : Nm} {os : List PO} (I : InvO E N os) : Stp E lk N os [] N os := ⟨I, .refl N, .same rfl, fun _ _ => rfl, .refl _ _ _⟩
theorem Stp.trans {E : En} {lk : Nat → Bool} {A B C : Nm} {o1 o2 o3 : List PO} {w1 w2 : List Nat} (a : Stp E lk A o1 w1 B o2) (b : Stp E lk B o2 w2 C o3) (hn : B.n = A.n) : Stp E lk A o1 (w1 ++ w2) C o3 :=
 ⟨b.inv, a.nx.trans b.nx, ⟨Nat.le_trans a.fr.nle b.fr.nle, fun x hx H => (b.fr.eq x (Lz9 hx a.fr.nle) fun j hj hl hv hb => by
  have hA : j < A.n := hn ▸ hl;exact H j (List.mem_append_right _ hj) hA ((a.ho j hA).2.2 hv) (by rw [← a.nx.mu j hA]; exact hb)).trans (a.fr.eq x hx fun j hj hl hv => H j (List.mem_append_left _ hj) hl hv)⟩, fun j hj => (b.lock j hj).trans (a.lock j hj), a.ho.trans (by rw [← hn]; exact b.ho)⟩
structure Fz (N N' : Nm) : Prop where
 h : N'.h = N.h
 n : N'.n = N.n
 μ : N'.μ = N.μ
theorem Fz.refl (N : Nm) : Fz N N := ⟨rfl, rfl, rfl⟩
theorem Fz.trans {A B C : Nm} (a : Fz A B) (b : Fz B C) : Fz A C := ⟨b.h.trans a.h, b.n.trans a.n, b.μ.trans a.μ⟩
theorem zjm {cs : List CVal} {st n : Nat} (h : cs.length = n) : rd n 0 (.cells cs st) = some cs := by
 show cut n cs 0 = some cs;rw [← h];exact zdq cs
variable {E : En} {lk : Nat → Bool}
theorem zge {N : Nm} {k st : Nat} {v : OC} {fz' : BN → Prop} (g : FG N.fz N.h fz' N.h) (H : RepO N k (.arr st v)) (hb : v ≠ none → ∀ b, blk (N.μ k) = some b → fz' b) : Rep fz' N.h (N.μ k) (mkL st v) := by
 cases v with
 | none => rw [show N.μ k = .nils from H]; exact .nils
 | some xs =>
  obtain ⟨b, vs, ex, h1, h2, h3, h4, h5⟩ := H;rw [h1];refine Rep.lst_mk (cs := vs) (hb (by simp) b (by rw [h1]; rfl)) h3 (fun e => by rw [e]; exact LzB _) (zjm h4) fun i x hx => ⟨(h5 i x hx).1, (h5 i x hx).2.mono g⟩
theorem zle {N : Nm} {os : List PO} (I : InvO E N os) {k st : Nat} {v : OC} (ho : og os k = .arr st v) (hk : lk k = false) :
  ∃ N', Fz N N' ∧ Stp E lk N os [] N' (oset (.frz (mkL st v)) os k) ∧ Rep N'.fz N'.h (N.μ k) (mkL st v) := by
 have hlock : ∀ (o : PO) j, lk j = true → og (oset o os k) j = og os j := fun o j hj => by
  rw [yu, if_neg (fun e => by rw [e.1] at hj; rw [hj] at hk; cases hk)]
 have hO := I.obj k;rw [ho] at hO;cases v with
 | none =>
  have h1 : RepO N k (.frz (mkL st none)) := by
   show Rep _ _ _ _;rw [show N.μ k = .nils from hO]; exact .nils
  exact ⟨N, .refl N, ⟨I.turn k _ (fun e => e) h1, .refl N, Bk.same rfl, hlock _, .oset (fun ⟨_, _, h⟩ => by cases h) (fun h => by rw [ho] at h; exact h.elim) (fun h => h.elim)⟩, h1⟩
 | some xs =>
  obtain ⟨b, vs, ex, h1, h2, h3, h4, h5⟩ := hO;have hb : blk (N.μ k) = some b := by rw [h1]; rfl
  have hl : live (og os k) := by rw [ho]; trivial
  have g : FG N.fz N.h (fun b' => N.fz b' ∨ b' = b) N.h := ⟨fun _ _ h _ => .inl h, fun _ _ _ h => h⟩
  have hr : Rep (fun b' => N.fz b' ∨ b' = b) N.h (N.μ k) (mkL st (some xs)) := zge g (show RepO N k (.arr st (some xs)) from ⟨b, vs, ex, h1, h2, h3, h4, h5⟩) fun _ b' hb' => by rw [hb] at hb'; cases hb'; exact .inr rfl
  obtain ⟨i1, i2⟩ := I.freeze hl hb (.frz (mkL st (some xs))) (fun e => e) hr
  exact ⟨⟨N.μ, N.n, fun b' => N.fz b' ∨ b' = b, N.h⟩, ⟨rfl, rfl, rfl⟩, ⟨i1, i2, Bk.same rfl, hlock _, .oset (fun _ => by rw [ho]; trivial) (fun _ => .inl ⟨_, _, rfl⟩) (fun h => h.elim)⟩, hr⟩
theorem zcL {N : Nm} {fz : BN → Prop} {h : AHeap} {k st lo len : Nat} {c : CVal} {v : DV} (H : Rep fz h (N.μ k) v) (hc : RepPC N c (.vw k st lo len)) : Rep fz h c (zlZ st lo len v) := by
 obtain ⟨_, hc⟩ := hc;cases v <;> first | exact .u _ | skip
 ·have h1 := H.scal rfl;rcases hc with ⟨_, rfl, _, _⟩ | ⟨b, l, cap, ex, cap', ex', h2, _⟩
  ·exact .nils
  ·rw [h1] at h2; cases h2
 ·rename_i st' xs;show Rep fz h c (bif Nat.beq st st' then .lst st' ((xs.drop lo).take len) else .u)
  cases hs : Nat.beq st st' with
  | false => exact .u _
  | true =>
   have := Lz1 hs;subst this;obtain ⟨b, o, off, cap, ex, cs, e1, g1, g2, g3, g4, g5⟩ := H.lst_inv;rcases hc with ⟨h2, _⟩ | ⟨b', l, cap2, ex2, cap', ex', h2, rfl, h3, h4⟩
   ·rw [e1] at h2; cases h2
   ·rw [e1] at h2;cases h2;have hlen : ((xs.drop lo).take len).length = len := by simp; omega
    have ml : (lo + len) * st ≤ xs.length * st := Nat.mul_le_mul_right st h3;rw [Nat.add_mul] at ml;have := Rep.lst_mk (fz := fz) (off := 0 + lo * st) (cap := cap') (ex := ex') (xs := (xs.drop lo).take len) (cs := (cs.drop (lo * st)).take (len * st)) g1 g2 (by rw [hlen]; exact h4)
     (by rw [hlen]; exact zbS g4 ml) (fun i z hz => by
      rw [List.getElem?_take] at hz;split at hz
      ·rename_i hi;rw [List.getElem?_drop] at hz;obtain ⟨q1, q2⟩ := g5 _ _ hz;refine ⟨q1, ?_⟩;have e1 : List.take st (List.drop (i * st) (List.take (len * st) (List.drop (lo * st) cs))) = List.take st (List.drop ((lo + i) * st) cs) := by
        have := Nat.mul_le_mul_right st (show i + 1 ≤ len from hi)
        rw [Nat.succ_mul] at this;rw [List.drop_take, List.drop_drop, List.take_take, Nat.add_mul, Nat.min_eq_left (by omega)]
       rw [e1]; exact q2
      ·cases hz)
    rwa [hlen, Nat.zero_add] at this
theorem zrj : ∀ n : Nat,
  (∀ (os : List PO) (N : Nm) (c : CVal) (p : PC) (os' : List PO) (d : DV), InvO E N os → RepPC N c p → frC lk n os p = some (os', d) → ∃ N', Fz N N' ∧ Stp E lk N os [] N' os' ∧ Rep N'.fz N'.h c d) ∧
  (∀ (os : List PO) (N : Nm) (cs : List CVal) (ps : List PC) (os' : List PO) (ds : List DV), InvO E N os → RepPL N cs ps → frL lk n os ps = some (os', ds) → ∃ N', Fz N N' ∧ Stp E lk N os [] N' os' ∧ RepL N'.fz N'.h cs ds) ∧
  (∀ (os : List PO) (N : Nm) (qs : List (BN × Nat)) (xs : List (Nat ⊕ List DV)) (os' : List PO) (l : List (List DV)), InvO E N os → RepCaps N qs xs → frK lk n os xs = some (os', l) →
   ∃ N', Fz N N' ∧ Stp E lk N os [] N' os' ∧ RepL N'.fz N'.h (qs.map fun p => .ptr p.1 p.2) (l.map fun x => .fp x 0)) := by
 intro n
 induction n with
 | zero =>
  refine ⟨?_, ?_, ?_⟩
  ·intro os N c p os' d I H e;cases p with
   | d v => simp only [frC] at e; cases e; exact ⟨N, .refl N, .refl I, H⟩
   | own k =>
    simp only [frC] at e;obtain ⟨hk, rfl⟩ := H;cases ho : og os k with
    | frz v => rw [ho] at e; cases e; exact ⟨N, .refl N, .refl I, by have := I.obj k; rw [ho] at this; exact this⟩
    | arr st v =>
     rw [ho] at e;simp only at e;cases hlk : lk k with
     | true => rw [hlk] at e; cases e
     | false => rw [hlk] at e; cases e; exact zle I ho hlk
    | _ => rw [ho] at e; cases e
   | _ => simp only [frC] at e; cases e
  ·intro os N cs ps os' ds I H e;cases ps with
   | nil => simp only [frL] at e; cases e; cases cs with
    | nil => exact ⟨N, .refl N, .refl I, .nil _ _⟩
    | cons c cs => exact H.elim
   | cons p ps => simp only [frL] at e; cases e
  ·intro os N cs ps os' ds I H e;cases ps with
   | nil => simp only [frK] at e; cases e; cases cs with
    | nil => exact ⟨N, .refl N, .refl I, .nil _ _⟩
    | cons c cs => exact H.elim
   | cons p ps => simp only [frK] at e; cases e
 | succ n ih =>
  obtain ⟨ihC, ihL, ihK⟩ := ih;refine ⟨?_, ?_, ?_⟩
  ·intro os N c p os' d I H e;cases p with
   | d v => simp only [frC] at e; cases e; exact ⟨N, .refl N, .refl I, H⟩
   | own k =>
    simp only [frC] at e;obtain ⟨hk, rfl⟩ := H;cases ho : og os k with
    | frz v => rw [ho] at e; cases e; exact ⟨N, .refl N, .refl I, by have := I.obj k; rw [ho] at this; exact this⟩
    | arr st v =>
     rw [ho] at e;simp only at e;cases hlk : lk k with
     | true => rw [hlk] at e; cases e
     | false => rw [hlk] at e; cases e; exact zle I ho hlk
    | _ => rw [ho] at e; cases e
   | ptr k off =>
    simp only [frC] at e;obtain ⟨hk, b, hb, rfl⟩ := H;cases ho : og os k with
    | fbox ds =>
     rw [ho] at e; cases e;have := I.obj k;rw [ho] at this;obtain ⟨b', h1, h2⟩ := this;rw [hb] at h1; cases h1;obtain ⟨b1, o1, base, cs, e1, e2, e3, e4, e5⟩ := h2.fp_inv;cases e1;refine ⟨N, .refl N, .refl I, ?_⟩;have := Rep.fp_mk (off := off) e2 e3 e4 e5
     rwa [show (0 + off) = off by omega] at this
    | box cs =>
     rw [ho] at e;simp only at e;cases hlk : lk k with
     | true => rw [hlk] at e; cases e
     | false =>
      rw [hlk] at e;simp only [cond_false] at e;cases hf : frL lk n os cs with
      | none => rw [hf] at e; cases e
      | some p =>
       obtain ⟨os1, ds⟩ := p;rw [hf] at e;simp only at e;have hO := I.obj k;rw [ho] at hO;obtain ⟨b', vs, h1, h2, h3, h4⟩ := hO;rw [hb] at h1; cases h1;obtain ⟨N1, f1, s1, r1⟩ := ihL os N vs cs os1 ds I h4 hf;cases ho1 : og os1 k with
       | box cs' =>
        rw [ho1] at e;simp only at e;cases hq : Nat.beq cs'.length cs.length with
        | false => rw [hq] at e; cases e
        | true =>
         rw [hq] at e;cases e;have hl : live (og os1 k) := by rw [ho1]; trivial
         have hbk : blk (N1.μ k) = some b := by rw [f1.μ, hb]; rfl
         have g : FG N1.fz N1.h (fun b' => N1.fz b' ∨ b' = b) N1.h := ⟨fun _ _ h _ => .inl h, fun _ _ _ h => h⟩
         have h3' : N1.h.t.get b = some (.cells vs 0) := by rw [f1.h]; exact h3
         have hr : ∀ off, Rep (fun b' => N1.fz b' ∨ b' = b) N1.h (.ptr b off) (.fp ds off) := fun off => by
          have := Rep.fp_mk (fz := fun b' => N1.fz b' ∨ b' = b) (off := off) (base := 0) (.inr rfl) h3' (zjm r1.1) (r1.mono g)
          rwa [show (0 + off) = off by omega] at this
         obtain ⟨i1, i2⟩ := s1.inv.freeze hl hbk (.fbox ds) (fun e => e) ⟨b, by rw [f1.μ]; exact hb, hr 0⟩
         refine ⟨⟨N1.μ, N1.n, fun b' => N1.fz b' ∨ b' = b, N1.h⟩, f1.trans ⟨rfl, rfl, rfl⟩, s1.trans (w2 := []) ⟨i1, i2, Bk.same rfl, fun j hj => ?_, .oset (fun _ => by rw [ho1]; trivial) (fun _ => .inl trivial) (fun h => h.elim)⟩ f1.n, hr off⟩
         rw [yu, if_neg (fun e => by rw [e.1] at hj; rw [hj] at hlk; cases hlk)]
       | _ => rw [ho1] at e; cases e
    | _ => rw [ho] at e; cases e
   | ep k st i off => simp only [frC] at e; cases e
   | ip k off len st i o => simp only [frC] at e; cases e
   | vw k st lo len =>
    simp only [frC] at e;cases ho : og os k with
    | frz v => rw [ho] at e; cases e; exact ⟨N, .refl N, .refl I, zcL (by have := I.obj k; rw [ho] at this; exact this) H⟩
    | arr st' v =>
     rw [ho] at e;simp only at e;cases hlk : lk k with
     | true => rw [hlk] at e; cases e
     | false =>
      rw [hlk] at e; cases e;obtain ⟨N', f1, s1, r1⟩ := zle I ho hlk;exact ⟨N', f1, s1, zcL (N := N) r1 H⟩
    | _ => rw [ho] at e; cases e
   | clo f caps =>
    simp only [frC] at e;obtain ⟨ps, rfl, hc⟩ := H;cases hf : frK lk n os caps with
    | none => rw [hf] at e; cases e
    | some p =>
     obtain ⟨os1, l⟩ := p;rw [hf] at e; cases e;obtain ⟨N1, f1, s1, r1⟩ := ihK os N ps caps _ _ I hc hf;exact ⟨N1, f1, s1, .fn_mk r1⟩
  ·intro os N cs ps os' ds I H e;cases ps with
   | nil => simp only [frL] at e; cases e; cases cs with
    | nil => exact ⟨N, .refl N, .refl I, .nil _ _⟩
    | cons c cs => exact H.elim
   | cons p ps =>
    cases cs with
    | nil => exact H.elim
    | cons c cs =>
     simp only [frL] at e;cases h1 : frC lk n os p with
     | none => rw [h1] at e; cases e
     | some q =>
      obtain ⟨os1, d⟩ := q;rw [h1] at e;simp only at e;cases h2 : frL lk n os1 ps with
      | none => rw [h2] at e; cases e
      | some q =>
       obtain ⟨os2, ds2⟩ := q;rw [h2] at e; cases e;obtain ⟨N1, f1, s1, r1⟩ := ihC os N c p os1 d I H.1 h1;obtain ⟨N2, f2, s2, r2⟩ := ihL os1 N1 cs ps _ _ s1.inv (RepPL.mono s1.nx H.2) h2;exact ⟨N2, f1.trans f2, s1.trans s2 f1.n, .cons (r1.mono s2.nx.fg) r2⟩
  ·intro os N qs xs os' l I H e;cases xs with
   | nil => simp only [frK] at e; cases e; cases qs with
    | nil => exact ⟨N, .refl N, .refl I, .nil _ _⟩
    | cons c cs => exact H.elim
   | cons x xs =>
    cases qs with
    | nil => exact H.elim
    | cons q qs =>
     have hx : ∀ os1 d, (match x with | .inl k => frC lk n os (.ptr k 0) | .inr xs => some (os, .fp xs 0)) = some (os1, d) → ∃ N', Fz N N' ∧ Stp E lk N os [] N' os1 ∧ Rep N'.fz N'.h (.ptr q.1 q.2) d := by
      intro os1 d h1;cases x with
      | inl k =>
       obtain ⟨a1, a2, a3⟩ := H.1;exact ihC os N (.ptr q.1 q.2) (.ptr k 0) os1 d I ⟨a1, q.1, a2, by rw [a3]⟩ h1
      | inr xs => cases h1; exact ⟨N, .refl N, .refl I, H.1⟩
     have key : ∀ m : Option (List PO × DV), (∀ os1 d, m = some (os1, d) → ∃ N', Fz N N' ∧ Stp E lk N os [] N' os1 ∧ Rep N'.fz N'.h (.ptr q.1 q.2) d) →
       (match m with
        | some (os', .fp x 0) =>
         match frK lk n os' xs with
         | some (os'', xs) => some (os'', x :: xs)
         | none => none
        | _ => none) = some (os', l) → ∃ N', Fz N N' ∧ Stp E lk N os [] N' os' ∧ RepL N'.fz N'.h ((q :: qs).map fun p => .ptr p.1 p.2) (l.map fun x => .fp x 0) := by
      intro m hm e;split at e
      ·rename_i os1 y;cases h2 : frK lk n os1 xs with
       | none => rw [h2] at e; cases e
       | some q2 =>
        obtain ⟨os2, l2⟩ := q2;rw [h2] at e; cases e;obtain ⟨N1, f1, s1, r1⟩ := hm os1 _ rfl;obtain ⟨N2, f2, s2, r2⟩ := ihK os1 N1 qs xs _ _ s1.inv (RepCaps.mono s1.nx H.2) h2;exact ⟨N2, f1.trans f2, s1.trans s2 f1.n, .cons (r1.mono s2.nx.fg) r2⟩
      ·cases e
     exact key _ hx e
theorem zew {n : Nat} {os os' : List PO} {N : Nm} {c : CVal} {p : PC} {d : DV} (I : InvO E N os) (H : RepPC N c p) (e : frC lk n os p = some (os', d)) : ∃ N', Fz N N' ∧ Stp E lk N os [] N' os' ∧ Rep N'.fz N'.h c d := (zrj n).1 _ _ _ _ _ _ I H e
theorem zhd {n : Nat} {os os' : List PO} {N : Nm} {cs : List CVal} {ps : List PC} {ds : List DV} (I : InvO E N os) (H : RepPL N cs ps) (e : frL lk n os ps = some (os', ds)) : ∃ N', Fz N N' ∧ Stp E lk N os [] N' os' ∧ RepL N'.fz N'.h cs ds := (zrj n).2.1 _ _ _ _ _ _ I H e
theorem zev {os os' : List PO} {N : Nm} {v : SVal} {p : PV} {d : DS} (I : InvO E N os) (H : RepPV N v p) (e : frV lk os p = some (os', d)) : ∃ N', Fz N N' ∧ Stp E lk N os [] N' os' ∧ RepS N'.fz N'.h v d := by
 cases p with
 | one c =>
  cases v with
  | agg cs => exact H.elim
  | one x =>
   simp only [frV] at e;cases h1 : frC lk y7 os c with
   | none => rw [h1] at e; cases e
   | some q => obtain ⟨o1, d1⟩ := q; rw [h1] at e; cases e; exact zew I H h1
 | agg cs =>
  cases v with
  | one x => exact H.elim
  | agg xs =>
   simp only [frV] at e;cases h1 : frL lk y7 os cs with
   | none => rw [h1] at e; cases e
   | some q => obtain ⟨o1, d1⟩ := q; rw [h1] at e; cases e; exact zhd I H h1
def RepPAL (N : Nm) : List AVal → List PA → Prop
 | [], [] => True
 | c :: cs, d :: ds => RepPA N c d ∧ RepPAL N cs ds
 | _, _ => False
theorem RepPAL.mono {N N' : Nm} (g : Nx N N') : ∀ {c : List AVal} {d : List PA}, RepPAL N c d → RepPAL N' c d
 | [], [], _ => trivial
 | _ :: _, _ :: _, H => ⟨H.1.mono g, RepPAL.mono g H.2⟩
 | [], _ :: _, H => H.elim
 | _ :: _, [], H => H.elim
theorem zkH : ∀ {as : List PA} {vs : List AVal} {os os' : List PO} {N : Nm} {ds : List DA}, InvO E N os → RepPAL N vs as → frA lk os as = some (os', ds) → ∃ N', Fz N N' ∧ Stp E lk N os [] N' os' ∧ RepAL N'.fz N'.h vs ds
 | [], [], os, os', N, ds, I, H, e => by simp only [frA] at e; cases e; exact ⟨N, .refl N, .refl I, trivial⟩
 | .s p :: as, v :: vs, os, os', N, ds, I, H, e => by
  simp only [frA] at e;cases h1 : frV lk os p with
  | none => rw [h1] at e; cases e
  | some q =>
   obtain ⟨o1, d1⟩ := q;rw [h1] at e;simp only at e;cases h2 : frA lk o1 as with
   | none => rw [h2] at e; cases e
   | some q =>
    obtain ⟨o2, ds2⟩ := q;rw [h2] at e; cases e;obtain ⟨w, rfl, hw⟩ := H.1.inv
    ·obtain ⟨N1, f1, s1, r1⟩ := zev I hw h1;obtain ⟨N2, f2, s2, r2⟩ := zkH s1.inv (RepPAL.mono s1.nx H.2) h2;exact ⟨N2, f1.trans f2, s1.trans s2 f1.n, .of (r1.mono s2.nx.fg), r2⟩
 | .tup l :: as, _ :: _, os, os', N, ds, I, H, e => by simp only [frA] at e; cases e
 | .bad :: as, _ :: _, os, os', N, ds, I, H, e => by simp only [frA] at e; cases e
 | .undef :: as, _ :: _, os, os', N, ds, I, H, e => by simp only [frA] at e; cases e
 | [], _ :: _, _, _, _, _, _, H, _ => H.elim
 | _ :: _, [], _, _, _, _, _, H, _ => H.elim
end Go.PE
end
section
namespace Go.PE
open Go Go.CE
def Goal {β : Type} (C : Nat → zh) (E : En) (lk : Nat → Bool) (N : Nm) (os : List PO) (r : Fr) (ko : KOp) (k : KT β) (x : β) : Prop :=
 ∃ a os' wr rd, k a os' wr rd = some x ∧ Ev (fun n => runK r ko (C n) N.h) (fun p => ∃ N', N'.h = p.2 ∧ Sim E lk N os wr N' os' p.1 a)
def trk (ρ : Nat → PA) : KOp → Option Operand
 | .mv x => some x
 | .foff x _ => some x
 | .field x _ _ => some x
 | .ixs _ x _ => match pv ρ x with | some (.s (.one (.own _))) => none | some (.s (.one (.vw _ _ _ _))) => none | _ => some x
 | .extract x _ => some x
 | .nilck x => some x
 | _ => none
def memX : KOp → Option Operand
 | .load _ x => some x
 | .b2s x => some x
 | _ => none
def MemI (N : Nm) (os : List PO) (r : Fr) (ρ : Nat → PA) (xo : Operand) (rd : List Nat) : Prop :=
  ∃ w, kv r xo = some (.s (.one w)) ∧ (blk w = none ∨ ∃ b, blk w = some b ∧
    ((∃ j, rd = [j] ∧ j < N.n ∧ blk (N.μ j) = some b ∧ held (og os j) ∧ ∀ N' : Nm, (∀ u pa, kv r xo = some u → pv ρ xo = some pa → RepPA N' u pa) → j < N'.n) ∨
     (rd = [] ∧ ∀ N' : Nm, (∀ u pa, kv r xo = some u → pv ρ xo = some pa → RepPA N' u pa) → N'.fz b ∧ ∃ y, N'.h.t.get b = some y)))
def GoalQ {β : Type} (N : Nm) (os : List PO) (r : Fr) (ρ : Nat → PA) (ko : KOp) (k : KT β) (x : β) : Prop :=
 ∃ v a rd, k a os [] rd = some x ∧ (∀ call, runK r ko call N.h = some (v, N.h)) ∧ RepPA N v a ∧ (∀ xo, trk ρ ko = some xo → ∀ (N' : Nm) u pa, kv r xo = some u → pv ρ xo = some pa → RepPA N' u pa → RepPA N' v a) ∧
  (∀ xo, memX ko = some xo → MemI N os r ρ xo rd)
section
variable {β : Type} {C : Nat → zh} {E : En} {lk : Nat → Bool} {N : Nm} {os : List PO} {r : Fr} {ρ : Nat → PA}
theorem GoalQ.quiet {ko : KOp} {k : KT β} {x : β} (_ : InvO E N os) {v : AVal} {a : PA} {rd : List Nat} (e : ∀ call, runK r ko call N.h = some (v, N.h)) (H : RepPA N v a) (hk : k a os [] rd = some x) (ht : ∀ xo, trk ρ ko = some xo → ∀ (N' : Nm) u pa, kv r xo = some u → pv ρ xo = some pa → RepPA N' u pa → RepPA N' v a := by intro _ h; cases h) (hm : ∀ xo, memX ko = some xo → MemI N os r ρ xo rd := by intro _ h; cases h) : GoalQ N os r ρ ko k x := ⟨v, a, rd, hk, e, H, ht, hm⟩
theorem Goal.quiet {ko : KOp} {k : KT β} {x : β} (I : InvO E N os) {v : AVal} {a : PA} {rd : List Nat} (e : ∀ call, runK r ko call N.h = some (v, N.h)) (H : RepPA N v a) (hk : k a os [] rd = some x) : Goal C E lk N os r ko k x :=
 ⟨a, os, [], rd, hk, ⟨(v, N.h), ⟨N, rfl, .quiet I H⟩, 0, fun n _ => e (C n)⟩⟩
theorem zaY {a : Operand} {u0 : AVal} {p0 : PA} {v : AVal} {a' : PA} (ku : kv r a = some u0) (kp : pv ρ a = some p0) (H : ∀ N' : Nm, RepPA N' u0 p0 → RepPA N' v a') : ∀ xo, some a = some xo → ∀ (N' : Nm) u pa, kv r xo = some u → pv ρ xo = some pa → RepPA N' u pa → RepPA N' v a' := by
 intro xo h n u pa h1 h2 h3;cases h;rw [ku] at h1; cases h1;rw [kp] at h2; cases h2;exact H n h3
theorem GoalQ.goal {ko : KOp} {k : KT β} {x : β} (I : InvO E N os) (G : GoalQ N os r ρ ko k x) : Goal C E lk N os r ko k x := by
 obtain ⟨v, a, rd, h1, h2, h3, _, _⟩ := G;exact .quiet I h2 h3 h1
theorem zrx {fz : BN → Prop} {h : AHeap} {c : CVal} {d : DV} (e : cD c = some d) : Rep fz h c d := by
 cases c <;> simp only [cD] at e <;> first | cases e | skip
 ·exact .bool _
 ·exact .int _ _
 ·exact .str _
 ·exact .nilp
 ·exact .nils
 ·exact .nilm
 ·rename_i f caps;cases caps with
  | nil => cases e; exact .fn_mk (.nil _ _)
  | cons a l => cases e
 ·exact .nilf
 ·exact .nili
theorem kO : ∀ {cs : List CVal} {ps : List PC}, cDs cs = some ps → RepPL N cs ps
 | [], ps, e => by cases e; trivial
 | c :: cs, ps, e => by
  simp only [cDs] at e;cases h1 : cD c with
  | none => rw [h1] at e; cases e
  | some d =>
   cases h2 : cDs cs with
   | none => rw [h1, h2] at e; cases e
   | some ds => rw [h1, h2] at e; cases e; exact ⟨zrx h1, kO h2⟩
theorem zjp {s : SVal} {p : PV} (e : pvS s = some p) : RepPV N s p := by
 cases s with
 | one c =>
  simp only [pvS] at e;cases h1 : cD c with
  | none => rw [h1] at e; cases e
  | some d => rw [h1] at e; cases e; exact zrx h1
 | agg cs =>
  simp only [pvS] at e;cases h1 : cDs cs with
  | none => rw [h1] at e; cases e
  | some ds => rw [h1] at e; cases e; exact kO h1
theorem x4 (F : ∀ i, RepPA N (r i) (ρ i)) {x : Operand} {a : PA} (e : pv ρ x = some a) : ∃ v, kv r x = some v ∧ RepPA N v a := by
 cases x with
 | tmp t => cases e; exact ⟨_, rfl, F t⟩
 | const v =>
  simp only [pv] at e;cases hv : cVal v with
  | none => rw [hv] at e; cases e
  | some s =>
   rw [hv] at e;simp only at e;cases hp : pvS s with
   | none => rw [hp] at e; cases e
   | some p => rw [hp] at e; cases e; exact ⟨.s s, by simp only [kv, hv], .of (zjp hp)⟩
 | func f => cases e; exact ⟨_, rfl, RepPA.of (p := .one (.d (.fn f []))) (v := .one (.fn f [])) (Rep.fn_mk (.nil _ _))⟩
 | global g => cases e
theorem zdX (F : ∀ i, RepPA N (r i) (ρ i)) : ∀ {xs : List Operand} {as : List PA}, pvs ρ xs = some as → ∃ vs, kvs r xs = some vs ∧ RepPAL N vs as
 | [], as, e => by cases e; exact ⟨[], rfl, trivial⟩
 | x :: xs, as, e => by
  simp only [pvs] at e;cases h1 : pv ρ x with
  | none => rw [h1] at e; cases e
  | some a =>
   cases h2 : pvs ρ xs with
   | none => rw [h1, h2] at e; cases e
   | some l =>
    rw [h1, h2] at e; cases e;obtain ⟨v, k1, k2⟩ := x4 F h1;obtain ⟨vs, k3, k4⟩ := zdX F h2;exact ⟨v :: vs, by simp only [kvs, k1, k3], k2, k4⟩
theorem vU (F : ∀ i, RepPA N (r i) (ρ i)) {x : Operand} {K : PC → Option β} {y : β} (e : w1 (pv ρ x) K = some y) : ∃ c v, K c = some y ∧ kv r x = some v ∧ RepPA N v (pc c) ∧ pv ρ x = some (pc c) := by
 cases h : pv ρ x with
 | none => rw [h] at e; cases e
 | some a =>
  rw [h] at e;cases a with
  | tup l => cases e
  | bad => cases e
  | undef => cases e
  | s p =>
   cases p with
   | agg cs => cases e
   | one c =>
    obtain ⟨v, k1, k2⟩ := x4 F h;exact ⟨c, v, e, k1, k2, rfl⟩
theorem wp (F : ∀ i, RepPA N (r i) (ρ i)) {x : Operand} {K : DV → Option β} {y : β} (e : wd (pv ρ x) K = some y) : ∃ d v, K d = some y ∧ kv r x = some v ∧ RepPA N v (pd d) := by
 cases h : pv ρ x with
 | none => rw [h] at e; cases e
 | some a =>
  rw [h] at e;cases a with
  | tup l => cases e
  | bad => cases e
  | undef => cases e
  | s p =>
   cases p with
   | agg cs => cases e
   | one c =>
    cases c with
    | d d =>
     obtain ⟨v, k1, k2⟩ := x4 F h;exact ⟨d, v, e, k1, k2⟩
    | _ => cases e
theorem zj {α : Type} {o : Option α} {K : α → Option β} {y : β} (e : za o K = some y) : ∃ a, o = some a ∧ K a = some y := by
 cases o with
 | none => cases e
 | some a => exact ⟨a, rfl, e⟩
theorem yf {v : AVal} {c : PC} (H : RepPA N v (pc c)) : ∃ w, v = .s (.one w) ∧ RepPC N w c := by
 obtain ⟨w, rfl, hw⟩ := H.inv;cases w with
 | one w => exact ⟨w, rfl, hw⟩
 | agg cs => exact hw.elim
theorem x5 {v : AVal} {d : DV} (H : RepPA N v (pd d)) : ∃ w, v = .s (.one w) ∧ Rep N.fz N.h w d := yf H
theorem z8 {v : AVal} {d : DV} {c : CVal} (H : RepPA N v (pd d)) (e : d.scal = some c) : v = .s (.one c) := by
 obtain ⟨w, rfl, hw⟩ := x5 H;rw [hw.scal e]
theorem yB {d : DV} {c : CVal} (e : d.scal = some c) : RepPA N (.s (.one c)) (pd d) := RepPA.of (p := .one (.d d)) (v := .one c) (Rep.ofScal e)
theorem vz {d : DV} {c : CVal} (e : Rep N.fz N.h c d) : RepPA N (.s (.one c)) (pd d) := RepPA.of (p := .one (.d d)) (v := .one c) e
theorem yZ {p : PC} {c : CVal} (e : RepPC N c p) : RepPA N (.s (.one c)) (pc p) := RepPA.of (p := .one p) (v := .one c) e
theorem zoW {o : Option CVal} {z : DV} (e : oD o = some z) : ∃ c, o = some c ∧ z.scal = some c := by
 cases o with
 | none => cases e
 | some c => cases c <;> simp only [oD] at e <;> cases e <;> exact ⟨_, rfl, rfl⟩
variable {k : KT β} {x : β}
theorem o_mv (I : InvO E N os) (F : ∀ i, RepPA N (r i) (ρ i)) {a : Operand} (e : za (pv ρ a) (fun a => k a os [] []) = some x) : GoalQ N os r ρ (.mv a) k x := by
 obtain ⟨p, h1, h2⟩ := zj e;obtain ⟨v, k1, k2⟩ := x4 F h1;exact .quiet I (fun call => by simp only [runK, k1, zC]) k2 h2 (zaY k1 h1 fun N' H => H)
theorem zqX (I : InvO E N os) (F : ∀ i, RepPA N (r i) (ρ i)) {op : BinOp} {a b : Operand} (e : wd (pv ρ a) (fun v => wd (pv ρ b) fun w => za (pBin op v w) fun z => k (pd z) os [] []) = some x) : GoalQ N os r ρ (.bin op a b) k x := by
 have hh := wp F e;clear e;obtain ⟨v, va, e, ka, ra⟩ := hh;have hh := wp F e;clear e;obtain ⟨w, vb, e, kb, rb⟩ := hh;have hh := zj e;clear e;obtain ⟨z, hz, e⟩ := hh;cases v <;> cases w <;> simp only [pBin] at hz <;> first | cases hz | skip
 rename_i k1 n1 k2 n2;cases hk : eqK k1 k2 with
 | false => rw [hk] at hz; cases hz
 | true =>
  rw [hk] at hz;obtain ⟨c, h1, h2⟩ := zoW hz;rw [z8 ra rfl] at ka;rw [z8 rb rfl] at kb;refine .quiet I (v := .s (.one c)) (fun call => ?_) (yB h2) e
  simp only [runK, ka, kb, zC];show (bif eqK k1 k2 then retC N.h (wQ op k1 n1 n2) else none) = _
  rw [hk, h1]; rfl
theorem zjM (I : InvO E N os) (F : ∀ i, RepPA N (r i) (ρ i)) {l : Bool} {a b : Operand} (e : wd (pv ρ a) (fun v => wd (pv ρ b) fun w => za (jo l v w) fun z => k (pd z) os [] []) = some x) : GoalQ N os r ρ (.shift l a b) k x := by
 have hh := wp F e;clear e;obtain ⟨v, va, e, ka, ra⟩ := hh;have hh := wp F e;clear e;obtain ⟨w, vb, e, kb, rb⟩ := hh;have hh := zj e;clear e;obtain ⟨z, hz, e⟩ := hh;cases v <;> cases w <;> simp only [jo] at hz <;> first | cases hz | skip
 rename_i k1 n1 k2 n2;obtain ⟨c, h1, h2⟩ := zoW hz;rw [z8 ra rfl] at ka;rw [z8 rb rfl] at kb;refine .quiet I (v := .s (.one c)) (fun call => ?_) (yB h2) e
 simp only [runK, ka, kb, zC];show retC N.h ((bif l then zdg else zdf) k1 n1 n2) = _
 rw [h1]; rfl
theorem zqP (I : InvO E N os) (F : ∀ i, RepPA N (r i) (ρ i)) {op : BinOp} {a b : Operand} (e : wd (pv ρ a) (fun v => wd (pv ρ b) fun w => za (pStr op v w) fun z => k (pd z) os [] []) = some x) : GoalQ N os r ρ (.str op a b) k x := by
 have hh := wp F e;clear e;obtain ⟨v, va, e, ka, ra⟩ := hh;have hh := wp F e;clear e;obtain ⟨w, vb, e, kb, rb⟩ := hh;have hh := zj e;clear e;obtain ⟨z, hz, e⟩ := hh;cases v <;> cases w <;> simp only [pStr] at hz <;> first | cases hz | skip
 rename_i s1 s2;obtain ⟨c, h1, h2⟩ := zoW hz;rw [z8 ra rfl] at ka;rw [z8 rb rfl] at kb;refine .quiet I (v := .s (.one c)) (fun call => ?_) (yB h2) e
 simp only [runK, ka, kb, zC];show retC N.h (zmR op s1 s2) = _;rw [h1]; rfl
theorem zqQ (I : InvO E N os) (F : ∀ i, RepPA N (r i) (ρ i)) {a : Operand} (e : wd (pv ρ a) (fun v => za (pNot v) fun z => k (pd z) os [] []) = some x) : GoalQ N os r ρ (.not a) k x := by
 have hh := wp F e;clear e;obtain ⟨v, va, e, ka, ra⟩ := hh;have hh := zj e;clear e;obtain ⟨z, hz, e⟩ := hh;cases v <;> simp only [pNot] at hz <;> cases hz;rw [z8 ra rfl] at ka;exact .quiet I (fun call => by simp only [runK, ka, zC]; rfl) (yB rfl) e
theorem zqR (I : InvO E N os) (F : ∀ i, RepPA N (r i) (ρ i)) {a : Operand} (e : wd (pv ρ a) (fun v => za (pNeg v) fun z => k (pd z) os [] []) = some x) : GoalQ N os r ρ (.neg a) k x := by
 have hh := wp F e;clear e;obtain ⟨v, va, e, ka, ra⟩ := hh;have hh := zj e;clear e;obtain ⟨z, hz, e⟩ := hh;cases v <;> simp only [pNeg] at hz <;> cases hz;rw [z8 ra rfl] at ka;exact .quiet I (fun call => by simp only [runK, ka, zC]; rfl) (yB rfl) e
theorem znx (I : InvO E N os) (F : ∀ i, RepPA N (r i) (ρ i)) {t : IntKind} {a : Operand} (e : wd (pv ρ a) (fun v => za (yQ t v) fun z => k (pd z) os [] []) = some x) : GoalQ N os r ρ (.conv t a) k x := by
 have hh := wp F e;clear e;obtain ⟨v, va, e, ka, ra⟩ := hh;have hh := zj e;clear e;obtain ⟨z, hz, e⟩ := hh;cases v <;> simp only [yQ] at hz <;> cases hz;rw [z8 ra rfl] at ka;exact .quiet I (fun call => by simp only [runK, ka, zC]; rfl) (yB rfl) e
theorem znu (I : InvO E N os) (F : ∀ i, RepPA N (r i) (ρ i)) {a : Operand} (e : wd (pv ρ a) (fun v => za (zh8 v) fun z => k (pd z) os [] []) = some x) : GoalQ N os r ρ (.lenS a) k x := by
 have hh := wp F e;clear e;obtain ⟨v, va, e, ka, ra⟩ := hh;have hh := zj e;clear e;obtain ⟨z, hz, e⟩ := hh;cases v <;> simp only [zh8] at hz <;> cases hz;rw [z8 ra rfl] at ka;exact .quiet I (fun call => by simp only [runK, ka, zC]; rfl) (yB rfl) e
theorem zhA : ∀ {l : List UInt8} {i : Nat} {z : DV}, zgb l i = some z → ∃ c, zbl l i = some c ∧ z.scal = some c
 | [], i, z, e => by cases e
 | u :: l, i, z, e => by
  simp only [zgb, zbl] at e ⊢;cases hb : Nat.beq i 0 with
  | true => rw [hb] at e; cases e; exact ⟨_, rfl, rfl⟩
  | false => rw [hb] at e; exact zhA e
theorem zjP (I : InvO E N os) (F : ∀ i, RepPA N (r i) (ρ i)) {a b : Operand} (e : wd (pv ρ a) (fun v => wd (pv ρ b) fun w => za (qx v w) fun z => k (pd z) os [] []) = some x) : GoalQ N os r ρ (.ixstr a b) k x := by
 have hh := wp F e;clear e;obtain ⟨v, va, e, ka, ra⟩ := hh;have hh := wp F e;clear e;obtain ⟨w, vb, e, kb, rb⟩ := hh;have hh := zj e;clear e;obtain ⟨z, hz, e⟩ := hh;cases v <;> first | cases hz | skip
 cases w <;> first | cases hz | skip
 rename_i s kk n;cases n with
 | negSucc n => cases hz
 | ofNat n =>
  simp only [qx] at hz;obtain ⟨c, h1, h2⟩ := zhA hz;rw [z8 ra rfl] at ka;rw [z8 rb rfl] at kb;refine .quiet I (v := .s (.one c)) (fun call => ?_) (yB h2) e
  simp only [runK, ka, kb, zC];show retC N.h (zbl s.data.toList n) = _;rw [h1]; rfl
theorem vR {t : Tr AVal} {x : Option DV} {o : Option AVal} {d y i : Nat} (hx : ∀ v, x = some v → ∃ w, o = some w ∧ RepPA N w (pd v)) (hn : x = none → o = none) (e : bndD x d y = some i) : bnd t (cO o) d y = some i := by
 cases x with
 | none => rw [hn rfl]; exact e
 | some v =>
  obtain ⟨w, rfl, hw⟩ := hx v rfl;cases v <;> first | cases e | skip
  rename_i kk n;cases n with
  | negSucc n => cases e
  | ofNat n => rw [z8 hw rfl]; exact e
theorem zgD (F : ∀ i, RepPA N (r i) (ρ i)) {a : Option Operand} {x : Option DV} (e : pvo ρ a = some x) : ∃ o, kvo r a = some o ∧ (∀ v, x = some v → ∃ w, o = some w ∧ RepPA N w (pd v)) ∧ (x = none → o = none) := by
 cases a with
 | none => cases e; exact ⟨none, rfl, fun v h => (by cases h), fun _ => rfl⟩
 | some a =>
  simp only [pvo] at e;split at e
  ·rename_i v hv;cases e;obtain ⟨w, k1, k2⟩ := x4 F hv;exact ⟨some w, by simp only [kvo, k1], fun v h => by cases h; exact ⟨w, rfl, k2⟩, fun h => by cases h⟩
  ·cases e
theorem zgQ (I : InvO E N os) (F : ∀ i, RepPA N (r i) (ρ i)) {a : Operand} {lo hi : Option Operand} (e : wd (pv ρ a) (fun v => za (pvo ρ lo) fun lo => za (pvo ρ hi) fun hi => za (zfm v lo hi) fun z => k (pd z) os [] []) = some x) : GoalQ N os r ρ (.sslice a lo hi) k x := by
 have hh := wp F e;clear e;obtain ⟨v, va, e, ka, ra⟩ := hh;have hh := zj e;clear e;obtain ⟨l, hl, e⟩ := hh;have hh := zj e;clear e;obtain ⟨h, hh, e⟩ := hh;have hh := zj e;clear e;obtain ⟨z, hz, e⟩ := hh;obtain ⟨ol, kl, l1, l2⟩ := zgD F hl;obtain ⟨oh, kh, h1, h2⟩ := zgD F hh;cases v <;> first | cases hz | skip
 rename_i s;simp only [zfm] at hz;cases hb : bndD h s.size s.size with
 | none => rw [hb] at hz; cases hz
 | some y =>
  rw [hb] at hz;simp only at hz;cases hb2 : bndD l 0 y with
  | none => rw [hb2] at hz; cases hz
  | some q =>
   rw [hb2] at hz; cases hz;rw [z8 ra rfl] at ka;refine .quiet I (v := .s (.one (.str (s.extract q y)))) (fun call => ?_) (yB rfl) e
   simp only [runK, ka, kl, kh, zC];show xi (zp (.s (.one (.str s)))) (cO ol) (cO oh) yc .nil N.h = _;simp only [xi, zp, vR h1 h2 hb, vR l1 l2 hb2]
theorem zkd {m : Bool} {t : IntKind} : ∀ {l : List DV} {vs : List AVal} {a z : Int}, (∀ (j : Nat) (d : DV) (v : AVal), l[j]? = some d → vs[j]? = some v → RepPA N v (pd d)) → vs.length = l.length → minD m t l a = some z → minI m t .nil (cL vs) a = some z
 | [], [], a, z, _, _, e => e
 | d :: l, v :: vs, a, z, H, hl, e => by
  cases d <;> first | cases e | skip
  rename_i t' n;simp only [minD] at e;have := z8 (H 0 _ _ rfl rfl) rfl;subst this;show minI m t .nil (zp _ :: cL vs) a = some z;simp only [minI, zp];cases hk : eqK t t' with
  | false => rw [hk] at e; cases e
  | true =>
   rw [hk] at e;exact zkd (fun j d v h1 h2 => H (j + 1) d v (by simpa using h1) (by simpa using h2)) (by simpa using hl) e
 | [], _ :: _, _, _, _, hl, _ => by simp at hl
 | _ :: _, [], _, _, _, hl, _ => by simp at hl
theorem znm (F : ∀ i, RepPA N (r i) (ρ i)) : ∀ {xs : List Operand} {l : List DV}, pvd ρ xs = some l → ∃ vs, kvs r xs = some vs ∧ vs.length = l.length ∧ ∀ (j : Nat) (d : DV) (v : AVal), l[j]? = some d → vs[j]? = some v → RepPA N v (pd d)
 | [], l, e => by cases e; exact ⟨[], rfl, rfl, fun j d v h => by simp at h⟩
 | x :: xs, l, e => by
  simp only [pvd] at e;split at e
  ·rename_i v l' hv hl;cases e;obtain ⟨w, k1, k2⟩ := x4 F hv;obtain ⟨vs, k3, k4, k5⟩ := znm F hl;refine ⟨w :: vs, by simp only [kvs, k1, k3], by simp [k4], fun j d u h1 h2 => ?_⟩
   cases j with
   | zero => simp only [List.getElem?_cons_zero, Option.some.injEq] at h1 h2; subst h1; subst h2; exact k2
   | succ j => exact k5 j d u (by simpa using h1) (by simpa using h2)
  ·cases e
theorem zgR (I : InvO E N os) (F : ∀ i, RepPA N (r i) (ρ i)) {m : Bool} {a : Operand} {xs : List Operand} (e : wd (pv ρ a) (fun v => za (pvd ρ xs) fun l => za (vZ m v l) fun z => k (pd z) os [] []) = some x) : GoalQ N os r ρ (.minmax m a xs) k x := by
 have hh := wp F e;clear e;obtain ⟨v, va, e, ka, ra⟩ := hh;have hh := zj e;clear e;obtain ⟨l, hl, e⟩ := hh;have hh := zj e;clear e;obtain ⟨z, hz, e⟩ := hh;obtain ⟨vs, k3, k4, k5⟩ := znm F hl;cases v <;> first | cases hz | skip
 rename_i t n;simp only [vZ] at hz;cases hm : minD m t l n with
 | none => rw [hm] at hz; cases hz
 | some q =>
  rw [hm] at hz; cases hz;rw [z8 ra rfl] at ka;refine .quiet I (v := .s (.one (.int t q))) (fun call => ?_) (yB rfl) e
  simp only [runK, ka, k3, zC];show yT m (zp (.s (.one (.int t n)))) (cL vs) yc .nil N.h = _;simp only [yT, zp, zkd k5 k4 hm]
theorem znq (I : InvO E N os) (F : ∀ i, RepPA N (r i) (ρ i)) {c a b : Operand} (e : wd (pv ρ c) (fun v => za (pv ρ a) fun a => za (pv ρ b) fun b =>
  match a, b with
  | .s (.one (.d x)), .s (.one (.d y)) => za (zoJ v x y) fun z => k (pd z) os [] []
  | a, b => ifB v (k a os [] []) (k b os [] [])) = some x) : GoalQ N os r ρ (.pick c a b) k x := by
 have hh := wp F e;clear e;obtain ⟨v, vc, e, kc, rc⟩ := hh;have hh := zj e;clear e;obtain ⟨pa, ha, e⟩ := hh;have hh := zj e;clear e;obtain ⟨pb, hb, e⟩ := hh;obtain ⟨va, ka, ra⟩ := x4 F ha;obtain ⟨vb, kb, rb⟩ := x4 F hb;have hv : ∃ q, v = .bool q ∧ k (bif q then pa else pb) os [] [] = some x := by
  split at e
  ·have hh := zj e;clear e;obtain ⟨z, hz, e⟩ := hh;cases v <;> simp only [zoJ] at hz <;> cases hz;rename_i q;exact ⟨q, rfl, by cases q <;> exact e⟩
  ·cases v <;> first | cases e | skip
   rename_i q;exact ⟨q, rfl, by cases q <;> exact e⟩
 obtain ⟨q, rfl, hk⟩ := hv;rw [z8 rc rfl] at kc;refine .quiet I (v := bif q then va else vb) (fun call => by simp only [runK, ka, kb, kc, zC]; rfl) ?_ hk
 cases q
 ·exact rb
 ·exact ra
end
end Go.PE
end
