/-
  Lemmas: PEg, PEh, PEha, PEi, PEj, PEk, PEl, PEo, PEp, PEq, PEr, PEs. No condition.
-/
import Derived.Test.YthfdnggfegbbkaaGreatDoorVc
section
namespace Go.PE
open Go Go.CE
section
variable {β : Type} {C : Nat → zh} {E : En} {lk : Nat → Bool} {N : Nm} {os : List PO} {r : Fr} {ρ : Nat → PA} {k : KT β} {x : β}
theorem zjy {n : Option Nat} {ps : List PC} {off : Nat} {K : PV → Option β} {y : β} (e : zd1 n ps off K = some y) : n ≠ some 0 ∧ qO n ps off K = some y := by
 unfold zd1 at e;split at e
 ·cases e
 ·rename_i h; exact ⟨h, e⟩
theorem zcM {n : Option Nat} {ps : List PC} {cs : List CVal} {base off m : Nat} {o : AObj} {K : PV → Option β} {y : β} (h : AHeap) (hr : rd m base o = some cs) (H : RepPL N cs ps) (h0 : n ≠ some 0 ∨ o ≠ .void) (e : qO n ps off K = some y) :
  ∃ p s, K p = some y ∧ loadAt n h (base + off) (some o) = some (.s s, h) ∧ RepPV N s p := by
 cases n with
 | none =>
  simp only [qO] at e;obtain ⟨c, hc, e⟩ := zj e;have hl := H.len;have hi := (Lz0.1 hc).1;obtain ⟨v, hv⟩ : ∃ v, cs[off]? = some v := ⟨_, Lz5 (by omega)⟩
  exact ⟨.one c, .one v, e, zlX h hr hv, H.get hv hc⟩
 | some n =>
  simp only [qO] at e;cases hb : Nat.ble (off + n) ps.length with
  | false => rw [hb] at e; cases e
  | true =>
   rw [hb] at e;have hle := Lz4 hb;have hl := H.len;have hm := zbT hr;exact ⟨_, .agg ((cs.drop off).take n), e, zoF h (zbS hr (by omega)) (h0.imp (fun hh he => hh (by rw [he])) id), (H.drop off).take n⟩
theorem zoI {n : Option Nat} {ps : List PC} {cs : List CVal} {off : Nat} {K : PV → Option β} {y : β} (h : AHeap) (H : RepPL N cs ps) (e : qO n ps off K = some y) :
  ∃ p s, K p = some y ∧ CE.part n cs off h = some (.s s, h) ∧ RepPV N s p ∧ ∀ N' : Nm, RepPL N' cs ps → RepPV N' s p := by
 cases n with
 | none =>
  simp only [qO] at e;obtain ⟨c, hc, e⟩ := zj e;have hl := H.len;have hi := (Lz0.1 hc).1;obtain ⟨v, hv⟩ : ∃ v, cs[off]? = some v := ⟨_, Lz5 (by omega)⟩
  refine ⟨.one c, .one v, e, ?_, H.get hv hc, fun N' X => X.get hv hc⟩
  show retC h (vK cs off) = _;rw [xt, hv]; rfl
 | some n =>
  simp only [qO] at e;cases hb : Nat.ble (off + n) ps.length with
  | false => rw [hb] at e; cases e
  | true =>
   rw [hb] at e;have hle := Lz4 hb;have hl := H.len;refine ⟨_, .agg ((cs.drop off).take n), e, ?_, (H.drop off).take n, fun N' X => (X.drop off).take n⟩
   show retA h (cut n cs off) = _;rw [zbc cs n off (by omega)]; rfl
theorem zhj : ∀ (x : List DV), exp x x.length 0 = x := by
 have key : ∀ (p x : List DV), exp (p ++ x) x.length p.length = x := by
  intro p x
  induction x generalizing p with
  | nil => rfl
  | cons d x ih =>
   simp only [List.length_cons, exp];have h1 : ∀ q : List DV, atD (q ++ d :: x) q.length = d := by
    intro q
    induction q with
    | nil => rfl
    | cons a q ih => show atD (q ++ d :: x) q.length = d; exact ih
   have h2 := ih (p ++ [d]);simp only [List.append_assoc, List.cons_append, List.nil_append, List.length_append, List.length_cons, List.length_nil] at h2;rw [h1 p]
   congr 1
 intro x;exact key [] x
theorem uk (I : InvO E N os) {j : Nat} {ps : List PC} (ho : og os j = .box ps) : ∃ b cs, N.μ j = .ptr b 0 ∧ ¬ N.fz b ∧ N.h.t.get b = some (.cells cs 0) ∧ RepPL N cs ps := by
 have := I.obj j;rw [ho] at this;exact this
theorem zbp (I : InvO E N os) {j st : Nat} {xs : List (List DV)} (ho : og os j = .arr st (some xs)) : ∃ b vs ex, N.μ j = .slc b 0 xs.length (bif ex then xs.length else 0) ex ∧ ¬ N.fz b ∧ N.h.t.get b = some (.cells vs st) ∧ vs.length = xs.length * st ∧
   ∀ (i : Nat) (x : List DV), xs[i]? = some x → x.length = st ∧ RepL N.fz N.h ((vs.drop (i * st)).take st) x := by
 have := I.obj j;rw [ho] at this;exact this
theorem zkG : ∀ {cs : List PC} {st n off : Nat} {l : List DV}, gath cs st n off = some l → ∀ i, i < n → cs[off + i * st]? = some (.d (atD l i))
 | cs, st, 0, off, l, _, i, hi => by omega
 | cs, st, n + 1, off, l, e, i, hi => by
  simp only [gath] at e;split at e
  ·rename_i v l' h1 h2;cases e;cases i with
   | zero => simpa [atD] using h1
   | succ i =>
    have := zkG h2 i (by omega)
    rw [show off + (i + 1) * st = off + st + i * st by rw [Nat.succ_mul]; omega, this]
    rfl
  ·cases e
theorem zg6 : ∀ {cs : List PC} {st len i m off : Nat} {l : List PC}, ipC cs st len i m off = some l → i < len → l.length = m ∧ ∀ j, j < m → cs[off + j + i * st]? = l[j]?
 | cs, st, len, i, 0, off, l, e, _ => by cases e; exact ⟨rfl, fun j hj => by omega⟩
 | cs, st, len, i, m + 1, off, l, e, hi => by
  simp only [ipC] at e;split at e
  ·rename_i g r h1 h2;cases e;obtain ⟨k1, k2⟩ := zg6 h2 hi;refine ⟨by simp [k1], fun j hj => ?_⟩
   cases j with
   | zero => simpa using zkG h1 i hi
   | succ j =>
    have := k2 j (by omega)
    rw [List.getElem?_cons_succ, ← this]
    congr 1
    omega
  ·cases e
theorem zc6 {cs : List CVal} {ps : List PC} (H : RepPL N cs ps) {st len i m off : Nat} {l : List PC} (e : ipC ps st len i m off = some l) (hi : i < len) (hm : m ≠ 0) : off + i * st + m ≤ cs.length ∧ RepPL N ((cs.drop (off + i * st)).take m) l := by
 obtain ⟨h1, h2⟩ := zg6 e hi;have hb : off + m + i * st ≤ cs.length := by
  have := h2 (m - 1) (by omega)
  have hx : (l[m - 1]?).isSome = true := by simp [h1]; omega
  rw [← this] at hx;have := (Lz0.1 (Option.eq_some_of_isSome hx)).1;have := H.len;omega
 refine ⟨by omega, RepPL.of ?_ fun j c p hc hp => ?_⟩
 ·simp; omega
 ·rw [List.getElem?_take] at hc;split at hc
  ·rename_i hj;rw [List.getElem?_drop] at hc;have := h2 j hj;rw [hp] at this;exact H.get (j := off + j + i * st) (by rw [← hc]; congr 1; omega) this
  ·cases hc
theorem znt (I : InvO E N os) (F : ∀ i, RepPA N (r i) (ρ i)) {n : Option Nat} {a : Operand} (e : w1 (pv ρ a) (fun c => zjA os n c k) = some x) : GoalQ N os r ρ (.load n a) k x := by
 have hh := vU F e;clear e;obtain ⟨c, v, e, ka, ra, pka⟩ := hh;have fpc : ∀ (w : CVal) (xs : List DV) (off : Nat) (rd : List Nat), (v = .s (.one w) → MemI N os r ρ a rd) → Rep N.fz N.h w (.fp xs off) → (zd1 n (xs.map .d) off fun v => k (.s v) os [] rd) = some x → v = .s (.one w) → GoalQ N os r ρ (.load n a) k x := by
  intro w xs off rd hmi hw e hv;obtain ⟨b, o, base, cs, rfl, h1, h2, h3, h4⟩ := hw.fp_inv;obtain ⟨h0, e⟩ := zjy e;obtain ⟨p, s, e, hl, hp⟩ := zcM N.h h3 (.ofD h4) (.inl h0) e;refine .quiet I (v := .s s) (fun call => ?_) (.of hp) e (hm := fun xo hx => by cases hx; exact hmi hv)
  simp only [runK, ka, hv, zC];show loadAt n N.h (base + off) (N.h.t.get b) = _;rw [h2, hl]
 cases c with
 | d d =>
  cases d <;> first | cases e | skip
  obtain ⟨w, hv, hw⟩ := x5 ra;refine fpc w _ _ _ (fun hv => ?_) hw e hv
  obtain ⟨b, o, base, cs, rfl, h1, _⟩ := hw.fp_inv;refine ⟨_, ka.trans (by rw [hv]), .inr ⟨b, rfl, .inr ⟨rfl, fun N' H => ?_⟩⟩⟩
  obtain ⟨w', hw', hr'⟩ := x5 (H _ _ ka pka);rw [hv] at hw';cases hw';obtain ⟨b2, o2, base2, cs2, q1, q2, q3, _⟩ := hr'.fp_inv;rw [(CVal.ptr.inj q1).1]; exact ⟨q2, _, q3⟩
 | own j => cases e
 | ptr j off =>
  simp only [zjA] at e;obtain ⟨w, hv, hj, b, hb, rfl⟩ := yf ra;subst hv;cases ho : og os j with
  | box ps =>
   rw [ho] at e;simp only at e;obtain ⟨b', cs, h1, h2, h3, h4⟩ := uk I ho;rw [hb] at h1; cases h1;obtain ⟨p, s, e, hl, hp⟩ := zcM (o := .cells cs 0) (base := 0) N.h (zjm rfl) h4 (.inr (by intro hh; cases hh)) e
   refine .quiet I (v := .s s) (fun call => ?_) (.of hp) e (hm := fun xo hx => by
    cases hx;exact ⟨_, ka, .inr ⟨b, rfl, .inl ⟨j, rfl, hj, by rw [hb]; rfl, by rw [ho]; trivial, fun N' H => (yf (H _ _ ka pka)).elim fun _ q => q.2.1⟩⟩⟩)
   simp only [runK, ka, zC];show loadAt n N.h off (N.h.t.get b) = _;rw [h3]
   simpa using hl
  | fbox ds =>
   rw [ho] at e;simp only at e;have hO := I.obj j;rw [ho] at hO;obtain ⟨b', h1, h2⟩ := hO;rw [hb] at h1; cases h1;obtain ⟨b1, o1, base, cs, e1, e2, e3, e4, e5⟩ := h2.fp_inv;cases e1;refine fpc (.ptr b off) ds off _ (fun _ => ⟨_, ka, .inr ⟨b, rfl, .inl ⟨j, rfl, hj, by rw [hb]; rfl, by rw [ho]; trivial, fun N' H => (yf (H _ _ ka pka)).elim fun _ q => q.2.1⟩⟩⟩) ?_ e rfl
   have := Rep.fp_mk (off := off) e2 e3 e4 e5
   rwa [show (0 + off) = off by omega] at this
  | _ => rw [ho] at e; cases e
 | ep j st i off =>
  simp only [zjA] at e;obtain ⟨w, hv, hj, b, l, cap, ex, hb, rfl, hil⟩ := yf ra;subst hv;cases ho : og os j with
  | arr st' vo =>
   rw [ho] at e;simp only at e;cases hs : Nat.beq st st' with
   | false => rw [hs] at e; cases e
   | true =>
    rw [hs] at e;have := Lz1 hs;subst this;simp only [cond_true] at e;have hh := zj e;clear e;obtain ⟨y, hy, e⟩ := hh;cases vo with
    | none => cases hy
    | some xs =>
     obtain ⟨b', vs, ex', h1, h2, h3, h4, h5⟩ := zbp I ho;rw [hb] at h1;cases h1;obtain ⟨k1, k2⟩ := h5 i y hy;have he := zhj y;rw [k1] at he;rw [he] at e;have hi := (Lz0.1 hy).1;have hr : rd st (i * st) (.cells vs st) = some ((vs.drop (i * st)).take st) := by
      have := Nat.mul_le_mul_right st (show i + 1 ≤ xs.length from hi)
      rw [Nat.succ_mul] at this;exact zbc vs st (i * st) (by omega)
     obtain ⟨p, s, e, hl, hp⟩ := zcM N.h hr (.ofD k2) (.inr (by intro hh; cases hh)) e
     refine .quiet I (v := .s s) (fun call => ?_) (.of hp) e (hm := fun xo hx => by
    cases hx;exact ⟨_, ka, .inr ⟨b, rfl, .inl ⟨j, rfl, hj, by rw [hb]; rfl, by rw [ho]; trivial, fun N' H => (yf (H _ _ ka pka)).elim fun _ q => q.2.1⟩⟩⟩)
     simp only [runK, ka, zC];show loadAt n N.h (i * st + off) (N.h.t.get b) = _;rw [h3, hl]
  | _ => rw [ho] at e; cases e
 | ip j f len st i o =>
  simp only [zjA] at e;obtain ⟨w, hv, hj, b, hb, rfl, hil⟩ := yf ra;subst hv;cases ho : og os j with
  | box ps =>
   rw [ho] at e;simp only at e;obtain ⟨b', cs, h1, h2, h3, h4⟩ := uk I ho;rw [hb] at h1; cases h1;cases n with
   | none =>
    simp only at e;have hh := zj e;clear e;obtain ⟨l, hl, e⟩ := hh;obtain ⟨q1, q2⟩ := zc6 h4 hl hil (by omega)
    have ql := (zg6 hl hil).1
    match l, e, q2, ql with
    | [p], e, q2, _ =>
     simp only at e
     match hc : (List.drop (f + o + i * st) cs).take 1, q2 with
     | [c], q2 =>
      have hcc : cs[f + o + i * st]? = some c := by
       have := congrArg List.head? hc;rw [List.take_one] at this;cases hd : (List.drop (f + o + i * st) cs).head? with
       | none => rw [hd] at this; cases this
       | some c' => rw [hd] at this; cases this; rwa [List.head?_drop] at hd
      refine .quiet I (v := .s (.one c)) (fun call => ?_) (yZ q2.1) e (hm := fun xo hx => by
    cases hx;exact ⟨_, ka, .inr ⟨b, rfl, .inl ⟨j, rfl, hj, by rw [hb]; rfl, by rw [ho]; trivial, fun N' H => (yf (H _ _ ka pka)).elim fun _ q => q.2.1⟩⟩⟩)
      simp only [runK, ka, zC];show loadAt none N.h (f + i * st + o) (N.h.t.get b) = _;rw [h3, show f + i * st + o = f + o + i * st by omega]
      show retC N.h (vK cs _) = _;rw [xt, hcc]; rfl
   | some m =>
    simp only at e;cases hm : Nat.beq m 0 with
    | true => rw [hm] at e; cases e
    | false =>
     rw [hm] at e;simp only [cond_false] at e;have hh := zj e;clear e;obtain ⟨l, hl, e⟩ := hh;obtain ⟨q1, q2⟩ := zc6 h4 hl hil (fun h => by subst h; cases hm)
     refine .quiet I (v := .s (.agg ((cs.drop (f + o + i * st)).take m))) (fun call => ?_) (RepPA.of (v := .agg _) (p := .agg l) q2) e (hm := fun xo hx => by
    cases hx;exact ⟨_, ka, .inr ⟨b, rfl, .inl ⟨j, rfl, hj, by rw [hb]; rfl, by rw [ho]; trivial, fun N' H => (yf (H _ _ ka pka)).elim fun _ q => q.2.1⟩⟩⟩)
     simp only [runK, ka, zC];show loadAt (some m) N.h (f + i * st + o) (N.h.t.get b) = _;rw [h3, show f + i * st + o = f + o + i * st by omega]
     show retA N.h (cut m cs _) = _;rw [zbc cs m _ (by omega)]; rfl
  | _ => rw [ho] at e; cases e
 | vw j st lo len => cases e
 | clo f caps => cases e
theorem zjN (I : InvO E N os) (F : ∀ i, RepPA N (r i) (ρ i)) {a : Operand} (e : w1 (pv ρ a) (fun c =>
  match c with
  | .ptr j off => k (pc (.ptr j off)) os [] []
  | .clo f l => k (pc (.clo f l)) os [] []
  | .d (.fp xs off) => k (pd (.fp xs off)) os [] []
  | _ => none) = some x) : GoalQ N os r ρ (.nilck a) k x := by
 have hh := vU F e;clear e;obtain ⟨c, v, e, ka, ra, pka⟩ := hh;split at e
 ·obtain ⟨w, rfl, hw⟩ := yf ra;have hw' := hw;obtain ⟨hj, b, hb, rfl⟩ := hw;exact .quiet I (fun call => by simp only [runK, ka, zC]; rfl) (yZ hw') e (zaY ka pka fun N' H => H)
 ·obtain ⟨w, rfl, hw⟩ := yf ra;have hw' := hw;obtain ⟨ps, rfl, hc⟩ := hw;exact .quiet I (fun call => by simp only [runK, ka, zC]; rfl) (yZ hw') e (zaY ka pka fun N' H => H)
 ·obtain ⟨w, rfl, hw⟩ := x5 ra;obtain ⟨b, o, base, cs, rfl, _⟩ := hw.fp_inv;exact .quiet I (fun call => by simp only [runK, ka, zC]; rfl) ra e (zaY ka pka fun N' H => H)
 ·cases e
theorem zgK {w : CVal} {v : DV} {q : Bool} (H : Rep N.fz N.h w v) (e : zcP v = some q) (neg : Bool) (h : AHeap) : ziN neg (.s (.one w)) (.s (.one .nils)) h = some (.s (.one (.bool (bif neg then !q else q))), h) := by
 cases v <;> simp only [zcP] at e <;> cases e
 ·rw [H.scal rfl]; cases neg <;> rfl
 ·obtain ⟨b, o, off, cap, ex, cs, rfl, _⟩ := H.lst_inv;cases neg <;> rfl
theorem znr (I : InvO E N os) (F : ∀ i, RepPA N (r i) (ρ i)) {neg : Bool} {a b : Operand} (e : w1 (pv ρ a) (fun c => wd (pv ρ b) fun w =>
  match w with
  | .nils =>
   match c with
   | .d v => za (zcP v) fun q => k (pd (.bool (bif neg then !q else q))) os [] []
   | .own j =>
    match og os j with
    | .arr _ v => k (pd (.bool (bif neg then v.isSome else v.isNone))) os [] []
    | .frz v => za (zcP v) fun q => k (pd (.bool (bif neg then !q else q))) os [] []
    | _ => none
   | _ => none
  | _ => none) = some x) : GoalQ N os r ρ (.nilS neg a b) k x := by
 have hh := vU F e;clear e;obtain ⟨c, v, e, ka, ra, pka⟩ := hh;have hh := wp F e;clear e;obtain ⟨w, u, e, kb, rb⟩ := hh;cases w <;> first | cases e | skip
 simp only at e;rw [z8 rb rfl] at kb;cases c <;> first | cases e | skip
 ·rename_i d;simp only at e;have hh := zj e;clear e;obtain ⟨q, hq, e⟩ := hh;obtain ⟨c, rfl, hc⟩ := x5 ra;exact .quiet I (fun call => by simp only [runK, ka, kb, zC]; exact zgK hc hq neg N.h) (yB rfl) e
 ·rename_i j;simp only at e;obtain ⟨c, rfl, hj, hc⟩ := yf ra;cases ho : og os j with
  | arr st vo =>
   rw [ho] at e;simp only at e;have hO := I.obj j;rw [ho] at hO;refine .quiet I (fun call => ?_) (yB rfl) e
   simp only [runK, ka, kb, zC];cases vo with
   | none => rw [hc, show N.μ j = .nils from hO]; cases neg <;> rfl
   | some xs =>
    obtain ⟨b, vs, ex, h1, _⟩ := hO;rw [hc, h1]; cases neg <;> rfl
  | frz d =>
   rw [ho] at e;simp only at e;have hO := I.obj j;rw [ho] at hO;have hh := zj e;clear e;obtain ⟨q, hq, e⟩ := hh;exact .quiet I (fun call => by simp only [runK, ka, kb, zC]; rw [hc]; exact zgK hO hq neg N.h) (yB rfl) e
  | _ => rw [ho] at e; cases e
theorem zkV {t : Nat} {a b : CVal} {v w : DV} {q : Bool} {fz : BN → Prop} {h : AHeap} (ha : Rep fz h a v) (hb : Rep fz h b w) (e : eqD t v w = some q) : eqC t a b = some q := by
 unfold eqD at e;split at e
 ·rw [ha.scal rfl, hb.scal rfl]; exact e
 ·rw [ha.scal rfl, hb.scal rfl]; exact e
 ·rw [ha.scal rfl, hb.scal rfl]; exact e
 ·cases e
theorem zfU {fz : BN → Prop} {h : AHeap} : ∀ {ks : List Nat} {as bs : List CVal} {vs ws : List DV} {q : Bool}, RepL fz h as vs → RepL fz h bs ws → eqDs ks vs ws = some q → eqCs ks as bs = some q
 | [], [], [], [], [], q, _, _, e => e
 | k :: ks, a :: as, b :: bs, v :: vs, w :: ws, q, ha, hb, e => by
  obtain ⟨a1, a2⟩ := ha.inv;obtain ⟨b1, b2⟩ := hb.inv;simp only [eqDs, eqCs] at e ⊢;cases hq : eqD k v w with
  | none => rw [hq] at e; cases e
  | some p =>
   rw [hq] at e;rw [zkV a1 b1 hq];cases p with
   | true => exact zfU a2 b2 e
   | false => exact e
 | _, a :: as, _, [], _, _, ha, _, _ => by have := ha.1; simp at this
 | _, [], _, v :: vs, _, _, ha, _, _ => by have := ha.1; simp at this
 | _, _, b :: bs, _, [], _, _, hb, _ => by have := hb.1; simp at this
 | _, _, [], _, w :: ws, _, _, hb, _ => by have := hb.1; simp at this
 | [], [], b :: bs, [], w :: ws, q, _, _, e => by cases e
 | [], a :: as, [], v :: vs, [], q, _, _, e => by cases e
 | [], a :: as, b :: bs, v :: vs, w :: ws, q, _, _, e => by cases e
 | k :: ks, [], [], [], [], q, _, _, e => by cases e
 | k :: ks, [], b :: bs, [], w :: ws, q, _, _, e => by cases e
 | k :: ks, a :: as, [], v :: vs, [], q, _, _, e => by cases e
theorem qp : ∀ {ps : List PC} {cs : List CVal} {ds : List DV}, allD ps = some ds → RepPL N cs ps → RepL N.fz N.h cs ds
 | [], [], ds, e, _ => by cases e; exact .nil _ _
 | .d v :: ps, c :: cs, ds, e, H => by
  simp only [allD] at e;cases hd : allD ps with
  | none => rw [hd] at e; cases e
  | some l => rw [hd] at e; cases e; exact .cons H.1 (qp hd H.2)
 | [], _ :: _, _, _, H => H.elim
 | _ :: _, [], _, _, H => H.elim
 | .own _ :: _, _ :: _, _, e, _ => by cases e
 | .ptr _ _ :: _, _ :: _, _, e, _ => by cases e
 | .ep _ _ _ _ :: _, _ :: _, _, e, _ => by cases e
 | .ip _ _ _ _ _ _ :: _, _ :: _, _, e, _ => by cases e
 | .vw _ _ _ _ :: _, _ :: _, _, e, _ => by cases e
 | .clo _ _ :: _, _ :: _, _, e, _ => by cases e
theorem zbs {v : AVal} {ps : List PC} (H : RepPA N v (.s (.agg ps))) : ∃ cs, v = .s (.agg cs) ∧ RepPL N cs ps := by
 obtain ⟨w, rfl, hw⟩ := H.inv;cases w with
 | one c => exact hw.elim
 | agg cs => exact ⟨cs, rfl, hw⟩
theorem o_eq (I : InvO E N os) (F : ∀ i, RepPA N (r i) (ρ i)) {q : Nat ⊕ List Nat} {neg : Bool} {a b : Operand} (e : (match q with
  | .inl t => wd (pv ρ a) fun v => wd (pv ρ b) fun w => za (eqD t v w) fun b => k (pd (.bool (bif neg then !b else b))) os [] []
  | .inr ks =>
   match pv ρ a, pv ρ b with
   | some (.s (.agg xs)), some (.s (.agg ys)) => za (allD xs) fun xs => za (allD ys) fun ys => za (eqDs ks xs ys) fun b => k (pd (.bool (bif neg then !b else b))) os [] []
   | _, _ => none) = some x) : GoalQ N os r ρ (.eq q neg a b) k x := by
 cases q with
 | inl t =>
  simp only at e;have hh := wp F e;clear e;obtain ⟨v, va, e, ka, ra⟩ := hh;have hh := wp F e;clear e;obtain ⟨w, vb, e, kb, rb⟩ := hh;have hh := zj e;clear e;obtain ⟨p, hp, e⟩ := hh;obtain ⟨ca, rfl, ha⟩ := x5 ra;obtain ⟨cb, rfl, hb⟩ := x5 rb;refine .quiet I (v := .s (.one (.bool (bif neg then !p else p)))) (fun call => ?_) (yB rfl) e
  simp only [runK, ka, kb, zC];show (match eqC t ca cb with | some q => some (AVal.s (.one (.bool (bif neg then !q else q))), N.h) | none => none) = _
  rw [zkV ha hb hp]
 | inr ks =>
  simp only at e;split at e
  ·rename_i xs ys hx hy;obtain ⟨va, ka, ra⟩ := x4 F hx;obtain ⟨vb, kb, rb⟩ := x4 F hy;have hh := zj e;clear e;obtain ⟨ds, hd, e⟩ := hh;have hh := zj e;clear e;obtain ⟨es, he, e⟩ := hh;have hh := zj e;clear e;obtain ⟨p, hp, e⟩ := hh;obtain ⟨ca, rfl, ha⟩ := zbs ra;obtain ⟨cb, rfl, hb⟩ := zbs rb;refine .quiet I (v := .s (.one (.bool (bif neg then !p else p)))) (fun call => ?_) (yB rfl) e
   simp only [runK, ka, kb, zC];show (match eqCs ks ca cb with | some q => some (AVal.s (.one (.bool (bif neg then !q else q))), N.h) | none => none) = _
   rw [zfU (qp hd ha) (qp he hb) hp]
  ·cases e
theorem znw (I : InvO E N os) (F : ∀ i, RepPA N (r i) (ρ i)) {a : Operand} {off : Nat} (e : w1 (pv ρ a) (fun c =>
  match c with
  | .ptr j o => k (pc (.ptr j (o + off))) os [] []
  | .d (.fp xs o) => k (pd (.fp xs (o + off))) os [] []
  | .ep j st i o => k (pc (.ep j st i (o + off))) os [] []
  | .ip j f len st i o => k (pc (.ip j f len st i (o + off))) os [] []
  | _ => none) = some x) : GoalQ N os r ρ (.foff a off) k x := by
 have hh := vU F e;clear e;obtain ⟨c, v, e, ka, ra, pka⟩ := hh;split at e
 ·rename_i j o;obtain ⟨w, rfl, hj, b, hb, rfl⟩ := yf ra;exact .quiet I (v := .s (.one (.ptr b (o + off)))) (fun call => by simp only [runK, ka, zC]; rfl) (yZ (p := .ptr j (o + off)) ⟨hj, b, hb, rfl⟩) e (zaY ka pka fun N' H => by
   obtain ⟨w, hw, a1, b2, a2, a3⟩ := yf H;cases hw; cases a3;exact yZ (p := .ptr j (o + off)) ⟨a1, b, a2, rfl⟩)
 ·obtain ⟨w, rfl, hw⟩ := x5 ra;obtain ⟨b, o, base, cs, rfl, h1, h2, h3, h4⟩ := hw.fp_inv;rename_i xs off';exact .quiet I (v := .s (.one (.ptr b (base + off' + off)))) (fun call => by simp only [runK, ka, zC]; rfl) (vz (by rw [Nat.add_assoc]; exact .fp_mk h1 h2 h3 h4)) e (zaY ka pka fun N' H => by
   obtain ⟨w, hw, hr⟩ := x5 H;cases hw;obtain ⟨b2, o2, base2, cs2, a1, a2, a3, a4, a5⟩ := hr.fp_inv;have hb2 : b = b2 ∧ base = base2 := by
    cases CVal.ptr.inj a1 with
    | intro x1 x2 => exact ⟨x1, by omega⟩
   obtain ⟨rfl, rfl⟩ := hb2;exact vz (by rw [Nat.add_assoc]; exact .fp_mk a2 a3 a4 a5))
 ·rename_i j st i o;obtain ⟨w, rfl, hj, b, l, cap, ex, hb, rfl, hi⟩ := yf ra;exact .quiet I (v := .s (.one (.ptr b (i * st + o + off)))) (fun call => by simp only [runK, ka, zC]; rfl) (yZ (p := .ep j st i (o + off)) ⟨hj, b, l, cap, ex, hb, by simp [Nat.add_assoc], hi⟩) e (zaY ka pka fun N' H => by
   obtain ⟨w, hw, a1, b2, l2, cap2, ex2, a2, a3, a4⟩ := yf H;cases hw;have := (CVal.ptr.inj a3).1;subst this;exact yZ (p := .ep j st i (o + off)) ⟨a1, b, l2, cap2, ex2, a2, by simp [Nat.add_assoc], a4⟩)
 ·rename_i j f len st i o;obtain ⟨w, rfl, hj, b, hb, rfl, hi⟩ := yf ra;exact .quiet I (v := .s (.one (.ptr b (f + i * st + o + off)))) (fun call => by simp only [runK, ka, zC]; rfl) (yZ (p := .ip j f len st i (o + off)) ⟨hj, b, hb, by simp [Nat.add_assoc], hi⟩) e (zaY ka pka fun N' H => by
   obtain ⟨w, hw, a1, b2, a2, a3, a4⟩ := yf H;cases hw;have := (CVal.ptr.inj a3).1;subst this;exact yZ (p := .ip j f len st i (o + off)) ⟨a1, b, a2, by simp [Nat.add_assoc], a4⟩)
 ·cases e
theorem zjS (I : InvO E N os) (F : ∀ i, RepPA N (r i) (ρ i)) {a : Operand} {off : Nat} {n : Option Nat} (e : (match pv ρ a with
  | some (.s (.agg cs)) => qO n cs off fun v => k (.s v) os [] []
  | _ => none) = some x) : GoalQ N os r ρ (.field a off n) k x := by
 split at e
 ·rename_i cs hx;obtain ⟨va, ka, ra⟩ := x4 F hx;obtain ⟨ca, rfl, ha⟩ := zbs ra;obtain ⟨p, s, e, h1, h2, h3⟩ := zoI N.h ha e;exact .quiet I (v := .s s) (fun call => by simp only [runK, ka, zC]; exact h1) (.of h2) e (zaY ka hx fun N' H => by
   obtain ⟨cs', hcs, hr⟩ := zbs H;cases hcs;exact .of (h3 N' hr))
 ·cases e
theorem zcR {len : Nat} {i : DV} {n : Nat} (e : qQ len i = some n) : n < len ∧ Nat.ble (Nat.succ n) len = true ∧ ∃ t, i = .int t (.ofNat n) := by
 cases i <;> first | cases e | skip
 rename_i t m;cases m with
 | negSucc m => cases e
 | ofNat m =>
  simp only [qQ] at e;cases hb : Nat.ble (Nat.succ m) len with
  | false => rw [hb] at e; cases e
  | true => rw [hb] at e; cases e; exact ⟨Lz4 hb, hb, t, rfl⟩
theorem zc4 (I : InvO E N os) {st : Nat} {a b : Operand} {v u : AVal} {i : DV} (ka : kv r a = some v) (kb : kv r b = some u) (rb : RepPA N u (pd i)) (w : CVal) (d : DV) {p : PC} (pka : pv ρ a = some (pc p)) (hp : p = .d d ∨ (∃ j, p = .own j) ∨ ∃ j s l n, p = .vw j s l n) (hw : Rep N.fz N.h w d)
  (e : (za (pIdx st d i) fun x => k (pd (.fp (exp x st 0) 0)) os [] []) = some x) (hv : v = .s (.one w)) : GoalQ N os r ρ (.ixs st a b) k x := by
 have hh := zj e;clear e;obtain ⟨y, hy, e⟩ := hh;cases d <;> first | cases hy | skip
 rename_i st' xs;cases i <;> first | cases hy | skip
 rename_i t n;cases n with
 | negSucc n => cases hy
 | ofNat n =>
  simp only [pIdx] at hy;cases hs : Nat.beq st st' with
  | false => rw [hs] at hy; cases hy
  | true =>
   rw [hs] at hy;have := Lz1 hs;subst this;simp only [cond_true] at hy;obtain ⟨b', o, off, cap, ex, cs, rfl, h1, h2, h3, h4, h5⟩ := hw.lst_inv;obtain ⟨k1, k2⟩ := h5 n y hy;have hi := (Lz0.1 hy).1;rw [z8 rb rfl] at kb;subst hv;have he := zhj y;rw [k1] at he;rw [he] at e;have := Nat.mul_le_mul_right st (show n + 1 ≤ xs.length from hi)
   rw [Nat.succ_mul] at this;refine .quiet I (v := .s (.one (.ptr b' (off + n * st)))) (fun call => ?_) (vz (Rep.fp_mk (off := 0) h1 h2 (cs := (cs.drop (n * st)).take st) (by rw [k1]; exact zbS h4 (by omega)) k2)) e (fun xo hxo N' u' pa' hu' hpa' H => by
    have htk : trk ρ (.ixs st a b) = (match pv ρ a with | some (.s (.one (.own _))) => none | some (.s (.one (.vw _ _ _ _))) => none | _ => some a) := rfl
    rw [pka] at htk;rcases hp with rfl | ⟨j, rfl⟩ | ⟨j, s, l, n, rfl⟩
    ·rw [htk] at hxo;cases hxo;rw [ka] at hu'; cases hu';rw [pka] at hpa'; cases hpa';obtain ⟨w', hw', hr'⟩ := x5 H;cases hw';obtain ⟨b2, o2, off2, cap2, ex2, cs2, q1, q2, q3, q4, q5, q6⟩ := hr'.lst_inv;cases q1;obtain ⟨g1, g2⟩ := q6 n y hy;exact vz (Rep.fp_mk (off := 0) q2 q3 (cs := (cs2.drop (n * st)).take st) (by rw [g1]; exact zbS q5 (by omega)) g2)
    ·rw [htk] at hxo; cases hxo
    ·rw [htk] at hxo; cases hxo)
   simp only [runK, ka, kb, zC];show (bif Nat.ble (Nat.succ n) xs.length then some (AVal.s (.one (.ptr b' (off + n * st))), N.h) else none) = _
   rw [Nat.ble_eq_true_of_le hi]; rfl
theorem zqV (I : InvO E N os) (F : ∀ i, RepPA N (r i) (ρ i)) {st : Nat} {a b : Operand} (e : w1 (pv ρ a) (fun c => wd (pv ρ b) fun i => pIxs os st c i k) = some x) : GoalQ N os r ρ (.ixs st a b) k x := by
 have hh := vU F e;clear e;obtain ⟨c, v, e, ka, ra, pka⟩ := hh;have hh := wp F e;clear e;obtain ⟨i, u, e, kb, rb⟩ := hh;cases c <;> first | cases e | skip
 ·rename_i d;simp only [pIxs] at e;obtain ⟨w, hv, hw⟩ := x5 ra;exact zc4 I ka kb rb w d pka (.inl rfl) hw e hv
 ·rename_i j;simp only [pIxs] at e;obtain ⟨c, rfl, hj, hc⟩ := yf ra;cases ho : og os j with
  | frz d =>
   rw [ho] at e;have hO := I.obj j;rw [ho] at hO;exact zc4 I ka kb rb c d pka (.inr (.inl ⟨j, rfl⟩)) (by rw [hc]; exact hO) e rfl
  | arr st' vo =>
   rw [ho] at e;simp only at e;cases hs : Nat.beq st st' with
   | false => rw [hs] at e; cases e
   | true =>
    rw [hs] at e;have := Lz1 hs;subst this;simp only [cond_true] at e;have hh := zj e;clear e;obtain ⟨n, hn, e⟩ := hh;cases i <;> first | cases hn | skip
    rename_i t m;cases m with
    | negSucc m => cases hn
    | ofNat m =>
     cases vo with
     | none => cases hn
     | some xs =>
      simp only [qP] at hn;cases hb : Nat.ble (Nat.succ m) xs.length with
      | false => rw [hb] at hn; cases hn
      | true =>
       rw [hb] at hn;cases hn;obtain ⟨b', vs, ex, h1, h2, h3, h4, h5⟩ := zbp I ho;rw [z8 rb rfl] at kb;refine .quiet I (v := .s (.one (.ptr b' (0 + n * st)))) (fun call => ?_) (yZ (p := .ep j st n 0) ⟨hj, b', _, _, _, h1, by simp, Lz4 hb⟩) e (fun xo hxo N' u' pa' hu' hpa' H => by
        have htk : trk ρ (.ixs st a b) = (match pv ρ a with | some (.s (.one (.own _))) => none | some (.s (.one (.vw _ _ _ _))) => none | _ => some a) := rfl
        rw [pka] at htk;rw [htk] at hxo; cases hxo)
       simp only [runK, ka, kb, zC, hc, h1];show (bif Nat.ble (Nat.succ n) xs.length then some (AVal.s (.one (.ptr b' (0 + n * st))), N.h) else none) = _
       rw [hb]; rfl
  | _ => rw [ho] at e; cases e
 ·rename_i j st' lo len;simp only [pIxs] at e;obtain ⟨c, rfl, hc⟩ := yf ra;cases ho : og os j with
  | frz d =>
   rw [ho] at e;have hO := I.obj j;rw [ho] at hO;exact zc4 I ka kb rb c _ pka (.inr (.inr ⟨j, st', lo, len, rfl⟩)) (zcL (N := N) hO hc) e rfl
  | arr st'' vo =>
   rw [ho] at e;simp only at e;cases hs : Nat.beq st st' with
   | false => rw [hs] at e; cases e
   | true =>
    rw [hs] at e;have := Lz1 hs;subst this;simp only [cond_true] at e;have hh := zj e;clear e;obtain ⟨n, hn, e⟩ := hh;obtain ⟨h1, h2, t, rfl⟩ := zcR hn;obtain ⟨hj, hc⟩ := hc;rcases hc with ⟨_, _, _, rfl⟩ | ⟨b', l, cap, ex, cap', ex', g1, rfl, g2, g3⟩
    ·omega
    ·rw [z8 rb rfl] at kb;refine .quiet I (v := .s (.one (.ptr b' (lo * st + n * st)))) (fun call => ?_) (yZ (p := .ep j st (lo + n) 0) ⟨hj, b', _, _, _, g1, by rw [Nat.add_mul]; rfl, by omega⟩) e (fun xo hxo N' u' pa' hu' hpa' H => by
      have htk : trk ρ (.ixs st a b) = (match pv ρ a with | some (.s (.one (.own _))) => none | some (.s (.one (.vw _ _ _ _))) => none | _ => some a) := rfl
      rw [pka] at htk;rw [htk] at hxo; cases hxo)
     simp only [runK, ka, kb, zC];show (bif Nat.ble (Nat.succ n) len then some (AVal.s (.one (.ptr b' (lo * st + n * st))), N.h) else none) = _
     rw [h2]; rfl
  | _ => rw [ho] at e; cases e
theorem zjQ (I : InvO E N os) (F : ∀ i, RepPA N (r i) (ρ i)) {len st : Nat} {a b : Operand} (e : w1 (pv ρ a) (fun c => wd (pv ρ b) fun i =>
  match c with
  | .ptr j off => za (qQ len i) fun n => k (pc (.ip j off len st n 0)) os [] []
  | _ => none) = some x) : GoalQ N os r ρ (.ixarr len st a b) k x := by
 have hh := vU F e;clear e;obtain ⟨c, v, e, ka, ra, pka⟩ := hh;have hh := wp F e;clear e;obtain ⟨i, u, e, kb, rb⟩ := hh;split at e
 ·have hh := zj e;clear e;obtain ⟨n, hn, e⟩ := hh;obtain ⟨h1, h2, t, rfl⟩ := zcR hn;obtain ⟨w, rfl, hj, b', hb, rfl⟩ := yf ra;rw [z8 rb rfl] at kb;rename_i j off;refine .quiet I (v := .s (.one (.ptr b' (off + n * st)))) (fun call => ?_) (yZ (p := .ip j off len st n 0) ⟨hj, b', hb, by simp, h1⟩) e
  simp only [runK, ka, kb, zC];show (bif Nat.ble (Nat.succ n) len then some (AVal.s (.one (.ptr b' (off + n * st))), N.h) else none) = _
  rw [h2]; rfl
 ·cases e
theorem zjR (I : InvO E N os) (F : ∀ i, RepPA N (r i) (ρ i)) {len st : Nat} {n : Option Nat} {a b : Operand} (e : wd (pv ρ b) (fun i =>
  match pv ρ a with
  | some (.s (.agg cs)) => za (qQ len i) fun j =>
   match n with
   | none => za (ipC cs st len j 1 0) fun l => match l with | [c] => k (pc c) os [] [] | _ => none
   | some m => bif Nat.beq m 0 then none else za (ipC cs st len j m 0) fun l => k (.s (.agg l)) os [] []
  | _ => none) = some x) : GoalQ N os r ρ (.ixagg len st n a b) k x := by
 have hh := wp F e;clear e;obtain ⟨i, u, e, kb, rb⟩ := hh;split at e
 ·rename_i ps hx;obtain ⟨va, ka, ra⟩ := x4 F hx;obtain ⟨cs, rfl, ha⟩ := zbs ra;have hh := zj e;clear e;obtain ⟨j, hj, e⟩ := hh;obtain ⟨h1, h2, t, rfl⟩ := zcR hj;rw [z8 rb rfl] at kb;have run : ∀ call, runK r (.ixagg len st n a b) call N.h = CE.part n cs (j * st) N.h := fun call => by
   simp only [runK, ka, kb, zC];show (bif Nat.ble (Nat.succ j) len then CE.part n cs (j * st) N.h else none) = _
   rw [h2]; rfl
  cases n with
  | none =>
   simp only at e;have hh := zj e;clear e;obtain ⟨l, hl, e⟩ := hh;obtain ⟨q1, q2⟩ := zc6 ha hl h1 (by omega)
   rw [Nat.zero_add] at q1 q2;have ql := (zg6 hl h1).1
   match l, e, q2, ql with
   | [p], e, q2, _ =>
    simp only at e
    match hc : (List.drop (j * st) cs).take 1, q2 with
    | [c], q2 =>
     have hcc : cs[j * st]? = some c := by
      have := congrArg List.head? hc;rw [List.take_one] at this;cases hd : (List.drop (j * st) cs).head? with
      | none => rw [hd] at this; cases this
      | some c' => rw [hd] at this; cases this; rwa [List.head?_drop] at hd
     refine .quiet I (v := .s (.one c)) (fun call => ?_) (yZ q2.1) e
     rw [run];show retC N.h (vK cs _) = _;rw [xt, hcc]; rfl
  | some m =>
   simp only at e;cases hm : Nat.beq m 0 with
   | true => rw [hm] at e; cases e
   | false =>
    rw [hm] at e;simp only [cond_false] at e;have hh := zj e;clear e;obtain ⟨l, hl, e⟩ := hh;obtain ⟨q1, q2⟩ := zc6 ha hl h1 (fun h => by subst h; cases hm)
    rw [Nat.zero_add] at q1 q2;refine .quiet I (v := .s (.agg ((cs.drop (j * st)).take m))) (fun call => ?_) (RepPA.of (v := .agg _) (p := .agg l) q2) e
    rw [run];show retA N.h (cut m cs _) = _;rw [zbc cs m _ (by omega)]; rfl
 ·cases e
theorem RepSL.get {fz : BN → Prop} {h : AHeap} : ∀ {cs : List SVal} {ds : List DS}, RepSL fz h cs ds → ∀ {i : Nat} {d : DS}, ds[i]? = some d → ∃ c, nthS cs i = some c ∧ RepS fz h c d
 | [], [], _, i, d, e => by simp at e
 | c :: cs, d0 :: ds, H, i, d, e => by
  cases i with
  | zero => simp only [List.getElem?_cons_zero, Option.some.injEq] at e; subst e; exact ⟨c, rfl, H.1⟩
  | succ i => exact RepSL.get H.2 (i := i) (by simpa using e)
 | [], _ :: _, H, _, _, _ => H.elim
 | _ :: _, [], H, _, _, _ => H.elim
theorem zeb (I : InvO E N os) (F : ∀ i, RepPA N (r i) (ρ i)) {a : Operand} {i : Nat} (e : (match pv ρ a with
  | some (.tup l) =>
   match l[i]? with
   | some (.one d) => k (pd d) os [] []
   | some (.agg ds) => k (.s (.agg (ds.map .d))) os [] []
   | none => none
  | _ => none) = some x) : GoalQ N os r ρ (.extract a i) k x := by
 split at e
 ·rename_i l hx;obtain ⟨va, ka, ra⟩ := x4 F hx;cases va with
  | s v => exact ra.elim
  | tup vs =>
   have run : ∀ c, nthS vs i = some c → ∀ call, runK r (.extract a i) call N.h = some (.s c, N.h) := fun c hc call => by
    simp only [runK, ka, zC];show (match nthS vs i with | some v => some (AVal.s v, N.h) | none => none) = _
    rw [hc]
   split at e
   ·rename_i d hd;obtain ⟨c, h1, h2⟩ := RepSL.get ra hd;cases c with
    | agg cs => exact h2.elim
    | one c => exact .quiet I (run _ h1) (vz h2) e (zaY ka hx fun N' H => by
     obtain ⟨c', g1, g2⟩ := RepSL.get (show RepSL N'.fz N'.h vs l from H) hd
     rw [h1] at g1; cases g1;exact vz g2)
   ·rename_i ds hd;obtain ⟨c, h1, h2⟩ := RepSL.get ra hd;cases c with
    | one c => exact h2.elim
    | agg cs => exact .quiet I (run _ h1) (RepPA.of (v := .agg _) (p := .agg _) (RepPL.ofD h2)) e (zaY ka hx fun N' H => by
     obtain ⟨c', g1, g2⟩ := RepSL.get (show RepSL N'.fz N'.h vs l from H) hd
     rw [h1] at g1; cases g1;exact RepPA.of (v := .agg _) (p := .agg _) (RepPL.ofD g2))
   ·cases e
 ·cases e
theorem zjB {w : CVal} {v z : DV} (H : Rep N.fz N.h w v) (e : pLen v = some z) (h : AHeap) : ∃ c, ziO (.s (.one w)) h = some (.s (.one c), h) ∧ z.scal = some c := by
 cases v <;> simp only [pLen] at e <;> cases e
 ·rw [H.scal rfl]; exact ⟨_, rfl, rfl⟩
 ·obtain ⟨b, o, off, cap, ex, cs, rfl, _⟩ := H.lst_inv;exact ⟨_, rfl, rfl⟩
theorem znv (I : InvO E N os) (F : ∀ i, RepPA N (r i) (ρ i)) {a : Operand} (e : w1 (pv ρ a) (fun c =>
  match c with
  | .d v => za (pLen v) fun z => k (pd z) os [] []
  | .own j =>
   match og os j with
   | .arr _ v => k (pd (.int .i64 (.ofNat (lenO v)))) os [] []
   | .frz v => za (pLen v) fun z => k (pd z) os [] []
   | _ => none
  | .vw _ _ _ len => k (pd (.int .i64 (.ofNat len))) os [] []
  | _ => none) = some x) : GoalQ N os r ρ (.lenL a) k x := by
 have hh := vU F e;clear e;obtain ⟨c, v, e, ka, ra, pka⟩ := hh;cases c <;> first | cases e | skip
 ·rename_i d;simp only at e;have hh := zj e;clear e;obtain ⟨z, hz, e⟩ := hh;obtain ⟨w, rfl, hw⟩ := x5 ra;obtain ⟨c, h1, h2⟩ := zjB hw hz N.h;exact .quiet I (fun call => by simp only [runK, ka, zC]; exact h1) (yB h2) e
 ·rename_i j;simp only at e;obtain ⟨c, rfl, hj, hc⟩ := yf ra;cases ho : og os j with
  | arr st vo =>
   rw [ho] at e;simp only at e;have hO := I.obj j;rw [ho] at hO;refine .quiet I (fun call => ?_) (yB rfl) e
   simp only [runK, ka, zC];cases vo with
   | none => rw [hc, show N.μ j = .nils from hO]; rfl
   | some xs => obtain ⟨b, vs, ex, h1, _⟩ := hO; rw [hc, h1]; rfl
  | frz d =>
   rw [ho] at e;simp only at e;have hO := I.obj j;rw [ho] at hO;have hh := zj e;clear e;obtain ⟨z, hz, e⟩ := hh;obtain ⟨c', h1, h2⟩ := zjB (show Rep N.fz N.h (N.μ j) d from hO) hz N.h
   exact .quiet I (fun call => by simp only [runK, ka, zC]; rw [hc]; exact h1) (yB h2) e
  | _ => rw [ho] at e; cases e
 ·rename_i j st lo len;simp only at e;obtain ⟨c, rfl, hj, hc⟩ := yf ra;refine .quiet I (fun call => ?_) (yB rfl) e
  simp only [runK, ka, zC];rcases hc with ⟨_, rfl, _, rfl⟩ | ⟨b', l, cap, ex, cap', ex', g1, rfl, g2, g3⟩ <;> rfl
end
end Go.PE
end
section
namespace Go.PE
open Go Go.CE
def fzN (fz : BN → Prop) (h h' : AHeap) : BN → Prop := fun b => fz b ∨ (h.n.toNat ≤ b.toNat ∧ b.toNat < h'.n.toNat)
def zob (C : Nat → zh) (g : Nat) (args : List DA) (res : DA) : Prop :=
 ∀ (fz : BN → Prop) (h : AHeap) (vs : List AVal), HW h → (∀ b, fz b → b.toNat < h.n.toNat) → RepAL fz h vs args →
  Ev (fun n => C n (.inl g) vs h) (fun p => HW p.2 ∧ Gr h p.2 ∧ RepA (fzN fz h p.2) p.2 p.1 res)
def jj (O : Orc) (C : Nat → zh) : Prop := ∀ g args res, O g args = some res → zob C g args res
theorem qZ (vs : List CVal) : ∀ (cs : List CVal) (i : Nat), i + vs.length ≤ cs.length → putAt vs cs i = some (cs.take i ++ vs ++ cs.drop (i + vs.length)) := by
 have ov : ∀ (vs cs : List CVal), vs.length ≤ cs.length → over vs cs = some (vs ++ cs.drop vs.length) := by
  intro vs
  induction vs with
  | nil => intro cs _; rfl
  | cons v vs ih =>
   intro cs h;cases cs with
   | nil => simp at h
   | cons c cs => simp only [over, ih cs (by simpa using h), xI, List.length_cons, List.drop_succ_cons, List.cons_append]
 intro cs
 induction cs with
 | nil => intro i h; simp at h; obtain ⟨rfl, h2⟩ := h; subst h2; rfl
 | cons c cs ih =>
  intro i h;cases i with
  | zero =>
   show over vs (c :: cs) = _;rw [ov vs _ (by simpa using h)]
   simp
  | succ i =>
   show xI c (putAt vs cs i) = _;rw [ih i (by simp at h; omega)]
   simp [xI, Nat.succ_add]
theorem zc0 : ∀ (cs : List CVal), uJ cs cs.length = true
 | [] => rfl
 | c :: cs => by
  show (bif Nat.beq (cs.length + 1) 0 then false else uJ cs cs.length) = true
  rw [zc0 cs]; rfl
section
variable {β : Type} {C : Nat → zh} {E : En} {lk : Nat → Bool} {N : Nm} {os : List PO} {r : Fr} {ρ : Nat → PA} {k : KT β} {x : β}
theorem ze6 (I : InvO E N os) (hlk : ∀ j, lk j = true → j < os.length) (y : AObj) (o : PO) (c : CVal) (hc : blk c = some N.h.n)
  (ho : ∀ N', Nx N N' → N'.μ os.length = c → ¬ N'.fz N.h.n → N'.h.t.get N.h.n = some y → RepO N' os.length o) :
  ∃ N', N'.h = N.h.new y ∧ N'.μ os.length = c ∧ N'.n = os.length + 1 ∧ Stp E lk N os [] N' (os ++ [o]) := by
 have G := Gr.new N.h y;have nx : Nx N ⟨upd N.μ os.length c, os.length + 1, N.fz, N.h.new y⟩ := ⟨⟨fun _ _ h _ => h, fun b z _ hz => G.get I.hw hz⟩, by have := I.len; show N.n ≤ os.length + 1; omega, fun k hk => by
  have := I.len;show (if k = os.length then c else N.μ k) = _
  rw [if_neg (by omega)]⟩
 have muL : upd N.μ os.length c os.length = c := by show (if os.length = os.length then c else _) = _; rw [if_pos rfl]
 obtain ⟨i1, i2, i3⟩ := I.new y o c hc (ho _ nx muL (fun h => absurd (I.fzlt _ h) (by omega)) (zx _ _ _))
 refine ⟨_, rfl, muL, rfl, ⟨i1, i2, Bk.gr G, fun j hj => ?_, .app (Nat.le_of_eq I.len)⟩⟩
 rw [wm, if_neg (by have := hlk j hj; omega)]
theorem vg (h : AHeap) (o : AObj) (v : BN → CVal) : newB h o v = some (.s (.one (v h.n)), h.new o) := by cases h; rfl
theorem zjY (I : InvO E N os) (hlk : ∀ j, lk j = true → j < os.length) {vs : List CVal} {ps : List PC} (H : RepPL N vs ps) {ko : KOp} (run : ∀ call, runK r ko call N.h = newB N.h (.cells vs 0) (fun b => .ptr b 0))
  (e : k (pc (.ptr os.length 0)) (os ++ [.box ps]) [] [] = some x) : Goal C E lk N os r ko k x := by
 obtain ⟨N', h1, h2, h3, S⟩ := ze6 (lk := lk) I hlk (.cells vs 0) (.box ps) (.ptr N.h.n 0) rfl fun N' nx hmu hf hg => ⟨_, vs, hmu, hf, hg, H.mono nx⟩
 refine ⟨_, _, _, _, e, ⟨(.s (.one (.ptr N.h.n 0)), N.h.new (.cells vs 0)), ⟨N', h1, S.sim (yZ (p := .ptr os.length 0) (c := .ptr N.h.n 0) ⟨by rw [h3]; omega, _, h2, rfl⟩)⟩, 0, fun n _ => (run (C n)).trans (vg _ _ _)⟩⟩
theorem zoV (I : InvO E N os) (hlk : ∀ j, lk j = true → j < os.length) {zs : List CVal} (e : za (cDs zs) (fun cs => k (pc (.ptr os.length 0)) (os ++ [.box cs]) [] []) = some x) : Goal C E lk N os r (.alloc zs) k x := by
 obtain ⟨ps, h1, e⟩ := zj e;exact zjY I hlk (kO h1) (fun call => rfl) e
theorem RepPV.cells {v : SVal} {p : PV} (H : RepPV N v p) : RepPL N v.cells p.cells := by
 cases v <;> cases p <;> simp only [RepPV] at H
 ·exact ⟨H, trivial⟩
 ·exact H
theorem zsY (I : InvO E N os) (F : ∀ i, RepPA N (r i) (ρ i)) (hlk : ∀ j, lk j = true → j < os.length) {a : Operand} (e : (match pv ρ a with
  | some (.s v) => k (pc (.ptr os.length 0)) (os ++ [.box v.cells]) [] []
  | _ => none) = some x) : Goal C E lk N os r (.box a) k x := by
 split at e
 ·rename_i p hp;obtain ⟨v, ka, ra⟩ := x4 F hp;obtain ⟨w, rfl, hw⟩ := ra.inv
  ·exact zjY I hlk hw.cells (fun call => by simp only [runK, ka, zC]; rfl) e
 ·cases e
theorem zad (F : ∀ i, RepPA N (r i) (ρ i)) : ∀ {parts : List (Nat × Nat × Operand)} {ps ps' : List PC} {cs : List CVal}, zey ρ parts ps = some ps' → RepPL N cs ps → ∃ l cs', kvp r parts = some l ∧ kG .nil (cP l) cs = some cs' ∧ RepPL N cs' ps'
 | [], ps, ps', cs, e, H => by cases e; exact ⟨[], cs, rfl, rfl, H⟩
 | (off, size, a) :: rest, ps, ps', cs, e, H => by
  simp only [zey] at e;split at e
  ·rename_i p hp;obtain ⟨v, ka, ra⟩ := x4 F hp;cases hb : (Nat.beq p.cells.length size && Nat.ble (off + size) ps.length) with
   | false => rw [hb] at e; cases e
   | true =>
    rw [hb] at e;simp only [LzC] at hb;have h1 := Lz1 hb.1;have h2 := Lz4 hb.2;simp only [cond_true] at e;have hcs := H.len;obtain ⟨w, rfl, hw⟩ := ra.inv;have hw := hw.cells;have hl := hw.len;obtain ⟨l, cs', k1, k2, k3⟩ := zad F e (cs := cs.take off ++ w.cells ++ cs.drop (off + size)) (((H.take off).app hw).app (H.drop (off + size)));refine ⟨(off, size, .s w) :: l, cs', by simp only [kvp, ka, k1], ?_, k3⟩
    show kG .nil ((off, size, zp (.s w)) :: cP l) cs = _;simp only [kG, zp];have hls : uJ w.cells size = true := by rw [← h1, ← hl]; exact zc0 _
    rw [hls, cond_true, qZ w.cells cs off (by omega), show off + w.cells.length = off + size by omega]
    exact k2
  ·cases e
theorem zjT (I : InvO E N os) (F : ∀ i, RepPA N (r i) (ρ i)) {zs : List CVal} {parts : List (Nat × Nat × Operand)} (e : za (cDs zs) (fun cs => za (zey ρ parts cs) fun cs => k (.s (.agg cs)) os [] []) = some x) : GoalQ N os r ρ (.build zs parts) k x := by
 obtain ⟨ps, h1, e⟩ := zj e;obtain ⟨ps', h2, e⟩ := zj e;obtain ⟨l, cs', k1, k2, k3⟩ := zad F h2 (kO h1);refine .quiet I (v := .s (.agg cs')) (fun call => ?_) (RepPA.of (v := .agg cs') (p := .agg ps') k3) e
 simp only [runK, k1];show retA N.h (kG .nil (cP l) zs) = _;rw [k2]; rfl
theorem qf (st : Nat) : ∀ (n : Nat) (ds : List DV), (chunks st n ds).length = n
 | 0, _ => rfl
 | n + 1, ds => by simp [chunks, qf st n]
theorem qg (st : Nat) : ∀ (n : Nat) (ds : List DV) (i : Nat) (x : List DV), (chunks st n ds)[i]? = some x → x = (ds.drop (i * st)).take st ∧ i < n
 | 0, _, i, x, e => by simp [chunks] at e
 | n + 1, ds, i, x, e => by
  cases i with
  | zero => simp only [chunks, List.getElem?_cons_zero, Option.some.injEq] at e; subst e; exact ⟨by simp, by omega⟩
  | succ i =>
   obtain ⟨h1, h2⟩ := qg st n (ds.drop st) i x (by simpa [chunks] using e)
   refine ⟨?_, by omega⟩
   rw [h1, List.drop_drop, Nat.succ_mul, Nat.add_comm]
theorem zaO (I : InvO E N os) (hlk : ∀ j, lk j = true → j < os.length) {st : Nat} {vs : List CVal} {xs : List (List DV)} {ex : Bool} (hl : vs.length = xs.length * st)
  (H : ∀ (i : Nat) (x : List DV), xs[i]? = some x → x.length = st ∧ RepL N.fz N.h ((vs.drop (i * st)).take st) x) :
  ∃ N', N'.h = N.h.new (.cells vs st) ∧ N'.n = os.length + 1 ∧ Stp E lk N os [] N' (os ++ [.arr st (some xs)]) ∧ RepPA N' (.s (.one (.slc N.h.n 0 xs.length (bif ex then xs.length else 0) ex))) (pc (.own os.length)) := by
 obtain ⟨N', h1, h2, h3, S⟩ := ze6 (lk := lk) I hlk (.cells vs st) (.arr st (some xs)) (.slc N.h.n 0 xs.length (bif ex then xs.length else 0) ex) rfl fun N' nx hmu hf hg =>
  ⟨_, vs, ex, hmu, hf, hg, hl, fun i x hx => ⟨(H i x hx).1, (H i x hx).2.mono nx.fg⟩⟩
 exact ⟨N', h1, h3, S, yZ (p := .own os.length) ⟨by rw [h3]; omega, h2.symm⟩⟩
theorem zme (I : InvO E N os) (F : ∀ i, RepPA N (r i) (ρ i)) (hlk : ∀ j, lk j = true → j < os.length) {st len : Nat} {zs : List CVal} {parts : List (Nat × Nat × Operand)} (e : za (cDs zs) (fun cs => za (zey ρ parts cs) fun cs => za (frL lk y7 os cs) fun p =>
  bif Nat.beq p.2.length (len * st) then k (pc (.own p.1.length)) (p.1 ++ [.arr st (some (chunks st len p.2))]) [] [] else none) = some x) : Goal C E lk N os r (.bslice st len zs parts) k x := by
 obtain ⟨ps, h1, e⟩ := zj e;obtain ⟨ps', h2, e⟩ := zj e;obtain ⟨⟨os1, ds⟩, h3, e⟩ := zj e;obtain ⟨l, cs', k1, k2, k3⟩ := zad F h2 (kO h1);obtain ⟨N1, f1, S1, r1⟩ := zhd I k3 h3;simp only at e;cases hb : Nat.beq ds.length (len * st) with
 | false => rw [hb] at e; cases e
 | true =>
  rw [hb] at e;have hd := Lz1 hb;have hl1 : os1.length = os.length := by rw [← S1.inv.len, f1.n, I.len]
  have hlc : (chunks st len ds).length = len := qf st len ds;obtain ⟨N2, h4, h5, S2, r2⟩ := zaO (lk := lk) (ex := true) S1.inv (fun j hj => by rw [hl1]; exact hlk j hj) (st := st) (vs := cs') (xs := chunks st len ds) (by rw [r1.1, hd, hlc]) fun i y hy => by
   obtain ⟨q1, q2⟩ := qg st len ds i y hy;subst q1;refine ⟨?_, r1.sub (i * st) st⟩;have := Nat.mul_le_mul_right st (show i + 1 ≤ len from q2)
   rw [Nat.succ_mul] at this;simp; omega
  refine ⟨_, _, _, _, e, ⟨(.s (.one (.slc N.h.n 0 len len true)), N.h.new (.cells cs' st)), ⟨N2, by rw [h4, f1.h], ?_⟩, 0, fun n _ => ?_⟩⟩
  ·rw [hlc] at r2;rw [f1.h] at r2;exact (S1.trans S2 f1.n).sim r2
  ·show runK r (.bslice st len zs parts) (C n) N.h = _;simp only [runK, k1];show (match kG .nil (cP l) zs with | some cs => newB N.h (.cells cs st) (fun b => .slc b 0 len len true) | none => none) = _
   rw [k2];exact vg _ _ _
theorem zoG (I : InvO E N os) {j : Nat} (hj : lk j = false) {ps qs : List PC} (ho : og os j = .box ps) {b : BN} (hb : N.μ j = .ptr b 0) {vs ws : List CVal} (_hg : N.h.t.get b = some (.cells vs 0)) (hv : RepPL N vs ps) (hw : RepPL N ws qs) {off : Nat} (_hl : off + ws.length ≤ vs.length) :
  ∃ N', N'.h = N.h.put b (.cells (vs.take off ++ ws ++ vs.drop (off + ws.length)) 0) ∧ Stp E lk N os [j] N' (oset (.box (ps.take off ++ qs ++ ps.drop (off + ws.length))) os j) := by
 have hlv : live (og os j) := by rw [ho]; trivial
 have hbk : blk (N.μ j) = some b := by rw [hb]; rfl
 obtain ⟨b0, x0, q1, q2, q3⟩ := yw hlv (I.obj j);rw [hbk] at q1; cases q1;have nx : Nx N ⟨N.μ, N.n, N.fz, N.h.put b (.cells (vs.take off ++ ws ++ vs.drop (off + ws.length)) 0)⟩ := ⟨⟨fun _ _ h _ => h, fun b' y hf hy => by
  show (N.h.put b _).t.get b' = _;rw [wD _ _ (fun (e : b' = b) => q2 (by rw [← e]; exact hf))]; exact hy⟩, LzB _, fun _ _ => rfl⟩
 obtain ⟨i1, i2, i3⟩ := I.put hlv hbk (.cells (vs.take off ++ ws ++ vs.drop (off + ws.length)) 0) (.box (ps.take off ++ qs ++ ps.drop (off + ws.length)))
  ⟨b, _, hb, q2, qY _ _ _, (((hv.take off).app hw).app (hv.drop (off + ws.length))).mono nx⟩
 exact ⟨_, rfl, ⟨i1, i2, Bk.put rfl (by
  rw [I.len];exact zd9 (by rw [ho]; intro h; cases h)) hlv hbk, fun j' hj' => by rw [yu, if_neg (fun e => by rw [e.1, hj] at hj'; cases hj')], .oset (fun _ => by rw [ho]; trivial) (fun _ => .inl trivial) (fun _ => by rw [ho]; trivial)⟩⟩
theorem zcu {vs ds : List CVal} {p st i off : Nat} (h : p + ds.length ≤ vs.length) (hp : p = i * st + off) (hs : off + ds.length ≤ st) (j : Nat) (hij : j ≠ i) :
  ((vs.take p ++ ds ++ vs.drop (p + ds.length)).drop (j * st)).take st = (vs.drop (j * st)).take st := by
 apply List.ext_getElem?;intro t;rw [List.getElem?_take, List.getElem?_take];split
 ·rename_i ht;rw [List.getElem?_drop, List.getElem?_drop];by_cases hlt : j < i
  ·have := Nat.mul_le_mul_right st (show j + 1 ≤ i from hlt)
   rw [Nat.succ_mul] at this;rw [List.append_assoc, Lz2 (by simp; omega), List.getElem?_take, if_pos (by omega)]
  ·have := Nat.mul_le_mul_right st (show i + 1 ≤ j by omega)
   rw [Nat.succ_mul] at this;rw [Lz8 (by simp; omega), List.getElem?_drop]
   congr 1
   simp;omega
 ·rfl
theorem jR {vs ds : List CVal} {p st i off : Nat} (h : p + ds.length ≤ vs.length) (hp : p = i * st + off) (hs : off + ds.length ≤ st) (hst : i * st + st ≤ vs.length) :
  ((vs.take p ++ ds ++ vs.drop (p + ds.length)).drop (i * st)).take st = ((vs.drop (i * st)).take st).take off ++ ds ++ ((vs.drop (i * st)).take st).drop (off + ds.length) := by
 apply List.ext_getElem?;intro t;subst hp;have e1 : (List.take (i * st + off) vs).length = i * st + off := by simp; omega
 have e2 : (((vs.drop (i * st)).take st).take off).length = off := by simp; omega
 rw [List.getElem?_take];by_cases ht : t < st
 ·rw [if_pos ht, List.getElem?_drop];by_cases h1 : t < off
  ·rw [List.append_assoc, Lz2 (by omega), List.append_assoc, Lz2 (by omega), List.getElem?_take, if_pos (by omega), List.getElem?_take, if_pos h1, List.getElem?_take, if_pos ht, List.getElem?_drop]
  ·by_cases h2 : t < off + ds.length
   ·rw [List.append_assoc, Lz8 (by omega), Lz2 (by omega), List.append_assoc, Lz8 (by omega), Lz2 (by omega)]
    congr 1; omega
   ·rw [Lz8 (by simp; omega), List.getElem?_drop, Lz8 (by simp; omega), List.getElem?_drop, List.getElem?_take, if_pos (by simp; omega), List.getElem?_drop]
    congr 1; simp; omega
 ·rw [if_neg ht];symm;rw [List.getElem?_eq_none];simp;omega
theorem zoR (I : InvO E N os) (F : ∀ i, RepPA N (r i) (ρ i)) {n : Nat} {a b : Operand} (e : w1 (pv ρ a) (fun c =>
  match pv ρ b with
  | some (.s v) => zjz lk os n c v k
  | _ => none) = some x) : Goal C E lk N os r (.store n a b) k x := by
 have hh := vU F e;clear e;obtain ⟨c, v, e, ka, ra, pka⟩ := hh;split at e
 case h_2 => cases e
 rename_i p hp;obtain ⟨vb, kb, rb⟩ := x4 F hp;obtain ⟨w, rfl, hw⟩ := rb.inv;have hw := hw.cells;unfold zjz at e;cases hn : Nat.beq p.cells.length n with
 | false => rw [hn] at e; cases e
 | true =>
  rw [hn] at e;have hn := Lz1 hn;have hwl := hw.len;have hls : uJ w.cells n = true := by rw [← hn, ← hwl]; exact zc0 _
  simp only [cond_true] at e;cases c <;> first | cases e | skip
  ·rename_i j off;simp only at e;obtain ⟨cv, rfl, hjn, bb, hb, rfl⟩ := yf ra;cases ho : og os j with
   | box ps =>
    rw [ho] at e;simp only at e;cases hlj : lk j with
    | true => rw [hlj] at e; cases e
    | false =>
     rw [hlj] at e;simp only [cond_false] at e;cases hbd : Nat.ble (off + n) ps.length with
     | false => rw [hbd] at e; cases e
     | true =>
      rw [hbd] at e;have hbd := Lz4 hbd;obtain ⟨b', cs, h1, h2, h3, h4⟩ := uk I ho;rw [hb] at h1; cases h1;have hcl := h4.len;obtain ⟨N', q1, q2⟩ := zoG I hlj ho hb h3 h4 hw (off := off) (by omega)
      rw [show off + w.cells.length = off + n by omega] at q2
      refine ⟨_, _, _, _, e, ⟨(zX, _), ⟨N', q1, q2.sim (.bad _)⟩, 0, fun m _ => ?_⟩⟩
      show runK r (.store n a b) (C m) N.h = _;simp only [runK, ka, kb, zC];show storeAt n N.h bb off w.cells (N.h.t.get bb) = _;rw [h3];simp only [storeAt, hls, cond_true];rw [qZ w.cells cs off (by omega)]
      rfl
   | _ => rw [ho] at e; cases e
  ·rename_i j st i off;simp only at e;cases hlj : lk j with
   | true => rw [hlj] at e; cases e
   | false =>
    rw [hlj] at e;simp only [cond_false] at e;have hh := zj e;clear e;obtain ⟨⟨os1, ds⟩, hf, e⟩ := hh;obtain ⟨N1, f1, S1, r1⟩ := zhd I hw hf;simp only at e;obtain ⟨cv, rfl, hjn, bb, l0, cap0, ex0, hb, rfl, hil⟩ := yf ra;cases ho : og os1 j with
    | arr st' vo =>
     rw [ho] at e;simp only at e;cases hs : Nat.beq st st' with
     | false => rw [hs] at e; cases e
     | true =>
      rw [hs] at e;have := Lz1 hs;subst this;simp only [cond_true] at e;have hh := zj e;clear e;obtain ⟨vo', hvo, e⟩ := hh;cases vo with
      | none => cases hvo
      | some xs =>
       simp only [setO] at hvo;cases hy : xs[i]? with
       | none => rw [hy] at hvo; cases hvo
       | some y =>
        rw [hy] at hvo;simp only at hvo;cases hbd : Nat.ble (off + ds.length) st with
        | false => rw [hbd] at hvo; cases hvo
        | true =>
         rw [hbd] at hvo;cases hvo;have hbd := Lz4 hbd;obtain ⟨b', vs, ex, h1, h2, h3, h4, h5⟩ := zbp S1.inv ho;have hmu : N1.μ j = N.μ j := by rw [f1.μ]
         rw [hmu, hb] at h1;cases h1;have hi := (Lz0.1 hy).1;have hil2 := Nat.mul_le_mul_right st (show i + 1 ≤ xs.length from hi)
         rw [Nat.succ_mul] at hil2;have hwd : w.cells.length = ds.length := r1.1;have hp2 : i * st + off + w.cells.length ≤ vs.length := by omega
         have hlv : live (og os1 j) := by rw [ho]; trivial
         have hbk : blk (N1.μ j) = some bb := by rw [hmu, hb]; rfl
         have hjl : j < os1.length := zd9 (by rw [ho]; intro h; cases h)
         let X := vs.take (i * st + off) ++ w.cells ++ vs.drop (i * st + off + w.cells.length)
         have fg : FG N1.fz N1.h N1.fz (N1.h.put bb (.cells X st)) := ⟨fun _ _ h _ => h, fun b2 z hf2 hz => by
          rw [wD _ _ (fun (e : b2 = bb) => h2 (by rw [← e]; exact hf2))]; exact hz⟩
         obtain ⟨i1, i2, i3⟩ := S1.inv.put hlv hbk (.cells X st) (.arr st (some (xs.set i (y.take off ++ ds ++ y.drop (off + ds.length)))))
          ⟨bb, X, _, by rw [List.length_set]; exact hmu.trans hb, h2, qY _ _ _, by rw [List.length_set, ← h4]; simp [X]; omega, fun t z hz => by
           rw [List.getElem?_set] at hz;by_cases ht : i = t
           ·subst ht;rw [if_pos rfl, if_pos hi] at hz;cases hz;obtain ⟨g1, g2⟩ := h5 i y hy;refine ⟨by simp [g1]; omega, ?_⟩
            show RepL _ _ ((X.drop (i * st)).take st) _;rw [jR hp2 rfl (by omega) (by omega)]
            rw [hwd];have := (g2.mono fg).set (r1.mono fg) off
            rwa [hwd] at this
           ·rw [if_neg ht] at hz;obtain ⟨g1, g2⟩ := h5 t z hz;refine ⟨g1, ?_⟩;show RepL _ _ ((X.drop (t * st)).take st) _;rw [zcu hp2 rfl (by omega) t (fun e => ht e.symm)]
            exact g2.mono fg⟩
         have S2 : Stp E lk N1 os1 [j] ⟨N1.μ, N1.n, N1.fz, N1.h.put bb (.cells X st)⟩ _ := ⟨i1, i2, Bk.put rfl (by rw [S1.inv.len]; exact hjl) hlv hbk, fun j' hj' => by
          rw [yu, if_neg (fun e => by rw [e.1, hlj] at hj'; cases hj')], .oset (fun _ => by rw [ho]; trivial) (fun _ => .inl trivial) (fun _ => by rw [ho]; trivial)⟩
         refine ⟨_, _, _, _, e, ⟨(zX, N.h.put bb (.cells X st)), ⟨_, by rw [← f1.h], (S1.trans S2 f1.n).sim (.bad _)⟩, 0, fun m _ => ?_⟩⟩
         show runK r (.store n a b) (C m) N.h = _;simp only [runK, ka, kb, zC];show storeAt n N.h bb (i * st + off) w.cells (N.h.t.get bb) = _;rw [f1.h] at h3;rw [h3];simp only [storeAt, hls, cond_true];rw [qZ w.cells vs _ hp2];rfl
    | _ => rw [ho] at e; cases e
end
end Go.PE
end
section
namespace Go.PE
open Go Go.CE
section
variable {β : Type} {C : Nat → zh} {E : En} {lk : Nat → Bool} {N : Nm} {os : List PO} {r : Fr} {ρ : Nat → PA} {k : KT β} {x : β}
theorem zoS (I : InvO E N os) (hlk : ∀ j, lk j = true → j < os.length) {st : Nat} (e : k (pc (.own os.length)) (os ++ [.mp st []]) [] [] = some x) : Goal C E lk N os r (.mkmap st) k x := by
 obtain ⟨N', h1, h2, h3, S⟩ := ze6 (lk := lk) I hlk (.map []) (.mp st []) (.map N.h.n) rfl fun N' nx hmu hf hg => ⟨_, [], hmu, hf, hg, rfl, fun i e x he => by simp at he⟩
 refine ⟨_, _, _, _, e, ⟨(.s (.one (.map N.h.n)), N.h.new (.map [])), ⟨N', h1, S.sim (yZ (p := .own os.length) (c := .map N.h.n) ⟨by rw [h3]; omega, h2.symm⟩)⟩, 0, fun n _ => ?_⟩⟩
 show runK r (.mkmap st) (C n) N.h = _;exact vg _ _ _
theorem zfW {v : SVal} {p : PV} {d : DS} (H : RepPV N v p) (e : dsOf p = some d) : RepS N.fz N.h v d := by
 cases p with
 | one c =>
  cases v with
  | agg cs => exact H.elim
  | one y =>
   cases c <;> first | (cases e; done) | skip
   cases e; exact H
 | agg cs =>
  cases v with
  | one y => exact H.elim
  | agg ys =>
   simp only [dsOf] at e;cases h : allD cs with
   | none => rw [h] at e; cases e
   | some l => rw [h] at e; cases e; exact qp h H
theorem zqd {z : SVal} {d : DS} (e : zDs z = some d) : RepS N.fz N.h z d := by
 unfold zDs at e;cases h : pvS z with
 | none => rw [h] at e; cases e
 | some p => rw [h] at e; exact zfW (zjp h) e
theorem zdj {q : Nat ⊕ List Nat} {a b : SVal} {v w : DS} {p : Bool} {fz : BN → Prop} {h : AHeap} (ha : RepS fz h a v) (hb : RepS fz h b w) (e : eqDS q v w = some p) : eqS q a b = some p := by
 cases q <;> cases v <;> cases w <;> first | (cases e; done) | skip
 ·cases a <;> first | exact ha.elim | skip
  cases b <;> first | exact hb.elim | skip
  exact zkV ha hb e
 ·cases a <;> first | exact ha.elim | skip
  cases b <;> first | exact hb.elim | skip
  exact zfU ha hb e
def RepE (fz : BN → Prop) (h : AHeap) (st : Nat) (es : List (SVal × SVal)) (xs : List (List DV)) : Prop :=
 es.length = xs.length ∧ ∀ (i : Nat) (e : SVal × SVal) (x : List DV), es[i]? = some e → xs[i]? = some x → RepS fz h e.1 (kD st x) ∧ RepS fz h e.2 (vD st x)
theorem RepE.inv {fz : BN → Prop} {h : AHeap} {st : Nat} {e : SVal × SVal} {es : List (SVal × SVal)} {x : List DV} {xs : List (List DV)} (H : RepE fz h st (e :: es) (x :: xs)) : RepS fz h e.1 (kD st x) ∧ RepS fz h e.2 (vD st x) ∧ RepE fz h st es xs :=
 ⟨(H.2 0 e x rfl rfl).1, (H.2 0 e x rfl rfl).2, by have := H.1; simpa using this, fun i e' x' he hx => H.2 (i + 1) e' x' (by simpa using he) (by simpa using hx)⟩
theorem RepE.cons {fz : BN → Prop} {h : AHeap} {st : Nat} {e : SVal × SVal} {es : List (SVal × SVal)} {x : List DV} {xs : List (List DV)} (h1 : RepS fz h e.1 (kD st x)) (h2 : RepS fz h e.2 (vD st x)) (H : RepE fz h st es xs) : RepE fz h st (e :: es) (x :: xs) :=
 ⟨by simp [H.1], fun i e' x' he hx => by
  cases i with
  | zero => simp only [List.getElem?_cons_zero, Option.some.injEq] at he hx; subst he; subst hx; exact ⟨h1, h2⟩
  | succ i => exact H.2 i e' x' (by simpa using he) (by simpa using hx)⟩
theorem RepE.nil {fz : BN → Prop} {h : AHeap} {st : Nat} : RepE fz h st [] [] := ⟨rfl, fun i e x he => by simp at he⟩
theorem RepE.ne {fz : BN → Prop} {h : AHeap} {st : Nat} {es : List (SVal × SVal)} {xs : List (List DV)} (H : RepE fz h st es xs) : (es = [] ∧ xs = []) ∨ ∃ e es' x xs', es = e :: es' ∧ xs = x :: xs' := by
 cases es with
 | nil => cases xs with
  | nil => exact .inl ⟨rfl, rfl⟩
  | cons x xs => have := H.1; simp at this
 | cons e es => cases xs with
  | nil => have := H.1; simp at this
  | cons x xs => exact .inr ⟨e, es, x, xs, rfl, rfl⟩
def RepR (fz : BN → Prop) (h : AHeap) : Option SVal → Option DS → Prop
 | none, none => True
 | some v, some d => RepS fz h v d
 | _, _ => False
theorem zhi {fz : BN → Prop} {h : AHeap} {q : Nat ⊕ List Nat} {st : Nat} {key : SVal} {kd : DS} (hk : RepS fz h key kd) : ∀ {xs : List (List DV)} {es : List (SVal × SVal)} {d : Option DS}, RepE fz h st es xs → zdd q st kd xs = some d →
  ∃ v, uN q key es = some v ∧ RepR fz h v d ∧ ∀ y, d = some y → ∃ x, y = vD st x
 | [], es, d, H, e => by
  rcases H.ne with ⟨rfl, _⟩ | ⟨_, _, _, _, _, h2⟩
  ·cases e; exact ⟨none, rfl, trivial, fun y h => by cases h⟩
  ·cases h2
 | x :: xs, es, d, H, e => by
  rcases H.ne with ⟨_, h2⟩ | ⟨e0, es', x', xs', rfl, h2⟩
  ·cases h2
  ·cases h2;obtain ⟨h1, h2, h3⟩ := H.inv;simp only [zdd] at e;obtain ⟨k0, v0⟩ := e0;cases hq : eqDS q kd (kD st x) with
   | none => rw [hq] at e; cases e
   | some b =>
    rw [hq] at e;have hq' := zdj hk h1 hq;cases b with
    | true =>
     cases e;exact ⟨some v0, by simp only [uN, hq'], h2, fun y h => by cases h; exact ⟨x, rfl⟩⟩
    | false =>
     obtain ⟨v, g1, g2⟩ := zhi hk h3 e;exact ⟨v, by simp only [uN, hq']; exact g1, g2⟩
theorem zjr {fz : BN → Prop} {h : AHeap} {q : Nat ⊕ List Nat} {st : Nat} {key val : SVal} {kd : DS} {row : List DV} (hk : RepS fz h key kd) (h1 : RepS fz h key (kD st row)) (h2 : RepS fz h val (vD st row)) : ∀ {xs ys : List (List DV)} {es : List (SVal × SVal)}, RepE fz h st es xs → putP q st kd row xs = some ys →
  ∃ es', putE q key val es = some es' ∧ RepE fz h st es' ys
 | [], ys, es, H, e => by
  rcases H.ne with ⟨rfl, _⟩ | ⟨_, _, _, _, _, h2⟩
  ·cases e; exact ⟨_, rfl, .cons h1 h2 .nil⟩
  ·cases h2
 | x :: xs, ys, es, H, e => by
  rcases H.ne with ⟨_, h2⟩ | ⟨e0, es', x', xs', rfl, hh⟩
  ·cases h2
  ·cases hh;obtain ⟨g1, g2, g3⟩ := H.inv;simp only [putP] at e;obtain ⟨k0, v0⟩ := e0;cases hq : eqDS q kd (kD st x) with
   | none => rw [hq] at e; cases e
   | some b =>
    rw [hq] at e;have hq' := zdj hk g1 hq;cases b with
    | true =>
     cases e;exact ⟨(key, val) :: es', by simp only [putE, hq'], .cons h1 h2 g3⟩
    | false =>
     simp only at e;cases hp : putP q st kd row xs with
     | none => rw [hp] at e; cases e
     | some l =>
      rw [hp] at e;cases e;obtain ⟨es2, k1, k2⟩ := zjr hk h1 h2 g3 hp;exact ⟨(k0, v0) :: es2, by simp only [putE, hq', k1, xI], .cons g1 g2 k2⟩
theorem zjZ (I : InvO E N os) {j st : Nat} {xs : List (List DV)} (ho : og os j = .mp st xs) : ∃ b es, N.μ j = .map b ∧ ¬ N.fz b ∧ N.h.t.get b = some (.map es) ∧ RepE N.fz N.h st es xs := by
 have := I.obj j;rw [ho] at this;obtain ⟨b, es, h1, h2, h3, h4, h5⟩ := this;exact ⟨b, es, h1, h2, h3, h4, h5⟩
theorem zfQ {a b : Option Nat} (h : eqSh a b = true) : a = b := by
 cases a <;> cases b <;> first | rfl | (cases h; done) | skip
 rw [Lz1 h]
theorem zkK (x : List DV) : ∀ n i, (exp x n i).length = n
 | 0, _ => rfl
 | n + 1, i => by simp [exp, zkK x n]
theorem zgd (a b : List DV) : ∀ i, atD (a ++ b) (a.length + i) = atD b i := by
 induction a with
 | nil => intro i; simp
 | cons x a ih =>
  intro i;show atD (x :: (a ++ b)) (a.length + 1 + i) = _;rw [show a.length + 1 + i = (a.length + i) + 1 by omega]
  show atD (a ++ b) (a.length + i) = _;exact ih i
theorem zkL (a b : List DV) : ∀ n i, exp (a ++ b) n (a.length + i) = exp b n i
 | 0, _ => rfl
 | n + 1, i => by
  have := zkL a b n (i + 1);show atD (a ++ b) (a.length + i) :: exp (a ++ b) n (a.length + i + 1) = atD b i :: exp b n (i + 1);rw [zgd, show a.length + i + 1 = a.length + (i + 1) by omega, this]
theorem zde (a b : List DV) : exp (a ++ b) a.length 0 = a := by
 have key : ∀ (a p b : List DV), exp (p ++ (a ++ b)) a.length p.length = a := by
  intro a
  induction a with
  | nil => intro p b; rfl
  | cons x a ih =>
   intro p b;have h := ih (p ++ [x]) b;have h0 := zgd p (x :: (a ++ b)) 0;show atD (p ++ (x :: (a ++ b))) p.length :: exp (p ++ (x :: (a ++ b))) a.length (p.length + 1) = _;rw [Nat.add_zero] at h0;rw [h0];rw [List.length_append, List.append_assoc] at h;exact congrArg _ h
 exact key a [] b
theorem zsN {st : Nat} {kd vd : DS} (h : shK st = dsSh kd) : kD st (kd.cells ++ vd.cells) = kd := by
 unfold kD;rw [h];cases kd with
 | one d => rfl
 | agg l => show DS.agg (exp (l ++ vd.cells) l.length 0) = _; rw [zde]
theorem zsM {st : Nat} {kd vd : DS} (h : shK st = dsSh kd) (h2 : shV st = dsSh vd) : vD st (kd.cells ++ vd.cells) = vd := by
 unfold vD;rw [h, h2];have hk : zqo (dsSh kd) = kd.cells.length := by cases kd <;> rfl
 rw [hk];cases vd with
 | one d =>
  show DS.one (atD (kd.cells ++ [d]) (kd.cells.length + 0)) = _;rw [zgd]; rfl
 | agg l =>
  have := zkL kd.cells l l.length 0;have h2 := zde l [];rw [List.append_nil] at h2;show DS.agg (exp (kd.cells ++ l) l.length (kd.cells.length + 0)) = _;rw [this, h2]
theorem zsx (st : Nat) (x : List DV) : dsSh (vD st x) = shV st := by
 unfold vD;cases shV st with
 | none => rfl
 | some n => show some (exp x n _).length = _; rw [zkK]
theorem look_ok (_ : InvO E N os) {z : SVal} {zd : DS} {ok : Bool} {v : Option SVal} {d : Option DS} (hz : RepS N.fz N.h z zd) (hv : RepR N.fz N.h v d) (hs : ∀ y, d = some y → dsSh y = dsSh zd) (e : zmx zd ok d os k = some x) :
  ∃ a, k a os [] [] = some x ∧ RepPA N (bif ok then .tup [v.getD z, .one (.bool v.isSome)] else .s (v.getD z)) a := by
 have hd : RepS N.fz N.h (v.getD z) (lkD zd d) := by
  cases v <;> cases d <;> first | exact hv.elim | skip
  ·exact hz
  ·exact hv
 have hi : d.isSome = v.isSome := by cases v <;> cases d <;> first | exact hv.elim | rfl
 have hsh : dsSh (lkD zd d) = dsSh zd := by
  cases d with
  | none => rfl
  | some y => exact hs y rfl
 have hb : RepS N.fz N.h (.one (.bool v.isSome)) (.one (.bool d.isSome)) := by rw [hi]; exact Rep.bool _
 generalize hg : lkD zd d = g at hd hsh e;unfold zmx at e;rw [hg] at e;cases zd with
 | one z0 =>
  cases g with
  | agg l => cases hsh
  | one g =>
   cases ok with
   | true => exact ⟨_, e, show RepSL N.fz N.h [v.getD z, .one (.bool v.isSome)] [.one g, .one (.bool d.isSome)] from ⟨hd, hb, trivial⟩⟩
   | false =>
    refine ⟨_, e, ?_⟩;show RepPA N (.s (v.getD z)) (pd g);generalize v.getD z = w at hd;cases w with
    | agg cs => exact hd.elim
    | one c => exact RepPA.of (v := .one c) (p := .one (.d g)) hd
 | agg l =>
  cases g with
  | one g => cases hsh
  | agg m =>
   have hm : m.length = l.length := by simpa [dsSh] using hsh
   have he : exp m l.length 0 = m := by
    have := zde m []
    rwa [List.append_nil, hm] at this
   simp only [dsA, he] at e;cases ok with
   | true => exact ⟨_, e, show RepSL N.fz N.h [v.getD z, .one (.bool v.isSome)] [.agg m, .one (.bool d.isSome)] from ⟨hd, hb, trivial⟩⟩
   | false =>
    refine ⟨_, e, ?_⟩;show RepPA N (.s (v.getD z)) (.s (.agg (m.map .d)));generalize v.getD z = w at hd;cases w with
    | one c => exact hd.elim
    | agg cs => exact RepPA.of (v := .agg cs) (p := .agg (m.map .d)) (RepPL.ofD hd)
theorem zmd (I : InvO E N os) (F : ∀ i, RepPA N (r i) (ρ i)) {q : Nat ⊕ List Nat} {z : SVal} {ok : Bool} {a b : Operand} (e : w1 (pv ρ a) (fun c =>
  match pv ρ b with
  | some (.s kp) => zfo os q z ok c kp k
  | _ => none) = some x) : Goal C E lk N os r (.lookup q z ok a b) k x := by
 have hh := vU F e;clear e;obtain ⟨c, v, e, ka, ra, pka⟩ := hh;split at e
 case h_2 => cases e
 rename_i p hp;obtain ⟨vb, kb, rb⟩ := x4 F hp;obtain ⟨w, rfl, hw⟩ := rb.inv;unfold zfo at e;have hh := zj e;clear e;obtain ⟨kd, hkd, e⟩ := hh;have hh := zj e;clear e;obtain ⟨zd, hzd, e⟩ := hh;have hh := zj e;clear e;obtain ⟨pp, hpp, e⟩ := hh;have hk := zfW hw hkd;have hz := zqd (N := N) hzd;have hself : (eqS q w w).isNone = false := by rw [zdj hk hk hpp]; rfl
 cases c <;> first | (cases e; done) | skip
 ·rename_i dv;cases dv <;> first | (cases e; done) | skip
  simp only at e;have hv : v = .s (.one .nilm) := z8 ra (c := .nilm) rfl;subst hv;obtain ⟨a', e1, e2⟩ := look_ok I (v := none) (d := none) hz trivial (fun y h => by cases h) e
  refine .quiet I (fun call => ?_) e2 e1
  simp only [runK, ka, kb, zC];show (bif (eqS q w w).isNone then none else _) = _
  rw [hself]; rfl
 ·rename_i j;simp only at e;obtain ⟨c, rfl, hj, rfl⟩ := yf ra;cases ho : og os j with
  | mp st xs =>
   rw [ho] at e;simp only at e;cases hs : eqSh (shV st) (dsSh zd) with
   | false => rw [hs] at e; cases e
   | true =>
    rw [hs] at e;have hh := zj e;clear e;obtain ⟨d, hd, e⟩ := hh;obtain ⟨bb, es, g1, g2, g3, g4⟩ := zjZ I ho;obtain ⟨vv, f1, f2, f3⟩ := zhi hk g4 hd;obtain ⟨a', e1, e2⟩ := look_ok I hz f2 (fun y h => by obtain ⟨x, rfl⟩ := f3 y h; rw [zsx]; exact zfQ hs) e
    refine .quiet I (fun call => ?_) e2 e1
    simp only [runK, ka, kb, zC];rw [g1];show (match mapOf N.h (.s (.one (.map bb))), AVal.s w with
     | some es, .s k => bif (eqS q k k).isNone then none else match uN q k es with | some r => some (bif ok then AVal.tup [r.getD z, .one (.bool r.isSome)] else AVal.s (r.getD z), N.h) | none => none
     | _, _ => none) = _
    simp only [mapOf, g3, hself, cond_false, f1]
  | _ => rw [ho] at e; cases e
theorem zqU (I : InvO E N os) (F : ∀ i, RepPA N (r i) (ρ i)) {a : Operand} (e : w1 (pv ρ a) (fun c =>
  match c with
  | .own j =>
   match og os j with
   | .mp _ xs => k (pd (.int .i64 (.ofNat xs.length))) os [] []
   | _ => none
  | .d .nilm => k (pd (.int .i64 (.ofNat 0))) os [] []
  | _ => none) = some x) : Goal C E lk N os r (.lenM a) k x := by
 have hh := vU F e;clear e;obtain ⟨c, v, e, ka, ra, pka⟩ := hh;cases c <;> first | (cases e; done) | skip
 ·rename_i dv;cases dv <;> first | (cases e; done) | skip
  have hv : v = .s (.one .nilm) := z8 ra (c := .nilm) rfl;subst hv;exact .quiet I (fun call => by simp only [runK, ka, zC]; rfl) (yB rfl) e
 ·rename_i j;simp only at e;obtain ⟨c, rfl, hj, rfl⟩ := yf ra;cases ho : og os j with
  | mp st xs =>
   rw [ho] at e;simp only at e;obtain ⟨bb, es, g1, g2, g3, g4⟩ := zjZ I ho;refine .quiet I (v := .s (.one (.int .i64 (.ofNat xs.length)))) (fun call => ?_) (yB rfl) e
   simp only [runK, ka, zC];rw [g1];show (match N.h.t.get bb with | some (.map es) => some (AVal.s (.one (.int .i64 (.ofNat es.length))), N.h) | _ => none) = _
   rw [g3, ← g4.1]
  | _ => rw [ho] at e; cases e
theorem zqS (I : InvO E N os) (F : ∀ i, RepPA N (r i) (ρ i)) {q : Nat ⊕ List Nat} {a b c : Operand} (e : w1 (pv ρ a) (fun m =>
  match pv ρ b, pv ρ c with
  | some (.s kp), some (.s vp) => zoL lk os q m kp vp k
  | _, _ => none) = some x) : Goal C E lk N os r (.mupd q a b c) k x := by
 have hh := vU F e;clear e;obtain ⟨m, v, e, ka, ra, pka⟩ := hh;split at e
 case h_2 => cases e
 rename_i p vp hp hvp;obtain ⟨vb, kb, rb⟩ := x4 F hp;obtain ⟨w, rfl, hw⟩ := rb.inv;obtain ⟨vc, kc, rc⟩ := x4 F hvp;obtain ⟨u, rfl, hu⟩ := rc.inv;unfold zoL at e;have hh := zj e;clear e;obtain ⟨kd, hkd, e⟩ := hh;have hh := zj e;clear e;obtain ⟨⟨os1, vd⟩, hvd, e⟩ := hh;have hh := zj e;clear e;obtain ⟨pp, hpp, e⟩ := hh;have hk := zfW hw hkd;have hself : (eqS q w w).isNone = false := by rw [zdj hk hk hpp]; rfl
 obtain ⟨N1, f1, S1, r1⟩ := zev I hu hvd;have hk1 : RepS N1.fz N1.h w kd := hk.mono S1.nx.fg;cases m <;> first | (cases e; done) | skip
 rename_i j;simp only at e;obtain ⟨cm, rfl, hj, rfl⟩ := yf ra;cases ho : og os1 j with
 | mp st xs =>
  rw [ho] at e;simp only at e;cases hlj : lk j with
  | true => rw [hlj] at e; cases e
  | false =>
   rw [hlj] at e;simp only [cond_false] at e;cases hs : (eqSh (shK st) (dsSh kd) && eqSh (shV st) (dsSh vd)) with
   | false => rw [hs] at e; cases e
   | true =>
    rw [hs] at e;rw [LzC] at hs;have s1 := zfQ hs.1;have s2 := zfQ hs.2;simp only [cond_true] at e;have hh := zj e;clear e;obtain ⟨ys, hys, e⟩ := hh;obtain ⟨bb, es, g1, g2, g3, g4⟩ := zjZ S1.inv ho;obtain ⟨es', q1, q2⟩ := zjr hk1 (val := u) (by rw [zsN s1]; exact hk1) (by rw [zsM s1 s2]; exact r1) g4 hys
    have hmu : N1.μ j = N.μ j := by rw [f1.μ]
    have hlv : live (og os1 j) := by rw [ho]; trivial
    have hbk : blk (N1.μ j) = some bb := by rw [g1]; rfl
    have hjl : j < os1.length := zd9 (by rw [ho]; intro h; cases h)
    have fg : FG N1.fz N1.h N1.fz (N1.h.put bb (.map es')) := ⟨fun _ _ h _ => h, fun b2 z hf2 hz => by
     rw [wD _ _ (fun (e : b2 = bb) => g2 (by rw [← e]; exact hf2))]; exact hz⟩
    obtain ⟨i1, i2, i3⟩ := S1.inv.put hlv hbk (.map es') (.mp st ys)
     ⟨bb, es', g1, g2, qY _ _ _, q2.1, fun i e x he hx => ⟨(q2.2 i e x he hx).1.mono fg, (q2.2 i e x he hx).2.mono fg⟩⟩
    have S2 : Stp E lk N1 os1 [j] ⟨N1.μ, N1.n, N1.fz, N1.h.put bb (.map es')⟩ _ := ⟨i1, i2, Bk.put rfl (by rw [S1.inv.len]; exact hjl) hlv hbk, fun j' hj' => by
     rw [yu, if_neg (fun e => by rw [e.1, hlj] at hj'; cases hj')], .oset (fun _ => by rw [ho]; trivial) (fun _ => .inl trivial) (fun _ => by rw [ho]; trivial)⟩
    refine ⟨_, _, _, _, e, ⟨(zX, N.h.put bb (.map es')), ⟨_, by rw [← f1.h], (S1.trans S2 f1.n).sim (.bad _)⟩, 0, fun n _ => ?_⟩⟩
    show runK r (.mupd q a b c) (C n) N.h = _;simp only [runK, ka, kb, kc, zC];rw [← hmu, g1];rw [f1.h] at g3;show (bif (eqS q w w).isNone then none else match N.h.t.get bb with
     | some (.map es) => match putE q w u es with | some es' => some (zX, N.h.put bb (.map es')) | none => none
     | _ => none) = _
    rw [hself, g3];simp only [cond_false, q1]
 | _ => rw [ho] at e; cases e
end
end Go.PE
end
section
namespace Go.PE
open Go Go.CE
section
variable {β : Type} {C : Nat → zh} {E : En} {lk : Nat → Bool} {N : Nm} {os : List PO} {r : Fr} {ρ : Nat → PA} {k : KT β} {x : β}
theorem zjs : ∀ (l : List (BN × Nat)), ptrs .nil (cL (l.map fun (p : BN × Nat) => AVal.s (.one (.ptr p.1 p.2)))) = some l
 | [] => rfl
 | p :: l => by
  show (match (zp (.s (.one (.ptr p.1 p.2))) : Opd) .nil with | .s (.one (.ptr b off)) => xI (b, off) (ptrs .nil (cL (l.map fun (p : BN × Nat) => AVal.s (.one (.ptr p.1 p.2))))) | _ => none) = _
  simp only [zp, zjs l, xI]
theorem zdw (F : ∀ i, RepPA N (r i) (ρ i)) : ∀ {xs : List Operand} {l : List (Nat ⊕ List DV)}, zk6 ρ xs = some l → ∃ ps : List (BN × Nat), kvs r xs = some (ps.map fun (p : BN × Nat) => AVal.s (.one (.ptr p.1 p.2))) ∧ RepCaps N ps l
 | [], l, e => by cases e; exact ⟨[], rfl, trivial⟩
 | a :: xs, l, e => by
  simp only [zk6] at e;split at e
  ·rename_i j l' h1 h2;cases e;obtain ⟨v, ka, ra⟩ := x4 F h1;obtain ⟨ps, k1, k2⟩ := zdw F h2;obtain ⟨w, rfl, hj, b, hb, rfl⟩ := yf ra;exact ⟨(b, 0) :: ps, by simp only [kvs, ka, k1, List.map_cons], ⟨hj, hb, rfl⟩, k2⟩
  ·rename_i y l' h1 h2;cases e;obtain ⟨v, ka, ra⟩ := x4 F h1;obtain ⟨ps, k1, k2⟩ := zdw F h2;obtain ⟨w, rfl, hw⟩ := x5 ra;have hw' := hw;obtain ⟨b, o, base, cs, rfl, _⟩ := hw.fp_inv;exact ⟨(b, base + 0) :: ps, by simp only [kvs, ka, k1, List.map_cons], hw', k2⟩
  ·cases e
theorem zns (I : InvO E N os) (F : ∀ i, RepPA N (r i) (ρ i)) {f : Nat} {caps : List Operand} (e : za (zk6 ρ caps) (fun l =>
  match l with
  | [] => k (pd (.fn f [])) os [] []
  | x :: l => k (pc (.clo f (x :: l))) os [] []) = some x) : GoalQ N os r ρ (.mkfn f caps) k x := by
 have hh := zj e;clear e;obtain ⟨l, hl, e⟩ := hh;obtain ⟨ps, k1, k2⟩ := zdw F hl;have run : ∀ call, runK r (.mkfn f caps) call N.h = some (.s (.one (.fn f ps)), N.h) := fun call => by
  simp only [runK, k1];show (match ptrs .nil (cL (ps.map fun (p : BN × Nat) => AVal.s (.one (.ptr p.1 p.2)))) with | some l => some (AVal.s (.one (.fn f l)), N.h) | none => none) = _
  rw [zjs]
 cases l with
 | nil =>
  cases ps with
  | nil => exact .quiet I run (vz (.fn_mk (.nil _ _))) e
  | cons p ps => exact k2.elim
 | cons a l => exact .quiet I run (yZ (p := .clo f (a :: l)) ⟨ps, rfl, k2⟩) e
theorem zgS {fz : BN → Prop} {h : AHeap} : ∀ {xs : List (List DV)} {cs : List CVal} {ns : List Int}, zic xs = some ns → cs.length = xs.length → (∀ (i : Nat) (x : List DV), xs[i]? = some x → RepL fz h ((cs.drop i).take 1) x) → qz cs = some ns
 | [], cs, ns, e, hl, _ => by
  cases e;rw [List.length_eq_zero_iff.1 hl]; rfl
 | x :: xs, cs, ns, e, hl, H => by
  unfold zic at e;split at e
  ·rename_i h; cases h
  ·rename_i n cs' h;cases h;cases hn : zic xs with
   | none => rw [hn] at e; cases e
   | some l =>
    rw [hn] at e; cases e;cases cs with
    | nil => simp at hl
    | cons c cs =>
     have h0 := H 0 _ rfl;simp only [List.drop_zero, List.take_succ_cons, List.take_zero] at h0;have := (h0.inv.1).scal rfl;subst this;have ih := zgS hn (by simpa using hl) (fun i y hy => by have := H (i + 1) y (by simpa using hy); simpa using this)
     show xI n (qz cs) = _;rw [ih]; rfl
  ·cases e
theorem znJ {fz : BN → Prop} {h : AHeap} {w : CVal} {v z : DV} (H : Rep fz h w v) (e : pB2s v = some z) : ∃ c, j8 (zp (.s (.one w))) yc .nil h = some (.s (.one c), h) ∧ z.scal = some c := by
 unfold pB2s at e;split at e
 ·cases e; rw [H.scal rfl]; exact ⟨_, rfl, rfl⟩
 ·rename_i xs;cases hn : zic xs with
  | none => rw [hn] at e; cases e
  | some ns =>
   rw [hn] at e; cases e;obtain ⟨b, o, off, cap, ex, cs, rfl, h1, h2, h3, h4, h5⟩ := H.lst_inv;have hns := zgS (cs := cs) hn (by rw [zbT h4]; omega) fun i x hx => by
    have := (h5 i x hx).2
    rwa [Nat.mul_one] at this
   refine ⟨_, ?_, rfl⟩;rw [Nat.mul_one] at h4;show (match h.t.get b with
    | some (.cells cs _) => retS h (cut xs.length cs off)
    | some (.ro _ f) => retS h (cutF f xs.length off)
    | some (.tcells cs _ _) => retS h (cut xs.length cs off)
    | some .void => retS h (bif Nat.beq xs.length 0 then some [] else none)
    | _ => none) = _
   rw [h2];cases o with
   | cells l st => show retS h (cut xs.length l off) = _; rw [show cut xs.length l off = some cs from h4]; simp only [retS, hns]
   | ro y f => show retS h (cutF f xs.length off) = _; rw [show cutF f xs.length off = some cs from h4]; simp only [retS, hns]
   | void => show retS h (bif Nat.beq xs.length 0 then some [] else none) = _; rw [show (bif Nat.beq xs.length 0 then some [] else none) = some cs from h4]; simp only [retS, hns]
   | _ => cases h4
 ·cases e
theorem zqY (I : InvO E N os) (F : ∀ i, RepPA N (r i) (ρ i)) {a : Operand} (e : w1 (pv ρ a) (fun c =>
  match c with
  | .d v => za (pB2s v) fun z => k (pd z) os [] []
  | .own j =>
   match og os j with
   | .arr st v => za (pB2s (mkL st v)) fun z => k (pd z) os [] [j]
   | _ => none
  | _ => none) = some x) : GoalQ N os r ρ (.b2s a) k x := by
 have hh := vU F e;clear e;obtain ⟨c, v, e, ka, ra, pka⟩ := hh;cases c <;> first | cases e | skip
 ·rename_i d;simp only at e;have hh := zj e;clear e;obtain ⟨z, hz, e⟩ := hh;obtain ⟨w, rfl, hw⟩ := x5 ra;obtain ⟨c, h1, h2⟩ := znJ hw hz;refine .quiet I (fun call => by simp only [runK, ka, zC]; exact h1) (yB h2) e (hm := fun xo hx => ?_)
  cases hx;refine ⟨_, ka, ?_⟩;cases hw with
  | lst cs g1 g2 =>
   refine .inr ⟨_, rfl, .inr ⟨rfl, fun N' H => ?_⟩⟩
   obtain ⟨w', hw', hr'⟩ := x5 (H _ _ ka pka);cases hw';obtain ⟨b2, o2, off2, cap2, ex2, cs2, q1, q2, q3, _⟩ := hr'.lst_inv;cases q1;exact ⟨q2, _, q3⟩
  | nils => exact .inl rfl
  | _ => cases hz
 ·rename_i j;simp only at e;obtain ⟨c, rfl, hj, hc⟩ := yf ra;cases ho : og os j with
  | arr st vo =>
   rw [ho] at e;simp only at e;have hh := zj e;clear e;obtain ⟨z, hz, e⟩ := hh;have hO := I.obj j;rw [ho] at hO;have := zge (fz' := fun _ => True) ⟨fun _ _ _ _ => trivial, fun _ _ _ h => h⟩ hO (fun _ _ _ => trivial)
   obtain ⟨c', h1, h2⟩ := znJ this hz;refine .quiet I (fun call => by simp only [runK, ka, zC]; rw [hc]; exact h1) (yB h2) e (hm := fun xo hx => ?_)
   cases hx;refine ⟨_, ka, ?_⟩;cases vo with
   | none => exact .inl (by rw [hc, show N.μ j = .nils from hO]; rfl)
   | some xs =>
    obtain ⟨b, vs, ex, q1, _⟩ := hO;exact .inr ⟨b, by rw [hc, q1]; rfl, .inl ⟨j, rfl, hj, by rw [q1]; rfl, by rw [ho]; trivial, fun N' H => (yf (H _ _ ka pka)).elim fun _ q => q.2.1⟩⟩
  | _ => rw [ho] at e; cases e
theorem znG {t : Tr AVal} {x : Option DV} {o : Option AVal} {d y y' i : Nat} (hx : ∀ v, x = some v → ∃ w, o = some w ∧ RepPA N w (pd v)) (hn : x = none → o = none) (e : bndD x d y = some i) (hy : y ≤ y') : bnd t (cO o) d y' = some i := by
 refine vR hx hn ?_;cases x with
 | none => exact e
 | some v =>
  cases v <;> first | cases e | skip
  rename_i kk n;cases n with
  | negSucc n => cases e
  | ofNat n =>
   simp only [bndD] at e ⊢;cases hb : Nat.ble n y with
   | false => rw [hb] at e; cases e
   | true =>
    rw [hb] at e;have := Lz4 hb;rw [Nat.ble_eq_true_of_le (by omega : n ≤ y')]
    exact e
theorem qm {x : Option DV} {d y i : Nat} (e : bndD x d y = some i) (hd : d ≤ y) : i ≤ y := by
 cases x with
 | none => cases e; exact hd
 | some v =>
  cases v <;> first | cases e | skip
  rename_i kk n;cases n with
  | negSucc n => cases e
  | ofNat n =>
   simp only [bndD] at e;cases hb : Nat.ble n y with
   | false => rw [hb] at e; cases e
   | true => rw [hb] at e; cases e; exact Lz4 hb
theorem zlK {st : Nat} {w : CVal} {v z : DV} {lo hi : Option DV} {ol oh : Option AVal} (H : Rep N.fz N.h w v) (l1 : ∀ v, lo = some v → ∃ w, ol = some w ∧ RepPA N w (pd v)) (l2 : lo = none → ol = none) (h1 : ∀ v, hi = some v → ∃ w, oh = some w ∧ RepPA N w (pd v)) (h2 : hi = none → oh = none)
  (e : uw st v lo hi = some z) : ∃ c, ul st (.s (.one w)) ol oh none N.h = some (.s (.one c), N.h) ∧ Rep N.fz N.h c z := by
 unfold uw at e;split at e
 ·split at e
  ·rename_i a b ha hb;cases e;rw [H.scal rfl];refine ⟨.nils, ?_, .nils⟩;show xg (cO ol) (cO oh) (cO none) .nil N.h = _;unfold xg;rw [vR h1 h2 ha, vR l1 l2 hb];rfl
  ·cases e
 ·rename_i st' xs;cases hs : Nat.beq st st' with
  | false => rw [hs] at e; cases e
  | true =>
   rw [hs] at e;have := Lz1 hs;subst this;simp only [cond_true] at e;cases hh : bndD hi xs.length xs.length with
   | none => rw [hh] at e; cases e
   | some y =>
    rw [hh] at e;simp only at e;cases hl : bndD lo 0 y with
    | none => rw [hl] at e; cases e
    | some l =>
     rw [hl] at e;simp only at e;cases hc : (Nat.beq l 0 || !Nat.beq l y) with
     | false => rw [hc] at e; cases e
     | true =>
      rw [hc] at e;cases e;obtain ⟨b, o, off, cap, ex, cs, rfl, g1, g2, g3, g4, g5⟩ := H.lst_inv;have hy := qm hh (LzB _);have hly := qm hl (Nat.zero_le _);have hlen : ((xs.drop l).take (y - l)).length = y - l := by simp; omega
      have ml : l * st ≤ y * st := Nat.mul_le_mul_right st hly;have my : y * st ≤ xs.length * st := Nat.mul_le_mul_right st hy;have rep : ∀ (cap' : Nat) (ex' : Bool), (ex' = true → y - l ≤ cap') → Rep N.fz N.h (.slc b (off + l * st) (y - l) cap' ex') (.lst st ((xs.drop l).take (y - l))) := by
       intro cap' ex' hcap;have := Rep.lst_mk (off := off + l * st) (cap := cap') (ex := ex') (xs := (xs.drop l).take (y - l)) (cs := (cs.drop (l * st)).take ((y - l) * st)) g1 g2 (by rw [hlen]; exact hcap)
        (by rw [hlen]; exact zbS g4 (by rw [Nat.mul_sub_right_distrib]; omega)) (fun i z hz => by
         rw [List.getElem?_take] at hz;split at hz
         ·rename_i hi;rw [List.getElem?_drop] at hz;obtain ⟨q1, q2⟩ := g5 _ _ hz;refine ⟨q1, ?_⟩;have e1 : List.take st (List.drop (i * st) (List.take ((y - l) * st) (List.drop (l * st) cs))) = List.take st (List.drop ((l + i) * st) cs) := by
           have := Nat.mul_le_mul_right st (show i + 1 ≤ y - l from hi)
           rw [Nat.succ_mul] at this;rw [List.drop_take, List.drop_drop, List.take_take, Nat.add_mul, Nat.min_eq_left (by omega)]
          rw [e1]; exact q2
         ·cases hz)
       rwa [hlen] at this
      cases ex with
      | true =>
       have hcap := g3 rfl;have run : ul st (.s (.one (.slc b off xs.length cap true))) ol oh none N.h = some (.s (.one (.slc b (bif Nat.beq cap l then off else off + l * st) (y - l) (cap - l) true)), N.h) := by
        show y3 st (cO ol) (cO oh) (cO none) .nil N.h b off xs.length cap = _;unfold y3;have hm : bnd .nil (cO none) cap cap = some cap := (id rfl);rw [hm];simp only;rw [znG h1 h2 hh hcap];simp only;rw [vR l1 l2 hl];simp only;rw [Nat.ble_eq_true_of_le (by omega : y ≤ cap)]
        rfl
       refine ⟨_, run, ?_⟩;cases hq : Nat.beq cap l with
       | false => exact rep _ _ (fun _ => by omega)
       | true =>
        have hq := Lz1 hq;have hly2 : l = y := by omega
        have hl0 : l = 0 := by
         rw [Bool.or_eq_true] at hc;rcases hc with hc | hc
         ·exact Lz1 hc
         ·rw [hly2, Nat.beq_refl] at hc; cases hc
        have := rep (cap - l) true (fun _ => by omega)
        rw [show off + l * st = off by rw [hl0]; omega] at this
        exact this
      | false =>
       have run : ul st (.s (.one (.slc b off xs.length cap false))) ol oh none N.h = some (.s (.one (.slc b (off + l * st) (y - l) (cap + l) false)), N.h) := by
        show y0 st (cO ol) (cO oh) (cO none) .nil N.h b off xs.length cap = _;unfold y0;show (match bnd .nil (cO oh) xs.length xs.length with
         | some hh => match bnd .nil (cO ol) 0 hh with
          | some l => bif Nat.beq l 0 || !Nat.beq l hh then some (AVal.s (.one (.slc b (off + l * st) (hh - l) (cap + l) false)), N.h) else none
          | none => none
         | none => none) = _
        rw [vR h1 h2 hh];simp only;rw [vR l1 l2 hl];simp only;rw [hc]; rfl
       exact ⟨_, run, rep _ _ (fun h => by cases h)⟩
 ·cases e
theorem zcF (zs : List CVal) : ∀ n, (repl zs n).length = n * zs.length
 | 0 => by simp [repl]
 | n + 1 => by rw [repl, List.length_append, zcF zs n, Nat.succ_mul, Nat.add_comm]
theorem zcG (zs : List CVal) : ∀ (n i : Nat), i < n → ((repl zs n).drop (i * zs.length)).take zs.length = zs
 | 0, i, h => by omega
 | n + 1, 0, _ => by simp [repl]
 | n + 1, i + 1, h => by
  rw [repl, Nat.succ_mul, Nat.add_comm, ← List.drop_drop];rw [List.drop_left];exact zcG zs n i (by omega)
theorem zbE {st off len cap l n : Nat} {ex : Bool} {b : BN} {lo hi : Option DV} {ol oh : Option AVal} (hex : ex = true → len ≤ cap) (l1 : ∀ v, lo = some v → ∃ w, ol = some w ∧ RepPA N w (pd v)) (l2 : lo = none → ol = none) (h1 : ∀ v, hi = some v → ∃ w, oh = some w ∧ RepPA N w (pd v)) (h2 : hi = none → oh = none)
  (e : vwB lo hi len = some (l, n)) (h : AHeap) : l + n ≤ len ∧ ∃ cap' ex', ul st (.s (.one (.slc b off len cap ex))) ol oh none h = some (.s (.one (.slc b (off + l * st) n cap' ex')), h) ∧ (ex' = true → n ≤ cap') := by
 unfold vwB at e;cases hh : bndD hi len len with
 | none => rw [hh] at e; cases e
 | some y =>
  rw [hh] at e;simp only at e;cases hl : bndD lo 0 y with
  | none => rw [hl] at e; cases e
  | some l0 =>
   rw [hl] at e;simp only at e;cases hc : (Nat.beq l0 0 || !Nat.beq l0 y) with
   | false => rw [hc] at e; cases e
   | true =>
    rw [hc] at e;cases e;have hy := qm hh (LzB _);have hly := qm hl (Nat.zero_le _);refine ⟨by omega, ?_⟩
    cases ex with
    | true =>
     have hcap := hex rfl;have run : ul st (.s (.one (.slc b off len cap true))) ol oh none h = some (.s (.one (.slc b (bif Nat.beq cap l then off else off + l * st) (y - l) (cap - l) true)), h) := by
      show y3 st (cO ol) (cO oh) (cO none) .nil h b off len cap = _;unfold y3;have hm : bnd .nil (cO none) cap cap = some cap := (id rfl);rw [hm];simp only;rw [znG h1 h2 hh hcap];simp only;rw [vR l1 l2 hl];simp only;rw [Nat.ble_eq_true_of_le (by omega : y ≤ cap)]
      rfl
     refine ⟨cap - l, true, run.trans ?_, fun _ => by omega⟩
     cases hq : Nat.beq cap l with
     | false => rfl
     | true =>
      have hq := Lz1 hq;have hly2 : l = y := by omega
      have hl0 : l = 0 := by
       rw [Bool.or_eq_true] at hc;rcases hc with hc | hc
       ·exact Lz1 hc
       ·rw [hly2, Nat.beq_refl] at hc; cases hc
      rw [hl0, Nat.zero_mul]; rfl
    | false =>
     refine ⟨cap + l, false, ?_, fun h => by cases h⟩
     show y0 st (cO ol) (cO oh) (cO none) .nil h b off len cap = _;unfold y0;show (match bnd .nil (cO oh) len len with
      | some hh => match bnd .nil (cO ol) 0 hh with
       | some l => bif Nat.beq l 0 || !Nat.beq l hh then some (AVal.s (.one (.slc b (off + l * st) (hh - l) (cap + l) false)), h) else none
       | none => none
      | none => none) = _
     rw [vR h1 h2 hh];simp only;rw [vR l1 l2 hl];simp only;rw [hc]; rfl
theorem zbF {st l n : Nat} {lo hi : Option DV} {ol oh : Option AVal} (l1 : ∀ v, lo = some v → ∃ w, ol = some w ∧ RepPA N w (pd v)) (l2 : lo = none → ol = none) (h1 : ∀ v, hi = some v → ∃ w, oh = some w ∧ RepPA N w (pd v)) (h2 : hi = none → oh = none)
  (e : vwB lo hi 0 = some (l, n)) (h : AHeap) : l = 0 ∧ n = 0 ∧ ul st (.s (.one .nils)) ol oh none h = some (.s (.one .nils), h) := by
 unfold vwB at e;cases hh : bndD hi 0 0 with
 | none => rw [hh] at e; cases e
 | some y =>
  have hy := qm hh (LzB _);obtain rfl : y = 0 := by omega
  rw [hh] at e;simp only at e;cases hl : bndD lo 0 0 with
  | none => rw [hl] at e; cases e
  | some l0 =>
   have hy := qm hl (LzB _);obtain rfl : l0 = 0 := by omega
   rw [hl] at e;cases e;refine ⟨rfl, rfl, ?_⟩;show xg (cO ol) (cO oh) (cO none) .nil h = _;unfold xg;rw [vR h1 h2 hh, vR l1 l2 hl];rfl
theorem zjL (I : InvO E N os) (F : ∀ i, RepPA N (r i) (ρ i)) {st : Nat} {a : Operand} {lo hi mx : Option Operand} (e : (match mx with
  | none => w1 (pv ρ a) fun c => za (pvo ρ lo) fun lo => za (pvo ρ hi) fun hi => zcN os st c lo hi k
  | some _ => none) = some x) : GoalQ N os r ρ (.slice st a lo hi mx) k x := by
 cases mx with
 | some m => cases e
 | none =>
  simp only at e;have hh := vU F e;clear e;obtain ⟨c, v, e, ka, ra, pka⟩ := hh;have hq := zj e;clear e;obtain ⟨l, hl, e⟩ := hq;have hq := zj e;clear e;obtain ⟨h, hh, e⟩ := hq;obtain ⟨ol, kl, l1, l2⟩ := zgD F hl;obtain ⟨oh, kh, h1, h2⟩ := zgD F hh;have run : ∀ call, runK r (.slice st a lo hi none) call N.h = ul st v ol oh none N.h := fun call => by
   show zC (kv r a) (fun x => match kvo r lo, kvo r hi, (some none : Option (Option AVal)) with | some lo, some hi, some mx => ul st x lo hi mx N.h | _, _, _ => none) = _
   rw [ka, kl, kh];rfl
  have data : ∀ (w : CVal) (d : DV), v = .s (.one w) → Rep N.fz N.h w d → za (uw st d l h) (fun z => k (pd z) os [] []) = some x → GoalQ N os r ρ (.slice st a lo hi none) k x := by
   intro w d hv hw e;have hq := zj e;clear e;obtain ⟨z, hz, e⟩ := hq;obtain ⟨c', q1, q2⟩ := zlK hw l1 l2 h1 h2 hz;exact .quiet I (v := .s (.one c')) (fun call => by rw [run, hv]; exact q1) (vz q2) e
  cases c with
  | d d =>
   obtain ⟨w, hv, hw⟩ := x5 ra;exact data w d hv hw e
  | own j =>
   obtain ⟨w, hv, hj, hw⟩ := yf ra;simp only [zcN] at e;cases ho : og os j with
   | frz d =>
    rw [ho] at e;have hO := I.obj j;rw [ho] at hO;exact data w d hv (by rw [hw]; exact hO) e
   | arr st' vo =>
    rw [ho] at e;simp only at e;cases hs : Nat.beq st st' with
    | false => rw [hs] at e; cases e
    | true =>
     rw [hs] at e;have := Lz1 hs;subst this;simp only [cond_true] at e;have hq := zj e;clear e;obtain ⟨⟨p1, p2⟩, hp, e⟩ := hq;cases vo with
     | none =>
      have hO := I.obj j;rw [ho] at hO;have hO : N.μ j = .nils := hO;obtain ⟨rfl, rfl, q⟩ := zbF (st := st) l1 l2 h1 h2 hp N.h;exact .quiet I (v := .s (.one .nils)) (fun call => by rw [run, hv, hw, hO]; exact q) (yZ (p := .vw j st 0 0) ⟨hj, .inl ⟨hO, rfl, rfl, rfl⟩⟩) e
     | some xs =>
      obtain ⟨b, vs, ex, g1, _⟩ := zbp I ho;obtain ⟨q0, cap', ex', q1, q2⟩ := zbE (st := st) (off := 0) (b := b) (cap := bif ex then xs.length else 0) (ex := ex) (fun h => by rw [h]; exact LzB _) l1 l2 h1 h2 hp N.h
      refine .quiet I (v := .s (.one (.slc b (p1 * st) p2 cap' ex'))) (fun call => ?_) (yZ (p := .vw j st p1 p2) ⟨hj, .inr ⟨b, _, _, _, cap', ex', g1, rfl, q0, q2⟩⟩) e
      rw [run, hv, hw, g1];rw [Nat.zero_add] at q1;exact q1
   | _ => rw [ho] at e; cases e
  | vw j st' lo2 n2 =>
   obtain ⟨w, hv, hj, hw⟩ := yf ra;simp only [zcN] at e;cases hs : Nat.beq st st' with
   | false => rw [hs] at e; cases e
   | true =>
    rw [hs] at e;have := Lz1 hs;subst this;simp only [cond_true] at e;have hq := zj e;clear e;obtain ⟨⟨p1, p2⟩, hp, e⟩ := hq;rcases hw with ⟨g1, rfl, rfl, rfl⟩ | ⟨b, l0, cap, ex, cap', ex', g1, rfl, g2, g3⟩
    ·obtain ⟨rfl, rfl, q⟩ := zbF (st := st) l1 l2 h1 h2 hp N.h;exact .quiet I (v := .s (.one .nils)) (fun call => by rw [run, hv]; exact q) (yZ (p := .vw j st (0 + 0) 0) ⟨hj, .inl ⟨g1, rfl, rfl, rfl⟩⟩) e
    ·obtain ⟨q0, cap2, ex2, q1, q2⟩ := zbE (st := st) (off := lo2 * st) (b := b) (cap := cap') (ex := ex') g3 l1 l2 h1 h2 hp N.h;refine .quiet I (v := .s (.one (.slc b ((lo2 + p1) * st) p2 cap2 ex2))) (fun call => ?_) (yZ (p := .vw j st (lo2 + p1) p2) ⟨hj, .inr ⟨b, _, _, _, cap2, ex2, g1, rfl, by omega, q2⟩⟩) e
     rw [run, hv, q1, Nat.add_mul]
  | _ => cases e
theorem zoT (I : InvO E N os) (F : ∀ i, RepPA N (r i) (ρ i)) {st : Nat} {zs : List CVal} {a : Operand} (e : w1 (pv ρ a) (fun c => zjD lk os st zs c k) = some x) : Goal C E lk N os r (.clear st zs a) k x := by
 have hh := vU F e;clear e;obtain ⟨c, v, e, ka, ra, pka⟩ := hh;cases c <;> first | cases e | skip
 rename_i j st' lo len;simp only [zjD] at e;obtain ⟨w, rfl, hj, hw⟩ := yf ra;cases ho : og os j with
 | arr st'' vo =>
  rw [ho] at e;simp only at e;cases hlj : lk j with
  | true => rw [hlj] at e; cases e
  | false =>
   rw [hlj] at e;simp only [cond_false] at e;cases hs : (Nat.beq st st' && Nat.beq st st'' && Nat.beq zs.length st) with
   | false => rw [hs] at e; cases e
   | true =>
    rw [hs] at e;simp only [cond_true] at e;rw [LzC, LzC] at hs;have t1 := Lz1 hs.1.1;have t2 := Lz1 hs.1.2;have t3 := Lz1 hs.2;subst t1 t2;have hh := zj e;clear e;obtain ⟨ps, hp, e⟩ := hh;have hh := zj e;clear e;obtain ⟨ds, hd, e⟩ := hh;have hz : RepL N.fz N.h zs ds := qp hd (kO (N := N) hp);have run : ∀ call, runK r (.clear st zs a) call N.h = znd st zs (.s (.one w)) N.h := fun call => by simp only [runK, ka, zC]
    have hjl : j < os.length := zd9 (by rw [ho]; intro h; cases h)
    cases vo with
    | none =>
     have hO := I.obj j;rw [ho] at hO;have hO : N.μ j = .nils := hO;rcases hw with ⟨g1, rfl, rfl, rfl⟩ | ⟨b, l0, cap, ex, cap', ex', g1, rfl, g2, g3⟩
     ·refine ⟨_, _, _, _, e, ⟨(zX, N.h), ⟨N, rfl, ⟨I.turn j _ (fun h => h) hO, .refl N, ⟨LzB _, fun _ _ _ => rfl⟩, fun j' hj' => ?_, .oset (fun h => h.elim) (fun h => by rw [ho] at h; exact h.elim) (fun h => h.elim), .bad _⟩⟩, 0, fun n _ => ?_⟩⟩
      ·rw [yu, if_neg (fun e => by rw [e.1, hlj] at hj'; cases hj')]
      ·exact run (C n)
     ·rw [hO] at g1; cases g1
    | some xs =>
     obtain ⟨b', vs, ex2, k1, k2, k3, k4, k5⟩ := zbp I ho;rcases hw with ⟨g1, rfl, rfl, rfl⟩ | ⟨b, l0, cap, ex, cap', ex', g1, rfl, g2, g3⟩
     ·rw [g1] at k1; cases k1
     ·rw [g1] at k1;cases k1;by_cases hl : len = 0
      ·subst hl;have hs : oset (.arr st (clrO (some xs) lo 0 ds)) os j = os := by
        have : PO.arr st (clrO (some xs) lo 0 ds) = og os j := by rw [ho]; simp [clrO]
        rw [this, zd5]
       rw [hs] at e;refine ⟨_, _, _, _, e, ⟨(zX, N.h), ⟨N, rfl, ⟨I, .refl N, .same rfl, fun _ _ => rfl, .refl _ _ _, .bad _⟩⟩, 0, fun n _ => ?_⟩⟩
       exact run (C n)
      have hlv : live (og os j) := by rw [ho]; trivial
      have hbk : blk (N.μ j) = some b' := by rw [g1]; rfl
      have rl : (repl zs len).length = len * st := by rw [zcF, t3]
      have m1 : (lo + len) * st ≤ xs.length * st := Nat.mul_le_mul_right st g2;rw [Nat.add_mul] at m1
      let X := vs.take (lo * st) ++ repl zs len ++ vs.drop (lo * st + (repl zs len).length)
      have hX : X.length = xs.length * st := by simp [X, rl]; omega
      have hn : (xs.take lo ++ List.replicate len ds ++ xs.drop (lo + len)).length = xs.length := by simp; omega
      have fg : FG N.fz N.h N.fz (N.h.put b' (.cells X st)) := ⟨fun _ _ h _ => h, fun b2 z hf2 hz => by
       rw [wD _ _ (fun (e : b2 = b') => k2 (by rw [← e]; exact hf2))]; exact hz⟩
      obtain ⟨i1, i2, i3⟩ := I.put hlv hbk (.cells X st) (.arr st (some (xs.take lo ++ List.replicate len ds ++ xs.drop (lo + len))))
       ⟨b', X, _, by rw [hn]; exact g1, k2, qY _ _ _, by rw [hn]; exact hX, fun t z hzt => by
        have ht : t < xs.length := by have := (Lz0.1 hzt).1; omega
        have mt := Nat.mul_le_mul_right st (show t + 1 ≤ xs.length from ht)
        rw [Nat.succ_mul] at mt;by_cases c1 : t < lo
        ·rw [List.append_assoc, Lz2 (by simp; omega), List.getElem?_take, if_pos c1] at hzt
         obtain ⟨q1, q2⟩ := k5 t z hzt;refine ⟨q1, ?_⟩;have mt2 := Nat.mul_le_mul_right st (show t + 1 ≤ lo from c1)
         rw [Nat.succ_mul] at mt2;show RepL _ _ ((X.drop (t * st)).take st) _;have : (X.drop (t * st)).take st = (vs.drop (t * st)).take st := by
          show List.take st (List.drop (t * st) (vs.take (lo * st) ++ repl zs len ++ vs.drop (lo * st + (repl zs len).length))) = _;rw [List.append_assoc, List.drop_append_of_le_length (by simp; omega), List.take_append_of_le_length (by simp; omega), List.drop_take, List.take_take, Nat.min_eq_left (by omega)]
         rw [this]; exact q2.mono fg
        ·by_cases c2 : t < lo + len
         ·rw [List.append_assoc, Lz8 (by simp; omega), Lz2 (by simp; omega), List.getElem?_replicate, if_pos (by simp; omega)] at hzt
          cases hzt;refine ⟨by rw [← hz.1, t3], ?_⟩
          have mt2 := Nat.mul_le_mul_right st (show t - lo + 1 ≤ len by omega)
          rw [Nat.succ_mul] at mt2;have mt3 : t * st = lo * st + (t - lo) * st := by rw [← Nat.add_mul]; congr 1; omega
          show RepL _ _ ((X.drop (t * st)).take st) _;have : (X.drop (t * st)).take st = zs := by
           show List.take st (List.drop (t * st) (vs.take (lo * st) ++ repl zs len ++ vs.drop (lo * st + (repl zs len).length))) = _;have hl0 : (vs.take (lo * st)).length = lo * st := by simp; omega
           rw [List.append_assoc, mt3, ← List.drop_drop, List.drop_left' hl0, List.drop_append_of_le_length (by omega), List.take_append_of_le_length (by simp; omega)]
           have := zcG zs len (t - lo) (by omega)
           rwa [t3] at this
          rw [this]; exact hz.mono fg
         ·have hl0 : (xs.take lo ++ List.replicate len ds).length = lo + len := by simp; omega
          rw [Lz8 (by omega), hl0, List.getElem?_drop] at hzt
          rw [show lo + len + (t - (lo + len)) = t by omega] at hzt
          obtain ⟨q1, q2⟩ := k5 t z hzt;refine ⟨q1, ?_⟩;have mt2 := Nat.mul_le_mul_right st (show lo + len ≤ t by omega)
          rw [Nat.add_mul] at mt2;show RepL _ _ ((X.drop (t * st)).take st) _;have : (X.drop (t * st)).take st = (vs.drop (t * st)).take st := by
           show List.take st (List.drop (t * st) (vs.take (lo * st) ++ repl zs len ++ vs.drop (lo * st + (repl zs len).length))) = _;have hl1 : (vs.take (lo * st) ++ repl zs len).length = lo * st + len * st := by simp [rl]; omega
           rw [show t * st = (lo * st + len * st) + (t * st - (lo * st + len * st)) by omega, ← List.drop_drop, List.drop_left' hl1, List.drop_drop, rl]
          rw [this]; exact q2.mono fg⟩
      refine ⟨_, _, _, _, e, ⟨(zX, N.h.put b' (.cells X st)), ⟨⟨N.μ, N.n, N.fz, N.h.put b' (.cells X st)⟩, rfl, ⟨i1, i2, Bk.put rfl (by rw [I.len]; exact hjl) hlv hbk, fun j' hj' => ?_, .oset (fun _ => by rw [ho]; trivial) (fun _ => .inl trivial) (fun _ => by rw [ho]; trivial), .bad _⟩⟩, 0, fun n _ => ?_⟩⟩
      ·rw [yu, if_neg (fun e => by rw [e.1, hlj] at hj'; cases hj')]
      ·refine (run (C n)).trans ?_;show (bif Nat.beq len 0 then some (zX, N.h) else zdt st zs N.h b' (lo * st) len (N.h.t.get b')) = _
       have hb0 : Nat.beq len 0 = false := by
        cases hq : Nat.beq len 0 with
        | false => rfl
        | true => exact absurd (Lz1 hq) hl
       rw [hb0, k3, cond_false];simp only [zdt];rw [t3, Nat.beq_refl, cond_true, qZ (repl zs len) vs (lo * st) (by omega)]
       rfl
 | _ => rw [ho] at e; cases e
theorem zhg {st : Nat} {vs ws : List CVal} {xs ys : List (List DV)} {fz : BN → Prop} {h : AHeap} (hl : vs.length = xs.length * st) (hw : ws.length = ys.length * st)
  (H : ∀ (i : Nat) (x : List DV), xs[i]? = some x → x.length = st ∧ RepL fz h ((vs.drop (i * st)).take st) x) (K : ∀ (i : Nat) (x : List DV), ys[i]? = some x → x.length = st ∧ RepL fz h ((ws.drop (i * st)).take st) x) :
  (vs ++ ws).length = (xs ++ ys).length * st ∧ ∀ (i : Nat) (x : List DV), (xs ++ ys)[i]? = some x → x.length = st ∧ RepL fz h (((vs ++ ws).drop (i * st)).take st) x := by
 refine ⟨by simp [hl, hw, Nat.add_mul], fun i x hx => ?_⟩
 by_cases hi : i < xs.length
 ·rw [Lz2 hi] at hx;obtain ⟨a, b⟩ := H i x hx;refine ⟨a, ?_⟩;have := Nat.mul_le_mul_right st (show i + 1 ≤ xs.length from hi)
  rw [Nat.succ_mul] at this;rw [List.drop_append_of_le_length (by omega), List.take_append_of_le_length (by simp; omega)]
  exact b
 ·rw [Lz8 (by omega)] at hx
  obtain ⟨a, b⟩ := K _ x hx;refine ⟨a, ?_⟩;have hle : xs.length * st ≤ i * st := Nat.mul_le_mul_right st (by omega)
  rw [List.drop_append, List.drop_of_length_le (by omega), List.nil_append, hl]
  rw [Nat.mul_sub_right_distrib] at b;exact b
theorem zdo {fz : BN → Prop} {h : AHeap} {st : Nat} {w : CVal} {v : DV} {xs : List (List DV)} (H : Rep fz h w v) (e : j4 st v = some xs) : ∃ cs, zdM false st h (.s (.one w)) = some (cs, xs.length) ∧ cs.length = xs.length * st ∧
  ∀ (i : Nat) (x : List DV), xs[i]? = some x → x.length = st ∧ RepL fz h ((cs.drop (i * st)).take st) x := by
 cases v <;> simp only [j4] at e <;> first | cases e | skip
 ·rw [H.scal rfl]; exact ⟨[], rfl, by simp, fun i x hx => by simp at hx⟩
 ·rename_i st' ys;cases hs : Nat.beq st st' with
  | false => rw [hs] at e; cases e
  | true =>
   rw [hs] at e;cases e;have := Lz1 hs;subst this;obtain ⟨b, o, off, cap, ex, cs, rfl, g1, g2, g3, g4, g5⟩ := H.lst_inv;refine ⟨cs, ?_, zbT g4, g5⟩;show (match h.t.get b with
    | some (.cells l _) => match cut (Nat.mul xs.length st) l off with | some l => some (l, xs.length) | none => none
    | some (.ro _ f) => match cutF f (Nat.mul xs.length st) off with | some l => some (l, xs.length) | none => none
    | some (.tcells l _ _) => match cut (Nat.mul xs.length st) l off with | some l => some (l, xs.length) | none => none
    | some .void => bif Nat.beq (Nat.mul xs.length st) 0 then some ([], xs.length) else none
    | _ => none) = _
   rw [g2];cases o with
   | cells l s => simp only; rw [show cut (Nat.mul xs.length st) l off = some cs from g4]
   | ro y f => simp only; rw [show cutF f (Nat.mul xs.length st) off = some cs from g4]
   | void => obtain ⟨k1, k2⟩ := zcH g4; subst k2; simp only; rw [show Nat.beq (Nat.mul xs.length st) 0 = true by rw [show Nat.mul xs.length st = 0 from k1]; rfl]; rfl
   | _ => cases g4
theorem zql (I : InvO E N os) {st : Nat} {c : PC} {v : AVal} {K : List (List DV) → Option β} (ra : RepPA N v (pc c)) (e : srcP os st c K = some x) : ∃ new cs, K new = some x ∧ zdM false st N.h v = some (cs, new.length) ∧ cs.length = new.length * st ∧
  ∀ (i : Nat) (x : List DV), new[i]? = some x → x.length = st ∧ RepL N.fz N.h ((cs.drop (i * st)).take st) x := by
 obtain ⟨w, rfl, hw⟩ := yf ra;cases c <;> simp only [srcP] at e <;> first | cases e | skip
 ·obtain ⟨new, hn, e⟩ := zj e;obtain ⟨cs, h1, h2, h3⟩ := zdo hw hn;exact ⟨new, cs, e, h1, h2, h3⟩
 ·rename_i j;obtain ⟨hj, rfl⟩ := hw;have hO := I.obj j;cases ho : og os j with
  | arr st' vo =>
   rw [ho] at e hO;simp only at e;cases hs : Nat.beq st st' with
   | false => rw [hs] at e; cases e
   | true =>
    rw [hs] at e;have := Lz1 hs;subst this;cases vo with
    | none => refine ⟨[], [], e, ?_, by simp, fun i x hx => by simp at hx⟩; rw [show N.μ j = .nils from hO]; rfl
    | some xs =>
     have := hO;obtain ⟨b, vs, ex, h1, h2, h3, h4, h5⟩ := this;refine ⟨xs, vs, e, ?_, h4, h5⟩;have hr := zge (fz' := fun _ => True) ⟨fun _ _ _ _ => trivial, fun _ _ _ h => h⟩ hO (fun _ _ _ => trivial)
     obtain ⟨cs, q1, q2, _⟩ := zdo (st := st) (xs := xs) hr (by simp [mkL, j4])
     rw [q1];have : cs = vs := by
      rw [h1] at q1;have : (match N.h.t.get b with
       | some (.cells l _) => match cut (Nat.mul xs.length st) l 0 with | some l => some (l, xs.length) | none => none
       | some (.ro _ f) => match cutF f (Nat.mul xs.length st) 0 with | some l => some (l, xs.length) | none => none
       | some (.tcells l _ _) => match cut (Nat.mul xs.length st) l 0 with | some l => some (l, xs.length) | none => none
       | some .void => bif Nat.beq (Nat.mul xs.length st) 0 then some ([], xs.length) else none
       | _ => none) = some (cs, xs.length) := q1
      rw [h3] at this;simp only at this;rw [show cut (Nat.mul xs.length st) vs 0 = some vs by show cut (xs.length * st) vs 0 = _; rw [← h4]; exact zdq vs] at this
      cases this; rfl
     rw [this]
  | frz d =>
   rw [ho] at e hO;simp only at e;obtain ⟨new, hn, e⟩ := zj e;obtain ⟨cs, h1, h2, h3⟩ := zdo (show Rep N.fz N.h (N.μ j) d from hO) hn
   exact ⟨new, cs, e, h1, h2, h3⟩
  | _ => rw [ho] at e; cases e
theorem InvO.name (I : InvO E N os) (hlk : ∀ j, lk j = true → j < os.length) {j st : Nat} {v : OC} (hj : j < os.length) (hlj : lk j = false) (ho : og os j = .arr st v) :
  ∃ N', N'.h = N.h ∧ N'.n = os.length + 1 ∧ Stp E lk N os [j] N' (oset .dead os j ++ [.arr st v]) ∧ RepPA N' (.s (.one (N.μ j))) (pc (.own os.length)) := by
 have hO := I.obj j;rw [ho] at hO
 let N' : Nm := ⟨upd N.μ os.length (N.μ j), os.length + 1, N.fz, N.h⟩
 have mu : ∀ k, k ≠ os.length → N'.μ k = N.μ k := fun k hk => by show (if k = os.length then _ else N.μ k) = _; rw [if_neg hk]
 have muL : N'.μ os.length = N.μ j := by show (if os.length = os.length then _ else _) = _; rw [if_pos rfl]
 have nx : Nx N N' := ⟨.refl _ _, by have := I.len; show N.n ≤ os.length + 1; omega, fun k hk => mu k (by have := I.len; omega)⟩
 have hlen := yE .dead os j;have t : ∀ i, live (og (oset .dead os j ++ [.arr st v]) i) → (i = os.length ∧ live (og os j)) ∨ (i ≠ os.length ∧ i ≠ j ∧ live (og os i)) := fun i hi => by
  rw [wm, hlen] at hi;by_cases h1 : i = os.length
  ·rw [if_pos h1] at hi; exact .inl ⟨h1, by rw [ho]; exact hi⟩
  ·rw [if_neg h1, yu] at hi;by_cases h2 : i = j
   ·rw [if_pos ⟨h2, hj⟩] at hi; exact hi.elim
   ·rw [if_neg (fun e => h2 e.1)] at hi; exact .inr ⟨h1, h2, hi⟩
 refine ⟨N', rfl, rfl, ⟨⟨I.hw, I.gr, I.fzlt, I.fzok, I.fzex, by show os.length + 1 = _; simp [hlen], ?_, ?_, ?_⟩, nx, Bk.same rfl, fun j' hj' => ?_, Ho.trans (w1 := [j]) (w2 := []) (Ho.oset (o := .dead) (fun h => h.elim) (fun _ => .inr (List.mem_singleton_self j)) (fun h => h.elim)) (.app (by rw [hlen]; exact Nat.le_of_eq I.len))⟩, yZ (p := .own os.length) ⟨by show os.length < os.length + 1; omega, muL.symm⟩⟩
 ·intro k b hl hb;rcases t k hl with ⟨h1, h2⟩ | ⟨h1, h2, h3⟩
  ·rw [h1, muL] at hb; exact I.own j b h2 hb
  ·rw [mu k h1] at hb; exact I.own k b h3 hb
 ·intro k k' b hl hl' hb hb';rcases t k hl with ⟨h1, h2⟩ | ⟨h1, h2, h3⟩ <;> rcases t k' hl' with ⟨g1, g2⟩ | ⟨g1, g2, g3⟩
  ·rw [h1, g1]
  ·rw [h1, muL] at hb;rw [mu k' g1] at hb';exact absurd (I.inj k' j b g3 h2 hb' hb) g2
  ·rw [g1, muL] at hb';rw [mu k h1] at hb;exact absurd (I.inj k j b h3 g2 hb hb') h2
  ·rw [mu k h1] at hb;rw [mu k' g1] at hb';exact I.inj k k' b h3 g3 hb hb'
 ·intro k;rw [wm, hlen];by_cases h1 : k = os.length
  ·rw [if_pos h1, h1];cases v with
   | none => exact muL.trans hO
   | some xs =>
    obtain ⟨b, vs, ex, q1, q2⟩ := hO;exact ⟨b, vs, ex, muL.trans q1, q2⟩
  ·rw [if_neg h1, yu];split
   ·trivial
   ·exact (I.obj k).mono nx (mu k h1) fun hl b hb => by
     obtain ⟨b', x', q1, q2, q3⟩ := yw hl (I.obj k);rw [q1] at hb; cases hb;exact ⟨q2, rfl⟩
 ·rw [wm, hlen, if_neg (by have := hlk j' hj'; omega), yu, if_neg (fun e => by rw [e.1, hlj] at hj'; cases hj')]
noncomputable def zm5 (st bytes : Nat) (h : AHeap) (cs : List CVal) (n : Nat) (v : AVal) : Res :=
 match v with
 | .s (.one .nils) => bif Nat.beq n 0 then some (.s (.one .nils), h) else bif fits bytes n then grown h st n [] cs else none
 | .s (.one (.slc b off len cap ex)) =>
  bif Nat.beq n 0 then some (.s (.one (.slc b off len cap ex)), h) else
  bif fits bytes (Nat.add len n) then w6 st h cs n b off len cap ex (h.t.get b) else none
 | _ => none
theorem zmf (I : InvO E N os) (F : ∀ i, RepPA N (r i) (ρ i)) (hlk : ∀ j, lk j = true → j < os.length) {st bytes : Nat} {a b : Operand} (e : w1 (pv ρ a) (fun s => w1 (pv ρ b) fun y => zfp lk os st bytes s y k) = some x) : Goal C E lk N os r (.append st bytes a b) k x := by
 have hh := vU F e;clear e;obtain ⟨c, v, e, ka, ra, pka⟩ := hh;have hh := vU F e;clear e;obtain ⟨d, u, e, kb, rb, pkb⟩ := hh;unfold zfp at e;have hh := zql I rb e;clear e;obtain ⟨new, cs, e, hsrc, hcl, hcs⟩ := hh;have run : ∀ call, runK r (.append st bytes a b) call N.h = zm5 st bytes N.h cs new.length v := fun call => by
  simp only [runK, ka, kb, zC];show (match zdM false st N.h u with
   | none => none
   | some (new, n) => match v with
    | .s (.one .nils) => bif Nat.beq n 0 then some (AVal.s (.one .nils), N.h) else bif fits bytes n then grown N.h st n [] new else none
    | .s (.one (.slc b off len cap ex)) =>
     bif Nat.beq n 0 then some (AVal.s (.one (.slc b off len cap ex)), N.h) else
     bif fits bytes (Nat.add len n) then w6 st N.h new n b off len cap ex (N.h.t.get b) else none
    | _ => none) = _
  rw [hsrc];rfl
 have fresh : ∀ (os1 : List PO) (w1 : List Nat) (S1 : Stp E lk N os w1 N os1) (hl1 : os1.length = os.length), new ≠ [] → v = AVal.s (.one .nils) → fits bytes new.length = true →
   k (pc (.own os.length)) (os1 ++ [.arr st (appO none new)]) w1 [] = some x → Goal C E lk N os r (.append st bytes a b) k x := by
  intro os1 w1 S1 hl1 hne hv hfit hk;obtain ⟨N2, h4, h5, S2, r2⟩ := zaO (lk := lk) (ex := false) S1.inv (fun j hj => by rw [hl1]; exact hlk j hj) hcl hcs
  have he : appO none new = some new := by
   cases new with
   | nil => exact absurd rfl hne
   | cons y l => rfl
  rw [he] at hk;rw [hl1] at r2;have S := S1.trans S2 rfl;rw [List.append_nil] at S;refine ⟨_, _, _, _, hk, ⟨(.s (.one (.slc N.h.n 0 new.length 0 false)), N.h.new (.cells cs st)), ⟨N2, h4, S.sim r2⟩, 0, fun n _ => ?_⟩⟩
  show runK r (.append st bytes a b) (C n) N.h = _;rw [run, hv];have : Nat.beq new.length 0 = false := by
   cases new with
   | nil => exact absurd rfl hne
   | cons y l => rfl
  simp only [zm5, this, cond_false, hfit, cond_true];exact vg _ _ _
 cases c with
 | d dv =>
  cases dv <;> simp only [gdN] at e <;> first | (cases e; done) | skip
  cases hfit : fits bytes new.length with
  | false => rw [hfit] at e; cases e
  | true =>
   rw [hfit] at e;have hv := z8 ra (c := .nils) rfl;cases hnew : new with
   | nil =>
    subst hnew;obtain ⟨N2, h4, h5, S2⟩ : ∃ N', N'.h = N.h ∧ RepPA N' (.s (.one .nils)) (pc (.own os.length)) ∧ Stp E lk N os [] N' (os ++ [.arr st none]) := by
     have I0 := I
     let N' : Nm := ⟨upd N.μ os.length .nils, os.length + 1, N.fz, N.h⟩
     have mu : ∀ k, k ≠ os.length → N'.μ k = N.μ k := fun k hk => by show (if k = os.length then _ else N.μ k) = _; rw [if_neg hk]
     have muL : N'.μ os.length = .nils := by show (if os.length = os.length then _ else _) = _; rw [if_pos rfl]
     have nx : Nx N N' := ⟨.refl _ _, by have := I.len; show N.n ≤ os.length + 1; omega, fun k hk => mu k (by have := I.len; omega)⟩
     have t : ∀ i, live (og (os ++ [.arr st none]) i) → i ≠ os.length ∧ live (og os i) := fun i hi => by
      rw [wm] at hi;by_cases h1 : i = os.length
      ·rw [if_pos h1] at hi; exact hi.elim
      ·rw [if_neg h1] at hi; exact ⟨h1, hi⟩
     refine ⟨N', rfl, yZ (p := .own os.length) ⟨by show os.length < os.length + 1; omega, muL.symm⟩, ⟨⟨I.hw, I.gr, I.fzlt, I.fzok, I.fzex, by show os.length + 1 = _; simp, ?_, ?_, ?_⟩, nx, Bk.same rfl, fun j' hj' => ?_, .app (Nat.le_of_eq I.len)⟩⟩
     ·intro k b hl hb;rw [mu k (t k hl).1] at hb;exact I.own k b (t k hl).2 hb
     ·intro k k' b hl hl' hb hb';rw [mu k (t k hl).1] at hb;rw [mu k' (t k' hl').1] at hb';exact I.inj k k' b (t k hl).2 (t k' hl').2 hb hb'
     ·intro k;rw [wm];by_cases h1 : k = os.length
      ·rw [if_pos h1, h1]; exact muL
      ·rw [if_neg h1];exact (I.obj k).mono nx (mu k h1) fun hl b hb => by
        obtain ⟨b', x', q1, q2, q3⟩ := yw hl (I.obj k);rw [q1] at hb; cases hb;exact ⟨q2, rfl⟩
     ·rw [wm, if_neg (by have := hlk j' hj'; omega)]
    refine ⟨_, _, _, _, e, ⟨(.s (.one .nils), N.h), ⟨N2, h4, S2.sim h5⟩, 0, fun n _ => ?_⟩⟩
    show runK r (.append st bytes a b) (C n) N.h = _;rw [run, hv]; rfl
   | cons y l => exact fresh os [] (.refl I) rfl (by rw [hnew]; simp) hv hfit e
 | own j =>
  simp only at e;obtain ⟨w, rfl, hj, rfl⟩ := yf ra;cases ho : og os j with
  | arr st' vo =>
   rw [ho] at e;simp only at e;cases hlj : lk j with
   | true => rw [hlj] at e; cases e
   | false =>
    rw [hlj] at e;simp only [cond_false] at e;cases hs : Nat.beq st st' with
    | false => rw [hs] at e; cases e
    | true =>
     rw [hs] at e;have := Lz1 hs;subst this;simp only [cond_true] at e;cases hfit : fits bytes (lenO vo + new.length) with
     | false => rw [hfit] at e; cases e
     | true =>
      rw [hfit] at e;have hjl : j < os.length := zd9 (by rw [ho]; intro h; cases h)
      have hO := I.obj j;rw [ho] at hO;by_cases hnew : new = []
      ·subst hnew;obtain ⟨N2, h4, h5, S2, r2⟩ := InvO.name (lk := lk) I hlk hjl hlj ho;refine ⟨_, _, _, _, e, ⟨(.s (.one (N.μ j)), N.h), ⟨N2, h4, S2.sim r2⟩, 0, fun n _ => ?_⟩⟩
       show runK r (.append st bytes a b) (C n) N.h = _;rw [run];cases vo with
       | none => rw [show N.μ j = .nils from hO]; rfl
       | some xs => obtain ⟨b', vs, ex, h1, _⟩ := hO; rw [h1]; rfl
      ·have hlock : ∀ j', lk j' = true → og (oset .dead os j) j' = og os j' := fun j' hj' => by rw [yu, if_neg (fun e => by rw [e.1, hlj] at hj'; cases hj')]
       cases vo with
       | none =>
        refine fresh (oset .dead os j) [j] ⟨I.turn j .dead (fun e => e) trivial, .refl N, Bk.same rfl, hlock, Ho.oset (o := .dead) (fun h => h.elim) (fun _ => .inr (List.mem_singleton_self j)) (fun h => h.elim)⟩ (yE _ _ _) hnew (by rw [show N.μ j = .nils from hO]) (by simpa [lenO] using hfit) e
       | some xs =>
        obtain ⟨b', vs, ex, h1, h2, h3, h4, h5⟩ := hO;have he : appO (some xs) new = some (xs ++ new) := by
         cases new with
         | nil => exact absurd rfl hnew
         | cons y l => rfl
        have hn0 : Nat.beq new.length 0 = false := by
         cases new with
         | nil => exact absurd rfl hnew
         | cons y l => rfl
        have hcut : cut (Nat.mul xs.length st) vs 0 = some vs := by show cut (xs.length * st) vs 0 = _; rw [← h4]; exact zdq vs
        rw [he] at e;cases ex with
        | true =>
         have S1 : Stp E lk N os [j] N (oset .dead os j) := ⟨I.turn j .dead (fun e => e) trivial, .refl N, Bk.same rfl, hlock, Ho.oset (o := .dead) (fun h => h.elim) (fun _ => .inr (List.mem_singleton_self j)) (fun h => h.elim)⟩
         obtain ⟨f1, f2⟩ := zhg h4 hcl h5 hcs;obtain ⟨N2, g4, g5, S2, r2⟩ := zaO (lk := lk) (ex := false) S1.inv (fun j hj => by rw [yE]; exact hlk j hj) f1 f2
         rw [yE] at r2;have S := S1.trans S2 rfl;refine ⟨_, _, _, _, e, ⟨(.s (.one (.slc N.h.n 0 (xs ++ new).length 0 false)), N.h.new (.cells (vs ++ cs) st)), ⟨N2, g4, S.sim r2⟩, 0, fun n _ => ?_⟩⟩
         show runK r (.append st bytes a b) (C n) N.h = _;rw [run, h1];simp only [zm5, hn0, cond_false];rw [show fits bytes (Nat.add xs.length new.length) = true from hfit, h3]
         simp only [cond_true, w6, hcut];have : Nat.ble (Nat.add xs.length new.length) xs.length = false := by
          cases hb : Nat.ble (Nat.add xs.length new.length) xs.length with
          | false => rfl
          | true =>
           have := Lz4 hb;have hpos : new.length ≠ 0 := fun h => hnew (List.length_eq_zero_iff.1 h)
           simp only [Nat.add_eq] at this;omega
         rw [this, cond_false, List.length_append];exact vg _ _ _
        | false =>
         have hlv : live (og os j) := by rw [ho]; trivial
         have hbk : blk (N.μ j) = some b' := by rw [h1]; rfl
         obtain ⟨i1, i2, i3⟩ := I.put hlv hbk .dead .dead trivial;have S1 : Stp E lk N os [j] ⟨N.μ, N.n, N.fz, N.h.put b' .dead⟩ (oset .dead os j) := ⟨i1, i2, Bk.put rfl (by rw [I.len]; exact hjl) hlv hbk, hlock, Ho.oset (o := .dead) (fun h => h.elim) (fun _ => .inr (List.mem_singleton_self j)) (fun h => h.elim)⟩
         obtain ⟨f1, f2⟩ := zhg (fz := N.fz) (h := N.h.put b' .dead) h4 hcl (fun i y hy => ⟨(h5 i y hy).1, (h5 i y hy).2.mono i2.fg⟩) (fun i y hy => ⟨(hcs i y hy).1, (hcs i y hy).2.mono i2.fg⟩)
         obtain ⟨N2, g4, g5, S2, r2⟩ := zaO (lk := lk) (ex := false) S1.inv (fun j hj => by rw [yE]; exact hlk j hj) f1 f2
         rw [yE] at r2;have S := S1.trans S2 rfl;refine ⟨_, _, _, _, e, ⟨(.s (.one (.slc N.h.n 0 (xs ++ new).length 0 false)), (N.h.put b' .dead).new (.cells (vs ++ cs) st)), ⟨N2, g4, S.sim r2⟩, 0, fun n _ => ?_⟩⟩
         show runK r (.append st bytes a b) (C n) N.h = _;rw [run, h1];simp only [zm5, hn0, cond_false];rw [show fits bytes (Nat.add xs.length new.length) = true from hfit, h3]
         simp only [cond_true, w6, hcut];rw [cond_false, show (Nat.beq st st && Nat.beq 0 (Nat.mul 0 st)) = true by simp, cond_true, List.length_append]
         exact vg _ _ _
  | _ => rw [ho] at e; cases e
 | _ => cases e
theorem zhw : ∀ (p l : List DS) (shs : List (Option Nat)), okT shs l = true → qU (p ++ l) shs p.length = l := by
 have at_ : ∀ (p l : List DS) (d : DS), dsAt (p ++ d :: l) p.length = d := by
  intro p l d
  induction p with
  | nil => rfl
  | cons a p ih => exact ih
 intro p l shs
 induction shs generalizing p l with
 | nil =>
  intro e;cases l with
  | nil => rfl
  | cons d l => cases e
 | cons s shs ih =>
  intro e;cases l with
  | nil => cases s <;> cases e
  | cons d l =>
   have step : okT shs l = true → qU (p ++ d :: l) shs (Nat.succ p.length) = l := fun h => by
    have := ih (p ++ [d]) l h
    simpa using this
   cases s with
   | none =>
    cases d with
    | agg ds => cases e
    | one d => simp only [qU, at_, dsO]; rw [step e]
   | some n =>
    cases d with
    | one d => cases e
    | agg ds =>
     simp only [okT, LzC] at e;have hn := Lz1 e.1;simp only [qU, at_, dsA];rw [step e.2, ← hn, zhj]
theorem znh {res : Option DA} {K : PA → Option β} (e : b1 res (fun d => K (pd d)) = some x) : ∃ d a, res = some d ∧ K a = some x ∧ ∀ (M : Nm) v, RepA M.fz M.h v d → RepPA M v a := by
 cases res with
 | none => cases e
 | some d =>
  cases d with
  | tup l => cases e
  | s d =>
   cases d with
   | agg l => cases e
   | one d =>
    refine ⟨_, _, rfl, e, fun M v H => ?_⟩
    obtain ⟨w, rfl, hw⟩ := H.inv;cases w with
    | one c => exact vz hw
    | agg l => exact hw.elim
theorem zng {shs : List (Option Nat)} {res : Option DA} {K : PA → Option β} (e : bT shs res (fun l => K (.tup (qU l shs 0))) = some x) : ∃ d a, res = some d ∧ K a = some x ∧ ∀ (M : Nm) v, RepA M.fz M.h v d → RepPA M v a := by
 cases res with
 | none => cases e
 | some d =>
  cases d with
  | s d => cases e
  | tup l =>
   simp only [bT] at e;cases ho : okT shs l with
   | false => rw [ho] at e; cases e
   | true =>
    rw [ho] at e;refine ⟨_, _, rfl, e, fun M v H => ?_⟩
    have hc := zhw [] l shs ho;rw [List.nil_append] at hc;show RepPA M v (.tup (qU l shs ([] : List DS).length));rw [hc];cases v with
    | s v => exact H.elim
    | tup vs => exact H
theorem zi5 {sh : Sh} {res : Option DA} {K : PA → Option β} (e : bSh sh res K = some x) : ∃ d a, res = some d ∧ K a = some x ∧ ∀ (M : Nm) v, RepA M.fz M.h v d → RepPA M v a := by
 cases sh with
 | one => exact znh e
 | sc => exact znh e
 | tup shs => exact zng e
 | tsc n => exact zng e
 | agg n =>
  cases res with
  | none => cases e
  | some d =>
   cases d with
   | tup l => cases e
   | s d =>
    cases d with
    | one d => cases e
    | agg l =>
     simp only [bSh, bA] at e;cases hn : Nat.beq l.length n with
     | false => rw [hn] at e; cases e
     | true =>
      rw [hn] at e;have hn := Lz1 hn;refine ⟨_, _, rfl, e, fun M v H => ?_⟩
      obtain ⟨w, rfl, hw⟩ := H.inv;cases w with
      | one c => exact hw.elim
      | agg cs =>
       rw [← hn, zhj];exact RepPA.of (v := .agg cs) (p := .agg _) (RepPL.ofD hw)
 | no =>
  cases res with
  | none => cases e
  | some d => exact ⟨d, .bad, rfl, e, fun M v _ => .bad v⟩
theorem zgw {fz fz' : BN → Prop} {h h' : AHeap} {c : CVal} {d : DV} (hs : zlM d = true) (H : Rep fz h c d) : Rep fz' h' c d := by
 cases d <;> first | (cases hs; done) | (rw [H.scal rfl]; constructor)
theorem zdT {fz fz' : BN → Prop} {h h' : AHeap} : ∀ {cs : List SVal} {ds : List DS}, zi9 ds = true → RepSL fz h cs ds → RepSL fz' h' cs ds
 | [], [], _, _ => trivial
 | .one c :: cs, .one d :: ds, hs, H => by
  simp only [zi9, LzC] at hs;exact ⟨zgw hs.1 H.1, zdT hs.2 H.2⟩
 | .agg _ :: _, .one _ :: _, _, H => H.1.elim
 | _, .agg _ :: _, hs, _ => by cases hs
 | [], _ :: _, _, H => H.elim
 | _ :: _, [], _, H => H.elim
theorem zqm {sh : Sh} {res : Option DA} {K : PA → Option β} (e : bShS sh res K = some x) : ∃ d a, res = some d ∧ K a = some x ∧ ∀ (fz : BN → Prop) (h : AHeap) (M : Nm) v, RepA fz h v d → RepPA M v a := by
 cases sh with
 | sc =>
  cases res with
  | none => cases e
  | some d =>
   cases d with
   | tup l => cases e
   | s d =>
    cases d with
    | agg l => cases e
    | one d =>
     simp only [bShS, b1s] at e;cases hs : zlM d with
     | false => rw [hs] at e; cases e
     | true =>
      rw [hs] at e;refine ⟨_, _, rfl, e, fun fz h M v H => ?_⟩
      obtain ⟨w, rfl, hw⟩ := H.inv;cases w with
      | one c => exact vz (zgw hs hw)
      | agg l => exact hw.elim
 | tsc n =>
  cases res with
  | none => cases e
  | some d =>
   cases d with
   | s d => cases e
   | tup l =>
    simp only [bShS, bTs] at e;cases ho : (okT (zec n) l && zi9 l) with
    | false => rw [ho] at e; cases e
    | true =>
     rw [ho] at e;rw [LzC] at ho;refine ⟨_, _, rfl, e, fun fz h M v H => ?_⟩
     have hc := zhw [] l (zec n) ho.1;rw [List.nil_append] at hc;show RepPA M v (.tup (qU l (zec n) ([] : List DS).length));rw [hc];cases v with
     | s v => exact H.elim
     | tup vs => exact zdT ho.2 H
 | _ => cases e
theorem zhz : ∀ (l : List AVal), (cL l).map (fun x => x .nil) = l
 | [] => rfl
 | v :: l => by
  show zp v .nil :: (cL l).map (fun x => x .nil) = _
  rw [zhz l]; rfl
theorem zbh {fz : BN → Prop} {h : AHeap} : ∀ {ps : List (BN × Nat)} {caps : List (List DV)}, RepL fz h (ps.map fun p => .ptr p.1 p.2) (caps.map fun x => .fp x 0) → RepAL fz h (ps.map fun (p : BN × Nat) => AVal.s (.one (.ptr p.1 p.2))) (caps.map fun x => .s (.one (.fp x 0)))
 | [], [], _ => trivial
 | p :: ps, y :: caps, H => ⟨H.inv.1, zbh H.inv.2⟩
 | [], _ :: _, H => by have := H.1; simp at this
 | _ :: _, [], H => by have := H.1; simp at this
theorem zoU {O : Orc} (hO : jj O C) {sh : Sh} (I : InvO E N os) (F : ∀ i, RepPA N (r i) (ρ i)) {f : Operand} {args : List Operand} (e : w1 (pv ρ f) (fun c => za (pvs ρ args) fun as => za (frA lk os as) fun p => za (frC lk y7 p.1 c) fun q => bSh sh (appF O q.2 p.2) fun a => k a q.1 [] []) = some x) : Goal C E lk N os r (.call f args) k x := by
 have hh := vU F e;clear e;obtain ⟨c, v, e, ka, ra, pka⟩ := hh;obtain ⟨as, h1, e⟩ := zj e;obtain ⟨⟨os1, ds⟩, h2, e⟩ := zj e;obtain ⟨⟨os2, fv⟩, h3, e⟩ := zj e;simp only at h3 e;obtain ⟨vs, kvs1, rvs⟩ := zdX F h1;obtain ⟨w, rfl, hw⟩ := yf ra;obtain ⟨N1, f1, S1, r1⟩ := zkH I rvs h2;obtain ⟨N2, f2, S2, r2⟩ := zew S1.inv (RepPC.mono S1.nx hw) h3;have S12 := S1.trans S2 f1.n;have hh2 : N2.h = N.h := f2.h.trans f1.h;unfold appF at e;cases fv <;> first | (cases sh <;> cases e) | skip
 rename_i g caps;simp only at e;obtain ⟨ps, rfl, hps⟩ := r2.fn_inv;have harg : RepAL N2.fz N2.h (vs ++ ps.map fun (p : BN × Nat) => AVal.s (.one (.ptr p.1 p.2))) (ds ++ caps.map fun x => .s (.one (.fp x 0))) := RepAL.app (r1.mono S2.nx.fg) (zbh hps)
 have key : ∀ res, O g (ds ++ caps.map fun x => .s (.one (.fp x 0))) = some res → ∀ a, (∀ (N' : Nm) v, RepA N'.fz N'.h v res → RepPA N' v a) → k a os2 [] [] = some x → Goal C E lk N os r (.call f args) k x := by
  intro res hres a ha hk;have ev := hO g _ res hres N2.fz N2.h _ S12.inv.hw S12.inv.fzlt harg;rw [hh2] at ev;refine ⟨a, os2, [], [], hk, ?_⟩;have run : ∀ call, runK r (.call f args) call N.h = call (.inl g) (vs ++ ps.map fun (p : BN × Nat) => AVal.s (.one (.ptr p.1 p.2))) N.h := fun call => by
   simp only [runK, ka, kvs1, zC];show call (.inl g) ((cL vs).map (fun x => x .nil) ++ ps.map fun (p : BN × Nat) => AVal.s (.one (.ptr p.1 p.2))) N.h = _
   rw [zhz]
  obtain ⟨p, ⟨q1, q2, q3⟩, M, hM⟩ := ev;refine ⟨p, ?_, M, fun n hn => (run (C n)).trans (hM n hn)⟩
  have G : Gr N2.h p.2 := by rw [hh2]; exact q2
  obtain ⟨i1, i2⟩ := S12.inv.grow q1 G;refine ⟨_, rfl, ⟨i1, S12.nx.trans i2, Bk.gr q2, S12.lock, S12.ho, ?_⟩⟩
  ·refine ha _ _ ?_;refine q3.mono ⟨fun b o hb ho => hb.imp id fun h => ⟨?_, o, ho⟩, fun _ _ _ h => h⟩
   rw [hh2];exact h.1
 obtain ⟨res, a, hres, hk, ha⟩ := zi5 e;exact key res hres a ha hk
theorem zqT {O : Orc} (hO : jj O C) {sh : Sh} (I : InvO E N os) (F : ∀ i, RepPA N (r i) (ρ i)) {f : Operand} {args : List Operand} (e : w1 (pv ρ f) (fun c => za (pvs ρ args) fun as => za (frA (fun _ => false) os as) fun p => za (frC (fun _ => false) y7 p.1 c) fun q => bShS sh (appF O q.2 p.2) fun a => k a os [] []) = some x) : Goal C E lk N os r (.call f args) k x := by
 have hh := vU F e;clear e;obtain ⟨c, v, e, ka, ra, pka⟩ := hh;obtain ⟨as, h1, e⟩ := zj e;obtain ⟨⟨os1, ds⟩, h2, e⟩ := zj e;obtain ⟨⟨os2, fv⟩, h3, e⟩ := zj e;simp only at h3 e;obtain ⟨vs, kvs1, rvs⟩ := zdX F h1;obtain ⟨w, rfl, hw⟩ := yf ra;obtain ⟨N1, f1, S1, r1⟩ := zkH I rvs h2;obtain ⟨N2, f2, S2, r2⟩ := zew S1.inv (RepPC.mono S1.nx hw) h3;have S12 := S1.trans S2 f1.n;have hh2 : N2.h = N.h := f2.h.trans f1.h;unfold appF at e;cases fv <;> first | (cases sh <;> cases e) | skip
 rename_i g caps;simp only at e;obtain ⟨ps, rfl, hps⟩ := r2.fn_inv;have harg : RepAL N2.fz N2.h (vs ++ ps.map fun (p : BN × Nat) => AVal.s (.one (.ptr p.1 p.2))) (ds ++ caps.map fun x => .s (.one (.fp x 0))) := RepAL.app (r1.mono S2.nx.fg) (zbh hps)
 have key : ∀ res, O g (ds ++ caps.map fun x => .s (.one (.fp x 0))) = some res → ∀ a, (∀ (fz : BN → Prop) (h : AHeap) (N' : Nm) v, RepA fz h v res → RepPA N' v a) → k a os [] [] = some x → Goal C E lk N os r (.call f args) k x := by
  intro res hres a ha hk;have ev := hO g _ res hres N2.fz N2.h _ S12.inv.hw S12.inv.fzlt harg;rw [hh2] at ev;refine ⟨a, os, [], [], hk, ?_⟩;have run : ∀ call, runK r (.call f args) call N.h = call (.inl g) (vs ++ ps.map fun (p : BN × Nat) => AVal.s (.one (.ptr p.1 p.2))) N.h := fun call => by
   simp only [runK, ka, kvs1, zC];show call (.inl g) ((cL vs).map (fun x => x .nil) ++ ps.map fun (p : BN × Nat) => AVal.s (.one (.ptr p.1 p.2))) N.h = _
   rw [zhz]
  obtain ⟨p, ⟨q1, q2, q3⟩, M, hM⟩ := ev;refine ⟨p, ?_, M, fun n hn => (run (C n)).trans (hM n hn)⟩
  obtain ⟨i1, i2⟩ := I.grow q1 q2;exact ⟨_, rfl, ⟨i1, i2, Bk.gr q2, fun _ _ => rfl, .refl _ _ _, ha _ _ _ _ q3⟩⟩
 obtain ⟨res, a, hres, hk, ha⟩ := zqm e;exact key res hres a ha hk
theorem zqW {O : Orc} (hO : jj O C) {sh : Sh} (I : InvO E N os) (F : ∀ i, RepPA N (r i) (ρ i)) {f : Operand} {args : List Operand} (e : w1 (pv ρ f) (fun c => za (pvs ρ args) fun as => bif scSh sh && (tchC os c || tchA os as) then za (frA (fun _ => false) os as) (fun p => za (frC (fun _ => false) y7 p.1 c) fun q => bShS sh (appF O q.2 p.2) fun a => k a os [] []) else za (frA lk os as) fun p => za (frC lk y7 p.1 c) fun q => bSh sh (appF O q.2 p.2) fun a => k a q.1 [] []) = some x) : Goal C E lk N os r (.call f args) k x := by
 have hh := vU F e;obtain ⟨c, v, e', ka, ra, pka⟩ := hh;obtain ⟨as, h1, e'⟩ := zj e';cases hb : (scSh sh && (tchC os c || tchA os as)) with
 | false =>
  rw [hb] at e';exact zoU hO I F (f := f) (args := args) (sh := sh) (by rw [pka, h1]; exact e')
 | true =>
  rw [hb] at e';exact zqT hO I F (f := f) (args := args) (sh := sh) (by rw [pka, h1]; exact e')
theorem zjO (I : InvO E N os) (F : ∀ i, RepPA N (r i) (ρ i)) (hlk : ∀ j, lk j = true → j < os.length) {st bytes : Nat} {zs : List CVal} {a b : Operand}
  (e : wd (pv ρ a) (fun l => wd (pv ρ b) fun c => za (mkN bytes l c) fun n => za (cDs zs) fun ps => za (allD ps) fun ds => bif Nat.beq zs.length st then k (pc (.own os.length)) (os ++ [.arr st (some (List.replicate n ds))]) [] [] else none) = some x) : Goal C E lk N os r (.mkslice st zs bytes a b) k x := by
 have hh := wp F e;clear e;obtain ⟨l, w, e, ka, ra⟩ := hh;have hh := wp F e;clear e;obtain ⟨c, w2, e, kb, rb⟩ := hh;have hh := zj e;clear e;obtain ⟨n, hn, e⟩ := hh;have hh := zj e;clear e;obtain ⟨ps, hp, e⟩ := hh;have hh := zj e;clear e;obtain ⟨ds, hd, e⟩ := hh;have hz : RepL N.fz N.h zs ds := qp hd (kO (N := N) hp);cases hst : Nat.beq zs.length st with
 | false => rw [hst] at e; cases e
 | true =>
 rw [hst, cond_true] at e;have hst := Lz1 hst;unfold mkN at hn;split at hn
 ·rename_i kl m kc q;cases hb : (Nat.beq m q && Nat.ble q 1073741824 && Nat.ble (bytes * q) 281474976710656) with
  | false => rw [hb] at hn; cases hn
  | true =>
   rw [hb] at hn;cases hn;rw [LzC, LzC] at hb;obtain ⟨⟨h1, h2⟩, h3⟩ := hb;have h1 : q = n := (Lz1 h1).symm;rw [h1] at rb h2 h3;have ew := z8 ra (c := .int kl (.ofNat n)) rfl;have ew2 := z8 rb (c := .int kc (.ofNat n)) rfl;subst ew ew2;subst hst;obtain ⟨N2, h4, h5, S2, r2⟩ := zaO (lk := lk) (ex := true) I hlk (st := zs.length) (vs := repl zs n) (xs := List.replicate n ds) (by rw [zcF, List.length_replicate]) fun i y hy => by
    have hi : i < n := by have := (Lz0.1 hy).1; simpa using this
    rw [List.getElem?_replicate, if_pos hi] at hy;cases hy;exact ⟨hz.1.symm, by rw [zcG zs n i hi]; exact hz⟩
   refine ⟨_, _, _, _, e, ⟨(.s (.one (.slc N.h.n 0 n n true)), N.h.new (.cells (repl zs n) zs.length)), ⟨N2, h4, ?_⟩, 0, fun _ _ => ?_⟩⟩
   ·rw [List.length_replicate] at r2;exact S2.sim r2
   ·show runK r (.mkslice zs.length zs bytes a b) (C _) N.h = _;simp only [runK, ka, kb, zC];show (bif Nat.ble n n && Nat.ble n 1073741824 && Nat.ble (bytes * n) 281474976710656 then newB N.h (.cells (repl zs n) zs.length) (fun b => .slc b 0 n n true) else none) = _
    rw [Nat.ble_eq_true_of_le (LzB n), h2, h3];show newB N.h (.cells (repl zs n) zs.length) (fun b => .slc b 0 n n true) = _
    exact vg _ _ _
 ·cases hn
theorem zsX (I : InvO E N os) (F : ∀ i, RepPA N (r i) (ρ i)) {a : Operand} (e : wd (pv ρ a) (fun v => za (pS2b v) fun z => k (pd z) os [] []) = some x) : Goal C E lk N os r (.s2b a) k x := by
 have hh := wp F e;clear e;obtain ⟨v, w, e, ka, ra⟩ := hh;have hh := zj e;clear e;obtain ⟨z, hz, e⟩ := hh;unfold pS2b at hz;split at hz
 ·rename_i s;cases hz;have ew := z8 ra (c := .str s) rfl;subst ew;have hw := I.hw.new (.ro none (vK (bytesOf s)));have G := Gr.new N.h (.ro none (vK (bytesOf s)));obtain ⟨i1, i2⟩ := I.grow hw G;have hget : (N.h.new (.ro none (vK (bytesOf s)))).t.get N.h.n = some (.ro none (vK (bytesOf s))) := by simp only [AHeap.new]; exact zx _ _ _
  refine ⟨_, _, _, _, e, ⟨(.s (.one (.slc N.h.n 0 s.size 0 false)), N.h.new (.ro none (vK (bytesOf s)))), ⟨_, rfl, ⟨i1, i2, Bk.gr G, fun _ _ => rfl, .refl _ _ _, ?_⟩⟩, 0, fun n _ => ?_⟩⟩
  ·refine vz ?_;have hl : s.size = (s.data.toList.map fun c => ([.int .u8 (.ofNat c.toNat)] : List DV)).length := by
    rw [List.length_map]; exact (Array.length_toList (xs := s.data)).symm
   rw [hl];have hlen : (bytesOf s).length = s.data.toList.length := by unfold bytesOf; rw [List.length_map]
   refine Rep.lst (o := .ro none (vK (bytesOf s))) (bytesOf s) (.inr ⟨LzB _, _, hget⟩) hget (fun h => by cases h) ?_ (fun i y hy => ?_) (fun i y j c d hy hc hd => ?_)
   ·refine zf0 (by rw [hlen, List.length_map, Nat.mul_one]) fun j c hj => ?_
    rw [Nat.zero_add, xt]; exact hj
   ·rw [Lz6, Option.map_eq_some_iff] at hy;obtain ⟨q, _, rfl⟩ := hy;rfl
   ·rw [Lz6, Option.map_eq_some_iff] at hy;obtain ⟨q, hq, rfl⟩ := hy;cases j with
    | succ j => simp at hd
    | zero =>
     simp only [List.getElem?_cons_zero, Option.some.injEq] at hd;subst hd;rw [Nat.mul_one, Nat.add_zero] at hc;unfold bytesOf at hc;rw [Lz6, hq] at hc;cases hc;exact .int _ _
  ·show runK r (.s2b a) (C n) N.h = _;simp only [runK, ka, zC];show newB N.h (.ro none (vK (bytesOf s))) (fun b => .slc b 0 s.size 0 false) = _
   exact vg _ _ _
 ·cases hz
theorem znn {O : Orc} (hO : jj O C) {sh : Sh} (I : InvO E N os) (F : ∀ i, RepPA N (r i) (ρ i)) (hlk : ∀ j, lk j = true → j < os.length) {ko : KOp} (e : pOp O lk sh ρ os ko k = some x) : Goal C E lk N os r ko k x := by
 cases ko with
 | mv a => exact (o_mv I F e).goal I
 | pick c a b => exact (znq I F e).goal I
 | alloc zs => exact zoV I hlk e
 | box a => exact zsY I F hlk e
 | build zs parts => exact (zjT I F e).goal I
 | bslice st len zs parts => exact zme I F hlk e
 | load n a => exact (znt I F e).goal I
 | store n a b => exact zoR I F e
 | nilck a => exact (zjN I F e).goal I
 | bin op a b => exact (zqX I F e).goal I
 | shift l a b => exact (zjM I F e).goal I
 | str op a b => exact (zqP I F e).goal I
 | nilS neg a b => exact (znr I F e).goal I
 | eq q neg a b => exact (o_eq I F e).goal I
 | not a => exact (zqQ I F e).goal I
 | neg a => exact (zqR I F e).goal I
 | conv t a => exact (znx I F e).goal I
 | b2s a => exact (zqY I F e).goal I
 | mkfn f caps => exact (zns I F e).goal I
 | slice st a lo hi mx => exact (zjL I F e).goal I
 | clear st zs a => exact zoT I F e
 | sslice a lo hi => exact (zgQ I F e).goal I
 | foff a off => exact (znw I F e).goal I
 | field a off n => exact (zjS I F e).goal I
 | ixs st a i => exact (zqV I F e).goal I
 | ixarr len st a i => exact (zjQ I F e).goal I
 | ixagg len st n a i => exact (zjR I F e).goal I
 | ixstr a i => exact (zjP I F e).goal I
 | extract a i => exact (zeb I F e).goal I
 | lenS a => exact (znu I F e).goal I
 | lenL a => exact (znv I F e).goal I
 | append st bytes s a => exact zmf I F hlk e
 | minmax m a xs => exact (zgR I F e).goal I
 | mkslice st zs bytes a b => exact zjO I F hlk e
 | s2b a => exact zsX I F e
 | call f args => exact zqW hO I F e
 | mkmap st => exact zoS I hlk e
 | lookup q z ok a b => exact zmd I F e
 | mupd q a b c => exact zqS I F e
 | lenM a => exact zqU I F e
end
end Go.PE
end
section
namespace Go.PE
open Go Go.CE
inductive Pl where
 | slot (i : Nat)
 | cell (k j : Nat)
def eqPl : Pl → Pl → Bool
 | .slot i, .slot j => Nat.beq i j
 | .cell k i, .cell l j => Nat.beq k l && Nat.beq i j
 | _, _ => false
theorem zpP {a b : Pl} (h : eqPl a b = true) : a = b := by
 cases a <;> cases b <;> simp only [eqPl] at h
 ·rw [Lz1 h]
 ·cases h
 ·cases h
 ·rw [LzC] at h;rw [Lz1 h.1, Lz1 h.2]
def idxP (x : Pl) : List Pl → Nat → Option Nat
 | [], _ => none
 | y :: l, i => bif eqPl x y then some i else idxP x l (Nat.succ i)
theorem zfI {x : Pl} : ∀ {l : List Pl} {i p : Nat}, idxP x l i = some p → ∃ q, p = i + q ∧ l[q]? = some x
 | [], i, p, e => by cases e
 | y :: l, i, p, e => by
  simp only [idxP] at e;cases hb : eqPl x y with
  | true => rw [hb] at e; cases e; exact ⟨0, rfl, by rw [zpP hb]; rfl⟩
  | false =>
   rw [hb] at e;obtain ⟨q, h1, h2⟩ := zfI e;exact ⟨q + 1, by omega, by simpa using h2⟩
structure LA where
 data : List Pl
 own : List (Pl × Nat)
 boxes : List (Nat × Nat)
 arrs : List (Nat × Nat)
 xdata : List Pl
 xown : List (Pl × Nat)
 rdata : List Pl
 rown : List (Pl × Nat)
 frz : List Nat
def selD (la : LA) : RExit → List Pl
 | .normal => la.data
 | .exit _ => la.xdata
 | .ret => la.rdata
def selO (la : LA) : RExit → List (Pl × Nat)
 | .normal => la.own
 | .exit _ => la.xown
 | .ret => la.rown
def nthD : List DV → Nat → DV
 | [], _ => .u
 | d :: l, i => bif Nat.beq i 0 then d else nthD l (Nat.sub i 1)
def nthM : List OC → Nat → OC
 | [], _ => none
 | d :: l, i => bif Nat.beq i 0 then d else nthM l (Nat.sub i 1)
theorem zjV : ∀ (l : List DV) (i : Nat), nthD l i = (l[i]?).getD .u
 | [], i => by simp [nthD]
 | d :: l, 0 => by simp [nthD]
 | d :: l, i + 1 => by
  have := zjV l i;show nthD l i = _;rw [this]; simp
theorem zfs : ∀ (l : List OC) (i : Nat), nthM l i = (l[i]?).getD none
 | [], i => by simp [nthM]
 | d :: l, 0 => by simp [nthM]
 | d :: l, i + 1 => by
  have := zfs l i;show nthM l i = _;rw [this]; simp
def getP (ρ : Nat → PA) (os : List PO) : Pl → Option PC
 | .slot i => match ρ i with | .s (.one c) => some c | _ => none
 | .cell k j => match og os k with | .box cs => cs[j]? | _ => none
def isMp (st : Nat) : Bool := Nat.ble 1048576 st
def mkO (st : Nat) (v : OC) : PO := bif isMp st then .mp st (zM v) else .arr st v
theorem kX {st : Nat} {v : OC} (h : isMp st = false) : mkO st v = .arr st v := by simp only [mkO, h, cond_false]
theorem zkb {st : Nat} {v : OC} (h : isMp st = true) : mkO st v = .mp st (zM v) := by simp only [mkO, h, cond_true]
def vecD (lk : Nat → Bool) (ρ : Nat → PA) : List Pl → List PO → Option (List PO × List DV)
 | [], os => some (os, [])
 | p :: l, os =>
  match getP ρ os p with
  | some c =>
   match frC lk y7 os c with
   | some (os', d) =>
    match vecD lk ρ l os' with
    | some (os'', ds) => some (os'', d :: ds)
    | none => none
   | none => none
  | none => none
def srcO (os : List PO) (st : Nat) : PC → Option (OC × Option Nat)
 | .own m =>
  match og os m with
  | .arr st' v => bif Nat.beq st st' && !isMp st then some (v, some m) else none
  | .mp st' xs => bif Nat.beq st st' && isMp st then some (some xs, some m) else none
  | _ => none
 | .d .nils => bif isMp st then none else some (none, none)
 | _ => none
def vecO (ρ : Nat → PA) (os : List PO) : List (Pl × Nat) → Option (List OC × List (Option Nat))
 | [] => some ([], [])
 | (p, st) :: l =>
  match getP ρ os p with
  | some c =>
   match srcO os st c with
   | some (v, m) =>
    match vecO ρ os l with
    | some (vs, ms) => some (v :: vs, m :: ms)
    | none => none
   | none => none
  | none => none
def vecA (os : List PO) : List (Nat × Nat) → Option (List OC)
 | [] => some []
 | (k, st) :: l =>
  match og os k with
  | .arr st' v => bif Nat.beq st st' && !isMp st then (match vecA os l with | some vs => some (v :: vs) | none => none) else none
  | .mp st' xs => bif Nat.beq st st' && isMp st then (match vecA os l with | some vs => some (some xs :: vs) | none => none) else none
  | _ => none
def qk (os : List PO) : List (Nat × Nat) → Bool
 | [] => true
 | (k, n) :: l => (match og os k with | .box cs => Nat.beq cs.length n | _ => false) && qk os l
def zfd (okm : Nat → Bool) : List (Option Nat) → Bool
 | [] => true
 | none :: l => zfd okm l
 | some m :: l => okm m && !(l.any fun x => match x with | some m' => Nat.beq m m' | none => false) && zfd okm l
def ziv (lk : Nat → Bool) : List Nat → List PO → Option (List PO)
 | [], os => some os
 | k :: l, os =>
  match frC lk y7 os (match og os k with | .box _ => .ptr k 0 | _ => .own k) with
  | some (os', _) => ziv lk l os'
  | none => none
def vec (lk : Nat → Bool) (okm : Nat → Bool) (la : LA) (x : RExit) (ρ : Nat → PA) (os : List PO) : Option (List PO × List DV × List OC × List (Option Nat)) :=
 match vecD lk ρ (selD la x) os with
 | some (os1, ds) =>
  match vecO ρ os1 (selO la x), vecA os1 la.arrs with
  | some (vs, ms), some ws => bif qk os1 la.boxes && zfd okm ms then some (os1, ds, vs ++ ws, ms) else none
  | _, _ => none
 | none => none
def plP (D : List Pl) (Ow : List (Pl × Nat)) (L : List DV) (n0 : Nat) (p : Pl) : Option PC :=
 match idxP p D 0 with
 | some i => some (.d (nthD L i))
 | none => match idxP p (Ow.map (·.1)) 0 with | some i => some (.own (n0 + i)) | none => none
def hFr (D : List Pl) (Ow : List (Pl × Nat)) (W : List Nat) (ρ : Nat → PA) (n0 : Nat) (L : List DV) : Nat → PA := fun i =>
 match plP D Ow L n0 (.slot i) with
 | some c => pc c
 | none => bif memB i W then .bad else ρ i
def kz (D : List Pl) (Ow : List (Pl × Nat)) (L : List DV) (n0 k : Nat) : Nat → Nat → List PC
 | 0, _ => []
 | n + 1, j => (match plP D Ow L n0 (.cell k j) with | some c => c | none => .d .u) :: kz D Ow L n0 k n (Nat.succ j)
def vH (D : List Pl) (Ow : List (Pl × Nat)) (L : List DV) (n0 : Nat) : List (Nat × Nat) → List PO → List PO
 | [], os => os
 | (k, n) :: l, os => vH D Ow L n0 l (oset (.box (kz D Ow L n0 k n 0)) os k)
def za2 (M : List OC) : List (Nat × Nat) → Nat → List PO → List PO
 | [], _, os => os
 | (k, st) :: l, i, os => za2 M l (Nat.succ i) (oset (mkO st (nthM M i)) os k)
def hOwn (M : List OC) : List (Pl × Nat) → Nat → List PO
 | [], _ => []
 | (_, st) :: l, i => mkO st (nthM M i) :: hOwn M l (Nat.succ i)
def hOs (D : List Pl) (Ow : List (Pl × Nat)) (la : LA) (B : List PO) (n0 : Nat) (L : List DV) (M : List OC) : List PO :=
 za2 M la.arrs Ow.length (vH D Ow L n0 la.boxes B) ++ hOwn M Ow 0
def listed (la : LA) (k : Nat) : Bool := (la.boxes.any fun x => Nat.beq k x.1) || (la.arrs.any fun x => Nat.beq k x.1)
def kill : List (Option Nat) → List PO → List PO
 | [], os => os
 | none :: l, os => kill l os
 | some m :: l, os => kill l (oset .dead os m)
section
variable {E : En} {lk : Nat → Bool}
def cvAt (N : Nm) (r : Fr) : Pl → CVal → Prop
 | .slot i, c => r i = .s (.one c)
 | .cell k j, c => ∃ b vs, N.μ k = .ptr b 0 ∧ N.h.t.get b = some (.cells vs 0) ∧ vs[j]? = some c
theorem cvAt.fz {N N' : Nm} (f : Fz N N') {r : Fr} {p : Pl} {c : CVal} (H : cvAt N r p c) : cvAt N' r p c := by
 cases p with
 | slot i => exact H
 | cell k j => obtain ⟨b, vs, h1, h2, h3⟩ := H; exact ⟨b, vs, by rw [f.μ]; exact h1, by rw [f.h]; exact h2, h3⟩
theorem zkE {N : Nm} {os : List PO} {r : Fr} {ρ : Nat → PA} (I : InvO E N os) (F : ∀ i, RepPA N (r i) (ρ i)) {p : Pl} {c : PC} (e : getP ρ os p = some c) : ∃ v, cvAt N r p v ∧ RepPC N v c := by
 cases p with
 | slot i =>
  simp only [getP] at e;split at e
  ·rename_i c' h;cases e;have := F i;rw [h] at this;obtain ⟨w, h1, h2⟩ := yf this;exact ⟨w, h1, h2⟩
  ·cases e
 | cell k j =>
  simp only [getP] at e;cases ho : og os k with
  | box cs =>
   rw [ho] at e;obtain ⟨b, vs, h1, h2, h3, h4⟩ := uk I ho;have hj := (Lz0.1 e).1;have hl := h4.len;obtain ⟨v, hv⟩ : ∃ v, vs[j]? = some v := ⟨_, Lz5 (by omega)⟩
   exact ⟨v, ⟨b, vs, h1, h3, hv⟩, h4.get hv e⟩
  | _ => rw [ho] at e; cases e
theorem zhf : ∀ {l : List Nat} {os os' : List PO} {N : Nm}, InvO E N os → ziv lk l os = some os' → ∃ N', Fz N N' ∧ Stp E lk N os [] N' os'
 | [], os, os', N, I, e => by cases e; exact ⟨N, .refl N, .refl I⟩
 | k :: l, os, os', N, I, e => by
  simp only [ziv] at e;have key : ∀ p, (∀ os1 d, frC lk y7 os p = some (os1, d) → ∃ c, RepPC N c p) → (match frC lk y7 os p with | some (os', _) => ziv lk l os' | none => none) = some os' → ∃ N', Fz N N' ∧ Stp E lk N os [] N' os' := by
   intro p hp e;cases h : frC lk y7 os p with
   | none => rw [h] at e; cases e
   | some q =>
    obtain ⟨os1, d⟩ := q;rw [h] at e;obtain ⟨c, hc⟩ := hp os1 d h;obtain ⟨N1, f1, s1, _⟩ := zew I hc h;obtain ⟨N2, f2, s2⟩ := zhf s1.inv e;exact ⟨N2, f1.trans f2, s1.trans s2 f1.n⟩
  have lt : og os k ≠ .dead → k < N.n := fun h => by rw [I.len]; exact zd9 h
  cases ho : og os k with
  | box cs =>
   rw [ho] at e;obtain ⟨b, vs, h1, _⟩ := uk I ho;exact key (.ptr k 0) (fun _ _ _ => ⟨.ptr b 0, lt (by rw [ho]; intro h; cases h), b, h1, rfl⟩) e
  | arr st v => rw [ho] at e; exact key (.own k) (fun _ _ _ => ⟨N.μ k, lt (by rw [ho]; intro h; cases h), rfl⟩) e
  | frz v => rw [ho] at e; exact key (.own k) (fun _ _ _ => ⟨N.μ k, lt (by rw [ho]; intro h; cases h), rfl⟩) e
  | mp st xs =>
   rw [ho] at e;refine key (.own k) (fun os1 d h => ?_) e
   have : frC lk y7 os (.own k) = none := by
    rw [show y7 = 99 + 1 from rfl]
    simp only [frC, ho]
   rw [this] at h; cases h
  | fbox ds => rw [ho] at e; exact key (.own k) (fun _ _ _ => ⟨N.μ k, lt (by rw [ho]; intro h; cases h), rfl⟩) e
  | dead =>
   rw [ho] at e;refine key (.own k) (fun os1 d h => ?_) e
   have : frC lk y7 os (.own k) = none := by
    rw [show y7 = 99 + 1 from rfl]
    simp only [frC, ho]
   rw [this] at h; cases h
theorem ze5 {r : Fr} {ρ : Nat → PA} : ∀ {D : List Pl} {N : Nm} {os os1 : List PO} {ds : List DV}, InvO E N os → (∀ i, RepPA N (r i) (ρ i)) → vecD lk ρ D os = some (os1, ds) →
  ∃ N1, Fz N N1 ∧ Stp E lk N os [] N1 os1 ∧ ds.length = D.length ∧ ∀ (i : Nat) (p : Pl) (d : DV), D[i]? = some p → ds[i]? = some d → ∃ c, cvAt N1 r p c ∧ Rep N1.fz N1.h c d
 | [], N, os, os1, ds, I, F, e => by cases e; exact ⟨N, .refl N, .refl I, rfl, fun i p d h => by simp at h⟩
 | p :: D, N, os, os1, ds, I, F, e => by
  simp only [vecD] at e;cases h1 : getP ρ os p with
  | none => rw [h1] at e; cases e
  | some c =>
   rw [h1] at e;simp only at e;cases h2 : frC lk y7 os c with
   | none => rw [h2] at e; cases e
   | some q =>
    obtain ⟨o1, d⟩ := q;rw [h2] at e;simp only at e;cases h3 : vecD lk ρ D o1 with
    | none => rw [h3] at e; cases e
    | some q =>
     obtain ⟨o2, ds2⟩ := q;rw [h3] at e; cases e;obtain ⟨v, k1, k2⟩ := zkE I F h1;obtain ⟨N1, f1, s1, r1⟩ := zew I k2 h2;obtain ⟨N2, f2, s2, l2, r2⟩ := ze5 s1.inv (fun i => (F i).mono s1.nx) h3
     refine ⟨N2, f1.trans f2, s1.trans s2 f1.n, by simp [l2], fun i p' d' hp hd => ?_⟩
     cases i with
     | zero => simp only [List.getElem?_cons_zero, Option.some.injEq] at hp hd; subst hp; subst hd; exact ⟨v, (k1.fz f1).fz f2, r1.mono s2.nx.fg⟩
     | succ i => exact r2 i p' d' (by simpa using hp) (by simpa using hd)
theorem ziL {N : Nm} {os : List PO} {r : Fr} {ρ : Nat → PA} (I : InvO E N os) (F : ∀ i, RepPA N (r i) (ρ i)) : ∀ {Ow : List (Pl × Nat)} {vs : List OC} {ms : List (Option Nat)}, vecO ρ os Ow = some (vs, ms) →
  vs.length = Ow.length ∧ ms.length = Ow.length ∧ ∀ (i : Nat) (p : Pl) (st : Nat), Ow[i]? = some (p, st) → ∃ v m c, vs[i]? = some v ∧ ms[i]? = some m ∧ cvAt N r p c ∧ ((m = none ∧ v = none ∧ c = .nils ∧ isMp st = false) ∨ ∃ q, m = some q ∧ og os q = mkO st v ∧ c = N.μ q ∧ q < N.n)
 | [], vs, ms, e => by cases e; exact ⟨rfl, rfl, fun i p st h => by simp at h⟩
 | (p, st) :: Ow, vs, ms, e => by
  simp only [vecO] at e;cases h1 : getP ρ os p with
  | none => rw [h1] at e; cases e
  | some c =>
   rw [h1] at e;simp only at e;cases h2 : srcO os st c with
   | none => rw [h2] at e; cases e
   | some q =>
    obtain ⟨v, m⟩ := q;rw [h2] at e;simp only at e;cases h3 : vecO ρ os Ow with
    | none => rw [h3] at e; cases e
    | some q =>
     obtain ⟨vs2, ms2⟩ := q;rw [h3] at e; cases e;obtain ⟨w, k1, k2⟩ := zkE I F h1;obtain ⟨l1, l2, H⟩ := ziL I F h3;refine ⟨by simp [l1], by simp [l2], fun i p' st' hp => ?_⟩
     cases i with
     | zero =>
      simp only [List.getElem?_cons_zero, Option.some.injEq, Prod.mk.injEq] at hp;obtain ⟨rfl, rfl⟩ := hp;refine ⟨v, m, w, rfl, rfl, k1, ?_⟩;cases c with
      | d dv =>
       cases dv with
       | nils =>
        have h2' : (bif isMp st then none else some ((none : OC), (none : Option Nat))) = some (v, m) := h2
        cases hm : isMp st with
        | true => rw [hm] at h2'; cases h2'
        | false =>
         rw [hm] at h2';cases h2';exact .inl ⟨rfl, rfl, Rep.scal k2 rfl, rfl⟩
       | _ => cases h2
      | own q =>
       simp only [srcO] at h2;cases ho : og os q with
       | arr st' v' =>
        rw [ho] at h2;simp only at h2;cases hs : (Nat.beq st st' && !isMp st) with
        | false => rw [hs] at h2; cases h2
        | true =>
         rw [hs] at h2;cases h2;simp only [LzC, Bool.not_eq_true'] at hs;have he := Lz1 hs.1;subst he;exact .inr ⟨q, rfl, by rw [kX hs.2]; exact ho, k2.2, k2.1⟩
       | mp st' xs =>
        rw [ho] at h2;simp only at h2;cases hs : (Nat.beq st st' && isMp st) with
        | false => rw [hs] at h2; cases h2
        | true =>
         rw [hs] at h2;cases h2;rw [LzC] at hs;have he := Lz1 hs.1;subst he;exact .inr ⟨q, rfl, by rw [zkb hs.2]; exact ho, k2.2, k2.1⟩
       | _ => rw [ho] at h2; cases h2
      | _ => cases h2
     | succ i =>
      obtain ⟨v', m', c', a1, a2, a3⟩ := H i p' st' (by simpa using hp)
      exact ⟨v', m', c', by simpa using a1, by simpa using a2, a3⟩
theorem ziM {os : List PO} : ∀ {l : List (Nat × Nat)} {ws : List OC}, vecA os l = some ws → ws.length = l.length ∧ ∀ (i k st : Nat), l[i]? = some (k, st) → ∃ v, ws[i]? = some v ∧ og os k = mkO st v
 | [], ws, e => by cases e; exact ⟨rfl, fun i k st h => by simp at h⟩
 | (k, st) :: l, ws, e => by
  simp only [vecA] at e;have key : ∀ v, og os k = mkO st v → (match vecA os l with | some vs => some (v :: vs) | none => none) = some ws → ws.length = ((k, st) :: l).length ∧ ∀ (i k' st' : Nat), ((k, st) :: l)[i]? = some (k', st') → ∃ v, ws[i]? = some v ∧ og os k' = mkO st' v := by
   intro v ho e;cases h2 : vecA os l with
   | none => rw [h2] at e; cases e
   | some vs =>
    rw [h2] at e; cases e;obtain ⟨a, b⟩ := ziM h2;refine ⟨by simp [a], fun i k' st' h => ?_⟩
    cases i with
    | zero =>
     simp only [List.getElem?_cons_zero, Option.some.injEq, Prod.mk.injEq] at h;obtain ⟨rfl, rfl⟩ := h;exact ⟨v, rfl, ho⟩
    | succ i => obtain ⟨v', b1, b2⟩ := b i k' st' (by simpa using h); exact ⟨v', by simpa using b1, b2⟩
  cases ho : og os k with
  | arr st' v =>
   rw [ho] at e;simp only at e;cases hs : (Nat.beq st st' && !isMp st) with
   | false => rw [hs] at e; cases e
   | true =>
    rw [hs] at e;simp only [LzC, Bool.not_eq_true'] at hs;have he := Lz1 hs.1;subst he;exact key v (by rw [kX hs.2]; exact ho) e
  | mp st' xs =>
   rw [ho] at e;simp only at e;cases hs : (Nat.beq st st' && isMp st) with
   | false => rw [hs] at e; cases e
   | true =>
    rw [hs] at e;rw [LzC] at hs;have he := Lz1 hs.1;subst he;exact key (some xs) (by rw [zkb hs.2]; exact ho) e
  | _ => rw [ho] at e; cases e
theorem zcn {os : List PO} : ∀ {l : List (Nat × Nat)}, qk os l = true → ∀ k n, (k, n) ∈ l → ∃ cs, og os k = .box cs ∧ cs.length = n
 | (k0, n0) :: l, e, k, n, h => by
  simp only [qk, LzC] at e;rcases List.mem_cons.1 h with h | h
  ·rw [Prod.mk.injEq] at h;obtain ⟨h1, h2⟩ := h;subst h1; subst h2;cases ho : og os k with
   | box cs => have := e.1; rw [ho] at this; exact ⟨cs, rfl, Lz1 this⟩
   | _ => have := e.1; rw [ho] at this; cases this
  ·exact zcn e.2 k n h
theorem qW {okm : Nat → Bool} : ∀ {ms : List (Option Nat)}, zfd okm ms = true → (∀ (i m : Nat), ms[i]? = some (some m) → okm m = true) ∧ ∀ (i j m : Nat), ms[i]? = some (some m) → ms[j]? = some (some m) → i = j
 | [], _ => ⟨fun i m h => by simp at h, fun i j m h => by simp at h⟩
 | none :: l, e => by
  obtain ⟨a, b⟩ := qW (ms := l) e;refine ⟨fun i m h => ?_, fun i j m h h' => ?_⟩
  ·cases i with
   | zero => simp at h
   | succ i => exact a i m (by simpa using h)
  ·cases i with
   | zero => simp at h
   | succ i =>
    cases j with
    | zero => simp at h'
    | succ j => rw [b i j m (by simpa using h) (by simpa using h')]
 | some q :: l, e => by
  simp only [zfd, LzC, Bool.not_eq_true'] at e;obtain ⟨⟨e1, e2⟩, e3⟩ := e;obtain ⟨a, b⟩ := qW (ms := l) e3;have ne : ∀ j : Nat, l[j]? ≠ some (some q) := fun j h => by
   have := Lz3 h;have h3 : (l.any fun x => match x with | some m' => Nat.beq q m' | none => false) = true := List.any_eq_true.2 ⟨_, this, Nat.beq_refl q⟩
   rw [h3] at e2; cases e2
  refine ⟨fun i m h => ?_, fun i j m h h' => ?_⟩
  ·cases i with
   | zero => simp at h; subst h; exact e1
   | succ i => exact a i m (by simpa using h)
  ·cases i with
   | zero =>
    cases j with
    | zero => rfl
    | succ j => simp at h; subst h; exact absurd (by simpa using h') (ne j)
   | succ i =>
    cases j with
    | zero => simp at h'; subst h'; exact absurd (by simpa using h) (ne i)
    | succ j => rw [b i j m (by simpa using h) (by simpa using h')]
theorem vG (D : List Pl) (Ow : List (Pl × Nat)) (L : List DV) (n0 : Nat) : ∀ (l : List (Nat × Nat)) (os : List PO), (vH D Ow L n0 l os).length = os.length
 | [], _ => rfl
 | (k, n) :: l, os => by simp only [vH]; rw [vG D Ow L n0 l, yE]
theorem kA (M : List OC) : ∀ (l : List (Nat × Nat)) (i : Nat) (os : List PO), (za2 M l i os).length = os.length
 | [], _, _ => rfl
 | (k, st) :: l, i, os => by simp only [za2]; rw [kA M l, yE]
theorem zhb (M : List OC) : ∀ (l : List (Pl × Nat)) (i : Nat), (hOwn M l i).length = l.length
 | [], _ => rfl
 | (_, st) :: l, i => by simp [hOwn, zhb M l]
theorem zhc (M : List OC) : ∀ (l : List (Pl × Nat)) (i j : Nat), (hOwn M l i)[j]? = (l[j]?).map fun x => mkO x.2 (nthM M (i + j))
 | [], i, j => by simp [hOwn]
 | (p, st) :: l, i, 0 => by simp [hOwn]
 | (p, st) :: l, i, j + 1 => by
  have := zhc M l (i + 1) j;simp only [hOwn, List.getElem?_cons_succ];rw [this, show i + 1 + j = i + (j + 1) by omega]
theorem k8 (D : List Pl) (Ow : List (Pl × Nat)) (L : List DV) (n0 : Nat) : ∀ (l : List (Nat × Nat)) (os : List PO) (k : Nat),
  (∃ n, (k, n) ∈ l ∧ k < os.length ∧ og (vH D Ow L n0 l os) k = .box (kz D Ow L n0 k n 0)) ∨ ((∀ n, (k, n) ∈ l → ¬ k < os.length) ∧ og (vH D Ow L n0 l os) k = og os k)
 | [], os, k => .inr ⟨fun n h => (by cases h), rfl⟩
 | (k0, n) :: l, os, k => by
  simp only [vH];rcases k8 D Ow L n0 l (oset (.box (kz D Ow L n0 k0 n 0)) os k0) k with ⟨m, h1, h2, h3⟩ | ⟨h1, h2⟩
  ·exact .inl ⟨m, List.mem_cons_of_mem _ h1, by rwa [yE] at h2, h3⟩
  ·rw [yu] at h2;split at h2
   ·rename_i hk;rw [hk.1] at h2 ⊢;exact .inl ⟨n, List.mem_cons_self .., hk.2, h2⟩
   ·rename_i hk;refine .inr ⟨fun m hm hlt => ?_, h2⟩
    rcases List.mem_cons.1 hm with h | h
    ·cases h; exact hk ⟨rfl, hlt⟩
    ·exact h1 m h (by rw [yE]; exact hlt)
theorem za1 (M : List OC) : ∀ (l : List (Nat × Nat)) (i : Nat) (os : List PO) (k : Nat),
  (∃ j st, l[j]? = some (k, st) ∧ k < os.length ∧ og (za2 M l i os) k = mkO st (nthM M (i + j))) ∨ ((∀ st, (k, st) ∈ l → ¬ k < os.length) ∧ og (za2 M l i os) k = og os k)
 | [], i, os, k => .inr ⟨fun n h => (by cases h), rfl⟩
 | (k0, st) :: l, i, os, k => by
  simp only [za2];rcases za1 M l (Nat.succ i) (oset (mkO st (nthM M i)) os k0) k with ⟨j, s, h1, h2, h3⟩ | ⟨h1, h2⟩
  ·exact .inl ⟨j + 1, s, by simpa using h1, by rwa [yE] at h2, by rw [h3, show Nat.succ i + j = i + (j + 1) by omega]⟩
  ·rw [yu] at h2;split at h2
   ·rename_i hk;rw [hk.1] at h2 ⊢;exact .inl ⟨0, st, rfl, hk.2, h2⟩
   ·rename_i hk;refine .inr ⟨fun m hm hlt => ?_, h2⟩
    rcases List.mem_cons.1 hm with h | h
    ·cases h; exact hk ⟨rfl, hlt⟩
    ·exact h1 m h (by rw [yE]; exact hlt)
theorem zca (D : List Pl) (Ow : List (Pl × Nat)) (L : List DV) (n0 k : Nat) : ∀ (n i j : Nat), j < n → (kz D Ow L n0 k n i)[j]? = some (match plP D Ow L n0 (.cell k (i + j)) with | some c => c | none => .d .u)
 | 0, i, j, h => by omega
 | n + 1, i, 0, _ => rfl
 | n + 1, i, j + 1, h => by
  have := zca D Ow L n0 k n (i + 1) j (by omega)
  simp only [kz, List.getElem?_cons_succ];rw [this, show i + 1 + j = i + (j + 1) by omega]
theorem zb9 (D : List Pl) (Ow : List (Pl × Nat)) (L : List DV) (n0 k : Nat) : ∀ (n i : Nat), (kz D Ow L n0 k n i).length = n
 | 0, _ => rfl
 | n + 1, i => by simp [kz, zb9 D Ow L n0 k n]
theorem InvO.reidx {N : Nm} {os : List PO} (I : InvO E N os) (os' : List PO) (μ' : Nat → CVal) (s : Nat → Nat) (hs : ∀ k, live (og os' k) → live (og os (s k)) ∧ μ' k = N.μ (s k))
  (hi : ∀ k k', live (og os' k) → live (og os' k') → s k = s k' → k = k') (ho : ∀ k, RepO ⟨μ', os'.length, N.fz, N.h⟩ k (og os' k)) : InvO E ⟨μ', os'.length, N.fz, N.h⟩ os' :=
 ⟨I.hw, I.gr, I.fzlt, I.fzok, I.fzex, rfl, fun k b hl hb => by
  obtain ⟨h1, h2⟩ := hs k hl;rw [show (Nm.mk μ' os'.length N.fz N.h).μ k = N.μ (s k) from h2] at hb
  exact I.own _ b h1 hb, fun k k' b hl hl' hb hb' => by
  obtain ⟨h1, h2⟩ := hs k hl;obtain ⟨g1, g2⟩ := hs k' hl';rw [show (Nm.mk μ' os'.length N.fz N.h).μ k = N.μ (s k) from h2] at hb
  rw [show (Nm.mk μ' os'.length N.fz N.h).μ k' = N.μ (s k') from g2] at hb'
  exact hi k k' hl hl' (I.inj _ _ b h1 g1 hb hb'), ho⟩
end
end Go.PE
end
section
namespace Go.PE
open Go Go.CE
section
variable {E : En} {lk okm : Nat → Bool}
theorem zjI (a b : List PO) (k : Nat) (h : k < a.length) : og (a ++ b) k = og a k := by
 rw [zcV, zcV, Lz2 h]
theorem zmb (a b : List PO) (k : Nat) (h : a.length ≤ k) : og (a ++ b) k = (b[k - a.length]?).getD .dead := by
 rw [zcV, Lz8 h]
theorem RepCaps.re {N0 N1 N2 : Nm} (hle : N0.n ≤ N2.n) (hmu : ∀ k, k < N0.n → N2.μ k = N1.μ k) (hfz : N2.fz = N1.fz) (hh : N2.h = N1.h) : ∀ {ps0 ps : List (BN × Nat)} {caps : List (Nat ⊕ List DV)}, RepCaps N0 ps0 caps → RepCaps N1 ps caps → RepCaps N2 ps caps
 | [], [], [], _, _ => trivial
 | _ :: _, _ :: _, .inl k :: _, H0, H => ⟨⟨Lz9 H0.1.1 hle, (hmu k H0.1.1).trans H.1.2.1, H.1.2.2⟩, RepCaps.re hle hmu hfz hh H0.2 H.2⟩
 | _ :: _, _ :: _, .inr xs :: _, H0, H => ⟨by show Rep _ _ _ _; rw [hfz, hh]; exact H.1, RepCaps.re hle hmu hfz hh H0.2 H.2⟩
 | _, [], _ :: _, _, H => H.elim
 | _, _ :: _, [], _, H => H.elim
 | [], _, _ :: _, H0, _ => H0.elim
 | _ :: _, _, [], H0, _ => H0.elim
theorem RepPC.re {N0 N1 N2 : Nm} (hle : N0.n ≤ N2.n) (hmu : ∀ k, k < N0.n → N2.μ k = N1.μ k) (hfz : N2.fz = N1.fz) (hh : N2.h = N1.h) {c0 c : CVal} {p : PC} (H0 : RepPC N0 c0 p) (H : RepPC N1 c p) : RepPC N2 c p := by
 cases p with
 | d v => show Rep _ _ _ _; rw [hfz, hh]; exact H
 | own k => exact ⟨Lz9 H0.1 hle, H.2.trans (hmu k H0.1).symm⟩
 | ptr k off => obtain ⟨_, b, h2, h3⟩ := H; exact ⟨Lz9 H0.1 hle, b, (hmu k H0.1).trans h2, h3⟩
 | ep k st i off => obtain ⟨_, b, l, cap, ex, h2, h3, h4⟩ := H; exact ⟨Lz9 H0.1 hle, b, l, cap, ex, (hmu k H0.1).trans h2, h3, h4⟩
 | ip k off len st i o => obtain ⟨_, b, h2, h3, h4⟩ := H; exact ⟨Lz9 H0.1 hle, b, (hmu k H0.1).trans h2, h3, h4⟩
 | vw k st lo len => exact ⟨Lz9 H0.1 hle, by rw [hmu k H0.1]; exact H.2⟩
 | clo f caps =>
  obtain ⟨ps, rfl, hc⟩ := H;obtain ⟨ps0, _, hc0⟩ := H0;exact ⟨ps, rfl, RepCaps.re hle hmu hfz hh hc0 hc⟩
theorem RepPL.re {N0 N1 N2 : Nm} (hle : N0.n ≤ N2.n) (hmu : ∀ k, k < N0.n → N2.μ k = N1.μ k) (hfz : N2.fz = N1.fz) (hh : N2.h = N1.h) : ∀ {v0 v : List CVal} {ps : List PC}, RepPL N0 v0 ps → RepPL N1 v ps → RepPL N2 v ps
 | [], [], [], _, _ => trivial
 | _ :: _, _ :: _, _ :: _, H0, H => ⟨RepPC.re hle hmu hfz hh H0.1 H.1, RepPL.re hle hmu hfz hh H0.2 H.2⟩
 | _, [], _ :: _, _, H => H.elim
 | _, _ :: _, [], _, H => H.elim
 | [], _, _ :: _, H0, _ => H0.elim
 | _ :: _, _, [], H0, _ => H0.elim
theorem RepO.arr_re {N1 N2 : Nm} {k m st : Nat} {v : OC} (hmu : N2.μ k = N1.μ m) (hfz : N2.fz = N1.fz) (hh : N2.h = N1.h) (H : RepO N1 m (.arr st v)) : RepO N2 k (.arr st v) := by
 cases v with
 | none => exact hmu.trans H
 | some xs =>
  obtain ⟨b, vs, ex, h1, h2, h3, h4, h5⟩ := H;exact ⟨b, vs, ex, hmu.trans h1, by rw [hfz]; exact h2, by rw [hh]; exact h3, h4, fun i x hx => by rw [hfz, hh]; exact h5 i x hx⟩
theorem RepO.mkO_re {N1 N2 : Nm} {k m st : Nat} {v : OC} (hmu : N2.μ k = N1.μ m) (hfz : N2.fz = N1.fz) (hh : N2.h = N1.h) (H : RepO N1 m (mkO st v)) : RepO N2 k (mkO st v) := by
 cases hm : isMp st with
 | false => rw [kX hm] at H ⊢; exact RepO.arr_re hmu hfz hh H
 | true =>
  rw [zkb hm] at H ⊢;obtain ⟨b, es, h1, h2, h3, h4, h5⟩ := H;exact ⟨b, es, hmu.trans h1, by rw [hfz]; exact h2, by rw [hh]; exact h3, h4, fun i e x he hx => by rw [hfz, hh]; exact h5 i e x he hx⟩
theorem zdD {l : List (Nat × Nat)} {k : Nat} (h : (l.any fun x => Nat.beq k x.1) = false) : ∀ n, (k, n) ∉ l := fun n hn => by
 have : (l.any fun x => Nat.beq k x.1) = true := List.any_eq_true.2 ⟨(k, n), hn, Nat.beq_refl k⟩
 rw [h] at this; cases this
theorem zkB {la : LA} {x : RExit} {N0 N : Nm} {B os os1 : List PO} {r r0 : Fr} {ρ ρ0 : Nat → PA} {W : List Nat} {L : List DV} {M : List OC} {ms : List (Option Nat)}
  (I : InvO E N os) (F : ∀ i, RepPA N (r i) (ρ i)) (e : vec lk okm la x ρ os = some (os1, L, M, ms)) (hn0 : N0.n = B.length) (nx0 : Nx N0 N) (F0 : ∀ i, RepPA N0 (r0 i) (ρ0 i)) (hW : ∀ i, i ∉ W → r i = r0 i)
  (hB : ∀ k, k < B.length → listed la k = false → og B k = .dead ∨ (og B k = og os1 k ∧ ∀ cs, og B k = .box cs → ∃ (N' : Nm) (vs0 : List CVal), N'.n = B.length ∧ RepPL N' vs0 cs))
  (hok : ∀ m, some m ∈ ms → m < B.length → ¬ live (og B m) ∧ listed la m = false) :
  ∃ N2, N2.h = N.h ∧ InvO E N2 (hOs (selD la x) (selO la x) la B B.length L M) ∧
   (∀ i, RepPA N2 (r i) (hFr (selD la x) (selO la x) W ρ0 B.length L i)) ∧ Nx N0 N2 := by
 unfold vec at e;generalize hD : (selD la x) = D at e ⊢;generalize hOw : (selO la x) = Ow at e ⊢;cases h1 : vecD lk ρ D os with
 | none => rw [h1] at e; cases e
 | some q =>
  obtain ⟨o1, ds⟩ := q;rw [h1] at e;simp only at e;cases h2 : vecO ρ o1 Ow with
  | none => rw [h2] at e; cases e
  | some q =>
   obtain ⟨vs, ms0⟩ := q;cases h3 : vecA o1 la.arrs with
   | none => rw [h2, h3] at e; cases e
   | some ws =>
    rw [h2, h3] at e;simp only at e;cases h4 : (qk o1 la.boxes && zfd okm ms0) with
    | false => rw [h4] at e; cases e
    | true =>
     rw [h4] at e;cases e;rw [LzC] at h4;obtain ⟨N1, f1, S1, lD, rD⟩ := ze5 I F h1;have F1 : ∀ i, RepPA N1 (r i) (ρ i) := fun i => (F i).mono S1.nx
     have I1 := S1.inv;obtain ⟨lO, lms, rO⟩ := ziL I1 F1 h2;obtain ⟨lA, rA⟩ := ziM h3;have bO := zcn h4.1;obtain ⟨sA, sB⟩ := qW h4.2
     let os2 := hOs D Ow la B B.length L (vs ++ ws)
     have hl1 : (za2 (vs ++ ws) la.arrs Ow.length (vH D Ow L B.length la.boxes B)).length = B.length := by rw [kA, vG]
     have hlen : os2.length = B.length + Ow.length := (List.length_append (as := za2 (vs ++ ws) la.arrs Ow.length (vH D Ow L B.length la.boxes B)) (bs := hOwn (vs ++ ws) Ow 0)).trans (by rw [hl1, zhb])
     let μ2 : Nat → CVal := fun k => if k < B.length then N1.μ k else match ms[k - B.length]? with | some (some m) => N1.μ m | _ => .nils
     let s : Nat → Nat := fun k => if k < B.length then k else match ms[k - B.length]? with | some (some m) => m | _ => 0
     let N2 : Nm := ⟨μ2, os2.length, N1.fz, N1.h⟩
     have mulo : ∀ k, k < B.length → μ2 k = N1.μ k := fun k hk => by show (if k < B.length then _ else _) = _; rw [if_pos hk]
     have slo : ∀ k, k < B.length → s k = k := fun k hk => by show (if k < B.length then _ else _) = _; rw [if_pos hk]
     have muhi : ∀ q, μ2 (B.length + q) = match ms[q]? with | some (some m) => N1.μ m | _ => .nils := fun q => by
      show (if B.length + q < B.length then _ else _) = _
      rw [if_neg (by omega), Nat.add_sub_cancel_left]
     have shi : ∀ q m, ms[q]? = some (some m) → s (B.length + q) = m := fun q m hm => by
      show (if B.length + q < B.length then _ else _) = _
      rw [if_neg (by omega), Nat.add_sub_cancel_left, hm]
     have nthO1 : ∀ q v, vs[q]? = some v → nthM (vs ++ ws) q = v := fun q v hq => by
      have := (Lz0.1 hq).1;rw [zfs, Lz2 this, hq]; rfl
     have nthO2 : ∀ j v, ws[j]? = some v → nthM (vs ++ ws) (Ow.length + j) = v := fun j v hj => by
      rw [zfs, Lz8 (by omega), ← lO, Nat.add_sub_cancel_left, hj]; rfl
     have nx2 : Nx N0 N2 := ⟨nx0.fg.trans S1.nx.fg, by show N0.n ≤ os2.length; rw [hn0, hlen]; omega, fun k hk => by
      have hk' : k < B.length := by rw [← hn0]; exact hk
      show μ2 k = _;rw [mulo k hk', f1.μ];exact nx0.mu k hk⟩
     have place : ∀ p c, plP D Ow L B.length p = some c → ∃ v, cvAt N1 r p v ∧ RepPC N2 v c := by
      intro p c hp;unfold plP at hp;cases hd : idxP p D 0 with
      | some i =>
       rw [hd] at hp;cases hp;obtain ⟨q, rfl, hq⟩ := zfI hd;have hqd := (Lz0.1 hq).1;obtain ⟨d, hdd⟩ : ∃ d, L[q]? = some d := ⟨_, Lz5 (by omega)⟩
       obtain ⟨v, k1, k2⟩ := rD q p d hq hdd;refine ⟨v, k1, ?_⟩;show Rep _ _ _ _;rw [Nat.zero_add, zjV, hdd];exact k2
      | none =>
       rw [hd] at hp;simp only at hp;cases ho : idxP p (Ow.map (·.1)) 0 with
       | none => rw [ho] at hp; cases hp
       | some i =>
        rw [ho] at hp;cases hp;obtain ⟨q, rfl, hq⟩ := zfI ho;simp only [Lz6, Option.map_eq_some_iff] at hq;obtain ⟨⟨p', st⟩, hq, rfl⟩ := hq;obtain ⟨v, m, c, k1, k2, k3, k4⟩ := rO q p' st hq;refine ⟨c, k3, ?_, ?_⟩
        ·show B.length + (0 + q) < os2.length;have := (Lz0.1 hq).1;rw [hlen]; omega
        ·show c = μ2 (B.length + (0 + q));rw [Nat.zero_add, muhi, k2];rcases k4 with ⟨rfl, _, rfl, _⟩ | ⟨m', rfl, _, rfl, _⟩
         ·rfl
         ·rfl
     have obj : ∀ k, (k < B.length ∧ ((∃ (j st : Nat) (v : OC), la.arrs[j]? = some (k, st) ∧ ws[j]? = some v ∧ og os2 k = mkO st v ∧ og os1 k = mkO st v) ∨
       (∃ (n : Nat) (cs : List PC), (k, n) ∈ la.boxes ∧ og os2 k = .box (kz D Ow L B.length k n 0) ∧ og os1 k = .box cs ∧ cs.length = n) ∨ (listed la k = false ∧ og os2 k = og B k))) ∨
       (∃ (q : Nat), k = B.length + q ∧ ((∃ (p : Pl) (st : Nat) (v : OC) (m : Option Nat) (c : CVal), Ow[q]? = some (p, st) ∧ vs[q]? = some v ∧ ms[q]? = some m ∧ cvAt N1 r p c ∧ ((m = none ∧ v = none ∧ c = .nils ∧ isMp st = false) ∨ ∃ q', m = some q' ∧ og os1 q' = mkO st v ∧ c = N1.μ q' ∧ q' < N1.n) ∧ og os2 k = mkO st v) ∨ og os2 k = .dead)) := by
      intro k;by_cases hk : k < B.length
      ·refine .inl ⟨hk, ?_⟩;have e0 : og os2 k = og (za2 (vs ++ ws) la.arrs Ow.length (vH D Ow L B.length la.boxes B)) k := zjI _ _ k (by rw [hl1]; exact hk)
       rcases za1 (vs ++ ws) la.arrs Ow.length (vH D Ow L B.length la.boxes B) k with ⟨j, st, a1, a2, a3⟩ | ⟨a1, a2⟩
       ·obtain ⟨v, b1, b2⟩ := rA j k st a1;exact .inl ⟨j, st, v, a1, b1, by rw [e0, a3, nthO2 j v b1], b2⟩
       ·rcases k8 D Ow L B.length la.boxes B k with ⟨n, c1, c2, c3⟩ | ⟨c1, c2⟩
        ·obtain ⟨cs, d1, d2⟩ := bO k n c1;exact .inr (.inl ⟨n, cs, c1, by rw [e0, a2, c3], d1, d2⟩)
        ·refine .inr (.inr ⟨?_, by rw [e0, a2, c2]⟩)
         unfold listed;rw [Bool.or_eq_false_iff]
         constructor
         ·cases hb : (la.boxes.any fun x => Nat.beq k x.1) with
          | false => rfl
          | true =>
           obtain ⟨⟨k', n⟩, h, h'⟩ := List.any_eq_true.1 hb;have := Lz1 h';simp only at this;subst this;exact absurd hk (c1 n h)
         ·cases hb : (la.arrs.any fun x => Nat.beq k x.1) with
          | false => rfl
          | true =>
           obtain ⟨⟨k', n⟩, h, h'⟩ := List.any_eq_true.1 hb;have := Lz1 h';simp only at this;subst this;exact absurd (by rw [vG]; exact hk) (a1 n h)
      ·refine .inr ⟨k - B.length, by omega, ?_⟩
       have e0 : og os2 k = ((hOwn (vs ++ ws) Ow 0)[k - B.length]?).getD .dead := by
        have := zmb (za2 (vs ++ ws) la.arrs Ow.length (vH D Ow L B.length la.boxes B)) (hOwn (vs ++ ws) Ow 0) k (by rw [hl1]; omega)
        rw [hl1] at this;exact this
       rw [zhc] at e0;cases hq : Ow[k - B.length]? with
       | none => rw [hq] at e0; exact .inr e0
       | some y =>
        obtain ⟨p, st⟩ := y;obtain ⟨v, m, c, k1, k2, k3, k4⟩ := rO _ p st hq;rw [hq] at e0;refine .inl ⟨p, st, v, m, c, rfl, k1, k2, k3, k4, ?_⟩;rw [e0, Nat.zero_add];show mkO st (nthM (vs ++ ws) (k - B.length)) = _;rw [nthO1 _ v k1]
     have inv : InvO E N2 os2 := by
      refine I1.reidx os2 μ2 s ?_ ?_ ?_
      ·intro k hl;rcases obj k with ⟨hk, ⟨j, st, v, a1, a2, a3, a4⟩ | ⟨n, cs, a1, a2, a3, a4⟩ | ⟨a1, a2⟩⟩ | ⟨q, rfl, ⟨p, st, v, m, c, a1, a2, a3, a4, a5, a6⟩ | a1⟩
       ·rw [slo k hk, mulo k hk, a4]; rw [a3] at hl; exact ⟨hl, rfl⟩
       ·rw [slo k hk, mulo k hk, a3]; exact ⟨trivial, rfl⟩
       ·rw [slo k hk, mulo k hk];rcases hB k hk a1 with h | ⟨h, _⟩
        ·rw [a2, h] at hl; exact hl.elim
        ·rw [a2, h] at hl; exact ⟨hl, rfl⟩
       ·rcases a5 with ⟨rfl, rfl, _, hmp⟩ | ⟨m', rfl, b1, b2, b3⟩
        ·rw [a6, kX hmp] at hl; exact hl.elim
        ·rw [shi q m' a3, muhi, a3, b1]; rw [a6] at hl; exact ⟨hl, rfl⟩
       ·rw [a1] at hl; exact hl.elim
      ·have high : ∀ k, live (og os2 k) → ¬ k < B.length → ∃ q m, k = B.length + q ∧ ms[q]? = some (some m) := fun k hl hk => by
        rcases obj k with ⟨hk', _⟩ | ⟨q, rfl, ⟨p, st, v, m, c, a1, a2, a3, a4, a5, a6⟩ | a1⟩
        ·exact absurd hk' hk
        ·rcases a5 with ⟨rfl, rfl, _, hmp⟩ | ⟨m', rfl, _⟩
         ·rw [a6, kX hmp] at hl; exact hl.elim
         ·exact ⟨q, m', rfl, a3⟩
        ·rw [a1] at hl; exact hl.elim
       have mixed : ∀ k k', live (og os2 k) → live (og os2 k') → k < B.length → ¬ k' < B.length → s k ≠ s k' := fun k k' hl hl' hk hk' heq => by
        obtain ⟨q, m, rfl, hm⟩ := high k' hl' hk';rw [slo k hk, shi q m hm] at heq;subst heq;obtain ⟨g1, g2⟩ := hok k (Lz3 hm) hk;rcases obj k with ⟨_, ⟨j, st, v, a1, a2, a3, a4⟩ | ⟨n, cs, a1, a2, a3, a4⟩ | ⟨a1, a2⟩⟩ | ⟨q', h, _⟩
        ·have : (k, st) ∈ la.arrs := Lz3 a1;unfold listed at g2;rw [Bool.or_eq_false_iff] at g2;exact zdD g2.2 st this
        ·unfold listed at g2;rw [Bool.or_eq_false_iff] at g2;exact zdD g2.1 n a1
        ·rw [a2] at hl; exact g1 hl
        ·omega
       intro k k' hl hl' heq;by_cases hk : k < B.length <;> by_cases hk' : k' < B.length
       ·rwa [slo k hk, slo k' hk'] at heq
       ·exact absurd heq (mixed k k' hl hl' hk hk')
       ·exact absurd heq.symm (mixed k' k hl' hl hk' hk)
       ·obtain ⟨q, m, rfl, hm⟩ := high k hl hk;obtain ⟨q', m', rfl, hm'⟩ := high k' hl' hk';rw [shi q m hm, shi q' m' hm'] at heq;subst heq;rw [sB q q' m hm hm']
      ·intro k;rcases obj k with ⟨hk, ⟨j, st, v, a1, a2, a3, a4⟩ | ⟨n, cs, a1, a2, a3, a4⟩ | ⟨a1, a2⟩⟩ | ⟨q, rfl, ⟨p, st, v, m, c, a1, a2, a3, a4, a5, a6⟩ | a1⟩
       ·rw [a3];have := I1.obj k;rw [a4] at this;exact RepO.mkO_re (N2 := N2) (mulo k hk) rfl rfl this
       ·rw [a2];obtain ⟨b, us, b1, b2, b3, b4⟩ := uk I1 a3;have hul := b4.len;refine ⟨b, us, (mulo k hk).trans b1, b2, b3, RepPL.of (by rw [zb9]; omega) fun j c p hc hp => ?_⟩
        have hj := (Lz0.1 hc).1;rw [zca D Ow L B.length k n 0 j (by omega), Nat.zero_add] at hp
        cases hp;cases hpl : plP D Ow L B.length (.cell k j) with
        | none => exact Rep.u c
        | some c' =>
         obtain ⟨v, w1, w2⟩ := place _ _ hpl;obtain ⟨b', us', x1, x2, x3⟩ := w1;rw [b1] at x1; cases x1;rw [b3] at x2; cases x2;rw [hc] at x3; cases x3;exact w2
       ·rw [a2];rcases hB k hk a1 with h | ⟨h, hbx⟩
        ·rw [h]; trivial
        ·have := I1.obj k;rw [← h] at this;generalize hoB : og B k = ob at this hbx;cases ob with
         | box cs =>
          obtain ⟨N', vs0, hnn, hv0⟩ := hbx cs rfl;obtain ⟨b, us, b1, b2, b3, b4⟩ := this;exact ⟨b, us, (mulo k hk).trans b1, b2, b3, RepPL.re (N0 := N') (N1 := N1) (N2 := N2) (by rw [hnn]; show B.length ≤ os2.length; rw [hlen]; omega) (fun i hi => mulo i (by rw [← hnn]; exact hi)) rfl rfl hv0 b4⟩
         | arr st v => exact RepO.arr_re (N2 := N2) (mulo k hk) rfl rfl this
         | frz v => show Rep N1.fz N1.h (μ2 k) v; rw [mulo k hk]; exact this
         | fbox ds => obtain ⟨b, b1, b2⟩ := this; exact ⟨b, (mulo k hk).trans b1, b2⟩
         | mp st xs =>
          obtain ⟨b, es, h1, h2, h3, h4, h5⟩ := this;exact ⟨b, es, (mulo k hk).trans h1, h2, h3, h4, h5⟩
         | dead => trivial
       ·rw [a6];rcases a5 with ⟨rfl, rfl, _, hmp⟩ | ⟨m', rfl, b1, b2, b3⟩
        ·rw [kX hmp];show μ2 (B.length + q) = .nils;rw [muhi, a3]
        ·have := I1.obj m';rw [b1] at this;refine RepO.mkO_re (N1 := N1) (N2 := N2) ?_ rfl rfl this;show μ2 (B.length + q) = _;rw [muhi, a3]
       ·rw [a1]; trivial
     refine ⟨N2, f1.h, inv, fun i => ?_, nx2⟩
     unfold hFr;cases hp : plP D Ow L B.length (.slot i) with
     | some c =>
      obtain ⟨v, w1, w2⟩ := place _ _ hp;simp only;rw [show r i = .s (.one v) from w1]
      exact yZ w2
     | none =>
      simp only;cases hm : memB i W with
      | true => exact .bad _
      | false =>
       rw [hW i (fun h => by rw [(kg i W).2 h] at hm; cases hm)]
       exact (F0 i).mono nx2
end
end Go.PE
end
section
namespace Go.PE
open Go Go.CE
def pset (ρ : Nat → PA) (a : PA) : Option Nat → Nat → PA
 | none => ρ
 | some d => fun i => bif Nat.beq i d then a else ρ i
def refine (ρ : Nat → PA) : Option (Nat × Bool) → Nat → PA
 | none => ρ
 | some (d, b) => fun i => bif Nat.beq i d then pd (.bool b) else ρ i
def zoq : Operand → Bool → Option (Nat × Bool)
 | .tmp t, b => some (t, b)
 | _, _ => none
def scT (P : Program) (t : TypeId) : Bool :=
 match P.underlying t with
 | some .bool => true
 | some .string => true
 | some (.int _) => true
 | _ => false
def shOf (P : Program) (dst : Option Nat) (t : TypeId) : Sh :=
 match dst with
 | none => .no
 | some _ =>
  match P.underlying t with
  | some (.tuple ts) => bif ts.toList.all (scT P) then .tsc ts.toList.length else .tup (ts.toList.map fun t => match xx P t with | some n => n | none => none)
  | _ => bif scT P t then .sc else match xx P t with | some none => .one | some (some n) => .agg n | none => .no
section
variable (P : Program) (O : Orc)
def jh {β : Type} (lk : Nat → Bool) (nt : Nat) (ops : Array Oper) (o : Oper) (ρ : Nat → PA) (os : List PO) (K : Option (Nat × Bool) → KT β) : Option β :=
 bif inT nt o.dst then
  match comp P o.op with
  | some ko =>
   match o.guard with
   | none => pOp O lk (shOf P o.dst o.type) ρ os ko (K none)
   | some (j, b) =>
    match (ops[j]?).bind (·.dst) with
    | some d =>
     bif Nat.ble (Nat.succ d) nt then
      match ρ d with
      | .s (.one (.d v)) =>
       bif b then ifB v (pOp O lk (shOf P o.dst o.type) (refine ρ (some (d, true))) os ko (K (some (d, true)))) (K (some (d, false)) .undef os [] [])
       else ifB v (K (some (d, true)) .undef os [] []) (pOp O lk (shOf P o.dst o.type) (refine ρ (some (d, false))) os ko (K (some (d, false))))
      | .undef => K none .undef os [] []
      | _ => none
     else none
    | none => none
  | none => none
 else none
abbrev Inl := Nat → (Nat → Bool) → List PA → List PO → (β : Type) → (PA → List PO → Option β) → Option β
def zm1 : List (Nat ⊕ List DV) → List PA
 | [] => []
 | .inl k :: l => pc (.ptr k 0) :: zm1 l
 | .inr xs :: l => pd (.fp xs 0) :: zm1 l
def zmF (tab : Nat → Bool) (ρ : Nat → PA) (o : Oper) : Option (Nat × List PA) :=
 match o.guard with
 | some _ => none
 | none =>
  match comp P o.op with
  | some (.call f args) =>
   match f with
   | .func g => bif tab g then match pvs ρ args with | some as => some (g, as) | none => none else none
   | f =>
    match pv ρ f, pvs ρ args with
    | some (.s (.one (.clo g caps))), some as => bif tab g then some (g, as ++ zm1 caps) else none
    | _, _ => none
  | _ => none
def pOps (tab : Nat → Bool) (Y : Inl) {β : Type} (lk : Nat → Bool) (nt : Nat) (ops : Array Oper) : List Oper → (Nat → PA) → List PO → ((Nat → PA) → List PO → Option β) → Option β
 | [], ρ, os, K => K ρ os
 | o :: l, ρ, os, K =>
  match zmF P tab ρ o with
  | some (g, as) => bif inT nt o.dst then Y g lk as os β (fun a os' => pOps tab Y lk nt ops l (pset ρ a o.dst) os' K) else none
  | none => jh P O lk nt ops o ρ os fun ref a os' _ _ => pOps tab Y lk nt ops l (pset (refine ρ ref) a o.dst) os' K
def zsz {β : Type} (a : (Nat → PA) → List PO → Option β) (k : RExit → (Nat → PA) → List PO → Option β) : RExit → (Nat → PA) → List PO → Option β
 | .normal, ρ, os => a ρ os
 | .exit id, ρ, os => k (.exit id) ρ os
 | .ret, ρ, os => k .ret ρ os
def outP {β : Type} (id : Nat) (k : RExit → (Nat → PA) → List PO → Option β) : RExit → (Nat → PA) → List PO → Option β
 | .exit id', ρ, os => bif Nat.beq id' id then k .normal ρ os else k (.exit id') ρ os
 | .normal, ρ, os => k .normal ρ os
 | .ret, ρ, os => k .ret ρ os
def j9 : Code → Nat
 | .seq a b => j9 a + j9 b
 | .cond _ a b => j9 a + j9 b
 | .block _ c => j9 c
 | .loop c => j9 c + 1
 | _ => 0
def ky : Code → Bool
 | .seq a b => ky a || ky b
 | .cond _ a b => ky a || ky b
 | .block _ c => ky c
 | .loop c => ky c
 | .ret => true
 | _ => false
abbrev PX := RExit × List DV × List OC
def xQ (f : List DV → List OC → Option PX) : Nat → List DV → List OC → Option PX
 | 0, _, _ => none
 | n + 1, L, M =>
  match f L M with
  | some (.normal, L', M') => xQ f n L' M'
  | x => x
open Classical in
noncomputable def ya (f : List DV → List OC → Option PX) (L : List DV) (M : List OC) : Option PX :=
 if h : ∃ n y, xQ f n L M = some y then some (Classical.choose (Classical.choose_spec h)) else none
def xy {β : Type} (x : Option PX) (kx : Nat → List DV → List OC → Option β) (kr : List DV → List OC → Option β) : Option β :=
 match x with
 | some (.exit id, L, M) => kx id L M
 | some (.ret, L, M) => kr L M
 | _ => none
def lkIn (la : LA) (n0 : Nat) (k : Nat) : Bool := Nat.ble (Nat.succ k) n0 && !listed la k
def free (lk : Nat → Bool) (la : LA) : Bool := (la.boxes.all fun x => !lk x.1) && (la.arrs.all fun x => !lk x.1)
def vecX (lk : Nat → Bool) (n0 : Nat) (la : LA) (e : RExit) (ρ : Nat → PA) (os : List PO) : Option PX :=
 match vec lk (fun m => Nat.ble n0 m) la e ρ os with
 | some (_, L, M, _) => some (e, L, M)
 | none => none
end
theorem zbV {f : List DV → List OC → Option PX} : ∀ {n m : Nat} {L : List DV} {M : List OC} {x y : PX}, xQ f n L M = some x → xQ f m L M = some y → x = y
 | 0, _, _, _, _, _, e, _ => by cases e
 | _ + 1, 0, _, _, _, _, _, e => by cases e
 | n + 1, m + 1, L, M, x, y, e, e' => by
  simp only [xQ] at e e';cases h : f L M with
  | none => rw [h] at e; cases e
  | some q =>
   obtain ⟨ex, L', M'⟩ := q;rw [h] at e e';cases ex with
   | normal => exact zbV e e'
   | exit id => cases e; cases e'; rfl
   | ret => cases e; cases e'; rfl
theorem zav {f : List DV → List OC → Option PX} {L : List DV} {M : List OC} {x : PX} : ya f L M = some x ↔ ∃ n, xQ f n L M = some x := by
 unfold ya
 constructor
 ·intro e;split at e
  ·rename_i h;cases e;have h1 := Classical.choose_spec h;exact ⟨_, Classical.choose_spec h1⟩
  ·cases e
 ·rintro ⟨n, e⟩
  have h : ∃ n y, xQ f n L M = some y := ⟨n, x, e⟩;rw [dif_pos h];have h1 := Classical.choose_spec (Classical.choose_spec h);rw [zbV h1 e]
theorem u3 (f : List DV → List OC → Option PX) (L : List DV) (M : List OC) : ya f L M = match f L M with | some (.normal, L', M') => ya f L' M' | x => x := by
  apply Option.ext;intro y;rw [zav];cases h : f L M with
  | none => simp only; constructor
            · rintro ⟨n, e⟩; cases n <;> simp [xQ, h] at e
            · intro e; cases e
  | some q =>
    obtain ⟨ex, L', M'⟩ := q;cases ex with
    | normal =>
      simp only [zav]
      constructor
      · rintro ⟨n, e⟩
        cases n with
        | zero => cases e
        | succ n => simp only [xQ, h] at e; exact ⟨n, e⟩
      · rintro ⟨n, e⟩; exact ⟨n + 1, by simp only [xQ, h]; exact e⟩
    | exit id =>
      simp only
      constructor
      · rintro ⟨n, e⟩
        cases n with
        | zero => cases e
        | succ n => simp only [xQ, h] at e; exact e
      · intro e; exact ⟨1, by simp only [xQ, h]; exact e⟩
    | ret =>
      simp only
      constructor
      · rintro ⟨n, e⟩
        cases n with
        | zero => cases e
        | succ n => simp only [xQ, h] at e; exact e
      · intro e; exact ⟨1, by simp only [xQ, h]; exact e⟩
section
variable {P : Program} {O : Orc} {C : Nat → zh} {E : En}
theorem zag {N : Nm} {r : Fr} {ρ : Nat → PA} (F : ∀ i, RepPA N (r i) (ρ i)) {d : Nat} {b : Bool} (h : r d = .s (.one (.bool b))) : ∀ i, RepPA N (r i) (refine ρ (some (d, b)) i) := by
 intro i;show RepPA N (r i) (bif Nat.beq i d then pd (.bool b) else ρ i)
 cases hb : Nat.beq i d with
 | false => exact F i
 | true =>
  have := Lz1 hb;subst this;rw [h];exact yB rfl
theorem zbt {N : Nm} {r : Fr} {ρ : Nat → PA} (F : ∀ i, RepPA N (r i) (ρ i)) {v : AVal} {a : PA} (h : RepPA N v a) (dst : Option Nat) : ∀ i, RepPA N (fset r v dst i) (pset ρ a dst i) := by
 intro i;cases dst with
 | none => exact F i
 | some d =>
  show RepPA N (bif Nat.beq i d then v else r i) (bif Nat.beq i d then a else ρ i)
  cases Nat.beq i d
  ·exact F i
  ·exact h
theorem zep {β : Type} {v : DV} {a b : Option β} {x : β} (e : ifB v a b = some x) : ∃ q, v = .bool q ∧ (bif q then a else b) = some x := by
 cases v <;> first | cases e | skip
 rename_i q;exact ⟨q, rfl, e⟩
theorem zcO (hO : jj O C) {β : Type} {lk : Nat → Bool} {nt : Nat} {ops : Array Oper} {o : Oper} {ρ : Nat → PA} {os : List PO} {N : Nm} {r : Fr} {K : Option (Nat × Bool) → KT β} {x : β} (I : InvO E N os) (F : ∀ i, RepPA N (r i) (ρ i)) (hlk : ∀ j, lk j = true → j < os.length)
  (e : jh P O lk nt ops o ρ os K = some x) : ∃ ref a os' wr rd, K ref a os' wr rd = some x ∧ (∀ i, RepPA N (r i) (refine ρ ref i)) ∧
   Ev (fun n => yh P nt ops o (C n) r N.h) (fun p => ∃ N', N'.h = p.2 ∧ Sim E lk N os wr N' os' p.1 a) := by
 unfold jh at e;cases hT : inT nt o.dst with
 | false => rw [hT] at e; cases e
 | true =>
  rw [hT] at e;simp only [cond_true] at e;cases hc : comp P o.op with
  | none => rw [hc] at e; cases e
  | some ko =>
   rw [hc] at e;simp only at e;cases hg : o.guard with
   | none =>
    rw [hg] at e;obtain ⟨a, os', wr, rd, h1, h2⟩ := znn hO I F hlk e;refine ⟨none, a, os', wr, rd, h1, F, ?_⟩;have : (fun n => yh P nt ops o (C n) r N.h) = fun n => runK r ko (C n) N.h := by
     funext n
     unfold yh;rw [hT, hg];exact zb5 P r (C n) N.h hc
    rw [this]; exact h2
   | some gb =>
    obtain ⟨j, b⟩ := gb;rw [hg] at e;simp only at e;cases hd : (ops[j]?).bind (·.dst) with
    | none => rw [hd] at e; cases e
    | some d =>
     rw [hd] at e;simp only at e;cases hb : Nat.ble (Nat.succ d) nt with
     | false => rw [hb] at e; cases e
     | true =>
      rw [hb] at e;simp only [cond_true] at e;have run : ∀ call, yh P nt ops o call r N.h = bif zdH (r d) b then runK r ko call N.h else some (zX, N.h) := fun call => by
       unfold yh;rw [hT, hg];simp only [cond_true];rw [hd];simp only;rw [hb];simp only [cond_true];rw [zb5 P r call N.h hc]
      split at e
      ·rename_i v hρ;have hrd := F d;rw [hρ] at hrd;have key : ∀ q, v = .bool q → (if q = b then pOp O lk (shOf P o.dst o.type) (refine ρ (some (d, q))) os ko (K (some (d, q))) else K (some (d, q)) .undef os [] []) = some x → (∃ ref a os' wr rd, K ref a os' wr rd = some x ∧ (∀ i, RepPA N (r i) (refine ρ ref i)) ∧
         Ev (fun n => yh P nt ops o (C n) r N.h) (fun p => ∃ N', N'.h = p.2 ∧ Sim E lk N os wr N' os' p.1 a)) := fun q hq e2 => by
        subst hq;have hr := z8 hrd (c := .bool q) rfl;have F' := zag F hr;by_cases hqb : q = b
        ·rw [if_pos hqb] at e2;obtain ⟨a, os', wr, rd, h1, h2⟩ := znn hO I F' hlk e2;refine ⟨some (d, q), a, os', wr, rd, h1, F', ?_⟩;have : (fun n => yh P nt ops o (C n) r N.h) = fun n => runK r ko (C n) N.h := by
          funext n
          rw [run, hr, hqb];simp only [zdH, beq_self_eq_true, cond_true]
         rw [this]; exact h2
        ·rw [if_neg hqb] at e2;refine ⟨some (d, q), .undef, os, [], [], e2, F', ⟨(zX, N.h), ⟨N, rfl, .quiet I rfl⟩, 0, fun n _ => ?_⟩⟩
         show yh P nt ops o (C n) r N.h = _;rw [run, hr];have : zdH (.s (.one (.bool q))) b = false := by
          cases q <;> cases b <;> first | rfl | exact absurd rfl hqb
         rw [this]; rfl
       cases b with
       | true =>
        obtain ⟨q, rfl, e⟩ := zep e;exact key q rfl (by cases q <;> exact e)
       | false =>
        obtain ⟨q, rfl, e⟩ := zep e;exact key q rfl (by cases q <;> exact e)
      ·rename_i hρ;have hrd : r d = zX := by
        have := F d;rw [hρ] at this;cases hh : r d with
        | s w => rw [hh] at this; exact this
        | tup l => rw [hh] at this; exact this
       refine ⟨none, .undef, os, [], [], e, F, ⟨(zX, N.h), ⟨N, rfl, .quiet I rfl⟩, 0, fun n _ => ?_⟩⟩
       show yh P nt ops o (C n) r N.h = _;rw [run, hrd]; rfl
      ·cases e
def zm9 (tab : Nat → Bool) (Y : Inl) (C : Nat → zh) : Prop :=
 ∀ {β : Type} {E : En} {lk : Nat → Bool} {N : Nm} {os : List PO} {g : Nat} {as : List PA} {vs : List AVal} {K : PA → List PO → Option β} {x : β}, tab g = true → InvO E N os → RepPAL N vs as → (∀ j, lk j = true → j < os.length) → Y g lk as os β K = some x →
  ∃ a os', K a os' = some x ∧ Ev (fun n => C n (.inl g) vs N.h) (fun p => ∃ N', N'.h = p.2 ∧ InvO E N' os' ∧ Nx N N' ∧ (∀ j, lk j = true → og os' j = og os j) ∧ RepPA N' p.1 a)
theorem RepPAL.app {N : Nm} : ∀ {a b : List AVal} {x y : List PA}, RepPAL N a x → RepPAL N b y → RepPAL N (a ++ b) (x ++ y)
 | [], _, [], _, _, H => H
 | _ :: _, _, _ :: _, _, H, K => ⟨H.1, RepPAL.app H.2 K⟩
 | [], _, _ :: _, _, H, _ => H.elim
 | _ :: _, _, [], _, H, _ => H.elim
theorem zdx {N : Nm} : ∀ {ps : List (BN × Nat)} {xs : List (Nat ⊕ List DV)}, RepCaps N ps xs → RepPAL N (ps.map fun (p : BN × Nat) => AVal.s (.one (.ptr p.1 p.2))) (zm1 xs)
 | [], [], _ => trivial
 | p :: ps, .inl k :: xs, H => ⟨RepPA.of (v := .one (.ptr p.1 p.2)) (p := .one (.ptr k 0)) ⟨H.1.1, p.1, H.1.2.1, by rw [H.1.2.2]⟩, zdx H.2⟩
 | p :: ps, .inr y :: xs, H => ⟨RepPA.of (v := .one (.ptr p.1 p.2)) (p := .one (.d (.fp y 0))) H.1, zdx H.2⟩
 | [], _ :: _, H => H.elim
 | _ :: _, [], H => H.elim
theorem zmE {tab : Nat → Bool} {N : Nm} {r : Fr} {ρ : Nat → PA} {o : Oper} {g nt : Nat} {as : List PA} {ops : Array Oper} (F : ∀ i, RepPA N (r i) (ρ i)) (e : zmF P tab ρ o = some (g, as)) (hT : inT nt o.dst = true) :
  tab g = true ∧ ∃ vs, RepPAL N vs as ∧ ∀ call h, yh P nt ops o call r h = call (.inl g) vs h := by
 unfold zmF at e;cases hg : o.guard with
 | some _ => rw [hg] at e; cases e
 | none =>
  rw [hg] at e;simp only at e;cases hc : comp P o.op with
  | none => rw [hc] at e; cases e
  | some ko =>
   rw [hc] at e;have step : ∀ call h, yh P nt ops o call r h = runK r ko call h := fun call h => by
    unfold yh;rw [hT, hg];exact zb5 P r call h hc
   cases ko <;> first | (cases (show (none : Option (Nat × List PA)) = some (g, as) from e); done) | skip
   rename_i f args;have fin : ∀ (g' : Nat) (ps : List (BN × Nat)) (vs : List AVal), kv r f = some (.s (.one (.fn g' ps))) → kvs r args = some vs → ∀ call h, runK r (.call f args) call h = call (.inl g') (vs ++ ps.map fun (p : BN × Nat) => AVal.s (.one (.ptr p.1 p.2))) h := by
    intro g' ps vs h1 h2 call h;simp only [runK, h1, h2, zC];show call (.inl g') ((cL vs).map (fun x => x .nil) ++ ps.map fun (p : BN × Nat) => AVal.s (.one (.ptr p.1 p.2))) h = _
    rw [zhz]
   simp only at e;split at e
   ·rename_i g';cases ht : tab g' with
    | false => rw [ht] at e; cases e
    | true =>
     rw [ht] at e;simp only [cond_true] at e;cases h2 : pvs ρ args with
     | none => rw [h2] at e; cases e
     | some as' =>
      rw [h2] at e;cases e;obtain ⟨v, k1, k2⟩ := x4 (x := .func g) (a := pd (.fn g [])) F rfl;obtain ⟨vs, k3, k4⟩ := zdX F h2;obtain ⟨w, rfl, hw⟩ := x5 k2;obtain ⟨ps, rfl, hps⟩ := Rep.fn_inv hw;cases ps with
      | cons p ps => have := hps.1; simp at this
      | nil =>
       refine ⟨ht, _, k4, fun call h => (step call h).trans ((fin _ _ _ k1 k3 call h).trans ?_)⟩
       rw [List.map_nil, List.append_nil]
   ·split at e
    ·rename_i g' caps as' h1 h2;cases ht : tab g' with
     | false => rw [ht] at e; cases e
     | true =>
      rw [ht] at e;cases e;obtain ⟨v, k1, k2⟩ := x4 F h1;obtain ⟨vs, k3, k4⟩ := zdX F h2;obtain ⟨w, rfl, hw⟩ := yf k2;obtain ⟨ps, rfl, hps⟩ := hw;exact ⟨ht, _, k4.app (zdx hps), fun call h => (step call h).trans (fin _ _ _ k1 k3 call h)⟩
    ·cases e
theorem zfn (hO : jj O C) {tab : Nat → Bool} {Y : Inl} (hY : zm9 tab Y C) {β γ : Type} {Q : γ → Prop} {lk : Nat → Bool} {nt : Nat} {ops : Array Oper} {x : β} {K : (Nat → PA) → List PO → Option β} {kk : Nat → Fr → AHeap → Option γ} : ∀ (l : List Oper) (ρ : Nat → PA) (os : List PO) (N : Nm) (r : Fr),
  pOps P O tab Y lk nt ops l ρ os K = some x → InvO E N os → (∀ i, RepPA N (r i) (ρ i)) → (∀ j, lk j = true → j < os.length) →
  (∀ ρ' os' N' r', K ρ' os' = some x → InvO E N' os' → (∀ i, RepPA N' (r' i) (ρ' i)) → Nx N N' → (∀ j, lk j = true → og os' j = og os j) → (∀ i, i ∉ l.filterMap (·.dst) → r' i = r i) → Ev (fun n => kk n r' N'.h) Q) →
  Ev (fun n => kOps P nt ops (C n) l r N.h (kk n)) Q
 | [], ρ, os, N, r, e, I, F, hlk, H => H ρ os N r e I F (.refl N) (fun _ _ => rfl) (fun _ _ => rfl)
 | o :: l, ρ, os, N, r, e, I, F, hlk, H => by
  simp only [pOps] at e;cases hi : zmF P tab ρ o with
  | some q =>
   obtain ⟨g, as⟩ := q;rw [hi] at e;simp only at e;cases hT : inT nt o.dst with
   | false => rw [hT] at e; cases e
   | true =>
    rw [hT, cond_true] at e;obtain ⟨ht, vs, rvs, run⟩ := zmE (ops := ops) F hi hT;obtain ⟨a, os', e1, ev⟩ := hY ht I rvs hlk e;have : (fun n => kOps P nt ops (C n) (o :: l) r N.h (kk n)) = fun n => CE.bindR (C n (.inl g) vs N.h) fun v h' => kOps P nt ops (C n) l (fset r v o.dst) h' (kk n) := by
     funext n; rw [← run (C n) N.h]; exact zaW ops (C n) o l r N.h (kk n)
    rw [this];refine Ev.bindR (ev.mono ?_)
    rintro ⟨v, h'⟩ ⟨N', hh, i1, i2, i3, i4⟩
    simp only at hh i4 ⊢;subst hh;refine zfn hO hY l _ os' N' (fset r v o.dst) e1 i1 (zbt (fun i => (F i).mono i2) i4 o.dst) (fun j hj => ?_) (fun ρ2 os2 N2 r2 k1 k2 k3 k4 k5 k6 => ?_)
    ·have h1 := i2.le;rw [i1.len, I.len] at h1;exact Lz9 (hlk j hj) h1
    ·refine H ρ2 os2 N2 r2 k1 k2 k3 (i2.trans k4) (fun j hj => (k5 j hj).trans (i3 j hj)) (fun i hi => ?_)
     simp only [List.filterMap_cons] at hi;rw [k6 i (fun hm => hi (by cases o.dst <;> simp [hm]))]
     exact xF (fun hd => hi (by rw [hd]; simp))
  | none =>
  rw [hi] at e;simp only at e;obtain ⟨ref, a, os', wr, rd, e1, F1, ev⟩ := zcO hO I F hlk e;have : (fun n => kOps P nt ops (C n) (o :: l) r N.h (kk n)) = fun n => CE.bindR (yh P nt ops o (C n) r N.h) fun v h' => kOps P nt ops (C n) l (fset r v o.dst) h' (kk n) := by
   funext n; exact zaW ops (C n) o l r N.h (kk n)
  rw [this];refine Ev.bindR (ev.mono ?_)
  rintro ⟨v, h'⟩ ⟨N', hh, S⟩
  simp only at hh S ⊢;subst hh;refine zfn hO hY l _ os' N' (fset r v o.dst) e1 S.inv (zbt (fun i => (F1 i).mono S.nx) S.val o.dst) (fun j hj => ?_) (fun ρ2 os2 N2 r2 k1 k2 k3 k4 k5 k6 => ?_)
  ·have h1 := S.nx.le;rw [S.inv.len, I.len] at h1;exact Lz9 (hlk j hj) h1
  ·refine H ρ2 os2 N2 r2 k1 k2 k3 (S.nx.trans k4) (fun j hj => (k5 j hj).trans (S.lock j hj)) (fun i hi => ?_)
   simp only [List.filterMap_cons] at hi;rw [k6 i (fun hm => hi (by cases o.dst <;> simp [hm]))]
   exact xF (fun hd => hi (by rw [hd]; simp))
theorem zo4 {la : LA} {n0 k : Nat} (h : lkIn la n0 k = true) : k < n0 ∧ listed la k = false := by
 unfold lkIn at h;rw [LzC, Bool.not_eq_true'] at h;exact ⟨Lz4 h.1, h.2⟩
theorem zpJ {D : List Pl} {Ow : List (Pl × Nat)} {la : LA} {B : List PO} {L : List DV} {M : List OC} {n0 : Nat} (h : B.length = n0) : n0 ≤ (hOs D Ow la B n0 L M).length := by
 unfold hOs;rw [List.length_append, kA, vG];omega
theorem qE {D : List Pl} {Ow : List (Pl × Nat)} {la : LA} {B : List PO} {L : List DV} {M : List OC} {k : Nat} (h : k < B.length) (hl : listed la k = false) : og (hOs D Ow la B B.length L M) k = og B k := by
 unfold hOs;unfold listed at hl;rw [Bool.or_eq_false_iff] at hl;rw [zjI _ _ k (by rw [kA, vG]; exact h)]
 rcases za1 M la.arrs Ow.length (vH D Ow L B.length la.boxes B) k with ⟨j, st, a1, _, _⟩ | ⟨_, a2⟩
 ·exact absurd (Lz3 a1) (zdD hl.2 st)
 ·rw [a2];rcases k8 D Ow L B.length la.boxes B k with ⟨n, c1, _, _⟩ | ⟨_, c2⟩
  ·exact absurd c1 (zdD hl.1 n)
  ·exact c2
theorem zc2 : ∀ (ms : List (Option Nat)) (os : List PO), (kill ms os).length = os.length
 | [], _ => rfl
 | none :: ms, os => zc2 ms os
 | some m :: ms, os => by simp only [kill]; rw [zc2 ms, yE]
theorem ja : ∀ (ms : List (Option Nat)) (os : List PO) (k : Nat), (some k ∈ ms ∧ og (kill ms os) k = .dead) ∨ (some k ∉ ms ∧ og (kill ms os) k = og os k)
 | [], os, k => .inr ⟨by simp, rfl⟩
 | none :: ms, os, k => by
  simp only [kill];rcases ja ms os k with ⟨a, b⟩ | ⟨a, b⟩
  ·exact .inl ⟨List.mem_cons_of_mem _ a, b⟩
  ·exact .inr ⟨by simpa using a, b⟩
 | some m :: ms, os, k => by
  simp only [kill];rcases ja ms (oset .dead os m) k with ⟨a, b⟩ | ⟨a, b⟩
  ·exact .inl ⟨List.mem_cons_of_mem _ a, b⟩
  ·rw [yu] at b;by_cases hk : k = m
   ·subst hk;refine .inl ⟨List.mem_cons_self .., ?_⟩;rw [b];split
    ·rfl
    ·rename_i h;rw [zcV, List.getElem?_eq_none (by simp at h; exact h)]; rfl
   ·rw [if_neg (fun h => hk h.1)] at b
    exact .inr ⟨by simp [hk, a], b⟩
end
end Go.PE
end
section
namespace Go.PE
open Go Go.CE
theorem jy {h h2 h' : AHeap} {c : Option CVal} {v : AVal} (e : retC h c = some (v, h')) : retC h2 c = some (v, h2) := by
 cases c <;> cases e; rfl
theorem zfh {h h2 h' : AHeap} {c : Option (List CVal)} {v : AVal} (e : retA h c = some (v, h')) : retA h2 c = some (v, h2) := by
 cases c <;> cases e; rfl
theorem zcK {h h2 h' : AHeap} {n : Option Nat} {cs : List CVal} {off : Nat} {v : AVal} (e : CE.part n cs off h = some (v, h')) : CE.part n cs off h2 = some (v, h2) := by
 cases n with
 | none => exact jy e
 | some n => exact zfh e
theorem yp {h h2 h' : AHeap} {w v : AVal} (e : some (w, h) = some (v, h')) : (some (w, h2) : Res) = some (v, h2) := by
 cases e; rfl
theorem qN {h' h2 : AHeap} {b : Bool} {x y : Res} {v : AVal} (e : (bif b then x else none) = some (v, h')) (H : x = some (v, h') → y = some (v, h2)) : (bif b then y else none) = some (v, h2) := by
 cases b with
 | true => exact H e
 | false => cases e
section
variable {h h2 h' : AHeap} {v : AVal}
theorem zpC {c a b : AVal} (e : zlv c a b h = some (v, h')) : zlv c a b h2 = some (v, h2) := by
 unfold zlv uy zp at e ⊢;split at e
 ·exact yp e
 ·cases e
theorem zmP {zs : List CVal} {l : List (Nat × Nat × AVal)} (e : ziP zs l h = some (v, h')) : ziP zs l h2 = some (v, h2) := zfh e
theorem zmK {x : AVal} (e : zgl x h = some (v, h')) : zgl x h2 = some (v, h2) := by
 unfold zgl wH zp at e ⊢;split at e
 ·exact yp e
 ·exact yp e
 ·exact yp e
 ·cases e
theorem zrg {g : IntKind → Int → Int → Option CVal} {x y : AVal} (e : vInt g x y h = some (v, h')) : vInt g x y h2 = some (v, h2) := by
 unfold vInt qR zp at e ⊢;split at e
 ·split at e
  ·exact qN e jy
  ·cases e
 ·cases e
theorem zmJ {g : IntKind → Int → Int → Option CVal} {x y : AVal} (e : zgk g x y h = some (v, h')) : zgk g x y h2 = some (v, h2) := by
 unfold zgk xS zp at e ⊢;split at e
 ·split at e
  ·exact jy e
  ·cases e
 ·cases e
theorem zrc {op : BinOp} {x y : AVal} (e : vStr op x y h = some (v, h')) : vStr op x y h2 = some (v, h2) := by
 unfold vStr zaF zp at e ⊢;split at e
 ·exact jy e
 ·cases e
theorem zpD {neg : Bool} {x y : AVal} (e : ziN neg x y h = some (v, h')) : ziN neg x y h2 = some (v, h2) := by
 unfold ziN vA zp at e ⊢;split at e
 ·split at e
  ·exact yp e
  ·exact yp e
  ·cases e
 ·cases e
theorem ztn {q : Nat ⊕ List Nat} {neg : Bool} {x y : AVal} (e : vEq q neg x y h = some (v, h')) : vEq q neg x y h2 = some (v, h2) := by
 unfold vEq opEq zp at e ⊢;split at e
 ·split at e
  ·exact yp e
  ·cases e
 ·cases e
theorem zrd {x : AVal} (e : vNot x h = some (v, h')) : vNot x h2 = some (v, h2) := by
 unfold vNot zaG zp at e ⊢;split at e
 ·exact yp e
 ·cases e
theorem zre {x : AVal} (e : vNeg x h = some (v, h')) : vNeg x h2 = some (v, h2) := by
 unfold vNeg zaH zp at e ⊢;split at e
 ·exact yp e
 ·cases e
theorem zpI {t : IntKind} {x : AVal} (e : zlB t x h = some (v, h')) : zlB t x h2 = some (v, h2) := by
 unfold zlB uF zp at e ⊢;split at e
 ·exact yp e
 ·cases e
theorem zpE {f : Nat} {l : List AVal} (e : zlx f l h = some (v, h')) : zlx f l h2 = some (v, h2) := by
 unfold zlx uA at e ⊢;split at e
 ·exact yp e
 ·cases e
theorem ziq {st : Nat} {lo hi mx : Option Opd} {t : Tr AVal} {b : BN} {off len cap : Nat} (e : y3 st lo hi mx t h b off len cap = some (v, h')) : y3 st lo hi mx t h2 b off len cap = some (v, h2) := by
 unfold y3 at e ⊢;split at e
 ·split at e
  ·split at e
   ·exact qN e yp
   ·cases e
  ·cases e
 ·cases e
theorem zio {st : Nat} {lo hi mx : Option Opd} {t : Tr AVal} {b : BN} {off len cap : Nat} (e : y0 st lo hi mx t h b off len cap = some (v, h')) : y0 st lo hi mx t h2 b off len cap = some (v, h2) := by
 unfold y0 at e ⊢;split at e
 ·split at e
  ·split at e
   ·split at e
    ·split at e
     ·exact yp e
     ·cases e
    ·cases e
   ·cases e
  ·cases e
 ·split at e
  ·split at e
   ·exact qN e yp
   ·cases e
  ·cases e
theorem zmI {st : Nat} {x : AVal} {lo hi mx : Option AVal} (e : ul st x lo hi mx h = some (v, h')) : ul st x lo hi mx h2 = some (v, h2) := by
 unfold ul wF zp at e ⊢;split at e
 ·unfold xg at e ⊢;split at e
  ·exact yp e
  ·cases e
 ·rename_i ex;cases ex with
  | true => exact ziq e
  | false => exact zio e
 ·cases e
theorem zky {x : AVal} {lo hi : Option AVal} (e : zcs x lo hi h = some (v, h')) : zcs x lo hi h2 = some (v, h2) := by
 unfold zcs xi zp at e ⊢;split at e
 ·split at e
  ·split at e
   ·exact yp e
   ·cases e
  ·cases e
 ·cases e
theorem zpH {x : AVal} {off : Nat} (e : zlA x off h = some (v, h')) : zlA x off h2 = some (v, h2) := by
 unfold zlA uE zp at e ⊢;split at e
 ·exact yp e
 ·cases e
theorem zmO {x : AVal} {off : Nat} {n : Option Nat} (e : zgp x off n h = some (v, h')) : zgp x off n h2 = some (v, h2) := by
 unfold zgp wL zp at e ⊢;split at e
 ·exact zcK e
 ·cases e
theorem zrf {st : Nat} {x i : AVal} (e : vIxs st x i h = some (v, h')) : vIxs st x i h2 = some (v, h2) := by
 unfold vIxs zaK zp at e ⊢;split at e
 ·split at e
  ·exact qN e yp
  ·cases e
 ·cases e
theorem zmM {len st : Nat} {x i : AVal} (e : zgn len st x i h = some (v, h')) : zgn len st x i h2 = some (v, h2) := by
 unfold zgn wJ zp at e ⊢;split at e
 ·split at e
  ·exact qN e yp
  ·cases e
 ·split at e
  ·exact qN e yp
  ·cases e
 ·cases e
theorem zmN {len st : Nat} {n : Option Nat} {x i : AVal} (e : zgo len st n x i h = some (v, h')) : zgo len st n x i h2 = some (v, h2) := by
 unfold zgo wK zp at e ⊢;split at e
 ·split at e
  ·exact qN e zcK
  ·cases e
 ·cases e
theorem zmL {x i : AVal} (e : zgm x i h = some (v, h')) : zgm x i h2 = some (v, h2) := by
 unfold zgm wI zp at e ⊢;split at e
 ·split at e
  ·exact jy e
  ·cases e
 ·cases e
theorem zir {x : AVal} {i : Nat} (e : qV x i h = some (v, h')) : qV x i h2 = some (v, h2) := by
 unfold qV xb zp at e ⊢;split at e
 ·split at e
  ·exact yp e
  ·cases e
 ·cases e
theorem zpF {x : AVal} (e : zlz x h = some (v, h')) : zlz x h2 = some (v, h2) := by
 unfold zlz uC zp at e ⊢;split at e
 ·exact yp e
 ·cases e
theorem zpG {x : AVal} (e : ziO x h = some (v, h')) : ziO x h2 = some (v, h2) := by
 unfold ziO uD zp at e ⊢;split at e
 ·exact yp e
 ·exact yp e
 ·cases e
theorem zkz {m : Bool} {x : AVal} {xs : List AVal} (e : zct m x xs h = some (v, h')) : zct m x xs h2 = some (v, h2) := by
 unfold zct yT zp at e ⊢;split at e
 ·split at e
  ·exact yp e
  ·cases e
 ·cases e
theorem xl {x : Option AVal} {K K2 : AVal → Res} (e : zC x K = some (v, h')) (H : ∀ a, K a = some (v, h') → K2 a = some (v, h2)) : zC x K2 = some (v, h2) := by
 cases x with
 | none => cases e
 | some a => exact H a e
end
def jk : KOp → Bool
 | .mv _ | .pick .. | .build .. | .nilck _ | .bin .. | .shift .. | .str .. | .nilS .. | .eq .. | .not _ | .neg _ | .conv .. | .mkfn .. | .slice .. | .sslice .. | .foff .. | .field .. | .ixs .. | .ixarr .. | .ixagg .. | .ixstr .. | .extract .. | .lenS _ | .lenL _ | .minmax .. => true
 | _ => false
theorem zlJ {r : Fr} {ko : KOp} (hs : jk ko = true) {call call2 : zh} {h h2 h' : AHeap} {v : AVal} (e : runK r ko call h = some (v, h')) : runK r ko call2 h2 = some (v, h2) := by
 cases ko <;> first | (exfalso; exact Bool.noConfusion hs) | skip
 ·exact xl e fun _ => yp
 ·exact xl e fun _ e => xl e fun _ e => xl e fun _ => zpC
 ·simp only [runK] at e ⊢;split at e
  ·exact zmP e
  ·cases e
 ·exact xl e fun _ => zmK
 ·exact xl e fun _ e => xl e fun _ => zrg
 ·exact xl e fun _ e => xl e fun _ => zmJ
 ·exact xl e fun _ e => xl e fun _ => zrc
 ·exact xl e fun _ e => xl e fun _ => zpD
 ·exact xl e fun _ e => xl e fun _ => ztn
 ·exact xl e fun _ => zrd
 ·exact xl e fun _ => zre
 ·exact xl e fun _ => zpI
 ·simp only [runK] at e ⊢;split at e
  ·exact zpE e
  ·cases e
 ·refine xl e fun _ e => ?_
  split at e
  ·exact zmI e
  ·cases e
 ·refine xl e fun _ e => ?_
  split at e
  ·exact zky e
  ·cases e
 ·exact xl e fun _ => zpH
 ·exact xl e fun _ => zmO
 ·exact xl e fun _ e => xl e fun _ => zrf
 ·exact xl e fun _ e => xl e fun _ => zmM
 ·exact xl e fun _ e => xl e fun _ => zmN
 ·exact xl e fun _ e => xl e fun _ => zmL
 ·exact xl e fun _ => zir
 ·exact xl e fun _ => zpF
 ·exact xl e fun _ => zpG
 ·refine xl e fun _ e => ?_
  split at e
  ·exact zkz e
  ·cases e
theorem zmy {n : Option Nat} {x v : AVal} {h h2 h' : AHeap} (e : zly n x h = some (v, h')) (H : ∀ b off, x = .s (.one (.ptr b off)) → h2.t.get b = h.t.get b) : zly n x h2 = some (v, h2) := by
 unfold zly uB zp at e ⊢;split at e
 ·rename_i b off;have := H b off rfl;rw [this];unfold loadAt at e ⊢;split at e
  ·exact zcK e
  ·cases n with
   | none => exact jy e
   | some n => exact zfh e
  ·exact zcK e
  ·cases e
 ·exact qN e jy
 ·cases e
theorem zcC {h h2 h' : AHeap} {v : AVal} {l : Option (List CVal)} (e : retS h l = some (v, h')) : retS h2 l = some (v, h2) := by
 unfold retS at e ⊢;split at e
 ·split at e
  ·exact yp e
  ·cases e
 ·cases e
theorem zpZ {x v : AVal} {h h2 h' : AHeap} (e : j8 (zp x) yc .nil h = some (v, h')) (H : ∀ b off len cap ex, x = .s (.one (.slc b off len cap ex)) → h2.t.get b = h.t.get b) : j8 (zp x) yc .nil h2 = some (v, h2) := by
 unfold j8 zp at e ⊢;split at e
 ·exact yp e
 ·rename_i b off len cap ex;have := H b off len cap ex rfl;rw [this];split at e
  ·exact zcC e
  ·exact zcC e
  ·exact zcC e
  ·exact zcC e
  ·cases e
 ·cases e
end Go.PE
end
section
namespace Go.PE
open Go Go.CE
def zN (ρ : Nat → PA) (l : List Nat) : Nat → PA := fun i => bif memB i l then ρ i else .bad
def bset (bo : Nat → Nat) (n : Nat) : Option Nat → Nat → Nat
 | none => bo
 | some d => fun i => bif Nat.beq i d then n else bo i
def bOf (bo : Nat → Nat) : Operand → Nat
 | .tmp t => bo t
 | _ => 0
def okW (ws : List (List Nat)) (lo hi : Nat) (rd : List Nat) : Bool := ((ws.drop lo).take (hi - lo)).all fun w => rd.all fun k => !memB k w
section
variable (P : Program) (O : Orc)
def pDr {β : Type} (lk : Nat → Bool) (nt : Nat) (ops : Array Oper) (bs : List Nat) (es : List Bool) : Nat → List Oper → (Nat → PA) → List PO → (Nat → Nat) → List (List Nat) → List (Nat × Nat × List Nat) → ((Nat → PA) → List PO → Option β) → Option β
 | _, [], ρ, os, _, ws, ps, K => bif ps.all (fun p => okW ws p.1 p.2.1 p.2.2) then K ρ os else none
 | i, o :: l, ρ, os, bo, ws, ps, K =>
  bif yq P o.op then
   match comp P o.op with
   | none => none
   | some ko =>
    bif jk ko then
     jh P O (fun _ => true) nt ops o (zN ρ (o.looksAt ops)) os fun ref a _ _ _ =>
      pDr lk nt ops bs es (Nat.succ i) l (pset (refine ρ ref) a o.dst) os (bset bo (match trk (refine (zN ρ (o.looksAt ops)) ref) ko with | some x => bOf bo x | none => ws.length) o.dst) ws ps K
    else
     match memX ko with
     | none => none
     | some x =>
      bif Nat.beq (ce (fun j => bef bs j i) 0 es) (ce (fun j => !bef bs i j) 0 es) then
       jh P O (fun _ => true) nt ops o (zN ρ (o.looksAt ops)) os fun ref a _ _ _ =>
        pDr lk nt ops bs es (Nat.succ i) l (pset (refine ρ ref) a o.dst) os (bset bo ws.length o.dst) ws ps K
      else
       bif Nat.ble (bOf bo x) (ce (fun j => bef bs j i) 0 es) && Nat.ble (ce (fun j => bef bs j i) 0 es) ws.length && Nat.ble ws.length (ce (fun j => !bef bs i j) 0 es) then
        jh P O (fun _ => true) nt ops o (zN ρ (o.looksAt ops)) os fun ref a _ _ rd =>
         pDr lk nt ops bs es (Nat.succ i) l (pset (refine ρ ref) a o.dst) os (bset bo ws.length o.dst) ws (ps ++ [(ce (fun j => bef bs j i) 0 es, ce (fun j => !bef bs i j) 0 es, rd)]) K
       else none
  else
   jh P O lk nt ops o (zN ρ (o.looksAt ops)) os fun ref a os' wr _ =>
    pDr lk nt ops bs es (Nat.succ i) l (pset (refine ρ ref) a o.dst) os' (bset bo (Nat.succ ws.length) o.dst) (ws ++ [wr]) ps K
end
section
variable {P : Program} {O : Orc} {C : Nat → zh} {E : En}
theorem zoK {β : Type} {N : Nm} {os : List PO} {r : Fr} {ρ : Nat → PA} {k : KT β} {x : β} {sh : Sh} (I : InvO E N os) (F : ∀ i, RepPA N (r i) (ρ i)) {ko : KOp} (hq : jk ko = true ∨ ∃ y, memX ko = some y) (e : pOp O (fun _ => true) sh ρ os ko k = some x) : GoalQ N os r ρ ko k x := by
 cases ko with
 | mv a => exact o_mv I F e
 | pick c a b => exact znq I F e
 | build zs parts => exact zjT I F e
 | load n a => exact znt I F e
 | nilck a => exact zjN I F e
 | bin op a b => exact zqX I F e
 | shift l a b => exact zjM I F e
 | str op a b => exact zqP I F e
 | nilS neg a b => exact znr I F e
 | eq q neg a b => exact o_eq I F e
 | not a => exact zqQ I F e
 | neg a => exact zqR I F e
 | conv t a => exact znx I F e
 | b2s a => exact zqY I F e
 | mkfn f caps => exact zns I F e
 | slice st a lo hi mx => exact zjL I F e
 | sslice a lo hi => exact zgQ I F e
 | foff a off => exact znw I F e
 | field a off n => exact zjS I F e
 | ixs st a i => exact zqV I F e
 | ixarr len st a i => exact zjQ I F e
 | ixagg len st n a i => exact zjR I F e
 | ixstr a i => exact zjP I F e
 | extract a i => exact zeb I F e
 | lenS a => exact znu I F e
 | lenL a => exact znv I F e
 | minmax m a xs => exact zgR I F e
 | _ => rcases hq with h | ⟨y, h⟩ <;> cases h
def QOut (P : Program) {β : Type} (nt : Nat) (ops : Array Oper) (o : Oper) (ko : KOp) (N : Nm) (os : List PO) (r : Fr) (ρ : Nat → PA) (K : Option (Nat × Bool) → KT β) (x : β) : Prop :=
  ∃ ref a rd v, K ref a os [] rd = some x ∧ (∀ i, RepPA N (r i) (refine ρ ref i)) ∧ RepPA N v a ∧ (∀ call, yh P nt ops o call r N.h = some (v, N.h)) ∧
    (∀ xo, trk (refine ρ ref) ko = some xo → ∀ N' : Nm, (∀ t, xo = .tmp t → RepPA N' (r t) (refine ρ ref t)) → RepPA N' v a) ∧
    ((∀ call h2, ∃ h', yh P nt ops o call r h2 = some (v, h')) ∨ (∃ xo, memX ko = some xo ∧ ∃ b : BN, (∀ call h2, h2.t.get b = N.h.t.get b → ∃ h', yh P nt ops o call r h2 = some (v, h')) ∧
      ((∃ j, rd = [j] ∧ j < N.n ∧ blk (N.μ j) = some b ∧ held (og os j) ∧ ∀ N' : Nm, (∀ t, xo = .tmp t → RepPA N' (r t) (refine ρ ref t)) → j < N'.n) ∨
       (rd = [] ∧ ∀ N' : Nm, (∀ t, xo = .tmp t → RepPA N' (r t) (refine ρ ref t)) → N'.fz b ∧ ∃ y, N'.h.t.get b = some y))))
theorem zeG {r : Fr} {ρ : Nat → PA} {xo : Operand} {N' : Nm} (H : ∀ t, xo = Operand.tmp t → RepPA N' (r t) (ρ t)) {u : AVal} {pa : PA} (hu : kv r xo = some u) (hpa : pv ρ xo = some pa) : RepPA N' u pa := by
 cases xo with
 | tmp t => cases hu; cases hpa; exact H t rfl
 | const cv =>
  simp only [kv] at hu;simp only [pv] at hpa;cases hcv : cVal cv with
  | none => rw [hcv] at hu; cases hu
  | some sv =>
   rw [hcv] at hu hpa;cases hu;simp only at hpa;cases hps : pvS sv with
   | none => rw [hps] at hpa; cases hpa
   | some q => rw [hps] at hpa; cases hpa; exact .of (zjp hps)
 | func f => cases hu; cases hpa; exact vz (.fn_mk (.nil _ _))
 | global g => cases hpa
theorem zgC {β : Type} {nt : Nat} {ops : Array Oper} {o : Oper} {ρ : Nat → PA} {os : List PO} {N : Nm} {r : Fr} {K : Option (Nat × Bool) → KT β} {x : β} {sh : Sh} (I : InvO E N os) {ko : KOp} (hq : jk ko = true ∨ ∃ y, memX ko = some y)
  (ref : Option (Nat × Bool)) (F' : ∀ i, RepPA N (r i) (refine ρ ref i)) (run : ∀ call h, yh P nt ops o call r h = runK r ko call h) (e : pOp O (fun _ => true) sh (refine ρ ref) os ko (K ref) = some x) : QOut P nt ops o ko N os r ρ K x := by
 obtain ⟨v, a, rd, h1, h2, h3, h4, h5⟩ := zoK I F' hq e;refine ⟨ref, a, rd, v, h1, F', h3, fun call => (run call N.h).trans (h2 call), ?_, ?_⟩
 ·intro xo hxo N' H;have hk : ∃ u pa, kv r xo = some u ∧ pv (refine ρ ref) xo = some pa := by
   cases hp : pv (refine ρ ref) xo with
   | some pa => obtain ⟨u, hu, _⟩ := x4 F' hp; exact ⟨u, pa, hu, rfl⟩
   | none =>
    exfalso;have : ∀ y, trk (refine ρ ref) ko = some y → pv (refine ρ ref) y = none → False := by
     intro y hy hp;cases ko <;> simp only [trk] at hy <;> first | cases hy | skip
     all_goals first
      | (simp only [pOp, hp, w1, za] at e; cases e; done)
      | (split at hy <;> first | (cases hy; simp only [pOp, hp, w1] at e; cases e; done) | cases hy)
    exact this xo hxo hp
  obtain ⟨u, pa, hu, hpa⟩ := hk;exact h4 xo hxo N' u pa hu hpa (zeG H hu hpa)
 ·rcases hq with hs | ⟨y, hy⟩
  ·exact .inl fun call h2' => ⟨h2', by rw [run]; exact zlJ hs (h2 call)⟩
  ·obtain ⟨w, kw, hw⟩ := h5 y hy;have cr : ∀ N' : Nm, (∀ t, y = .tmp t → RepPA N' (r t) (refine ρ ref t)) → ∀ u pa, kv r y = some u → pv (refine ρ ref) y = some pa → RepPA N' u pa := fun N' H u pa hu hpa => zeG H hu hpa
   have loc : ∀ call h2', (∀ b, blk w = some b → h2'.t.get b = N.h.t.get b) → runK r ko call h2' = some (v, h2') := by
    intro call h2' H;have hr := h2 call;cases ko <;> simp only [memX] at hy <;> cases hy
    ·simp only [runK, kw, zC] at hr ⊢;exact zmy hr fun b off he => by cases he; exact H b rfl
    ·simp only [runK, kw, zC] at hr ⊢;exact zpZ hr fun b o' l' c' e' he => by cases he; exact H b rfl
   rcases hw with hw | ⟨b, hb, hsrc⟩
   ·exact .inl fun call h2' => ⟨h2', by rw [run]; exact loc call h2' fun b hb => by rw [hw] at hb; cases hb⟩
   ·refine .inr ⟨y, hy, b, fun call h2' hh => ⟨h2', by rw [run]; exact loc call h2' fun b' hb' => by rw [hb] at hb'; cases hb'; exact hh⟩, ?_⟩
    rcases hsrc with ⟨j, q1, q2, q3, q4, q5⟩ | ⟨q1, q2⟩
    ·exact .inl ⟨j, q1, q2, q3, q4, fun N' H => q5 N' (cr N' H)⟩
    ·exact .inr ⟨q1, fun N' H => q2 N' (cr N' H)⟩
theorem zd2 {β : Type} {nt : Nat} {ops : Array Oper} {o : Oper} {ρ : Nat → PA} {os : List PO} {N : Nm} {r : Fr} {K : Option (Nat × Bool) → KT β} {x : β} (I : InvO E N os) (F : ∀ i, RepPA N (r i) (ρ i))
  {ko : KOp} (hc : comp P o.op = some ko) (hq : jk ko = true ∨ ∃ y, memX ko = some y) (e : jh P O (fun _ => true) nt ops o ρ os K = some x) : QOut P nt ops o ko N os r ρ K x := by
 unfold jh at e;cases hT : inT nt o.dst with
 | false => rw [hT] at e; cases e
 | true =>
  rw [hT] at e;simp only [cond_true] at e;rw [hc] at e;simp only at e;cases hg : o.guard with
  | none =>
   rw [hg] at e;refine zgC I hq none F (fun call h => ?_) e
   unfold yh;rw [hT, hg];exact zb5 P r call h hc
  | some gb =>
   obtain ⟨j, b⟩ := gb;rw [hg] at e;simp only at e;cases hd : (ops[j]?).bind (·.dst) with
   | none => rw [hd] at e; cases e
   | some d =>
    rw [hd] at e;simp only at e;cases hb : Nat.ble (Nat.succ d) nt with
    | false => rw [hb] at e; cases e
    | true =>
     rw [hb] at e;simp only [cond_true] at e;have run : ∀ call h, yh P nt ops o call r h = bif zdH (r d) b then runK r ko call h else some (zX, h) := fun call h => by
      unfold yh;rw [hT, hg];simp only [cond_true];rw [hd];simp only;rw [hb];simp only [cond_true];rw [zb5 P r call h hc]
     split at e
     ·rename_i v hρ;have hrd := F d;rw [hρ] at hrd;have key : ∀ q, v = .bool q → (if q = b then pOp O (fun _ => true) (shOf P o.dst o.type) (refine ρ (some (d, q))) os ko (K (some (d, q))) else K (some (d, q)) .undef os [] []) = some x → QOut P nt ops o ko N os r ρ K x := fun q hq2 e2 => by
       subst hq2;have hr := z8 hrd (c := .bool q) rfl;have F' := zag F hr;by_cases hqb : q = b
       ·rw [if_pos hqb] at e2;refine zgC I hq (some (d, q)) F' (fun call h => ?_) e2
        rw [run, hr, hqb];simp only [zdH, beq_self_eq_true, cond_true]
       ·rw [if_neg hqb] at e2;have hr2 : ∀ call h, yh P nt ops o call r h = some (zX, h) := fun call h => by
         rw [run, hr];have : zdH (.s (.one (.bool q))) b = false := by
          cases q <;> cases b <;> first | rfl | exact absurd rfl hqb
         rw [this]; rfl
        exact ⟨some (d, q), .undef, [], zX, e2, F', rfl, fun call => hr2 call N.h, fun _ _ _ _ => rfl, .inl fun call h2 => ⟨h2, hr2 call h2⟩⟩
      cases b with
      | true =>
       obtain ⟨q, rfl, e⟩ := zep e;exact key q rfl (by cases q <;> exact e)
      | false =>
       obtain ⟨q, rfl, e⟩ := zep e;exact key q rfl (by cases q <;> exact e)
     ·rename_i hρ;have hrd : r d = zX := by
       have := F d;rw [hρ] at this;cases hh : r d with
       | s w => rw [hh] at this; exact this
       | tup l => rw [hh] at this; exact this
      have hr2 : ∀ call h, yh P nt ops o call r h = some (zX, h) := fun call h => by rw [run, hrd]; rfl
      exact ⟨none, .undef, [], zX, e, F, rfl, fun call => hr2 call N.h, fun _ _ _ _ => rfl, .inl fun call h2 => ⟨h2, hr2 call h2⟩⟩
     ·cases e
end
end Go.PE
end
section
namespace Go.PE
open Go Go.CE
abbrev CkE := (AHeap → Res) × AVal × Nat × Nat
abbrev Sn := Nm × List PO
def zlf (S : List Sn) (ps : List (Nat × Nat × List Nat)) (q : CkE) : Prop :=
 (∀ h, ∃ h', q.1 h = some (q.2.1, h')) ∨ Nat.beq q.2.2.1 q.2.2.2 = true ∨
  (∃ rd, (q.2.2.1, q.2.2.2, rd) ∈ ps ∧ ∃ (ne : Nat) (b : BN) (A Al : Sn), q.2.2.1 ≤ ne ∧ ne ≤ q.2.2.2 ∧ S[ne]? = some A ∧ S[q.2.2.1]? = some Al ∧ (∀ h2, h2.t.get b = A.1.h.t.get b → ∃ h', q.1 h2 = some (q.2.1, h')) ∧
   ((∃ j, rd = [j] ∧ j < Al.1.n ∧ blk (A.1.μ j) = some b ∧ held (og A.2 j)) ∨ (Al.1.fz b ∧ ∃ y, Al.1.h.t.get b = some y)))
def znb (E : En) (S : List Sn) (ws : List (List Nat)) : Prop := ∀ (e : Nat) (w : List Nat), ws[e]? = some w → ∀ A B, S[e]? = some A → S[e + 1]? = some B → InvO E A.1 A.2 ∧ Nx A.1 B.1 ∧ BkE A.1 A.2 B.1 w ∧ Ho A.1.n A.2 B.2 w
theorem zcA {run : AHeap → Res} {v : AVal} : ∀ {l : List AHeap}, (∀ h ∈ l, ∃ h', run h = some (v, h')) → zhZ run v l = true
 | [], _ => rfl
 | h :: l, H => by
  obtain ⟨h', e⟩ := H h (List.mem_cons_self ..);simp only [zhZ, e, zhm, Bool.true_and];exact zcA fun x hx => H x (List.mem_cons_of_mem _ hx)
theorem zfr {ws : List (List Nat)} {lo hi j : Nat} (h : okW ws lo hi [j] = true) {e : Nat} {w : List Nat} (h1 : lo ≤ e) (h2 : e < hi) (hw : ws[e]? = some w) : j ∉ w := by
 unfold okW at h;rw [List.all_eq_true] at h;have : ((ws.drop lo).take (hi - lo))[e - lo]? = some w := by
  rw [List.getElem?_take, if_pos (by omega), List.getElem?_drop, show lo + (e - lo) = e by omega, hw]
 have := h w (Lz3 this);simp only [List.all_cons, List.all_nil, Bool.and_true, Bool.not_eq_true'] at this;intro hm;rw [(kg j w).2 hm] at this;cases this
section
variable {E : En} {S : List Sn} {ws : List (List Nat)} (hl : S.length = ws.length + 1) (ch : znb E S ws)
include hl ch
theorem zae {e : Nat} {B : Sn} (eB : S[e + 1]? = some B) : ∃ A w, S[e]? = some A ∧ ws[e]? = some w ∧ InvO E A.1 A.2 ∧ Nx A.1 B.1 ∧ BkE A.1 A.2 B.1 w ∧ Ho A.1.n A.2 B.2 w := by
 have hlt := (Lz0.1 eB).1;obtain ⟨A, eA⟩ : ∃ A, S[e]? = some A := ⟨_, Lz5 (by omega)⟩
 obtain ⟨w, ew⟩ : ∃ w, ws[e]? = some w := ⟨_, Lz5 (by omega)⟩
 exact ⟨A, w, eA, ew, ch e w ew A B eA eB⟩
theorem xw {lo : Nat} {Al : Sn} (el : S[lo]? = some Al) : ∀ (d : Nat) (B : Sn), S[lo + d]? = some B → Nx Al.1 B.1
 | 0, B, e => by rw [Nat.add_zero, el] at e; cases e; exact .refl _
 | d + 1, B, e => by
  obtain ⟨A, w, eA, _, _, nx, _⟩ := zae hl ch (e := lo + d) e;exact (xw el d A eA).trans nx
theorem zeq {lo j : Nat} {Al : Sn} (el : S[lo]? = some Al) (hj : j < Al.1.n) : ∀ (d e : Nat) (A B : Sn), S[lo + e]? = some A → S[lo + e + d]? = some B → held (og B.2 j) → held (og A.2 j)
 | 0, e, A, B, eA, eB, h => by rw [Nat.add_zero, eA] at eB; cases eB; exact h
 | d + 1, e, A, B, eA, eB, h => by
  obtain ⟨B', w, eB', _, _, _, _, ho⟩ := zae hl ch (e := lo + e + d) eB;have hn := (xw hl ch el (e + d) B' (by rw [show lo + (e + d) = lo + e + d by omega]; exact eB')).le
  exact zeq el hj d e A B' eA eB' ((ho j (Lz9 hj hn)).1 h)
theorem zkA {lo hi j : Nat} {Al : Sn} (el : S[lo]? = some Al) (hj : j < Al.1.n) (hw : okW ws lo hi [j] = true) : ∀ (d e : Nat) (A B : Sn), lo + e + d ≤ hi → S[lo + e]? = some A → S[lo + e + d]? = some B → held (og A.2 j) → held (og B.2 j)
 | 0, e, A, B, _, eA, eB, h => by rw [Nat.add_zero, eA] at eB; cases eB; exact h
 | d + 1, e, A, B, hh, eA, eB, h => by
  obtain ⟨B', w, eB', ew, _, _, _, ho⟩ := zae hl ch (e := lo + e + d) eB;have hn := (xw hl ch el (e + d) B' (by rw [show lo + (e + d) = lo + e + d by omega]; exact eB')).le
  have := zkA el hj hw d e A B' (by omega) eA eB' h
  exact ((ho j (Lz9 hj hn)).2.1 this).elim id fun hm => absurd hm (zfr hw (by omega) (by omega) ew)
theorem j5 {lo hi ne j : Nat} {Al A : Sn} {b : BN} (el : S[lo]? = some Al) (en : S[ne]? = some A) (h1 : lo ≤ ne) (h2 : ne ≤ hi) (hj : j < Al.1.n) (hw : okW ws lo hi [j] = true) (hb : blk (A.1.μ j) = some b) (hh : held (og A.2 j)) :
  ∀ (d : Nat) (B : Sn), lo + d ≤ hi → S[lo + d]? = some B → B.1.h.t.get b = Al.1.h.t.get b
 | 0, B, _, e => by rw [Nat.add_zero, el] at e; cases e; rfl
 | d + 1, B, hd, e => by
  obtain ⟨A', w, eA', ew, I, nx, bk, ho⟩ := zae hl ch (e := lo + d) e;have ih := j5 el en h1 h2 hj hw hb hh d A' (by omega) eA'
  have nx1 := xw hl ch el d A' eA';have nx2 := xw hl ch el (ne - lo) A (by rw [show lo + (ne - lo) = ne by omega]; exact en)
  have hjA : j < A'.1.n := Lz9 hj nx1.le;have hbA : blk (A'.1.μ j) = some b := by rw [nx1.mu j hj, ← nx2.mu j hj]; exact hb
  have hA : held (og A'.2 j) := by
   by_cases hc : lo + d ≤ ne
   ·exact zeq hl ch el hj (ne - (lo + d)) d A' A eA' (by rw [show lo + d + (ne - (lo + d)) = ne by omega]; exact en) hh
   ·exact zkA hl ch el hj hw (lo + d - ne) (ne - lo) A A' (by omega) (by rw [show lo + (ne - lo) = ne by omega]; exact en) (by rw [show lo + (ne - lo) + (lo + d - ne) = lo + d by omega]; exact eA') hh
  obtain ⟨y, hy⟩ := za0 hA (I.obj j) hbA;rw [← ih, hy];refine bk b y hy fun k hk hkn hkl hkb => ?_
  have hjw := zfr hw (by omega) (by omega) ew
  obtain ⟨b', x', k1, k2, _⟩ := yw hkl (I.obj k);rw [hkb] at k1; cases k1;have hO := I.obj j;cases hoj : og A'.2 j with
  | box cs =>
   have := I.inj k j b hkl (by rw [hoj]; trivial) hkb hbA
   exact hjw (this ▸ hk)
  | arr st v =>
   cases v with
   | none => rw [hoj] at hA; exact hA
   | some xs =>
    have := I.inj k j b hkl (by rw [hoj]; trivial) hkb hbA
    exact hjw (this ▸ hk)
  | mp st xs =>
   have := I.inj k j b hkl (by rw [hoj]; trivial) hkb hbA
   exact hjw (this ▸ hk)
  | frz v =>
   rw [hoj] at hA hO;obtain ⟨st, xs, rfl⟩ := hA;obtain ⟨b2, o2, off2, cap2, ex2, cs2, q1, q2, _⟩ := Rep.lst_inv hO;rw [q1] at hbA;cases hbA;exact k2 q2
  | fbox ds =>
   rw [hoj] at hO;obtain ⟨b2, q1, q2⟩ := hO;rw [q1] at hbA;cases hbA;obtain ⟨b3, o3, base3, cs3, p1, p2, _⟩ := q2.fp_inv;cases p1;exact k2 p2
  | dead => rw [hoj] at hA; exact hA
theorem zeJ {ps : List (Nat × Nat × List Nat)} (hps : (ps.all fun p => okW ws p.1 p.2.1 p.2.2) = true) : ∀ {cs : List CkE}, (∀ q ∈ cs, zlf S ps q) → chkK (S.map fun x => x.1.h) cs = true
 | [], _ => rfl
 | (run, v, lo, hi) :: cs, Hc => by
  have ih := zeJ hps (cs := cs) fun q hq => Hc q (List.mem_cons_of_mem _ hq)
  simp only [chkK, ih, Bool.and_true];have mem : ∀ h ∈ ((S.map fun x => x.1.h).drop lo).take (Nat.sub (Nat.succ hi) lo), ∃ d B, lo + d ≤ hi ∧ S[lo + d]? = some B ∧ h = B.1.h := fun h hh => by
   obtain ⟨i, hi'⟩ := List.getElem?_of_mem hh;rw [List.getElem?_take] at hi';split at hi'
   ·rename_i hlt;rw [List.getElem?_drop, Lz6, Option.map_eq_some_iff] at hi';obtain ⟨B, hB, rfl⟩ := hi';have : i < hi + 1 - lo := hlt;exact ⟨i, B, by omega, hB, rfl⟩
   ·cases hi'
  rcases Hc _ (List.mem_cons_self ..) with h | h | ⟨rd, hp, ne, b, A, Al, h1, h2, h3, h4, h6, h7⟩
  ·rw [zcA fun x _ => h x, Bool.or_true]
  ·rw [show Nat.beq lo hi = true from h, Bool.true_or]
  ·rw [List.all_eq_true] at hps;have hwin := hps _ hp;simp only at hwin h1 h2 h4 h6;rw [zcA fun x hx => ?_, Bool.or_true]
   obtain ⟨d, B, hd1, hd2, rfl⟩ := mem x hx;refine h6 _ ?_;rcases h7 with ⟨j, rfl, q1, q2, q3⟩ | ⟨q1, y, q2⟩
   ·have e1 := j5 hl ch h4 h3 h1 h2 q1 hwin q2 q3 (ne - lo) A (by omega) (by rw [show lo + (ne - lo) = ne by omega]; exact h3)
    have e2 := j5 hl ch h4 h3 h1 h2 q1 hwin q2 q3 d B hd1 hd2;rw [e1, e2]
   ·have e1 := (xw hl ch h4 (ne - lo) A (by rw [show lo + (ne - lo) = ne by omega]; exact h3)).fg.old b y q1 q2
    have e2 := (xw hl ch h4 d B hd2).fg.old b y q1 q2;rw [e1, e2]
end
section
variable {P : Program} {O : Orc} {C : Nat → zh} {E : En}
theorem zji {N : Nm} {r : Fr} {ρ : Nat → PA} (F : ∀ i, RepPA N (r i) (ρ i)) (l : List Nat) : ∀ i, RepPA N (zK r l i) (zN ρ l i) := fun i => by
 unfold zK zN;cases memB i l with
 | true => exact F i
 | false => exact .bad _
theorem zgB {N : Nm} {r : Fr} {ρ : Nat → PA} {l : List Nat} {d : Nat} {b : Bool} (F1 : ∀ i, RepPA N (zK r l i) (refine (zN ρ l) (some (d, b)) i)) : r d = .s (.one (.bool b)) := by
 have := F1 d;rw [show refine (zN ρ l) (some (d, b)) d = pd (.bool b) by show (bif Nat.beq d d then _ else _) = _; rw [Nat.beq_refl]; rfl] at this
 have h := z8 this (c := .bool b) rfl;unfold zK at h;cases hm : memB d l with
 | true => rw [hm] at h; exact h
 | false => rw [hm] at h; cases h
theorem zdV {N : Nm} {r : Fr} {ρ : Nat → PA} {l : List Nat} {ref : Option (Nat × Bool)} (F : ∀ i, RepPA N (r i) (ρ i)) (F1 : ∀ i, RepPA N (zK r l i) (refine (zN ρ l) ref i)) : ∀ i, RepPA N (r i) (refine ρ ref i) := by
 cases ref with
 | none => exact F
 | some db =>
  obtain ⟨d, b⟩ := db;exact zag F (zgB F1)
theorem jC {N N' : Nm} {r : Fr} {ρ : Nat → PA} {l : List Nat} {ref : Option (Nat × Bool)} (F1 : ∀ i, RepPA N (zK r l i) (refine (zN ρ l) ref i)) {i : Nat} (H : RepPA N' (r i) (ρ i)) : RepPA N' (r i) (refine ρ ref i) := by
 cases ref with
 | none => exact H
 | some db =>
  obtain ⟨d, b⟩ := db;show RepPA N' (r i) (bif Nat.beq i d then pd (.bool b) else ρ i)
  cases hb : Nat.beq i d with
  | false => exact H
  | true =>
   have := Lz1 hb;subst this;rw [zgB F1];exact yB rfl
theorem jY {N N' : Nm} {r : Fr} {ρ : Nat → PA} {l : List Nat} {ref : Option (Nat × Bool)} (F1 : ∀ i, RepPA N (zK r l i) (refine (zN ρ l) ref i)) {i : Nat} (H : RepPA N' (r i) (ρ i)) : RepPA N' (zK r l i) (refine (zN ρ l) ref i) := by
 have h := jC F1 H;cases hm : memB i l with
 | true =>
  have e1 : refine (zN ρ l) ref i = refine ρ ref i := by
   cases ref with
   | none => show zN ρ l i = ρ i; unfold zN; rw [hm]; rfl
   | some db =>
    show (bif Nat.beq i db.1 then pd (.bool db.2) else zN ρ l i) = (bif Nat.beq i db.1 then pd (.bool db.2) else ρ i)
    unfold zN; rw [hm]; rfl
  have e2 : zK r l i = r i := by unfold zK; rw [hm]; rfl
  rw [e1, e2]; exact h
 | false =>
  have e2 : zK r l i = zX := by unfold zK; rw [hm]; rfl
  have F1i := F1 i;rw [e2] at F1i ⊢;cases ref with
  | none =>
   have : refine (zN ρ l) none i = .bad := by show zN ρ l i = .bad; unfold zN; rw [hm]; rfl
   rw [this]; exact .bad _
  | some db =>
   have : refine (zN ρ l) (some db) i = (bif Nat.beq i db.1 then pd (.bool db.2) else .bad) := by
    show (bif Nat.beq i db.1 then pd (.bool db.2) else zN ρ l i) = _
    unfold zN; rw [hm]; rfl
   rw [this] at F1i ⊢;cases hb : Nat.beq i db.1 with
   | false => exact .bad _
   | true => rw [hb] at F1i; exact F1i.elim
theorem zjC (hO : jj O C) {β γ : Type} {Q : γ → Prop} {lk : Nat → Bool} {nt : Nat} {ops : Array Oper} {bs : List Nat} {es : List Bool} {x : β} {K : (Nat → PA) → List PO → Option β} {kk : Nat → Fr → AHeap → Option γ} :
    ∀ (l : List Oper) (i : Nat) (ρ : Nat → PA) (os : List PO) (N : Nm) (r : Fr) (bo : Nat → Nat) (ws : List (List Nat)) (ps : List (Nat × Nat × List Nat)) (S : List Sn) (cs : Nat → List CkE),
    pDr P O lk nt ops bs es i l ρ os bo ws ps K = some x → InvO E N os → (∀ i, RepPA N (r i) (ρ i)) → (∀ j, lk j = true → j < os.length) →
    S.length = ws.length → znb E (S ++ [(N, os)]) ws → (∀ s, bo s ≤ ws.length ∧ ∀ A : Sn, (S ++ [(N, os)])[bo s]? = some A → RepPA A.1 (r s) (ρ s)) → (∀ n, ∀ q ∈ cs n, zlf (S ++ [(N, os)]) ps q) →
    (∀ ρ' os' N' r', K ρ' os' = some x → InvO E N' os' → (∀ i, RepPA N' (r' i) (ρ' i)) → Nx N N' → (∀ j, lk j = true → og os' j = og os j) → (∀ i, i ∉ l.filterMap (·.dst) → r' i = r i) → Ev (fun n => kk n r' N'.h) Q) →
    Ev (fun n => kDr P nt ops (C n) bs es i l r N.h (S.map fun x => x.1.h) (cs n) (kk n)) Q
  | [], i, ρ, os, N, r, bo, ws, ps, S, cs, e, I, F, hlk, hl, ch, sl, pe, H => by
    simp only [pDr] at e;cases hps : (ps.all fun p => okW ws p.1 p.2.1 p.2.2) with
    | false => rw [hps] at e; cases e
    | true =>
      rw [hps] at e;have run : ∀ n, kDr P nt ops (C n) bs es i [] r N.h (S.map fun x => x.1.h) (cs n) (kk n) = kk n r N.h := fun n => by
        simp only [kDr];have := zeJ (S := S ++ [(N, os)]) (by simp [hl]) ch hps (pe n)
        rw [List.map_append, List.map_cons, List.map_nil] at this;rw [this, cond_true]
      simp only [run];exact H ρ os N r e I F (.refl N) (fun _ _ => rfl) (fun _ _ => rfl)
  | o :: l, i, ρ, os, N, r, bo, ws, ps, S, cs, e, I, F, hlk, hl, ch, sl, pe, H => by
    have step : (fun n => kDr P nt ops (C n) bs es i (o :: l) r N.h (S.map fun x => x.1.h) (cs n) (kk n)) = fun n => CE.bindR (yh P nt ops o (C n) (zK r (o.looksAt ops)) N.h) fun v h' =>
        bif yq P o.op then kDr P nt ops (C n) bs es (Nat.succ i) l (fset r v o.dst) N.h (S.map fun x => x.1.h) (cs n ++ [(yh P nt ops o (C n) (zK r (o.looksAt ops)), v, ce (fun j => bef bs j i) 0 es, ce (fun j => !bef bs i j) 0 es)]) (kk n)
        else kDr P nt ops (C n) bs es (Nat.succ i) l (fset r v o.dst) h' ((S.map fun x => x.1.h) ++ [N.h]) (cs n) (kk n) := by
      funext n; exact zg4 ops (C n) bs es i o l r N.h _ (cs n) (kk n)
    rw [step];have agree : ∀ (r2 : Fr) (v : AVal), (∀ i, i ∉ l.filterMap (·.dst) → r2 i = fset r v o.dst i) → ∀ i, i ∉ (o :: l).filterMap (·.dst) → r2 i = r i := fun r2 v hr i hi => by
      simp only [List.filterMap_cons] at hi;rw [hr i (fun hm => hi (by cases o.dst <;> simp [hm]))]
      exact xF (fun hd => hi (by rw [hd]; simp))
    have FR := zji F (o.looksAt ops);simp only [pDr] at e;cases hq : yq P o.op with
    | true =>
      rw [hq] at e;simp only [cond_true] at e ⊢;cases hc : comp P o.op with
      | none => rw [hc] at e; cases e
      | some ko =>
        rw [hc] at e;simp only at e;have go : ∀ (nb : Option (Nat × Bool) → Nat) (ps' : List Nat → List (Nat × Nat × List Nat)) (hk : jk ko = true ∨ ∃ y, memX ko = some y), (∀ ref, nb ref ≤ ws.length) → (∀ rd, ∀ p ∈ ps, p ∈ ps' rd) →
            (∀ ref, (∀ i, RepPA N (zK r (o.looksAt ops) i) (refine (zN ρ (o.looksAt ops)) ref i)) → ∀ v a, RepPA N v a → (∀ xo, trk (refine (zN ρ (o.looksAt ops)) ref) ko = some xo → ∀ N' : Nm, (∀ t, xo = .tmp t → RepPA N' (zK r (o.looksAt ops) t) (refine (zN ρ (o.looksAt ops)) ref t)) → RepPA N' v a) → ∀ A : Sn, (S ++ [(N, os)])[nb ref]? = some A → RepPA A.1 v a) →
            (∀ ref, (∀ i, RepPA N (zK r (o.looksAt ops) i) (refine (zN ρ (o.looksAt ops)) ref i)) → ∀ v rd n, ((∀ call h2, ∃ h', yh P nt ops o call (zK r (o.looksAt ops)) h2 = some (v, h')) ∨ (∃ xo, memX ko = some xo ∧ ∃ b : BN, (∀ call h2, h2.t.get b = N.h.t.get b → ∃ h', yh P nt ops o call (zK r (o.looksAt ops)) h2 = some (v, h')) ∧
                ((∃ j, rd = [j] ∧ j < N.n ∧ blk (N.μ j) = some b ∧ held (og os j) ∧ ∀ N' : Nm, (∀ t, xo = .tmp t → RepPA N' (zK r (o.looksAt ops) t) (refine (zN ρ (o.looksAt ops)) ref t)) → j < N'.n) ∨
                 (rd = [] ∧ ∀ N' : Nm, (∀ t, xo = .tmp t → RepPA N' (zK r (o.looksAt ops) t) (refine (zN ρ (o.looksAt ops)) ref t)) → N'.fz b ∧ ∃ y, N'.h.t.get b = some y)))) →
              zlf (S ++ [(N, os)]) (ps' rd) (yh P nt ops o (C n) (zK r (o.looksAt ops)), v, ce (fun j => bef bs j i) 0 es, ce (fun j => !bef bs i j) 0 es)) →
            (jh P O (fun _ => true) nt ops o (zN ρ (o.looksAt ops)) os fun ref a _ _ rd => pDr P O lk nt ops bs es (Nat.succ i) l (pset (refine ρ ref) a o.dst) os (bset bo (nb ref) o.dst) ws (ps' rd) K) = some x →
            Ev (fun n => CE.bindR (yh P nt ops o (C n) (zK r (o.looksAt ops)) N.h) fun v h' => kDr P nt ops (C n) bs es (Nat.succ i) l (fset r v o.dst) N.h (S.map fun x => x.1.h) (cs n ++ [(yh P nt ops o (C n) (zK r (o.looksAt ops)), v, ce (fun j => bef bs j i) 0 es, ce (fun j => !bef bs i j) 0 es)]) (kk n)) Q := by
          intro nb ps' hk hnb hps hxb hpe e;obtain ⟨ref, a, rd, v, e1, F1, rv, run, tr, pend⟩ := zd2 I FR hc hk e;have : (fun n => CE.bindR (yh P nt ops o (C n) (zK r (o.looksAt ops)) N.h) fun v h' => kDr P nt ops (C n) bs es (Nat.succ i) l (fset r v o.dst) N.h (S.map fun x => x.1.h) (cs n ++ [(yh P nt ops o (C n) (zK r (o.looksAt ops)), v, ce (fun j => bef bs j i) 0 es, ce (fun j => !bef bs i j) 0 es)]) (kk n)) =
              fun n => kDr P nt ops (C n) bs es (Nat.succ i) l (fset r v o.dst) N.h (S.map fun x => x.1.h) (cs n ++ [(yh P nt ops o (C n) (zK r (o.looksAt ops)), v, ce (fun j => bef bs j i) 0 es, ce (fun j => !bef bs i j) 0 es)]) (kk n) := by
            funext n; rw [run]; rfl
          rw [this];refine zjC hO l (Nat.succ i) _ os N (fset r v o.dst) _ ws (ps' rd) S _ e1 I (zbt (zdV F F1) rv o.dst) hlk hl ch (fun s => ?_) (fun n q hqm => ?_) fun ρ2 os2 N2 r2 k1 k2 k3 k4 k5 k6 => H ρ2 os2 N2 r2 k1 k2 k3 k4 k5 (agree r2 v k6)
          · have old : bo s ≤ ws.length ∧ ∀ A : Sn, (S ++ [(N, os)])[bo s]? = some A → RepPA A.1 (r s) (refine ρ ref s) := ⟨(sl s).1, fun A hh => jC F1 ((sl s).2 A hh)⟩
            cases hd : o.dst with
            | none => exact old
            | some d =>
              show (bif Nat.beq s d then nb ref else bo s) ≤ ws.length ∧ ∀ A : Sn, (S ++ [(N, os)])[bif Nat.beq s d then nb ref else bo s]? = some A → RepPA A.1 (bif Nat.beq s d then v else r s) (bif Nat.beq s d then a else refine ρ ref s)
              cases Nat.beq s d with
              | false => exact old
              | true => exact ⟨hnb ref, hxb ref F1 v a rv tr⟩
          · rcases List.mem_append.1 hqm with h | h
            · rcases pe n q h with g | g | ⟨rd', g1, g2⟩
              · exact .inl g
              · exact .inr (.inl g)
              · exact .inr (.inr ⟨rd', hps rd _ g1, g2⟩)
            · rw [List.mem_singleton] at h
              subst h;exact hpe ref F1 v rd n pend
        have here : ∀ v a, RepPA N v a → ∀ A : Sn, (S ++ [(N, os)])[ws.length]? = some A → RepPA A.1 v a := fun v a rv A hh => by
          rw [← hl, List.getElem?_concat_length] at hh;cases hh;exact rv
        cases hst : jk ko with
        | true =>
          rw [hst] at e;simp only [cond_true] at e;refine go (fun ref => match trk (refine (zN ρ (o.looksAt ops)) ref) ko with | some x => bOf bo x | none => ws.length) (fun _ => ps) (.inl hst) ?_ (fun _ p hp => hp) ?_ ?_ e
          · intro ref
            cases htk : trk (refine (zN ρ (o.looksAt ops)) ref) ko with
            | none => exact LzB _
            | some y =>
              cases y with
              | tmp t => exact (sl t).1
              | _ => exact Nat.zero_le _
          · intro ref F1 v a rv tr A hh
            cases htk : trk (refine (zN ρ (o.looksAt ops)) ref) ko with
            | none => simp only [htk] at hh; exact here v a rv A hh
            | some y =>
              simp only [htk] at hh;refine tr y htk _ fun t ht => ?_
              subst ht;exact jY F1 ((sl t).2 A hh)
          · intro ref F1 v rd n pend
            rcases pend with g | ⟨xo, g, _⟩
            · exact .inl fun h => g (C n) h
            · exfalso
              cases ko <;> first | exact Bool.noConfusion hst | (simp only [memX] at g; cases g)
        | false =>
          rw [hst] at e;simp only [cond_false] at e;cases hm : memX ko with
          | none => rw [hm] at e; cases e
          | some y =>
            rw [hm] at e;simp only at e;cases hb : Nat.beq (ce (fun j => bef bs j i) 0 es) (ce (fun j => !bef bs i j) 0 es) with
            | true =>
              rw [hb] at e;exact go (fun _ => ws.length) (fun _ => ps) (.inr ⟨y, hm⟩) (fun _ => LzB _) (fun _ p hp => hp) (fun ref F1 v a rv tr A hh => here v a rv A hh) (fun ref F1 v rd n pend => .inr (.inl hb)) e
            | false =>
              rw [hb] at e;simp only [cond_false] at e;cases hw : (Nat.ble (bOf bo y) (ce (fun j => bef bs j i) 0 es) && Nat.ble (ce (fun j => bef bs j i) 0 es) ws.length && Nat.ble ws.length (ce (fun j => !bef bs i j) 0 es)) with
              | false => rw [hw] at e; cases e
              | true =>
                rw [hw] at e;simp only [LzC] at hw;obtain ⟨⟨w1, w2⟩, w3⟩ := hw;have w1 := Lz4 w1;have w2 := Lz4 w2;have w3 := Lz4 w3;refine go (fun _ => ws.length) (fun rd => ps ++ [(ce (fun j => bef bs j i) 0 es, ce (fun j => !bef bs i j) 0 es, rd)]) (.inr ⟨y, hm⟩) (fun _ => LzB _) (fun _ p hp => List.mem_append_left _ hp) (fun ref F1 v a rv tr A hh => here v a rv A hh) (fun ref F1 v rd n pend => ?_) e
                rcases pend with g | ⟨xo, g, b, g2, g1⟩
                · exact .inl fun h => g (C n) h
                · rw [hm] at g
                  cases g;obtain ⟨Al, elo⟩ : ∃ A : Sn, (S ++ [(N, os)])[ce (fun j => bef bs j i) 0 es]? = some A := ⟨_, Lz5 (by simp [hl]; omega)⟩
                  have hrel : ∀ t, y = .tmp t → RepPA Al.1 (zK r (o.looksAt ops) t) (refine (zN ρ (o.looksAt ops)) ref t) := fun t ht => by
                    subst ht;refine jY F1 ?_;obtain ⟨Ab, eb0⟩ : ∃ A : Sn, (S ++ [(N, os)])[bo t]? = some A := ⟨_, Lz5 (by have := (sl t).1; simp [hl]; omega)⟩
                    have hle : bo t ≤ ce (fun j => bef bs j i) 0 es := w1
                    exact ((sl t).2 Ab eb0).mono (xw (by simp [hl]) ch eb0 (ce (fun j => bef bs j i) 0 es - bo t) Al (by rw [show bo t + (ce (fun j => bef bs j i) 0 es - bo t) = ce (fun j => bef bs j i) 0 es by omega]; exact elo))
                  refine .inr (.inr ⟨rd, List.mem_append_right _ (List.mem_singleton_self _), ws.length, b, (N, os), Al, w2, w3, by rw [← hl]; exact List.getElem?_concat_length, elo, fun h2 hh => g2 (C n) h2 hh, ?_⟩)
                  rcases g1 with ⟨j, q1, q2, q3, q4, q5⟩ | ⟨q1, q2⟩
                  · exact .inl ⟨j, q1, q5 Al.1 hrel, q3, q4⟩
                  · exact .inr (q2 Al.1 hrel)
    | false =>
      rw [hq] at e;simp only [cond_false] at e ⊢;obtain ⟨ref, a, os', wr, rd, e1, F1, ev⟩ := zcO hO I FR hlk e;refine Ev.bindR (ev.mono ?_)
      rintro ⟨v, h'⟩ ⟨N', hh, Sm⟩
      simp only at hh Sm ⊢;subst hh;have F2 := zdV F F1;have hlen2 : (S ++ [(N, os)]).length = (ws ++ [wr]).length := by simp [hl]
      have hmap : (S.map fun x => x.1.h) ++ [N.h] = (S ++ [(N, os)]).map fun x => x.1.h := by simp
      rw [hmap];refine zjC hO l (Nat.succ i) _ os' N' (fset r v o.dst) _ (ws ++ [wr]) ps (S ++ [(N, os)]) cs e1 Sm.inv (zbt (fun i => (F2 i).mono Sm.nx) Sm.val o.dst) (fun j hj => ?_) hlen2 ?_ (fun s => ?_) (fun n q hqm => ?_) fun ρ2 os2 N2 r2 k1 k2 k3 k4 k5 k6 =>
        H ρ2 os2 N2 r2 k1 k2 k3 (Sm.nx.trans k4) (fun j hj => (k5 j hj).trans (Sm.lock j hj)) (agree r2 v k6)
      · have h1 := Sm.nx.le
        rw [Sm.inv.len, I.len] at h1;exact Lz9 (hlk j hj) h1
      · intro e w hw A B a1 a2
        by_cases he : e < ws.length
        · rw [Lz2 he] at hw
          rw [Lz2 (by simp [hl]; omega)] at a1
          rw [Lz2 (by simp [hl]; omega)] at a2
          exact ch e w hw A B a1 a2
        · have he2 : e = ws.length := by
            have := (Lz0.1 hw).1;simp at this; omega
          subst he2;rw [List.getElem?_concat_length] at hw;cases hw;rw [← hl] at a1 a2;rw [Lz2 (by simp), List.getElem?_concat_length] at a1
          cases a1;rw [show S.length + 1 = (S ++ [(N, os)]).length by simp, List.getElem?_concat_length] at a2
          cases a2;exact ⟨I, Sm.nx, Sm.fr.ex I.hw, Sm.ho⟩
      · have old : bo s ≤ (ws ++ [wr]).length ∧ ∀ A : Sn, (S ++ [(N, os)] ++ [(N', os')])[bo s]? = some A → RepPA A.1 (r s) (refine ρ ref s) :=
          ⟨by have := (sl s).1; simp; omega, fun A hh => jC F1 ((sl s).2 A (by rwa [Lz2 (by have := (sl s).1; simp [hl]; omega)] at hh))⟩
        cases hd : o.dst with
        | none => exact old
        | some d =>
          show (bif Nat.beq s d then Nat.succ ws.length else bo s) ≤ (ws ++ [wr]).length ∧ ∀ A : Sn, (S ++ [(N, os)] ++ [(N', os')])[bif Nat.beq s d then Nat.succ ws.length else bo s]? = some A → RepPA A.1 (bif Nat.beq s d then v else r s) (bif Nat.beq s d then a else refine ρ ref s)
          cases Nat.beq s d with
          | false => exact old
          | true =>
            refine ⟨by simp, fun A hh => ?_⟩
            simp only [cond_true] at hh ⊢;rw [show Nat.succ ws.length = (S ++ [(N, os)]).length by simp [hl], List.getElem?_concat_length] at hh
            cases hh;exact Sm.val
      · rcases pe n q hqm with g | g | ⟨rd', g1, ne, b, A, Al, a1, a2, a3, a4, a5⟩
        · exact .inl g
        · exact .inr (.inl g)
        · refine .inr (.inr ⟨rd', g1, ne, b, A, Al, a1, a2, ?_, ?_, a5⟩)
          · rw [Lz2 (Lz0.1 a3).1]; exact a3
          · rw [Lz2 (Lz0.1 a4).1]; exact a4
end
end Go.PE
end
section
namespace Go.PE
open Go Go.CE
theorem zmX {n0 : Nat} (l : List Nat) (t : Tr AObj) (b : BN) : (b ∈ l.map (nm n0) → (delH n0 l t).get b = none) ∧ (b ∉ l.map (nm n0) → (delH n0 l t).get b = t.get b) := by
 constructor
 ·intro h;obtain ⟨j, hj, rfl⟩ := List.mem_map.1 h;exact zbb l t j hj
 ·intro h;exact wX l t b fun j hj e => h (List.mem_map.2 ⟨j, hj, e.symm⟩)
theorem qo {n0 : Nat} {h : Tr AObj} : ∀ (l : List Nat) (t : Tr AObj), l.Nodup → (∀ j ∈ l, t.get (nm n0 j) = none) → ∃ t', zdB n0 h l t = some t'
 | [], t, _, _ => ⟨t, rfl⟩
 | j :: l, t, hd, hn => by
  unfold zdB;have h0 := hn j (List.mem_cons_self ..);rw [show t.get (bn (Nat.add n0 j)) = none from h0]
  simp only;have hnd := List.nodup_cons.1 hd;cases ho : h.get (bn (Nat.add n0 j)) with
  | none => exact qo l t hnd.2 fun i hi => hn i (List.mem_cons_of_mem _ hi)
  | some o =>
   refine qo l _ hnd.2 fun i hi => ?_
   rw [zn _ _ _ _ (fun e => hnd.1 (by have := wU (n0 := n0) (i := i) (j := j) e; rw [← this]; exact hi))]
   exact hn i (List.mem_cons_of_mem _ hi)
theorem zmH {bs : List Nat} {i : Nat} : ∀ (os : List Oper) (off j : Nat), j ∈ yv bs i off os → off ≤ j := fun os off j h => by
 obtain ⟨m, _, _, h2, _⟩ := (wN os off j).1 h;omega
theorem zaZ {bs : List Nat} {i : Nat} : ∀ (os : List Oper) (off : Nat), (yv bs i off os).Nodup
 | [], _ => List.nodup_nil
 | o :: os, off => by
  unfold yv;have ih := zaZ (bs := bs) (i := i) os (Nat.succ off);cases (mkOp o.op && bef bs off i) with
  | true => exact ih
  | false => exact List.nodup_cons.2 ⟨fun h => by have := zmH _ _ _ h; omega, ih⟩
def uo (bs : List Nat) (i : Nat) : List (Nat × Nat) → List PO → List PO
 | [], os => os
 | (j, k) :: mk, os => bif bef bs j i then uo bs i mk os else oset .dead (uo bs i mk os) k
def wk (bs : List Nat) (i : Nat) (os0 : List PO) : List (Nat × Nat) → List PO → List PO
 | [], os => os
 | (j, k) :: mk, os => bif bef bs j i then wk bs i os0 mk os else oset (og os0 k) (wk bs i os0 mk os) k
def isLive : PO → Bool
 | .box _ => true
 | .arr _ (some _) => true
 | .mp _ _ => true
 | _ => false
def jP (mk : List (Nat × Nat)) (os : List PO) : Bool := mk.all fun p => isLive (og os p.2)
theorem zen {o : PO} (h : isLive o = true) : live o := by
 cases o with
 | box _ => trivial
 | arr _ v => cases v with
  | none => cases h
  | some _ => trivial
 | mp _ _ => trivial
 | _ => cases h
def Hid (bs : List Nat) (i : Nat) (mk : List (Nat × Nat)) (k : Nat) : Prop := ∃ j, (j, k) ∈ mk ∧ bef bs j i = false
theorem vF {bs : List Nat} {i : Nat} : ∀ (mk : List (Nat × Nat)) (os : List PO), (uo bs i mk os).length = os.length
 | [], _ => rfl
 | (j, k) :: mk, os => by
  unfold uo;cases bef bs j i with
  | true => exact vF mk os
  | false => exact (yE _ _ _).trans (vF mk os)
theorem uY {bs : List Nat} {i : Nat} {os0 : List PO} : ∀ (mk : List (Nat × Nat)) (os : List PO), (wk bs i os0 mk os).length = os.length
 | [], _ => rfl
 | (j, k) :: mk, os => by
  unfold wk;cases bef bs j i with
  | true => exact uY mk os
  | false => exact (yE _ _ _).trans (uY mk os)
theorem zsV {os : List PO} {k : Nat} (h : os.length ≤ k) : og os k = .dead := by
 rw [zcV, List.getElem?_eq_none h]; rfl
theorem xd {bs : List Nat} {i : Nat} (k : Nat) : ∀ (mk : List (Nat × Nat)) (os : List PO), (Hid bs i mk k → og (uo bs i mk os) k = .dead) ∧ (¬ Hid bs i mk k → og (uo bs i mk os) k = og os k)
 | [], _ => ⟨fun ⟨_, h, _⟩ => (by cases h), fun _ => rfl⟩
 | (j, k') :: mk, os => by
  obtain ⟨ih1, ih2⟩ := xd (bs := bs) (i := i) k mk os;unfold uo;have up : Hid bs i mk k → Hid bs i ((j, k') :: mk) k := fun ⟨a, b, c⟩ => ⟨a, List.mem_cons_of_mem _ b, c⟩
  cases hb : bef bs j i with
  | true =>
   simp only [cond_true];refine ⟨fun hx => ?_, fun h => ih2 fun g => h (up g)⟩
   obtain ⟨a, h1, h2⟩ := hx;rcases List.mem_cons.1 h1 with h1 | h1
   ·cases h1; rw [hb] at h2; cases h2
   ·exact ih1 ⟨a, h1, h2⟩
  | false =>
   simp only [cond_false];rw [yu, vF];by_cases hk : k = k'
   ·subst hk;refine ⟨fun _ => ?_, fun h => absurd ⟨j, List.mem_cons_self .., hb⟩ h⟩
    by_cases hl : k < os.length
    ·rw [if_pos ⟨rfl, hl⟩]
    ·rw [if_neg (fun e => hl e.2)]; exact zsV (by rw [vF]; omega)
   ·rw [if_neg (fun e => hk e.1)]
    refine ⟨fun hx => ?_, fun h => ih2 fun g => h (up g)⟩
    obtain ⟨a, h1, h2⟩ := hx;rcases List.mem_cons.1 h1 with h1 | h1
    ·cases h1; exact absurd rfl hk
    ·exact ih1 ⟨a, h1, h2⟩
theorem xP {bs : List Nat} {i : Nat} {os0 : List PO} (k : Nat) : ∀ (mk : List (Nat × Nat)) (os : List PO), (∀ p ∈ mk, p.2 < os.length) → (Hid bs i mk k → og (wk bs i os0 mk os) k = og os0 k) ∧ (¬ Hid bs i mk k → og (wk bs i os0 mk os) k = og os k)
 | [], _, _ => ⟨fun ⟨_, h, _⟩ => (by cases h), fun _ => rfl⟩
 | (j, k') :: mk, os, hr => by
  obtain ⟨ih1, ih2⟩ := xP (bs := bs) (i := i) (os0 := os0) k mk os fun p hp => hr p (List.mem_cons_of_mem _ hp)
  unfold wk;have up : Hid bs i mk k → Hid bs i ((j, k') :: mk) k := fun ⟨a, b, c⟩ => ⟨a, List.mem_cons_of_mem _ b, c⟩
  cases hb : bef bs j i with
  | true =>
   simp only [cond_true];refine ⟨fun hx => ?_, fun h => ih2 fun g => h (up g)⟩
   obtain ⟨a, h1, h2⟩ := hx;rcases List.mem_cons.1 h1 with h1 | h1
   ·cases h1; rw [hb] at h2; cases h2
   ·exact ih1 ⟨a, h1, h2⟩
  | false =>
   simp only [cond_false];rw [yu, uY];by_cases hk : k = k'
   ·subst hk;refine ⟨fun _ => by rw [if_pos ⟨rfl, hr (j, k) (List.mem_cons_self ..)⟩], fun h => absurd ⟨j, List.mem_cons_self .., hb⟩ h⟩
   ·rw [if_neg (fun e => hk e.1)]
    refine ⟨fun hx => ?_, fun h => ih2 fun g => h (up g)⟩
    obtain ⟨a, h1, h2⟩ := hx;rcases List.mem_cons.1 h1 with h1 | h1
    ·cases h1; exact absurd rfl hk
    ·exact ih1 ⟨a, h1, h2⟩
structure MkOk (E : En) (n0 len i : Nat) (mk : List (Nat × Nat)) (N : Nm) (os : List PO) : Prop where
 e0 : E.h0.n.toNat ≤ n0
 top : n0 + len ≤ N.h.n.toNat
 mks : ∀ p ∈ mk, p.1 < i ∧ p.1 < len ∧ p.2 < N.n ∧ live (og os p.2) ∧ blk (N.μ p.2) = some (nm n0 p.1)
 free : ∀ j, j < len → i ≤ j → N.h.t.get (nm n0 j) = none
 all : ∀ j y, j < len → N.h.t.get (nm n0 j) = some y → ∃ k, (j, k) ∈ mk
section
variable {E : En} {N : Nm} {os : List PO} {n0 len i : Nat} {mk : List (Nat × Nat)}
theorem MkOk.nfz (M : MkOk E n0 len i mk N os) (I : InvO E N os) {j : Nat} (hj : j < len) : ¬ N.fz (nm n0 j) := fun hf => by
 rcases I.fzex _ hf with h | ⟨y, hy⟩
 ·rw [yl] at h; have := M.e0; omega
 ·obtain ⟨k, hk⟩ := M.all j y hj hy;obtain ⟨_, _, _, h3, h4⟩ := M.mks _ hk;obtain ⟨b, x, g1, g2, _⟩ := yw h3 (I.obj k);rw [h4] at g1; cases g1;exact g2 hf
structure HdOk (bs : List Nat) (i len : Nat) (mk : List (Nat × Nat)) (H : List Nat) : Prop where
 nd : H.Nodup
 lt : ∀ j ∈ H, j < len
 hid : ∀ j k, (j, k) ∈ mk → (j ∈ H ↔ bef bs j i = false)
variable {bs : List Nat} {H : List Nat}
noncomputable def uK (n0 : Nat) (H : List Nat) (N : Nm) : Nm := ⟨N.μ, N.n, N.fz, ⟨N.h.n, delH n0 H N.h.t⟩⟩
theorem wx (b : BN) : (b ∈ H.map (nm n0) → (uK n0 H N).h.t.get b = none) ∧ (b ∉ H.map (nm n0) → (uK n0 H N).h.t.get b = N.h.t.get b) := zmX H N.h.t b
theorem km {b : BN} {y : AObj} (h : (uK n0 H N).h.t.get b = some y) : b ∉ H.map (nm n0) ∧ N.h.t.get b = some y := by
 by_cases hb : b ∈ H.map (nm n0)
 ·rw [(wx b).1 hb] at h; cases h
 ·exact ⟨hb, by rw [← (wx (N := N) b).2 hb]; exact h⟩
theorem zfK (M : MkOk E n0 len i mk N os) (I : InvO E N os) (D : HdOk bs i len mk H) : Nx N (uK n0 H N) :=
 ⟨⟨fun _ _ h _ => h, fun b o hf hy => by
  rw [(wx b).2 ?_]
  ·exact hy
  ·intro hm;obtain ⟨j, hj, rfl⟩ := List.mem_map.1 hm;exact M.nfz I (D.lt j hj) hf⟩, LzB _, fun _ _ => rfl⟩
theorem zg9 : Nx (uK n0 H N) N := ⟨⟨fun _ _ h _ => h, fun _ _ _ hy => (km hy).2⟩, LzB _, fun _ _ => rfl⟩
theorem zha (M : MkOk E n0 len i mk N os) (I : InvO E N os) (D : HdOk bs i len mk H) : InvO E (uK n0 H N) (uo bs i mk os) := by
 have t : ∀ k, live (og (uo bs i mk os) k) → ¬ Hid bs i mk k ∧ live (og os k) := fun k hl => by
  by_cases hh : Hid bs i mk k
  ·rw [(xd k mk os).1 hh] at hl; exact hl.elim
  ·rw [(xd k mk os).2 hh] at hl; exact ⟨hh, hl⟩
 refine ⟨fun b y hy => I.hw b y (km hy).2, ⟨I.gr.le, fun b hb => ?_⟩, I.fzlt, I.fzok, fun b hb => ?_, I.len.trans (vF mk os).symm, fun k b hl hb => I.own k b (t k hl).2 hb, fun k k' b hl hl' hb hb' => I.inj k k' b (t k hl).2 (t k' hl').2 hb hb', fun k => ?_⟩
 ·rw [(wx b).2 ?_]
  ·exact I.gr.old b hb
  ·intro hm;obtain ⟨j, hj, rfl⟩ := List.mem_map.1 hm;rw [yl] at hb;have := M.e0;omega
 ·refine (I.fzex b hb).imp id fun ⟨y, hy⟩ => ⟨y, ?_⟩
  rw [(wx b).2 ?_]
  ·exact hy
  ·intro hm;obtain ⟨j, hj, rfl⟩ := List.mem_map.1 hm;exact M.nfz I (D.lt j hj) hb
 ·by_cases hh : Hid bs i mk k
  ·rw [(xd k mk os).1 hh]; trivial
  ·rw [(xd k mk os).2 hh];refine (I.obj k).mono (zfK M I D) rfl fun hl b hb => ?_
   obtain ⟨b', x, g1, g2, g3⟩ := yw hl (I.obj k);rw [g1] at hb; cases hb;refine ⟨g2, (wx _).2 fun hm => ?_⟩
   obtain ⟨j, hj, rfl⟩ := List.mem_map.1 hm;obtain ⟨k', hk'⟩ := M.all j x (D.lt j hj) g3;obtain ⟨_, _, _, h3, h4⟩ := M.mks _ hk';have := I.inj k k' _ hl h3 g1 h4;subst this;exact hh ⟨j, hk', (D.hid j k hk').1 hj⟩
structure Aft (N : Nm) (os : List PO) (wr : List Nat) (N' : Nm) (os' : List PO) : Prop where
 nx : Nx N N'
 bk : BkE N os N' wr
 ho : Ho N.n os os' wr
 nle : N.h.n.toNat ≤ N'.h.n.toNat
theorem zpW (M : MkOk E n0 len i mk N os) (I : InvO E N os) (D : HdOk bs i len mk H) {N1 : Nm} {os1 : List PO} {wr : List Nat} {lk : Nat → Bool} {v : AVal} {a : PA} (S : Sim E lk (uK n0 H N) (uo bs i mk os) wr N1 os1 v a) :
  ∃ t, zdB n0 N.h.t H N1.h.t = some t ∧ InvO E ⟨N1.μ, N1.n, N1.fz, ⟨N1.h.n, t⟩⟩ (wk bs i os mk os1) ∧ Aft N os wr ⟨N1.μ, N1.n, N1.fz, ⟨N1.h.n, t⟩⟩ (wk bs i os mk os1) ∧ Nx N1 ⟨N1.μ, N1.n, N1.fz, ⟨N1.h.n, t⟩⟩ ∧
   (∀ j, lk j = true → og (wk bs i os mk os1) j = og os j) ∧ (∀ j, j < len → N.h.t.get (nm n0 j) = none → t.get (nm n0 j) = none) := by
 have IH := zha M I D;have old : ∀ b, b.toNat < N.h.n.toNat → (uK n0 H N).h.t.get b = none → N1.h.t.get b = none := fun b hb hn => by
  rw [S.fr.eq b hb fun k hk hkn hl hkb => ?_]
  ·exact hn
  ·obtain ⟨b', x, g1, _, g3⟩ := yw hl (IH.obj k);rw [g1] at hkb; cases hkb;rw [hn] at g3; cases g3
 have nlt : ∀ j, j < len → (nm n0 j).toNat < N.h.n.toNat := fun j hj => by rw [yl]; have := M.top; omega
 have hnone : ∀ j ∈ H, N1.h.t.get (nm n0 j) = none := fun j hj => old _ (nlt j (D.lt j hj)) ((wx _).1 (List.mem_map.2 ⟨j, hj, rfl⟩))
 obtain ⟨t, ht⟩ := qo (h := N.h.t) H N1.h.t D.nd hnone;obtain ⟨b1, b2, _⟩ := jg H N1.h.t t ht;have b2 : ∀ b, b ∉ H.map (nm n0) → t.get b = N1.h.t.get b := fun b hb => b2 b fun j hj e => hb (List.mem_map.2 ⟨j, hj, e.symm⟩)
 have up : ∀ b y, N1.h.t.get b = some y → t.get b = some y := fun b y hy => by
  rw [b2 b ?_]
  ·exact hy
  ·intro hm;obtain ⟨j, hj, rfl⟩ := List.mem_map.1 hm;rw [hnone j hj] at hy; cases hy
 have dn : ∀ b y, t.get b = some y → N1.h.t.get b = some y ∨ (b ∈ H.map (nm n0) ∧ N.h.t.get b = some y) := fun b y hy => by
  by_cases hm : b ∈ H.map (nm n0)
  ·refine .inr ⟨hm, ?_⟩;obtain ⟨j, hj, rfl⟩ := List.mem_map.1 hm;rw [b1 j hj] at hy; exact hy
  ·rw [b2 b hm] at hy; exact .inl hy
 have nfz1 : ∀ j ∈ H, ¬ N1.fz (nm n0 j) := fun j hj hf => by
  rcases S.inv.fzex _ hf with h | ⟨y, hy⟩
  ·rw [yl] at h; have := M.e0; omega
  ·rw [hnone j hj] at hy; cases hy
 let N2 : Nm := ⟨N1.μ, N1.n, N1.fz, ⟨N1.h.n, t⟩⟩
 have nx1 : Nx N1 N2 := ⟨⟨fun _ _ h _ => h, fun b o _ hy => up b o hy⟩, LzB _, fun _ _ => rfl⟩
 have nx0 : Nx N N2 := ((zfK M I D).trans S.nx).trans nx1;have hr : ∀ p ∈ mk, p.2 < os1.length := fun p hp => by
  have := (M.mks p hp).2.2.1;have h2 : N.n ≤ N1.n := S.nx.le;rw [S.inv.len] at h2;omega
 have hidden : ∀ k, Hid bs i mk k → ∃ j ∈ H, k < N.n ∧ live (og os k) ∧ blk (N.μ k) = some (nm n0 j) ∧ N1.μ k = N.μ k := fun k ⟨j, h1, h2⟩ => by
  obtain ⟨_, _, g1, g2, g3⟩ := M.mks _ h1;exact ⟨j, (D.hid j k h1).2 h2, g1, g2, g3, S.nx.mu k g1⟩
 have key : ∀ k, live (og (wk bs i os mk os1) k) → (Hid bs i mk k ∧ live (og os k)) ∨ (¬ Hid bs i mk k ∧ live (og os1 k)) := fun k hl => by
  by_cases hh : Hid bs i mk k
  ·rw [(xP k mk os1 hr).1 hh] at hl; exact .inl ⟨hh, hl⟩
  ·rw [(xP k mk os1 hr).2 hh] at hl; exact .inr ⟨hh, hl⟩
 have cross : ∀ k k' b, Hid bs i mk k → live (og os1 k') → blk (N1.μ k) = some b → blk (N1.μ k') = some b → False := fun k k' b hh hl hb hb' => by
  obtain ⟨j, hj, g1, g2, g3, g4⟩ := hidden k hh;rw [g4, g3] at hb; cases hb;obtain ⟨b', x, q1, _, q3⟩ := yw hl (S.inv.obj k');rw [q1] at hb'; cases hb';rw [hnone j hj] at q3; cases q3
 refine ⟨t, ht, ⟨fun b y hy => ?_, ⟨Nat.le_trans I.gr.le S.fr.nle, fun b hb => ?_⟩, S.inv.fzlt, S.inv.fzok, fun b hb => ?_, S.inv.len.trans (uY mk os1).symm, fun k b hl hb => ?_, fun k k' b hl hl' hb hb' => ?_, fun k => ?_⟩,
  ⟨nx0, fun b y hy hw => ?_, fun k hk => ?_, S.fr.nle⟩, nx1, fun j hj => ?_, fun j hj => ?_⟩
 ·rcases dn b y hy with h | ⟨_, h⟩
  ·exact S.inv.hw b y h
  ·exact Lz9 (I.hw b y h) S.fr.nle
 ·show t.get b = _;rw [b2 b ?_]
  ·exact S.inv.gr.old b hb
  ·intro hm;obtain ⟨j, hj, rfl⟩ := List.mem_map.1 hm;rw [yl] at hb; have := M.e0; omega
 ·exact (S.inv.fzex b hb).imp id fun ⟨y, hy⟩ => ⟨y, up b y hy⟩
 ·rcases key k hl with ⟨hh, hl⟩ | ⟨_, hl⟩
  ·obtain ⟨j, _, _, _, g3, g4⟩ := hidden k hh;rw [show N2.μ k = N1.μ k from rfl, g4, g3] at hb; cases hb
   rw [yl]; have := M.e0; omega
  ·exact S.inv.own k b hl hb
 ·rcases key k hl with ⟨hh, h1⟩ | ⟨hh, h1⟩ <;> rcases key k' hl' with ⟨hh', h1'⟩ | ⟨hh', h1'⟩
  ·obtain ⟨_, _, _, _, _, g4⟩ := hidden k hh;obtain ⟨_, _, _, _, _, g4'⟩ := hidden k' hh';rw [show N2.μ k = N1.μ k from rfl, g4] at hb
   rw [show N2.μ k' = N1.μ k' from rfl, g4'] at hb'
   exact I.inj k k' b h1 h1' hb hb'
  ·exact (cross k k' b hh h1' hb hb').elim
  ·exact (cross k' k b hh' h1 hb' hb).elim
  ·exact S.inv.inj k k' b h1 h1' hb hb'
 ·by_cases hh : Hid bs i mk k
  ·rw [(xP k mk os1 hr).1 hh];obtain ⟨j, hj, g1, g2, g3, g4⟩ := hidden k hh;refine (I.obj k).mono nx0 g4 fun _ b hb => ?_
   rw [g3] at hb; cases hb;exact ⟨nfz1 j hj, b1 j hj⟩
  ·rw [(xP k mk os1 hr).2 hh];refine (S.inv.obj k).mono nx1 rfl fun hl b hb => ?_
   obtain ⟨b', x, q1, q2, q3⟩ := yw hl (S.inv.obj k);rw [q1] at hb; cases hb;exact ⟨q2, (up _ _ q3).trans q3.symm⟩
 ·by_cases hm : b ∈ H.map (nm n0)
  ·obtain ⟨j, hj, rfl⟩ := List.mem_map.1 hm;exact (b1 j hj).trans hy
  ·refine up b y ?_;have hy2 : (uK n0 H N).h.t.get b = some y := ((wx b).2 hm).trans hy;rw [S.fr.eq b (I.hw b y hy) fun k hk hkn hl hkb => ?_]
   ·exact hy2
   ·by_cases hh : Hid bs i mk k
    ·rw [(xd k mk os).1 hh] at hl; exact hl
    ·rw [(xd k mk os).2 hh] at hl;exact hw k hk hkn hl hkb
 ·by_cases hh : Hid bs i mk k
  ·rw [(xP k mk os1 hr).1 hh]; exact ⟨id, .inl, id⟩
  ·rw [(xP k mk os1 hr).2 hh];have := S.ho k hk;rw [(xd k mk os).2 hh] at this;exact this
 ·by_cases hh : Hid bs i mk j
  ·rw [(xP j mk os1 hr).1 hh]
  ·rw [(xP j mk os1 hr).2 hh, S.lock j hj, (xd j mk os).2 hh]
 ·by_cases hm : j ∈ H
  ·rw [b1 j hm]; exact id
  ·have hm2 : nm n0 j ∉ H.map (nm n0) := fun h => by
    obtain ⟨j', h1, h2⟩ := List.mem_map.1 h;exact hm (wU h2 ▸ h1)
   rw [b2 _ hm2];exact fun h => old _ (nlt j hj) (((wx _).2 hm2).trans h)
end
end Go.PE
end
section
namespace Go.PE
open Go Go.CE
section
variable {P : Program} {O : Orc} {C : Nat → zh} {E : En}
theorem InvO.newAt {N : Nm} {os : List PO} (I : InvO E N os) {b : BN} (hlt : b.toNat < N.h.n.toNat) (hn : N.h.t.get b = none) (h0 : E.h0.n.toNat ≤ b.toNat) (hnf : ¬ N.fz b) (y : AObj) (o : PO) (c : CVal) (hc : blk c = some b)
  (ho : ∀ N', Nx N N' → N'.μ os.length = c → ¬ N'.fz b → N'.h.t.get b = some y → os.length < N'.n → RepO N' os.length o) :
  InvO E ⟨upd N.μ os.length c, os.length + 1, N.fz, ⟨N.h.n, N.h.t.set b y⟩⟩ (os ++ [o]) ∧ Aft N os [] ⟨upd N.μ os.length c, os.length + 1, N.fz, ⟨N.h.n, N.h.t.set b y⟩⟩ (os ++ [o]) := by
 have old : ∀ b' z, N.h.t.get b' = some z → (N.h.t.set b y).get b' = some z := fun b' z hz => by
  rw [zn _ _ _ _ (fun e => by rw [e, hn] at hz; cases hz)]; exact hz
 have mu : ∀ k, k ≠ os.length → upd N.μ os.length c k = N.μ k := fun k hk => by show (if k = os.length then c else N.μ k) = _; rw [if_neg hk]
 have muL : upd N.μ os.length c os.length = c := by show (if os.length = os.length then c else _) = _; rw [if_pos rfl]
 have hlen := I.len;have nx : Nx N ⟨upd N.μ os.length c, os.length + 1, N.fz, ⟨N.h.n, N.h.t.set b y⟩⟩ := ⟨⟨fun _ _ h _ => h, fun b' z _ hz => old b' z hz⟩, by show N.n ≤ os.length + 1; omega, fun k hk => mu k (by omega)⟩
 have nb : ∀ k, live (og os k) → blk (N.μ k) ≠ some b := fun k hl hb => by
  obtain ⟨b', x', h1, _, h3⟩ := yw hl (I.obj k);rw [h1] at hb; cases hb;rw [hn] at h3; cases h3
 refine ⟨⟨fun b' z hz => ?_, ⟨I.gr.le, fun b' hb' => ?_⟩, I.fzlt, I.fzok, fun b' hb' => (I.fzex b' hb').imp id fun ⟨z, hz⟩ => ⟨z, old b' z hz⟩, by simp, fun k b' hl hb => ?_, fun k k' b' hl hl' hb hb' => ?_, fun k => ?_⟩,
  ⟨nx, fun b' z hz _ => old b' z hz, .app (Nat.le_of_eq hlen), LzB _⟩⟩
 ·show b'.toNat < N.h.n.toNat;by_cases hb : b' = b
  ·rw [hb]; exact hlt
  ·exact I.hw b' z (by rwa [show (AHeap.mk N.h.n (N.h.t.set b y)).t = N.h.t.set b y from rfl, zn _ _ _ _ hb] at hz)
 ·show (N.h.t.set b y).get b' = _;rw [zn _ _ _ _ (fun e => by rw [e] at hb'; omega)]
  exact I.gr.old b' hb'
 ·by_cases hk : k = os.length
  ·subst hk;rw [show (Nm.mk (upd N.μ os.length c) (os.length + 1) N.fz ⟨N.h.n, N.h.t.set b y⟩).μ os.length = c from muL, hc] at hb
   cases hb; exact h0
  ·rw [wm, if_neg hk] at hl;rw [show (Nm.mk (upd N.μ os.length c) (os.length + 1) N.fz ⟨N.h.n, N.h.t.set b y⟩).μ k = N.μ k from mu k hk] at hb
   exact I.own k b' hl hb
 ·rw [wm] at hl hl';simp only at hb hb';by_cases hk : k = os.length <;> by_cases hk' : k' = os.length
  ·rw [hk, hk']
  ·subst hk;rw [muL, hc] at hb;rw [if_neg hk'] at hl';rw [mu k' hk'] at hb';cases hb;exact (nb k' hl' hb').elim
  ·subst hk';rw [muL, hc] at hb';rw [if_neg hk] at hl;rw [mu k hk] at hb;cases hb';exact (nb k hl hb).elim
  ·rw [if_neg hk] at hl;rw [if_neg hk'] at hl';rw [mu k hk] at hb;rw [mu k' hk'] at hb';exact I.inj k k' b' hl hl' hb hb'
 ·rw [wm];by_cases hk : k = os.length
  ·rw [if_pos hk, hk];exact ho _ nx muL hnf (zx _ _ _) (by show os.length < os.length + 1; omega)
  ·rw [if_neg hk];refine (I.obj k).mono nx (mu k hk) fun hl b' hb => ?_
   obtain ⟨b2, x', h1, h2, h3⟩ := yw hl (I.obj k);rw [h1] at hb; cases hb;exact ⟨h2, (old _ _ h3).trans h3.symm⟩
def mkK : KOp → Bool
 | .alloc _ => true
 | .box _ => true
 | .bslice .. => true
 | _ => false
def soft : KOp → Bool
 | .bslice .. => false
 | _ => true
def isD : PC → Bool
 | .d _ => true
 | _ => false
def xR : PA → Bool
 | .s v => v.cells.all isD
 | _ => true
theorem zh6 {N A : Nm} (g : FG N.fz N.h A.fz A.h) {v : AVal} {a : PA} (hp : xR a = true) (H : RepPA N v a) : RepPA A v a := by
 have one : ∀ (c : CVal) (p : PC), isD p = true → RepPC N c p → RepPC A c p := fun c p hp H => by
  cases p with
  | d d => exact Rep.mono g H
  | _ => cases hp
 have many : ∀ (cs : List CVal) (ps : List PC), ps.all isD = true → RepPL N cs ps → RepPL A cs ps := by
  intro cs
  induction cs with
  | nil => intro ps _ H; cases ps with
   | nil => trivial
   | cons _ _ => exact H.elim
  | cons c cs ih => intro ps hp H; cases ps with
   | nil => exact H.elim
   | cons p ps =>
    simp only [List.all_cons, LzC] at hp;exact ⟨one c p hp.1 H.1, ih ps hp.2 H.2⟩
 cases a with
 | s pv =>
  obtain ⟨w, rfl, hw⟩ := H.inv;refine .of ?_;cases w <;> cases pv <;> first | exact hw.elim | skip
  ·simp only [xR, PV.cells, List.all_cons, List.all_nil, Bool.and_true] at hp;exact one _ _ hp hw
  ·exact many _ _ hp hw
 | tup ds =>
  cases v with
  | s _ => exact H.elim
  | tup l => exact RepSL.mono g H
 | bad => exact .bad v
 | undef => cases v <;> exact H
def zsj {β : Type} (E : En) (lk : Nat → Bool) (N : Nm) (os : List PO) (run : zh → AHeap → Res) (K : PA → List PO → Option β) (x : β) (nb : Bool) : Prop :=
 ∃ a os1 o N1, K a (os1 ++ [o]) = some x ∧ Fz N N1 ∧ Stp E lk N os [] N1 os1 ∧ os1.length = os.length ∧ (nb = true → N1 = N) ∧ live o ∧ ∃ (vf : BN → CVal) (y : AObj), (∀ b, blk (vf b) = some b) ∧ (∀ call b T, run call ⟨b, T⟩ = some (.s (.one (vf b)), (⟨b, T⟩ : AHeap).new y)) ∧
  ∀ b N', Nx N1 N' → N'.μ os1.length = vf b → ¬ N'.fz b → N'.h.t.get b = some y → os1.length < N'.n → RepO N' os1.length o ∧ RepPA N' (.s (.one (vf b))) a
theorem zq0 {β : Type} {lk : Nat → Bool} {N : Nm} {os : List PO} {r : Fr} {ρ : Nat → PA} {k : KT β} {x : β} {sh : Sh} {ko : KOp} (hk : mkK ko = true) (I : InvO E N os) (F : ∀ i, RepPA N (r i) (ρ i)) (e : pOp O lk sh ρ os ko k = some x) :
  zsj E lk N os (fun call h => runK r ko call h) (fun a os' => k a os' [] []) x (soft ko) := by
 have boxy : ∀ (vs : List CVal) (ps : List PC), RepPL N vs ps → (∀ call h, runK r ko call h = newB h (.cells vs 0) (fun b => .ptr b 0)) → k (pc (.ptr os.length 0)) (os ++ [.box ps]) [] [] = some x → zsj E lk N os (fun call h => runK r ko call h) (fun a os' => k a os' [] []) x (soft ko) := by
  intro vs ps H run e;exact ⟨_, os, .box ps, N, e, .refl N, .refl I, rfl, fun _ => rfl, trivial, fun b => .ptr b 0, .cells vs 0, fun b => rfl, fun call b T => (run call _).trans (vg _ _ _), fun b N' nx hmu hf hg hlt =>
   ⟨⟨_, vs, hmu, hf, hg, H.mono nx⟩, yZ (p := .ptr os.length 0) (c := .ptr b 0) ⟨hlt, _, hmu, rfl⟩⟩⟩
 cases ko with
 | alloc zs =>
  have e : za (cDs zs) (fun cs => k (pc (.ptr os.length 0)) (os ++ [.box cs]) [] []) = some x := e
  obtain ⟨ps, h1, e⟩ := zj e;exact boxy _ _ (kO h1) (fun call h => rfl) e
 | box a =>
  have e : (match pv ρ a with
   | some (.s v) => k (pc (.ptr os.length 0)) (os ++ [.box v.cells]) [] []
   | _ => none) = some x := e
  split at e
  ·rename_i p hp;obtain ⟨v, ka, ra⟩ := x4 F hp;obtain ⟨w, rfl, hw⟩ := ra.inv;exact boxy _ _ hw.cells (fun call h => by simp only [runK, ka, zC]; rfl) e
  ·cases e
 | bslice st len zs parts =>
  have e : za (cDs zs) (fun cs => za (zey ρ parts cs) fun cs => za (frL lk y7 os cs) fun p =>
   bif Nat.beq p.2.length (len * st) then k (pc (.own p.1.length)) (p.1 ++ [.arr st (some (chunks st len p.2))]) [] [] else none) = some x := e
  obtain ⟨ps, h1, e⟩ := zj e;obtain ⟨ps', h2, e⟩ := zj e;obtain ⟨⟨os1, ds⟩, h3, e⟩ := zj e;obtain ⟨l, cs', k1, k2, k3⟩ := zad F h2 (kO h1);obtain ⟨N1, f1, S1, r1⟩ := zhd I k3 h3;simp only at e;cases hb : Nat.beq ds.length (len * st) with
  | false => rw [hb] at e; cases e
  | true =>
   rw [hb] at e;have hd := Lz1 hb;have hl1 : os1.length = os.length := by rw [← S1.inv.len, f1.n, I.len]
   have hlc : (chunks st len ds).length = len := qf st len ds;refine ⟨_, os1, .arr st (some (chunks st len ds)), N1, e, f1, S1, hl1, fun h => (by cases h), trivial, fun b => .slc b 0 len len true, .cells cs' st, fun b => rfl, fun call b T => ?_, fun b N' nx hmu hf hg hlt => ⟨⟨b, cs', true, ?_, hf, hg, by rw [r1.1, hd, hlc], fun i y hy => ?_⟩, yZ (p := .own os1.length) ⟨hlt, hmu.symm⟩⟩⟩
   ·show runK r (.bslice st len zs parts) call ⟨b, T⟩ = _;simp only [runK, k1];show (match kG .nil (cP l) zs with | some cs => newB ⟨b, T⟩ (.cells cs st) (fun b => .slc b 0 len len true) | none => none) = _
    rw [k2];exact vg _ _ _
   ·rw [hlc]; exact hmu
   ·obtain ⟨q1, q2⟩ := qg st len ds i y hy;subst q1;refine ⟨?_, (r1.sub (i * st) st).mono nx.fg⟩;have := Nat.mul_le_mul_right st (show i + 1 ≤ len from q2)
    rw [Nat.succ_mul] at this;simp; omega
 | _ => cases hk
end
def zkg (mk : List (Nat × Nat)) : List Nat → Bool
 | [k] => mk.any fun p => Nat.beq p.2 k
 | _ => false
section
variable (P : Program) (O : Orc)
def pDr2 {β : Type} (lk : Nat → Bool) (nt : Nat) (ops : Array Oper) (bs : List Nat) (es : List Bool) : Nat → List Oper → (Nat → PA) → List PO → (Nat → Nat) → List (List Nat) → List (Nat × Nat × List Nat) → List (Nat × Nat) → Bool → ((Nat → PA) → List PO → Option β) → Option β
 | _, [], ρ, os, _, ws, ps, _, _, K => bif ps.all (fun p => okW ws p.1 p.2.1 p.2.2) then K ρ os else none
 | i, o :: l, ρ, os, bo, ws, ps, mk, fr, K =>
  bif mkOp o.op then
   match comp P o.op, o.guard with
   | some ko, none =>
    bif mkK ko && inT nt o.dst then
     pOp O lk (shOf P o.dst o.type) (zN ρ (o.looksAt ops)) os ko fun a os' _ _ =>
      bif jP mk os' then pDr2 lk nt ops bs es (Nat.succ i) l (pset ρ a o.dst) os' (bset bo (Nat.succ ws.length) o.dst) ws ps (mk ++ [(i, os.length)]) (fr && soft ko) K else none
    else none
   | _, _ => none
  else bif anchor P o.op then
   jh P O lk nt ops o (zN ρ (o.looksAt ops)) (uo bs i mk os) fun ref a os1 wr _ =>
    bif jP mk (wk bs i os mk os1) then pDr2 lk nt ops bs es (Nat.succ i) l (pset (refine ρ ref) a o.dst) (wk bs i os mk os1) (bset bo (Nat.succ ws.length) o.dst) (ws ++ [wr]) ps mk true K else none
  else
   match comp P o.op with
   | none => none
   | some ko =>
    bif jk ko then
     jh P O (fun _ => true) nt ops o (zN ρ (o.looksAt ops)) (uo bs i mk os) fun ref a _ _ _ =>
      pDr2 lk nt ops bs es (Nat.succ i) l (pset (refine ρ ref) a o.dst) os (bset bo (match trk (refine (zN ρ (o.looksAt ops)) ref) ko with | some x => bOf bo x | none => bif fr && xR a then ws.length else Nat.succ ws.length) o.dst) ws ps mk fr K
    else
     match memX ko with
     | none => none
     | some x =>
      bif Nat.beq (ce (fun j => bef bs j i) 0 es) (ce (fun j => !bef bs i j) 0 es) then
       jh P O (fun _ => true) nt ops o (zN ρ (o.looksAt ops)) (uo bs i mk os) fun ref a _ _ _ =>
        pDr2 lk nt ops bs es (Nat.succ i) l (pset (refine ρ ref) a o.dst) os (bset bo (bif fr && xR a then ws.length else Nat.succ ws.length) o.dst) ws ps mk fr K
      else
       bif Nat.ble (bOf bo x) (ce (fun j => bef bs j i) 0 es) && Nat.ble (ce (fun j => bef bs j i) 0 es) ws.length && Nat.ble ws.length (ce (fun j => !bef bs i j) 0 es) then
        jh P O (fun _ => true) nt ops o (zN ρ (o.looksAt ops)) (uo bs i mk os) fun ref a _ _ rd =>
         pDr2 lk nt ops bs es (Nat.succ i) l (pset (refine ρ ref) a o.dst) os (bset bo (bif fr && xR a then ws.length else Nat.succ ws.length) o.dst) ws (ps ++ [(ce (fun j => bef bs j i) 0 es, ce (fun j => !bef bs i j) 0 es, rd)]) mk fr K
       else bif Nat.ble ws.length (ce (fun j => !bef bs i j) 0 es) then
        jh P O (fun _ => true) nt ops o (zN ρ (o.looksAt ops)) (uo bs i mk os) fun ref a _ _ rd =>
         bif zkg mk rd && okW ws 0 ws.length rd then pDr2 lk nt ops bs es (Nat.succ i) l (pset (refine ρ ref) a o.dst) os (bset bo (bif fr && xR a then ws.length else Nat.succ ws.length) o.dst) ws (ps ++ [(0, ce (fun j => !bef bs i j) 0 es, rd)]) mk fr K else none
       else none
end
def PendOk2 (S : List Sn) (n0 : Nat) (mk : List (Nat × Nat)) (mks : List (Nat × Nat × AObj)) (ps : List (Nat × Nat × List Nat)) (q : CkG) : Prop :=
 (∀ h, ∃ h', q.1 h = some (q.2.1, h')) ∨ Nat.beq q.2.2.1 q.2.2.2.1 = true ∨
  (∃ rd, (q.2.2.1, q.2.2.2.1, rd) ∈ ps ∧ ∃ (ne : Nat) (b : BN) (A Al : Sn), q.2.2.1 ≤ ne ∧ ne ≤ q.2.2.2.1 ∧ S[ne]? = some A ∧ S[q.2.2.1]? = some Al ∧ (∀ j ∈ q.2.2.2.2, b ≠ nm n0 j) ∧ (∀ h2, h2.t.get b = A.1.h.t.get b → ∃ h', q.1 h2 = some (q.2.1, h')) ∧
   ((∃ j, rd = [j] ∧ j < Al.1.n ∧ blk (A.1.μ j) = some b ∧ held (og A.2 j)) ∨ (Al.1.fz b ∧ ∃ y, Al.1.h.t.get b = some y))) ∨
  (∃ k z, (0, q.2.2.2.1, [k]) ∈ ps ∧ z ∈ mks ∧ (z.2.1, k) ∈ mk ∧ (∀ j ∈ q.2.2.2.2, nm n0 z.2.1 ≠ nm n0 j) ∧ ∀ h2, h2.t.get (nm n0 z.2.1) = some z.2.2 → ∃ h', q.1 h2 = some (q.2.1, h'))
def NW (ws : List (List Nat)) (e k : Nat) : Prop := ∀ i w, i < e → ws[i]? = some w → k ∉ w
theorem NW.of {ws : List (List Nat)} {e k : Nat} (h : okW ws 0 e [k] = true) : NW ws e k := fun _ _ h1 h2 => zfr h (Nat.zero_le _) h1 h2
structure MV (n0 i : Nat) (ws : List (List Nat)) (S : List Sn) (N : Nm) (mk : List (Nat × Nat)) (mks : List (Nat × Nat × AObj)) : Prop where
 val : ∀ z ∈ mks, ∀ k, (z.2.1, k) ∈ mk → (∀ e A, z.1 < e → S[e]? = some A → NW ws e k → A.1.h.t.get (nm n0 z.2.1) = some z.2.2) ∧ (NW ws ws.length k → N.h.t.get (nm n0 z.2.1) = some z.2.2)
 lt : ∀ z ∈ mks, z.2.1 < i
 uniq : ∀ z ∈ mks, ∀ z' ∈ mks, z.2.1 = z'.2.1 → z = z'
 ex : ∀ p ∈ mk, ∃ z ∈ mks, z.2.1 = p.1
theorem jT {run : AHeap → Res} {v : AVal} {n0 : Nat} {hide : List Nat} {mks : List (Nat × Nat × AObj)} : ∀ {l : List AHeap} {k0 : Nat}, (∀ m h, l[m]? = some h → ∃ h', run ⟨h.n, delH n0 hide (jI n0 (k0 + m) mks h.t)⟩ = some (v, h')) → zbO run v n0 hide mks k0 l = true
 | [], _, _ => rfl
 | h :: l, k0, H => by
  obtain ⟨h', e⟩ := H 0 h rfl;rw [Nat.add_zero] at e;simp only [zbO, e, zhm, Bool.true_and];exact jT fun m x hx => by
   obtain ⟨h2, e2⟩ := H (m + 1) x (by simpa using hx)
   exact ⟨h2, by rw [show Nat.succ k0 + m = k0 + (m + 1) by omega]; exact e2⟩
theorem ue {n0 k : Nat} {b : BN} : ∀ (mks : List (Nat × Nat × AObj)) (t : Tr AObj), (∀ x ∈ mks, k ≤ x.1 → b ≠ nm n0 x.2.1) → (jI n0 k mks t).get b = t.get b
 | [], _, _ => rfl
 | (c, j, o) :: l, t, H => by
  simp only [jI];rw [ue l _ fun x hx => H x (List.mem_cons_of_mem _ hx)]
  cases hb : Nat.ble k c with
  | false => rfl
  | true => exact zn _ _ _ _ (H (c, j, o) (List.mem_cons_self ..) (Lz4 hb))
theorem zet {n0 k : Nat} {z : Nat × Nat × AObj} (hk : k ≤ z.1) : ∀ (mks : List (Nat × Nat × AObj)) (t : Tr AObj), z ∈ mks → (∀ z' ∈ mks, z.2.1 = z'.2.1 → z = z') → (jI n0 k mks t).get (nm n0 z.2.1) = some z.2.2
 | [], _, h, _ => by cases h
 | (c, j, o) :: l, t, h, hu => by
  simp only [jI];by_cases hz : z ∈ l
  ·exact zet hk l _ hz fun z' h' => hu z' (List.mem_cons_of_mem _ h')
  ·rw [ue l _ fun x hx _ e => hz (by have := hu x (List.mem_cons_of_mem _ hx) (wU e); rw [this]; exact hx)]
   rcases List.mem_cons.1 h with rfl | h
   ·rw [Nat.ble_eq_true_of_le hk];exact zx _ _ _
   ·exact absurd h hz
section
variable {E : En} {S : List Sn} {ws : List (List Nat)} (hl : S.length = ws.length + 1) (ch : znb E S ws)
include hl ch
theorem zk3 {n0 i : Nat} {N : Nm} {mk : List (Nat × Nat)} {mks : List (Nat × Nat × AObj)} (hi : ∀ A ∈ S, InvO E A.1 A.2) (hm : ∀ x ∈ mks, ∀ e A, e ≤ x.1 → S[e]? = some A → A.1.h.t.get (nm n0 x.2.1) = none) (mv : MV n0 i ws S N mk mks) {ps : List (Nat × Nat × List Nat)} (hps : (ps.all fun p => okW ws p.1 p.2.1 p.2.2) = true) :
  ∀ {cs : List CkG}, (∀ q ∈ cs, PendOk2 S n0 mk mks ps q) → zf5 n0 mks (S.map fun x => x.1.h) cs = true
 | [], _ => rfl
 | (run, v, lo, hi', hide) :: cs, Hc => by
  have ih := zk3 hi hm mv hps (cs := cs) fun q hq => Hc q (List.mem_cons_of_mem _ hq)
  simp only [zf5, ih, Bool.and_true];have mem : ∀ (m : Nat) h, (((S.map fun x => x.1.h).drop lo).take (Nat.sub (Nat.succ hi') lo))[m]? = some h → ∃ B, lo + m ≤ hi' ∧ S[lo + m]? = some B ∧ h = B.1.h := fun m h hi2 => by
   rw [List.getElem?_take] at hi2;split at hi2
   ·rename_i hlt;rw [List.getElem?_drop, Lz6, Option.map_eq_some_iff] at hi2;obtain ⟨B, hB, rfl⟩ := hi2;have : m < hi' + 1 - lo := hlt;exact ⟨B, by omega, hB, rfl⟩
   ·cases hi2
  rcases Hc _ (List.mem_cons_self ..) with h | h | ⟨rd, hp, ne, b, A, Al, h1, h2, h3, h4, h5, h6, h7⟩ | ⟨k, z, hp, hz, hzk, h5, h6⟩
  ·rw [jT fun m x _ => h _, Bool.or_true]
  ·rw [show Nat.beq lo hi' = true from h, Bool.true_or]
  ·rw [List.all_eq_true] at hps;have hwin := hps _ hp;simp only at hwin h1 h2 h4 h5 h6;rw [jT fun m x hx => ?_, Bool.or_true]
   obtain ⟨B, hd1, hd2, rfl⟩ := mem m x hx;have hne : S[lo + (ne - lo)]? = some A := by rw [show lo + (ne - lo) = ne by omega]; exact h3
   have fact : B.1.h.t.get b = A.1.h.t.get b ∧ ∃ y, B.1.h.t.get b = some y := by
    rcases h7 with ⟨j, rfl, q1, q2, q3⟩ | ⟨q1, y, q2⟩
    ·have e1 := j5 hl ch h4 h3 h1 h2 q1 hwin q2 q3 (ne - lo) A (by omega) hne
     have e2 := j5 hl ch h4 h3 h1 h2 q1 hwin q2 q3 m B hd1 hd2;obtain ⟨y, hy⟩ := za0 q3 ((hi A (Lz3 h3)).obj j) q2;exact ⟨by rw [e1, e2], y, by rw [e2, ← e1]; exact hy⟩
    ·have e1 := (xw hl ch h4 (ne - lo) A hne).fg.old b y q1 q2;have e2 := (xw hl ch h4 m B hd2).fg.old b y q1 q2;exact ⟨by rw [e1, e2], y, e2⟩
   obtain ⟨f1, y, f2⟩ := fact;refine h6 _ ?_;show (delH n0 hide (jI n0 (lo + m) mks B.1.h.t)).get b = _;rw [wX hide _ b h5, ue mks _ fun x hx hle e => ?_]
   ·exact f1
   ·rw [e, hm x hx (lo + m) B hle hd2] at f2;cases f2
  ·rw [List.all_eq_true] at hps;have hwin := hps _ hp;simp only at hwin h5 h6;rw [jT fun m x hx => ?_, Bool.or_true]
   obtain ⟨B, hd1, hd2, rfl⟩ := mem m x hx;refine h6 _ ?_;show (delH n0 hide (jI n0 (lo + m) mks B.1.h.t)).get _ = _;rw [wX hide _ _ h5];by_cases hle : lo + m ≤ z.1
   ·exact zet hle mks _ hz (mv.uniq z hz)
   ·rw [ue mks _ fun x hx hle2 e => hle (by have := mv.uniq z hz x hx (wU e); rw [this]; exact hle2)]
    exact (mv.val z hz k hzk).1 (lo + m) B (by omega) hd2 fun i w h1 h2 => NW.of hwin i w (by omega) h2
end
theorem Aft.refl (N : Nm) (os : List PO) : Aft N os [] N os := ⟨.refl N, fun _ _ h _ => h, .refl _ _ _, LzB _⟩
theorem Stp.aft {E : En} {lk : Nat → Bool} {N N' : Nm} {os os' : List PO} {wr : List Nat} (S : Stp E lk N os wr N' os') (hw : HW N.h) : Aft N os wr N' os' := ⟨S.nx, S.fr.ex hw, S.ho, S.fr.nle⟩
theorem Aft.trans {A N N' : Nm} {oA os os' : List PO} {wr : List Nat} (a : Aft A oA [] N os) (hn : ∀ k b, A.n ≤ k → k < N.n → blk (N.μ k) = some b → A.h.t.get b = none) (b : Aft N os wr N' os') : Aft A oA wr N' os' := by
 refine ⟨a.nx.trans b.nx, fun b0 y hy hw => ?_, fun k hk => ?_, Nat.le_trans a.nle b.nle⟩
 ·refine b.bk b0 y (a.bk b0 y hy fun j hj => (by cases hj)) fun j hj hjn hl hjb => ?_
  by_cases hA : j < A.n
  ·exact hw j hj hA ((a.ho j hA).2.2 hl) (by rw [← a.nx.mu j hA]; exact hjb)
  ·rw [hn j b0 (by omega) hjn hjb] at hy; cases hy
 ·have g1 := a.ho k hk;have g2 := b.ho k (Lz9 hk a.nx.le);exact ⟨fun x => g1.1 (g2.1 x), fun x => (g1.2.1 x).elim (fun y => g2.2.1 y) (fun y => by cases y), fun x => g1.2.2 (g2.2.2 x)⟩
end Go.PE
end
