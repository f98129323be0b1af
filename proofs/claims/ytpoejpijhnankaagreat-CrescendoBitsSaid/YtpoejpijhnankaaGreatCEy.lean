/-
  How a symbolic form is run: what it means that it comes to an answer whatever the fuel (if there is enough), and the rules. No condition.
-/
import Derived.Test.YtpoejpijhnankaaGreatCEx
namespace Go.CE

/-- It comes to an answer with Q, with all fuel from some on. -/
def Ev {α : Type} (m : Nat → Option α) (Q : α → Prop) : Prop := ∃ a, Q a ∧ ∃ N, ∀ n, N ≤ n → m n = some a

theorem Ev.some {α : Type} {a : α} {Q : α → Prop} (h : Q a) : Ev (fun _ => some a) Q := ⟨a, h, 0, fun _ _ => rfl⟩
theorem Ev.mono {α : Type} {m : Nat → Option α} {Q Q' : α → Prop} (h : Ev m Q) (hq : ∀ a, Q a → Q' a) : Ev m Q' := by
  obtain ⟨a, h1, h2⟩ := h
  exact ⟨a, hq a h1, h2⟩
theorem Ev.bindR {β : Type} {m : Nat → Res} {k : Nat → AVal → AHeap → Option β} {Q : β → Prop} (h : Ev m (fun p => Ev (fun n => k n p.1 p.2) Q)) : Ev (fun n => CE.bindR (m n) (k n)) Q := by
  obtain ⟨⟨v, h'⟩, ⟨x, h1, N1, h2⟩, N2, h3⟩ := h
  refine ⟨x, h1, max N1 N2, fun n hn => ?_⟩
  have e := h3 n (by omega)
  simp only [e, CE.bindR]
  exact h2 n (by omega)
theorem Ev.bindX {β : Type} {m : Nat → Option (RExit × List AVal × AHeap)} {kx : Nat → Nat → List AVal → AHeap → Option β} {kr : Nat → List AVal → AHeap → Option β} {Q : β → Prop}
    (h : Ev m (fun p => match p.1 with
      | .exit id => Ev (fun n => kx n id p.2.1 p.2.2) Q
      | .ret => Ev (fun n => kr n p.2.1 p.2.2) Q
      | .normal => False)) : Ev (fun n => CE.bindX (m n) (kx n) (kr n)) Q := by
  obtain ⟨⟨e, ys, h'⟩, h1, N2, h3⟩ := h
  cases e with
  | normal => exact h1.elim
  | exit id =>
    obtain ⟨x, h1, N1, h2⟩ := h1
    exact ⟨x, h1, max N1 N2, fun n hn => by have e := h3 n (by omega); simp only [e, CE.bindX]; exact h2 n (by omega)⟩
  | ret =>
    obtain ⟨x, h1, N1, h2⟩ := h1
    exact ⟨x, h1, max N1 N2, fun n hn => by have e := h3 n (by omega); simp only [e, CE.bindX]; exact h2 n (by omega)⟩

/-- A loop: an invariant with a measure. -/
theorem Ev.loop {c : Nat → List AVal → AHeap → Option (RExit × List AVal × AHeap)} {Q : RExit × List AVal × AHeap → Prop} (I : Nat → List AVal → AHeap → Prop)
    (H : ∀ k ys h, I k ys h → Ev (fun n => c n ys h) (fun p => match p.1 with
      | .normal => ∃ k', k' < k ∧ I k' p.2.1 p.2.2
      | e => Q (e, p.2.1, p.2.2))) :
    ∀ k ys h, I k ys h → Ev (fun n => loopL (c n) n ys h) Q := by
  have key : ∀ K k ys h, k ≤ K → I k ys h → ∃ a, Q a ∧ ∃ N, ∀ n, N ≤ n → ∀ f, N ≤ f → loopL (c n) f ys h = Option.some a := by
    intro K
    induction K with
    | zero =>
      intro k ys h hk hi
      obtain ⟨⟨e, ys', h'⟩, h1, N, h2⟩ := H k ys h hi
      cases e with
      | normal => obtain ⟨k', hk', _⟩ := h1; omega
      | exit id =>
        refine ⟨_, h1, N + 1, fun n hn f hf => ?_⟩
        cases f with
        | zero => omega
        | succ f => have e := h2 n (by omega); simp only [loopL, e]
      | ret =>
        refine ⟨_, h1, N + 1, fun n hn f hf => ?_⟩
        cases f with
        | zero => omega
        | succ f => have e := h2 n (by omega); simp only [loopL, e]
    | succ K ih =>
      intro k ys h hk hi
      obtain ⟨⟨e, ys', h'⟩, h1, N, h2⟩ := H k ys h hi
      cases e with
      | normal =>
        obtain ⟨k', hk', hi'⟩ := h1
        obtain ⟨a, ha, N', h3⟩ := ih k' ys' h' (by omega) hi'
        refine ⟨a, ha, max N N' + 1, fun n hn f hf => ?_⟩
        cases f with
        | zero => omega
        | succ f => have e := h2 n (by omega); simp only [loopL, e]; exact h3 n (by omega) f (by omega)
      | exit id =>
        refine ⟨_, h1, N + 1, fun n hn f hf => ?_⟩
        cases f with
        | zero => omega
        | succ f => have e := h2 n (by omega); simp only [loopL, e]
      | ret =>
        refine ⟨_, h1, N + 1, fun n hn f hf => ?_⟩
        cases f with
        | zero => omega
        | succ f => have e := h2 n (by omega); simp only [loopL, e]
  intro k ys h hi
  obtain ⟨a, ha, N, h1⟩ := key k k ys h (Nat.le_refl _) hi
  exact ⟨a, ha, N, fun n hn => h1 n hn n hn⟩

/-! ### The abstract heap as it grows -/

/-- All numbers in use are below the next one. -/
def HW (h : AHeap) : Prop := ∀ b o, h.t.get b = some o → b.toNat < h.n.toNat
/-- The blocks of h are as they were. -/
structure Gr (h h' : AHeap) : Prop where
  le : h.n.toNat ≤ h'.n.toNat
  old : ∀ b : BN, b.toNat < h.n.toNat → h'.t.get b = h.t.get b
theorem Gr.refl (h : AHeap) : Gr h h := ⟨Nat.le_refl _, fun _ _ => rfl⟩
theorem Gr.trans {a b c : AHeap} (h : Gr a b) (k : Gr b c) : Gr a c := ⟨Nat.le_trans h.le k.le, fun x hx => (k.old x (Nat.lt_of_lt_of_le hx h.le)).trans (h.old x hx)⟩
theorem Gr.get {h h' : AHeap} (g : Gr h h') (w : HW h) {b : BN} {o : AObj} (e : h.t.get b = some o) : h'.t.get b = some o := (g.old b (w b o e)).trans e

theorem bn_ne {a b : BN} (h : a.toNat ≠ b.toNat) : a ≠ b := fun e => h (by rw [e])

theorem HW.new {h : AHeap} (w : HW h) (o : AObj) : HW (h.new o) := fun b o' e => by
  simp only [AHeap.new] at e ⊢
  rw [BN.toNat_succ]
  by_cases hb : b = h.n
  · rw [hb]; omega
  · rw [get_set_other _ _ _ _ hb] at e
    have := w b o' e
    omega
theorem Gr.new (h : AHeap) (o : AObj) : Gr h (h.new o) := ⟨by simp only [AHeap.new]; rw [BN.toNat_succ]; omega, fun b hb => by
  simp only [AHeap.new]
  exact get_set_other _ _ _ _ (bn_ne (by omega))⟩
theorem HW.put {h : AHeap} (w : HW h) {b : BN} {o o' : AObj} (e : h.t.get b = some o) : HW (h.put b o') := fun c x hx => by
  simp only [AHeap.put] at hx ⊢
  by_cases hb : c = b
  · rw [hb]; exact w b o e
  · rw [get_set_other _ _ _ _ hb] at hx; exact w c x hx
theorem Gr.put {h0 h : AHeap} (g : Gr h0 h) {b : BN} {o' : AObj} (hb : h0.n.toNat ≤ b.toNat) : Gr h0 (h.put b o') := ⟨g.le, fun c hc => by
  simp only [AHeap.put]
  rw [get_set_other _ _ _ _ (bn_ne (by omega))]
  exact g.old c hc⟩
theorem put_same (h : AHeap) (b : BN) (o : AObj) : (h.put b o).t.get b = some o := get_set_same _ _ _
theorem put_other (h : AHeap) {b c : BN} (o : AObj) (hc : c ≠ b) : (h.put b o).t.get c = h.t.get c := get_set_other _ _ _ _ hc

/-- A new block. -/
theorem Ev.new {β : Type} {h : AHeap} {o : AObj} {mk : BN → CVal} {k : Nat → AVal → AHeap → Option β} {Q : β → Prop} (w : HW h)
    (H : ∀ b h', b.toNat = h.n.toNat → h'.n.toNat = h.n.toNat + 1 → h'.t.get b = Option.some o → HW h' → Gr h h' → Ev (fun n => k n (.s (.one (mk b))) h') Q) : Ev (fun n => CE.bindR (newB h o mk) (k n)) Q :=
  H h.n (h.new o) rfl (BN.toNat_succ _) (get_set_same _ _ _) (w.new o) (Gr.new h o)

/-- A write into a block of cells. -/
theorem Ev.store {β : Type} {h : AHeap} {b : BN} {off n : Nat} {v : SVal} {cs cs' : List CVal} {st : Nat} {k : Nat → AVal → AHeap → Option β} {Q : β → Prop} (hb : h.t.get b = Option.some (.cells cs st))
    (hl : lenIs v.cells n = true) (hp : putAt v.cells cs off = Option.some cs') (H : Ev (fun n => k n aundef (h.put b (.cells cs' st))) Q) :
    Ev (fun m => CE.bindR (vStore n (.s (.one (.ptr b off))) (.s v) h) (k m)) Q := by
  have : vStore n (.s (.one (.ptr b off))) (.s v) h = Option.some (aundef, h.put b (.cells cs' st)) := by
    simp only [vStore, opStore, constF, storeAt, hb, hl, hp, putC, wrote, cond_true]
  rw [this]
  exact H

section
variable {β : Type} (k : AVal → AHeap → Option β) (h : AHeap)

theorem kBox (v : SVal) : vBox (.s v) h = newB h (.cells v.cells 0) (fun b => .ptr b 0) := (id rfl)
theorem kAlloc (zs : List CVal) : vAlloc zs h = newB h (.cells zs 0) (fun b => .ptr b 0) := (id rfl)
theorem kFoff (b : BN) (o off : Nat) : bindR (vFoff (.s (.one (.ptr b o))) off h) k = k (.s (.one (.ptr b (o + off)))) h := (id rfl)
theorem kLoad1 (b : BN) (off : Nat) : vLoad none (.s (.one (.ptr b off))) h = loadAt none h off (h.t.get b) := (id rfl)
theorem kLoadN (n : Nat) (b : BN) (off : Nat) : vLoad (some n) (.s (.one (.ptr b off))) h = loadAt (some n) h off (h.t.get b) := (id rfl)
theorem kL1 (cs : List CVal) (st off : Nat) : loadAt none h off (some (.cells cs st)) = retC h (getAt cs off) := (id rfl)
theorem kLN (n : Nat) (cs : List CVal) (st off : Nat) : loadAt (some n) h off (some (.cells cs st)) = retA h (cut n cs off) := (id rfl)
theorem kRetC (c : CVal) : bindR (retC h (some c)) k = k (.s (.one c)) h := (id rfl)
theorem kRetA (cs : List CVal) : bindR (retA h (some cs)) k = k (.s (.agg cs)) h := (id rfl)
theorem kSome (v : AVal) : bindR (some (v, h)) k = k v h := (id rfl)
theorem kLen (b : BN) (off len cap : Nat) (ex : Bool) : bindR (vLenL (.s (.one (.slc b off len cap ex))) h) k = k (.s (.one (.int .i64 (.ofNat len)))) h := (id rfl)
theorem kLenN : bindR (vLenL (.s (.one .nils)) h) k = k (.s (.one (.int .i64 (.ofNat 0)))) h := (id rfl)
theorem kIntL (g : IntKind → Int → Int → Option CVal) (x y : Int) : vInt g (.s (.one (.int .i64 x))) (.s (.one (.int .i64 y))) h = retC h (g .i64 x y) := (id rfl)
theorem kIntW (g : IntKind → Int → Int → Option CVal) (x y : Int) : vInt g (.s (.one (.int .u64 x))) (.s (.one (.int .u64 y))) h = retC h (g .u64 x y) := (id rfl)
theorem kShift (g : IntKind → Int → Int → Option CVal) (a b : IntKind) (x y : Int) : vShift g (.s (.one (.int a x))) (.s (.one (.int b y))) h = retC h (g a x y) := (id rfl)
theorem kConv (a b : IntKind) (x : Int) : bindR (vConv b (.s (.one (.int a x))) h) k = k (.s (.one (.int b (wrapF b x)))) h := (id rfl)
theorem kNot (q : Bool) : bindR (vNot (.s (.one (.bool q))) h) k = k (.s (.one (.bool (!q)))) h := (id rfl)
theorem kPick (q : Bool) (a b : AVal) : bindR (vPick (.s (.one (.bool q))) a b h) k = k (bif q then a else b) h := (id rfl)
theorem kIf (q : Bool) (a b : Option β) : ifK (.s (.one (.bool q))) a b = bif q then a else b := (id rfl)
theorem kG (q b : Bool) (x : Res) : gK (.s (.one (.bool q))) b h x = bif q == b then x else some (aundef, h) := (id rfl)
theorem kRes1 (v : SVal) : evRes h (consV (resV (.s v)) (some [])) = some (.s v, h) := (id rfl)
theorem kRes2 (v w : SVal) : evRes h (consV (resV (.s v)) (consV (resV (.s w)) (some []))) = some (.tup [v, w], h) := (id rfl)
theorem kExt (vs : List SVal) (i : Nat) : vExtract (.tup vs) i h = (match nthS vs i with | some v => some (.s v, h) | none => none) := (id rfl)
theorem kAddI (x y : Int) : evAdd .i64 x y = some (.int .i64 (wrapF .i64 (x + y))) := (id rfl)
theorem kLtI (k : IntKind) (x y : Int) : evLt k x y = some (.bool (ltI x y)) := (id rfl)
theorem kGtI (k : IntKind) (x y : Int) : evGt k x y = some (.bool (ltI y x)) := (id rfl)
theorem kLeI (k : IntKind) (x y : Int) : evLe k x y = some (.bool (leI x y)) := (id rfl)
theorem kGeI (k : IntKind) (x y : Int) : evGe k x y = some (.bool (leI y x)) := (id rfl)
theorem kEqI (k : IntKind) (x y : Int) : evEq k x y = some (.bool (eqI x y)) := (id rfl)
theorem kNeI (k : IntKind) (x y : Int) : evNe k x y = some (.bool (!(eqI x y))) := (id rfl)
theorem same1_some (v v' : AVal) (h : AHeap) : same1 (some (v', h)) v = eqA v v' := (id rfl)
theorem kIx (b : BN) (off len cap : Nat) (ex : Bool) (st i : Nat) : vIxs st (.s (.one (.slc b off len cap ex))) (.s (.one (.int .i64 (.ofNat i)))) h = (bif Nat.ble (Nat.succ i) len then some (.s (.one (.ptr b (off + i * st))), h) else none) := (id rfl)
end

theorem eqA_refl : ∀ v : AVal, eqA v v = true := by
  have hbn : ∀ a : BN, eqBN a a = true := fun a => by induction a with | z => rfl | o n ih => exact ih | d n ih => exact ih
  have hn : ∀ a : Nat, Nat.beq a a = true := Nat.beq_refl
  have hps : ∀ l : List (BN × Nat), eqPs l l = true := fun l => by
    induction l with
    | nil => rfl
    | cons p l ih => obtain ⟨b, o⟩ := p; simp only [eqPs, hbn, hn, ih]; rfl
  have hu : ∀ l : List UInt8, eqU l l = true := fun l => by
    induction l with
    | nil => rfl
    | cons a l ih => simp only [eqU, hn, ih]; rfl
  have hb : ∀ b : Bool, eqB b b = true := fun b => by cases b <;> rfl
  have hi : ∀ i : Int, eqI i i = true := fun i => by cases i <;> exact hn _
  have hk : ∀ k : IntKind, eqK k k = true := fun k => by cases k <;> rfl
  have hv : ∀ c : CVal, eqV c c = true := fun c => by cases c <;> simp only [eqV, hbn, hn, hps, hu, hb, hi, hk, Bool.and_self]
  have hvs : ∀ l : List CVal, eqVs l l = true := fun l => by
    induction l with
    | nil => rfl
    | cons a l ih => simp only [eqVs, hv, ih, Bool.and_self]
  have hsv : ∀ v : SVal, eqSv v v = true := fun v => by cases v <;> simp only [eqSv, hv, hvs]
  have hss : ∀ l : List SVal, eqSs l l = true := fun l => by
    induction l with
    | nil => rfl
    | cons a l ih => simp only [eqSs, hsv, ih, Bool.and_self]
  intro v
  cases v <;> simp only [eqA, hsv, hss]
end Go.CE
