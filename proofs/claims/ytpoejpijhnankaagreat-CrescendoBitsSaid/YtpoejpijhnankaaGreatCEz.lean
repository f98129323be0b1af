/-
  Words and integers of the evaluator as plain numbers; slices as lists; calls by their symbolic forms. No condition.
-/
import Derived.Test.YtpoejpijhnankaaGreatCEy
namespace Go.CE

theorem wrap_u {x : Nat} (h : x < 2 ^ 64) : IntKind.wrap .u64 (.ofNat x) = .ofNat x := by
  have e : IntKind.wrap .u64 (.ofNat x) = (Int.ofNat x) % (2 ^ 64 : Int) := rfl
  rw [e]
  simp only [Int.ofNat_eq_natCast]
  omega
theorem wrap_i {x : Int} (h : -(2 ^ 63) ≤ x) (h2 : x < 2 ^ 63) : IntKind.wrap .i64 x = x := by
  have e : IntKind.wrap .i64 x = (if x % (2 ^ 64 : Int) ≥ (2 ^ 63 : Int) then x % (2 ^ 64 : Int) - (2 ^ 64 : Int) else x % (2 ^ 64 : Int)) := by
    unfold IntKind.wrap
    simp [IntKind.bits, IntKind.signed]
  rw [e]
  split <;> omega
theorem ofInt_nat (x : Nat) : BitVec.ofInt 64 (.ofNat x) = BitVec.ofNat 64 x := by
  apply BitVec.eq_of_toNat_eq
  simp [BitVec.toNat_ofInt, Int.ofNat_eq_natCast]
theorem uAnd {x y : Nat} (hx : x < 2 ^ 64) (hy : y < 2 ^ 64) : evAnd .u64 (.ofNat x) (.ofNat y) = some (.int .u64 (.ofNat (x &&& y))) := by
  have : evAnd .u64 (.ofNat x) (.ofNat y) = some (.int .u64 (IntKind.wrap .u64 (.ofNat (BitVec.ofInt 64 (.ofNat x) &&& BitVec.ofInt 64 (.ofNat y)).toNat))) := rfl
  rw [this, wrap_u (BitVec.isLt _), ofInt_nat, ofInt_nat]
  simp [Nat.mod_eq_of_lt hx, Nat.mod_eq_of_lt hy]
theorem uOr {x y : Nat} (hx : x < 2 ^ 64) (hy : y < 2 ^ 64) : evOr .u64 (.ofNat x) (.ofNat y) = some (.int .u64 (.ofNat (x ||| y))) := by
  have : evOr .u64 (.ofNat x) (.ofNat y) = some (.int .u64 (IntKind.wrap .u64 (.ofNat (BitVec.ofInt 64 (.ofNat x) ||| BitVec.ofInt 64 (.ofNat y)).toNat))) := rfl
  rw [this, wrap_u (BitVec.isLt _), ofInt_nat, ofInt_nat]
  simp [Nat.mod_eq_of_lt hx, Nat.mod_eq_of_lt hy]
/-- The bits of x that y has not. -/
def andn (x y : Nat) : Nat := (BitVec.ofNat 64 x &&& ~~~(BitVec.ofNat 64 y)).toNat
theorem uAndNot (x y : Nat) : evAndNot .u64 (.ofNat x) (.ofNat y) = some (.int .u64 (.ofNat (andn x y))) := by
  have : evAndNot .u64 (.ofNat x) (.ofNat y) = some (.int .u64 (IntKind.wrap .u64 (.ofNat (BitVec.ofInt 64 (.ofNat x) &&& ~~~BitVec.ofInt 64 (.ofNat y)).toNat))) := rfl
  rw [this, wrap_u (BitVec.isLt _), ofInt_nat, ofInt_nat]
  rfl
theorem uAdd {x y : Nat} (h : x + y < 2 ^ 64) : evAdd .u64 (.ofNat x) (.ofNat y) = some (.int .u64 (.ofNat (x + y))) := by
  have : evAdd .u64 (.ofNat x) (.ofNat y) = some (.int .u64 (wrapF .u64 (.ofNat (x + y)))) := rfl
  rw [this, wrapF_eq, wrap_u h]
theorem uShr (x n : Nat) (hn : n ≤ 64) : evShr .u64 (.ofNat x) (.ofNat n) = some (.int .u64 (.ofNat (x / 2 ^ n))) := by
  have : evShr .u64 (.ofNat x) (.ofNat n) = some (.int .u64 (Int.fdiv (.ofNat x) (2 ^ (min n 64)))) := rfl
  rw [this, Nat.min_eq_left hn]
  congr 2
  rw [Int.fdiv_eq_ediv_of_nonneg _ (by exact_mod_cast Nat.zero_le (2 ^ n))]
  simp only [Int.ofNat_eq_natCast]
  norm_cast
theorem iAdd {x y : Nat} (h : x + y < 2 ^ 63) : evAdd .i64 (.ofNat x) (.ofNat y) = some (.int .i64 (.ofNat (x + y))) := by
  have : evAdd .i64 (.ofNat x) (.ofNat y) = some (.int .i64 (wrapF .i64 (.ofNat (x + y)))) := rfl
  rw [this, wrapF_eq, wrap_i (by simp only [Int.ofNat_eq_natCast]; omega) (by simp only [Int.ofNat_eq_natCast]; omega)]
theorem iAddI {x y : Int} (h : -(2 ^ 63) ≤ x + y) (h2 : x + y < 2 ^ 63) : evAdd .i64 x y = some (.int .i64 (x + y)) := by
  have : evAdd .i64 x y = some (.int .i64 (wrapF .i64 (x + y))) := rfl
  rw [this, wrapF_eq, wrap_i h h2]
theorem iAnd {x y : Nat} (hx : x < 2 ^ 63) (hy : y < 2 ^ 63) : evAnd .i64 (.ofNat x) (.ofNat y) = some (.int .i64 (.ofNat (x &&& y))) := by
  have : evAnd .i64 (.ofNat x) (.ofNat y) = some (.int .i64 (IntKind.wrap .i64 (.ofNat (BitVec.ofInt 64 (.ofNat x) &&& BitVec.ofInt 64 (.ofNat y)).toNat))) := rfl
  have hle : x &&& y ≤ x := Nat.and_le_left
  have e : (BitVec.ofInt 64 (.ofNat x) &&& BitVec.ofInt 64 (.ofNat y)).toNat = x &&& y := by
    rw [ofInt_nat, ofInt_nat]
    simp [Nat.mod_eq_of_lt (show x < 2 ^ 64 by omega), Nat.mod_eq_of_lt (show y < 2 ^ 64 by omega)]
  rw [this, e, wrap_i (by simp only [Int.ofNat_eq_natCast]; omega) (by simp only [Int.ofNat_eq_natCast]; omega)]
theorem eqN (x y : Nat) : eqI (.ofNat x) (.ofNat y) = decide (x = y) := by
  rw [eqI_eq]
  by_cases h : x = y
  · subst h; simp
  · rw [decide_eq_false h]
    simp only [beq_eq_false_iff_ne, ne_eq, Int.ofNat_eq_natCast]
    omega
theorem ltN (x y : Nat) : ltI (.ofNat x) (.ofNat y) = decide (x < y) := by
  rw [ltI_eq]
  by_cases h : x < y
  · simp [h]
  · simp [h]
theorem leN (x y : Nat) : leI (.ofNat x) (.ofNat y) = decide (x ≤ y) := by
  rw [leI_eq]
  by_cases h : x ≤ y
  · simp [h]
  · simp [h]
theorem kIxOk {β : Type} (k : AVal → AHeap → Option β) (h : AHeap) (b : BN) (off len cap : Nat) (ex : Bool) (st i : Nat) (hi : i < len) :
    bindR (vIxs st (.s (.one (.slc b off len cap ex))) (.s (.one (.int .i64 (.ofNat i)))) h) k = k (.s (.one (.ptr b (off + i * st)))) h := by
  rw [kIx, Nat.ble_eq_true_of_le hi]
  rfl

/-- A call by its symbolic form. -/
theorem Ev.call {P : Program} {sums : List Sum} {g : Nat} {args : List AVal} {h : AHeap} {Q : AVal × AHeap → Prop} (hs : findSum g args h sums = none)
    (H : Ev (fun n => kFun P g (evCallS (cCode P) (cFs (cProg P)) sums n) n args h) Q) : Ev (fun n => evCallS (cCode P) (cFs (cProg P)) sums n (.inl g) args h) Q := by
  obtain ⟨x, hx, N, hN⟩ := H
  refine ⟨x, hx, N + 1, fun n hn => ?_⟩
  cases n with
  | zero => omega
  | succ n =>
    have e := kFun_ok (hN n (by omega))
    have : evCallS (cCode P) (cFs (cProg P)) sums (n + 1) (.inl g) args h = withS sums (evBoth (cCode P) (cFs (cProg P)) (evCallS (cCode P) (cFs (cProg P)) sums n) n) (.inl g) args h := rfl
    show evCallS (cCode P) (cFs (cProg P)) sums (n + 1) (.inl g) args h = _
    rw [this]
    unfold withS
    simp only [hs]
    exact e
theorem Ev.sum {P : Program} {fs : Nat → Option RFunc} {sums : List Sum} {g : Nat} {args : List AVal} {h : AHeap} {v : AVal} (hs : findSum g args h sums = Option.some v) :
    Ev (fun n => evCallS (cCode P) fs sums n (.inl g) args h) (fun p => p = (v, h)) := by
  refine ⟨_, rfl, 1, fun n hn => ?_⟩
  cases n with
  | zero => omega
  | succ n =>
    have : evCallS (cCode P) fs sums (n + 1) (.inl g) args h = withS sums (evBoth (cCode P) fs (evCallS (cCode P) fs sums n) n) (.inl g) args h := rfl
    show evCallS (cCode P) fs sums (n + 1) (.inl g) args h = _
    rw [this]
    unfold withS
    simp only [hs]

/-! ### Slices as lists -/

/-- Cells of an object. -/
def rd (n off : Nat) : AObj → Option (List CVal)
  | .cells cs _ => cut n cs off
  | .ro _ f => cutF f n off
  | _ => none
/-- The cell is a slice whose elements (of st cells each) are the list's, as R says. -/
def Sl {α : Type} (st : Nat) (R : AHeap → List CVal → α → Prop) (h : AHeap) (c : CVal) (l : List α) : Prop :=
  (c = .nils ∧ l = []) ∨ ∃ b off cap ex, c = .slc b off l.length cap ex ∧ ∀ i x, l[i]? = some x → ∃ o ds, h.t.get b = some o ∧ rd st (off + i * st) o = some ds ∧ R h ds x

theorem Sl.mono {α : Type} {st : Nat} {R : AHeap → List CVal → α → Prop} {h h' : AHeap} {c : CVal} {l : List α} (hw : HW h) (g : Gr h h') (hR : ∀ ds x, R h ds x → R h' ds x) (H : Sl st R h c l) : Sl st R h' c l := by
  rcases H with H | ⟨b, off, cap, ex, h1, h3⟩
  · exact .inl H
  · exact .inr ⟨b, off, cap, ex, h1, fun i x hx => by
      obtain ⟨o, ds, k0, k1, k2⟩ := h3 i x hx
      exact ⟨o, ds, g.get hw k0, k1, hR ds x k2⟩⟩

theorem Sl.len {α β : Type} {st : Nat} {R : AHeap → List CVal → α → Prop} {h h' : AHeap} {c : CVal} {l : List α} (H : Sl st R h c l) (k : AVal → AHeap → Option β) :
    bindR (vLenL (.s (.one c)) h') k = k (.s (.one (.int .i64 (.ofNat l.length)))) h' := by
  rcases H with ⟨rfl, rfl⟩ | ⟨b, off, cap, ex, rfl, _⟩
  · rfl
  · rfl

/-- Words. -/
def RW (_ : AHeap) (ds : List CVal) (x : Nat) : Prop := ds = [.int .u64 (.ofNat x)] ∧ x < 2 ^ 64
theorem cut_one {cs : List CVal} {i : Nat} {c : CVal} (h : cut 1 cs i = some [c]) : getAt cs i = some c := by
  rw [getAt_eq]
  have := (cut_get h).2 0 c rfl
  simpa using this

/-- A word of a slice: its place, and the load. -/
theorem rd_one {o : AObj} {off : Nat} {c : CVal} {h : AHeap} (e : rd 1 off o = some [c]) : loadAt none h off (some o) = some (.s (.one c), h) := by
  cases o with
  | cells cs st => show retC h (getAt cs off) = _; rw [cut_one e]; rfl
  | ro x f =>
    show retC h (f off) = _
    simp only [rd, cutF] at e
    cases hf : f off with
    | none => rw [hf] at e; cases e
    | some d => rw [hf] at e; cases e; rfl
  | _ => cases e
theorem Sl.word {β : Type} {h : AHeap} {c : CVal} {l : List Nat} (H : Sl 1 RW h c l) {i x : Nat} (hx : l[i]? = some x) :
    x < 2 ^ 64 ∧ ∃ b o ob, h.t.get b = some ob ∧ (∀ h' (k : AVal → AHeap → Option β), bindR (vIxs 1 (.s (.one c)) (.s (.one (.int .i64 (.ofNat i)))) h') k = k (.s (.one (.ptr b o))) h') ∧
      (∀ h', vIxs 1 (.s (.one c)) (.s (.one (.int .i64 (.ofNat i)))) h' = some (.s (.one (.ptr b o)), h')) ∧
      (∀ h', h'.t.get b = some ob → vLoad none (.s (.one (.ptr b o))) h' = some (.s (.one (.int .u64 (.ofNat x))), h')) := by
  rcases H with ⟨rfl, rfl⟩ | ⟨b, off, cap, ex, rfl, h3⟩
  · simp at hx
  · obtain ⟨ob, ds, k0, k1, rfl, k3⟩ := h3 i x hx
    have hi : i < l.length := (List.getElem?_eq_some_iff.1 hx).1
    refine ⟨k3, b, off + i * 1, ob, k0, fun h' k => kIxOk k h' b off _ cap ex 1 i hi, fun h' => ?_, fun h' hh => ?_⟩
    · rw [kIx, Nat.ble_eq_true_of_le hi]; rfl
    · rw [kLoad1, hh, rd_one k1]
end Go.CE
