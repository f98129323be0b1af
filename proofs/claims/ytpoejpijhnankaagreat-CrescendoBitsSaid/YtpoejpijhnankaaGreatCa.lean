/-
  What the functions of the law CrescendoBits answer: contracts on their symbolic forms. No condition.
-/
import Derived.Test.YtpoejpijhnankaaGreatKs
import Derived.Test.YtpoejpijhnankaaGreatCb
namespace Go.Proofs.Tryz.Kn
open Go Go.CE

abbrev wd (x : Nat) : CVal := .int .u64 (.ofNat x)
abbrev ii (x : Nat) : AVal := .s (.one (.int .i64 (.ofNat x)))
abbrev bb (q : Bool) : AVal := .s (.one (.bool q))

structure RegD where
  st : List Nat
  c : Nat
  o : Nat
structure Rg (h : AHeap) (s : CVal) (r : RegD) : Prop where
  sl : Sl 1 RW h s r.st
  c : r.c < 2 ^ 64
  o : r.o < 2 ^ 64
abbrev rv (s : CVal) (r : RegD) : AVal := .s (.agg [s, wd r.c, wd r.o])
theorem Rg.mono {h h' : AHeap} {s : CVal} {r : RegD} (H : Rg h s r) (hw : HW h) (g : Gr h h') : Rg h' s r := ⟨H.sl.mono hw g (fun _ _ h => h), H.c, H.o⟩

/-- The call leaves all as it was. -/
abbrev Kp (h : AHeap) (v : AVal) (p : AVal × AHeap) : Prop := p.1 = v ∧ HW p.2 ∧ Gr h p.2

def entF (l : List Nat) (i : Nat) : Nat := (l[i]?).getD 0

theorem cut3 (a b c : CVal) : cut 3 [a, b, c] 0 = some [a, b, c] := (id rfl)
theorem ga0 (a : CVal) (l : List CVal) : getAt (a :: l) 0 = some a := (id rfl)
theorem ga1 (a b : CVal) (l : List CVal) : getAt (a :: b :: l) 1 = some b := (id rfl)
theorem ga2 (a b c : CVal) (l : List CVal) : getAt (a :: b :: c :: l) 2 = some c := (id rfl)

theorem kFo (b : BN) (o off : Nat) (h : AHeap) : vFoff (.s (.one (.ptr b o))) off h = some (.s (.one (.ptr b (o + off))), h) := (id rfl)
theorem kRc (c : CVal) (h : AHeap) : retC h (some c) = some (.s (.one c), h) := (id rfl)
theorem kRa (cs : List CVal) (h : AHeap) : retA h (some cs) = some (.s (.agg cs), h) := (id rfl)
theorem z0 : 0 + 0 = 0 := rfl
theorem z1 : 0 + 1 = 1 := rfl
theorem z2 : 0 + 2 = 2 := rfl

theorem entry_go {h : AHeap} (hw : HW h) {s : CVal} {r : RegD} (H : Rg h s r) (i : Nat) {M : Nat → AVal → AVal → AHeap → Res} (hM : ∀ n a0 a1 h0, M n a0 a1 h0 = M17 (C n) n a0 a1 h0) :
    Ev (fun n => M n (rv s r) (ii i) h) (Kp h (.s (.one (wd (entF r.st i))))) := by
  simp only [hM, M17, kBox]
  refine Ev.new hw fun b1 h1 e1 n1 g1 hw1 G1 => ?_
  have H1 := H.mono hw G1
  simp only [SVal.cells] at g1
  simp only [kFo, kSome, kLoad1, g1, kL1, z0, ga0, kRc, H1.sl.len, kIntL, kLtI, ltN, kIf]
  cases hx : r.st[i]? with
  | none =>
    have hi : ¬ i < r.st.length := by have := List.getElem?_eq_none_iff.1 hx; omega
    simp only [decide_eq_false hi, cond_false, kRes1]
    refine Ev.some ?_
    exact ⟨by simp [entF, hx], hw1, G1⟩
  | some x =>
    have hi : i < r.st.length := (List.getElem?_eq_some_iff.1 hx).1
    obtain ⟨hx64, b, o, ob, hb, _, k2, k3⟩ := H1.sl.word (β := AVal × AHeap) hx
    simp only [decide_eq_true hi, cond_true, k2, k3 _ hb, kSome, kRes1]
    refine Ev.some ?_
    exact ⟨by simp [entF, hx], hw1, G1⟩
theorem entry_ok {h : AHeap} (hw : HW h) {s : CVal} {r : RegD} (H : Rg h s r) (i : Nat) : Ev (fun n => C n (.inl 17) [rv s r, ii i] h) (Kp h (.s (.one (wd (entF r.st i))))) := by
  refine fn rfl ?_
  simp only [m17]
  exact entry_go hw H i fun _ _ _ _ => rfl
theorem lentry_ok {h : AHeap} (hw : HW h) {s : CVal} {r : RegD} (H : Rg h s r) (i : Nat) : Ev (fun n => C n (.inl 10) [rv s r, ii i] h) (Kp h (.s (.one (wd (entF r.st i))))) := by
  refine fn rfl ?_
  simp only [m10]
  exact entry_go hw H i fun _ _ _ _ => rfl

/-- Entry by entry. -/
def witL (a b : List Nat) : Prop := ∀ i, i < a.length → andn (entF a i) (entF b i) = 0
open Classical in
noncomputable def witF (a b : RegD) : Bool := decide (witL a.st b.st) && (decide (andn a.c b.c = 0) && decide (andn a.o b.o = 0))

theorem ent_get {l : List Nat} {i x : Nat} (h : l[i]? = some x) : entF l i = x := by simp [entF, h]

theorem Within_ok {h : AHeap} (hw : HW h) {s t : CVal} {a b : RegD} (A : Rg h s a) (B : Rg h t b) (hl : a.st.length < 2 ^ 62) : Ev (fun n => C n (.inl 6) [rv s a, rv t b] h) (Kp h (bb (witF a b))) := by
  refine fn rfl ?_
  simp only [m6, M6, kBox]
  refine Ev.new hw fun b1 h1 e1 n1 g1 hw1 G1 => ?_
  refine Ev.new hw1 fun b2 h2 e2 n2 g2 hw2 G2 => ?_
  simp only [SVal.cells] at g1 g2
  replace g1 := G2.get hw1 g1
  have G := G1.trans G2
  have A2 := A.mono hw G
  have B2 := B.mono hw G
  simp only [kFo, kSome, kLoad1, g1, kL1, z0, ga0, kRc, A2.sl.len]
  refine Ev.bindX ((Ev.loop (Q := fun p => HW p.2.2 ∧ Gr h2 p.2.2 ∧ ((p.1 = .exit 0 ∧ witL a.st b.st) ∨ (p.1 = .ret ∧ nthA p.2.1 12 = bb false ∧ ¬ witL a.st b.st)))
    (fun k ys hh => ∃ i, k + i = a.st.length ∧ nthA ys 14 = ii i ∧ HW hh ∧ Gr h2 hh ∧ ∀ j, j < i → andn (entF a.st j) (entF b.st j) = 0) ?_ a.st.length _ _ ⟨0, rfl, rfl, hw2, Gr.refl _, fun j hj => by omega⟩).mono ?_)
  · rintro k ys hh ⟨i, hk, hi, hwh, Gh, hz⟩
    simp only [L6_0, hi, kIntL, kLtI, ltN, kIf, kRc, kSome]
    by_cases hlt : i < a.st.length
    · obtain ⟨x, hx⟩ : ∃ x, a.st[i]? = some x := ⟨_, List.getElem?_eq_getElem hlt⟩
      obtain ⟨hx64, bq, o, ob, hb, _, k2, k3⟩ := (A2.mono hw2 Gh).sl.word (β := AVal × AHeap) hx
      simp only [decide_eq_true hlt, cond_true, k2, k3 _ hb, kSome, kLoadN, Gh.get hw2 g2, kLN, cut3, kRa]
      refine Ev.bindR ((entry_ok hwh (B2.mono hw2 Gh) i).mono ?_)
      rintro ⟨v, h'⟩ ⟨rfl, hw', G'⟩
      simp only [kIntW, uAndNot, kRc, kSome, kNeI, eqN, kIf, hi]
      by_cases hz0 : andn x (entF b.st i) = 0
      · simp only [decide_eq_true hz0, Bool.not_true, cond_false, kIntL, iAdd (show i + 1 < 2 ^ 63 by omega), kRc, kSome]
        refine Ev.some ?_
        refine ⟨k - 1, by omega, i + 1, by omega, rfl, hw', Gh.trans G', fun j hj => ?_⟩
        by_cases hji : j = i
        · rw [hji, ent_get hx]; exact hz0
        · exact hz j (by omega)
      · simp only [decide_eq_false hz0, Bool.not_false, cond_true]
        refine Ev.some ?_
        exact ⟨hw', Gh.trans G', .inr ⟨rfl, rfl, fun hh => hz0 (by have := hh i hlt; rwa [ent_get hx] at this)⟩⟩
    · simp only [decide_eq_false hlt, cond_false]
      refine Ev.some ?_
      exact ⟨hwh, Gh, .inl ⟨rfl, fun j hj => hz j (by omega)⟩⟩
  · rintro ⟨e, ys, h3⟩ ⟨hw3, G3, ⟨rfl, hq⟩ | ⟨rfl, hq, hn⟩⟩
    · simp only at hw3 G3 ⊢
      simp only [Nat.beq, cond_true, kFo, kSome, kLoad1, G3.get hw2 g1, G3.get hw2 g2, kL1, z1, z2, ga1, ga2, kRc, kIntW, uAndNot, kEqI, eqN, kG]
      by_cases hc : andn a.c b.c = 0
      · simp only [decide_eq_true hc, beq_self_eq_true, cond_true, kFo, kSome, kLoad1, G3.get hw2 g1, G3.get hw2 g2, kL1, z2, ga2, kRc, kIntW, uAndNot, kEqI, eqN, kPick, kRes1]
        refine Ev.some ?_
        exact ⟨by simp [witF, hq, hc], hw3, G.trans G3⟩
      · simp only [decide_eq_false hc, show (false == true) = false from rfl, cond_false, kSome, kPick, kRes1]
        refine Ev.some ?_
        exact ⟨by simp [witF, hc], hw3, G.trans G3⟩
    · simp only at hw3 G3 hq ⊢
      rw [hq]
      simp only [kRes1]
      refine Ev.some ?_
      exact ⟨by simp [witF, hn], hw3, G.trans G3⟩

theorem lwithin_ok {h : AHeap} (hw : HW h) {s t : CVal} {a b : RegD} (A : Rg h s a) (B : Rg h t b) (hl : a.st.length < 2 ^ 62) : Ev (fun n => C n (.inl 7) [rv s a, rv t b] h) (Kp h (bb (witF a b))) := by
  refine fn rfl ?_
  simp only [m7, M7, kBox]
  refine Ev.new hw fun b1 h1 e1 n1 g1 hw1 G1 => ?_
  refine Ev.new hw1 fun b2 h2 e2 n2 g2 hw2 G2 => ?_
  simp only [SVal.cells] at g1 g2
  replace g1 := G2.get hw1 g1
  have G := G1.trans G2
  have A2 := A.mono hw G
  have B2 := B.mono hw G
  refine Ev.bindX ((Ev.loop (Q := fun p => HW p.2.2 ∧ Gr h2 p.2.2 ∧ ((p.1 = .exit 0 ∧ witL a.st b.st) ∨ (p.1 = .ret ∧ nthA p.2.1 15 = bb false ∧ ¬ witL a.st b.st)))
    (fun k ys hh => ∃ i, k + i = a.st.length ∧ nthA ys 18 = ii i ∧ HW hh ∧ Gr h2 hh ∧ ∀ j, j < i → andn (entF a.st j) (entF b.st j) = 0) ?_ a.st.length _ _ ⟨0, rfl, rfl, hw2, Gr.refl _, fun j hj => by omega⟩).mono ?_)
  · rintro k ys hh ⟨i, hk, hi, hwh, Gh, hz⟩
    simp only [L7_0, hi, kFo, kLoad1, Gh.get hw2 g1, kL1, z0, ga0, A2.sl.len, kIntL, kLtI, ltN, kIf, kRc, kSome]
    by_cases hlt : i < a.st.length
    · obtain ⟨x, hx⟩ : ∃ x, a.st[i]? = some x := ⟨_, List.getElem?_eq_getElem hlt⟩
      obtain ⟨hx64, bq, o, ob, hb, _, k2, k3⟩ := (A2.mono hw2 Gh).sl.word (β := AVal × AHeap) hx
      simp only [decide_eq_true hlt, cond_true, k2, k3 _ hb, kSome, kLoadN, Gh.get hw2 g2, kLN, cut3, kRa]
      refine Ev.bindR ((lentry_ok hwh (B2.mono hw2 Gh) i).mono ?_)
      rintro ⟨v, h'⟩ ⟨rfl, hw', G'⟩
      have Gh' := Gh.trans G'
      simp only [kIntW, uAndNot, kRc, kSome, kNeI, eqN, kIf, hi, kLoad1, Gh'.get hw2 g1, kL1, ga0, same1_some, eqA_refl, k3 _ (G'.get hwh hb), Bool.and_self, cond_true]
      by_cases hz0 : andn x (entF b.st i) = 0
      · simp only [decide_eq_true hz0, Bool.not_true, cond_false, kIntL, iAdd (show i + 1 < 2 ^ 63 by omega), kRc, kSome]
        refine Ev.some ?_
        refine ⟨k - 1, by omega, i + 1, by omega, rfl, hw', Gh.trans G', fun j hj => ?_⟩
        by_cases hji : j = i
        · rw [hji, ent_get hx]; exact hz0
        · exact hz j (by omega)
      · simp only [decide_eq_false hz0, Bool.not_false, cond_true]
        refine Ev.some ?_
        exact ⟨hw', Gh.trans G', .inr ⟨rfl, rfl, fun hh => hz0 (by have := hh i hlt; rwa [ent_get hx] at this)⟩⟩
    · simp only [decide_eq_false hlt, cond_false]
      refine Ev.some ?_
      exact ⟨hwh, Gh, .inl ⟨rfl, fun j hj => hz j (by omega)⟩⟩
  · rintro ⟨e, ys, h3⟩ ⟨hw3, G3, ⟨rfl, hq⟩ | ⟨rfl, hq, hn⟩⟩
    · simp only at hw3 G3 ⊢
      simp only [Nat.beq, cond_true, kFo, kSome, kLoad1, G3.get hw2 g1, G3.get hw2 g2, kL1, z1, z2, ga1, ga2, kRc, kIntW, uAndNot, kEqI, eqN, kG]
      by_cases hc : andn a.c b.c = 0
      · simp only [decide_eq_true hc, beq_self_eq_true, cond_true, kFo, kSome, kLoad1, G3.get hw2 g1, G3.get hw2 g2, kL1, z2, ga2, kRc, kIntW, uAndNot, kEqI, eqN, kPick, kRes1]
        refine Ev.some ?_
        exact ⟨by simp [witF, hq, hc], hw3, G.trans G3⟩
      · simp only [decide_eq_false hc, show (false == true) = false from rfl, cond_false, kSome, kPick, kRes1]
        refine Ev.some ?_
        exact ⟨by simp [witF, hc], hw3, G.trans G3⟩
    · simp only at hw3 G3 hq ⊢
      rw [hq]
      simp only [kRes1]
      refine Ev.some ?_
      exact ⟨by simp [witF, hn], hw3, G.trans G3⟩

end Go.Proofs.Tryz.Kn
