/-
  What the functions of the law CrescendoBits answer: sizes, and both together. No condition.
-/
import Derived.Test.YtpoejpijhnankaaGreatCc
namespace Go.Proofs.Tryz.Kn
open Go Go.CE

/-- The set bits of the first entries. -/
def sumTo (l : List Nat) : Nat → Nat
  | 0 => 0
  | i + 1 => sumTo l i + pc64 (entF l i)
def sizF (r : RegD) : Nat := pc64 r.c + pc64 r.o + sumTo r.st r.st.length
theorem pc64_le (x : Nat) : pc64 x ≤ 64 := pc_le 64 x
theorem sumTo_le (l : List Nat) : ∀ i, sumTo l i ≤ 64 * i
  | 0 => Nat.le_refl _
  | i + 1 => by have := sumTo_le l i; have := pc64_le (entF l i); simp only [sumTo]; omega

theorem Size_ok {h : AHeap} (hw : HW h) {s : CVal} {r : RegD} (H : Rg h s r) (hl : r.st.length < 2 ^ 32) : Ev (fun n => C n (.inl 8) [rv s r] h) (Kp h (ii (sizF r))) := by
  refine fn rfl ?_
  simp only [m8, M8, kBox]
  refine Ev.new hw fun b1 h1 e1 n1 g1 hw1 G1 => ?_
  simp only [SVal.cells] at g1
  have H1 := H.mono hw G1
  have p1 := pc64_le r.c
  have p2 := pc64_le r.o
  simp only [kFo, kSome, kLoad1, g1, kL1, z1, z2, ga1, ga2, kRc]
  refine Ev.bindR ((Ones_ok h1 H.c).mono ?_)
  rintro ⟨v, h'⟩ hh
  cases hh
  simp only [kFo, kSome, kLoad1, g1, kL1, z1, z2, ga1, ga2, kRc]
  refine Ev.bindR ((Ones_ok h1 H.o).mono ?_)
  rintro ⟨v, h'⟩ hh
  cases hh
  simp only [kIntL, iAdd (show pc64 r.c + pc64 r.o < 2 ^ 63 by omega), kRc, kFo, kSome, kLoad1, g1, kL1, z0, z2, ga0, ga2, same1_some, eqA_refl, Bool.and_self, cond_true, H1.sl.len]
  refine Ev.bindX ((Ev.loop (Q := fun p => p.1 = .exit 0 ∧ nthA p.2.1 8 = ii (sizF r) ∧ p.2.2 = h1)
    (fun k ys hh => ∃ i, k + i = r.st.length ∧ nthA ys 10 = ii i ∧ nthA ys 8 = ii (pc64 r.c + pc64 r.o + sumTo r.st i) ∧ hh = h1) ?_ r.st.length _ _ ⟨0, rfl, rfl, rfl, rfl⟩).mono ?_)
  · rintro k ys hh ⟨i, hk, hi, hp, rfl⟩
    simp only [L8_0, hi, kIntL, kLtI, ltN, kIf, kRc, kSome]
    by_cases hlt : i < r.st.length
    · obtain ⟨x, hx⟩ : ∃ x, r.st[i]? = some x := ⟨_, List.getElem?_eq_getElem hlt⟩
      obtain ⟨hx64, bq, o, ob, hb, _, k2, k3⟩ := H1.sl.word (β := AVal × AHeap) hx
      simp only [decide_eq_true hlt, cond_true, k2, k3 _ hb, kSome]
      refine Ev.bindR ((Ones_ok hh hx64).mono ?_)
      rintro ⟨v, h'⟩ hh
      cases hh
      have s1 := sumTo_le r.st i
      have s2 := pc64_le x
      simp only [hp, hi, kIntL, iAdd (show pc64 r.c + pc64 r.o + sumTo r.st i + pc64 x < 2 ^ 63 by omega), iAdd (show i + 1 < 2 ^ 63 by omega), kRc, kSome]
      refine Ev.some ?_
      refine ⟨k - 1, by omega, i + 1, by omega, rfl, ?_, rfl⟩
      show ii _ = ii (pc64 r.c + pc64 r.o + (sumTo r.st i + pc64 (entF r.st i)))
      rw [ent_get hx, Nat.add_assoc]
    · simp only [decide_eq_false hlt, cond_false]
      refine Ev.some ?_
      refine ⟨rfl, ?_, rfl⟩
      show nthA ys 8 = _
      rw [hp, show i = r.st.length by omega]
      rfl
  · rintro ⟨e, ys, h3⟩ ⟨rfl, hq, rfl⟩
    simp only at hq ⊢
    simp only [Nat.beq, cond_true, hq, kRes1]
    refine Ev.some ?_
    exact ⟨rfl, hw1, G1⟩

theorem lsize_ok {h : AHeap} (hw : HW h) {s : CVal} {r : RegD} (H : Rg h s r) (hl : r.st.length < 2 ^ 32) : Ev (fun n => C n (.inl 9) [rv s r] h) (Kp h (ii (sizF r))) := by
  refine fn rfl ?_
  simp only [m9, M9, kBox]
  refine Ev.new hw fun b1 h1 e1 n1 g1 hw1 G1 => ?_
  simp only [SVal.cells] at g1
  have H1 := H.mono hw G1
  have p1 := pc64_le r.c
  have p2 := pc64_le r.o
  simp only [kFo, kSome, kLoad1, g1, kL1, z1, z2, ga1, ga2, kRc]
  refine Ev.bindR ((count_ok h1 H.c).mono ?_)
  rintro ⟨v, h'⟩ hh
  cases hh
  simp only [kFo, kSome, kLoad1, g1, kL1, z1, z2, ga1, ga2, kRc]
  refine Ev.bindR ((count_ok h1 H.o).mono ?_)
  rintro ⟨v, h'⟩ hh
  cases hh
  simp only [kIntL, iAdd (show pc64 r.c + pc64 r.o < 2 ^ 63 by omega), kRc, kFo, kSome, kLoad1, g1, kL1, z0, z2, ga0, ga2, same1_some, eqA_refl, Bool.and_self, cond_true]
  refine Ev.bindX ((Ev.loop (Q := fun p => p.1 = .exit 0 ∧ nthA p.2.1 13 = ii (sizF r) ∧ p.2.2 = h1)
    (fun k ys hh => ∃ i, k + i = r.st.length ∧ nthA ys 16 = ii i ∧ nthA ys 13 = ii (pc64 r.c + pc64 r.o + sumTo r.st i) ∧ hh = h1) ?_ r.st.length _ _ ⟨0, rfl, rfl, rfl, rfl⟩).mono ?_)
  · rintro k ys hh ⟨i, hk, hi, hp, rfl⟩
    simp only [L9_0, hi, kFo, kLoad1, g1, kL1, z0, ga0, H1.sl.len, kIntL, kLtI, ltN, kIf, kRc, kSome]
    by_cases hlt : i < r.st.length
    · obtain ⟨x, hx⟩ : ∃ x, r.st[i]? = some x := ⟨_, List.getElem?_eq_getElem hlt⟩
      obtain ⟨hx64, bq, o, ob, hb, _, k2, k3⟩ := H1.sl.word (β := AVal × AHeap) hx
      simp only [decide_eq_true hlt, cond_true, k2, k3 _ hb, kSome]
      refine Ev.bindR ((count_ok hh hx64).mono ?_)
      rintro ⟨v, h'⟩ hh
      cases hh
      have s1 := sumTo_le r.st i
      have s2 := pc64_le x
      simp only [hp, hi, kIntL, iAdd (show pc64 r.c + pc64 r.o + sumTo r.st i + pc64 x < 2 ^ 63 by omega), iAdd (show i + 1 < 2 ^ 63 by omega), kRc, kSome]
      refine Ev.some ?_
      refine ⟨k - 1, by omega, i + 1, by omega, rfl, ?_, rfl⟩
      show ii _ = ii (pc64 r.c + pc64 r.o + (sumTo r.st i + pc64 (entF r.st i)))
      rw [ent_get hx, Nat.add_assoc]
    · simp only [decide_eq_false hlt, cond_false]
      refine Ev.some ?_
      refine ⟨rfl, ?_, rfl⟩
      show nthA ys 13 = _
      rw [hp, show i = r.st.length by omega]
      rfl
  · rintro ⟨e, ys, h3⟩ ⟨rfl, hq, rfl⟩
    simp only at hq ⊢
    simp only [Nat.beq, cond_true, hq, kRes1]
    refine Ev.some ?_
    exact ⟨rfl, hw1, G1⟩
end Go.Proofs.Tryz.Kn
