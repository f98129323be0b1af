/-
  What the functions of the law CrescendoBits answer: the number of set bits. No condition.
-/
import Derived.Test.YtpoejpijhnankaaGreatCa
import Derived.Test.YtpoejpijhnankaaGreatPc
namespace Go.Proofs.Tryz.Kn
open Go Go.CE

/-! ### The number of set bits -/

abbrev pc64 (x : Nat) : Nat := Pc.pc 64 x

theorem pc_le : ∀ n x, Pc.pc n x ≤ n
  | 0, _ => Nat.le_refl _
  | n + 1, x => by have := pc_le n x; simp only [Pc.pc]; omega

theorem count_ok (h : AHeap) {x : Nat} (hx : x < 2 ^ 64) : Ev (fun n => C n (.inl 19) [.s (.one (wd x))] h) (fun p => p = (ii (pc64 x), h)) := by
  refine fn rfl ?_
  simp only [m19, M19]
  refine Ev.bindX ((Ev.loop (Q := fun p => p.1 = .exit 0 ∧ nthA p.2.1 9 = ii (pc64 x) ∧ p.2.2 = h)
    (fun k ys hh => ∃ i, k + i = 64 ∧ nthA ys 12 = ii i ∧ nthA ys 9 = ii (Pc.pc i x) ∧ hh = h) ?_ 64 _ _ ⟨0, rfl, rfl, rfl, rfl⟩).mono ?_)
  · rintro k ys hh ⟨i, hk, hi, hp, rfl⟩
    simp only [L19_1, hi, kIntL, kLtI, ltN, kIf, kRc, kSome]
    by_cases hlt : i < 64
    · have hd : x / 2 ^ i < 2 ^ 64 := Nat.lt_of_le_of_lt (Nat.div_le_self _ _) hx
      have h1 : x / 2 ^ i &&& 1 = x / 2 ^ i % 2 := Nat.and_one_is_mod _
      have hle := pc_le i x
      simp only [decide_eq_true hlt, cond_true, kShift, uShr x i (by omega), kRc, kSome, kIntW, uAnd hd (show 1 < 2 ^ 64 by decide), h1, kEqI, eqN, kIf, hp]
      by_cases hb : x / 2 ^ i % 2 = 1
      · simp only [decide_eq_true hb, cond_true, kIntL, iAdd (show Pc.pc i x + 1 < 2 ^ 63 by omega), kRc, kSome, J19_0, hi, iAdd (show i + 1 < 2 ^ 63 by omega)]
        refine Ev.some ?_
        refine ⟨k - 1, by omega, i + 1, by omega, rfl, ?_, rfl⟩
        show ii _ = ii (Pc.pc i x + x / 2 ^ i % 2)
        rw [hb]
      · simp only [decide_eq_false hb, cond_false, J19_0, hi, kIntL, iAdd (show i + 1 < 2 ^ 63 by omega), kRc, kSome]
        refine Ev.some ?_
        refine ⟨k - 1, by omega, i + 1, by omega, rfl, ?_, rfl⟩
        show ii (Pc.pc i x) = ii (Pc.pc i x + x / 2 ^ i % 2)
        rw [show x / 2 ^ i % 2 = 0 by omega, Nat.add_zero]
    · simp only [decide_eq_false hlt, cond_false]
      refine Ev.some ?_
      refine ⟨rfl, ?_, rfl⟩
      show nthA ys 9 = _
      rw [hp, show i = 64 by omega]
  · rintro ⟨e, ys, h3⟩ ⟨rfl, hq, rfl⟩
    simp only at hq ⊢
    simp only [Nat.beq, cond_true, hq, kRes1]
    exact Ev.some rfl

theorem sh1 (x : Nat) : evShr .u64 (.ofNat x) (.ofNat 1) = some (wd (x / 2)) := uShr x 1 (by decide)
theorem sh2 (x : Nat) : evShr .u64 (.ofNat x) (.ofNat 2) = some (wd (x / 4)) := uShr x 2 (by decide)
theorem sh4 (x : Nat) : evShr .u64 (.ofNat x) (.ofNat 4) = some (wd (x / 16)) := uShr x 4 (by decide)
theorem sh8 (x : Nat) : evShr .u64 (.ofNat x) (.ofNat 8) = some (wd (x / 256)) := uShr x 8 (by decide)
theorem sh16 (x : Nat) : evShr .u64 (.ofNat x) (.ofNat 16) = some (wd (x / 65536)) := uShr x 16 (by decide)
theorem sh32 (x : Nat) : evShr .u64 (.ofNat x) (.ofNat 32) = some (wd (x / 4294967296)) := uShr x 32 (by decide)

theorem Ones_ok (h : AHeap) {x : Nat} (hx : x < 2 ^ 64) : Ev (fun n => C n (.inl 18) [.s (.one (wd x))] h) (fun p => p = (ii (pc64 x), h)) := by
  refine fn rfl ?_
  have r1 : Pc.rp 85 8 = 6148914691236517205 := by decide
  have r2 : Pc.rp 51 8 = 3689348814741910323 := by decide
  have r3 : Pc.rp 15 8 = 1085102592571150095 := by decide
  have c1 : (6148914691236517205 : Nat) < 2 ^ 64 := by decide
  have c2 : (3689348814741910323 : Nat) < 2 ^ 64 := by decide
  have c3 : (1085102592571150095 : Nat) < 2 ^ 64 := by decide
  obtain ⟨x1, e1⟩ : ∃ x1, x1 = ((x / 2) &&& 6148914691236517205) + (x &&& 6148914691236517205) := ⟨_, rfl⟩
  have q1 : (x / 2) &&& 6148914691236517205 ≤ 6148914691236517205 := Nat.and_le_right
  have q2 : x &&& 6148914691236517205 ≤ 6148914691236517205 := Nat.and_le_right
  have l1 : x1 < 2 ^ 64 := by omega
  obtain ⟨x2, e2⟩ : ∃ x2, x2 = ((x1 / 4) &&& 3689348814741910323) + (x1 &&& 3689348814741910323) := ⟨_, rfl⟩
  have q3 : (x1 / 4) &&& 3689348814741910323 ≤ 3689348814741910323 := Nat.and_le_right
  have q4 : x1 &&& 3689348814741910323 ≤ 3689348814741910323 := Nat.and_le_right
  have l2 : x2 ≤ 7378697629483820646 := by omega
  obtain ⟨z, ez⟩ : ∃ z, z = (x2 / 16 + x2) &&& 1085102592571150095 := ⟨_, rfl⟩
  have lz : z ≤ 1085102592571150095 := by rw [ez]; exact Nat.and_le_right
  have hz : z = Pc.dm Pc.h 8 x := by
    rw [← Pc.oc_eq]
    unfold Pc.oc
    rw [r1, r2, r3]
    simp only
    rw [← e1, ← e2, ez]
  obtain ⟨y1, f1⟩ : ∃ y1, y1 = z + z / 256 := ⟨_, rfl⟩
  obtain ⟨y2, f2⟩ : ∃ y2, y2 = y1 + y1 / 65536 := ⟨_, rfl⟩
  obtain ⟨y3, f3⟩ : ∃ y3, y3 = y2 + y2 / 4294967296 := ⟨_, rfl⟩
  have b1 : z + z / 256 < 2 ^ 63 := by omega
  have b2 : y1 + y1 / 65536 < 2 ^ 63 := by omega
  have b3 : y2 + y2 / 4294967296 < 2 ^ 63 := by omega
  have hm := fun (a : Nat) => Nat.mod_lt a (show 256 > 0 by decide)
  have hfold := Pc.fold _ _ _ _ _ _ _ _ (Pc.h_le _ (hm x)) (Pc.h_le _ (hm (x / 256))) (Pc.h_le _ (hm (x / 256 / 256))) (Pc.h_le _ (hm (x / 256 / 256 / 256))) (Pc.h_le _ (hm (x / 256 / 256 / 256 / 256)))
    (Pc.h_le _ (hm (x / 256 / 256 / 256 / 256 / 256))) (Pc.h_le _ (hm (x / 256 / 256 / 256 / 256 / 256 / 256))) (Pc.h_le _ (hm (x / 256 / 256 / 256 / 256 / 256 / 256 / 256))) z y1 y2 y3 hz f1 f2 f3
  have hres : y3 &&& 127 = pc64 x := by
    rw [show (127 : Nat) = 2 ^ 7 - 1 from rfl, Nat.and_two_pow_sub_one_eq_mod]
    show y3 % 128 = _
    rw [hfold, pc64, Pc.pc_sum8]
    rfl
  have hw3 : wrapF .i64 (.ofNat y3) = .ofNat y3 := by
    rw [wrapF_eq, wrap_i (by simp only [Int.ofNat_eq_natCast]; omega) (by simp only [Int.ofNat_eq_natCast]; omega)]
  simp only [m18, M18, kShift, sh1, kRc, kSome, kIntW, uAnd (show x / 2 < 2 ^ 64 by omega) c1, uAnd hx c1, uAdd (show (x / 2 &&& 6148914691236517205) + (x &&& 6148914691236517205) < 2 ^ 64 by omega), ← e1,
    sh2, uAnd (show x1 / 4 < 2 ^ 64 by omega) c2, uAnd l1 c2, uAdd (show (x1 / 4 &&& 3689348814741910323) + (x1 &&& 3689348814741910323) < 2 ^ 64 by omega), ← e2,
    sh4, uAdd (show x2 / 16 + x2 < 2 ^ 64 by omega), uAnd (show x2 / 16 + x2 < 2 ^ 64 by omega) c3, ← ez, sh8, uAdd (show z + z / 256 < 2 ^ 64 by omega), ← f1, sh16, uAdd (show y1 + y1 / 65536 < 2 ^ 64 by omega), ← f2,
    sh32, uAdd (show y2 + y2 / 4294967296 < 2 ^ 64 by omega), ← f3, kConv, hw3, kIntL, iAnd (show y3 < 2 ^ 63 by omega) (show 127 < 2 ^ 63 by decide), hres, kRes1]
  exact Ev.some rfl
end Go.Proofs.Tryz.Kn
