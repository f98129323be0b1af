/-
  The law CrescendoBits on its symbolic form: it answers true. No condition.
-/
import Derived.Test.YtpoejpijhnankaaGreatCe
namespace Go.Proofs.Tryz.Kn
open Go Go.CE

theorem andn_or1 (x y : Nat) : andn x (x ||| y) = 0 := by
  unfold andn
  rw [BitVec.ofNat_or]
  generalize BitVec.ofNat 64 x = p
  generalize BitVec.ofNat 64 y = q
  have : p &&& ~~~(p ||| q) = 0#64 := by
    ext i
    simp
    intro h1 h2
    simp [h1] at h2
  rw [this]
  rfl
theorem andn_or2 (x y : Nat) : andn y (x ||| y) = 0 := by rw [Nat.or_comm]; exact andn_or1 y x

theorem ent_both (a b : RegD) (i : Nat) (hi : i < max a.st.length b.st.length) : entF (bothR a b).st i = entF a.st i ||| entF b.st i := by
  apply ent_get
  simp only [bothR, List.getElem?_map, List.getElem?_range hi, Option.map_some, orF]
theorem both_len (a b : RegD) : (bothR a b).st.length = max a.st.length b.st.length := by simp [bothR]
theorem wit1 (a b : RegD) : witF a (bothR a b) = true := by
  have h : witL a.st (bothR a b).st := fun i hi => by rw [ent_both a b i (by omega)]; exact andn_or1 _ _
  have h2 : andn a.c (bothR a b).c = 0 := andn_or1 _ _
  have h3 : andn a.o (bothR a b).o = 0 := andn_or1 _ _
  simp [witF, h, h2, h3]
theorem wit2 (a b : RegD) : witF b (bothR a b) = true := by
  have h : witL b.st (bothR a b).st := fun i hi => by rw [ent_both a b i (by omega)]; exact andn_or2 _ _
  have h2 : andn b.c (bothR a b).c = 0 := andn_or2 _ _
  have h3 : andn b.o (bothR a b).o = 0 := andn_or2 _ _
  simp [witF, h, h2, h3]

theorem kNeB (p : Bool) (h : AHeap) : vEq (.inl 0) true (bb p) (bb p) h = some (bb false, h) := by cases p <;> rfl
theorem ft : (false == true) = false := rfl
theorem ff : (false == false) = true := rfl
theorem tf : (true == false) = false := rfl
theorem tt : (true == true) = true := rfl

theorem Rg.lenv {h h' : AHeap} {s : CVal} {r : RegD} (H : Rg h s r) : vLenL (.s (.one s)) h' = some (ii r.st.length, h') := by
  have H := H.sl
  generalize r.st = l at H
  rcases H with ⟨rfl, rfl⟩ | ⟨b, off, cap, ex, rfl, _⟩ <;> rfl

theorem law_ok {h : AHeap} (hw : HW h) {s t : CVal} {a b : RegD} (A : Rg h s a) (B : Rg h t b) :
    Ev (fun n => C n (.inl 3) [rv s a, rv t b] h) (Kp h (bb true)) := by
  refine fn rfl ?_
  simp only [m3, M3, kBox]
  refine Ev.new hw fun b1 h1 e1 n1 g1 hw1 G1 => ?_
  refine Ev.new hw1 fun b2 h2 e2 n2 g2 hw2 G2 => ?_
  simp only [SVal.cells] at g1 g2
  replace g1 := G2.get hw1 g1
  have G := G1.trans G2
  have A2 := A.mono hw G
  have B2 := B.mono hw G
  refine Ev.bindR ((known_ev h2).mono ?_)
  rintro ⟨v, h'⟩ hh
  cases hh
  simp only [kNot, Bool.not_true, kG, ff, cond_true, kFo, kSome, kLoad1, g1, kL1, z0, ga0, kRc, A2.lenv, kIntL, kGtI, ltN, kPick, cond_false]
  by_cases ha : 10 < a.st.length
  · simp only [decide_eq_true ha, tf, cond_false, cond_true, kSome, kPick, kIf]
    refine Ev.bindR ((known_ev h2).mono ?_)
    rintro ⟨v, h'⟩ hh
    cases hh
    simp only [kRes1]
    refine Ev.some ?_
    exact ⟨rfl, hw2, G⟩
  simp only [decide_eq_false ha, ff, cond_true, kFo, kSome, kLoad1, g2, kL1, z0, ga0, kRc, B2.lenv, kIntL, kGtI, ltN, kPick, cond_false, kIf]
  by_cases hb : 10 < b.st.length
  · simp only [decide_eq_true hb, cond_true]
    refine Ev.bindR ((known_ev h2).mono ?_)
    rintro ⟨v, h'⟩ hh
    cases hh
    simp only [kRes1]
    refine Ev.some ?_
    exact ⟨rfl, hw2, G⟩
  simp only [decide_eq_false hb, cond_false, kLoadN, g1, g2, kLN, cut3, kRa, kSome]
  refine Ev.bindR ((Both_ok hw2 A2 B2 (by omega)).mono ?_)
  rintro ⟨v, h3⟩ ⟨hw3, G3, u, rfl, U⟩
  simp only at hw3 G3 U ⊢
  simp only [kAlloc]
  refine Ev.new hw3 fun b3 h4 e4 n4 g4 hw4 G4 => ?_
  refine Ev.store g4 rfl rfl ?_
  have q3 : (h4.put b3 (.cells [u, wd (bothR a b).c, wd (bothR a b).o] 0)).t.get b3 = _ := put_same _ _ _
  have hw5 := hw4.put (o' := .cells [u, wd (bothR a b).c, wd (bothR a b).o] 0) g4
  have G5 := G4.put (b := b3) (o' := .cells [u, wd (bothR a b).c, wd (bothR a b).o] 0) (by omega)
  generalize h4.put b3 (.cells [u, wd (bothR a b).c, wd (bothR a b).o] 0) = h5 at q3 hw5 G5 ⊢
  have U5 := U.mono hw3 G5
  replace G5 := G3.trans G5
  have p1 := G5.get hw2 g1
  have p2 := G5.get hw2 g2
  have A5 := A2.mono hw2 G5
  have B5 := B2.mono hw2 G5
  simp only [kLoadN, p1, p2, kLN, cut3, kRa, kSome]
  refine Ev.bindR ((Within_ok hw5 A5 B5 (by omega)).mono ?_)
  rintro ⟨v, h6⟩ ⟨rfl, hw6, G6⟩
  simp only at hw6 G6 ⊢
  simp only [kLoadN, G6.get hw5 p1, G6.get hw5 p2, kLN, cut3, kRa, kSome]
  refine Ev.bindR ((lwithin_ok hw6 (A5.mono hw5 G6) (B5.mono hw5 G6) (by omega)).mono ?_)
  rintro ⟨v, h7⟩ ⟨rfl, hw7, G7'⟩
  simp only at hw7 G7' ⊢
  have G7 := G6.trans G7'
  simp only [kNeB, kSome, kG, ff, cond_true, kLoadN, G7.get hw5 p1, kLN, cut3, kRa]
  refine Ev.bindR ((Size_ok hw7 (A5.mono hw5 G7) (by omega)).mono ?_)
  rintro ⟨v, h8⟩ ⟨rfl, hw8, G8'⟩
  simp only at hw8 G8' ⊢
  have G8 := G7.trans G8'
  simp only [kSome, kG, ff, cond_true, kLoadN, G8.get hw5 p1, kLN, cut3, kRa]
  refine Ev.bindR ((lsize_ok hw8 (A5.mono hw5 G8) (by omega)).mono ?_)
  rintro ⟨v, h9⟩ ⟨rfl, hw9, G9'⟩
  simp only at hw9 G9' ⊢
  have G9 := G8.trans G9'
  have U9 := U5.mono hw5 G9
  simp only [kIntL, kNeI, eqN, decide_true, Bool.not_true, kRc, kSome, kPick, kG, ff, cond_true, cond_false, kFo, z0, kLoad1, G9.get hw5 q3, G9.get hw5 p1, G9.get hw5 p2, kL1, ga0, U9.lenv, A2.lenv, B2.lenv, kMax, both_len,
    kLoadN, p1, G6.get hw5 p1, p2, G6.get hw5 p2, kLN, cut3, kRa, same1_some, eqA_refl, G7.get hw5 p1, G8.get hw5 p1, Bool.and_self, kIf]
  refine Ev.bindX ((Ev.loop (Q := fun p => p.1 = .exit 0 ∧ HW p.2.2 ∧ Gr h9 p.2.2)
    (fun k ys hh => ∃ i, k + i = max a.st.length b.st.length ∧ nthA ys 21 = ii i ∧ HW hh ∧ Gr h9 hh) ?_ (max a.st.length b.st.length) _ _ ⟨0, rfl, rfl, hw9, Gr.refl _⟩).mono ?_)
  · rintro k ys hh ⟨i, hk, hi, hwh, Gh⟩
    have Gx := G9.trans Gh
    have Uh := U9.mono hw9 Gh
    simp only [L3_0, hi, kFo, kLoad1, Gx.get hw5 q3, kL1, z0, ga0, Uh.lenv, both_len, kIntL, kLtI, ltN, kIf, kRc, kSome]
    by_cases hlt : i < max a.st.length b.st.length
    · obtain ⟨x, hx⟩ : ∃ x, (bothR a b).st[i]? = some x := ⟨_, List.getElem?_eq_getElem (by rw [both_len]; exact hlt)⟩
      have hxe : x = entF a.st i ||| entF b.st i := by rw [← ent_both a b i hlt, ent_get hx]
      obtain ⟨hx64, bq, o, ob, hbq, _, k2, k3⟩ := Uh.sl.word (β := AVal × AHeap) hx
      simp only [decide_eq_true hlt, cond_true, k2, k3 _ hbq, kSome, kLoadN, Gx.get hw5 p1, kLN, cut3, kRa]
      refine Ev.bindR ((lentry_ok hwh (A5.mono hw5 Gx) i).mono ?_)
      rintro ⟨v, h'⟩ ⟨rfl, hw', G'⟩
      simp only at hw' G' ⊢
      have Gx' := Gx.trans G'
      simp only [kLoadN, Gx'.get hw5 p2, kLN, cut3, kRa, kSome]
      refine Ev.bindR ((lentry_ok hw' (B5.mono hw5 Gx') i).mono ?_)
      rintro ⟨v, h''⟩ ⟨rfl, hw'', G''⟩
      simp only at hw'' G'' ⊢
      have Gx'' := Gx'.trans G''
      simp only [kIntW, uOr (A5.ent i) (B5.ent i), kRc, kSome, kNeI, eqN, kIf, hi, kFo, z0, kLoad1, kLoadN, Gx.get hw5 q3, Gx'.get hw5 q3, Gx''.get hw5 q3, Gx.get hw5 p2, Gx'.get hw5 p2, kL1, kLN, ga0, cut3, kRa, k2,
        k3 _ hbq, k3 _ (G'.get hwh hbq), k3 _ ((G'.trans G'').get hwh hbq), same1_some, eqA_refl, Bool.and_self, cond_true, hxe, decide_true, Bool.not_true, cond_false, kIntL, iAdd (show i + 1 < 2 ^ 63 by omega)]
      refine Ev.some ?_
      exact ⟨k - 1, by omega, i + 1, by omega, rfl, hw'', (Gh.trans G').trans G''⟩
    · simp only [decide_eq_false hlt, cond_false]
      refine Ev.some ?_
      exact ⟨rfl, hwh, Gh⟩
  · rintro ⟨e, ys, h10⟩ ⟨rfl, hw10, G10'⟩
    simp only at hw10 G10' ⊢
    have G10 := G9.trans G10'
    have r1 := G10.get hw5 p1
    have r2 := G10.get hw5 p2
    have r3 := G10.get hw5 q3
    have hc := A.c
    have ho := A.o
    have hc' := B.c
    have ho' := B.o
    simp only [Nat.beq, cond_true, kFo, kSome, kLoad1, kLoadN, r1, r2, r3, kL1, kLN, z1, z2, ga1, ga2, cut3, kRc, kRa, kIntW, uOr hc hc', uOr ho ho', kEqI, eqN, kG, kPick, bothR, decide_true, tt]
    refine Ev.bindR ((Within_ok hw10 (A5.mono hw5 G10) (U5.mono hw5 G10) (by omega)).mono ?_)
    rintro ⟨v, h11⟩ ⟨rfl, hw11, G11'⟩
    simp only at hw11 G11' ⊢
    have G11 := G10.trans G11'
    simp only [wit1, kPick, cond_true, kSome, kG, tt, kLoadN, G11.get hw5 p2, G11.get hw5 q3, kLN, cut3, kRa]
    refine Ev.bindR ((Within_ok hw11 (B5.mono hw5 G11) (U5.mono hw5 G11) (by omega)).mono ?_)
    rintro ⟨v, h12⟩ ⟨rfl, hw12, G12'⟩
    simp only at hw12 G12' ⊢
    simp only [wit2, kPick, cond_true, kRes1]
    refine Ev.some ?_
    exact ⟨rfl, hw12, (G.trans G5).trans (G11.trans G12')⟩
end Go.Proofs.Tryz.Kn
