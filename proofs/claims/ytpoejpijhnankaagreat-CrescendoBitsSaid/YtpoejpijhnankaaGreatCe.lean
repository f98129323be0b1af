/-
  What the functions of the law CrescendoBits answer: Both. No condition.
-/
import Derived.Test.YtpoejpijhnankaaGreatCd
import Derived.Test.YtpoejpijhnankaaGreatCEza
namespace Go.Proofs.Tryz.Kn
open Go Go.CE

theorem kMax (x y : Nat) (h : AHeap) : vMinmax true (ii x) [ii y] h = some (ii (max x y), h) := by
  have e : vMinmax true (ii x) [ii y] h = some (.s (.one (.int .i64 (bif ltI (.ofNat x) (.ofNat y) then .ofNat y else .ofNat x))), h) := rfl
  rw [e, ltN]
  by_cases hh : x < y
  · rw [decide_eq_true hh, Nat.max_eq_right (by omega)]; rfl
  · rw [decide_eq_false hh, Nat.max_eq_left (by omega)]; rfl

theorem cut_at : ∀ {cs : List CVal} {i : Nat} {c : CVal}, cs[i]? = some c → cut 1 cs i = some [c]
  | [], i, c, h => by simp at h
  | d :: cs, 0, c, h => by simp only [List.getElem?_cons_zero, Option.some.injEq] at h; subst h; cases cs <;> rfl
  | d :: cs, i + 1, c, h => by simp only [List.getElem?_cons_succ] at h; simp only [cut]; exact cut_at h

theorem Acc.sl {h : AHeap} {u : CVal} {l : List Nat} {n : Nat} {ob : Option BN} (A : Acc 1 h u (l.map wd) n ob) (hx : ∀ x, x ∈ l → x < 2 ^ 64) : Sl 1 RW h u l := by
  obtain ⟨h1, ⟨rfl, rfl, rfl⟩ | ⟨b, rfl, h3, rfl⟩⟩ := A
  · exact .inl ⟨rfl, List.length_eq_zero_iff.1 (by simpa using h1)⟩
  · have hn : n = l.length := by simp at h1; omega
    subst hn
    refine .inr ⟨b, 0, 0, false, rfl, fun i x hi => ⟨_, [wd x], h3, cut_at ?_, rfl, hx x (List.mem_of_getElem? hi)⟩⟩
    rw [Nat.zero_add, Nat.mul_one, List.getElem?_map, hi]
    rfl

theorem Rg.ent {h : AHeap} {s : CVal} {r : RegD} (H : Rg h s r) (i : Nat) : entF r.st i < 2 ^ 64 := by
  cases hx : r.st[i]? with
  | none => simp only [entF, hx]; decide
  | some x => rw [ent_get hx]; exact (H.sl.word (β := Nat) hx).1

def orF (a b : RegD) (i : Nat) : Nat := entF a.st i ||| entF b.st i
def bothR (a b : RegD) : RegD := ⟨(List.range (max a.st.length b.st.length)).map (orF a b), a.c ||| b.c, a.o ||| b.o⟩

theorem resP3 (b : BN) (cs : List CVal) (st : Nat) (h : AHeap) (hb : h.t.get b = some (.cells cs st)) (hc : cut 3 cs 0 = some cs) : resP (some 3) (.s (.one (.ptr b 0))) h = some (.agg cs) := by
  simp only [resP, hb, resCell, hc]
theorem kResA (v : SVal) (h : AHeap) : evRes h (consV (some v) (some [])) = some (.s v, h) := (id rfl)
theorem kBuildR (x y : CVal) (h : AHeap) : vBuild [.nils, .int .u64 (.ofNat 0), .int .u64 (.ofNat 0)] [(1, 1, .s (.one x)), (2, 1, .s (.one y))] h = some (.s (.agg [.nils, x, y]), h) := (id rfl)

theorem Both_ok {h : AHeap} (hw : HW h) {s t : CVal} {a b : RegD} (A : Rg h s a) (B : Rg h t b) (hl : max a.st.length b.st.length < 2 ^ 32) :
    Ev (fun n => C n (.inl 5) [rv s a, rv t b] h) (fun p => HW p.2 ∧ Gr h p.2 ∧ ∃ u, p.1 = rv u (bothR a b) ∧ Rg p.2 u (bothR a b)) := by
  refine fn rfl ?_
  simp only [m5, M5, kBox, kAlloc]
  refine Ev.new hw fun b1 h1 e1 n1 g1 hw1 G1 => ?_
  refine Ev.new hw1 fun b2 h2 e2 n2 g2 hw2 G2 => ?_
  refine Ev.new hw2 fun b3 h3 e3 n3 g3 hw3 G3 => ?_
  simp only [SVal.cells] at g1 g2
  replace g1 := G3.get hw2 (G2.get hw1 g1)
  replace g2 := G3.get hw2 g2
  have G := (G1.trans G2).trans G3
  have A3 := A.mono hw G
  have B3 := B.mono hw G
  have hc := A.c
  have ho := A.o
  have hc' := B.c
  have ho' := B.o
  simp only [kFo, kSome, kLoad1, g1, g2, kL1, z0, z1, z2, ga0, ga1, ga2, kRc, kIntW, uOr hc hc', uOr ho ho', kBuildR]
  refine Ev.new hw3 fun b4 h4 e4 n4 g4 hw4 G4 => ?_
  refine Ev.store g4 rfl rfl ?_
  have q1 : (h4.put b4 (.cells [.nils, wd (a.c ||| b.c), wd (a.o ||| b.o)] 0)).t.get b4 = _ := put_same _ _ _
  have hw5 := hw4.put (o' := .cells [.nils, wd (a.c ||| b.c), wd (a.o ||| b.o)] 0) g4
  have G5 := G4.put (b := b4) (o' := .cells [.nils, wd (a.c ||| b.c), wd (a.o ||| b.o)] 0) (by omega)
  generalize h4.put b4 (.cells [.nils, wd (a.c ||| b.c), wd (a.o ||| b.o)] 0) = h5 at q1 hw5 G5 ⊢
  simp only [kFo, kSome, kLoad1, G5.get hw3 g1, G5.get hw3 g2, kL1, z0, ga0, kRc, A3.sl.len, B3.sl.len, kMax]
  refine Ev.bindX ((Ev.loop (Q := fun p => p.1 = .exit 0 ∧ HW p.2.2 ∧ Gr h3 p.2.2 ∧ ∃ u ob, p.2.2.t.get b4 = some (.cells [u, wd (a.c ||| b.c), wd (a.o ||| b.o)] 0) ∧ Acc 1 p.2.2 u ((bothR a b).st.map wd) (max a.st.length b.st.length) ob ∧ (∀ c, ob = some c → b4.toNat < c.toNat))
    (fun k ys hh => ∃ i u ob, k + i = max a.st.length b.st.length ∧ nthA ys 16 = ii i ∧ HW hh ∧ Gr h3 hh ∧ hh.t.get b4 = some (.cells [u, wd (a.c ||| b.c), wd (a.o ||| b.o)] 0) ∧
      Acc 1 hh u (((List.range i).map (orF a b)).map wd) i ob ∧ (∀ c, ob = some c → b4.toNat < c.toNat)) ?_ (max a.st.length b.st.length) _ _
    ⟨0, .nils, none, rfl, rfl, hw5, G5, q1, Acc.nil _ _, fun c hc => by cases hc⟩).mono ?_)
  · rintro k ys hh ⟨i, u, ob, hk, hi, hwh, Gh, hq, hA, hob⟩
    simp only [L5_0, hi, kIntL, kLtI, ltN, kIf, kRc, kSome]
    by_cases hlt : i < max a.st.length b.st.length
    · simp only [decide_eq_true hlt, cond_true, kFo, kSome, kLoad1, kLoadN, hq, z0, kL1, ga0, kRc, Gh.get hw3 g1, kLN, cut3, kRa]
      refine Ev.bindR ((entry_ok hwh (A3.mono hw3 Gh) i).mono ?_)
      rintro ⟨v, h'⟩ ⟨rfl, hw', G'⟩
      have Gh' := Gh.trans G'
      simp only [kSome, kLoadN, Gh'.get hw3 g2, kLN, cut3, kRa]
      refine Ev.bindR ((entry_ok hw' (B3.mono hw3 Gh') i).mono ?_)
      rintro ⟨v, h''⟩ ⟨rfl, hw'', G''⟩
      have Gh'' := Gh'.trans G''
      simp only [kIntW, uOr (A3.ent i) (B3.ent i), kRc, kSome, kBs1]
      refine Ev.new hw'' fun bs h6 e6 n6 g6 hw6 G6 => ?_
      have GG := (G'.trans G'').trans G6
      have hA6 : Acc 1 h6 u _ i ob := hA.mono fun c hc => GG.old c (by subst hc; exact hA.lt hwh)
      have hf : fits 8 (i + 1) = true := by
        have h1 : Nat.ble (Nat.mul (Nat.mul (i + 1) 8) 2) 281474976710656 = true := Nat.ble_eq_true_of_le (by show (i + 1) * 8 * 2 ≤ _; omega)
        have h2 : Nat.ble (i + 1) 4611686018427387904 = true := Nat.ble_eq_true_of_le (by omega)
        simp only [fits, h1, h2, Bool.and_self]
      refine Ev.append hw6 hA6 g6 (new := [wd (orF a b i)]) (m := 1) (off := 0) rfl (by omega) hf fun b7 h7 e7 n7 hw7 A7 O7 => ?_
      have hb4 : b4.toNat < hh.n.toNat := hwh _ _ hq
      have hle := GG.le
      have hne : ob ≠ some b4 := fun hh => by have := hob _ hh; omega
      have G7 : Gr h3 h7 := by
        have Gx := Gh''.trans G6
        refine ⟨by have := Gx.le; omega, fun c hc => ?_⟩
        rw [O7 c (by have := Gx.le; omega) (fun hh => by have := hob _ hh; omega)]
        exact Gx.old c hc
      have q7 : h7.t.get b4 = some (.cells [u, wd (a.c ||| b.c), wd (a.o ||| b.o)] 0) := by
        rw [O7 b4 (by omega) hne]
        exact GG.get hwh hq
      refine Ev.store q7 (cs' := [.slc b7 0 (i + 1) 0 false, wd (a.c ||| b.c), wd (a.o ||| b.o)]) rfl rfl ?_
      simp only [kFo, z0, same1_some, eqA_refl, kLoad1, kLoadN, hq, G'.get hwh hq, (G'.trans G'').get hwh hq, GG.get hwh hq, Gh.get hw3 g2, Gh'.get hw3 g2, kL1, kLN, ga0, cut3, kRc, kRa, hi, Bool.and_self, cond_true, kIntL, iAdd (show i + 1 < 2 ^ 63 by omega), kSome]
      refine Ev.some ?_
      refine ⟨k - 1, by omega, i + 1, _, some b7, by omega, rfl, hw7.put q7, G7.put (by omega), put_same _ _ _, ?_, fun c hc => by cases hc; have := GG.le; omega⟩
      rw [List.range_succ, List.map_append, List.map_append]
      exact A7.mono fun c hc => put_other _ _ (bn_ne (by cases hc; have := GG.le; omega))
    · simp only [decide_eq_false hlt, cond_false]
      refine Ev.some ?_
      have hi' : i = max a.st.length b.st.length := by omega
      subst hi'
      exact ⟨rfl, hwh, Gh, u, ob, hq, hA, hob⟩
  · rintro ⟨e, ys, h8⟩ ⟨rfl, hw8, G8, u, ob, hq, hA, hob⟩
    simp only at hw8 G8 hq hA hob ⊢
    have q3 := G8.get hw3 g3
    simp only [Nat.beq, cond_true, kLoadN, hq, kLN, cut3, kRa, kSome]
    refine Ev.store q3 rfl rfl ?_
    simp only [resP3 b3 _ _ _ (put_same _ _ _) (cut3 _ _ _), kResA, SVal.cells]
    refine Ev.some ?_
    have hlt := hw3 _ _ g3
    have Gf : Gr h2 (h8.put b3 (.cells [u, wd (a.c ||| b.c), wd (a.o ||| b.o)] 0)) := (G3.trans G8).put (by omega)
    refine ⟨hw8.put q3, (G1.trans G2).trans Gf, u, rfl, ?_, ?_, ?_⟩
    · refine Acc.sl (hA.mono fun c hc => put_other _ _ (bn_ne ?_)) fun x hx => ?_
      · have := hob c hc; omega
      · obtain ⟨i, _, rfl⟩ := List.mem_map.1 hx
        exact Nat.or_lt_two_pow (A3.ent i) (B3.ent i)
    · exact Nat.or_lt_two_pow hc hc'
    · exact Nat.or_lt_two_pow ho ho'
end Go.Proofs.Tryz.Kn
