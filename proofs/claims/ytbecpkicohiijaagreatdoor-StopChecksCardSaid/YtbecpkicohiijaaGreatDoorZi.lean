/-
  The law StopChecks of the program answers true for every input, and each argument reads as before. No condition.
-/
import Derived.Test.YtbecpkicohiijaaGreatDoorXh
import Derived.Test.YtbecpkicohiijaaGreatDoorTie
import Derived.Test.YtbecpkicohiijaaGreatDoorCards
import Derived.LaidMore
import Derived.Stop.Joined
import Derived.Carry
import Derived.Lib.SmallJoins
section
namespace Go.Proofs.Tryz.Kn
open Go Go.CE Go.PE
theorem t64 (k : Nat) (a b n : Int) : D (k + 1) 64 [SA [I6 a, I6 b], S1 (I6 n)] = some (S1 (Bo (decide (a ≤ n) && decide (n ≤ b)))) := by
 rw [D64]
 unfold P64
 by_cases h1 : a ≤ n <;> by_cases h2 : n ≤ b <;> simp [h1, h2]
theorem l65i (l : List Draw) (x : Draw) (i : Nat) (hx : l[i]? = some x) (hl : l.length ≤ 9223372036854775807) : ∀ (r : List Draw) (j : Nat), (l.take i).drop j = r →
  ploop (F65_15 [I6 (i : Int)] (enL 2 enD (some l))) [I6 (j : Int)] [] = some (if r.any (fun y => decide (x = y)) then (.ret, [I6 9], []) else (.exit 2, [], [])) := by
 intro r
 have hi := (List.getElem?_eq_some_iff.1 hx).1
 induction r with
 | nil =>
  intro j h
  have := end_drop h
  rw [List.length_take] at this
  refine ploop_exit ?_
  simp only [F65_15, nthD_z, pBin_lss, bindD_some, nlt_i (show i ≤ j by omega), ifB_eq]
  rfl
 | cons y r ih =>
  intro j h
  have h1 := lt_drop h
  rw [List.length_take] at h1
  have hy : l[j]? = some y := by
   have := get_drop h
   rwa [List.getElem?_take, if_pos (by omega)] at this
  have ea : pBin .add (I6 (j : Int)) (I6 1) = some (I6 ((j + 1 : Nat) : Int)) := add64
  have iy : pIdx 2 (enL 2 enD (some l)) (I6 (j : Int)) = some (enD y) := by rw [pIdx_enL, els_some, hy]; rfl
  have ix : pIdx 2 (enL 2 enD (some l)) (I6 (i : Int)) = some (enD x) := by rw [pIdx_enL, els_some, hx]; rfl
  have eq := eqDs_draw y x
  have body : F65_15 [I6 (i : Int)] (enL 2 enD (some l)) [I6 (j : Int)] [] = some (if x = y then (.ret, [I6 9], []) else (.normal, [I6 ((j + 1 : Nat) : Int)], [])) := by
   simp only [F65_15, nthD_z, pBin_lss, bindD_some, lt_i (show j < i by omega), ifB_eq, if_true, iy, ix, enD, atD_z, atD_s, eq, ea]
   by_cases hz : x = y
   ·simp [hz]
   ·have hz' : ¬ y = x := fun h => hz h.symm
    simp [hz, hz']
  by_cases hc : x = y
  ·rw [if_pos hc] at body; rw [ploop_ret body]; simp [hc]
  ·rw [if_neg hc] at body; rw [ploop_go body, ih (j + 1) (next_drop h)]; simp [hc]
theorem l65 (rs : Sl Rank) (l : List Draw) (hl : l.length ≤ 9223372036854775807) : ∀ (r : List Draw) (i : Nat), l.drop i = r →
  ploop (F65_2 (enL 2 enD (some l)) (enL 6 enR rs)) [I6 (i : Int)] [] = some (errX 0 (drawsGo rs.els.length (l.take i) r)) := by
 intro r
 induction r with
 | nil =>
  intro i h
  refine ploop_exit ?_
  simp only [F65_2, nthD_z, pLen_enL, els_some, pBin_lss, bindD_some, nlt_i (end_drop h), ifB_eq]
  rfl
 | cons x r ih =>
  intro i h
  have h1 := lt_drop h
  have ea : pBin .add (I6 (i : Int)) (I6 1) = some (I6 ((i + 1 : Nat) : Int)) := add64
  have ix : pIdx 2 (enL 2 enD (some l)) (I6 (i : Int)) = some (enD x) := pIdx_drop (v := some l) h _
  have li := l65i l x i (get_drop h) hl (l.take i) 0 rfl
  have body : F65_2 (enL 2 enD (some l)) (enL 6 enR rs) [I6 (i : Int)] [] =
    some (if x.rank < 0 then (.ret, [I6 10], []) else if (rs.els.length : Int) ≤ x.rank then (.ret, [I6 10], []) else if x.shift < -127 then (.ret, [I6 3], []) else if 127 < x.shift then (.ret, [I6 3], []) else if (l.take i).any (fun y => decide (x = y)) then (.ret, [I6 9], []) else (.normal, [I6 ((i + 1 : Nat) : Int)], [])) := by
   simp only [F65_2, nthD_z, pLen_enL, els_some, pBin_lss, bindD_some, lt_i h1, ifB_eq, if_true, ix, enD, atD_z, atD_s, pBin_geq, pBin_gtr, ea, decide_eq_true_eq]
   rw [show (I6 0 : DV) = I6 ((0 : Nat) : Int) from rfl]
   rw [li]
   by_cases a5 : (l.take i).any (fun y => decide (x = y)) = true
   ·simp only [a5, if_true, loopR_ret, nthD_z]
    repeat (split <;> try rfl)
   ·simp only [a5]
    repeat (split <;> try rfl)
  have hn : l.take (i + 1) = l.take i ++ [x] := by rw [List.take_add_one, get_drop h]; rfl
  unfold drawsGo
  by_cases a1 : x.rank < 0
  ·rw [if_pos a1] at body ⊢; rw [ploop_ret body]; rfl
  rw [if_neg a1] at body ⊢
  by_cases a2 : (rs.els.length : Int) ≤ x.rank
  ·rw [if_pos a2] at body ⊢; rw [ploop_ret body]; rfl
  rw [if_neg a2] at body ⊢
  by_cases a3 : x.shift < -127
  ·rw [if_pos a3] at body ⊢; rw [ploop_ret body]; rfl
  rw [if_neg a3] at body ⊢
  by_cases a4 : 127 < x.shift
  ·rw [if_pos a4] at body ⊢; rw [ploop_ret body]; rfl
  rw [if_neg a4] at body ⊢
  by_cases a5 : (l.take i).any (fun y => decide (x = y)) = true
  ·rw [if_pos a5] at body ⊢; rw [ploop_ret body]; rfl
  rw [if_neg a5] at body ⊢
  rw [ploop_go body, ih (i + 1) (next_drop h), hn]
theorem t65 (k : Nat) (x : Place) (l : Sl Draw) (hl : l.els.length ≤ 9223372036854775807) : D (k + 3) 65 [SA (enP x), S1 (enL 2 enD l)] = some (S1 (I6 (drawsErr x.ranks.els.length l.els))) := by
 unfold enP
 rw [D65]
 unfold P65 drawsErr
 simp only [pLen_enL, bindD_some, pBin_gtr, ifB_eq]
 by_cases h1 : 8 < l.els.length
 ·have h2 : (8 : Int) < (l.els.length : Int) := by omega
  simp [h1, h2]
 ·have h2 : ¬ ((8 : Int) < (l.els.length : Int)) := by omega
  simp only [h1, h2, decide_false, Bool.false_eq_true, if_false]
  cases l with
  | none => rw [ploop_exit (id := 0) (L' := []) (M' := []) (by rfl)]; rfl
  | some l =>
   have := l65 x.ranks l hl l 0 rfl
   rw [show (I6 0 : DV) = I6 ((0 : Nat) : Int) from rfl, show Sl.els (some l : Sl Draw) = l from rfl, this, List.take_zero]
   unfold errX
   by_cases h3 : drawsGo x.ranks.els.length [] l = 0
   ·simp [h3]
   ·simp [h3]
theorem l22 (k : Nat) (l : Sl Rank) (hl : l.els.length ≤ 9223372036854775807) (hr : ∀ r ∈ l.els, rankOk r) : ∀ (r : List Rank) (i : Nat), l.els.drop i = r →
  ploop (F22_2 (D (k + 5)) (enL 6 enR l)) [I6 (i : Int)] [] = some (errX 0 (ranksErr r)) := by
 intro r
 induction r with
 | nil =>
  intro i h
  refine ploop_exit ?_
  simp only [F22_2, nthD_z, pLen_enL, pBin_lss, bindD_some, nlt_i (end_drop h), ifB_eq]
  rfl
 | cons x r ih =>
  intro i h
  have h1 := lt_drop h
  have ea : pBin .add (I6 (i : Int)) (I6 1) = some (I6 ((i + 1 : Nat) : Int)) := add64
  have hx : rankOk x := hr x (List.mem_of_getElem? (get_drop h))
  have c : D (k + 5) 52 [SA [atD (enR x) 0, atD (enR x) 1, atD (enR x) 2, atD (enR x) 3, atD (enR x) 4, atD (enR x) 5]] = some (S1 (I6 (rankErr x))) := t52 k x hx
  have body : F22_2 (D (k + 5)) (enL 6 enR l) [I6 (i : Int)] [] = some (if rankErr x ≠ 0 then (.ret, [I6 (rankErr x)], []) else (.normal, [I6 ((i + 1 : Nat) : Int)], [])) := by
   simp only [F22_2, nthD_z, pLen_enL, pBin_lss, bindD_some, lt_i h1, ifB_eq, if_true, pIdx_drop h, c, b1_some, pBin_neq, ea]
   by_cases hz : rankErr x = 0 <;> simp [hz]
  by_cases hc : rankErr x = 0
  ·rw [if_neg (by simpa using hc)] at body; rw [ploop_go body, ih (i + 1) (next_drop h)]; simp [ranksErr, hc]
  ·rw [if_pos hc] at body; rw [ploop_ret body]; simp [ranksErr, hc, errX]
theorem t22 (k : Nat) (x : Place) (hx : x.ok) : D (k + 6) 22 [SA (enP x)] = some (S1 (I6 (placeErr x))) := by
 unfold enP
 rw [D22]
 unfold P22 placeErr
 have := l22 k x.ranks hx.len hx.ranks x.ranks.els 0 rfl
 simp only [pLen_enL, bindD_some, pBin_gtr, ifB_eq]
 rw [show (I6 0 : DV) = I6 ((0 : Nat) : Int) from rfl, this]
 by_cases h1 : 60 < x.ranks.els.length
 ·have h2 : (60 : Int) < (x.ranks.els.length : Int) := by omega
  simp [h1, h2]
 ·have h2 : ¬ ((60 : Int) < (x.ranks.els.length : Int)) := by omega
  simp only [h1, h2, decide_false, Bool.false_eq_true, if_false]
  unfold errX
  by_cases h3 : ranksErr x.ranks.els = 0
  ·simp [h3, t35]
  ·simp [h3]
theorem l36 (k : Nat) (x : Place) (l : Sl Seg) (hl : l.els.length ≤ 9223372036854775807) (hs : ∀ g ∈ l.els, segOk g) : ∀ (r : List Seg) (i : Nat), l.els.drop i = r →
  ploop (F36_10 (D (k + 3)) (enL 3 enS l) (I6 x.low) (I6 x.high) (enL 6 enR x.ranks)) [I6 (i : Int)] [] = some (errX 0 (segsErr x r (prevHi l.els i))) := by
 intro r
 induction r with
 | nil =>
  intro i h
  refine ploop_exit ?_
  simp only [F36_10, nthD_z, pLen_enL, pBin_lss, bindD_some, nlt_i (end_drop h), ifB_eq]
  rfl
 | cons g r ih =>
  intro i h
  have h1 := lt_drop h
  have ea : pBin .add (I6 (i : Int)) (I6 1) = some (I6 ((i + 1 : Nat) : Int)) := add64
  have c := t65 k x g.draws (hs g (List.mem_of_getElem? (get_drop h)))
  simp only [enP] at c
  have body : F36_10 (D (k + 3)) (enL 3 enS l) (I6 x.low) (I6 x.high) (enL 6 enR x.ranks) [I6 (i : Int)] [] =
    some (if min g.lo g.hi < x.low then (.ret, [I6 23], []) else if x.high < max g.lo g.hi then (.ret, [I6 23], []) else if g.hi < g.lo then (.ret, [I6 6], [])
     else if leO g.lo (prevHi l.els i) = true then (.ret, [I6 6], []) else if drawsErr x.ranks.els.length g.draws.els ≠ 0 then (.ret, [I6 (drawsErr x.ranks.els.length g.draws.els)], []) else (.normal, [I6 ((i + 1 : Nat) : Int)], [])) := by
   simp only [F36_10, nthD_z, pLen_enL, pBin_lss, bindD_some, lt_i h1, ifB_eq, if_true, pIdx_drop h, enS, atD_z, atD_s, t64, b1_some, pNot_bool, pBin_gtr, c, ea, decide_eq_true_eq, pBin_neq]
   have tail : (if (!(drawsErr x.ranks.els.length g.draws.els == 0)) = true then some ((.ret, [I6 (drawsErr x.ranks.els.length g.draws.els)], []) : PX) else some (.normal, [I6 ((i + 1 : Nat) : Int)], [])) =
     some (if drawsErr x.ranks.els.length g.draws.els ≠ 0 then (.ret, [I6 (drawsErr x.ranks.els.length g.draws.els)], []) else (.normal, [I6 ((i + 1 : Nat) : Int)], [])) := by
    by_cases hz : drawsErr x.ranks.els.length g.draws.els = 0 <;> simp [hz]
   rw [tail]
   have hmid : ∀ (R : Option PX) (Z : PX), (¬ (min g.lo g.hi < x.low) → ¬ (x.high < max g.lo g.hi) → R = some Z) →
     (if (!(decide (x.low ≤ g.lo) && decide (g.lo ≤ x.high))) = true then some (((.ret, [I6 23], []) : PX)) else if (!(decide (x.low ≤ g.hi) && decide (g.hi ≤ x.high))) = true then some (((.ret, [I6 23], []) : PX)) else R) =
     some (if min g.lo g.hi < x.low then (.ret, [I6 23], []) else if x.high < max g.lo g.hi then (.ret, [I6 23], []) else Z) := by
    intro R Z hR
    by_cases b1 : x.low ≤ g.lo ∧ g.lo ≤ x.high
    ·have c1 : (!(decide (x.low ≤ g.lo) && decide (g.lo ≤ x.high))) = false := by simp [b1.1, b1.2]
     rw [c1, if_neg (by decide)]
     by_cases b2 : x.low ≤ g.hi ∧ g.hi ≤ x.high
     ·have c2 : (!(decide (x.low ≤ g.hi) && decide (g.hi ≤ x.high))) = false := by simp [b2.1, b2.2]
      have d1 : ¬ (min g.lo g.hi < x.low) := by omega
      have d2 : ¬ (x.high < max g.lo g.hi) := by omega
      rw [c2, if_neg (by decide), if_neg d1, if_neg d2, hR d1 d2]
     ·have c2 : (!(decide (x.low ≤ g.hi) && decide (g.hi ≤ x.high))) = true := by
       rw [← Bool.decide_and, decide_eq_false b2]; rfl
      rw [c2, if_pos rfl]
      by_cases d1 : min g.lo g.hi < x.low
      ·rw [if_pos d1]
      ·rw [if_neg d1, if_pos (by omega)]
    ·have c1 : (!(decide (x.low ≤ g.lo) && decide (g.lo ≤ x.high))) = true := by
      rw [← Bool.decide_and, decide_eq_false b1]; rfl
     rw [c1, if_pos rfl]
     by_cases d1 : min g.lo g.hi < x.low
     ·rw [if_pos d1]
     ·rw [if_neg d1, if_pos (by omega)]
   refine hmid _ _ fun _ _ => ?_
   cases i with
   | zero =>
    have : ¬ ((0 : Int) < ((0 : Nat) : Int)) := by omega
    simp only [this, if_false, Bool.false_eq_true, prevHi, leO]
    repeat (split <;> try rfl)
   | succ j =>
    obtain ⟨q, hq⟩ : ∃ q, l.els[j]? = some q := ⟨_, List.getElem?_eq_getElem (by omega)⟩
    have h2 : (0 : Int) < ((j + 1 : Nat) : Int) := by omega
    have es : pBin .sub (I6 ((j + 1 : Nat) : Int)) (I6 1) = some (I6 (((j + 1 : Nat) : Int) - 1)) := sub64
    have e1 : ((j + 1 : Nat) : Int) - 1 = (j : Int) := by omega
    rw [e1] at es
    have ix : pIdx 3 (enL 3 enS l) (I6 (j : Int)) = some (enS q) := by rw [pIdx_enL, hq]; rfl
    simp only [prevHi, hq, Option.map_some, leO, h2, if_true, es, bindD_some, ix, enS, atD_s, atD_z, pBin_leq, ifB_eq, decide_eq_true_eq]
    repeat (split <;> try rfl)
  have hp : prevHi l.els (i + 1) = some g.hi := by simp only [prevHi, get_drop h, Option.map_some]
  unfold segsErr
  by_cases a1 : min g.lo g.hi < x.low
  ·rw [if_pos a1] at body ⊢; rw [ploop_ret body]; rfl
  rw [if_neg a1] at body ⊢
  by_cases a2 : x.high < max g.lo g.hi
  ·rw [if_pos a2] at body ⊢; rw [ploop_ret body]; rfl
  rw [if_neg a2] at body ⊢
  by_cases a3 : g.hi < g.lo
  ·rw [if_pos a3] at body ⊢; rw [ploop_ret body]; rfl
  rw [if_neg a3] at body ⊢
  by_cases a4 : leO g.lo (prevHi l.els i) = true
  ·rw [if_pos a4] at body ⊢; rw [ploop_ret body]; rfl
  rw [if_neg a4] at body ⊢
  by_cases a5 : drawsErr x.ranks.els.length g.draws.els ≠ 0
  ·rw [if_pos a5] at body ⊢; rw [ploop_ret body]; unfold errX; rw [if_pos a5]
  rw [if_neg a5] at body ⊢
  rw [ploop_go body, ih (i + 1) (next_drop h), hp]
theorem t36 (k : Nat) (x : Place) (s : Stop) (hx : x.ok) (hs : s.ok) : D (k + 7) 36 [SA (enP x), SA (enStop s)] = some (S1 (I6 (stopErr x s))) := by
 have c1 := t22 k x hx
 have l := l36 (k + 3) x s.segs hs.len hs.segs s.segs.els 0 rfl
 unfold enP at c1 ⊢
 unfold enStop
 rw [D36]
 unfold P36 stopErr
 simp only [c1, t23, t24, b1_some, pBin_neq, bindD_some, ifB_eq, pNot_bool, pLen_enL, pBin_eql, pBin_gtr]
 by_cases h1 : placeErr x = 0
 ·simp only [h1]
  cases isName s.name with
  | false => rfl
  | true =>
   by_cases h2 : feetErr s.num s.den = 0
   ·simp only [h2]
    by_cases h3 : s.segs.els.length = 0
    ·simp [h3]
    ·have h4 : ¬ ((s.segs.els.length : Int) = 0) := by omega
     by_cases h5 : 12 < s.segs.els.length
     ·have h6 : (12 : Int) < (s.segs.els.length : Int) := by omega
      simp [h3, h5, h6]
     ·have h6 : ¬ ((12 : Int) < (s.segs.els.length : Int)) := by omega
      rw [show (I6 0 : DV) = I6 ((0 : Nat) : Int) from rfl, l, show prevHi s.segs.els 0 = none from rfl]
      unfold errX
      by_cases h7 : segsErr x s.segs.els none = 0
      ·simp [h3, h5, h6, h7]
      ·simp [h3, h5, h6, h7]
   ·simp [h2]
 ·simp [h1]
theorem l10 (l : Sl Seg) (hl : l.els.length ≤ 9223372036854775807) : ∀ (r : List Seg) (i : Nat), l.els.drop i = r →
  ploop (F10_0 (enL 3 enS l)) [I6 (i : Int)] [] = some (if r.all (fun g => decide (g.draws.els.length ≤ 10)) then (.exit 0, [], []) else (.ret, [Bo false], [])) := by
 intro r
 induction r with
 | nil =>
  intro i h
  refine ploop_exit ?_
  simp only [F10_0, nthD_z, pLen_enL, pBin_lss, bindD_some, nlt_i (end_drop h), ifB_eq]
  rfl
 | cons g r ih =>
  intro i h
  have h1 := lt_drop h
  have ea : pBin .add (I6 (i : Int)) (I6 1) = some (I6 ((i + 1 : Nat) : Int)) := add64
  have body : F10_0 (enL 3 enS l) [I6 (i : Int)] [] = some (if g.draws.els.length ≤ 10 then (.normal, [I6 ((i + 1 : Nat) : Int)], []) else (.ret, [Bo false], [])) := by
   simp only [F10_0, nthD_z, pLen_enL, pBin_lss, bindD_some, lt_i h1, ifB_eq, if_true, pIdx_drop h, enS, atD_z, atD_s, pBin_gtr, ea]
   by_cases hz : g.draws.els.length ≤ 10
   ·have : ¬ ((10 : Int) < (g.draws.els.length : Int)) := by omega
    simp [hz, this]
   ·have : (10 : Int) < (g.draws.els.length : Int) := by omega
    simp [hz, this]
  by_cases hc : g.draws.els.length ≤ 10
  ·rw [if_pos hc] at body; rw [ploop_go body, ih (i + 1) (next_drop h)]; simp [hc]
  ·rw [if_neg hc] at body; rw [ploop_ret body]; simp [hc]
def shortB (s : Stop) : Bool := s.segs.els.all (fun g => decide (g.draws.els.length ≤ 10)) && decide (s.segs.els.length ≤ 14) && decide (s.name.size ≤ 40)
theorem t10 (k : Nat) (s : Stop) (hs : s.ok) : D (k + 1) 10 [SA (enStop s)] = some (S1 (Bo (shortB s))) := by
 have l := l10 s.segs hs.len s.segs.els 0 rfl
 unfold enStop
 rw [D10]
 unfold P10 shortB
 rw [show (I6 0 : DV) = I6 ((0 : Nat) : Int) from rfl, l]
 cases s.segs.els.all (fun g => decide (g.draws.els.length ≤ 10)) with
 | false => rfl
 | true =>
  simp only [if_true, loopR_exit, pLen_enL, bindD_some, pBin_leq, ifB_eq, pLenS_str, Bool.true_and]
  by_cases h1 : s.segs.els.length ≤ 14
  ·have h2 : (s.segs.els.length : Int) ≤ 14 := by omega
   by_cases h3 : s.name.size ≤ 40
   ·have h4 : (s.name.size : Int) ≤ 40 := by omega
    simp [h1, h2, h3, h4]
   ·have h4 : ¬ ((s.name.size : Int) ≤ 40) := by omega
    simp [h1, h2, h3, h4]
  ·have h2 : ¬ ((s.segs.els.length : Int) ≤ 14) := by omega
   simp [h1, h2]
section
variable (k : Nat) (x : Place) (s : Stop) (hx : x.ok) (hs : s.ok) (he : stopErr x s ≠ 0)
include hx hs he
theorem t20e : D (k + 8) 20 [SA (enP x), SA (enStop s)] = some (.tup [.one (Bo false), .one (I6 (stopErr x s))]) := by
 have c := t37 k x s hx hs
 unfold enP enStop at c ⊢
 rw [D20]
 unfold P20
 simp [c, he]
theorem t55e (a : DV) : D (k + 8) 55 [SA (enP x), SA (enStop s), S1 a] = some (.tup [.agg [U64 0, U64 0], .one (I6 (stopErr x s))]) := by
 have c := t37 k x s hx hs
 unfold enP enStop at c ⊢
 rw [D55]
 unfold P55
 simp [c, he]
theorem t27e : D (k + 9) 27 [SA (enP x), SA (enStop s)] = some (.tup [.agg [U64 0, U64 0], .one (I6 (stopErr x s))]) := by
 have c := fun a => t55e k x s hx hs he a
 unfold enP enStop at c ⊢
 rw [D27]
 unfold P27
 rw [c, bT_of (by rfl)]
 rfl
theorem t28e : D (k + 9) 28 [SA (enP x), SA (enStop s)] = some (.tup [.agg [U64 0, U64 0], .one (I6 (stopErr x s))]) := by
 have c := fun a => t55e k x s hx hs he a
 unfold enP enStop at c ⊢
 rw [D28]
 unfold P28
 rw [c, bT_of (by rfl)]
 rfl
theorem t29e (a b : DV) : D (k + 9) 29 [SA (enP x), SA (enStop s), SA [a, b]] = some (.tup [.agg [U64 0, U64 0], .one (I6 (stopErr x s))]) := by
 have c := fun a => t55e k x s hx hs he a
 unfold enP enStop at c ⊢
 rw [D29]
 unfold P29
 rw [c, bT_of (by rfl)]
 simp only [dsAt_z, dsAt_s, dsO_one, dsA_agg, pBin_neq, bindD_some, ifB_eq]
 have : (!(stopErr x s == 0)) = true := by simp [he]
 rw [this, if_pos rfl]
theorem t30e : D (k + 8) 30 [SA (enP x), SA (enStop s)] = some (.tup [.one .nils, .one (I6 (stopErr x s))]) := by
 have c := t37 k x s hx hs
 unfold enP enStop at c ⊢
 rw [D30]
 unfold P30
 simp [c, he]
theorem t34e (lo hi : Int) : D (k + 8) 34 [SA (enP x), SA (enStop s), SA [I6 lo, I6 hi]] = some (.tup [.agg (enStop zeroStop), .one (I6 (stopErr x s))]) := by
 have := t34 k x s hx hs lo hi
 unfold fitRes at this
 rw [if_pos he] at this
 exact this
end
theorem t8t (k : Nat) (x : Place) (s : Stop) (hx : x.ok) (hs : s.ok) : T8 (D (k + 9)) (enL 6 enR x.ranks) (I6 x.low) (I6 x.high) (St s.name) (I6 s.num) (I6 s.den) (enL 3 enS s.segs) = some (S1 (Bo true)) := by
 have c36 := t36 (k + 2) x s hx hs
 have c37 := t37 (k + 2) x s hx hs
 unfold T8
 unfold enP enStop at c36 c37
 rw [c36, c37]
 simp only [b1_some, pBin_neq, pBin_eql, bindD_some, ifB_eq, beq_self_eq_true, Bool.not_true, Bool.false_eq_true, if_false]
 by_cases he : stopErr x s = 0
 ·simp [he]
 ·have e27 := t27e k x s hx hs he
  have e28 := t28e k x s hx hs he
  have e29 := t29e k x s hx hs he (I6 (-1)) (I6 0)
  have e30 := t30e (k + 1) x s hx hs he
  have e20 := t20e (k + 1) x s hx hs he
  have e34 := t34e (k + 1) x s hx hs he 1 0
  have e25 := t25 (k + 6) zeroStop zero_ok
  unfold enP enStop at e27 e28 e29 e30 e20 e34
  unfold enStop at e25
  rw [show eqStop zeroStop zeroStop = true from rfl] at e25
  have hb : (stopErr x s == 0) = false := by simpa using he
  rw [hb]
  simp only [Bool.false_eq_true, if_false]
  rw [e27, bT_of (by rfl), e28, bT_of (by rfl), e29, bT_of (by rfl), e30, bT_of (by rfl), e20, bT_of (by rfl), e34, bT_of (by rfl)]
  simp only [dsAt_z, dsAt_s, dsO_one, dsA_agg, atD_z, atD_s, e25, b1_some, ifB_eq, pBin_eql, bindD_some, beq_self_eq_true, if_true, pNot_bool, Bool.not_false, pLen_nils]
  rfl
theorem lp11 (k : Nat) (y : Site) (hy : y.ok) (c0 c1 : DV) : ploop (F11_6 (D (k + 2)) (U8 (y.r0.feet : Int)) (U8 (y.r1.feet : Int)) (U8 (y.r2.feet : Int)) (U8 (y.r0.first : Int)) (U8 (y.r1.first : Int)) (U8 (y.r2.first : Int)) (U8 (y.r0.pipes : Int)) (U8 (y.r1.pipes : Int)) (U8 (y.r2.pipes : Int))) [I6 0, c0, c1] [none] =
  some (.exit 0, [c0, c1], [ocL enR (some [mkRank 0 y.r0, mkRank 1 y.r1, mkRank 2 y.r2])]) := by
 have s0 := l11 k (U8 (y.r0.feet : Int)) (U8 (y.r1.feet : Int)) (U8 (y.r2.feet : Int)) (U8 (y.r0.first : Int)) (U8 (y.r1.first : Int)) (U8 (y.r2.first : Int)) (U8 (y.r0.pipes : Int)) (U8 (y.r1.pipes : Int)) (U8 (y.r2.pipes : Int)) 0 (by omega) y.r0 hy.r0 rfl rfl rfl c0 c1 none rfl
 have s1 := l11 k (U8 (y.r0.feet : Int)) (U8 (y.r1.feet : Int)) (U8 (y.r2.feet : Int)) (U8 (y.r0.first : Int)) (U8 (y.r1.first : Int)) (U8 (y.r2.first : Int)) (U8 (y.r0.pipes : Int)) (U8 (y.r1.pipes : Int)) (U8 (y.r2.pipes : Int)) 1 (by omega) y.r1 hy.r1 rfl rfl rfl c0 c1 (some [mkRank 0 y.r0]) rfl
 have s2 := l11 k (U8 (y.r0.feet : Int)) (U8 (y.r1.feet : Int)) (U8 (y.r2.feet : Int)) (U8 (y.r0.first : Int)) (U8 (y.r1.first : Int)) (U8 (y.r2.first : Int)) (U8 (y.r0.pipes : Int)) (U8 (y.r1.pipes : Int)) (U8 (y.r2.pipes : Int)) 2 (by omega) y.r2 hy.r2 rfl rfl rfl c0 c1 (some [mkRank 0 y.r0, mkRank 1 y.r1]) rfl
 rw [show (I6 0 : DV) = I6 ((0 : Nat) : Int) from rfl, show (none : OC) = ocL enR none from rfl, ploop_go s0]
 simp only [els_none, els_some, List.nil_append, List.cons_append] at s1 s2 ⊢
 rw [ploop_go s1, ploop_go s2, ploop_exit (id := 0) (L' := [c0, c1]) (M' := [ocL enR (some [mkRank 0 y.r0, mkRank 1 y.r1, mkRank 2 y.r2])]) rfl]
end Go.Proofs.Tryz.Kn
end
section
namespace Go.Proofs.Tryz.Kn
open Go Go.CE Go.PE
def zeroRank : Rank := ⟨⟨#[]⟩, ⟨#[]⟩, 0, 0, 0, none⟩
def badRank (r : Rank) : Rank := ⟨⟨#[]⟩, r.tone, r.num, r.den, r.first, r.wind⟩
section
variable (O : Orc) (l : List Rank) (lo hi : Int) (s0 s1 s2 s3 : DV)
theorem q8z (hlo : 0 ≤ lo) (hlo2 : lo ≤ 1000) {w : Nat} (h : w % 8 = 0) : Q8 O [I6 lo, I6 hi] [ocL enR (some l)] s0 s1 s2 s3 (U8 (w : Int)) = T8 O (enL 6 enR (some l)) (I6 lo) (I6 (lo - 1)) s0 s1 s2 s3 := by
 have e7 : pBin .rem (U8 (w : Int)) (U8 8) = some (U8 ((w % 8 : Nat) : Int)) := remN (b := 8) (by decide)
 have e8 : pBin .sub (I6 lo) (I6 1) = some (I6 (lo - 1)) := sub64
 rw [h] at e7
 unfold Q8
 simp only [e7, bindD_some, pBin_eql, ifB_eq, nthD_z, nthM_z, mkL_ocL, show (((0 : Nat) : Int) == 0) = true from rfl, if_true, e8]
theorem q8o {w : Nat} (h : w % 8 = 1) : Q8 O [I6 lo, I6 hi] [ocL enR (some l)] s0 s1 s2 s3 (U8 (w : Int)) = T8 O (enL 6 enR (some (List.replicate 61 zeroRank))) (I6 lo) (I6 hi) s0 s1 s2 s3 := by
 have e7 : pBin .rem (U8 (w : Int)) (U8 8) = some (U8 ((w % 8 : Nat) : Int)) := remN (b := 8) (by decide)
 rw [h] at e7
 unfold Q8
 rw [enL_some, List.map_replicate]
 simp only [e7, bindD_some, pBin_eql, ifB_eq, nthD_z, nthD_s, show (((1 : Nat) : Int) == 0) = false from rfl, show (((1 : Nat) : Int) == 1) = true from rfl, if_true, Bool.false_eq_true, if_false, show mkN 80 (I6 61) (I6 61) = some 61 from rfl]
 rfl
theorem q8t (a b c : Rank) {w : Nat} (h : w % 8 = 2) : Q8 O [I6 lo, I6 hi] [ocL enR (some [a, b, c])] s0 s1 s2 s3 (U8 (w : Int)) = T8 O (enL 6 enR (some [a, badRank b, c])) (I6 lo) (I6 hi) s0 s1 s2 s3 := by
 have e7 : pBin .rem (U8 (w : Int)) (U8 8) = some (U8 ((w % 8 : Nat) : Int)) := remN (b := 8) (by decide)
 rw [h] at e7
 have e8 : pIdxO (ocL enR (some [a, b, c])) (I6 1) = some 1 := rfl
 have e9 : setO 6 (ocL enR (some [a, b, c])) 1 0 [(.str ⟨#[]⟩)] = some (ocL enR (some [a, badRank b, c])) := rfl
 unfold Q8
 simp only [e7, bindD_some, pBin_eql, ifB_eq, nthD_z, nthD_s, nthM_z, mkL_ocL, show (((2 : Nat) : Int) == 0) = false from rfl, show (((2 : Nat) : Int) == 1) = false from rfl, show (((2 : Nat) : Int) == 2) = true from rfl, if_true, Bool.false_eq_true, if_false, e8, e9]
theorem q8e {w : Nat} (h : 2 < w % 8) : Q8 O [I6 lo, I6 hi] [ocL enR (some l)] s0 s1 s2 s3 (U8 (w : Int)) = T8 O (enL 6 enR (some l)) (I6 lo) (I6 hi) s0 s1 s2 s3 := by
 have e7 : pBin .rem (U8 (w : Int)) (U8 8) = some (U8 ((w % 8 : Nat) : Int)) := remN (b := 8) (by decide)
 have b0 : (((w % 8 : Nat) : Int) == 0) = false := beq_eq_false_iff_ne.2 (by omega)
 have b1 : (((w % 8 : Nat) : Int) == 1) = false := beq_eq_false_iff_ne.2 (by omega)
 have b2 : (((w % 8 : Nat) : Int) == 2) = false := beq_eq_false_iff_ne.2 (by omega)
 unfold Q8
 simp only [e7, bindD_some, pBin_eql, ifB_eq, nthD_z, nthD_s, nthM_z, mkL_ocL, b0, b1, b2, Bool.false_eq_true, if_false]
end
theorem q8 (k : Nat) (a b c : Rank) (ha : rankOk a) (hb : rankOk b) (hc : rankOk c) (lo hi : Int) (hlo : 0 ≤ lo) (hlo2 : lo ≤ 1000) (s : Stop) (hs : s.ok) (w : Nat) :
  Q8 (D (k + 9)) [I6 lo, I6 hi] [ocL enR (some [a, b, c])] (St s.name) (I6 s.num) (I6 s.den) (enL 3 enS s.segs) (U8 (w : Int)) = some (S1 (Bo true)) := by
 have h3 : ∀ x ∈ [a, b, c], rankOk x := fun x h => by
  simp only [List.mem_cons, List.not_mem_nil, or_false] at h
  rcases h with rfl | rfl | rfl <;> assumption
 have hl : ∀ (n : Nat), n ≤ 61 → n ≤ 9223372036854775807 := fun n h => Nat.le_trans h (by decide)
 by_cases a0 : w % 8 = 0
 ·rw [q8z _ _ _ _ _ _ _ _ hlo hlo2 a0]
  exact t8t k ⟨some [a, b, c], lo, lo - 1⟩ s ⟨hl 3 (by decide), h3⟩ hs
 by_cases a1 : w % 8 = 1
 ·rw [q8o _ _ _ _ _ _ _ _ a1]
  exact t8t k ⟨some (List.replicate 61 zeroRank), lo, hi⟩ s ⟨by
   show (List.replicate 61 zeroRank).length ≤ _
   rw [List.length_replicate]
   exact hl 61 (by decide), fun r hr => by
   rw [List.eq_of_mem_replicate hr]
   exact hl 0 (by decide)⟩ hs
 by_cases a2 : w % 8 = 2
 ·rw [q8t _ _ _ _ _ _ _ a b c a2]
  exact t8t k ⟨some [a, badRank b, c], lo, hi⟩ s ⟨hl 3 (by decide), fun x h => by
   simp only [els_some, List.mem_cons, List.not_mem_nil, or_false] at h
   rcases h with rfl | rfl | rfl
   ·exact ha
   ·exact hb
   ·exact hc⟩ hs
 ·rw [q8e _ _ _ _ _ _ _ _ (by omega)]
  exact t8t k ⟨some [a, b, c], lo, hi⟩ s ⟨hl 3 (by decide), h3⟩ hs
theorem t8 (k : Nat) (y : Site) (hy : y.ok) (s : Stop) (hs : s.ok) (w : Nat) : D8 (k + 9) 8 [SA (enSite y), SA (enStop s), S1 (U8 (w : Int))] = some (S1 (Bo true)) := by
 have hx := (placeOf_ok y).ranks
 have c10 := t10 (k + 8) s hs
 have lp := lp11 (k + 7) y hy
 have ha : y.low % 24 < 24 := Nat.mod_lt _ (by omega)
 have hb : y.keys % 16 < 16 := Nat.mod_lt _ (by omega)
 have q := q8 k (mkRank 0 y.r0) (mkRank 1 y.r1) (mkRank 2 y.r2) (hx _ (by simp [placeOf])) (hx _ (by simp [placeOf])) (hx _ (by simp [placeOf])) (36 + ((y.low % 24 : Nat) : Int)) (36 + ((y.low % 24 : Nat) : Int) + ((y.keys % 16 : Nat) : Int)) (by omega) (by omega) s hs w
 generalize hM : [ocL enR (some [mkRank 0 y.r0, mkRank 1 y.r1, mkRank 2 y.r2])] = M at lp q
 unfold enStop at c10
 unfold enSite enRow enStop
 simp only [List.cons_append, List.nil_append]
 rw [D8_form]
 unfold R8
 simp only [D9, b1_some, pNot_bool, bindD_some, ifB_eq, Bool.not_true, Bool.false_eq_true, if_false, c10]
 cases shortB s with
 | false => rfl
 | true =>
  have e1 : pBin .rem (U8 (y.low : Int)) (U8 24) = some (U8 ((y.low % 24 : Nat) : Int)) := remN (b := 24) (by decide)
  have e2 : pConv .i64 (U8 ((y.low % 24 : Nat) : Int)) = some (I6 ((y.low % 24 : Nat) : Int)) := conv64
  have e3 : pBin .add (I6 36) (I6 ((y.low % 24 : Nat) : Int)) = some (I6 (36 + ((y.low % 24 : Nat) : Int))) := add64
  have e4 : pBin .rem (U8 (y.keys : Int)) (U8 16) = some (U8 ((y.keys % 16 : Nat) : Int)) := remN (b := 16) (by decide)
  have e5 : pConv .i64 (U8 ((y.keys % 16 : Nat) : Int)) = some (I6 ((y.keys % 16 : Nat) : Int)) := conv64
  have e6 : pBin .add (I6 (36 + ((y.low % 24 : Nat) : Int))) (I6 ((y.keys % 16 : Nat) : Int)) = some (I6 (36 + ((y.low % 24 : Nat) : Int) + ((y.keys % 16 : Nat) : Int))) := add64
  simp only [e1, e2, e3, e4, e5, e6, bindD_some, Bool.not_true, Bool.false_eq_true, if_false]
  rw [lp]
  simp only [loopR_exit, Nat.beq_refl, cond_true]
  exact q
end Go.Proofs.Tryz.Kn
end
section
namespace Go.Proofs.YtbecpkicohiijaaGreatDoor
open Go Go.CE Go.PE Go.ChangeShapes Go.WideShapes Go.ChangeAt Go.RowKit Go.Proofs.Tryz.Kn Go.Joins
set_option maxRecDepth 100000
namespace Law
theorem own : ownKnob Tryz.prog.godebug = none := by kernel_rfl
theorem laidOut : laidOutB Tryz.prog = true := by kernel_rfl
theorem room (k : Nat) : (FR none).room k := by first | trivial | simp [Fence.room, Fence.wide]
def laid3 : List (String × DataW Unit) := [("math/bits.deBruijn32tab", Rows.laid_math_bits_deBruijn32tab), ("math/bits.deBruijn64tab", Rows.laid_math_bits_deBruijn64tab), ("internal/strconv.uint64pow10", Rows.laid_internal_strconv_uint64pow10)]
theorem door_met (os : Os) (args : Array Value) : laidMetH Tryz.prog laid3 ((World.doorLaid Tryz.prog 400 os).forCall (fun _ _ => 0) ⟨#[], args, []⟩).memory :=
 laidMetH_of_parts3 (fuel := 8) (laidMet_of_run' 8 (by kernel_rfl) (by kernel_rfl)) (by kernel_rfl) (by kernel_rfl)
theorem g64 : Tryz.prog.globalNamed "math/bits.deBruijn64tab" = some 3 := by kernel_rfl
theorem gpow : Tryz.prog.globalNamed "internal/strconv.uint64pow10" = some 1 := by kernel_rfl
noncomputable def t64 : TypeId := ((Tryz.prog.globals[3]?).map (·.type)).getD 0
noncomputable def tpow : TypeId := ((Tryz.prog.globals[1]?).map (·.type)).getD 0
def n64 : List Nat := ((gtabK 3).getD (.u8, [])).2
def npow : List Nat := ((gtabK 1).getD (.u8, [])).2
theorem gtab64 : gtabK 3 = some (.u8, n64) := rfl
theorem gtabpow : gtabK 1 = some (.u64, npow) := rfl
theorem lit64 : (Rows.laid_math_bits_deBruijn64tab : DataW Unit) = .agg (n64.map (litI .u8)) := rfl
theorem litpow : (Rows.laid_internal_strconv_uint64pow10 : DataW Unit) = .agg (npow.map (litI .u64)) := rfl
noncomputable def elemOf (t : TypeId) : TypeId := match Tryz.prog.underlying t with | some (.array _ e) => e | _ => 0
theorem e64 : ∃ n e, Tryz.prog.underlying t64 = some (.array n e) ∧ Tryz.prog.underlying e = some (.int .u8) ∧ Tryz.prog.cellsOf e = 1 := ⟨64, elemOf t64, by kernel_rfl, by kernel_rfl, by kernel_rfl⟩
theorem epow : ∃ n e, Tryz.prog.underlying tpow = some (.array n e) ∧ Tryz.prog.underlying e = some (.int .u64) ∧ Tryz.prog.cellsOf e = 1 := ⟨20, elemOf tpow, by kernel_rfl, by kernel_rfl, by kernel_rfl⟩
theorem gtab_none {g : Nat} (h1 : g ≠ 3) (h2 : g ≠ 1) : gtabK g = none := by
 unfold gtabK
 split
 ·exact absurd rfl h1
 ·exact absurd rfl h2
 ·rfl
theorem gw_of {W : World} (h : laidMetH Tryz.prog laid3 W) : GOk W := by
 rw [MakeChecks.laidMetH_plain _ _ _ (by kernel_rfl)] at h
 obtain ⟨ps, ⟨g0, t0, cs0, f0, p0, q0, hg0, ht0, hv0, hd0, ⟨g1, t1, cs1, f1, p1, q1, hg1, ht1, hv1, hd1, ⟨g2, t2, cs2, f2, p2, q2, hg2, ht2, hv2, hd2, _, _⟩, _⟩, _⟩, _, _⟩ := h
 obtain rfl := Option.some.inj (g64.symm.trans hg1)
 obtain rfl := Option.some.inj (gpow.symm.trans hg2)
 have k1 : t1 = t64 := by unfold t64; rw [ht1]; rfl
 have k2 : t2 = tpow := by unfold tpow; rw [ht2]; rfl
 subst k1 k2
 rw [lit64] at hd1
 rw [litpow] at hd2
 obtain ⟨n1, e1, a1, a2, a3⟩ := e64
 obtain ⟨n2, e2, b1, b2, b3⟩ := epow
 intro g off c hc
 by_cases c1 : g = 3
 ·subst c1
  exact gw_var gtab64 (fun off m hm => laid_ints hg1 a1 a2 a3 hv1 hd1 hm) hc
 by_cases c2 : g = 1
 ·subst c2
  exact gw_var gtabpow (fun off m hm => laid_ints hg2 b1 b2 b3 hv2 hd2 hm) hc
 ·unfold gLoad at hc
  rw [gtab_none c1 c2] at hc
  cases hc
def k26 : List IntKind := List.replicate 11 .u8
theorem rr26 : Tryz.prog.readableRec 26 = true := by kernel_rfl
theorem lt26 : 26 < Tryz.prog.types.size := of_decide_eq_true (by kernel_rfl)
set_option maxRecDepth 100000 in
theorem open26 {W : World} {base : Nat} {v : Value} (hv : Value.okWide Tryz.prog W .any base 26 v) : ∃ y : Site, y.ok ∧ ∃ f, intsD k26 f 0 = enSite y ∧ v = concA (φ0 W) (.s (.agg (intsC k26 f 0))) := by
 obtain ⟨f, e, h⟩ := plain_open (ks := k26) (ts := ((Tryz.prog.cellTypes Tryz.prog.depth 26).getD [])) (by kernel_rfl) (by kernel_rfl) (by kernel_rfl) (by kernel_rfl) hv
 have u : ∀ i, k26[i]? = some .u8 → ∃ m : Nat, f i = (m : Int) ∧ m < 256 := fun i hi => has_u8 (h i .u8 hi)
 obtain ⟨m0, e0, l0⟩ := u 0 rfl
 obtain ⟨m1, e1, l1⟩ := u 1 rfl
 obtain ⟨m2, e2, l2⟩ := u 2 rfl
 obtain ⟨m3, e3, l3⟩ := u 3 rfl
 obtain ⟨m4, e4, l4⟩ := u 4 rfl
 obtain ⟨m5, e5, l5⟩ := u 5 rfl
 obtain ⟨m6, e6, l6⟩ := u 6 rfl
 obtain ⟨m7, e7, l7⟩ := u 7 rfl
 obtain ⟨m8, e8, l8⟩ := u 8 rfl
 obtain ⟨m9, e9, l9⟩ := u 9 rfl
 obtain ⟨m10, e10, l10⟩ := u 10 rfl
 refine ⟨⟨⟨m0, m1, m2⟩, ⟨m3, m4, m5⟩, ⟨m6, m7, m8⟩, m9, m10⟩, ⟨⟨l0, l1, l2⟩, ⟨l3, l4, l5⟩, ⟨l6, l7, l8⟩, l9, l10⟩, f, ?_, e⟩
 show [DV.int .u8 (f 0), .int .u8 (f 1), .int .u8 (f 2), .int .u8 (f 3), .int .u8 (f 4), .int .u8 (f 5), .int .u8 (f 6), .int .u8 (f 7), .int .u8 (f 8), .int .u8 (f 9), .int .u8 (f 10)] = _
 rw [e0, e1, e2, e3, e4, e5, e6, e7, e8, e9, e10]
 rfl
theorem rows_of {α : Type} {f : α → List DV} {q : α → Prop} : ∀ {xs : List (List DV)}, (∀ x ∈ xs, ∃ a, x = f a ∧ q a) → ∃ l : List α, xs = l.map f ∧ ∀ a ∈ l, q a
 | [], _ => ⟨[], rfl, fun a h => by cases h⟩
 | x :: xs, H => by
  obtain ⟨a, rfl, h1⟩ := H x (List.mem_cons_self ..)
  obtain ⟨l, rfl, h2⟩ := rows_of fun y hy => H y (List.mem_cons_of_mem _ hy)
  exact ⟨a :: l, rfl, fun b hb => by
   rcases List.mem_cons.1 hb with rfl | hb
   ·exact h1
   ·exact h2 b hb⟩
theorem ty_struct {n t : Nat} {fs : Array Field} {ds : List DV} (e : Tryz.prog.underlying t = some (.struct fs)) (h : Ty Tryz.prog (n + 1) t ds) : TyFs (Ty Tryz.prog n) (fs.toList.map (·.type)) ds := by
 rw [Ty, e] at h; exact h
theorem ty_slice {n t el : Nat} {ds : List DV} (e : Tryz.prog.underlying t = some (.slice el)) (h : Ty Tryz.prog (n + 1) t ds) : ds = [.nils] ∨ ∃ xs, ds = [.lst (Tryz.prog.cellsOf el) xs] ∧ xs.length ≤ maxLen ∧ ∀ x ∈ xs, Ty Tryz.prog n el x := by
 rw [Ty, e] at h; exact h
theorem ty_int {n t : Nat} {k : IntKind} {ds : List DV} (e : Tryz.prog.underlying t = some (.int k)) (h : Ty Tryz.prog (n + 1) t ds) : ∃ m, ds = [.int k m] ∧ (Lit.int k m).wf = true := by
 rw [Ty, e] at h; exact h
theorem ty_str {n t : Nat} {ds : List DV} (e : Tryz.prog.underlying t = some .string) (h : Ty Tryz.prog (n + 1) t ds) : ∃ s, ds = [.str s] ∧ s.size ≤ maxLen := by
 rw [Ty, e] at h; exact h
theorem c65 : Tryz.prog.cellsOf 65 = 2 := by kernel_rfl
theorem c57 : Tryz.prog.cellsOf 57 = 3 := by kernel_rfl
theorem ty_i {n : Nat} {ds : List DV} (h : Ty Tryz.prog (n + 1) 3 ds) : ∃ m : Int, ds = [I6 m] := by
 have h := ty_int Tryz.underlying3 h
 obtain ⟨m, rfl, _⟩ := h
 exact ⟨m, rfl⟩
theorem ty65 {n : Nat} {ds : List DV} (h : Ty Tryz.prog (n + 2) 65 ds) : ∃ d : Draw, ds = enD d := by
 have h := ty_struct Tryz.underlying65 h
 obtain ⟨a, b, rfl, h1, a2, b2, rfl, h2, rfl⟩ := h
 obtain ⟨m1, rfl⟩ := ty_i h1
 obtain ⟨m2, rfl⟩ := ty_i h2
 exact ⟨⟨m1, m2⟩, rfl⟩
theorem ty41 {n : Nat} {ds : List DV} (h : Ty Tryz.prog (n + 3) 41 ds) : ∃ l : Sl Draw, ds = [enL 2 enD l] ∧ l.els.length ≤ 9223372036854775807 := by
 have h := ty_slice Tryz.underlying41 h
 rcases h with rfl | ⟨xs, rfl, h1, h2⟩
 ·exact ⟨none, rfl, by decide⟩
 ·obtain ⟨l, rfl, _⟩ := rows_of (f := enD) (q := fun _ => True) fun x hx => by obtain ⟨d, rfl⟩ := ty65 (h2 x hx); exact ⟨d, rfl, trivial⟩
  rw [List.length_map] at h1
  exact ⟨some l, by rw [c65, enL_some], Nat.le_trans h1 (by decide)⟩
theorem ty57 {n : Nat} {ds : List DV} (h : Ty Tryz.prog (n + 4) 57 ds) : ∃ g : Seg, ds = enS g ∧ segOk g := by
 have h := ty_struct Tryz.underlying57 h
 obtain ⟨a, b, rfl, h1, a2, b2, rfl, h2, a3, b3, rfl, h3, rfl⟩ := h
 obtain ⟨m1, rfl⟩ := ty_i h1
 obtain ⟨m2, rfl⟩ := ty_i h2
 obtain ⟨l, rfl, hl⟩ := ty41 h3
 exact ⟨⟨m1, m2, l⟩, rfl, hl⟩
theorem ty29 {n : Nat} {ds : List DV} (h : Ty Tryz.prog (n + 5) 29 ds) : ∃ l : Sl Seg, ds = [enL 3 enS l] ∧ l.els.length ≤ 9223372036854775807 ∧ ∀ g ∈ l.els, segOk g := by
 have h := ty_slice Tryz.underlying29 h
 rcases h with rfl | ⟨xs, rfl, h1, h2⟩
 ·exact ⟨none, rfl, by decide, fun g h => by cases h⟩
 ·obtain ⟨l, rfl, h3⟩ := rows_of (f := enS) (q := segOk) fun x hx => ty57 (h2 x hx)
  rw [List.length_map] at h1
  exact ⟨some l, by rw [c57, enL_some], Nat.le_trans h1 (by decide), h3⟩
theorem ty28 {n : Nat} {ds : List DV} (h : Ty Tryz.prog (n + 2) 28 ds) : ∃ a b : Int, ds = [I6 a, I6 b] := by
 have h := ty_struct Tryz.underlying28 h
 obtain ⟨a, b, rfl, h1, a2, b2, rfl, h2, rfl⟩ := h
 obtain ⟨m1, rfl⟩ := ty_i h1
 obtain ⟨m2, rfl⟩ := ty_i h2
 exact ⟨m1, m2, rfl⟩
theorem ty9 {n : Nat} {ds : List DV} (h : Ty Tryz.prog (n + 1) 9 ds) : ∃ s : ByteArray, ds = [St s] := by
 have h := ty_str Tryz.underlying9 h
 obtain ⟨s, rfl, _⟩ := h
 exact ⟨s, rfl⟩
theorem ty31 {ds : List DV} (h : Ty Tryz.prog 6 31 ds) : ∃ s : Stop, ds = enStop s ∧ s.ok := by
 have h := ty_struct Tryz.underlying31 h
 obtain ⟨a, b, rfl, h1, a2, b2, rfl, h2, a3, b3, rfl, h3, rfl⟩ := h
 obtain ⟨s, rfl⟩ := ty9 h1
 obtain ⟨m1, m2, rfl⟩ := ty28 h2
 obtain ⟨l, rfl, h4, h5⟩ := ty29 h3
 exact ⟨⟨s, m1, m2, l⟩, rfl, ⟨h4, h5⟩⟩
theorem rr31 : Tryz.prog.readableRec 31 = true := by kernel_rfl
theorem lt31 : 31 < Tryz.prog.types.size := of_decide_eq_true (by kernel_rfl)
theorem rr5 : Tryz.prog.readableRec 5 = true := by kernel_rfl
theorem lt5 : 5 < Tryz.prog.types.size := of_decide_eq_true (by kernel_rfl)
theorem dt31 : dataT Tryz.prog 6 31 = true := by kernel_rfl
theorem dt5 : dataT Tryz.prog 1 5 = true := by kernel_rfl
theorem ty5 {ds : List DV} (h : Ty Tryz.prog 1 5 ds) : ∃ w : Nat, ds = [U8 (w : Int)] := by
 have h := ty_int Tryz.underlying5 h
 obtain ⟨m, rfl, hm⟩ := h
 exact ⟨m.toNat, by
  have : (0 : Int) ≤ m := by
   simp only [Lit.wf] at hm
   rw [Bool.and_eq_true] at hm
   exact of_decide_eq_true hm.1
  rw [Int.toNat_of_nonneg this]⟩
end Law
end Go.Proofs.YtbecpkicohiijaaGreatDoor
end
section
namespace Go.Proofs.YtbecpkicohiijaaGreatDoor
open Go Go.CE Go.PE Go.ChangeShapes Go.WideShapes Go.ChangeAt Go.RowKit Go.Proofs.Tryz.Kn Go.Joins
namespace Checks
open Law
set_option maxRecDepth 100000 in
theorem lifted (os : Os) (started : os.Started) (H : Type) (enc : TypeId × Value → H) :
  ReturnsInHanded {} Tryz.checked os 8 .any (fun w args => (Rows.stopChecksSpec.pre enc Tryz.prog Tryz.f8 [] false w args ∧ laidMetH Tryz.prog laid3 w) ∧ sizedMet enc Tryz.prog Tryz.f8 (OpenSpec.ofChange Rows.stopChecksSpec) false w args)
   (Rows.stopChecksSpec.post enc Tryz.prog Tryz.f8 false true false false) := by
 refine returnsInHanded_of_change_and (C := Tryz.checked) (X := fun w _ => laidMetH Tryz.prog laid3 w) (fun _ _ _ hh h => h.of_heap hh) own started (by kernel_rfl) Tryz.func8
  (ChangeSpec.witness_shaped (enc := enc) (C := Tryz.checked) (os := os) (X := fun w _ => laidMetH Tryz.prog laid3 w) false (World.doorLaid Tryz.prog 400 os) #[.agg (intsV k26 (fun _ => 0) 0).toArray, .agg #[.string ⟨#[]⟩, .int .i64 0, .int .i64 0, .slice none 0 0], .int .u8 0] 8 rfl (World.shaped_of_RefB (by kernel_rfl) (by kernel_rfl)) (by kernel_rfl) (by kernel_rfl) (by kernel_rfl) (door_met os _)) ?_
 intro W base args ds gs before hval0 hW _ _ hL _
 have hval : ∀ (j : Nat) t v, Tryz.f8.params[j]? = some t → args[j]? = some v → Value.okWide Tryz.prog W .any base t v := hval0
 have hW' := hW
 obtain ⟨p, q, hA0, hV, rfl, hfz, hnd⟩ := hW
 have hA : DataW.TrodAll enc Tryz.prog W 0 (fun _ => true) true Tryz.f8.params.toList args.toList ds p := hA0
 rw [Tryz.params8] at hA hval
 obtain ⟨v0, v1, v2, d0, d1, d2, p0, p1, p2, rfl, rfl, rfl, h0, h1, h2⟩ := trodAll_three hA
 obtain ⟨rfl, rfl⟩ := trodVars_none hV
 obtain ⟨y, hy, f0, g0, rfl⟩ := open26 (hval 0 26 v0 rfl rfl)
 obtain ⟨vs, es, rfl, r1, w1, hty⟩ := PE.open_row 6 (by kernel_rfl) dt31 (hval 1 31 v1 rfl rfl) h1
 obtain ⟨s, rfl, hs⟩ := ty31 hty
 obtain ⟨c2, x2, rfl, r2, w2, hty2⟩ := PE.open_one 1 (by kernel_rfl) (by kernel_rfl) dt5 (hval 2 5 v2 rfl rfl) h2
 obtain ⟨w, hw⟩ := ty5 hty2
 obtain rfl : x2 = U8 (w : Int) := (List.cons.inj hw).1
 clear hA0 hval0
 simp only [List.append_nil] at hW'
 have c := calls_of bSums_ok (D8_ok 9) (gw_of hL) (g := 8) (vs := [.s (.agg (intsC k26 f0 0)), .s (.agg vs), .s (.one c2)]) (ds := [.s (.agg (intsD k26 f0 0)), .s (.agg (enStop s)), .s (.one (U8 (w : Int)))])
  ⟨plain_rep _ _ _ _, r1, r2, trivial⟩ (fun x hx => by
   simp only [List.mem_cons, List.not_mem_nil, or_false] at hx
   rcases hx with rfl | rfl | rfl
   ·exact plain_wf _ _ _ _
   ·exact w1
   ·exact w2) (b := true) (by rw [g0]; exact t8 0 y hy s hs w)
 have hlt : ∀ x ∈ p0 ++ (p1 ++ p2), x.block < W.heap.size := fun x hx => hW'.lt x (by simpa using hx)
 refine (c.calls room).mono fun e W' ⟨he, hb⟩ => ⟨_, he, ?_⟩
 refine ⟨[d0, d1, d2], [], p0 ++ (p1 ++ p2), [], p0 ++ (p1 ++ p2), [], by simpa using hW', ?_, ?_, rfl, hb.frame _, fun hh => by cases hh⟩
 ·exact trodAll_mk1 (shut_bool Tryz.underlying4 true)
 ·exact trodAll_mk3 (Below.trod laidOut rr26 lt26 h0 hb fun x hx => hlt x (by simp [hx])) (Below.trod laidOut rr31 lt31 h1 hb fun x hx => hlt x (by simp [hx])) (Below.trod laidOut rr5 lt5 h2 hb fun x hx => hlt x (by simp [hx]))
end Checks
end Go.Proofs.YtbecpkicohiijaaGreatDoor
end
section
namespace Go.Proofs.YtbecpkicohiijaaGreatDoor
open Go Go.CE Go.PE Go.ChangeShapes Go.WideShapes Go.ChangeAt Go.RowKit Go.Proofs.Tryz.Kn Go.Joins
theorem stopChecks_said : Rows.StopChecksSaid :=
 OpenClaim.holds_of_wide 8 Tryz.f8 rfl rfl rfl rfl rfl rfl rfl ⟨rfl, rfl, rfl, rfl, rfl⟩ rfl rfl rfl rfl rfl (by kernel_rfl) Tryz.func8 (by kernel_rfl)
  (of_decide_eq_true (by kernel_rfl)) (by unfold Func.isWrapper; first | (rw [if_pos (by decide +kernel)]; kernel_rfl) | (rw [if_neg (by decide +kernel)]; exact ⟨rfl, rfl⟩))
  (fun os started H enc _ => Checks.lifted os started H enc)
theorem stopChecks_holds : Rows.StopChecksCardSaid :=
 Claim7.holds_tied_plain_at .later [] [.data, .data, .data] true (true, "d511158df26ec80f4191fede8192d34690ee7b3f4ec183e9ab09dd7d2709bbb6") false
  stopChecks_said (fun _ h => by cases h) (by kernel_rfl) (fun _ h => by cases h) stopChecks_row_tie rfl ⟨rfl, rfl⟩ (by kernel_rfl) rfl
  (fun f fn hf hfn => by
   obtain rfl : f = 8 := Option.some.inj ((show Tryz.prog.funcNamed "bombarde/bombardelaw15.StopChecks" = some 8 by kernel_rfl).symm.trans hf) |>.symm
   obtain rfl : fn = Tryz.f8 := (Option.some.inj (Tryz.func8.symm.trans hfn)).symm
   exact ⟨by kernel_rfl, fun j t ht => by
    rw [Tryz.params8] at ht
    have hm : t ∈ [26, 31, 5] := by simpa using Array.mem_of_getElem? ht
    have hall : ([26, 31, 5].all fun u => !Tryz.prog.wantsStandIn u) = true := by kernel_rfl
    exact (show Tryz.prog.wantsStandIn t = false by simpa using List.all_eq_true.1 hall t hm)⟩)
  (by kernel_rfl)
#print axioms stopChecks_holds
end Go.Proofs.YtbecpkicohiijaaGreatDoor
end
