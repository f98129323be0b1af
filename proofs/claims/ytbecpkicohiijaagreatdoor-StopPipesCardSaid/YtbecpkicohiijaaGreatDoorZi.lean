/-
  The law StopPipes of the program answers true for every input, and each argument reads as before. No condition.
-/
import Derived.Test.YtbecpkicohiijaaGreatDoorXh
import Derived.Test.YtbecpkicohiijaaGreatDoorTie
import Derived.Test.YtbecpkicohiijaaGreatDoorCards
import Derived.LaidMore
import Derived.Stop.Joined
import Derived.Carry
import Derived.Lib.SmallJoins
section
namespace Go.Proofs.Tryz.Kn
open Go Go.CE Go.PE
theorem t64 (k : Nat) (a b n : Int) : D (k + 1) 64 [SA [I6 a, I6 b], S1 (I6 n)] = some (S1 (Bo (decide (a ≤ n) && decide (n ≤ b)))) := by
 rw [D64]
 unfold P64
 by_cases h1 : a ≤ n <;> by_cases h2 : n ≤ b <;> simp [h1, h2]
theorem l65i (l : List Draw) (x : Draw) (i : Nat) (hx : l[i]? = some x) (hl : l.length ≤ 9223372036854775807) : ∀ (r : List Draw) (j : Nat), (l.take i).drop j = r →
  ploop (F65_15 [I6 (i : Int)] (enL 2 enD (some l))) [I6 (j : Int)] [] = some (if r.any (fun y => decide (x = y)) then (.ret, [I6 9], []) else (.exit 2, [], [])) := by
 intro r
 have hi := (List.getElem?_eq_some_iff.1 hx).1
 induction r with
 | nil =>
  intro j h
  have := end_drop h
  rw [List.length_take] at this
  refine ploop_exit ?_
  simp only [F65_15, nthD_z, pBin_lss, bindD_some, nlt_i (show i ≤ j by omega), ifB_eq]
  rfl
 | cons y r ih =>
  intro j h
  have h1 := lt_drop h
  rw [List.length_take] at h1
  have hy : l[j]? = some y := by
   have := get_drop h
   rwa [List.getElem?_take, if_pos (by omega)] at this
  have ea : pBin .add (I6 (j : Int)) (I6 1) = some (I6 ((j + 1 : Nat) : Int)) := add64
  have iy : pIdx 2 (enL 2 enD (some l)) (I6 (j : Int)) = some (enD y) := by rw [pIdx_enL, els_some, hy]; rfl
  have ix : pIdx 2 (enL 2 enD (some l)) (I6 (i : Int)) = some (enD x) := by rw [pIdx_enL, els_some, hx]; rfl
  have eq := eqDs_draw y x
  have body : F65_15 [I6 (i : Int)] (enL 2 enD (some l)) [I6 (j : Int)] [] = some (if x = y then (.ret, [I6 9], []) else (.normal, [I6 ((j + 1 : Nat) : Int)], [])) := by
   simp only [F65_15, nthD_z, pBin_lss, bindD_some, lt_i (show j < i by omega), ifB_eq, if_true, iy, ix, enD, atD_z, atD_s, eq, ea]
   by_cases hz : x = y
   ·simp [hz]
   ·have hz' : ¬ y = x := fun h => hz h.symm
    simp [hz, hz']
  by_cases hc : x = y
  ·rw [if_pos hc] at body; rw [ploop_ret body]; simp [hc]
  ·rw [if_neg hc] at body; rw [ploop_go body, ih (j + 1) (next_drop h)]; simp [hc]
theorem l65 (rs : Sl Rank) (l : List Draw) (hl : l.length ≤ 9223372036854775807) : ∀ (r : List Draw) (i : Nat), l.drop i = r →
  ploop (F65_2 (enL 2 enD (some l)) (enL 6 enR rs)) [I6 (i : Int)] [] = some (errX 0 (drawsGo rs.els.length (l.take i) r)) := by
 intro r
 induction r with
 | nil =>
  intro i h
  refine ploop_exit ?_
  simp only [F65_2, nthD_z, pLen_enL, els_some, pBin_lss, bindD_some, nlt_i (end_drop h), ifB_eq]
  rfl
 | cons x r ih =>
  intro i h
  have h1 := lt_drop h
  have ea : pBin .add (I6 (i : Int)) (I6 1) = some (I6 ((i + 1 : Nat) : Int)) := add64
  have ix : pIdx 2 (enL 2 enD (some l)) (I6 (i : Int)) = some (enD x) := pIdx_drop (v := some l) h _
  have li := l65i l x i (get_drop h) hl (l.take i) 0 rfl
  have body : F65_2 (enL 2 enD (some l)) (enL 6 enR rs) [I6 (i : Int)] [] =
    some (if x.rank < 0 then (.ret, [I6 10], []) else if (rs.els.length : Int) ≤ x.rank then (.ret, [I6 10], []) else if x.shift < -127 then (.ret, [I6 3], []) else if 127 < x.shift then (.ret, [I6 3], []) else if (l.take i).any (fun y => decide (x = y)) then (.ret, [I6 9], []) else (.normal, [I6 ((i + 1 : Nat) : Int)], [])) := by
   simp only [F65_2, nthD_z, pLen_enL, els_some, pBin_lss, bindD_some, lt_i h1, ifB_eq, if_true, ix, enD, atD_z, atD_s, pBin_geq, pBin_gtr, ea, decide_eq_true_eq]
   rw [show (I6 0 : DV) = I6 ((0 : Nat) : Int) from rfl]
   rw [li]
   by_cases a5 : (l.take i).any (fun y => decide (x = y)) = true
   ·simp only [a5, if_true, loopR_ret, nthD_z]
    repeat (split <;> try rfl)
   ·simp only [a5]
    repeat (split <;> try rfl)
  have hn : l.take (i + 1) = l.take i ++ [x] := by rw [List.take_add_one, get_drop h]; rfl
  unfold drawsGo
  by_cases a1 : x.rank < 0
  ·rw [if_pos a1] at body ⊢; rw [ploop_ret body]; rfl
  rw [if_neg a1] at body ⊢
  by_cases a2 : (rs.els.length : Int) ≤ x.rank
  ·rw [if_pos a2] at body ⊢; rw [ploop_ret body]; rfl
  rw [if_neg a2] at body ⊢
  by_cases a3 : x.shift < -127
  ·rw [if_pos a3] at body ⊢; rw [ploop_ret body]; rfl
  rw [if_neg a3] at body ⊢
  by_cases a4 : 127 < x.shift
  ·rw [if_pos a4] at body ⊢; rw [ploop_ret body]; rfl
  rw [if_neg a4] at body ⊢
  by_cases a5 : (l.take i).any (fun y => decide (x = y)) = true
  ·rw [if_pos a5] at body ⊢; rw [ploop_ret body]; rfl
  rw [if_neg a5] at body ⊢
  rw [ploop_go body, ih (i + 1) (next_drop h), hn]
theorem t65 (k : Nat) (x : Place) (l : Sl Draw) (hl : l.els.length ≤ 9223372036854775807) : D (k + 3) 65 [SA (enP x), S1 (enL 2 enD l)] = some (S1 (I6 (drawsErr x.ranks.els.length l.els))) := by
 unfold enP
 rw [D65]
 unfold P65 drawsErr
 simp only [pLen_enL, bindD_some, pBin_gtr, ifB_eq]
 by_cases h1 : 8 < l.els.length
 ·have h2 : (8 : Int) < (l.els.length : Int) := by omega
  simp [h1, h2]
 ·have h2 : ¬ ((8 : Int) < (l.els.length : Int)) := by omega
  simp only [h1, h2, decide_false, Bool.false_eq_true, if_false]
  cases l with
  | none => rw [ploop_exit (id := 0) (L' := []) (M' := []) (by rfl)]; rfl
  | some l =>
   have := l65 x.ranks l hl l 0 rfl
   rw [show (I6 0 : DV) = I6 ((0 : Nat) : Int) from rfl, show Sl.els (some l : Sl Draw) = l from rfl, this, List.take_zero]
   unfold errX
   by_cases h3 : drawsGo x.ranks.els.length [] l = 0
   ·simp [h3]
   ·simp [h3]
theorem l36 (k : Nat) (x : Place) (l : Sl Seg) (hl : l.els.length ≤ 9223372036854775807) (hs : ∀ g ∈ l.els, segOk g) : ∀ (r : List Seg) (i : Nat), l.els.drop i = r →
  ploop (F36_10 (D (k + 3)) (enL 3 enS l) (I6 x.low) (I6 x.high) (enL 6 enR x.ranks)) [I6 (i : Int)] [] = some (errX 0 (segsErr x r (prevHi l.els i))) := by
 intro r
 induction r with
 | nil =>
  intro i h
  refine ploop_exit ?_
  simp only [F36_10, nthD_z, pLen_enL, pBin_lss, bindD_some, nlt_i (end_drop h), ifB_eq]
  rfl
 | cons g r ih =>
  intro i h
  have h1 := lt_drop h
  have ea : pBin .add (I6 (i : Int)) (I6 1) = some (I6 ((i + 1 : Nat) : Int)) := add64
  have c := t65 k x g.draws (hs g (List.mem_of_getElem? (get_drop h)))
  simp only [enP] at c
  have body : F36_10 (D (k + 3)) (enL 3 enS l) (I6 x.low) (I6 x.high) (enL 6 enR x.ranks) [I6 (i : Int)] [] =
    some (if min g.lo g.hi < x.low then (.ret, [I6 23], []) else if x.high < max g.lo g.hi then (.ret, [I6 23], []) else if g.hi < g.lo then (.ret, [I6 6], [])
     else if leO g.lo (prevHi l.els i) = true then (.ret, [I6 6], []) else if drawsErr x.ranks.els.length g.draws.els ≠ 0 then (.ret, [I6 (drawsErr x.ranks.els.length g.draws.els)], []) else (.normal, [I6 ((i + 1 : Nat) : Int)], [])) := by
   simp only [F36_10, nthD_z, pLen_enL, pBin_lss, bindD_some, lt_i h1, ifB_eq, if_true, pIdx_drop h, enS, atD_z, atD_s, t64, b1_some, pNot_bool, pBin_gtr, c, ea, decide_eq_true_eq, pBin_neq]
   have tail : (if (!(drawsErr x.ranks.els.length g.draws.els == 0)) = true then some ((.ret, [I6 (drawsErr x.ranks.els.length g.draws.els)], []) : PX) else some (.normal, [I6 ((i + 1 : Nat) : Int)], [])) =
     some (if drawsErr x.ranks.els.length g.draws.els ≠ 0 then (.ret, [I6 (drawsErr x.ranks.els.length g.draws.els)], []) else (.normal, [I6 ((i + 1 : Nat) : Int)], [])) := by
    by_cases hz : drawsErr x.ranks.els.length g.draws.els = 0 <;> simp [hz]
   rw [tail]
   have hmid : ∀ (R : Option PX) (Z : PX), (¬ (min g.lo g.hi < x.low) → ¬ (x.high < max g.lo g.hi) → R = some Z) →
     (if (!(decide (x.low ≤ g.lo) && decide (g.lo ≤ x.high))) = true then some (((.ret, [I6 23], []) : PX)) else if (!(decide (x.low ≤ g.hi) && decide (g.hi ≤ x.high))) = true then some (((.ret, [I6 23], []) : PX)) else R) =
     some (if min g.lo g.hi < x.low then (.ret, [I6 23], []) else if x.high < max g.lo g.hi then (.ret, [I6 23], []) else Z) := by
    intro R Z hR
    by_cases b1 : x.low ≤ g.lo ∧ g.lo ≤ x.high
    ·have c1 : (!(decide (x.low ≤ g.lo) && decide (g.lo ≤ x.high))) = false := by simp [b1.1, b1.2]
     rw [c1, if_neg (by decide)]
     by_cases b2 : x.low ≤ g.hi ∧ g.hi ≤ x.high
     ·have c2 : (!(decide (x.low ≤ g.hi) && decide (g.hi ≤ x.high))) = false := by simp [b2.1, b2.2]
      have d1 : ¬ (min g.lo g.hi < x.low) := by omega
      have d2 : ¬ (x.high < max g.lo g.hi) := by omega
      rw [c2, if_neg (by decide), if_neg d1, if_neg d2, hR d1 d2]
     ·have c2 : (!(decide (x.low ≤ g.hi) && decide (g.hi ≤ x.high))) = true := by
       rw [← Bool.decide_and, decide_eq_false b2]; rfl
      rw [c2, if_pos rfl]
      by_cases d1 : min g.lo g.hi < x.low
      ·rw [if_pos d1]
      ·rw [if_neg d1, if_pos (by omega)]
    ·have c1 : (!(decide (x.low ≤ g.lo) && decide (g.lo ≤ x.high))) = true := by
      rw [← Bool.decide_and, decide_eq_false b1]; rfl
     rw [c1, if_pos rfl]
     by_cases d1 : min g.lo g.hi < x.low
     ·rw [if_pos d1]
     ·rw [if_neg d1, if_pos (by omega)]
   refine hmid _ _ fun _ _ => ?_
   cases i with
   | zero =>
    have : ¬ ((0 : Int) < ((0 : Nat) : Int)) := by omega
    simp only [this, if_false, Bool.false_eq_true, prevHi, leO]
    repeat (split <;> try rfl)
   | succ j =>
    obtain ⟨q, hq⟩ : ∃ q, l.els[j]? = some q := ⟨_, List.getElem?_eq_getElem (by omega)⟩
    have h2 : (0 : Int) < ((j + 1 : Nat) : Int) := by omega
    have es : pBin .sub (I6 ((j + 1 : Nat) : Int)) (I6 1) = some (I6 (((j + 1 : Nat) : Int) - 1)) := sub64
    have e1 : ((j + 1 : Nat) : Int) - 1 = (j : Int) := by omega
    rw [e1] at es
    have ix : pIdx 3 (enL 3 enS l) (I6 (j : Int)) = some (enS q) := by rw [pIdx_enL, hq]; rfl
    simp only [prevHi, hq, Option.map_some, leO, h2, if_true, es, bindD_some, ix, enS, atD_s, atD_z, pBin_leq, ifB_eq, decide_eq_true_eq]
    repeat (split <;> try rfl)
  have hp : prevHi l.els (i + 1) = some g.hi := by simp only [prevHi, get_drop h, Option.map_some]
  unfold segsErr
  by_cases a1 : min g.lo g.hi < x.low
  ·rw [if_pos a1] at body ⊢; rw [ploop_ret body]; rfl
  rw [if_neg a1] at body ⊢
  by_cases a2 : x.high < max g.lo g.hi
  ·rw [if_pos a2] at body ⊢; rw [ploop_ret body]; rfl
  rw [if_neg a2] at body ⊢
  by_cases a3 : g.hi < g.lo
  ·rw [if_pos a3] at body ⊢; rw [ploop_ret body]; rfl
  rw [if_neg a3] at body ⊢
  by_cases a4 : leO g.lo (prevHi l.els i) = true
  ·rw [if_pos a4] at body ⊢; rw [ploop_ret body]; rfl
  rw [if_neg a4] at body ⊢
  by_cases a5 : drawsErr x.ranks.els.length g.draws.els ≠ 0
  ·rw [if_pos a5] at body ⊢; rw [ploop_ret body]; unfold errX; rw [if_pos a5]
  rw [if_neg a5] at body ⊢
  rw [ploop_go body, ih (i + 1) (next_drop h), hp]
theorem l10 (l : Sl Seg) (hl : l.els.length ≤ 9223372036854775807) : ∀ (r : List Seg) (i : Nat), l.els.drop i = r →
  ploop (F10_0 (enL 3 enS l)) [I6 (i : Int)] [] = some (if r.all (fun g => decide (g.draws.els.length ≤ 10)) then (.exit 0, [], []) else (.ret, [Bo false], [])) := by
 intro r
 induction r with
 | nil =>
  intro i h
  refine ploop_exit ?_
  simp only [F10_0, nthD_z, pLen_enL, pBin_lss, bindD_some, nlt_i (end_drop h), ifB_eq]
  rfl
 | cons g r ih =>
  intro i h
  have h1 := lt_drop h
  have ea : pBin .add (I6 (i : Int)) (I6 1) = some (I6 ((i + 1 : Nat) : Int)) := add64
  have body : F10_0 (enL 3 enS l) [I6 (i : Int)] [] = some (if g.draws.els.length ≤ 10 then (.normal, [I6 ((i + 1 : Nat) : Int)], []) else (.ret, [Bo false], [])) := by
   simp only [F10_0, nthD_z, pLen_enL, pBin_lss, bindD_some, lt_i h1, ifB_eq, if_true, pIdx_drop h, enS, atD_z, atD_s, pBin_gtr, ea]
   by_cases hz : g.draws.els.length ≤ 10
   ·have : ¬ ((10 : Int) < (g.draws.els.length : Int)) := by omega
    simp [hz, this]
   ·have : (10 : Int) < (g.draws.els.length : Int) := by omega
    simp [hz, this]
  by_cases hc : g.draws.els.length ≤ 10
  ·rw [if_pos hc] at body; rw [ploop_go body, ih (i + 1) (next_drop h)]; simp [hc]
  ·rw [if_neg hc] at body; rw [ploop_ret body]; simp [hc]
def shortB (s : Stop) : Bool := s.segs.els.all (fun g => decide (g.draws.els.length ≤ 10)) && decide (s.segs.els.length ≤ 14) && decide (s.name.size ≤ 40)
theorem t10 (k : Nat) (s : Stop) (hs : s.ok) : D (k + 1) 10 [SA (enStop s)] = some (S1 (Bo (shortB s))) := by
 have l := l10 s.segs hs.len s.segs.els 0 rfl
 unfold enStop
 rw [D10]
 unfold P10 shortB
 rw [show (I6 0 : DV) = I6 ((0 : Nat) : Int) from rfl, l]
 cases s.segs.els.all (fun g => decide (g.draws.els.length ≤ 10)) with
 | false => rfl
 | true =>
  simp only [if_true, loopR_exit, pLen_enL, bindD_some, pBin_leq, ifB_eq, pLenS_str, Bool.true_and]
  by_cases h1 : s.segs.els.length ≤ 14
  ·have h2 : (s.segs.els.length : Int) ≤ 14 := by omega
   by_cases h3 : s.name.size ≤ 40
   ·have h4 : (s.name.size : Int) ≤ 40 := by omega
    simp [h1, h2, h3, h4]
   ·have h4 : ¬ ((s.name.size : Int) ≤ 40) := by omega
    simp [h1, h2, h3, h4]
  ·have h2 : ¬ ((s.segs.els.length : Int) ≤ 14) := by omega
   simp [h1, h2]
section
variable (k : Nat) (x : Place) (s : Stop) (hx : x.ok) (hs : s.ok) (he : stopErr x s ≠ 0)
include hx hs he
end
end Go.Proofs.Tryz.Kn
end
section
namespace Go.Proofs.Tryz.Kn
open Go Go.CE Go.PE
end Go.Proofs.Tryz.Kn
end
section
namespace Go.Proofs.Tryz.Kn
open Go Go.CE Go.PE
structure Pipe where
 rank : Int
 num : Int
deriving DecidableEq
def ltP (a b : Pipe) : Prop := a.rank < b.rank ∨ (a.rank = b.rank ∧ a.num < b.num)
def leP (a b : Pipe) : Prop := a.rank < b.rank ∨ (a.rank = b.rank ∧ a.num ≤ b.num)
instance (a b : Pipe) : Decidable (ltP a b) := by unfold ltP; infer_instance
theorem Pipe.eq {a b : Pipe} (h1 : a.rank = b.rank) (h2 : a.num = b.num) : a = b := by cases a; cases b; simp_all
theorem not_lt {a b : Pipe} (h : ¬ ltP b a) : leP a b := by unfold ltP at h; unfold leP; omega
theorem lt_le {a b : Pipe} (h : ltP a b) : leP a b := by unfold ltP at h; unfold leP; omega
theorem leP_trans {a b c : Pipe} (h : leP a b) (g : leP b c) : leP a c := by unfold leP at *; omega
theorem ltP_trans {a b c : Pipe} (h : ltP a b) (g : ltP b c) : ltP a c := by unfold ltP at *; omega
theorem lt_irrefl {a : Pipe} : ¬ ltP a a := by unfold ltP; omega
theorem le_ne {a b : Pipe} (h : leP a b) (g : a ≠ b) : ltP a b := by
 unfold leP at h; unfold ltP
 rcases h with h | ⟨h1, h2⟩
 ·exact .inl h
 ·refine .inr ⟨h1, ?_⟩
  have : a.num ≠ b.num := fun e => g (Pipe.eq h1 e)
  omega
theorem le_lt {a b c : Pipe} (h : leP a b) (g : ltP b c) : ltP a c := by unfold leP at h; unfold ltP at *; omega
def insGo : Nat → List Pipe → List Pipe
 | 0, l => l
 | j + 1, l =>
  match l[j]?, l[j + 1]? with
  | some a, some b => if ltP b a then insGo j ((l.set (j + 1) a).set j b) else l
  | _, _ => l
theorem insGo_len : ∀ (j : Nat) (l : List Pipe), (insGo j l).length = l.length
 | 0, _ => rfl
 | j + 1, l => by
  unfold insGo
  split
  ·split
   ·rw [insGo_len j]; simp
   ·rfl
  ·rfl
theorem last_of {α : Type} {l : List α} {n : Nat} (h : l.length = n + 1) : ∃ p y, l = p ++ [y] ∧ p.length = n := by
 have hne : l ≠ [] := by intro e; rw [e] at h; cases h
 exact ⟨l.dropLast, l.getLast hne, (List.dropLast_concat_getLast hne).symm, by simp [h]⟩
theorem insGo_app : ∀ (j : Nat) (pre : List Pipe) (x : Pipe) (post : List Pipe), pre.length = j → pre.Pairwise leP →
  ∃ q, insGo j (pre ++ x :: post) = q ++ post ∧ q.Pairwise leP ∧ (∀ y, y ∈ q ↔ y = x ∨ y ∈ pre) ∧ q.length = j + 1
 | 0, pre, x, post, h, _ => by
  obtain rfl := List.length_eq_zero_iff.1 h
  exact ⟨[x], rfl, List.pairwise_singleton .., fun y => by simp, rfl⟩
 | j + 1, pre, x, post, h, hs => by
  obtain ⟨p, y, rfl, hp⟩ := last_of h
  have hs' := List.pairwise_append.1 hs
  have e0 : p ++ [y] ++ x :: post = p ++ y :: x :: post := by simp
  have g1 : (p ++ y :: x :: post)[j]? = some y := by rw [List.getElem?_append_right (by omega), hp]; simp
  have g2 : (p ++ y :: x :: post)[j + 1]? = some x := by rw [List.getElem?_append_right (by omega), hp, show j + 1 - j = 1 by omega]; rfl
  rw [e0]
  unfold insGo
  rw [g1, g2]
  simp only
  by_cases hc : ltP x y
  ·rw [if_pos hc]
   have e1 : ((p ++ y :: x :: post).set (j + 1) y).set j x = p ++ x :: y :: post := by
    rw [List.set_append_right _ _ (by omega), hp, show j + 1 - j = 1 by omega, List.set_append_right _ _ (by omega), hp, Nat.sub_self]
    rfl
   rw [e1]
   obtain ⟨q, k1, k2, k3, k4⟩ := insGo_app j p x (y :: post) hp hs'.1
   refine ⟨q ++ [y], by rw [k1]; simp, List.pairwise_append.2 ⟨k2, List.pairwise_singleton .., fun a ha b hb => ?_⟩, fun z => ?_, by simp [k4]⟩
   ·obtain rfl := List.mem_singleton.1 hb
    rcases (k3 a).1 ha with rfl | ha
    ·exact lt_le hc
    ·exact hs'.2.2 a ha b (List.mem_singleton_self _)
   ·rw [List.mem_append, List.mem_append, k3, List.mem_singleton]
    constructor
    ·rintro ((h | h) | h)
     ·exact .inl h
     ·exact .inr (.inl h)
     ·exact .inr (.inr h)
    ·rintro (h | h | h)
     ·exact .inl (.inl h)
     ·exact .inl (.inr h)
     ·exact .inr h
  ·rw [if_neg hc]
   refine ⟨p ++ [y] ++ [x], by simp, List.pairwise_append.2 ⟨hs, List.pairwise_singleton .., fun a ha b hb => ?_⟩, fun z => ?_, by simp [hp]⟩
   ·obtain rfl := List.mem_singleton.1 hb
    rcases List.mem_append.1 ha with ha | ha
    ·exact leP_trans (hs'.2.2 a ha y (List.mem_singleton_self _)) (not_lt hc)
    ·obtain rfl := List.mem_singleton.1 ha
     exact not_lt hc
   ·rw [List.mem_append, List.mem_singleton]
    exact Or.comm
def sortFrom : Nat → Nat → List Pipe → List Pipe
 | 0, _, l => l
 | m + 1, i, l => sortFrom m (i + 1) (insGo i l)
theorem sortFrom_app : ∀ (m : Nat) (pre post : List Pipe), post.length = m → pre.Pairwise leP →
  (sortFrom m pre.length (pre ++ post)).Pairwise leP ∧ (∀ y, y ∈ sortFrom m pre.length (pre ++ post) ↔ y ∈ pre ∨ y ∈ post) ∧ (sortFrom m pre.length (pre ++ post)).length = pre.length + m
 | 0, pre, post, h, hs => by
  obtain rfl := List.length_eq_zero_iff.1 h
  rw [List.append_nil]
  exact ⟨hs, fun y => by simp [sortFrom], by simp [sortFrom]⟩
 | m + 1, pre, post, h, hs => by
  obtain ⟨x, r, rfl⟩ : ∃ x r, post = x :: r := by cases post with | nil => cases h | cons x r => exact ⟨x, r, rfl⟩
  obtain ⟨q, k1, k2, k3, k4⟩ := insGo_app pre.length pre x r rfl hs
  unfold sortFrom
  rw [k1, ← k4]
  obtain ⟨a1, a2, a3⟩ := sortFrom_app m q r (by simpa using h) k2
  refine ⟨a1, fun y => ?_, by rw [a3]; omega⟩
  rw [a2, k3, List.mem_cons]
  constructor
  ·rintro ((h | h) | h)
   ·exact .inr (.inl h)
   ·exact .inl h
   ·exact .inr (.inr h)
  ·rintro (h | h | h)
   ·exact .inl (.inr h)
   ·exact .inl (.inl h)
   ·exact .inr h
theorem strict_eq : ∀ (l m : List Pipe), l.Pairwise ltP → m.Pairwise ltP → (∀ y, y ∈ l ↔ y ∈ m) → l = m
 | [], [], _, _, _ => rfl
 | [], y :: m, _, _, h => by have := (h y).2 (List.mem_cons_self ..); cases this
 | x :: l, [], _, _, h => by have := (h x).1 (List.mem_cons_self ..); cases this
 | x :: l, y :: m, h1, h2, h => by
  have a1 := List.pairwise_cons.1 h1
  have a2 := List.pairwise_cons.1 h2
  have hxy : x = y := by
   rcases List.mem_cons.1 ((h x).1 (List.mem_cons_self ..)) with e | hx
   ·exact e
   ·rcases List.mem_cons.1 ((h y).2 (List.mem_cons_self ..)) with e | hy
    ·exact e.symm
    ·exact absurd (ltP_trans (a1.1 y hy) (a2.1 x hx)) lt_irrefl
  subst hxy
  rw [strict_eq l m a1.2 a2.2 fun z => ?_]
  constructor
  ·intro hz
   rcases List.mem_cons.1 ((h z).1 (List.mem_cons_of_mem _ hz)) with e | hz'
   ·exact absurd (e ▸ a1.1 z hz) lt_irrefl
   ·exact hz'
  ·intro hz
   rcases List.mem_cons.1 ((h z).2 (List.mem_cons_of_mem _ hz)) with e | hz'
   ·exact absurd (e ▸ a2.1 z hz) lt_irrefl
   ·exact hz'
def Kept (l acc : List Pipe) (m : Nat) : Prop := acc.Pairwise ltP ∧ ∀ y, y ∈ acc ↔ y ∈ l.take m
theorem Kept.same {l acc : List Pipe} {m : Nat} (H : Kept l acc (m + 1)) {x : Pipe} (h0 : l[m]? = some x) (h1 : l[m + 1]? = some x) : Kept l acc (m + 2) := by
 refine ⟨H.1, fun y => (H.2 y).trans ?_⟩
 rw [show l.take (m + 2) = l.take (m + 1) ++ [x] by rw [List.take_add_one (i := m + 1), h1]; rfl, List.mem_append, List.mem_singleton]
 constructor
 ·exact .inl
 ·rintro (h | rfl)
  ·exact h
  ·exact List.mem_of_getElem? (i := m) (by rw [List.getElem?_take, if_pos (by omega)]; exact h0)
theorem Kept.next {l acc : List Pipe} {m : Nat} (hs : l.Pairwise leP) (H : Kept l acc (m + 1)) {x z : Pipe} (h0 : l[m]? = some z) (h1 : l[m + 1]? = some x) (hne : x ≠ z) : Kept l (acc ++ [x]) (m + 2) := by
 have hzx : ltP z x := by
  refine le_ne ?_ (fun e => hne e.symm)
  obtain ⟨i0, e0⟩ := List.getElem?_eq_some_iff.1 h0
  obtain ⟨i1, e1⟩ := List.getElem?_eq_some_iff.1 h1
  have := (List.pairwise_iff_getElem.1 hs) m (m + 1) i0 i1 (by omega)
  rwa [e0, e1] at this
 refine ⟨List.pairwise_append.2 ⟨H.1, List.pairwise_singleton .., fun a ha b hb => ?_⟩, fun y => ?_⟩
 ·obtain rfl := List.mem_singleton.1 hb
  have ha' := (H.2 a).1 ha
  obtain ⟨i, hi⟩ := List.mem_iff_getElem?.1 ha'
  rw [List.getElem?_take] at hi
  split at hi
  ·rename_i hi2
   by_cases him : i = m
   ·subst him
    rw [h0] at hi; cases hi; exact hzx
   ·obtain ⟨i0, e0⟩ := List.getElem?_eq_some_iff.1 h0
    obtain ⟨i1, e1⟩ := List.getElem?_eq_some_iff.1 hi
    have := (List.pairwise_iff_getElem.1 hs) i m i1 i0 (by omega)
    rw [e0, e1] at this
    exact le_lt this hzx
  ·cases hi
 ·rw [show l.take (m + 2) = l.take (m + 1) ++ [x] by rw [List.take_add_one (i := m + 1), h1]; rfl, List.mem_append, List.mem_append, H.2]
def enPi (p : Pipe) : List DV := [I6 p.rank, I6 p.num]
abbrev ocP (l : List Pipe) : OC := ocL enPi (some l)
theorem lenO_P (l : List Pipe) : lenO (ocP l) = l.length := by simp
theorem pIdxO_P {l : List Pipe} {i : Nat} (h : i < l.length) : pIdxO (ocP l) (I6 (i : Int)) = some i := pIdxO_lt (by simpa using h)
theorem nthO_P {l : List Pipe} {i : Nat} {x : Pipe} (h : l[i]? = some x) : nthO (ocP l) i = some (enPi x) := by
 show (l.map enPi)[i]? = _
 rw [List.getElem?_map, h]; rfl
theorem setO_P {l : List Pipe} {i : Nat} (h : i < l.length) (x : Pipe) : setO 2 (ocP l) i 0 [I6 x.rank, I6 x.num] = some (ocP (l.set i x)) := by
 have : (l.map enPi)[i]? = some (enPi l[i]) := by rw [List.getElem?_map, List.getElem?_eq_getElem h]; rfl
 show (match (l.map enPi)[i]? with
  | some y => bif Nat.ble (0 + [I6 x.rank, I6 x.num].length) 2 then some (some ((l.map enPi).set i (y.take 0 ++ [I6 x.rank, I6 x.num] ++ y.drop (0 + [I6 x.rank, I6 x.num].length)))) else none
  | none => none) = _
 rw [this]
 show some (some ((l.map enPi).set i (enPi x))) = some (some ((l.set i x).map enPi))
 rw [List.map_set]
theorem eqDs_pipe (a b : Pipe) : eqDs [1, 1] [I6 a.rank, I6 a.num] [I6 b.rank, I6 b.num] = some (decide (a = b)) := by
 cases a with | mk r s =>
 cases b with | mk r' s' =>
 simp only [eqDs, eqD, eqK_self, cond_true, eqI_eq]
 by_cases h1 : r = r'
 ·by_cases h2 : s = s'
  ·simp [h1, h2]
  ·have e2 : (s == s') = false := by simpa using h2
   simp [h1, h2, e2]
 ·have e1 : (r == r') = false := by simpa using h1
  simp [h1, e1]
theorem t92 (k : Nat) (a : Int) : D (k + 1) 92 [S1 (I6 a)] = some (S1 (Bo false)) := by
 rw [D92]
 unfold P92
 simp
def cmpI (a b : Int) : Int := if a < b then -1 else if b < a then 1 else 0
theorem t76 (k : Nat) (a b : Int) : D (k + 2) 76 [S1 (I6 a), S1 (I6 b)] = some (S1 (I6 (cmpI a b))) := by
 rw [D76]
 unfold P76 cmpI
 simp only [t92, b1_some, ifB_eq, pBin_lss, pBin_gtr, bindD_some]
 by_cases h1 : a < b <;> by_cases h2 : b < a <;> simp [h1, h2]
theorem t75 (k : Nat) (a b : Int) : D (k + 1) 75 [S1 (.lst 1 [[I6 a], [I6 b]])] = some (S1 (I6 (if a ≠ 0 then a else b))) := by
 rw [D75]
 unfold P75
 have hl : pLen (.lst 1 [[I6 a], [I6 b]]) = some (I6 2) := rfl
 rw [hl]
 simp only [bindD_some]
 have i0 : pIdx 1 (.lst 1 [[I6 a], [I6 b]]) (I6 0) = some [I6 a] := rfl
 have i1 : pIdx 1 (.lst 1 [[I6 a], [I6 b]]) (I6 1) = some [I6 b] := rfl
 have a0 : pBin .add (I6 0) (I6 1) = some (I6 1) := rfl
 have a1 : pBin .add (I6 1) (I6 1) = some (I6 2) := rfl
 have c0 : pBin .lss (I6 0) (I6 2) = some (Bo true) := rfl
 have c1 : pBin .lss (I6 1) (I6 2) = some (Bo true) := rfl
 have c2 : pBin .lss (I6 2) (I6 2) = some (Bo false) := rfl
 by_cases h1 : a = 0
 ·have e0 : F75_1 (I6 2) (.lst 1 [[I6 a], [I6 b]]) [I6 0] [] = some (.normal, [I6 1], []) := by
   simp only [F75_1, nthD_z, c0, bindD_some, ifB_eq, if_true, h1, a0]
   rfl
  rw [ploop_go e0]
  by_cases h2 : b = 0
  ·have e1 : F75_1 (I6 2) (.lst 1 [[I6 a], [I6 b]]) [I6 1] [] = some (.normal, [I6 2], []) := by
    simp only [F75_1, nthD_z, c1, bindD_some, ifB_eq, if_true, h2, a1]
    rfl
   have e2 : F75_1 (I6 2) (.lst 1 [[I6 a], [I6 b]]) [I6 2] [] = some (.exit 0, [], []) := by
    simp only [F75_1, nthD_z, c2, bindD_some, ifB_eq]
    rfl
   rw [ploop_go e1, ploop_exit e2]
   simp [h1, h2]
  ·have hb : (!(b == 0)) = true := by simp [h2]
   have e1 : F75_1 (I6 2) (.lst 1 [[I6 a], [I6 b]]) [I6 1] [] = some (.ret, [I6 b], []) := by
    simp only [F75_1, nthD_z, c1, bindD_some, ifB_eq, if_true, i1, atD_z, pBin_neq, hb]
   rw [ploop_ret e1]
   simp [h1]
 ·have ha : (!(a == 0)) = true := by simp [h1]
  have e0 : F75_1 (I6 2) (.lst 1 [[I6 a], [I6 b]]) [I6 0] [] = some (.ret, [I6 a], []) := by
   simp only [F75_1, nthD_z, c0, bindD_some, ifB_eq, if_true, i0, atD_z, pBin_neq, ha]
  rw [ploop_ret e0]
  simp [h1]
def cmpP (a b : Pipe) : Int := if cmpI a.rank b.rank ≠ 0 then cmpI a.rank b.rank else cmpI a.num b.num
theorem t74 (k : Nat) (a b : Pipe) : D (k + 3) 74 [SA [I6 a.rank, I6 a.num], SA [I6 b.rank, I6 b.num]] = some (S1 (I6 (cmpP a b))) := by
 rw [D74]
 unfold P74
 simp only [t76, b1_some, t75]
 rfl
theorem cmpP_neg (a b : Pipe) : decide (cmpP a b < 0) = decide (ltP a b) := by
 rw [decide_eq_decide]
 unfold cmpP cmpI ltP
 by_cases h1 : a.rank < b.rank <;> by_cases h2 : b.rank < a.rank <;> by_cases h3 : a.num < b.num <;> by_cases h4 : b.num < a.num <;> simp [h1, h2, h3, h4] <;> omega
theorem l16i (k : Nat) : ∀ (j : Nat) (l : List Pipe), j < l.length → l.length ≤ 1000 → ploop (F16_18 (D (k + 3))) [I6 (j : Int)] [ocP l] = some (.exit 2, [], [ocP (insGo j l)])
 | 0, l, _, _ => by
  refine ploop_exit ?_
  simp only [F16_18, nthD_z, nthM_z, pBin_gtr, bindD_some, ifB_eq]
  rfl
 | j + 1, l, h, hl => by
  obtain ⟨a, ha⟩ : ∃ a, l[j]? = some a := ⟨_, List.getElem?_eq_getElem (by omega)⟩
  obtain ⟨b, hb⟩ : ∃ b, l[j + 1]? = some b := ⟨_, List.getElem?_eq_getElem h⟩
  have es : pBin .sub (I6 ((j + 1 : Nat) : Int)) (I6 1) = some (I6 (j : Int)) := by
   rw [show (j : Int) = ((j + 1 : Nat) : Int) - 1 by omega]
   exact sub64
  have h0 : decide ((0 : Int) < ((j + 1 : Nat) : Int)) = true := decide_eq_true (by omega)
  have i1 : pIdxO (ocP l) (I6 ((j + 1 : Nat) : Int)) = some (j + 1) := pIdxO_P h
  have i0 : pIdxO (ocP l) (I6 (j : Int)) = some j := pIdxO_P (by omega)
  have i2 : pIdxO (ocP (l.set (j + 1) a)) (I6 (j : Int)) = some j := pIdxO_P (by simp; omega)
  have s1 := setO_P (l := l) h a
  have s2 := setO_P (l := l.set (j + 1) a) (i := j) (by simp; omega) b
  have c := t74 k b a
  have body : F16_18 (D (k + 3)) [I6 ((j + 1 : Nat) : Int)] [ocP l] = some (if ltP b a then (.normal, [I6 (j : Int)], [ocP ((l.set (j + 1) a).set j b)]) else (.exit 2, [], [ocP l])) := by
   simp only [F16_18, nthD_z, nthM_z, pBin_gtr, bindD_some, ifB_eq, h0, if_true, i1, nthO_P hb, es, i0, nthO_P ha, enPi, atD_z, atD_s, c, b1_some, pBin_lss, cmpP_neg, s1, i2, s2]
   by_cases hz : ltP b a <;> simp [hz]
  unfold insGo
  rw [ha, hb]
  simp only
  by_cases hc : ltP b a
  ·rw [if_pos hc] at body ⊢
   rw [ploop_go body, l16i k j _ (by simp; omega) (by simpa using hl)]
  ·rw [if_neg hc] at body ⊢
   exact ploop_exit body
theorem l16s (k n : Nat) (M10 : List OC) (hM : lenO (nthM M10 0) = n) (hn : n ≤ 1000) : ∀ (m i : Nat) (l : List Pipe), l.length = n → i + m = n → ploop (F16_15 (D (k + 3)) M10) [I6 (i : Int)] [ocP l] = some (.exit 0, [], [ocP (sortFrom m i l)])
 | 0, i, l, _, h => by
  refine ploop_exit ?_
  simp only [F16_15, nthD_z, nthM_z, hM, ofNat_int, pBin_lss, bindD_some, nlt_i (show n ≤ i by omega), ifB_eq]
  rfl
 | m + 1, i, l, hl, h => by
  have ea : pBin .add (I6 (i : Int)) (I6 1) = some (I6 ((i + 1 : Nat) : Int)) := add64
  have li := l16i k i l (by omega) (by omega)
  have body : F16_15 (D (k + 3)) M10 [I6 (i : Int)] [ocP l] = some (.normal, [I6 ((i + 1 : Nat) : Int)], [ocP (insGo i l)]) := by
   simp only [F16_15, nthD_z, nthM_z, hM, ofNat_int, pBin_lss, bindD_some, lt_i (show i < n by omega), ifB_eq, if_true, li, loopR_exit, ea]
   rfl
  rw [ploop_go body, l16s k n M10 hM hn m (i + 1) _ (by rw [insGo_len, hl]) (by omega)]
  rfl
theorem take_set {l : List Pipe} {i : Nat} {x : Pipe} (h : i < l.length) : (l.set i x).take (i + 1) = l.take i ++ [x] := by
 rw [List.take_add_one, List.getElem?_set_self h, List.take_set, List.set_eq_of_length_le (by simp; omega)]
 rfl
theorem l16c (l : List Pipe) (n k : Nat) (hn : l.length = n) (hs : l.Pairwise leP) (hn2 : n ≤ 1000) (hk : 1 ≤ k) (hkn : k < n) : ∀ (m k2 : Nat) (w acc : List Pipe), k2 + m = n - k → 1 ≤ k2 → acc.length ≤ k + k2 - 1 → w.length = n → w.take acc.length = acc →
  (∀ i, k + k2 - 1 ≤ i → w[i]? = l[i]?) → Kept l acc (k + k2) → ∃ w' acc', ploop (F16_58 (k, n - k)) [I6 (k2 : Int), I6 (acc.length : Int)] [ocP w] = some (.exit 2, [I6 (acc'.length : Int)], [ocP w']) ∧ w'.length = n ∧ w'.take acc'.length = acc' ∧ acc'.length < n ∧ Kept l acc' n
 | 0, k2, w, acc, h1, h2, h3, h4, h5, _, h7 => by
  refine ⟨w, acc, ploop_exit ?_, h4, h5, by omega, by rwa [show n = k + k2 by omega]⟩
  simp only [F16_58, nthD_z, nthD_s, nthM_z, ofNat_int, pBin_lss, bindD_some, nlt_i (show n - k ≤ k2 by omega), ifB_eq]
  rfl
 | m + 1, k2, w, acc, h1, h2, h3, h4, h5, h6, h7 => by
  obtain ⟨x, hx⟩ : ∃ x, l[k + k2]? = some x := ⟨_, List.getElem?_eq_getElem (by omega)⟩
  obtain ⟨z, hz⟩ : ∃ z, l[k + k2 - 1]? = some z := ⟨_, List.getElem?_eq_getElem (by omega)⟩
  have e1 : k + (k2 - 1) = k + k2 - 1 := by omega
  have hwx : w[k + k2]? = some x := by rw [h6 _ (by omega), hx]
  have hwz : w[k + (k2 - 1)]? = some z := by rw [e1, h6 _ (by omega), hz]
  have i1 : pIdxN (n - k) (I6 (k2 : Int)) = some k2 := pIdxN_lt (by omega)
  have es : pBin .sub (I6 (k2 : Int)) (I6 1) = some (I6 ((k2 - 1 : Nat) : Int)) := by
   rw [show ((k2 - 1 : Nat) : Int) = (k2 : Int) - 1 by omega]
   exact sub64
  have i2 : pIdxN (n - k) (I6 ((k2 - 1 : Nat) : Int)) = some (k2 - 1) := pIdxN_lt (by omega)
  have ea : pBin .add (I6 (k2 : Int)) (I6 1) = some (I6 ((k2 + 1 : Nat) : Int)) := add64
  have eb : pBin .add (I6 (acc.length : Int)) (I6 1) = some (I6 ((acc.length + 1 : Nat) : Int)) := add64
  have i3 : pIdxO (ocP w) (I6 (acc.length : Int)) = some acc.length := pIdxO_P (by omega)
  have st := setO_P (l := w) (i := acc.length) (by omega) x
  have eq := eqDs_pipe x z
  have body : F16_58 (k, n - k) [I6 (k2 : Int), I6 (acc.length : Int)] [ocP w] = some (if x = z then (.normal, [I6 ((k2 + 1 : Nat) : Int), I6 (acc.length : Int)], [ocP w]) else (.normal, [I6 ((k2 + 1 : Nat) : Int), I6 ((acc.length + 1 : Nat) : Int)], [ocP (w.set acc.length x)])) := by
   simp only [F16_58, nthD_z, nthD_s, nthM_z, ofNat_int, pBin_lss, bindD_some, lt_i (show k2 < n - k by omega), ifB_eq, if_true, i1, nthO_P hwx, es, i2, nthO_P hwz, enPi, atD_z, atD_s, eq, i3, st, ea, eb]
   by_cases hc : x = z <;> simp [hc]
  have hm : l[k + k2 - 1 + 1]? = some x := by rw [show k + k2 - 1 + 1 = k + k2 by omega]; exact hx
  rw [show k + k2 = (k + k2 - 1) + 1 by omega] at h7
  by_cases hc : x = z
  ·rw [if_pos hc] at body
   subst hc
   have := h7.same hz hm
   rw [ploop_go body]
   exact l16c l n k hn hs hn2 hk hkn m (k2 + 1) w acc (by omega) (by omega) (by omega) h4 h5 (fun i hi => h6 i (by omega)) (by rwa [show k + k2 - 1 + 2 = k + (k2 + 1) by omega] at this)
  ·rw [if_neg hc] at body
   have := h7.next hs hz hm hc
   have hl : (acc ++ [x]).length = acc.length + 1 := by simp
   rw [ploop_go body, ← hl]
   refine l16c l n k hn hs hn2 hk hkn m (k2 + 1) (w.set acc.length x) (acc ++ [x]) (by omega) (by omega) (by omega) (by simpa using h4) ?_ (fun i hi => ?_) (by rwa [show k + k2 - 1 + 2 = k + (k2 + 1) by omega] at this)
   ·rw [hl, take_set (by omega), h5]
   ·rw [List.getElem?_set, if_neg (by omega)]
    exact h6 i (by omega)
theorem bnd_none (y d : Nat) : bndD none d y = some d := rfl
theorem l16k (l : List Pipe) (n : Nat) (hn : l.length = n) (hs : l.Pairwise leP) (hn2 : n ≤ 1000) : ∀ (m k : Nat), k + m = n → 1 ≤ k → Kept l (l.take k) k →
  ∃ acc, (ploop F16_48 [I6 (k : Int)] [ocP l] = some (.exit 0, [], [ocP acc]) ∨ ploop F16_48 [I6 (k : Int)] [ocP l] = some (.ret, [.lst 2 (acc.map enPi)], [])) ∧ Kept l acc n
 | 0, k, h1, h2, h3 => by
  refine ⟨l, .inl (ploop_exit ?_), ?_⟩
  ·simp only [F16_48, nthD_z, nthM_z, lenO_P, ofNat_int, pBin_lss, bindD_some, nlt_i (show l.length ≤ k by omega), ifB_eq]
   rfl
  ·rw [show n = k by omega]
   rwa [List.take_of_length_le (by omega)] at h3
 | m + 1, k, h1, h2, h3 => by
  obtain ⟨x, hx⟩ : ∃ x, l[k]? = some x := ⟨_, List.getElem?_eq_getElem (by omega)⟩
  obtain ⟨z, hz⟩ : ∃ z, l[k - 1]? = some z := ⟨_, List.getElem?_eq_getElem (by omega)⟩
  have i1 : pIdxO (ocP l) (I6 (k : Int)) = some k := pIdxO_P (by omega)
  have es : pBin .sub (I6 (k : Int)) (I6 1) = some (I6 ((k - 1 : Nat) : Int)) := by
   rw [show ((k - 1 : Nat) : Int) = (k : Int) - 1 by omega]
   exact sub64
  have i2 : pIdxO (ocP l) (I6 ((k - 1 : Nat) : Int)) = some (k - 1) := pIdxO_P (by omega)
  have ea : pBin .add (I6 (k : Int)) (I6 1) = some (I6 ((k + 1 : Nat) : Int)) := add64
  have eq := eqDs_pipe x z
  have hb : ∀ i y : Nat, i ≤ y → bndD (some (I6 (i : Int))) 0 y = some i := fun i y h => by
   show (bif Nat.ble i y then some i else none) = _
   rw [Nat.ble_eq_true_of_le h]; rfl
  have hb2 : ∀ i y : Nat, i ≤ y → bndD (some (I6 (i : Int))) y y = some i := fun i y h => by
   show (bif Nat.ble i y then some i else none) = _
   rw [Nat.ble_eq_true_of_le h]; rfl
  have vw : ∀ i : Nat, i < n → vwB (some (I6 (i : Int))) none n = some (i, n - i) := fun i h => by
   unfold vwB
   rw [bnd_none]
   simp only [hb i n (by omega)]
   have : (Nat.beq i n) = false := by
    cases hq : Nat.beq i n with
    | false => rfl
    | true => have := Nat.eq_of_beq_eq_true hq; omega
   rw [this]; simp
  have vt : ∀ i : Nat, i ≤ n → vwB none (some (I6 (i : Int))) n = some (0, i - 0) := fun i h => by
   unfold vwB
   rw [hb2 i n h]
   rfl
  by_cases hc : x = z
  ·subst hc
   have h7 : Kept l (l.take k) (k + 1) := by
    have h3' := h3
    rw [show k = (k - 1) + 1 by omega] at h3'
    have := h3'.same hz (by rw [show k - 1 + 1 = k by omega]; exact hx)
    rwa [show k - 1 + 1 = k by omega, show k - 1 + 2 = k + 1 by omega] at this
   have hlen : (l.take k).length = k := by simp; omega
   obtain ⟨w', acc', c1, c2, c3, c4, c5⟩ := l16c l n k hn hs hn2 h2 (by omega) (n - k - 1) 1 l (l.take k) (by omega) (by omega) (by omega) hn (by rw [hlen]) (fun _ _ => rfl) h7
   rw [hlen] at c1
   refine ⟨acc', .inr (ploop_ret ?_), c5⟩
   have hcl : clrO (ocP w') acc'.length (n - acc'.length) [I6 0, I6 0] = some ((w'.map enPi).take acc'.length ++ List.replicate (n - acc'.length) [I6 0, I6 0] ++ (w'.map enPi).drop (acc'.length + (n - acc'.length))) := rfl
   have hcn : ((w'.map enPi).take acc'.length ++ List.replicate (n - acc'.length) [I6 0, I6 0] ++ (w'.map enPi).drop (acc'.length + (n - acc'.length))).length = n := by simp; omega
   simp only [F16_48, nthD_z, nthM_z, lenO_P, ofNat_int, pBin_lss, bindD_some, ifB_eq, if_true, i1, nthO_P hx, es, i2, nthO_P hz, enPi, atD_z, atD_s, eq, decide_true, hn, vw k (by omega)]
   rw [show (I6 1 : DV) = I6 ((1 : Nat) : Int) from rfl, c1]
   simp only [loopR_exit, nthD_z, nthM_z, lenO_P, c2, vw acc'.length c4, bindD_some, hcl, lenO_some, hcn, vt acc'.length (by omega)]
   rw [lt_i (show k < n by omega), if_pos rfl]
   show some ((RExit.ret, [partT 2 0 (acc'.length - 0) (.lst 2 _)], []) : PX) = _
   rw [Nat.sub_zero]
   show some ((RExit.ret, [DV.lst 2 ((List.drop 0 _).take acc'.length)], []) : PX) = _
   rw [List.drop_zero, List.append_assoc, List.take_append_of_le_length (by simp; omega), List.take_take, Nat.min_self, ← List.map_take, c3]
  ·have hne : decide (x = z) = false := decide_eq_false hc
   have body : F16_48 [I6 (k : Int)] [ocP l] = some (.normal, [I6 ((k + 1 : Nat) : Int)], [ocP l]) := by
    simp only [F16_48, nthD_z, nthM_z, lenO_P, ofNat_int, pBin_lss, bindD_some, lt_i (show k < l.length by omega), ifB_eq, if_true, i1, nthO_P hx, es, i2, nthO_P hz, enPi, atD_z, atD_s, eq, hne, Bool.false_eq_true, if_false, ea]
   rw [ploop_go body]
   refine l16k l n hn hs hn2 m (k + 1) (by omega) (by omega) ?_
   have h3' := h3
   rw [show k = (k - 1) + 1 by omega] at h3'
   have := h3'.next hs hz (by rw [show k - 1 + 1 = k by omega]; exact hx) hc
   rw [show k - 1 + 1 = k by omega, show k - 1 + 2 = k + 1 by omega] at this
   rwa [show l.take (k + 1) = l.take k ++ [x] by rw [List.take_add_one, hx]; rfl]
theorem l15 (a b : Sl Pipe) (hl : a.els.length = b.els.length) (hb : a.els.length ≤ 9223372036854775807) : ∀ (r q : List Pipe) (i : Nat), a.els.drop i = r → b.els.drop i = q →
  ploop (F15_3 (enL 2 enPi a) (enL 2 enPi b)) [I6 (i : Int)] [] = some (if r = q then (.exit 0, [], []) else (.ret, [Bo false], [])) := by
 intro r
 induction r with
 | nil =>
  intro q i h h'
  have := end_drop h
  have hq : q = [] := by rw [← h']; exact List.drop_eq_nil_of_le (by omega)
  subst hq
  refine ploop_exit ?_
  simp only [F15_3, nthD_z, pLen_enL, bindD_some, pBin_lss, nlt_i this, ifB_eq]
  rfl
 | cons x r ih =>
  intro q i h h'
  have h1 := lt_drop h
  cases q with
  | nil => have := end_drop h'; omega
  | cons y q =>
   have ea : pBin .add (I6 (i : Int)) (I6 1) = some (I6 ((i + 1 : Nat) : Int)) := add64
   have eq := eqDs_pipe x y
   have body : F15_3 (enL 2 enPi a) (enL 2 enPi b) [I6 (i : Int)] [] = some (if x = y then (.normal, [I6 ((i + 1 : Nat) : Int)], []) else (.ret, [Bo false], [])) := by
    simp only [F15_3, nthD_z, pLen_enL, bindD_some, pBin_lss, lt_i h1, ifB_eq, if_true, pIdx_drop h, pIdx_drop h', enPi, atD_z, atD_s, eq, ea]
    by_cases hz : x = y <;> simp [hz]
   by_cases hc : x = y
   ·rw [if_pos hc] at body
    rw [ploop_go body, ih q (i + 1) (next_drop h) (next_drop h')]
    simp [hc]
   ·rw [if_neg hc] at body
    rw [ploop_ret body]
    simp [hc]
theorem t15 (k : Nat) (a b : Sl Pipe) (hb : a.els.length ≤ 9223372036854775807) : D (k + 1) 15 [S1 (enL 2 enPi a), S1 (enL 2 enPi b)] = some (S1 (Bo (decide (a.els = b.els)))) := by
 rw [D15]
 unfold P15
 simp only [pLen_enL, bindD_some, pBin_neq, ifB_eq]
 by_cases h : a.els.length = b.els.length
 ·have := l15 a b h hb a.els b.els 0 rfl rfl
  have e : (!((a.els.length : Int) == (b.els.length : Int))) = false := by simp [h]
  rw [e, show (I6 0 : DV) = I6 ((0 : Nat) : Int) from rfl, this]
  by_cases hc : a.els = b.els <;> simp [hc]
 ·have e : (!((a.els.length : Int) == (b.els.length : Int))) = true := by
   have : ¬ ((a.els.length : Int) = (b.els.length : Int)) := by omega
   simp [this]
  have h2 : ¬ (a.els = b.els) := fun hh => h (by rw [hh])
  rw [e]
  simp [h2]
end Go.Proofs.Tryz.Kn
end
section
namespace Go.Proofs.Tryz.Kn
open Go Go.CE Go.PE
def zeroSeg : Seg := ⟨0, 0, none⟩
def covers (key : Int) (g : Seg) : Bool := decide (g.lo ≤ key) && decide (key ≤ g.hi)
def segOf (s : Stop) (key : Int) : Seg := (s.segs.els.find? (covers key)).getD zeroSeg
theorem findI_find {α : Type} (p : α → Bool) : ∀ (l : List α) (i : Nat), (findI p l i = none ∧ l.find? p = none) ∨ ∃ j g, findI p l i = some (i + j) ∧ l[j]? = some g ∧ l.find? p = some g
 | [], _ => .inl ⟨rfl, rfl⟩
 | x :: l, i => by
  unfold findI
  cases h : p x with
  | true => exact .inr ⟨0, x, by simp, rfl, by simp [h]⟩
  | false =>
   rcases findI_find p l (i + 1) with ⟨a, b⟩ | ⟨j, g, a, b, c⟩
   ·exact .inl ⟨by simpa using a, by simp [h, b]⟩
   ·exact .inr ⟨j + 1, g, by simp only [Bool.false_eq_true, if_false, a]; congr 1; omega, by simpa using b, by simp [h, c]⟩
theorem t72 (k : Nat) (g : Seg) (key : Int) : D (k + 1) 72 [SA (enS g), S1 (.fp [I6 key] 0)] = some (S1 (Bo (covers key g))) := by
 unfold enS
 rw [D72]
 unfold P72 covers
 by_cases h1 : g.lo ≤ key <;> by_cases h2 : key ≤ g.hi <;> simp [h1, h2]
theorem l71 (k : Nat) (l : Sl Seg) (key : Int) (hl : l.els.length ≤ 9223372036854775807) : ∀ (r : List Seg) (i : Nat), l.els.drop i = r →
  ploop (F71_1 (D (k + 1)) (I6 (l.els.length : Int)) (enL 3 enS l) (.fn 72 [[I6 key]])) [I6 (i : Int)] [] = some (found (findI (covers key) r i)) := by
 intro r
 induction r with
 | nil =>
  intro i h
  refine ploop_exit ?_
  simp only [F71_1, nthD_z, pBin_lss, bindD_some, nlt_i (end_drop h), ifB_eq]
  rfl
 | cons g r ih =>
  intro i h
  have h1 := lt_drop h
  have ea : pBin .add (I6 (i : Int)) (I6 1) = some (I6 ((i + 1 : Nat) : Int)) := add64
  have c : appF (D (k + 1)) (.fn 72 [[I6 key]]) [SA [atD (enS g) 0, atD (enS g) 1, atD (enS g) 2]] = some (S1 (Bo (covers key g))) := t72 k g key
  have body : F71_1 (D (k + 1)) (I6 (l.els.length : Int)) (enL 3 enS l) (.fn 72 [[I6 key]]) [I6 (i : Int)] [] = some (if covers key g then (.ret, [I6 (i : Int)], []) else (.normal, [I6 ((i + 1 : Nat) : Int)], [])) := by
   simp only [F71_1, nthD_z, pBin_lss, bindD_some, lt_i h1, ifB_eq, if_true, pIdx_drop h, c, b1_some, ea]
   cases covers key g <;> rfl
  cases hc : covers key g with
  | true => rw [hc] at body; rw [ploop_ret body]; simp [findI, hc, found]
  | false => rw [hc] at body; rw [ploop_go body, ih (i + 1) (next_drop h)]; simp [findI, hc]
theorem t71 (k : Nat) (l : Sl Seg) (key : Int) (hl : l.els.length ≤ 9223372036854775807) : D (k + 2) 71 [S1 (enL 3 enS l), S1 (.fn 72 [[I6 key]])] = some (S1 (I6 (match findI (covers key) l.els 0 with | some i => (i : Int) | none => -1))) := by
 rw [D71]
 unfold P71
 have := l71 k l key hl l.els 0 rfl
 simp only [pLen_enL, bindD_some]
 rw [show (I6 0 : DV) = I6 ((0 : Nat) : Int) from rfl, this]
 cases findI (covers key) l.els 0 <;> rfl
theorem t45 (k : Nat) (s : Stop) (hs : s.ok) (key : Int) : D (k + 3) 45 [SA (enStop s), S1 (I6 key)] = some (SA (enS (segOf s key))) := by
 have c := t71 k s.segs key hs.len
 unfold enStop
 rw [D45]
 unfold P45 segOf
 rw [c]
 rcases findI_find (covers key) s.segs.els 0 with ⟨a, b⟩ | ⟨j, g, a, b, d⟩
 ·rw [a, b]; rfl
 ·rw [a, d]
  have h0 : ¬ (((0 + j : Nat) : Int) < 0) := by omega
  have ix : pIdx 3 (enL 3 enS s.segs) (I6 ((0 + j : Nat) : Int)) = some (enS g) := by rw [Nat.zero_add, pIdx_enL, b]; rfl
  simp only [b1_some, pBin_lss, h0, decide_false, bindD_some, ifB_eq, Bool.false_eq_true, if_false, ix]
  rfl
theorem l14 (l : Sl Seg) (key : Int) (hl : l.els.length ≤ 9223372036854775807) : ∀ (r : List Seg) (i : Nat), l.els.drop i = r →
  ploop (F14_0 (enL 3 enS l) (I6 key)) [I6 (i : Int)] [] = some (match r.find? (covers key) with | some g => (.ret, [enL 2 enD g.draws], []) | none => (.exit 0, [], [])) := by
 intro r
 induction r with
 | nil =>
  intro i h
  refine ploop_exit ?_
  simp only [F14_0, nthD_z, pLen_enL, pBin_lss, bindD_some, nlt_i (end_drop h), ifB_eq]
  rfl
 | cons g r ih =>
  intro i h
  have h1 := lt_drop h
  have ea : pBin .add (I6 (i : Int)) (I6 1) = some (I6 ((i + 1 : Nat) : Int)) := add64
  have body : F14_0 (enL 3 enS l) (I6 key) [I6 (i : Int)] [] = some (if covers key g then (.ret, [enL 2 enD g.draws], []) else (.normal, [I6 ((i + 1 : Nat) : Int)], [])) := by
   simp only [F14_0, nthD_z, pLen_enL, pBin_lss, bindD_some, lt_i h1, ifB_eq, if_true, pIdx_drop h, enS, atD_z, atD_s, pBin_leq, ea, covers]
   by_cases h2 : g.lo ≤ key <;> by_cases h3 : key ≤ g.hi <;> simp [h2, h3]
  cases hc : covers key g with
  | true => rw [hc] at body; rw [ploop_ret body]; simp [hc]
  | false => rw [hc] at body; rw [ploop_go body, ih (i + 1) (next_drop h)]; simp [hc]
theorem t14 (k : Nat) (s : Stop) (hs : s.ok) (key : Int) : D (k + 1) 14 [SA (enStop s), S1 (I6 key)] = some (S1 (enL 2 enD (segOf s key).draws)) := by
 have c := l14 s.segs key hs.len s.segs.els 0 rfl
 unfold enStop
 rw [D14]
 unfold P14 segOf
 rw [show (I6 0 : DV) = I6 ((0 : Nat) : Int) from rfl, c]
 cases s.segs.els.find? (covers key) <;> rfl
theorem t13 (k : Nat) (s : Stop) (hs : s.ok) (key : Int) (hd : (segOf s key).draws.els.length ≤ 1000000) : D (k + 4) 13 [SA (enStop s), S1 (I6 key)] = some (S1 (enL 2 enD (segOf s key).draws)) := by
 have c := t45 k s hs key
 have d := t44 (k + 2) (segOf s key).draws hd
 unfold enStop at c ⊢
 rw [D13]
 unfold P13
 rw [c]
 unfold enS
 rw [bA_of (by rfl)]
 simp only [atD_s, atD_z, d, b1_some]
def numOf (r : Rank) (d : Draw) (key : Int) : Int := wrapF .i64 (wrapF .i64 (key + d.shift) - r.first)
def pipeOf (rs : List Rank) (key : Int) (d : Draw) : Option Pipe :=
 if d.rank < 0 then none else
 match rs[d.rank.toNat]? with
 | none => none
 | some r => if 0 ≤ numOf r d key ∧ numOf r d key < (r.wind.els.length : Int) then some ⟨d.rank, numOf r d key⟩ else none
theorem t46 (k : Nat) (rs : Sl Rank) (key : Int) (d : Draw) : ∃ q b, D (k + 1) 46 [S1 (enL 6 enR rs), SA [I6 d.rank, I6 d.shift], S1 (I6 key)] = some (.tup [.agg (enPi q), .one (Bo b)]) ∧ pipeOf rs.els key d = if b then some q else none := by
 rw [D46]
 unfold P46 pipeOf
 simp only [pBin_lss, bindD_some, ifB_eq, pLen_enL, pBin_geq, decide_eq_true_eq]
 by_cases h1 : d.rank < 0
 ·rw [if_pos h1, if_pos h1]
  exact ⟨⟨0, 0⟩, false, rfl, rfl⟩
 rw [if_neg h1, if_neg h1]
 obtain ⟨m, hm⟩ : ∃ m : Nat, d.rank = (m : Int) := ⟨d.rank.toNat, by omega⟩
 rw [hm]
 by_cases h2 : (rs.els.length : Int) ≤ (m : Int)
 ·rw [if_pos h2, Int.toNat_natCast, List.getElem?_eq_none (by omega)]
  exact ⟨⟨0, 0⟩, false, rfl, rfl⟩
 rw [if_neg h2, Int.toNat_natCast]
 obtain ⟨r, hr⟩ : ∃ r, rs.els[m]? = some r := ⟨_, List.getElem?_eq_getElem (by omega)⟩
 have ix : pIdx 6 (enL 6 enR rs) (I6 (m : Int)) = some (enR r) := by rw [pIdx_enL, hr]; rfl
 rw [hr]
 simp only [pBin_add, ix, bindD_some, enR, atD_s, atD_z, pBin_sub, pBin_geq, ifB_eq, pLen_enL, pBin_lss]
 show ∃ q b, (if decide (0 ≤ numOf r d key) = true then some (DA.tup [.agg [I6 (m : Int), I6 (numOf r d key)], .one (Bo (decide (numOf r d key < (r.wind.els.length : Int))))]) else some (DA.tup [.agg [I6 (m : Int), I6 (numOf r d key)], .one (Bo false)])) = _ ∧ _
 by_cases h3 : 0 ≤ numOf r d key
 ·by_cases h4 : numOf r d key < (r.wind.els.length : Int)
  ·exact ⟨⟨m, numOf r d key⟩, true, by simp [h3, h4, enPi], by simp [h3, h4]⟩
  ·exact ⟨⟨m, numOf r d key⟩, false, by simp [h3, h4, enPi], by simp [h4]⟩
 ·exact ⟨⟨m, numOf r d key⟩, false, by simp [h3, enPi], by simp [h3]⟩
theorem l16g (k : Nat) (rs : Sl Rank) (key : Int) (ds : Sl Draw) (g0 : List DV) (hg : atD g0 2 = enL 2 enD ds) : ∀ (r : List Draw) (i : Nat) (v : Sl Pipe), ds.els.drop i = r → v.els.length + r.length ≤ 1000 → i + r.length ≤ 1000 →
  ∃ v' : Sl Pipe, ploop (F16_2 (D (k + 1)) (I6 (ds.els.length : Int)) g0 (enL 6 enR rs) (I6 key)) [I6 (i : Int)] [ocL enPi v] = some (.exit 0, [], [ocL enPi v']) ∧ v'.els = v.els ++ r.filterMap (pipeOf rs.els key) := by
 intro r
 induction r with
 | nil =>
  intro i v h _ _
  refine ⟨v, ploop_exit ?_, by simp⟩
  simp only [F16_2, nthD_z, nthM_z, pBin_lss, bindD_some, nlt_i (end_drop h), ifB_eq]
  rfl
 | cons d r ih =>
  intro i v h hv hi
  have h1 := lt_drop h
  simp only [List.length_cons] at hv hi
  have ea : pBin .add (I6 (i : Int)) (I6 1) = some (I6 ((i + 1 : Nat) : Int)) := add64
  obtain ⟨q, b, c, hp⟩ := t46 k rs key d
  have ix : pIdx 2 (enL 2 enD ds) (I6 (i : Int)) = some (enD d) := pIdx_drop h _
  have ef : fits 16 (v.els.length + 1) = true := fits_ok (by decide) (by omega)
  have body : F16_2 (D (k + 1)) (I6 (ds.els.length : Int)) g0 (enL 6 enR rs) (I6 key) [I6 (i : Int)] [ocL enPi v] = some (.normal, [I6 ((i + 1 : Nat) : Int)], [ocL enPi (if b then some (v.els ++ [q]) else v)]) := by
   simp only [F16_2, nthD_z, nthM_z, pBin_lss, bindD_some, lt_i h1, ifB_eq, if_true, hg, ix, enD, atD_z, atD_s, c]
   rw [bT_of (by rfl)]
   simp only [dsAt_z, dsAt_s, dsO_one, dsA_agg, enPi, atD_z, atD_s, lenO_ocL, List.length_cons, List.length_nil, ef, gd_true, ea, bindD_some, elemsO_ocL, ifB_eq]
   cases b with
   | true => simp only [if_true]; rw [← ocL_push]; rfl
   | false => rfl
  rw [ploop_go body]
  cases b with
  | true =>
   obtain ⟨v', e1, e2⟩ := ih (i + 1) (some (v.els ++ [q])) (next_drop h) (by simp; omega) (by omega)
   refine ⟨v', e1, ?_⟩
   rw [e2, List.filterMap_cons, hp]
   simp
  | false =>
   obtain ⟨v', e1, e2⟩ := ih (i + 1) v (next_drop h) (by omega) (by omega)
   refine ⟨v', e1, ?_⟩
   rw [e2, List.filterMap_cons, hp]
   simp
theorem t91 (k n : Nat) (hn : n ≤ 12) : ∃ r, D (k + 2) 91 [S1 (U64 (n : Int))] = some (S1 r) := by
 rw [D91]
 unfold P91
 rw [D116]
 have : n = 0 ∨ n = 1 ∨ n = 2 ∨ n = 3 ∨ n = 4 ∨ n = 5 ∨ n = 6 ∨ n = 7 ∨ n = 8 ∨ n = 9 ∨ n = 10 ∨ n = 11 ∨ n = 12 := by omega
 rcases this with rfl | rfl | rfl | rfl | rfl | rfl | rfl | rfl | rfl | rfl | rfl | rfl | rfl <;> exact ⟨_, rfl⟩
def pipesOf (rs : List Rank) (key : Int) (ds : List Draw) : List Pipe := ds.filterMap (pipeOf rs key)
theorem kept_all {l acc : List Pipe} {n : Nat} (hn : l.length = n) (H : Kept l acc n) : acc.Pairwise ltP ∧ ∀ y, y ∈ acc ↔ y ∈ l := ⟨H.1, fun y => by rw [H.2, List.take_of_length_le (by omega)]⟩
theorem t16 (k : Nat) (rs : Sl Rank) (s : Stop) (hs : s.ok) (key : Int) (hd : (segOf s key).draws.els.length ≤ 12) :
  ∃ v : Sl Pipe, D (k + 4) 16 [S1 (enL 6 enR rs), SA (enStop s), S1 (I6 key)] = some (S1 (enL 2 enPi v)) ∧ v.els.Pairwise ltP ∧ ∀ y, y ∈ v.els ↔ y ∈ pipesOf rs.els key (segOf s key).draws.els := by
 have c := t45 k s hs key
 unfold enStop at c ⊢
 rw [D16]
 unfold P16
 rw [c]
 generalize hg : (segOf s key).draws = ds at hd ⊢
 have hg2 : atD (enS (segOf s key)) 2 = enL 2 enD ds := by rw [← hg]; rfl
 rw [bA_of (show (enS (segOf s key)).length = 3 from rfl)]
 simp only [hg2, pLen_enL, bindD_some]
 obtain ⟨v, e1, e2⟩ := l16g (k + 2) rs key ds _ hg2 ds.els 0 none rfl (by simp; omega) (by omega)
 rw [show (I6 0 : DV) = I6 ((0 : Nat) : Int) from rfl, show (none : OC) = ocL enPi none from rfl, e1]
 have hl : v.els.length ≤ 12 := by
  rw [e2]
  simp only [els_none, List.nil_append]
  exact Nat.le_trans (List.length_filterMap_le _ _) hd
 have hmem : ∀ y, y ∈ v.els ↔ y ∈ pipesOf rs.els key ds.els := fun y => by rw [e2]; simp [pipesOf]
 have cv : pConv .u64 (I6 (v.els.length : Int)) = some (U64 (v.els.length : Int)) := convU (by omega)
 obtain ⟨r, hr⟩ := t91 (k + 1) v.els.length hl
 have sm : small12 (I6 ((0 : Nat) : Int)) (I6 (v.els.length : Int)) = true := by
  show Nat.ble v.els.length 12 = true
  exact Nat.ble_eq_true_of_le hl
 have a01 : pBin .add (I6 ((0 : Nat) : Int)) (I6 1) = some (I6 ((1 : Nat) : Int)) := rfl
 simp only [loopR_exit, nthM_z, lenO_ocL, ofNat_int, cv, bindD_some, hr, b1_some, sm, cond_true, a01, Nat.beq_refl]
 have srt : ∃ l : List Pipe, (v = none ∧ l = [] ∨ ∃ q, v = some q) ∧ ploop (F16_15 (D (k + 3)) [ocL enPi v]) [I6 ((1 : Nat) : Int)] [ocL enPi v] = some (.exit 0, [], [if v = none then none else ocP l]) ∧ l.length = v.els.length ∧ l.Pairwise leP ∧ ∀ y, y ∈ l ↔ y ∈ v.els := by
  cases v with
  | none =>
   refine ⟨[], .inl ⟨rfl, rfl⟩, ploop_exit ?_, rfl, .nil, fun y => by simp⟩
   simp only [F16_15, nthD_z, nthM_z, lenO_ocL, els_none, ofNat_int, pBin_lss, bindD_some, ifB_eq]
   rfl
  | some l0 =>
   cases l0 with
   | nil =>
    refine ⟨[], .inr ⟨_, rfl⟩, ploop_exit ?_, rfl, .nil, fun y => by simp⟩
    simp only [F16_15, nthD_z, nthM_z, lenO_ocL, els_some, ofNat_int, pBin_lss, bindD_some, ifB_eq]
    rfl
   | cons x r0 =>
    obtain ⟨a1, a2, a3⟩ := sortFrom_app r0.length [x] r0 rfl (List.pairwise_singleton ..)
    refine ⟨sortFrom r0.length 1 (x :: r0), .inr ⟨_, rfl⟩, l16s k (x :: r0).length [ocL enPi (some (x :: r0))] (by simp) (by simp only [els_some] at hl; omega) r0.length 1 (x :: r0) rfl (by simp; omega), ?_, a1, fun y => ?_⟩
    ·show (sortFrom r0.length 1 (x :: r0)).length = (x :: r0).length
     rw [show (sortFrom r0.length 1 (x :: r0)).length = 1 + r0.length from a3, List.length_cons]
     omega
    ·rw [els_some]
     exact (a2 y).trans (by simp)
 obtain ⟨l, hvl, p1, p2, p3, p4⟩ := srt
 rw [p1]
 simp only [loopR_exit, nthM_z, Nat.beq_refl, cond_true]
 rcases hvl with ⟨rfl, rfl⟩ | ⟨q, rfl⟩
 ·refine ⟨none, rfl, .nil, fun y => ?_⟩
  rw [← hmem y]
 ·simp only [reduceCtorEq, if_false]
  have hq : l.length ≤ 12 := by rw [p2]; exact hl
  simp only [lenO_P, pBin_lss, bindD_some, ifB_eq]
  by_cases h2 : l.length < 2
  ·have h3 : decide ((l.length : Int) < 2) = true := decide_eq_true (by omega)
   rw [h3, if_pos rfl]
   refine ⟨some l, by rw [mkL_ocL], ?_, fun y => by rw [← hmem y, ← p4 y]; rfl⟩
   cases l with
   | nil => exact .nil
   | cons x l => cases l with
    | nil => exact List.pairwise_singleton ..
    | cons y l => simp only [List.length_cons] at h2; omega
  ·have h3 : decide ((l.length : Int) < 2) = false := decide_eq_false (by omega)
   rw [h3, if_neg (by decide)]
   have k1 : Kept l (l.take 1) 1 := ⟨by
    cases l with
    | nil => exact .nil
    | cons x l => exact List.pairwise_singleton .., fun y => Iff.rfl⟩
   obtain ⟨acc, ha, hk⟩ := l16k l l.length rfl p3 (by omega) (l.length - 1) 1 (by omega) (by omega) k1
   have hk' := kept_all rfl hk
   refine ⟨some acc, ?_, hk'.1, fun y => by rw [← hmem y, ← p4 y]; exact hk'.2 y⟩
   rw [show (I6 1 : DV) = I6 ((1 : Nat) : Int) from rfl]
   rcases ha with ha | ha
   ·rw [ha]
    simp only [loopR_exit, nthM_z, Nat.beq_refl, cond_true, mkL_ocL]
   ·rw [ha]
    rfl
theorem pipeOf_some {rs : List Rank} {key : Int} {d : Draw} {y : Pipe} (h : pipeOf rs key d = some y) : ∃ r, 0 ≤ d.rank ∧ rs[d.rank.toNat]? = some r ∧ y.rank = d.rank ∧ y.num = numOf r d key ∧ 0 ≤ y.num ∧ y.num < (r.wind.els.length : Int) := by
 unfold pipeOf at h
 split at h
 ·cases h
 ·rename_i h0
  split at h
  ·cases h
  ·rename_i r hr
   split at h
   ·rename_i hc
    cases h
    exact ⟨r, by omega, hr, rfl, rfl, hc.1, hc.2⟩
   ·cases h
def hasB (rs : List Rank) (key : Int) (ds : List Draw) (p : Pipe) : Bool := ds.any fun d => decide (pipeOf rs key d = some p)
theorem hasB_iff {rs : List Rank} {key : Int} {ds : List Draw} {p : Pipe} : hasB rs key ds p = true ↔ p ∈ pipesOf rs key ds := by
 unfold hasB pipesOf
 rw [List.any_eq_true, List.mem_filterMap]
 simp
theorem hasB_range {rs : List Rank} {key : Int} {ds : List Draw} {p : Pipe} (h : hasB rs key ds p = true) : ∃ m r, p.rank = ((m : Nat) : Int) ∧ rs[m]? = some r ∧ 0 ≤ p.num ∧ p.num < (r.wind.els.length : Int) := by
 obtain ⟨d, _, hd⟩ := List.any_eq_true.1 h
 obtain ⟨r, h1, h2, h3, h4, h5, h6⟩ := pipeOf_some (of_decide_eq_true hd)
 exact ⟨d.rank.toNat, r, by omega, h2, h5, h6⟩
theorem l32 (rs : Sl Rank) (key : Int) (p : Pipe) (ds : Sl Draw) (hl : ds.els.length ≤ 1000) : ∀ (r : List Draw) (i : Nat), ds.els.drop i = r →
  ploop (F32_2 (I6 (ds.els.length : Int)) (enL 2 enD ds) (I6 p.rank) (enL 6 enR rs) (I6 key) (I6 p.num)) [I6 (i : Int)] [] = some (if hasB rs.els key r p then (.ret, [Bo true], []) else (.exit 0, [], [])) := by
 intro r
 induction r with
 | nil =>
  intro i h
  refine ploop_exit ?_
  simp only [F32_2, nthD_z, pBin_lss, bindD_some, nlt_i (end_drop h), ifB_eq]
  rfl
 | cons d r ih =>
  intro i h
  have h1 := lt_drop h
  have ea : pBin .add (I6 (i : Int)) (I6 1) = some (I6 ((i + 1 : Nat) : Int)) := add64
  have body : F32_2 (I6 (ds.els.length : Int)) (enL 2 enD ds) (I6 p.rank) (enL 6 enR rs) (I6 key) (I6 p.num) [I6 (i : Int)] [] = some (if pipeOf rs.els key d = some p then (.ret, [Bo true], []) else (.normal, [I6 ((i + 1 : Nat) : Int)], [])) := by
   simp only [F32_2, nthD_z, pBin_lss, bindD_some, lt_i h1, ifB_eq, if_true, pIdx_drop h, enD, atD_z, atD_s, pBin_eql, ea, pBin_geq, pLen_enL, pBin_add]
   by_cases a1 : d.rank = p.rank
   ·have e1 : (d.rank == p.rank) = true := by simpa using a1
    rw [e1, if_pos rfl]
    by_cases a2 : 0 ≤ d.rank
    ·rw [decide_eq_true a2, if_pos rfl]
     by_cases a3 : d.rank < (rs.els.length : Int)
     ·rw [decide_eq_true a3, if_pos rfl]
      obtain ⟨m, hm⟩ : ∃ m : Nat, d.rank = (m : Int) := ⟨d.rank.toNat, by omega⟩
      obtain ⟨q, hq⟩ : ∃ q, rs.els[m]? = some q := ⟨_, List.getElem?_eq_getElem (by omega)⟩
      have ix : pIdx 6 (enL 6 enR rs) (I6 d.rank) = some (enR q) := by rw [hm, pIdx_enL, hq]; rfl
      have hp : pipeOf rs.els key d = if 0 ≤ numOf q d key ∧ numOf q d key < (q.wind.els.length : Int) then some ⟨d.rank, numOf q d key⟩ else none := by
       unfold pipeOf
       rw [if_neg (by omega), hm, Int.toNat_natCast, hq]
      simp only [ix, bindD_some, enR, atD_s, atD_z, pBin_sub, pBin_eql, ifB_eq, pLen_enL, pBin_lss]
      show (if (numOf q d key == p.num) = true then _ else _) = _
      by_cases a4 : numOf q d key = p.num
      ·have e4 : (numOf q d key == p.num) = true := by simpa using a4
       have hpe : (⟨d.rank, p.num⟩ : Pipe) = p := Pipe.eq a1 rfl
       rw [a4] at hp
       rw [e4, if_pos rfl]
       by_cases a5 : 0 ≤ p.num
       ·rw [decide_eq_true a5, if_pos rfl]
        by_cases a6 : p.num < (q.wind.els.length : Int)
        ·rw [decide_eq_true a6, if_pos rfl, if_pos (show pipeOf rs.els key d = some p by rw [hp, if_pos ⟨a5, a6⟩, hpe])]
        ·rw [decide_eq_false a6, if_neg (by decide), if_neg (show ¬ (pipeOf rs.els key d = some p) by rw [hp, if_neg (fun h => a6 h.2)]; simp)]
       ·rw [decide_eq_false a5, if_neg (by decide), if_neg (show ¬ (pipeOf rs.els key d = some p) by rw [hp, if_neg (fun h => a5 h.1)]; simp)]
      ·have e4 : (numOf q d key == p.num) = false := by simpa using a4
       rw [e4, if_neg (by decide)]
       have : ¬ (pipeOf rs.els key d = some p) := by
        intro h
        rw [hp] at h
        split at h
        ·cases h; exact a4 rfl
        ·cases h
       rw [if_neg this]
     ·rw [decide_eq_false a3, if_neg (by decide)]
      have : ¬ (pipeOf rs.els key d = some p) := fun h => by
       obtain ⟨r, b1, b2, _⟩ := pipeOf_some h
       have := (List.getElem?_eq_some_iff.1 b2).1
       omega
      rw [if_neg this]
    ·rw [decide_eq_false a2, if_neg (by decide)]
     have : ¬ (pipeOf rs.els key d = some p) := fun h => by
      obtain ⟨r, b1, _⟩ := pipeOf_some h
      exact a2 b1
     rw [if_neg this]
   ·have e1 : (d.rank == p.rank) = false := by simpa using a1
    rw [e1, if_neg (by decide)]
    have : ¬ (pipeOf rs.els key d = some p) := fun h => by
     obtain ⟨r, _, _, b3, _⟩ := pipeOf_some h
     exact a1 b3.symm
    rw [if_neg this]
  by_cases hc : pipeOf rs.els key d = some p
  ·rw [if_pos hc] at body; rw [ploop_ret body]; simp [hasB, hc]
  ·rw [if_neg hc] at body; rw [ploop_go body, ih (i + 1) (next_drop h)]; simp [hasB, hc]
theorem t32 (k : Nat) (rs : Sl Rank) (s : Stop) (hs : s.ok) (key : Int) (p : Pipe) (hl : (segOf s key).draws.els.length ≤ 1000) : D (k + 2) 32 [S1 (enL 6 enR rs), SA (enStop s), S1 (I6 key), SA [I6 p.rank, I6 p.num]] = some (S1 (Bo (hasB rs.els key (segOf s key).draws.els p))) := by
 have c := t14 k s hs key
 have l := l32 rs key p (segOf s key).draws hl (segOf s key).draws.els 0 rfl
 unfold enStop at c ⊢
 rw [D32]
 unfold P32
 rw [c]
 simp only [b1_some, pLen_enL, bindD_some]
 rw [show (I6 0 : DV) = I6 ((0 : Nat) : Int) from rfl, l]
 cases hasB rs.els key (segOf s key).draws.els p <;> rfl
def Upto (rs : List Rank) (key : Int) (ds : List Draw) (v : List Pipe) (i j : Nat) : Prop :=
 v.Pairwise ltP ∧ (∀ y, y ∈ v ↔ hasB rs key ds y = true ∧ (y.rank < (i : Int) ∨ (y.rank = (i : Int) ∧ y.num < (j : Int)))) ∧ v.length ≤ 128 * i + j
theorem l17i (k : Nat) (rs : Sl Rank) (s : Stop) (hs : s.ok) (key : Int) (hl : (segOf s key).draws.els.length ≤ 1000) (i : Nat) (q : Rank) (hq : rs.els[i]? = some q) (hw : q.wind.els.length ≤ 128) (hi : i ≤ 1000) : ∀ (m j : Nat) (v : Sl Pipe), j + m = q.wind.els.length → Upto rs.els key (segOf s key).draws.els v.els i j →
  ∃ v' : Sl Pipe, ploop (F17_4 (D (k + 2)) (enL 6 enR rs) [I6 (i : Int)] (St s.name) (I6 s.num) (I6 s.den) (enL 3 enS s.segs) (I6 key)) [I6 (j : Int)] [ocL enPi v] = some (.exit 2, [], [ocL enPi v']) ∧ Upto rs.els key (segOf s key).draws.els v'.els i q.wind.els.length
 | 0, j, v, h, H => by
  have ix : pIdx 6 (enL 6 enR rs) (I6 (i : Int)) = some (enR q) := by rw [pIdx_enL, hq]; rfl
  refine ⟨v, ploop_exit ?_, by rwa [show q.wind.els.length = j by omega]⟩
  simp only [F17_4, nthD_z, nthM_z, ix, bindD_some, enR, atD_s, atD_z, pLen_enL, pBin_lss, nlt_i (show q.wind.els.length ≤ j by omega), ifB_eq]
  rfl
 | m + 1, j, v, h, H => by
  have ix : pIdx 6 (enL 6 enR rs) (I6 (i : Int)) = some (enR q) := by rw [pIdx_enL, hq]; rfl
  have c := t32 k rs s hs key ⟨(i : Int), (j : Int)⟩ hl
  unfold enStop at c
  have ea : pBin .add (I6 (j : Int)) (I6 1) = some (I6 ((j + 1 : Nat) : Int)) := add64
  have hv := H.2.2
  have ef : fits 16 (v.els.length + 1) = true := fits_ok (by decide) (by omega)
  have body : F17_4 (D (k + 2)) (enL 6 enR rs) [I6 (i : Int)] (St s.name) (I6 s.num) (I6 s.den) (enL 3 enS s.segs) (I6 key) [I6 (j : Int)] [ocL enPi v] =
    some (.normal, [I6 ((j + 1 : Nat) : Int)], [ocL enPi (if hasB rs.els key (segOf s key).draws.els ⟨(i : Int), (j : Int)⟩ then some (v.els ++ [⟨(i : Int), (j : Int)⟩]) else v)]) := by
   simp only [F17_4, nthD_z, nthM_z, ix, bindD_some, enR, atD_s, atD_z, pLen_enL, pBin_lss, lt_i (show j < q.wind.els.length by omega), ifB_eq, if_true, c, b1_some, lenO_ocL, List.length_cons, List.length_nil, ef, gd_true, ea, elemsO_ocL]
   cases hasB rs.els key (segOf s key).draws.els ⟨(i : Int), (j : Int)⟩ with
   | true => simp only [if_true]; rw [← ocL_push]; rfl
   | false => rfl
  rw [ploop_go body]
  refine l17i k rs s hs key hl i q hq hw hi m (j + 1) _ (by omega) ?_
  cases hb : hasB rs.els key (segOf s key).draws.els ⟨(i : Int), (j : Int)⟩ with
  | true =>
   rw [if_pos rfl, els_some]
   refine ⟨List.pairwise_append.2 ⟨H.1, List.pairwise_singleton .., fun a ha b hb' => ?_⟩, fun y => ?_, by simp; omega⟩
   ·obtain rfl := List.mem_singleton.1 hb'
    rcases ((H.2.1 a).1 ha).2 with h | ⟨h, g⟩
    ·exact .inl h
    ·exact .inr ⟨h, g⟩
   ·rw [List.mem_append, List.mem_singleton, H.2.1]
    constructor
    ·rintro (⟨a, b⟩ | rfl)
     ·exact ⟨a, by omega⟩
     ·exact ⟨hb, .inr ⟨rfl, by show (j : Int) < _; omega⟩⟩
    ·rintro ⟨a, b⟩
     by_cases hy : y.rank = (i : Int) ∧ y.num = (j : Int)
     ·exact .inr (Pipe.eq hy.1 hy.2)
     ·exact .inl ⟨a, by omega⟩
  | false =>
   rw [if_neg (by decide)]
   refine ⟨H.1, fun y => ?_, by omega⟩
   rw [H.2.1]
   constructor
   ·rintro ⟨a, b⟩
    exact ⟨a, by omega⟩
   ·rintro ⟨a, b⟩
    by_cases hy : y.rank = (i : Int) ∧ y.num = (j : Int)
    ·rw [Pipe.eq (b := ⟨(i : Int), (j : Int)⟩) hy.1 hy.2, hb] at a; cases a
    ·exact ⟨a, by omega⟩
theorem l17 (k : Nat) (rs : Sl Rank) (s : Stop) (hs : s.ok) (key : Int) (hl : (segOf s key).draws.els.length ≤ 1000) (hr : ∀ r ∈ rs.els, r.wind.els.length ≤ 128) (hn : rs.els.length ≤ 1000) : ∀ (m i : Nat) (v : Sl Pipe), i + m = rs.els.length → Upto rs.els key (segOf s key).draws.els v.els i 0 →
  ∃ v' : Sl Pipe, ploop (F17_0 (D (k + 2)) (enL 6 enR rs) (St s.name) (I6 s.num) (I6 s.den) (enL 3 enS s.segs) (I6 key)) [I6 (i : Int)] [ocL enPi v] = some (.exit 0, [], [ocL enPi v']) ∧ Upto rs.els key (segOf s key).draws.els v'.els rs.els.length 0
 | 0, i, v, h, H => by
  refine ⟨v, ploop_exit ?_, by rwa [show rs.els.length = i by omega]⟩
  simp only [F17_0, nthD_z, nthM_z, pLen_enL, bindD_some, pBin_lss, nlt_i (show rs.els.length ≤ i by omega), ifB_eq]
  rfl
 | m + 1, i, v, h, H => by
  obtain ⟨q, hq⟩ : ∃ q, rs.els[i]? = some q := ⟨_, List.getElem?_eq_getElem (by omega)⟩
  have hw := hr q (List.mem_of_getElem? hq)
  have ea : pBin .add (I6 (i : Int)) (I6 1) = some (I6 ((i + 1 : Nat) : Int)) := add64
  obtain ⟨v', e1, e2⟩ := l17i k rs s hs key hl i q hq hw (by omega) q.wind.els.length 0 v (by omega) H
  have body : F17_0 (D (k + 2)) (enL 6 enR rs) (St s.name) (I6 s.num) (I6 s.den) (enL 3 enS s.segs) (I6 key) [I6 (i : Int)] [ocL enPi v] = some (.normal, [I6 ((i + 1 : Nat) : Int)], [ocL enPi v']) := by
   simp only [F17_0, nthD_z, nthM_z, pLen_enL, bindD_some, pBin_lss, lt_i (show i < rs.els.length by omega), ifB_eq, if_true]
   rw [show (I6 0 : DV) = I6 ((0 : Nat) : Int) from rfl, e1]
   simp only [loopR_exit, ea, bindD_some, nthM_z]
   rfl
  rw [ploop_go body]
  refine l17 k rs s hs key hl hr hn m (i + 1) v' (by omega) ⟨e2.1, fun y => ?_, by have := e2.2.2; omega⟩
  rw [e2.2.1]
  constructor
  ·rintro ⟨a, b⟩
   exact ⟨a, .inl (by omega)⟩
  ·rintro ⟨a, b⟩
   obtain ⟨t, r, h1, h2, h3, h4⟩ := hasB_range a
   refine ⟨a, ?_⟩
   rcases b with b | ⟨_, b⟩
   ·by_cases hy : y.rank < (i : Int)
    ·exact .inl hy
    ·refine .inr ⟨by omega, ?_⟩
     have : t = i := by omega
     subst this
     rw [hq] at h2; cases h2
     exact h4
   ·exfalso; omega
theorem t17 (k : Nat) (rs : Sl Rank) (s : Stop) (hs : s.ok) (key : Int) (hl : (segOf s key).draws.els.length ≤ 1000) (hr : ∀ r ∈ rs.els, r.wind.els.length ≤ 128) (hn : rs.els.length ≤ 1000) :
  ∃ v : Sl Pipe, D (k + 3) 17 [S1 (enL 6 enR rs), SA (enStop s), S1 (I6 key)] = some (S1 (enL 2 enPi v)) ∧ v.els.Pairwise ltP ∧ ∀ y, y ∈ v.els ↔ y ∈ pipesOf rs.els key (segOf s key).draws.els := by
 obtain ⟨v, e1, e2⟩ := l17 k rs s hs key hl hr hn rs.els.length 0 none (by omega) ⟨.nil, fun y => ⟨fun h => (by cases h), fun h => by
  obtain ⟨t, r, h1, h2, h3, h4⟩ := hasB_range h.1
  rcases h.2 with b | ⟨_, b⟩ <;> omega⟩, by simp⟩
 refine ⟨v, ?_, e2.1, fun y => ?_⟩
 ·unfold enStop
  rw [D17]
  unfold P17
  rw [show (I6 0 : DV) = I6 ((0 : Nat) : Int) from rfl, show (none : OC) = ocL enPi none from rfl, e1]
  simp only [loopR_exit, nthM_z, mkL_ocL, Nat.beq_refl, cond_true]
 ·rw [e2.2.1, ← hasB_iff]
  constructor
  ·exact fun h => h.1
  ·intro h
   obtain ⟨t, r, h1, h2, h3, h4⟩ := hasB_range h
   have := (List.getElem?_eq_some_iff.1 h2).1
   exact ⟨h, .inl (by omega)⟩
theorem nodup_len : ∀ {l m : List Pipe}, l.Pairwise ltP → (∀ z ∈ l, z ∈ m) → l.length ≤ m.length
 | [], m, _, _ => Nat.zero_le _
 | x :: l, m, h, H => by
  have h' := List.pairwise_cons.1 h
  obtain ⟨a, b, rfl⟩ := List.append_of_mem (H x (List.mem_cons_self ..))
  have := nodup_len (l := l) (m := a ++ b) h'.2 fun z hz => by
   have hm := H z (List.mem_cons_of_mem _ hz)
   rcases List.mem_append.1 hm with hm | hm
   ·exact List.mem_append_left _ hm
   ·rcases List.mem_cons.1 hm with rfl | hm
    ·exact absurd (h'.1 z hz) lt_irrefl
    ·exact List.mem_append_right _ hm
  simp only [List.length_append, List.length_cons] at this ⊢
  omega
theorem segOf_few {s : Stop} (h : shortB s = true) (key : Int) : (segOf s key).draws.els.length ≤ 10 := by
 unfold shortB at h
 rw [Bool.and_eq_true, Bool.and_eq_true] at h
 unfold segOf
 cases hf : s.segs.els.find? (covers key) with
 | none => decide
 | some g => exact of_decide_eq_true (List.all_eq_true.1 h.1.1 g (List.mem_of_find?_eq_some hf))
set_option maxRecDepth 20000 in
theorem t3 (k : Nat) (y : Site) (hy : y.ok) (s : Stop) (hs : s.ok) (key : Int) : D (k + 6) 3 [SA (enSite y), SA (enStop s), S1 (I6 key)] = some (S1 (Bo true)) := by
 have c10 := t10 (k + 4) s hs
 have c11 := t11 (k + 2) y hy
 have hx := placeOf_ok y
 have hw : ∀ r ∈ (placeOf y).ranks.els, r.wind.els.length ≤ 128 := fun r hr => by
  have hp : ∀ (i : Nat) (q : Row), (mkRank i q).wind.els.length ≤ 128 := fun i q => by
   show (winds (1 + q.pipes % 25)).length ≤ 128
   rw [winds_len]
   have := Nat.mod_lt q.pipes (show 25 > 0 by omega)
   omega
  simp only [placeOf, els_some, List.mem_cons, List.not_mem_nil, or_false] at hr
  rcases hr with rfl | rfl | rfl <;> exact hp _ _
 have hn : (placeOf y).ranks.els.length ≤ 1000 := by show (3 : Nat) ≤ 1000; decide
 generalize placeOf y = x at c11 hx hw hn
 have few := fun h => segOf_few (s := s) h key
 have c13 := fun h => t13 (k + 1) s hs key h
 have c14 := t14 (k + 4) s hs key
 have c12 := t12 (k + 4) (segOf s key).draws (segOf s key).draws
 have c16 := fun h => t16 (k + 1) x.ranks s hs key h
 have c17 := fun h => t17 (k + 2) x.ranks s hs key h hw hn
 have c15 := fun a b h => t15 (k + 4) a b h
 unfold enStop at c10 c13 c14 c16 c17
 unfold enSite enRow at c11
 unfold enSite enRow enStop
 simp only [List.cons_append, List.nil_append] at c11 ⊢
 rw [D3]
 unfold P3
 unfold enP at c11
 simp only [D9, b1_some, pNot_bool, bindD_some, ifB_eq, Bool.not_true, Bool.false_eq_true, if_false, c10]
 cases hsh : shortB s with
 | false => rfl
 | true =>
  have f := few hsh
  obtain ⟨v, a1, a2, a3⟩ := c16 (by omega)
  obtain ⟨w, b1, b2, b3⟩ := c17 (by omega)
  have hvw : v.els = w.els := strict_eq _ _ a2 b2 fun z => (a3 z).trans (b3 z).symm
  have hvl : v.els.length ≤ 9223372036854775807 := by
   have : v.els.length ≤ (pipesOf x.ranks.els key (segOf s key).draws.els).length := nodup_len a2 fun z hz => (a3 z).1 hz
   have := List.length_filterMap_le (pipeOf x.ranks.els key) (segOf s key).draws.els
   unfold pipesOf at *
   omega
  have d := c15 v w hvl
  rw [hvw, decide_eq_true rfl] at d
  simp only [Bool.not_true, Bool.false_eq_true, if_false, c11]
  rw [bA_of (show [enL 6 enR x.ranks, I6 x.low, I6 x.high].length = 3 from rfl)]
  simp only [atD_z, c13 (by omega), c14, b1_some, c12 (by omega), decide_true, ifB_eq, if_true, a1, b1, d]
end Go.Proofs.Tryz.Kn
end
section
namespace Go.Proofs.YtbecpkicohiijaaGreatDoor
open Go Go.CE Go.PE Go.ChangeShapes Go.WideShapes Go.ChangeAt Go.RowKit Go.Proofs.Tryz.Kn Go.Joins
set_option maxRecDepth 100000
namespace Law
theorem own : ownKnob Tryz.prog.godebug = none := by kernel_rfl
theorem laidOut : laidOutB Tryz.prog = true := by kernel_rfl
theorem room (k : Nat) : (FR none).room k := by first | trivial | simp [Fence.room, Fence.wide]
def laid3 : List (String × DataW Unit) := [("math/bits.deBruijn32tab", Rows.laid_math_bits_deBruijn32tab), ("math/bits.deBruijn64tab", Rows.laid_math_bits_deBruijn64tab), ("internal/strconv.uint64pow10", Rows.laid_internal_strconv_uint64pow10)]
theorem door_met (os : Os) (args : Array Value) : laidMetH Tryz.prog laid3 ((World.doorLaid Tryz.prog 400 os).forCall (fun _ _ => 0) ⟨#[], args, []⟩).memory :=
 laidMetH_of_parts3 (fuel := 8) (laidMet_of_run' 8 (by kernel_rfl) (by kernel_rfl)) (by kernel_rfl) (by kernel_rfl)
theorem g64 : Tryz.prog.globalNamed "math/bits.deBruijn64tab" = some 3 := by kernel_rfl
theorem gpow : Tryz.prog.globalNamed "internal/strconv.uint64pow10" = some 1 := by kernel_rfl
noncomputable def t64 : TypeId := ((Tryz.prog.globals[3]?).map (·.type)).getD 0
noncomputable def tpow : TypeId := ((Tryz.prog.globals[1]?).map (·.type)).getD 0
def n64 : List Nat := ((gtabK 3).getD (.u8, [])).2
def npow : List Nat := ((gtabK 1).getD (.u8, [])).2
theorem gtab64 : gtabK 3 = some (.u8, n64) := rfl
theorem gtabpow : gtabK 1 = some (.u64, npow) := rfl
theorem lit64 : (Rows.laid_math_bits_deBruijn64tab : DataW Unit) = .agg (n64.map (litI .u8)) := rfl
theorem litpow : (Rows.laid_internal_strconv_uint64pow10 : DataW Unit) = .agg (npow.map (litI .u64)) := rfl
noncomputable def elemOf (t : TypeId) : TypeId := match Tryz.prog.underlying t with | some (.array _ e) => e | _ => 0
theorem e64 : ∃ n e, Tryz.prog.underlying t64 = some (.array n e) ∧ Tryz.prog.underlying e = some (.int .u8) ∧ Tryz.prog.cellsOf e = 1 := ⟨64, elemOf t64, by kernel_rfl, by kernel_rfl, by kernel_rfl⟩
theorem epow : ∃ n e, Tryz.prog.underlying tpow = some (.array n e) ∧ Tryz.prog.underlying e = some (.int .u64) ∧ Tryz.prog.cellsOf e = 1 := ⟨20, elemOf tpow, by kernel_rfl, by kernel_rfl, by kernel_rfl⟩
theorem gtab_none {g : Nat} (h1 : g ≠ 3) (h2 : g ≠ 1) : gtabK g = none := by
 unfold gtabK
 split
 ·exact absurd rfl h1
 ·exact absurd rfl h2
 ·rfl
theorem gw_of {W : World} (h : laidMetH Tryz.prog laid3 W) : GOk W := by
 rw [MakeChecks.laidMetH_plain _ _ _ (by kernel_rfl)] at h
 obtain ⟨ps, ⟨g0, t0, cs0, f0, p0, q0, hg0, ht0, hv0, hd0, ⟨g1, t1, cs1, f1, p1, q1, hg1, ht1, hv1, hd1, ⟨g2, t2, cs2, f2, p2, q2, hg2, ht2, hv2, hd2, _, _⟩, _⟩, _⟩, _, _⟩ := h
 obtain rfl := Option.some.inj (g64.symm.trans hg1)
 obtain rfl := Option.some.inj (gpow.symm.trans hg2)
 have k1 : t1 = t64 := by unfold t64; rw [ht1]; rfl
 have k2 : t2 = tpow := by unfold tpow; rw [ht2]; rfl
 subst k1 k2
 rw [lit64] at hd1
 rw [litpow] at hd2
 obtain ⟨n1, e1, a1, a2, a3⟩ := e64
 obtain ⟨n2, e2, b1, b2, b3⟩ := epow
 intro g off c hc
 by_cases c1 : g = 3
 ·subst c1
  exact gw_var gtab64 (fun off m hm => laid_ints hg1 a1 a2 a3 hv1 hd1 hm) hc
 by_cases c2 : g = 1
 ·subst c2
  exact gw_var gtabpow (fun off m hm => laid_ints hg2 b1 b2 b3 hv2 hd2 hm) hc
 ·unfold gLoad at hc
  rw [gtab_none c1 c2] at hc
  cases hc
def k26 : List IntKind := List.replicate 11 .u8
theorem rr26 : Tryz.prog.readableRec 26 = true := by kernel_rfl
theorem lt26 : 26 < Tryz.prog.types.size := of_decide_eq_true (by kernel_rfl)
set_option maxRecDepth 100000 in
theorem open26 {W : World} {base : Nat} {v : Value} (hv : Value.okWide Tryz.prog W .any base 26 v) : ∃ y : Site, y.ok ∧ ∃ f, intsD k26 f 0 = enSite y ∧ v = concA (φ0 W) (.s (.agg (intsC k26 f 0))) := by
 obtain ⟨f, e, h⟩ := plain_open (ks := k26) (ts := ((Tryz.prog.cellTypes Tryz.prog.depth 26).getD [])) (by kernel_rfl) (by kernel_rfl) (by kernel_rfl) (by kernel_rfl) hv
 have u : ∀ i, k26[i]? = some .u8 → ∃ m : Nat, f i = (m : Int) ∧ m < 256 := fun i hi => has_u8 (h i .u8 hi)
 obtain ⟨m0, e0, l0⟩ := u 0 rfl
 obtain ⟨m1, e1, l1⟩ := u 1 rfl
 obtain ⟨m2, e2, l2⟩ := u 2 rfl
 obtain ⟨m3, e3, l3⟩ := u 3 rfl
 obtain ⟨m4, e4, l4⟩ := u 4 rfl
 obtain ⟨m5, e5, l5⟩ := u 5 rfl
 obtain ⟨m6, e6, l6⟩ := u 6 rfl
 obtain ⟨m7, e7, l7⟩ := u 7 rfl
 obtain ⟨m8, e8, l8⟩ := u 8 rfl
 obtain ⟨m9, e9, l9⟩ := u 9 rfl
 obtain ⟨m10, e10, l10⟩ := u 10 rfl
 refine ⟨⟨⟨m0, m1, m2⟩, ⟨m3, m4, m5⟩, ⟨m6, m7, m8⟩, m9, m10⟩, ⟨⟨l0, l1, l2⟩, ⟨l3, l4, l5⟩, ⟨l6, l7, l8⟩, l9, l10⟩, f, ?_, e⟩
 show [DV.int .u8 (f 0), .int .u8 (f 1), .int .u8 (f 2), .int .u8 (f 3), .int .u8 (f 4), .int .u8 (f 5), .int .u8 (f 6), .int .u8 (f 7), .int .u8 (f 8), .int .u8 (f 9), .int .u8 (f 10)] = _
 rw [e0, e1, e2, e3, e4, e5, e6, e7, e8, e9, e10]
 rfl
theorem rows_of {α : Type} {f : α → List DV} {q : α → Prop} : ∀ {xs : List (List DV)}, (∀ x ∈ xs, ∃ a, x = f a ∧ q a) → ∃ l : List α, xs = l.map f ∧ ∀ a ∈ l, q a
 | [], _ => ⟨[], rfl, fun a h => by cases h⟩
 | x :: xs, H => by
  obtain ⟨a, rfl, h1⟩ := H x (List.mem_cons_self ..)
  obtain ⟨l, rfl, h2⟩ := rows_of fun y hy => H y (List.mem_cons_of_mem _ hy)
  exact ⟨a :: l, rfl, fun b hb => by
   rcases List.mem_cons.1 hb with rfl | hb
   ·exact h1
   ·exact h2 b hb⟩
theorem ty_struct {n t : Nat} {fs : Array Field} {ds : List DV} (e : Tryz.prog.underlying t = some (.struct fs)) (h : Ty Tryz.prog (n + 1) t ds) : TyFs (Ty Tryz.prog n) (fs.toList.map (·.type)) ds := by
 rw [Ty, e] at h; exact h
theorem ty_slice {n t el : Nat} {ds : List DV} (e : Tryz.prog.underlying t = some (.slice el)) (h : Ty Tryz.prog (n + 1) t ds) : ds = [.nils] ∨ ∃ xs, ds = [.lst (Tryz.prog.cellsOf el) xs] ∧ xs.length ≤ maxLen ∧ ∀ x ∈ xs, Ty Tryz.prog n el x := by
 rw [Ty, e] at h; exact h
theorem ty_int {n t : Nat} {k : IntKind} {ds : List DV} (e : Tryz.prog.underlying t = some (.int k)) (h : Ty Tryz.prog (n + 1) t ds) : ∃ m, ds = [.int k m] ∧ (Lit.int k m).wf = true := by
 rw [Ty, e] at h; exact h
theorem ty_str {n t : Nat} {ds : List DV} (e : Tryz.prog.underlying t = some .string) (h : Ty Tryz.prog (n + 1) t ds) : ∃ s, ds = [.str s] ∧ s.size ≤ maxLen := by
 rw [Ty, e] at h; exact h
theorem c65 : Tryz.prog.cellsOf 65 = 2 := by kernel_rfl
theorem c57 : Tryz.prog.cellsOf 57 = 3 := by kernel_rfl
theorem ty_i {n : Nat} {ds : List DV} (h : Ty Tryz.prog (n + 1) 3 ds) : ∃ m : Int, ds = [I6 m] := by
 have h := ty_int Tryz.underlying3 h
 obtain ⟨m, rfl, _⟩ := h
 exact ⟨m, rfl⟩
theorem ty65 {n : Nat} {ds : List DV} (h : Ty Tryz.prog (n + 2) 65 ds) : ∃ d : Draw, ds = enD d := by
 have h := ty_struct Tryz.underlying65 h
 obtain ⟨a, b, rfl, h1, a2, b2, rfl, h2, rfl⟩ := h
 obtain ⟨m1, rfl⟩ := ty_i h1
 obtain ⟨m2, rfl⟩ := ty_i h2
 exact ⟨⟨m1, m2⟩, rfl⟩
theorem ty41 {n : Nat} {ds : List DV} (h : Ty Tryz.prog (n + 3) 41 ds) : ∃ l : Sl Draw, ds = [enL 2 enD l] ∧ l.els.length ≤ 9223372036854775807 := by
 have h := ty_slice Tryz.underlying41 h
 rcases h with rfl | ⟨xs, rfl, h1, h2⟩
 ·exact ⟨none, rfl, by decide⟩
 ·obtain ⟨l, rfl, _⟩ := rows_of (f := enD) (q := fun _ => True) fun x hx => by obtain ⟨d, rfl⟩ := ty65 (h2 x hx); exact ⟨d, rfl, trivial⟩
  rw [List.length_map] at h1
  exact ⟨some l, by rw [c65, enL_some], Nat.le_trans h1 (by decide)⟩
theorem ty57 {n : Nat} {ds : List DV} (h : Ty Tryz.prog (n + 4) 57 ds) : ∃ g : Seg, ds = enS g ∧ segOk g := by
 have h := ty_struct Tryz.underlying57 h
 obtain ⟨a, b, rfl, h1, a2, b2, rfl, h2, a3, b3, rfl, h3, rfl⟩ := h
 obtain ⟨m1, rfl⟩ := ty_i h1
 obtain ⟨m2, rfl⟩ := ty_i h2
 obtain ⟨l, rfl, hl⟩ := ty41 h3
 exact ⟨⟨m1, m2, l⟩, rfl, hl⟩
theorem ty29 {n : Nat} {ds : List DV} (h : Ty Tryz.prog (n + 5) 29 ds) : ∃ l : Sl Seg, ds = [enL 3 enS l] ∧ l.els.length ≤ 9223372036854775807 ∧ ∀ g ∈ l.els, segOk g := by
 have h := ty_slice Tryz.underlying29 h
 rcases h with rfl | ⟨xs, rfl, h1, h2⟩
 ·exact ⟨none, rfl, by decide, fun g h => by cases h⟩
 ·obtain ⟨l, rfl, h3⟩ := rows_of (f := enS) (q := segOk) fun x hx => ty57 (h2 x hx)
  rw [List.length_map] at h1
  exact ⟨some l, by rw [c57, enL_some], Nat.le_trans h1 (by decide), h3⟩
theorem ty28 {n : Nat} {ds : List DV} (h : Ty Tryz.prog (n + 2) 28 ds) : ∃ a b : Int, ds = [I6 a, I6 b] := by
 have h := ty_struct Tryz.underlying28 h
 obtain ⟨a, b, rfl, h1, a2, b2, rfl, h2, rfl⟩ := h
 obtain ⟨m1, rfl⟩ := ty_i h1
 obtain ⟨m2, rfl⟩ := ty_i h2
 exact ⟨m1, m2, rfl⟩
theorem ty9 {n : Nat} {ds : List DV} (h : Ty Tryz.prog (n + 1) 9 ds) : ∃ s : ByteArray, ds = [St s] := by
 have h := ty_str Tryz.underlying9 h
 obtain ⟨s, rfl, _⟩ := h
 exact ⟨s, rfl⟩
theorem ty31 {ds : List DV} (h : Ty Tryz.prog 6 31 ds) : ∃ s : Stop, ds = enStop s ∧ s.ok := by
 have h := ty_struct Tryz.underlying31 h
 obtain ⟨a, b, rfl, h1, a2, b2, rfl, h2, a3, b3, rfl, h3, rfl⟩ := h
 obtain ⟨s, rfl⟩ := ty9 h1
 obtain ⟨m1, m2, rfl⟩ := ty28 h2
 obtain ⟨l, rfl, h4, h5⟩ := ty29 h3
 exact ⟨⟨s, m1, m2, l⟩, rfl, ⟨h4, h5⟩⟩
theorem rr31 : Tryz.prog.readableRec 31 = true := by kernel_rfl
theorem lt31 : 31 < Tryz.prog.types.size := of_decide_eq_true (by kernel_rfl)
theorem dt31 : dataT Tryz.prog 6 31 = true := by kernel_rfl
end Law
end Go.Proofs.YtbecpkicohiijaaGreatDoor
end
section
namespace Go.Proofs.YtbecpkicohiijaaGreatDoor
open Go Go.CE Go.PE Go.ChangeShapes Go.WideShapes Go.ChangeAt Go.RowKit Go.Proofs.Tryz.Kn Go.Joins
namespace Pipes
open Law
theorem rr3 : Tryz.prog.readableRec 3 = true := by kernel_rfl
theorem lt3 : 3 < Tryz.prog.types.size := of_decide_eq_true (by kernel_rfl)
theorem dt3 : dataT Tryz.prog 1 3 = true := by kernel_rfl
set_option maxRecDepth 100000 in
theorem lifted (os : Os) (started : os.Started) (H : Type) (enc : TypeId × Value → H) :
  ReturnsInHanded {} Tryz.checked os 3 .any (fun w args => (Rows.stopPipesSpec.pre enc Tryz.prog Tryz.f3 [] false w args ∧ laidMetH Tryz.prog laid3 w) ∧ sizedMet enc Tryz.prog Tryz.f3 (OpenSpec.ofChange Rows.stopPipesSpec) false w args)
   (Rows.stopPipesSpec.post enc Tryz.prog Tryz.f3 false true false false) := by
 refine returnsInHanded_of_change_and (C := Tryz.checked) (X := fun w _ => laidMetH Tryz.prog laid3 w) (fun _ _ _ hh h => h.of_heap hh) own started (by kernel_rfl) Tryz.func3
  (ChangeSpec.witness_shaped (enc := enc) (C := Tryz.checked) (os := os) (X := fun w _ => laidMetH Tryz.prog laid3 w) false (World.doorLaid Tryz.prog 400 os) #[.agg (intsV k26 (fun _ => 0) 0).toArray, .agg #[.string ⟨#[]⟩, .int .i64 0, .int .i64 0, .slice none 0 0], .int .i64 0] 8 rfl (World.shaped_of_RefB (by kernel_rfl) (by kernel_rfl)) (by kernel_rfl) (by kernel_rfl) (by kernel_rfl) (door_met os _)) ?_
 intro W base args ds gs before hval0 hW _ _ hL _
 have hval : ∀ (j : Nat) t v, Tryz.f3.params[j]? = some t → args[j]? = some v → Value.okWide Tryz.prog W .any base t v := hval0
 have hW' := hW
 obtain ⟨p, q, hA0, hV, rfl, hfz, hnd⟩ := hW
 have hA : DataW.TrodAll enc Tryz.prog W 0 (fun _ => true) true Tryz.f3.params.toList args.toList ds p := hA0
 rw [Tryz.params3] at hA hval
 obtain ⟨v0, v1, v2, d0, d1, d2, p0, p1, p2, rfl, rfl, rfl, h0, h1, h2⟩ := trodAll_three hA
 obtain ⟨rfl, rfl⟩ := trodVars_none hV
 obtain ⟨y, hy, f0, g0, rfl⟩ := open26 (hval 0 26 v0 rfl rfl)
 obtain ⟨vs, es, rfl, r1, w1, hty⟩ := PE.open_row 6 (by kernel_rfl) dt31 (hval 1 31 v1 rfl rfl) h1
 obtain ⟨s, rfl, hs⟩ := ty31 hty
 obtain ⟨c2, x2, rfl, r2, w2, hty2⟩ := PE.open_one 1 (by kernel_rfl) (by kernel_rfl) dt3 (hval 2 3 v2 rfl rfl) h2
 obtain ⟨w, hw⟩ := ty_i hty2
 obtain rfl : x2 = I6 w := (List.cons.inj hw).1
 clear hA0 hval0
 simp only [List.append_nil] at hW'
 have c := calls_of bSums_ok (D_ok 6) (gw_of hL) (g := 3) (vs := [.s (.agg (intsC k26 f0 0)), .s (.agg vs), .s (.one c2)]) (ds := [.s (.agg (intsD k26 f0 0)), .s (.agg (enStop s)), .s (.one (I6 w))])
  ⟨plain_rep _ _ _ _, r1, r2, trivial⟩ (fun x hx => by
   simp only [List.mem_cons, List.not_mem_nil, or_false] at hx
   rcases hx with rfl | rfl | rfl
   ·exact plain_wf _ _ _ _
   ·exact w1
   ·exact w2) (b := true) (by rw [g0]; exact t3 0 y hy s hs w)
 have hlt : ∀ x ∈ p0 ++ (p1 ++ p2), x.block < W.heap.size := fun x hx => hW'.lt x (by simpa using hx)
 refine (c.calls room).mono fun e W' ⟨he, hb⟩ => ⟨_, he, ?_⟩
 refine ⟨[d0, d1, d2], [], p0 ++ (p1 ++ p2), [], p0 ++ (p1 ++ p2), [], by simpa using hW', ?_, ?_, rfl, hb.frame _, fun hh => by cases hh⟩
 ·exact trodAll_mk1 (shut_bool Tryz.underlying4 true)
 ·exact trodAll_mk3 (Below.trod laidOut rr26 lt26 h0 hb fun x hx => hlt x (by simp [hx])) (Below.trod laidOut rr31 lt31 h1 hb fun x hx => hlt x (by simp [hx])) (Below.trod laidOut rr3 lt3 h2 hb fun x hx => hlt x (by simp [hx]))
end Pipes
end Go.Proofs.YtbecpkicohiijaaGreatDoor
end
section
namespace Go.Proofs.YtbecpkicohiijaaGreatDoor
open Go Go.CE Go.PE Go.ChangeShapes Go.WideShapes Go.ChangeAt Go.RowKit Go.Proofs.Tryz.Kn Go.Joins
theorem stopPipes_said : Rows.StopPipesSaid :=
 OpenClaim.holds_of_wide 3 Tryz.f3 rfl rfl rfl rfl rfl rfl rfl ⟨rfl, rfl, rfl, rfl, rfl⟩ rfl rfl rfl rfl rfl (by kernel_rfl) Tryz.func3 (by kernel_rfl)
  (of_decide_eq_true (by kernel_rfl)) (by unfold Func.isWrapper; first | (rw [if_pos (by decide +kernel)]; kernel_rfl) | (rw [if_neg (by decide +kernel)]; exact ⟨rfl, rfl⟩))
  (fun os started H enc _ => Pipes.lifted os started H enc)
theorem stopPipes_holds : Rows.StopPipesCardSaid :=
 Claim7.holds_tied_plain_at .later [] [.data, .data, .data] true (true, "d511158df26ec80f4191fede8192d34690ee7b3f4ec183e9ab09dd7d2709bbb6") false
  stopPipes_said (fun _ h => by cases h) (by kernel_rfl) (fun _ h => by cases h) stopPipes_row_tie rfl ⟨rfl, rfl⟩ (by kernel_rfl) rfl
  (fun f fn hf hfn => by
   obtain rfl : f = 3 := Option.some.inj ((show Tryz.prog.funcNamed "bombarde/bombardelaw15.StopPipes" = some 3 by kernel_rfl).symm.trans hf) |>.symm
   obtain rfl : fn = Tryz.f3 := (Option.some.inj (Tryz.func3.symm.trans hfn)).symm
   exact ⟨by kernel_rfl, fun j t ht => by
    rw [Tryz.params3] at ht
    have hm : t ∈ [26, 31, 3] := by simpa using Array.mem_of_getElem? ht
    have hall : ([26, 31, 3].all fun u => !Tryz.prog.wantsStandIn u) = true := by kernel_rfl
    exact (show Tryz.prog.wantsStandIn t = false by simpa using List.all_eq_true.1 hall t hm)⟩)
  (by kernel_rfl)
#print axioms stopPipes_holds
end Go.Proofs.YtbecpkicohiijaaGreatDoor
end
