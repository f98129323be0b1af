/-
  Lists that are built by append. No condition.
-/
import Derived.Test.YtpoejpijhnankaaGreatCEz
namespace Go.CE

theorem takeN_full : ∀ l : List CVal, takeN l.length l = some l
  | [] => rfl
  | c :: l => by simp only [List.length_cons, takeN, takeN_full l, consO]
theorem cut_full (l : List CVal) : cut l.length l 0 = some l := by
  cases l with
  | nil => rfl
  | cons c l => simp only [cut]; exact takeN_full (c :: l)
theorem takeN_app : ∀ (l r : List CVal), takeN l.length (l ++ r) = some l
  | [], _ => rfl
  | c :: l, r => by simp only [List.length_cons, List.cons_append, takeN, takeN_app l r, consO]
/-- A part in the middle. -/
theorem cut_mid (p l r : List CVal) : cut l.length (p ++ l ++ r) p.length = some l := by
  induction p with
  | nil =>
    simp only [List.nil_append, List.length_nil]
    cases l with
    | nil => cases r <;> rfl
    | cons c l => simp only [List.cons_append, cut]; exact takeN_app (c :: l) r
  | cons c p ih => simp only [List.cons_append, List.length_cons, cut]; exact ih

/-- A slice that is being built: n elements, their cells ws, its block. -/
def Acc (st : Nat) (h : AHeap) (u : CVal) (ws : List CVal) (n : Nat) (ob : Option BN) : Prop :=
  ws.length = n * st ∧ ((u = .nils ∧ n = 0 ∧ ob = none) ∨ ∃ b, u = .slc b 0 n 0 false ∧ h.t.get b = some (.cells ws st) ∧ ob = some b)

theorem Acc.nil (st : Nat) (h : AHeap) : Acc st h .nils [] 0 none := ⟨by simp, .inl ⟨rfl, rfl, rfl⟩⟩
theorem Acc.mono {st : Nat} {h h' : AHeap} {u : CVal} {ws : List CVal} {n : Nat} {ob : Option BN} (A : Acc st h u ws n ob) (H : ∀ b, ob = some b → h'.t.get b = h.t.get b) : Acc st h' u ws n ob := by
  obtain ⟨h1, h2 | ⟨b, h2, h3, h4⟩⟩ := A
  · exact ⟨h1, .inl h2⟩
  · exact ⟨h1, .inr ⟨b, h2, (H b h4).trans h3, h4⟩⟩
theorem Acc.lt {st : Nat} {h : AHeap} {u : CVal} {ws : List CVal} {n : Nat} {b : BN} (A : Acc st h u ws n (some b)) (hw : HW h) : b.toNat < h.n.toNat := by
  obtain ⟨_, ⟨_, _, h2⟩ | ⟨b', _, h3, h4⟩⟩ := A
  · cases h2
  · cases h4; exact hw _ _ h3

theorem Ev.append {β : Type} {h : AHeap} {st bytes : Nat} {u : CVal} {ws new : List CVal} {n m : Nat} {ob : Option BN} {bs : BN} {cs : List CVal} {st' off cap : Nat} {ex : Bool} {k : Nat → AVal → AHeap → Option β} {Q : β → Prop}
    (hw : HW h) (hA : Acc st h u ws n ob) (hs : h.t.get bs = Option.some (.cells cs st')) (hc : cut (m * st) cs off = Option.some new) (hm : 0 < m) (hf : fits bytes (n + m) = true)
    (H : ∀ b' h', b'.toNat = h.n.toNat → h'.n.toNat = h.n.toNat + 1 → HW h' → Acc st h' (.slc b' 0 (n + m) 0 false) (ws ++ new) (n + m) (Option.some b') →
      (∀ c : BN, c.toNat < h.n.toNat → ob ≠ Option.some c → h'.t.get c = h.t.get c) → Ev (fun q => k q (.s (.one (.slc b' 0 (n + m) 0 false))) h') Q) :
    Ev (fun q => CE.bindR (vAppend false st bytes (.s (.one u)) (.s (.one (.slc bs off m cap ex))) h) (k q)) Q := by
  have hnl : new.length = m * st := (cut_get hc).1
  have hm0 : Nat.beq m 0 = false := by cases m with | zero => omega | succ m => rfl
  obtain ⟨hlen, ⟨rfl, rfl, rfl⟩ | ⟨bq, rfl, hq, rfl⟩⟩ := hA
  · have hws : ws = [] := List.length_eq_zero_iff.1 (by omega)
    subst hws
    have e : vAppend false st bytes (.s (.one .nils)) (.s (.one (.slc bs off m cap ex))) h = newB h (.cells ([] ++ new) st) (fun b => .slc b 0 m 0 false) := by
      rw [Nat.zero_add] at hf
      simp only [vAppend, opAppend, constF, srcOf, cond_false, hs, Nat.mul_eq, hc, hm0, hf, cond_true, grown]
    rw [e]
    refine Ev.new hw fun b' h' e1 e2 e3 hw' G => ?_
    have := H b' h' e1 e2 hw' ⟨by simp only [List.nil_append]; rw [hnl, Nat.zero_add], .inr ⟨b', rfl, e3, rfl⟩⟩ (fun c hc _ => G.old c hc)
    rw [Nat.zero_add] at this
    exact this
  · have hcut : cut (n * st) ws 0 = Option.some ws := by rw [← hlen]; exact cut_full ws
    have hbb : (Nat.beq st st && Nat.beq 0 (0 * st)) = true := by rw [Nat.zero_mul, Nat.beq_refl]; rfl
    have e : vAppend false st bytes (.s (.one (.slc bq 0 n 0 false))) (.s (.one (.slc bs off m cap ex))) h = newB (h.put bq .dead) (.cells (ws ++ new) st) (fun b => .slc b 0 (n + m) 0 false) := by
      simp only [vAppend, opAppend, constF, srcOf, cond_false, hs, Nat.mul_eq, Nat.add_eq, hc, hm0, hf, cond_true, appendAt, hq, hcut, hbb, grown]
    rw [e]
    refine Ev.new (hw.put hq) fun b' h' e1 e2 e3 hw' G => ?_
    refine H b' h' e1 e2 hw' ⟨by rw [List.length_append, hlen, hnl, Nat.add_mul], .inr ⟨b', rfl, e3, rfl⟩⟩ (fun c hc hne => ?_)
    rw [G.old c hc, put_other]
    exact fun hh => hne (by rw [hh])

/-- A slice of one element, to be appended. -/
theorem kBs1 (z c : CVal) (h : AHeap) : vBslice 1 1 [z] [(0, 1, .s (.one c))] h = newB h (.cells [c] 1) (fun b => .slc b 0 1 1 true) := (id rfl)
end Go.CE
