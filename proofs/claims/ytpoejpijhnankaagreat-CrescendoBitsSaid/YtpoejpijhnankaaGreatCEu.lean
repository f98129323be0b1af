/-
  The concrete evaluator: calls whose answer is known for one shape of memory (a call that only reads). No condition.
-/
import Derived.Test.YtpoejpijhnankaaGreatCEq
namespace Go.CE
open Go.RowKit
noncomputable section

/-! ### Matching a shape -/

structure Mt where
  ρ : Tr BN
  inv : Tr BN
  work : List (BN × BN)

def mB (b b' : BN) (m : Mt) : Option Mt :=
  match m with
  | ⟨ρ, inv, work⟩ =>
    match ρ.get b with
    | some b'' => bif eqBN b'' b' then some ⟨ρ, inv, work⟩ else none
    | none =>
      match inv.get b' with
      | some _ => none
      | none => some ⟨ρ.set b b', inv.set b' b, (b, b') :: work⟩

def plainC : CVal → Bool
  | .bool _ | .int _ _ | .str _ | .nilp | .nils | .nilm | .nilf | .nili => true
  | _ => false

def mC (m : Mt) (c c' : CVal) : Option Mt :=
  match c with
  | .ptr b o =>
    match c' with
    | .ptr b' o' => bif Nat.beq o o' then mB b b' m else none
    | _ => none
  | .slc b o l k e =>
    match c' with
    | .slc b' o' l' k' e' => bif Nat.beq o o' && Nat.beq l l' && Nat.beq k k' && eqB e e' then mB b b' m else none
    | _ => none
  | c => bif plainC c && eqV c c' then some m else none

def mCs : List CVal → List CVal → Mt → Option Mt
  | [], [], m => some m
  | c :: cs, c' :: cs', m =>
    match mC m c c' with
    | some m' => mCs cs cs' m'
    | none => none
  | _, _, _ => none

def mS (m : Mt) : SVal → SVal → Option Mt
  | .one c, .one c' => mC m c c'
  | .agg cs, .agg cs' => mCs cs cs' m
  | _, _ => none

def mA : List AVal → List AVal → Mt → Option Mt
  | [], [], m => some m
  | .s v :: vs, .s v' :: vs', m =>
    match mS m v v' with
    | some m' => mA vs vs' m'
    | none => none
  | _, _, _ => none

def mWork (hc h : AHeap) : Nat → Mt → Option (Tr BN)
  | 0, _ => none
  | f + 1, ⟨ρ, inv, work⟩ =>
    match work with
    | [] => some ρ
    | (b, b') :: ws =>
      match hc.t.get b, h.t.get b' with
      | some (.cells cs st), some (.cells cs' st') =>
        bif Nat.beq st st' then
          match mCs cs cs' ⟨ρ, inv, ws⟩ with
          | some m' => mWork hc h f m'
          | none => none
        else none
      | _, _ => none

/-- A call's answer for one shape of memory. -/
structure Sum where
  g : Nat
  args : List AVal
  objs : List AObj
  res : AVal

def Sum.heap (s : Sum) : AHeap := ⟨bn s.objs.length, Tr.ofList .z s.objs .nil⟩

def allR (ρ : Tr BN) : BN → List AObj → Bool
  | _, [] => true
  | i, _ :: l =>
    match ρ.get i with
    | some _ => allR ρ i.succ l
    | none => false

def Sum.fits (s : Sum) (args : List AVal) (h : AHeap) : Bool :=
  match mA s.args args ⟨.nil, .nil, []⟩ with
  | some m =>
    match mWork s.heap h (Nat.succ s.objs.length) m with
    | some ρ => allR ρ .z s.objs
    | none => false
  | none => false

def plainS : SVal → Bool
  | .one c => plainC c
  | .agg cs => cs.all plainC
def plainA : AVal → Bool
  | .s v => plainS v
  | .tup vs => vs.all plainS

/-- The described memory is as it was. -/
def sameH (h2 : AHeap) : BN → List AObj → Bool
  | _, [] => true
  | i, .cells cs st :: l =>
    match h2.t.get i with
    | some (.cells cs' st') => eqVs cs cs' && Nat.beq st st' && sameH h2 i.succ l
    | _ => false
  | _, _ :: _ => false

def Sum.chk (call : Caller) (s : Sum) : Bool :=
  match call (.inl s.g) s.args s.heap with
  | some (v, h2) => eqA s.res v && plainA s.res && sameH h2 .z s.objs
  | none => false

def findSum (g : Nat) (args : List AVal) (h : AHeap) : List Sum → Option AVal
  | [] => none
  | s :: l => bif Nat.beq g s.g && s.fits args h then some s.res else findSum g args h l

/-- A caller that knows some answers. -/
def withS (sums : List Sum) (call : Caller) : Caller
  | .inl g, args, h =>
    match findSum g args h sums with
    | some v => some (v, h)
    | none => call (.inl g) args h
  | .inr l, args, h => call (.inr l) args h

def evCallS (cc : Nat → Code → CodeFn) (fs : Nat → Option RFunc) (sums : List Sum) (n : Nat) : Caller :=
  Nat.rec (motive := fun _ => Caller) (fun _ _ _ => none) (fun f ih => withS sums (evBoth cc fs ih f)) n

def isTrue : Res → Bool
  | some (.s (.one (.bool b)), _) => b
  | _ => false

end

theorem isTrue_inv {r : Res} (h : isTrue r = true) : ∃ h2, r = some (.s (.one (.bool true)), h2) := by
  unfold isTrue at h
  split at h
  · subst h; exact ⟨_, rfl⟩
  · cases h

/-! ### What a match means -/

def RC (ρ : Tr BN) : CVal → CVal → Prop
  | .ptr b o, c' => ∃ b', c' = .ptr b' o ∧ ρ.get b = some b'
  | .slc b o l k e, c' => ∃ b', c' = .slc b' o l k e ∧ ρ.get b = some b'
  | c, c' => plainC c = true ∧ c' = c

def Sub (ρ ρ' : Tr BN) : Prop := ∀ b b', ρ.get b = some b' → ρ'.get b = some b'

theorem Sub.refl (ρ : Tr BN) : Sub ρ ρ := fun _ _ h => h
theorem Sub.trans {a b c : Tr BN} (h : Sub a b) (k : Sub b c) : Sub a c := fun _ _ hh => k _ _ (h _ _ hh)

theorem RC.mono {ρ ρ' : Tr BN} (hs : Sub ρ ρ') {c c' : CVal} (h : RC ρ c c') : RC ρ' c c' := by
  cases c with
  | ptr b o => obtain ⟨b', h1, h2⟩ := h; exact ⟨b', h1, hs _ _ h2⟩
  | slc b o l k e => obtain ⟨b', h1, h2⟩ := h; exact ⟨b', h1, hs _ _ h2⟩
  | _ => exact h

def RCs (ρ : Tr BN) (cs cs' : List CVal) : Prop := cs'.length = cs.length ∧ ∀ (i : Nat) (c : CVal), cs[i]? = some c → ∃ c', cs'[i]? = some c' ∧ RC ρ c c'

theorem RCs.mono {ρ ρ' : Tr BN} (hs : Sub ρ ρ') {cs cs' : List CVal} (h : RCs ρ cs cs') : RCs ρ' cs cs' :=
  ⟨h.1, fun i c hc => by obtain ⟨c', h1, h2⟩ := h.2 i c hc; exact ⟨c', h1, h2.mono hs⟩⟩

def RS (ρ : Tr BN) : SVal → SVal → Prop
  | .one c, v => ∃ c', v = .one c' ∧ RC ρ c c'
  | .agg cs, v => ∃ cs', v = .agg cs' ∧ RCs ρ cs cs'

theorem RS.mono {ρ ρ' : Tr BN} (hs : Sub ρ ρ') {v v' : SVal} (h : RS ρ v v') : RS ρ' v v' := by
  cases v with
  | one c => obtain ⟨c', h1, h2⟩ := h; exact ⟨c', h1, h2.mono hs⟩
  | agg cs => obtain ⟨cs', h1, h2⟩ := h; exact ⟨cs', h1, h2.mono hs⟩

/-- The state of a match: each pair is waiting or has been matched; one way and the other. -/
structure MI (D : BN → BN → Prop) (hc h : AHeap) (m : Mt) : Prop where
  inv : ∀ b b', m.ρ.get b = some b' → m.inv.get b' = some b
  pairs : ∀ b b', m.ρ.get b = some b' → (b, b') ∈ m.work ∨ D b b' ∨ ∃ cs cs' st, hc.t.get b = some (.cells cs st) ∧ h.t.get b' = some (.cells cs' st) ∧ RCs m.ρ cs cs'

section
variable {D : BN → BN → Prop} {hc h : AHeap}

theorem mB_ok {m m' : Mt} {b b' : BN} (I : MI D hc h m) (e : mB b b' m = some m') : MI D hc h m' ∧ Sub m.ρ m'.ρ ∧ m'.ρ.get b = some b' := by
  obtain ⟨ρ, inv, work⟩ := m
  unfold mB at e
  simp only at e
  split at e
  · rename_i b'' hb
    cases hq : eqBN b'' b' with
    | false => rw [hq] at e; cases e
    | true =>
      rw [hq] at e
      cases e
      rw [eqBN_eq hq] at hb
      exact ⟨I, Sub.refl _, hb⟩
  · rename_i hb
    split at e
    · cases e
    · rename_i hi
      cases e
      have hsub : Sub ρ (ρ.set b b') := by
        intro x y hx
        have : x ≠ b := fun hh => by subst hh; rw [hb] at hx; cases hx
        rw [get_set_other _ _ _ _ this]
        exact hx
      refine ⟨⟨fun x y hx => ?_, fun x y hx => ?_⟩, hsub, get_set_same _ _ _⟩
      · show (inv.set b' b).get y = some x
        by_cases hxb : x = b
        · subst hxb
          have : y = b' := by
            have hx : (ρ.set x b').get x = some y := hx
            rw [get_set_same] at hx
            exact (Option.some.inj hx).symm
          subst this
          exact get_set_same _ _ _
        · have hx : (ρ.set b b').get x = some y := hx
          rw [get_set_other _ _ _ _ hxb] at hx
          have h1 := I.inv x y hx
          have : y ≠ b' := fun hh => by subst hh; rw [hi] at h1; cases h1
          rw [get_set_other _ _ _ _ this]
          exact h1
      · by_cases hxb : x = b
        · subst hxb
          have : y = b' := by
            have hx : (ρ.set x b').get x = some y := hx
            rw [get_set_same] at hx
            exact (Option.some.inj hx).symm
          subst this
          exact .inl (List.mem_cons_self ..)
        · have hx : (ρ.set b b').get x = some y := hx
          rw [get_set_other _ _ _ _ hxb] at hx
          rcases I.pairs x y hx with h1 | h1 | ⟨cs, cs', st, h1, h2, h3⟩
          · exact .inl (List.mem_cons_of_mem _ h1)
          · exact .inr (.inl h1)
          · exact .inr (.inr ⟨cs, cs', st, h1, h2, h3.mono hsub⟩)

theorem mC_ok {m m' : Mt} {c c' : CVal} (I : MI D hc h m) (e : mC m c c' = some m') : MI D hc h m' ∧ Sub m.ρ m'.ρ ∧ RC m'.ρ c c' := by
  have rest : (bif plainC c && eqV c c' then some m else none) = some m' → (plainC c = true → RC m'.ρ c c' ∨ True) → MI D hc h m' ∧ Sub m.ρ m'.ρ ∧ plainC c = true ∧ c' = c := by
    intro e _
    cases hq : (plainC c && eqV c c') with
    | false => rw [hq] at e; cases e
    | true =>
      rw [hq] at e
      cases e
      obtain ⟨h1, h2⟩ := and2 hq
      exact ⟨I, Sub.refl _, h1, (eqV_eq h2).symm⟩
  cases c with
  | ptr b o =>
    cases c' with
    | ptr b' o' =>
      simp only [mC] at e
      cases hq : Nat.beq o o' with
      | false => rw [hq] at e; cases e
      | true =>
        rw [hq] at e
        obtain ⟨h1, h2, h3⟩ := mB_ok I e
        exact ⟨h1, h2, b', by rw [beq_true hq], h3⟩
    | _ => cases e
  | slc b o l k x =>
    cases c' with
    | slc b' o' l' k' x' =>
      simp only [mC] at e
      cases hq : (Nat.beq o o' && Nat.beq l l' && Nat.beq k k' && eqB x x') with
      | false => rw [hq] at e; cases e
      | true =>
        rw [hq] at e
        obtain ⟨h1, h2, h3⟩ := mB_ok I e
        obtain ⟨q1, q2⟩ := and2 hq
        obtain ⟨q1, q3⟩ := and2 q1
        obtain ⟨q1, q4⟩ := and2 q1
        exact ⟨h1, h2, b', by rw [beq_true q1, beq_true q4, beq_true q3, eqB_eq q2], h3⟩
    | _ => cases e
  | _ => exact rest e (fun _ => .inr trivial)

theorem mCs_ok : ∀ (cs cs' : List CVal) (m m' : Mt), MI D hc h m → mCs cs cs' m = some m' → MI D hc h m' ∧ Sub m.ρ m'.ρ ∧ RCs m'.ρ cs cs'
  | [], [], m, m', I, e => by cases e; exact ⟨I, Sub.refl _, rfl, fun i c hc => by simp at hc⟩
  | c :: cs, c' :: cs', m, m', I, e => by
    unfold mCs at e
    split at e
    · rename_i m1 h1
      obtain ⟨I1, s1, r1⟩ := mC_ok I h1
      obtain ⟨I2, s2, r2⟩ := mCs_ok cs cs' m1 m' I1 e
      refine ⟨I2, s1.trans s2, by simp [r2.1], fun i x hx => ?_⟩
      cases i with
      | zero =>
        simp only [List.getElem?_cons_zero, Option.some.injEq] at hx
        subst hx
        exact ⟨c', rfl, r1.mono s2⟩
      | succ i =>
        simp only [List.getElem?_cons_succ] at hx ⊢
        exact r2.2 i x hx
    · cases e
  | [], _ :: _, m, m', I, e => by cases e
  | _ :: _, [], m, m', I, e => by cases e

theorem mS_ok {m m' : Mt} {v v' : SVal} (I : MI D hc h m) (e : mS m v v' = some m') : MI D hc h m' ∧ Sub m.ρ m'.ρ ∧ RS m'.ρ v v' := by
  cases v with
  | one c =>
    cases v' with
    | one c' => obtain ⟨h1, h2, h3⟩ := mC_ok I e; exact ⟨h1, h2, c', rfl, h3⟩
    | agg cs' => cases e
  | agg cs =>
    cases v' with
    | one c' => cases e
    | agg cs' => obtain ⟨h1, h2, h3⟩ := mCs_ok _ _ _ _ I e; exact ⟨h1, h2, cs', rfl, h3⟩

def RAs (ρ : Tr BN) : List AVal → List AVal → Prop
  | [], [] => True
  | .s v :: vs, .s v' :: vs' => RS ρ v v' ∧ RAs ρ vs vs'
  | _, _ => False

theorem RAs.mono {ρ ρ' : Tr BN} (hs : Sub ρ ρ') : ∀ {vs vs' : List AVal}, RAs ρ vs vs' → RAs ρ' vs vs'
  | [], [], _ => trivial
  | .s _ :: _, .s _ :: _, h => ⟨h.1.mono hs, RAs.mono hs h.2⟩
  | [], _ :: _, h => h.elim
  | .tup _ :: _, _, h => by cases h
  | .s _ :: _, [], h => by cases h
  | .s _ :: _, .tup _ :: _, h => by cases h

theorem mA_ok : ∀ (vs vs' : List AVal) (m m' : Mt), MI D hc h m → mA vs vs' m = some m' → MI D hc h m' ∧ Sub m.ρ m'.ρ ∧ RAs m'.ρ vs vs'
  | [], [], m, m', I, e => by cases e; exact ⟨I, Sub.refl _, trivial⟩
  | .s v :: vs, .s v' :: vs', m, m', I, e => by
    unfold mA at e
    split at e
    · rename_i m1 h1
      obtain ⟨I1, s1, r1⟩ := mS_ok I h1
      obtain ⟨I2, s2, r2⟩ := mA_ok vs vs' m1 m' I1 e
      exact ⟨I2, s1.trans s2, r1.mono s2, r2⟩
    · cases e
  | [], _ :: _, m, m', I, e => by cases e
  | .tup _ :: _, _, m, m', I, e => by unfold mA at e; cases e
  | .s _ :: _, [], m, m', I, e => by cases e
  | .s _ :: _, .tup _ :: _, m, m', I, e => by cases e

theorem mWork_ok : ∀ (f : Nat) (m : Mt) (ρ : Tr BN), MI (fun _ _ => False) hc h m → mWork hc h f m = some ρ → ∃ inv, MI (fun _ _ => False) hc h ⟨ρ, inv, []⟩ ∧ Sub m.ρ ρ
  | 0, m, ρ, I, e => by cases e
  | f + 1, ⟨ρ0, inv, work⟩, ρ, I, e => by
    unfold mWork at e
    cases work with
    | nil => cases e; exact ⟨inv, I, Sub.refl _⟩
    | cons p ws =>
      obtain ⟨b, b'⟩ := p
      simp only at e
      split at e
      · rename_i cs st cs' st' h1 h2
        cases hq : Nat.beq st st' with
        | false => rw [hq] at e; cases e
        | true =>
          rw [hq] at e
          simp only [cond_true] at e
          have hst := beq_true hq
          subst hst
          cases hm : mCs cs cs' ⟨ρ0, inv, ws⟩ with
          | none => rw [hm] at e; cases e
          | some m1 =>
            rw [hm] at e
            have I0 : MI (fun x y => x = b ∧ y = b') hc h ⟨ρ0, inv, ws⟩ := by
              refine ⟨I.inv, fun x y hx => ?_⟩
              rcases I.pairs x y hx with k | k | k
              · cases k with
                | head => exact .inr (.inl ⟨rfl, rfl⟩)
                | tail _ hm => exact .inl hm
              · exact k.elim
              · exact .inr (.inr k)
            obtain ⟨I1, s1, r1⟩ := mCs_ok cs cs' _ m1 I0 hm
            have I2 : MI (fun _ _ => False) hc h m1 := by
              refine ⟨I1.inv, fun x y hx => ?_⟩
              rcases I1.pairs x y hx with k | ⟨rfl, rfl⟩ | k
              · exact .inl k
              · exact .inr (.inr ⟨cs, cs', st, h1, h2, r1⟩)
              · exact .inr (.inr k)
            obtain ⟨inv', k1, k2⟩ := mWork_ok f m1 ρ I2 e
            exact ⟨inv', k1, s1.trans k2⟩
      · cases e

/-- A shape that fits. -/
theorem fits_ok {s : Sum} {args : List AVal} (e : s.fits args h = true) : ∃ ρ : Tr BN, RAs ρ s.args args ∧ (∀ b c b', ρ.get b = some b' → ρ.get c = some b' → b = c) ∧
    (∀ b b', ρ.get b = some b' → ∃ cs cs' st, s.heap.t.get b = some (.cells cs st) ∧ h.t.get b' = some (.cells cs' st) ∧ RCs ρ cs cs') ∧ allR ρ .z s.objs = true := by
  unfold Sum.fits at e
  split at e
  · rename_i m hm
    split at e
    · rename_i ρ hρ
      have I0 : MI (fun _ _ => False) s.heap h ⟨.nil, .nil, []⟩ := ⟨(fun b b' hb => by cases b <;> cases hb), (fun b b' hb => by cases b <;> cases hb)⟩
      obtain ⟨I1, s1, r1⟩ := mA_ok _ _ _ _ I0 hm
      obtain ⟨inv, I2, s2⟩ := mWork_ok _ _ _ I1 hρ
      refine ⟨ρ, r1.mono s2, fun b c b' hb hc => ?_, fun b b' hb => ?_, e⟩
      · have h1 := I2.inv b b' hb
        have h2 := I2.inv c b' hc
        exact Option.some.inj (h1.symm.trans h2)
      · rcases I2.pairs b b' hb with k | k | k
        · cases k
        · exact k.elim
        · exact k
    · cases e
  · cases e
end

/-! ### A shape that fits describes the world -/

section
variable {P : Program} {w0 : World} {S : Nat → Prop} {φ : Phi} {h : AHeap} {w : World}

noncomputable def via (ρ : Tr BN) (φ : Phi) : Phi := fun b => match ρ.get b with | some b' => φ b' | none => ⟨0, 0, 0⟩

theorem via_eq {ρ : Tr BN} {b b' : BN} (hb : ρ.get b = some b') : via ρ φ b = φ b' := by unfold via; rw [hb]

theorem RC_conc {ρ : Tr BN} {c c' : CVal} (hr : RC ρ c c') : concC φ c' = concC (via ρ φ) c := by
  cases c with
  | ptr b o => obtain ⟨b', rfl, hb⟩ := hr; simp only [concC, adr, via_eq hb]
  | slc b o l k e => obtain ⟨b', rfl, hb⟩ := hr; simp only [concC, adr, via_eq hb]
  | _ => obtain ⟨hp, rfl⟩ := hr; first | rfl | cases hp

theorem RC_wf {ρ : Tr BN} {n m : Nat} (hlt : ∀ b b', ρ.get b = some b' → b.toNat < m) {c c' : CVal} (hr : RC ρ c c') (hw : wfC φ n c') : wfC (via ρ φ) m c := by
  cases c with
  | ptr b o => obtain ⟨b', rfl, hb⟩ := hr; exact hlt _ _ hb
  | slc b o l k e =>
    obtain ⟨b', rfl, hb⟩ := hr
    exact ⟨hlt _ _ hb, by rw [via_eq hb]; exact hw.2.1, hw.2.2⟩
  | _ => obtain ⟨hp, rfl⟩ := hr; first | trivial | cases hp

theorem RCs_conc {ρ : Tr BN} {cs cs' : List CVal} (hr : RCs ρ cs cs') : cs'.map (concC φ) = cs.map (concC (via ρ φ)) := by
  apply List.ext_getElem?
  intro i
  rw [List.getElem?_map, List.getElem?_map]
  cases hc : cs[i]? with
  | none =>
    have : cs'[i]? = none := by
      have := hr.1
      rw [List.getElem?_eq_none_iff] at hc ⊢
      omega
    rw [this]; rfl
  | some c =>
    obtain ⟨c', h1, h2⟩ := hr.2 i c hc
    rw [h1]
    simp only [Option.map_some, RC_conc h2]

theorem RS_conc {ρ : Tr BN} {v v' : SVal} (hr : RS ρ v v') : concS φ v' = concS (via ρ φ) v := by
  cases v with
  | one c => obtain ⟨c', rfl, h2⟩ := hr; exact RC_conc h2
  | agg cs => obtain ⟨cs', rfl, h2⟩ := hr; simp only [concS, RCs_conc h2]

theorem RS_wf {ρ : Tr BN} {n m : Nat} (hlt : ∀ b b', ρ.get b = some b' → b.toNat < m) {v v' : SVal} (hr : RS ρ v v') (hw : wfS φ n v') : wfS (via ρ φ) m v := by
  cases v with
  | one c => obtain ⟨c', rfl, h2⟩ := hr; exact RC_wf hlt h2 hw
  | agg cs =>
    obtain ⟨cs', rfl, h2⟩ := hr
    intro c hc
    obtain ⟨i, hi⟩ := List.mem_iff_getElem?.1 hc
    obtain ⟨c', h3, h4⟩ := h2.2 i c hi
    exact RC_wf hlt h4 (hw c' (List.mem_of_getElem? h3))

theorem RAs_ok {ρ : Tr BN} {n m : Nat} (hlt : ∀ b b', ρ.get b = some b' → b.toNat < m) : ∀ {vs vs' : List AVal}, RAs ρ vs vs' → (∀ x ∈ vs', wfA φ n x) → vs'.map (concA φ) = vs.map (concA (via ρ φ)) ∧ ∀ x ∈ vs, wfA (via ρ φ) m x
  | [], [], _, _ => ⟨rfl, fun x hx => by cases hx⟩
  | .s v :: vs, .s v' :: vs', hr, hw => by
    obtain ⟨h1, h2⟩ := RAs_ok (n := n) hlt hr.2 fun x hx => hw x (by simp [hx])
    refine ⟨?_, fun x hx => ?_⟩
    · simp only [List.map_cons, h1, concA, RS_conc hr.1]
    · cases hx with
      | head => exact RS_wf hlt hr.1 (hw (.s v') (by simp))
      | tail _ hm => exact h2 x hm
  | [], _ :: _, hr, _ => hr.elim
  | .tup _ :: _, _, hr, _ => by cases hr
  | .s _ :: _, [], hr, _ => by cases hr
  | .s _ :: _, .tup _ :: _, hr, _ => by cases hr

theorem allR_spec {ρ : Tr BN} : ∀ (l : List AObj) (i j : Nat) (o : AObj), allR ρ (bn i) l = true → l[j]? = some o → ∃ b', ρ.get (bn (i + j)) = some b'
  | [], i, j, o, e, hj => by simp at hj
  | x :: l, i, j, o, e, hj => by
    unfold allR at e
    split at e
    · rename_i b' hb
      cases j with
      | zero => exact ⟨b', hb⟩
      | succ j =>
        rw [bn_succ] at e
        obtain ⟨b'', hb''⟩ := allR_spec l (i + 1) j o e (by simpa using hj)
        exact ⟨b'', by rwa [show i + (j + 1) = i + 1 + j by omega]⟩
    · cases e

theorem heap_get (s : Sum) (b : BN) : s.heap.t.get b = s.objs[b.toNat]? := by
  have e0 : BN.z = bn 0 := rfl
  show (Tr.ofList .z s.objs .nil).get b = _
  have := ofList_get s.objs 0 (.nil : Tr AObj) b.toNat
  rw [bn_of_toNat, ← e0] at this
  rw [this]
  have hn : (Tr.nil : Tr AObj).get b = none := by cases b <;> rfl
  rw [hn]
  simp

theorem sameH_spec {h2 : AHeap} : ∀ (l : List AObj) (i j : Nat) (o : AObj), sameH h2 (bn i) l = true → l[j]? = some o → ∃ cs st, o = .cells cs st ∧ h2.t.get (bn (i + j)) = some (.cells cs st)
  | [], i, j, o, e, hj => by simp at hj
  | x :: l, i, j, o, e, hj => by
    cases x with
    | cells cs st =>
      unfold sameH at e
      split at e
      · rename_i cs' st' hb
        obtain ⟨e1, e2⟩ := and2 e
        obtain ⟨e1, e3⟩ := and2 e1
        cases j with
        | zero =>
          simp only [List.getElem?_cons_zero, Option.some.injEq] at hj
          exact ⟨cs, st, hj.symm, by rw [eqVs_eq e1, beq_true e3]; exact hb⟩
        | succ j =>
          rw [bn_succ] at e2
          obtain ⟨cs2, st2, k1, k2⟩ := sameH_spec l (i + 1) j o e2 (by simpa using hj)
          exact ⟨cs2, st2, k1, by rwa [show i + (j + 1) = i + 1 + j by omega]⟩
      · cases e
    | _ => cases e

theorem plainC_conc {φ ψ : Phi} {c : CVal} (hp : plainC c = true) : concC φ c = concC ψ c := by cases c <;> first | rfl | cases hp
theorem plainC_wf {n : Nat} {c : CVal} (hp : plainC c = true) : wfC φ n c := by cases c <;> first | trivial | cases hp
theorem plainS_conc {φ ψ : Phi} {v : SVal} (hp : plainS v = true) : concS φ v = concS ψ v := by
  cases v with
  | one c => exact plainC_conc hp
  | agg cs =>
    simp only [concS]
    congr 2
    exact List.map_congr_left fun c hc => plainC_conc (List.all_eq_true.1 hp c hc)
theorem plainS_wf {n : Nat} {v : SVal} (hp : plainS v = true) : wfS φ n v := by
  cases v with
  | one c => exact plainC_wf hp
  | agg cs => exact fun c hc => plainC_wf (List.all_eq_true.1 hp c hc)
theorem plainA_conc {φ ψ : Phi} {v : AVal} (hp : plainA v = true) : concA φ v = concA ψ v := by
  cases v with
  | s v => exact plainS_conc hp
  | tup vs =>
    simp only [concA]
    congr 2
    exact List.map_congr_left fun c hc => plainS_conc (List.all_eq_true.1 hp c hc)
theorem plainA_wf {n : Nat} {v : AVal} (hp : plainA v = true) : wfA φ n v := by
  cases v with
  | s v => exact plainS_wf hp
  | tup vs => exact fun c hc => plainS_wf (List.all_eq_true.1 hp c hc)

/-- What a summary was made from. -/
def SumOk (P : Program) (s : Sum) : Prop := ∃ call, SoundC P call ∧ s.chk call = true

theorem sum_ok {s : Sum} (hs : SumOk P s) {args : List AVal} (H : HRel w0 S φ h w) (hw : ∀ x ∈ args, wfA φ h.n.toNat x) (hf : s.fits args h = true) :
    (∀ as w, (callFunc s.g as).run P w = .ok (.enter s.g as) w) ∧ CallsIn (FR none) 0 P s.g (args.map (concA φ)).toArray w (Ret w0 S φ h s.res h) := by
  obtain ⟨call, C, hchk⟩ := hs
  obtain ⟨ρ, hargs, hinj, hpair, hall⟩ := fits_ok hf
  unfold Sum.chk at hchk
  split at hchk
  · rename_i v h2 hcall
    obtain ⟨e1, e2⟩ := and2 hchk
    obtain ⟨e1, e3⟩ := and2 e1
    have hv := eqA_eq e1
    subst hv
    have hn : s.heap.n.toNat = s.objs.length := bn_toNat _
    have hlt : ∀ b b', ρ.get b = some b' → b.toNat < s.heap.n.toNat := by
      intro b b' hb
      obtain ⟨cs, cs', st, h1, _⟩ := hpair b b' hb
      rw [heap_get] at h1
      rw [hn]
      exact (List.getElem?_eq_some_iff.1 h1).1
    have hin : ∀ b o, s.heap.t.get b = some o → ∃ b' cs cs' st, ρ.get b = some b' ∧ o = .cells cs st ∧ h.t.get b' = some (.cells cs' st) ∧ RCs ρ cs cs' := by
      intro b o hb
      have hb' := hb
      rw [heap_get] at hb'
      obtain ⟨b', hρ⟩ := allR_spec s.objs 0 b.toNat o hall hb'
      rw [Nat.zero_add, bn_of_toNat] at hρ
      obtain ⟨cs, cs', st, h1, h3, h4⟩ := hpair b b' hρ
      rw [hb] at h1
      exact ⟨b', cs, cs', st, hρ, Option.some.inj h1, h3, h4⟩
    obtain ⟨hconc, hwf⟩ := RAs_ok (φ := φ) (n := h.n.toNat) (m := s.heap.n.toNat) hlt hargs hw
    -- the shape describes the world
    have HC : HRel w (fun k => ∃ b b', ρ.get b = some b' ∧ k = (φ b').blk) (via ρ φ) s.heap w := by
      refine ⟨fun b o hb => ?_, fun b o hb => ?_, fun b c o o' hb hc _ _ hh => ?_, fun b o hb _ => ?_, rfl, rfl, rfl, Nat.le_refl _, fun _ _ _ => rfl⟩
      · rw [heap_get] at hb
        rw [hn]
        exact (List.getElem?_eq_some_iff.1 hb).1
      · obtain ⟨b', cs, cs', st, hρ, rfl, hb', hr⟩ := hin b o hb
        obtain ⟨arr, e, g1, g2, g3, g4⟩ := H.obj b' _ hb'
        refine ⟨arr, e, by rw [via_eq hρ]; exact g1, fun i c hc => ?_, by rw [via_eq hρ]; exact g3, fun c hc => ?_⟩
        · obtain ⟨c', k1, k2⟩ := hr.2 i c hc
          rw [via_eq hρ, ← RC_conc k2]
          exact g2 i c' k1
        · obtain ⟨i, hi⟩ := List.mem_iff_getElem?.1 hc
          obtain ⟨c', k1, k2⟩ := hr.2 i c hi
          exact RC_wf hlt k2 (g4 c' (List.mem_of_getElem? k1))
      · obtain ⟨b', cs, cs', st, hρ, rfl, hb', _⟩ := hin b o hb
        obtain ⟨c', ds, ds', st2, hρc, rfl, hc', _⟩ := hin c o' hc
        rw [via_eq hρ, via_eq hρc] at hh
        have := H.inj b' c' _ _ hb' hc' trivial trivial hh
        subst this
        exact hinj b c b' hρ hρc
      · obtain ⟨b', cs, cs', st, hρ, rfl, hb', _⟩ := hin b o hb
        exact .inl ⟨b, b', hρ, by rw [via_eq hρ]⟩
    obtain ⟨hcf, hcl⟩ := (C w _ _ _ w _ _ h2 HC hwf).1 s.g hcall
    refine ⟨hcf, ?_⟩
    rw [hconc]
    refine hcl.mono ?_
    rintro e9 w9 ⟨φ2, rfl, he, H2, _, hle⟩
    refine ⟨φ, by rw [plainA_conc (ψ := φ) e3], Ext.refl _ _, ?_, plainA_wf e3, Nat.le_refl _⟩
    have hkeep : ∀ k, k < w.heap.size → (¬ ∃ b b', ρ.get b = some b' ∧ k = (φ b').blk) → w9.heap[k]? = w.heap[k]? := fun k hk hS => H2.kept k hk hS
    refine ⟨H.keys, fun b o hb => ?_, H.inj, H.own, H2.os.trans H.os, H2.tape.trans H.tape, H2.output.trans H.output, Nat.le_trans H.size H2.size, fun k hk hS => ?_⟩
    · by_cases hl : live o
      · by_cases hm : ∃ c c', ρ.get c = some c' ∧ (φ b).blk = (φ c').blk
        · obtain ⟨c, c', hρ, hblk⟩ := hm
          obtain ⟨cs, cs', st, k1, k2, k3⟩ := hpair c c' hρ
          have := H.inj b c' _ _ hb k2 hl trivial hblk
          subst this
          cases hb.symm.trans k2
          have k1' := k1
          rw [heap_get] at k1'
          obtain ⟨cs2, st2, q1, q2⟩ := sameH_spec s.objs 0 c.toNat _ e2 k1'
          rw [Nat.zero_add, bn_of_toNat] at q2
          cases q1
          obtain ⟨arr, e, g1, g2, g3, g4⟩ := H2.obj c _ q2
          have ec : φ2 c = φ b := (he c (hlt _ _ hρ)).trans (via_eq hρ)
          obtain ⟨_, _, _, _, _, o4⟩ := H.obj b _ hb
          refine ⟨arr, e, by rw [← ec]; exact g1, fun i x hx => ?_, by rw [← ec]; exact g3, o4⟩
          have hi : i < cs.length := by
            have := (List.getElem?_eq_some_iff.1 hx).1
            have := k3.1
            omega
          obtain ⟨x', j1, j2⟩ := k3.2 i cs[i] (List.getElem?_eq_getElem hi)
          rw [hx] at j1
          cases j1
          have := g2 i cs[i] (List.getElem?_eq_getElem hi)
          rw [ec] at this
          rw [this, RC_conc j2]
          have hwc : wfC (via ρ φ) s.heap.n.toNat cs[i] := RC_wf hlt j2 (o4 x (List.mem_of_getElem? hx))
          rw [conc_extC he hwc]
        · exact (H.obj b o hb).world fun _ => hkeep _ ((H.obj b o hb).there hl) (fun ⟨c, c', h1, h2⟩ => hm ⟨c, c', h1, h2⟩)
      · exact (H.obj b o hb).world fun hh => absurd hh hl
    · by_cases hm : ∃ c c', ρ.get c = some c' ∧ k = (φ c').blk
      · obtain ⟨c, c', hρ, rfl⟩ := hm
        obtain ⟨cs, cs', st, _, k2, _⟩ := hpair c c' hρ
        rcases H.own c' _ k2 trivial with h1 | h1
        · exact absurd h1 hS
        · omega
      · rw [hkeep k (Nat.lt_of_lt_of_le hk H.size) hm]
        exact H.kept k hk hS
  · cases hchk

theorem findSum_ok {g : Nat} {args : List AVal} {v : AVal} : ∀ (l : List Sum), findSum g args h l = some v → ∃ s ∈ l, s.g = g ∧ s.fits args h = true ∧ s.res = v
  | [], e => by cases e
  | s :: l, e => by
    unfold findSum at e
    cases hq : (Nat.beq g s.g && s.fits args h) with
    | true =>
      rw [hq] at e
      obtain ⟨h1, h2⟩ := and2 hq
      exact ⟨s, by simp, (beq_true h1).symm, h2, Option.some.inj e⟩
    | false =>
      rw [hq] at e
      obtain ⟨s', k1, k2⟩ := findSum_ok l e
      exact ⟨s', by simp [k1], k2⟩

theorem withS_ok {sums : List Sum} (hs : ∀ s ∈ sums, SumOk P s) {call : Caller} (C : SoundC P call) : SoundC P (withS sums call) := by
  intro w0 S φ h w args v h2 H hw
  refine ⟨fun g e => ?_, fun l e => (C w0 S φ h w args v h2 H hw).2 l e⟩
  unfold withS at e
  simp only at e
  split at e
  · rename_i v' hf
    cases e
    obtain ⟨s, h1, rfl, h3, rfl⟩ := findSum_ok sums hf
    exact sum_ok (hs s h1) H hw h3
  · exact (C w0 S φ h w args v h2 H hw).1 g e

theorem callS_ok {fs : Nat → Option RFunc} (hfs : FsOk P fs) {sums : List Sum} (hs : ∀ s ∈ sums, SumOk P s) : ∀ n, SoundC P (evCallS (cCode P) fs sums n)
  | 0 => none_ok
  | n + 1 => withS_ok hs (both_ok (callS_ok hfs hs n) hfs n)

/-- **WHAT A CALL WITHOUT ARGUMENTS ANSWERS.** -/
theorem calls_of_sound {call : Caller} (C : SoundC P call) {f : Nat} {c : CVal} {h2 : AHeap} (e : call (.inl f) [] ⟨.z, .nil⟩ = some (.s (.one c), h2)) (w : World) :
    (∀ as w, (callFunc f as).run P w = .ok (.enter f as) w) ∧ CallsIn (FR none) 0 P f #[] w (fun e w2 => ∃ φ, e = .returned (concC φ c) ∧ Below w.heap.size w w2) := by
  have H : HRel w (fun _ => False) (fun _ => ⟨0, 0, 0⟩) ⟨.z, .nil⟩ w := by
    have hnil : ∀ b, (Tr.nil : Tr AObj).get b = none := by intro b; cases b <;> rfl
    refine ⟨?_, ?_, ?_, ?_, rfl, rfl, rfl, Nat.le_refl _, fun _ _ _ => rfl⟩
    · intro b o hb; rw [hnil] at hb; cases hb
    · intro b o hb; rw [hnil] at hb; cases hb
    · intro b b' o o' hb; rw [hnil] at hb; cases hb
    · intro b o hb; rw [hnil] at hb; cases hb
  have := (C w _ _ _ w [] _ h2 H (fun x hx => by cases hx)).1 f e
  refine ⟨this.1, this.2.mono ?_⟩
  rintro e9 w9 ⟨φ2, rfl, he, H2, _, _⟩
  exact ⟨φ2, rfl, ⟨H2.os, H2.tape, H2.output, H2.size, fun k hk => H2.kept k hk (fun hh => hh)⟩⟩
end

end Go.CE
