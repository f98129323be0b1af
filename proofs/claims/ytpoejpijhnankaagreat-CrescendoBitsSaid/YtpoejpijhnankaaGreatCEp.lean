/-
  The concrete evaluator: code. No condition.
-/
import Derived.Test.YtpoejpijhnankaaGreatCEo
import Derived.RangeFuncRecord
import Derived.RangeFuncNested
import Derived.LoopNIn
namespace Go.CE
open Go.RowKit

def exOf : RExit → Exit
  | .normal => .normal
  | .exit id => .exit id
  | .ret => .ret

def marks (φ : Phi) (d : List BN) : List Deferred := d.map fun b => { target := .collected (φ b).blk, args := #[] }

/-- The state of a frame. -/
structure SRel (w0 : World) (S : Nat → Prop) (φ : Phi) (nt : Nat) (s : St) (a : Act) (w : World) : Prop where
  H : HRel w0 S φ s.h w
  T : TRel φ nt s.h.n.toNat s.t a.tmps
  D : a.defers = marks φ s.d
  dn : ∀ b ∈ s.d, b.toNat < s.h.n.toNat

def After (w0 : World) (S : Nat → Prop) (φ : Phi) (nt : Nat) (h : AHeap) (s2 : St) (a2 : Act) (w2 : World) : Prop :=
  ∃ φ2, Ext h.n.toNat φ φ2 ∧ SRel w0 S φ2 nt s2 a2 w2 ∧ h.n.toNat ≤ s2.h.n.toNat

/-- Of which loop's round the frame is. -/
def RoRel (φ : Phi) (n : Nat) : Option BN → Option Nat → Prop
  | none, ro => ro = none
  | some l, ro => ro = some (φ l).blk ∧ l.toNat < n

theorem RoRel.ext {φ φ2 : Phi} {n m : Nat} {round : Option BN} {ro : Option Nat} (h : RoRel φ n round ro) (he : Ext n φ φ2) (hn : n ≤ m) : RoRel φ2 m round ro := by
  cases round with
  | none => exact h
  | some l => exact ⟨by rw [he l h.2]; exact h.1, Nat.lt_of_lt_of_le h.2 hn⟩

theorem marks_ext {φ φ2 : Phi} {n : Nat} (he : Ext n φ φ2) {d : List BN} (hd : ∀ b ∈ d, b.toNat < n) : marks φ2 d = marks φ d :=
  List.map_congr_left fun b hb => by rw [he b (hd b hb)]

theorem After.trans {w0 : World} {S : Nat → Prop} {φ φ1 : Phi} {nt : Nat} {h h1 : AHeap} {s2 : St} {a2 : Act} {w2 : World} (he : Ext h.n.toNat φ φ1) (hn : h.n.toNat ≤ h1.n.toNat) (hA : After w0 S φ1 nt h1 s2 a2 w2) : After w0 S φ nt h s2 a2 w2 := by
  obtain ⟨φ2, he2, hs, hle⟩ := hA
  exact ⟨φ2, he.trans he2 hn, hs, Nat.le_trans hn hle⟩

section
variable {P : Program} {w0 : World} {S : Nat → Prop} {nt : Nat} {call : Caller}

/-- Code that was evaluated. -/
def CodeOk (P : Program) (w0 : World) (S : Nat → Prop) (nt : Nat) (call : Caller) (c : Code) : Prop :=
  ∀ (f fn : Nat) (round : Option BN) (ro : Option Nat) (φ : Phi) (s s2 : St) (e : RExit) (a : Act) (w : World) (Q : Exit → Act → World → Prop), cCode P nt c call f fn round s = some (e, s2) → SRel w0 S φ nt s a w → RoRel φ s.h.n.toNat round ro →
    (∀ a2 w2, After w0 S φ nt s.h s2 a2 w2 → Q (exOf e) a2 w2) → c.wpIn (FR ro) 0 P Q a w

theorem SRel.after {φ : Phi} {s : St} {a : Act} {w : World} (R : SRel w0 S φ nt s a w) : After w0 S φ nt s.h s a w := ⟨φ, Ext.refl _ _, R, Nat.le_refl _⟩

theorem next_after {φ : Phi} {s : St} {a a2 : Act} {w w2 : World} {t2 : Tr AVal} {h2 : AHeap} (R : SRel w0 S φ nt s a w) (hn : Next1 w0 S φ nt s.h t2 h2 a a2 w2) : After w0 S φ nt s.h ⟨t2, s.d, h2⟩ a2 w2 := by
  obtain ⟨φ2, he, H2, T2, hd, hle⟩ := hn
  exact ⟨φ2, he, ⟨H2, T2, by rw [hd, R.D, marks_ext he R.dn], fun b hb => Nat.lt_of_lt_of_le (R.dn b hb) hle⟩, hle⟩

theorem ok_region (C : SoundC P call) (id : Nat) (ops : Array Oper) : CodeOk P w0 S nt call (.region id ops false) := by
  intro f fn round ro φ s s2 e a w Q hc R hr hQ
  have hc : regF (ops.toList.map (cOper P nt ops)) call f fn round s = some (e, s2) := hc
  obtain ⟨t, d, h⟩ := s
  simp only [regF] at hc
  cases he : evOps call (ops.toList.map (cOper P nt ops)) t h with
  | none => rw [he] at hc; cases hc
  | some p =>
    obtain ⟨t2, h2⟩ := p
    rw [he] at hc
    cases hc
    exact wpIn_region_list (ops_wp C ops.toList R.H R.T he fun a2 w2 hn => hQ a2 w2 (next_after R hn))

theorem ok_seq {x y : Code} (hx : CodeOk P w0 S nt call x) (hy : CodeOk P w0 S nt call y) : CodeOk P w0 S nt call (.seq x y) := by
  intro f fn round ro φ s s2 e a w Q hc R hr hQ
  have hc : thenF call f fn round (cCode P nt y) (cCode P nt x call f fn round s) = some (e, s2) := hc
  cases h1 : cCode P nt x call f fn round s with
  | none => rw [h1] at hc; cases hc
  | some p =>
    obtain ⟨e1, s1⟩ := p
    rw [h1] at hc
    refine wpIn_seq (hx f fn round ro φ s s1 e1 a w _ h1 R hr fun a1 w1 hA => ?_)
    cases e1 with
    | normal =>
      obtain ⟨φ1, he1, R1, hle1⟩ := hA
      show y.wpIn (FR ro) 0 P Q a1 w1
      exact hy f fn round ro φ1 s1 s2 e a1 w1 Q hc R1 (hr.ext he1 hle1) fun a2 w2 hA2 => hQ a2 w2 (hA2.trans he1 hle1)
    | exit id => cases hc; exact hQ a1 w1 hA
    | ret => cases hc; exact hQ a1 w1 hA

theorem ok_cond {c : Operand} {x y : Code} (hx : CodeOk P w0 S nt call x) (hy : CodeOk P w0 S nt call y) : CodeOk P w0 S nt call (.cond c x y) := by
  intro f fn round ro φ s s2 e a w Q hc R hr hQ
  cases hf : cOpd c with
  | none => simp only [cCode, hf] at hc; cases hc
  | some g =>
    simp only [cCode, hf] at hc
    obtain ⟨t, d, h⟩ := s
    simp only [condF] at hc
    split at hc
    · rename_i q hq
      have ho := (opd_conc R.T hf).1
      simp only at ho
      rw [hq] at ho
      refine wpIn_cond (t := q) ho ?_
      cases q
      · exact hy f fn round ro φ _ s2 e a w Q hc R hr hQ
      · exact hx f fn round ro φ _ s2 e a w Q hc R hr hQ
    · cases hc

theorem ok_block {id : Nat} {x : Code} (hx : CodeOk P w0 S nt call x) : CodeOk P w0 S nt call (.block id x) := by
  intro f fn round ro φ s s2 e a w Q hc R hr hQ
  have hc : outF id (cCode P nt x call f fn round s) = some (e, s2) := hc
  cases h1 : cCode P nt x call f fn round s with
  | none => rw [h1] at hc; cases hc
  | some p =>
    obtain ⟨e1, s1⟩ := p
    rw [h1] at hc
    refine wpIn_block (hx f fn round ro φ s s1 e1 a w _ h1 R hr fun a1 w1 hA => ?_)
    cases e1 with
    | normal => cases hc; exact hQ a1 w1 hA
    | ret => cases hc; exact hQ a1 w1 hA
    | exit id' =>
      simp only [outF] at hc
      show (if id' = id then Q .normal a1 w1 else Q (.exit id') a1 w1)
      cases hb : Nat.beq id' id with
      | true => rw [hb] at hc; cases hc; rw [if_pos (beq_true hb)]; exact hQ a1 w1 hA
      | false => rw [hb] at hc; cases hc; rw [if_neg (beq_false hb)]; exact hQ a1 w1 hA

theorem loopN_zero (c : St → Option (RExit × St)) (s : St) : loopN c 0 s = none := rfl
theorem loopN_succ (c : St → Option (RExit × St)) (n : Nat) (s : St) : loopN c (n + 1) s = match c s with | some (.normal, s2) => loopN c n s2 | r => r := rfl

theorem ok_loop {x : Code} (hx : CodeOk P w0 S nt call x) : CodeOk P w0 S nt call (.loop x) := by
  intro f fn round ro φ s s2 e a w Q hc R hr hQ
  have hc : loopN (cCode P nt x call f fn round) f s = some (e, s2) := hc
  have key : ∀ (n : Nat) (φ : Phi) (s : St) (a : Act) (w : World), loopN (cCode P nt x call f fn round) n s = some (e, s2) → SRel w0 S φ nt s a w → RoRel φ s.h.n.toNat round ro →
      (∀ a2 w2, After w0 S φ nt s.h s2 a2 w2 → Q (exOf e) a2 w2) → Code.roundsIn (FR ro) 0 P x Q n a w := by
    intro n
    induction n with
    | zero => intro φ s a w hc; cases hc
    | succ n ih =>
      intro φ s a w hc R hr hQ
      rw [loopN_succ] at hc
      cases h1 : cCode P nt x call f fn round s with
      | none => rw [h1] at hc; cases hc
      | some p =>
        obtain ⟨e1, s1⟩ := p
        rw [h1] at hc
        rw [roundsIn_succ]
        refine hx f fn round ro φ s s1 e1 a w _ h1 R hr fun a1 w1 hA => ?_
        cases e1 with
        | normal =>
          obtain ⟨φ1, he1, R1, hle1⟩ := hA
          show Code.roundsIn (FR ro) 0 P x Q n a1 w1
          exact ih φ1 s1 a1 w1 hc R1 (hr.ext he1 hle1) fun a2 w2 hA2 => hQ a2 w2 (hA2.trans he1 hle1)
        | exit id => cases hc; exact hQ a1 w1 hA
        | ret => cases hc; exact hQ a1 w1 hA
  exact wpIn_loop_rounds f (key f φ s a w hc R hr hQ)

/-! ### A range over a function -/

theorem rangeE_inv {t : Tr AVal} {ds : List BN} {l : BN} {r : Res} {e : RExit} {s2 : St} (hc : rangeE t ds l r = some (e, s2)) :
    ∃ x h st pend lf ln lt lps la lb ld, r = some (x, h) ∧ h.t.get l = some (.loop st pend lf ln lt lps la lb ld) ∧ st ≠ .busy ∧ e = pend.getD .normal ∧ s2 = ⟨t, ds, h.put l (.loop .exhausted pend lf ln lt lps la lb ld)⟩ := by
  unfold rangeE at hc
  split at hc
  · rename_i x h
    split at hc
    · rename_i st pend lf ln lt lps la lb ld hl
      split at hc
      · cases hc
      · rename_i hnb
        cases hc
        exact ⟨x, h, st, pend, lf, ln, lt, lps, la, lb, ld, rfl, hl, hnb, rfl, rfl⟩
    · cases hc
  · cases hc

theorem wpIn_jump {ro : Option Nat} {Q : Exit → Act → World → Prop} {a : Act} {w : World} (e : RExit) (h : Q (exOf e) a w) : (jumpOf e).wpIn (FR ro) 0 P Q a w := by
  cases e with
  | normal => exact wpIn_skip h
  | exit id => exact wpIn_exit h
  | ret => exact wpIn_ret h

theorem ok_range (C : SoundC P call) {g : Operand} {ps : Array Tmp} {assign body : Code} : CodeOk P w0 S nt call (.rangeFunc g ps assign body) := by
  intro f fn round ro φ s s2 e a w Q hc R hr hQ
  cases hg : cOpd g with
  | none => simp only [cCode, hg] at hc; cases hc
  | some gg =>
    simp only [cCode, hg] at hc
    obtain ⟨t, d, h⟩ := s
    simp only [rangeF] at hc
    have R' := R
    obtain ⟨H, T, D, dn⟩ := R
    simp only at H T D dn
    split at hc
    · cases hc
    · rename_i bd ds h0 hD
      split at hc
      · rename_i gf caps hgv
        obtain ⟨xv, h3, st, pend, lf, ln, lt, lps, la, lb, ld, hcall, hl3, hnb, he, hs2⟩ := rangeE_inv hc
        refine wpIn_rangeFunc fun fn' _ => ?_
        -- the blocks laid
        obtain ⟨φ0, mark, w0', hE0, H0, hn0, hbd, hmark, hrunE⟩ : ∃ (φ0 : Phi) (mark : List Deferred) (w1 : World), Ext h.n.toNat φ φ0 ∧ HRel w0 S φ0 h0 w1 ∧ h.n.toNat ≤ h0.n.toNat ∧ bd.toNat < h0.n.toNat ∧
            (marks φ0 ds = mark ++ a.defers ∧ ∀ b ∈ ds, b.toNat < h0.n.toNat) ∧
            (Instr.enterLoop fn' a.tmps ps assign body ro).run P w = .ok (w1.heap.size, mark) (w1.alloc (.loop { state := .ready, pending := none, fn := fn', tmps := a.tmps, params := ps, assign := assign, body := body, defers := (φ0 bd).blk })) := by
          cases round with
          | none =>
            have hro : ro = none := hr
            subst hro
            simp only [rangeD] at hD
            cases hD
            refine ⟨upd φ h.n ⟨w.heap.size, 0, 0⟩, [{ target := .collected w.heap.size, args := #[] }], w.alloc (.deferred (some [])), upd_ext _ _ _, H.new _ _ _ rfl ?_, by rw [size_new]; omega, by rw [size_new]; omega, ⟨?_, ?_⟩, ?_⟩
            · show _ = _; rw [upd_same]; exact heap_alloc_new w _
            · show marks _ (h.n :: d) = _
              simp only [marks, List.map_cons, upd_same]
              have := marks_ext (upd_ext φ h.n ⟨w.heap.size, 0, 0⟩) dn
              simp only [marks] at this
              rw [this, D]; rfl
            · intro b hb
              rw [size_new]
              cases hb with
              | head => omega
              | tail _ hm => have := dn b hm; omega
            · rw [upd_same]
              have := run_enterLoop_outer (P := P) (w := w) fn' a.tmps ps assign body
              rw [this]
              simp
          | some l =>
            obtain ⟨hro, hln⟩ := hr
            subst hro
            simp only [rangeD] at hD
            split at hD
            · rename_i st9 p9 f9 n9 t9 ps9 a9 b9 d9 hl9
              cases hD
              obtain ⟨arr, f8, g1, g2, g3⟩ := H.obj l _ hl9
              refine ⟨φ, [], w, Ext.refl _ _, H, Nat.le_refl _, g3, ⟨by rw [D]; rfl, dn⟩, ?_⟩
              exact run_enterLoop_inner (P := P) g1 fn' a.tmps ps assign body
            · cases hD
        -- the record
        have T0 : TRel φ0 nt h0.n.toNat t a.tmps := T.ext hE0 hn0
        have H1 : HRel w0 S (upd φ0 h0.n ⟨w0'.heap.size, 0, 0⟩) (h0.new (.loop .ready none fn nt t ps assign body bd)) (w0'.alloc (.loop { state := .ready, pending := none, fn := fn', tmps := a.tmps, params := ps, assign := assign, body := body, defers := (φ0 bd).blk })) := by
          refine H0.new _ _ ⟨w0'.heap.size, 0, 0⟩ rfl ?_
          refine ⟨a.tmps, fn', ?_, T0.ext (upd_ext _ _ _) (Nat.le_succ _), Nat.lt_succ_of_lt hbd⟩
          rw [upd_same, upd_ext φ0 h0.n _ bd hbd]
          exact heap_alloc_new w0' _
        have hE1 : Ext h.n.toNat φ (upd φ0 h0.n ⟨w0'.heap.size, 0, 0⟩) := hE0.trans (upd_ext _ _ _) hn0
        have hn1 : (h0.new (.loop .ready none fn nt t ps assign body bd)).n.toNat = h0.n.toNat + 1 := size_new _ _
        -- the call
        have og := opd_conc T0 hg
        rw [hgv] at og
        have hwcaps : ∀ x ∈ ([AVal.s (.one (.yld h0.n))] ++ caps.map fun p => AVal.s (.one (.ptr p.1 p.2))), wfA (upd φ0 h0.n ⟨w0'.heap.size, 0, 0⟩) (h0.new (.loop .ready none fn nt t ps assign body bd)).n.toNat x := by
          intro x hx
          rw [hn1]
          rcases List.mem_append.1 hx with hx | hx
          · simp only [List.mem_singleton] at hx
            subst hx
            exact Nat.lt_succ_self _
          · obtain ⟨p, hp, rfl⟩ := List.mem_map.1 hx
            exact Nat.lt_succ_of_lt (og.2 p hp)
        obtain ⟨hcf, hcl⟩ := (C w0 S _ _ _ _ xv h3 H1 hwcaps).1 gf hcall
        have hargs : (([AVal.s (.one (.yld h0.n))] ++ caps.map fun p => AVal.s (.one (.ptr p.1 p.2))).map (concA (upd φ0 h0.n ⟨w0'.heap.size, 0, 0⟩))).toArray = #[Value.func (.yield w0'.heap.size) #[] #[]] ++ (caps.map fun p => Value.pointer (some (adr φ0 p.1 p.2))).toArray := by
          rw [List.map_append, ← List.append_toArray]
          congr 1
          · simp [concA, concS, concC, upd_same]
          · simp only [List.map_map, Function.comp_def]
            congr 1
            refine List.map_congr_left fun p hp => ?_
            have := upd_ext φ0 h0.n ⟨w0'.heap.size, 0, 0⟩ p.1 (og.2 p hp)
            simp [concA, concS, concC, adr, this]
        rw [hargs] at hcl
        have hgval : a.eval g = .func (.func gf) #[] (caps.map fun p => Value.pointer (some (adr φ0 p.1 p.2))).toArray := og.1
        refine ⟨w0'.heap.size, mark, _, { target := .fn (.func gf) (caps.map fun p => Value.pointer (some (adr φ0 p.1 p.2))).toArray, args := #[Value.func (.yield w0'.heap.size) #[] #[]] }, w0'.alloc (.loop { state := .ready, pending := none, fn := fn', tmps := a.tmps, params := ps, assign := assign, body := body, defers := (φ0 bd).blk }), gf,
          #[Value.func (.yield w0'.heap.size) #[] #[]] ++ (caps.map fun p => Value.pointer (some (adr φ0 p.1 p.2))).toArray, w0'.alloc (.loop { state := .ready, pending := none, fn := fn', tmps := a.tmps, params := ps, assign := assign, body := body, defers := (φ0 bd).blk }), hrunE, ?_, fun _ _ => trivial, ?_, fun hh => by simp [Fence.wide] at hh, FR_calls hcl |>.mono ?_⟩
        · simp only [resolve, hgval, Deferred.ofValue, Sem.run_pure]
          simp [Act.eval]
        · simp only [invoke, hcf]
        · rintro e9 w9 ⟨φ3, rfl, he3, H3, _, hle3⟩
          rw [hn1] at he3 hle3
          obtain ⟨arr, f8, g1, g2, g3⟩ := H3.obj h0.n _ hl3
          have eb : (φ3 h0.n).blk = w0'.heap.size := by
            have := he3 h0.n (Nat.lt_succ_self _)
            rw [this, upd_same]
          rw [eb] at g1
          have hend := run_endLoop (P := P) g1 hnb
          have hlt : w0'.heap.size < w9.heap.size := (Array.getElem?_eq_some_iff.1 g1).1
          have H4 : HRel w0 S φ3 (h3.put h0.n (.loop .exhausted pend lf ln lt lps la lb ld)) (w9.putObj w0'.heap.size (.loop { state := .exhausted, pending := pend.map jumpOf, fn := f8, tmps := arr, params := lps, assign := la, body := lb, defers := (φ3 ld).blk })) := by
            refine H3.put hl3 trivial (fun k hk => ?_) (by simp) rfl rfl rfl ⟨arr, f8, ?_, g2, g3⟩
            · rw [eb] at hk; exact World.putObj_heap_other hk
            · rw [eb]; exact World.putObj_heap_same hlt
          have hE3 : Ext h.n.toNat φ φ3 := hE1.trans he3 (by omega)
          have hA : After w0 S φ nt h s2 { a with defers := mark ++ a.defers } (w9.putObj w0'.heap.size (.loop { state := .exhausted, pending := pend.map jumpOf, fn := f8, tmps := arr, params := lps, assign := la, body := lb, defers := (φ3 ld).blk })) := by
            subst hs2
            refine ⟨φ3, hE3, ⟨H4, ?_, ?_, ?_⟩, ?_⟩
            · exact T0.ext (fun b hb => (he3 b (by omega)).trans (upd_ext _ _ _ b hb)) (by show h0.n.toNat ≤ h3.n.toNat; omega)
            · show mark ++ a.defers = marks φ3 ds
              rw [← hmark.1]
              refine (marks_ext (n := h0.n.toNat) (fun b hb => ?_) hmark.2).symm
              exact (he3 b (by omega)).trans (upd_ext _ _ _ b hb)
            · intro b hb
              have := hmark.2 b hb
              show b.toNat < h3.n.toNat
              omega
            · show h.n.toNat ≤ h3.n.toNat; omega
          refine ⟨_, _, hend, ?_⟩
          subst he
          cases pend with
          | none => exact hQ _ _ hA
          | some e1 => exact wpIn_jump e1 (hQ _ _ hA)
      · cases hc

end
end Go.CE
