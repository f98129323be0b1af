/-
  The concrete evaluator: what its words mean in a world of the model (the relations), and plain lemmas. No condition.
-/
import Derived.Test.YtpoejpijhnankaaGreatCEc
namespace Go.CE
open Go.RowKit

/-! ### Trees -/

theorem BN.toNat_succ (n : BN) : n.succ.toNat = n.toNat + 1 := by
  induction n with
  | z => rfl
  | o n _ => simp [BN.succ, BN.toNat]
  | d n ih => simp [BN.succ, BN.toNat, ih]; omega

theorem BN.toNat_inj : ∀ {a b : BN}, a.toNat = b.toNat → a = b := by
  intro a
  induction a with
  | z => intro b h; cases b <;> simp [BN.toNat] at h ⊢
  | o n ih =>
    intro b h
    cases b with
    | z => simp [BN.toNat] at h
    | o m => simp only [BN.toNat] at h; rw [ih (b := m) (by omega)]
    | d m => simp only [BN.toNat] at h; omega
  | d n ih =>
    intro b h
    cases b with
    | z => simp [BN.toNat] at h
    | o m => simp only [BN.toNat] at h; omega
    | d m => simp only [BN.toNat] at h; rw [ih (b := m) (by omega)]

theorem bnF_toNat : ∀ (f n : Nat), n ≤ f → (bnF f n).toNat = n := by
  intro f
  induction f with
  | zero => intro n h; simp [bnF, BN.toNat]; omega
  | succ f ih =>
    intro n h
    unfold bnF
    by_cases h0 : n = 0
    · subst h0; rfl
    · have e0 : Nat.beq n 0 = false := by cases n with | zero => exact absurd rfl h0 | succ m => rfl
      rw [e0]
      by_cases h1 : n % 2 = 1
      · have e1 : Nat.beq (Nat.mod n 2) 1 = true := by show Nat.beq (n % 2) 1 = true; rw [h1]; rfl
        rw [e1]
        show (BN.o (bnF f (n / 2))).toNat = n
        rw [BN.toNat, ih (n / 2) (by omega)]; omega
      · have e1 : Nat.beq (Nat.mod n 2) 1 = false := by
          show Nat.beq (n % 2) 1 = false
          have : n % 2 = 0 := by omega
          rw [this]; rfl
        rw [e1]
        show (BN.d (bnF f (n / 2 - 1))).toNat = n
        rw [BN.toNat, ih (n / 2 - 1) (by omega)]; omega

theorem bn_toNat (n : Nat) : (bn n).toNat = n := bnF_toNat n n (Nat.le_refl _)
theorem bn_inj {a b : Nat} (h : bn a = bn b) : a = b := by have := congrArg BN.toNat h; rwa [bn_toNat, bn_toNat] at this
theorem bn_of_toNat (b : BN) : bn b.toNat = b := BN.toNat_inj (bn_toNat _)
theorem bn_succ (n : Nat) : (bn n).succ = bn (n + 1) := BN.toNat_inj (by rw [BN.toNat_succ, bn_toNat, bn_toNat])

section
variable {α : Type}
@[simp] theorem get_nil (n : BN) : (Tr.nil : Tr α).get n = none := by cases n <;> rfl
@[simp] theorem get_node_z (l : Tr α) (v : Option α) (r : Tr α) : (Tr.node l v r).get .z = v := rfl
@[simp] theorem get_node_o (l : Tr α) (v : Option α) (r : Tr α) (n : BN) : (Tr.node l v r).get (.o n) = l.get n := rfl
@[simp] theorem get_node_d (l : Tr α) (v : Option α) (r : Tr α) (n : BN) : (Tr.node l v r).get (.d n) = r.get n := rfl
theorem set_nil_z (x : α) : (Tr.nil : Tr α).set .z x = .node .nil (some x) .nil := rfl
theorem set_nil_o (n : BN) (x : α) : (Tr.nil : Tr α).set (.o n) x = .node ((Tr.nil : Tr α).set n x) none .nil := rfl
theorem set_nil_d (n : BN) (x : α) : (Tr.nil : Tr α).set (.d n) x = .node .nil none ((Tr.nil : Tr α).set n x) := rfl
theorem set_node_z (l : Tr α) (v : Option α) (r : Tr α) (x : α) : (Tr.node l v r).set .z x = .node l (some x) r := rfl
theorem set_node_o (l : Tr α) (v : Option α) (r : Tr α) (n : BN) (x : α) : (Tr.node l v r).set (.o n) x = .node (l.set n x) v r := rfl
theorem set_node_d (l : Tr α) (v : Option α) (r : Tr α) (n : BN) (x : α) : (Tr.node l v r).set (.d n) x = .node l v (r.set n x) := rfl

theorem get_set_same (x : α) : ∀ (n : BN) (t : Tr α), (t.set n x).get n = some x := by
  intro n
  induction n with
  | z => intro t; cases t <;> rfl
  | o n ih => intro t; cases t with
    | nil => rw [set_nil_o, get_node_o]; exact ih _
    | node l v r => rw [set_node_o, get_node_o]; exact ih _
  | d n ih => intro t; cases t with
    | nil => rw [set_nil_d, get_node_d]; exact ih _
    | node l v r => rw [set_node_d, get_node_d]; exact ih _

theorem get_set_other (x : α) : ∀ (n m : BN) (t : Tr α), m ≠ n → (t.set n x).get m = t.get m := by
  intro n
  induction n with
  | z =>
    intro m t h
    cases t with
    | nil => rw [set_nil_z]; cases m <;> simp_all
    | node l v r => rw [set_node_z]; cases m <;> simp_all
  | o n ih =>
    intro m t h
    cases t with
    | nil =>
      rw [set_nil_o]
      cases m with
      | z => simp
      | o m => rw [get_node_o, ih m _ (fun e => h (by rw [e]))]; simp
      | d m => simp
    | node l v r =>
      rw [set_node_o]
      cases m with
      | z => rfl
      | o m => rw [get_node_o, get_node_o]; exact ih m _ (fun e => h (by rw [e]))
      | d m => rfl
  | d n ih =>
    intro m t h
    cases t with
    | nil =>
      rw [set_nil_d]
      cases m with
      | z => simp
      | o m => simp
      | d m => rw [get_node_d, ih m _ (fun e => h (by rw [e]))]; simp
    | node l v r =>
      rw [set_node_d]
      cases m with
      | z => rfl
      | o m => rfl
      | d m => rw [get_node_d, get_node_d]; exact ih m _ (fun e => h (by rw [e]))

theorem get_set (x : α) (t : Tr α) (n m : BN) [Decidable (m = n)] : (t.set n x).get m = if m = n then some x else t.get m := by
  split
  · rename_i h; subst h; exact get_set_same x m t
  · rename_i h; exact get_set_other x n m t h
end

instance : DecidableEq BN := fun a b => if h : a.toNat = b.toNat then isTrue (BN.toNat_inj h) else isFalse (fun e => h (by rw [e]))

/-! ### Places and what values mean -/

/-- Where a block of the abstract heap lies: the block, the cell at which it begins, the capacity in elements from there on. -/
structure Pl where
  blk : Nat
  base : Nat
  cap : Nat

abbrev Phi := BN → Pl

def adr (φ : Phi) (b : BN) (off : Nat) : Addr := ⟨(φ b).blk, (φ b).base + off, none⟩

def concC (φ : Phi) : CVal → Value
  | .bool b => .bool b
  | .int k n => .int k n
  | .str s => .string s
  | .nilp => .pointer none
  | .ptr b off => .pointer (some (adr φ b off))
  | .nils => .slice none 0 0
  | .slc b off len cap ex => .slice (some (adr φ b off)) len (bif ex then cap else (φ b).cap - cap)
  | .nilm => .map none
  | .map b => .map (some (φ b).blk)
  | .fn f caps => .func (.func f) #[] (caps.map fun p => Value.pointer (some (adr φ p.1 p.2))).toArray
  | .yld l => .func (.yield (φ l).blk) #[] #[]
  | .nilf => .nilFunc
  | .nili => .nilIface

def concS (φ : Phi) : SVal → Value
  | .one c => concC φ c
  | .agg cs => .agg (cs.map (concC φ)).toArray

def concA (φ : Phi) : AVal → Value
  | .s v => concS φ v
  | .tup vs => .tuple (vs.map (concS φ)).toArray

/-- All blocks that a value names are numbered below n; a slice whose capacity is its block's has room for its elements. -/
def wfC (φ : Phi) (n : Nat) : CVal → Prop
  | .ptr b _ => b.toNat < n
  | .slc b _ len cap ex => b.toNat < n ∧ (ex = false → cap + len ≤ (φ b).cap) ∧ (ex = true → len ≤ cap)
  | .map b => b.toNat < n
  | .fn _ caps => ∀ p ∈ caps, p.1.toNat < n
  | .yld l => l.toNat < n
  | _ => True
def wfS (φ : Phi) (n : Nat) : SVal → Prop
  | .one c => wfC φ n c
  | .agg cs => ∀ c ∈ cs, wfC φ n c
def wfA (φ : Phi) (n : Nat) : AVal → Prop
  | .s v => wfS φ n v
  | .tup vs => ∀ v ∈ vs, wfS φ n v

/-- Two namings that agree below n. -/
def Ext (n : Nat) (φ φ' : Phi) : Prop := ∀ b : BN, b.toNat < n → φ' b = φ b

theorem Ext.refl (n : Nat) (φ : Phi) : Ext n φ φ := fun _ _ => rfl
theorem Ext.trans {n m : Nat} {φ φ' φ'' : Phi} (h : Ext n φ φ') (h' : Ext m φ' φ'') (hn : n ≤ m) : Ext n φ φ'' :=
  fun b hb => (h' b (Nat.lt_of_lt_of_le hb hn)).trans (h b hb)
theorem Ext.mono {n m : Nat} {φ φ' : Phi} (h : Ext m φ φ') (hn : n ≤ m) : Ext n φ φ' := fun b hb => h b (Nat.lt_of_lt_of_le hb hn)

theorem wfC_ext {φ φ' : Phi} {n m : Nat} (he : Ext n φ φ') (h : n ≤ m) {c : CVal} (hc : wfC φ n c) : wfC φ' m c := by
  cases c <;> simp only [wfC] at hc ⊢
  case ptr => omega
  case slc b _ _ _ _ => exact ⟨by omega, by rw [he b hc.1]; exact hc.2⟩
  case map => omega
  case fn => exact fun p hp => Nat.lt_of_lt_of_le (hc p hp) h
  case yld => omega
theorem wfS_ext {φ φ' : Phi} {n m : Nat} (he : Ext n φ φ') (h : n ≤ m) {c : SVal} (hc : wfS φ n c) : wfS φ' m c := by
  cases c with
  | one c => exact wfC_ext he h hc
  | agg cs => exact fun c hm => wfC_ext he h (hc c hm)
theorem wfA_ext {φ φ' : Phi} {n m : Nat} (he : Ext n φ φ') (h : n ≤ m) {c : AVal} (hc : wfA φ n c) : wfA φ' m c := by
  cases c with
  | s c => exact wfS_ext he h hc
  | tup cs => exact fun c hm => wfS_ext he h (hc c hm)
theorem wfC_mono {φ : Phi} {n m : Nat} (h : n ≤ m) {c : CVal} (hc : wfC φ n c) : wfC φ m c := wfC_ext (Ext.refl _ _) h hc
theorem wfS_mono {φ : Phi} {n m : Nat} (h : n ≤ m) {c : SVal} (hc : wfS φ n c) : wfS φ m c := wfS_ext (Ext.refl _ _) h hc
theorem wfA_mono {φ : Phi} {n m : Nat} (h : n ≤ m) {c : AVal} (hc : wfA φ n c) : wfA φ m c := wfA_ext (Ext.refl _ _) h hc

theorem conc_extC {n : Nat} {φ φ' : Phi} (h : Ext n φ φ') {c : CVal} (hc : wfC φ n c) : concC φ' c = concC φ c := by
  cases c <;> simp only [wfC] at hc <;> simp only [concC, adr] <;> try first | rw [h _ hc] | rw [h _ hc.1]
  rename_i f caps
  have : caps.map (fun p => Value.pointer (some ⟨(φ' p.1).blk, (φ' p.1).base + p.2, none⟩)) = caps.map (fun p => Value.pointer (some ⟨(φ p.1).blk, (φ p.1).base + p.2, none⟩)) :=
    List.map_congr_left fun p hp => by rw [h _ (hc p hp)]
  rw [this]
theorem conc_extL {n : Nat} {φ φ' : Phi} (h : Ext n φ φ') {cs : List CVal} (hc : ∀ c ∈ cs, wfC φ n c) : cs.map (concC φ') = cs.map (concC φ) :=
  List.map_congr_left fun c hm => conc_extC h (hc c hm)
theorem conc_extS {n : Nat} {φ φ' : Phi} (h : Ext n φ φ') {c : SVal} (hc : wfS φ n c) : concS φ' c = concS φ c := by
  cases c with
  | one c => exact conc_extC h hc
  | agg cs => simp only [concS]; rw [conc_extL h hc]
theorem conc_extA {n : Nat} {φ φ' : Phi} (h : Ext n φ φ') {c : AVal} (hc : wfA φ n c) : concA φ' c = concA φ c := by
  cases c with
  | s c => exact conc_extS h hc
  | tup cs =>
    simp only [concA]
    rw [List.map_congr_left fun c hm => conc_extS h (hc c hm)]

/-- The frame's temporaries. -/
structure TRel (φ : Phi) (nt n : Nat) (t : Tr AVal) (a : Array Value) : Prop where
  size : a.size = nt
  get : ∀ i, i < nt → a[i]? = some (concA φ ((t.get (bn i)).getD aundef))
  out : ∀ i, nt ≤ i → t.get (bn i) = none
  wf : ∀ i v, t.get i = some v → wfA φ n v

def jumpOf : RExit → Code
  | .normal => .skip
  | .exit id => .exit id
  | .ret => .ret

/-- What an object of the abstract heap says of the world. -/
def ORel (φ : Phi) (n : Nat) (w : World) (b : BN) : AObj → Prop
  | .cells cs st => ∃ arr e, w.heap[(φ b).blk]? = some (.cells arr e (0, 0)) ∧ (∀ i c, cs[i]? = some c → arr[(φ b).base + i]? = some (concC φ c)) ∧
      (φ b).base + (φ b).cap * st ≤ arr.size ∧ ∀ c ∈ cs, wfC φ n c
  | .ro x f => w.heap[(φ b).blk]? = some x ∧ ∃ arr e fr, x = .cells arr e fr ∧ ∀ i c, f i = some c → arr[(φ b).base + i]? = some (concC φ c) ∧ wfC φ n c
  | .dead => True
  | .map es => ∃ ents clock, w.heap[(φ b).blk]? = some (.map ents clock) ∧ ents.toList.map (fun e => (e.key, e.val)) = es.map (fun p => (concS φ p.1, concS φ p.2)) ∧
      ∀ p ∈ es, wfS φ n p.1 ∧ wfS φ n p.2
  | .loop st pend _ nt tmps ps assign body d => ∃ arr fn, w.heap[(φ b).blk]? = some (.loop { state := st, pending := pend.map jumpOf, fn := fn, tmps := arr, params := ps, assign := assign, body := body, defers := (φ d).blk }) ∧
      TRel φ nt n tmps arr ∧ d.toNat < n
  | .defer => w.heap[(φ b).blk]? = some (.deferred (some []))

def live : AObj → Prop
  | .dead => False
  | _ => True

/-- The abstract heap describes (a part of) the world. 'w0', 'S': the world at the beginning and the blocks of it that are described; the others are as they were. -/
structure HRel (w0 : World) (S : Nat → Prop) (φ : Phi) (h : AHeap) (w : World) : Prop where
  keys : ∀ b o, h.t.get b = some o → b.toNat < h.n.toNat
  obj : ∀ b o, h.t.get b = some o → ORel φ h.n.toNat w b o
  inj : ∀ b b' o o', h.t.get b = some o → h.t.get b' = some o' → live o → live o' → (φ b).blk = (φ b').blk → b = b'
  own : ∀ b o, h.t.get b = some o → live o → (S (φ b).blk ∨ w0.heap.size ≤ (φ b).blk)
  os : w.os = w0.os
  tape : w.tape = w0.tape
  output : w.output = w0.output
  size : w0.heap.size ≤ w.heap.size
  kept : ∀ k, k < w0.heap.size → ¬ S k → w.heap[k]? = w0.heap[k]?

theorem TRel.ext {φ φ' : Phi} {nt n m : Nat} {t : Tr AVal} {a : Array Value} (h : TRel φ nt n t a) (he : Ext n φ φ') (hn : n ≤ m) : TRel φ' nt m t a :=
  ⟨h.size, fun i hi => by
    rw [h.get i hi]
    cases hg : t.get (bn i) with
    | none => rfl
    | some v => simp only [Option.getD_some]; rw [conc_extA he (h.wf _ _ hg)], h.out, fun i v hv => wfA_ext he hn (h.wf i v hv)⟩

theorem ORel.ext {φ φ' : Phi} {n m : Nat} {w : World} {b : BN} {o : AObj} (h : ORel φ n w b o) (hb : b.toNat < n) (he : Ext n φ φ') (hn : n ≤ m) : ORel φ' m w b o := by
  have eb := he b hb
  cases o with
  | cells cs st =>
    obtain ⟨arr, e, h1, h2, h3, h4⟩ := h
    refine ⟨arr, e, by rw [eb]; exact h1, fun i c hc => ?_, by rw [eb]; exact h3, fun c hc => wfC_ext he hn (h4 c hc)⟩
    rw [eb, conc_extC he (h4 c (List.mem_of_getElem? hc))]
    exact h2 i c hc
  | ro x f =>
    obtain ⟨h1, arr, e, fr, rfl, h2⟩ := h
    refine ⟨by rw [eb]; exact h1, arr, e, fr, rfl, fun i c hc => ?_⟩
    obtain ⟨k1, k2⟩ := h2 i c hc
    exact ⟨by rw [eb, conc_extC he k2]; exact k1, wfC_ext he hn k2⟩
  | dead => trivial
  | map es =>
    obtain ⟨ents, clock, h1, h2, h3⟩ := h
    refine ⟨ents, clock, by rw [eb]; exact h1, ?_, fun p hp => ⟨wfS_ext he hn (h3 p hp).1, wfS_ext he hn (h3 p hp).2⟩⟩
    rw [h2]
    exact List.map_congr_left fun p hp => by rw [conc_extS he (h3 p hp).1, conc_extS he (h3 p hp).2]
  | loop st pend fn nt tmps ps assign body d =>
    obtain ⟨arr, f, h1, h2, h3⟩ := h
    exact ⟨arr, f, by rw [eb, he d h3]; exact h1, h2.ext he hn, Nat.lt_of_lt_of_le h3 hn⟩
  | defer => unfold ORel at *; rw [eb]; exact h

/-- An object's word holds in every world in which its block is as it was. -/
theorem ORel.world {φ : Phi} {n : Nat} {w w' : World} {b : BN} {o : AObj} (h : ORel φ n w b o) (hl : live o → w'.heap[(φ b).blk]? = w.heap[(φ b).blk]?) : ORel φ n w' b o := by
  cases o with
  | cells cs st => obtain ⟨arr, e, h1, h2⟩ := h; exact ⟨arr, e, by rw [hl trivial]; exact h1, h2⟩
  | ro x f => obtain ⟨h1, h2⟩ := h; exact ⟨by rw [hl trivial]; exact h1, h2⟩
  | dead => trivial
  | map es => obtain ⟨ents, clock, h1, h2⟩ := h; exact ⟨ents, clock, by rw [hl trivial]; exact h1, h2⟩
  | loop st pend fn nt tmps ps assign body d => obtain ⟨arr, f, h1, h2⟩ := h; exact ⟨arr, f, by rw [hl trivial]; exact h1, h2⟩
  | defer => unfold ORel at *; rw [hl trivial]; exact h

/-- A live object's block is there. -/
theorem ORel.there {φ : Phi} {n : Nat} {w : World} {b : BN} {o : AObj} (h : ORel φ n w b o) (hl : live o) : (φ b).blk < w.heap.size := by
  have key : ∀ x, w.heap[(φ b).blk]? = some x → (φ b).blk < w.heap.size := fun x hx => (Array.getElem?_eq_some_iff.1 hx).1
  cases o with
  | cells cs st => obtain ⟨arr, e, h1, _⟩ := h; exact key _ h1
  | ro x f => exact key _ h.1
  | dead => exact hl.elim
  | map es => obtain ⟨ents, clock, h1, _⟩ := h; exact key _ h1
  | loop st pend fn nt tmps ps assign body d => obtain ⟨arr, f, h1, _⟩ := h; exact key _ h1
  | defer => exact key _ h

section
variable {w0 : World} {S : Nat → Prop} {φ : Phi} {h : AHeap} {w : World}

/-- A draw. -/
theorem HRel.drew (H : HRel w0 S φ h w) : HRel w0 S φ h { w with drawn := w.drawn + 1 } :=
  ⟨H.keys, fun b o hb => (H.obj b o hb).world fun _ => rfl, H.inj, H.own, H.os, H.tape, H.output, H.size, H.kept⟩

def upd (φ : Phi) (n : BN) (p : Pl) : Phi := fun b => if b = n then p else φ b

theorem upd_same (φ : Phi) (n : BN) (p : Pl) : upd φ n p n = p := by simp [upd]
theorem upd_ext (φ : Phi) (n : BN) (p : Pl) : Ext n.toNat φ (upd φ n p) := fun b hb => by
  have : b ≠ n := fun e => by rw [e] at hb; omega
  simp [upd, this]

/-- A new block of the world, described from now on. -/
theorem HRel.new (H : HRel w0 S φ h w) (x : Obj) (o : AObj) (p : Pl) (hp : p.blk = w.heap.size)
    (ho : ORel (upd φ h.n p) (h.n.toNat + 1) (w.alloc x) h.n o) : HRel w0 S (upd φ h.n p) (h.new o) (w.alloc x) := by
  have hold : ∀ b o', h.t.get b = some o' → b ≠ h.n := fun b o' hb e => by have := H.keys b o' hb; rw [e] at this; omega
  have hext := upd_ext φ h.n p
  have hget : ∀ b o', (h.new o).t.get b = some o' → (b = h.n ∧ o' = o) ∨ (b ≠ h.n ∧ h.t.get b = some o') := by
    intro b o' hb
    simp only [AHeap.new, get_set] at hb
    split at hb
    · rename_i e; exact .inl ⟨e, (Option.some.inj hb).symm⟩
    · rename_i e; exact .inr ⟨e, hb⟩
  have hnn : (h.new o).n.toNat = h.n.toNat + 1 := by simp [AHeap.new, BN.toNat_succ]
  have hblk : ∀ b o', h.t.get b = some o' → live o' → (φ b).blk < w.heap.size := fun b o' hb hl => (H.obj b o' hb).there hl
  have hsz : (w.alloc x).heap.size = w.heap.size + 1 := by simp
  refine ⟨?_, ?_, ?_, ?_, H.os, H.tape, H.output, by have := H.size; omega, ?_⟩
  · intro b o' hb
    rw [hnn]
    rcases hget b o' hb with ⟨e, _⟩ | ⟨_, hb'⟩
    · subst e; omega
    · have := H.keys b o' hb'; omega
  · intro b o' hb
    rw [hnn]
    rcases hget b o' hb with ⟨e, e2⟩ | ⟨hne, hb'⟩
    · subst e; subst e2; exact ho
    · refine ((H.obj b o' hb').world fun hl => ?_).ext (H.keys b o' hb') hext (by omega)
      exact Below.heap_alloc _ _ _ (hblk b o' hb' hl)
  · intro b b' o1 o2 hb hb' hl hl' he
    rcases hget b o1 hb with ⟨e, _⟩ | ⟨hne, hb1⟩ <;> rcases hget b' o2 hb' with ⟨e', _⟩ | ⟨hne', hb2⟩
    · rw [e, e']
    · subst e; rw [upd_same, hext b' (H.keys _ _ hb2)] at he
      have := hblk b' o2 hb2 hl'; omega
    · subst e'; rw [upd_same, hext b (H.keys _ _ hb1)] at he
      have := hblk b o1 hb1 hl; omega
    · rw [hext b (H.keys _ _ hb1), hext b' (H.keys _ _ hb2)] at he
      exact H.inj b b' o1 o2 hb1 hb2 hl hl' he
  · intro b o' hb hl
    rcases hget b o' hb with ⟨e, _⟩ | ⟨hne, hb'⟩
    · subst e; rw [upd_same, hp]; exact .inr H.size
    · rw [hext b (H.keys _ _ hb')]; exact H.own b o' hb' hl
  · intro k hk hS
    rw [Below.heap_alloc _ _ _ (by have := H.size; omega)]
    exact H.kept k hk hS

/-- A described block is written, or goes. -/
theorem HRel.put (H : HRel w0 S φ h w) {b : BN} {o o' : AObj} {w' : World} (hb : h.t.get b = some o) (hl : live o)
    (hw : ∀ k, k ≠ (φ b).blk → w'.heap[k]? = w.heap[k]?) (hs : w'.heap.size = w.heap.size) (hos : w'.os = w.os) (ht : w'.tape = w.tape) (hout : w'.output = w.output)
    (ho : ORel φ h.n.toNat w' b o') : HRel w0 S φ (h.put b o') w' := by
  have hget : ∀ c x, (h.put b o').t.get c = some x → (c = b ∧ x = o') ∨ (c ≠ b ∧ h.t.get c = some x) := by
    intro c x hc
    simp only [AHeap.put, get_set] at hc
    split at hc
    · rename_i e; exact .inl ⟨e, (Option.some.inj hc).symm⟩
    · rename_i e; exact .inr ⟨e, hc⟩
  refine ⟨?_, ?_, ?_, ?_, hos.trans H.os, ht.trans H.tape, hout.trans H.output, by rw [hs]; exact H.size, ?_⟩
  · intro c x hc
    rcases hget c x hc with ⟨e, _⟩ | ⟨_, hc'⟩
    · subst e; exact H.keys c o hb
    · exact H.keys c x hc'
  · intro c x hc
    rcases hget c x hc with ⟨e, e2⟩ | ⟨hne, hc'⟩
    · subst e; subst e2; exact ho
    · exact (H.obj c x hc').world fun hlx => hw _ fun e => hne (H.inj c b x o hc' hb hlx hl e)
  · intro c c' x x' hc hc' hlx hlx' he
    rcases hget c x hc with ⟨e, _⟩ | ⟨hne, hc1⟩ <;> rcases hget c' x' hc' with ⟨e', _⟩ | ⟨hne', hc2⟩
    · rw [e, e']
    · subst e; exact absurd (H.inj c' c x' o hc2 hb hlx' hl he.symm) hne'
    · subst e'; exact absurd (H.inj c c' x o hc1 hb hlx hl he) hne
    · exact H.inj c c' x x' hc1 hc2 hlx hlx' he
  · intro c x hc hlx
    rcases hget c x hc with ⟨e, _⟩ | ⟨hne, hc'⟩
    · subst e; exact H.own c o hb hl
    · exact H.own c x hc' hlx
  · intro k hk hS
    rw [hw k ?_]
    · exact H.kept k hk hS
    · intro e
      rcases H.own b o hb hl with h1 | h1
      · rw [← e] at h1; exact hS h1
      · omega

/-- A described block is given up; a new one is described that lies in it. -/
theorem HRel.move (H : HRel w0 S φ h w) {b : BN} {o o' : AObj} {w' : World} (hb : h.t.get b = some o) (hl : live o)
    (hw : ∀ k, k ≠ (φ b).blk → w'.heap[k]? = w.heap[k]?) (hs : w'.heap.size = w.heap.size) (hos : w'.os = w.os) (ht : w'.tape = w.tape) (hout : w'.output = w.output)
    (p : Pl) (hp : p.blk = (φ b).blk) (ho : ORel (upd φ h.n p) (h.n.toNat + 1) w' h.n o') : HRel w0 S (upd φ h.n p) ((h.put b .dead).new o') w' := by
  have H1 : HRel w0 S φ (h.put b .dead) w' := H.put hb hl hw hs hos ht hout trivial
  have hext := upd_ext φ h.n p
  have hnn : ((h.put b .dead).new o').n.toNat = h.n.toNat + 1 := by simp [AHeap.new, AHeap.put, BN.toNat_succ]
  have hget : ∀ c x, ((h.put b .dead).new o').t.get c = some x → (c = h.n ∧ x = o') ∨ (c ≠ h.n ∧ (h.put b .dead).t.get c = some x) := by
    intro c x hc
    simp only [AHeap.new, get_set] at hc
    split at hc
    · rename_i e; exact .inl ⟨e, (Option.some.inj hc).symm⟩
    · rename_i e; exact .inr ⟨e, hc⟩
  have hother : ∀ c x, (h.put b .dead).t.get c = some x → live x → (φ c).blk ≠ (φ b).blk := by
    intro c x hc hlx e
    simp only [AHeap.put, get_set] at hc
    split at hc
    · cases hc; exact hlx
    · rename_i hne; exact hne (H.inj c b x o hc hb hlx hl e)
  refine ⟨?_, ?_, ?_, ?_, H1.os, H1.tape, H1.output, H1.size, H1.kept⟩
  · intro c x hc
    rw [hnn]
    rcases hget c x hc with ⟨e, _⟩ | ⟨_, hc'⟩
    · subst e; omega
    · have : c.toNat < h.n.toNat := H1.keys c x hc'
      omega
  · intro c x hc
    rw [hnn]
    rcases hget c x hc with ⟨e, e2⟩ | ⟨_, hc'⟩
    · subst e; subst e2; exact ho
    · exact (H1.obj c x hc').ext (H1.keys c x hc') hext (Nat.le_succ _)
  · intro c c' x x' hc hc' hlx hlx' he
    rcases hget c x hc with ⟨e, _⟩ | ⟨hne, hc1⟩ <;> rcases hget c' x' hc' with ⟨e', _⟩ | ⟨hne', hc2⟩
    · rw [e, e']
    · subst e; rw [upd_same, hext c' (H1.keys _ _ hc2), hp] at he
      exact absurd he.symm (hother c' x' hc2 hlx')
    · subst e'; rw [upd_same, hext c (H1.keys _ _ hc1), hp] at he
      exact absurd he (hother c x hc1 hlx)
    · rw [hext c (H1.keys _ _ hc1), hext c' (H1.keys _ _ hc2)] at he
      exact H1.inj c c' x x' hc1 hc2 hlx hlx' he
  · intro c x hc hlx
    rcases hget c x hc with ⟨e, _⟩ | ⟨hne, hc'⟩
    · subst e; rw [upd_same, hp]; exact H.own b o hb hl
    · rw [hext c (H1.keys _ _ hc')]; exact H1.own c x hc' hlx

end
end Go.CE
