/-
  The symbolic form of code: frames are functions, and what follows is handed on, so that a function becomes one nest of its operations. No condition.
-/
import Derived.Test.YtpoejpijhnankaaGreatCEv
namespace Go.CE
noncomputable section

def fset (r : Fr) (v : AVal) : Option Nat → Fr
  | none => r
  | some d => fun i => bif Nat.beq i d then v else r i

def bindR {β : Type} (x : Res) (k : AVal → AHeap → Option β) : Option β :=
  match x with
  | some (v, h) => k v h
  | none => none

def wantV (v : AVal) (b : Bool) : Bool :=
  match v with
  | .s (.one (.bool c)) => c == b
  | _ => false

section
variable (P : Program)

/-- One operation. -/
def kOper (nt : Nat) (ops : Array Oper) (o : Oper) (call : Caller) (r : Fr) (h : AHeap) : Res :=
  bif inT nt o.dst then
    match o.guard with
    | none => cOpG P (coK r) o.op call .nil h
    | some (j, b) =>
      match (ops[j]?).bind (·.dst) with
      | some d => bif Nat.ble (Nat.succ d) nt then (bif wantV (r d) b then cOpG P (coK r) o.op call .nil h else some (aundef, h)) else none
      | none => none
  else none

/-- A plain move's value. -/
def movV (nt : Nat) (o : Oper) (r : Fr) : Option AVal :=
  match o.guard with
  | some _ => none
  | none =>
    bif inT nt o.dst then
      match o.op with
      | .move x => (coK r x).map fun c => c .nil
      | .assign x => (coK r x).map fun c => c .nil
      | _ => none
    else none

def kOps {β : Type} (nt : Nat) (ops : Array Oper) (call : Caller) : List Oper → Fr → AHeap → (Fr → AHeap → Option β) → Option β
  | [], r, h, k => k r h
  | o :: os, r, h, k =>
    match movV nt o r with
    | some v => kOps nt ops call os (fset r v o.dst) h k
    | none => bindR (kOper P nt ops o call r h) fun v h' => kOps nt ops call os (fset r v o.dst) h' k

def memB (i : Nat) : List Nat → Bool
  | [] => false
  | j :: l => bif Nat.beq i j then true else memB i l
def rrestr (r : Fr) (l : List Nat) : Fr := fun i => bif memB i l then r i else aundef

def sameK (run : AHeap → Res) (v : AVal) : List AHeap → Bool
  | [] => true
  | h :: hs =>
    (match run h with
    | some (v', _) => eqA v v'
    | none => false) && sameK run v hs

def chkK (hs : List AHeap) : List ((AHeap → Res) × AVal × Nat × Nat) → Bool
  | [] => true
  | (run, v, lo, hi) :: l => (Nat.beq lo hi || sameK run v ((hs.drop lo).take (Nat.sub (Nat.succ hi) lo))) && chkK hs l

/-- A region that draws its order. -/
def kDr {β : Type} (nt : Nat) (ops : Array Oper) (call : Caller) (bs : List Nat) (es : List Bool) : Nat → List Oper → Fr → AHeap → List AHeap → List ((AHeap → Res) × AVal × Nat × Nat) → (Fr → AHeap → Option β) → Option β
  | _, [], r, h, hs, cs, k => bif chkK (hs ++ [h]) cs then k r h else none
  | i, o :: os, r, h, hs, cs, k =>
    match movV nt o (rrestr r (o.looksAt ops)) with
    | some v => kDr nt ops call bs es (Nat.succ i) os (fset r v o.dst) h hs (cs ++ [(kOper P nt ops o call (rrestr r (o.looksAt ops)), v, ce (fun j => bef bs j i) 0 es, ce (fun j => !bef bs i j) 0 es)]) k
    | none => bindR (kOper P nt ops o call (rrestr r (o.looksAt ops)) h) fun v h' =>
    bif quietOp o.op then kDr nt ops call bs es (Nat.succ i) os (fset r v o.dst) h hs (cs ++ [(kOper P nt ops o call (rrestr r (o.looksAt ops)), v, ce (fun j => bef bs j i) 0 es, ce (fun j => !bef bs i j) 0 es)]) k
    else kDr nt ops call bs es (Nat.succ i) os (fset r v o.dst) h' (hs ++ [h]) cs k

/-- A loop over what it writes. -/
def loopL (c : List AVal → AHeap → Option (RExit × List AVal × AHeap)) : Nat → List AVal → AHeap → Option (RExit × List AVal × AHeap)
  | 0, _, _ => none
  | n + 1, r, h =>
    match c r h with
    | some (.normal, r', h') => loopL c n r' h'
    | x => x

def bindX {β : Type} (x : Option (RExit × List AVal × AHeap)) (kx : Nat → List AVal → AHeap → Option β) (kr : List AVal → AHeap → Option β) : Option β :=
  match x with
  | some (.exit id, r, h) => kx id r h
  | some (.ret, r, h) => kr r h
  | _ => none

def ifK {β : Type} (v : AVal) (a b : Option β) : Option β :=
  match v with
  | .s (.one (.bool q)) => bif q then a else b
  | _ => none

def thenK {β : Type} (a : Fr → AHeap → Option β) (k : RExit → Fr → AHeap → Option β) : RExit → Fr → AHeap → Option β
  | .normal, r, h => a r h
  | .exit id, r, h => k (.exit id) r h
  | .ret, r, h => k .ret r h
def outK {β : Type} (id : Nat) (k : RExit → Fr → AHeap → Option β) : RExit → Fr → AHeap → Option β
  | .exit id', r, h => bif Nat.beq id' id then k .normal r h else k (.exit id') r h
  | .normal, r, h => k .normal r h
  | .ret, r, h => k .ret r h

/-- The temporaries that code writes. -/
def writes : Code → List Nat
  | .region _ ops _ => ops.toList.filterMap (·.dst)
  | .seq a b => writes a ++ writes b
  | .cond _ a b => writes a ++ writes b
  | .block _ c => writes c
  | .loop c => writes c
  | _ => []
/-- The place of a slot. -/
def nthA : List AVal → Nat → AVal
  | [], _ => aundef
  | v :: l, n => bif Nat.beq n 0 then v else nthA l (Nat.sub n 1)
/-- The frame of a loop: what it writes, and the rest as it was ahead of it. -/
def mixL : List Nat → Nat → Fr → List AVal → Fr
  | [], _, r, _ => r
  | w :: W, k, r, ys => fun i => bif Nat.beq i w then nthA ys k else mixL W (Nat.succ k) r ys i

def kCode (nt : Nat) (call : Caller) (f : Nat) : Code → {β : Type} → Fr → AHeap → (RExit → Fr → AHeap → Option β) → Option β
  | .skip, _, r, h, k => k .normal r h
  | .region _ ops draw, _, r, h, k =>
    bif draw then (bif P.follows .mixedOrders && drawOk ops (befs ops.toList) then kDr P nt ops call (befs ops.toList) (effs ops.toList) 0 ops.toList r h [] [] (fun r h => k .normal r h) else none)
    else kOps P nt ops call ops.toList r h (fun r h => k .normal r h)
  | .seq a b, _, r, h, k => kCode nt call f a r h (thenK (fun r h => kCode nt call f b r h k) k)
  | .cond c a b, _, r, h, k =>
    match coK r c with
    | some c => ifK (c .nil) (kCode nt call f a r h k) (kCode nt call f b r h k)
    | none => none
  | .block id c, _, r, h, k => kCode nt call f c r h (outK id k)
  | .loop c, _, r, h, k => bindX (loopL (fun ys h => kCode nt call f c (mixL (writes c) 0 r ys) h (fun e s h => some (e, (writes c).map s, h))) f ((writes c).map r) h)
      (fun id ys h => k (.exit id) (mixL (writes c) 0 r ys) h) (fun ys h => k .ret (mixL (writes c) 0 r ys) h)
  | .exit id, _, r, h, k => k (.exit id) r h
  | .ret, _, r, h, k => k .ret r h
  | _, _, _, _, _ => none

def resV (v : AVal) : Option SVal :=
  match v with
  | .s v => some v
  | _ => none
def resP (n : Option Nat) (v : AVal) (h : AHeap) : Option SVal :=
  match v with
  | .s (.one (.ptr b off)) => resCell n off (h.t.get b)
  | _ => none
def consV (v : Option SVal) (l : Option (List SVal)) : Option (List SVal) :=
  match v with
  | some v => consO v l
  | none => none
def resK1 (r : Fr) (h : AHeap) : ResultVar → Option SVal
  | .tmp i => resV (r i)
  | .cell i t =>
    match sizeT P t with
    | some n => resP n (r i) h
    | none => none
def resKL (r : Fr) (h : AHeap) : List ResultVar → Option (List SVal)
  | [] => some []
  | x :: rs => consV (resK1 P r h x) (resKL r h rs)

def endK (rs : List ResultVar) : RExit → Fr → AHeap → Res
  | .exit _, _, _ => none
  | .normal, r, h => evRes h (resKL P r h rs)
  | .ret, r, h => evRes h (resKL P r h rs)

/-- A function's call. -/
def kFun (g : Nat) (call : Caller) (f : Nat) (args : List AVal) (h : AHeap) : Res :=
  match P.funcs[g]? with
  | some fn =>
    match fn.body with
    | some c => bif (cRes P fn.results.toList).isNone || fn.name == "runtime.NumGoroutine" then none else bif lenA args fn.ntmps then kCode P fn.ntmps call f c (frOf (enterT .z .nil args)) h (endK P fn.results.toList) else none
    | none => none
  | none => none
end

end

section
variable {P : Program} {nt : Nat}

theorem beq_iff (a b : Nat) : Nat.beq a b = true ↔ a = b := ⟨Nat.eq_of_beq_eq_true, fun h => by subst h; exact Nat.beq_refl a⟩

theorem frOf_setT (t : Tr AVal) (v : AVal) (d : Option Nat) : frOf (setT t v (d.map bn)) = fset (frOf t) v d := by
  cases d with
  | none => rfl
  | some d =>
    funext i
    simp only [frOf, setT, fset, tmpF, Option.map_some]
    cases hq : Nat.beq i d with
    | true => rw [(beq_iff i d).1 hq, get_set_same]; rfl
    | false =>
      have : bn i ≠ bn d := fun e => by rw [(beq_iff i d).2 (bn_inj e)] at hq; cases hq
      rw [get_set_other _ _ _ _ this]; rfl

theorem want_eq (t : Tr AVal) (g : Nat) (b : Bool) : want t (some (bn g, b)) = wantV (frOf t g) b := by
  simp only [want, frOf, tmpF]
  cases t.get (bn g) with
  | none => rfl
  | some v => cases v with
    | tup _ => rfl
    | s v => cases v with
      | agg _ => rfl
      | one c => cases c <;> rfl

theorem kOper_eq (ops : Array Oper) (o : Oper) (call : Caller) (t : Tr AVal) (h : AHeap) (v : AVal) (h' : AHeap) (e : kOper P nt ops o call (frOf t) h = some (v, h')) :
    evOne call (cOper P nt ops o) t h = some (v, h') ∧ (cOper P nt ops o).dst = o.dst.map bn := by
  unfold kOper at e
  unfold cOper
  cases hin : inT nt o.dst with
  | false => rw [hin] at e; cases e
  | true =>
    rw [hin] at e
    simp only [cond_true] at e ⊢
    cases hg : o.guard with
    | none =>
      rw [hg] at e
      simp only [cOpG_eq] at e
      exact ⟨e, rfl⟩
    | some p =>
      obtain ⟨j, b⟩ := p
      rw [hg] at e
      simp only at e ⊢
      cases hd : (ops[j]?).bind (·.dst) with
      | none => rw [hd] at e; cases e
      | some d =>
        rw [hd] at e
        simp only at e ⊢
        cases hb : Nat.ble (Nat.succ d) nt with
        | false => rw [hb] at e; cases e
        | true =>
          rw [hb] at e
          simp only [cond_true, cOpG_eq] at e ⊢
          refine ⟨?_, trivial⟩
          unfold evOne
          simp only
          rw [want_eq]
          exact e

theorem evOper_eq (call : Caller) (o : ROper) (t : Tr AVal) (h : AHeap) : evOper call o t h = setR t o.dst (evOne call o t h) := by
  obtain ⟨d, op, g⟩ := o
  simp only [evOper, evOne]
  cases want t g <;> rfl

theorem fset_other {r : Fr} {v : AVal} {d : Option Nat} {i : Nat} (h : d ≠ some i) : fset r v d i = r i := by
  cases d with
  | none => rfl
  | some d =>
    simp only [fset]
    cases hq : Nat.beq i d with
    | true => exact absurd (by rw [(beq_iff i d).1 hq]) h
    | false => rfl

theorem movV_eq {ops : Array Oper} {o : Oper} {call : Caller} {r : Fr} {v : AVal} (e : movV nt o r = some v) (h : AHeap) : kOper P nt ops o call r h = some (v, h) ∧ quietOp o.op = true := by
  unfold movV at e
  unfold kOper
  cases hg : o.guard with
  | some p => rw [hg] at e; cases e
  | none =>
    rw [hg] at e
    simp only at e ⊢
    cases hi : inT nt o.dst with
    | false => rw [hi] at e; cases e
    | true =>
      rw [hi] at e
      simp only [cond_true] at e ⊢
      split at e
      · rename_i x hx
        rw [hx]
        simp only [cOpG, quietOp]
        cases hc : coK r x with
        | none => rw [hc] at e; cases e
        | some c => rw [hc] at e; cases e; exact ⟨rfl, trivial⟩
      · rename_i x hx
        rw [hx]
        simp only [cOpG, quietOp]
        cases hc : coK r x with
        | none => rw [hc] at e; cases e
        | some c => rw [hc] at e; cases e; exact ⟨rfl, trivial⟩
      · cases e

theorem kOps_cons {β : Type} (ops : Array Oper) (call : Caller) (o : Oper) (os : List Oper) (r : Fr) (h : AHeap) (k : Fr → AHeap → Option β) :
    kOps P nt ops call (o :: os) r h k = bindR (kOper P nt ops o call r h) fun v h' => kOps P nt ops call os (fset r v o.dst) h' k := by
  rw [kOps]
  split
  · rename_i v hv
    rw [(movV_eq hv h).1]
    rfl
  · rfl

theorem kDr_cons {β : Type} (ops : Array Oper) (call : Caller) (bs : List Nat) (es : List Bool) (i : Nat) (o : Oper) (os : List Oper) (r : Fr) (h : AHeap) (hs : List AHeap) (cs : List ((AHeap → Res) × AVal × Nat × Nat)) (k : Fr → AHeap → Option β) :
    kDr P nt ops call bs es i (o :: os) r h hs cs k = bindR (kOper P nt ops o call (rrestr r (o.looksAt ops)) h) fun v h' =>
      bif quietOp o.op then kDr P nt ops call bs es (Nat.succ i) os (fset r v o.dst) h hs (cs ++ [(kOper P nt ops o call (rrestr r (o.looksAt ops)), v, ce (fun j => bef bs j i) 0 es, ce (fun j => !bef bs i j) 0 es)]) k
      else kDr P nt ops call bs es (Nat.succ i) os (fset r v o.dst) h' (hs ++ [h]) cs k := by
  rw [kDr]
  split
  · rename_i v hv
    rw [(movV_eq hv h).1]
    simp only [bindR]
    rw [(movV_eq (P := P) (ops := ops) (call := call) hv h).2]
    rfl
  · rfl

theorem kOps_ok {β : Type} (ops : Array Oper) (call : Caller) : ∀ (os : List Oper) (t : Tr AVal) (h : AHeap) (k : Fr → AHeap → Option β) (x : β), kOps P nt ops call os (frOf t) h k = some x →
    ∃ t' h', evOps call (os.map (cOper P nt ops)) t h = some (t', h') ∧ k (frOf t') h' = some x ∧ ∀ i, i ∉ os.filterMap (·.dst) → frOf t' i = frOf t i
  | [], t, h, k, x, e => ⟨t, h, rfl, e, fun _ _ => rfl⟩
  | o :: os, t, h, k, x, e => by
    rw [kOps_cons] at e
    simp only [bindR] at e
    split at e
    · rename_i v h' hq
      obtain ⟨e1, e2⟩ := kOper_eq ops o call t h v h' hq
      rw [← frOf_setT] at e
      obtain ⟨t', h'', e3, e4, e5⟩ := kOps_ok ops call os _ _ _ _ e
      refine ⟨t', h'', ?_, e4, fun i hi => ?_⟩
      · rw [List.map_cons, evOps_cons, evOper_eq, e1, e2]
        exact e3
      · simp only [List.filterMap_cons] at hi
        rw [e5 i, frOf_setT, fset_other]
        · intro hd; rw [hd] at hi; simp at hi
        · intro hm; apply hi; cases o.dst <;> simp [hm]
    · cases e

theorem memB_iff (i : Nat) : ∀ l : List Nat, memB i l = true ↔ i ∈ l
  | [] => by simp [memB]
  | j :: l => by
    simp only [memB, List.mem_cons]
    cases hq : Nat.beq i j with
    | true => simp [(beq_iff i j).1 hq]
    | false =>
      have : i ≠ j := fun e => by rw [(beq_iff i j).2 e] at hq; cases hq
      simp [this, memB_iff i l]

theorem frOf_restr (t : Tr AVal) (l : List Nat) : frOf (restr t (l.map bn)) = rrestr (frOf t) l := by
  funext i
  simp only [frOf, rrestr, tmpF]
  rw [restr_get]
  have hm : bn i ∈ l.map bn ↔ i ∈ l := ⟨fun h => by obtain ⟨j, h1, h2⟩ := List.mem_map.1 h; exact bn_inj h2 ▸ h1, fun h => List.mem_map_of_mem h⟩
  cases hq : memB i l with
  | true => rw [if_pos (hm.2 ((memB_iff i l).1 hq))]; rfl
  | false => rw [if_neg (fun hh => by rw [(memB_iff i l).2 (hm.1 hh)] at hq; cases hq)]; rfl

theorem sameK_ok {call : Caller} {ops : Array Oper} {o : Oper} {t : Tr AVal} {v : AVal} : ∀ hs : List AHeap, sameK (kOper P nt ops o call (frOf t)) v hs = true → sameAt call (cOper P nt ops o) t v hs = true
  | [], _ => rfl
  | h :: hs, e => by
    simp only [sameK] at e
    obtain ⟨e1, e2⟩ := and2 e
    unfold sameAt
    split at e1
    · rename_i v' h' hq
      obtain ⟨k1, _⟩ := kOper_eq ops o call t h v' h' hq
      rw [k1]
      simp only
      rw [e1, sameK_ok hs e2]
      rfl
    · cases e1

/-- What is still to be checked, as the evaluator has it. -/
def CkR (P : Program) (nt : Nat) (ops : Array Oper) (call : Caller) : List ((AHeap → Res) × AVal × Nat × Nat) → List (DOper × Tr AVal × AVal) → Prop
  | [], l => ∀ x ∈ l, x.1.eff = true
  | (run, v, lo, hi) :: cs, l => ∃ pre d tr rest, l = pre ++ (d, tr, v) :: rest ∧ (∀ x ∈ pre, x.1.eff = true) ∧ d.lo = lo ∧ d.hi = hi ∧ (∃ o, d.rop = cOper P nt ops o ∧ run = kOper P nt ops o call (frOf tr)) ∧ CkR P nt ops call cs rest

theorem checkD_app (call : Caller) (hs : List AHeap) (l l' : List (DOper × Tr AVal × AVal)) : checkD call hs (l ++ l') = (checkD call hs l && checkD call hs l') := by
  induction l with
  | nil => rfl
  | cons x l ih => obtain ⟨d, tr, v⟩ := x; simp only [List.cons_append, checkD, ih, Bool.and_assoc]
theorem checkD_eff (call : Caller) (hs : List AHeap) : ∀ l : List (DOper × Tr AVal × AVal), (∀ x ∈ l, x.1.eff = true) → checkD call hs l = true
  | [], _ => rfl
  | (d, tr, v) :: l, h => by
    simp only [checkD]
    rw [h _ (List.mem_cons_self ..), checkD_eff call hs l fun x hx => h x (List.mem_cons_of_mem _ hx)]
    rfl
theorem chk_ok {call : Caller} {ops : Array Oper} {hs : List AHeap} : ∀ (cs : List ((AHeap → Res) × AVal × Nat × Nat)) (l : List (DOper × Tr AVal × AVal)), CkR P nt ops call cs l → chkK hs cs = true → checkD call hs l = true
  | [], l, h, _ => checkD_eff call hs l h
  | (run, v, lo, hi) :: cs, l, ⟨pre, d, tr, rest, h1, h2, h3, h4, ⟨o, h5, h6⟩, h7⟩, e => by
    subst h1 h3 h4 h6
    simp only [chkK] at e
    obtain ⟨e1, e2⟩ := and2 e
    rw [checkD_app, checkD_eff call hs pre h2]
    simp only [checkD, Bool.true_and]
    rw [chk_ok cs rest h7 e2, Bool.and_true]
    rcases Bool.or_eq_true _ _ |>.mp e1 with k | k
    · rw [k]; simp
    · rw [h5, sameK_ok _ k]; simp
theorem CkR_eff {call : Caller} {ops : Array Oper} {x : DOper × Tr AVal × AVal} (hx : x.1.eff = true) : ∀ (cs : List ((AHeap → Res) × AVal × Nat × Nat)) (l : List (DOper × Tr AVal × AVal)), CkR P nt ops call cs l → CkR P nt ops call cs (l ++ [x])
  | [], l, h => fun y hy => by
    rcases List.mem_append.1 hy with k | k
    · exact h y k
    · rw [List.mem_singleton.1 k]; exact hx
  | (run, v, lo, hi) :: cs, l, ⟨pre, d, tr, rest, h1, h2, h3, h4, h5, h6⟩ => ⟨pre, d, tr, rest ++ [x], by rw [h1]; simp, h2, h3, h4, h5, CkR_eff hx cs rest h6⟩
theorem CkR_quiet {call : Caller} {ops : Array Oper} {d : DOper} {tr : Tr AVal} {v : AVal} {o : Oper} (hd : d.rop = cOper P nt ops o) : ∀ (cs : List ((AHeap → Res) × AVal × Nat × Nat)) (l : List (DOper × Tr AVal × AVal)), CkR P nt ops call cs l →
    CkR P nt ops call (cs ++ [(kOper P nt ops o call (frOf tr), v, d.lo, d.hi)]) (l ++ [(d, tr, v)])
  | [], l, h => ⟨l, d, tr, [], rfl, h, rfl, rfl, ⟨o, hd, rfl⟩, fun y hy => by cases hy⟩
  | (run, v', lo, hi) :: cs, l, ⟨pre, d', tr', rest, h1, h2, h3, h4, h5, h6⟩ => ⟨pre, d', tr', rest ++ [(d, tr, v)], by rw [h1]; simp, h2, h3, h4, h5, CkR_quiet hd cs rest h6⟩

theorem lastH_app (h h0 : AHeap) : ∀ hs : List AHeap, lastH h0 (hs ++ [h]) = h
  | [] => rfl
  | x :: hs => lastH_app h x hs

theorem kDr_ok {β : Type} (ops : Array Oper) (call : Caller) (bs : List Nat) (es : List Bool) (k : Fr → AHeap → Option β) (x : β) :
    ∀ (os : List Oper) (i : Nat) (t : Tr AVal) (h : AHeap) (hs : List AHeap) (cs : List ((AHeap → Res) × AVal × Nat × Nat)) (l0 : List (DOper × Tr AVal × AVal)), CkR P nt ops call cs l0 →
      kDr P nt ops call bs es i os (frOf t) h hs cs k = some x →
      ∃ l t' hs', evD call (cDrawnL P nt ops bs es i os) t h = some (l, t', hs') ∧ checkD call (hs ++ hs') (l0 ++ l) = true ∧ hs' ≠ [] ∧ k (frOf t') (lastH h hs') = some x ∧ ∀ i, i ∉ os.filterMap (·.dst) → frOf t' i = frOf t i
  | [], i, t, h, hs, cs, l0, hc, e => by
    simp only [kDr] at e
    cases hq : chkK (hs ++ [h]) cs with
    | false => rw [hq] at e; cases e
    | true =>
      rw [hq] at e
      exact ⟨[], t, [h], rfl, by rw [List.append_nil]; exact chk_ok cs l0 hc hq, by simp, e, fun _ _ => rfl⟩
  | o :: os, i, t, h, hs, cs, l0, hc, e => by
    rw [kDr_cons] at e
    simp only [bindR] at e
    split at e
    · rename_i v h' hq
      rw [← frOf_restr] at hq e
      obtain ⟨e1, e2⟩ := kOper_eq ops o call _ h v h' hq
      rw [← frOf_setT] at e
      simp only [cDrawnL, evD]
      rw [e1]
      simp only
      cases hqo : quietOp o.op with
      | true =>
        rw [hqo] at e
        simp only [cond_true, Bool.not_true, cond_false] at e ⊢
        obtain ⟨l, t', hs', k1, k2, k3, k4, k5⟩ := kDr_ok ops call bs es k x os _ _ _ _ _ (l0 ++ [(⟨cOper P nt ops o, (o.looksAt ops).map bn, false, ce (fun j => bef bs j i) 0 es, ce (fun j => !bef bs i j) 0 es⟩, restr t ((o.looksAt ops).map bn), v)])
          (CkR_quiet (d := ⟨cOper P nt ops o, (o.looksAt ops).map bn, false, ce (fun j => bef bs j i) 0 es, ce (fun j => !bef bs i j) 0 es⟩) rfl cs l0 hc) e
        rw [e2, k1]
        refine ⟨_, _, _, rfl, ?_, ?_, ?_, fun i hi => ?_⟩
        · rw [List.append_assoc] at k2; exact k2
        · exact k3
        · exact k4
        · simp only [List.filterMap_cons] at hi
          rw [k5 i, frOf_setT, fset_other]
          · intro hd; rw [hd] at hi; simp at hi
          · intro hm; apply hi; cases o.dst <;> simp [hm]
      | false =>
        rw [hqo] at e
        simp only [cond_false, Bool.not_false, cond_true] at e ⊢
        obtain ⟨l, t', hs', k1, k2, k3, k4, k5⟩ := kDr_ok ops call bs es k x os _ _ _ _ _ (l0 ++ [(⟨cOper P nt ops o, (o.looksAt ops).map bn, true, ce (fun j => bef bs j i) 0 es, ce (fun j => !bef bs i j) 0 es⟩, restr t ((o.looksAt ops).map bn), v)])
          (CkR_eff rfl cs l0 hc) e
        rw [e2, k1]
        refine ⟨_, _, _, rfl, ?_, ?_, ?_, fun i hi => ?_⟩
        · rw [List.append_assoc, List.append_assoc] at k2; exact k2
        · simp [consD]
        · simp only [cond_true, lastH]
          cases hs' with
          | nil => exact absurd rfl k3
          | cons a b => exact k4
        · simp only [List.filterMap_cons] at hi
          rw [k5 i, frOf_setT, fset_other]
          · intro hd; rw [hd] at hi; simp at hi
          · intro hm; apply hi; cases o.dst <;> simp [hm]
    · cases e

theorem nthA_eq : ∀ (l : List AVal) (n : Nat), nthA l n = (l[n]?).getD aundef
  | [], _ => rfl
  | v :: l, n => by
    cases n with
    | zero => rfl
    | succ n => simp only [nthA, List.getElem?_cons_succ]; exact nthA_eq l n
theorem mixL_aux {r s : Fr} (V : List Nat) : ∀ (W : List Nat) (k : Nat), (∀ n w, W[n]? = some w → V[k + n]? = some w) → ∀ i, (i ∉ W → s i = r i) → mixL W k r (V.map s) i = s i
  | [], k, _, i, h => (h (by simp)).symm
  | w :: W, k, hW, i, h => by
    simp only [mixL]
    cases hq : Nat.beq i w with
    | true =>
      have := hW 0 w rfl
      simp only [cond_true, nthA_eq, List.getElem?_map]
      rw [Nat.add_zero] at this
      rw [this, (beq_iff i w).1 hq]
      rfl
    | false =>
      simp only [cond_false]
      refine mixL_aux V W (k + 1) (fun n w' hn => ?_) i (fun hi => h ?_)
      · have := hW (n + 1) w' hn
        rwa [show k + 1 + n = k + (n + 1) by omega]
      · intro hm
        rcases List.mem_cons.1 hm with rfl | hm
        · rw [(beq_iff i i).2 rfl] at hq; cases hq
        · exact hi hm
theorem mixL_eq {W : List Nat} {r s : Fr} (h : ∀ i, i ∉ W → s i = r i) : mixL W 0 r (W.map s) = s :=
  funext fun i => mixL_aux W W 0 (fun n w hn => by rwa [Nat.zero_add]) i (h i)

theorem loopL_ok {call : Caller} {f fn : Nat} {c : Code} {r0 : Fr} (H : ∀ (β : Type) (t : Tr AVal) (d : List BN) (h : AHeap) (k : RExit → Fr → AHeap → Option β) (x : β), kCode P nt call f c (frOf t) h k = some x →
      ∃ e t' h', cCode P nt c call f fn none ⟨t, d, h⟩ = some (e, ⟨t', d, h'⟩) ∧ k e (frOf t') h' = some x ∧ ∀ i, i ∉ writes c → frOf t' i = frOf t i) :
    ∀ (n : Nat) (t : Tr AVal) (d : List BN) (h : AHeap) (e : RExit) (ys : List AVal) (h' : AHeap), (∀ i, i ∉ writes c → frOf t i = r0 i) →
      loopL (fun ys h => kCode P nt call f c (mixL (writes c) 0 r0 ys) h (fun e s h => some (e, (writes c).map s, h))) n ((writes c).map (frOf t)) h = some (e, ys, h') →
      ∃ t', loopN (cCode P nt c call f fn none) n ⟨t, d, h⟩ = some (e, ⟨t', d, h'⟩) ∧ ys = (writes c).map (frOf t') ∧ ∀ i, i ∉ writes c → frOf t' i = r0 i
  | 0, _, _, _, _, _, _, _, e => by cases e
  | n + 1, t, d, h, e, ys, h', ht, hh => by
    simp only [loopL] at hh
    rw [mixL_eq ht] at hh
    have hN : loopN (cCode P nt c call f fn none) (n + 1) ⟨t, d, h⟩ = (match cCode P nt c call f fn none ⟨t, d, h⟩ with
      | some (.normal, s') => loopN (cCode P nt c call f fn none) n s'
      | r => r) := rfl
    rw [hN]
    split at hh
    · rename_i r1 h1 hq
      obtain ⟨e1, t1, h2, k1, k2, k3⟩ := H _ t d h _ _ hq
      cases k2
      rw [k1]
      exact loopL_ok H n t1 d h1 e ys h' (fun i hi => (k3 i hi).trans (ht i hi)) hh
    · rename_i x hx
      obtain ⟨e1, t1, h2, k1, k2, k3⟩ := H _ t d h _ _ hh
      cases k2
      rw [k1]
      cases e with
      | normal => exact absurd hh (hx _ _)
      | exit id => exact ⟨t1, rfl, rfl, fun i hi => (k3 i hi).trans (ht i hi)⟩
      | ret => exact ⟨t1, rfl, rfl, fun i hi => (k3 i hi).trans (ht i hi)⟩

theorem kCode_ok {call : Caller} {f fn : Nat} (c : Code) : ∀ (β : Type) (t : Tr AVal) (d : List BN) (h : AHeap) (k : RExit → Fr → AHeap → Option β) (x : β), kCode P nt call f c (frOf t) h k = some x →
    ∃ e t' h', cCode P nt c call f fn none ⟨t, d, h⟩ = some (e, ⟨t', d, h'⟩) ∧ k e (frOf t') h' = some x ∧ ∀ i, i ∉ writes c → frOf t' i = frOf t i := by
  induction c with
  | skip => exact fun β t d h k x e => ⟨.normal, t, h, rfl, e, fun _ _ => rfl⟩
  | region id ops draw =>
    intro β t d h k x e
    simp only [kCode] at e
    simp only [cCode]
    cases draw with
    | false =>
      simp only [cond_false] at e ⊢
      obtain ⟨t', h', k1, k2, k3⟩ := kOps_ok ops call ops.toList t h _ x e
      exact ⟨.normal, t', h', by simp only [regF, k1]; rfl, k2, k3⟩
    | true =>
      simp only [cond_true] at e ⊢
      cases hq : P.follows .mixedOrders && drawOk ops (befs ops.toList) with
      | false => rw [hq] at e; cases e
      | true =>
        rw [hq] at e
        simp only [cond_true] at e ⊢
        obtain ⟨l, t', hs', k1, k2, k3, k4, k5⟩ := kDr_ok ops call _ _ _ x ops.toList 0 t h [] [] [] (fun y hy => by cases hy) e
        refine ⟨.normal, t', lastH h hs', ?_, k4, k5⟩
        simp only [drawnF, cDrawn]
        rw [k1]
        simp only
        rw [List.nil_append, List.nil_append] at k2
        rw [k2]
        rfl
  | seq a b iha ihb =>
    intro β t d h k x e
    simp only [kCode] at e
    obtain ⟨e1, t1, h1, k1, k2, k3⟩ := iha β t d h _ x e
    simp only [cCode, seqF]
    rw [k1]
    have hw : ∀ i, i ∉ writes (a.seq b) → i ∉ writes a ∧ i ∉ writes b := fun i hi => by simpa [writes] using hi
    cases e1 with
    | normal =>
      obtain ⟨e2, t2, h2, j1, j2, j3⟩ := ihb β t1 d h1 k x k2
      exact ⟨e2, t2, h2, j1, j2, fun i hi => (j3 i (hw i hi).2).trans (k3 i (hw i hi).1)⟩
    | exit id => exact ⟨_, t1, h1, rfl, k2, fun i hi => k3 i (hw i hi).1⟩
    | ret => exact ⟨_, t1, h1, rfl, k2, fun i hi => k3 i (hw i hi).1⟩
  | cond c a b iha ihb =>
    intro β t d h k x e
    simp only [kCode] at e
    simp only [cCode]
    have hw : ∀ i, i ∉ writes (Code.cond c a b) → i ∉ writes a ∧ i ∉ writes b := fun i hi => by simpa [writes] using hi
    rcases co_rel (t := t) c with ⟨h1, h2⟩ | ⟨p, q, h1, h2, h3⟩
    · rw [h1] at e; cases e
    · rw [h1] at e
      rw [h2]
      simp only [ifK, condF] at e ⊢
      rw [h3] at e
      split at e
      · rename_i qq hqq
        rw [hqq]
        cases qq with
        | true =>
          obtain ⟨e2, t2, h2, j1, j2, j3⟩ := iha β t d h k x e
          exact ⟨e2, t2, h2, j1, j2, fun i hi => j3 i (hw i hi).1⟩
        | false =>
          obtain ⟨e2, t2, h2, j1, j2, j3⟩ := ihb β t d h k x e
          exact ⟨e2, t2, h2, j1, j2, fun i hi => j3 i (hw i hi).2⟩
      · cases e
  | block id c ih =>
    intro β t d h k x e
    simp only [kCode] at e
    obtain ⟨e1, t1, h1, k1, k2, k3⟩ := ih β t d h _ x e
    simp only [cCode, blockF]
    rw [k1]
    cases e1 with
    | normal => exact ⟨_, t1, h1, rfl, k2, k3⟩
    | ret => exact ⟨_, t1, h1, rfl, k2, k3⟩
    | exit id' =>
      simp only [outF, outK] at k2 ⊢
      cases hq : Nat.beq id' id with
      | true => rw [hq] at k2; exact ⟨_, t1, h1, rfl, k2, k3⟩
      | false => rw [hq] at k2; exact ⟨_, t1, h1, rfl, k2, k3⟩
  | loop c ih =>
    intro β t d h k x e
    simp only [kCode, bindX] at e
    simp only [cCode, loopF]
    split at e
    · rename_i id ys h1 hq
      obtain ⟨t', k1, k2, k3⟩ := loopL_ok ih f t d h _ ys h1 (fun _ _ => rfl) hq
      rw [k2, mixL_eq k3] at e
      exact ⟨_, t', h1, k1, e, k3⟩
    · rename_i ys h1 hq
      obtain ⟨t', k1, k2, k3⟩ := loopL_ok ih f t d h _ ys h1 (fun _ _ => rfl) hq
      rw [k2, mixL_eq k3] at e
      exact ⟨_, t', h1, k1, e, k3⟩
    · cases e
  | exit id => exact fun β t d h k x e => ⟨.exit id, t, h, rfl, e, fun _ _ => rfl⟩
  | ret => exact fun β t d h k x e => ⟨.ret, t, h, rfl, e, fun _ _ => rfl⟩
  | _ => intro β t d h k x e; simp only [kCode] at e; cases e

theorem resK_eq (t : Tr AVal) (h : AHeap) : ∀ (l : List ResultVar) (rs : List (BN × Option (Option Nat))), cRes P l = some rs → resKL P (frOf t) h l = evResL t h rs
  | [], rs, e => by cases e; rfl
  | .tmp i :: l, rs, e => by
    simp only [cRes] at e
    split at e
    · rename_i rs' hq
      cases e
      simp only [resKL, evResL]
      rw [resK_eq t h l rs' hq]
      simp only [resK1, evRes1, resV, frOf, tmpF]
      cases t.get (bn i) with
      | none => rfl
      | some v => cases v <;> rfl
    · cases e
  | .cell i ty :: l, rs, e => by
    simp only [cRes] at e
    split at e
    · rename_i n rs' hn hq
      cases e
      simp only [resKL, evResL]
      rw [resK_eq t h l rs' hq]
      simp only [resK1, evRes1, resP, frOf, tmpF, hn]
      cases t.get (bn i) with
      | none => rfl
      | some v =>
        cases v with
        | tup _ => rfl
        | s v => cases v with
          | agg _ => rfl
          | one c => cases c <;> rfl
    · cases e

theorem cFs_eq (P : Program) (g : Nat) : cFs (cProg P) g = (P.funcs[g]?).bind (cFunc P) := by
  unfold cFs cProg
  have := ofList_get (P.funcs.toList.map (cFunc P)) 0 .nil g
  rw [show bn 0 = BN.z from rfl] at this
  rw [this]
  simp only [Nat.not_lt_zero, if_false, Nat.sub_zero, List.getElem?_map, Array.getElem?_toList]
  have hn : (Tr.nil : Tr (Option RFunc)).get (bn g) = none := by cases bn g <;> rfl
  cases P.funcs[g]? with
  | none => simp [hn]
  | some fn => simp

/-- **A call in its symbolic form is the call.** -/
theorem kFun_ok {g : Nat} {call : Caller} {f : Nat} {args : List AVal} {h : AHeap} {x : AVal × AHeap} (e : kFun P g call f args h = some x) : evFun (cFs (cProg P)) call f g args h = some x := by
  unfold kFun at e
  unfold evFun
  rw [cFs_eq]
  cases hf : P.funcs[g]? with
  | none => rw [hf] at e; cases e
  | some fn =>
    rw [hf] at e
    simp only [Option.bind_some] at e ⊢
    unfold cFunc
    cases hb : fn.body with
    | none => rw [hb] at e; cases e
    | some c =>
      rw [hb] at e
      simp only at e ⊢
      cases hr : cRes P fn.results.toList with
      | none => rw [hr] at e; cases e
      | some rs =>
        rw [hr] at e
        simp only [Option.isNone_some, Bool.false_or] at e ⊢
        cases hn : fn.name == "runtime.NumGoroutine" with
        | true => rw [hn] at e; cases e
        | false =>
          rw [hn] at e
          simp only [cond_false] at e ⊢
          cases hl : lenA args fn.ntmps with
          | false => rw [hl] at e; cases e
          | true =>
            rw [hl] at e
            simp only [cond_true] at e ⊢
            obtain ⟨e1, t1, h1, k1, k2, _⟩ := kCode_ok (fn := g) c _ _ [] h _ _ e
            rw [k1]
            cases e1 with
            | exit id => cases k2
            | normal => simp only [endK, resK_eq _ _ _ _ hr] at k2; exact k2
            | ret => simp only [endK, resK_eq _ _ _ _ hr] at k2; exact k2
end
end Go.CE
