/-
  The symbolic form of an operation: the operands' values in place of the temporaries. No condition.
-/
import Derived.Test.YtpoejpijhnankaaGreatCEu
namespace Go.CE
noncomputable section

/-- A frame as a function. -/
abbrev Fr := Nat → AVal
def frOf (t : Tr AVal) : Fr := fun i => tmpF (bn i) t

def coK (r : Fr) : Operand → Option Opd
  | .tmp t => some (constF (r t))
  | .const v => match cVal v with | some s => some (constF (.s s)) | none => none
  | .func f => some (constF (.s (.one (.fn f []))))
  | .global _ => none

def cOpdsG (co : Operand → Option Opd) : List Operand → Option (List Opd)
  | [] => some []
  | x :: xs =>
    match co x, cOpdsG co xs with
    | some y, some ys => some (y :: ys)
    | _, _ => none

def cOptG (co : Operand → Option Opd) : Option Operand → Option (Option Opd)
  | none => some none
  | some x => match co x with | some y => some (some y) | none => none

section
variable (P : Program)

def fieldPartsG (co : Operand → Option Opd) (fs : Array Field) : List (Nat × Operand) → Option (List (Nat × Nat × Opd))
  | [] => some []
  | (i, x) :: r =>
    match fs[i]?, co x, fieldPartsG co fs r with
    | some f, some y, some rest =>
      match P.info? f.type with
      | some info => some ((f.offset, info.size, y) :: rest)
      | none => none
    | _, _, _ => none

def elemPartsG (co : Operand → Option Opd) (size : Nat) : List (Nat × Operand) → Option (List (Nat × Nat × Opd))
  | [] => some []
  | (i, x) :: r =>
    match co x, elemPartsG co size r with
    | some y, some rest => some ((i * size, size, y) :: rest)
    | _, _ => none

def cOpG (co : Operand → Option Opd) (o : Op) : OpFn := orBad <| match o with
  | .move x | .assign x => (co x).map opMv
  | .pick c a b => do pure (opPick (← co c) (← co a) (← co b))
  | .alloc t => do pure (opAlloc (← zeroT P t).cells)
  | .box _ x => do pure (opBox (← co x))
  | .build t parts =>
    match P.underlying t, zeroT P t with
    | some (.struct fs), some z => bif allInfo P fs.toList then do pure (opBuild z.cells (← fieldPartsG P co fs parts.toList)) else none
    | some (.array _ e), some z =>
      match P.info? e with
      | some i => do pure (opBuild z.cells (← elemPartsG co i.size parts.toList))
      | none => none
    | _, _ => none
  | .buildSlice t len parts =>
    match P.underlying t with
    | some (.slice e) =>
      match P.info? e with
      | some i =>
        bif Nat.ble (len * i.size) 16777216 then
          match (bif Nat.beq (len * i.size) 0 then some [] else (zeroT P e).map SVal.cells) with
          | some zs => bif Nat.beq (len * i.size) 0 || Nat.beq zs.length i.size then do pure (opBslice i.size len (repl zs len) (← elemPartsG co i.size parts.toList)) else none
          | none => none
        else none
      | none => none
    | _ => none
  | .load t x => do pure (opLoad (← sizeT P t) (← co x))
  | .store t x v => do pure (opStore (← P.info? t).size (← co x) (← co v))
  | .nilCheck x => do pure (opNilck (← co x))
  | .binOp op t x y _ =>
    match P.underlying t with
    | some (.int _) =>
      match op with
      | .shl => do pure (opShift evShl (← co x) (← co y))
      | .shr => do pure (opShift evShr (← co x) (← co y))
      | op => do pure (opInt (intFn op) (← co x) (← co y))
    | some .string => do pure (opStr op (← co x) (← co y))
    | some (.slice _) =>
      match op with
      | .eql => do pure (opNilS false (← co x) (← co y))
      | .neq => do pure (opNilS true (← co x) (← co y))
      | _ => none
    | some (.func _ _ _) =>
      match op with
      | .eql => do pure (opNilF false (← co x) (← co y))
      | .neq => do pure (opNilF true (← co x) (← co y))
      | _ => none
    | some _ =>
      bif P.eqGuardType P.depth t then none else
      match op with
      | .eql => do pure (opEq (← keyT P t) false (← co x) (← co y))
      | .neq => do pure (opEq (← keyT P t) true (← co x) (← co y))
      | _ => none
    | none => none
  | .unOp .not _ x => do pure (opNot (← co x))
  | .unOp .neg _ x => do pure (opNeg (← co x))
  | .convert s d x =>
    match P.underlying s, P.underlying d with
    | some (.int _), some (.int k) => do pure (opConv k (← co x))
    | _, _ => none
  | .makeFunc (.func f) first captured => bif first.isEmpty then do pure (opMkfn f (← cOpdsG co captured.toList)) else none
  | .makeMap _ none => some opMkmap
  | .makeSlice t l c =>
    match P.underlying t with
    | some (.slice e) =>
      match P.info? e, zeroT P e with
      | some i, some z => bif Nat.beq z.cells.length i.size && !Nat.beq i.size 0 then do pure (opMkslice i.size z.cells i.bytes (← co l) (← co c)) else none
      | _, _ => none
    | _ => none
  | .slice t x lo hi mx =>
    match P.underlying t with
    | some (.slice e) =>
      match P.info? e with
      | some i => bif mx.isSome && !hi.isSome then none else do pure (opSlice i.size (← co x) (← cOptG co lo) (← cOptG co hi) (← cOptG co mx))
      | none => none
    | some .string => bif mx.isSome then none else do pure (opSslice (← co x) (← cOptG co lo) (← cOptG co hi))
    | _ => none
  | .fieldAddr t x f =>
    match P.underlying t with
    | some (.struct fs) =>
      match fs[f]? with
      | some fd =>
        match P.info? fd.type with
        | some i => bif Nat.beq i.size 0 then none else do pure (opFoff (← co x) fd.offset)
        | none => none
      | none => none
    | _ => none
  | .field t x f =>
    match P.underlying t with
    | some (.struct fs) =>
      match fs[f]? with
      | some fd => do pure (opField (← co x) fd.offset (← sizeT P fd.type))
      | none => none
    | _ => none
  | .indexAddr t x i =>
    match P.underlying t with
    | some (.slice e) =>
      match P.info? e with
      | some info => do pure (opIxs info.size (← co x) (← co i))
      | none => none
    | some (.array len e) =>
      match P.info? e with
      | some info => do pure (opIxarr len info.size (← co x) (← co i))
      | none => none
    | _ => none
  | .index t x i =>
    match P.underlying t with
    | some (.array len e) =>
      match P.info? e with
      | some info => do pure (opIxagg len info.size (← sizeT P e) (← co x) (← co i))
      | none => none
    | some .string => do pure (opIxstr (← co x) (← co i))
    | _ => none
  | .lookup t m k ok =>
    match P.underlying t with
    | some (.map key e) => do pure (opLookup (← keyT P key) (← zeroT P e) ok (← co m) (← co k))
    | _ => none
  | .mapUpdate t m k v | .insert t m k v =>
    match P.underlying t with
    | some (.map key _) => do pure (opMupd (← keyT P key) (← co m) (← co k) (← co v))
    | _ => none
  | .extract x i => do pure (opExtract (← co x) i)
  | .call c =>
    match c.callee with
    | .value f => do pure (opCall (← co f) (← cOpdsG co c.args.toList))
    | .builtin .len =>
      match c.argTypes[0]?, c.args[0]? with
      | some t, some x =>
        match P.underlying t with
        | some .string => do pure (opLenS (← co x))
        | some (.slice _) => do pure (opLenL (← co x))
        | some (.map _ _) => do pure (opLenM (← co x))
        | some (.array n _) => some (opMv (constF (.s (.one (.int .i64 (.ofNat n))))))
        | _ => none
      | _, _ => none
    | .builtin .append =>
      match c.argTypes.toList, c.args.toList with
      | [t, t2], [s, x] =>
        match P.underlying t with
        | some (.slice e) =>
          match P.info? e, zeroT P e with
          | some i, some z =>
            bif Nat.beq z.cells.length i.size && !Nat.beq i.size 0 then
              match P.underlying t2 with
              | some (.slice _) => do pure (opAppend false i.size i.bytes (← co s) (← co x))
              | some .string => do pure (opAppend true i.size i.bytes (← co s) (← co x))
              | _ => none
            else none
          | _, _ => none
        | _ => none
      | _, _ => none
    | .builtin .clear =>
      match c.argTypes[0]?, c.args[0]? with
      | some t, some x =>
        match P.underlying t with
        | some (.slice e) =>
          match P.info? e, zeroT P e with
          | some i, some z => bif Nat.beq z.cells.length i.size && !Nat.beq i.size 0 then do pure (opClear i.size z.cells (← co x)) else none
          | _, _ => none
        | _ => none
      | _, _ => none
    | .builtin .max =>
      match cOpdsG co c.args.toList with
      | some (x :: xs) => some (opMinmax true x xs)
      | _ => none
    | .builtin .min =>
      match cOpdsG co c.args.toList with
      | some (x :: xs) => some (opMinmax false x xs)
      | _ => none
    | _ => none
  | _ => none

end

end

section
variable {P : Program} {t : Tr AVal}

/-- Two operands that give the same. -/
def OR (t : Tr AVal) (a b : Option Opd) : Prop := (a = none ∧ b = none) ∨ ∃ x y, a = some x ∧ b = some y ∧ x .nil = y t
theorem co_rel (x : Operand) : OR t (coK (frOf t) x) (cOpd x) := by
  cases x with
  | tmp i => exact .inr ⟨_, _, rfl, rfl, rfl⟩
  | const v =>
    simp only [coK, cOpd]
    cases cVal v with
    | none => exact .inl ⟨rfl, rfl⟩
    | some s => exact .inr ⟨_, _, rfl, rfl, rfl⟩
  | func f => exact .inr ⟨_, _, rfl, rfl, rfl⟩
  | global g => exact .inl ⟨rfl, rfl⟩

def LR (t : Tr AVal) : List Opd → List Opd → Prop
  | [], [] => True
  | x :: xs, y :: ys => x .nil = y t ∧ LR t xs ys
  | _, _ => False
theorem cos_rel : ∀ l : List Operand, (cOpdsG (coK (frOf t)) l = none ∧ cOpds l = none) ∨ ∃ xs ys, cOpdsG (coK (frOf t)) l = some xs ∧ cOpds l = some ys ∧ LR t xs ys
  | [] => .inr ⟨[], [], rfl, rfl, trivial⟩
  | x :: l => by
    simp only [cOpdsG, cOpds]
    rcases co_rel (t := t) x with ⟨h1, h2⟩ | ⟨a, b, h1, h2, h3⟩
    · rw [h1, h2]; exact .inl ⟨rfl, rfl⟩
    · rw [h1, h2]
      rcases cos_rel l with ⟨k1, k2⟩ | ⟨as, bs, k1, k2, k3⟩
      · rw [k1, k2]; exact .inl ⟨rfl, rfl⟩
      · rw [k1, k2]; exact .inr ⟨_, _, rfl, rfl, h3, k3⟩
def PR (t : Tr AVal) : List (Nat × Nat × Opd) → List (Nat × Nat × Opd) → Prop
  | [], [] => True
  | x :: xs, y :: ys => x.1 = y.1 ∧ x.2.1 = y.2.1 ∧ x.2.2 .nil = y.2.2 t ∧ PR t xs ys
  | _, _ => False
theorem fieldParts_rel (fs : Array Field) : ∀ l : List (Nat × Operand), (fieldPartsG P (coK (frOf t)) fs l = none ∧ fieldParts P fs l = none) ∨ ∃ xs ys, fieldPartsG P (coK (frOf t)) fs l = some xs ∧ fieldParts P fs l = some ys ∧ PR t xs ys
  | [] => .inr ⟨[], [], rfl, rfl, trivial⟩
  | (i, x) :: l => by
    simp only [fieldPartsG, fieldParts]
    cases fs[i]? with
    | none => exact .inl ⟨rfl, rfl⟩
    | some f =>
      rcases co_rel (t := t) x with ⟨h1, h2⟩ | ⟨a, b, h1, h2, h3⟩
      · rw [h1, h2]; exact .inl ⟨rfl, rfl⟩
      · rw [h1, h2]
        rcases fieldParts_rel fs l with ⟨k1, k2⟩ | ⟨as, bs, k1, k2, k3⟩
        · rw [k1, k2]; exact .inl ⟨rfl, rfl⟩
        · rw [k1, k2]
          simp only
          cases P.info? f.type with
          | none => exact .inl ⟨rfl, rfl⟩
          | some i => exact .inr ⟨_, _, rfl, rfl, rfl, rfl, h3, k3⟩
theorem elemParts_rel (n : Nat) : ∀ l : List (Nat × Operand), (elemPartsG (coK (frOf t)) n l = none ∧ elemParts n l = none) ∨ ∃ xs ys, elemPartsG (coK (frOf t)) n l = some xs ∧ elemParts n l = some ys ∧ PR t xs ys
  | [] => .inr ⟨[], [], rfl, rfl, trivial⟩
  | (i, x) :: l => by
    simp only [elemPartsG, elemParts]
    rcases co_rel (t := t) x with ⟨h1, h2⟩ | ⟨a, b, h1, h2, h3⟩
    · rw [h1, h2]; exact .inl ⟨rfl, rfl⟩
    · rw [h1, h2]
      rcases elemParts_rel n l with ⟨k1, k2⟩ | ⟨as, bs, k1, k2, k3⟩
      · rw [k1, k2]; exact .inl ⟨rfl, rfl⟩
      · rw [k1, k2]; exact .inr ⟨_, _, rfl, rfl, rfl, rfl, h3, k3⟩
theorem fillR_rel : ∀ (xs ys : List (Nat × Nat × Opd)) (cs : List CVal), PR t xs ys → fillR .nil xs cs = fillR t ys cs
  | [], [], _, _ => rfl
  | (a, b, x) :: xs, (a', b', y) :: ys, cs, ⟨h1, h2, h3, h4⟩ => by
    simp only at h1 h2 h3
    subst h1 h2
    simp only [fillR]
    rw [h3]
    cases y t with
    | tup _ => rfl
    | s v =>
      simp only
      cases lenIs v.cells b with
      | false => rfl
      | true =>
        simp only [cond_true]
        cases putAt v.cells cs a with
        | none => rfl
        | some cs' => exact fillR_rel xs ys cs' h4
theorem map_rel : ∀ (xs ys : List Opd), LR t xs ys → xs.map (fun x => x .nil) = ys.map (fun x => x t)
  | [], [], _ => rfl
  | x :: xs, y :: ys, ⟨h1, h2⟩ => by rw [List.map_cons, List.map_cons, h1, map_rel xs ys h2]
theorem ptrs_rel : ∀ (xs ys : List Opd), LR t xs ys → ptrs .nil xs = ptrs t ys
  | [], [], _ => rfl
  | x :: xs, y :: ys, ⟨h1, h2⟩ => by simp only [ptrs]; rw [h1, ptrs_rel xs ys h2]
theorem minI_rel (m : Bool) (k : IntKind) : ∀ (xs ys : List Opd) (z : Int), LR t xs ys → minI m k .nil xs z = minI m k t ys z
  | [], [], _, _ => rfl
  | x :: xs, y :: ys, z, ⟨h1, h2⟩ => by
    simp only [minI]
    rw [h1]
    split
    · rename_i k' y' _
      cases eqK k k' with
      | false => rfl
      | true => exact minI_rel m k xs ys _ h2
    · rfl
def QR (t : Tr AVal) (a b : Option Opd) : Prop := (a = none ∧ b = none) ∨ ∃ x y, a = some x ∧ b = some y ∧ x .nil = y t
theorem QR.bnd {a b : Option Opd} (h : QR t a b) (d y : Nat) : bnd .nil a d y = CE.bnd t b d y := by
  rcases h with ⟨rfl, rfl⟩ | ⟨x, z, rfl, rfl, h⟩
  · rfl
  · simp only [CE.bnd]; rw [h]
theorem opt_rel (x : Option Operand) : (cOptG (coK (frOf t)) x = none ∧ cOpt x = none) ∨ ∃ a b, cOptG (coK (frOf t)) x = some a ∧ cOpt x = some b ∧ QR t a b := by
  cases x with
  | none => exact .inr ⟨none, none, rfl, rfl, .inl ⟨rfl, rfl⟩⟩
  | some x =>
    simp only [cOptG, cOpt]
    rcases co_rel (t := t) x with ⟨h1, h2⟩ | ⟨a, b, h1, h2, h3⟩
    · rw [h1, h2]; exact .inl ⟨rfl, rfl⟩
    · rw [h1, h2]; exact .inr ⟨_, _, rfl, rfl, .inr ⟨_, _, rfl, rfl, h3⟩⟩
theorem sliceUn_rel {lo hi mx lo' hi' mx' : Option Opd} (h1 : QR t lo lo') (h2 : QR t hi hi') (h3 : QR t mx mx') (st : Nat) (h : AHeap) (b : BN) (off len cap : Nat) :
    sliceUn st lo hi mx .nil h b off len cap = sliceUn st lo' hi' mx' t h b off len cap := by
  have e1 := h1.bnd
  have e2 := h2.bnd
  have e3 := h3.bnd
  rcases h3 with ⟨rfl, rfl⟩ | ⟨x, z, rfl, rfl, h⟩
  · simp only [sliceUn, e2, e1]
  · rcases h2 with ⟨rfl, rfl⟩ | ⟨x', z', rfl, rfl, h'⟩
    · simp only [sliceUn, e3]
    · simp only [sliceUn, e3, e2, e1]

variable (call : Caller) (h : AHeap)

/-- **An operation with its operands' values is the operation.** -/
theorem cOpG_eq (o : Op) : cOpG P (coK (frOf t)) o call .nil h = cOp P o call t h := by
  cases o with
  | move x => rcases co_rel (t := t) x with ⟨h1, h2⟩ | ⟨a, b, h1, h2, h3⟩ <;> simp only [cOpG, cOp, h1, h2, orBad, Option.map_none, Option.map_some, opMv, opBad, *]
  | assign x => rcases co_rel (t := t) x with ⟨h1, h2⟩ | ⟨a, b, h1, h2, h3⟩ <;> simp only [cOpG, cOp, h1, h2, orBad, Option.map_none, Option.map_some, opMv, opBad, *]
  | pick c a b =>
    rcases co_rel (t := t) c with ⟨h1c, h2c⟩ | ⟨oac, obc, h1c, h2c, h3c⟩ <;> rcases co_rel (t := t) a with ⟨h1a, h2a⟩ | ⟨oaa, oba, h1a, h2a, h3a⟩ <;> rcases co_rel (t := t) b with ⟨h1b, h2b⟩ | ⟨oab, obb, h1b, h2b, h3b⟩ <;> simp [cOpG, cOp, h1c, h2c, h1a, h2a, h1b, h2b, orBad, opBad, opPick, *]
  | alloc ty =>
    simp only [cOpG, cOp]
    cases zeroT P ty <;> rfl
  | box ty x =>
    rcases co_rel (t := t) x with ⟨h1, h2⟩ | ⟨a, b, h1, h2, h3⟩ <;> simp [cOpG, cOp, h1, h2, orBad, opBad, opBox, *]
  | build ty parts =>
    simp only [cOpG, cOp]
    cases P.underlying ty with
    | none => rfl
    | some u =>
      cases zeroT P ty with
      | none => cases u <;> rfl
      | some z =>
        cases u with
        | struct fs =>
          simp only
          cases allInfo P fs.toList with
          | false => rfl
          | true =>
            rcases fieldParts_rel (P := P) (t := t) fs parts.toList with ⟨h1, h2⟩ | ⟨xs, ys, h1, h2, h3⟩
            · simp only [cond_true, h1, h2]; rfl
            · simp only [cond_true, h1, h2, Option.bind_eq_bind, Option.bind_some, Option.pure_def, orBad, opBuild, fillR_rel _ _ _ h3]
        | array n e =>
          simp only
          cases P.info? e with
          | none => rfl
          | some i =>
            rcases elemParts_rel (t := t) i.size parts.toList with ⟨h1, h2⟩ | ⟨xs, ys, h1, h2, h3⟩
            · simp only [h1, h2]; rfl
            · simp only [h1, h2, Option.bind_eq_bind, Option.bind_some, Option.pure_def, orBad, opBuild, fillR_rel _ _ _ h3]
        | _ => rfl
  | buildSlice ty len parts =>
    simp only [cOpG, cOp]
    cases P.underlying ty with
    | none => rfl
    | some u =>
      cases u with
      | slice e =>
        simp only
        cases P.info? e with
        | none => rfl
        | some i =>
          simp only
          cases Nat.ble (len * i.size) 16777216 with
          | false => rfl
          | true =>
            simp only [cond_true]
            generalize (bif Nat.beq (len * i.size) 0 then some [] else (zeroT P e).map SVal.cells) = q
            cases q with
            | none => rfl
            | some zs =>
              simp only
              generalize (Nat.beq (len * i.size) 0 || Nat.beq zs.length i.size) = q2
              cases q2 with
              | false => rfl
              | true =>
                rcases elemParts_rel (t := t) i.size parts.toList with ⟨h1, h2⟩ | ⟨xs, ys, h1, h2, h3⟩
                · simp only [cond_true, h1, h2]; rfl
                · simp only [cond_true, h1, h2, Option.bind_eq_bind, Option.bind_some, Option.pure_def, orBad, opBslice, fillR_rel _ _ _ h3]
      | _ => rfl
  | load ty x =>
    simp only [cOpG, cOp]
    cases sizeT P ty with
    | none => rfl
    | some n =>
      rcases co_rel (t := t) x with ⟨h1, h2⟩ | ⟨a, b, h1, h2, h3⟩ <;> simp [h1, h2, orBad, opBad, opLoad, *]
  | store ty x v =>
    simp only [cOpG, cOp]
    cases P.info? ty with
    | none => rfl
    | some n =>
      rcases co_rel (t := t) x with ⟨h1x, h2x⟩ | ⟨oax, obx, h1x, h2x, h3x⟩ <;> rcases co_rel (t := t) v with ⟨h1v, h2v⟩ | ⟨oav, obv, h1v, h2v, h3v⟩ <;> simp [h1x, h2x, h1v, h2v, orBad, opBad, opStore, *]
  | nilCheck x =>
    rcases co_rel (t := t) x with ⟨h1, h2⟩ | ⟨a, b, h1, h2, h3⟩ <;> simp [cOpG, cOp, h1, h2, orBad, opBad, opNilck, *]
  | binOp op ty x y ty2 =>
    simp only [cOpG, cOp]
    cases P.underlying ty with
    | none => rfl
    | some u =>
      rcases co_rel (t := t) x with ⟨h1x, h2x⟩ | ⟨oax, obx, h1x, h2x, h3x⟩ <;> rcases co_rel (t := t) y with ⟨h1y, h2y⟩ | ⟨oay, oby, h1y, h2y, h3y⟩ <;> simp only [h1x, h2x, h1y, h2y]
      all_goals (cases u <;> first | rfl | skip)
      all_goals (try generalize P.eqGuardType P.depth ty = q)
      all_goals (try generalize keyT P ty = q2)
      all_goals (cases op <;> first | rfl | simp only [Option.bind_eq_bind, Option.bind_some, Option.bind_none, Option.pure_def, orBad, opInt, opShift, opStr, opNilS, opNilF, opBad, *])
      all_goals (cases q <;> first | rfl | skip)
      all_goals (cases q2 <;> first | rfl | simp only [cond_false, Option.bind_eq_bind, Option.bind_some, Option.bind_none, Option.pure_def, orBad, opEq, *])
  | unOp op ty x =>
    cases op <;> first | rfl | (rcases co_rel (t := t) x with ⟨h1, h2⟩ | ⟨a, b, h1, h2, h3⟩ <;> simp [cOpG, cOp, h1, h2, orBad, opBad, opNot, opNeg, *])
  | convert s d x =>
    simp only [cOpG, cOp]
    cases P.underlying s with
    | none => rfl
    | some u =>
      cases P.underlying d with
      | none => cases u <;> rfl
      | some u2 =>
        cases u <;> first | rfl | skip
        cases u2 <;> first | rfl | skip
        rcases co_rel (t := t) x with ⟨h1, h2⟩ | ⟨a, b, h1, h2, h3⟩ <;> simp [h1, h2, orBad, opBad, opConv, *]
  | makeFunc fn first captured =>
    cases fn <;> first | rfl | skip
    simp only [cOpG, cOp]
    cases first.isEmpty with
    | false => rfl
    | true =>
      rcases cos_rel (t := t) captured.toList with ⟨h1, h2⟩ | ⟨xs, ys, h1, h2, h3⟩
      · simp only [cond_true, h1, h2]; rfl
      · simp only [cond_true, h1, h2, Option.bind_eq_bind, Option.bind_some, Option.pure_def, orBad, opMkfn, ptrs_rel _ _ h3]
  | makeMap ty r =>
    cases r <;> rfl
  | makeSlice ty l c =>
    simp only [cOpG, cOp]
    cases P.underlying ty with
    | none => rfl
    | some u =>
      cases u with
      | slice e =>
        simp only
        cases P.info? e with
        | none => rfl
        | some i =>
          cases zeroT P e with
          | none => rfl
          | some z =>
            simp only
            generalize (Nat.beq z.cells.length i.size && !Nat.beq i.size 0) = q
            cases q with
            | false => rfl
            | true => rcases co_rel (t := t) l with ⟨h1l, h2l⟩ | ⟨oal, obl, h1l, h2l, h3l⟩ <;> rcases co_rel (t := t) c with ⟨h1c, h2c⟩ | ⟨oac, obc, h1c, h2c, h3c⟩ <;> simp [h1l, h2l, h1c, h2c, orBad, opBad, opMkslice, *]
      | _ => rfl
  | slice ty x lo hi mx =>
    simp only [cOpG, cOp]
    cases P.underlying ty with
    | none => rfl
    | some u =>
      cases u with
      | slice e =>
        simp only
        cases P.info? e with
        | none => rfl
        | some i =>
          simp only
          generalize (mx.isSome && !hi.isSome) = q
          cases q with
          | true => rfl
          | false =>
            rcases co_rel (t := t) x with ⟨h1x, h2x⟩ | ⟨oax, obx, h1x, h2x, h3x⟩
            · simp only [h1x, h2x, cond_false]; rfl
            · rcases opt_rel (t := t) lo with ⟨k1, k2⟩ | ⟨l1, l2, k1, k2, k3⟩
              · simp only [h1x, h2x, k1, k2, cond_false]; rfl
              · rcases opt_rel (t := t) hi with ⟨m1, m2⟩ | ⟨g1, g2, m1, m2, m3⟩
                · simp only [h1x, h2x, k1, k2, m1, m2, cond_false]; rfl
                · rcases opt_rel (t := t) mx with ⟨n1, n2⟩ | ⟨j1, j2, n1, n2, n3⟩
                  · simp only [h1x, h2x, k1, k2, m1, m2, n1, n2, cond_false]; rfl
                  · simp only [h1x, h2x, k1, k2, m1, m2, n1, n2, cond_false, Option.bind_eq_bind, Option.bind_some, Option.pure_def, orBad, opSlice, h3x, sliceNil, sliceEx, sliceUn_rel k3 m3 n3, k3.bnd, m3.bnd, n3.bnd]
      | string =>
        simp only
        cases mx.isSome with
        | true => rfl
        | false =>
          rcases co_rel (t := t) x with ⟨h1x, h2x⟩ | ⟨oax, obx, h1x, h2x, h3x⟩
          · simp only [h1x, h2x, cond_false]; rfl
          · rcases opt_rel (t := t) lo with ⟨k1, k2⟩ | ⟨l1, l2, k1, k2, k3⟩
            · simp only [h1x, h2x, k1, k2, cond_false]; rfl
            · rcases opt_rel (t := t) hi with ⟨m1, m2⟩ | ⟨g1, g2, m1, m2, m3⟩
              · simp only [h1x, h2x, k1, k2, m1, m2, cond_false]; rfl
              · simp only [h1x, h2x, k1, k2, m1, m2, cond_false, Option.bind_eq_bind, Option.bind_some, Option.pure_def, orBad, opSslice, h3x, k3.bnd, m3.bnd]
      | _ => rfl
  | fieldAddr ty x f =>
    simp only [cOpG, cOp]
    cases P.underlying ty with
    | none => rfl
    | some u =>
      cases u with
      | struct fs =>
        simp only
        cases fs[f]? with
        | none => rfl
        | some fd =>
          simp only
          cases P.info? fd.type with
          | none => rfl
          | some i =>
            simp only
            cases Nat.beq i.size 0 with
            | true => rfl
            | false => rcases co_rel (t := t) x with ⟨h1, h2⟩ | ⟨a, b, h1, h2, h3⟩ <;> simp [h1, h2, orBad, opBad, opFoff, *]
      | _ => rfl
  | field ty x f =>
    simp only [cOpG, cOp]
    cases P.underlying ty with
    | none => rfl
    | some u =>
      cases u with
      | struct fs =>
        simp only
        cases fs[f]? with
        | none => rfl
        | some fd =>
          simp only
          rcases co_rel (t := t) x with ⟨h1, h2⟩ | ⟨a, b, h1, h2, h3⟩ <;> cases sizeT P fd.type <;> simp [h1, h2, orBad, opBad, opField, *]
      | _ => rfl
  | indexAddr ty x i =>
    simp only [cOpG, cOp]
    cases P.underlying ty with
    | none => rfl
    | some u =>
      cases u with
      | slice e =>
        simp only
        cases P.info? e with
        | none => rfl
        | some n => rcases co_rel (t := t) x with ⟨h1x, h2x⟩ | ⟨oax, obx, h1x, h2x, h3x⟩ <;> rcases co_rel (t := t) i with ⟨h1i, h2i⟩ | ⟨oai, obi, h1i, h2i, h3i⟩ <;> simp [h1x, h2x, h1i, h2i, orBad, opBad, opIxs, *]
      | array len e =>
        simp only
        cases P.info? e with
        | none => rfl
        | some n => rcases co_rel (t := t) x with ⟨h1x, h2x⟩ | ⟨oax, obx, h1x, h2x, h3x⟩ <;> rcases co_rel (t := t) i with ⟨h1i, h2i⟩ | ⟨oai, obi, h1i, h2i, h3i⟩ <;> simp [h1x, h2x, h1i, h2i, orBad, opBad, opIxarr, *]
      | _ => rfl
  | index ty x i =>
    simp only [cOpG, cOp]
    cases P.underlying ty with
    | none => rfl
    | some u =>
      cases u with
      | array len e =>
        simp only
        cases P.info? e with
        | none => rfl
        | some n => rcases co_rel (t := t) x with ⟨h1x, h2x⟩ | ⟨oax, obx, h1x, h2x, h3x⟩ <;> rcases co_rel (t := t) i with ⟨h1i, h2i⟩ | ⟨oai, obi, h1i, h2i, h3i⟩ <;> cases sizeT P e <;> simp [h1x, h2x, h1i, h2i, orBad, opBad, opIxagg, *]
      | string => rcases co_rel (t := t) x with ⟨h1x, h2x⟩ | ⟨oax, obx, h1x, h2x, h3x⟩ <;> rcases co_rel (t := t) i with ⟨h1i, h2i⟩ | ⟨oai, obi, h1i, h2i, h3i⟩ <;> simp [h1x, h2x, h1i, h2i, orBad, opBad, opIxstr, *]
      | _ => rfl
  | lookup ty m k ok =>
    simp only [cOpG, cOp]
    cases P.underlying ty with
    | none => rfl
    | some u =>
      cases u with
      | map key e =>
        simp only
        rcases co_rel (t := t) m with ⟨h1m, h2m⟩ | ⟨oam, obm, h1m, h2m, h3m⟩ <;> rcases co_rel (t := t) k with ⟨h1k, h2k⟩ | ⟨oak, obk, h1k, h2k, h3k⟩ <;> generalize keyT P key = q1 <;> generalize zeroT P e = q2 <;> cases q1 <;> cases q2 <;> simp only [h1m, h2m, h1k, h2k] <;> first | rfl | simp [h1m, h2m, h1k, h2k, orBad, opBad, opLookup, *]
      | _ => rfl
  | mapUpdate ty m k v =>
    simp only [cOpG, cOp]
    cases P.underlying ty with
    | none => rfl
    | some u =>
      cases u with
      | map key e =>
        simp only
        rcases co_rel (t := t) m with ⟨h1m, h2m⟩ | ⟨oam, obm, h1m, h2m, h3m⟩ <;> rcases co_rel (t := t) k with ⟨h1k, h2k⟩ | ⟨oak, obk, h1k, h2k, h3k⟩ <;> rcases co_rel (t := t) v with ⟨h1v, h2v⟩ | ⟨oav, obv, h1v, h2v, h3v⟩ <;> generalize keyT P key = q1 <;> cases q1 <;> simp only [h1m, h2m, h1k, h2k] <;> first | rfl | simp [h1m, h2m, h1k, h2k, h1v, h2v, orBad, opBad, opMupd, *]
      | _ => rfl
  | insert ty m k v =>
    simp only [cOpG, cOp]
    cases P.underlying ty with
    | none => rfl
    | some u =>
      cases u with
      | map key e =>
        simp only
        rcases co_rel (t := t) m with ⟨h1m, h2m⟩ | ⟨oam, obm, h1m, h2m, h3m⟩ <;> rcases co_rel (t := t) k with ⟨h1k, h2k⟩ | ⟨oak, obk, h1k, h2k, h3k⟩ <;> rcases co_rel (t := t) v with ⟨h1v, h2v⟩ | ⟨oav, obv, h1v, h2v, h3v⟩ <;> generalize keyT P key = q1 <;> cases q1 <;> simp only [h1m, h2m, h1k, h2k] <;> first | rfl | simp [h1m, h2m, h1k, h2k, h1v, h2v, orBad, opBad, opMupd, *]
      | _ => rfl
  | extract x i =>
    rcases co_rel (t := t) x with ⟨h1, h2⟩ | ⟨a, b, h1, h2, h3⟩ <;> simp [cOpG, cOp, h1, h2, orBad, opBad, opExtract, *]
  | call c =>
    obtain ⟨callee, args, tys⟩ := c
    cases callee with
    | invoke _ _ => rfl
    | value f =>
      simp only [cOpG, cOp]
      rcases co_rel (t := t) f with ⟨h1x, h2x⟩ | ⟨oax, obx, h1x, h2x, h3x⟩
      · simp only [h1x, h2x]; rfl
      · rcases cos_rel (t := t) args.toList with ⟨h1, h2⟩ | ⟨xs, ys, h1, h2, h3⟩
        · simp only [h1x, h2x, h1, h2]; rfl
        · simp only [h1x, h2x, h1, h2, Option.bind_eq_bind, Option.bind_some, Option.pure_def, orBad, opCall, h3x, map_rel _ _ h3]
    | builtin b =>
      cases b with
      | len =>
        simp only [cOpG, cOp]
        cases tys[0]? with
        | none => rfl
        | some ty =>
          cases args[0]? with
          | none => rfl
          | some x =>
            simp only
            cases P.underlying ty with
            | none => rfl
            | some u => cases u <;> first | rfl | (rcases co_rel (t := t) x with ⟨h1, h2⟩ | ⟨a, b, h1, h2, h3⟩ <;> simp [h1, h2, orBad, opBad, opLenS, opLenL, opLenM, *])
      | append =>
        simp only [cOpG, cOp]
        rcases tys.toList with _ | ⟨t1, _ | ⟨t2, _ | ⟨t3, l⟩⟩⟩ <;> try rfl
        rcases args.toList with _ | ⟨s, _ | ⟨x, _ | ⟨y, l⟩⟩⟩ <;> try rfl
        simp only
        cases P.underlying t1 with
        | none => rfl
        | some u =>
          cases u <;> try rfl
          rename_i e
          simp only
          cases P.info? e with
          | none => rfl
          | some i =>
            cases zeroT P e with
            | none => rfl
            | some z =>
              simp only
              generalize (Nat.beq z.cells.length i.size && !Nat.beq i.size 0) = q
              cases q with
              | false => rfl
              | true =>
                cases P.underlying t2 with
                | none => rfl
                | some u2 =>
                  rcases co_rel (t := t) s with ⟨h1, h2⟩ | ⟨a, b, h1, h2, h3⟩ <;> rcases co_rel (t := t) x with ⟨h1x, h2x⟩ | ⟨oax, obx, h1x, h2x, h3x⟩ <;> cases u2 <;> first | rfl | simp [h1, h2, h1x, h2x, orBad, opBad, opAppend, *]
      | clear =>
        simp only [cOpG, cOp]
        cases tys[0]? with
        | none => rfl
        | some ty =>
          cases args[0]? with
          | none => rfl
          | some x =>
            simp only
            cases P.underlying ty with
            | none => rfl
            | some u =>
              cases u <;> try rfl
              rename_i e
              simp only
              cases P.info? e with
              | none => rfl
              | some i =>
                cases zeroT P e with
                | none => rfl
                | some z =>
                  simp only
                  generalize (Nat.beq z.cells.length i.size && !Nat.beq i.size 0) = q
                  cases q with
                  | false => rfl
                  | true => rcases co_rel (t := t) x with ⟨h1, h2⟩ | ⟨a, b, h1, h2, h3⟩ <;> simp [h1, h2, orBad, opBad, opClear, *]
      | max =>
        simp only [cOpG, cOp]
        rcases cos_rel (t := t) args.toList with ⟨h1, h2⟩ | ⟨xs, ys, h1, h2, h3⟩
        · simp only [h1, h2]; rfl
        · simp only [h1, h2]
          cases xs <;> cases ys <;> first | rfl | exact h3.elim | simp only [orBad, opMinmax, h3.1, minI_rel _ _ _ _ _ h3.2]
      | min =>
        simp only [cOpG, cOp]
        rcases cos_rel (t := t) args.toList with ⟨h1, h2⟩ | ⟨xs, ys, h1, h2, h3⟩
        · simp only [h1, h2]; rfl
        · simp only [h1, h2]
          cases xs <;> cases ys <;> first | rfl | exact h3.elim | simp only [orBad, opMinmax, h3.1, minI_rel _ _ _ _ _ h3.2]
      | _ => rfl
  | _ =>
    rfl
end
end Go.CE
