/-
  The concrete evaluator: the model's code, made ready (types looked up once).
-/
import Derived.Test.YtpoejpijhnankaaGreatCEb
namespace Go.CE
noncomputable section

def cCell : Value → Option CVal
  | .bool b => some (.bool b)
  | .int k n => some (.int k n)
  | .string s => some (.str s)
  | .pointer none => some .nilp
  | .slice none 0 0 => some .nils
  | .map none => some .nilm
  | .nilFunc => some .nilf
  | .nilIface => some .nili
  | _ => none

def cCells : List Value → Option (List CVal)
  | [] => some []
  | v :: vs =>
    match cCell v, cCells vs with
    | some c, some cs => some (c :: cs)
    | _, _ => none

def cVal : Value → Option SVal
  | .agg cs => match cCells cs.toList with | some l => some (.agg l) | none => none
  | v => match cCell v with | some c => some (.one c) | none => none

def cOpd : Operand → Option Opd
  | .tmp t => some (tmpF (bn t))
  | .const v => match cVal v with | some s => some (constF (.s s)) | none => none
  | .func f => some (constF (.s (.one (.fn f []))))
  | .global _ => none

def cOpds : List Operand → Option (List Opd)
  | [] => some []
  | x :: xs =>
    match cOpd x, cOpds xs with
    | some y, some ys => some (y :: ys)
    | _, _ => none

def cOpt : Option Operand → Option (Option Opd)
  | none => some none
  | some x => match cOpd x with | some y => some (some y) | none => none

section
variable (P : Program)

def isAggT (t : TypeId) : Option Bool :=
  match P.underlying t with
  | some (.struct _) => some true
  | some (.array _ _) => some true
  | some _ => some false
  | none => none

/-- The size of a variable of type t as a load takes it: one cell, or an aggregate's. -/
def sizeT (t : TypeId) : Option (Option Nat) :=
  match isAggT P t, P.info? t with
  | some true, some i => some (some i.size)
  | some false, some _ => some none
  | _, _ => none

def zeroT (t : TypeId) : Option SVal :=
  match P.info? t with
  | some i => match i.zero with | some v => cVal v | none => none
  | none => none

/-- The kind of a plain type: 0 bools, 1 integers, 2 strings. -/
def kindT (t : TypeId) : Option Nat :=
  match P.underlying t with
  | some .bool => some 0
  | some (.int _) => some 1
  | some .string => some 2
  | _ => none

/-- The kinds of a struct's fields, each a plain scalar at the offset of its number; none is blank. -/
def kindsF : Nat → List Field → Option (List Nat)
  | _, [] => some []
  | i, f :: fs =>
    bif !(f.name == "_") && Nat.beq f.offset i then
      match kindT P f.type, kindsF (Nat.succ i) fs with
      | some k, some ks => some (k :: ks)
      | _, _ => none
    else none

/-- How values of a type are compared: a plain scalar; a struct of plain scalars; an array of plain scalars. -/
def keyT (t : TypeId) : Option (Nat ⊕ List Nat) :=
  match P.underlying t with
  | some .bool => some (.inl 0)
  | some (.int _) => some (.inl 1)
  | some .string => some (.inl 2)
  | some (.struct fs) =>
    bif P.stoodInHeld t then none else
    match kindsF P 0 fs.toList with
    | some ks => some (.inr ks)
    | none => none
  | _ => none

def fieldParts (fs : Array Field) : List (Nat × Operand) → Option (List (Nat × Nat × Opd))
  | [] => some []
  | (i, x) :: r =>
    match fs[i]?, cOpd x, fieldParts fs r with
    | some f, some y, some rest =>
      match P.info? f.type with
      | some info => some ((f.offset, info.size, y) :: rest)
      | none => none
    | _, _, _ => none

def elemParts (size : Nat) : List (Nat × Operand) → Option (List (Nat × Nat × Opd))
  | [] => some []
  | (i, x) :: r =>
    match cOpd x, elemParts size r with
    | some y, some rest => some ((i * size, size, y) :: rest)
    | _, _ => none

def allInfo (fs : List Field) : Bool := fs.all fun f => (P.info? f.type).isSome

def orBad : Option OpFn → OpFn
  | some r => r
  | none => opBad

def cOp (o : Op) : OpFn := orBad <| match o with
  | .move x | .assign x => (cOpd x).map opMv
  | .pick c a b => do pure (opPick (← cOpd c) (← cOpd a) (← cOpd b))
  | .alloc t => do pure (opAlloc (← zeroT P t).cells)
  | .box _ x => do pure (opBox (← cOpd x))
  | .build t parts =>
    match P.underlying t, zeroT P t with
    | some (.struct fs), some z => bif allInfo P fs.toList then do pure (opBuild z.cells (← fieldParts P fs parts.toList)) else none
    | some (.array _ e), some z =>
      match P.info? e with
      | some i => do pure (opBuild z.cells (← elemParts i.size parts.toList))
      | none => none
    | _, _ => none
  | .buildSlice t len parts =>
    match P.underlying t with
    | some (.slice e) =>
      match P.info? e with
      | some i =>
        bif Nat.ble (len * i.size) 16777216 then
          match (bif Nat.beq (len * i.size) 0 then some [] else (zeroT P e).map SVal.cells) with
          | some zs => bif Nat.beq (len * i.size) 0 || Nat.beq zs.length i.size then do pure (opBslice i.size len (repl zs len) (← elemParts i.size parts.toList)) else none
          | none => none
        else none
      | none => none
    | _ => none
  | .load t x => do pure (opLoad (← sizeT P t) (← cOpd x))
  | .store t x v => do pure (opStore (← P.info? t).size (← cOpd x) (← cOpd v))
  | .nilCheck x => do pure (opNilck (← cOpd x))
  | .binOp op t x y _ =>
    match P.underlying t with
    | some (.int _) =>
      match op with
      | .shl => do pure (opShift evShl (← cOpd x) (← cOpd y))
      | .shr => do pure (opShift evShr (← cOpd x) (← cOpd y))
      | op => do pure (opInt (intFn op) (← cOpd x) (← cOpd y))
    | some .string => do pure (opStr op (← cOpd x) (← cOpd y))
    | some (.slice _) =>
      match op with
      | .eql => do pure (opNilS false (← cOpd x) (← cOpd y))
      | .neq => do pure (opNilS true (← cOpd x) (← cOpd y))
      | _ => none
    | some (.func _ _ _) =>
      match op with
      | .eql => do pure (opNilF false (← cOpd x) (← cOpd y))
      | .neq => do pure (opNilF true (← cOpd x) (← cOpd y))
      | _ => none
    | some _ =>
      bif P.eqGuardType P.depth t then none else
      match op with
      | .eql => do pure (opEq (← keyT P t) false (← cOpd x) (← cOpd y))
      | .neq => do pure (opEq (← keyT P t) true (← cOpd x) (← cOpd y))
      | _ => none
    | none => none
  | .unOp .not _ x => do pure (opNot (← cOpd x))
  | .unOp .neg _ x => do pure (opNeg (← cOpd x))
  | .convert s d x =>
    match P.underlying s, P.underlying d with
    | some (.int _), some (.int k) => do pure (opConv k (← cOpd x))
    | _, _ => none
  | .makeFunc (.func f) first captured => bif first.isEmpty then do pure (opMkfn f (← cOpds captured.toList)) else none
  | .makeMap _ none => some opMkmap
  | .makeSlice t l c =>
    match P.underlying t with
    | some (.slice e) =>
      match P.info? e, zeroT P e with
      | some i, some z => bif Nat.beq z.cells.length i.size && !Nat.beq i.size 0 then do pure (opMkslice i.size z.cells i.bytes (← cOpd l) (← cOpd c)) else none
      | _, _ => none
    | _ => none
  | .slice t x lo hi mx =>
    match P.underlying t with
    | some (.slice e) =>
      match P.info? e with
      | some i => bif mx.isSome && !hi.isSome then none else do pure (opSlice i.size (← cOpd x) (← cOpt lo) (← cOpt hi) (← cOpt mx))
      | none => none
    | some .string => bif mx.isSome then none else do pure (opSslice (← cOpd x) (← cOpt lo) (← cOpt hi))
    | _ => none
  | .fieldAddr t x f =>
    match P.underlying t with
    | some (.struct fs) =>
      match fs[f]? with
      | some fd =>
        match P.info? fd.type with
        | some i => bif Nat.beq i.size 0 then none else do pure (opFoff (← cOpd x) fd.offset)
        | none => none
      | none => none
    | _ => none
  | .field t x f =>
    match P.underlying t with
    | some (.struct fs) =>
      match fs[f]? with
      | some fd => do pure (opField (← cOpd x) fd.offset (← sizeT P fd.type))
      | none => none
    | _ => none
  | .indexAddr t x i =>
    match P.underlying t with
    | some (.slice e) =>
      match P.info? e with
      | some info => do pure (opIxs info.size (← cOpd x) (← cOpd i))
      | none => none
    | some (.array len e) =>
      match P.info? e with
      | some info => do pure (opIxarr len info.size (← cOpd x) (← cOpd i))
      | none => none
    | _ => none
  | .index t x i =>
    match P.underlying t with
    | some (.array len e) =>
      match P.info? e with
      | some info => do pure (opIxagg len info.size (← sizeT P e) (← cOpd x) (← cOpd i))
      | none => none
    | some .string => do pure (opIxstr (← cOpd x) (← cOpd i))
    | _ => none
  | .lookup t m k ok =>
    match P.underlying t with
    | some (.map key e) => do pure (opLookup (← keyT P key) (← zeroT P e) ok (← cOpd m) (← cOpd k))
    | _ => none
  | .mapUpdate t m k v | .insert t m k v =>
    match P.underlying t with
    | some (.map key _) => do pure (opMupd (← keyT P key) (← cOpd m) (← cOpd k) (← cOpd v))
    | _ => none
  | .extract x i => do pure (opExtract (← cOpd x) i)
  | .call c =>
    match c.callee with
    | .value f => do pure (opCall (← cOpd f) (← cOpds c.args.toList))
    | .builtin .len =>
      match c.argTypes[0]?, c.args[0]? with
      | some t, some x =>
        match P.underlying t with
        | some .string => do pure (opLenS (← cOpd x))
        | some (.slice _) => do pure (opLenL (← cOpd x))
        | some (.map _ _) => do pure (opLenM (← cOpd x))
        | some (.array n _) => some (opMv (constF (.s (.one (.int .i64 (.ofNat n))))))
        | _ => none
      | _, _ => none
    | .builtin .append =>
      match c.argTypes.toList, c.args.toList with
      | [t, t2], [s, x] =>
        match P.underlying t with
        | some (.slice e) =>
          match P.info? e, zeroT P e with
          | some i, some z =>
            bif Nat.beq z.cells.length i.size && !Nat.beq i.size 0 then
              match P.underlying t2 with
              | some (.slice _) => do pure (opAppend false i.size i.bytes (← cOpd s) (← cOpd x))
              | some .string => do pure (opAppend true i.size i.bytes (← cOpd s) (← cOpd x))
              | _ => none
            else none
          | _, _ => none
        | _ => none
      | _, _ => none
    | .builtin .clear =>
      match c.argTypes[0]?, c.args[0]? with
      | some t, some x =>
        match P.underlying t with
        | some (.slice e) =>
          match P.info? e, zeroT P e with
          | some i, some z => bif Nat.beq z.cells.length i.size && !Nat.beq i.size 0 then do pure (opClear i.size z.cells (← cOpd x)) else none
          | _, _ => none
        | _ => none
      | _, _ => none
    | .builtin .max =>
      match cOpds c.args.toList with
      | some (x :: xs) => some (opMinmax true x xs)
      | _ => none
    | .builtin .min =>
      match cOpds c.args.toList with
      | some (x :: xs) => some (opMinmax false x xs)
      | _ => none
    | _ => none
  | _ => none

/-- A temporary that lies in the frame. -/
def inT (nt : Nat) : Option Nat → Bool
  | none => true
  | some d => Nat.ble (Nat.succ d) nt

def cOper (nt : Nat) (ops : Array Oper) (o : Oper) : ROper :=
  bif inT nt o.dst then
    match o.guard with
    | none => ⟨o.dst.map bn, cOp P o.op, none⟩
    | some (j, b) =>
      match (ops[j]?).bind (·.dst) with
      | some d => bif Nat.ble (Nat.succ d) nt then ⟨o.dst.map bn, cOp P o.op, some (bn d, b)⟩ else ⟨none, opBad, none⟩
      | none => ⟨none, opBad, none⟩
  else ⟨none, opBad, none⟩

/-! ### Regions that draw their order -/

/-- It only looks. -/
def quietOp : Op → Bool
  | .move _ | .assign _ | .pick .. | .build .. | .load .. | .nilCheck _ | .binOp .. | .unOp .. | .convert .. | .makeFunc .. | .slice .. | .fieldAddr .. | .field .. | .indexAddr .. | .index .. | .lookup .. | .extract .. => true
  | .call ⟨.builtin .len, _, _⟩ | .call ⟨.builtin .max, _, _⟩ | .call ⟨.builtin .min, _, _⟩ => true
  | _ => false

def effs (ops : List Oper) : List Bool := ops.map fun o => !quietOp o.op

/-- Those that must come before, as the bits of a number. -/
def befOf (acc : List Nat) : List Edge → Nat
  | [] => 0
  | e :: es => bif Region.binds .any e then Nat.lor (Nat.lor (2 ^ e.on) ((acc[e.on]?).getD 0)) (befOf acc es) else befOf acc es
def befAll : List Oper → List Nat → List Nat
  | [], acc => acc
  | o :: os, acc => befAll os (acc ++ [befOf acc o.after.toList])
def befs (ops : List Oper) : List Nat := befAll ops []
def bef (bs : List Nat) (j i : Nat) : Bool := Nat.testBit ((bs[i]?).getD 0) j

/-- How many of those that touch memory are in a set. -/
def ce (L : Nat → Bool) : Nat → List Bool → Nat
  | _, [] => 0
  | i, e :: es => bif L i && e then Nat.succ (ce L (Nat.succ i) es) else ce L (Nat.succ i) es

def allI (p : Nat → Oper → Bool) : Nat → List Oper → Bool
  | _, [] => true
  | i, o :: os => p i o && allI p (Nat.succ i) os

def isSelect : Op → Bool
  | .select _ _ => true
  | _ => false

def drawOk (ops : Array Oper) (bs : List Nat) : Bool :=
  allI (fun i o => !isSelect o.op && o.after.toList.all (fun e => !Region.binds .any e || Nat.ble (Nat.succ e.on) i)) 0 ops.toList &&
  allI (fun j oj => allI (fun i oi => !Nat.ble (Nat.succ i) j || bef bs i j || (oi.apart ops oj && (quietOp oi.op || quietOp oj.op))) 0 ops.toList) 0 ops.toList

def cDrawnL (nt : Nat) (ops : Array Oper) (bs : List Nat) (es : List Bool) : Nat → List Oper → List DOper
  | _, [] => []
  | i, o :: os => ⟨cOper P nt ops o, (o.looksAt ops).map bn, !quietOp o.op, ce (fun j => bef bs j i) 0 es, ce (fun j => !bef bs i j) 0 es⟩ :: cDrawnL nt ops bs es (Nat.succ i) os
def cDrawn (nt : Nat) (ops : Array Oper) : List DOper := cDrawnL P nt ops (befs ops.toList) (effs ops.toList) 0 ops.toList

def cCode (nt : Nat) : Code → CodeFn
  | .skip => skipF
  | .region _ ops draw => bif draw then (bif P.follows .mixedOrders && drawOk ops (befs ops.toList) then drawnF (cDrawn P nt ops) else badF) else regF (ops.toList.map (cOper P nt ops))
  | .seq a b => seqF (cCode nt a) (cCode nt b)
  | .cond c a b =>
    match cOpd c with
    | some c => condF c (cCode nt a) (cCode nt b)
    | none => badF
  | .block id c => blockF id (cCode nt c)
  | .loop c => loopF (cCode nt c)
  | .rangeFunc f ps assign body =>
    match cOpd f with
    | some f => rangeF nt f ps assign body
    | none => badF
  | .exit id => exitF id
  | .ret => retF
  | _ => badF

def cRes : List ResultVar → Option (List (BN × Option (Option Nat)))
  | [] => some []
  | .tmp t :: rs => match cRes rs with | some l => some ((bn t, none) :: l) | none => none
  | .cell a t :: rs =>
    match sizeT P t, cRes rs with
    | some n, some l => some ((bn a, some n) :: l)
    | _, _ => none

def cFunc (fn : Func) : Option RFunc :=
  match fn.body, cRes P fn.results.toList with
  | some c, some r => bif fn.name == "runtime.NumGoroutine" then none else some ⟨fn.ntmps, r, cCode P fn.ntmps c⟩
  | _, _ => none

def Tr.ofList {α : Type} : BN → List α → Tr α → Tr α
  | _, [], t => t
  | i, x :: xs, t => Tr.ofList i.succ xs (t.set i x)

/-- The functions, ready. -/
def cProg : Tr (Option RFunc) := Tr.ofList .z (P.funcs.toList.map (cFunc P)) .nil

def cFs (t : Tr (Option RFunc)) (f : Nat) : Option RFunc :=
  match t.get (bn f) with
  | some r => r
  | none => none

end

end
end Go.CE
