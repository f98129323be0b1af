/-
  The concrete evaluator, its definitions: a small interpreter over abstract values and an abstract heap for the model's code. Program-free. No condition.
-/
import Derived.RangeFuncLeaves
import Derived.Deep.Quiet
import Derived.OrdersIn
import Derived.Below
import Derived.KernelRfl
namespace Go.CE

/-- Numbers in base two with the digits 1 and 2, the least one first: block numbers, temporaries. -/
inductive BN where
  | z
  | o (n : BN)
  | d (n : BN)

def BN.succ : BN → BN
  | .z => .o .z
  | .o n => .d n
  | .d n => .o n.succ

def BN.toNat : BN → Nat
  | .z => 0
  | .o n => 2 * n.toNat + 1
  | .d n => 2 * n.toNat + 2

/-- A number's digits (with fuel). -/
def bnF : Nat → Nat → BN
  | 0, _ => .z
  | f + 1, n => bif Nat.beq n 0 then .z else bif Nat.beq (Nat.mod n 2) 1 then .o (bnF f (Nat.div n 2)) else .d (bnF f (Nat.sub (Nat.div n 2) 1))
def bn (n : Nat) : BN := bnF n n

/-- A map from such numbers, as a binary tree. -/
inductive Tr (α : Type) where
  | nil : Tr α
  | node (l : Tr α) (v : Option α) (r : Tr α) : Tr α

noncomputable def Tr.get {α : Type} (t : Tr α) (n : BN) : Option α :=
  BN.rec (motive := fun _ => Tr α → Option α)
    (fun t => Tr.casesOn (motive := fun _ => Option α) t none (fun _ v _ => v))
    (fun _ ih t => Tr.casesOn (motive := fun _ => Option α) t none (fun l _ _ => ih l))
    (fun _ ih t => Tr.casesOn (motive := fun _ => Option α) t none (fun _ _ r => ih r)) n t

noncomputable def Tr.set {α : Type} (t : Tr α) (n : BN) (x : α) : Tr α :=
  BN.rec (motive := fun _ => Tr α → Tr α)
    (fun t => Tr.casesOn (motive := fun _ => Tr α) t (.node .nil (some x) .nil) (fun l _ r => .node l (some x) r))
    (fun _ ih t => Tr.casesOn (motive := fun _ => Tr α) t (.node (ih .nil) none .nil) (fun l v r => .node (ih l) v r))
    (fun _ ih t => Tr.casesOn (motive := fun _ => Tr α) t (.node .nil none (ih .nil)) (fun l v r => .node l v (ih r))) n t

/-- The value of one cell. 'ptr b off', 'slc b off ..': b is a block of the abstract heap. 'slc b off len cap ex': ex: the capacity is cap; else it is what the block's place has, less cap. -/
inductive CVal where
  | bool (b : Bool)
  | int (k : IntKind) (n : Int)
  | str (s : ByteArray)
  | nilp
  | ptr (b : BN) (off : Nat)
  | nils
  | slc (b : BN) (off len cap : Nat) (ex : Bool)
  | nilm
  | map (b : BN)
  | fn (f : Nat) (caps : List (BN × Nat))
  | yld (l : BN)
  | nilf
  | nili

inductive SVal where
  | one (c : CVal)
  | agg (cs : List CVal)

inductive AVal where
  | s (v : SVal)
  | tup (vs : List SVal)

abbrev AVal.c (c : CVal) : AVal := .s (.one c)
def aundef : AVal := .tup []

def SVal.cells : SVal → List CVal
  | .one c => [c]
  | .agg cs => cs

inductive RExit where
  | normal
  | exit (id : Nat)
  | ret

inductive AObj where
  | cells (cs : List CVal) (st : Nat)
  | ro (x : Obj) (f : Nat → Option CVal)
  | dead
  | map (es : List (SVal × SVal))
  | loop (st : LoopState) (pend : Option RExit) (fn nt : Nat) (tmps : Tr AVal) (ps : Array Tmp) (assign body : Code) (defers : BN)
  | defer

structure AHeap where
  n : BN
  t : Tr AObj

noncomputable def AHeap.new (h : AHeap) (o : AObj) : AHeap := ⟨h.n.succ, h.t.set h.n o⟩
noncomputable def AHeap.put (h : AHeap) (b : BN) (o : AObj) : AHeap := ⟨h.n, h.t.set b o⟩

/-- Who answers a call: of a function (left), of a loop's yield (right). -/
abbrev Caller := (Nat ⊕ BN) → List AVal → AHeap → Option (AVal × AHeap)
abbrev Opd := Tr AVal → AVal
abbrev OpFn := Caller → Tr AVal → AHeap → Option (AVal × AHeap)

structure ROper where
  dst : Option BN
  op : OpFn
  guard : Option (BN × Bool)     -- the guard's temporary, and what is wanted

structure St where
  t : Tr AVal
  d : List BN
  h : AHeap

abbrev CodeFn := Caller → Nat → Nat → Option BN → St → Option (RExit × St)     -- the caller, the fuel, the function, the loop of whose round it is

structure RFunc where
  ntmps : Nat
  results : List (BN × Option (Option Nat))   -- a temporary; or the address of a cell's variable with its size (none: one cell)
  body : CodeFn

end Go.CE
