/-
  The operations on values, and what it means that a call comes to an answer. No condition.
-/
import Derived.Test.YtpoejpijhnankaaGreatCEw
namespace Go.CE
noncomputable section

def noCall : Caller := fun _ _ _ => none
def cP (l : List (Nat × Nat × AVal)) : List (Nat × Nat × Opd) := l.map fun p => (p.1, p.2.1, constF p.2.2)
def cL (l : List AVal) : List Opd := l.map constF
def cO : Option AVal → Option Opd
  | none => none
  | some v => some (constF v)

def gK (v : AVal) (b : Bool) (h : AHeap) (x : Res) : Res := bif wantV v b then x else some (aundef, h)
def vPick (c a b : AVal) (h : AHeap) : Res := opPick (constF c) (constF a) (constF b) noCall .nil h
def vAlloc (zs : List CVal) (h : AHeap) : Res := opAlloc zs noCall .nil h
def vBox (x : AVal) (h : AHeap) : Res := opBox (constF x) noCall .nil h
def vBuild (zs : List CVal) (l : List (Nat × Nat × AVal)) (h : AHeap) : Res := opBuild zs (cP l) noCall .nil h
def vBslice (st len : Nat) (zs : List CVal) (l : List (Nat × Nat × AVal)) (h : AHeap) : Res := opBslice st len zs (cP l) noCall .nil h
def vLoad (n : Option Nat) (x : AVal) (h : AHeap) : Res := opLoad n (constF x) noCall .nil h
def vStore (n : Nat) (x v : AVal) (h : AHeap) : Res := opStore n (constF x) (constF v) noCall .nil h
def vNilck (x : AVal) (h : AHeap) : Res := opNilck (constF x) noCall .nil h
def vInt (g : IntKind → Int → Int → Option CVal) (x y : AVal) (h : AHeap) : Res := opInt g (constF x) (constF y) noCall .nil h
def vShift (g : IntKind → Int → Int → Option CVal) (x y : AVal) (h : AHeap) : Res := opShift g (constF x) (constF y) noCall .nil h
def vStr (op : BinOp) (x y : AVal) (h : AHeap) : Res := opStr op (constF x) (constF y) noCall .nil h
def vEq (ks : Nat ⊕ List Nat) (neg : Bool) (x y : AVal) (h : AHeap) : Res := opEq ks neg (constF x) (constF y) noCall .nil h
def vNilS (neg : Bool) (x y : AVal) (h : AHeap) : Res := opNilS neg (constF x) (constF y) noCall .nil h
def vNilF (neg : Bool) (x y : AVal) (h : AHeap) : Res := opNilF neg (constF x) (constF y) noCall .nil h
def vNot (x : AVal) (h : AHeap) : Res := opNot (constF x) noCall .nil h
def vNeg (x : AVal) (h : AHeap) : Res := opNeg (constF x) noCall .nil h
def vConv (k : IntKind) (x : AVal) (h : AHeap) : Res := opConv k (constF x) noCall .nil h
def vMkfn (f : Nat) (caps : List AVal) (h : AHeap) : Res := opMkfn f (cL caps) noCall .nil h
def vMkmap (h : AHeap) : Res := opMkmap noCall .nil h
def vMkslice (st : Nat) (zs : List CVal) (bytes : Nat) (l c : AVal) (h : AHeap) : Res := opMkslice st zs bytes (constF l) (constF c) noCall .nil h
def vSlice (st : Nat) (x : AVal) (lo hi mx : Option AVal) (h : AHeap) : Res := opSlice st (constF x) (cO lo) (cO hi) (cO mx) noCall .nil h
def vSslice (x : AVal) (lo hi : Option AVal) (h : AHeap) : Res := opSslice (constF x) (cO lo) (cO hi) noCall .nil h
def vFoff (x : AVal) (off : Nat) (h : AHeap) : Res := opFoff (constF x) off noCall .nil h
def vField (x : AVal) (off : Nat) (n : Option Nat) (h : AHeap) : Res := opField (constF x) off n noCall .nil h
def vIxs (st : Nat) (x i : AVal) (h : AHeap) : Res := opIxs st (constF x) (constF i) noCall .nil h
def vIxarr (len st : Nat) (x i : AVal) (h : AHeap) : Res := opIxarr len st (constF x) (constF i) noCall .nil h
def vIxagg (len st : Nat) (n : Option Nat) (x i : AVal) (h : AHeap) : Res := opIxagg len st n (constF x) (constF i) noCall .nil h
def vIxstr (x i : AVal) (h : AHeap) : Res := opIxstr (constF x) (constF i) noCall .nil h
def vLookup (q : Nat ⊕ List Nat) (z : SVal) (ok : Bool) (m k : AVal) (h : AHeap) : Res := opLookup q z ok (constF m) (constF k) noCall .nil h
def vMupd (q : Nat ⊕ List Nat) (m k v : AVal) (h : AHeap) : Res := opMupd q (constF m) (constF k) (constF v) noCall .nil h
def vExtract (x : AVal) (i : Nat) (h : AHeap) : Res := opExtract (constF x) i noCall .nil h
def vLenS (x : AVal) (h : AHeap) : Res := opLenS (constF x) noCall .nil h
def vLenL (x : AVal) (h : AHeap) : Res := opLenL (constF x) noCall .nil h
def vLenM (x : AVal) (h : AHeap) : Res := opLenM (constF x) noCall .nil h
def vAppend (str : Bool) (st bytes : Nat) (s x : AVal) (h : AHeap) : Res := opAppend str st bytes (constF s) (constF x) noCall .nil h
def vMinmax (m : Bool) (x : AVal) (xs : List AVal) (h : AHeap) : Res := opMinmax m (constF x) (cL xs) noCall .nil h
def vClear (st : Nat) (zs : List CVal) (x : AVal) (h : AHeap) : Res := opClear st zs (constF x) noCall .nil h
def vCall (call : Caller) (f : AVal) (args : List AVal) (h : AHeap) : Res := opCall (constF f) (cL args) call .nil h
def same1 (x : Res) (v : AVal) : Bool :=
  match x with
  | some (v', _) => eqA v v'
  | none => false

end
end Go.CE
