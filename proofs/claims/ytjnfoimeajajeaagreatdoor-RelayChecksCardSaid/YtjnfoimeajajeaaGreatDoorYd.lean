/-
  Lemmas: PEd, PEe, PEf, PEg, PEh, PEha, PEi, PEj, PEk, PEl. No condition.
-/
import Derived.Test.YtjnfoimeajajeaaGreatDoorYc
section
namespace Go.PE
open Go Go.CE
def oD : Option CVal → Option DV
 | some (.int k n) => some (.int k n)
 | some (.bool b) => some (.bool b)
 | some (.str s) => some (.str s)
 | _ => none
def pBin (op : BinOp) : DV → DV → Option DV
 | .int k a, .int k' b => bif eqK k k' then oD (intFn op k a b) else none
 | _, _ => none
def pShift (l : Bool) : DV → DV → Option DV
 | .int k a, .int _ b => oD ((bif l then evShl else evShr) k a b)
 | _, _ => none
def pStr (op : BinOp) : DV → DV → Option DV
 | .str a, .str b => oD (evStr op a b)
 | _, _ => none
def eqD : Nat → DV → DV → Option Bool
 | 1, .int k a, .int k' b => bif eqK k k' then some (eqI a b) else none
 | 2, .str a, .str b => some (a.data.toList == b.data.toList)
 | 0, .bool a, .bool b => some (a == b)
 | _, _, _ => none
def eqDs : List Nat → List DV → List DV → Option Bool
 | [], [], [] => some true
 | k :: ks, x :: xs, y :: ys =>
  match eqD k x y with
  | some true => eqDs ks xs ys
  | some false => some false
  | none => none
 | _, _, _ => none
def pNot : DV → Option DV
 | .bool q => some (.bool (!q))
 | _ => none
def pNeg : DV → Option DV
 | .int k n => some (.int k (wrapF k (Int.sub 0 n)))
 | _ => none
def pConv (k : IntKind) : DV → Option DV
 | .int _ n => some (.int k (wrapF k n))
 | _ => none
def pPick : DV → DV → DV → Option DV
 | .bool q, a, b => some (bif q then a else b)
 | _, _, _ => none
def pNilS : DV → Option Bool
 | .nils => some true
 | .lst _ _ => some false
 | _ => none
def pIdx (st : Nat) : DV → DV → Option (List DV)
 | .lst st' xs, .int _ (.ofNat i) => bif Nat.beq st st' then xs[i]? else none
 | _, _ => none
def pIdxO (v : OC) : DV → Option Nat
 | .int _ (.ofNat i) => match v with | some xs => bif Nat.ble (Nat.succ i) xs.length then some i else none | none => none
 | _ => none
def pIdxN (len : Nat) : DV → Option Nat
 | .int _ (.ofNat i) => bif Nat.ble (Nat.succ i) len then some i else none
 | _ => none
def bndD (x : Option DV) (d y : Nat) : Option Nat :=
 match x with
 | none => some d
 | some (.int _ (.ofNat i)) => bif Nat.ble i y then some i else none
 | _ => none
def pSlice (st : Nat) (v : DV) (lo hi : Option DV) : Option DV :=
 match v with
 | .nils => match bndD hi 0 0, bndD lo 0 0 with | some _, some _ => some .nils | _, _ => none
 | .lst st' xs =>
  bif Nat.beq st st' then
   match bndD hi xs.length xs.length with
   | some hh =>
    match bndD lo 0 hh with
    | some l => bif Nat.beq l 0 || !Nat.beq l hh then some (.lst st ((xs.drop l).take (hh - l))) else none
    | none => none
   | none => none
  else none
 | _ => none
def vwB (lo hi : Option DV) (y : Nat) : Option (Nat × Nat) :=
 match bndD hi y y with
 | some hh =>
  match bndD lo 0 hh with
  | some l => bif Nat.beq l 0 || !Nat.beq l hh then some (l, hh - l) else none
  | none => none
 | none => none
def partT (st lo len : Nat) : DV → DV
 | .nils => .nils
 | .lst st' xs => bif Nat.beq st st' then .lst st' ((xs.drop lo).take len) else .u
 | _ => .u
def pLen : DV → Option DV
 | .nils => some (.int .i64 (.ofNat 0))
 | .lst _ xs => some (.int .i64 (.ofNat xs.length))
 | _ => none
def lenO : OC → Nat
 | none => 0
 | some xs => xs.length
def pLenS : DV → Option DV
 | .str s => some (.int .i64 (.ofNat s.size))
 | _ => none
def byteD : List UInt8 → Nat → Option DV
 | [], _ => none
 | c :: cs, i => bif Nat.beq i 0 then some (.int .u8 (.ofNat c.toNat)) else byteD cs (Nat.sub i 1)
def pIxstr : DV → DV → Option DV
 | .str s, .int _ (.ofNat i) => byteD s.data.toList i
 | _, _ => none
def pSslice (v : DV) (lo hi : Option DV) : Option DV :=
 match v with
 | .str s =>
  match bndD hi s.size s.size with
  | some hh =>
   match bndD lo 0 hh with
   | some l => some (.str (s.extract l hh))
   | none => none
  | none => none
 | _ => none
def pElems (st : Nat) : DV → Option (List (List DV))
 | .nils => some []
 | .lst st' xs => bif Nat.beq st st' then some xs else none
 | _ => none
def elemsO : OC → List (List DV)
 | none => []
 | some xs => xs
def appO (v : OC) (new : List (List DV)) : OC :=
 match new with
 | [] => v
 | x :: l => some (elemsO v ++ (x :: l))
def numsD : List (List DV) → Option (List Int)
 | [] => some []
 | [.int .u8 n] :: cs => match numsD cs with | some l => some (n :: l) | none => none
 | _ => none
def pB2s : DV → Option DV
 | .nils => some (.str ByteArray.empty)
 | .lst 1 xs => match numsD xs with | some ns => some (.str (pushB ns ByteArray.empty)) | none => none
 | _ => none
def minD (isMax : Bool) (k : IntKind) : List DV → Int → Option Int
 | [], x => some x
 | .int k' y :: r, x => bif eqK k k' then minD isMax k r (bif isMax then (bif ltI x y then y else x) else (bif ltI y x then y else x)) else none
 | _ :: _, _ => none
def pMinmax (isMax : Bool) (v : DV) (l : List DV) : Option DV :=
 match v with
 | .int k n => match minD isMax k l n with | some m => some (.int k m) | none => none
 | _ => none
def nthO (v : OC) (i : Nat) : Option (List DV) := match v with | some xs => xs[i]? | none => none
def setO (st : Nat) (v : OC) (i off : Nat) (ds : List DV) : Option OC :=
 match v with
 | some xs =>
  match xs[i]? with
  | some x => bif Nat.ble (off + ds.length) st then some (some (xs.set i (x.take off ++ ds ++ x.drop (off + ds.length)))) else none
  | none => none
 | none => none
section
variable {α β : Type}
def bindD (o : Option α) (k : α → Option β) : Option β := match o with | some a => k a | none => none
def ifB (v : DV) (a b : Option β) : Option β := match v with | .bool q => bif q then a else b | _ => none
def gd (b : Bool) (k : Option β) : Option β := bif b then k else none
def w1 (a : Option PA) (k : PC → Option β) : Option β := match a with | some (.s (.one c)) => k c | _ => none
def wd (a : Option PA) (k : DV → Option β) : Option β := match a with | some (.s (.one (.d v))) => k v | _ => none
inductive Sh where
 | one
 | agg (n : Nat)
 | tup (l : List (Option Nat))
 | no
 | sc
 | tsc (n : Nat)
def b1 (r : Option DA) (k : DV → Option β) : Option β := match r with | some (.s (.one d)) => k d | _ => none
def bA (n : Nat) (r : Option DA) (k : List DV → Option β) : Option β := match r with | some (.s (.agg l)) => bif Nat.beq l.length n then k l else none | _ => none
def okT : List (Option Nat) → List DS → Bool
 | [], [] => true
 | none :: shs, .one _ :: l => okT shs l
 | some n :: shs, .agg ds :: l => Nat.beq ds.length n && okT shs l
 | _, _ => false
def bT (shs : List (Option Nat)) (r : Option DA) (k : List DS → Option β) : Option β := match r with | some (.tup l) => bif okT shs l then k l else none | _ => none
def bN (r : Option DA) (k : Option β) : Option β := match r with | some _ => k | none => none
def scalD : DV → Bool
 | .bool _ => true
 | .int _ _ => true
 | .str _ => true
 | _ => false
def scalS : List DS → Bool
 | [] => true
 | .one d :: l => scalD d && scalS l
 | _ :: _ => false
def nones : Nat → List (Option Nat)
 | 0 => []
 | n + 1 => none :: nones n
def b1s (r : Option DA) (k : DV → Option β) : Option β := match r with | some (.s (.one d)) => bif scalD d then k d else none | _ => none
def bTs (n : Nat) (r : Option DA) (k : List DS → Option β) : Option β := match r with | some (.tup l) => bif okT (nones n) l && scalS l then k l else none | _ => none
def dsAt : List DS → Nat → DS
 | [], _ => .one .u
 | d :: l, i => bif Nat.beq i 0 then d else dsAt l (Nat.sub i 1)
def dsO : DS → DV
 | .one d => d
 | .agg _ => .u
def dsA : DS → List DV
 | .agg l => l
 | .one _ => []
def comps (l : List DS) : List (Option Nat) → Nat → List DS
 | [], _ => []
 | none :: shs, i => .one (dsO (dsAt l i)) :: comps l shs (Nat.succ i)
 | some n :: shs, i => .agg (exp (dsA (dsAt l i)) n 0) :: comps l shs (Nat.succ i)
end
def cD : CVal → Option DV
 | .bool b => some (.bool b)
 | .int k n => some (.int k n)
 | .str s => some (.str s)
 | .nilp => some .nilp
 | .nils => some .nils
 | .nilm => some .nilm
 | .nilf => some .nilf
 | .nili => some .nili
 | .fn f [] => some (.fn f [])
 | _ => none
def cDs : List CVal → Option (List PC)
 | [] => some []
 | c :: cs =>
  match cD c, cDs cs with
  | some d, some ds => some (.d d :: ds)
  | _, _ => none
def pvS : SVal → Option PV
 | .one c => match cD c with | some d => some (.one (.d d)) | none => none
 | .agg cs => match cDs cs with | some ds => some (.agg ds) | none => none
def pv (ρ : Nat → PA) : Operand → Option PA
 | .tmp t => some (ρ t)
 | .const v => match cVal v with | some s => (match pvS s with | some p => some (.s p) | none => none) | none => none
 | .func f => some (.s (.one (.d (.fn f []))))
 | .global _ => none
def pvs (ρ : Nat → PA) : List Operand → Option (List PA)
 | [] => some []
 | x :: xs =>
  match pv ρ x, pvs ρ xs with
  | some a, some l => some (a :: l)
  | _, _ => none
def pvo (ρ : Nat → PA) : Option Operand → Option (Option DV)
 | none => some none
 | some x => match pv ρ x with | some (.s (.one (.d v))) => some (some v) | _ => none
def pvd (ρ : Nat → PA) : List Operand → Option (List DV)
 | [] => some []
 | x :: xs =>
  match pv ρ x, pvd ρ xs with
  | some (.s (.one (.d v))), some l => some (v :: l)
  | _, _ => none
def fillP (ρ : Nat → PA) : List (Nat × Nat × Operand) → List PC → Option (List PC)
 | [], cs => some cs
 | (off, size, x) :: rest, cs =>
  match pv ρ x with
  | some (.s v) => bif Nat.beq v.cells.length size && Nat.ble (off + size) cs.length then fillP ρ rest (cs.take off ++ v.cells ++ cs.drop (off + size)) else none
  | _ => none
mutual
def frC (lk : Nat → Bool) : Nat → List PO → PC → Option (List PO × DV)
 | _, os, .d v => some (os, v)
 | _, os, .own k =>
  match og os k with
  | .frz v => some (os, v)
  | .arr st v => bif lk k then none else some (oset (.frz (mkL st v)) os k, mkL st v)
  | _ => none
 | n + 1, os, .ptr k off =>
  match og os k with
  | .fbox ds => some (os, .fp ds off)
  | .box cs =>
   bif lk k then none else
   match frL lk n os cs with
   | some (os', ds) =>
    match og os' k with
    | .box cs' => bif Nat.beq cs'.length cs.length then some (oset (.fbox ds) os' k, .fp ds off) else none
    | _ => none
   | none => none
  | _ => none
 | _ + 1, os, .vw k st lo len =>
  match og os k with
  | .frz v => some (os, partT st lo len v)
  | .arr st' v => bif lk k then none else some (oset (.frz (mkL st' v)) os k, partT st lo len (mkL st' v))
  | _ => none
 | n + 1, os, .clo f caps =>
  match frK lk n os caps with
  | some (os', l) => some (os', .fn f l)
  | none => none
 | _, _, _ => none
def frL (lk : Nat → Bool) : Nat → List PO → List PC → Option (List PO × List DV)
 | _, os, [] => some (os, [])
 | n, os, c :: cs =>
  match n with
  | 0 => none
  | n + 1 =>
   match frC lk n os c with
   | some (os', d) =>
    match frL lk n os' cs with
    | some (os'', ds) => some (os'', d :: ds)
    | none => none
   | none => none
def frK (lk : Nat → Bool) : Nat → List PO → List (Nat ⊕ List DV) → Option (List PO × List (List DV))
 | _, os, [] => some (os, [])
 | n, os, c :: cs =>
  match n with
  | 0 => none
  | n + 1 =>
   match (match c with | .inl k => frC lk n os (.ptr k 0) | .inr xs => some (os, .fp xs 0)) with
   | some (os', .fp x 0) =>
    match frK lk n os' cs with
    | some (os'', xs) => some (os'', x :: xs)
    | none => none
   | _ => none
end
def frFuel : Nat := 100
def frV (lk : Nat → Bool) (os : List PO) : PV → Option (List PO × DS)
 | .one c => match frC lk frFuel os c with | some (os', d) => some (os', .one d) | none => none
 | .agg cs => match frL lk frFuel os cs with | some (os', ds) => some (os', .agg ds) | none => none
def frA (lk : Nat → Bool) (os : List PO) : List PA → Option (List PO × List DA)
 | [] => some (os, [])
 | .s v :: l =>
  match frV lk os v with
  | some (os', d) =>
   match frA lk os' l with
   | some (os'', ds) => some (os'', .s d :: ds)
   | none => none
  | none => none
 | _ :: _ => none
abbrev KT (β : Type) := PA → List PO → List Nat → List Nat → Option β
abbrev Orc := Nat → List DA → Option DA
abbrev und : PA := .bad
abbrev pd (v : DV) : PA := .s (.one (.d v))
abbrev pc (c : PC) : PA := .s (.one c)
def appF (O : Orc) (v : DV) (ds : List DA) : Option DA :=
 match v with
 | .fn g caps => O g (ds ++ caps.map fun x => .s (.one (.fp x 0)))
 | _ => none
def mkN (bytes : Nat) (l c : DV) : Option Nat :=
 match l, c with
 | .int _ (.ofNat l), .int _ (.ofNat c) => bif Nat.beq l c && Nat.ble c 1073741824 && Nat.ble (bytes * c) 281474976710656 then some l else none
 | _, _ => none
def pS2b : DV → Option DV
 | .str s => some (.lst 1 (s.data.toList.map fun c => [.int .u8 (.ofNat c.toNat)]))
 | _ => none
def chunks (st : Nat) : Nat → List DV → List (List DV)
 | 0, _ => []
 | n + 1, ds => ds.take st :: chunks st n (ds.drop st)
def allD : List PC → Option (List DV)
 | [] => some []
 | .d v :: cs => match allD cs with | some l => some (v :: l) | none => none
 | _ => none
def gath (cs : List PC) (st : Nat) : Nat → Nat → Option (List DV)
 | 0, _ => some []
 | n + 1, off =>
  match cs[off]?, gath cs st n (off + st) with
  | some (.d v), some l => some (v :: l)
  | _, _ => none
def ipC (cs : List PC) (st len i : Nat) : Nat → Nat → Option (List PC)
 | 0, _ => some []
 | m + 1, off =>
  match gath cs st len off, ipC cs st len i m (Nat.succ off) with
  | some l, some r => some (.d (atD l i) :: r)
  | _, _ => none
def part1 {β : Type} (n : Option Nat) (cs : List PC) (off : Nat) (k : PV → Option β) : Option β :=
 match n with
 | none => bindD cs[off]? fun c => k (.one c)
 | some m => bif Nat.ble (off + m) cs.length then k (.agg ((cs.drop off).take m)) else none
def part1n {β : Type} (n : Option Nat) (cs : List PC) (off : Nat) (k : PV → Option β) : Option β :=
 match n with
 | some 0 => none
 | n => part1 n cs off k
def capsP (ρ : Nat → PA) : List Operand → Option (List (Nat ⊕ List DV))
 | [] => some []
 | x :: xs =>
  match pv ρ x, capsP ρ xs with
  | some (.s (.one (.ptr k 0))), some l => some (.inl k :: l)
  | some (.s (.one (.d (.fp y 0)))), some l => some (.inr y :: l)
  | _, _ => none
def bSh {β : Type} (sh : Sh) (r : Option DA) (k : PA → Option β) : Option β :=
 match sh with
 | .one => b1 r fun d => k (pd d)
 | .agg n => bA n r fun l => k (.s (.agg ((exp l n 0).map .d)))
 | .tup shs => bT shs r fun l => k (.tup (comps l shs 0))
 | .no => bN r (k und)
 | .sc => b1 r fun d => k (pd d)
 | .tsc n => bT (nones n) r fun l => k (.tup (comps l (nones n) 0))
def bShS {β : Type} (sh : Sh) (r : Option DA) (k : PA → Option β) : Option β :=
 match sh with
 | .sc => b1s r fun d => k (pd d)
 | .tsc n => bTs n r fun l => k (.tup (comps l (nones n) 0))
 | _ => none
def scSh : Sh → Bool
 | .sc => true
 | .tsc _ => true
 | _ => false
def lvO : PO → Bool
 | .box _ => true
 | .arr _ _ => true
 | .mp _ _ => true
 | _ => false
def tchK (os : List PO) : List (Nat ⊕ List DV) → Bool
 | [] => false
 | .inl k :: l => lvO (og os k) || tchK os l
 | .inr _ :: l => tchK os l
def tchC (os : List PO) : PC → Bool
 | .own k => lvO (og os k)
 | .ptr k _ => lvO (og os k)
 | .vw k _ _ _ => lvO (og os k)
 | .clo _ caps => tchK os caps
 | _ => false
def tchL (os : List PO) : List PC → Bool
 | [] => false
 | c :: l => tchC os c || tchL os l
def tchA (os : List PO) : List PA → Bool
 | [] => false
 | .s v :: l => tchL os v.cells || tchA os l
 | _ :: l => tchA os l
def srcP {β : Type} (os : List PO) (st : Nat) (c : PC) (k : List (List DV) → Option β) : Option β :=
 match c with
 | .d v => bindD (pElems st v) k
 | .own j =>
  match og os j with
  | .arr st' v => bif Nat.beq st st' then k (elemsO v) else none
  | .frz v => bindD (pElems st v) k
  | _ => none
 | _ => none
variable {β : Type}
def pLoad (os : List PO) (n : Option Nat) (c : PC) (k : KT β) : Option β :=
 match c with
 | .ptr j off =>
  match og os j with
  | .box cs => part1 n cs off fun v => k (.s v) os [] [j]
  | .fbox ds => part1n n (ds.map .d) off fun v => k (.s v) os [] [j]
  | _ => none
 | .d (.fp xs off) => part1n n (xs.map .d) off fun v => k (.s v) os [] []
 | .ep j st i off =>
  match og os j with
  | .arr st' v => bif Nat.beq st st' then bindD (nthO v i) fun x => part1 n ((exp x st 0).map .d) off fun v => k (.s v) os [] [j] else none
  | _ => none
 | .ip j off len st i o =>
  match og os j with
  | .box cs =>
   match n with
   | none => bindD (ipC cs st len i 1 (off + o)) fun l => match l with | [c] => k (pc c) os [] [j] | _ => none
   | some m => bif Nat.beq m 0 then none else bindD (ipC cs st len i m (off + o)) fun l => k (.s (.agg l)) os [] [j]
  | _ => none
 | _ => none
def pStore (lk : Nat → Bool) (os : List PO) (n : Nat) (c : PC) (v : PV) (k : KT β) : Option β :=
 bif Nat.beq v.cells.length n then
  match c with
  | .ptr j off =>
   match og os j with
   | .box cs => bif lk j then none else bif Nat.ble (off + n) cs.length then k und (oset (.box (cs.take off ++ v.cells ++ cs.drop (off + n))) os j) [j] [] else none
   | _ => none
  | .ep j st i off =>
   bif lk j then none else
   bindD (frL lk frFuel os v.cells) fun p =>
   match og p.1 j with
   | .arr st' w => bif Nat.beq st st' then bindD (setO st w i off p.2) fun w' => k und (oset (.arr st w') p.1 j) [j] [] else none
   | _ => none
  | _ => none
 else none
def pIxs (os : List PO) (st : Nat) (c : PC) (i : DV) (k : KT β) : Option β :=
 match c with
 | .d v => bindD (pIdx st v i) fun x => k (pd (.fp (exp x st 0) 0)) os [] []
 | .own j =>
  match og os j with
  | .frz v => bindD (pIdx st v i) fun x => k (pd (.fp (exp x st 0) 0)) os [] []
  | .arr st' v => bif Nat.beq st st' then bindD (pIdxO v i) fun n => k (pc (.ep j st n 0)) os [] [] else none
  | _ => none
 | .vw j st' lo len =>
  match og os j with
  | .frz v => bindD (pIdx st (partT st' lo len v) i) fun x => k (pd (.fp (exp x st 0) 0)) os [] []
  | .arr _ _ => bif Nat.beq st st' then bindD (pIdxN len i) fun n => k (pc (.ep j st (lo + n) 0)) os [] [] else none
  | _ => none
 | _ => none
def pSliceC (os : List PO) (st : Nat) (c : PC) (lo hi : Option DV) (k : KT β) : Option β :=
 match c with
 | .own j =>
  match og os j with
  | .arr st' v => bif Nat.beq st st' then bindD (vwB lo hi (lenO v)) fun p => k (pc (.vw j st p.1 p.2)) os [] [] else none
  | .frz v => bindD (pSlice st v lo hi) fun z => k (pd z) os [] []
  | _ => none
 | .vw j st' l n => bif Nat.beq st st' then bindD (vwB lo hi n) fun p => k (pc (.vw j st (l + p.1) p.2)) os [] [] else none
 | .d v => bindD (pSlice st v lo hi) fun z => k (pd z) os [] []
 | _ => none
def clrO (v : OC) (lo len : Nat) (ds : List DV) : OC :=
 match v with
 | none => none
 | some xs => some (xs.take lo ++ List.replicate len ds ++ xs.drop (lo + len))
def pClear (lk : Nat → Bool) (os : List PO) (st : Nat) (zs : List CVal) (c : PC) (k : KT β) : Option β :=
 match c with
 | .vw j st' lo len =>
  match og os j with
  | .arr st'' v => bif lk j then none else bif Nat.beq st st' && Nat.beq st st'' && Nat.beq zs.length st then bindD (cDs zs) fun ps => bindD (allD ps) fun ds => k und (oset (.arr st'' (clrO v lo len ds)) os j) [j] [] else none
  | _ => none
 | _ => none
def pAppend (lk : Nat → Bool) (os : List PO) (st bytes : Nat) (s : PC) (x : PC) (k : KT β) : Option β :=
 srcP os st x fun new =>
 match s with
 | .d .nils => gd (fits bytes new.length) (k (pc (.own os.length)) (os ++ [.arr st (appO none new)]) [] [])
 | .own j =>
  match og os j with
  | .arr st' v => bif lk j then none else bif Nat.beq st st' then gd (fits bytes (lenO v + new.length)) (k (pc (.own os.length)) (oset .dead os j ++ [.arr st (appO v new)]) [j] []) else none
  | _ => none
 | _ => none
def eqSh : Option Nat → Option Nat → Bool
 | none, none => true
 | some a, some b => Nat.beq a b
 | _, _ => false
def dsSh : DS → Option Nat
 | .one _ => none
 | .agg l => some l.length
def dsOf : PV → Option DS
 | .one (.d v) => some (.one v)
 | .agg cs => match allD cs with | some l => some (.agg l) | none => none
 | _ => none
def zDs (z : SVal) : Option DS := match pvS z with | some p => dsOf p | none => none
def eqDS (q : Nat ⊕ List Nat) (a b : DS) : Option Bool :=
 match q, a, b with
 | .inl t, .one x, .one y => eqD t x y
 | .inr ks, .agg xs, .agg ys => eqDs ks xs ys
 | _, _, _ => none
def findP (q : Nat ⊕ List Nat) (st : Nat) (kd : DS) : List (List DV) → Option (Option DS)
 | [] => some none
 | x :: xs =>
  match eqDS q kd (kD st x) with
  | some true => some (some (vD st x))
  | some false => findP q st kd xs
  | none => none
def putP (q : Nat ⊕ List Nat) (st : Nat) (kd : DS) (row : List DV) : List (List DV) → Option (List (List DV))
 | [] => some [row]
 | x :: xs =>
  match eqDS q kd (kD st x) with
  | some true => some (row :: xs)
  | some false => match putP q st kd row xs with | some l => some (x :: l) | none => none
  | none => none
def lkD (z : DS) (r : Option DS) : DS := match r with | some v => v | none => z
def lookK {β : Type} (z : DS) (ok : Bool) (r : Option DS) (os : List PO) (k : KT β) : Option β :=
 match z with
 | .one _ => bif ok then k (.tup [.one (dsO (lkD z r)), .one (.bool r.isSome)]) os [] [] else k (pd (dsO (lkD z r))) os [] []
 | .agg l => bif ok then k (.tup [.agg (exp (dsA (lkD z r)) l.length 0), .one (.bool r.isSome)]) os [] [] else k (.s (.agg ((exp (dsA (lkD z r)) l.length 0).map .d))) os [] []
def pLookup {β : Type} (os : List PO) (q : Nat ⊕ List Nat) (z : SVal) (ok : Bool) (c : PC) (kp : PV) (k : KT β) : Option β :=
 bindD (dsOf kp) fun kd => bindD (zDs z) fun zd => bindD (eqDS q kd kd) fun _ =>
 match c with
 | .own j =>
  match og os j with
  | .mp st xs => bif eqSh (shV st) (dsSh zd) then bindD (findP q st kd xs) fun r => lookK zd ok r os k else none
  | _ => none
 | .d .nilm => lookK zd ok none os k
 | _ => none
def pMupd {β : Type} (lk : Nat → Bool) (os : List PO) (q : Nat ⊕ List Nat) (c : PC) (kp vp : PV) (k : KT β) : Option β :=
 bindD (dsOf kp) fun kd => bindD (frV lk os vp) fun p => bindD (eqDS q kd kd) fun _ =>
 match c with
 | .own j =>
  match og p.1 j with
  | .mp st xs =>
   bif lk j then none else
   bif eqSh (shK st) (dsSh kd) && eqSh (shV st) (dsSh p.2) then bindD (putP q st kd (kd.cells ++ p.2.cells) xs) fun ys => k und (oset (.mp st ys) p.1 j) [j] [] else none
  | _ => none
 | _ => none
def pOp (O : Orc) (lk : Nat → Bool) (sh : Sh) (ρ : Nat → PA) (os : List PO) (o : KOp) (k : KT β) : Option β :=
 match o with
 | .mv x => bindD (pv ρ x) fun a => k a os [] []
 | .pick c a b => wd (pv ρ c) fun v => bindD (pv ρ a) fun a => bindD (pv ρ b) fun b =>
  match a, b with
  | .s (.one (.d x)), .s (.one (.d y)) => bindD (pPick v x y) fun z => k (pd z) os [] []
  | a, b => ifB v (k a os [] []) (k b os [] [])
 | .alloc zs => bindD (cDs zs) fun cs => k (pc (.ptr os.length 0)) (os ++ [.box cs]) [] []
 | .box x =>
  match pv ρ x with
  | some (.s v) => k (pc (.ptr os.length 0)) (os ++ [.box v.cells]) [] []
  | _ => none
 | .build zs parts => bindD (cDs zs) fun cs => bindD (fillP ρ parts cs) fun cs => k (.s (.agg cs)) os [] []
 | .bslice st len zs parts => bindD (cDs zs) fun cs => bindD (fillP ρ parts cs) fun cs => bindD (frL lk frFuel os cs) fun p =>
  bif Nat.beq p.2.length (len * st) then k (pc (.own p.1.length)) (p.1 ++ [.arr st (some (chunks st len p.2))]) [] [] else none
 | .load n x => w1 (pv ρ x) fun c => pLoad os n c k
 | .store n x v => w1 (pv ρ x) fun c =>
  match pv ρ v with
  | some (.s v) => pStore lk os n c v k
  | _ => none
 | .nilck x => w1 (pv ρ x) fun c =>
  match c with
  | .ptr j off => k (pc (.ptr j off)) os [] []
  | .clo f l => k (pc (.clo f l)) os [] []
  | .d (.fp xs off) => k (pd (.fp xs off)) os [] []
  | _ => none
 | .bin op x y => wd (pv ρ x) fun v => wd (pv ρ y) fun w => bindD (pBin op v w) fun z => k (pd z) os [] []
 | .shift l x y => wd (pv ρ x) fun v => wd (pv ρ y) fun w => bindD (pShift l v w) fun z => k (pd z) os [] []
 | .str op x y => wd (pv ρ x) fun v => wd (pv ρ y) fun w => bindD (pStr op v w) fun z => k (pd z) os [] []
 | .nilS neg x y => w1 (pv ρ x) fun c => wd (pv ρ y) fun w =>
  match w with
  | .nils =>
   match c with
   | .d v => bindD (pNilS v) fun q => k (pd (.bool (bif neg then !q else q))) os [] []
   | .own j =>
    match og os j with
    | .arr _ v => k (pd (.bool (bif neg then v.isSome else v.isNone))) os [] []
    | .frz v => bindD (pNilS v) fun q => k (pd (.bool (bif neg then !q else q))) os [] []
    | _ => none
   | _ => none
  | _ => none
 | .eq q neg x y =>
  match q with
  | .inl t => wd (pv ρ x) fun v => wd (pv ρ y) fun w => bindD (eqD t v w) fun b => k (pd (.bool (bif neg then !b else b))) os [] []
  | .inr ks =>
   match pv ρ x, pv ρ y with
   | some (.s (.agg xs)), some (.s (.agg ys)) => bindD (allD xs) fun xs => bindD (allD ys) fun ys => bindD (eqDs ks xs ys) fun b => k (pd (.bool (bif neg then !b else b))) os [] []
   | _, _ => none
 | .not x => wd (pv ρ x) fun v => bindD (pNot v) fun z => k (pd z) os [] []
 | .neg x => wd (pv ρ x) fun v => bindD (pNeg v) fun z => k (pd z) os [] []
 | .conv t x => wd (pv ρ x) fun v => bindD (pConv t v) fun z => k (pd z) os [] []
 | .b2s x => w1 (pv ρ x) fun c =>
  match c with
  | .d v => bindD (pB2s v) fun z => k (pd z) os [] []
  | .own j =>
   match og os j with
   | .arr st v => bindD (pB2s (mkL st v)) fun z => k (pd z) os [] [j]
   | _ => none
  | _ => none
 | .mkfn f caps => bindD (capsP ρ caps) fun l =>
  match l with
  | [] => k (pd (.fn f [])) os [] []
  | x :: l => k (pc (.clo f (x :: l))) os [] []
 | .slice st x lo hi mx =>
  match mx with
  | none => w1 (pv ρ x) fun c => bindD (pvo ρ lo) fun lo => bindD (pvo ρ hi) fun hi => pSliceC os st c lo hi k
  | some _ => none
 | .sslice x lo hi => wd (pv ρ x) fun v => bindD (pvo ρ lo) fun lo => bindD (pvo ρ hi) fun hi => bindD (pSslice v lo hi) fun z => k (pd z) os [] []
 | .foff x off => w1 (pv ρ x) fun c =>
  match c with
  | .ptr j o => k (pc (.ptr j (o + off))) os [] []
  | .d (.fp xs o) => k (pd (.fp xs (o + off))) os [] []
  | .ep j st i o => k (pc (.ep j st i (o + off))) os [] []
  | .ip j f len st i o => k (pc (.ip j f len st i (o + off))) os [] []
  | _ => none
 | .field x off n =>
  match pv ρ x with
  | some (.s (.agg cs)) => part1 n cs off fun v => k (.s v) os [] []
  | _ => none
 | .ixs st x i => w1 (pv ρ x) fun c => wd (pv ρ i) fun i => pIxs os st c i k
 | .ixarr len st x i => w1 (pv ρ x) fun c => wd (pv ρ i) fun i =>
  match c with
  | .ptr j off => bindD (pIdxN len i) fun n => k (pc (.ip j off len st n 0)) os [] []
  | _ => none
 | .ixagg len st n x i => wd (pv ρ i) fun i =>
  match pv ρ x with
  | some (.s (.agg cs)) => bindD (pIdxN len i) fun j =>
   match n with
   | none => bindD (ipC cs st len j 1 0) fun l => match l with | [c] => k (pc c) os [] [] | _ => none
   | some m => bif Nat.beq m 0 then none else bindD (ipC cs st len j m 0) fun l => k (.s (.agg l)) os [] []
  | _ => none
 | .ixstr x i => wd (pv ρ x) fun v => wd (pv ρ i) fun w => bindD (pIxstr v w) fun z => k (pd z) os [] []
 | .extract x i =>
  match pv ρ x with
  | some (.tup l) =>
   match l[i]? with
   | some (.one d) => k (pd d) os [] []
   | some (.agg ds) => k (.s (.agg (ds.map .d))) os [] []
   | none => none
  | _ => none
 | .lenS x => wd (pv ρ x) fun v => bindD (pLenS v) fun z => k (pd z) os [] []
 | .lenL x => w1 (pv ρ x) fun c =>
  match c with
  | .d v => bindD (pLen v) fun z => k (pd z) os [] []
  | .own j =>
   match og os j with
   | .arr _ v => k (pd (.int .i64 (.ofNat (lenO v)))) os [] []
   | .frz v => bindD (pLen v) fun z => k (pd z) os [] []
   | _ => none
  | .vw _ _ _ len => k (pd (.int .i64 (.ofNat len))) os [] []
  | _ => none
 | .append st bytes s x => w1 (pv ρ s) fun s => w1 (pv ρ x) fun x => pAppend lk os st bytes s x k
 | .minmax m x xs => wd (pv ρ x) fun v => bindD (pvd ρ xs) fun l => bindD (pMinmax m v l) fun z => k (pd z) os [] []
 | .mkslice st zs bytes l c => wd (pv ρ l) fun l => wd (pv ρ c) fun c => bindD (mkN bytes l c) fun n => bindD (cDs zs) fun ps => bindD (allD ps) fun ds => bif Nat.beq zs.length st then k (pc (.own os.length)) (os ++ [.arr st (some (List.replicate n ds))]) [] [] else none
 | .clear st zs x => w1 (pv ρ x) fun c => pClear lk os st zs c k
 | .mkmap st => k (pc (.own os.length)) (os ++ [.mp st []]) [] []
 | .lookup q z ok m x => w1 (pv ρ m) fun c =>
  match pv ρ x with
  | some (.s kp) => pLookup os q z ok c kp k
  | _ => none
 | .mupd q m x v => w1 (pv ρ m) fun c =>
  match pv ρ x, pv ρ v with
  | some (.s kp), some (.s vp) => pMupd lk os q c kp vp k
  | _, _ => none
 | .lenM x => w1 (pv ρ x) fun c =>
  match c with
  | .own j =>
   match og os j with
   | .mp _ xs => k (pd (.int .i64 (.ofNat xs.length))) os [] []
   | _ => none
  | .d .nilm => k (pd (.int .i64 (.ofNat 0))) os [] []
  | _ => none
 | .s2b x => wd (pv ρ x) fun v => bindD (pS2b v) fun z => k (pd z) os [] []
 | .call f args => w1 (pv ρ f) fun c => bindD (pvs ρ args) fun as =>
  bif scSh sh && (tchC os c || tchA os as) then bindD (frA (fun _ => false) os as) fun p => bindD (frC (fun _ => false) frFuel p.1 c) fun q => bShS sh (appF O q.2 p.2) fun a => k a os [] []
  else bindD (frA lk os as) fun p => bindD (frC lk frFuel p.1 c) fun q => bSh sh (appF O q.2 p.2) fun a => k a q.1 [] []
end Go.PE
end
section
namespace Go.PE
open Go Go.CE
structure Bk (N : Nm) (os : List PO) (N' : Nm) (wr : List Nat) : Prop where
 nle : N.h.n.toNat ≤ N'.h.n.toNat
 eq : ∀ b : BN, b.toNat < N.h.n.toNat → (∀ j, j ∈ wr → j < N.n → live (og os j) → blk (N.μ j) ≠ some b) → N'.h.t.get b = N.h.t.get b
theorem Bk.same {N N' : Nm} {os : List PO} {wr : List Nat} (h : N'.h = N.h) : Bk N os N' wr := ⟨by rw [h]; exact Nat.le_refl _, fun b _ _ => by rw [h]⟩
theorem Bk.gr {N N' : Nm} {os : List PO} {wr : List Nat} (g : Gr N.h N'.h) : Bk N os N' wr := ⟨g.le, fun b hb _ => g.old b hb⟩
theorem Bk.put {N N' : Nm} {os : List PO} {b : BN} {x : AObj} {j : Nat} (h : N'.h = N.h.put b x) (hj : j < N.n) (hl : live (og os j)) (hb : blk (N.μ j) = some b) : Bk N os N' [j] :=
 ⟨by rw [h]; exact Nat.le_refl _, fun b' _ H => by rw [h]; exact put_other _ _ (fun e => H j (List.mem_singleton_self j) hj hl (by rw [e]; exact hb))⟩
def held : PO → Prop
 | .box _ => True
 | .arr _ (some _) => True
 | .frz v => ∃ st xs, v = .lst st xs
 | .fbox _ => True
 | .mp _ _ => True
 | _ => False
def Ho (n : Nat) (os os' : List PO) (wr : List Nat) : Prop := ∀ k, k < n → (held (og os' k) → held (og os k)) ∧ (held (og os k) → held (og os' k) ∨ k ∈ wr) ∧ (live (og os' k) → live (og os k))
theorem Ho.refl (n : Nat) (os : List PO) (wr : List Nat) : Ho n os os wr := fun _ _ => ⟨id, .inl, id⟩
theorem Ho.trans {n : Nat} {a b c : List PO} {w1 w2 : List Nat} (h : Ho n a b w1) (g : Ho n b c w2) : Ho n a c (w1 ++ w2) := fun k hk =>
 ⟨fun x => (h k hk).1 ((g k hk).1 x), fun x => ((h k hk).2.1 x).elim (fun y => ((g k hk).2.1 y).imp id (List.mem_append_right _)) (fun y => .inr (List.mem_append_left _ y)), fun x => (h k hk).2.2 ((g k hk).2.2 x)⟩
theorem Ho.oset {n : Nat} {os : List PO} {o : PO} {j : Nat} {wr : List Nat} (hb : held o → held (og os j)) (hf : held (og os j) → held o ∨ j ∈ wr) (hv : live o → live (og os j)) : Ho n os (PE.oset o os j) wr := fun k _ => by
 rw [og_oset]
 by_cases h : k = j ∧ j < os.length
 ·rw [if_pos h, h.1]; exact ⟨hb, hf, hv⟩
 ·rw [if_neg h]; exact ⟨id, .inl, id⟩
theorem Ho.app {n : Nat} {os : List PO} {o : PO} {wr : List Nat} (hn : n ≤ os.length) : Ho n os (os ++ [o]) wr := fun k hk => by
 rw [og_app, if_neg (by omega)]; exact ⟨id, .inl, id⟩
theorem held_ex {N : Nm} {k : Nat} {o : PO} {b : BN} (hh : held o) (H : RepO N k o) (hb : blk (N.μ k) = some b) : ∃ y, N.h.t.get b = some y := by
 cases o with
 | box cs => obtain ⟨b', x, k1, _, k3⟩ := live_blk (o := .box cs) trivial H; rw [k1] at hb; cases hb; exact ⟨x, k3⟩
 | arr st v =>
  cases v with
  | none => exact hh.elim
  | some xs => obtain ⟨b', x, k1, _, k3⟩ := live_blk (o := .arr st (some xs)) trivial H; rw [k1] at hb; cases hb; exact ⟨x, k3⟩
 | frz v =>
  obtain ⟨st, xs, rfl⟩ := hh
  obtain ⟨b2, o2, off2, cap2, ex2, cs2, q1, q2, q3, _⟩ := Rep.lst_inv H
  rw [q1] at hb
  cases hb
  exact ⟨_, q3⟩
 | fbox ds =>
  obtain ⟨b2, q1, q2⟩ := H
  rw [q1] at hb
  cases hb
  obtain ⟨b3, o3, base3, cs3, p1, p2, p3, _⟩ := q2.fp_inv
  cases p1
  exact ⟨_, p3⟩
 | mp st xs => obtain ⟨b', x, k1, _, k3⟩ := live_blk (o := .mp st xs) trivial H; rw [k1] at hb; cases hb; exact ⟨x, k3⟩
 | dead => exact hh.elim
def BkE (N : Nm) (os : List PO) (N' : Nm) (wr : List Nat) : Prop :=
 ∀ (b : BN) y, N.h.t.get b = some y → (∀ j, j ∈ wr → j < N.n → live (og os j) → blk (N.μ j) ≠ some b) → N'.h.t.get b = some y
theorem Bk.ex {N N' : Nm} {os : List PO} {wr : List Nat} (K : Bk N os N' wr) (hw : HW N.h) : BkE N os N' wr := fun b y hy H => (K.eq b (hw b y hy) H).trans hy
structure Sim (E : En) (lk : Nat → Bool) (N : Nm) (os : List PO) (wr : List Nat) (N' : Nm) (os' : List PO) (v : AVal) (a : PA) : Prop where
 inv : InvO E N' os'
 nx : Nx N N'
 fr : Bk N os N' wr
 lock : ∀ j, lk j = true → og os' j = og os j
 ho : Ho N.n os os' wr
 val : RepPA N' v a
theorem Sim.quiet {E : En} {lk : Nat → Bool} {N : Nm} {os : List PO} {v : AVal} {a : PA} (I : InvO E N os) (H : RepPA N v a) : Sim E lk N os [] N os v a := ⟨I, .refl N, .same rfl, fun _ _ => rfl, .refl _ _ _, H⟩
structure Stp (E : En) (lk : Nat → Bool) (N : Nm) (os : List PO) (wr : List Nat) (N' : Nm) (os' : List PO) : Prop where
 inv : InvO E N' os'
 nx : Nx N N'
 fr : Bk N os N' wr
 lock : ∀ j, lk j = true → og os' j = og os j
 ho : Ho N.n os os' wr
theorem Stp.sim {E : En} {lk : Nat → Bool} {N N' : Nm} {os os' : List PO} {wr : List Nat} (S : Stp E lk N os wr N' os') {v : AVal} {a : PA} (H : RepPA N' v a) : Sim E lk N os wr N' os' v a := ⟨S.inv, S.nx, S.fr, S.lock, S.ho, H⟩
theorem Stp.refl {E : En} {lk : Nat → Bool} {N : Nm} {os : List PO} (I : InvO E N os) : Stp E lk N os [] N os := ⟨I, .refl N, .same rfl, fun _ _ => rfl, .refl _ _ _⟩
theorem Stp.trans {E : En} {lk : Nat → Bool} {A B C : Nm} {o1 o2 o3 : List PO} {w1 w2 : List Nat} (a : Stp E lk A o1 w1 B o2) (b : Stp E lk B o2 w2 C o3) (hn : B.n = A.n) : Stp E lk A o1 (w1 ++ w2) C o3 :=
 ⟨b.inv, a.nx.trans b.nx, ⟨Nat.le_trans a.fr.nle b.fr.nle, fun x hx H => (b.fr.eq x (Nat.lt_of_lt_of_le hx a.fr.nle) fun j hj hl hv hb => by
  have hA : j < A.n := hn ▸ hl
  exact H j (List.mem_append_right _ hj) hA ((a.ho j hA).2.2 hv) (by rw [← a.nx.mu j hA]; exact hb)).trans (a.fr.eq x hx fun j hj hl hv => H j (List.mem_append_left _ hj) hl hv)⟩, fun j hj => (b.lock j hj).trans (a.lock j hj), a.ho.trans (by rw [← hn]; exact b.ho)⟩
structure Fz (N N' : Nm) : Prop where
 h : N'.h = N.h
 n : N'.n = N.n
 μ : N'.μ = N.μ
theorem Fz.refl (N : Nm) : Fz N N := ⟨rfl, rfl, rfl⟩
theorem Fz.trans {A B C : Nm} (a : Fz A B) (b : Fz B C) : Fz A C := ⟨b.h.trans a.h, b.n.trans a.n, b.μ.trans a.μ⟩
theorem rd_all {cs : List CVal} {st n : Nat} (h : cs.length = n) : rd n 0 (.cells cs st) = some cs := by
 show cut n cs 0 = some cs
 rw [← h]
 exact cut_full cs
variable {E : En} {lk : Nat → Bool}
theorem arr_rep {N : Nm} {k st : Nat} {v : OC} {fz' : BN → Prop} (g : FG N.fz N.h fz' N.h) (H : RepO N k (.arr st v)) (hb : v ≠ none → ∀ b, blk (N.μ k) = some b → fz' b) : Rep fz' N.h (N.μ k) (mkL st v) := by
 cases v with
 | none => rw [show N.μ k = .nils from H]; exact .nils
 | some xs =>
  obtain ⟨b, vs, ex, h1, h2, h3, h4, h5⟩ := H
  rw [h1]
  refine Rep.lst_mk (cs := vs) (hb (by simp) b (by rw [h1]; rfl)) h3 (fun e => by rw [e]; exact Nat.le_refl _) (rd_all h4) fun i x hx => ⟨(h5 i x hx).1, (h5 i x hx).2.mono g⟩
theorem arr_fz {N : Nm} {os : List PO} (I : InvO E N os) {k st : Nat} {v : OC} (ho : og os k = .arr st v) (hk : lk k = false) :
  ∃ N', Fz N N' ∧ Stp E lk N os [] N' (oset (.frz (mkL st v)) os k) ∧ Rep N'.fz N'.h (N.μ k) (mkL st v) := by
 have hlock : ∀ (o : PO) j, lk j = true → og (oset o os k) j = og os j := fun o j hj => by
  rw [og_oset, if_neg (fun e => by rw [e.1] at hj; rw [hj] at hk; cases hk)]
 have hO := I.obj k
 rw [ho] at hO
 cases v with
 | none =>
  have h1 : RepO N k (.frz (mkL st none)) := by
   show Rep _ _ _ _
   rw [show N.μ k = .nils from hO]; exact .nils
  exact ⟨N, .refl N, ⟨I.turn k _ (fun e => e) h1, .refl N, Bk.same rfl, hlock _, .oset (fun ⟨_, _, h⟩ => by cases h) (fun h => by rw [ho] at h; exact h.elim) (fun h => h.elim)⟩, h1⟩
 | some xs =>
  obtain ⟨b, vs, ex, h1, h2, h3, h4, h5⟩ := hO
  have hb : blk (N.μ k) = some b := by rw [h1]; rfl
  have hl : live (og os k) := by rw [ho]; trivial
  have g : FG N.fz N.h (fun b' => N.fz b' ∨ b' = b) N.h := ⟨fun _ _ h _ => .inl h, fun _ _ _ h => h⟩
  have hr : Rep (fun b' => N.fz b' ∨ b' = b) N.h (N.μ k) (mkL st (some xs)) := arr_rep g (show RepO N k (.arr st (some xs)) from ⟨b, vs, ex, h1, h2, h3, h4, h5⟩) fun _ b' hb' => by rw [hb] at hb'; cases hb'; exact .inr rfl
  obtain ⟨i1, i2⟩ := I.freeze hl hb (.frz (mkL st (some xs))) (fun e => e) hr
  exact ⟨⟨N.μ, N.n, fun b' => N.fz b' ∨ b' = b, N.h⟩, ⟨rfl, rfl, rfl⟩, ⟨i1, i2, Bk.same rfl, hlock _, .oset (fun _ => by rw [ho]; trivial) (fun _ => .inl ⟨_, _, rfl⟩) (fun h => h.elim)⟩, hr⟩
theorem partT_ok {N : Nm} {fz : BN → Prop} {h : AHeap} {k st lo len : Nat} {c : CVal} {v : DV} (H : Rep fz h (N.μ k) v) (hc : RepPC N c (.vw k st lo len)) : Rep fz h c (partT st lo len v) := by
 obtain ⟨_, hc⟩ := hc
 cases v <;> first | exact .u _ | skip
 ·have h1 := H.scal rfl
  rcases hc with ⟨_, rfl, _, _⟩ | ⟨b, l, cap, ex, cap', ex', h2, _⟩
  ·exact .nils
  ·rw [h1] at h2; cases h2
 ·rename_i st' xs
  show Rep fz h c (bif Nat.beq st st' then .lst st' ((xs.drop lo).take len) else .u)
  cases hs : Nat.beq st st' with
  | false => exact .u _
  | true =>
   have := Nat.eq_of_beq_eq_true hs
   subst this
   obtain ⟨b, o, off, cap, ex, cs, e1, g1, g2, g3, g4, g5⟩ := H.lst_inv
   rcases hc with ⟨h2, _⟩ | ⟨b', l, cap2, ex2, cap', ex', h2, rfl, h3, h4⟩
   ·rw [e1] at h2; cases h2
   ·rw [e1] at h2
    cases h2
    have hlen : ((xs.drop lo).take len).length = len := by simp; omega
    have ml : (lo + len) * st ≤ xs.length * st := Nat.mul_le_mul_right st h3
    rw [Nat.add_mul] at ml
    have := Rep.lst_mk (fz := fz) (off := 0 + lo * st) (cap := cap') (ex := ex') (xs := (xs.drop lo).take len) (cs := (cs.drop (lo * st)).take (len * st)) g1 g2 (by rw [hlen]; exact h4)
     (by rw [hlen]; exact rd_sub g4 ml) (fun i z hz => by
      rw [List.getElem?_take] at hz
      split at hz
      ·rename_i hi
       rw [List.getElem?_drop] at hz
       obtain ⟨q1, q2⟩ := g5 _ _ hz
       refine ⟨q1, ?_⟩
       have e1 : List.take st (List.drop (i * st) (List.take (len * st) (List.drop (lo * st) cs))) = List.take st (List.drop ((lo + i) * st) cs) := by
        have := Nat.mul_le_mul_right st (show i + 1 ≤ len from hi)
        rw [Nat.succ_mul] at this
        rw [List.drop_take, List.drop_drop, List.take_take, Nat.add_mul, Nat.min_eq_left (by omega)]
       rw [e1]; exact q2
      ·cases hz)
    rwa [hlen, Nat.zero_add] at this
theorem fr_ok : ∀ n : Nat,
  (∀ (os : List PO) (N : Nm) (c : CVal) (p : PC) (os' : List PO) (d : DV), InvO E N os → RepPC N c p → frC lk n os p = some (os', d) → ∃ N', Fz N N' ∧ Stp E lk N os [] N' os' ∧ Rep N'.fz N'.h c d) ∧
  (∀ (os : List PO) (N : Nm) (cs : List CVal) (ps : List PC) (os' : List PO) (ds : List DV), InvO E N os → RepPL N cs ps → frL lk n os ps = some (os', ds) → ∃ N', Fz N N' ∧ Stp E lk N os [] N' os' ∧ RepL N'.fz N'.h cs ds) ∧
  (∀ (os : List PO) (N : Nm) (qs : List (BN × Nat)) (xs : List (Nat ⊕ List DV)) (os' : List PO) (l : List (List DV)), InvO E N os → RepCaps N qs xs → frK lk n os xs = some (os', l) →
   ∃ N', Fz N N' ∧ Stp E lk N os [] N' os' ∧ RepL N'.fz N'.h (qs.map fun p => .ptr p.1 p.2) (l.map fun x => .fp x 0)) := by
 intro n
 induction n with
 | zero =>
  refine ⟨?_, ?_, ?_⟩
  ·intro os N c p os' d I H e
   cases p with
   | d v => simp only [frC] at e; cases e; exact ⟨N, .refl N, .refl I, H⟩
   | own k =>
    simp only [frC] at e
    obtain ⟨hk, rfl⟩ := H
    cases ho : og os k with
    | frz v => rw [ho] at e; cases e; exact ⟨N, .refl N, .refl I, by have := I.obj k; rw [ho] at this; exact this⟩
    | arr st v =>
     rw [ho] at e
     simp only at e
     cases hlk : lk k with
     | true => rw [hlk] at e; cases e
     | false => rw [hlk] at e; cases e; exact arr_fz I ho hlk
    | _ => rw [ho] at e; cases e
   | _ => simp only [frC] at e; cases e
  ·intro os N cs ps os' ds I H e
   cases ps with
   | nil => simp only [frL] at e; cases e; cases cs with
    | nil => exact ⟨N, .refl N, .refl I, .nil _ _⟩
    | cons c cs => exact H.elim
   | cons p ps => simp only [frL] at e; cases e
  ·intro os N cs ps os' ds I H e
   cases ps with
   | nil => simp only [frK] at e; cases e; cases cs with
    | nil => exact ⟨N, .refl N, .refl I, .nil _ _⟩
    | cons c cs => exact H.elim
   | cons p ps => simp only [frK] at e; cases e
 | succ n ih =>
  obtain ⟨ihC, ihL, ihK⟩ := ih
  refine ⟨?_, ?_, ?_⟩
  ·intro os N c p os' d I H e
   cases p with
   | d v => simp only [frC] at e; cases e; exact ⟨N, .refl N, .refl I, H⟩
   | own k =>
    simp only [frC] at e
    obtain ⟨hk, rfl⟩ := H
    cases ho : og os k with
    | frz v => rw [ho] at e; cases e; exact ⟨N, .refl N, .refl I, by have := I.obj k; rw [ho] at this; exact this⟩
    | arr st v =>
     rw [ho] at e
     simp only at e
     cases hlk : lk k with
     | true => rw [hlk] at e; cases e
     | false => rw [hlk] at e; cases e; exact arr_fz I ho hlk
    | _ => rw [ho] at e; cases e
   | ptr k off =>
    simp only [frC] at e
    obtain ⟨hk, b, hb, rfl⟩ := H
    cases ho : og os k with
    | fbox ds =>
     rw [ho] at e; cases e
     have := I.obj k
     rw [ho] at this
     obtain ⟨b', h1, h2⟩ := this
     rw [hb] at h1; cases h1
     obtain ⟨b1, o1, base, cs, e1, e2, e3, e4, e5⟩ := h2.fp_inv
     cases e1
     refine ⟨N, .refl N, .refl I, ?_⟩
     have := Rep.fp_mk (off := off) e2 e3 e4 e5
     rwa [show (0 + off) = off by omega] at this
    | box cs =>
     rw [ho] at e
     simp only at e
     cases hlk : lk k with
     | true => rw [hlk] at e; cases e
     | false =>
      rw [hlk] at e
      simp only [cond_false] at e
      cases hf : frL lk n os cs with
      | none => rw [hf] at e; cases e
      | some p =>
       obtain ⟨os1, ds⟩ := p
       rw [hf] at e
       simp only at e
       have hO := I.obj k
       rw [ho] at hO
       obtain ⟨b', vs, h1, h2, h3, h4⟩ := hO
       rw [hb] at h1; cases h1
       obtain ⟨N1, f1, s1, r1⟩ := ihL os N vs cs os1 ds I h4 hf
       cases ho1 : og os1 k with
       | box cs' =>
        rw [ho1] at e
        simp only at e
        cases hq : Nat.beq cs'.length cs.length with
        | false => rw [hq] at e; cases e
        | true =>
         rw [hq] at e
         cases e
         have hl : live (og os1 k) := by rw [ho1]; trivial
         have hbk : blk (N1.μ k) = some b := by rw [f1.μ, hb]; rfl
         have g : FG N1.fz N1.h (fun b' => N1.fz b' ∨ b' = b) N1.h := ⟨fun _ _ h _ => .inl h, fun _ _ _ h => h⟩
         have h3' : N1.h.t.get b = some (.cells vs 0) := by rw [f1.h]; exact h3
         have hr : ∀ off, Rep (fun b' => N1.fz b' ∨ b' = b) N1.h (.ptr b off) (.fp ds off) := fun off => by
          have := Rep.fp_mk (fz := fun b' => N1.fz b' ∨ b' = b) (off := off) (base := 0) (.inr rfl) h3' (rd_all r1.1) (r1.mono g)
          rwa [show (0 + off) = off by omega] at this
         obtain ⟨i1, i2⟩ := s1.inv.freeze hl hbk (.fbox ds) (fun e => e) ⟨b, by rw [f1.μ]; exact hb, hr 0⟩
         refine ⟨⟨N1.μ, N1.n, fun b' => N1.fz b' ∨ b' = b, N1.h⟩, f1.trans ⟨rfl, rfl, rfl⟩, s1.trans (w2 := []) ⟨i1, i2, Bk.same rfl, fun j hj => ?_, .oset (fun _ => by rw [ho1]; trivial) (fun _ => .inl trivial) (fun h => h.elim)⟩ f1.n, hr off⟩
         rw [og_oset, if_neg (fun e => by rw [e.1] at hj; rw [hj] at hlk; cases hlk)]
       | _ => rw [ho1] at e; cases e
    | _ => rw [ho] at e; cases e
   | ep k st i off => simp only [frC] at e; cases e
   | ip k off len st i o => simp only [frC] at e; cases e
   | vw k st lo len =>
    simp only [frC] at e
    cases ho : og os k with
    | frz v => rw [ho] at e; cases e; exact ⟨N, .refl N, .refl I, partT_ok (by have := I.obj k; rw [ho] at this; exact this) H⟩
    | arr st' v =>
     rw [ho] at e
     simp only at e
     cases hlk : lk k with
     | true => rw [hlk] at e; cases e
     | false =>
      rw [hlk] at e; cases e
      obtain ⟨N', f1, s1, r1⟩ := arr_fz I ho hlk
      exact ⟨N', f1, s1, partT_ok (N := N) r1 H⟩
    | _ => rw [ho] at e; cases e
   | clo f caps =>
    simp only [frC] at e
    obtain ⟨ps, rfl, hc⟩ := H
    cases hf : frK lk n os caps with
    | none => rw [hf] at e; cases e
    | some p =>
     obtain ⟨os1, l⟩ := p
     rw [hf] at e; cases e
     obtain ⟨N1, f1, s1, r1⟩ := ihK os N ps caps _ _ I hc hf
     exact ⟨N1, f1, s1, .fn_mk r1⟩
  ·intro os N cs ps os' ds I H e
   cases ps with
   | nil => simp only [frL] at e; cases e; cases cs with
    | nil => exact ⟨N, .refl N, .refl I, .nil _ _⟩
    | cons c cs => exact H.elim
   | cons p ps =>
    cases cs with
    | nil => exact H.elim
    | cons c cs =>
     simp only [frL] at e
     cases h1 : frC lk n os p with
     | none => rw [h1] at e; cases e
     | some q =>
      obtain ⟨os1, d⟩ := q
      rw [h1] at e
      simp only at e
      cases h2 : frL lk n os1 ps with
      | none => rw [h2] at e; cases e
      | some q =>
       obtain ⟨os2, ds2⟩ := q
       rw [h2] at e; cases e
       obtain ⟨N1, f1, s1, r1⟩ := ihC os N c p os1 d I H.1 h1
       obtain ⟨N2, f2, s2, r2⟩ := ihL os1 N1 cs ps _ _ s1.inv (RepPL.mono s1.nx H.2) h2
       exact ⟨N2, f1.trans f2, s1.trans s2 f1.n, .cons (r1.mono s2.nx.fg) r2⟩
  ·intro os N qs xs os' l I H e
   cases xs with
   | nil => simp only [frK] at e; cases e; cases qs with
    | nil => exact ⟨N, .refl N, .refl I, .nil _ _⟩
    | cons c cs => exact H.elim
   | cons x xs =>
    cases qs with
    | nil => exact H.elim
    | cons q qs =>
     have hx : ∀ os1 d, (match x with | .inl k => frC lk n os (.ptr k 0) | .inr xs => some (os, .fp xs 0)) = some (os1, d) → ∃ N', Fz N N' ∧ Stp E lk N os [] N' os1 ∧ Rep N'.fz N'.h (.ptr q.1 q.2) d := by
      intro os1 d h1
      cases x with
      | inl k =>
       obtain ⟨a1, a2, a3⟩ := H.1
       exact ihC os N (.ptr q.1 q.2) (.ptr k 0) os1 d I ⟨a1, q.1, a2, by rw [a3]⟩ h1
      | inr xs => cases h1; exact ⟨N, .refl N, .refl I, H.1⟩
     have key : ∀ m : Option (List PO × DV), (∀ os1 d, m = some (os1, d) → ∃ N', Fz N N' ∧ Stp E lk N os [] N' os1 ∧ Rep N'.fz N'.h (.ptr q.1 q.2) d) →
       (match m with
        | some (os', .fp x 0) =>
         match frK lk n os' xs with
         | some (os'', xs) => some (os'', x :: xs)
         | none => none
        | _ => none) = some (os', l) → ∃ N', Fz N N' ∧ Stp E lk N os [] N' os' ∧ RepL N'.fz N'.h ((q :: qs).map fun p => .ptr p.1 p.2) (l.map fun x => .fp x 0) := by
      intro m hm e
      split at e
      ·rename_i os1 y
       cases h2 : frK lk n os1 xs with
       | none => rw [h2] at e; cases e
       | some q2 =>
        obtain ⟨os2, l2⟩ := q2
        rw [h2] at e; cases e
        obtain ⟨N1, f1, s1, r1⟩ := hm os1 _ rfl
        obtain ⟨N2, f2, s2, r2⟩ := ihK os1 N1 qs xs _ _ s1.inv (RepCaps.mono s1.nx H.2) h2
        exact ⟨N2, f1.trans f2, s1.trans s2 f1.n, .cons (r1.mono s2.nx.fg) r2⟩
      ·cases e
     exact key _ hx e
theorem frC_ok {n : Nat} {os os' : List PO} {N : Nm} {c : CVal} {p : PC} {d : DV} (I : InvO E N os) (H : RepPC N c p) (e : frC lk n os p = some (os', d)) : ∃ N', Fz N N' ∧ Stp E lk N os [] N' os' ∧ Rep N'.fz N'.h c d := (fr_ok n).1 _ _ _ _ _ _ I H e
theorem frL_ok {n : Nat} {os os' : List PO} {N : Nm} {cs : List CVal} {ps : List PC} {ds : List DV} (I : InvO E N os) (H : RepPL N cs ps) (e : frL lk n os ps = some (os', ds)) : ∃ N', Fz N N' ∧ Stp E lk N os [] N' os' ∧ RepL N'.fz N'.h cs ds := (fr_ok n).2.1 _ _ _ _ _ _ I H e
theorem frV_ok {os os' : List PO} {N : Nm} {v : SVal} {p : PV} {d : DS} (I : InvO E N os) (H : RepPV N v p) (e : frV lk os p = some (os', d)) : ∃ N', Fz N N' ∧ Stp E lk N os [] N' os' ∧ RepS N'.fz N'.h v d := by
 cases p with
 | one c =>
  cases v with
  | agg cs => exact H.elim
  | one x =>
   simp only [frV] at e
   cases h1 : frC lk frFuel os c with
   | none => rw [h1] at e; cases e
   | some q => obtain ⟨o1, d1⟩ := q; rw [h1] at e; cases e; exact frC_ok I H h1
 | agg cs =>
  cases v with
  | one x => exact H.elim
  | agg xs =>
   simp only [frV] at e
   cases h1 : frL lk frFuel os cs with
   | none => rw [h1] at e; cases e
   | some q => obtain ⟨o1, d1⟩ := q; rw [h1] at e; cases e; exact frL_ok I H h1
def RepPAL (N : Nm) : List AVal → List PA → Prop
 | [], [] => True
 | c :: cs, d :: ds => RepPA N c d ∧ RepPAL N cs ds
 | _, _ => False
theorem RepPAL.mono {N N' : Nm} (g : Nx N N') : ∀ {c : List AVal} {d : List PA}, RepPAL N c d → RepPAL N' c d
 | [], [], _ => trivial
 | _ :: _, _ :: _, H => ⟨H.1.mono g, RepPAL.mono g H.2⟩
 | [], _ :: _, H => H.elim
 | _ :: _, [], H => H.elim
theorem frA_ok : ∀ {as : List PA} {vs : List AVal} {os os' : List PO} {N : Nm} {ds : List DA}, InvO E N os → RepPAL N vs as → frA lk os as = some (os', ds) → ∃ N', Fz N N' ∧ Stp E lk N os [] N' os' ∧ RepAL N'.fz N'.h vs ds
 | [], [], os, os', N, ds, I, H, e => by simp only [frA] at e; cases e; exact ⟨N, .refl N, .refl I, trivial⟩
 | .s p :: as, v :: vs, os, os', N, ds, I, H, e => by
  simp only [frA] at e
  cases h1 : frV lk os p with
  | none => rw [h1] at e; cases e
  | some q =>
   obtain ⟨o1, d1⟩ := q
   rw [h1] at e
   simp only at e
   cases h2 : frA lk o1 as with
   | none => rw [h2] at e; cases e
   | some q =>
    obtain ⟨o2, ds2⟩ := q
    rw [h2] at e; cases e
    obtain ⟨w, rfl, hw⟩ := H.1.inv
    ·obtain ⟨N1, f1, s1, r1⟩ := frV_ok I hw h1
     obtain ⟨N2, f2, s2, r2⟩ := frA_ok s1.inv (RepPAL.mono s1.nx H.2) h2
     exact ⟨N2, f1.trans f2, s1.trans s2 f1.n, .of (r1.mono s2.nx.fg), r2⟩
 | .tup l :: as, _ :: _, os, os', N, ds, I, H, e => by simp only [frA] at e; cases e
 | .bad :: as, _ :: _, os, os', N, ds, I, H, e => by simp only [frA] at e; cases e
 | .undef :: as, _ :: _, os, os', N, ds, I, H, e => by simp only [frA] at e; cases e
 | [], _ :: _, _, _, _, _, _, H, _ => H.elim
 | _ :: _, [], _, _, _, _, _, H, _ => H.elim
end Go.PE
end
section
namespace Go.PE
open Go Go.CE
def Goal {β : Type} (C : Nat → Caller) (E : En) (lk : Nat → Bool) (N : Nm) (os : List PO) (r : Fr) (ko : KOp) (k : KT β) (x : β) : Prop :=
 ∃ a os' wr rd, k a os' wr rd = some x ∧ Ev (fun n => runK r ko (C n) N.h) (fun p => ∃ N', N'.h = p.2 ∧ Sim E lk N os wr N' os' p.1 a)
def trk (ρ : Nat → PA) : KOp → Option Operand
 | .mv x => some x
 | .foff x _ => some x
 | .field x _ _ => some x
 | .ixs _ x _ => match pv ρ x with | some (.s (.one (.own _))) => none | some (.s (.one (.vw _ _ _ _))) => none | _ => some x
 | .extract x _ => some x
 | .nilck x => some x
 | _ => none
def memX : KOp → Option Operand
 | .load _ x => some x
 | .b2s x => some x
 | _ => none
def MemI (N : Nm) (os : List PO) (r : Fr) (ρ : Nat → PA) (xo : Operand) (rd : List Nat) : Prop :=
  ∃ w, kv r xo = some (.s (.one w)) ∧ (blk w = none ∨ ∃ b, blk w = some b ∧
    ((∃ j, rd = [j] ∧ j < N.n ∧ blk (N.μ j) = some b ∧ held (og os j) ∧ ∀ N' : Nm, (∀ u pa, kv r xo = some u → pv ρ xo = some pa → RepPA N' u pa) → j < N'.n) ∨
     (rd = [] ∧ ∀ N' : Nm, (∀ u pa, kv r xo = some u → pv ρ xo = some pa → RepPA N' u pa) → N'.fz b ∧ ∃ y, N'.h.t.get b = some y)))
def GoalQ {β : Type} (N : Nm) (os : List PO) (r : Fr) (ρ : Nat → PA) (ko : KOp) (k : KT β) (x : β) : Prop :=
 ∃ v a rd, k a os [] rd = some x ∧ (∀ call, runK r ko call N.h = some (v, N.h)) ∧ RepPA N v a ∧ (∀ xo, trk ρ ko = some xo → ∀ (N' : Nm) u pa, kv r xo = some u → pv ρ xo = some pa → RepPA N' u pa → RepPA N' v a) ∧
  (∀ xo, memX ko = some xo → MemI N os r ρ xo rd)
section
variable {β : Type} {C : Nat → Caller} {E : En} {lk : Nat → Bool} {N : Nm} {os : List PO} {r : Fr} {ρ : Nat → PA}
theorem GoalQ.quiet {ko : KOp} {k : KT β} {x : β} (_ : InvO E N os) {v : AVal} {a : PA} {rd : List Nat} (e : ∀ call, runK r ko call N.h = some (v, N.h)) (H : RepPA N v a) (hk : k a os [] rd = some x) (ht : ∀ xo, trk ρ ko = some xo → ∀ (N' : Nm) u pa, kv r xo = some u → pv ρ xo = some pa → RepPA N' u pa → RepPA N' v a := by intro _ h; cases h) (hm : ∀ xo, memX ko = some xo → MemI N os r ρ xo rd := by intro _ h; cases h) : GoalQ N os r ρ ko k x := ⟨v, a, rd, hk, e, H, ht, hm⟩
theorem Goal.quiet {ko : KOp} {k : KT β} {x : β} (I : InvO E N os) {v : AVal} {a : PA} {rd : List Nat} (e : ∀ call, runK r ko call N.h = some (v, N.h)) (H : RepPA N v a) (hk : k a os [] rd = some x) : Goal C E lk N os r ko k x :=
 ⟨a, os, [], rd, hk, ⟨(v, N.h), ⟨N, rfl, .quiet I H⟩, 0, fun n _ => e (C n)⟩⟩
theorem ht_of {a : Operand} {u0 : AVal} {p0 : PA} {v : AVal} {a' : PA} (ku : kv r a = some u0) (kp : pv ρ a = some p0) (H : ∀ N' : Nm, RepPA N' u0 p0 → RepPA N' v a') : ∀ xo, some a = some xo → ∀ (N' : Nm) u pa, kv r xo = some u → pv ρ xo = some pa → RepPA N' u pa → RepPA N' v a' := by
 intro xo h n u pa h1 h2 h3
 cases h
 rw [ku] at h1; cases h1
 rw [kp] at h2; cases h2
 exact H n h3
theorem GoalQ.goal {ko : KOp} {k : KT β} {x : β} (I : InvO E N os) (G : GoalQ N os r ρ ko k x) : Goal C E lk N os r ko k x := by
 obtain ⟨v, a, rd, h1, h2, h3, _, _⟩ := G
 exact .quiet I h2 h3 h1
theorem cD_ok {fz : BN → Prop} {h : AHeap} {c : CVal} {d : DV} (e : cD c = some d) : Rep fz h c d := by
 cases c <;> simp only [cD] at e <;> first | cases e | skip
 ·exact .bool _
 ·exact .int _ _
 ·exact .str _
 ·exact .nilp
 ·exact .nils
 ·exact .nilm
 ·rename_i f caps
  cases caps with
  | nil => cases e; exact .fn_mk (.nil _ _)
  | cons a l => cases e
 ·exact .nilf
 ·exact .nili
theorem cDs_ok : ∀ {cs : List CVal} {ps : List PC}, cDs cs = some ps → RepPL N cs ps
 | [], ps, e => by cases e; trivial
 | c :: cs, ps, e => by
  simp only [cDs] at e
  cases h1 : cD c with
  | none => rw [h1] at e; cases e
  | some d =>
   cases h2 : cDs cs with
   | none => rw [h1, h2] at e; cases e
   | some ds => rw [h1, h2] at e; cases e; exact ⟨cD_ok h1, cDs_ok h2⟩
theorem pvS_ok {s : SVal} {p : PV} (e : pvS s = some p) : RepPV N s p := by
 cases s with
 | one c =>
  simp only [pvS] at e
  cases h1 : cD c with
  | none => rw [h1] at e; cases e
  | some d => rw [h1] at e; cases e; exact cD_ok h1
 | agg cs =>
  simp only [pvS] at e
  cases h1 : cDs cs with
  | none => rw [h1] at e; cases e
  | some ds => rw [h1] at e; cases e; exact cDs_ok h1
theorem pv_ok (F : ∀ i, RepPA N (r i) (ρ i)) {x : Operand} {a : PA} (e : pv ρ x = some a) : ∃ v, kv r x = some v ∧ RepPA N v a := by
 cases x with
 | tmp t => cases e; exact ⟨_, rfl, F t⟩
 | const v =>
  simp only [pv] at e
  cases hv : cVal v with
  | none => rw [hv] at e; cases e
  | some s =>
   rw [hv] at e
   simp only at e
   cases hp : pvS s with
   | none => rw [hp] at e; cases e
   | some p => rw [hp] at e; cases e; exact ⟨.s s, by simp only [kv, hv], .of (pvS_ok hp)⟩
 | func f => cases e; exact ⟨_, rfl, RepPA.of (p := .one (.d (.fn f []))) (v := .one (.fn f [])) (Rep.fn_mk (.nil _ _))⟩
 | global g => cases e
theorem pvs_ok (F : ∀ i, RepPA N (r i) (ρ i)) : ∀ {xs : List Operand} {as : List PA}, pvs ρ xs = some as → ∃ vs, kvs r xs = some vs ∧ RepPAL N vs as
 | [], as, e => by cases e; exact ⟨[], rfl, trivial⟩
 | x :: xs, as, e => by
  simp only [pvs] at e
  cases h1 : pv ρ x with
  | none => rw [h1] at e; cases e
  | some a =>
   cases h2 : pvs ρ xs with
   | none => rw [h1, h2] at e; cases e
   | some l =>
    rw [h1, h2] at e; cases e
    obtain ⟨v, k1, k2⟩ := pv_ok F h1
    obtain ⟨vs, k3, k4⟩ := pvs_ok F h2
    exact ⟨v :: vs, by simp only [kvs, k1, k3], k2, k4⟩
theorem w1_ok (F : ∀ i, RepPA N (r i) (ρ i)) {x : Operand} {K : PC → Option β} {y : β} (e : w1 (pv ρ x) K = some y) : ∃ c v, K c = some y ∧ kv r x = some v ∧ RepPA N v (pc c) ∧ pv ρ x = some (pc c) := by
 cases h : pv ρ x with
 | none => rw [h] at e; cases e
 | some a =>
  rw [h] at e
  cases a with
  | tup l => cases e
  | bad => cases e
  | undef => cases e
  | s p =>
   cases p with
   | agg cs => cases e
   | one c =>
    obtain ⟨v, k1, k2⟩ := pv_ok F h
    exact ⟨c, v, e, k1, k2, rfl⟩
theorem wd_ok (F : ∀ i, RepPA N (r i) (ρ i)) {x : Operand} {K : DV → Option β} {y : β} (e : wd (pv ρ x) K = some y) : ∃ d v, K d = some y ∧ kv r x = some v ∧ RepPA N v (pd d) := by
 cases h : pv ρ x with
 | none => rw [h] at e; cases e
 | some a =>
  rw [h] at e
  cases a with
  | tup l => cases e
  | bad => cases e
  | undef => cases e
  | s p =>
   cases p with
   | agg cs => cases e
   | one c =>
    cases c with
    | d d =>
     obtain ⟨v, k1, k2⟩ := pv_ok F h
     exact ⟨d, v, e, k1, k2⟩
    | _ => cases e
theorem bindD_ok {α : Type} {o : Option α} {K : α → Option β} {y : β} (e : bindD o K = some y) : ∃ a, o = some a ∧ K a = some y := by
 cases o with
 | none => cases e
 | some a => exact ⟨a, rfl, e⟩
theorem pc_inv {v : AVal} {c : PC} (H : RepPA N v (pc c)) : ∃ w, v = .s (.one w) ∧ RepPC N w c := by
 obtain ⟨w, rfl, hw⟩ := H.inv
 cases w with
 | one w => exact ⟨w, rfl, hw⟩
 | agg cs => exact hw.elim
theorem pd_inv {v : AVal} {d : DV} (H : RepPA N v (pd d)) : ∃ w, v = .s (.one w) ∧ Rep N.fz N.h w d := pc_inv H
theorem pd_scal {v : AVal} {d : DV} {c : CVal} (H : RepPA N v (pd d)) (e : d.scal = some c) : v = .s (.one c) := by
 obtain ⟨w, rfl, hw⟩ := pd_inv H
 rw [hw.scal e]
theorem scal_pd {d : DV} {c : CVal} (e : d.scal = some c) : RepPA N (.s (.one c)) (pd d) := RepPA.of (p := .one (.d d)) (v := .one c) (Rep.ofScal e)
theorem rep_pd {d : DV} {c : CVal} (e : Rep N.fz N.h c d) : RepPA N (.s (.one c)) (pd d) := RepPA.of (p := .one (.d d)) (v := .one c) e
theorem rep_pc {p : PC} {c : CVal} (e : RepPC N c p) : RepPA N (.s (.one c)) (pc p) := RepPA.of (p := .one p) (v := .one c) e
theorem oD_ok {o : Option CVal} {z : DV} (e : oD o = some z) : ∃ c, o = some c ∧ z.scal = some c := by
 cases o with
 | none => cases e
 | some c => cases c <;> simp only [oD] at e <;> cases e <;> exact ⟨_, rfl, rfl⟩
variable {k : KT β} {x : β}
theorem o_mv (I : InvO E N os) (F : ∀ i, RepPA N (r i) (ρ i)) {a : Operand} (e : bindD (pv ρ a) (fun a => k a os [] []) = some x) : GoalQ N os r ρ (.mv a) k x := by
 obtain ⟨p, h1, h2⟩ := bindD_ok e
 obtain ⟨v, k1, k2⟩ := pv_ok F h1
 exact .quiet I (fun call => by simp only [runK, k1, bind1]) k2 h2 (ht_of k1 h1 fun N' H => H)
theorem o_bin (I : InvO E N os) (F : ∀ i, RepPA N (r i) (ρ i)) {op : BinOp} {a b : Operand} (e : wd (pv ρ a) (fun v => wd (pv ρ b) fun w => bindD (pBin op v w) fun z => k (pd z) os [] []) = some x) : GoalQ N os r ρ (.bin op a b) k x := by
 have hh := wd_ok F e
 clear e
 obtain ⟨v, va, e, ka, ra⟩ := hh
 have hh := wd_ok F e
 clear e
 obtain ⟨w, vb, e, kb, rb⟩ := hh
 have hh := bindD_ok e
 clear e
 obtain ⟨z, hz, e⟩ := hh
 cases v <;> cases w <;> simp only [pBin] at hz <;> first | cases hz | skip
 rename_i k1 n1 k2 n2
 cases hk : eqK k1 k2 with
 | false => rw [hk] at hz; cases hz
 | true =>
  rw [hk] at hz
  obtain ⟨c, h1, h2⟩ := oD_ok hz
  rw [pd_scal ra rfl] at ka
  rw [pd_scal rb rfl] at kb
  refine .quiet I (v := .s (.one c)) (fun call => ?_) (scal_pd h2) e
  simp only [runK, ka, kb, bind1]
  show (bif eqK k1 k2 then retC N.h (intFn op k1 n1 n2) else none) = _
  rw [hk, h1]; rfl
theorem o_shift (I : InvO E N os) (F : ∀ i, RepPA N (r i) (ρ i)) {l : Bool} {a b : Operand} (e : wd (pv ρ a) (fun v => wd (pv ρ b) fun w => bindD (pShift l v w) fun z => k (pd z) os [] []) = some x) : GoalQ N os r ρ (.shift l a b) k x := by
 have hh := wd_ok F e
 clear e
 obtain ⟨v, va, e, ka, ra⟩ := hh
 have hh := wd_ok F e
 clear e
 obtain ⟨w, vb, e, kb, rb⟩ := hh
 have hh := bindD_ok e
 clear e
 obtain ⟨z, hz, e⟩ := hh
 cases v <;> cases w <;> simp only [pShift] at hz <;> first | cases hz | skip
 rename_i k1 n1 k2 n2
 obtain ⟨c, h1, h2⟩ := oD_ok hz
 rw [pd_scal ra rfl] at ka
 rw [pd_scal rb rfl] at kb
 refine .quiet I (v := .s (.one c)) (fun call => ?_) (scal_pd h2) e
 simp only [runK, ka, kb, bind1]
 show retC N.h ((bif l then evShl else evShr) k1 n1 n2) = _
 rw [h1]; rfl
theorem o_str (I : InvO E N os) (F : ∀ i, RepPA N (r i) (ρ i)) {op : BinOp} {a b : Operand} (e : wd (pv ρ a) (fun v => wd (pv ρ b) fun w => bindD (pStr op v w) fun z => k (pd z) os [] []) = some x) : GoalQ N os r ρ (.str op a b) k x := by
 have hh := wd_ok F e
 clear e
 obtain ⟨v, va, e, ka, ra⟩ := hh
 have hh := wd_ok F e
 clear e
 obtain ⟨w, vb, e, kb, rb⟩ := hh
 have hh := bindD_ok e
 clear e
 obtain ⟨z, hz, e⟩ := hh
 cases v <;> cases w <;> simp only [pStr] at hz <;> first | cases hz | skip
 rename_i s1 s2
 obtain ⟨c, h1, h2⟩ := oD_ok hz
 rw [pd_scal ra rfl] at ka
 rw [pd_scal rb rfl] at kb
 refine .quiet I (v := .s (.one c)) (fun call => ?_) (scal_pd h2) e
 simp only [runK, ka, kb, bind1]
 show retC N.h (evStr op s1 s2) = _
 rw [h1]; rfl
theorem o_not (I : InvO E N os) (F : ∀ i, RepPA N (r i) (ρ i)) {a : Operand} (e : wd (pv ρ a) (fun v => bindD (pNot v) fun z => k (pd z) os [] []) = some x) : GoalQ N os r ρ (.not a) k x := by
 have hh := wd_ok F e
 clear e
 obtain ⟨v, va, e, ka, ra⟩ := hh
 have hh := bindD_ok e
 clear e
 obtain ⟨z, hz, e⟩ := hh
 cases v <;> simp only [pNot] at hz <;> cases hz
 rw [pd_scal ra rfl] at ka
 exact .quiet I (fun call => by simp only [runK, ka, bind1]; rfl) (scal_pd rfl) e
theorem o_neg (I : InvO E N os) (F : ∀ i, RepPA N (r i) (ρ i)) {a : Operand} (e : wd (pv ρ a) (fun v => bindD (pNeg v) fun z => k (pd z) os [] []) = some x) : GoalQ N os r ρ (.neg a) k x := by
 have hh := wd_ok F e
 clear e
 obtain ⟨v, va, e, ka, ra⟩ := hh
 have hh := bindD_ok e
 clear e
 obtain ⟨z, hz, e⟩ := hh
 cases v <;> simp only [pNeg] at hz <;> cases hz
 rw [pd_scal ra rfl] at ka
 exact .quiet I (fun call => by simp only [runK, ka, bind1]; rfl) (scal_pd rfl) e
theorem o_conv (I : InvO E N os) (F : ∀ i, RepPA N (r i) (ρ i)) {t : IntKind} {a : Operand} (e : wd (pv ρ a) (fun v => bindD (pConv t v) fun z => k (pd z) os [] []) = some x) : GoalQ N os r ρ (.conv t a) k x := by
 have hh := wd_ok F e
 clear e
 obtain ⟨v, va, e, ka, ra⟩ := hh
 have hh := bindD_ok e
 clear e
 obtain ⟨z, hz, e⟩ := hh
 cases v <;> simp only [pConv] at hz <;> cases hz
 rw [pd_scal ra rfl] at ka
 exact .quiet I (fun call => by simp only [runK, ka, bind1]; rfl) (scal_pd rfl) e
theorem o_lenS (I : InvO E N os) (F : ∀ i, RepPA N (r i) (ρ i)) {a : Operand} (e : wd (pv ρ a) (fun v => bindD (pLenS v) fun z => k (pd z) os [] []) = some x) : GoalQ N os r ρ (.lenS a) k x := by
 have hh := wd_ok F e
 clear e
 obtain ⟨v, va, e, ka, ra⟩ := hh
 have hh := bindD_ok e
 clear e
 obtain ⟨z, hz, e⟩ := hh
 cases v <;> simp only [pLenS] at hz <;> cases hz
 rw [pd_scal ra rfl] at ka
 exact .quiet I (fun call => by simp only [runK, ka, bind1]; rfl) (scal_pd rfl) e
theorem byteD_ok : ∀ {l : List UInt8} {i : Nat} {z : DV}, byteD l i = some z → ∃ c, byteAt l i = some c ∧ z.scal = some c
 | [], i, z, e => by cases e
 | u :: l, i, z, e => by
  simp only [byteD, byteAt] at e ⊢
  cases hb : Nat.beq i 0 with
  | true => rw [hb] at e; cases e; exact ⟨_, rfl, rfl⟩
  | false => rw [hb] at e; exact byteD_ok e
theorem o_ixstr (I : InvO E N os) (F : ∀ i, RepPA N (r i) (ρ i)) {a b : Operand} (e : wd (pv ρ a) (fun v => wd (pv ρ b) fun w => bindD (pIxstr v w) fun z => k (pd z) os [] []) = some x) : GoalQ N os r ρ (.ixstr a b) k x := by
 have hh := wd_ok F e
 clear e
 obtain ⟨v, va, e, ka, ra⟩ := hh
 have hh := wd_ok F e
 clear e
 obtain ⟨w, vb, e, kb, rb⟩ := hh
 have hh := bindD_ok e
 clear e
 obtain ⟨z, hz, e⟩ := hh
 cases v <;> first | cases hz | skip
 cases w <;> first | cases hz | skip
 rename_i s kk n
 cases n with
 | negSucc n => cases hz
 | ofNat n =>
  simp only [pIxstr] at hz
  obtain ⟨c, h1, h2⟩ := byteD_ok hz
  rw [pd_scal ra rfl] at ka
  rw [pd_scal rb rfl] at kb
  refine .quiet I (v := .s (.one c)) (fun call => ?_) (scal_pd h2) e
  simp only [runK, ka, kb, bind1]
  show retC N.h (byteAt s.data.toList n) = _
  rw [h1]; rfl
theorem bnd_ok {t : Tr AVal} {x : Option DV} {o : Option AVal} {d y i : Nat} (hx : ∀ v, x = some v → ∃ w, o = some w ∧ RepPA N w (pd v)) (hn : x = none → o = none) (e : bndD x d y = some i) : bnd t (cO o) d y = some i := by
 cases x with
 | none => rw [hn rfl]; exact e
 | some v =>
  obtain ⟨w, rfl, hw⟩ := hx v rfl
  cases v <;> first | cases e | skip
  rename_i kk n
  cases n with
  | negSucc n => cases e
  | ofNat n => rw [pd_scal hw rfl]; exact e
theorem pvo_ok (F : ∀ i, RepPA N (r i) (ρ i)) {a : Option Operand} {x : Option DV} (e : pvo ρ a = some x) : ∃ o, kvo r a = some o ∧ (∀ v, x = some v → ∃ w, o = some w ∧ RepPA N w (pd v)) ∧ (x = none → o = none) := by
 cases a with
 | none => cases e; exact ⟨none, rfl, fun v h => (by cases h), fun _ => rfl⟩
 | some a =>
  simp only [pvo] at e
  split at e
  ·rename_i v hv
   cases e
   obtain ⟨w, k1, k2⟩ := pv_ok F hv
   exact ⟨some w, by simp only [kvo, k1], fun v h => by cases h; exact ⟨w, rfl, k2⟩, fun h => by cases h⟩
  ·cases e
theorem o_sslice (I : InvO E N os) (F : ∀ i, RepPA N (r i) (ρ i)) {a : Operand} {lo hi : Option Operand} (e : wd (pv ρ a) (fun v => bindD (pvo ρ lo) fun lo => bindD (pvo ρ hi) fun hi => bindD (pSslice v lo hi) fun z => k (pd z) os [] []) = some x) : GoalQ N os r ρ (.sslice a lo hi) k x := by
 have hh := wd_ok F e
 clear e
 obtain ⟨v, va, e, ka, ra⟩ := hh
 have hh := bindD_ok e
 clear e
 obtain ⟨l, hl, e⟩ := hh
 have hh := bindD_ok e
 clear e
 obtain ⟨h, hh, e⟩ := hh
 have hh := bindD_ok e
 clear e
 obtain ⟨z, hz, e⟩ := hh
 obtain ⟨ol, kl, l1, l2⟩ := pvo_ok F hl
 obtain ⟨oh, kh, h1, h2⟩ := pvo_ok F hh
 cases v <;> first | cases hz | skip
 rename_i s
 simp only [pSslice] at hz
 cases hb : bndD h s.size s.size with
 | none => rw [hb] at hz; cases hz
 | some y =>
  rw [hb] at hz
  simp only at hz
  cases hb2 : bndD l 0 y with
  | none => rw [hb2] at hz; cases hz
  | some q =>
   rw [hb2] at hz; cases hz
   rw [pd_scal ra rfl] at ka
   refine .quiet I (v := .s (.one (.str (s.extract q y)))) (fun call => ?_) (scal_pd rfl) e
   simp only [runK, ka, kl, kh, bind1]
   show opSslice (constF (.s (.one (.str s)))) (cO ol) (cO oh) noCall .nil N.h = _
   simp only [opSslice, constF, bnd_ok h1 h2 hb, bnd_ok l1 l2 hb2]
theorem minD_ok {m : Bool} {t : IntKind} : ∀ {l : List DV} {vs : List AVal} {a z : Int}, (∀ (j : Nat) (d : DV) (v : AVal), l[j]? = some d → vs[j]? = some v → RepPA N v (pd d)) → vs.length = l.length → minD m t l a = some z → minI m t .nil (cL vs) a = some z
 | [], [], a, z, _, _, e => e
 | d :: l, v :: vs, a, z, H, hl, e => by
  cases d <;> first | cases e | skip
  rename_i t' n
  simp only [minD] at e
  have := pd_scal (H 0 _ _ rfl rfl) rfl
  subst this
  show minI m t .nil (constF _ :: cL vs) a = some z
  simp only [minI, constF]
  cases hk : eqK t t' with
  | false => rw [hk] at e; cases e
  | true =>
   rw [hk] at e
   exact minD_ok (fun j d v h1 h2 => H (j + 1) d v (by simpa using h1) (by simpa using h2)) (by simpa using hl) e
 | [], _ :: _, _, _, _, hl, _ => by simp at hl
 | _ :: _, [], _, _, _, hl, _ => by simp at hl
theorem pvd_ok (F : ∀ i, RepPA N (r i) (ρ i)) : ∀ {xs : List Operand} {l : List DV}, pvd ρ xs = some l → ∃ vs, kvs r xs = some vs ∧ vs.length = l.length ∧ ∀ (j : Nat) (d : DV) (v : AVal), l[j]? = some d → vs[j]? = some v → RepPA N v (pd d)
 | [], l, e => by cases e; exact ⟨[], rfl, rfl, fun j d v h => by simp at h⟩
 | x :: xs, l, e => by
  simp only [pvd] at e
  split at e
  ·rename_i v l' hv hl
   cases e
   obtain ⟨w, k1, k2⟩ := pv_ok F hv
   obtain ⟨vs, k3, k4, k5⟩ := pvd_ok F hl
   refine ⟨w :: vs, by simp only [kvs, k1, k3], by simp [k4], fun j d u h1 h2 => ?_⟩
   cases j with
   | zero => simp only [List.getElem?_cons_zero, Option.some.injEq] at h1 h2; subst h1; subst h2; exact k2
   | succ j => exact k5 j d u (by simpa using h1) (by simpa using h2)
  ·cases e
theorem o_minmax (I : InvO E N os) (F : ∀ i, RepPA N (r i) (ρ i)) {m : Bool} {a : Operand} {xs : List Operand} (e : wd (pv ρ a) (fun v => bindD (pvd ρ xs) fun l => bindD (pMinmax m v l) fun z => k (pd z) os [] []) = some x) : GoalQ N os r ρ (.minmax m a xs) k x := by
 have hh := wd_ok F e
 clear e
 obtain ⟨v, va, e, ka, ra⟩ := hh
 have hh := bindD_ok e
 clear e
 obtain ⟨l, hl, e⟩ := hh
 have hh := bindD_ok e
 clear e
 obtain ⟨z, hz, e⟩ := hh
 obtain ⟨vs, k3, k4, k5⟩ := pvd_ok F hl
 cases v <;> first | cases hz | skip
 rename_i t n
 simp only [pMinmax] at hz
 cases hm : minD m t l n with
 | none => rw [hm] at hz; cases hz
 | some q =>
  rw [hm] at hz; cases hz
  rw [pd_scal ra rfl] at ka
  refine .quiet I (v := .s (.one (.int t q))) (fun call => ?_) (scal_pd rfl) e
  simp only [runK, ka, k3, bind1]
  show opMinmax m (constF (.s (.one (.int t n)))) (cL vs) noCall .nil N.h = _
  simp only [opMinmax, constF, minD_ok k5 k4 hm]
theorem o_pick (I : InvO E N os) (F : ∀ i, RepPA N (r i) (ρ i)) {c a b : Operand} (e : wd (pv ρ c) (fun v => bindD (pv ρ a) fun a => bindD (pv ρ b) fun b =>
  match a, b with
  | .s (.one (.d x)), .s (.one (.d y)) => bindD (pPick v x y) fun z => k (pd z) os [] []
  | a, b => ifB v (k a os [] []) (k b os [] [])) = some x) : GoalQ N os r ρ (.pick c a b) k x := by
 have hh := wd_ok F e
 clear e
 obtain ⟨v, vc, e, kc, rc⟩ := hh
 have hh := bindD_ok e
 clear e
 obtain ⟨pa, ha, e⟩ := hh
 have hh := bindD_ok e
 clear e
 obtain ⟨pb, hb, e⟩ := hh
 obtain ⟨va, ka, ra⟩ := pv_ok F ha
 obtain ⟨vb, kb, rb⟩ := pv_ok F hb
 have hv : ∃ q, v = .bool q ∧ k (bif q then pa else pb) os [] [] = some x := by
  split at e
  ·have hh := bindD_ok e
   clear e
   obtain ⟨z, hz, e⟩ := hh
   cases v <;> simp only [pPick] at hz <;> cases hz
   rename_i q
   exact ⟨q, rfl, by cases q <;> exact e⟩
  ·cases v <;> first | cases e | skip
   rename_i q
   exact ⟨q, rfl, by cases q <;> exact e⟩
 obtain ⟨q, rfl, hk⟩ := hv
 rw [pd_scal rc rfl] at kc
 refine .quiet I (v := bif q then va else vb) (fun call => by simp only [runK, ka, kb, kc, bind1]; rfl) ?_ hk
 cases q
 ·exact rb
 ·exact ra
end
end Go.PE
end
section
namespace Go.PE
open Go Go.CE
section
variable {β : Type} {C : Nat → Caller} {E : En} {lk : Nat → Bool} {N : Nm} {os : List PO} {r : Fr} {ρ : Nat → PA} {k : KT β} {x : β}
theorem part1n_ok {n : Option Nat} {ps : List PC} {off : Nat} {K : PV → Option β} {y : β} (e : part1n n ps off K = some y) : n ≠ some 0 ∧ part1 n ps off K = some y := by
 unfold part1n at e
 split at e
 ·cases e
 ·rename_i h; exact ⟨h, e⟩
theorem part1_rd {n : Option Nat} {ps : List PC} {cs : List CVal} {base off m : Nat} {o : AObj} {K : PV → Option β} {y : β} (h : AHeap) (hr : rd m base o = some cs) (H : RepPL N cs ps) (h0 : n ≠ some 0 ∨ o ≠ .void) (e : part1 n ps off K = some y) :
  ∃ p s, K p = some y ∧ loadAt n h (base + off) (some o) = some (.s s, h) ∧ RepPV N s p := by
 cases n with
 | none =>
  simp only [part1] at e
  obtain ⟨c, hc, e⟩ := bindD_ok e
  have hl := H.len
  have hi := (List.getElem?_eq_some_iff.1 hc).1
  obtain ⟨v, hv⟩ : ∃ v, cs[off]? = some v := ⟨_, List.getElem?_eq_getElem (by omega)⟩
  exact ⟨.one c, .one v, e, rd_load1 h hr hv, H.get hv hc⟩
 | some n =>
  simp only [part1] at e
  cases hb : Nat.ble (off + n) ps.length with
  | false => rw [hb] at e; cases e
  | true =>
   rw [hb] at e
   have hle := Nat.le_of_ble_eq_true hb
   have hl := H.len
   have hm := rd_len hr
   exact ⟨_, .agg ((cs.drop off).take n), e, rd_load h (rd_sub hr (by omega)) (h0.imp (fun hh he => hh (by rw [he])) id), (H.drop off).take n⟩
theorem part1_x {n : Option Nat} {ps : List PC} {cs : List CVal} {off : Nat} {K : PV → Option β} {y : β} (h : AHeap) (H : RepPL N cs ps) (e : part1 n ps off K = some y) :
  ∃ p s, K p = some y ∧ CE.part n cs off h = some (.s s, h) ∧ RepPV N s p ∧ ∀ N' : Nm, RepPL N' cs ps → RepPV N' s p := by
 cases n with
 | none =>
  simp only [part1] at e
  obtain ⟨c, hc, e⟩ := bindD_ok e
  have hl := H.len
  have hi := (List.getElem?_eq_some_iff.1 hc).1
  obtain ⟨v, hv⟩ : ∃ v, cs[off]? = some v := ⟨_, List.getElem?_eq_getElem (by omega)⟩
  refine ⟨.one c, .one v, e, ?_, H.get hv hc, fun N' X => X.get hv hc⟩
  show retC h (getAt cs off) = _
  rw [getAt_eq, hv]; rfl
 | some n =>
  simp only [part1] at e
  cases hb : Nat.ble (off + n) ps.length with
  | false => rw [hb] at e; cases e
  | true =>
   rw [hb] at e
   have hle := Nat.le_of_ble_eq_true hb
   have hl := H.len
   refine ⟨_, .agg ((cs.drop off).take n), e, ?_, (H.drop off).take n, fun N' X => (X.drop off).take n⟩
   show retA h (cut n cs off) = _
   rw [cut_of cs n off (by omega)]; rfl
theorem exp_eq : ∀ (x : List DV), exp x x.length 0 = x := by
 have key : ∀ (p x : List DV), exp (p ++ x) x.length p.length = x := by
  intro p x
  induction x generalizing p with
  | nil => rfl
  | cons d x ih =>
   simp only [List.length_cons, exp]
   have h1 : ∀ q : List DV, atD (q ++ d :: x) q.length = d := by
    intro q
    induction q with
    | nil => rfl
    | cons a q ih => show atD (q ++ d :: x) q.length = d; exact ih
   have h2 := ih (p ++ [d])
   simp only [List.append_assoc, List.cons_append, List.nil_append, List.length_append, List.length_cons, List.length_nil] at h2
   rw [h1 p]
   congr 1
 intro x
 exact key [] x
theorem box_get (I : InvO E N os) {j : Nat} {ps : List PC} (ho : og os j = .box ps) : ∃ b cs, N.μ j = .ptr b 0 ∧ ¬ N.fz b ∧ N.h.t.get b = some (.cells cs 0) ∧ RepPL N cs ps := by
 have := I.obj j
 rw [ho] at this
 exact this
theorem arr_get (I : InvO E N os) {j st : Nat} {xs : List (List DV)} (ho : og os j = .arr st (some xs)) : ∃ b vs ex, N.μ j = .slc b 0 xs.length (bif ex then xs.length else 0) ex ∧ ¬ N.fz b ∧ N.h.t.get b = some (.cells vs st) ∧ vs.length = xs.length * st ∧
   ∀ (i : Nat) (x : List DV), xs[i]? = some x → x.length = st ∧ RepL N.fz N.h ((vs.drop (i * st)).take st) x := by
 have := I.obj j
 rw [ho] at this
 exact this
theorem gath_ok : ∀ {cs : List PC} {st n off : Nat} {l : List DV}, gath cs st n off = some l → ∀ i, i < n → cs[off + i * st]? = some (.d (atD l i))
 | cs, st, 0, off, l, _, i, hi => by omega
 | cs, st, n + 1, off, l, e, i, hi => by
  simp only [gath] at e
  split at e
  ·rename_i v l' h1 h2
   cases e
   cases i with
   | zero => simpa [atD] using h1
   | succ i =>
    have := gath_ok h2 i (by omega)
    rw [show off + (i + 1) * st = off + st + i * st by rw [Nat.succ_mul]; omega, this]
    rfl
  ·cases e
theorem ipC_ok : ∀ {cs : List PC} {st len i m off : Nat} {l : List PC}, ipC cs st len i m off = some l → i < len → l.length = m ∧ ∀ j, j < m → cs[off + j + i * st]? = l[j]?
 | cs, st, len, i, 0, off, l, e, _ => by cases e; exact ⟨rfl, fun j hj => by omega⟩
 | cs, st, len, i, m + 1, off, l, e, hi => by
  simp only [ipC] at e
  split at e
  ·rename_i g r h1 h2
   cases e
   obtain ⟨k1, k2⟩ := ipC_ok h2 hi
   refine ⟨by simp [k1], fun j hj => ?_⟩
   cases j with
   | zero => simpa using gath_ok h1 i hi
   | succ j =>
    have := k2 j (by omega)
    rw [List.getElem?_cons_succ, ← this]
    congr 1
    omega
  ·cases e
theorem ipC_rep {cs : List CVal} {ps : List PC} (H : RepPL N cs ps) {st len i m off : Nat} {l : List PC} (e : ipC ps st len i m off = some l) (hi : i < len) (hm : m ≠ 0) : off + i * st + m ≤ cs.length ∧ RepPL N ((cs.drop (off + i * st)).take m) l := by
 obtain ⟨h1, h2⟩ := ipC_ok e hi
 have hb : off + m + i * st ≤ cs.length := by
  have := h2 (m - 1) (by omega)
  have hx : (l[m - 1]?).isSome = true := by simp [h1]; omega
  rw [← this] at hx
  have := (List.getElem?_eq_some_iff.1 (Option.eq_some_of_isSome hx)).1
  have := H.len
  omega
 refine ⟨by omega, RepPL.of ?_ fun j c p hc hp => ?_⟩
 ·simp; omega
 ·rw [List.getElem?_take] at hc
  split at hc
  ·rename_i hj
   rw [List.getElem?_drop] at hc
   have := h2 j hj
   rw [hp] at this
   exact H.get (j := off + j + i * st) (by rw [← hc]; congr 1; omega) this
  ·cases hc
theorem o_load (I : InvO E N os) (F : ∀ i, RepPA N (r i) (ρ i)) {n : Option Nat} {a : Operand} (e : w1 (pv ρ a) (fun c => pLoad os n c k) = some x) : GoalQ N os r ρ (.load n a) k x := by
 have hh := w1_ok F e
 clear e
 obtain ⟨c, v, e, ka, ra, pka⟩ := hh
 have fpc : ∀ (w : CVal) (xs : List DV) (off : Nat) (rd : List Nat), (v = .s (.one w) → MemI N os r ρ a rd) → Rep N.fz N.h w (.fp xs off) → (part1n n (xs.map .d) off fun v => k (.s v) os [] rd) = some x → v = .s (.one w) → GoalQ N os r ρ (.load n a) k x := by
  intro w xs off rd hmi hw e hv
  obtain ⟨b, o, base, cs, rfl, h1, h2, h3, h4⟩ := hw.fp_inv
  obtain ⟨h0, e⟩ := part1n_ok e
  obtain ⟨p, s, e, hl, hp⟩ := part1_rd N.h h3 (.ofD h4) (.inl h0) e
  refine .quiet I (v := .s s) (fun call => ?_) (.of hp) e (hm := fun xo hx => by cases hx; exact hmi hv)
  simp only [runK, ka, hv, bind1]
  show loadAt n N.h (base + off) (N.h.t.get b) = _
  rw [h2, hl]
 cases c with
 | d d =>
  cases d <;> first | cases e | skip
  obtain ⟨w, hv, hw⟩ := pd_inv ra
  refine fpc w _ _ _ (fun hv => ?_) hw e hv
  obtain ⟨b, o, base, cs, rfl, h1, _⟩ := hw.fp_inv
  refine ⟨_, ka.trans (by rw [hv]), .inr ⟨b, rfl, .inr ⟨rfl, fun N' H => ?_⟩⟩⟩
  obtain ⟨w', hw', hr'⟩ := pd_inv (H _ _ ka pka)
  rw [hv] at hw'
  cases hw'
  obtain ⟨b2, o2, base2, cs2, q1, q2, q3, _⟩ := hr'.fp_inv
  rw [(CVal.ptr.inj q1).1]; exact ⟨q2, _, q3⟩
 | own j => cases e
 | ptr j off =>
  simp only [pLoad] at e
  obtain ⟨w, hv, hj, b, hb, rfl⟩ := pc_inv ra
  subst hv
  cases ho : og os j with
  | box ps =>
   rw [ho] at e
   simp only at e
   obtain ⟨b', cs, h1, h2, h3, h4⟩ := box_get I ho
   rw [hb] at h1; cases h1
   obtain ⟨p, s, e, hl, hp⟩ := part1_rd (o := .cells cs 0) (base := 0) N.h (rd_all rfl) h4 (.inr (by intro hh; cases hh)) e
   refine .quiet I (v := .s s) (fun call => ?_) (.of hp) e (hm := fun xo hx => by
    cases hx
    exact ⟨_, ka, .inr ⟨b, rfl, .inl ⟨j, rfl, hj, by rw [hb]; rfl, by rw [ho]; trivial, fun N' H => (pc_inv (H _ _ ka pka)).elim fun _ q => q.2.1⟩⟩⟩)
   simp only [runK, ka, bind1]
   show loadAt n N.h off (N.h.t.get b) = _
   rw [h3]
   simpa using hl
  | fbox ds =>
   rw [ho] at e
   simp only at e
   have hO := I.obj j
   rw [ho] at hO
   obtain ⟨b', h1, h2⟩ := hO
   rw [hb] at h1; cases h1
   obtain ⟨b1, o1, base, cs, e1, e2, e3, e4, e5⟩ := h2.fp_inv
   cases e1
   refine fpc (.ptr b off) ds off _ (fun _ => ⟨_, ka, .inr ⟨b, rfl, .inl ⟨j, rfl, hj, by rw [hb]; rfl, by rw [ho]; trivial, fun N' H => (pc_inv (H _ _ ka pka)).elim fun _ q => q.2.1⟩⟩⟩) ?_ e rfl
   have := Rep.fp_mk (off := off) e2 e3 e4 e5
   rwa [show (0 + off) = off by omega] at this
  | _ => rw [ho] at e; cases e
 | ep j st i off =>
  simp only [pLoad] at e
  obtain ⟨w, hv, hj, b, l, cap, ex, hb, rfl, hil⟩ := pc_inv ra
  subst hv
  cases ho : og os j with
  | arr st' vo =>
   rw [ho] at e
   simp only at e
   cases hs : Nat.beq st st' with
   | false => rw [hs] at e; cases e
   | true =>
    rw [hs] at e
    have := Nat.eq_of_beq_eq_true hs
    subst this
    simp only [cond_true] at e
    have hh := bindD_ok e
    clear e
    obtain ⟨y, hy, e⟩ := hh
    cases vo with
    | none => cases hy
    | some xs =>
     obtain ⟨b', vs, ex', h1, h2, h3, h4, h5⟩ := arr_get I ho
     rw [hb] at h1
     cases h1
     obtain ⟨k1, k2⟩ := h5 i y hy
     have he := exp_eq y
     rw [k1] at he
     rw [he] at e
     have hi := (List.getElem?_eq_some_iff.1 hy).1
     have hr : rd st (i * st) (.cells vs st) = some ((vs.drop (i * st)).take st) := by
      have := Nat.mul_le_mul_right st (show i + 1 ≤ xs.length from hi)
      rw [Nat.succ_mul] at this
      exact cut_of vs st (i * st) (by omega)
     obtain ⟨p, s, e, hl, hp⟩ := part1_rd N.h hr (.ofD k2) (.inr (by intro hh; cases hh)) e
     refine .quiet I (v := .s s) (fun call => ?_) (.of hp) e (hm := fun xo hx => by
    cases hx
    exact ⟨_, ka, .inr ⟨b, rfl, .inl ⟨j, rfl, hj, by rw [hb]; rfl, by rw [ho]; trivial, fun N' H => (pc_inv (H _ _ ka pka)).elim fun _ q => q.2.1⟩⟩⟩)
     simp only [runK, ka, bind1]
     show loadAt n N.h (i * st + off) (N.h.t.get b) = _
     rw [h3, hl]
  | _ => rw [ho] at e; cases e
 | ip j f len st i o =>
  simp only [pLoad] at e
  obtain ⟨w, hv, hj, b, hb, rfl, hil⟩ := pc_inv ra
  subst hv
  cases ho : og os j with
  | box ps =>
   rw [ho] at e
   simp only at e
   obtain ⟨b', cs, h1, h2, h3, h4⟩ := box_get I ho
   rw [hb] at h1; cases h1
   cases n with
   | none =>
    simp only at e
    have hh := bindD_ok e
    clear e
    obtain ⟨l, hl, e⟩ := hh
    obtain ⟨q1, q2⟩ := ipC_rep h4 hl hil (by omega)
    have ql := (ipC_ok hl hil).1
    match l, e, q2, ql with
    | [p], e, q2, _ =>
     simp only at e
     match hc : (List.drop (f + o + i * st) cs).take 1, q2 with
     | [c], q2 =>
      have hcc : cs[f + o + i * st]? = some c := by
       have := congrArg List.head? hc
       rw [List.take_one] at this
       cases hd : (List.drop (f + o + i * st) cs).head? with
       | none => rw [hd] at this; cases this
       | some c' => rw [hd] at this; cases this; rwa [List.head?_drop] at hd
      refine .quiet I (v := .s (.one c)) (fun call => ?_) (rep_pc q2.1) e (hm := fun xo hx => by
    cases hx
    exact ⟨_, ka, .inr ⟨b, rfl, .inl ⟨j, rfl, hj, by rw [hb]; rfl, by rw [ho]; trivial, fun N' H => (pc_inv (H _ _ ka pka)).elim fun _ q => q.2.1⟩⟩⟩)
      simp only [runK, ka, bind1]
      show loadAt none N.h (f + i * st + o) (N.h.t.get b) = _
      rw [h3, show f + i * st + o = f + o + i * st by omega]
      show retC N.h (getAt cs _) = _
      rw [getAt_eq, hcc]; rfl
   | some m =>
    simp only at e
    cases hm : Nat.beq m 0 with
    | true => rw [hm] at e; cases e
    | false =>
     rw [hm] at e
     simp only [cond_false] at e
     have hh := bindD_ok e
     clear e
     obtain ⟨l, hl, e⟩ := hh
     obtain ⟨q1, q2⟩ := ipC_rep h4 hl hil (fun h => by subst h; cases hm)
     refine .quiet I (v := .s (.agg ((cs.drop (f + o + i * st)).take m))) (fun call => ?_) (RepPA.of (v := .agg _) (p := .agg l) q2) e (hm := fun xo hx => by
    cases hx
    exact ⟨_, ka, .inr ⟨b, rfl, .inl ⟨j, rfl, hj, by rw [hb]; rfl, by rw [ho]; trivial, fun N' H => (pc_inv (H _ _ ka pka)).elim fun _ q => q.2.1⟩⟩⟩)
     simp only [runK, ka, bind1]
     show loadAt (some m) N.h (f + i * st + o) (N.h.t.get b) = _
     rw [h3, show f + i * st + o = f + o + i * st by omega]
     show retA N.h (cut m cs _) = _
     rw [cut_of cs m _ (by omega)]; rfl
  | _ => rw [ho] at e; cases e
 | vw j st lo len => cases e
 | clo f caps => cases e
theorem o_nilck (I : InvO E N os) (F : ∀ i, RepPA N (r i) (ρ i)) {a : Operand} (e : w1 (pv ρ a) (fun c =>
  match c with
  | .ptr j off => k (pc (.ptr j off)) os [] []
  | .clo f l => k (pc (.clo f l)) os [] []
  | .d (.fp xs off) => k (pd (.fp xs off)) os [] []
  | _ => none) = some x) : GoalQ N os r ρ (.nilck a) k x := by
 have hh := w1_ok F e
 clear e
 obtain ⟨c, v, e, ka, ra, pka⟩ := hh
 split at e
 ·obtain ⟨w, rfl, hw⟩ := pc_inv ra
  have hw' := hw
  obtain ⟨hj, b, hb, rfl⟩ := hw
  exact .quiet I (fun call => by simp only [runK, ka, bind1]; rfl) (rep_pc hw') e (ht_of ka pka fun N' H => H)
 ·obtain ⟨w, rfl, hw⟩ := pc_inv ra
  have hw' := hw
  obtain ⟨ps, rfl, hc⟩ := hw
  exact .quiet I (fun call => by simp only [runK, ka, bind1]; rfl) (rep_pc hw') e (ht_of ka pka fun N' H => H)
 ·obtain ⟨w, rfl, hw⟩ := pd_inv ra
  obtain ⟨b, o, base, cs, rfl, _⟩ := hw.fp_inv
  exact .quiet I (fun call => by simp only [runK, ka, bind1]; rfl) ra e (ht_of ka pka fun N' H => H)
 ·cases e
theorem pNilS_ok {w : CVal} {v : DV} {q : Bool} (H : Rep N.fz N.h w v) (e : pNilS v = some q) (neg : Bool) (h : AHeap) : vNilS neg (.s (.one w)) (.s (.one .nils)) h = some (.s (.one (.bool (bif neg then !q else q))), h) := by
 cases v <;> simp only [pNilS] at e <;> cases e
 ·rw [H.scal rfl]; cases neg <;> rfl
 ·obtain ⟨b, o, off, cap, ex, cs, rfl, _⟩ := H.lst_inv
  cases neg <;> rfl
theorem o_nilS (I : InvO E N os) (F : ∀ i, RepPA N (r i) (ρ i)) {neg : Bool} {a b : Operand} (e : w1 (pv ρ a) (fun c => wd (pv ρ b) fun w =>
  match w with
  | .nils =>
   match c with
   | .d v => bindD (pNilS v) fun q => k (pd (.bool (bif neg then !q else q))) os [] []
   | .own j =>
    match og os j with
    | .arr _ v => k (pd (.bool (bif neg then v.isSome else v.isNone))) os [] []
    | .frz v => bindD (pNilS v) fun q => k (pd (.bool (bif neg then !q else q))) os [] []
    | _ => none
   | _ => none
  | _ => none) = some x) : GoalQ N os r ρ (.nilS neg a b) k x := by
 have hh := w1_ok F e
 clear e
 obtain ⟨c, v, e, ka, ra, pka⟩ := hh
 have hh := wd_ok F e
 clear e
 obtain ⟨w, u, e, kb, rb⟩ := hh
 cases w <;> first | cases e | skip
 simp only at e
 rw [pd_scal rb rfl] at kb
 cases c <;> first | cases e | skip
 ·rename_i d
  simp only at e
  have hh := bindD_ok e
  clear e
  obtain ⟨q, hq, e⟩ := hh
  obtain ⟨c, rfl, hc⟩ := pd_inv ra
  exact .quiet I (fun call => by simp only [runK, ka, kb, bind1]; exact pNilS_ok hc hq neg N.h) (scal_pd rfl) e
 ·rename_i j
  simp only at e
  obtain ⟨c, rfl, hj, hc⟩ := pc_inv ra
  cases ho : og os j with
  | arr st vo =>
   rw [ho] at e
   simp only at e
   have hO := I.obj j
   rw [ho] at hO
   refine .quiet I (fun call => ?_) (scal_pd rfl) e
   simp only [runK, ka, kb, bind1]
   cases vo with
   | none => rw [hc, show N.μ j = .nils from hO]; cases neg <;> rfl
   | some xs =>
    obtain ⟨b, vs, ex, h1, _⟩ := hO
    rw [hc, h1]; cases neg <;> rfl
  | frz d =>
   rw [ho] at e
   simp only at e
   have hO := I.obj j
   rw [ho] at hO
   have hh := bindD_ok e
   clear e
   obtain ⟨q, hq, e⟩ := hh
   exact .quiet I (fun call => by simp only [runK, ka, kb, bind1]; rw [hc]; exact pNilS_ok hO hq neg N.h) (scal_pd rfl) e
  | _ => rw [ho] at e; cases e
theorem eqD_ok {t : Nat} {a b : CVal} {v w : DV} {q : Bool} {fz : BN → Prop} {h : AHeap} (ha : Rep fz h a v) (hb : Rep fz h b w) (e : eqD t v w = some q) : eqC t a b = some q := by
 unfold eqD at e
 split at e
 ·rw [ha.scal rfl, hb.scal rfl]; exact e
 ·rw [ha.scal rfl, hb.scal rfl]; exact e
 ·rw [ha.scal rfl, hb.scal rfl]; exact e
 ·cases e
theorem eqDs_ok {fz : BN → Prop} {h : AHeap} : ∀ {ks : List Nat} {as bs : List CVal} {vs ws : List DV} {q : Bool}, RepL fz h as vs → RepL fz h bs ws → eqDs ks vs ws = some q → eqCs ks as bs = some q
 | [], [], [], [], [], q, _, _, e => e
 | k :: ks, a :: as, b :: bs, v :: vs, w :: ws, q, ha, hb, e => by
  obtain ⟨a1, a2⟩ := ha.inv
  obtain ⟨b1, b2⟩ := hb.inv
  simp only [eqDs, eqCs] at e ⊢
  cases hq : eqD k v w with
  | none => rw [hq] at e; cases e
  | some p =>
   rw [hq] at e
   rw [eqD_ok a1 b1 hq]
   cases p with
   | true => exact eqDs_ok a2 b2 e
   | false => exact e
 | _, a :: as, _, [], _, _, ha, _, _ => by have := ha.1; simp at this
 | _, [], _, v :: vs, _, _, ha, _, _ => by have := ha.1; simp at this
 | _, _, b :: bs, _, [], _, _, hb, _ => by have := hb.1; simp at this
 | _, _, [], _, w :: ws, _, _, hb, _ => by have := hb.1; simp at this
 | [], [], b :: bs, [], w :: ws, q, _, _, e => by cases e
 | [], a :: as, [], v :: vs, [], q, _, _, e => by cases e
 | [], a :: as, b :: bs, v :: vs, w :: ws, q, _, _, e => by cases e
 | k :: ks, [], [], [], [], q, _, _, e => by cases e
 | k :: ks, [], b :: bs, [], w :: ws, q, _, _, e => by cases e
 | k :: ks, a :: as, [], v :: vs, [], q, _, _, e => by cases e
theorem allD_ok : ∀ {ps : List PC} {cs : List CVal} {ds : List DV}, allD ps = some ds → RepPL N cs ps → RepL N.fz N.h cs ds
 | [], [], ds, e, _ => by cases e; exact .nil _ _
 | .d v :: ps, c :: cs, ds, e, H => by
  simp only [allD] at e
  cases hd : allD ps with
  | none => rw [hd] at e; cases e
  | some l => rw [hd] at e; cases e; exact .cons H.1 (allD_ok hd H.2)
 | [], _ :: _, _, _, H => H.elim
 | _ :: _, [], _, _, H => H.elim
 | .own _ :: _, _ :: _, _, e, _ => by cases e
 | .ptr _ _ :: _, _ :: _, _, e, _ => by cases e
 | .ep _ _ _ _ :: _, _ :: _, _, e, _ => by cases e
 | .ip _ _ _ _ _ _ :: _, _ :: _, _, e, _ => by cases e
 | .vw _ _ _ _ :: _, _ :: _, _, e, _ => by cases e
 | .clo _ _ :: _, _ :: _, _, e, _ => by cases e
theorem agg_inv {v : AVal} {ps : List PC} (H : RepPA N v (.s (.agg ps))) : ∃ cs, v = .s (.agg cs) ∧ RepPL N cs ps := by
 obtain ⟨w, rfl, hw⟩ := H.inv
 cases w with
 | one c => exact hw.elim
 | agg cs => exact ⟨cs, rfl, hw⟩
theorem o_eq (I : InvO E N os) (F : ∀ i, RepPA N (r i) (ρ i)) {q : Nat ⊕ List Nat} {neg : Bool} {a b : Operand} (e : (match q with
  | .inl t => wd (pv ρ a) fun v => wd (pv ρ b) fun w => bindD (eqD t v w) fun b => k (pd (.bool (bif neg then !b else b))) os [] []
  | .inr ks =>
   match pv ρ a, pv ρ b with
   | some (.s (.agg xs)), some (.s (.agg ys)) => bindD (allD xs) fun xs => bindD (allD ys) fun ys => bindD (eqDs ks xs ys) fun b => k (pd (.bool (bif neg then !b else b))) os [] []
   | _, _ => none) = some x) : GoalQ N os r ρ (.eq q neg a b) k x := by
 cases q with
 | inl t =>
  simp only at e
  have hh := wd_ok F e
  clear e
  obtain ⟨v, va, e, ka, ra⟩ := hh
  have hh := wd_ok F e
  clear e
  obtain ⟨w, vb, e, kb, rb⟩ := hh
  have hh := bindD_ok e
  clear e
  obtain ⟨p, hp, e⟩ := hh
  obtain ⟨ca, rfl, ha⟩ := pd_inv ra
  obtain ⟨cb, rfl, hb⟩ := pd_inv rb
  refine .quiet I (v := .s (.one (.bool (bif neg then !p else p)))) (fun call => ?_) (scal_pd rfl) e
  simp only [runK, ka, kb, bind1]
  show (match eqC t ca cb with | some q => some (AVal.s (.one (.bool (bif neg then !q else q))), N.h) | none => none) = _
  rw [eqD_ok ha hb hp]
 | inr ks =>
  simp only at e
  split at e
  ·rename_i xs ys hx hy
   obtain ⟨va, ka, ra⟩ := pv_ok F hx
   obtain ⟨vb, kb, rb⟩ := pv_ok F hy
   have hh := bindD_ok e
   clear e
   obtain ⟨ds, hd, e⟩ := hh
   have hh := bindD_ok e
   clear e
   obtain ⟨es, he, e⟩ := hh
   have hh := bindD_ok e
   clear e
   obtain ⟨p, hp, e⟩ := hh
   obtain ⟨ca, rfl, ha⟩ := agg_inv ra
   obtain ⟨cb, rfl, hb⟩ := agg_inv rb
   refine .quiet I (v := .s (.one (.bool (bif neg then !p else p)))) (fun call => ?_) (scal_pd rfl) e
   simp only [runK, ka, kb, bind1]
   show (match eqCs ks ca cb with | some q => some (AVal.s (.one (.bool (bif neg then !q else q))), N.h) | none => none) = _
   rw [eqDs_ok (allD_ok hd ha) (allD_ok he hb) hp]
  ·cases e
theorem o_foff (I : InvO E N os) (F : ∀ i, RepPA N (r i) (ρ i)) {a : Operand} {off : Nat} (e : w1 (pv ρ a) (fun c =>
  match c with
  | .ptr j o => k (pc (.ptr j (o + off))) os [] []
  | .d (.fp xs o) => k (pd (.fp xs (o + off))) os [] []
  | .ep j st i o => k (pc (.ep j st i (o + off))) os [] []
  | .ip j f len st i o => k (pc (.ip j f len st i (o + off))) os [] []
  | _ => none) = some x) : GoalQ N os r ρ (.foff a off) k x := by
 have hh := w1_ok F e
 clear e
 obtain ⟨c, v, e, ka, ra, pka⟩ := hh
 split at e
 ·rename_i j o
  obtain ⟨w, rfl, hj, b, hb, rfl⟩ := pc_inv ra
  exact .quiet I (v := .s (.one (.ptr b (o + off)))) (fun call => by simp only [runK, ka, bind1]; rfl) (rep_pc (p := .ptr j (o + off)) ⟨hj, b, hb, rfl⟩) e (ht_of ka pka fun N' H => by
   obtain ⟨w, hw, a1, b2, a2, a3⟩ := pc_inv H
   cases hw; cases a3
   exact rep_pc (p := .ptr j (o + off)) ⟨a1, b, a2, rfl⟩)
 ·obtain ⟨w, rfl, hw⟩ := pd_inv ra
  obtain ⟨b, o, base, cs, rfl, h1, h2, h3, h4⟩ := hw.fp_inv
  rename_i xs off'
  exact .quiet I (v := .s (.one (.ptr b (base + off' + off)))) (fun call => by simp only [runK, ka, bind1]; rfl) (rep_pd (by rw [Nat.add_assoc]; exact .fp_mk h1 h2 h3 h4)) e (ht_of ka pka fun N' H => by
   obtain ⟨w, hw, hr⟩ := pd_inv H
   cases hw
   obtain ⟨b2, o2, base2, cs2, a1, a2, a3, a4, a5⟩ := hr.fp_inv
   have hb2 : b = b2 ∧ base = base2 := by
    cases CVal.ptr.inj a1 with
    | intro x1 x2 => exact ⟨x1, by omega⟩
   obtain ⟨rfl, rfl⟩ := hb2
   exact rep_pd (by rw [Nat.add_assoc]; exact .fp_mk a2 a3 a4 a5))
 ·rename_i j st i o
  obtain ⟨w, rfl, hj, b, l, cap, ex, hb, rfl, hi⟩ := pc_inv ra
  exact .quiet I (v := .s (.one (.ptr b (i * st + o + off)))) (fun call => by simp only [runK, ka, bind1]; rfl) (rep_pc (p := .ep j st i (o + off)) ⟨hj, b, l, cap, ex, hb, by simp [Nat.add_assoc], hi⟩) e (ht_of ka pka fun N' H => by
   obtain ⟨w, hw, a1, b2, l2, cap2, ex2, a2, a3, a4⟩ := pc_inv H
   cases hw
   have := (CVal.ptr.inj a3).1
   subst this
   exact rep_pc (p := .ep j st i (o + off)) ⟨a1, b, l2, cap2, ex2, a2, by simp [Nat.add_assoc], a4⟩)
 ·rename_i j f len st i o
  obtain ⟨w, rfl, hj, b, hb, rfl, hi⟩ := pc_inv ra
  exact .quiet I (v := .s (.one (.ptr b (f + i * st + o + off)))) (fun call => by simp only [runK, ka, bind1]; rfl) (rep_pc (p := .ip j f len st i (o + off)) ⟨hj, b, hb, by simp [Nat.add_assoc], hi⟩) e (ht_of ka pka fun N' H => by
   obtain ⟨w, hw, a1, b2, a2, a3, a4⟩ := pc_inv H
   cases hw
   have := (CVal.ptr.inj a3).1
   subst this
   exact rep_pc (p := .ip j f len st i (o + off)) ⟨a1, b, a2, by simp [Nat.add_assoc], a4⟩)
 ·cases e
theorem o_field (I : InvO E N os) (F : ∀ i, RepPA N (r i) (ρ i)) {a : Operand} {off : Nat} {n : Option Nat} (e : (match pv ρ a with
  | some (.s (.agg cs)) => part1 n cs off fun v => k (.s v) os [] []
  | _ => none) = some x) : GoalQ N os r ρ (.field a off n) k x := by
 split at e
 ·rename_i cs hx
  obtain ⟨va, ka, ra⟩ := pv_ok F hx
  obtain ⟨ca, rfl, ha⟩ := agg_inv ra
  obtain ⟨p, s, e, h1, h2, h3⟩ := part1_x N.h ha e
  exact .quiet I (v := .s s) (fun call => by simp only [runK, ka, bind1]; exact h1) (.of h2) e (ht_of ka hx fun N' H => by
   obtain ⟨cs', hcs, hr⟩ := agg_inv H
   cases hcs
   exact .of (h3 N' hr))
 ·cases e
theorem pIdxN_ok {len : Nat} {i : DV} {n : Nat} (e : pIdxN len i = some n) : n < len ∧ Nat.ble (Nat.succ n) len = true ∧ ∃ t, i = .int t (.ofNat n) := by
 cases i <;> first | cases e | skip
 rename_i t m
 cases m with
 | negSucc m => cases e
 | ofNat m =>
  simp only [pIdxN] at e
  cases hb : Nat.ble (Nat.succ m) len with
  | false => rw [hb] at e; cases e
  | true => rw [hb] at e; cases e; exact ⟨Nat.le_of_ble_eq_true hb, hb, t, rfl⟩
theorem ixs_data (I : InvO E N os) {st : Nat} {a b : Operand} {v u : AVal} {i : DV} (ka : kv r a = some v) (kb : kv r b = some u) (rb : RepPA N u (pd i)) (w : CVal) (d : DV) {p : PC} (pka : pv ρ a = some (pc p)) (hp : p = .d d ∨ (∃ j, p = .own j) ∨ ∃ j s l n, p = .vw j s l n) (hw : Rep N.fz N.h w d)
  (e : (bindD (pIdx st d i) fun x => k (pd (.fp (exp x st 0) 0)) os [] []) = some x) (hv : v = .s (.one w)) : GoalQ N os r ρ (.ixs st a b) k x := by
 have hh := bindD_ok e
 clear e
 obtain ⟨y, hy, e⟩ := hh
 cases d <;> first | cases hy | skip
 rename_i st' xs
 cases i <;> first | cases hy | skip
 rename_i t n
 cases n with
 | negSucc n => cases hy
 | ofNat n =>
  simp only [pIdx] at hy
  cases hs : Nat.beq st st' with
  | false => rw [hs] at hy; cases hy
  | true =>
   rw [hs] at hy
   have := Nat.eq_of_beq_eq_true hs
   subst this
   simp only [cond_true] at hy
   obtain ⟨b', o, off, cap, ex, cs, rfl, h1, h2, h3, h4, h5⟩ := hw.lst_inv
   obtain ⟨k1, k2⟩ := h5 n y hy
   have hi := (List.getElem?_eq_some_iff.1 hy).1
   rw [pd_scal rb rfl] at kb
   subst hv
   have he := exp_eq y
   rw [k1] at he
   rw [he] at e
   have := Nat.mul_le_mul_right st (show n + 1 ≤ xs.length from hi)
   rw [Nat.succ_mul] at this
   refine .quiet I (v := .s (.one (.ptr b' (off + n * st)))) (fun call => ?_) (rep_pd (Rep.fp_mk (off := 0) h1 h2 (cs := (cs.drop (n * st)).take st) (by rw [k1]; exact rd_sub h4 (by omega)) k2)) e (fun xo hxo N' u' pa' hu' hpa' H => by
    have htk : trk ρ (.ixs st a b) = (match pv ρ a with | some (.s (.one (.own _))) => none | some (.s (.one (.vw _ _ _ _))) => none | _ => some a) := rfl
    rw [pka] at htk
    rcases hp with rfl | ⟨j, rfl⟩ | ⟨j, s, l, n, rfl⟩
    ·rw [htk] at hxo
     cases hxo
     rw [ka] at hu'; cases hu'
     rw [pka] at hpa'; cases hpa'
     obtain ⟨w', hw', hr'⟩ := pd_inv H
     cases hw'
     obtain ⟨b2, o2, off2, cap2, ex2, cs2, q1, q2, q3, q4, q5, q6⟩ := hr'.lst_inv
     cases q1
     obtain ⟨g1, g2⟩ := q6 n y hy
     exact rep_pd (Rep.fp_mk (off := 0) q2 q3 (cs := (cs2.drop (n * st)).take st) (by rw [g1]; exact rd_sub q5 (by omega)) g2)
    ·rw [htk] at hxo; cases hxo
    ·rw [htk] at hxo; cases hxo)
   simp only [runK, ka, kb, bind1]
   show (bif Nat.ble (Nat.succ n) xs.length then some (AVal.s (.one (.ptr b' (off + n * st))), N.h) else none) = _
   rw [Nat.ble_eq_true_of_le hi]; rfl
theorem o_ixs (I : InvO E N os) (F : ∀ i, RepPA N (r i) (ρ i)) {st : Nat} {a b : Operand} (e : w1 (pv ρ a) (fun c => wd (pv ρ b) fun i => pIxs os st c i k) = some x) : GoalQ N os r ρ (.ixs st a b) k x := by
 have hh := w1_ok F e
 clear e
 obtain ⟨c, v, e, ka, ra, pka⟩ := hh
 have hh := wd_ok F e
 clear e
 obtain ⟨i, u, e, kb, rb⟩ := hh
 cases c <;> first | cases e | skip
 ·rename_i d
  simp only [pIxs] at e
  obtain ⟨w, hv, hw⟩ := pd_inv ra
  exact ixs_data I ka kb rb w d pka (.inl rfl) hw e hv
 ·rename_i j
  simp only [pIxs] at e
  obtain ⟨c, rfl, hj, hc⟩ := pc_inv ra
  cases ho : og os j with
  | frz d =>
   rw [ho] at e
   have hO := I.obj j
   rw [ho] at hO
   exact ixs_data I ka kb rb c d pka (.inr (.inl ⟨j, rfl⟩)) (by rw [hc]; exact hO) e rfl
  | arr st' vo =>
   rw [ho] at e
   simp only at e
   cases hs : Nat.beq st st' with
   | false => rw [hs] at e; cases e
   | true =>
    rw [hs] at e
    have := Nat.eq_of_beq_eq_true hs
    subst this
    simp only [cond_true] at e
    have hh := bindD_ok e
    clear e
    obtain ⟨n, hn, e⟩ := hh
    cases i <;> first | cases hn | skip
    rename_i t m
    cases m with
    | negSucc m => cases hn
    | ofNat m =>
     cases vo with
     | none => cases hn
     | some xs =>
      simp only [pIdxO] at hn
      cases hb : Nat.ble (Nat.succ m) xs.length with
      | false => rw [hb] at hn; cases hn
      | true =>
       rw [hb] at hn
       cases hn
       obtain ⟨b', vs, ex, h1, h2, h3, h4, h5⟩ := arr_get I ho
       rw [pd_scal rb rfl] at kb
       refine .quiet I (v := .s (.one (.ptr b' (0 + n * st)))) (fun call => ?_) (rep_pc (p := .ep j st n 0) ⟨hj, b', _, _, _, h1, by simp, Nat.le_of_ble_eq_true hb⟩) e (fun xo hxo N' u' pa' hu' hpa' H => by
        have htk : trk ρ (.ixs st a b) = (match pv ρ a with | some (.s (.one (.own _))) => none | some (.s (.one (.vw _ _ _ _))) => none | _ => some a) := rfl
        rw [pka] at htk
        rw [htk] at hxo; cases hxo)
       simp only [runK, ka, kb, bind1, hc, h1]
       show (bif Nat.ble (Nat.succ n) xs.length then some (AVal.s (.one (.ptr b' (0 + n * st))), N.h) else none) = _
       rw [hb]; rfl
  | _ => rw [ho] at e; cases e
 ·rename_i j st' lo len
  simp only [pIxs] at e
  obtain ⟨c, rfl, hc⟩ := pc_inv ra
  cases ho : og os j with
  | frz d =>
   rw [ho] at e
   have hO := I.obj j
   rw [ho] at hO
   exact ixs_data I ka kb rb c _ pka (.inr (.inr ⟨j, st', lo, len, rfl⟩)) (partT_ok (N := N) hO hc) e rfl
  | arr st'' vo =>
   rw [ho] at e
   simp only at e
   cases hs : Nat.beq st st' with
   | false => rw [hs] at e; cases e
   | true =>
    rw [hs] at e
    have := Nat.eq_of_beq_eq_true hs
    subst this
    simp only [cond_true] at e
    have hh := bindD_ok e
    clear e
    obtain ⟨n, hn, e⟩ := hh
    obtain ⟨h1, h2, t, rfl⟩ := pIdxN_ok hn
    obtain ⟨hj, hc⟩ := hc
    rcases hc with ⟨_, _, _, rfl⟩ | ⟨b', l, cap, ex, cap', ex', g1, rfl, g2, g3⟩
    ·omega
    ·rw [pd_scal rb rfl] at kb
     refine .quiet I (v := .s (.one (.ptr b' (lo * st + n * st)))) (fun call => ?_) (rep_pc (p := .ep j st (lo + n) 0) ⟨hj, b', _, _, _, g1, by rw [Nat.add_mul]; rfl, by omega⟩) e (fun xo hxo N' u' pa' hu' hpa' H => by
      have htk : trk ρ (.ixs st a b) = (match pv ρ a with | some (.s (.one (.own _))) => none | some (.s (.one (.vw _ _ _ _))) => none | _ => some a) := rfl
      rw [pka] at htk
      rw [htk] at hxo; cases hxo)
     simp only [runK, ka, kb, bind1]
     show (bif Nat.ble (Nat.succ n) len then some (AVal.s (.one (.ptr b' (lo * st + n * st))), N.h) else none) = _
     rw [h2]; rfl
  | _ => rw [ho] at e; cases e
theorem o_ixarr (I : InvO E N os) (F : ∀ i, RepPA N (r i) (ρ i)) {len st : Nat} {a b : Operand} (e : w1 (pv ρ a) (fun c => wd (pv ρ b) fun i =>
  match c with
  | .ptr j off => bindD (pIdxN len i) fun n => k (pc (.ip j off len st n 0)) os [] []
  | _ => none) = some x) : GoalQ N os r ρ (.ixarr len st a b) k x := by
 have hh := w1_ok F e
 clear e
 obtain ⟨c, v, e, ka, ra, pka⟩ := hh
 have hh := wd_ok F e
 clear e
 obtain ⟨i, u, e, kb, rb⟩ := hh
 split at e
 ·have hh := bindD_ok e
  clear e
  obtain ⟨n, hn, e⟩ := hh
  obtain ⟨h1, h2, t, rfl⟩ := pIdxN_ok hn
  obtain ⟨w, rfl, hj, b', hb, rfl⟩ := pc_inv ra
  rw [pd_scal rb rfl] at kb
  rename_i j off
  refine .quiet I (v := .s (.one (.ptr b' (off + n * st)))) (fun call => ?_) (rep_pc (p := .ip j off len st n 0) ⟨hj, b', hb, by simp, h1⟩) e
  simp only [runK, ka, kb, bind1]
  show (bif Nat.ble (Nat.succ n) len then some (AVal.s (.one (.ptr b' (off + n * st))), N.h) else none) = _
  rw [h2]; rfl
 ·cases e
theorem o_ixagg (I : InvO E N os) (F : ∀ i, RepPA N (r i) (ρ i)) {len st : Nat} {n : Option Nat} {a b : Operand} (e : wd (pv ρ b) (fun i =>
  match pv ρ a with
  | some (.s (.agg cs)) => bindD (pIdxN len i) fun j =>
   match n with
   | none => bindD (ipC cs st len j 1 0) fun l => match l with | [c] => k (pc c) os [] [] | _ => none
   | some m => bif Nat.beq m 0 then none else bindD (ipC cs st len j m 0) fun l => k (.s (.agg l)) os [] []
  | _ => none) = some x) : GoalQ N os r ρ (.ixagg len st n a b) k x := by
 have hh := wd_ok F e
 clear e
 obtain ⟨i, u, e, kb, rb⟩ := hh
 split at e
 ·rename_i ps hx
  obtain ⟨va, ka, ra⟩ := pv_ok F hx
  obtain ⟨cs, rfl, ha⟩ := agg_inv ra
  have hh := bindD_ok e
  clear e
  obtain ⟨j, hj, e⟩ := hh
  obtain ⟨h1, h2, t, rfl⟩ := pIdxN_ok hj
  rw [pd_scal rb rfl] at kb
  have run : ∀ call, runK r (.ixagg len st n a b) call N.h = CE.part n cs (j * st) N.h := fun call => by
   simp only [runK, ka, kb, bind1]
   show (bif Nat.ble (Nat.succ j) len then CE.part n cs (j * st) N.h else none) = _
   rw [h2]; rfl
  cases n with
  | none =>
   simp only at e
   have hh := bindD_ok e
   clear e
   obtain ⟨l, hl, e⟩ := hh
   obtain ⟨q1, q2⟩ := ipC_rep ha hl h1 (by omega)
   rw [Nat.zero_add] at q1 q2
   have ql := (ipC_ok hl h1).1
   match l, e, q2, ql with
   | [p], e, q2, _ =>
    simp only at e
    match hc : (List.drop (j * st) cs).take 1, q2 with
    | [c], q2 =>
     have hcc : cs[j * st]? = some c := by
      have := congrArg List.head? hc
      rw [List.take_one] at this
      cases hd : (List.drop (j * st) cs).head? with
      | none => rw [hd] at this; cases this
      | some c' => rw [hd] at this; cases this; rwa [List.head?_drop] at hd
     refine .quiet I (v := .s (.one c)) (fun call => ?_) (rep_pc q2.1) e
     rw [run]
     show retC N.h (getAt cs _) = _
     rw [getAt_eq, hcc]; rfl
  | some m =>
   simp only at e
   cases hm : Nat.beq m 0 with
   | true => rw [hm] at e; cases e
   | false =>
    rw [hm] at e
    simp only [cond_false] at e
    have hh := bindD_ok e
    clear e
    obtain ⟨l, hl, e⟩ := hh
    obtain ⟨q1, q2⟩ := ipC_rep ha hl h1 (fun h => by subst h; cases hm)
    rw [Nat.zero_add] at q1 q2
    refine .quiet I (v := .s (.agg ((cs.drop (j * st)).take m))) (fun call => ?_) (RepPA.of (v := .agg _) (p := .agg l) q2) e
    rw [run]
    show retA N.h (cut m cs _) = _
    rw [cut_of cs m _ (by omega)]; rfl
 ·cases e
theorem RepSL.get {fz : BN → Prop} {h : AHeap} : ∀ {cs : List SVal} {ds : List DS}, RepSL fz h cs ds → ∀ {i : Nat} {d : DS}, ds[i]? = some d → ∃ c, nthS cs i = some c ∧ RepS fz h c d
 | [], [], _, i, d, e => by simp at e
 | c :: cs, d0 :: ds, H, i, d, e => by
  cases i with
  | zero => simp only [List.getElem?_cons_zero, Option.some.injEq] at e; subst e; exact ⟨c, rfl, H.1⟩
  | succ i => exact RepSL.get H.2 (i := i) (by simpa using e)
 | [], _ :: _, H, _, _, _ => H.elim
 | _ :: _, [], H, _, _, _ => H.elim
theorem o_extract (I : InvO E N os) (F : ∀ i, RepPA N (r i) (ρ i)) {a : Operand} {i : Nat} (e : (match pv ρ a with
  | some (.tup l) =>
   match l[i]? with
   | some (.one d) => k (pd d) os [] []
   | some (.agg ds) => k (.s (.agg (ds.map .d))) os [] []
   | none => none
  | _ => none) = some x) : GoalQ N os r ρ (.extract a i) k x := by
 split at e
 ·rename_i l hx
  obtain ⟨va, ka, ra⟩ := pv_ok F hx
  cases va with
  | s v => exact ra.elim
  | tup vs =>
   have run : ∀ c, nthS vs i = some c → ∀ call, runK r (.extract a i) call N.h = some (.s c, N.h) := fun c hc call => by
    simp only [runK, ka, bind1]
    show (match nthS vs i with | some v => some (AVal.s v, N.h) | none => none) = _
    rw [hc]
   split at e
   ·rename_i d hd
    obtain ⟨c, h1, h2⟩ := RepSL.get ra hd
    cases c with
    | agg cs => exact h2.elim
    | one c => exact .quiet I (run _ h1) (rep_pd h2) e (ht_of ka hx fun N' H => by
     obtain ⟨c', g1, g2⟩ := RepSL.get (show RepSL N'.fz N'.h vs l from H) hd
     rw [h1] at g1; cases g1
     exact rep_pd g2)
   ·rename_i ds hd
    obtain ⟨c, h1, h2⟩ := RepSL.get ra hd
    cases c with
    | one c => exact h2.elim
    | agg cs => exact .quiet I (run _ h1) (RepPA.of (v := .agg _) (p := .agg _) (RepPL.ofD h2)) e (ht_of ka hx fun N' H => by
     obtain ⟨c', g1, g2⟩ := RepSL.get (show RepSL N'.fz N'.h vs l from H) hd
     rw [h1] at g1; cases g1
     exact RepPA.of (v := .agg _) (p := .agg _) (RepPL.ofD g2))
   ·cases e
 ·cases e
theorem pLen_ok {w : CVal} {v z : DV} (H : Rep N.fz N.h w v) (e : pLen v = some z) (h : AHeap) : ∃ c, vLenL (.s (.one w)) h = some (.s (.one c), h) ∧ z.scal = some c := by
 cases v <;> simp only [pLen] at e <;> cases e
 ·rw [H.scal rfl]; exact ⟨_, rfl, rfl⟩
 ·obtain ⟨b, o, off, cap, ex, cs, rfl, _⟩ := H.lst_inv
  exact ⟨_, rfl, rfl⟩
theorem o_lenL (I : InvO E N os) (F : ∀ i, RepPA N (r i) (ρ i)) {a : Operand} (e : w1 (pv ρ a) (fun c =>
  match c with
  | .d v => bindD (pLen v) fun z => k (pd z) os [] []
  | .own j =>
   match og os j with
   | .arr _ v => k (pd (.int .i64 (.ofNat (lenO v)))) os [] []
   | .frz v => bindD (pLen v) fun z => k (pd z) os [] []
   | _ => none
  | .vw _ _ _ len => k (pd (.int .i64 (.ofNat len))) os [] []
  | _ => none) = some x) : GoalQ N os r ρ (.lenL a) k x := by
 have hh := w1_ok F e
 clear e
 obtain ⟨c, v, e, ka, ra, pka⟩ := hh
 cases c <;> first | cases e | skip
 ·rename_i d
  simp only at e
  have hh := bindD_ok e
  clear e
  obtain ⟨z, hz, e⟩ := hh
  obtain ⟨w, rfl, hw⟩ := pd_inv ra
  obtain ⟨c, h1, h2⟩ := pLen_ok hw hz N.h
  exact .quiet I (fun call => by simp only [runK, ka, bind1]; exact h1) (scal_pd h2) e
 ·rename_i j
  simp only at e
  obtain ⟨c, rfl, hj, hc⟩ := pc_inv ra
  cases ho : og os j with
  | arr st vo =>
   rw [ho] at e
   simp only at e
   have hO := I.obj j
   rw [ho] at hO
   refine .quiet I (fun call => ?_) (scal_pd rfl) e
   simp only [runK, ka, bind1]
   cases vo with
   | none => rw [hc, show N.μ j = .nils from hO]; rfl
   | some xs => obtain ⟨b, vs, ex, h1, _⟩ := hO; rw [hc, h1]; rfl
  | frz d =>
   rw [ho] at e
   simp only at e
   have hO := I.obj j
   rw [ho] at hO
   have hh := bindD_ok e
   clear e
   obtain ⟨z, hz, e⟩ := hh
   obtain ⟨c', h1, h2⟩ := pLen_ok (show Rep N.fz N.h (N.μ j) d from hO) hz N.h
   exact .quiet I (fun call => by simp only [runK, ka, bind1]; rw [hc]; exact h1) (scal_pd h2) e
  | _ => rw [ho] at e; cases e
 ·rename_i j st lo len
  simp only at e
  obtain ⟨c, rfl, hj, hc⟩ := pc_inv ra
  refine .quiet I (fun call => ?_) (scal_pd rfl) e
  simp only [runK, ka, bind1]
  rcases hc with ⟨_, rfl, _, rfl⟩ | ⟨b', l, cap, ex, cap', ex', g1, rfl, g2, g3⟩ <;> rfl
end
end Go.PE
end
section
namespace Go.PE
open Go Go.CE
def fzN (fz : BN → Prop) (h h' : AHeap) : BN → Prop := fun b => fz b ∨ (h.n.toNat ≤ b.toNat ∧ b.toNat < h'.n.toNat)
def CallOk (C : Nat → Caller) (g : Nat) (args : List DA) (res : DA) : Prop :=
 ∀ (fz : BN → Prop) (h : AHeap) (vs : List AVal), HW h → (∀ b, fz b → b.toNat < h.n.toNat) → RepAL fz h vs args →
  Ev (fun n => C n (.inl g) vs h) (fun p => HW p.2 ∧ Gr h p.2 ∧ RepA (fzN fz h p.2) p.2 p.1 res)
def OrcOk (O : Orc) (C : Nat → Caller) : Prop := ∀ g args res, O g args = some res → CallOk C g args res
theorem putAt_of (vs : List CVal) : ∀ (cs : List CVal) (i : Nat), i + vs.length ≤ cs.length → putAt vs cs i = some (cs.take i ++ vs ++ cs.drop (i + vs.length)) := by
 have ov : ∀ (vs cs : List CVal), vs.length ≤ cs.length → over vs cs = some (vs ++ cs.drop vs.length) := by
  intro vs
  induction vs with
  | nil => intro cs _; rfl
  | cons v vs ih =>
   intro cs h
   cases cs with
   | nil => simp at h
   | cons c cs => simp only [over, ih cs (by simpa using h), consO, List.length_cons, List.drop_succ_cons, List.cons_append]
 intro cs
 induction cs with
 | nil => intro i h; simp at h; obtain ⟨rfl, h2⟩ := h; subst h2; rfl
 | cons c cs ih =>
  intro i h
  cases i with
  | zero =>
   show over vs (c :: cs) = _
   rw [ov vs _ (by simpa using h)]
   simp
  | succ i =>
   show consO c (putAt vs cs i) = _
   rw [ih i (by simp at h; omega)]
   simp [consO, Nat.succ_add]
theorem lenIs_of : ∀ (cs : List CVal), lenIs cs cs.length = true
 | [] => rfl
 | c :: cs => by
  show (bif Nat.beq (cs.length + 1) 0 then false else lenIs cs cs.length) = true
  rw [lenIs_of cs]; rfl
section
variable {β : Type} {C : Nat → Caller} {E : En} {lk : Nat → Bool} {N : Nm} {os : List PO} {r : Fr} {ρ : Nat → PA} {k : KT β} {x : β}
theorem stp_new (I : InvO E N os) (hlk : ∀ j, lk j = true → j < os.length) (y : AObj) (o : PO) (c : CVal) (hc : blk c = some N.h.n)
  (ho : ∀ N', Nx N N' → N'.μ os.length = c → ¬ N'.fz N.h.n → N'.h.t.get N.h.n = some y → RepO N' os.length o) :
  ∃ N', N'.h = N.h.new y ∧ N'.μ os.length = c ∧ N'.n = os.length + 1 ∧ Stp E lk N os [] N' (os ++ [o]) := by
 have G := Gr.new N.h y
 have nx : Nx N ⟨upd N.μ os.length c, os.length + 1, N.fz, N.h.new y⟩ := ⟨⟨fun _ _ h _ => h, fun b z _ hz => G.get I.hw hz⟩, by have := I.len; show N.n ≤ os.length + 1; omega, fun k hk => by
  have := I.len
  show (if k = os.length then c else N.μ k) = _
  rw [if_neg (by omega)]⟩
 have muL : upd N.μ os.length c os.length = c := by show (if os.length = os.length then c else _) = _; rw [if_pos rfl]
 obtain ⟨i1, i2, i3⟩ := I.new y o c hc (ho _ nx muL (fun h => absurd (I.fzlt _ h) (by omega)) (get_set_same _ _ _))
 refine ⟨_, rfl, muL, rfl, ⟨i1, i2, Bk.gr G, fun j hj => ?_, .app (Nat.le_of_eq I.len)⟩⟩
 rw [og_app, if_neg (by have := hlk j hj; omega)]
theorem newB_eq (h : AHeap) (o : AObj) (v : BN → CVal) : newB h o v = some (.s (.one (v h.n)), h.new o) := by cases h; rfl
theorem new_box (I : InvO E N os) (hlk : ∀ j, lk j = true → j < os.length) {vs : List CVal} {ps : List PC} (H : RepPL N vs ps) {ko : KOp} (run : ∀ call, runK r ko call N.h = newB N.h (.cells vs 0) (fun b => .ptr b 0))
  (e : k (pc (.ptr os.length 0)) (os ++ [.box ps]) [] [] = some x) : Goal C E lk N os r ko k x := by
 obtain ⟨N', h1, h2, h3, S⟩ := stp_new (lk := lk) I hlk (.cells vs 0) (.box ps) (.ptr N.h.n 0) rfl fun N' nx hmu hf hg => ⟨_, vs, hmu, hf, hg, H.mono nx⟩
 refine ⟨_, _, _, _, e, ⟨(.s (.one (.ptr N.h.n 0)), N.h.new (.cells vs 0)), ⟨N', h1, S.sim (rep_pc (p := .ptr os.length 0) (c := .ptr N.h.n 0) ⟨by rw [h3]; omega, _, h2, rfl⟩)⟩, 0, fun n _ => (run (C n)).trans (newB_eq _ _ _)⟩⟩
theorem o_alloc (I : InvO E N os) (hlk : ∀ j, lk j = true → j < os.length) {zs : List CVal} (e : bindD (cDs zs) (fun cs => k (pc (.ptr os.length 0)) (os ++ [.box cs]) [] []) = some x) : Goal C E lk N os r (.alloc zs) k x := by
 obtain ⟨ps, h1, e⟩ := bindD_ok e
 exact new_box I hlk (cDs_ok h1) (fun call => rfl) e
theorem RepPV.cells {v : SVal} {p : PV} (H : RepPV N v p) : RepPL N v.cells p.cells := by
 cases v <;> cases p <;> simp only [RepPV] at H
 ·exact ⟨H, trivial⟩
 ·exact H
theorem o_box (I : InvO E N os) (F : ∀ i, RepPA N (r i) (ρ i)) (hlk : ∀ j, lk j = true → j < os.length) {a : Operand} (e : (match pv ρ a with
  | some (.s v) => k (pc (.ptr os.length 0)) (os ++ [.box v.cells]) [] []
  | _ => none) = some x) : Goal C E lk N os r (.box a) k x := by
 split at e
 ·rename_i p hp
  obtain ⟨v, ka, ra⟩ := pv_ok F hp
  obtain ⟨w, rfl, hw⟩ := ra.inv
  ·exact new_box I hlk hw.cells (fun call => by simp only [runK, ka, bind1]; rfl) e
 ·cases e
theorem fillP_ok (F : ∀ i, RepPA N (r i) (ρ i)) : ∀ {parts : List (Nat × Nat × Operand)} {ps ps' : List PC} {cs : List CVal}, fillP ρ parts ps = some ps' → RepPL N cs ps → ∃ l cs', kvp r parts = some l ∧ fillR .nil (cP l) cs = some cs' ∧ RepPL N cs' ps'
 | [], ps, ps', cs, e, H => by cases e; exact ⟨[], cs, rfl, rfl, H⟩
 | (off, size, a) :: rest, ps, ps', cs, e, H => by
  simp only [fillP] at e
  split at e
  ·rename_i p hp
   obtain ⟨v, ka, ra⟩ := pv_ok F hp
   cases hb : (Nat.beq p.cells.length size && Nat.ble (off + size) ps.length) with
   | false => rw [hb] at e; cases e
   | true =>
    rw [hb] at e
    simp only [Bool.and_eq_true] at hb
    have h1 := Nat.eq_of_beq_eq_true hb.1
    have h2 := Nat.le_of_ble_eq_true hb.2
    simp only [cond_true] at e
    have hcs := H.len
    obtain ⟨w, rfl, hw⟩ := ra.inv
    have hw := hw.cells
    have hl := hw.len
    obtain ⟨l, cs', k1, k2, k3⟩ := fillP_ok F e (cs := cs.take off ++ w.cells ++ cs.drop (off + size)) (((H.take off).app hw).app (H.drop (off + size)))
    refine ⟨(off, size, .s w) :: l, cs', by simp only [kvp, ka, k1], ?_, k3⟩
    show fillR .nil ((off, size, constF (.s w)) :: cP l) cs = _
    simp only [fillR, constF]
    have hls : lenIs w.cells size = true := by rw [← h1, ← hl]; exact lenIs_of _
    rw [hls, cond_true, putAt_of w.cells cs off (by omega), show off + w.cells.length = off + size by omega]
    exact k2
  ·cases e
theorem o_build (I : InvO E N os) (F : ∀ i, RepPA N (r i) (ρ i)) {zs : List CVal} {parts : List (Nat × Nat × Operand)} (e : bindD (cDs zs) (fun cs => bindD (fillP ρ parts cs) fun cs => k (.s (.agg cs)) os [] []) = some x) : GoalQ N os r ρ (.build zs parts) k x := by
 obtain ⟨ps, h1, e⟩ := bindD_ok e
 obtain ⟨ps', h2, e⟩ := bindD_ok e
 obtain ⟨l, cs', k1, k2, k3⟩ := fillP_ok F h2 (cDs_ok h1)
 refine .quiet I (v := .s (.agg cs')) (fun call => ?_) (RepPA.of (v := .agg cs') (p := .agg ps') k3) e
 simp only [runK, k1]
 show retA N.h (fillR .nil (cP l) zs) = _
 rw [k2]; rfl
theorem chunks_len (st : Nat) : ∀ (n : Nat) (ds : List DV), (chunks st n ds).length = n
 | 0, _ => rfl
 | n + 1, ds => by simp [chunks, chunks_len st n]
theorem chunks_get (st : Nat) : ∀ (n : Nat) (ds : List DV) (i : Nat) (x : List DV), (chunks st n ds)[i]? = some x → x = (ds.drop (i * st)).take st ∧ i < n
 | 0, _, i, x, e => by simp [chunks] at e
 | n + 1, ds, i, x, e => by
  cases i with
  | zero => simp only [chunks, List.getElem?_cons_zero, Option.some.injEq] at e; subst e; exact ⟨by simp, by omega⟩
  | succ i =>
   obtain ⟨h1, h2⟩ := chunks_get st n (ds.drop st) i x (by simpa [chunks] using e)
   refine ⟨?_, by omega⟩
   rw [h1, List.drop_drop, Nat.succ_mul, Nat.add_comm]
theorem new_arr (I : InvO E N os) (hlk : ∀ j, lk j = true → j < os.length) {st : Nat} {vs : List CVal} {xs : List (List DV)} {ex : Bool} (hl : vs.length = xs.length * st)
  (H : ∀ (i : Nat) (x : List DV), xs[i]? = some x → x.length = st ∧ RepL N.fz N.h ((vs.drop (i * st)).take st) x) :
  ∃ N', N'.h = N.h.new (.cells vs st) ∧ N'.n = os.length + 1 ∧ Stp E lk N os [] N' (os ++ [.arr st (some xs)]) ∧ RepPA N' (.s (.one (.slc N.h.n 0 xs.length (bif ex then xs.length else 0) ex))) (pc (.own os.length)) := by
 obtain ⟨N', h1, h2, h3, S⟩ := stp_new (lk := lk) I hlk (.cells vs st) (.arr st (some xs)) (.slc N.h.n 0 xs.length (bif ex then xs.length else 0) ex) rfl fun N' nx hmu hf hg =>
  ⟨_, vs, ex, hmu, hf, hg, hl, fun i x hx => ⟨(H i x hx).1, (H i x hx).2.mono nx.fg⟩⟩
 exact ⟨N', h1, h3, S, rep_pc (p := .own os.length) ⟨by rw [h3]; omega, h2.symm⟩⟩
theorem o_bslice (I : InvO E N os) (F : ∀ i, RepPA N (r i) (ρ i)) (hlk : ∀ j, lk j = true → j < os.length) {st len : Nat} {zs : List CVal} {parts : List (Nat × Nat × Operand)} (e : bindD (cDs zs) (fun cs => bindD (fillP ρ parts cs) fun cs => bindD (frL lk frFuel os cs) fun p =>
  bif Nat.beq p.2.length (len * st) then k (pc (.own p.1.length)) (p.1 ++ [.arr st (some (chunks st len p.2))]) [] [] else none) = some x) : Goal C E lk N os r (.bslice st len zs parts) k x := by
 obtain ⟨ps, h1, e⟩ := bindD_ok e
 obtain ⟨ps', h2, e⟩ := bindD_ok e
 obtain ⟨⟨os1, ds⟩, h3, e⟩ := bindD_ok e
 obtain ⟨l, cs', k1, k2, k3⟩ := fillP_ok F h2 (cDs_ok h1)
 obtain ⟨N1, f1, S1, r1⟩ := frL_ok I k3 h3
 simp only at e
 cases hb : Nat.beq ds.length (len * st) with
 | false => rw [hb] at e; cases e
 | true =>
  rw [hb] at e
  have hd := Nat.eq_of_beq_eq_true hb
  have hl1 : os1.length = os.length := by rw [← S1.inv.len, f1.n, I.len]
  have hlc : (chunks st len ds).length = len := chunks_len st len ds
  obtain ⟨N2, h4, h5, S2, r2⟩ := new_arr (lk := lk) (ex := true) S1.inv (fun j hj => by rw [hl1]; exact hlk j hj) (st := st) (vs := cs') (xs := chunks st len ds) (by rw [r1.1, hd, hlc]) fun i y hy => by
   obtain ⟨q1, q2⟩ := chunks_get st len ds i y hy
   subst q1
   refine ⟨?_, r1.sub (i * st) st⟩
   have := Nat.mul_le_mul_right st (show i + 1 ≤ len from q2)
   rw [Nat.succ_mul] at this
   simp; omega
  refine ⟨_, _, _, _, e, ⟨(.s (.one (.slc N.h.n 0 len len true)), N.h.new (.cells cs' st)), ⟨N2, by rw [h4, f1.h], ?_⟩, 0, fun n _ => ?_⟩⟩
  ·rw [hlc] at r2
   rw [f1.h] at r2
   exact (S1.trans S2 f1.n).sim r2
  ·show runK r (.bslice st len zs parts) (C n) N.h = _
   simp only [runK, k1]
   show (match fillR .nil (cP l) zs with | some cs => newB N.h (.cells cs st) (fun b => .slc b 0 len len true) | none => none) = _
   rw [k2]
   exact newB_eq _ _ _
theorem put_box (I : InvO E N os) {j : Nat} (hj : lk j = false) {ps qs : List PC} (ho : og os j = .box ps) {b : BN} (hb : N.μ j = .ptr b 0) {vs ws : List CVal} (_hg : N.h.t.get b = some (.cells vs 0)) (hv : RepPL N vs ps) (hw : RepPL N ws qs) {off : Nat} (_hl : off + ws.length ≤ vs.length) :
  ∃ N', N'.h = N.h.put b (.cells (vs.take off ++ ws ++ vs.drop (off + ws.length)) 0) ∧ Stp E lk N os [j] N' (oset (.box (ps.take off ++ qs ++ ps.drop (off + ws.length))) os j) := by
 have hlv : live (og os j) := by rw [ho]; trivial
 have hbk : blk (N.μ j) = some b := by rw [hb]; rfl
 obtain ⟨b0, x0, q1, q2, q3⟩ := live_blk hlv (I.obj j)
 rw [hbk] at q1; cases q1
 have nx : Nx N ⟨N.μ, N.n, N.fz, N.h.put b (.cells (vs.take off ++ ws ++ vs.drop (off + ws.length)) 0)⟩ := ⟨⟨fun _ _ h _ => h, fun b' y hf hy => by
  show (N.h.put b _).t.get b' = _
  rw [put_other _ _ (fun (e : b' = b) => q2 (by rw [← e]; exact hf))]; exact hy⟩, Nat.le_refl _, fun _ _ => rfl⟩
 obtain ⟨i1, i2, i3⟩ := I.put hlv hbk (.cells (vs.take off ++ ws ++ vs.drop (off + ws.length)) 0) (.box (ps.take off ++ qs ++ ps.drop (off + ws.length)))
  ⟨b, _, hb, q2, put_same _ _ _, (((hv.take off).app hw).app (hv.drop (off + ws.length))).mono nx⟩
 exact ⟨_, rfl, ⟨i1, i2, Bk.put rfl (by
  rw [I.len]
  exact og_lt (by rw [ho]; intro h; cases h)) hlv hbk, fun j' hj' => by rw [og_oset, if_neg (fun e => by rw [e.1, hj] at hj'; cases hj')], .oset (fun _ => by rw [ho]; trivial) (fun _ => .inl trivial) (fun _ => by rw [ho]; trivial)⟩⟩
theorem take_drop_put {vs ds : List CVal} {p st i off : Nat} (h : p + ds.length ≤ vs.length) (hp : p = i * st + off) (hs : off + ds.length ≤ st) (j : Nat) (hij : j ≠ i) :
  ((vs.take p ++ ds ++ vs.drop (p + ds.length)).drop (j * st)).take st = (vs.drop (j * st)).take st := by
 apply List.ext_getElem?
 intro t
 rw [List.getElem?_take, List.getElem?_take]
 split
 ·rename_i ht
  rw [List.getElem?_drop, List.getElem?_drop]
  by_cases hlt : j < i
  ·have := Nat.mul_le_mul_right st (show j + 1 ≤ i from hlt)
   rw [Nat.succ_mul] at this
   rw [List.append_assoc, List.getElem?_append_left (by simp; omega), List.getElem?_take, if_pos (by omega)]
  ·have := Nat.mul_le_mul_right st (show i + 1 ≤ j by omega)
   rw [Nat.succ_mul] at this
   rw [List.getElem?_append_right (by simp; omega), List.getElem?_drop]
   congr 1
   simp
   omega
 ·rfl
theorem take_drop_put_same {vs ds : List CVal} {p st i off : Nat} (h : p + ds.length ≤ vs.length) (hp : p = i * st + off) (hs : off + ds.length ≤ st) (hst : i * st + st ≤ vs.length) :
  ((vs.take p ++ ds ++ vs.drop (p + ds.length)).drop (i * st)).take st = ((vs.drop (i * st)).take st).take off ++ ds ++ ((vs.drop (i * st)).take st).drop (off + ds.length) := by
 apply List.ext_getElem?
 intro t
 subst hp
 have e1 : (List.take (i * st + off) vs).length = i * st + off := by simp; omega
 have e2 : (((vs.drop (i * st)).take st).take off).length = off := by simp; omega
 rw [List.getElem?_take]
 by_cases ht : t < st
 ·rw [if_pos ht, List.getElem?_drop]
  by_cases h1 : t < off
  ·rw [List.append_assoc, List.getElem?_append_left (by omega), List.append_assoc, List.getElem?_append_left (by omega), List.getElem?_take, if_pos (by omega), List.getElem?_take, if_pos h1, List.getElem?_take, if_pos ht, List.getElem?_drop]
  ·by_cases h2 : t < off + ds.length
   ·rw [List.append_assoc, List.getElem?_append_right (by omega), List.getElem?_append_left (by omega), List.append_assoc, List.getElem?_append_right (by omega), List.getElem?_append_left (by omega)]
    congr 1; omega
   ·rw [List.getElem?_append_right (by simp; omega), List.getElem?_drop, List.getElem?_append_right (by simp; omega), List.getElem?_drop, List.getElem?_take, if_pos (by simp; omega), List.getElem?_drop]
    congr 1; simp; omega
 ·rw [if_neg ht]
  symm
  rw [List.getElem?_eq_none]
  simp
  omega
theorem o_store (I : InvO E N os) (F : ∀ i, RepPA N (r i) (ρ i)) {n : Nat} {a b : Operand} (e : w1 (pv ρ a) (fun c =>
  match pv ρ b with
  | some (.s v) => pStore lk os n c v k
  | _ => none) = some x) : Goal C E lk N os r (.store n a b) k x := by
 have hh := w1_ok F e
 clear e
 obtain ⟨c, v, e, ka, ra, pka⟩ := hh
 split at e
 case h_2 => cases e
 rename_i p hp
 obtain ⟨vb, kb, rb⟩ := pv_ok F hp
 obtain ⟨w, rfl, hw⟩ := rb.inv
 have hw := hw.cells
 unfold pStore at e
 cases hn : Nat.beq p.cells.length n with
 | false => rw [hn] at e; cases e
 | true =>
  rw [hn] at e
  have hn := Nat.eq_of_beq_eq_true hn
  have hwl := hw.len
  have hls : lenIs w.cells n = true := by rw [← hn, ← hwl]; exact lenIs_of _
  simp only [cond_true] at e
  cases c <;> first | cases e | skip
  ·rename_i j off
   simp only at e
   obtain ⟨cv, rfl, hjn, bb, hb, rfl⟩ := pc_inv ra
   cases ho : og os j with
   | box ps =>
    rw [ho] at e
    simp only at e
    cases hlj : lk j with
    | true => rw [hlj] at e; cases e
    | false =>
     rw [hlj] at e
     simp only [cond_false] at e
     cases hbd : Nat.ble (off + n) ps.length with
     | false => rw [hbd] at e; cases e
     | true =>
      rw [hbd] at e
      have hbd := Nat.le_of_ble_eq_true hbd
      obtain ⟨b', cs, h1, h2, h3, h4⟩ := box_get I ho
      rw [hb] at h1; cases h1
      have hcl := h4.len
      obtain ⟨N', q1, q2⟩ := put_box I hlj ho hb h3 h4 hw (off := off) (by omega)
      rw [show off + w.cells.length = off + n by omega] at q2
      refine ⟨_, _, _, _, e, ⟨(aundef, _), ⟨N', q1, q2.sim (.bad _)⟩, 0, fun m _ => ?_⟩⟩
      show runK r (.store n a b) (C m) N.h = _
      simp only [runK, ka, kb, bind1]
      show storeAt n N.h bb off w.cells (N.h.t.get bb) = _
      rw [h3]
      simp only [storeAt, hls, cond_true]
      rw [putAt_of w.cells cs off (by omega)]
      rfl
   | _ => rw [ho] at e; cases e
  ·rename_i j st i off
   simp only at e
   cases hlj : lk j with
   | true => rw [hlj] at e; cases e
   | false =>
    rw [hlj] at e
    simp only [cond_false] at e
    have hh := bindD_ok e
    clear e
    obtain ⟨⟨os1, ds⟩, hf, e⟩ := hh
    obtain ⟨N1, f1, S1, r1⟩ := frL_ok I hw hf
    simp only at e
    obtain ⟨cv, rfl, hjn, bb, l0, cap0, ex0, hb, rfl, hil⟩ := pc_inv ra
    cases ho : og os1 j with
    | arr st' vo =>
     rw [ho] at e
     simp only at e
     cases hs : Nat.beq st st' with
     | false => rw [hs] at e; cases e
     | true =>
      rw [hs] at e
      have := Nat.eq_of_beq_eq_true hs
      subst this
      simp only [cond_true] at e
      have hh := bindD_ok e
      clear e
      obtain ⟨vo', hvo, e⟩ := hh
      cases vo with
      | none => cases hvo
      | some xs =>
       simp only [setO] at hvo
       cases hy : xs[i]? with
       | none => rw [hy] at hvo; cases hvo
       | some y =>
        rw [hy] at hvo
        simp only at hvo
        cases hbd : Nat.ble (off + ds.length) st with
        | false => rw [hbd] at hvo; cases hvo
        | true =>
         rw [hbd] at hvo
         cases hvo
         have hbd := Nat.le_of_ble_eq_true hbd
         obtain ⟨b', vs, ex, h1, h2, h3, h4, h5⟩ := arr_get S1.inv ho
         have hmu : N1.μ j = N.μ j := by rw [f1.μ]
         rw [hmu, hb] at h1
         cases h1
         have hi := (List.getElem?_eq_some_iff.1 hy).1
         have hil2 := Nat.mul_le_mul_right st (show i + 1 ≤ xs.length from hi)
         rw [Nat.succ_mul] at hil2
         have hwd : w.cells.length = ds.length := r1.1
         have hp2 : i * st + off + w.cells.length ≤ vs.length := by omega
         have hlv : live (og os1 j) := by rw [ho]; trivial
         have hbk : blk (N1.μ j) = some bb := by rw [hmu, hb]; rfl
         have hjl : j < os1.length := og_lt (by rw [ho]; intro h; cases h)
         let X := vs.take (i * st + off) ++ w.cells ++ vs.drop (i * st + off + w.cells.length)
         have fg : FG N1.fz N1.h N1.fz (N1.h.put bb (.cells X st)) := ⟨fun _ _ h _ => h, fun b2 z hf2 hz => by
          rw [put_other _ _ (fun (e : b2 = bb) => h2 (by rw [← e]; exact hf2))]; exact hz⟩
         obtain ⟨i1, i2, i3⟩ := S1.inv.put hlv hbk (.cells X st) (.arr st (some (xs.set i (y.take off ++ ds ++ y.drop (off + ds.length)))))
          ⟨bb, X, _, by rw [List.length_set]; exact hmu.trans hb, h2, put_same _ _ _, by rw [List.length_set, ← h4]; simp [X]; omega, fun t z hz => by
           rw [List.getElem?_set] at hz
           by_cases ht : i = t
           ·subst ht
            rw [if_pos rfl, if_pos hi] at hz
            cases hz
            obtain ⟨g1, g2⟩ := h5 i y hy
            refine ⟨by simp [g1]; omega, ?_⟩
            show RepL _ _ ((X.drop (i * st)).take st) _
            rw [take_drop_put_same hp2 rfl (by omega) (by omega)]
            rw [hwd]
            have := (g2.mono fg).set (r1.mono fg) off
            rwa [hwd] at this
           ·rw [if_neg ht] at hz
            obtain ⟨g1, g2⟩ := h5 t z hz
            refine ⟨g1, ?_⟩
            show RepL _ _ ((X.drop (t * st)).take st) _
            rw [take_drop_put hp2 rfl (by omega) t (fun e => ht e.symm)]
            exact g2.mono fg⟩
         have S2 : Stp E lk N1 os1 [j] ⟨N1.μ, N1.n, N1.fz, N1.h.put bb (.cells X st)⟩ _ := ⟨i1, i2, Bk.put rfl (by rw [S1.inv.len]; exact hjl) hlv hbk, fun j' hj' => by
          rw [og_oset, if_neg (fun e => by rw [e.1, hlj] at hj'; cases hj')], .oset (fun _ => by rw [ho]; trivial) (fun _ => .inl trivial) (fun _ => by rw [ho]; trivial)⟩
         refine ⟨_, _, _, _, e, ⟨(aundef, N.h.put bb (.cells X st)), ⟨_, by rw [← f1.h], (S1.trans S2 f1.n).sim (.bad _)⟩, 0, fun m _ => ?_⟩⟩
         show runK r (.store n a b) (C m) N.h = _
         simp only [runK, ka, kb, bind1]
         show storeAt n N.h bb (i * st + off) w.cells (N.h.t.get bb) = _
         rw [f1.h] at h3
         rw [h3]
         simp only [storeAt, hls, cond_true]
         rw [putAt_of w.cells vs _ hp2]
         rfl
    | _ => rw [ho] at e; cases e
end
end Go.PE
end
section
namespace Go.PE
open Go Go.CE
section
variable {β : Type} {C : Nat → Caller} {E : En} {lk : Nat → Bool} {N : Nm} {os : List PO} {r : Fr} {ρ : Nat → PA} {k : KT β} {x : β}
theorem o_mkmap (I : InvO E N os) (hlk : ∀ j, lk j = true → j < os.length) {st : Nat} (e : k (pc (.own os.length)) (os ++ [.mp st []]) [] [] = some x) : Goal C E lk N os r (.mkmap st) k x := by
 obtain ⟨N', h1, h2, h3, S⟩ := stp_new (lk := lk) I hlk (.map []) (.mp st []) (.map N.h.n) rfl fun N' nx hmu hf hg => ⟨_, [], hmu, hf, hg, rfl, fun i e x he => by simp at he⟩
 refine ⟨_, _, _, _, e, ⟨(.s (.one (.map N.h.n)), N.h.new (.map [])), ⟨N', h1, S.sim (rep_pc (p := .own os.length) (c := .map N.h.n) ⟨by rw [h3]; omega, h2.symm⟩)⟩, 0, fun n _ => ?_⟩⟩
 show runK r (.mkmap st) (C n) N.h = _
 exact newB_eq _ _ _
theorem dsOf_ok {v : SVal} {p : PV} {d : DS} (H : RepPV N v p) (e : dsOf p = some d) : RepS N.fz N.h v d := by
 cases p with
 | one c =>
  cases v with
  | agg cs => exact H.elim
  | one y =>
   cases c <;> first | (cases e; done) | skip
   cases e; exact H
 | agg cs =>
  cases v with
  | one y => exact H.elim
  | agg ys =>
   simp only [dsOf] at e
   cases h : allD cs with
   | none => rw [h] at e; cases e
   | some l => rw [h] at e; cases e; exact allD_ok h H
theorem zDs_ok {z : SVal} {d : DS} (e : zDs z = some d) : RepS N.fz N.h z d := by
 unfold zDs at e
 cases h : pvS z with
 | none => rw [h] at e; cases e
 | some p => rw [h] at e; exact dsOf_ok (pvS_ok h) e
theorem eqDS_ok {q : Nat ⊕ List Nat} {a b : SVal} {v w : DS} {p : Bool} {fz : BN → Prop} {h : AHeap} (ha : RepS fz h a v) (hb : RepS fz h b w) (e : eqDS q v w = some p) : eqS q a b = some p := by
 cases q <;> cases v <;> cases w <;> first | (cases e; done) | skip
 ·cases a <;> first | exact ha.elim | skip
  cases b <;> first | exact hb.elim | skip
  exact eqD_ok ha hb e
 ·cases a <;> first | exact ha.elim | skip
  cases b <;> first | exact hb.elim | skip
  exact eqDs_ok ha hb e
def RepE (fz : BN → Prop) (h : AHeap) (st : Nat) (es : List (SVal × SVal)) (xs : List (List DV)) : Prop :=
 es.length = xs.length ∧ ∀ (i : Nat) (e : SVal × SVal) (x : List DV), es[i]? = some e → xs[i]? = some x → RepS fz h e.1 (kD st x) ∧ RepS fz h e.2 (vD st x)
theorem RepE.inv {fz : BN → Prop} {h : AHeap} {st : Nat} {e : SVal × SVal} {es : List (SVal × SVal)} {x : List DV} {xs : List (List DV)} (H : RepE fz h st (e :: es) (x :: xs)) : RepS fz h e.1 (kD st x) ∧ RepS fz h e.2 (vD st x) ∧ RepE fz h st es xs :=
 ⟨(H.2 0 e x rfl rfl).1, (H.2 0 e x rfl rfl).2, by have := H.1; simpa using this, fun i e' x' he hx => H.2 (i + 1) e' x' (by simpa using he) (by simpa using hx)⟩
theorem RepE.cons {fz : BN → Prop} {h : AHeap} {st : Nat} {e : SVal × SVal} {es : List (SVal × SVal)} {x : List DV} {xs : List (List DV)} (h1 : RepS fz h e.1 (kD st x)) (h2 : RepS fz h e.2 (vD st x)) (H : RepE fz h st es xs) : RepE fz h st (e :: es) (x :: xs) :=
 ⟨by simp [H.1], fun i e' x' he hx => by
  cases i with
  | zero => simp only [List.getElem?_cons_zero, Option.some.injEq] at he hx; subst he; subst hx; exact ⟨h1, h2⟩
  | succ i => exact H.2 i e' x' (by simpa using he) (by simpa using hx)⟩
theorem RepE.nil {fz : BN → Prop} {h : AHeap} {st : Nat} : RepE fz h st [] [] := ⟨rfl, fun i e x he => by simp at he⟩
theorem RepE.ne {fz : BN → Prop} {h : AHeap} {st : Nat} {es : List (SVal × SVal)} {xs : List (List DV)} (H : RepE fz h st es xs) : (es = [] ∧ xs = []) ∨ ∃ e es' x xs', es = e :: es' ∧ xs = x :: xs' := by
 cases es with
 | nil => cases xs with
  | nil => exact .inl ⟨rfl, rfl⟩
  | cons x xs => have := H.1; simp at this
 | cons e es => cases xs with
  | nil => have := H.1; simp at this
  | cons x xs => exact .inr ⟨e, es, x, xs, rfl, rfl⟩
def RepR (fz : BN → Prop) (h : AHeap) : Option SVal → Option DS → Prop
 | none, none => True
 | some v, some d => RepS fz h v d
 | _, _ => False
theorem findP_ok {fz : BN → Prop} {h : AHeap} {q : Nat ⊕ List Nat} {st : Nat} {key : SVal} {kd : DS} (hk : RepS fz h key kd) : ∀ {xs : List (List DV)} {es : List (SVal × SVal)} {d : Option DS}, RepE fz h st es xs → findP q st kd xs = some d →
  ∃ v, findE q key es = some v ∧ RepR fz h v d ∧ ∀ y, d = some y → ∃ x, y = vD st x
 | [], es, d, H, e => by
  rcases H.ne with ⟨rfl, _⟩ | ⟨_, _, _, _, _, h2⟩
  ·cases e; exact ⟨none, rfl, trivial, fun y h => by cases h⟩
  ·cases h2
 | x :: xs, es, d, H, e => by
  rcases H.ne with ⟨_, h2⟩ | ⟨e0, es', x', xs', rfl, h2⟩
  ·cases h2
  ·cases h2
   obtain ⟨h1, h2, h3⟩ := H.inv
   simp only [findP] at e
   obtain ⟨k0, v0⟩ := e0
   cases hq : eqDS q kd (kD st x) with
   | none => rw [hq] at e; cases e
   | some b =>
    rw [hq] at e
    have hq' := eqDS_ok hk h1 hq
    cases b with
    | true =>
     cases e
     exact ⟨some v0, by simp only [findE, hq'], h2, fun y h => by cases h; exact ⟨x, rfl⟩⟩
    | false =>
     obtain ⟨v, g1, g2⟩ := findP_ok hk h3 e
     exact ⟨v, by simp only [findE, hq']; exact g1, g2⟩
theorem putP_ok {fz : BN → Prop} {h : AHeap} {q : Nat ⊕ List Nat} {st : Nat} {key val : SVal} {kd : DS} {row : List DV} (hk : RepS fz h key kd) (h1 : RepS fz h key (kD st row)) (h2 : RepS fz h val (vD st row)) : ∀ {xs ys : List (List DV)} {es : List (SVal × SVal)}, RepE fz h st es xs → putP q st kd row xs = some ys →
  ∃ es', putE q key val es = some es' ∧ RepE fz h st es' ys
 | [], ys, es, H, e => by
  rcases H.ne with ⟨rfl, _⟩ | ⟨_, _, _, _, _, h2⟩
  ·cases e; exact ⟨_, rfl, .cons h1 h2 .nil⟩
  ·cases h2
 | x :: xs, ys, es, H, e => by
  rcases H.ne with ⟨_, h2⟩ | ⟨e0, es', x', xs', rfl, hh⟩
  ·cases h2
  ·cases hh
   obtain ⟨g1, g2, g3⟩ := H.inv
   simp only [putP] at e
   obtain ⟨k0, v0⟩ := e0
   cases hq : eqDS q kd (kD st x) with
   | none => rw [hq] at e; cases e
   | some b =>
    rw [hq] at e
    have hq' := eqDS_ok hk g1 hq
    cases b with
    | true =>
     cases e
     exact ⟨(key, val) :: es', by simp only [putE, hq'], .cons h1 h2 g3⟩
    | false =>
     simp only at e
     cases hp : putP q st kd row xs with
     | none => rw [hp] at e; cases e
     | some l =>
      rw [hp] at e
      cases e
      obtain ⟨es2, k1, k2⟩ := putP_ok hk h1 h2 g3 hp
      exact ⟨(k0, v0) :: es2, by simp only [putE, hq', k1, consO], .cons g1 g2 k2⟩
theorem mp_get (I : InvO E N os) {j st : Nat} {xs : List (List DV)} (ho : og os j = .mp st xs) : ∃ b es, N.μ j = .map b ∧ ¬ N.fz b ∧ N.h.t.get b = some (.map es) ∧ RepE N.fz N.h st es xs := by
 have := I.obj j
 rw [ho] at this
 obtain ⟨b, es, h1, h2, h3, h4, h5⟩ := this
 exact ⟨b, es, h1, h2, h3, h4, h5⟩
theorem eqSh_eq {a b : Option Nat} (h : eqSh a b = true) : a = b := by
 cases a <;> cases b <;> first | rfl | (cases h; done) | skip
 rw [Nat.eq_of_beq_eq_true h]
theorem exp_len (x : List DV) : ∀ n i, (exp x n i).length = n
 | 0, _ => rfl
 | n + 1, i => by simp [exp, exp_len x n]
theorem atD_app (a b : List DV) : ∀ i, atD (a ++ b) (a.length + i) = atD b i := by
 induction a with
 | nil => intro i; simp
 | cons x a ih =>
  intro i
  show atD (x :: (a ++ b)) (a.length + 1 + i) = _
  rw [show a.length + 1 + i = (a.length + i) + 1 by omega]
  show atD (a ++ b) (a.length + i) = _
  exact ih i
theorem exp_app (a b : List DV) : ∀ n i, exp (a ++ b) n (a.length + i) = exp b n i
 | 0, _ => rfl
 | n + 1, i => by
  have := exp_app a b n (i + 1)
  show atD (a ++ b) (a.length + i) :: exp (a ++ b) n (a.length + i + 1) = atD b i :: exp b n (i + 1)
  rw [atD_app, show a.length + i + 1 = a.length + (i + 1) by omega, this]
theorem exp_left (a b : List DV) : exp (a ++ b) a.length 0 = a := by
 have key : ∀ (a p b : List DV), exp (p ++ (a ++ b)) a.length p.length = a := by
  intro a
  induction a with
  | nil => intro p b; rfl
  | cons x a ih =>
   intro p b
   have h := ih (p ++ [x]) b
   have h0 := atD_app p (x :: (a ++ b)) 0
   show atD (p ++ (x :: (a ++ b))) p.length :: exp (p ++ (x :: (a ++ b))) a.length (p.length + 1) = _
   rw [Nat.add_zero] at h0
   rw [h0]
   rw [List.length_append, List.append_assoc] at h
   exact congrArg _ h
 exact key a [] b
theorem row_k {st : Nat} {kd vd : DS} (h : shK st = dsSh kd) : kD st (kd.cells ++ vd.cells) = kd := by
 unfold kD
 rw [h]
 cases kd with
 | one d => rfl
 | agg l => show DS.agg (exp (l ++ vd.cells) l.length 0) = _; rw [exp_left]
theorem row_v {st : Nat} {kd vd : DS} (h : shK st = dsSh kd) (h2 : shV st = dsSh vd) : vD st (kd.cells ++ vd.cells) = vd := by
 unfold vD
 rw [h, h2]
 have hk : shLen (dsSh kd) = kd.cells.length := by cases kd <;> rfl
 rw [hk]
 cases vd with
 | one d =>
  show DS.one (atD (kd.cells ++ [d]) (kd.cells.length + 0)) = _
  rw [atD_app]; rfl
 | agg l =>
  have := exp_app kd.cells l l.length 0
  have h2 := exp_left l []
  rw [List.append_nil] at h2
  show DS.agg (exp (kd.cells ++ l) l.length (kd.cells.length + 0)) = _
  rw [this, h2]
theorem vD_sh (st : Nat) (x : List DV) : dsSh (vD st x) = shV st := by
 unfold vD
 cases shV st with
 | none => rfl
 | some n => show some (exp x n _).length = _; rw [exp_len]
theorem look_ok (_ : InvO E N os) {z : SVal} {zd : DS} {ok : Bool} {v : Option SVal} {d : Option DS} (hz : RepS N.fz N.h z zd) (hv : RepR N.fz N.h v d) (hs : ∀ y, d = some y → dsSh y = dsSh zd) (e : lookK zd ok d os k = some x) :
  ∃ a, k a os [] [] = some x ∧ RepPA N (bif ok then .tup [v.getD z, .one (.bool v.isSome)] else .s (v.getD z)) a := by
 have hd : RepS N.fz N.h (v.getD z) (lkD zd d) := by
  cases v <;> cases d <;> first | exact hv.elim | skip
  ·exact hz
  ·exact hv
 have hi : d.isSome = v.isSome := by cases v <;> cases d <;> first | exact hv.elim | rfl
 have hsh : dsSh (lkD zd d) = dsSh zd := by
  cases d with
  | none => rfl
  | some y => exact hs y rfl
 have hb : RepS N.fz N.h (.one (.bool v.isSome)) (.one (.bool d.isSome)) := by rw [hi]; exact Rep.bool _
 generalize hg : lkD zd d = g at hd hsh e
 unfold lookK at e
 rw [hg] at e
 cases zd with
 | one z0 =>
  cases g with
  | agg l => cases hsh
  | one g =>
   cases ok with
   | true => exact ⟨_, e, show RepSL N.fz N.h [v.getD z, .one (.bool v.isSome)] [.one g, .one (.bool d.isSome)] from ⟨hd, hb, trivial⟩⟩
   | false =>
    refine ⟨_, e, ?_⟩
    show RepPA N (.s (v.getD z)) (pd g)
    generalize v.getD z = w at hd
    cases w with
    | agg cs => exact hd.elim
    | one c => exact RepPA.of (v := .one c) (p := .one (.d g)) hd
 | agg l =>
  cases g with
  | one g => cases hsh
  | agg m =>
   have hm : m.length = l.length := by simpa [dsSh] using hsh
   have he : exp m l.length 0 = m := by
    have := exp_left m []
    rwa [List.append_nil, hm] at this
   simp only [dsA, he] at e
   cases ok with
   | true => exact ⟨_, e, show RepSL N.fz N.h [v.getD z, .one (.bool v.isSome)] [.agg m, .one (.bool d.isSome)] from ⟨hd, hb, trivial⟩⟩
   | false =>
    refine ⟨_, e, ?_⟩
    show RepPA N (.s (v.getD z)) (.s (.agg (m.map .d)))
    generalize v.getD z = w at hd
    cases w with
    | one c => exact hd.elim
    | agg cs => exact RepPA.of (v := .agg cs) (p := .agg (m.map .d)) (RepPL.ofD hd)
theorem o_lookup (I : InvO E N os) (F : ∀ i, RepPA N (r i) (ρ i)) {q : Nat ⊕ List Nat} {z : SVal} {ok : Bool} {a b : Operand} (e : w1 (pv ρ a) (fun c =>
  match pv ρ b with
  | some (.s kp) => pLookup os q z ok c kp k
  | _ => none) = some x) : Goal C E lk N os r (.lookup q z ok a b) k x := by
 have hh := w1_ok F e
 clear e
 obtain ⟨c, v, e, ka, ra, pka⟩ := hh
 split at e
 case h_2 => cases e
 rename_i p hp
 obtain ⟨vb, kb, rb⟩ := pv_ok F hp
 obtain ⟨w, rfl, hw⟩ := rb.inv
 unfold pLookup at e
 have hh := bindD_ok e
 clear e
 obtain ⟨kd, hkd, e⟩ := hh
 have hh := bindD_ok e
 clear e
 obtain ⟨zd, hzd, e⟩ := hh
 have hh := bindD_ok e
 clear e
 obtain ⟨pp, hpp, e⟩ := hh
 have hk := dsOf_ok hw hkd
 have hz := zDs_ok (N := N) hzd
 have hself : (eqS q w w).isNone = false := by rw [eqDS_ok hk hk hpp]; rfl
 cases c <;> first | (cases e; done) | skip
 ·rename_i dv
  cases dv <;> first | (cases e; done) | skip
  simp only at e
  have hv : v = .s (.one .nilm) := pd_scal ra (c := .nilm) rfl
  subst hv
  obtain ⟨a', e1, e2⟩ := look_ok I (v := none) (d := none) hz trivial (fun y h => by cases h) e
  refine .quiet I (fun call => ?_) e2 e1
  simp only [runK, ka, kb, bind1]
  show (bif (eqS q w w).isNone then none else _) = _
  rw [hself]; rfl
 ·rename_i j
  simp only at e
  obtain ⟨c, rfl, hj, rfl⟩ := pc_inv ra
  cases ho : og os j with
  | mp st xs =>
   rw [ho] at e
   simp only at e
   cases hs : eqSh (shV st) (dsSh zd) with
   | false => rw [hs] at e; cases e
   | true =>
    rw [hs] at e
    have hh := bindD_ok e
    clear e
    obtain ⟨d, hd, e⟩ := hh
    obtain ⟨bb, es, g1, g2, g3, g4⟩ := mp_get I ho
    obtain ⟨vv, f1, f2, f3⟩ := findP_ok hk g4 hd
    obtain ⟨a', e1, e2⟩ := look_ok I hz f2 (fun y h => by obtain ⟨x, rfl⟩ := f3 y h; rw [vD_sh]; exact eqSh_eq hs) e
    refine .quiet I (fun call => ?_) e2 e1
    simp only [runK, ka, kb, bind1]
    rw [g1]
    show (match mapOf N.h (.s (.one (.map bb))), AVal.s w with
     | some es, .s k => bif (eqS q k k).isNone then none else match findE q k es with | some r => some (bif ok then AVal.tup [r.getD z, .one (.bool r.isSome)] else AVal.s (r.getD z), N.h) | none => none
     | _, _ => none) = _
    simp only [mapOf, g3, hself, cond_false, f1]
  | _ => rw [ho] at e; cases e
theorem o_lenM (I : InvO E N os) (F : ∀ i, RepPA N (r i) (ρ i)) {a : Operand} (e : w1 (pv ρ a) (fun c =>
  match c with
  | .own j =>
   match og os j with
   | .mp _ xs => k (pd (.int .i64 (.ofNat xs.length))) os [] []
   | _ => none
  | .d .nilm => k (pd (.int .i64 (.ofNat 0))) os [] []
  | _ => none) = some x) : Goal C E lk N os r (.lenM a) k x := by
 have hh := w1_ok F e
 clear e
 obtain ⟨c, v, e, ka, ra, pka⟩ := hh
 cases c <;> first | (cases e; done) | skip
 ·rename_i dv
  cases dv <;> first | (cases e; done) | skip
  have hv : v = .s (.one .nilm) := pd_scal ra (c := .nilm) rfl
  subst hv
  exact .quiet I (fun call => by simp only [runK, ka, bind1]; rfl) (scal_pd rfl) e
 ·rename_i j
  simp only at e
  obtain ⟨c, rfl, hj, rfl⟩ := pc_inv ra
  cases ho : og os j with
  | mp st xs =>
   rw [ho] at e
   simp only at e
   obtain ⟨bb, es, g1, g2, g3, g4⟩ := mp_get I ho
   refine .quiet I (v := .s (.one (.int .i64 (.ofNat xs.length)))) (fun call => ?_) (scal_pd rfl) e
   simp only [runK, ka, bind1]
   rw [g1]
   show (match N.h.t.get bb with | some (.map es) => some (AVal.s (.one (.int .i64 (.ofNat es.length))), N.h) | _ => none) = _
   rw [g3, ← g4.1]
  | _ => rw [ho] at e; cases e
theorem o_mupd (I : InvO E N os) (F : ∀ i, RepPA N (r i) (ρ i)) {q : Nat ⊕ List Nat} {a b c : Operand} (e : w1 (pv ρ a) (fun m =>
  match pv ρ b, pv ρ c with
  | some (.s kp), some (.s vp) => pMupd lk os q m kp vp k
  | _, _ => none) = some x) : Goal C E lk N os r (.mupd q a b c) k x := by
 have hh := w1_ok F e
 clear e
 obtain ⟨m, v, e, ka, ra, pka⟩ := hh
 split at e
 case h_2 => cases e
 rename_i p vp hp hvp
 obtain ⟨vb, kb, rb⟩ := pv_ok F hp
 obtain ⟨w, rfl, hw⟩ := rb.inv
 obtain ⟨vc, kc, rc⟩ := pv_ok F hvp
 obtain ⟨u, rfl, hu⟩ := rc.inv
 unfold pMupd at e
 have hh := bindD_ok e
 clear e
 obtain ⟨kd, hkd, e⟩ := hh
 have hh := bindD_ok e
 clear e
 obtain ⟨⟨os1, vd⟩, hvd, e⟩ := hh
 have hh := bindD_ok e
 clear e
 obtain ⟨pp, hpp, e⟩ := hh
 have hk := dsOf_ok hw hkd
 have hself : (eqS q w w).isNone = false := by rw [eqDS_ok hk hk hpp]; rfl
 obtain ⟨N1, f1, S1, r1⟩ := frV_ok I hu hvd
 have hk1 : RepS N1.fz N1.h w kd := hk.mono S1.nx.fg
 cases m <;> first | (cases e; done) | skip
 rename_i j
 simp only at e
 obtain ⟨cm, rfl, hj, rfl⟩ := pc_inv ra
 cases ho : og os1 j with
 | mp st xs =>
  rw [ho] at e
  simp only at e
  cases hlj : lk j with
  | true => rw [hlj] at e; cases e
  | false =>
   rw [hlj] at e
   simp only [cond_false] at e
   cases hs : (eqSh (shK st) (dsSh kd) && eqSh (shV st) (dsSh vd)) with
   | false => rw [hs] at e; cases e
   | true =>
    rw [hs] at e
    rw [Bool.and_eq_true] at hs
    have s1 := eqSh_eq hs.1
    have s2 := eqSh_eq hs.2
    simp only [cond_true] at e
    have hh := bindD_ok e
    clear e
    obtain ⟨ys, hys, e⟩ := hh
    obtain ⟨bb, es, g1, g2, g3, g4⟩ := mp_get S1.inv ho
    obtain ⟨es', q1, q2⟩ := putP_ok hk1 (val := u) (by rw [row_k s1]; exact hk1) (by rw [row_v s1 s2]; exact r1) g4 hys
    have hmu : N1.μ j = N.μ j := by rw [f1.μ]
    have hlv : live (og os1 j) := by rw [ho]; trivial
    have hbk : blk (N1.μ j) = some bb := by rw [g1]; rfl
    have hjl : j < os1.length := og_lt (by rw [ho]; intro h; cases h)
    have fg : FG N1.fz N1.h N1.fz (N1.h.put bb (.map es')) := ⟨fun _ _ h _ => h, fun b2 z hf2 hz => by
     rw [put_other _ _ (fun (e : b2 = bb) => g2 (by rw [← e]; exact hf2))]; exact hz⟩
    obtain ⟨i1, i2, i3⟩ := S1.inv.put hlv hbk (.map es') (.mp st ys)
     ⟨bb, es', g1, g2, put_same _ _ _, q2.1, fun i e x he hx => ⟨(q2.2 i e x he hx).1.mono fg, (q2.2 i e x he hx).2.mono fg⟩⟩
    have S2 : Stp E lk N1 os1 [j] ⟨N1.μ, N1.n, N1.fz, N1.h.put bb (.map es')⟩ _ := ⟨i1, i2, Bk.put rfl (by rw [S1.inv.len]; exact hjl) hlv hbk, fun j' hj' => by
     rw [og_oset, if_neg (fun e => by rw [e.1, hlj] at hj'; cases hj')], .oset (fun _ => by rw [ho]; trivial) (fun _ => .inl trivial) (fun _ => by rw [ho]; trivial)⟩
    refine ⟨_, _, _, _, e, ⟨(aundef, N.h.put bb (.map es')), ⟨_, by rw [← f1.h], (S1.trans S2 f1.n).sim (.bad _)⟩, 0, fun n _ => ?_⟩⟩
    show runK r (.mupd q a b c) (C n) N.h = _
    simp only [runK, ka, kb, kc, bind1]
    rw [← hmu, g1]
    rw [f1.h] at g3
    show (bif (eqS q w w).isNone then none else match N.h.t.get bb with
     | some (.map es) => match putE q w u es with | some es' => some (aundef, N.h.put bb (.map es')) | none => none
     | _ => none) = _
    rw [hself, g3]
    simp only [cond_false, q1]
 | _ => rw [ho] at e; cases e
end
end Go.PE
end
section
namespace Go.PE
open Go Go.CE
section
variable {β : Type} {C : Nat → Caller} {E : En} {lk : Nat → Bool} {N : Nm} {os : List PO} {r : Fr} {ρ : Nat → PA} {k : KT β} {x : β}
theorem ptrs_cL : ∀ (l : List (BN × Nat)), ptrs .nil (cL (l.map fun (p : BN × Nat) => AVal.s (.one (.ptr p.1 p.2)))) = some l
 | [] => rfl
 | p :: l => by
  show (match (constF (.s (.one (.ptr p.1 p.2))) : Opd) .nil with | .s (.one (.ptr b off)) => consO (b, off) (ptrs .nil (cL (l.map fun (p : BN × Nat) => AVal.s (.one (.ptr p.1 p.2))))) | _ => none) = _
  simp only [constF, ptrs_cL l, consO]
theorem capsP_ok (F : ∀ i, RepPA N (r i) (ρ i)) : ∀ {xs : List Operand} {l : List (Nat ⊕ List DV)}, capsP ρ xs = some l → ∃ ps : List (BN × Nat), kvs r xs = some (ps.map fun (p : BN × Nat) => AVal.s (.one (.ptr p.1 p.2))) ∧ RepCaps N ps l
 | [], l, e => by cases e; exact ⟨[], rfl, trivial⟩
 | a :: xs, l, e => by
  simp only [capsP] at e
  split at e
  ·rename_i j l' h1 h2
   cases e
   obtain ⟨v, ka, ra⟩ := pv_ok F h1
   obtain ⟨ps, k1, k2⟩ := capsP_ok F h2
   obtain ⟨w, rfl, hj, b, hb, rfl⟩ := pc_inv ra
   exact ⟨(b, 0) :: ps, by simp only [kvs, ka, k1, List.map_cons], ⟨hj, hb, rfl⟩, k2⟩
  ·rename_i y l' h1 h2
   cases e
   obtain ⟨v, ka, ra⟩ := pv_ok F h1
   obtain ⟨ps, k1, k2⟩ := capsP_ok F h2
   obtain ⟨w, rfl, hw⟩ := pd_inv ra
   have hw' := hw
   obtain ⟨b, o, base, cs, rfl, _⟩ := hw.fp_inv
   exact ⟨(b, base + 0) :: ps, by simp only [kvs, ka, k1, List.map_cons], hw', k2⟩
  ·cases e
theorem o_mkfn (I : InvO E N os) (F : ∀ i, RepPA N (r i) (ρ i)) {f : Nat} {caps : List Operand} (e : bindD (capsP ρ caps) (fun l =>
  match l with
  | [] => k (pd (.fn f [])) os [] []
  | x :: l => k (pc (.clo f (x :: l))) os [] []) = some x) : GoalQ N os r ρ (.mkfn f caps) k x := by
 have hh := bindD_ok e
 clear e
 obtain ⟨l, hl, e⟩ := hh
 obtain ⟨ps, k1, k2⟩ := capsP_ok F hl
 have run : ∀ call, runK r (.mkfn f caps) call N.h = some (.s (.one (.fn f ps)), N.h) := fun call => by
  simp only [runK, k1]
  show (match ptrs .nil (cL (ps.map fun (p : BN × Nat) => AVal.s (.one (.ptr p.1 p.2)))) with | some l => some (AVal.s (.one (.fn f l)), N.h) | none => none) = _
  rw [ptrs_cL]
 cases l with
 | nil =>
  cases ps with
  | nil => exact .quiet I run (rep_pd (.fn_mk (.nil _ _))) e
  | cons p ps => exact k2.elim
 | cons a l => exact .quiet I run (rep_pc (p := .clo f (a :: l)) ⟨ps, rfl, k2⟩) e
theorem numsD_ok {fz : BN → Prop} {h : AHeap} : ∀ {xs : List (List DV)} {cs : List CVal} {ns : List Int}, numsD xs = some ns → cs.length = xs.length → (∀ (i : Nat) (x : List DV), xs[i]? = some x → RepL fz h ((cs.drop i).take 1) x) → numsOf cs = some ns
 | [], cs, ns, e, hl, _ => by
  cases e
  rw [List.length_eq_zero_iff.1 hl]; rfl
 | x :: xs, cs, ns, e, hl, H => by
  unfold numsD at e
  split at e
  ·rename_i h; cases h
  ·rename_i n cs' h
   cases h
   cases hn : numsD xs with
   | none => rw [hn] at e; cases e
   | some l =>
    rw [hn] at e; cases e
    cases cs with
    | nil => simp at hl
    | cons c cs =>
     have h0 := H 0 _ rfl
     simp only [List.drop_zero, List.take_succ_cons, List.take_zero] at h0
     have := (h0.inv.1).scal rfl
     subst this
     have ih := numsD_ok hn (by simpa using hl) (fun i y hy => by have := H (i + 1) y (by simpa using hy); simpa using this)
     show consO n (numsOf cs) = _
     rw [ih]; rfl
  ·cases e
theorem b2s_ok {fz : BN → Prop} {h : AHeap} {w : CVal} {v z : DV} (H : Rep fz h w v) (e : pB2s v = some z) : ∃ c, opB2s (constF (.s (.one w))) noCall .nil h = some (.s (.one c), h) ∧ z.scal = some c := by
 unfold pB2s at e
 split at e
 ·cases e; rw [H.scal rfl]; exact ⟨_, rfl, rfl⟩
 ·rename_i xs
  cases hn : numsD xs with
  | none => rw [hn] at e; cases e
  | some ns =>
   rw [hn] at e; cases e
   obtain ⟨b, o, off, cap, ex, cs, rfl, h1, h2, h3, h4, h5⟩ := H.lst_inv
   have hns := numsD_ok (cs := cs) hn (by rw [rd_len h4]; omega) fun i x hx => by
    have := (h5 i x hx).2
    rwa [Nat.mul_one] at this
   refine ⟨_, ?_, rfl⟩
   rw [Nat.mul_one] at h4
   show (match h.t.get b with
    | some (.cells cs _) => retS h (cut xs.length cs off)
    | some (.ro _ f) => retS h (cutF f xs.length off)
    | some (.tcells cs _ _) => retS h (cut xs.length cs off)
    | some .void => retS h (bif Nat.beq xs.length 0 then some [] else none)
    | _ => none) = _
   rw [h2]
   cases o with
   | cells l st => show retS h (cut xs.length l off) = _; rw [show cut xs.length l off = some cs from h4]; simp only [retS, hns]
   | ro y f => show retS h (cutF f xs.length off) = _; rw [show cutF f xs.length off = some cs from h4]; simp only [retS, hns]
   | void => show retS h (bif Nat.beq xs.length 0 then some [] else none) = _; rw [show (bif Nat.beq xs.length 0 then some [] else none) = some cs from h4]; simp only [retS, hns]
   | _ => cases h4
 ·cases e
theorem o_b2s (I : InvO E N os) (F : ∀ i, RepPA N (r i) (ρ i)) {a : Operand} (e : w1 (pv ρ a) (fun c =>
  match c with
  | .d v => bindD (pB2s v) fun z => k (pd z) os [] []
  | .own j =>
   match og os j with
   | .arr st v => bindD (pB2s (mkL st v)) fun z => k (pd z) os [] [j]
   | _ => none
  | _ => none) = some x) : GoalQ N os r ρ (.b2s a) k x := by
 have hh := w1_ok F e
 clear e
 obtain ⟨c, v, e, ka, ra, pka⟩ := hh
 cases c <;> first | cases e | skip
 ·rename_i d
  simp only at e
  have hh := bindD_ok e
  clear e
  obtain ⟨z, hz, e⟩ := hh
  obtain ⟨w, rfl, hw⟩ := pd_inv ra
  obtain ⟨c, h1, h2⟩ := b2s_ok hw hz
  refine .quiet I (fun call => by simp only [runK, ka, bind1]; exact h1) (scal_pd h2) e (hm := fun xo hx => ?_)
  cases hx
  refine ⟨_, ka, ?_⟩
  cases hw with
  | lst cs g1 g2 =>
   refine .inr ⟨_, rfl, .inr ⟨rfl, fun N' H => ?_⟩⟩
   obtain ⟨w', hw', hr'⟩ := pd_inv (H _ _ ka pka)
   cases hw'
   obtain ⟨b2, o2, off2, cap2, ex2, cs2, q1, q2, q3, _⟩ := hr'.lst_inv
   cases q1
   exact ⟨q2, _, q3⟩
  | nils => exact .inl rfl
  | _ => cases hz
 ·rename_i j
  simp only at e
  obtain ⟨c, rfl, hj, hc⟩ := pc_inv ra
  cases ho : og os j with
  | arr st vo =>
   rw [ho] at e
   simp only at e
   have hh := bindD_ok e
   clear e
   obtain ⟨z, hz, e⟩ := hh
   have hO := I.obj j
   rw [ho] at hO
   have := arr_rep (fz' := fun _ => True) ⟨fun _ _ _ _ => trivial, fun _ _ _ h => h⟩ hO (fun _ _ _ => trivial)
   obtain ⟨c', h1, h2⟩ := b2s_ok this hz
   refine .quiet I (fun call => by simp only [runK, ka, bind1]; rw [hc]; exact h1) (scal_pd h2) e (hm := fun xo hx => ?_)
   cases hx
   refine ⟨_, ka, ?_⟩
   cases vo with
   | none => exact .inl (by rw [hc, show N.μ j = .nils from hO]; rfl)
   | some xs =>
    obtain ⟨b, vs, ex, q1, _⟩ := hO
    exact .inr ⟨b, by rw [hc, q1]; rfl, .inl ⟨j, rfl, hj, by rw [q1]; rfl, by rw [ho]; trivial, fun N' H => (pc_inv (H _ _ ka pka)).elim fun _ q => q.2.1⟩⟩
  | _ => rw [ho] at e; cases e
theorem bnd_le {t : Tr AVal} {x : Option DV} {o : Option AVal} {d y y' i : Nat} (hx : ∀ v, x = some v → ∃ w, o = some w ∧ RepPA N w (pd v)) (hn : x = none → o = none) (e : bndD x d y = some i) (hy : y ≤ y') : bnd t (cO o) d y' = some i := by
 refine bnd_ok hx hn ?_
 cases x with
 | none => exact e
 | some v =>
  cases v <;> first | cases e | skip
  rename_i kk n
  cases n with
  | negSucc n => cases e
  | ofNat n =>
   simp only [bndD] at e ⊢
   cases hb : Nat.ble n y with
   | false => rw [hb] at e; cases e
   | true =>
    rw [hb] at e
    have := Nat.le_of_ble_eq_true hb
    rw [Nat.ble_eq_true_of_le (by omega : n ≤ y')]
    exact e
theorem bndD_le {x : Option DV} {d y i : Nat} (e : bndD x d y = some i) (hd : d ≤ y) : i ≤ y := by
 cases x with
 | none => cases e; exact hd
 | some v =>
  cases v <;> first | cases e | skip
  rename_i kk n
  cases n with
  | negSucc n => cases e
  | ofNat n =>
   simp only [bndD] at e
   cases hb : Nat.ble n y with
   | false => rw [hb] at e; cases e
   | true => rw [hb] at e; cases e; exact Nat.le_of_ble_eq_true hb
theorem slice_ok {st : Nat} {w : CVal} {v z : DV} {lo hi : Option DV} {ol oh : Option AVal} (H : Rep N.fz N.h w v) (l1 : ∀ v, lo = some v → ∃ w, ol = some w ∧ RepPA N w (pd v)) (l2 : lo = none → ol = none) (h1 : ∀ v, hi = some v → ∃ w, oh = some w ∧ RepPA N w (pd v)) (h2 : hi = none → oh = none)
  (e : pSlice st v lo hi = some z) : ∃ c, vSlice st (.s (.one w)) ol oh none N.h = some (.s (.one c), N.h) ∧ Rep N.fz N.h c z := by
 unfold pSlice at e
 split at e
 ·split at e
  ·rename_i a b ha hb
   cases e
   rw [H.scal rfl]
   refine ⟨.nils, ?_, .nils⟩
   show sliceNil (cO ol) (cO oh) (cO none) .nil N.h = _
   unfold sliceNil
   rw [bnd_ok h1 h2 ha, bnd_ok l1 l2 hb]
   rfl
  ·cases e
 ·rename_i st' xs
  cases hs : Nat.beq st st' with
  | false => rw [hs] at e; cases e
  | true =>
   rw [hs] at e
   have := Nat.eq_of_beq_eq_true hs
   subst this
   simp only [cond_true] at e
   cases hh : bndD hi xs.length xs.length with
   | none => rw [hh] at e; cases e
   | some y =>
    rw [hh] at e
    simp only at e
    cases hl : bndD lo 0 y with
    | none => rw [hl] at e; cases e
    | some l =>
     rw [hl] at e
     simp only at e
     cases hc : (Nat.beq l 0 || !Nat.beq l y) with
     | false => rw [hc] at e; cases e
     | true =>
      rw [hc] at e
      cases e
      obtain ⟨b, o, off, cap, ex, cs, rfl, g1, g2, g3, g4, g5⟩ := H.lst_inv
      have hy := bndD_le hh (Nat.le_refl _)
      have hly := bndD_le hl (Nat.zero_le _)
      have hlen : ((xs.drop l).take (y - l)).length = y - l := by simp; omega
      have ml : l * st ≤ y * st := Nat.mul_le_mul_right st hly
      have my : y * st ≤ xs.length * st := Nat.mul_le_mul_right st hy
      have rep : ∀ (cap' : Nat) (ex' : Bool), (ex' = true → y - l ≤ cap') → Rep N.fz N.h (.slc b (off + l * st) (y - l) cap' ex') (.lst st ((xs.drop l).take (y - l))) := by
       intro cap' ex' hcap
       have := Rep.lst_mk (off := off + l * st) (cap := cap') (ex := ex') (xs := (xs.drop l).take (y - l)) (cs := (cs.drop (l * st)).take ((y - l) * st)) g1 g2 (by rw [hlen]; exact hcap)
        (by rw [hlen]; exact rd_sub g4 (by rw [Nat.mul_sub_right_distrib]; omega)) (fun i z hz => by
         rw [List.getElem?_take] at hz
         split at hz
         ·rename_i hi
          rw [List.getElem?_drop] at hz
          obtain ⟨q1, q2⟩ := g5 _ _ hz
          refine ⟨q1, ?_⟩
          have e1 : List.take st (List.drop (i * st) (List.take ((y - l) * st) (List.drop (l * st) cs))) = List.take st (List.drop ((l + i) * st) cs) := by
           have := Nat.mul_le_mul_right st (show i + 1 ≤ y - l from hi)
           rw [Nat.succ_mul] at this
           rw [List.drop_take, List.drop_drop, List.take_take, Nat.add_mul, Nat.min_eq_left (by omega)]
          rw [e1]; exact q2
         ·cases hz)
       rwa [hlen] at this
      cases ex with
      | true =>
       have hcap := g3 rfl
       have run : vSlice st (.s (.one (.slc b off xs.length cap true))) ol oh none N.h = some (.s (.one (.slc b (bif Nat.beq cap l then off else off + l * st) (y - l) (cap - l) true)), N.h) := by
        show sliceEx st (cO ol) (cO oh) (cO none) .nil N.h b off xs.length cap = _
        unfold sliceEx
        have hm : bnd .nil (cO none) cap cap = some cap := (id rfl)
        rw [hm]
        simp only
        rw [bnd_le h1 h2 hh hcap]
        simp only
        rw [bnd_ok l1 l2 hl]
        simp only
        rw [Nat.ble_eq_true_of_le (by omega : y ≤ cap)]
        rfl
       refine ⟨_, run, ?_⟩
       cases hq : Nat.beq cap l with
       | false => exact rep _ _ (fun _ => by omega)
       | true =>
        have hq := Nat.eq_of_beq_eq_true hq
        have hly2 : l = y := by omega
        have hl0 : l = 0 := by
         rw [Bool.or_eq_true] at hc
         rcases hc with hc | hc
         ·exact Nat.eq_of_beq_eq_true hc
         ·rw [hly2, Nat.beq_refl] at hc; cases hc
        have := rep (cap - l) true (fun _ => by omega)
        rw [show off + l * st = off by rw [hl0]; omega] at this
        exact this
      | false =>
       have run : vSlice st (.s (.one (.slc b off xs.length cap false))) ol oh none N.h = some (.s (.one (.slc b (off + l * st) (y - l) (cap + l) false)), N.h) := by
        show sliceUn st (cO ol) (cO oh) (cO none) .nil N.h b off xs.length cap = _
        unfold sliceUn
        show (match bnd .nil (cO oh) xs.length xs.length with
         | some hh => match bnd .nil (cO ol) 0 hh with
          | some l => bif Nat.beq l 0 || !Nat.beq l hh then some (AVal.s (.one (.slc b (off + l * st) (hh - l) (cap + l) false)), N.h) else none
          | none => none
         | none => none) = _
        rw [bnd_ok h1 h2 hh]
        simp only
        rw [bnd_ok l1 l2 hl]
        simp only
        rw [hc]; rfl
       exact ⟨_, run, rep _ _ (fun h => by cases h)⟩
 ·cases e
theorem repl_len (zs : List CVal) : ∀ n, (repl zs n).length = n * zs.length
 | 0 => by simp [repl]
 | n + 1 => by rw [repl, List.length_append, repl_len zs n, Nat.succ_mul, Nat.add_comm]
theorem repl_get (zs : List CVal) : ∀ (n i : Nat), i < n → ((repl zs n).drop (i * zs.length)).take zs.length = zs
 | 0, i, h => by omega
 | n + 1, 0, _ => by simp [repl]
 | n + 1, i + 1, h => by
  rw [repl, Nat.succ_mul, Nat.add_comm, ← List.drop_drop]
  rw [List.drop_left]
  exact repl_get zs n i (by omega)
theorem vslice_run {st off len cap l n : Nat} {ex : Bool} {b : BN} {lo hi : Option DV} {ol oh : Option AVal} (hex : ex = true → len ≤ cap) (l1 : ∀ v, lo = some v → ∃ w, ol = some w ∧ RepPA N w (pd v)) (l2 : lo = none → ol = none) (h1 : ∀ v, hi = some v → ∃ w, oh = some w ∧ RepPA N w (pd v)) (h2 : hi = none → oh = none)
  (e : vwB lo hi len = some (l, n)) (h : AHeap) : l + n ≤ len ∧ ∃ cap' ex', vSlice st (.s (.one (.slc b off len cap ex))) ol oh none h = some (.s (.one (.slc b (off + l * st) n cap' ex')), h) ∧ (ex' = true → n ≤ cap') := by
 unfold vwB at e
 cases hh : bndD hi len len with
 | none => rw [hh] at e; cases e
 | some y =>
  rw [hh] at e
  simp only at e
  cases hl : bndD lo 0 y with
  | none => rw [hl] at e; cases e
  | some l0 =>
   rw [hl] at e
   simp only at e
   cases hc : (Nat.beq l0 0 || !Nat.beq l0 y) with
   | false => rw [hc] at e; cases e
   | true =>
    rw [hc] at e
    cases e
    have hy := bndD_le hh (Nat.le_refl _)
    have hly := bndD_le hl (Nat.zero_le _)
    refine ⟨by omega, ?_⟩
    cases ex with
    | true =>
     have hcap := hex rfl
     have run : vSlice st (.s (.one (.slc b off len cap true))) ol oh none h = some (.s (.one (.slc b (bif Nat.beq cap l then off else off + l * st) (y - l) (cap - l) true)), h) := by
      show sliceEx st (cO ol) (cO oh) (cO none) .nil h b off len cap = _
      unfold sliceEx
      have hm : bnd .nil (cO none) cap cap = some cap := (id rfl)
      rw [hm]
      simp only
      rw [bnd_le h1 h2 hh hcap]
      simp only
      rw [bnd_ok l1 l2 hl]
      simp only
      rw [Nat.ble_eq_true_of_le (by omega : y ≤ cap)]
      rfl
     refine ⟨cap - l, true, run.trans ?_, fun _ => by omega⟩
     cases hq : Nat.beq cap l with
     | false => rfl
     | true =>
      have hq := Nat.eq_of_beq_eq_true hq
      have hly2 : l = y := by omega
      have hl0 : l = 0 := by
       rw [Bool.or_eq_true] at hc
       rcases hc with hc | hc
       ·exact Nat.eq_of_beq_eq_true hc
       ·rw [hly2, Nat.beq_refl] at hc; cases hc
      rw [hl0, Nat.zero_mul]; rfl
    | false =>
     refine ⟨cap + l, false, ?_, fun h => by cases h⟩
     show sliceUn st (cO ol) (cO oh) (cO none) .nil h b off len cap = _
     unfold sliceUn
     show (match bnd .nil (cO oh) len len with
      | some hh => match bnd .nil (cO ol) 0 hh with
       | some l => bif Nat.beq l 0 || !Nat.beq l hh then some (AVal.s (.one (.slc b (off + l * st) (hh - l) (cap + l) false)), h) else none
       | none => none
      | none => none) = _
     rw [bnd_ok h1 h2 hh]
     simp only
     rw [bnd_ok l1 l2 hl]
     simp only
     rw [hc]; rfl
theorem vslice_nil {st l n : Nat} {lo hi : Option DV} {ol oh : Option AVal} (l1 : ∀ v, lo = some v → ∃ w, ol = some w ∧ RepPA N w (pd v)) (l2 : lo = none → ol = none) (h1 : ∀ v, hi = some v → ∃ w, oh = some w ∧ RepPA N w (pd v)) (h2 : hi = none → oh = none)
  (e : vwB lo hi 0 = some (l, n)) (h : AHeap) : l = 0 ∧ n = 0 ∧ vSlice st (.s (.one .nils)) ol oh none h = some (.s (.one .nils), h) := by
 unfold vwB at e
 cases hh : bndD hi 0 0 with
 | none => rw [hh] at e; cases e
 | some y =>
  have hy := bndD_le hh (Nat.le_refl _)
  obtain rfl : y = 0 := by omega
  rw [hh] at e
  simp only at e
  cases hl : bndD lo 0 0 with
  | none => rw [hl] at e; cases e
  | some l0 =>
   have hy := bndD_le hl (Nat.le_refl _)
   obtain rfl : l0 = 0 := by omega
   rw [hl] at e
   cases e
   refine ⟨rfl, rfl, ?_⟩
   show sliceNil (cO ol) (cO oh) (cO none) .nil h = _
   unfold sliceNil
   rw [bnd_ok h1 h2 hh, bnd_ok l1 l2 hl]
   rfl
theorem o_slice (I : InvO E N os) (F : ∀ i, RepPA N (r i) (ρ i)) {st : Nat} {a : Operand} {lo hi mx : Option Operand} (e : (match mx with
  | none => w1 (pv ρ a) fun c => bindD (pvo ρ lo) fun lo => bindD (pvo ρ hi) fun hi => pSliceC os st c lo hi k
  | some _ => none) = some x) : GoalQ N os r ρ (.slice st a lo hi mx) k x := by
 cases mx with
 | some m => cases e
 | none =>
  simp only at e
  have hh := w1_ok F e
  clear e
  obtain ⟨c, v, e, ka, ra, pka⟩ := hh
  have hq := bindD_ok e
  clear e
  obtain ⟨l, hl, e⟩ := hq
  have hq := bindD_ok e
  clear e
  obtain ⟨h, hh, e⟩ := hq
  obtain ⟨ol, kl, l1, l2⟩ := pvo_ok F hl
  obtain ⟨oh, kh, h1, h2⟩ := pvo_ok F hh
  have run : ∀ call, runK r (.slice st a lo hi none) call N.h = vSlice st v ol oh none N.h := fun call => by
   show bind1 (kv r a) (fun x => match kvo r lo, kvo r hi, (some none : Option (Option AVal)) with | some lo, some hi, some mx => vSlice st x lo hi mx N.h | _, _, _ => none) = _
   rw [ka, kl, kh]
   rfl
  have data : ∀ (w : CVal) (d : DV), v = .s (.one w) → Rep N.fz N.h w d → bindD (pSlice st d l h) (fun z => k (pd z) os [] []) = some x → GoalQ N os r ρ (.slice st a lo hi none) k x := by
   intro w d hv hw e
   have hq := bindD_ok e
   clear e
   obtain ⟨z, hz, e⟩ := hq
   obtain ⟨c', q1, q2⟩ := slice_ok hw l1 l2 h1 h2 hz
   exact .quiet I (v := .s (.one c')) (fun call => by rw [run, hv]; exact q1) (rep_pd q2) e
  cases c with
  | d d =>
   obtain ⟨w, hv, hw⟩ := pd_inv ra
   exact data w d hv hw e
  | own j =>
   obtain ⟨w, hv, hj, hw⟩ := pc_inv ra
   simp only [pSliceC] at e
   cases ho : og os j with
   | frz d =>
    rw [ho] at e
    have hO := I.obj j
    rw [ho] at hO
    exact data w d hv (by rw [hw]; exact hO) e
   | arr st' vo =>
    rw [ho] at e
    simp only at e
    cases hs : Nat.beq st st' with
    | false => rw [hs] at e; cases e
    | true =>
     rw [hs] at e
     have := Nat.eq_of_beq_eq_true hs
     subst this
     simp only [cond_true] at e
     have hq := bindD_ok e
     clear e
     obtain ⟨⟨p1, p2⟩, hp, e⟩ := hq
     cases vo with
     | none =>
      have hO := I.obj j
      rw [ho] at hO
      have hO : N.μ j = .nils := hO
      obtain ⟨rfl, rfl, q⟩ := vslice_nil (st := st) l1 l2 h1 h2 hp N.h
      exact .quiet I (v := .s (.one .nils)) (fun call => by rw [run, hv, hw, hO]; exact q) (rep_pc (p := .vw j st 0 0) ⟨hj, .inl ⟨hO, rfl, rfl, rfl⟩⟩) e
     | some xs =>
      obtain ⟨b, vs, ex, g1, _⟩ := arr_get I ho
      obtain ⟨q0, cap', ex', q1, q2⟩ := vslice_run (st := st) (off := 0) (b := b) (cap := bif ex then xs.length else 0) (ex := ex) (fun h => by rw [h]; exact Nat.le_refl _) l1 l2 h1 h2 hp N.h
      refine .quiet I (v := .s (.one (.slc b (p1 * st) p2 cap' ex'))) (fun call => ?_) (rep_pc (p := .vw j st p1 p2) ⟨hj, .inr ⟨b, _, _, _, cap', ex', g1, rfl, q0, q2⟩⟩) e
      rw [run, hv, hw, g1]
      rw [Nat.zero_add] at q1
      exact q1
   | _ => rw [ho] at e; cases e
  | vw j st' lo2 n2 =>
   obtain ⟨w, hv, hj, hw⟩ := pc_inv ra
   simp only [pSliceC] at e
   cases hs : Nat.beq st st' with
   | false => rw [hs] at e; cases e
   | true =>
    rw [hs] at e
    have := Nat.eq_of_beq_eq_true hs
    subst this
    simp only [cond_true] at e
    have hq := bindD_ok e
    clear e
    obtain ⟨⟨p1, p2⟩, hp, e⟩ := hq
    rcases hw with ⟨g1, rfl, rfl, rfl⟩ | ⟨b, l0, cap, ex, cap', ex', g1, rfl, g2, g3⟩
    ·obtain ⟨rfl, rfl, q⟩ := vslice_nil (st := st) l1 l2 h1 h2 hp N.h
     exact .quiet I (v := .s (.one .nils)) (fun call => by rw [run, hv]; exact q) (rep_pc (p := .vw j st (0 + 0) 0) ⟨hj, .inl ⟨g1, rfl, rfl, rfl⟩⟩) e
    ·obtain ⟨q0, cap2, ex2, q1, q2⟩ := vslice_run (st := st) (off := lo2 * st) (b := b) (cap := cap') (ex := ex') g3 l1 l2 h1 h2 hp N.h
     refine .quiet I (v := .s (.one (.slc b ((lo2 + p1) * st) p2 cap2 ex2))) (fun call => ?_) (rep_pc (p := .vw j st (lo2 + p1) p2) ⟨hj, .inr ⟨b, _, _, _, cap2, ex2, g1, rfl, by omega, q2⟩⟩) e
     rw [run, hv, q1, Nat.add_mul]
  | _ => cases e
theorem o_clear (I : InvO E N os) (F : ∀ i, RepPA N (r i) (ρ i)) {st : Nat} {zs : List CVal} {a : Operand} (e : w1 (pv ρ a) (fun c => pClear lk os st zs c k) = some x) : Goal C E lk N os r (.clear st zs a) k x := by
 have hh := w1_ok F e
 clear e
 obtain ⟨c, v, e, ka, ra, pka⟩ := hh
 cases c <;> first | cases e | skip
 rename_i j st' lo len
 simp only [pClear] at e
 obtain ⟨w, rfl, hj, hw⟩ := pc_inv ra
 cases ho : og os j with
 | arr st'' vo =>
  rw [ho] at e
  simp only at e
  cases hlj : lk j with
  | true => rw [hlj] at e; cases e
  | false =>
   rw [hlj] at e
   simp only [cond_false] at e
   cases hs : (Nat.beq st st' && Nat.beq st st'' && Nat.beq zs.length st) with
   | false => rw [hs] at e; cases e
   | true =>
    rw [hs] at e
    simp only [cond_true] at e
    rw [Bool.and_eq_true, Bool.and_eq_true] at hs
    have t1 := Nat.eq_of_beq_eq_true hs.1.1
    have t2 := Nat.eq_of_beq_eq_true hs.1.2
    have t3 := Nat.eq_of_beq_eq_true hs.2
    subst t1 t2
    have hh := bindD_ok e
    clear e
    obtain ⟨ps, hp, e⟩ := hh
    have hh := bindD_ok e
    clear e
    obtain ⟨ds, hd, e⟩ := hh
    have hz : RepL N.fz N.h zs ds := allD_ok hd (cDs_ok (N := N) hp)
    have run : ∀ call, runK r (.clear st zs a) call N.h = vClear st zs (.s (.one w)) N.h := fun call => by simp only [runK, ka, bind1]
    have hjl : j < os.length := og_lt (by rw [ho]; intro h; cases h)
    cases vo with
    | none =>
     have hO := I.obj j
     rw [ho] at hO
     have hO : N.μ j = .nils := hO
     rcases hw with ⟨g1, rfl, rfl, rfl⟩ | ⟨b, l0, cap, ex, cap', ex', g1, rfl, g2, g3⟩
     ·refine ⟨_, _, _, _, e, ⟨(aundef, N.h), ⟨N, rfl, ⟨I.turn j _ (fun h => h) hO, .refl N, ⟨Nat.le_refl _, fun _ _ _ => rfl⟩, fun j' hj' => ?_, .oset (fun h => h.elim) (fun h => by rw [ho] at h; exact h.elim) (fun h => h.elim), .bad _⟩⟩, 0, fun n _ => ?_⟩⟩
      ·rw [og_oset, if_neg (fun e => by rw [e.1, hlj] at hj'; cases hj')]
      ·exact run (C n)
     ·rw [hO] at g1; cases g1
    | some xs =>
     obtain ⟨b', vs, ex2, k1, k2, k3, k4, k5⟩ := arr_get I ho
     rcases hw with ⟨g1, rfl, rfl, rfl⟩ | ⟨b, l0, cap, ex, cap', ex', g1, rfl, g2, g3⟩
     ·rw [g1] at k1; cases k1
     ·rw [g1] at k1
      cases k1
      by_cases hl : len = 0
      ·subst hl
       have hs : oset (.arr st (clrO (some xs) lo 0 ds)) os j = os := by
        have : PO.arr st (clrO (some xs) lo 0 ds) = og os j := by rw [ho]; simp [clrO]
        rw [this, oset_self]
       rw [hs] at e
       refine ⟨_, _, _, _, e, ⟨(aundef, N.h), ⟨N, rfl, ⟨I, .refl N, .same rfl, fun _ _ => rfl, .refl _ _ _, .bad _⟩⟩, 0, fun n _ => ?_⟩⟩
       exact run (C n)
      have hlv : live (og os j) := by rw [ho]; trivial
      have hbk : blk (N.μ j) = some b' := by rw [g1]; rfl
      have rl : (repl zs len).length = len * st := by rw [repl_len, t3]
      have m1 : (lo + len) * st ≤ xs.length * st := Nat.mul_le_mul_right st g2
      rw [Nat.add_mul] at m1
      let X := vs.take (lo * st) ++ repl zs len ++ vs.drop (lo * st + (repl zs len).length)
      have hX : X.length = xs.length * st := by simp [X, rl]; omega
      have hn : (xs.take lo ++ List.replicate len ds ++ xs.drop (lo + len)).length = xs.length := by simp; omega
      have fg : FG N.fz N.h N.fz (N.h.put b' (.cells X st)) := ⟨fun _ _ h _ => h, fun b2 z hf2 hz => by
       rw [put_other _ _ (fun (e : b2 = b') => k2 (by rw [← e]; exact hf2))]; exact hz⟩
      obtain ⟨i1, i2, i3⟩ := I.put hlv hbk (.cells X st) (.arr st (some (xs.take lo ++ List.replicate len ds ++ xs.drop (lo + len))))
       ⟨b', X, _, by rw [hn]; exact g1, k2, put_same _ _ _, by rw [hn]; exact hX, fun t z hzt => by
        have ht : t < xs.length := by have := (List.getElem?_eq_some_iff.1 hzt).1; omega
        have mt := Nat.mul_le_mul_right st (show t + 1 ≤ xs.length from ht)
        rw [Nat.succ_mul] at mt
        by_cases c1 : t < lo
        ·rw [List.append_assoc, List.getElem?_append_left (by simp; omega), List.getElem?_take, if_pos c1] at hzt
         obtain ⟨q1, q2⟩ := k5 t z hzt
         refine ⟨q1, ?_⟩
         have mt2 := Nat.mul_le_mul_right st (show t + 1 ≤ lo from c1)
         rw [Nat.succ_mul] at mt2
         show RepL _ _ ((X.drop (t * st)).take st) _
         have : (X.drop (t * st)).take st = (vs.drop (t * st)).take st := by
          show List.take st (List.drop (t * st) (vs.take (lo * st) ++ repl zs len ++ vs.drop (lo * st + (repl zs len).length))) = _
          rw [List.append_assoc, List.drop_append_of_le_length (by simp; omega), List.take_append_of_le_length (by simp; omega), List.drop_take, List.take_take, Nat.min_eq_left (by omega)]
         rw [this]; exact q2.mono fg
        ·by_cases c2 : t < lo + len
         ·rw [List.append_assoc, List.getElem?_append_right (by simp; omega), List.getElem?_append_left (by simp; omega), List.getElem?_replicate, if_pos (by simp; omega)] at hzt
          cases hzt
          refine ⟨by rw [← hz.1, t3], ?_⟩
          have mt2 := Nat.mul_le_mul_right st (show t - lo + 1 ≤ len by omega)
          rw [Nat.succ_mul] at mt2
          have mt3 : t * st = lo * st + (t - lo) * st := by rw [← Nat.add_mul]; congr 1; omega
          show RepL _ _ ((X.drop (t * st)).take st) _
          have : (X.drop (t * st)).take st = zs := by
           show List.take st (List.drop (t * st) (vs.take (lo * st) ++ repl zs len ++ vs.drop (lo * st + (repl zs len).length))) = _
           have hl0 : (vs.take (lo * st)).length = lo * st := by simp; omega
           rw [List.append_assoc, mt3, ← List.drop_drop, List.drop_left' hl0, List.drop_append_of_le_length (by omega), List.take_append_of_le_length (by simp; omega)]
           have := repl_get zs len (t - lo) (by omega)
           rwa [t3] at this
          rw [this]; exact hz.mono fg
         ·have hl0 : (xs.take lo ++ List.replicate len ds).length = lo + len := by simp; omega
          rw [List.getElem?_append_right (by omega), hl0, List.getElem?_drop] at hzt
          rw [show lo + len + (t - (lo + len)) = t by omega] at hzt
          obtain ⟨q1, q2⟩ := k5 t z hzt
          refine ⟨q1, ?_⟩
          have mt2 := Nat.mul_le_mul_right st (show lo + len ≤ t by omega)
          rw [Nat.add_mul] at mt2
          show RepL _ _ ((X.drop (t * st)).take st) _
          have : (X.drop (t * st)).take st = (vs.drop (t * st)).take st := by
           show List.take st (List.drop (t * st) (vs.take (lo * st) ++ repl zs len ++ vs.drop (lo * st + (repl zs len).length))) = _
           have hl1 : (vs.take (lo * st) ++ repl zs len).length = lo * st + len * st := by simp [rl]; omega
           rw [show t * st = (lo * st + len * st) + (t * st - (lo * st + len * st)) by omega, ← List.drop_drop, List.drop_left' hl1, List.drop_drop, rl]
          rw [this]; exact q2.mono fg⟩
      refine ⟨_, _, _, _, e, ⟨(aundef, N.h.put b' (.cells X st)), ⟨⟨N.μ, N.n, N.fz, N.h.put b' (.cells X st)⟩, rfl, ⟨i1, i2, Bk.put rfl (by rw [I.len]; exact hjl) hlv hbk, fun j' hj' => ?_, .oset (fun _ => by rw [ho]; trivial) (fun _ => .inl trivial) (fun _ => by rw [ho]; trivial), .bad _⟩⟩, 0, fun n _ => ?_⟩⟩
      ·rw [og_oset, if_neg (fun e => by rw [e.1, hlj] at hj'; cases hj')]
      ·refine (run (C n)).trans ?_
       show (bif Nat.beq len 0 then some (aundef, N.h) else clearAt st zs N.h b' (lo * st) len (N.h.t.get b')) = _
       have hb0 : Nat.beq len 0 = false := by
        cases hq : Nat.beq len 0 with
        | false => rfl
        | true => exact absurd (Nat.eq_of_beq_eq_true hq) hl
       rw [hb0, k3, cond_false]
       simp only [clearAt]
       rw [t3, Nat.beq_refl, cond_true, putAt_of (repl zs len) vs (lo * st) (by omega)]
       rfl
 | _ => rw [ho] at e; cases e
theorem flat_get {st : Nat} {vs ws : List CVal} {xs ys : List (List DV)} {fz : BN → Prop} {h : AHeap} (hl : vs.length = xs.length * st) (hw : ws.length = ys.length * st)
  (H : ∀ (i : Nat) (x : List DV), xs[i]? = some x → x.length = st ∧ RepL fz h ((vs.drop (i * st)).take st) x) (K : ∀ (i : Nat) (x : List DV), ys[i]? = some x → x.length = st ∧ RepL fz h ((ws.drop (i * st)).take st) x) :
  (vs ++ ws).length = (xs ++ ys).length * st ∧ ∀ (i : Nat) (x : List DV), (xs ++ ys)[i]? = some x → x.length = st ∧ RepL fz h (((vs ++ ws).drop (i * st)).take st) x := by
 refine ⟨by simp [hl, hw, Nat.add_mul], fun i x hx => ?_⟩
 by_cases hi : i < xs.length
 ·rw [List.getElem?_append_left hi] at hx
  obtain ⟨a, b⟩ := H i x hx
  refine ⟨a, ?_⟩
  have := Nat.mul_le_mul_right st (show i + 1 ≤ xs.length from hi)
  rw [Nat.succ_mul] at this
  rw [List.drop_append_of_le_length (by omega), List.take_append_of_le_length (by simp; omega)]
  exact b
 ·rw [List.getElem?_append_right (by omega)] at hx
  obtain ⟨a, b⟩ := K _ x hx
  refine ⟨a, ?_⟩
  have hle : xs.length * st ≤ i * st := Nat.mul_le_mul_right st (by omega)
  rw [List.drop_append, List.drop_of_length_le (by omega), List.nil_append, hl]
  rw [Nat.mul_sub_right_distrib] at b
  exact b
theorem elems_ok {fz : BN → Prop} {h : AHeap} {st : Nat} {w : CVal} {v : DV} {xs : List (List DV)} (H : Rep fz h w v) (e : pElems st v = some xs) : ∃ cs, srcOf false st h (.s (.one w)) = some (cs, xs.length) ∧ cs.length = xs.length * st ∧
  ∀ (i : Nat) (x : List DV), xs[i]? = some x → x.length = st ∧ RepL fz h ((cs.drop (i * st)).take st) x := by
 cases v <;> simp only [pElems] at e <;> first | cases e | skip
 ·rw [H.scal rfl]; exact ⟨[], rfl, by simp, fun i x hx => by simp at hx⟩
 ·rename_i st' ys
  cases hs : Nat.beq st st' with
  | false => rw [hs] at e; cases e
  | true =>
   rw [hs] at e
   cases e
   have := Nat.eq_of_beq_eq_true hs
   subst this
   obtain ⟨b, o, off, cap, ex, cs, rfl, g1, g2, g3, g4, g5⟩ := H.lst_inv
   refine ⟨cs, ?_, rd_len g4, g5⟩
   show (match h.t.get b with
    | some (.cells l _) => match cut (Nat.mul xs.length st) l off with | some l => some (l, xs.length) | none => none
    | some (.ro _ f) => match cutF f (Nat.mul xs.length st) off with | some l => some (l, xs.length) | none => none
    | some (.tcells l _ _) => match cut (Nat.mul xs.length st) l off with | some l => some (l, xs.length) | none => none
    | some .void => bif Nat.beq (Nat.mul xs.length st) 0 then some ([], xs.length) else none
    | _ => none) = _
   rw [g2]
   cases o with
   | cells l s => simp only; rw [show cut (Nat.mul xs.length st) l off = some cs from g4]
   | ro y f => simp only; rw [show cutF f (Nat.mul xs.length st) off = some cs from g4]
   | void => obtain ⟨k1, k2⟩ := rd_void g4; subst k2; simp only; rw [show Nat.beq (Nat.mul xs.length st) 0 = true by rw [show Nat.mul xs.length st = 0 from k1]; rfl]; rfl
   | _ => cases g4
theorem src_ok (I : InvO E N os) {st : Nat} {c : PC} {v : AVal} {K : List (List DV) → Option β} (ra : RepPA N v (pc c)) (e : srcP os st c K = some x) : ∃ new cs, K new = some x ∧ srcOf false st N.h v = some (cs, new.length) ∧ cs.length = new.length * st ∧
  ∀ (i : Nat) (x : List DV), new[i]? = some x → x.length = st ∧ RepL N.fz N.h ((cs.drop (i * st)).take st) x := by
 obtain ⟨w, rfl, hw⟩ := pc_inv ra
 cases c <;> simp only [srcP] at e <;> first | cases e | skip
 ·obtain ⟨new, hn, e⟩ := bindD_ok e
  obtain ⟨cs, h1, h2, h3⟩ := elems_ok hw hn
  exact ⟨new, cs, e, h1, h2, h3⟩
 ·rename_i j
  obtain ⟨hj, rfl⟩ := hw
  have hO := I.obj j
  cases ho : og os j with
  | arr st' vo =>
   rw [ho] at e hO
   simp only at e
   cases hs : Nat.beq st st' with
   | false => rw [hs] at e; cases e
   | true =>
    rw [hs] at e
    have := Nat.eq_of_beq_eq_true hs
    subst this
    cases vo with
    | none => refine ⟨[], [], e, ?_, by simp, fun i x hx => by simp at hx⟩; rw [show N.μ j = .nils from hO]; rfl
    | some xs =>
     have := hO
     obtain ⟨b, vs, ex, h1, h2, h3, h4, h5⟩ := this
     refine ⟨xs, vs, e, ?_, h4, h5⟩
     have hr := arr_rep (fz' := fun _ => True) ⟨fun _ _ _ _ => trivial, fun _ _ _ h => h⟩ hO (fun _ _ _ => trivial)
     obtain ⟨cs, q1, q2, _⟩ := elems_ok (st := st) (xs := xs) hr (by simp [mkL, pElems])
     rw [q1]
     have : cs = vs := by
      rw [h1] at q1
      have : (match N.h.t.get b with
       | some (.cells l _) => match cut (Nat.mul xs.length st) l 0 with | some l => some (l, xs.length) | none => none
       | some (.ro _ f) => match cutF f (Nat.mul xs.length st) 0 with | some l => some (l, xs.length) | none => none
       | some (.tcells l _ _) => match cut (Nat.mul xs.length st) l 0 with | some l => some (l, xs.length) | none => none
       | some .void => bif Nat.beq (Nat.mul xs.length st) 0 then some ([], xs.length) else none
       | _ => none) = some (cs, xs.length) := q1
      rw [h3] at this
      simp only at this
      rw [show cut (Nat.mul xs.length st) vs 0 = some vs by show cut (xs.length * st) vs 0 = _; rw [← h4]; exact cut_full vs] at this
      cases this; rfl
     rw [this]
  | frz d =>
   rw [ho] at e hO
   simp only at e
   obtain ⟨new, hn, e⟩ := bindD_ok e
   obtain ⟨cs, h1, h2, h3⟩ := elems_ok (show Rep N.fz N.h (N.μ j) d from hO) hn
   exact ⟨new, cs, e, h1, h2, h3⟩
  | _ => rw [ho] at e; cases e
theorem InvO.name (I : InvO E N os) (hlk : ∀ j, lk j = true → j < os.length) {j st : Nat} {v : OC} (hj : j < os.length) (hlj : lk j = false) (ho : og os j = .arr st v) :
  ∃ N', N'.h = N.h ∧ N'.n = os.length + 1 ∧ Stp E lk N os [j] N' (oset .dead os j ++ [.arr st v]) ∧ RepPA N' (.s (.one (N.μ j))) (pc (.own os.length)) := by
 have hO := I.obj j
 rw [ho] at hO
 let N' : Nm := ⟨upd N.μ os.length (N.μ j), os.length + 1, N.fz, N.h⟩
 have mu : ∀ k, k ≠ os.length → N'.μ k = N.μ k := fun k hk => by show (if k = os.length then _ else N.μ k) = _; rw [if_neg hk]
 have muL : N'.μ os.length = N.μ j := by show (if os.length = os.length then _ else _) = _; rw [if_pos rfl]
 have nx : Nx N N' := ⟨.refl _ _, by have := I.len; show N.n ≤ os.length + 1; omega, fun k hk => mu k (by have := I.len; omega)⟩
 have hlen := oset_len .dead os j
 have t : ∀ i, live (og (oset .dead os j ++ [.arr st v]) i) → (i = os.length ∧ live (og os j)) ∨ (i ≠ os.length ∧ i ≠ j ∧ live (og os i)) := fun i hi => by
  rw [og_app, hlen] at hi
  by_cases h1 : i = os.length
  ·rw [if_pos h1] at hi; exact .inl ⟨h1, by rw [ho]; exact hi⟩
  ·rw [if_neg h1, og_oset] at hi
   by_cases h2 : i = j
   ·rw [if_pos ⟨h2, hj⟩] at hi; exact hi.elim
   ·rw [if_neg (fun e => h2 e.1)] at hi; exact .inr ⟨h1, h2, hi⟩
 refine ⟨N', rfl, rfl, ⟨⟨I.hw, I.gr, I.fzlt, I.fzok, I.fzex, by show os.length + 1 = _; simp [hlen], ?_, ?_, ?_⟩, nx, Bk.same rfl, fun j' hj' => ?_, Ho.trans (w1 := [j]) (w2 := []) (Ho.oset (o := .dead) (fun h => h.elim) (fun _ => .inr (List.mem_singleton_self j)) (fun h => h.elim)) (.app (by rw [hlen]; exact Nat.le_of_eq I.len))⟩, rep_pc (p := .own os.length) ⟨by show os.length < os.length + 1; omega, muL.symm⟩⟩
 ·intro k b hl hb
  rcases t k hl with ⟨h1, h2⟩ | ⟨h1, h2, h3⟩
  ·rw [h1, muL] at hb; exact I.own j b h2 hb
  ·rw [mu k h1] at hb; exact I.own k b h3 hb
 ·intro k k' b hl hl' hb hb'
  rcases t k hl with ⟨h1, h2⟩ | ⟨h1, h2, h3⟩ <;> rcases t k' hl' with ⟨g1, g2⟩ | ⟨g1, g2, g3⟩
  ·rw [h1, g1]
  ·rw [h1, muL] at hb
   rw [mu k' g1] at hb'
   exact absurd (I.inj k' j b g3 h2 hb' hb) g2
  ·rw [g1, muL] at hb'
   rw [mu k h1] at hb
   exact absurd (I.inj k j b h3 g2 hb hb') h2
  ·rw [mu k h1] at hb
   rw [mu k' g1] at hb'
   exact I.inj k k' b h3 g3 hb hb'
 ·intro k
  rw [og_app, hlen]
  by_cases h1 : k = os.length
  ·rw [if_pos h1, h1]
   cases v with
   | none => exact muL.trans hO
   | some xs =>
    obtain ⟨b, vs, ex, q1, q2⟩ := hO
    exact ⟨b, vs, ex, muL.trans q1, q2⟩
  ·rw [if_neg h1, og_oset]
   split
   ·trivial
   ·exact (I.obj k).mono nx (mu k h1) fun hl b hb => by
     obtain ⟨b', x', q1, q2, q3⟩ := live_blk hl (I.obj k)
     rw [q1] at hb; cases hb
     exact ⟨q2, rfl⟩
 ·rw [og_app, hlen, if_neg (by have := hlk j' hj'; omega), og_oset, if_neg (fun e => by rw [e.1, hlj] at hj'; cases hj')]
noncomputable def apRun (st bytes : Nat) (h : AHeap) (cs : List CVal) (n : Nat) (v : AVal) : Res :=
 match v with
 | .s (.one .nils) => bif Nat.beq n 0 then some (.s (.one .nils), h) else bif fits bytes n then grown h st n [] cs else none
 | .s (.one (.slc b off len cap ex)) =>
  bif Nat.beq n 0 then some (.s (.one (.slc b off len cap ex)), h) else
  bif fits bytes (Nat.add len n) then appendAt st h cs n b off len cap ex (h.t.get b) else none
 | _ => none
theorem o_append (I : InvO E N os) (F : ∀ i, RepPA N (r i) (ρ i)) (hlk : ∀ j, lk j = true → j < os.length) {st bytes : Nat} {a b : Operand} (e : w1 (pv ρ a) (fun s => w1 (pv ρ b) fun y => pAppend lk os st bytes s y k) = some x) : Goal C E lk N os r (.append st bytes a b) k x := by
 have hh := w1_ok F e
 clear e
 obtain ⟨c, v, e, ka, ra, pka⟩ := hh
 have hh := w1_ok F e
 clear e
 obtain ⟨d, u, e, kb, rb, pkb⟩ := hh
 unfold pAppend at e
 have hh := src_ok I rb e
 clear e
 obtain ⟨new, cs, e, hsrc, hcl, hcs⟩ := hh
 have run : ∀ call, runK r (.append st bytes a b) call N.h = apRun st bytes N.h cs new.length v := fun call => by
  simp only [runK, ka, kb, bind1]
  show (match srcOf false st N.h u with
   | none => none
   | some (new, n) => match v with
    | .s (.one .nils) => bif Nat.beq n 0 then some (AVal.s (.one .nils), N.h) else bif fits bytes n then grown N.h st n [] new else none
    | .s (.one (.slc b off len cap ex)) =>
     bif Nat.beq n 0 then some (AVal.s (.one (.slc b off len cap ex)), N.h) else
     bif fits bytes (Nat.add len n) then appendAt st N.h new n b off len cap ex (N.h.t.get b) else none
    | _ => none) = _
  rw [hsrc]
  rfl
 have fresh : ∀ (os1 : List PO) (w1 : List Nat) (S1 : Stp E lk N os w1 N os1) (hl1 : os1.length = os.length), new ≠ [] → v = AVal.s (.one .nils) → fits bytes new.length = true →
   k (pc (.own os.length)) (os1 ++ [.arr st (appO none new)]) w1 [] = some x → Goal C E lk N os r (.append st bytes a b) k x := by
  intro os1 w1 S1 hl1 hne hv hfit hk
  obtain ⟨N2, h4, h5, S2, r2⟩ := new_arr (lk := lk) (ex := false) S1.inv (fun j hj => by rw [hl1]; exact hlk j hj) hcl hcs
  have he : appO none new = some new := by
   cases new with
   | nil => exact absurd rfl hne
   | cons y l => rfl
  rw [he] at hk
  rw [hl1] at r2
  have S := S1.trans S2 rfl
  rw [List.append_nil] at S
  refine ⟨_, _, _, _, hk, ⟨(.s (.one (.slc N.h.n 0 new.length 0 false)), N.h.new (.cells cs st)), ⟨N2, h4, S.sim r2⟩, 0, fun n _ => ?_⟩⟩
  show runK r (.append st bytes a b) (C n) N.h = _
  rw [run, hv]
  have : Nat.beq new.length 0 = false := by
   cases new with
   | nil => exact absurd rfl hne
   | cons y l => rfl
  simp only [apRun, this, cond_false, hfit, cond_true]
  exact newB_eq _ _ _
 cases c with
 | d dv =>
  cases dv <;> first | cases e | skip
  simp only at e
  cases hfit : fits bytes new.length with
  | false => rw [hfit] at e; cases e
  | true =>
   rw [hfit] at e
   have hv := pd_scal ra (c := .nils) rfl
   cases hnew : new with
   | nil =>
    subst hnew
    obtain ⟨N2, h4, h5, S2⟩ : ∃ N', N'.h = N.h ∧ RepPA N' (.s (.one .nils)) (pc (.own os.length)) ∧ Stp E lk N os [] N' (os ++ [.arr st none]) := by
     have I0 := I
     let N' : Nm := ⟨upd N.μ os.length .nils, os.length + 1, N.fz, N.h⟩
     have mu : ∀ k, k ≠ os.length → N'.μ k = N.μ k := fun k hk => by show (if k = os.length then _ else N.μ k) = _; rw [if_neg hk]
     have muL : N'.μ os.length = .nils := by show (if os.length = os.length then _ else _) = _; rw [if_pos rfl]
     have nx : Nx N N' := ⟨.refl _ _, by have := I.len; show N.n ≤ os.length + 1; omega, fun k hk => mu k (by have := I.len; omega)⟩
     have t : ∀ i, live (og (os ++ [.arr st none]) i) → i ≠ os.length ∧ live (og os i) := fun i hi => by
      rw [og_app] at hi
      by_cases h1 : i = os.length
      ·rw [if_pos h1] at hi; exact hi.elim
      ·rw [if_neg h1] at hi; exact ⟨h1, hi⟩
     refine ⟨N', rfl, rep_pc (p := .own os.length) ⟨by show os.length < os.length + 1; omega, muL.symm⟩, ⟨⟨I.hw, I.gr, I.fzlt, I.fzok, I.fzex, by show os.length + 1 = _; simp, ?_, ?_, ?_⟩, nx, Bk.same rfl, fun j' hj' => ?_, .app (Nat.le_of_eq I.len)⟩⟩
     ·intro k b hl hb
      rw [mu k (t k hl).1] at hb
      exact I.own k b (t k hl).2 hb
     ·intro k k' b hl hl' hb hb'
      rw [mu k (t k hl).1] at hb
      rw [mu k' (t k' hl').1] at hb'
      exact I.inj k k' b (t k hl).2 (t k' hl').2 hb hb'
     ·intro k
      rw [og_app]
      by_cases h1 : k = os.length
      ·rw [if_pos h1, h1]; exact muL
      ·rw [if_neg h1]
       exact (I.obj k).mono nx (mu k h1) fun hl b hb => by
        obtain ⟨b', x', q1, q2, q3⟩ := live_blk hl (I.obj k)
        rw [q1] at hb; cases hb
        exact ⟨q2, rfl⟩
     ·rw [og_app, if_neg (by have := hlk j' hj'; omega)]
    refine ⟨_, _, _, _, e, ⟨(.s (.one .nils), N.h), ⟨N2, h4, S2.sim h5⟩, 0, fun n _ => ?_⟩⟩
    show runK r (.append st bytes a b) (C n) N.h = _
    rw [run, hv]; rfl
   | cons y l => exact fresh os [] (.refl I) rfl (by rw [hnew]; simp) hv hfit e
 | own j =>
  simp only at e
  obtain ⟨w, rfl, hj, rfl⟩ := pc_inv ra
  cases ho : og os j with
  | arr st' vo =>
   rw [ho] at e
   simp only at e
   cases hlj : lk j with
   | true => rw [hlj] at e; cases e
   | false =>
    rw [hlj] at e
    simp only [cond_false] at e
    cases hs : Nat.beq st st' with
    | false => rw [hs] at e; cases e
    | true =>
     rw [hs] at e
     have := Nat.eq_of_beq_eq_true hs
     subst this
     simp only [cond_true] at e
     cases hfit : fits bytes (lenO vo + new.length) with
     | false => rw [hfit] at e; cases e
     | true =>
      rw [hfit] at e
      have hjl : j < os.length := og_lt (by rw [ho]; intro h; cases h)
      have hO := I.obj j
      rw [ho] at hO
      by_cases hnew : new = []
      ·subst hnew
       obtain ⟨N2, h4, h5, S2, r2⟩ := InvO.name (lk := lk) I hlk hjl hlj ho
       refine ⟨_, _, _, _, e, ⟨(.s (.one (N.μ j)), N.h), ⟨N2, h4, S2.sim r2⟩, 0, fun n _ => ?_⟩⟩
       show runK r (.append st bytes a b) (C n) N.h = _
       rw [run]
       cases vo with
       | none => rw [show N.μ j = .nils from hO]; rfl
       | some xs => obtain ⟨b', vs, ex, h1, _⟩ := hO; rw [h1]; rfl
      ·have hlock : ∀ j', lk j' = true → og (oset .dead os j) j' = og os j' := fun j' hj' => by rw [og_oset, if_neg (fun e => by rw [e.1, hlj] at hj'; cases hj')]
       cases vo with
       | none =>
        refine fresh (oset .dead os j) [j] ⟨I.turn j .dead (fun e => e) trivial, .refl N, Bk.same rfl, hlock, Ho.oset (o := .dead) (fun h => h.elim) (fun _ => .inr (List.mem_singleton_self j)) (fun h => h.elim)⟩ (oset_len _ _ _) hnew (by rw [show N.μ j = .nils from hO]) (by simpa [lenO] using hfit) e
       | some xs =>
        obtain ⟨b', vs, ex, h1, h2, h3, h4, h5⟩ := hO
        have he : appO (some xs) new = some (xs ++ new) := by
         cases new with
         | nil => exact absurd rfl hnew
         | cons y l => rfl
        have hn0 : Nat.beq new.length 0 = false := by
         cases new with
         | nil => exact absurd rfl hnew
         | cons y l => rfl
        have hcut : cut (Nat.mul xs.length st) vs 0 = some vs := by show cut (xs.length * st) vs 0 = _; rw [← h4]; exact cut_full vs
        rw [he] at e
        cases ex with
        | true =>
         have S1 : Stp E lk N os [j] N (oset .dead os j) := ⟨I.turn j .dead (fun e => e) trivial, .refl N, Bk.same rfl, hlock, Ho.oset (o := .dead) (fun h => h.elim) (fun _ => .inr (List.mem_singleton_self j)) (fun h => h.elim)⟩
         obtain ⟨f1, f2⟩ := flat_get h4 hcl h5 hcs
         obtain ⟨N2, g4, g5, S2, r2⟩ := new_arr (lk := lk) (ex := false) S1.inv (fun j hj => by rw [oset_len]; exact hlk j hj) f1 f2
         rw [oset_len] at r2
         have S := S1.trans S2 rfl
         refine ⟨_, _, _, _, e, ⟨(.s (.one (.slc N.h.n 0 (xs ++ new).length 0 false)), N.h.new (.cells (vs ++ cs) st)), ⟨N2, g4, S.sim r2⟩, 0, fun n _ => ?_⟩⟩
         show runK r (.append st bytes a b) (C n) N.h = _
         rw [run, h1]
         simp only [apRun, hn0, cond_false]
         rw [show fits bytes (Nat.add xs.length new.length) = true from hfit, h3]
         simp only [cond_true, appendAt, hcut]
         have : Nat.ble (Nat.add xs.length new.length) xs.length = false := by
          cases hb : Nat.ble (Nat.add xs.length new.length) xs.length with
          | false => rfl
          | true =>
           have := Nat.le_of_ble_eq_true hb
           have hpos : new.length ≠ 0 := fun h => hnew (List.length_eq_zero_iff.1 h)
           simp only [Nat.add_eq] at this
           omega
         rw [this, cond_false, List.length_append]
         exact newB_eq _ _ _
        | false =>
         have hlv : live (og os j) := by rw [ho]; trivial
         have hbk : blk (N.μ j) = some b' := by rw [h1]; rfl
         obtain ⟨i1, i2, i3⟩ := I.put hlv hbk .dead .dead trivial
         have S1 : Stp E lk N os [j] ⟨N.μ, N.n, N.fz, N.h.put b' .dead⟩ (oset .dead os j) := ⟨i1, i2, Bk.put rfl (by rw [I.len]; exact hjl) hlv hbk, hlock, Ho.oset (o := .dead) (fun h => h.elim) (fun _ => .inr (List.mem_singleton_self j)) (fun h => h.elim)⟩
         obtain ⟨f1, f2⟩ := flat_get (fz := N.fz) (h := N.h.put b' .dead) h4 hcl (fun i y hy => ⟨(h5 i y hy).1, (h5 i y hy).2.mono i2.fg⟩) (fun i y hy => ⟨(hcs i y hy).1, (hcs i y hy).2.mono i2.fg⟩)
         obtain ⟨N2, g4, g5, S2, r2⟩ := new_arr (lk := lk) (ex := false) S1.inv (fun j hj => by rw [oset_len]; exact hlk j hj) f1 f2
         rw [oset_len] at r2
         have S := S1.trans S2 rfl
         refine ⟨_, _, _, _, e, ⟨(.s (.one (.slc N.h.n 0 (xs ++ new).length 0 false)), (N.h.put b' .dead).new (.cells (vs ++ cs) st)), ⟨N2, g4, S.sim r2⟩, 0, fun n _ => ?_⟩⟩
         show runK r (.append st bytes a b) (C n) N.h = _
         rw [run, h1]
         simp only [apRun, hn0, cond_false]
         rw [show fits bytes (Nat.add xs.length new.length) = true from hfit, h3]
         simp only [cond_true, appendAt, hcut]
         rw [cond_false, show (Nat.beq st st && Nat.beq 0 (Nat.mul 0 st)) = true by simp, cond_true, List.length_append]
         exact newB_eq _ _ _
  | _ => rw [ho] at e; cases e
 | _ => cases e
theorem comps_eq : ∀ (p l : List DS) (shs : List (Option Nat)), okT shs l = true → comps (p ++ l) shs p.length = l := by
 have at_ : ∀ (p l : List DS) (d : DS), dsAt (p ++ d :: l) p.length = d := by
  intro p l d
  induction p with
  | nil => rfl
  | cons a p ih => exact ih
 intro p l shs
 induction shs generalizing p l with
 | nil =>
  intro e
  cases l with
  | nil => rfl
  | cons d l => cases e
 | cons s shs ih =>
  intro e
  cases l with
  | nil => cases s <;> cases e
  | cons d l =>
   have step : okT shs l = true → comps (p ++ d :: l) shs (Nat.succ p.length) = l := fun h => by
    have := ih (p ++ [d]) l h
    simpa using this
   cases s with
   | none =>
    cases d with
    | agg ds => cases e
    | one d => simp only [comps, at_, dsO]; rw [step e]
   | some n =>
    cases d with
    | one d => cases e
    | agg ds =>
     simp only [okT, Bool.and_eq_true] at e
     have hn := Nat.eq_of_beq_eq_true e.1
     simp only [comps, at_, dsA]
     rw [step e.2, ← hn, exp_eq]
theorem sh_one {res : Option DA} {K : PA → Option β} (e : b1 res (fun d => K (pd d)) = some x) : ∃ d a, res = some d ∧ K a = some x ∧ ∀ (M : Nm) v, RepA M.fz M.h v d → RepPA M v a := by
 cases res with
 | none => cases e
 | some d =>
  cases d with
  | tup l => cases e
  | s d =>
   cases d with
   | agg l => cases e
   | one d =>
    refine ⟨_, _, rfl, e, fun M v H => ?_⟩
    obtain ⟨w, rfl, hw⟩ := H.inv
    cases w with
    | one c => exact rep_pd hw
    | agg l => exact hw.elim
theorem sh_tup {shs : List (Option Nat)} {res : Option DA} {K : PA → Option β} (e : bT shs res (fun l => K (.tup (comps l shs 0))) = some x) : ∃ d a, res = some d ∧ K a = some x ∧ ∀ (M : Nm) v, RepA M.fz M.h v d → RepPA M v a := by
 cases res with
 | none => cases e
 | some d =>
  cases d with
  | s d => cases e
  | tup l =>
   simp only [bT] at e
   cases ho : okT shs l with
   | false => rw [ho] at e; cases e
   | true =>
    rw [ho] at e
    refine ⟨_, _, rfl, e, fun M v H => ?_⟩
    have hc := comps_eq [] l shs ho
    rw [List.nil_append] at hc
    show RepPA M v (.tup (comps l shs ([] : List DS).length))
    rw [hc]
    cases v with
    | s v => exact H.elim
    | tup vs => exact H
theorem sh_ok {sh : Sh} {res : Option DA} {K : PA → Option β} (e : bSh sh res K = some x) : ∃ d a, res = some d ∧ K a = some x ∧ ∀ (M : Nm) v, RepA M.fz M.h v d → RepPA M v a := by
 cases sh with
 | one => exact sh_one e
 | sc => exact sh_one e
 | tup shs => exact sh_tup e
 | tsc n => exact sh_tup e
 | agg n =>
  cases res with
  | none => cases e
  | some d =>
   cases d with
   | tup l => cases e
   | s d =>
    cases d with
    | one d => cases e
    | agg l =>
     simp only [bSh, bA] at e
     cases hn : Nat.beq l.length n with
     | false => rw [hn] at e; cases e
     | true =>
      rw [hn] at e
      have hn := Nat.eq_of_beq_eq_true hn
      refine ⟨_, _, rfl, e, fun M v H => ?_⟩
      obtain ⟨w, rfl, hw⟩ := H.inv
      cases w with
      | one c => exact hw.elim
      | agg cs =>
       rw [← hn, exp_eq]
       exact RepPA.of (v := .agg cs) (p := .agg _) (RepPL.ofD hw)
 | no =>
  cases res with
  | none => cases e
  | some d => exact ⟨d, .bad, rfl, e, fun M v _ => .bad v⟩
theorem scal_any {fz fz' : BN → Prop} {h h' : AHeap} {c : CVal} {d : DV} (hs : scalD d = true) (H : Rep fz h c d) : Rep fz' h' c d := by
 cases d <;> first | (cases hs; done) | (rw [H.scal rfl]; constructor)
theorem scalS_any {fz fz' : BN → Prop} {h h' : AHeap} : ∀ {cs : List SVal} {ds : List DS}, scalS ds = true → RepSL fz h cs ds → RepSL fz' h' cs ds
 | [], [], _, _ => trivial
 | .one c :: cs, .one d :: ds, hs, H => by
  simp only [scalS, Bool.and_eq_true] at hs
  exact ⟨scal_any hs.1 H.1, scalS_any hs.2 H.2⟩
 | .agg _ :: _, .one _ :: _, _, H => H.1.elim
 | _, .agg _ :: _, hs, _ => by cases hs
 | [], _ :: _, _, H => H.elim
 | _ :: _, [], _, H => H.elim
theorem sh_okS {sh : Sh} {res : Option DA} {K : PA → Option β} (e : bShS sh res K = some x) : ∃ d a, res = some d ∧ K a = some x ∧ ∀ (fz : BN → Prop) (h : AHeap) (M : Nm) v, RepA fz h v d → RepPA M v a := by
 cases sh with
 | sc =>
  cases res with
  | none => cases e
  | some d =>
   cases d with
   | tup l => cases e
   | s d =>
    cases d with
    | agg l => cases e
    | one d =>
     simp only [bShS, b1s] at e
     cases hs : scalD d with
     | false => rw [hs] at e; cases e
     | true =>
      rw [hs] at e
      refine ⟨_, _, rfl, e, fun fz h M v H => ?_⟩
      obtain ⟨w, rfl, hw⟩ := H.inv
      cases w with
      | one c => exact rep_pd (scal_any hs hw)
      | agg l => exact hw.elim
 | tsc n =>
  cases res with
  | none => cases e
  | some d =>
   cases d with
   | s d => cases e
   | tup l =>
    simp only [bShS, bTs] at e
    cases ho : (okT (nones n) l && scalS l) with
    | false => rw [ho] at e; cases e
    | true =>
     rw [ho] at e
     rw [Bool.and_eq_true] at ho
     refine ⟨_, _, rfl, e, fun fz h M v H => ?_⟩
     have hc := comps_eq [] l (nones n) ho.1
     rw [List.nil_append] at hc
     show RepPA M v (.tup (comps l (nones n) ([] : List DS).length))
     rw [hc]
     cases v with
     | s v => exact H.elim
     | tup vs => exact scalS_any ho.2 H
 | _ => cases e
theorem cL_map : ∀ (l : List AVal), (cL l).map (fun x => x .nil) = l
 | [] => rfl
 | v :: l => by
  show constF v .nil :: (cL l).map (fun x => x .nil) = _
  rw [cL_map l]; rfl
theorem caps_args {fz : BN → Prop} {h : AHeap} : ∀ {ps : List (BN × Nat)} {caps : List (List DV)}, RepL fz h (ps.map fun p => .ptr p.1 p.2) (caps.map fun x => .fp x 0) → RepAL fz h (ps.map fun (p : BN × Nat) => AVal.s (.one (.ptr p.1 p.2))) (caps.map fun x => .s (.one (.fp x 0)))
 | [], [], _ => trivial
 | p :: ps, y :: caps, H => ⟨H.inv.1, caps_args H.inv.2⟩
 | [], _ :: _, H => by have := H.1; simp at this
 | _ :: _, [], H => by have := H.1; simp at this
theorem o_call0 {O : Orc} (hO : OrcOk O C) {sh : Sh} (I : InvO E N os) (F : ∀ i, RepPA N (r i) (ρ i)) {f : Operand} {args : List Operand} (e : w1 (pv ρ f) (fun c => bindD (pvs ρ args) fun as => bindD (frA lk os as) fun p => bindD (frC lk frFuel p.1 c) fun q => bSh sh (appF O q.2 p.2) fun a => k a q.1 [] []) = some x) : Goal C E lk N os r (.call f args) k x := by
 have hh := w1_ok F e
 clear e
 obtain ⟨c, v, e, ka, ra, pka⟩ := hh
 obtain ⟨as, h1, e⟩ := bindD_ok e
 obtain ⟨⟨os1, ds⟩, h2, e⟩ := bindD_ok e
 obtain ⟨⟨os2, fv⟩, h3, e⟩ := bindD_ok e
 simp only at h3 e
 obtain ⟨vs, kvs1, rvs⟩ := pvs_ok F h1
 obtain ⟨w, rfl, hw⟩ := pc_inv ra
 obtain ⟨N1, f1, S1, r1⟩ := frA_ok I rvs h2
 obtain ⟨N2, f2, S2, r2⟩ := frC_ok S1.inv (RepPC.mono S1.nx hw) h3
 have S12 := S1.trans S2 f1.n
 have hh2 : N2.h = N.h := f2.h.trans f1.h
 unfold appF at e
 cases fv <;> first | (cases sh <;> cases e) | skip
 rename_i g caps
 simp only at e
 obtain ⟨ps, rfl, hps⟩ := r2.fn_inv
 have harg : RepAL N2.fz N2.h (vs ++ ps.map fun (p : BN × Nat) => AVal.s (.one (.ptr p.1 p.2))) (ds ++ caps.map fun x => .s (.one (.fp x 0))) := RepAL.app (r1.mono S2.nx.fg) (caps_args hps)
 have key : ∀ res, O g (ds ++ caps.map fun x => .s (.one (.fp x 0))) = some res → ∀ a, (∀ (N' : Nm) v, RepA N'.fz N'.h v res → RepPA N' v a) → k a os2 [] [] = some x → Goal C E lk N os r (.call f args) k x := by
  intro res hres a ha hk
  have ev := hO g _ res hres N2.fz N2.h _ S12.inv.hw S12.inv.fzlt harg
  rw [hh2] at ev
  refine ⟨a, os2, [], [], hk, ?_⟩
  have run : ∀ call, runK r (.call f args) call N.h = call (.inl g) (vs ++ ps.map fun (p : BN × Nat) => AVal.s (.one (.ptr p.1 p.2))) N.h := fun call => by
   simp only [runK, ka, kvs1, bind1]
   show call (.inl g) ((cL vs).map (fun x => x .nil) ++ ps.map fun (p : BN × Nat) => AVal.s (.one (.ptr p.1 p.2))) N.h = _
   rw [cL_map]
  obtain ⟨p, ⟨q1, q2, q3⟩, M, hM⟩ := ev
  refine ⟨p, ?_, M, fun n hn => (run (C n)).trans (hM n hn)⟩
  have G : Gr N2.h p.2 := by rw [hh2]; exact q2
  obtain ⟨i1, i2⟩ := S12.inv.grow q1 G
  refine ⟨_, rfl, ⟨i1, S12.nx.trans i2, Bk.gr q2, S12.lock, S12.ho, ?_⟩⟩
  ·refine ha _ _ ?_
   refine q3.mono ⟨fun b o hb ho => hb.imp id fun h => ⟨?_, o, ho⟩, fun _ _ _ h => h⟩
   rw [hh2]
   exact h.1
 obtain ⟨res, a, hres, hk, ha⟩ := sh_ok e
 exact key res hres a ha hk
theorem o_lend {O : Orc} (hO : OrcOk O C) {sh : Sh} (I : InvO E N os) (F : ∀ i, RepPA N (r i) (ρ i)) {f : Operand} {args : List Operand} (e : w1 (pv ρ f) (fun c => bindD (pvs ρ args) fun as => bindD (frA (fun _ => false) os as) fun p => bindD (frC (fun _ => false) frFuel p.1 c) fun q => bShS sh (appF O q.2 p.2) fun a => k a os [] []) = some x) : Goal C E lk N os r (.call f args) k x := by
 have hh := w1_ok F e
 clear e
 obtain ⟨c, v, e, ka, ra, pka⟩ := hh
 obtain ⟨as, h1, e⟩ := bindD_ok e
 obtain ⟨⟨os1, ds⟩, h2, e⟩ := bindD_ok e
 obtain ⟨⟨os2, fv⟩, h3, e⟩ := bindD_ok e
 simp only at h3 e
 obtain ⟨vs, kvs1, rvs⟩ := pvs_ok F h1
 obtain ⟨w, rfl, hw⟩ := pc_inv ra
 obtain ⟨N1, f1, S1, r1⟩ := frA_ok I rvs h2
 obtain ⟨N2, f2, S2, r2⟩ := frC_ok S1.inv (RepPC.mono S1.nx hw) h3
 have S12 := S1.trans S2 f1.n
 have hh2 : N2.h = N.h := f2.h.trans f1.h
 unfold appF at e
 cases fv <;> first | (cases sh <;> cases e) | skip
 rename_i g caps
 simp only at e
 obtain ⟨ps, rfl, hps⟩ := r2.fn_inv
 have harg : RepAL N2.fz N2.h (vs ++ ps.map fun (p : BN × Nat) => AVal.s (.one (.ptr p.1 p.2))) (ds ++ caps.map fun x => .s (.one (.fp x 0))) := RepAL.app (r1.mono S2.nx.fg) (caps_args hps)
 have key : ∀ res, O g (ds ++ caps.map fun x => .s (.one (.fp x 0))) = some res → ∀ a, (∀ (fz : BN → Prop) (h : AHeap) (N' : Nm) v, RepA fz h v res → RepPA N' v a) → k a os [] [] = some x → Goal C E lk N os r (.call f args) k x := by
  intro res hres a ha hk
  have ev := hO g _ res hres N2.fz N2.h _ S12.inv.hw S12.inv.fzlt harg
  rw [hh2] at ev
  refine ⟨a, os, [], [], hk, ?_⟩
  have run : ∀ call, runK r (.call f args) call N.h = call (.inl g) (vs ++ ps.map fun (p : BN × Nat) => AVal.s (.one (.ptr p.1 p.2))) N.h := fun call => by
   simp only [runK, ka, kvs1, bind1]
   show call (.inl g) ((cL vs).map (fun x => x .nil) ++ ps.map fun (p : BN × Nat) => AVal.s (.one (.ptr p.1 p.2))) N.h = _
   rw [cL_map]
  obtain ⟨p, ⟨q1, q2, q3⟩, M, hM⟩ := ev
  refine ⟨p, ?_, M, fun n hn => (run (C n)).trans (hM n hn)⟩
  obtain ⟨i1, i2⟩ := I.grow q1 q2
  exact ⟨_, rfl, ⟨i1, i2, Bk.gr q2, fun _ _ => rfl, .refl _ _ _, ha _ _ _ _ q3⟩⟩
 obtain ⟨res, a, hres, hk, ha⟩ := sh_okS e
 exact key res hres a ha hk
theorem o_call {O : Orc} (hO : OrcOk O C) {sh : Sh} (I : InvO E N os) (F : ∀ i, RepPA N (r i) (ρ i)) {f : Operand} {args : List Operand} (e : w1 (pv ρ f) (fun c => bindD (pvs ρ args) fun as => bif scSh sh && (tchC os c || tchA os as) then bindD (frA (fun _ => false) os as) (fun p => bindD (frC (fun _ => false) frFuel p.1 c) fun q => bShS sh (appF O q.2 p.2) fun a => k a os [] []) else bindD (frA lk os as) fun p => bindD (frC lk frFuel p.1 c) fun q => bSh sh (appF O q.2 p.2) fun a => k a q.1 [] []) = some x) : Goal C E lk N os r (.call f args) k x := by
 have hh := w1_ok F e
 obtain ⟨c, v, e', ka, ra, pka⟩ := hh
 obtain ⟨as, h1, e'⟩ := bindD_ok e'
 cases hb : (scSh sh && (tchC os c || tchA os as)) with
 | false =>
  rw [hb] at e'
  exact o_call0 hO I F (f := f) (args := args) (sh := sh) (by rw [pka, h1]; exact e')
 | true =>
  rw [hb] at e'
  exact o_lend hO I F (f := f) (args := args) (sh := sh) (by rw [pka, h1]; exact e')
theorem o_mkslice (I : InvO E N os) (F : ∀ i, RepPA N (r i) (ρ i)) (hlk : ∀ j, lk j = true → j < os.length) {st bytes : Nat} {zs : List CVal} {a b : Operand}
  (e : wd (pv ρ a) (fun l => wd (pv ρ b) fun c => bindD (mkN bytes l c) fun n => bindD (cDs zs) fun ps => bindD (allD ps) fun ds => bif Nat.beq zs.length st then k (pc (.own os.length)) (os ++ [.arr st (some (List.replicate n ds))]) [] [] else none) = some x) : Goal C E lk N os r (.mkslice st zs bytes a b) k x := by
 have hh := wd_ok F e
 clear e
 obtain ⟨l, w, e, ka, ra⟩ := hh
 have hh := wd_ok F e
 clear e
 obtain ⟨c, w2, e, kb, rb⟩ := hh
 have hh := bindD_ok e
 clear e
 obtain ⟨n, hn, e⟩ := hh
 have hh := bindD_ok e
 clear e
 obtain ⟨ps, hp, e⟩ := hh
 have hh := bindD_ok e
 clear e
 obtain ⟨ds, hd, e⟩ := hh
 have hz : RepL N.fz N.h zs ds := allD_ok hd (cDs_ok (N := N) hp)
 cases hst : Nat.beq zs.length st with
 | false => rw [hst] at e; cases e
 | true =>
 rw [hst, cond_true] at e
 have hst := Nat.eq_of_beq_eq_true hst
 unfold mkN at hn
 split at hn
 ·rename_i kl m kc q
  cases hb : (Nat.beq m q && Nat.ble q 1073741824 && Nat.ble (bytes * q) 281474976710656) with
  | false => rw [hb] at hn; cases hn
  | true =>
   rw [hb] at hn
   cases hn
   rw [Bool.and_eq_true, Bool.and_eq_true] at hb
   obtain ⟨⟨h1, h2⟩, h3⟩ := hb
   have h1 : q = n := (Nat.eq_of_beq_eq_true h1).symm
   rw [h1] at rb h2 h3
   have ew := pd_scal ra (c := .int kl (.ofNat n)) rfl
   have ew2 := pd_scal rb (c := .int kc (.ofNat n)) rfl
   subst ew ew2
   subst hst
   obtain ⟨N2, h4, h5, S2, r2⟩ := new_arr (lk := lk) (ex := true) I hlk (st := zs.length) (vs := repl zs n) (xs := List.replicate n ds) (by rw [repl_len, List.length_replicate]) fun i y hy => by
    have hi : i < n := by have := (List.getElem?_eq_some_iff.1 hy).1; simpa using this
    rw [List.getElem?_replicate, if_pos hi] at hy
    cases hy
    exact ⟨hz.1.symm, by rw [repl_get zs n i hi]; exact hz⟩
   refine ⟨_, _, _, _, e, ⟨(.s (.one (.slc N.h.n 0 n n true)), N.h.new (.cells (repl zs n) zs.length)), ⟨N2, h4, ?_⟩, 0, fun _ _ => ?_⟩⟩
   ·rw [List.length_replicate] at r2
    exact S2.sim r2
   ·show runK r (.mkslice zs.length zs bytes a b) (C _) N.h = _
    simp only [runK, ka, kb, bind1]
    show (bif Nat.ble n n && Nat.ble n 1073741824 && Nat.ble (bytes * n) 281474976710656 then newB N.h (.cells (repl zs n) zs.length) (fun b => .slc b 0 n n true) else none) = _
    rw [Nat.ble_eq_true_of_le (Nat.le_refl n), h2, h3]
    show newB N.h (.cells (repl zs n) zs.length) (fun b => .slc b 0 n n true) = _
    exact newB_eq _ _ _
 ·cases hn
theorem o_s2b (I : InvO E N os) (F : ∀ i, RepPA N (r i) (ρ i)) {a : Operand} (e : wd (pv ρ a) (fun v => bindD (pS2b v) fun z => k (pd z) os [] []) = some x) : Goal C E lk N os r (.s2b a) k x := by
 have hh := wd_ok F e
 clear e
 obtain ⟨v, w, e, ka, ra⟩ := hh
 have hh := bindD_ok e
 clear e
 obtain ⟨z, hz, e⟩ := hh
 unfold pS2b at hz
 split at hz
 ·rename_i s
  cases hz
  have ew := pd_scal ra (c := .str s) rfl
  subst ew
  have hw := I.hw.new (.ro none (getAt (bytesOf s)))
  have G := Gr.new N.h (.ro none (getAt (bytesOf s)))
  obtain ⟨i1, i2⟩ := I.grow hw G
  have hget : (N.h.new (.ro none (getAt (bytesOf s)))).t.get N.h.n = some (.ro none (getAt (bytesOf s))) := by simp only [AHeap.new]; exact get_set_same _ _ _
  refine ⟨_, _, _, _, e, ⟨(.s (.one (.slc N.h.n 0 s.size 0 false)), N.h.new (.ro none (getAt (bytesOf s)))), ⟨_, rfl, ⟨i1, i2, Bk.gr G, fun _ _ => rfl, .refl _ _ _, ?_⟩⟩, 0, fun n _ => ?_⟩⟩
  ·refine rep_pd ?_
   have hl : s.size = (s.data.toList.map fun c => ([.int .u8 (.ofNat c.toNat)] : List DV)).length := by
    rw [List.length_map]; exact (Array.length_toList (xs := s.data)).symm
   rw [hl]
   have hlen : (bytesOf s).length = s.data.toList.length := by unfold bytesOf; rw [List.length_map]
   refine Rep.lst (o := .ro none (getAt (bytesOf s))) (bytesOf s) (.inr ⟨Nat.le_refl _, _, hget⟩) hget (fun h => by cases h) ?_ (fun i y hy => ?_) (fun i y j c d hy hc hd => ?_)
   ·refine cutF_of (by rw [hlen, List.length_map, Nat.mul_one]) fun j c hj => ?_
    rw [Nat.zero_add, getAt_eq]; exact hj
   ·rw [List.getElem?_map, Option.map_eq_some_iff] at hy
    obtain ⟨q, _, rfl⟩ := hy
    rfl
   ·rw [List.getElem?_map, Option.map_eq_some_iff] at hy
    obtain ⟨q, hq, rfl⟩ := hy
    cases j with
    | succ j => simp at hd
    | zero =>
     simp only [List.getElem?_cons_zero, Option.some.injEq] at hd
     subst hd
     rw [Nat.mul_one, Nat.add_zero] at hc
     unfold bytesOf at hc
     rw [List.getElem?_map, hq] at hc
     cases hc
     exact .int _ _
  ·show runK r (.s2b a) (C n) N.h = _
   simp only [runK, ka, bind1]
   show newB N.h (.ro none (getAt (bytesOf s))) (fun b => .slc b 0 s.size 0 false) = _
   exact newB_eq _ _ _
 ·cases hz
theorem pOp_ok {O : Orc} (hO : OrcOk O C) {sh : Sh} (I : InvO E N os) (F : ∀ i, RepPA N (r i) (ρ i)) (hlk : ∀ j, lk j = true → j < os.length) {ko : KOp} (e : pOp O lk sh ρ os ko k = some x) : Goal C E lk N os r ko k x := by
 cases ko with
 | mv a => exact (o_mv I F e).goal I
 | pick c a b => exact (o_pick I F e).goal I
 | alloc zs => exact o_alloc I hlk e
 | box a => exact o_box I F hlk e
 | build zs parts => exact (o_build I F e).goal I
 | bslice st len zs parts => exact o_bslice I F hlk e
 | load n a => exact (o_load I F e).goal I
 | store n a b => exact o_store I F e
 | nilck a => exact (o_nilck I F e).goal I
 | bin op a b => exact (o_bin I F e).goal I
 | shift l a b => exact (o_shift I F e).goal I
 | str op a b => exact (o_str I F e).goal I
 | nilS neg a b => exact (o_nilS I F e).goal I
 | eq q neg a b => exact (o_eq I F e).goal I
 | not a => exact (o_not I F e).goal I
 | neg a => exact (o_neg I F e).goal I
 | conv t a => exact (o_conv I F e).goal I
 | b2s a => exact (o_b2s I F e).goal I
 | mkfn f caps => exact (o_mkfn I F e).goal I
 | slice st a lo hi mx => exact (o_slice I F e).goal I
 | clear st zs a => exact o_clear I F e
 | sslice a lo hi => exact (o_sslice I F e).goal I
 | foff a off => exact (o_foff I F e).goal I
 | field a off n => exact (o_field I F e).goal I
 | ixs st a i => exact (o_ixs I F e).goal I
 | ixarr len st a i => exact (o_ixarr I F e).goal I
 | ixagg len st n a i => exact (o_ixagg I F e).goal I
 | ixstr a i => exact (o_ixstr I F e).goal I
 | extract a i => exact (o_extract I F e).goal I
 | lenS a => exact (o_lenS I F e).goal I
 | lenL a => exact (o_lenL I F e).goal I
 | append st bytes s a => exact o_append I F hlk e
 | minmax m a xs => exact (o_minmax I F e).goal I
 | mkslice st zs bytes a b => exact o_mkslice I F hlk e
 | s2b a => exact o_s2b I F e
 | call f args => exact o_call hO I F e
 | mkmap st => exact o_mkmap I hlk e
 | lookup q z ok a b => exact o_lookup I F e
 | mupd q a b c => exact o_mupd I F e
 | lenM a => exact o_lenM I F e
end
end Go.PE
end
section
namespace Go.PE
open Go Go.CE
inductive Pl where
 | slot (i : Nat)
 | cell (k j : Nat)
def eqPl : Pl → Pl → Bool
 | .slot i, .slot j => Nat.beq i j
 | .cell k i, .cell l j => Nat.beq k l && Nat.beq i j
 | _, _ => false
theorem eqPl_eq {a b : Pl} (h : eqPl a b = true) : a = b := by
 cases a <;> cases b <;> simp only [eqPl] at h
 ·rw [Nat.eq_of_beq_eq_true h]
 ·cases h
 ·cases h
 ·rw [Bool.and_eq_true] at h
  rw [Nat.eq_of_beq_eq_true h.1, Nat.eq_of_beq_eq_true h.2]
def idxP (x : Pl) : List Pl → Nat → Option Nat
 | [], _ => none
 | y :: l, i => bif eqPl x y then some i else idxP x l (Nat.succ i)
theorem idxP_ok {x : Pl} : ∀ {l : List Pl} {i p : Nat}, idxP x l i = some p → ∃ q, p = i + q ∧ l[q]? = some x
 | [], i, p, e => by cases e
 | y :: l, i, p, e => by
  simp only [idxP] at e
  cases hb : eqPl x y with
  | true => rw [hb] at e; cases e; exact ⟨0, rfl, by rw [eqPl_eq hb]; rfl⟩
  | false =>
   rw [hb] at e
   obtain ⟨q, h1, h2⟩ := idxP_ok e
   exact ⟨q + 1, by omega, by simpa using h2⟩
structure LA where
 data : List Pl
 own : List (Pl × Nat)
 boxes : List (Nat × Nat)
 arrs : List (Nat × Nat)
 xdata : List Pl
 xown : List (Pl × Nat)
 rdata : List Pl
 rown : List (Pl × Nat)
 frz : List Nat
def selD (la : LA) : RExit → List Pl
 | .normal => la.data
 | .exit _ => la.xdata
 | .ret => la.rdata
def selO (la : LA) : RExit → List (Pl × Nat)
 | .normal => la.own
 | .exit _ => la.xown
 | .ret => la.rown
def nthD : List DV → Nat → DV
 | [], _ => .u
 | d :: l, i => bif Nat.beq i 0 then d else nthD l (Nat.sub i 1)
def nthM : List OC → Nat → OC
 | [], _ => none
 | d :: l, i => bif Nat.beq i 0 then d else nthM l (Nat.sub i 1)
theorem nthD_eq : ∀ (l : List DV) (i : Nat), nthD l i = (l[i]?).getD .u
 | [], i => by simp [nthD]
 | d :: l, 0 => by simp [nthD]
 | d :: l, i + 1 => by
  have := nthD_eq l i
  show nthD l i = _
  rw [this]; simp
theorem nthM_eq : ∀ (l : List OC) (i : Nat), nthM l i = (l[i]?).getD none
 | [], i => by simp [nthM]
 | d :: l, 0 => by simp [nthM]
 | d :: l, i + 1 => by
  have := nthM_eq l i
  show nthM l i = _
  rw [this]; simp
def getP (ρ : Nat → PA) (os : List PO) : Pl → Option PC
 | .slot i => match ρ i with | .s (.one c) => some c | _ => none
 | .cell k j => match og os k with | .box cs => cs[j]? | _ => none
def isMp (st : Nat) : Bool := Nat.ble 1048576 st
def mkO (st : Nat) (v : OC) : PO := bif isMp st then .mp st (elemsO v) else .arr st v
theorem mkO_arr {st : Nat} {v : OC} (h : isMp st = false) : mkO st v = .arr st v := by simp only [mkO, h, cond_false]
theorem mkO_mp {st : Nat} {v : OC} (h : isMp st = true) : mkO st v = .mp st (elemsO v) := by simp only [mkO, h, cond_true]
def vecD (lk : Nat → Bool) (ρ : Nat → PA) : List Pl → List PO → Option (List PO × List DV)
 | [], os => some (os, [])
 | p :: l, os =>
  match getP ρ os p with
  | some c =>
   match frC lk frFuel os c with
   | some (os', d) =>
    match vecD lk ρ l os' with
    | some (os'', ds) => some (os'', d :: ds)
    | none => none
   | none => none
  | none => none
def srcO (os : List PO) (st : Nat) : PC → Option (OC × Option Nat)
 | .own m =>
  match og os m with
  | .arr st' v => bif Nat.beq st st' && !isMp st then some (v, some m) else none
  | .mp st' xs => bif Nat.beq st st' && isMp st then some (some xs, some m) else none
  | _ => none
 | .d .nils => bif isMp st then none else some (none, none)
 | _ => none
def vecO (ρ : Nat → PA) (os : List PO) : List (Pl × Nat) → Option (List OC × List (Option Nat))
 | [] => some ([], [])
 | (p, st) :: l =>
  match getP ρ os p with
  | some c =>
   match srcO os st c with
   | some (v, m) =>
    match vecO ρ os l with
    | some (vs, ms) => some (v :: vs, m :: ms)
    | none => none
   | none => none
  | none => none
def vecA (os : List PO) : List (Nat × Nat) → Option (List OC)
 | [] => some []
 | (k, st) :: l =>
  match og os k with
  | .arr st' v => bif Nat.beq st st' && !isMp st then (match vecA os l with | some vs => some (v :: vs) | none => none) else none
  | .mp st' xs => bif Nat.beq st st' && isMp st then (match vecA os l with | some vs => some (some xs :: vs) | none => none) else none
  | _ => none
def boxesOk (os : List PO) : List (Nat × Nat) → Bool
 | [] => true
 | (k, n) :: l => (match og os k with | .box cs => Nat.beq cs.length n | _ => false) && boxesOk os l
def srcOk (okm : Nat → Bool) : List (Option Nat) → Bool
 | [] => true
 | none :: l => srcOk okm l
 | some m :: l => okm m && !(l.any fun x => match x with | some m' => Nat.beq m m' | none => false) && srcOk okm l
def frAll (lk : Nat → Bool) : List Nat → List PO → Option (List PO)
 | [], os => some os
 | k :: l, os =>
  match frC lk frFuel os (match og os k with | .box _ => .ptr k 0 | _ => .own k) with
  | some (os', _) => frAll lk l os'
  | none => none
def vec (lk : Nat → Bool) (okm : Nat → Bool) (la : LA) (x : RExit) (ρ : Nat → PA) (os : List PO) : Option (List PO × List DV × List OC × List (Option Nat)) :=
 match vecD lk ρ (selD la x) os with
 | some (os1, ds) =>
  match vecO ρ os1 (selO la x), vecA os1 la.arrs with
  | some (vs, ms), some ws => bif boxesOk os1 la.boxes && srcOk okm ms then some (os1, ds, vs ++ ws, ms) else none
  | _, _ => none
 | none => none
def plP (D : List Pl) (Ow : List (Pl × Nat)) (L : List DV) (n0 : Nat) (p : Pl) : Option PC :=
 match idxP p D 0 with
 | some i => some (.d (nthD L i))
 | none => match idxP p (Ow.map (·.1)) 0 with | some i => some (.own (n0 + i)) | none => none
def hFr (D : List Pl) (Ow : List (Pl × Nat)) (W : List Nat) (ρ : Nat → PA) (n0 : Nat) (L : List DV) : Nat → PA := fun i =>
 match plP D Ow L n0 (.slot i) with
 | some c => pc c
 | none => bif memB i W then .bad else ρ i
def hCells (D : List Pl) (Ow : List (Pl × Nat)) (L : List DV) (n0 k : Nat) : Nat → Nat → List PC
 | 0, _ => []
 | n + 1, j => (match plP D Ow L n0 (.cell k j) with | some c => c | none => .d .u) :: hCells D Ow L n0 k n (Nat.succ j)
def hBoxes (D : List Pl) (Ow : List (Pl × Nat)) (L : List DV) (n0 : Nat) : List (Nat × Nat) → List PO → List PO
 | [], os => os
 | (k, n) :: l, os => hBoxes D Ow L n0 l (oset (.box (hCells D Ow L n0 k n 0)) os k)
def hArrs (M : List OC) : List (Nat × Nat) → Nat → List PO → List PO
 | [], _, os => os
 | (k, st) :: l, i, os => hArrs M l (Nat.succ i) (oset (mkO st (nthM M i)) os k)
def hOwn (M : List OC) : List (Pl × Nat) → Nat → List PO
 | [], _ => []
 | (_, st) :: l, i => mkO st (nthM M i) :: hOwn M l (Nat.succ i)
def hOs (D : List Pl) (Ow : List (Pl × Nat)) (la : LA) (B : List PO) (n0 : Nat) (L : List DV) (M : List OC) : List PO :=
 hArrs M la.arrs Ow.length (hBoxes D Ow L n0 la.boxes B) ++ hOwn M Ow 0
def listed (la : LA) (k : Nat) : Bool := (la.boxes.any fun x => Nat.beq k x.1) || (la.arrs.any fun x => Nat.beq k x.1)
def kill : List (Option Nat) → List PO → List PO
 | [], os => os
 | none :: l, os => kill l os
 | some m :: l, os => kill l (oset .dead os m)
section
variable {E : En} {lk : Nat → Bool}
def cvAt (N : Nm) (r : Fr) : Pl → CVal → Prop
 | .slot i, c => r i = .s (.one c)
 | .cell k j, c => ∃ b vs, N.μ k = .ptr b 0 ∧ N.h.t.get b = some (.cells vs 0) ∧ vs[j]? = some c
theorem cvAt.fz {N N' : Nm} (f : Fz N N') {r : Fr} {p : Pl} {c : CVal} (H : cvAt N r p c) : cvAt N' r p c := by
 cases p with
 | slot i => exact H
 | cell k j => obtain ⟨b, vs, h1, h2, h3⟩ := H; exact ⟨b, vs, by rw [f.μ]; exact h1, by rw [f.h]; exact h2, h3⟩
theorem getP_ok {N : Nm} {os : List PO} {r : Fr} {ρ : Nat → PA} (I : InvO E N os) (F : ∀ i, RepPA N (r i) (ρ i)) {p : Pl} {c : PC} (e : getP ρ os p = some c) : ∃ v, cvAt N r p v ∧ RepPC N v c := by
 cases p with
 | slot i =>
  simp only [getP] at e
  split at e
  ·rename_i c' h
   cases e
   have := F i
   rw [h] at this
   obtain ⟨w, h1, h2⟩ := pc_inv this
   exact ⟨w, h1, h2⟩
  ·cases e
 | cell k j =>
  simp only [getP] at e
  cases ho : og os k with
  | box cs =>
   rw [ho] at e
   obtain ⟨b, vs, h1, h2, h3, h4⟩ := box_get I ho
   have hj := (List.getElem?_eq_some_iff.1 e).1
   have hl := h4.len
   obtain ⟨v, hv⟩ : ∃ v, vs[j]? = some v := ⟨_, List.getElem?_eq_getElem (by omega)⟩
   exact ⟨v, ⟨b, vs, h1, h3, hv⟩, h4.get hv e⟩
  | _ => rw [ho] at e; cases e
theorem frAll_ok : ∀ {l : List Nat} {os os' : List PO} {N : Nm}, InvO E N os → frAll lk l os = some os' → ∃ N', Fz N N' ∧ Stp E lk N os [] N' os'
 | [], os, os', N, I, e => by cases e; exact ⟨N, .refl N, .refl I⟩
 | k :: l, os, os', N, I, e => by
  simp only [frAll] at e
  have key : ∀ p, (∀ os1 d, frC lk frFuel os p = some (os1, d) → ∃ c, RepPC N c p) → (match frC lk frFuel os p with | some (os', _) => frAll lk l os' | none => none) = some os' → ∃ N', Fz N N' ∧ Stp E lk N os [] N' os' := by
   intro p hp e
   cases h : frC lk frFuel os p with
   | none => rw [h] at e; cases e
   | some q =>
    obtain ⟨os1, d⟩ := q
    rw [h] at e
    obtain ⟨c, hc⟩ := hp os1 d h
    obtain ⟨N1, f1, s1, _⟩ := frC_ok I hc h
    obtain ⟨N2, f2, s2⟩ := frAll_ok s1.inv e
    exact ⟨N2, f1.trans f2, s1.trans s2 f1.n⟩
  have lt : og os k ≠ .dead → k < N.n := fun h => by rw [I.len]; exact og_lt h
  cases ho : og os k with
  | box cs =>
   rw [ho] at e
   obtain ⟨b, vs, h1, _⟩ := box_get I ho
   exact key (.ptr k 0) (fun _ _ _ => ⟨.ptr b 0, lt (by rw [ho]; intro h; cases h), b, h1, rfl⟩) e
  | arr st v => rw [ho] at e; exact key (.own k) (fun _ _ _ => ⟨N.μ k, lt (by rw [ho]; intro h; cases h), rfl⟩) e
  | frz v => rw [ho] at e; exact key (.own k) (fun _ _ _ => ⟨N.μ k, lt (by rw [ho]; intro h; cases h), rfl⟩) e
  | mp st xs =>
   rw [ho] at e
   refine key (.own k) (fun os1 d h => ?_) e
   have : frC lk frFuel os (.own k) = none := by
    rw [show frFuel = 99 + 1 from rfl]
    simp only [frC, ho]
   rw [this] at h; cases h
  | fbox ds => rw [ho] at e; exact key (.own k) (fun _ _ _ => ⟨N.μ k, lt (by rw [ho]; intro h; cases h), rfl⟩) e
  | dead =>
   rw [ho] at e
   refine key (.own k) (fun os1 d h => ?_) e
   have : frC lk frFuel os (.own k) = none := by
    rw [show frFuel = 99 + 1 from rfl]
    simp only [frC, ho]
   rw [this] at h; cases h
theorem vecD_ok {r : Fr} {ρ : Nat → PA} : ∀ {D : List Pl} {N : Nm} {os os1 : List PO} {ds : List DV}, InvO E N os → (∀ i, RepPA N (r i) (ρ i)) → vecD lk ρ D os = some (os1, ds) →
  ∃ N1, Fz N N1 ∧ Stp E lk N os [] N1 os1 ∧ ds.length = D.length ∧ ∀ (i : Nat) (p : Pl) (d : DV), D[i]? = some p → ds[i]? = some d → ∃ c, cvAt N1 r p c ∧ Rep N1.fz N1.h c d
 | [], N, os, os1, ds, I, F, e => by cases e; exact ⟨N, .refl N, .refl I, rfl, fun i p d h => by simp at h⟩
 | p :: D, N, os, os1, ds, I, F, e => by
  simp only [vecD] at e
  cases h1 : getP ρ os p with
  | none => rw [h1] at e; cases e
  | some c =>
   rw [h1] at e
   simp only at e
   cases h2 : frC lk frFuel os c with
   | none => rw [h2] at e; cases e
   | some q =>
    obtain ⟨o1, d⟩ := q
    rw [h2] at e
    simp only at e
    cases h3 : vecD lk ρ D o1 with
    | none => rw [h3] at e; cases e
    | some q =>
     obtain ⟨o2, ds2⟩ := q
     rw [h3] at e; cases e
     obtain ⟨v, k1, k2⟩ := getP_ok I F h1
     obtain ⟨N1, f1, s1, r1⟩ := frC_ok I k2 h2
     obtain ⟨N2, f2, s2, l2, r2⟩ := vecD_ok s1.inv (fun i => (F i).mono s1.nx) h3
     refine ⟨N2, f1.trans f2, s1.trans s2 f1.n, by simp [l2], fun i p' d' hp hd => ?_⟩
     cases i with
     | zero => simp only [List.getElem?_cons_zero, Option.some.injEq] at hp hd; subst hp; subst hd; exact ⟨v, (k1.fz f1).fz f2, r1.mono s2.nx.fg⟩
     | succ i => exact r2 i p' d' (by simpa using hp) (by simpa using hd)
theorem vecO_ok {N : Nm} {os : List PO} {r : Fr} {ρ : Nat → PA} (I : InvO E N os) (F : ∀ i, RepPA N (r i) (ρ i)) : ∀ {Ow : List (Pl × Nat)} {vs : List OC} {ms : List (Option Nat)}, vecO ρ os Ow = some (vs, ms) →
  vs.length = Ow.length ∧ ms.length = Ow.length ∧ ∀ (i : Nat) (p : Pl) (st : Nat), Ow[i]? = some (p, st) → ∃ v m c, vs[i]? = some v ∧ ms[i]? = some m ∧ cvAt N r p c ∧ ((m = none ∧ v = none ∧ c = .nils ∧ isMp st = false) ∨ ∃ q, m = some q ∧ og os q = mkO st v ∧ c = N.μ q ∧ q < N.n)
 | [], vs, ms, e => by cases e; exact ⟨rfl, rfl, fun i p st h => by simp at h⟩
 | (p, st) :: Ow, vs, ms, e => by
  simp only [vecO] at e
  cases h1 : getP ρ os p with
  | none => rw [h1] at e; cases e
  | some c =>
   rw [h1] at e
   simp only at e
   cases h2 : srcO os st c with
   | none => rw [h2] at e; cases e
   | some q =>
    obtain ⟨v, m⟩ := q
    rw [h2] at e
    simp only at e
    cases h3 : vecO ρ os Ow with
    | none => rw [h3] at e; cases e
    | some q =>
     obtain ⟨vs2, ms2⟩ := q
     rw [h3] at e; cases e
     obtain ⟨w, k1, k2⟩ := getP_ok I F h1
     obtain ⟨l1, l2, H⟩ := vecO_ok I F h3
     refine ⟨by simp [l1], by simp [l2], fun i p' st' hp => ?_⟩
     cases i with
     | zero =>
      simp only [List.getElem?_cons_zero, Option.some.injEq, Prod.mk.injEq] at hp
      obtain ⟨rfl, rfl⟩ := hp
      refine ⟨v, m, w, rfl, rfl, k1, ?_⟩
      cases c with
      | d dv =>
       cases dv with
       | nils =>
        have h2' : (bif isMp st then none else some ((none : OC), (none : Option Nat))) = some (v, m) := h2
        cases hm : isMp st with
        | true => rw [hm] at h2'; cases h2'
        | false =>
         rw [hm] at h2'
         cases h2'
         exact .inl ⟨rfl, rfl, Rep.scal k2 rfl, rfl⟩
       | _ => cases h2
      | own q =>
       simp only [srcO] at h2
       cases ho : og os q with
       | arr st' v' =>
        rw [ho] at h2
        simp only at h2
        cases hs : (Nat.beq st st' && !isMp st) with
        | false => rw [hs] at h2; cases h2
        | true =>
         rw [hs] at h2
         cases h2
         simp only [Bool.and_eq_true, Bool.not_eq_true'] at hs
         have he := Nat.eq_of_beq_eq_true hs.1
         subst he
         exact .inr ⟨q, rfl, by rw [mkO_arr hs.2]; exact ho, k2.2, k2.1⟩
       | mp st' xs =>
        rw [ho] at h2
        simp only at h2
        cases hs : (Nat.beq st st' && isMp st) with
        | false => rw [hs] at h2; cases h2
        | true =>
         rw [hs] at h2
         cases h2
         rw [Bool.and_eq_true] at hs
         have he := Nat.eq_of_beq_eq_true hs.1
         subst he
         exact .inr ⟨q, rfl, by rw [mkO_mp hs.2]; exact ho, k2.2, k2.1⟩
       | _ => rw [ho] at h2; cases h2
      | _ => cases h2
     | succ i =>
      obtain ⟨v', m', c', a1, a2, a3⟩ := H i p' st' (by simpa using hp)
      exact ⟨v', m', c', by simpa using a1, by simpa using a2, a3⟩
theorem vecA_ok {os : List PO} : ∀ {l : List (Nat × Nat)} {ws : List OC}, vecA os l = some ws → ws.length = l.length ∧ ∀ (i k st : Nat), l[i]? = some (k, st) → ∃ v, ws[i]? = some v ∧ og os k = mkO st v
 | [], ws, e => by cases e; exact ⟨rfl, fun i k st h => by simp at h⟩
 | (k, st) :: l, ws, e => by
  simp only [vecA] at e
  have key : ∀ v, og os k = mkO st v → (match vecA os l with | some vs => some (v :: vs) | none => none) = some ws → ws.length = ((k, st) :: l).length ∧ ∀ (i k' st' : Nat), ((k, st) :: l)[i]? = some (k', st') → ∃ v, ws[i]? = some v ∧ og os k' = mkO st' v := by
   intro v ho e
   cases h2 : vecA os l with
   | none => rw [h2] at e; cases e
   | some vs =>
    rw [h2] at e; cases e
    obtain ⟨a, b⟩ := vecA_ok h2
    refine ⟨by simp [a], fun i k' st' h => ?_⟩
    cases i with
    | zero =>
     simp only [List.getElem?_cons_zero, Option.some.injEq, Prod.mk.injEq] at h
     obtain ⟨rfl, rfl⟩ := h
     exact ⟨v, rfl, ho⟩
    | succ i => obtain ⟨v', b1, b2⟩ := b i k' st' (by simpa using h); exact ⟨v', by simpa using b1, b2⟩
  cases ho : og os k with
  | arr st' v =>
   rw [ho] at e
   simp only at e
   cases hs : (Nat.beq st st' && !isMp st) with
   | false => rw [hs] at e; cases e
   | true =>
    rw [hs] at e
    simp only [Bool.and_eq_true, Bool.not_eq_true'] at hs
    have he := Nat.eq_of_beq_eq_true hs.1
    subst he
    exact key v (by rw [mkO_arr hs.2]; exact ho) e
  | mp st' xs =>
   rw [ho] at e
   simp only at e
   cases hs : (Nat.beq st st' && isMp st) with
   | false => rw [hs] at e; cases e
   | true =>
    rw [hs] at e
    rw [Bool.and_eq_true] at hs
    have he := Nat.eq_of_beq_eq_true hs.1
    subst he
    exact key (some xs) (by rw [mkO_mp hs.2]; exact ho) e
  | _ => rw [ho] at e; cases e
theorem boxesOk_ok {os : List PO} : ∀ {l : List (Nat × Nat)}, boxesOk os l = true → ∀ k n, (k, n) ∈ l → ∃ cs, og os k = .box cs ∧ cs.length = n
 | (k0, n0) :: l, e, k, n, h => by
  simp only [boxesOk, Bool.and_eq_true] at e
  rcases List.mem_cons.1 h with h | h
  ·rw [Prod.mk.injEq] at h
   obtain ⟨h1, h2⟩ := h
   subst h1; subst h2
   cases ho : og os k with
   | box cs => have := e.1; rw [ho] at this; exact ⟨cs, rfl, Nat.eq_of_beq_eq_true this⟩
   | _ => have := e.1; rw [ho] at this; cases this
  ·exact boxesOk_ok e.2 k n h
theorem srcOk_ok {okm : Nat → Bool} : ∀ {ms : List (Option Nat)}, srcOk okm ms = true → (∀ (i m : Nat), ms[i]? = some (some m) → okm m = true) ∧ ∀ (i j m : Nat), ms[i]? = some (some m) → ms[j]? = some (some m) → i = j
 | [], _ => ⟨fun i m h => by simp at h, fun i j m h => by simp at h⟩
 | none :: l, e => by
  obtain ⟨a, b⟩ := srcOk_ok (ms := l) e
  refine ⟨fun i m h => ?_, fun i j m h h' => ?_⟩
  ·cases i with
   | zero => simp at h
   | succ i => exact a i m (by simpa using h)
  ·cases i with
   | zero => simp at h
   | succ i =>
    cases j with
    | zero => simp at h'
    | succ j => rw [b i j m (by simpa using h) (by simpa using h')]
 | some q :: l, e => by
  simp only [srcOk, Bool.and_eq_true, Bool.not_eq_true'] at e
  obtain ⟨⟨e1, e2⟩, e3⟩ := e
  obtain ⟨a, b⟩ := srcOk_ok (ms := l) e3
  have ne : ∀ j : Nat, l[j]? ≠ some (some q) := fun j h => by
   have := List.mem_of_getElem? h
   have h3 : (l.any fun x => match x with | some m' => Nat.beq q m' | none => false) = true := List.any_eq_true.2 ⟨_, this, Nat.beq_refl q⟩
   rw [h3] at e2; cases e2
  refine ⟨fun i m h => ?_, fun i j m h h' => ?_⟩
  ·cases i with
   | zero => simp at h; subst h; exact e1
   | succ i => exact a i m (by simpa using h)
  ·cases i with
   | zero =>
    cases j with
    | zero => rfl
    | succ j => simp at h; subst h; exact absurd (by simpa using h') (ne j)
   | succ i =>
    cases j with
    | zero => simp at h'; subst h'; exact absurd (by simpa using h) (ne i)
    | succ j => rw [b i j m (by simpa using h) (by simpa using h')]
theorem hBoxes_len (D : List Pl) (Ow : List (Pl × Nat)) (L : List DV) (n0 : Nat) : ∀ (l : List (Nat × Nat)) (os : List PO), (hBoxes D Ow L n0 l os).length = os.length
 | [], _ => rfl
 | (k, n) :: l, os => by simp only [hBoxes]; rw [hBoxes_len D Ow L n0 l, oset_len]
theorem hArrs_len (M : List OC) : ∀ (l : List (Nat × Nat)) (i : Nat) (os : List PO), (hArrs M l i os).length = os.length
 | [], _, _ => rfl
 | (k, st) :: l, i, os => by simp only [hArrs]; rw [hArrs_len M l, oset_len]
theorem hOwn_len (M : List OC) : ∀ (l : List (Pl × Nat)) (i : Nat), (hOwn M l i).length = l.length
 | [], _ => rfl
 | (_, st) :: l, i => by simp [hOwn, hOwn_len M l]
theorem hOwn_get (M : List OC) : ∀ (l : List (Pl × Nat)) (i j : Nat), (hOwn M l i)[j]? = (l[j]?).map fun x => mkO x.2 (nthM M (i + j))
 | [], i, j => by simp [hOwn]
 | (p, st) :: l, i, 0 => by simp [hOwn]
 | (p, st) :: l, i, j + 1 => by
  have := hOwn_get M l (i + 1) j
  simp only [hOwn, List.getElem?_cons_succ]
  rw [this, show i + 1 + j = i + (j + 1) by omega]
theorem hBoxes_get (D : List Pl) (Ow : List (Pl × Nat)) (L : List DV) (n0 : Nat) : ∀ (l : List (Nat × Nat)) (os : List PO) (k : Nat),
  (∃ n, (k, n) ∈ l ∧ k < os.length ∧ og (hBoxes D Ow L n0 l os) k = .box (hCells D Ow L n0 k n 0)) ∨ ((∀ n, (k, n) ∈ l → ¬ k < os.length) ∧ og (hBoxes D Ow L n0 l os) k = og os k)
 | [], os, k => .inr ⟨fun n h => (by cases h), rfl⟩
 | (k0, n) :: l, os, k => by
  simp only [hBoxes]
  rcases hBoxes_get D Ow L n0 l (oset (.box (hCells D Ow L n0 k0 n 0)) os k0) k with ⟨m, h1, h2, h3⟩ | ⟨h1, h2⟩
  ·exact .inl ⟨m, List.mem_cons_of_mem _ h1, by rwa [oset_len] at h2, h3⟩
  ·rw [og_oset] at h2
   split at h2
   ·rename_i hk
    rw [hk.1] at h2 ⊢
    exact .inl ⟨n, List.mem_cons_self .., hk.2, h2⟩
   ·rename_i hk
    refine .inr ⟨fun m hm hlt => ?_, h2⟩
    rcases List.mem_cons.1 hm with h | h
    ·cases h; exact hk ⟨rfl, hlt⟩
    ·exact h1 m h (by rw [oset_len]; exact hlt)
theorem hArrs_get (M : List OC) : ∀ (l : List (Nat × Nat)) (i : Nat) (os : List PO) (k : Nat),
  (∃ j st, l[j]? = some (k, st) ∧ k < os.length ∧ og (hArrs M l i os) k = mkO st (nthM M (i + j))) ∨ ((∀ st, (k, st) ∈ l → ¬ k < os.length) ∧ og (hArrs M l i os) k = og os k)
 | [], i, os, k => .inr ⟨fun n h => (by cases h), rfl⟩
 | (k0, st) :: l, i, os, k => by
  simp only [hArrs]
  rcases hArrs_get M l (Nat.succ i) (oset (mkO st (nthM M i)) os k0) k with ⟨j, s, h1, h2, h3⟩ | ⟨h1, h2⟩
  ·exact .inl ⟨j + 1, s, by simpa using h1, by rwa [oset_len] at h2, by rw [h3, show Nat.succ i + j = i + (j + 1) by omega]⟩
  ·rw [og_oset] at h2
   split at h2
   ·rename_i hk
    rw [hk.1] at h2 ⊢
    exact .inl ⟨0, st, rfl, hk.2, h2⟩
   ·rename_i hk
    refine .inr ⟨fun m hm hlt => ?_, h2⟩
    rcases List.mem_cons.1 hm with h | h
    ·cases h; exact hk ⟨rfl, hlt⟩
    ·exact h1 m h (by rw [oset_len]; exact hlt)
theorem hCells_get (D : List Pl) (Ow : List (Pl × Nat)) (L : List DV) (n0 k : Nat) : ∀ (n i j : Nat), j < n → (hCells D Ow L n0 k n i)[j]? = some (match plP D Ow L n0 (.cell k (i + j)) with | some c => c | none => .d .u)
 | 0, i, j, h => by omega
 | n + 1, i, 0, _ => rfl
 | n + 1, i, j + 1, h => by
  have := hCells_get D Ow L n0 k n (i + 1) j (by omega)
  simp only [hCells, List.getElem?_cons_succ]
  rw [this, show i + 1 + j = i + (j + 1) by omega]
theorem hCells_len (D : List Pl) (Ow : List (Pl × Nat)) (L : List DV) (n0 k : Nat) : ∀ (n i : Nat), (hCells D Ow L n0 k n i).length = n
 | 0, _ => rfl
 | n + 1, i => by simp [hCells, hCells_len D Ow L n0 k n]
theorem InvO.reidx {N : Nm} {os : List PO} (I : InvO E N os) (os' : List PO) (μ' : Nat → CVal) (s : Nat → Nat) (hs : ∀ k, live (og os' k) → live (og os (s k)) ∧ μ' k = N.μ (s k))
  (hi : ∀ k k', live (og os' k) → live (og os' k') → s k = s k' → k = k') (ho : ∀ k, RepO ⟨μ', os'.length, N.fz, N.h⟩ k (og os' k)) : InvO E ⟨μ', os'.length, N.fz, N.h⟩ os' :=
 ⟨I.hw, I.gr, I.fzlt, I.fzok, I.fzex, rfl, fun k b hl hb => by
  obtain ⟨h1, h2⟩ := hs k hl
  rw [show (Nm.mk μ' os'.length N.fz N.h).μ k = N.μ (s k) from h2] at hb
  exact I.own _ b h1 hb, fun k k' b hl hl' hb hb' => by
  obtain ⟨h1, h2⟩ := hs k hl
  obtain ⟨g1, g2⟩ := hs k' hl'
  rw [show (Nm.mk μ' os'.length N.fz N.h).μ k = N.μ (s k) from h2] at hb
  rw [show (Nm.mk μ' os'.length N.fz N.h).μ k' = N.μ (s k') from g2] at hb'
  exact hi k k' hl hl' (I.inj _ _ b h1 g1 hb hb'), ho⟩
end
end Go.PE
end
section
namespace Go.PE
open Go Go.CE
section
variable {E : En} {lk okm : Nat → Bool}
theorem og_left (a b : List PO) (k : Nat) (h : k < a.length) : og (a ++ b) k = og a k := by
 rw [og_eq, og_eq, List.getElem?_append_left h]
theorem og_right (a b : List PO) (k : Nat) (h : a.length ≤ k) : og (a ++ b) k = (b[k - a.length]?).getD .dead := by
 rw [og_eq, List.getElem?_append_right h]
theorem RepCaps.re {N0 N1 N2 : Nm} (hle : N0.n ≤ N2.n) (hmu : ∀ k, k < N0.n → N2.μ k = N1.μ k) (hfz : N2.fz = N1.fz) (hh : N2.h = N1.h) : ∀ {ps0 ps : List (BN × Nat)} {caps : List (Nat ⊕ List DV)}, RepCaps N0 ps0 caps → RepCaps N1 ps caps → RepCaps N2 ps caps
 | [], [], [], _, _ => trivial
 | _ :: _, _ :: _, .inl k :: _, H0, H => ⟨⟨Nat.lt_of_lt_of_le H0.1.1 hle, (hmu k H0.1.1).trans H.1.2.1, H.1.2.2⟩, RepCaps.re hle hmu hfz hh H0.2 H.2⟩
 | _ :: _, _ :: _, .inr xs :: _, H0, H => ⟨by show Rep _ _ _ _; rw [hfz, hh]; exact H.1, RepCaps.re hle hmu hfz hh H0.2 H.2⟩
 | _, [], _ :: _, _, H => H.elim
 | _, _ :: _, [], _, H => H.elim
 | [], _, _ :: _, H0, _ => H0.elim
 | _ :: _, _, [], H0, _ => H0.elim
theorem RepPC.re {N0 N1 N2 : Nm} (hle : N0.n ≤ N2.n) (hmu : ∀ k, k < N0.n → N2.μ k = N1.μ k) (hfz : N2.fz = N1.fz) (hh : N2.h = N1.h) {c0 c : CVal} {p : PC} (H0 : RepPC N0 c0 p) (H : RepPC N1 c p) : RepPC N2 c p := by
 cases p with
 | d v => show Rep _ _ _ _; rw [hfz, hh]; exact H
 | own k => exact ⟨Nat.lt_of_lt_of_le H0.1 hle, H.2.trans (hmu k H0.1).symm⟩
 | ptr k off => obtain ⟨_, b, h2, h3⟩ := H; exact ⟨Nat.lt_of_lt_of_le H0.1 hle, b, (hmu k H0.1).trans h2, h3⟩
 | ep k st i off => obtain ⟨_, b, l, cap, ex, h2, h3, h4⟩ := H; exact ⟨Nat.lt_of_lt_of_le H0.1 hle, b, l, cap, ex, (hmu k H0.1).trans h2, h3, h4⟩
 | ip k off len st i o => obtain ⟨_, b, h2, h3, h4⟩ := H; exact ⟨Nat.lt_of_lt_of_le H0.1 hle, b, (hmu k H0.1).trans h2, h3, h4⟩
 | vw k st lo len => exact ⟨Nat.lt_of_lt_of_le H0.1 hle, by rw [hmu k H0.1]; exact H.2⟩
 | clo f caps =>
  obtain ⟨ps, rfl, hc⟩ := H
  obtain ⟨ps0, _, hc0⟩ := H0
  exact ⟨ps, rfl, RepCaps.re hle hmu hfz hh hc0 hc⟩
theorem RepPL.re {N0 N1 N2 : Nm} (hle : N0.n ≤ N2.n) (hmu : ∀ k, k < N0.n → N2.μ k = N1.μ k) (hfz : N2.fz = N1.fz) (hh : N2.h = N1.h) : ∀ {v0 v : List CVal} {ps : List PC}, RepPL N0 v0 ps → RepPL N1 v ps → RepPL N2 v ps
 | [], [], [], _, _ => trivial
 | _ :: _, _ :: _, _ :: _, H0, H => ⟨RepPC.re hle hmu hfz hh H0.1 H.1, RepPL.re hle hmu hfz hh H0.2 H.2⟩
 | _, [], _ :: _, _, H => H.elim
 | _, _ :: _, [], _, H => H.elim
 | [], _, _ :: _, H0, _ => H0.elim
 | _ :: _, _, [], H0, _ => H0.elim
theorem RepO.arr_re {N1 N2 : Nm} {k m st : Nat} {v : OC} (hmu : N2.μ k = N1.μ m) (hfz : N2.fz = N1.fz) (hh : N2.h = N1.h) (H : RepO N1 m (.arr st v)) : RepO N2 k (.arr st v) := by
 cases v with
 | none => exact hmu.trans H
 | some xs =>
  obtain ⟨b, vs, ex, h1, h2, h3, h4, h5⟩ := H
  exact ⟨b, vs, ex, hmu.trans h1, by rw [hfz]; exact h2, by rw [hh]; exact h3, h4, fun i x hx => by rw [hfz, hh]; exact h5 i x hx⟩
theorem RepO.mkO_re {N1 N2 : Nm} {k m st : Nat} {v : OC} (hmu : N2.μ k = N1.μ m) (hfz : N2.fz = N1.fz) (hh : N2.h = N1.h) (H : RepO N1 m (mkO st v)) : RepO N2 k (mkO st v) := by
 cases hm : isMp st with
 | false => rw [mkO_arr hm] at H ⊢; exact RepO.arr_re hmu hfz hh H
 | true =>
  rw [mkO_mp hm] at H ⊢
  obtain ⟨b, es, h1, h2, h3, h4, h5⟩ := H
  exact ⟨b, es, hmu.trans h1, by rw [hfz]; exact h2, by rw [hh]; exact h3, h4, fun i e x he hx => by rw [hfz, hh]; exact h5 i e x he hx⟩
theorem any_key {l : List (Nat × Nat)} {k : Nat} (h : (l.any fun x => Nat.beq k x.1) = false) : ∀ n, (k, n) ∉ l := fun n hn => by
 have : (l.any fun x => Nat.beq k x.1) = true := List.any_eq_true.2 ⟨(k, n), hn, Nat.beq_refl k⟩
 rw [h] at this; cases this
theorem head_ok {la : LA} {x : RExit} {N0 N : Nm} {B os os1 : List PO} {r r0 : Fr} {ρ ρ0 : Nat → PA} {W : List Nat} {L : List DV} {M : List OC} {ms : List (Option Nat)}
  (I : InvO E N os) (F : ∀ i, RepPA N (r i) (ρ i)) (e : vec lk okm la x ρ os = some (os1, L, M, ms)) (hn0 : N0.n = B.length) (nx0 : Nx N0 N) (F0 : ∀ i, RepPA N0 (r0 i) (ρ0 i)) (hW : ∀ i, i ∉ W → r i = r0 i)
  (hB : ∀ k, k < B.length → listed la k = false → og B k = .dead ∨ (og B k = og os1 k ∧ ∀ cs, og B k = .box cs → ∃ (N' : Nm) (vs0 : List CVal), N'.n = B.length ∧ RepPL N' vs0 cs))
  (hok : ∀ m, some m ∈ ms → m < B.length → ¬ live (og B m) ∧ listed la m = false) :
  ∃ N2, N2.h = N.h ∧ InvO E N2 (hOs (selD la x) (selO la x) la B B.length L M) ∧
   (∀ i, RepPA N2 (r i) (hFr (selD la x) (selO la x) W ρ0 B.length L i)) ∧ Nx N0 N2 := by
 unfold vec at e
 generalize hD : (selD la x) = D at e ⊢
 generalize hOw : (selO la x) = Ow at e ⊢
 cases h1 : vecD lk ρ D os with
 | none => rw [h1] at e; cases e
 | some q =>
  obtain ⟨o1, ds⟩ := q
  rw [h1] at e
  simp only at e
  cases h2 : vecO ρ o1 Ow with
  | none => rw [h2] at e; cases e
  | some q =>
   obtain ⟨vs, ms0⟩ := q
   cases h3 : vecA o1 la.arrs with
   | none => rw [h2, h3] at e; cases e
   | some ws =>
    rw [h2, h3] at e
    simp only at e
    cases h4 : (boxesOk o1 la.boxes && srcOk okm ms0) with
    | false => rw [h4] at e; cases e
    | true =>
     rw [h4] at e
     cases e
     rw [Bool.and_eq_true] at h4
     obtain ⟨N1, f1, S1, lD, rD⟩ := vecD_ok I F h1
     have F1 : ∀ i, RepPA N1 (r i) (ρ i) := fun i => (F i).mono S1.nx
     have I1 := S1.inv
     obtain ⟨lO, lms, rO⟩ := vecO_ok I1 F1 h2
     obtain ⟨lA, rA⟩ := vecA_ok h3
     have bO := boxesOk_ok h4.1
     obtain ⟨sA, sB⟩ := srcOk_ok h4.2
     let os2 := hOs D Ow la B B.length L (vs ++ ws)
     have hl1 : (hArrs (vs ++ ws) la.arrs Ow.length (hBoxes D Ow L B.length la.boxes B)).length = B.length := by rw [hArrs_len, hBoxes_len]
     have hlen : os2.length = B.length + Ow.length := (List.length_append (as := hArrs (vs ++ ws) la.arrs Ow.length (hBoxes D Ow L B.length la.boxes B)) (bs := hOwn (vs ++ ws) Ow 0)).trans (by rw [hl1, hOwn_len])
     let μ2 : Nat → CVal := fun k => if k < B.length then N1.μ k else match ms[k - B.length]? with | some (some m) => N1.μ m | _ => .nils
     let s : Nat → Nat := fun k => if k < B.length then k else match ms[k - B.length]? with | some (some m) => m | _ => 0
     let N2 : Nm := ⟨μ2, os2.length, N1.fz, N1.h⟩
     have mulo : ∀ k, k < B.length → μ2 k = N1.μ k := fun k hk => by show (if k < B.length then _ else _) = _; rw [if_pos hk]
     have slo : ∀ k, k < B.length → s k = k := fun k hk => by show (if k < B.length then _ else _) = _; rw [if_pos hk]
     have muhi : ∀ q, μ2 (B.length + q) = match ms[q]? with | some (some m) => N1.μ m | _ => .nils := fun q => by
      show (if B.length + q < B.length then _ else _) = _
      rw [if_neg (by omega), Nat.add_sub_cancel_left]
     have shi : ∀ q m, ms[q]? = some (some m) → s (B.length + q) = m := fun q m hm => by
      show (if B.length + q < B.length then _ else _) = _
      rw [if_neg (by omega), Nat.add_sub_cancel_left, hm]
     have nthO1 : ∀ q v, vs[q]? = some v → nthM (vs ++ ws) q = v := fun q v hq => by
      have := (List.getElem?_eq_some_iff.1 hq).1
      rw [nthM_eq, List.getElem?_append_left this, hq]; rfl
     have nthO2 : ∀ j v, ws[j]? = some v → nthM (vs ++ ws) (Ow.length + j) = v := fun j v hj => by
      rw [nthM_eq, List.getElem?_append_right (by omega), ← lO, Nat.add_sub_cancel_left, hj]; rfl
     have nx2 : Nx N0 N2 := ⟨nx0.fg.trans S1.nx.fg, by show N0.n ≤ os2.length; rw [hn0, hlen]; omega, fun k hk => by
      have hk' : k < B.length := by rw [← hn0]; exact hk
      show μ2 k = _
      rw [mulo k hk', f1.μ]
      exact nx0.mu k hk⟩
     have place : ∀ p c, plP D Ow L B.length p = some c → ∃ v, cvAt N1 r p v ∧ RepPC N2 v c := by
      intro p c hp
      unfold plP at hp
      cases hd : idxP p D 0 with
      | some i =>
       rw [hd] at hp
       cases hp
       obtain ⟨q, rfl, hq⟩ := idxP_ok hd
       have hqd := (List.getElem?_eq_some_iff.1 hq).1
       obtain ⟨d, hdd⟩ : ∃ d, L[q]? = some d := ⟨_, List.getElem?_eq_getElem (by omega)⟩
       obtain ⟨v, k1, k2⟩ := rD q p d hq hdd
       refine ⟨v, k1, ?_⟩
       show Rep _ _ _ _
       rw [Nat.zero_add, nthD_eq, hdd]
       exact k2
      | none =>
       rw [hd] at hp
       simp only at hp
       cases ho : idxP p (Ow.map (·.1)) 0 with
       | none => rw [ho] at hp; cases hp
       | some i =>
        rw [ho] at hp
        cases hp
        obtain ⟨q, rfl, hq⟩ := idxP_ok ho
        simp only [List.getElem?_map, Option.map_eq_some_iff] at hq
        obtain ⟨⟨p', st⟩, hq, rfl⟩ := hq
        obtain ⟨v, m, c, k1, k2, k3, k4⟩ := rO q p' st hq
        refine ⟨c, k3, ?_, ?_⟩
        ·show B.length + (0 + q) < os2.length
         have := (List.getElem?_eq_some_iff.1 hq).1
         rw [hlen]; omega
        ·show c = μ2 (B.length + (0 + q))
         rw [Nat.zero_add, muhi, k2]
         rcases k4 with ⟨rfl, _, rfl, _⟩ | ⟨m', rfl, _, rfl, _⟩
         ·rfl
         ·rfl
     have obj : ∀ k, (k < B.length ∧ ((∃ (j st : Nat) (v : OC), la.arrs[j]? = some (k, st) ∧ ws[j]? = some v ∧ og os2 k = mkO st v ∧ og os1 k = mkO st v) ∨
       (∃ (n : Nat) (cs : List PC), (k, n) ∈ la.boxes ∧ og os2 k = .box (hCells D Ow L B.length k n 0) ∧ og os1 k = .box cs ∧ cs.length = n) ∨ (listed la k = false ∧ og os2 k = og B k))) ∨
       (∃ (q : Nat), k = B.length + q ∧ ((∃ (p : Pl) (st : Nat) (v : OC) (m : Option Nat) (c : CVal), Ow[q]? = some (p, st) ∧ vs[q]? = some v ∧ ms[q]? = some m ∧ cvAt N1 r p c ∧ ((m = none ∧ v = none ∧ c = .nils ∧ isMp st = false) ∨ ∃ q', m = some q' ∧ og os1 q' = mkO st v ∧ c = N1.μ q' ∧ q' < N1.n) ∧ og os2 k = mkO st v) ∨ og os2 k = .dead)) := by
      intro k
      by_cases hk : k < B.length
      ·refine .inl ⟨hk, ?_⟩
       have e0 : og os2 k = og (hArrs (vs ++ ws) la.arrs Ow.length (hBoxes D Ow L B.length la.boxes B)) k := og_left _ _ k (by rw [hl1]; exact hk)
       rcases hArrs_get (vs ++ ws) la.arrs Ow.length (hBoxes D Ow L B.length la.boxes B) k with ⟨j, st, a1, a2, a3⟩ | ⟨a1, a2⟩
       ·obtain ⟨v, b1, b2⟩ := rA j k st a1
        exact .inl ⟨j, st, v, a1, b1, by rw [e0, a3, nthO2 j v b1], b2⟩
       ·rcases hBoxes_get D Ow L B.length la.boxes B k with ⟨n, c1, c2, c3⟩ | ⟨c1, c2⟩
        ·obtain ⟨cs, d1, d2⟩ := bO k n c1
         exact .inr (.inl ⟨n, cs, c1, by rw [e0, a2, c3], d1, d2⟩)
        ·refine .inr (.inr ⟨?_, by rw [e0, a2, c2]⟩)
         unfold listed
         rw [Bool.or_eq_false_iff]
         constructor
         ·cases hb : (la.boxes.any fun x => Nat.beq k x.1) with
          | false => rfl
          | true =>
           obtain ⟨⟨k', n⟩, h, h'⟩ := List.any_eq_true.1 hb
           have := Nat.eq_of_beq_eq_true h'
           simp only at this
           subst this
           exact absurd hk (c1 n h)
         ·cases hb : (la.arrs.any fun x => Nat.beq k x.1) with
          | false => rfl
          | true =>
           obtain ⟨⟨k', n⟩, h, h'⟩ := List.any_eq_true.1 hb
           have := Nat.eq_of_beq_eq_true h'
           simp only at this
           subst this
           exact absurd (by rw [hBoxes_len]; exact hk) (a1 n h)
      ·refine .inr ⟨k - B.length, by omega, ?_⟩
       have e0 : og os2 k = ((hOwn (vs ++ ws) Ow 0)[k - B.length]?).getD .dead := by
        have := og_right (hArrs (vs ++ ws) la.arrs Ow.length (hBoxes D Ow L B.length la.boxes B)) (hOwn (vs ++ ws) Ow 0) k (by rw [hl1]; omega)
        rw [hl1] at this
        exact this
       rw [hOwn_get] at e0
       cases hq : Ow[k - B.length]? with
       | none => rw [hq] at e0; exact .inr e0
       | some y =>
        obtain ⟨p, st⟩ := y
        obtain ⟨v, m, c, k1, k2, k3, k4⟩ := rO _ p st hq
        rw [hq] at e0
        refine .inl ⟨p, st, v, m, c, rfl, k1, k2, k3, k4, ?_⟩
        rw [e0, Nat.zero_add]
        show mkO st (nthM (vs ++ ws) (k - B.length)) = _
        rw [nthO1 _ v k1]
     have inv : InvO E N2 os2 := by
      refine I1.reidx os2 μ2 s ?_ ?_ ?_
      ·intro k hl
       rcases obj k with ⟨hk, ⟨j, st, v, a1, a2, a3, a4⟩ | ⟨n, cs, a1, a2, a3, a4⟩ | ⟨a1, a2⟩⟩ | ⟨q, rfl, ⟨p, st, v, m, c, a1, a2, a3, a4, a5, a6⟩ | a1⟩
       ·rw [slo k hk, mulo k hk, a4]; rw [a3] at hl; exact ⟨hl, rfl⟩
       ·rw [slo k hk, mulo k hk, a3]; exact ⟨trivial, rfl⟩
       ·rw [slo k hk, mulo k hk]
        rcases hB k hk a1 with h | ⟨h, _⟩
        ·rw [a2, h] at hl; exact hl.elim
        ·rw [a2, h] at hl; exact ⟨hl, rfl⟩
       ·rcases a5 with ⟨rfl, rfl, _, hmp⟩ | ⟨m', rfl, b1, b2, b3⟩
        ·rw [a6, mkO_arr hmp] at hl; exact hl.elim
        ·rw [shi q m' a3, muhi, a3, b1]; rw [a6] at hl; exact ⟨hl, rfl⟩
       ·rw [a1] at hl; exact hl.elim
      ·have high : ∀ k, live (og os2 k) → ¬ k < B.length → ∃ q m, k = B.length + q ∧ ms[q]? = some (some m) := fun k hl hk => by
        rcases obj k with ⟨hk', _⟩ | ⟨q, rfl, ⟨p, st, v, m, c, a1, a2, a3, a4, a5, a6⟩ | a1⟩
        ·exact absurd hk' hk
        ·rcases a5 with ⟨rfl, rfl, _, hmp⟩ | ⟨m', rfl, _⟩
         ·rw [a6, mkO_arr hmp] at hl; exact hl.elim
         ·exact ⟨q, m', rfl, a3⟩
        ·rw [a1] at hl; exact hl.elim
       have mixed : ∀ k k', live (og os2 k) → live (og os2 k') → k < B.length → ¬ k' < B.length → s k ≠ s k' := fun k k' hl hl' hk hk' heq => by
        obtain ⟨q, m, rfl, hm⟩ := high k' hl' hk'
        rw [slo k hk, shi q m hm] at heq
        subst heq
        obtain ⟨g1, g2⟩ := hok k (List.mem_of_getElem? hm) hk
        rcases obj k with ⟨_, ⟨j, st, v, a1, a2, a3, a4⟩ | ⟨n, cs, a1, a2, a3, a4⟩ | ⟨a1, a2⟩⟩ | ⟨q', h, _⟩
        ·have : (k, st) ∈ la.arrs := List.mem_of_getElem? a1
         unfold listed at g2
         rw [Bool.or_eq_false_iff] at g2
         exact any_key g2.2 st this
        ·unfold listed at g2
         rw [Bool.or_eq_false_iff] at g2
         exact any_key g2.1 n a1
        ·rw [a2] at hl; exact g1 hl
        ·omega
       intro k k' hl hl' heq
       by_cases hk : k < B.length <;> by_cases hk' : k' < B.length
       ·rwa [slo k hk, slo k' hk'] at heq
       ·exact absurd heq (mixed k k' hl hl' hk hk')
       ·exact absurd heq.symm (mixed k' k hl' hl hk' hk)
       ·obtain ⟨q, m, rfl, hm⟩ := high k hl hk
        obtain ⟨q', m', rfl, hm'⟩ := high k' hl' hk'
        rw [shi q m hm, shi q' m' hm'] at heq
        subst heq
        rw [sB q q' m hm hm']
      ·intro k
       rcases obj k with ⟨hk, ⟨j, st, v, a1, a2, a3, a4⟩ | ⟨n, cs, a1, a2, a3, a4⟩ | ⟨a1, a2⟩⟩ | ⟨q, rfl, ⟨p, st, v, m, c, a1, a2, a3, a4, a5, a6⟩ | a1⟩
       ·rw [a3]
        have := I1.obj k
        rw [a4] at this
        exact RepO.mkO_re (N2 := N2) (mulo k hk) rfl rfl this
       ·rw [a2]
        obtain ⟨b, us, b1, b2, b3, b4⟩ := box_get I1 a3
        have hul := b4.len
        refine ⟨b, us, (mulo k hk).trans b1, b2, b3, RepPL.of (by rw [hCells_len]; omega) fun j c p hc hp => ?_⟩
        have hj := (List.getElem?_eq_some_iff.1 hc).1
        rw [hCells_get D Ow L B.length k n 0 j (by omega), Nat.zero_add] at hp
        cases hp
        cases hpl : plP D Ow L B.length (.cell k j) with
        | none => exact Rep.u c
        | some c' =>
         obtain ⟨v, w1, w2⟩ := place _ _ hpl
         obtain ⟨b', us', x1, x2, x3⟩ := w1
         rw [b1] at x1; cases x1
         rw [b3] at x2; cases x2
         rw [hc] at x3; cases x3
         exact w2
       ·rw [a2]
        rcases hB k hk a1 with h | ⟨h, hbx⟩
        ·rw [h]; trivial
        ·have := I1.obj k
         rw [← h] at this
         generalize hoB : og B k = ob at this hbx
         cases ob with
         | box cs =>
          obtain ⟨N', vs0, hnn, hv0⟩ := hbx cs rfl
          obtain ⟨b, us, b1, b2, b3, b4⟩ := this
          exact ⟨b, us, (mulo k hk).trans b1, b2, b3, RepPL.re (N0 := N') (N1 := N1) (N2 := N2) (by rw [hnn]; show B.length ≤ os2.length; rw [hlen]; omega) (fun i hi => mulo i (by rw [← hnn]; exact hi)) rfl rfl hv0 b4⟩
         | arr st v => exact RepO.arr_re (N2 := N2) (mulo k hk) rfl rfl this
         | frz v => show Rep N1.fz N1.h (μ2 k) v; rw [mulo k hk]; exact this
         | fbox ds => obtain ⟨b, b1, b2⟩ := this; exact ⟨b, (mulo k hk).trans b1, b2⟩
         | mp st xs =>
          obtain ⟨b, es, h1, h2, h3, h4, h5⟩ := this
          exact ⟨b, es, (mulo k hk).trans h1, h2, h3, h4, h5⟩
         | dead => trivial
       ·rw [a6]
        rcases a5 with ⟨rfl, rfl, _, hmp⟩ | ⟨m', rfl, b1, b2, b3⟩
        ·rw [mkO_arr hmp]
         show μ2 (B.length + q) = .nils
         rw [muhi, a3]
        ·have := I1.obj m'
         rw [b1] at this
         refine RepO.mkO_re (N1 := N1) (N2 := N2) ?_ rfl rfl this
         show μ2 (B.length + q) = _
         rw [muhi, a3]
       ·rw [a1]; trivial
     refine ⟨N2, f1.h, inv, fun i => ?_, nx2⟩
     unfold hFr
     cases hp : plP D Ow L B.length (.slot i) with
     | some c =>
      obtain ⟨v, w1, w2⟩ := place _ _ hp
      simp only
      rw [show r i = .s (.one v) from w1]
      exact rep_pc w2
     | none =>
      simp only
      cases hm : memB i W with
      | true => exact .bad _
      | false =>
       rw [hW i (fun h => by rw [(memB_iff i W).2 h] at hm; cases hm)]
       exact (F0 i).mono nx2
end
end Go.PE
end
section
namespace Go.PE
open Go Go.CE
def pset (ρ : Nat → PA) (a : PA) : Option Nat → Nat → PA
 | none => ρ
 | some d => fun i => bif Nat.beq i d then a else ρ i
def refine (ρ : Nat → PA) : Option (Nat × Bool) → Nat → PA
 | none => ρ
 | some (d, b) => fun i => bif Nat.beq i d then pd (.bool b) else ρ i
def slotB : Operand → Bool → Option (Nat × Bool)
 | .tmp t, b => some (t, b)
 | _, _ => none
def scT (P : Program) (t : TypeId) : Bool :=
 match P.underlying t with
 | some .bool => true
 | some .string => true
 | some (.int _) => true
 | _ => false
def shOf (P : Program) (dst : Option Nat) (t : TypeId) : Sh :=
 match dst with
 | none => .no
 | some _ =>
  match P.underlying t with
  | some (.tuple ts) => bif ts.toList.all (scT P) then .tsc ts.toList.length else .tup (ts.toList.map fun t => match sizeT P t with | some n => n | none => none)
  | _ => bif scT P t then .sc else match sizeT P t with | some none => .one | some (some n) => .agg n | none => .no
section
variable (P : Program) (O : Orc)
def pOper {β : Type} (lk : Nat → Bool) (nt : Nat) (ops : Array Oper) (o : Oper) (ρ : Nat → PA) (os : List PO) (K : Option (Nat × Bool) → KT β) : Option β :=
 bif inT nt o.dst then
  match comp P o.op with
  | some ko =>
   match o.guard with
   | none => pOp O lk (shOf P o.dst o.type) ρ os ko (K none)
   | some (j, b) =>
    match (ops[j]?).bind (·.dst) with
    | some d =>
     bif Nat.ble (Nat.succ d) nt then
      match ρ d with
      | .s (.one (.d v)) =>
       bif b then ifB v (pOp O lk (shOf P o.dst o.type) (refine ρ (some (d, true))) os ko (K (some (d, true)))) (K (some (d, false)) .undef os [] [])
       else ifB v (K (some (d, true)) .undef os [] []) (pOp O lk (shOf P o.dst o.type) (refine ρ (some (d, false))) os ko (K (some (d, false))))
      | .undef => K none .undef os [] []
      | _ => none
     else none
    | none => none
  | none => none
 else none
abbrev Inl := Nat → (Nat → Bool) → List PA → List PO → (β : Type) → (PA → List PO → Option β) → Option β
def capPA : List (Nat ⊕ List DV) → List PA
 | [] => []
 | .inl k :: l => pc (.ptr k 0) :: capPA l
 | .inr xs :: l => pd (.fp xs 0) :: capPA l
def inlOf (tab : Nat → Bool) (ρ : Nat → PA) (o : Oper) : Option (Nat × List PA) :=
 match o.guard with
 | some _ => none
 | none =>
  match comp P o.op with
  | some (.call f args) =>
   match f with
   | .func g => bif tab g then match pvs ρ args with | some as => some (g, as) | none => none else none
   | f =>
    match pv ρ f, pvs ρ args with
    | some (.s (.one (.clo g caps))), some as => bif tab g then some (g, as ++ capPA caps) else none
    | _, _ => none
  | _ => none
def pOps (tab : Nat → Bool) (Y : Inl) {β : Type} (lk : Nat → Bool) (nt : Nat) (ops : Array Oper) : List Oper → (Nat → PA) → List PO → ((Nat → PA) → List PO → Option β) → Option β
 | [], ρ, os, K => K ρ os
 | o :: l, ρ, os, K =>
  match inlOf P tab ρ o with
  | some (g, as) => bif inT nt o.dst then Y g lk as os β (fun a os' => pOps tab Y lk nt ops l (pset ρ a o.dst) os' K) else none
  | none => pOper P O lk nt ops o ρ os fun ref a os' _ _ => pOps tab Y lk nt ops l (pset (refine ρ ref) a o.dst) os' K
def thenP {β : Type} (a : (Nat → PA) → List PO → Option β) (k : RExit → (Nat → PA) → List PO → Option β) : RExit → (Nat → PA) → List PO → Option β
 | .normal, ρ, os => a ρ os
 | .exit id, ρ, os => k (.exit id) ρ os
 | .ret, ρ, os => k .ret ρ os
def outP {β : Type} (id : Nat) (k : RExit → (Nat → PA) → List PO → Option β) : RExit → (Nat → PA) → List PO → Option β
 | .exit id', ρ, os => bif Nat.beq id' id then k .normal ρ os else k (.exit id') ρ os
 | .normal, ρ, os => k .normal ρ os
 | .ret, ρ, os => k .ret ρ os
def nLoops : Code → Nat
 | .seq a b => nLoops a + nLoops b
 | .cond _ a b => nLoops a + nLoops b
 | .block _ c => nLoops c
 | .loop c => nLoops c + 1
 | _ => 0
def hasRet : Code → Bool
 | .seq a b => hasRet a || hasRet b
 | .cond _ a b => hasRet a || hasRet b
 | .block _ c => hasRet c
 | .loop c => hasRet c
 | .ret => true
 | _ => false
abbrev PX := RExit × List DV × List OC
def ploopN (f : List DV → List OC → Option PX) : Nat → List DV → List OC → Option PX
 | 0, _, _ => none
 | n + 1, L, M =>
  match f L M with
  | some (.normal, L', M') => ploopN f n L' M'
  | x => x
open Classical in
noncomputable def ploop (f : List DV → List OC → Option PX) (L : List DV) (M : List OC) : Option PX :=
 if h : ∃ n y, ploopN f n L M = some y then some (Classical.choose (Classical.choose_spec h)) else none
def loopR {β : Type} (x : Option PX) (kx : Nat → List DV → List OC → Option β) (kr : List DV → List OC → Option β) : Option β :=
 match x with
 | some (.exit id, L, M) => kx id L M
 | some (.ret, L, M) => kr L M
 | _ => none
def lkIn (la : LA) (n0 : Nat) (k : Nat) : Bool := Nat.ble (Nat.succ k) n0 && !listed la k
def free (lk : Nat → Bool) (la : LA) : Bool := (la.boxes.all fun x => !lk x.1) && (la.arrs.all fun x => !lk x.1)
def vecX (lk : Nat → Bool) (n0 : Nat) (la : LA) (e : RExit) (ρ : Nat → PA) (os : List PO) : Option PX :=
 match vec lk (fun m => Nat.ble n0 m) la e ρ os with
 | some (_, L, M, _) => some (e, L, M)
 | none => none
end
theorem ploopN_det {f : List DV → List OC → Option PX} : ∀ {n m : Nat} {L : List DV} {M : List OC} {x y : PX}, ploopN f n L M = some x → ploopN f m L M = some y → x = y
 | 0, _, _, _, _, _, e, _ => by cases e
 | _ + 1, 0, _, _, _, _, _, e => by cases e
 | n + 1, m + 1, L, M, x, y, e, e' => by
  simp only [ploopN] at e e'
  cases h : f L M with
  | none => rw [h] at e; cases e
  | some q =>
   obtain ⟨ex, L', M'⟩ := q
   rw [h] at e e'
   cases ex with
   | normal => exact ploopN_det e e'
   | exit id => cases e; cases e'; rfl
   | ret => cases e; cases e'; rfl
theorem ploop_iff {f : List DV → List OC → Option PX} {L : List DV} {M : List OC} {x : PX} : ploop f L M = some x ↔ ∃ n, ploopN f n L M = some x := by
 unfold ploop
 constructor
 ·intro e
  split at e
  ·rename_i h
   cases e
   have h1 := Classical.choose_spec h
   exact ⟨_, Classical.choose_spec h1⟩
  ·cases e
 ·rintro ⟨n, e⟩
  have h : ∃ n y, ploopN f n L M = some y := ⟨n, x, e⟩
  rw [dif_pos h]
  have h1 := Classical.choose_spec (Classical.choose_spec h)
  rw [ploopN_det h1 e]
theorem ploop_step (f : List DV → List OC → Option PX) (L : List DV) (M : List OC) : ploop f L M = match f L M with | some (.normal, L', M') => ploop f L' M' | x => x := by
  apply Option.ext
  intro y
  rw [ploop_iff]
  cases h : f L M with
  | none => simp only; constructor
            · rintro ⟨n, e⟩; cases n <;> simp [ploopN, h] at e
            · intro e; cases e
  | some q =>
    obtain ⟨ex, L', M'⟩ := q
    cases ex with
    | normal =>
      simp only [ploop_iff]
      constructor
      · rintro ⟨n, e⟩
        cases n with
        | zero => cases e
        | succ n => simp only [ploopN, h] at e; exact ⟨n, e⟩
      · rintro ⟨n, e⟩; exact ⟨n + 1, by simp only [ploopN, h]; exact e⟩
    | exit id =>
      simp only
      constructor
      · rintro ⟨n, e⟩
        cases n with
        | zero => cases e
        | succ n => simp only [ploopN, h] at e; exact e
      · intro e; exact ⟨1, by simp only [ploopN, h]; exact e⟩
    | ret =>
      simp only
      constructor
      · rintro ⟨n, e⟩
        cases n with
        | zero => cases e
        | succ n => simp only [ploopN, h] at e; exact e
      · intro e; exact ⟨1, by simp only [ploopN, h]; exact e⟩
section
variable {P : Program} {O : Orc} {C : Nat → Caller} {E : En}
theorem F_refine {N : Nm} {r : Fr} {ρ : Nat → PA} (F : ∀ i, RepPA N (r i) (ρ i)) {d : Nat} {b : Bool} (h : r d = .s (.one (.bool b))) : ∀ i, RepPA N (r i) (refine ρ (some (d, b)) i) := by
 intro i
 show RepPA N (r i) (bif Nat.beq i d then pd (.bool b) else ρ i)
 cases hb : Nat.beq i d with
 | false => exact F i
 | true =>
  have := Nat.eq_of_beq_eq_true hb
  subst this
  rw [h]
  exact scal_pd rfl
theorem F_pset {N : Nm} {r : Fr} {ρ : Nat → PA} (F : ∀ i, RepPA N (r i) (ρ i)) {v : AVal} {a : PA} (h : RepPA N v a) (dst : Option Nat) : ∀ i, RepPA N (fset r v dst i) (pset ρ a dst i) := by
 intro i
 cases dst with
 | none => exact F i
 | some d =>
  show RepPA N (bif Nat.beq i d then v else r i) (bif Nat.beq i d then a else ρ i)
  cases Nat.beq i d
  ·exact F i
  ·exact h
theorem ifB_ok {β : Type} {v : DV} {a b : Option β} {x : β} (e : ifB v a b = some x) : ∃ q, v = .bool q ∧ (bif q then a else b) = some x := by
 cases v <;> first | cases e | skip
 rename_i q
 exact ⟨q, rfl, e⟩
theorem pOper_ok (hO : OrcOk O C) {β : Type} {lk : Nat → Bool} {nt : Nat} {ops : Array Oper} {o : Oper} {ρ : Nat → PA} {os : List PO} {N : Nm} {r : Fr} {K : Option (Nat × Bool) → KT β} {x : β} (I : InvO E N os) (F : ∀ i, RepPA N (r i) (ρ i)) (hlk : ∀ j, lk j = true → j < os.length)
  (e : pOper P O lk nt ops o ρ os K = some x) : ∃ ref a os' wr rd, K ref a os' wr rd = some x ∧ (∀ i, RepPA N (r i) (refine ρ ref i)) ∧
   Ev (fun n => kOper P nt ops o (C n) r N.h) (fun p => ∃ N', N'.h = p.2 ∧ Sim E lk N os wr N' os' p.1 a) := by
 unfold pOper at e
 cases hT : inT nt o.dst with
 | false => rw [hT] at e; cases e
 | true =>
  rw [hT] at e
  simp only [cond_true] at e
  cases hc : comp P o.op with
  | none => rw [hc] at e; cases e
  | some ko =>
   rw [hc] at e
   simp only at e
   cases hg : o.guard with
   | none =>
    rw [hg] at e
    obtain ⟨a, os', wr, rd, h1, h2⟩ := pOp_ok hO I F hlk e
    refine ⟨none, a, os', wr, rd, h1, F, ?_⟩
    have : (fun n => kOper P nt ops o (C n) r N.h) = fun n => runK r ko (C n) N.h := by
     funext n
     unfold kOper
     rw [hT, hg]
     exact kop_eq P r (C n) N.h hc
    rw [this]; exact h2
   | some gb =>
    obtain ⟨j, b⟩ := gb
    rw [hg] at e
    simp only at e
    cases hd : (ops[j]?).bind (·.dst) with
    | none => rw [hd] at e; cases e
    | some d =>
     rw [hd] at e
     simp only at e
     cases hb : Nat.ble (Nat.succ d) nt with
     | false => rw [hb] at e; cases e
     | true =>
      rw [hb] at e
      simp only [cond_true] at e
      have run : ∀ call, kOper P nt ops o call r N.h = bif wantV (r d) b then runK r ko call N.h else some (aundef, N.h) := fun call => by
       unfold kOper
       rw [hT, hg]
       simp only [cond_true]
       rw [hd]
       simp only
       rw [hb]
       simp only [cond_true]
       rw [kop_eq P r call N.h hc]
      split at e
      ·rename_i v hρ
       have hrd := F d
       rw [hρ] at hrd
       have key : ∀ q, v = .bool q → (if q = b then pOp O lk (shOf P o.dst o.type) (refine ρ (some (d, q))) os ko (K (some (d, q))) else K (some (d, q)) .undef os [] []) = some x → (∃ ref a os' wr rd, K ref a os' wr rd = some x ∧ (∀ i, RepPA N (r i) (refine ρ ref i)) ∧
         Ev (fun n => kOper P nt ops o (C n) r N.h) (fun p => ∃ N', N'.h = p.2 ∧ Sim E lk N os wr N' os' p.1 a)) := fun q hq e2 => by
        subst hq
        have hr := pd_scal hrd (c := .bool q) rfl
        have F' := F_refine F hr
        by_cases hqb : q = b
        ·rw [if_pos hqb] at e2
         obtain ⟨a, os', wr, rd, h1, h2⟩ := pOp_ok hO I F' hlk e2
         refine ⟨some (d, q), a, os', wr, rd, h1, F', ?_⟩
         have : (fun n => kOper P nt ops o (C n) r N.h) = fun n => runK r ko (C n) N.h := by
          funext n
          rw [run, hr, hqb]
          simp only [wantV, beq_self_eq_true, cond_true]
         rw [this]; exact h2
        ·rw [if_neg hqb] at e2
         refine ⟨some (d, q), .undef, os, [], [], e2, F', ⟨(aundef, N.h), ⟨N, rfl, .quiet I rfl⟩, 0, fun n _ => ?_⟩⟩
         show kOper P nt ops o (C n) r N.h = _
         rw [run, hr]
         have : wantV (.s (.one (.bool q))) b = false := by
          cases q <;> cases b <;> first | rfl | exact absurd rfl hqb
         rw [this]; rfl
       cases b with
       | true =>
        obtain ⟨q, rfl, e⟩ := ifB_ok e
        exact key q rfl (by cases q <;> exact e)
       | false =>
        obtain ⟨q, rfl, e⟩ := ifB_ok e
        exact key q rfl (by cases q <;> exact e)
      ·rename_i hρ
       have hrd : r d = aundef := by
        have := F d
        rw [hρ] at this
        cases hh : r d with
        | s w => rw [hh] at this; exact this
        | tup l => rw [hh] at this; exact this
       refine ⟨none, .undef, os, [], [], e, F, ⟨(aundef, N.h), ⟨N, rfl, .quiet I rfl⟩, 0, fun n _ => ?_⟩⟩
       show kOper P nt ops o (C n) r N.h = _
       rw [run, hrd]; rfl
      ·cases e
def InlOk (tab : Nat → Bool) (Y : Inl) (C : Nat → Caller) : Prop :=
 ∀ {β : Type} {E : En} {lk : Nat → Bool} {N : Nm} {os : List PO} {g : Nat} {as : List PA} {vs : List AVal} {K : PA → List PO → Option β} {x : β}, tab g = true → InvO E N os → RepPAL N vs as → (∀ j, lk j = true → j < os.length) → Y g lk as os β K = some x →
  ∃ a os', K a os' = some x ∧ Ev (fun n => C n (.inl g) vs N.h) (fun p => ∃ N', N'.h = p.2 ∧ InvO E N' os' ∧ Nx N N' ∧ (∀ j, lk j = true → og os' j = og os j) ∧ RepPA N' p.1 a)
theorem RepPAL.app {N : Nm} : ∀ {a b : List AVal} {x y : List PA}, RepPAL N a x → RepPAL N b y → RepPAL N (a ++ b) (x ++ y)
 | [], _, [], _, _, H => H
 | _ :: _, _, _ :: _, _, H, K => ⟨H.1, RepPAL.app H.2 K⟩
 | [], _, _ :: _, _, H, _ => H.elim
 | _ :: _, _, [], _, H, _ => H.elim
theorem capPA_ok {N : Nm} : ∀ {ps : List (BN × Nat)} {xs : List (Nat ⊕ List DV)}, RepCaps N ps xs → RepPAL N (ps.map fun (p : BN × Nat) => AVal.s (.one (.ptr p.1 p.2))) (capPA xs)
 | [], [], _ => trivial
 | p :: ps, .inl k :: xs, H => ⟨RepPA.of (v := .one (.ptr p.1 p.2)) (p := .one (.ptr k 0)) ⟨H.1.1, p.1, H.1.2.1, by rw [H.1.2.2]⟩, capPA_ok H.2⟩
 | p :: ps, .inr y :: xs, H => ⟨RepPA.of (v := .one (.ptr p.1 p.2)) (p := .one (.d (.fp y 0))) H.1, capPA_ok H.2⟩
 | [], _ :: _, H => H.elim
 | _ :: _, [], H => H.elim
theorem inlOf_ok {tab : Nat → Bool} {N : Nm} {r : Fr} {ρ : Nat → PA} {o : Oper} {g nt : Nat} {as : List PA} {ops : Array Oper} (F : ∀ i, RepPA N (r i) (ρ i)) (e : inlOf P tab ρ o = some (g, as)) (hT : inT nt o.dst = true) :
  tab g = true ∧ ∃ vs, RepPAL N vs as ∧ ∀ call h, kOper P nt ops o call r h = call (.inl g) vs h := by
 unfold inlOf at e
 cases hg : o.guard with
 | some _ => rw [hg] at e; cases e
 | none =>
  rw [hg] at e
  simp only at e
  cases hc : comp P o.op with
  | none => rw [hc] at e; cases e
  | some ko =>
   rw [hc] at e
   have step : ∀ call h, kOper P nt ops o call r h = runK r ko call h := fun call h => by
    unfold kOper
    rw [hT, hg]
    exact kop_eq P r call h hc
   cases ko <;> first | (cases (show (none : Option (Nat × List PA)) = some (g, as) from e); done) | skip
   rename_i f args
   have fin : ∀ (g' : Nat) (ps : List (BN × Nat)) (vs : List AVal), kv r f = some (.s (.one (.fn g' ps))) → kvs r args = some vs → ∀ call h, runK r (.call f args) call h = call (.inl g') (vs ++ ps.map fun (p : BN × Nat) => AVal.s (.one (.ptr p.1 p.2))) h := by
    intro g' ps vs h1 h2 call h
    simp only [runK, h1, h2, bind1]
    show call (.inl g') ((cL vs).map (fun x => x .nil) ++ ps.map fun (p : BN × Nat) => AVal.s (.one (.ptr p.1 p.2))) h = _
    rw [cL_map]
   simp only at e
   split at e
   ·rename_i g'
    cases ht : tab g' with
    | false => rw [ht] at e; cases e
    | true =>
     rw [ht] at e
     simp only [cond_true] at e
     cases h2 : pvs ρ args with
     | none => rw [h2] at e; cases e
     | some as' =>
      rw [h2] at e
      cases e
      obtain ⟨v, k1, k2⟩ := pv_ok (x := .func g) (a := pd (.fn g [])) F rfl
      obtain ⟨vs, k3, k4⟩ := pvs_ok F h2
      obtain ⟨w, rfl, hw⟩ := pd_inv k2
      obtain ⟨ps, rfl, hps⟩ := Rep.fn_inv hw
      cases ps with
      | cons p ps => have := hps.1; simp at this
      | nil =>
       refine ⟨ht, _, k4, fun call h => (step call h).trans ((fin _ _ _ k1 k3 call h).trans ?_)⟩
       rw [List.map_nil, List.append_nil]
   ·split at e
    ·rename_i g' caps as' h1 h2
     cases ht : tab g' with
     | false => rw [ht] at e; cases e
     | true =>
      rw [ht] at e
      cases e
      obtain ⟨v, k1, k2⟩ := pv_ok F h1
      obtain ⟨vs, k3, k4⟩ := pvs_ok F h2
      obtain ⟨w, rfl, hw⟩ := pc_inv k2
      obtain ⟨ps, rfl, hps⟩ := hw
      exact ⟨ht, _, k4.app (capPA_ok hps), fun call h => (step call h).trans (fin _ _ _ k1 k3 call h)⟩
    ·cases e
theorem pOps_ok (hO : OrcOk O C) {tab : Nat → Bool} {Y : Inl} (hY : InlOk tab Y C) {β γ : Type} {Q : γ → Prop} {lk : Nat → Bool} {nt : Nat} {ops : Array Oper} {x : β} {K : (Nat → PA) → List PO → Option β} {kk : Nat → Fr → AHeap → Option γ} : ∀ (l : List Oper) (ρ : Nat → PA) (os : List PO) (N : Nm) (r : Fr),
  pOps P O tab Y lk nt ops l ρ os K = some x → InvO E N os → (∀ i, RepPA N (r i) (ρ i)) → (∀ j, lk j = true → j < os.length) →
  (∀ ρ' os' N' r', K ρ' os' = some x → InvO E N' os' → (∀ i, RepPA N' (r' i) (ρ' i)) → Nx N N' → (∀ j, lk j = true → og os' j = og os j) → (∀ i, i ∉ l.filterMap (·.dst) → r' i = r i) → Ev (fun n => kk n r' N'.h) Q) →
  Ev (fun n => kOps P nt ops (C n) l r N.h (kk n)) Q
 | [], ρ, os, N, r, e, I, F, hlk, H => H ρ os N r e I F (.refl N) (fun _ _ => rfl) (fun _ _ => rfl)
 | o :: l, ρ, os, N, r, e, I, F, hlk, H => by
  simp only [pOps] at e
  cases hi : inlOf P tab ρ o with
  | some q =>
   obtain ⟨g, as⟩ := q
   rw [hi] at e
   simp only at e
   cases hT : inT nt o.dst with
   | false => rw [hT] at e; cases e
   | true =>
    rw [hT, cond_true] at e
    obtain ⟨ht, vs, rvs, run⟩ := inlOf_ok (ops := ops) F hi hT
    obtain ⟨a, os', e1, ev⟩ := hY ht I rvs hlk e
    have : (fun n => kOps P nt ops (C n) (o :: l) r N.h (kk n)) = fun n => CE.bindR (C n (.inl g) vs N.h) fun v h' => kOps P nt ops (C n) l (fset r v o.dst) h' (kk n) := by
     funext n; rw [← run (C n) N.h]; exact kOps_cons ops (C n) o l r N.h (kk n)
    rw [this]
    refine Ev.bindR (ev.mono ?_)
    rintro ⟨v, h'⟩ ⟨N', hh, i1, i2, i3, i4⟩
    simp only at hh i4 ⊢
    subst hh
    refine pOps_ok hO hY l _ os' N' (fset r v o.dst) e1 i1 (F_pset (fun i => (F i).mono i2) i4 o.dst) (fun j hj => ?_) (fun ρ2 os2 N2 r2 k1 k2 k3 k4 k5 k6 => ?_)
    ·have h1 := i2.le
     rw [i1.len, I.len] at h1
     exact Nat.lt_of_lt_of_le (hlk j hj) h1
    ·refine H ρ2 os2 N2 r2 k1 k2 k3 (i2.trans k4) (fun j hj => (k5 j hj).trans (i3 j hj)) (fun i hi => ?_)
     simp only [List.filterMap_cons] at hi
     rw [k6 i (fun hm => hi (by cases o.dst <;> simp [hm]))]
     exact fset_other (fun hd => hi (by rw [hd]; simp))
  | none =>
  rw [hi] at e
  simp only at e
  obtain ⟨ref, a, os', wr, rd, e1, F1, ev⟩ := pOper_ok hO I F hlk e
  have : (fun n => kOps P nt ops (C n) (o :: l) r N.h (kk n)) = fun n => CE.bindR (kOper P nt ops o (C n) r N.h) fun v h' => kOps P nt ops (C n) l (fset r v o.dst) h' (kk n) := by
   funext n; exact kOps_cons ops (C n) o l r N.h (kk n)
  rw [this]
  refine Ev.bindR (ev.mono ?_)
  rintro ⟨v, h'⟩ ⟨N', hh, S⟩
  simp only at hh S ⊢
  subst hh
  refine pOps_ok hO hY l _ os' N' (fset r v o.dst) e1 S.inv (F_pset (fun i => (F1 i).mono S.nx) S.val o.dst) (fun j hj => ?_) (fun ρ2 os2 N2 r2 k1 k2 k3 k4 k5 k6 => ?_)
  ·have h1 := S.nx.le
   rw [S.inv.len, I.len] at h1
   exact Nat.lt_of_lt_of_le (hlk j hj) h1
  ·refine H ρ2 os2 N2 r2 k1 k2 k3 (S.nx.trans k4) (fun j hj => (k5 j hj).trans (S.lock j hj)) (fun i hi => ?_)
   simp only [List.filterMap_cons] at hi
   rw [k6 i (fun hm => hi (by cases o.dst <;> simp [hm]))]
   exact fset_other (fun hd => hi (by rw [hd]; simp))
theorem lkIn_lt {la : LA} {n0 k : Nat} (h : lkIn la n0 k = true) : k < n0 ∧ listed la k = false := by
 unfold lkIn at h
 rw [Bool.and_eq_true, Bool.not_eq_true'] at h
 exact ⟨Nat.le_of_ble_eq_true h.1, h.2⟩
theorem hOs_len {D : List Pl} {Ow : List (Pl × Nat)} {la : LA} {B : List PO} {L : List DV} {M : List OC} {n0 : Nat} (h : B.length = n0) : n0 ≤ (hOs D Ow la B n0 L M).length := by
 unfold hOs
 rw [List.length_append, hArrs_len, hBoxes_len]
 omega
theorem hOs_unlisted {D : List Pl} {Ow : List (Pl × Nat)} {la : LA} {B : List PO} {L : List DV} {M : List OC} {k : Nat} (h : k < B.length) (hl : listed la k = false) : og (hOs D Ow la B B.length L M) k = og B k := by
 unfold hOs
 unfold listed at hl
 rw [Bool.or_eq_false_iff] at hl
 rw [og_left _ _ k (by rw [hArrs_len, hBoxes_len]; exact h)]
 rcases hArrs_get M la.arrs Ow.length (hBoxes D Ow L B.length la.boxes B) k with ⟨j, st, a1, _, _⟩ | ⟨_, a2⟩
 ·exact absurd (List.mem_of_getElem? a1) (any_key hl.2 st)
 ·rw [a2]
  rcases hBoxes_get D Ow L B.length la.boxes B k with ⟨n, c1, _, _⟩ | ⟨_, c2⟩
  ·exact absurd c1 (any_key hl.1 n)
  ·exact c2
theorem kill_len : ∀ (ms : List (Option Nat)) (os : List PO), (kill ms os).length = os.length
 | [], _ => rfl
 | none :: ms, os => kill_len ms os
 | some m :: ms, os => by simp only [kill]; rw [kill_len ms, oset_len]
theorem kill_get : ∀ (ms : List (Option Nat)) (os : List PO) (k : Nat), (some k ∈ ms ∧ og (kill ms os) k = .dead) ∨ (some k ∉ ms ∧ og (kill ms os) k = og os k)
 | [], os, k => .inr ⟨by simp, rfl⟩
 | none :: ms, os, k => by
  simp only [kill]
  rcases kill_get ms os k with ⟨a, b⟩ | ⟨a, b⟩
  ·exact .inl ⟨List.mem_cons_of_mem _ a, b⟩
  ·exact .inr ⟨by simpa using a, b⟩
 | some m :: ms, os, k => by
  simp only [kill]
  rcases kill_get ms (oset .dead os m) k with ⟨a, b⟩ | ⟨a, b⟩
  ·exact .inl ⟨List.mem_cons_of_mem _ a, b⟩
  ·rw [og_oset] at b
   by_cases hk : k = m
   ·subst hk
    refine .inl ⟨List.mem_cons_self .., ?_⟩
    rw [b]
    split
    ·rfl
    ·rename_i h
     rw [og_eq, List.getElem?_eq_none (by simp at h; exact h)]; rfl
   ·rw [if_neg (fun h => hk h.1)] at b
    exact .inr ⟨by simp [hk, a], b⟩
end
end Go.PE
end
