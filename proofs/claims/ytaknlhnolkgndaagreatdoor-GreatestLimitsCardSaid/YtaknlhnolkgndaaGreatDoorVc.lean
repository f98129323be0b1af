/-
  Lemmas. No condition.
-/
import Derived.Test.YtaknlhnolkgndaaGreatDoorVb
set_option linter.unusedSimpArgs false
set_option linter.unusedVariables false
section
namespace Go.PE
open Go Go.CE
def shC:SVal->Nat
 | .one _=>0
 | .agg cs=>Nat.succ cs.length
def zw2(k v:SVal):Nat:=Nat.add 1048576 (Nat.add (Nat.mul (shC k) 1024) (shC v))
inductive KOp where
 |mv (x:Operand)
 |pick (c a b:Operand)
 |alloc (zs:List Zc)
 |box (x:Operand)
 |build (zs:List Zc) (parts:List (Nat×Nat×Operand))
 |bslice (st len:Nat) (zs:List Zc) (parts:List (Nat×Nat×Operand))
 |load (n:Option Nat) (x:Operand)
 |store (n:Nat) (x v:Operand)
 |nilck (x:Operand)
 |bin (op:BinOp) (x y:Operand)
 |shift (left:Bool) (x y:Operand)
 |str (op:BinOp) (x y:Operand)
 |nilS (neg:Bool) (x y:Operand)
 |eq (ks:Nat⊕List Nat) (neg:Bool) (x y:Operand)
 |not (x:Operand)
 |neg (x:Operand)
 |conv (k:IntKind) (x:Operand)
 |b2s (x:Operand)
 |s2b (x:Operand)
 |mkfn (f:Nat) (caps:List Operand)
 |mkmap (st:Nat)
 |mkslice (st:Nat) (zs:List Zc) (bytes:Nat) (l c:Operand)
 |slice (st:Nat) (x:Operand) (lo hi mx:Option Operand)
 |sslice (x:Operand) (lo hi:Option Operand)
 |foff (x:Operand) (off:Nat)
 |field (x:Operand) (off:Nat) (n:Option Nat)
 |ixs (st:Nat) (x i:Operand)
 |ixarr (len st:Nat) (x i:Operand)
 |ixagg (len st:Nat) (n:Option Nat) (x i:Operand)
 |ixstr (x i:Operand)
 |lookup (q:Nat⊕List Nat) (z:SVal) (ok:Bool) (m k:Operand)
 |mupd (q:Nat⊕List Nat) (m k v:Operand)
 |extract (x:Operand) (i:Nat)
 |lenS (x:Operand)
 |lenL (x:Operand)
 |lenM (x:Operand)
 |append (st bytes:Nat) (s x:Operand)
 |minmax (m:Bool) (x:Operand) (xs:List Operand)
 |clear (st:Nat) (zs:List Zc) (x:Operand)
 |call (f:Operand) (args:List Operand)
section
variable (P:Program)
def zdv(fs:Array Field):List (Nat×Operand)->Option (List (Nat×Nat×Operand))
 | []=>some []
 |(i,x)::r=>
  match fs[i]?,zdv fs r with
  |some f,some rest=>
   match P.info? f.type with
   |some info=>some ((f.offset,info.size,x)::rest)
   |none=>none
  |_,_=>none
def zaW(size:Nat):List (Nat×Operand)->List (Nat×Nat×Operand)
 | []=>[]
 |(i,x)::r=>(i*size,size,x)::zaW size r
def comp(o:Op):Option KOp:=
 match o with
 | .move x=>some (.mv x)
 | .assign x=>some (.mv x)
 | .pick c a b=>some (.pick c a b)
 | .alloc t=>bif qD P t then none else(match yb P t with|some z=>some (.alloc z.cells)|none=>none)
 | .box _ x=>some (.box x)
 | .build t parts=>
  match P.underlying t,yb P t with
  |some (.struct fs),some z=>bif k8 P fs.toList then(match zdv P fs parts.toList with|some l=>some (.build z.cells l)|none=>none) else none
  |some (.array _ e),some z=>
   match P.info? e with
   |some i=>some (.build z.cells (zaW i.size parts.toList))
   |none=>none
  |_,_=>none
 | .buildSlice t len parts=>
  match P.underlying t with
  |some (.slice e)=>
   match P.info? e with
   |some i=>
    bif Nat.ble (len*i.size) 16777216 then
     match (bif Nat.beq (len*i.size) 0 then some [] else(yb P e).map SVal.cells) with
     |some zs=>bif Nat.beq (len*i.size) 0||Nat.beq zs.length i.size then some (.bslice i.size len (v8 zs len) (zaW i.size parts.toList)) else none
     |none=>none
    else none
   |none=>none
  |_=>none
 | .load t x=>match xP P t with|some n=>some (.load n x)|none=>none
 | .store t x v=>match P.info? t with|some i=>some (.store i.size x v)|none=>none
 | .nilCheck x=>some (.nilck x)
 | .binOp op t x y _=>
  match P.underlying t with
  |some (.int _)=>
   match op with
   | .shl=>some (.shift true x y)
   | .shr=>some (.shift false x y)
   |op=>some (.bin op x y)
  |some .string=>some (.str op x y)
  |some (.slice _)=>
   match op with
   | .eql=>some (.nilS false x y)
   | .neq=>some (.nilS true x y)
   |_=>none
  |some (.struct _)=>
   bif P.eqGuardType P.depth t then none else
   match op,uA P t with
   | .eql,some q=>some (.eq q false x y)
   | .neq,some q=>some (.eq q true x y)
   |_,_=>none
  |some .bool=>
   bif P.eqGuardType P.depth t then none else
   match op,uA P t with
   | .eql,some q=>some (.eq q false x y)
   | .neq,some q=>some (.eq q true x y)
   |_,_=>none
  |_=>none
 | .unOp .not _ x=>some (.not x)
 | .unOp .neg _ x=>some (.neg x)
 | .convert s d x=>
  match P.underlying s,P.underlying d with
  |some (.int _),some (.int k)=>some (.conv k x)
  |some (.slice e),some .string=>bif yB P e then some (.b2s x) else none
  |some .string,some (.slice e)=>bif yB P e then some (.s2b x) else none
  |_,_=>none
 | .makeFunc (.func f) first captured=>bif first.isEmpty then some (.mkfn f captured.toList) else none
 | .makeMap t none=>
  match P.underlying t with
  |some (.map key e)=>match yb P key,yb P e with|some zk,some ze=>some (.mkmap (zw2 zk ze))|_,_=>none
  |_=>none
 | .makeSlice t l c=>
  match P.underlying t with
  |some (.slice e)=>
   match P.info? e,yb P e with
   |some i,some z=>bif Nat.beq z.cells.length i.size && !Nat.beq i.size 0 then some (.mkslice i.size z.cells i.bytes l c) else none
   |_,_=>none
  |_=>none
 | .slice t x lo hi mx=>
  match P.underlying t with
  |some (.slice e)=>
   match P.info? e with
   |some i=>bif mx.isSome && !hi.isSome then none else some (.slice i.size x lo hi mx)
   |none=>none
  |some .string=>bif mx.isSome then none else some (.sslice x lo hi)
  |_=>none
 | .fieldAddr t x f=>
  match P.underlying t with
  |some (.struct fs)=>
   match fs[f]? with
   |some fd=>
    match P.info? fd.type with
    |some i=>bif Nat.beq i.size 0 then none else some (.foff x fd.offset)
    |none=>none
   |none=>none
  |_=>none
 | .field t x f=>
  match P.underlying t with
  |some (.struct fs)=>
   match fs[f]? with
   |some fd=>match xP P fd.type with|some n=>some (.field x fd.offset n)|none=>none
   |none=>none
  |_=>none
 | .indexAddr t x i=>
  match P.underlying t with
  |some (.slice e)=>
   match P.info? e with
   |some info=>some (.ixs info.size x i)
   |none=>none
  |some (.array len e)=>
   match P.info? e with
   |some info=>some (.ixarr len info.size x i)
   |none=>none
  |_=>none
 | .index t x i=>
  match P.underlying t with
  |some (.array len e)=>
   match P.info? e,xP P e with
   |some info,some n=>some (.ixagg len info.size n x i)
   |_,_=>none
  |some .string=>some (.ixstr x i)
  |_=>none
 | .lookup t m k ok=>
  match P.underlying t with
  |some (.map key e)=>match uA P key,yb P e with|some q,some z=>some (.lookup q z ok m k)|_,_=>none
  |_=>none
 | .mapUpdate t m k v=>
  match P.underlying t with
  |some (.map key _)=>match uA P key with|some q=>some (.mupd q m k v)|none=>none
  |_=>none
 | .extract x i=>some (.extract x i)
 | .call c=>
  match c.callee with
  | .value f=>bif Nat.beq (vO P f) 0 then some (.call f c.args.toList) else none
  | .builtin .len=>
   match c.argTypes[0]?,c.args[0]? with
   |some t,some x=>
    match P.underlying t with
    |some .string=>some (.lenS x)
    |some (.slice _)=>some (.lenL x)
    |some (.map _ _)=>some (.lenM x)
    |_=>none
   |_,_=>none
  | .builtin .append=>
   match c.argTypes.toList,c.args.toList with
   | [t,t2],[s,x]=>
    match P.underlying t with
    |some (.slice e)=>
     match P.info? e,yb P e with
     |some i,some z=>
      bif Nat.beq z.cells.length i.size && !Nat.beq i.size 0 then
       match P.underlying t2 with
       |some (.slice _)=>bif yB P e&&Nat.beq i.size 1 then none else some (.append i.size i.bytes s x)
       |_=>none
      else none
     |_,_=>none
    |_=>none
   |_,_=>none
  | .builtin .clear=>
   match c.argTypes[0]?,c.args[0]? with
   |some t,some x=>
    match P.underlying t with
    |some (.slice e)=>
     match P.info? e,yb P e with
     |some i,some z=>bif Nat.beq z.cells.length i.size && !Nat.beq i.size 0 then some (.clear i.size z.cells x) else none
     |_,_=>none
    |_=>none
   |_,_=>none
  | .builtin .max=>
   match c.args.toList with
   |x::xs=>some (.minmax true x xs)
   |_=>none
  | .builtin .min=>
   match c.args.toList with
   |x::xs=>some (.minmax false x xs)
   |_=>none
  |_=>none
 |_=>none
end
def kv(r:Fr):Operand->Option Zb
 | .tmp t=>some (r t)
 | .const v=>match znz v with|some s=>some (.s s)|none=>none
 | .func f=>some (.s (.one (.fn f [])))
 | .global g=>match zam g with|some _=>some (.s (.one (.gptr g 0)))|none=>none
def kvs(r:Fr):List Operand->Option (List Zb)
 | []=>some []
 |x::xs=>
  match kv r x,kvs r xs with
  |some y,some ys=>some (y::ys)
  |_,_=>none
def kvo(r:Fr):Option Operand->Option (Option Zb)
 |none=>some none
 |some x=>match kv r x with|some y=>some (some y)|none=>none
def kvp(r:Fr):List (Nat×Nat×Operand)->Option (List (Nat×Nat×Zb))
 | []=>some []
 |(a,b,x)::l=>
  match kv r x,kvp r l with
  |some y,some ys=>some ((a,b,y)::ys)
  |_,_=>none
def zx(x:Option Zb)(k:Zb->Res):Res:=match x with|some v=>k v|none=>none
noncomputable def runK(r:Fr)(o:KOp)(call:zc)(h:Za):Res:=
 match o with
 | .mv x=>zx (kv r x) fun x=>some (x,h)
 | .pick c a b=>zx (kv r c) fun c=>zx (kv r a) fun a=>zx (kv r b) fun b=>zog c a b h
 | .alloc zs=>ztv zs h
 | .box x=>zx (kv r x) fun x=>zyX x h
 | .build zs parts=>match kvp r parts with|some l=>zk2 zs l h|none=>none
 | .bslice st len zs parts=>match kvp r parts with|some l=>zqR st len zs l h|none=>none
 | .load n x=>zx (kv r x) fun x=>zoj n x h
 | .store n x v=>zx (kv r x) fun x=>zx (kv r v) fun v=>ztt n x v h
 | .nilck x=>zx (kv r x) fun x=>zh3 x h
 | .bin op x y=>zx (kv r x) fun x=>zx (kv r y) fun y=>zvO (uk op) x y h
 | .shift l x y=>zx (kv r x) fun x=>zx (kv r y) fun y=>zh2 (bif l then zeK else zhs) x y h
 | .str op x y=>zx (kv r x) fun x=>zx (kv r y) fun y=>zvK op x y h
 | .nilS n x y=>zx (kv r x) fun x=>zx (kv r y) fun y=>zk0 n x y h
 | .eq q n x y=>zx (kv r x) fun x=>zx (kv r y) fun y=>vEq q n x y h
 | .not x=>zx (kv r x) fun x=>zvL x h
 | .neg x=>zx (kv r x) fun x=>zvM x h
 | .conv k x=>zx (kv r x) fun x=>zom k x h
 | .b2s x=>zx (kv r x) fun x=>qv (zn x) yi .nil h
 | .s2b x=>zx (kv r x) fun x=>zka (zn x) yi .nil h
 | .mkfn f caps=>match kvs r caps with|some l=>zoi f l h|none=>none
 | .mkmap _=>ztu h
 | .mkslice st zs bytes l c=>zx (kv r l) fun l=>zx (kv r c) fun c=>zoh st zs bytes l c h
 | .slice st x lo hi mx=>zx (kv r x) fun x=>match kvo r lo,kvo r hi,kvo r mx with|some lo,some hi,some mx=>wM st x lo hi mx h|_,_,_=>none
 | .sslice x lo hi=>zx (kv r x) fun x=>match kvo r lo,kvo r hi with|some lo,some hi=>zdO x lo hi h|_,_=>none
 | .foff x off=>zx (kv r x) fun x=>zol x off h
 | .field x off n=>zx (kv r x) fun x=>zh7 x off n h
 | .ixs st x i=>zx (kv r x) fun x=>zx (kv r i) fun i=>zvN st x i h
 | .ixarr len st x i=>zx (kv r x) fun x=>zx (kv r i) fun i=>zh5 len st x i h
 | .ixagg len st n x i=>zx (kv r x) fun x=>zx (kv r i) fun i=>zh6 len st n x i h
 | .ixstr x i=>zx (kv r x) fun x=>zx (kv r i) fun i=>zh4 x i h
 | .lookup q z ok m k=>zx (kv r m) fun m=>zx (kv r k) fun k=>zqQ q z ok m k h
 | .mupd q m k v=>zx (kv r m) fun m=>zx (kv r k) fun k=>zx (kv r v) fun v=>zwl q m k v h
 | .extract x i=>zx (kv r x) fun x=>za7 x i h
 | .lenS x=>zx (kv r x) fun x=>zok x h
 | .lenL x=>zx (kv r x) fun x=>zk1 x h
 | .lenM x=>zx (kv r x) fun x=>zwm x h
 | .append st bytes s x=>zx (kv r s) fun s=>zx (kv r x) fun x=>zqS false st bytes s x h
 | .minmax m x xs=>zx (kv r x) fun x=>match kvs r xs with|some l=>zdP m x l h|none=>none
 | .clear st zs x=>zx (kv r x) fun x=>zp7 st zs x h
 | .call f args=>zx (kv r f) fun f=>match kvs r args with|some l=>zwo call f l h|none=>none
end Go.PE
end
section
namespace Go.PE
open Go Go.CE
inductive PC where
 |d (v:DV)
 |own (k:Nat)
 |ptr (k off:Nat)
 |ep (k st i off:Nat)
 |ip (k off len st i o:Nat)
 |vw (k st lo len:Nat)
 |lit (k:Nat)
 |clo (f:Nat) (caps:List (Nat⊕List DV))
inductive PV where
 |one (c:PC)
 |agg (cs:List PC)
inductive PA where
 |s (v:PV)
 |tup (l:List DS)
 |tl (p:PV) (l:List DS)
 |bad
 |undef
def PV.cells:PV->List PC
 | .one c=>[c]
 | .agg cs=>cs
abbrev OC:=Option (List (List DV))
def mkL(st:Nat):OC->DV
 |none=>.nils
 |some xs=>.lst st xs
inductive PO where
 |box (cs:List PC)
 |arr (st:Nat) (v:OC)
 |frz (v:DV)
 |fbox (ds:List DV)
 |mp (st:Nat) (xs:List (List DV))
 |hol (v:OC) (n t:Nat)
 |lnk (m:Nat)
 |lop (nt:Nat) (ρ:Nat->PA) (ps:List Nat) (a b:Code) (lbl:Nat) (st:DV)
 |dead
def og:List PO->Nat->PO
 | [],_=>.dead
 |o::l,k=>bif Nat.beq k 0 then o else og l (Nat.sub k 1)
def oset(o:PO):List PO->Nat->List PO
 | [],_=>[]
 |x::l,k=>bif Nat.beq k 0 then o::l else x::oset o l (Nat.sub k 1)
theorem ze3(k:Nat):Nat.beq (k+1) 0=false:=rfl
theorem za3:∀(l:List PO) (k:Nat),og l k=(l[k]?).getD .dead
 | [],k=>by simp[og]
 |o::l,0=>by simp[og]
 |o::l,k+1=>by have:=za3 l k;trivial
theorem zX(o:PO):∀(l:List PO) (k:Nat),(oset o l k).length=l.length
 | [],k=>rfl
 |x::l,0=>rfl
 |x::l,k+1=>by
  have:=zX o l k
  grind[oset]
theorem zw(o:PO):∀(l:List PO) (k j:Nat),og (oset o l k) j=if j=k/\k<l.length then o else og l j
 | [],k,j=>by grind[oset]
 |x::l,0,j=>by cases j<;>simp_all[oset,og,ze3]
 |x::l,k+1,j=>by
  show og (x::oset o l k) j=_;cases j with
  |zero=>simp[og]
  |succ j=>
   have:=zw o l k j;show og (oset o l k) j=_;rw[this];show _=if j+1=k+1/\k+1<(x::l).length then o else og l j
   simp
theorem yI(l:List PO)(o:PO)(j:Nat):og (l++[o]) j=if j=l.length then o else og l j:=by grind[za3]
theorem wF{l:List PO}{k:Nat}(h:og l k≠.dead):k<l.length:=by grind[za3]
def blk:Zc->Option BN
 | .ptr b _=>some b
 | .slc b _ _ _ _=>some b
 | .map b=>some b
 | .yld b=>some b
 |_=>none
def shN(n:Nat):Option Nat:=match n with|0=>none|n+1=>some n
def shK(st:Nat):Option Nat:=shN (Nat.mod (Nat.div st 1024) 1024)
def shV(st:Nat):Option Nat:=shN (Nat.mod st 1024)
def ztJ:Option Nat->Nat
 |none=>1
 |some n=>n
def atD:List DV->Nat->DV
 | [],_=>.u
 |d::l,i=>bif Nat.beq i 0 then d else atD l (Nat.sub i 1)
def exp(x:List DV):Nat->Nat->List DV
 |0,_=>[]
 |n+1,i=>atD x i::exp x n (Nat.succ i)
def shD(sh:Option Nat)(x:List DV)(i:Nat):DS:=
 match sh with
 |none=>.one (atD x i)
 |some n=>.agg (exp x n i)
def kD(st:Nat)(x:List DV):DS:=shD (shK st) x 0
def vD(st:Nat)(x:List DV):DS:=shD (shV st) x (ztJ (shK st))
structure Nm where
 μ:Nat->Zc
 n:Nat
 fz:BN->Prop
 h:Za
def RepCap(N:Nm):BN×Nat->Nat⊕List DV->Prop
 |p,.inl k=>k<N.n/\N.μ k=.ptr p.1 0/\p.2=0
 |p,.inr xs=>Rep N.fz N.h (.ptr p.1 p.2) (.fp xs 0)
def RepCaps(N:Nm):List (BN×Nat)->List (Nat⊕List DV)->Prop
 | [],[]=>True
 |p::ps,x::xs=>RepCap N p x/\RepCaps N ps xs
 |_,_=>False
def RepPC(N:Nm)(c:Zc):PC->Prop
 | .d v=>Rep N.fz N.h c v
 | .own k=>k<N.n/\c=N.μ k
 | .ptr k off=>k<N.n/\∃b,N.μ k=.ptr b 0/\c=.ptr b off
 | .ep k st i off=>k<N.n/\∃b l cap ex,N.μ k=.slc b 0 l cap ex/\c=.ptr b (i*st+off)/\i<l
 | .ip k off len st i o=>k<N.n/\∃b,N.μ k=.ptr b 0/\c=.ptr b (off+i*st+o)/\i<len
 | .vw k st lo len=>k<N.n/\((N.μ k=.nils/\c=.nils/\lo=0/\len=0)\/∃b l cap ex cap' ex',N.μ k=.slc b 0 l cap ex/\c=.slc b (lo*st) len cap' ex'/\lo+len<=l/\(ex'=true->len<=cap'))
 | .lit k=>k<N.n/\∃b,N.μ k=.slc b 0 0 0 true/\c=.slc b 0 0 0 true
 | .clo f caps=>∃ps,c=.fn f ps/\RepCaps N ps caps
def RepPL(N:Nm):List Zc->List PC->Prop
 | [],[]=>True
 |c::cs,p::ps=>RepPC N c p/\RepPL N cs ps
 |_,_=>False
def RepPV(N:Nm):SVal->PV->Prop
 | .one c,.one p=>RepPC N c p
 | .agg cs,.agg ps=>RepPL N cs ps
 |_,_=>False
def zpZ(N:Nm):List SVal->PV->List DS->Prop
 |w::l,p,ds=>RepPV N w p/\RepSL N.fz N.h l ds
 | [],_,_=>False
def RepPA(N:Nm):Zb->PA->Prop
 |_,.bad=>True
 |v,.undef=>v=zP
 | .s v,.s p=>RepPV N v p
 | .tup l,.tup ds=>RepSL N.fz N.h l ds
 | .tup l,.tl p ds=>zpZ N l p ds
 |_,_=>False
theorem RepPA.of{N:Nm}{v:SVal}{p:PV}(H:RepPV N v p):RepPA N (.s v) (.s p):=H
theorem RepPA.inv{N:Nm}{v:Zb}{p:PV}(H:RepPA N v (.s p)):∃w,v=.s w/\RepPV N w p:=by
 cases v with
 |s v=>exact⟨_,rfl,H⟩
 |tup l=>trivial
def zvp:Zg->Int
 | .normal=>-3
 | .exit id=>(id:Int)+1
 | .ret=>0
def stR:DV->LoopState->Option Zg->Prop
 | .int .i64 n,S,pend=>(n=-1/\S=.ready/\pend=none)\/(n=-2/\S=.busy/\pend=none)\/(S=.done/\∃e,pend=some e/\e≠.normal/\n=zvp e)
 |_,_,_=>False
def RepO(N:Nm)(k:Nat):PO->Prop
 | .box cs=>∃b vs,N.μ k=.ptr b 0/\¬N.fz b/\N.h.t.get b=some (.cells vs 0)/\RepPL N vs cs
 | .arr _ none=>N.μ k=.nils
 | .arr st (some xs)=>∃b vs ex,N.μ k=.slc b 0 xs.length (bif ex then xs.length else 0) ex/\¬N.fz b/\N.h.t.get b=some (.cells vs st)/\vs.length=xs.length*st/\
   ∀(i:Nat) (x:List DV),xs[i]? = some x->x.length=st/\RepL N.fz N.h ((vs.drop (i*st)).take st) x
 | .frz v=>Rep N.fz N.h (N.μ k) v
 | .fbox ds=>∃b,N.μ k=.ptr b 0/\Rep N.fz N.h (.ptr b 0) (.fp ds 0)
 | .mp st xs=>∃b es,N.μ k=.map b/\¬N.fz b/\N.h.t.get b=some (.map es)/\es.length=xs.length/\
   ∀(i:Nat) (e:SVal×SVal) (x:List DV),es[i]? = some e->xs[i]? = some x->RepS N.fz N.h e.1 (kD st x)/\RepS N.fz N.h e.2 (vD st x)
 | .hol none _ _=>False
 | .hol (some xs) n t=>∃b vs ex,N.μ k=.slc b 0 xs.length (bif ex then xs.length else 0) ex/\¬N.fz b/\N.h.t.get b=some (.cells vs 1)/\vs.length=xs.length*1/\n<xs.length/\t<N.n/\N.μ t=.ptr b n/\
   ∀(i:Nat) (x:List DV),i≠n->xs[i]? = some x->x.length=1/\RepL N.fz N.h ((vs.drop (i*1)).take 1) x
 | .lnk m=>m<N.n/\∃b n vs,N.μ k=.ptr b n/\¬N.fz b/\N.h.t.get b=some (.cells vs 1)/\vs[n]? = some (N.μ m)
 | .lop nt ρ ps a b _ st=>∃l S pend lf lt psA ld,N.μ k=.yld l/\¬N.fz l/\N.h.t.get l=some (.loop S pend lf nt lt psA a b ld)/\psA.toList=ps/\stR st S pend/\∀i,RepPA N (zaF (bn i) lt) (ρ i)
 | .dead=>True
def live:PO->Prop
 | .box _=>True
 | .arr _ (some _)=>True
 | .mp _ _=>True
 | .hol _ _ _=>True
 | .lop ..=>True
 |_=>False
def solid:PO->Prop
 | .box _=>True
 | .arr _ (some _)=>True
 | .mp _ _=>True
 | .lop ..=>True
 |_=>False
theorem solid.live{o:PO}(h:solid o):live o:=by
 cases o with
 |box _=>trivial
 |arr _ v=>cases v with
  |none=>exact h
  |some _=>trivial
 |mp _ _=>trivial
 |lop=>trivial
 |_=>trivial
theorem solid.hol{o:PO}(h:solid o)(v:OC)(n t:Nat):o≠.hol v n t:=fun e=>by subst e;exact h
def tied(o:PO):Prop:=live o\/∃m,o=.lnk m
structure Nx (N N':Nm):Prop where
 fg:FG N.fz N.h N'.fz N'.h
 le:N.n<=N'.n
 mu:∀k,k<N.n->N'.μ k=N.μ k
theorem Nx.refl(N:Nm):Nx N N:=⟨FG.refl _ _,LzB _,fun _ _=>rfl⟩
theorem Nx.trans{A B C:Nm}(a:Nx A B)(b:Nx B C):Nx A C:=⟨a.fg.trans b.fg,Yzl a.le b.le,fun k hk=>(b.mu k (Lz9 hk a.le)).trans (a.mu k hk)⟩
section
variable {N N':Nm} (g:Nx N N')
include g
theorem RepCap.mono{p:BN×Nat}{x:Nat⊕List DV}(H:RepCap N p x):RepCap N' p x:=by
 cases x with
 |inl k=>exact⟨Lz9 H.1 g.le,(g.mu k H.1).trans H.2.1,H.2.2⟩
 |inr xs=>exact Rep.mono g.fg H
theorem RepCaps.mono:∀{ps:List (BN×Nat)} {xs:List (Nat⊕List DV)},RepCaps N ps xs->RepCaps N' ps xs
 | [],[],_=>trivial
 |_::_,_::_,H=>⟨RepCap.mono g H.1,RepCaps.mono H.2⟩
 | [],_::_,H=>H.elim
 |_::_,[],H=>H.elim
theorem RepPC.mono{c:Zc}{p:PC}(H:RepPC N c p):RepPC N' c p:=by
 cases p with
 |d v=>exact Rep.mono g.fg H
 |own k=>exact⟨Lz9 H.1 g.le,H.2.trans (g.mu k H.1).symm⟩
 |ptr k off=>obtain⟨h1,b,h2,h3⟩:=H;exact⟨Lz9 h1 g.le,b,(g.mu k h1).trans h2,h3⟩
 |ep k st i off=>obtain⟨h1,b,l,cap,ex,h2,h3,h4⟩:=H;exact⟨Lz9 h1 g.le,b,l,cap,ex,(g.mu k h1).trans h2,h3,h4⟩
 |ip k off len st i o=>obtain⟨h1,b,h2,h3,h4⟩:=H;exact⟨Lz9 h1 g.le,b,(g.mu k h1).trans h2,h3,h4⟩
 |vw k st lo len=>obtain⟨h1,h⟩:=H;exact⟨Lz9 h1 g.le,by rw[g.mu k h1];exact h⟩
 |lit k=>obtain⟨h1,b,h2,h3⟩:=H;exact⟨Lz9 h1 g.le,b,(g.mu k h1).trans h2,h3⟩
 |clo f caps=>obtain⟨ps,h1,h2⟩:=H;exact⟨ps,h1,RepCaps.mono g h2⟩
theorem RepPL.mono:∀{cs:List Zc} {ps:List PC},RepPL N cs ps->RepPL N' cs ps
 | [],[],_=>trivial
 |_::_,_::_,H=>⟨RepPC.mono g H.1,RepPL.mono H.2⟩
 | [],_::_,H=>H.elim
 |_::_,[],H=>H.elim
theorem RepPV.mono{v:SVal}{p:PV}(H:RepPV N v p):RepPV N' v p:=by cases v<;>cases p<;>simp only[RepPV]at H ⊢<;>grind[RepPC.mono,RepPL.mono]
theorem RepPA.mono{v:Zb}{p:PA}(H:RepPA N v p):RepPA N' v p:=by
 cases p with
 |bad=>trivial
 |undef=>trivial
 |s p=>
  obtain⟨w,rfl,h⟩:=H.inv
  grind[of,RepPV.mono]
 |tup ds=>
  cases v with
  |s v=>trivial
  |tup l=>exact RepSL.mono g.fg H
 |tl p ds=>
  cases v with
  |s v=>trivial
  |tup l=>
   cases l with
   |nil=>trivial
   |cons w l=>exact⟨RepPV.mono g H.1,RepSL.mono g.fg H.2⟩
end
theorem RepPL.len{N:Nm}:∀{cs:List Zc} {ps:List PC},RepPL N cs ps->cs.length=ps.length
 | [],[],_=>rfl
 |_::_,_::_,H=>by simp[RepPL.len H.2]
 | [],_::_,H=>H.elim
 |_::_,[],H=>H.elim
theorem RepPL.app{N:Nm}:∀{cs cs':List Zc} {ps ps':List PC},RepPL N cs ps->RepPL N cs' ps'->RepPL N (cs++cs') (ps++ps')
 | [],_,[],_,_,H=>H
 |_::_,_,_::_,_,H,K=>⟨H.1,RepPL.app H.2 K⟩
 | [],_,_::_,_,H,_=>H.elim
 |_::_,_,[],_,H,_=>H.elim
theorem RepPL.take{N:Nm}:∀{cs:List Zc} {ps:List PC} (n:Nat),RepPL N cs ps->RepPL N (cs.take n) (ps.take n)
 |_,_,0,_=>by simp[RepPL]
 | [],[],n+1,_=>by simp[RepPL]
 |_::_,_::_,n+1,H=>⟨H.1,RepPL.take n H.2⟩
 | [],_::_,_+1,H=>H.elim
 |_::_,[],_+1,H=>H.elim
theorem RepPL.drop{N:Nm}:∀{cs:List Zc} {ps:List PC} (n:Nat),RepPL N cs ps->RepPL N (cs.drop n) (ps.drop n)
 |_,_,0,H=>H
 | [],[],n+1,_=>by simp[RepPL]
 |_::_,_::_,n+1,H=>RepPL.drop n H.2
 | [],_::_,_+1,H=>H.elim
 |_::_,[],_+1,H=>H.elim
structure En where
 h0:Za
 ok:BN->Prop
 xp:BN->Prop
def En.nw(E:En)(b:BN):Prop:=E.h0.n.toNat<=b.toNat\/E.xp b
structure GrX (E:En) (h:Za):Prop where
 le:E.h0.n.toNat<=h.n.toNat
 old:∀b:BN,b.toNat<E.h0.n.toNat->¬E.xp b->h.t.get b=E.h0.t.get b
theorem GrX.trans{E:En}{h h':Za}(a:GrX E h)(g:Gr h h'):GrX E h':=⟨Yzl a.le g.le,fun b hb hx=>(g.old b (Lz9 hb a.le)).trans (a.old b hb hx)⟩
theorem GrX.put{E:En}{h:Za}(a:GrX E h){b:BN}{o:Zf}(hb:E.nw b):GrX E (h.put b o):=⟨a.le,fun c hc hx=>(xn _ _ fun e=>by subst e;rcases hb with h|h<;>grind).trans (a.old c hc hx)⟩
structure Zd (E:En) (N:Nm) (os:List PO):Prop where
 hw:HW N.h
 gr:GrX E N.h
 fzlt:∀b,N.fz b->b.toNat<N.h.n.toNat
 fzok:∀b,N.fz b->E.ok b\/E.nw b
 fzex:∀b,N.fz b->b.toNat<E.h0.n.toNat\/∃y,N.h.t.get b=some y
 len:N.n=os.length
 own:∀k b,live (og os k)->blk (N.μ k)=some b->E.nw b
 inj:∀k k' b,live (og os k)->live (og os k')->blk (N.μ k)=some b->blk (N.μ k')=some b->k=k'
 obj:∀k,RepO N k (og os k)
 lnk:∀t m,og os t=.lnk m->∃k v n,og os k=.hol v n t
theorem yZ{N:Nm}{k:Nat}{o:PO}(hl:live o)(H:RepO N k o):∃b x,blk (N.μ k)=some b/\¬N.fz b/\N.h.t.get b=some x:=by
 cases o with
 |box cs=>obtain⟨b,vs,h1,h2,h3,_⟩:=H;exact⟨b,_,by rw[h1];rfl,h2,h3⟩
 |arr st v=>
  rcases v with _|xs
  .trivial
  obtain⟨b,vs,ex,h1,h2,h3,_⟩:=H;exact⟨b,_,by rw[h1];rfl,h2,h3⟩
 |mp st xs=>obtain⟨b,es,h1,h2,h3,_⟩:=H;exact⟨b,_,by rw[h1];rfl,h2,h3⟩
 |lop nt ρ ps a b lbl st=>obtain⟨l,S,pend,lf,lt,psA,ld,h1,h2,h3,_⟩:=H;exact⟨l,_,by rw[h1];rfl,h2,h3⟩
 |hol v n t=>
  rcases v with _|xs
  .trivial
  obtain⟨b,vs,ex,h1,h2,h3,_⟩:=H;exact⟨b,_,by rw[h1];rfl,h2,h3⟩
 |_=>trivial
theorem xf{N:Nm}{k:Nat}{o:PO}(hl:tied o)(H:RepO N k o):∃b x,blk (N.μ k)=some b/\¬N.fz b/\N.h.t.get b=some x:=by
 rcases hl with hl|⟨m,rfl⟩
 .grind[yZ]
 obtain⟨_,b,n,vs,h1,h2,h3,_⟩:=H;exact⟨b,_,by rw[h1];rfl,h2,h3⟩
theorem Zd.lnk_blk{E:En}{N:Nm}{os:List PO}(I:Zd E N os){t m:Nat}(h:og os t=.lnk m):∃k v n,og os k=.hol v n t/\blk (N.μ t)=blk (N.μ k):=by
 obtain⟨k,v,n,hk⟩:=I.lnk t m h;have:=I.obj k;rw[hk]at this;rcases v with _|xs
 .trivial
 obtain⟨b,vs,ex,h1,_,_,_,_,_,h8,_⟩:=this;exact⟨k,_,n,hk,by rw[h1,h8];rfl⟩
theorem RepO.mono{N N':Nm}{k:Nat}{o:PO}(g:Nx N N')(hk:N'.μ k=N.μ k)(hb:tied o->∀b,blk (N.μ k)=some b->¬N'.fz b/\N'.h.t.get b=N.h.t.get b)(H:RepO N k o):RepO N' k o:=by
 cases o with
 |box cs=>obtain⟨b,vs,h1,h2,h3,h4⟩:=H;obtain⟨k1,k2⟩:=hb (.inl trivial) b (by rw[h1];rfl);exact⟨b,vs,hk.trans h1,k1,k2.trans h3,h4.mono g⟩
 |arr st v=>
  rcases v with _|xs
  .exact hk.trans H
  obtain⟨b,vs,ex,h1,h2,h3,h4,h5⟩:=H;obtain⟨k1,k2⟩:=hb (.inl trivial) b (by rw[h1];rfl);exact⟨b,vs,ex,hk.trans h1,k1,k2.trans h3,h4,fun i x hx=>⟨(h5 i x hx).1,(h5 i x hx).2.mono g.fg⟩⟩
 |frz v=>show Rep _ _ _ _;rw[hk];exact Rep.mono g.fg H
 |fbox ds=>obtain⟨b,h1,h2⟩:=H;exact⟨b,hk.trans h1,h2.mono g.fg⟩
 |mp st xs=>obtain⟨b,es,h1,h2,h3,h4,h5⟩:=H;obtain⟨k1,k2⟩:=hb (.inl trivial) b (by rw[h1];rfl);exact⟨b,es,hk.trans h1,k1,k2.trans h3,h4,fun i e x he hx=>⟨(h5 i e x he hx).1.mono g.fg,(h5 i e x he hx).2.mono g.fg⟩⟩
 |hol v n t=>
  rcases v with _|xs
  .exact H
  obtain⟨b,vs,ex,h1,h2,h3,h4,h5,h6,h7,h8⟩:=H;obtain⟨k1,k2⟩:=hb (.inl trivial) b (by rw[h1];rfl);exact⟨b,vs,ex,hk.trans h1,k1,k2.trans h3,h4,h5,Lz9 h6 g.le,(g.mu t h6).trans h7,fun i x hi hx=>⟨(h8 i x hi hx).1,(h8 i x hi hx).2.mono g.fg⟩⟩
 |lnk m=>obtain⟨h0,b,n,vs,h1,h2,h3,h4⟩:=H;obtain⟨k1,k2⟩:=hb (.inr ⟨m,rfl⟩) b (by rw[h1];rfl);exact⟨Lz9 h0 g.le,b,n,vs,hk.trans h1,k1,k2.trans h3,by rw[g.mu m h0];exact h4⟩
 |lop nt ρ ps a b lbl st=>obtain⟨l,S,pend,lf,lt,psA,ld,h1,h2,h3,h4,h5,h6⟩:=H;obtain⟨k1,k2⟩:=hb (.inl trivial) l (by rw[h1];rfl);exact⟨l,S,pend,lf,lt,psA,ld,hk.trans h1,k1,k2.trans h3,h4,h5,fun i=>(h6 i).mono g⟩
 |dead=>trivial
def upd(μ:Nat->Zc)(k:Nat)(c:Zc):Nat->Zc:=fun j=>if j=k then c else μ j
theorem Zd.new{E:En}{N:Nm}{os:List PO}(I:Zd E N os)(x:Zf)(o:PO)(c:Zc)(hc:blk c=some N.h.n)
  (ho:RepO ⟨upd N.μ os.length c,os.length+1,N.fz,N.h.new x⟩ os.length o) (hnl:∀m,o≠.lnk m:=by intro m h;cases h):
  Zd E ⟨upd N.μ os.length c,os.length+1,N.fz,N.h.new x⟩ (os++[o])/\Nx N ⟨upd N.μ os.length c,os.length+1,N.fz,N.h.new x⟩/\
   (∀b y,N.h.t.get b=some y->(N.h.new x).t.get b=some y):=by
 have G:=Gr.new N.h x;have old:∀b y,N.h.t.get b=some y->(N.h.new x).t.get b=some y:=fun b y hy=>G.get I.hw hy;have nx:Nx N ⟨upd N.μ os.length c,os.length+1,N.fz,N.h.new x⟩:=⟨⟨fun _ _ h _=>h,fun b y _ hy=>old b y hy⟩,by have:=I.len;grind,fun k hk=>by
  have:=I.len;show (if k=os.length then c else N.μ k)=_
  grind⟩
 have mu:∀k,k≠os.length->upd N.μ os.length c k=N.μ k:=fun k hk=>by show (if k=os.length then c else N.μ k)=_;rw[Yzb hk]
 have muL:upd N.μ os.length c os.length=c:=by show (if os.length=os.length then c else _)=_;simp
 have lt:∀k b,live (og os k)->blk (N.μ k)=some b->b.toNat<N.h.n.toNat:=fun k b hl hb=>by obtain⟨b',x',h1,_,h3⟩:=yZ hl (I.obj k);rw[h1]at hb;cases hb;exact I.hw _ _ h3
 refine⟨⟨I.hw.new x,I.gr.trans G,fun b hb=>Lz9 (I.fzlt b hb) G.le,I.fzok,fun b hb=>(I.fzex b hb).imp id fun⟨y,hy⟩=>⟨y,old b y hy⟩,by simp,?_,?_,?_,?_⟩,nx,old⟩
 .intro k b hl hb;rw[yI]at hl;by_cases hk:k=os.length
  .subst hk;rw[show (Nm.mk (upd N.μ os.length c) (os.length+1) N.fz (N.h.new x)).μ os.length=c from muL,hc]at hb;cases hb;exact .inl I.gr.le
  rw[Yzb hk]at hl;rw[show (Nm.mk (upd N.μ os.length c) (os.length+1) N.fz (N.h.new x)).μ k=N.μ k from mu k hk]at hb;exact I.own k b hl hb
 .intro k k' b hl hl' hb hb';rw[yI]at hl hl';simp only at hb hb';by_cases hk:k=os.length<;>by_cases hk':k'=os.length
  .omega
  .grind
  .grind
  rw[Yzb hk]at hl;rw[Yzb hk']at hl';rw[mu k hk]at hb;rw[mu k' hk']at hb';exact I.inj k k' b hl hl' hb hb'
 .intro k;rw[yI];by_cases hk:k=os.length
  .grind
  rw[Yzb hk];refine (I.obj k).mono nx (mu k hk) fun hl b hb=>?_;obtain⟨b',x',h1,h2,h3⟩:=xf hl (I.obj k)
  grind
 intro t m ht;rw[yI]at ht;by_cases hk:t=os.length
 .grind
 rw[Yzb hk]at ht;obtain⟨k,v,n,h⟩:=I.lnk t m ht;have hl:k<os.length:=wF (by grind);exact⟨k,v,n,by rw[yI,Yzb (by omega)];exact h⟩
theorem Zd.put{E:En}{N:Nm}{os:List PO}(I:Zd E N os){k:Nat}(hs:solid (og os k)){b:BN}(hb:blk (N.μ k)=some b)(x:Zf)(o:PO)
  (ho:RepO ⟨N.μ,N.n,N.fz,N.h.put b x⟩ k o) (hnl:∀m,o≠.lnk m:=by intro m h;cases h):Zd E ⟨N.μ,N.n,N.fz,N.h.put b x⟩ (oset o os k)/\Nx N ⟨N.μ,N.n,N.fz,N.h.put b x⟩/\(∀b' y,N.h.t.get b'=some y->b'≠b->(N.h.put b x).t.get b'=some y):=by
 have hl:=hs.live;obtain⟨b0,x0,h1,h2,h3⟩:=yZ hl (I.obj k);rw[h1]at hb;cases hb;have hk:k<os.length:=wF (by intro e;rw[e]at hl;exact hl);have old:∀b' y,N.h.t.get b'=some y->b'≠b->(N.h.put b x).t.get b'=some y:=fun b' y hy hne=>by grind[xn]
 have nx:Nx N ⟨N.μ,N.n,N.fz,N.h.put b x⟩:=⟨⟨fun _ _ h _=>h,fun b' y hf hy=>old b' y hy (fun e=>h2 (e▸hf))⟩,LzB _,fun _ _=>rfl⟩;refine⟨⟨HW.put I.hw h3,I.gr.put (I.own k b hl h1),I.fzlt,I.fzok,fun b' hb'=>(I.fzex b' hb').imp id fun⟨y,hy⟩=>⟨y,old b' y hy (fun e=>h2 (e▸hb'))⟩,I.len.trans (zX o os k).symm,?_,?_,?_,?_⟩,nx,old⟩
 .intro j b' hl' hb';by_cases hj:j=k
  .subst hj;exact I.own j b' hl hb'
  rw[zw,Yzb (fun e=>hj e.1)]at hl';exact I.own j b' hl' hb'
 .intro j j' b' hl1 hl2 hb1 hb2;have t:∀i,live (og (oset o os k) i)->live (og os i):=fun i hi=>by
   grind[zw]
  exact I.inj j j' b' (t j hl1) (t j' hl2) hb1 hb2
 .intro j;by_cases hj:j=k
  .subst hj;rw[zw,Yzd ⟨rfl,hk⟩];exact ho
  rw[zw,Yzb (fun e=>hj e.1)];refine (I.obj j).mono nx rfl fun hlj b' hb'=>?_;obtain⟨b1,x1,k1,k2,k3⟩:=xf hlj (I.obj j);rw[k1]at hb';cases hb';have hne:b'≠b:=fun e=>by
   rcases hlj with hlj|⟨m,hm⟩
   .exact hj (I.inj j k b' hlj hl k1 (by grind))
   obtain⟨k',v,n,q1,q2⟩:=I.lnk_blk hm;have:=I.inj k' k b' (by rw[q1];trivial) hl (by grind) (by grind);subst this;exact hs.hol v n j q1
  grind
 intro t m ht;rw[zw]at ht;split at ht
 .grind
 obtain⟨k',v,n,h⟩:=I.lnk t m ht;exact⟨k',v,n,by rw[zw,Yzb (fun e=>hs.hol v n t (by grind))];exact h⟩
theorem Zd.freeze{E:En}{N:Nm}{os:List PO}(I:Zd E N os){k:Nat}(hs:solid (og os k)){b:BN}(hb:blk (N.μ k)=some b)(o:PO)(hno:¬live o)
  (ho:RepO ⟨N.μ,N.n,fun b'=>N.fz b'\/b'=b,N.h⟩ k o) (hnl:∀m,o≠.lnk m:=by intro m h;cases h):Zd E ⟨N.μ,N.n,fun b'=>N.fz b'\/b'=b,N.h⟩ (oset o os k)/\Nx N ⟨N.μ,N.n,fun b'=>N.fz b'\/b'=b,N.h⟩:=by
 have hl:=hs.live;obtain⟨b0,x0,h1,h2,h3⟩:=yZ hl (I.obj k);rw[h1]at hb;cases hb;have hk:k<os.length:=wF (by intro e;rw[e]at hl;exact hl);have nx:Nx N ⟨N.μ,N.n,fun b'=>N.fz b'\/b'=b,N.h⟩:=⟨⟨fun _ _ h _=>.inl h,fun _ _ _ hy=>hy⟩,LzB _,fun _ _=>rfl⟩;have t:∀i,live (og (oset o os k) i)->i≠k/\live (og os i):=fun i hi=>by
  by_cases hj:i=k
  .subst hj;rw[zw,Yzd ⟨rfl,hk⟩]at hi;trivial
  simp_all[zw]
 refine⟨⟨I.hw,I.gr,fun b' hb'=>hb'.elim (I.fzlt b') (fun e=>by rw[e];exact I.hw _ _ h3),fun b' hb'=>hb'.elim (I.fzok b') (fun e=>.inr (by rw[e];exact I.own k b hl h1)),fun b' hb'=>hb'.elim (I.fzex b') (fun e=>.inr ⟨x0,by grind⟩),I.len.trans (zX o os k).symm,?_,?_,?_,?_⟩,nx⟩
 .intro j b' hl' hb';exact I.own j b' (t j hl').2 hb'
 .intro j j' b' hl1 hl2 hb1 hb2;exact I.inj j j' b' (t j hl1).2 (t j' hl2).2 hb1 hb2
 .intro j;by_cases hj:j=k
  .subst hj;rw[zw,Yzd ⟨rfl,hk⟩];exact ho
  rw[zw,Yzb (fun e=>hj e.1)];refine (I.obj j).mono nx rfl fun hlj b' hb'=>?_;obtain⟨b1,x1,k1,k2,k3⟩:=xf hlj (I.obj j);rw[k1]at hb';cases hb';refine⟨fun e=>e.elim k2 (fun e=>?_),rfl⟩;rcases hlj with hlj|⟨m,hm⟩
  .exact hj (I.inj j k b' hlj hl k1 (by grind))
  obtain⟨k',v,n,q1,q2⟩:=I.lnk_blk hm;have:=I.inj k' k b' (by rw[q1];trivial) hl (by grind) (by grind);subst this;exact hs.hol v n j q1
 intro t' m ht;rw[zw]at ht;split at ht
 .grind
 obtain⟨k',v,n,h⟩:=I.lnk t' m ht;exact⟨k',v,n,by rw[zw,Yzb (fun e=>hs.hol v n t' (by grind))];exact h⟩
theorem Zd.turn{E:En}{N:Nm}{os:List PO}(I:Zd E N os)(k:Nat)(o:PO)(hno:¬live o)(ho:RepO N k o)(hnh:∀v n t,og os k≠.hol v n t)(hnl:∀m,o≠.lnk m:=by intro m h;cases h):Zd E N (oset o os k):=by
 have t:∀i,live (og (oset o os k) i)->live (og os i):=fun i hi=>by grind[zw]
 refine⟨I.hw,I.gr,I.fzlt,I.fzok,I.fzex,I.len.trans (zX o os k).symm,fun j b' hl' hb'=>I.own j b' (t j hl') hb',fun j j' b' hl1 hl2 hb1 hb2=>I.inj j j' b' (t j hl1) (t j' hl2) hb1 hb2,fun j=>?_,fun j m hm=>?_⟩
 .rw[zw];split
  .grind
  exact I.obj j
 rw[zw]at hm;split at hm
 .grind
 obtain⟨k',v,n,h⟩:=I.lnk j m hm;exact⟨k',v,n,by rw[zw,Yzb (fun e=>hnh v n j (by grind))];exact h⟩
end Go.PE
end
section
namespace Go.PE
open Go Go.CE
def oD:Option Zc->Option DV
 |some (.int k n)=>some (.int k n)
 |some (.bool b)=>some (.bool b)
 |some (.str s)=>some (.str s)
 |_=>none
def zg(op:BinOp):DV->DV->Option DV
 | .int k a,.int k' b=>bif eqK k k' then oD (uk op k a b) else none
 |_,_=>none
def vQ(l:Bool):DV->DV->Option DV
 | .int k a,.int _ b=>oD ((bif l then zeK else zhs) k a b)
 |_,_=>none
def zgv(op:BinOp):DV->DV->Option DV
 | .str a,.str b=>oD (zpG op a b)
 |_,_=>none
def eqD:Nat->DV->DV->Option Bool
 |1,.int k a,.int k' b=>bif eqK k k' then some (eqI a b) else none
 |2,.str a,.str b=>some (a.data.toList==b.data.toList)
 |0,.bool a,.bool b=>some (a==b)
 |_,_,_=>none
def zn9:List Nat->List DV->List DV->Option Bool
 | [],[],[]=>some true
 |k::ks,x::xs,y::ys=>
  match eqD k x y with
  |some true=>zn9 ks xs ys
  |some false=>some false
  |none=>none
 |_,_,_=>none
def zec:DV->Option DV
 | .bool q=>some (.bool (!q))
 |_=>none
def zua:DV->Option DV
 | .int k n=>some (.int k (xZ k (Int.sub 0 n)))
 |_=>none
def zZ(k:IntKind):DV->Option DV
 | .int _ n=>some (.int k (xZ k n))
 |_=>none
def zro:DV->DV->DV->Option DV
 | .bool q,a,b=>some (bif q then a else b)
 |_,_,_=>none
def zed:DV->Option Bool
 | .nils=>some true
 | .lst _ _=>some false
 |_=>none
def uh(st:Nat):DV->DV->Option (List DV)
 | .lst st' xs,.int _ (.ofNat i)=>bif Nat.beq st st' then xs[i]? else none
 |_,_=>none
def yn(v:OC):DV->Option Nat
 | .int _ (.ofNat i)=>match v with|some xs=>bif Nat.ble (Nat.succ i) xs.length then some i else none|none=>none
 |_=>none
def j4(len:Nat):DV->Option Nat
 | .int _ (.ofNat i)=>bif Nat.ble (Nat.succ i) len then some i else none
 |_=>none
def kX(x:Option DV)(d y:Nat):Option Nat:=
 match x with
 |none=>some d
 |some (.int _ (.ofNat i))=>bif Nat.ble i y then some i else none
 |_=>none
def u1(st:Nat)(v:DV)(lo hi:Option DV):Option DV:=
 match v with
 | .nils=>match kX hi 0 0,kX lo 0 0 with|some _,some _=>some .nils|_,_=>none
 | .lst st' xs=>
  bif Nat.beq st st' then
   match kX hi xs.length xs.length with
   |some hh=>
    match kX lo 0 hh with
    |some l=>bif Nat.beq l 0 || !Nat.beq l xs.length then some (.lst st ((xs.drop l).take (hh-l))) else none
    |none=>none
   |none=>none
  else none
 |_=>none
def zqO(lo:Option DV)(hi mx:DV)(y:Nat):Option (Nat×Nat):=
 match kX (some mx) 0 y with
 |some m=>
  match kX (some hi) 0 m with
  |some hh=>
   match kX lo 0 hh with
   |some l=>bif Nat.beq l hh then none else some (l,hh-l)
   |none=>none
  |none=>none
 |none=>none
def zbH(st:Nat)(v:DV)(lo:Option DV)(hi mx:DV):Option DV:=
 match v with
 | .lst st' xs=>bif Nat.beq st st' then(match zqO lo hi mx xs.length with|some p=>some (.lst st ((xs.drop p.1).take p.2))|none=>none) else none
 |_=>none
def vwB(lo hi:Option DV)(y:Nat):Option (Nat×Nat):=
 match kX hi y y with
 |some hh=>
  match kX lo 0 hh with
  |some l=>bif Nat.beq l 0 || !Nat.beq l hh then some (l,hh-l) else none
  |none=>none
 |none=>none
def zgW(st lo len:Nat):DV->DV
 | .nils=>.nils
 | .lst st' xs=>bif Nat.beq st st' then .lst st' ((xs.drop lo).take len) else .u
 |_=>.u
def xl:DV->Option DV
 | .nils=>some (.int .i64 (.ofNat 0))
 | .lst _ xs=>some (.int .i64 (.ofNat xs.length))
 |_=>none
def xu:OC->Nat
 |none=>0
 |some xs=>xs.length
def zj7:DV->Option DV
 | .str s=>some (.int .i64 (.ofNat s.size))
 |_=>none
def zhS:List UInt8->Nat->Option DV
 | [],_=>none
 |c::cs,i=>bif Nat.beq i 0 then some (.int .u8 (.ofNat c.toNat)) else zhS cs (Nat.sub i 1)
def zaJ:DV->DV->Option DV
 | .str s,.int _ (.ofNat i)=>zhS s.data.toList i
 |_,_=>none
def zgX(v:DV)(lo hi:Option DV):Option DV:=
 match v with
 | .str s=>
  match kX hi s.size s.size with
  |some hh=>
   match kX lo 0 hh with
   |some l=>some (.str (s.extract l hh))
   |none=>none
  |none=>none
 |_=>none
def vR(st:Nat):DV->Option (List (List DV))
 | .nils=>some []
 | .lst st' xs=>bif Nat.beq st st' then some xs else none
 |_=>none
def zL:OC->List (List DV)
 |none=>[]
 |some xs=>xs
def zT(v:OC)(new:List (List DV)):OC:=
 match new with
 | []=>v
 |x::l=>some (zL v++(x::l))
def zkb:List (List DV)->Option (List Int)
 | []=>some []
 | [.int .u8 n]::cs=>match zkb cs with|some l=>some (n::l)|none=>none
 |_=>none
def zgw:DV->Option DV
 | .nils=>some (.str ByteArray.empty)
 | .lst 1 xs=>match zkb xs with|some ns=>some (.str (jY ns ByteArray.empty))|none=>none
 |_=>none
def minD(isMax:Bool)(k:IntKind):List DV->Int->Option Int
 | [],x=>some x
 | .int k' y::r,x=>bif eqK k k' then minD isMax k r (bif isMax then(bif ltI x y then y else x) else(bif ltI y x then y else x)) else none
 |_::_,_=>none
def uG(isMax:Bool)(v:DV)(l:List DV):Option DV:=
 match v with
 | .int k n=>match minD isMax k l n with|some m=>some (.int k m)|none=>none
 |_=>none
def j5(v:OC)(i:Nat):Option (List DV):=match v with|some xs=>xs[i]? |none=>none
def uV(st:Nat)(v:OC)(i off:Nat)(ds:List DV):Option OC:=
 match v with
 |some xs=>
  match xs[i]? with
  |some x=>bif Nat.ble (off+ds.length) st then some (some (xs.set i (x.take off++ds++x.drop (off+ds.length)))) else none
  |none=>none
 |none=>none
section
variable {α β:Type}
def za(o:Option α)(k:α->Option β):Option β:=match o with|some a=>k a|none=>none
def ifB(v:DV)(a b:Option β):Option β:=match v with | .bool q=>bif q then a else b|_=>none
def gd(b:Bool)(k:Option β):Option β:=bif b then k else none
def gdN(v:DV)(k:Option β):Option β:=match v with | .nils=>k|_=>none
def w1(a:Option PA)(k:PC->Option β):Option β:=match a with|some (.s (.one c))=>k c|_=>none
def wd(a:Option PA)(k:DV->Option β):Option β:=match a with|some (.s (.one (.d v)))=>k v|_=>none
inductive Sh where
 |one
 |agg (n:Nat)
 |tup (l:List (Option Nat))
 |no
 |sc
 |tsc (n:Nat)
def b1(r:Option DA)(k:DV->Option β):Option β:=match r with|some (.s (.one d))=>k d|_=>none
def bA(n:Nat)(r:Option DA)(k:List DV->Option β):Option β:=match r with|some (.s (.agg l))=>bif Nat.beq l.length n then k l else none|_=>none
def okT:List (Option Nat)->List DS->Bool
 | [],[]=>true
 |none::shs,.one _::l=>okT shs l
 |some n::shs,.agg ds::l=>Nat.beq ds.length n&&okT shs l
 |_,_=>false
def bT(shs:List (Option Nat))(r:Option DA)(k:List DS->Option β):Option β:=match r with|some (.tup l)=>bif okT shs l then k l else none|_=>none
def bN(r:Option DA)(k:Option β):Option β:=match r with|some _=>k|none=>none
def zoy:DV->Bool
 | .bool _=>true
 | .int _ _=>true
 | .str _=>true
 |_=>false
def zls:List DS->Bool
 | []=>true
 | .one d::l=>zoy d&&zls l
 |_::_=>false
def zfB:Nat->List (Option Nat)
 |0=>[]
 |n+1=>none::zfB n
def b1s(r:Option DA)(k:DV->Option β):Option β:=match r with|some (.s (.one d))=>bif zoy d then k d else none|_=>none
def bTs(n:Nat)(r:Option DA)(k:List DS->Option β):Option β:=match r with|some (.tup l)=>bif okT (zfB n) l&&zls l then k l else none|_=>none
def wX:List DS->Nat->DS
 | [],_=>.one .u
 |d::l,i=>bif Nat.beq i 0 then d else wX l (Nat.sub i 1)
def dsO:DS->DV
 | .one d=>d
 | .agg _=>.u
def dsA:DS->List DV
 | .agg l=>l
 | .one _=>[]
def za6(l:List DS):List (Option Nat)->Nat->List DS
 | [],_=>[]
 |none::shs,i=>.one (dsO (wX l i))::za6 l shs (Nat.succ i)
 |some n::shs,i=>.agg (exp (dsA (wX l i)) n 0)::za6 l shs (Nat.succ i)
end
def cD:Zc->Option DV
 | .bool b=>some (.bool b)
 | .int k n=>some (.int k n)
 | .str s=>some (.str s)
 | .nilp=>some .nilp
 | .nils=>some .nils
 | .nilm=>some .nilm
 | .nilf=>some .nilf
 | .nili=>some .nili
 | .fn f []=>some (.fn f [])
 |_=>none
def cDs:List Zc->Option (List PC)
 | []=>some []
 |c::cs=>
  match cD c,cDs cs with
  |some d,some ds=>some (.d d::ds)
  |_,_=>none
def pvS:SVal->Option PV
 | .one c=>match cD c with|some d=>some (.one (.d d))|none=>none
 | .agg cs=>match cDs cs with|some ds=>some (.agg ds)|none=>none
def pv(ρ:Nat->PA):Operand->Option PA
 | .tmp t=>some (ρ t)
 | .const v=>match znz v with|some s=>(match pvS s with|some p=>some (.s p)|none=>none)|none=>none
 | .func f=>some (.s (.one (.d (.fn f []))))
 | .global _=>none
def pvs(ρ:Nat->PA):List Operand->Option (List PA)
 | []=>some []
 |x::xs=>
  match pv ρ x,pvs ρ xs with
  |some a,some l=>some (a::l)
  |_,_=>none
def pvo(ρ:Nat->PA):Option Operand->Option (Option DV)
 |none=>some none
 |some x=>match pv ρ x with|some (.s (.one (.d v)))=>some (some v)|_=>none
def pvd(ρ:Nat->PA):List Operand->Option (List DV)
 | []=>some []
 |x::xs=>
  match pv ρ x,pvd ρ xs with
  |some (.s (.one (.d v))),some l=>some (v::l)
  |_,_=>none
def zfS(ρ:Nat->PA):List (Nat×Nat×Operand)->List PC->Option (List PC)
 | [],cs=>some cs
 |(off,size,x)::rest,cs=>
  match pv ρ x with
  |some (.s v)=>bif Nat.beq v.cells.length size&&Nat.ble (off+size) cs.length then zfS ρ rest (cs.take off++v.cells++cs.drop (off+size)) else none
  |_=>none
mutual
def frC(lk:Nat->Bool):Nat->List PO->PC->Option (List PO×DV)
 |_,os,.d v=>some (os,v)
 |_,os,.own k=>
  match og os k with
  | .frz v=>some (os,v)
  | .arr st v=>bif lk k then none else some (oset (.frz (mkL st v)) os k,mkL st v)
  |_=>none
 |n+1,os,.ptr k off=>
  match og os k with
  | .fbox ds=>some (os,.fp ds off)
  | .box cs=>
   bif lk k then none else
   match frL lk n os cs with
   |some (os',ds)=>
    match og os' k with
    | .box cs'=>bif Nat.beq cs'.length cs.length then some (oset (.fbox ds) os' k,.fp ds off) else none
    |_=>none
   |none=>none
  |_=>none
 |_+1,os,.vw k st lo len=>
  match og os k with
  | .frz v=>some (os,zgW st lo len v)
  | .arr st' v=>bif lk k then none else some (oset (.frz (mkL st' v)) os k,zgW st lo len (mkL st' v))
  |_=>none
 |n+1,os,.clo f caps=>
  match frK lk n os caps with
  |some (os',l)=>some (os',.fn f l)
  |none=>none
 |_,_,_=>none
def frL(lk:Nat->Bool):Nat->List PO->List PC->Option (List PO×List DV)
 |_,os,[]=>some (os,[])
 |n,os,c::cs=>
  match n with
  |0=>none
  |n+1=>
   match frC lk n os c with
   |some (os',d)=>
    match frL lk n os' cs with
    |some (os'',ds)=>some (os'',d::ds)
    |none=>none
   |none=>none
def frK(lk:Nat->Bool):Nat->List PO->List (Nat⊕List DV)->Option (List PO×List (List DV))
 |_,os,[]=>some (os,[])
 |n,os,c::cs=>
  match n with
  |0=>none
  |n+1=>
   match (match c with | .inl k=>frC lk n os (.ptr k 0) | .inr xs=>some (os,.fp xs 0)) with
   |some (os',.fp x 0)=>
    match frK lk n os' cs with
    |some (os'',xs)=>some (os'',x::xs)
    |none=>none
   |_=>none
end
def yP:Nat:=100
def frV(lk:Nat->Bool)(os:List PO):PV->Option (List PO×DS)
 | .one c=>match frC lk yP os c with|some (os',d)=>some (os',.one d)|none=>none
 | .agg cs=>match frL lk yP os cs with|some (os',ds)=>some (os',.agg ds)|none=>none
def frA(lk:Nat->Bool)(os:List PO):List PA->Option (List PO×List DA)
 | []=>some (os,[])
 | .s v::l=>
  match frV lk os v with
  |some (os',d)=>
   match frA lk os' l with
   |some (os'',ds)=>some (os'',.s d::ds)
   |none=>none
  |none=>none
 |_::_=>none
abbrev KT(β:Type):=PA->List PO->List Nat->List Nat->Option β
abbrev Orc:=Nat->List DA->Option DA
abbrev und:PA:=.bad
abbrev pd(v:DV):PA:=.s (.one (.d v))
abbrev pc(c:PC):PA:=.s (.one c)
def zkO(O:Orc)(v:DV)(ds:List DA):Option DA:=
 match v with
 | .fn g caps=>O g (ds++caps.map fun x=>.s (.one (.fp x 0)))
 |_=>none
def mkN(bytes:Nat)(l c:DV):Option Nat:=
 match l,c with
 | .int _ (.ofNat l),.int _ (.ofNat c)=>bif Nat.beq l c&&Nat.ble c 1073741824&&Nat.ble (bytes*c) 281474976710656 then some l else none
 |_,_=>none
def zwR:DV->Option DV
 | .str s=>some (.lst 1 (s.data.toList.map fun c=>[.int .u8 (.ofNat c.toNat)]))
 |_=>none
def chunks(st:Nat):Nat->List DV->List (List DV)
 |0,_=>[]
 |n+1,ds=>ds.take st::chunks st n (ds.drop st)
def zkP:List PC->Option (List DV)
 | []=>some []
 | .d v::cs=>match zkP cs with|some l=>some (v::l)|none=>none
 |_=>none
def zwb(cs:List PC)(st:Nat):Nat->Nat->Option (List DV)
 |0,_=>some []
 |n+1,off=>
  match cs[off]?,zwb cs st n (off+st) with
  |some (.d v),some l=>some (v::l)
  |_,_=>none
def ipC(cs:List PC)(st len i:Nat):Nat->Nat->Option (List PC)
 |0,_=>some []
 |m+1,off=>
  match zwb cs st len off,ipC cs st len i m (Nat.succ off) with
  |some l,some r=>some (.d (atD l i)::r)
  |_,_=>none
def za1{β:Type}(n:Option Nat)(cs:List PC)(off:Nat)(k:PV->Option β):Option β:=
 match n with
 |none=>za cs[off]? fun c=>k (.one c)
 |some m=>bif Nat.ble (off+m) cs.length then k (.agg ((cs.drop off).take m)) else none
def zfs{β:Type}(n:Option Nat)(cs:List PC)(off:Nat)(k:PV->Option β):Option β:=
 match n with
 |some 0=>none
 |n=>za1 n cs off k
def znw(ρ:Nat->PA):List Operand->Option (List (Nat⊕List DV))
 | []=>some []
 |x::xs=>
  match pv ρ x,znw ρ xs with
  |some (.s (.one (.ptr k 0))),some l=>some (.inl k::l)
  |some (.s (.one (.d (.fp y 0)))),some l=>some (.inr y::l)
  |_,_=>none
def bSh{β:Type}(sh:Sh)(r:Option DA)(k:PA->Option β):Option β:=
 match sh with
 | .one=>b1 r fun d=>k (pd d)
 | .agg n=>bA n r fun l=>k (.s (.agg ((exp l n 0).map .d)))
 | .tup shs=>bT shs r fun l=>k (.tup (za6 l shs 0))
 | .no=>bN r (k und)
 | .sc=>b1 r fun d=>k (pd d)
 | .tsc n=>bT (zfB n) r fun l=>k (.tup (za6 l (zfB n) 0))
def ztp{β:Type}(sh:Sh)(r:Option DA)(k:PA->Option β):Option β:=
 match sh with
 | .sc=>b1s r fun d=>k (pd d)
 | .tsc n=>bTs n r fun l=>k (.tup (za6 l (zfB n) 0))
 |_=>none
def zwx:Sh->Bool
 | .sc=>true
 | .tsc _=>true
 |_=>false
def lvO:PO->Bool
 | .box _=>true
 | .arr _ _=>true
 | .mp _ _=>true
 |_=>false
def zwq(os:List PO):List (Nat⊕List DV)->Bool
 | []=>false
 | .inl k::l=>lvO (og os k)||zwq os l
 | .inr _::l=>zwq os l
def zvQ(os:List PO):PC->Bool
 | .own k=>lvO (og os k)
 | .ptr k _=>lvO (og os k)
 | .vw k _ _ _=>lvO (og os k)
 | .clo _ caps=>zwq os caps
 |_=>false
def zx4(os:List PO):List PC->Bool
 | []=>false
 |c::l=>zvQ os c||zx4 os l
def ztC(os:List PO):List PA->Bool
 | []=>false
 | .s v::l=>zx4 os v.cells||ztC os l
 |_::l=>ztC os l
def zwt{β:Type}(os:List PO)(st:Nat)(c:PC)(k:List (List DV)->Option β):Option β:=
 match c with
 | .d v=>za (vR st v) k
 | .own j=>
  match og os j with
  | .arr st' v=>bif Nat.beq st st' then k (zL v) else none
  | .frz v=>za (vR st v) k
  |_=>none
 |_=>none
variable {β:Type}
def zlW(os:List PO)(n:Option Nat)(c:PC)(k:KT β):Option β:=
 match c with
 | .ptr j off=>
  match og os j with
  | .box cs=>za1 n cs off fun v=>k (.s v) os [] [j]
  | .fbox ds=>zfs n (ds.map .d) off fun v=>k (.s v) os [] [j]
  |_=>none
 | .d (.fp xs off)=>zfs n (xs.map .d) off fun v=>k (.s v) os [] []
 | .ep j st i off=>
  match og os j with
  | .arr st' v=>bif Nat.beq st st' then za (j5 v i) fun x=>za1 n ((exp x st 0).map .d) off fun v=>k (.s v) os [] [j] else none
  | .hol _ hn t=>
   match n with
   |none=>
    match og os t with
    | .lnk m=>bif Nat.beq st 1&&Nat.beq off 0 then gd (Nat.beq i hn) (k (pc (.own m)) os [] [j]) else none
    |_=>none
   |some _=>none
  |_=>none
 | .ip j off len st i o=>
  match og os j with
  | .box cs=>
   match n with
   |none=>za (ipC cs st len i 1 (off+o)) fun l=>match l with | [c]=>k (pc c) os [] [j]|_=>none
   |some m=>bif Nat.beq m 0 then none else za (ipC cs st len i m (off+o)) fun l=>k (.s (.agg l)) os [] [j]
  |_=>none
 |_=>none
def zlV(lk:Nat->Bool)(os:List PO)(n:Nat)(c:PC)(v:PV)(k:KT β):Option β:=
 bif Nat.beq v.cells.length n then
  match c with
  | .ptr j off=>
   match og os j with
   | .box cs=>bif lk j then none else bif Nat.ble (off+n) cs.length then k und (oset (.box (cs.take off++v.cells++cs.drop (off+n))) os j) [j] [] else none
   |_=>none
  | .ip j off _len st i o=>
   match og os j with
   | .box cs=>bif lk j then none else bif Nat.ble (off+i*st+o+n) cs.length then k und (oset (.box (cs.take (off+i*st+o)++v.cells++cs.drop (off+i*st+o+n))) os j) [j] [] else none
   |_=>none
  | .ep j st i off=>
   match og os j with
   | .hol _ hn t=>
    match v with
    | .one (.own m)=>
     match og os t with
     | .lnk _=>bif lk t then none else bif Nat.beq st 1&&Nat.beq off 0 then gd (Nat.beq i hn) (k und (oset (.lnk m) os t) [j] []) else none
     |_=>none
    |_=>none
   |_=>
   bif lk j then none else
   za (frL lk yP os v.cells) fun p=>
   match og p.1 j with
   | .arr st' w=>bif Nat.beq st st' then za (uV st w i off p.2) fun w'=>k und (oset (.arr st w') p.1 j) [j] [] else none
   |_=>none
  |_=>none
 else none
def zud(os:List PO)(st:Nat)(c:PC)(i:DV)(k:KT β):Option β:=
 match c with
 | .d v=>za (uh st v i) fun x=>k (pd (.fp (exp x st 0) 0)) os [] []
 | .own j=>
  match og os j with
  | .frz v=>za (uh st v i) fun x=>k (pd (.fp (exp x st 0) 0)) os [] []
  | .arr st' v=>bif Nat.beq st st' then za (yn v i) fun n=>k (pc (.ep j st n 0)) os [] [] else none
  | .hol v _ _=>bif Nat.beq st 1 then za (yn v i) fun n=>k (pc (.ep j st n 0)) os [] [] else none
  |_=>none
 | .vw j st' lo len=>
  match og os j with
  | .frz v=>za (uh st (zgW st' lo len v) i) fun x=>k (pd (.fp (exp x st 0) 0)) os [] []
  | .arr _ _=>bif Nat.beq st st' then za (j4 len i) fun n=>k (pc (.ep j st (lo+n) 0)) os [] [] else none
  |_=>none
 |_=>none
def zea(os:List PO)(st:Nat)(c:PC)(lo hi:Option DV)(k:KT β):Option β:=
 match c with
 | .own j=>
  match og os j with
  | .arr st' v=>bif Nat.beq st st' then za (vwB lo hi (xu v)) fun p=>k (pc (.vw j st p.1 p.2)) os [] [] else none
  | .frz v=>za (u1 st v lo hi) fun z=>k (pd z) os [] []
  |_=>none
 | .vw j st' l n=>bif Nat.beq st st' then za (vwB lo hi n) fun p=>k (pc (.vw j st (l+p.1) p.2)) os [] [] else none
 | .d v=>za (u1 st v lo hi) fun z=>k (pd z) os [] []
 |_=>none
def zgY(os:List PO)(st:Nat)(c:PC)(lo hi mx:Option DV)(k:KT β):Option β:=
 match hi,mx with
 |some hi,some mx=>
  match c with
  | .d v=>za (zbH st v lo hi mx) fun z=>k (pd z) os [] []
  | .own j=>
   match og os j with
   | .frz v=>za (zbH st v lo hi mx) fun z=>k (pd z) os [] []
   | .arr st' v=>bif Nat.beq st st' then za (zqO lo hi mx (xu v)) fun p=>k (pc (.vw j st p.1 p.2)) os [] [] else none
   |_=>none
  | .vw j st' l n=>bif Nat.beq st st' then za (zqO lo hi mx n) fun p=>k (pc (.vw j st (l+p.1) p.2)) os [] [] else none
  |_=>none
 |_,_=>none
def zwh(v:OC)(lo len:Nat)(ds:List DV):OC:=
 match v with
 |none=>none
 |some xs=>some (xs.take lo++List.replicate len ds++xs.drop (lo+len))
def zl0(lk:Nat->Bool)(os:List PO)(st:Nat)(zs:List Zc)(c:PC)(k:KT β):Option β:=
 match c with
 | .vw j st' lo len=>
  match og os j with
  | .arr st'' v=>bif lk j then none else bif Nat.beq st st'&&Nat.beq st st''&&Nat.beq zs.length st then za (cDs zs) fun ps=>za (zkP ps) fun ds=>k und (oset (.arr st'' (zwh v lo len ds)) os j) [j] [] else none
  |_=>none
 |_=>none
def zg1(lk:Nat->Bool)(os:List PO)(st bytes:Nat)(s:PC)(x:PC)(k:KT β):Option β:=
 zwt os st x fun new=>
 match s with
 | .d v=>gdN v (gd (fits bytes new.length) (k (pc (.own os.length)) (os++[.arr st (zT none new)]) [] []))
 | .own j=>
  match og os j with
  | .arr st' v=>bif lk j then none else bif Nat.beq st st' then gd (fits bytes (xu v+new.length)) (k (pc (.own os.length)) (oset .dead os j++[.arr st (zT v new)]) [j] []) else none
  |_=>none
 | .lit j=>
  match og os j with
  | .arr st' (some [])=>bif Nat.beq st st' && !List.isEmpty new then gd (fits bytes new.length) (k (pc (.own os.length)) (os++[.arr st (zT none new)]) [] []) else none
  |_=>none
 |_=>none
def zsI:Option Nat->Option Nat->Bool
 |none,none=>true
 |some a,some b=>Nat.beq a b
 |_,_=>false
def zgA:DS->Option Nat
 | .one _=>none
 | .agg l=>some l.length
def zvl:PV->Option DS
 | .one (.d v)=>some (.one v)
 | .agg cs=>match zkP cs with|some l=>some (.agg l)|none=>none
 |_=>none
def zDs(z:SVal):Option DS:=match pvS z with|some p=>zvl p|none=>none
def zgz(q:Nat⊕List Nat)(a b:DS):Option Bool:=
 match q,a,b with
 | .inl t,.one x,.one y=>eqD t x y
 | .inr ks,.agg xs,.agg ys=>zn9 ks xs ys
 |_,_,_=>none
def zeI(q:Nat⊕List Nat)(st:Nat)(kd:DS):List (List DV)->Option (Option DS)
 | []=>some none
 |x::xs=>
  match zgz q kd (kD st x) with
  |some true=>some (some (vD st x))
  |some false=>zeI q st kd xs
  |none=>none
def zn7(q:Nat⊕List Nat)(st:Nat)(kd:DS)(row:List DV):List (List DV)->Option (List (List DV))
 | []=>some [row]
 |x::xs=>
  match zgz q kd (kD st x) with
  |some true=>some (row::xs)
  |some false=>match zn7 q st kd row xs with|some l=>some (x::l)|none=>none
  |none=>none
def lkD(z:DS)(r:Option DS):DS:=match r with|some v=>v|none=>z
def zpj{β:Type}(z:DS)(ok:Bool)(r:Option DS)(os:List PO)(k:KT β):Option β:=
 match z with
 | .one _=>bif ok then k (.tup [.one (dsO (lkD z r)),.one (.bool r.isSome)]) os [] [] else k (pd (dsO (lkD z r))) os [] []
 | .agg l=>bif ok then k (.tup [.agg (exp (dsA (lkD z r)) l.length 0),.one (.bool r.isSome)]) os [] [] else k (.s (.agg ((exp (dsA (lkD z r)) l.length 0).map .d))) os [] []
def zgZ{β:Type}(os:List PO)(q:Nat⊕List Nat)(z:SVal)(ok:Bool)(c:PC)(kp:PV)(k:KT β):Option β:=
 za (zvl kp) fun kd=>za (zDs z) fun zd=>za (zgz q kd kd) fun _=>
 match c with
 | .own j=>
  match og os j with
  | .mp st xs=>bif zsI (shV st) (zgA zd) then za (zeI q st kd xs) fun r=>zpj zd ok r os k else none
  |_=>none
 | .d .nilm=>zpj zd ok none os k
 |_=>none
def zrq{β:Type}(lk:Nat->Bool)(os:List PO)(q:Nat⊕List Nat)(c:PC)(kp vp:PV)(k:KT β):Option β:=
 za (zvl kp) fun kd=>za (frV lk os vp) fun p=>za (zgz q kd kd) fun _=>
 match c with
 | .own j=>
  match og p.1 j with
  | .mp st xs=>
   bif lk j then none else
   bif zsI (shK st) (zgA kd)&&zsI (shV st) (zgA p.2) then za (zn7 q st kd (kd.cells++p.2.cells) xs) fun ys=>k und (oset (.mp st ys) p.1 j) [j] [] else none
  |_=>none
 |_=>none
def pOp(O:Orc)(lk:Nat->Bool)(sh:Sh)(ρ:Nat->PA)(os:List PO)(o:KOp)(k:KT β):Option β:=
 match o with
 | .mv x=>za (pv ρ x) fun a=>k a os [] []
 | .pick c a b=>wd (pv ρ c) fun v=>za (pv ρ a) fun a=>za (pv ρ b) fun b=>
  match a,b with
  | .s (.one (.d x)),.s (.one (.d y))=>za (zro v x y) fun z=>k (pd z) os [] []
  |a,b=>ifB v (k a os [] []) (k b os [] [])
 | .alloc zs=>za (cDs zs) fun cs=>k (pc (.ptr os.length 0)) (os++[.box cs]) [] []
 | .box x=>
  match pv ρ x with
  |some (.s v)=>k (pc (.ptr os.length 0)) (os++[.box v.cells]) [] []
  |_=>none
 | .build zs parts=>za (cDs zs) fun cs=>za (zfS ρ parts cs) fun cs=>k (.s (.agg cs)) os [] []
 | .bslice st len zs parts=>za (cDs zs) fun cs=>za (zfS ρ parts cs) fun cs=>za (frL lk yP os cs) fun p=>bif Nat.beq p.2.length (len*st) then k (pc (.own p.1.length)) (p.1++[.arr st (some (chunks st len p.2))]) [] [] else none
 | .load n x=>w1 (pv ρ x) fun c=>zlW os n c k
 | .store n x v=>w1 (pv ρ x) fun c=>
  match pv ρ v with
  |some (.s v)=>zlV lk os n c v k
  |_=>none
 | .nilck x=>w1 (pv ρ x) fun c=>
  match c with
  | .ptr j off=>k (pc (.ptr j off)) os [] []
  | .ep j st i off=>k (pc (.ep j st i off)) os [] []
  | .clo f l=>k (pc (.clo f l)) os [] []
  | .d (.fp xs off)=>k (pd (.fp xs off)) os [] []
  |_=>none
 | .bin op x y=>wd (pv ρ x) fun v=>wd (pv ρ y) fun w=>za (zg op v w) fun z=>k (pd z) os [] []
 | .shift l x y=>wd (pv ρ x) fun v=>wd (pv ρ y) fun w=>za (vQ l v w) fun z=>k (pd z) os [] []
 | .str op x y=>wd (pv ρ x) fun v=>wd (pv ρ y) fun w=>za (zgv op v w) fun z=>k (pd z) os [] []
 | .nilS neg x y=>w1 (pv ρ x) fun c=>wd (pv ρ y) fun w=>
  match w with
  | .nils=>
   match c with
   | .d v=>za (zed v) fun q=>k (pd (.bool (bif neg then !q else q))) os [] []
   | .own j=>
    match og os j with
    | .arr _ v=>k (pd (.bool (bif neg then v.isSome else v.isNone))) os [] []
    | .frz v=>za (zed v) fun q=>k (pd (.bool (bif neg then !q else q))) os [] []
    |_=>none
   |_=>none
  |_=>none
 | .eq q neg x y=>
  match q with
  | .inl t=>wd (pv ρ x) fun v=>wd (pv ρ y) fun w=>za (eqD t v w) fun b=>k (pd (.bool (bif neg then !b else b))) os [] []
  | .inr ks=>
   match pv ρ x,pv ρ y with
   |some (.s (.agg xs)),some (.s (.agg ys))=>za (zkP xs) fun xs=>za (zkP ys) fun ys=>za (zn9 ks xs ys) fun b=>k (pd (.bool (bif neg then !b else b))) os [] []
   |_,_=>none
 | .not x=>wd (pv ρ x) fun v=>za (zec v) fun z=>k (pd z) os [] []
 | .neg x=>wd (pv ρ x) fun v=>za (zua v) fun z=>k (pd z) os [] []
 | .conv t x=>wd (pv ρ x) fun v=>za (zZ t v) fun z=>k (pd z) os [] []
 | .b2s x=>w1 (pv ρ x) fun c=>
  match c with
  | .d v=>za (zgw v) fun z=>k (pd z) os [] []
  | .own j=>
   match og os j with
   | .arr st v=>za (zgw (mkL st v)) fun z=>k (pd z) os [] [j]
   |_=>none
  |_=>none
 | .mkfn f caps=>za (znw ρ caps) fun l=>
  match l with
  | []=>k (pd (.fn f [])) os [] []
  |x::l=>k (pc (.clo f (x::l))) os [] []
 | .slice st x lo hi mx=>
  match mx with
  |none=>w1 (pv ρ x) fun c=>za (pvo ρ lo) fun lo=>za (pvo ρ hi) fun hi=>zea os st c lo hi k
  |some m=>w1 (pv ρ x) fun c=>za (pvo ρ lo) fun lo=>za (pvo ρ hi) fun hi=>za (pvo ρ (some m)) fun mx=>zgY os st c lo hi mx k
 | .sslice x lo hi=>wd (pv ρ x) fun v=>za (pvo ρ lo) fun lo=>za (pvo ρ hi) fun hi=>za (zgX v lo hi) fun z=>k (pd z) os [] []
 | .foff x off=>w1 (pv ρ x) fun c=>
  match c with
  | .ptr j o=>k (pc (.ptr j (o+off))) os [] []
  | .d (.fp xs o)=>k (pd (.fp xs (o+off))) os [] []
  | .ep j st i o=>k (pc (.ep j st i (o+off))) os [] []
  | .ip j f len st i o=>k (pc (.ip j f len st i (o+off))) os [] []
  |_=>none
 | .field x off n=>
  match pv ρ x with
  |some (.s (.agg cs))=>za1 n cs off fun v=>k (.s v) os [] []
  |_=>none
 | .ixs st x i=>w1 (pv ρ x) fun c=>wd (pv ρ i) fun i=>zud os st c i k
 | .ixarr len st x i=>w1 (pv ρ x) fun c=>wd (pv ρ i) fun i=>
  match c with
  | .ptr j off=>za (j4 len i) fun n=>k (pc (.ip j off len st n 0)) os [] []
  |_=>none
 | .ixagg len st n x i=>wd (pv ρ i) fun i=>
  match pv ρ x with
  |some (.s (.agg cs))=>za (j4 len i) fun j=>
   match n with
   |none=>za (ipC cs st len j 1 0) fun l=>match l with | [c]=>k (pc c) os [] []|_=>none
   |some m=>bif Nat.beq m 0 then none else za (ipC cs st len j m 0) fun l=>k (.s (.agg l)) os [] []
  |_=>none
 | .ixstr x i=>wd (pv ρ x) fun v=>wd (pv ρ i) fun w=>za (zaJ v w) fun z=>k (pd z) os [] []
 | .extract x i=>
  match pv ρ x with
  |some (.tup l)=>
   match l[i]? with
   |some (.one d)=>k (pd d) os [] []
   |some (.agg ds)=>k (.s (.agg (ds.map .d))) os [] []
   |none=>none
  |some (.tl p l)=>
   match i with
   |0=>k (.s p) os [] []
   |i+1=>
    match l[i]? with
    |some (.one d)=>k (pd d) os [] []
    |some (.agg ds)=>k (.s (.agg (ds.map .d))) os [] []
    |none=>none
  |_=>none
 | .lenS x=>wd (pv ρ x) fun v=>za (zj7 v) fun z=>k (pd z) os [] []
 | .lenL x=>w1 (pv ρ x) fun c=>
  match c with
  | .d v=>za (xl v) fun z=>k (pd z) os [] []
  | .own j=>
   match og os j with
   | .arr _ v=>k (pd (.int .i64 (.ofNat (xu v)))) os [] []
   | .frz v=>za (xl v) fun z=>k (pd z) os [] []
   |_=>none
  | .vw _ _ _ len=>k (pd (.int .i64 (.ofNat len))) os [] []
  |_=>none
 | .append st bytes s x=>w1 (pv ρ s) fun s=>w1 (pv ρ x) fun x=>zg1 lk os st bytes s x k
 | .minmax m x xs=>wd (pv ρ x) fun v=>za (pvd ρ xs) fun l=>za (uG m v l) fun z=>k (pd z) os [] []
 | .mkslice st zs bytes l c=>wd (pv ρ l) fun l=>wd (pv ρ c) fun c=>za (mkN bytes l c) fun n=>za (cDs zs) fun ps=>za (zkP ps) fun ds=>bif Nat.beq zs.length st then k (pc (.own os.length)) (os++[.arr st (some (List.replicate n ds))]) [] [] else none
 | .clear st zs x=>w1 (pv ρ x) fun c=>zl0 lk os st zs c k
 | .mkmap st=>k (pc (.own os.length)) (os++[.mp st []]) [] []
 | .lookup q z ok m x=>w1 (pv ρ m) fun c=>
  match pv ρ x with
  |some (.s kp)=>zgZ os q z ok c kp k
  |_=>none
 | .mupd q m x v=>w1 (pv ρ m) fun c=>
  match pv ρ x,pv ρ v with
  |some (.s kp),some (.s vp)=>zrq lk os q c kp vp k
  |_,_=>none
 | .lenM x=>w1 (pv ρ x) fun c=>
  match c with
  | .own j=>
   match og os j with
   | .mp _ xs=>k (pd (.int .i64 (.ofNat xs.length))) os [] []
   |_=>none
  | .d .nilm=>k (pd (.int .i64 (.ofNat 0))) os [] []
  |_=>none
 | .s2b x=>wd (pv ρ x) fun v=>za (zwR v) fun z=>k (pd z) os [] []
 | .call f args=>w1 (pv ρ f) fun c=>za (pvs ρ args) fun as=>
  bif zwx sh&&(zvQ os c||ztC os as) then za (frA (fun _=>false) os as) fun p=>za (frC (fun _=>false) yP p.1 c) fun q=>ztp sh (zkO O q.2 p.2) fun a=>k a os [] []
  else za (frA lk os as) fun p=>za (frC lk yP p.1 c) fun q=>bSh sh (zkO O q.2 p.2) fun a=>k a q.1 [] []
end Go.PE
end
section
namespace Go.PE
open Go Go.CE
structure Bk (N:Nm) (os:List PO) (N':Nm) (wr:List Nat):Prop where
 nle:N.h.n.toNat<=N'.h.n.toNat
 eq:∀b:BN,b.toNat<N.h.n.toNat->(∀j,j∈wr->j<N.n->live (og os j)->blk (N.μ j)≠some b)->N'.h.t.get b=N.h.t.get b
theorem Bk.same{N N':Nm}{os:List PO}{wr:List Nat}(h:N'.h=N.h):Bk N os N' wr:=⟨by grind,fun b _ _=>by rw[h]⟩
def held:PO->Prop
 | .box _=>True
 | .arr _ (some _)=>True
 | .frz v=>∃st xs,v=.lst st xs
 | .fbox _=>True
 | .mp _ _=>True
 | .hol _ _ _=>True
 |_=>False
def Ho(n:Nat)(os os':List PO)(wr:List Nat):Prop:=∀k,k<n->(held (og os' k)->held (og os k))/\(held (og os k)->held (og os' k)\/k∈wr)/\(live (og os' k)->live (og os k))
theorem Ho.refl(n:Nat)(os:List PO)(wr:List Nat):Ho n os os wr:=fun _ _=>⟨id,.inl,id⟩
theorem Ho.trans{n:Nat}{a b c:List PO}{w1 w2:List Nat}(h:Ho n a b w1)(g:Ho n b c w2):Ho n a c (w1++w2):=fun k hk=>⟨fun x=>(h k hk).1 ((g k hk).1 x),fun x=>((h k hk).2.1 x).elim (fun y=>((g k hk).2.1 y).imp id (YzM _)) (fun y=>.inr (YzG _ y)),fun x=>(h k hk).2.2 ((g k hk).2.2 x)⟩
theorem Ho.oset{n:Nat}{os:List PO}{o:PO}{j:Nat}{wr:List Nat}(hb:held o->held (og os j))(hf:held (og os j)->held o\/j∈wr)(hv:live o->live (og os j)):Ho n os (PE.oset o os j) wr:=fun k _=>by grind[zw]
def BkE(N:Nm)(os:List PO)(N':Nm)(wr:List Nat):Prop:=
 ∀(b:BN) y,N.h.t.get b=some y->(∀j,j∈wr->j<N.n->live (og os j)->blk (N.μ j)≠some b)->N'.h.t.get b=some y
structure Stp (E:En) (lk:Nat->Bool) (N:Nm) (os:List PO) (wr:List Nat) (N':Nm) (os':List PO):Prop where
 inv:Zd E N' os'
 nx:Nx N N'
 fr:Bk N os N' wr
 lock:∀j,lk j=true->og os' j=og os j
 ho:Ho N.n os os' wr
theorem Stp.refl{E:En}{lk:Nat->Bool}{N:Nm}{os:List PO}(I:Zd E N os):Stp E lk N os [] N os:=⟨I,.refl N,.same rfl,fun _ _=>rfl,.refl _ _ _⟩
theorem Stp.trans{E:En}{lk:Nat->Bool}{A B C:Nm}{o1 o2 o3:List PO}{w1 w2:List Nat}(a:Stp E lk A o1 w1 B o2)(b:Stp E lk B o2 w2 C o3)(hn:B.n=A.n):Stp E lk A o1 (w1++w2) C o3:=
 ⟨b.inv, a.nx.trans b.nx, ⟨Yzl a.fr.nle b.fr.nle, fun x hx H => (b.fr.eq x (Lz9 hx a.fr.nle) fun j hj hl hv hb => by have hA:j<A.n:=hn▸hl;exact H j (YzM _ hj) hA ((a.ho j hA).2.2 hv) (by rw[<-a.nx.mu j hA];exact hb)).trans (a.fr.eq x hx fun j hj hl hv=>H j (YzG _ hj) hl hv)⟩,fun j hj=>(b.lock j hj).trans (a.lock j hj),a.ho.trans (by rw[<-hn];exact b.ho)⟩
structure Fz (N N':Nm):Prop where
 h:N'.h=N.h
 n:N'.n=N.n
 μ:N'.μ=N.μ
theorem Fz.refl(N:Nm):Fz N N:=⟨rfl,rfl,rfl⟩
theorem Fz.trans{A B C:Nm}(a:Fz A B)(b:Fz B C):Fz A C:=⟨b.h.trans a.h,b.n.trans a.n,b.μ.trans a.μ⟩
theorem zlH{cs:List Zc}{st n:Nat}(h:cs.length=n):rd n 0 (.cells cs st)=some cs:=by
 show cut n cs 0=some cs
 grind[zeS]
variable {E:En} {lk:Nat->Bool}
theorem zhW{N:Nm}{k st:Nat}{v:OC}{fz':BN->Prop}(g:FG N.fz N.h fz' N.h)(H:RepO N k (.arr st v))(hb:v≠none->∀b,blk (N.μ k)=some b->fz' b):Rep fz' N.h (N.μ k) (mkL st v):=by
 rcases v with _|xs
 .rw[show N.μ k=.nils from H];exact .nils
 obtain⟨b,vs,ex,h1,h2,h3,h4,h5⟩:=H;rw[h1];refine Rep.lst_mk (cs:=vs) (hb (by simp) b (by rw[h1];rfl)) h3 (fun e=>by grind) (zlH h4) fun i x hx=>⟨(h5 i x hx).1,(h5 i x hx).2.mono g⟩
theorem znK{N:Nm}{os:List PO}(I:Zd E N os){k st:Nat}{v:OC}(ho:og os k=.arr st v)(hk:lk k=false):
  ∃N',Fz N N'/\Stp E lk N os [] N' (oset (.frz (mkL st v)) os k)/\Rep N'.fz N'.h (N.μ k) (mkL st v):=by
 have hlock:∀(o:PO) j,lk j=true->og (oset o os k) j=og os j:=fun o j hj=>by rw[zw,Yzb (fun e=>by grind)]
 have hO:=I.obj k;rw[ho]at hO;rcases v with _|xs
 .have h1:RepO N k (.frz (mkL st none)):=by
   show Rep _ _ _ _;rw[show N.μ k=.nils from hO];exact .nils
  exact⟨N,.refl N,⟨I.turn k _ (fun e=>e) h1 (by grind),.refl N,Bk.same rfl,hlock _,.oset (fun⟨_,_,h⟩=>by cases h) (fun h=>by rw[ho]at h;trivial) (fun h=>h.elim)⟩,h1⟩
 obtain⟨b,vs,ex,h1,h2,h3,h4,h5⟩:=hO;have hb:blk (N.μ k)=some b:=by rw[h1];rfl
 have hl:solid (og os k):=by rw[ho];trivial
 have g:FG N.fz N.h (fun b'=>N.fz b'\/b'=b) N.h:=⟨fun _ _ h _=>.inl h,fun _ _ _ h=>h⟩;have hr:Rep (fun b'=>N.fz b'\/b'=b) N.h (N.μ k) (mkL st (some xs)):=zhW g (show RepO N k (.arr st (some xs)) from⟨b,vs,ex,h1,h2,h3,h4,h5⟩) fun _ b' hb'=>by grind
 obtain⟨i1,i2⟩:=I.freeze hl hb (.frz (mkL st (some xs))) (fun e=>e) hr;exact⟨⟨N.μ,N.n,fun b'=>N.fz b'\/b'=b,N.h⟩,⟨rfl,rfl,rfl⟩,⟨i1,i2,Bk.same rfl,hlock _,.oset (fun _=>by rw[ho];trivial) (fun _=>.inl ⟨_,_,rfl⟩) (fun h=>h.elim)⟩,hr⟩
theorem zd8{N:Nm}{fz:BN->Prop}{h:Za}{k st lo len:Nat}{c:Zc}{v:DV}(H:Rep fz h (N.μ k) v)(hc:RepPC N c (.vw k st lo len)):Rep fz h c (zgW st lo len v):=by
 obtain⟨_,hc⟩:=hc;cases v<;>first|exact .u _|skip
 .have h1:=H.scal rfl;rcases hc with⟨_,rfl,_,_⟩|⟨b,l,cap,ex,cap',ex',h2,_⟩
  .exact .nils
  grind
 rename_i st' xs;show Rep fz h c (bif Nat.beq st st' then .lst st' ((xs.drop lo).take len) else .u);cases hs:Nat.beq st st'
 .exact .u _
 have:=Lz1 hs;subst this;obtain⟨b,o,off,cap,ex,cs,e1,g1,g2,g3,g4,g5⟩:=H.lst_inv;rcases hc with⟨h2,_⟩|⟨b',l,cap2,ex2,cap',ex',h2,rfl,h3,h4⟩
 .grind
 rw[e1]at h2;cases h2;have hlen:((xs.drop lo).take len).length=len:=by simp;omega
 have ml:(lo+len)*st<=xs.length*st:=Yzj st h3;rw[Yyd]at ml;have:=Rep.lst_mk (fz:=fz) (off:=0+lo*st) (cap:=cap') (ex:=ex') (xs:=(xs.drop lo).take len) (cs:=(cs.drop (lo*st)).take (len*st)) g1 g2 (by grind)
  (by rw[hlen];exact zc7 g4 ml) (fun i z hz=>by
   rw[YzH]at hz;split at hz
   .rename_i hi;rw[Yzo]at hz;obtain⟨q1,q2⟩:=g5 _ _ hz;refine⟨q1,?_⟩;have e1:List.take st (List.drop (i*st) (List.take (len*st) (List.drop (lo*st) cs)))=List.take st (List.drop ((lo+i)*st) cs):=by
     have:=Yzj st (show i+1<=len from hi)
     grind[List.drop_take,YzE,Yyd]
    grind
   cases hz)
 grind
theorem zu3:∀n:Nat,
  (∀(os:List PO) (N:Nm) (c:Zc) (p:PC) (os':List PO) (d:DV),Zd E N os->RepPC N c p->frC lk n os p=some (os',d)->∃N',Fz N N'/\Stp E lk N os [] N' os'/\Rep N'.fz N'.h c d)/\
  (∀(os:List PO) (N:Nm) (cs:List Zc) (ps:List PC) (os':List PO) (ds:List DV),Zd E N os->RepPL N cs ps->frL lk n os ps=some (os',ds)->∃N',Fz N N'/\Stp E lk N os [] N' os'/\RepL N'.fz N'.h cs ds)/\
  (∀ (os : List PO) (N : Nm) (qs : List (BN × Nat)) (xs : List (Nat ⊕ List DV)) (os' : List PO) (l : List (List DV)), Zd E N os -> RepCaps N qs xs -> frK lk n os xs = some (os', l) ->
   ∃N',Fz N N'/\Stp E lk N os [] N' os'/\RepL N'.fz N'.h (qs.map fun p=>.ptr p.1 p.2) (l.map fun x=>.fp x 0)):=by
 intro n
 induction n with
 |zero=>
  refine⟨?_,?_,?_⟩
  .intro os N c p os' d I H e;cases p with
   |d v=>simp only[frC]at e;cases e;exact⟨N,.refl N,.refl I,H⟩
   |own k=>
    simp only[frC]at e;obtain⟨hk,rfl⟩:=H;cases ho:og os k with
    |frz v=>rw[ho]at e;cases e;exact⟨N,.refl N,.refl I,by have:=I.obj k;rw[ho]at this;exact this⟩
    |arr st v=>
     rw[ho]at e;simp only at e;cases hlk:lk k
     case true=>grind
     rw[hlk]at e;cases e<;>simp_all[znK]
    |_=>grind
   |_=>trivial
  .intro os N cs ps os' ds I H e;cases ps with
   |nil=>simp only[frL]at e;cases e;cases cs with
    |nil=>exact⟨N,.refl N,.refl I,.nil _ _⟩
    |cons c cs=>trivial
   |cons p ps=>trivial
  intro os N cs ps os' ds I H e;cases ps with
  |nil=>simp only[frK]at e;cases e;cases cs with
   |nil=>exact⟨N,.refl N,.refl I,.nil _ _⟩
   |cons c cs=>trivial
  |cons p ps=>trivial
 |succ n ih=>
  obtain⟨ihC,ihL,ihK⟩:=ih;refine⟨?_,?_,?_⟩
  .intro os N c p os' d I H e;cases p with
   |d v=>grind[frC]
   |lit k=>trivial
   |own k=>
    simp only[frC]at e;obtain⟨hk,rfl⟩:=H;cases ho:og os k with
    |frz v=>rw[ho]at e;cases e;exact⟨N,.refl N,.refl I,by have:=I.obj k;rw[ho]at this;exact this⟩
    |arr st v=>
     rw[ho]at e;simp only at e;cases hlk:lk k
     case true=>grind
     rw[hlk]at e;cases e<;>simp_all[znK]
    |_=>grind
   |ptr k off=>
    simp only[frC]at e;obtain⟨hk,b,hb,rfl⟩:=H;cases ho:og os k with
    |fbox ds=>
     rw[ho]at e;cases e;have:=I.obj k;rw[ho]at this;obtain⟨b',h1,h2⟩:=this;rw[hb]at h1;cases h1;obtain⟨b1,o1,base,cs,e1,e2,e3,e4,e5⟩:=h2.fp_inv;cases e1;refine⟨N,.refl N,.refl I,?_⟩;have:=Rep.fp_mk (off:=off) e2 e3 e4 e5
     grind
    |box cs=>
     rw[ho]at e;simp only at e;cases hlk:lk k
     case true=>grind
     rw[hlk]at e;simp only[Yzc]at e;rcases hf:frL lk n os cs with _|p
     .grind
     obtain⟨os1,ds⟩:=p;rw[hf]at e;simp only at e;have hO:=I.obj k;rw[ho]at hO;obtain⟨b',vs,h1,h2,h3,h4⟩:=hO;rw[hb]at h1;cases h1;obtain⟨N1,f1,s1,r1⟩:=ihL os N vs cs os1 ds I h4 hf;cases ho1:og os1 k with
     |box cs'=>
      rw[ho1]at e;simp only at e;cases hq:Nat.beq cs'.length cs.length
      .grind
      rw[hq]at e;cases e;have hl:solid (og os1 k):=by rw[ho1];trivial
      have hbk:blk (N1.μ k)=some b:=by rw[f1.μ,hb];rfl
      have g:FG N1.fz N1.h (fun b'=>N1.fz b'\/b'=b) N1.h:=⟨fun _ _ h _=>.inl h,fun _ _ _ h=>h⟩;have h3':N1.h.t.get b=some (.cells vs 0):=by rw[f1.h];exact h3
      have hr:∀off,Rep (fun b'=>N1.fz b'\/b'=b) N1.h (.ptr b off) (.fp ds off):=fun off=>by
       have:=Rep.fp_mk (fz:=fun b'=>N1.fz b'\/b'=b) (off:=off) (base:=0) (.inr rfl) h3' (zlH r1.1) (r1.mono g)
       grind
      obtain⟨i1,i2⟩:=s1.inv.freeze hl hbk (.fbox ds) (fun e=>e) ⟨b,by rw[f1.μ];exact hb,hr 0⟩;refine⟨⟨N1.μ,N1.n,fun b'=>N1.fz b'\/b'=b,N1.h⟩,f1.trans ⟨rfl,rfl,rfl⟩,s1.trans (w2:=[]) ⟨i1,i2,Bk.same rfl,fun j hj=>?_,.oset (fun _=>by rw[ho1];trivial) (fun _=>.inl trivial) (fun h=>h.elim)⟩ f1.n,hr off⟩;rw[zw,Yzb (fun e=>by grind)]
     |_=>grind
    |_=>grind
   |ep k st i off=>trivial
   |ip k off len st i o=>trivial
   |vw k st lo len=>
    simp only[frC]at e;cases ho:og os k with
    |frz v=>rw[ho]at e;cases e;exact⟨N,.refl N,.refl I,zd8 (by have:=I.obj k;rw[ho]at this;exact this) H⟩
    |arr st' v=>
     rw[ho]at e;simp only at e;cases hlk:lk k
     case true=>grind
     rw[hlk]at e;cases e;obtain⟨N',f1,s1,r1⟩:=znK I ho hlk
     grind[zd8]
    |_=>grind
   |clo f caps=>
    simp only[frC]at e;obtain⟨ps,rfl,hc⟩:=H;rcases hf:frK lk n os caps with _|p
    .grind
    obtain⟨os1,l⟩:=p;rw[hf]at e;cases e;obtain⟨N1,f1,s1,r1⟩:=ihK os N ps caps _ _ I hc hf;exact⟨N1,f1,s1,.fn_mk r1⟩
  .intro os N cs ps os' ds I H e;cases ps with
   |nil=>grind[frL]
   |cons p ps=>
    cases cs with
    |nil=>trivial
    |cons c cs=>
     simp only[frL]at e;rcases h1:frC lk n os p with _|q
     .grind
     obtain⟨os1,d⟩:=q;rw[h1]at e;simp only at e;rcases h2:frL lk n os1 ps with _|q
     .grind
     obtain⟨os2,ds2⟩:=q;rw[h2]at e;cases e;obtain⟨N1,f1,s1,r1⟩:=ihC os N c p os1 d I H.1 h1;obtain⟨N2,f2,s2,r2⟩:=ihL os1 N1 cs ps _ _ s1.inv (RepPL.mono s1.nx H.2) h2;exact⟨N2,f1.trans f2,s1.trans s2 f1.n,.cons (r1.mono s2.nx.fg) r2⟩
  intro os N qs xs os' l I H e;cases xs with
  |nil=>grind[frK]
  |cons x xs=>
   cases qs with
   |nil=>trivial
   |cons q qs=>
    have hx:∀os1 d,(match x with | .inl k=>frC lk n os (.ptr k 0) | .inr xs=>some (os,.fp xs 0))=some (os1,d)->∃N',Fz N N'/\Stp E lk N os [] N' os1/\Rep N'.fz N'.h (.ptr q.1 q.2) d:=by
     intro os1 d h1;cases x with
     |inl k=>obtain⟨a1,a2,a3⟩:=H.1;exact ihC os N (.ptr q.1 q.2) (.ptr k 0) os1 d I ⟨a1,q.1,a2,by rw[a3]⟩ h1
     |inr xs=>cases h1;exact⟨N,.refl N,.refl I,H.1⟩
    have key:∀m:Option (List PO×DV),(∀os1 d,m=some (os1,d)->∃N',Fz N N'/\Stp E lk N os [] N' os1/\Rep N'.fz N'.h (.ptr q.1 q.2) d)->
      (match m with
       |some (os',.fp x 0)=>
        match frK lk n os' xs with
        |some (os'',xs)=>some (os'',x::xs)
        |none=>none
       |_=>none)=some (os',l)->∃N',Fz N N'/\Stp E lk N os [] N' os'/\RepL N'.fz N'.h ((q::qs).map fun p=>.ptr p.1 p.2) (l.map fun x=>.fp x 0):=by
     intro m hm e;split at e
     .rename_i os1 y;rcases h2:frK lk n os1 xs with _|q2
      .grind
      obtain⟨os2,l2⟩:=q2;rw[h2]at e;cases e;obtain⟨N1,f1,s1,r1⟩:=hm os1 _ rfl;obtain⟨N2,f2,s2,r2⟩:=ihK os1 N1 qs xs _ _ s1.inv (RepCaps.mono s1.nx H.2) h2;exact⟨N2,f1.trans f2,s1.trans s2 f1.n,.cons (r1.mono s2.nx.fg) r2⟩
     cases e
    exact key _ hx e
theorem zi2{n:Nat}{os os':List PO}{N:Nm}{cs:List Zc}{ps:List PC}{ds:List DV}(I:Zd E N os)(H:RepPL N cs ps)(e:frL lk n os ps=some (os',ds)):∃N',Fz N N'/\Stp E lk N os [] N' os'/\RepL N'.fz N'.h cs ds:=(zu3 n).2.1 _ _ _ _ _ _ I H e
end Go.PE
end
section
namespace Go.PE
open Go Go.CE
def trk(ρ:Nat->PA):KOp->Option Operand
 | .mv x=>some x
 | .foff x _=>some x
 | .field x _ _=>some x
 | .ixarr _ _ x _=>some x
 | .ixs _ x _=>match pv ρ x with|some (.s (.one (.own _)))=>none|some (.s (.one (.vw _ _ _ _)))=>none|_=>some x
 | .extract x _=>some x
 | .nilck x=>some x
 |_=>none
def zfF:KOp->Option Operand
 | .load _ x=>some x
 | .b2s x=>some x
 |_=>none
section
variable {β:Type} {C:Nat->zc} {E:En} {lk:Nat->Bool} {N:Nm} {os:List PO} {r:Fr} {ρ:Nat->PA}
theorem zvu{fz:BN->Prop}{h:Za}{c:Zc}{d:DV}(e:cD c=some d):Rep fz h c d:=by
 cases c<;>simp only[cD]at e<;>first|cases e|skip
 .exact .bool _
 .exact .int _ _
 .exact .str _
 .exact .nilp
 .exact .nils
 .exact .nilm
 .rename_i f caps;cases caps with
  |nil=>cases e;exact .fn_mk (.nil _ _)
  |cons a l=>cases e
 .exact .nilf
 exact .nili
theorem qX:∀{cs:List Zc} {ps:List PC},cDs cs=some ps->RepPL N cs ps
 | [],ps,e=>by cases e;trivial
 |c::cs,ps,e=>by
  simp only[cDs]at e;rcases h1:cD c with _|d
  .grind
  rcases h2:cDs cs with _|ds
  .grind
  rw[h1,h2]at e;cases e;exact⟨zvu h1,qX h2⟩
theorem zlJ{s:SVal}{p:PV}(e:pvS s=some p):RepPV N s p:=by
 cases s with
 |one c=>
  simp only[pvS]at e;rcases h1:cD c with _|d
  .grind
  rw[h1]at e;cases e;exact zvu h1
 |agg cs=>
  simp only[pvS]at e;rcases h1:cDs cs with _|ds
  .grind
  rw[h1]at e;cases e;exact qX h1
theorem x4(F:∀i,RepPA N (r i) (ρ i)){x:Operand}{a:PA}(e:pv ρ x=some a):∃v,kv r x=some v/\RepPA N v a:=by
 cases x with
 |tmp t=>cases e;exact⟨_,rfl,F t⟩
 |const v=>
  simp only[pv]at e;rcases hv:znz v with _|s
  .grind
  rw[hv]at e;simp only at e;rcases hp:pvS s with _|p
  .grind
  rw[hp]at e;cases e;exact⟨.s s,by grind[kv],.of (zlJ hp)⟩
 |func f=>cases e;exact⟨_,rfl,RepPA.of (p:=.one (.d (.fn f []))) (v:=.one (.fn f [])) (Rep.fn_mk (.nil _ _))⟩
 |global g=>cases e
theorem zh{α:Type}{o:Option α}{K:α->Option β}{y:β}(e:za o K=some y):∃a,o=some a/\K a=some y:=by
 rcases o with _|a
 .cases e
 exact⟨a,rfl,e⟩
theorem yD{p:PC}{c:Zc}(e:RepPC N c p):RepPA N (.s (.one c)) (pc p):=RepPA.of (p:=.one p) (v:=.one c) e
variable {k:KT β} {x:β}
end
end Go.PE
end
section
namespace Go.PE
open Go Go.CE
end Go.PE
end
section
namespace Go.PE
open Go Go.CE
def fzN(fz:BN->Prop)(h h':Za):BN->Prop:=fun b=>fz b\/(h.n.toNat<=b.toNat/\b.toNat<h'.n.toNat)
def zqJ(C:Nat->zc)(g:Nat)(args:List DA)(res:DA):Prop:=
 ∀(fz:BN->Prop) (h:Za) (vs:List Zb),HW h->(∀b,fz b->b.toNat<h.n.toNat)->wk fz h vs args->
  Ev (fun n=>C n (.inl g) vs h) (fun p=>HW p.2/\Gr h p.2/\RepA (fzN fz h p.2) p.2 p.1 res)
def uW(O:Orc)(C:Nat->zc):Prop:=∀g args res,O g args=some res->zqJ C g args res
theorem jK(vs:List Zc):∀(cs:List Zc) (i:Nat),i+vs.length<=cs.length->putAt vs cs i=some (cs.take i++vs++cs.drop (i+vs.length)):=by
 have ov:∀(vs cs:List Zc),vs.length<=cs.length->over vs cs=some (vs++cs.drop vs.length):=by
  intro vs
  induction vs with
  |nil=>intro cs _;rfl
  |cons v vs ih=>intro cs h;cases cs<;>grind[over,x6]
 intro cs
 induction cs with
 |nil=>intro i h;simp at h;obtain⟨rfl,h2⟩:=h;subst h2;rfl
 |cons c cs ih=>
  intro i h;cases i with
  |zero=>
   show over vs (c::cs)=_
   grind
  |succ i=>
   show x6 c (putAt vs cs i)=_
   grind[x6]
theorem zer:∀(cs:List Zc),j7 cs cs.length=true
 | []=>rfl
 |c::cs=>by show (bif Nat.beq (cs.length+1) 0 then false else j7 cs cs.length)=true;rw[zer cs];rfl
section
variable {β:Type} {C:Nat->zc} {E:En} {lk:Nat->Bool} {N:Nm} {os:List PO} {r:Fr} {ρ:Nat->PA} {k:KT β} {x:β}
theorem zel(h:Za)(o:Zf)(v:BN->Zc):zcI h o v=some (.s (.one (v h.n)),h.new o):=by rfl
theorem RepPV.cells{v:SVal}{p:PV}(H:RepPV N v p):RepPL N v.cells p.cells:=by
 cases v<;>cases p<;>simp only[RepPV]at H
 .trivial
 exact H
theorem zbi(F:∀i,RepPA N (r i) (ρ i)):∀{parts:List (Nat×Nat×Operand)} {ps ps':List PC} {cs:List Zc},zfS ρ parts ps=some ps'->RepPL N cs ps->∃l cs',kvp r parts=some l/\zan .nil (cP l) cs=some cs'/\RepPL N cs' ps'
 | [],ps,ps',cs,e,H=>by cases e;exact⟨[],cs,rfl,rfl,H⟩
 |(off,size,a)::rest,ps,ps',cs,e,H=>by
  simp only[zfS]at e;split at e
  .rename_i p hp;obtain⟨v,ka,ra⟩:=x4 F hp;cases hb:(Nat.beq p.cells.length size&&Nat.ble (off+size) ps.length)
   .grind
   rw[hb]at e;simp only[LzC]at hb;have h1:=Lz1 hb.1;have h2:=Lz4 hb.2;simp only[Yza]at e;have hcs:=H.len;obtain⟨w,rfl,hw⟩:=ra.inv;have hw:=hw.cells;have hl:=hw.len;obtain⟨l,cs',k1,k2,k3⟩:=zbi F e (cs:=cs.take off++w.cells++cs.drop (off+size)) (((H.take off).app hw).app (H.drop (off+size)));refine⟨(off,size,.s w)::l,cs',by grind[kvp],?_,k3⟩
   grind[zan,zn,cP,zer,jK]
  cases e
theorem zav(st:Nat):∀(n:Nat) (ds:List DV),(chunks st n ds).length=n
 |0,_=>rfl
 |n+1,ds=>by simp[chunks,zav st n]
theorem zaw(st:Nat):∀(n:Nat) (ds:List DV) (i:Nat) (x:List DV),(chunks st n ds)[i]? = some x->x=(ds.drop (i*st)).take st/\i<n
 |0,_,i,x,e=>by trivial
 |n+1,ds,i,x,e=>by
  cases i with
  |zero=>grind[chunks]
  |succ i=>
   obtain⟨h1,h2⟩:=zaw st n (ds.drop st) i x (by trivial)
   grind[YzE]
end
end Go.PE
end
section
namespace Go.PE
open Go Go.CE
end Go.PE
end
section
namespace Go.PE
open Go Go.CE
end Go.PE
end
section
namespace Go.PE
open Go Go.CE
inductive Pl where
 |slot (i:Nat)
 |cell (k j:Nat)
 |lnk (t:Nat)
 |st (k c:Nat)
def zwe:Pl->Pl->Bool
 | .slot i,.slot j=>Nat.beq i j
 | .cell k i,.cell l j=>Nat.beq k l&&Nat.beq i j
 | .lnk i,.lnk j=>Nat.beq i j
 | .st k i,.st l j=>Nat.beq k l&&Nat.beq i j
 |_,_=>false
def zmU(x:Pl):List Pl->Nat->Option Nat
 | [],_=>none
 |y::l,i=>bif zwe x y then some i else zmU x l (Nat.succ i)
structure LA where
 data:List Pl
 own:List (Pl×Nat)
 boxes:List (Nat×Nat)
 arrs:List (Nat×Nat)
 xdata:List Pl
 xown:List (Pl×Nat)
 rdata:List Pl
 rown:List (Pl×Nat)
 frz:List Nat
def q8(la:LA):Zg->List Pl
 | .normal=>la.data
 | .exit _=>la.xdata
 | .ret=>la.rdata
def zkT(la:LA):Zg->List (Pl×Nat)
 | .normal=>la.own
 | .exit _=>la.xown
 | .ret=>la.rown
def zy:List DV->Nat->DV
 | [],_=>.u
 |d::l,i=>bif Nat.beq i 0 then d else zy l (Nat.sub i 1)
def zU:List OC->Nat->OC
 | [],_=>none
 |d::l,i=>bif Nat.beq i 0 then d else zU l (Nat.sub i 1)
def zv8(c:Nat):DV->Bool
 | .int .i64 (.ofNat n)=>Nat.beq n c
 |_=>false
def zej:DV->Bool
 | .int .i64 (.negSucc _)=>true
 |_=>false
def zkz(ρ:Nat->PA)(os:List PO):Pl->Option PC
 | .slot i=>match ρ i with | .s (.one c)=>some c|_=>none
 | .cell k j=>match og os k with | .box cs=>cs[j]? |_=>none
 | .lnk t=>match og os t with | .lnk m=>some (.own m)|_=>none
 | .st k c=>match og os k with | .lop _ _ _ _ _ _ s=>bif zv8 c s then some (.d (.int .i64 (.ofNat c))) else none|_=>none
def zfJ(st:Nat):Bool:=Nat.ble 1048576 st
def mkO(st:Nat)(v:OC):PO:=bif zfJ st then .mp st (zL v) else .arr st v
def zkS(lk:Nat->Bool)(ρ:Nat->PA):List Pl->List PO->Option (List PO×List DV)
 | [],os=>some (os,[])
 |p::l,os=>
  match zkz ρ os p with
  |some c=>
   match frC lk yP os c with
   |some (os',d)=>
    match zkS lk ρ l os' with
    |some (os'',ds)=>some (os'',d::ds)
    |none=>none
   |none=>none
  |none=>none
def zwu(os:List PO)(st:Nat):PC->Option (OC×Option Nat)
 | .own m=>
  match og os m with
  | .arr st' v=>bif Nat.beq st st' && !zfJ st then some (v,some m) else none
  | .mp st' xs=>bif Nat.beq st st'&&zfJ st then some (some xs,some m) else none
  |_=>none
 | .d .nils=>bif zfJ st then none else some (none,none)
 |_=>none
def zs8(ρ:Nat->PA)(os:List PO):List (Pl×Nat)->Option (List OC×List (Option Nat))
 | []=>some ([],[])
 |(p,st)::l=>
  match zkz ρ os p with
  |some c=>
   match zwu os st c with
   |some (v,m)=>
    match zs8 ρ os l with
    |some (vs,ms)=>some (v::vs,m::ms)
    |none=>none
   |none=>none
  |none=>none
def zp6(os:List PO):List (Nat×Nat)->Option (List OC)
 | []=>some []
 |(k,st)::l=>
  match og os k with
  | .arr st' v=>bif Nat.beq st st' && !zfJ st then(match zp6 os l with|some vs=>some (v::vs)|none=>none) else none
  | .mp st' xs=>bif Nat.beq st st'&&zfJ st then(match zp6 os l with|some vs=>some (some xs::vs)|none=>none) else none
  |_=>none
def jD(os:List PO):List (Nat×Nat)->Bool
 | []=>true
 |(k,n)::l=>(match og os k with | .box cs=>Nat.beq cs.length n|_=>false)&&jD os l
def zdT(okm:Nat->Bool):List (Option Nat)->Bool
 | []=>true
 |none::l=>zdT okm l
 |some m::l=>okm m && !(l.any fun x=>match x with|some m'=>Nat.beq m m'|none=>false)&&zdT okm l
def zaX(D:List Pl):List PO->Nat->Bool
 | [],_=>true
 |o::os,k=>(match o with | .lop _ _ _ _ _ _ s=>zej s||(D.any fun p=>match p with | .st k' c=>Nat.beq k k'&&zv8 c s|_=>false)|_=>true)&&zaX D os (Nat.succ k)
def xR:List Pl->List PO->List PO
 | .st k c::D,os=>xR D (match og os k with | .lop nt ρ ps a b l _=>oset (.lop nt ρ ps a b l (.int .i64 (.ofNat c))) os k|_=>os)
 |_::D,os=>xR D os
 | [],os=>os
def zkB(lk:Nat->Bool):List Nat->List PO->Option (List PO)
 | [],os=>some os
 |k::l,os=>
  match frC lk yP os (match og os k with | .box _=>.ptr k 0|_=>.own k) with
  |some (os',_)=>zkB lk l os'
  |none=>none
def vec(lk:Nat->Bool)(okm:Nat->Bool)(la:LA)(x:Zg)(ρ:Nat->PA)(os:List PO):Option (List PO×List DV×List OC×List (Option Nat)):=
 match zkS lk ρ (q8 la x) os with
 |some (os1,ds)=>
  match zs8 ρ os1 (zkT la x),zp6 os1 la.arrs with
  |some (vs,ms),some ws=>bif (jD os1 la.boxes&&zdT okm ms)&&zaX (q8 la x) os1 0 then some (os1,ds,vs++ws,ms) else none
  |_,_=>none
 |none=>none
def plP(D:List Pl)(Ow:List (Pl×Nat))(L:List DV)(n0:Nat)(p:Pl):Option PC:=
 match zmU p D 0 with
 |some i=>some (.d (zy L i))
 |none=>match zmU p (Ow.map (·.1)) 0 with|some i=>some (.own (n0+i))|none=>none
def hFr(D:List Pl)(Ow:List (Pl×Nat))(W:List Nat)(ρ:Nat->PA)(n0:Nat)(L:List DV):Nat->PA:=fun i=>
 match plP D Ow L n0 (.slot i) with
 |some c=>pc c
 |none=>bif zkm i W then .bad else ρ i
def qJ(D:List Pl)(Ow:List (Pl×Nat))(L:List DV)(n0 k:Nat):Nat->Nat->List PC
 |0,_=>[]
 |n+1,j=>(match plP D Ow L n0 (.cell k j) with|some c=>c|none=>.d .u)::qJ D Ow L n0 k n (Nat.succ j)
def vG(D:List Pl)(Ow:List (Pl×Nat))(L:List DV)(n0:Nat):List (Nat×Nat)->List PO->List PO
 | [],os=>os
 |(k,n)::l,os=>vG D Ow L n0 l (oset (.box (qJ D Ow L n0 k n 0)) os k)
def qL(M:List OC):List (Nat×Nat)->Nat->List PO->List PO
 | [],_,os=>os
 |(k,st)::l,i,os=>qL M l (Nat.succ i) (oset (mkO st (zU M i)) os k)
def zmZ(M:List OC):List (Pl×Nat)->Nat->List PO
 | [],_=>[]
 |(_,st)::l,i=>mkO st (zU M i)::zmZ M l (Nat.succ i)
def zep:List (Pl×Nat)->List Nat
 | []=>[]
 |(.lnk t,_)::l=>t::zep l
 |_::l=>zep l
def zb9(Ow:List (Pl×Nat))(n0:Nat):List Nat->List PO->List PO
 | [],os=>os
 |t::l,os=>zb9 Ow n0 l (oset (match zmU (.lnk t) (Ow.map (·.1)) 0 with|some i=>.lnk (n0+i)|none=>.dead) os t)
def hOs(D:List Pl)(Ow:List (Pl×Nat))(la:LA)(B:List PO)(n0:Nat)(L:List DV)(M:List OC):List PO:=
 zb9 Ow n0 (zep la.own) (qL M la.arrs Ow.length (vG D Ow L n0 la.boxes B))++zmZ M Ow 0
def listed(la:LA)(k:Nat):Bool:=(la.boxes.any fun x=>Nat.beq k x.1)||(la.arrs.any fun x=>Nat.beq k x.1)||((zep la.own).any fun t=>Nat.beq k t)
def kill:List (Option Nat)->List PO->List PO
 | [],os=>os
 |none::l,os=>kill l os
 |some m::l,os=>kill l (oset .dead os m)
end Go.PE
end
section
namespace Go.PE
open Go Go.CE
end Go.PE
end
section
namespace Go.PE
open Go Go.CE
def jZ(ρ:Nat->PA)(a:PA):Option Nat->Nat->PA
 |none=>ρ
 |some d=>fun i=>bif Nat.beq i d then a else ρ i
def refine(ρ:Nat->PA):Option (Nat×Bool)->Nat->PA
 |none=>ρ
 |some (d,b)=>fun i=>bif Nat.beq i d then pd (.bool b) else ρ i
def zq3:Operand->Bool->Option (Nat×Bool)
 | .tmp t,b=>some (t,b)
 |_,_=>none
def scT(P:Program)(t:TypeId):Bool:=
 match P.underlying t with
 |some .bool=>true
 |some .string=>true
 |some (.int _)=>true
 |_=>false
def ztb(P:Program)(dst:Option Nat)(t:TypeId):Sh:=
 match dst with
 |none=>.no
 |some _=>
  match P.underlying t with
  |some (.tuple ts)=>bif ts.toList.all (scT P) then .tsc ts.toList.length else .tup (ts.toList.map fun t=>match xP P t with|some n=>n|none=>none)
  |_=>bif scT P t then .sc else match xP P t with|some none=>.one|some (some n)=>.agg n|none=>.no
section
variable (P:Program) (O:Orc)
def j0{β:Type}(lk:Nat->Bool)(nt:Nat)(ops:Array Oper)(o:Oper)(ρ:Nat->PA)(os:List PO)(K:Option (Nat×Bool)->KT β):Option β:=
 bif inT nt o.dst then
  match comp P o.op with
  |some ko=>
   match o.guard with
   |none=>pOp O lk (ztb P o.dst o.type) ρ os ko (K none)
   |some (j,b)=>
    match (ops[j]?).bind (·.dst) with
    |some d=>
     bif Nat.ble (Nat.succ d) nt then
      match ρ d with
      | .s (.one (.d v))=>
       bif b then ifB v (pOp O lk (ztb P o.dst o.type) (refine ρ (some (d,true))) os ko (K (some (d,true)))) (K (some (d,false)) .undef os [] [])
       else ifB v (K (some (d,true)) .undef os [] []) (pOp O lk (ztb P o.dst o.type) (refine ρ (some (d,false))) os ko (K (some (d,false))))
      | .undef=>K none .undef os [] []
      |_=>none
     else none
    |none=>none
  |none=>none
 else none
abbrev Inl:=Nat->(Nat->Bool)->List PA->List PO->(β:Type)->(PA->List PO->Option β)->Option β
def znx:List (Nat⊕List DV)->List PA
 | []=>[]
 | .inl k::l=>pc (.ptr k 0)::znx l
 | .inr xs::l=>pd (.fp xs 0)::znx l
def zb4(tab:Nat->Bool)(ρ:Nat->PA)(o:Oper):Option (Nat×List PA):=
 match o.guard with
 |some _=>none
 |none=>
  match comp P o.op with
  |some (.call f args)=>
   match f with
   | .func g=>bif tab g then match pvs ρ args with|some az=>some (g,az)|none=>none else none
   |f=>
    match pv ρ f,pvs ρ args with
    |some (.s (.one (.clo g caps))),some az=>bif tab g then some (g,az++znx caps) else none
    |_,_=>none
  |_=>none
def zkM:Nat:=1000000
def zhT:Nat:=2000000
def zwa(ρ:Nat->PA)(os:List PO)(o:Oper):Option (Nat×List PA):=
 match comp P o.op with
 |some (.call f args)=>
  match pv ρ f,pvs ρ args with
  |some (.s (.one (.own k))),some az=>match og os k with | .lop ..=>some (k,az)|_=>none
  |_,_=>none
 |_=>none
def zj6(tab:Nat->Bool)(Y:Inl){β:Type}(lk:Nat->Bool)(nt:Nat)(ops:Array Oper):List Oper->(Nat->PA)->List PO->((Nat->PA)->List PO->Option β)->Option β
 | [],ρ,os,K=>K ρ os
 |o::l,ρ,os,K=>
  match zb4 P tab ρ o with
  |some (g,az)=>bif inT nt o.dst then Y g lk az os β (fun a os'=>zj6 tab Y lk nt ops l (jZ ρ a o.dst) os' K) else none
  |none=>
  match zwa P ρ os o with
  |some (k,az)=>
   bif inT nt o.dst then
    match o.guard with
    |none=>Y (zhT+k) lk az os β (fun a os'=>zj6 tab Y lk nt ops l (jZ ρ a o.dst) os' K)
    |some (j,b)=>
     match (ops[j]?).bind (·.dst) with
     |some d=>
      bif Nat.ble (Nat.succ d) nt then
       match ρ d with
       | .s (.one (.d v))=>
        bif b then ifB v (Y (zhT+k) lk az os β (fun a os'=>zj6 tab Y lk nt ops l (jZ (refine ρ (some (d,true))) a o.dst) os' K)) (zj6 tab Y lk nt ops l (jZ (refine ρ (some (d,false))) .undef o.dst) os K)
        else ifB v (zj6 tab Y lk nt ops l (jZ (refine ρ (some (d,true))) .undef o.dst) os K) (Y (zhT+k) lk az os β (fun a os'=>zj6 tab Y lk nt ops l (jZ (refine ρ (some (d,false))) a o.dst) os' K))
       | .undef=>zj6 tab Y lk nt ops l (jZ ρ .undef o.dst) os K
       |_=>none
      else none
     |none=>none
   else none
  |none=>j0 P O lk nt ops o ρ os fun ref a os' _ _=>zj6 tab Y lk nt ops l (jZ (refine ρ ref) a o.dst) os' K
def zwp{β:Type}(a:(Nat->PA)->List PO->Option β)(k:Zg->(Nat->PA)->List PO->Option β):Zg->(Nat->PA)->List PO->Option β
 | .normal,ρ,os=>a ρ os
 | .exit id,ρ,os=>k (.exit id) ρ os
 | .ret,ρ,os=>k .ret ρ os
def zyd{β:Type}(id:Nat)(k:Zg->(Nat->PA)->List PO->Option β):Zg->(Nat->PA)->List PO->Option β
 | .exit id',ρ,os=>bif Nat.beq id' id then k .normal ρ os else k (.exit id') ρ os
 | .normal,ρ,os=>k .normal ρ os
 | .ret,ρ,os=>k .ret ρ os
def jg:Code->Nat
 | .seq a b=>jg a+jg b
 | .cond _ a b=>jg a+jg b
 | .block _ c=>jg c
 | .loop c=>jg c+1
 | .rangeFunc ..=>1
 |_=>0
def kq:Code->Bool
 | .seq a b=>kq a||kq b
 | .cond _ a b=>kq a||kq b
 | .block _ c=>kq c
 | .loop c=>kq c
 | .rangeFunc _ _ _ c=>kq c
 | .ret=>true
 |_=>false
abbrev PX:=Zg×List DV×List OC
def wp(f:List DV->List OC->Option PX):Nat->List DV->List OC->Option PX
 |0,_,_=>none
 |n+1,L,M=>
  match f L M with
  |some (.normal,L',M')=>wp f n L' M'
  |x=>x
open Classical in
noncomputable def z6(f:List DV->List OC->Option PX)(L:List DV)(M:List OC):Option PX:=
 if h:∃n y,wp f n L M=some y then some (Classical.choose (Classical.choose_spec h)) else none
def xa{β:Type}(x:Option PX)(kx:Nat->List DV->List OC->Option β)(kr:List DV->List OC->Option β):Option β:=
 match x with
 |some (.exit id,L,M)=>kx id L M
 |some (.ret,L,M)=>kr L M
 |_=>none
def zeq(la:LA)(n0:Nat)(k:Nat):Bool:=Nat.ble (Nat.succ k) n0 && !listed la k
def free(lk:Nat->Bool)(la:LA):Bool:=(la.boxes.all fun x=>!lk x.1)&&(la.arrs.all fun x=>!lk x.1)&&((zep la.own).all fun t=>!lk t)
def zof(lk:Nat->Bool)(n0:Nat)(la:LA)(e:Zg)(ρ:Nat->PA)(os:List PO):Option PX:=
 match vec lk (fun m=>Nat.ble n0 m) la e ρ os with
 |some (_,L,M,_)=>some (e,L,M)
 |none=>none
end
end Go.PE
end
section
namespace Go.PE
open Go Go.CE
def kf:KOp->Bool
 | .mv _ | .pick .. | .build .. | .nilck _ | .bin .. | .shift .. | .str .. | .nilS .. | .eq .. | .not _ | .neg _ | .conv .. | .mkfn .. | .slice .. | .sslice .. | .foff .. | .field .. | .ixs .. | .ixarr .. | .ixagg .. | .ixstr .. | .extract .. | .lenS _ | .lenL _ | .minmax ..=>true
 |_=>false
end Go.PE
end
section
namespace Go.PE
open Go Go.CE
def zG(ρ:Nat->PA)(l:List Nat):Nat->PA:=fun i=>bif zkm i l then ρ i else .bad
def zdD(bo:Nat->Nat)(n:Nat):Option Nat->Nat->Nat
 |none=>bo
 |some d=>fun i=>bif Nat.beq i d then n else bo i
def bOf(bo:Nat->Nat):Operand->Nat
 | .tmp t=>bo t
 |_=>0
def okW(ws:List (List Nat))(lo hi:Nat)(rd:List Nat):Bool:=((ws.drop lo).take (hi-lo)).all fun w=>rd.all fun k=>!zkm k w
def zo5(os:List PO):Bool:=os.all fun o=>match o with | .lop ..=>false|_=>true
def zqF(n j:Nat):Bool:=Nat.ble (Nat.succ j) n
section
variable (P:Program) (O:Orc) (tab:Nat->Bool) (Y:Inl)
def zuI(ρ:Nat->PA)(o:Oper):List Oper->Option (Nat×List PA)
 | []=>zb4 P tab ρ o
 |_::_=>none
def zw3(ρ:Nat->PA)(o:Oper):Option (Nat×Nat×List PA):=
 match zb4 P tab ρ o with
 |some (g,az)=>
  match az with
  | .s (.one (.own j))::rest=>some (g,j,rest)
  |_=>none
 |none=>none
def pDr{β:Type}(lk:Nat->Bool)(nt:Nat)(ops:Array Oper)(bs:List Nat)(es:List Bool):Nat->List Oper->(Nat->PA)->List PO->(Nat->Nat)->List (List Nat)->List (Nat×Nat×List Nat)->((Nat->PA)->List PO->Option β)->Option β
 |_,[],ρ,os,_,ws,ps,K=>bif ps.all (fun p=>okW ws p.1 p.2.1 p.2.2) then K ρ os else none
 |i,o::l,ρ,os,bo,ws,ps,K=>
  bif yv P o.op then
   match comp P o.op with
   |none=>none
   |some ko=>
    bif kf ko then
     j0 P O (fun _=>true) nt ops o (zG ρ (o.looksAt ops)) os fun ref a _ _ _=>pDr lk nt ops bs es (Nat.succ i) l (jZ (refine ρ ref) a o.dst) os (zdD bo (match trk (refine (zG ρ (o.looksAt ops)) ref) ko with|some x=>bOf bo x|none=>ws.length) o.dst) ws ps K
    else
     match zfF ko with
     |none=>none
     |some x=>
      bif Nat.beq (ce (fun j=>bef bs j i) 0 es) (ce (fun j=>!bef bs i j) 0 es) then
       j0 P O (fun _=>true) nt ops o (zG ρ (o.looksAt ops)) os fun ref a _ _ _=>pDr lk nt ops bs es (Nat.succ i) l (jZ (refine ρ ref) a o.dst) os (zdD bo ws.length o.dst) ws ps K
      else
       bif Nat.ble (bOf bo x) (ce (fun j=>bef bs j i) 0 es)&&Nat.ble (ce (fun j=>bef bs j i) 0 es) ws.length&&Nat.ble ws.length (ce (fun j=>!bef bs i j) 0 es) then
        j0 P O (fun _=>true) nt ops o (zG ρ (o.looksAt ops)) os fun ref a _ _ rd=>pDr lk nt ops bs es (Nat.succ i) l (jZ (refine ρ ref) a o.dst) os (zdD bo ws.length o.dst) ws (ps++[(ce (fun j=>bef bs j i) 0 es,ce (fun j=>!bef bs i j) 0 es,rd)]) K
       else none
  else
   match zuI P tab (zG ρ (o.looksAt ops)) o l with
   |some (g,az)=>bif inT nt o.dst&&ps.all (fun p=>okW ws p.1 p.2.1 p.2.2&&Nat.ble p.2.1 ws.length) then Y g lk az os β (fun a os'=>K (jZ ρ a o.dst) os') else none
   |none=>
   match zw3 P tab (zG ρ (o.looksAt ops)) o with
   |some (g,j,az)=>bif inT nt o.dst then Y (zkM+g) lk (pc (.own j)::az) os β (fun a os'=>pDr lk nt ops bs es (Nat.succ i) l (jZ ρ a o.dst) os' (zdD bo (Nat.succ ws.length) o.dst) (ws++[[j]]) ps K) else none
   |none=>
   match zb4 P tab (zG ρ (o.looksAt ops)) o with
   |some (g,az)=>bif inT nt o.dst then Y g (zqF os.length) az (List.replicate os.length .dead) β (fun a os'=>pDr lk nt ops bs es (Nat.succ i) l (jZ ρ a o.dst) (os++os'.drop os.length) (zdD bo (Nat.succ ws.length) o.dst) (ws++[[]]) ps K) else none
   |none=>
   j0 P O lk nt ops o (zG ρ (o.looksAt ops)) os fun ref a os' wr _=>pDr lk nt ops bs es (Nat.succ i) l (jZ (refine ρ ref) a o.dst) os' (zdD bo (Nat.succ ws.length) o.dst) (ws++[wr]) ps K
end
end Go.PE
end
section
namespace Go.PE
open Go Go.CE
abbrev Sn:=Nm×List PO
def zp4(E:En)(S:List Sn)(ws:List (List Nat)):Prop:=∀(e:Nat) (w:List Nat),ws[e]? = some w->∀A B,S[e]? = some A->S[e+1]? = some B->Zd E A.1 A.2/\Nx A.1 B.1/\BkE A.1 A.2 B.1 w/\Ho A.1.n A.2 B.2 w
section
variable {E:En} {S:List Sn} {ws:List (List Nat)} (hl:S.length=ws.length+1) (ch:zp4 E S ws)
include hl ch
end
end Go.PE
end
section
namespace Go.PE
open Go Go.CE
def wG(bs:List Nat)(i:Nat):List (Nat×Nat)->List PO->List PO
 | [],os=>os
 |(j,k)::mk,os=>bif bef bs j i then wG bs i mk os else oset .dead (wG bs i mk os) k
def wo(bs:List Nat)(i:Nat)(os0:List PO):List (Nat×Nat)->List PO->List PO
 | [],os=>os
 |(j,k)::mk,os=>bif bef bs j i then wo bs i os0 mk os else oset (og os0 k) (wo bs i os0 mk os) k
def isLive:PO->Bool
 | .box _=>true
 | .arr _ (some _)=>true
 | .mp _ _=>true
 |_=>false
def uT(mk:List (Nat×Nat))(os:List PO):Bool:=mk.all fun p=>isLive (og os p.2)
end Go.PE
end
section
namespace Go.PE
open Go Go.CE
section
variable {P:Program} {O:Orc} {C:Nat->zc} {E:En}
def mkK:KOp->Bool
 | .alloc _=>true
 | .box _=>true
 | .bslice ..=>true
 |_=>false
def soft:KOp->Bool
 | .bslice ..=>false
 |_=>true
def isD:PC->Bool
 | .d _=>true
 |_=>false
def wD:PA->Bool
 | .s v=>v.cells.all isD
 | .tl ..=>false
 |_=>true
def zuG:KOp->PA->PA
 | .bslice _ 0 _ _,.s (.one (.own k))=>.s (.one (.lit k))
 |_,a=>a
def zvG{β:Type}(ko:KOp)(E:En)(lk:Nat->Bool)(N:Nm)(os:List PO)(run:zc->Za->Res)(K:PA->List PO->Option β)(x:β)(nb:Bool):Prop:=
 ∃a os1 o N1,K a (os1++[o])=some x/\Fz N N1/\Stp E lk N os [] N1 os1/\os1.length=os.length/\(nb=true->N1=N)/\solid o/\∃(vf:BN->Zc) (y:Zf),(∀b,blk (vf b)=some b)/\(∀call b T,run call ⟨b,T⟩=some (.s (.one (vf b)),(⟨b,T⟩:Za).new y))/\
  ∀b N',Nx N1 N'->N'.μ os1.length=vf b->¬N'.fz b->N'.h.t.get b=some y->os1.length<N'.n->RepO N' os1.length o/\RepPA N' (.s (.one (vf b))) (zuG ko a)
theorem zuw{β:Type}{lk:Nat->Bool}{N:Nm}{os:List PO}{r:Fr}{ρ:Nat->PA}{k:KT β}{x:β}{sh:Sh}{ko:KOp}(hk:mkK ko=true)(I:Zd E N os)(F:∀i,RepPA N (r i) (ρ i))(e:pOp O lk sh ρ os ko k=some x):
  zvG ko E lk N os (fun call h=>runK r ko call h) (fun a os'=>k a os' [] []) x (soft ko):=by
 have boxy:∀(vs:List Zc) (ps:List PC),RepPL N vs ps->(∀call h,runK r ko call h=zcI h (.cells vs 0) (fun b=>.ptr b 0))->k (pc (.ptr os.length 0)) (os++[.box ps]) [] []=some x->(∀a,zuG ko a=a)->zvG ko E lk N os (fun call h=>runK r ko call h) (fun a os'=>k a os' [] []) x (soft ko):=by intro vs ps H run e hla;exact⟨_,os,.box ps,N,e,.refl N,.refl I,rfl,fun _=>rfl,trivial,fun b=>.ptr b 0,.cells vs 0,fun b=>rfl,fun call b T=>(run call _).trans (zel _ _ _),fun b N' nx hmu hf hg hlt=>⟨⟨_,vs,hmu,hf,hg,H.mono nx⟩,by rw[hla];exact yD (p:=.ptr os.length 0) (c:=.ptr b 0) ⟨hlt,_,hmu,rfl⟩⟩⟩
 cases ko with
 |alloc zs=>have e:za (cDs zs) (fun cs=>k (pc (.ptr os.length 0)) (os++[.box cs]) [] [])=some x:=e;obtain⟨ps,h1,e⟩:=zh e;exact boxy _ _ (qX h1) (fun call h=>rfl) e fun _=>rfl
 |box a=>
  have e:(match pv ρ a with
   |some (.s v)=>k (pc (.ptr os.length 0)) (os++[.box v.cells]) [] []
   |_=>none)=some x:=e
  split at e
  .rename_i p hp;obtain⟨v,ka,ra⟩:=x4 F hp;obtain⟨w,rfl,hw⟩:=ra.inv;exact boxy _ _ hw.cells (fun call h=>by simp only[runK,ka,zx];rfl) e fun _=>rfl
  cases e
 |bslice st len zs parts=>
  have e:za (cDs zs) (fun cs=>za (zfS ρ parts cs) fun cs=>za (frL lk yP os cs) fun p=>bif Nat.beq p.2.length (len*st) then k (pc (.own p.1.length)) (p.1++[.arr st (some (chunks st len p.2))]) [] [] else none)=some x:=e
  obtain⟨ps,h1,e⟩:=zh e;obtain⟨ps',h2,e⟩:=zh e;obtain⟨⟨os1,ds⟩,h3,e⟩:=zh e;obtain⟨l,cs',k1,k2,k3⟩:=zbi F h2 (qX h1);obtain⟨N1,f1,S1,r1⟩:=zi2 I k3 h3;simp only at e;cases hb:Nat.beq ds.length (len*st)
  .grind
  rw[hb]at e;have hd:=Lz1 hb;have hl1:os1.length=os.length:=by rw[<-S1.inv.len,f1.n,I.len]
  have hlc:(chunks st len ds).length=len:=zav st len ds;refine⟨_,os1,.arr st (some (chunks st len ds)),N1,e,f1,S1,hl1,fun h=>(by cases h),trivial,fun b=>.slc b 0 len len true,.cells cs' st,fun b=>rfl,fun call b T=>?_,fun b N' nx hmu hf hg hlt=>⟨⟨b,cs',true,?_,hf,hg,by rw[r1.1,hd,hlc],fun i y hy=>?_⟩,by
    cases len with
    |zero=>exact yD (p:=.lit os1.length) ⟨hlt,b,hmu,rfl⟩
    |succ n=>exact yD (p:=.own os1.length) ⟨hlt,hmu.symm⟩⟩⟩
  .show runK r (.bslice st len zs parts) call ⟨b,T⟩=_;simp only[runK,k1];show (match zan .nil (cP l) zs with|some cs=>zcI ⟨b,T⟩ (.cells cs st) (fun b=>.slc b 0 len len true)|none=>none)=_
   grind[zel]
  .grind
  obtain⟨q1,q2⟩:=zaw st len ds i y hy;subst q1;refine⟨?_,(r1.sub (i*st) st).mono nx.fg⟩;have:=Yzj st (show i+1<=len from q2)
  grind
 |_=>cases hk
end
def zmB(mk:List (Nat×Nat)):List Nat->Bool
 | [k]=>mk.any fun p=>Nat.beq p.2 k
 |_=>false
section
variable (P:Program) (O:Orc) (tab:Nat->Bool) (Y:Inl)
def zg0{β:Type}(lk:Nat->Bool)(nt:Nat)(ops:Array Oper)(bs:List Nat)(es:List Bool):Nat->List Oper->(Nat->PA)->List PO->(Nat->Nat)->List (List Nat)->List (Nat×Nat×List Nat)->List (Nat×Nat)->Bool->((Nat->PA)->List PO->Option β)->Option β
 |_,[],ρ,os,_,ws,ps,_,_,K=>bif ps.all (fun p=>okW ws p.1 p.2.1 p.2.2) then K ρ os else none
 |i,o::l,ρ,os,bo,ws,ps,mk,fr,K=>
  bif j6 o.op then
   match comp P o.op,o.guard with
   |some ko,none=>
    bif mkK ko&&inT nt o.dst then
     pOp O lk (ztb P o.dst o.type) (zG ρ (o.looksAt ops)) os ko fun a os' _ _=>bif uT mk os' then zg0 lk nt ops bs es (Nat.succ i) l (jZ ρ (zuG ko a) o.dst) os' (zdD bo (Nat.succ ws.length) o.dst) ws ps (mk++[(i,os.length)]) (fr&&soft ko) K else none
    else none
   |_,_=>none
  else bif anchor P o.op then
   match zb4 P tab (zG ρ (o.looksAt ops)) o with
   |some (g,az)=>bif inT nt o.dst&&zo5 (wG bs i mk os) then Y g (zqF (wG bs i mk os).length) az (wG bs i mk os) β (fun a os1=>bif uT mk (wo bs i os mk os1) then zg0 lk nt ops bs es (Nat.succ i) l (jZ ρ a o.dst) (wo bs i os mk os1) (zdD bo (Nat.succ ws.length) o.dst) (ws++[List.range (wG bs i mk os).length]) ps mk true K else none) else none
   |none=>
   j0 P O lk nt ops o (zG ρ (o.looksAt ops)) (wG bs i mk os) fun ref a os1 wr _=>bif uT mk (wo bs i os mk os1) then zg0 lk nt ops bs es (Nat.succ i) l (jZ (refine ρ ref) a o.dst) (wo bs i os mk os1) (zdD bo (Nat.succ ws.length) o.dst) (ws++[wr]) ps mk true K else none
  else
   match comp P o.op with
   |none=>none
   |some ko=>
    bif kf ko then
     j0 P O (fun _=>true) nt ops o (zG ρ (o.looksAt ops)) (wG bs i mk os) fun ref a _ _ _=>zg0 lk nt ops bs es (Nat.succ i) l (jZ (refine ρ ref) a o.dst) os (zdD bo (match trk (refine (zG ρ (o.looksAt ops)) ref) ko with|some x=>bOf bo x|none=>bif fr&&wD a then ws.length else Nat.succ ws.length) o.dst) ws ps mk fr K
    else
     match zfF ko with
     |none=>none
     |some x=>
      bif Nat.beq (ce (fun j=>bef bs j i) 0 es) (ce (fun j=>!bef bs i j) 0 es) then
       j0 P O (fun _=>true) nt ops o (zG ρ (o.looksAt ops)) (wG bs i mk os) fun ref a _ _ _=>zg0 lk nt ops bs es (Nat.succ i) l (jZ (refine ρ ref) a o.dst) os (zdD bo (bif fr&&wD a then ws.length else Nat.succ ws.length) o.dst) ws ps mk fr K
      else
       bif Nat.ble (bOf bo x) (ce (fun j=>bef bs j i) 0 es)&&Nat.ble (ce (fun j=>bef bs j i) 0 es) ws.length&&Nat.ble ws.length (ce (fun j=>!bef bs i j) 0 es) then
        j0 P O (fun _=>true) nt ops o (zG ρ (o.looksAt ops)) (wG bs i mk os) fun ref a _ _ rd=>zg0 lk nt ops bs es (Nat.succ i) l (jZ (refine ρ ref) a o.dst) os (zdD bo (bif fr&&wD a then ws.length else Nat.succ ws.length) o.dst) ws (ps++[(ce (fun j=>bef bs j i) 0 es,ce (fun j=>!bef bs i j) 0 es,rd)]) mk fr K
       else bif Nat.ble ws.length (ce (fun j=>!bef bs i j) 0 es) then
        j0 P O (fun _=>true) nt ops o (zG ρ (o.looksAt ops)) (wG bs i mk os) fun ref a _ _ rd=>bif zmB mk rd&&okW ws 0 ws.length rd then zg0 lk nt ops bs es (Nat.succ i) l (jZ (refine ρ ref) a o.dst) os (zdD bo (bif fr&&wD a then ws.length else Nat.succ ws.length) o.dst) ws (ps++[(0,ce (fun j=>!bef bs i j) 0 es,rd)]) mk fr K else none
       else none
end
section
variable {E:En} {S:List Sn} {ws:List (List Nat)} (hl:S.length=ws.length+1) (ch:zp4 E S ws)
include hl ch
end
end Go.PE
end
section
namespace Go.PE
open Go Go.CE
end Go.PE
end
section
namespace Go.PE
open Go Go.CE
def zuh(c:Nat):Nat:=Nat.mod c 1000
def zy4(c:Nat):Nat:=Nat.mod (Nat.div c 1000) 1000
def zug(c:Nat):Nat:=Nat.mod (Nat.div c 1000000) 1000
def zuR(c:Nat):Bool:=Nat.ble 1000000000 c
def zwc:List Nat->List Nat
 | []=>[]
 |c::l=>bif zuR c then zwc l else c::zwc l
def zth:List Nat->List Nat
 | []=>[]
 |c::l=>bif zuR c then c::zth l else zth l
def zrv{β:Type}(lk:Nat->Bool)(ρ:Nat->PA)(os:List PO)(c:Nat)(K:List PO->Option β):Option β:=
 bif lk (zuh c) then none else
 match og os (zuh c) with
 | .arr st v=>
  bif Nat.beq st 1 then
   match ρ (zy4 c) with
   | .s (.one (.d d))=>za (yn v d) fun n=>za (j5 v n) fun x=>gdN (atD x 0) (K ((oset (.hol v n (Nat.succ os.length)) os (zuh c)++[.arr (zug c) none])++[.lnk os.length]))
   |_=>none
  else none
 |_=>none
def zru{β:Type}(lk:Nat->Bool)(ρ:Nat->PA):List Nat->List PO->(List PO->Option β)->Option β
 | [],os,K=>K os
 |c::l,os,K=>zrv lk ρ os c fun os'=>zru lk ρ l os' K
def zyZ(v:OC)(n:Nat)(d:DV):Option OC:=
 match v with
 |some xs=>some (some (xs.set n [d]))
 |none=>none
def znr{β:Type}(lk:Nat->Bool)(os:List PO)(k t:Nat)(K:List PO->Option β):Option β:=
 match og os k with
 | .hol v n t'=>
  match og os t with
  | .lnk m=>
   bif Nat.beq t t' && !lk k && !lk t then
    match frC lk yP os (.own m) with
    |some (os1,d)=>za (zyZ v n d) fun w=>K (oset .dead (oset (.arr 1 w) os1 k) t)
    |none=>none
   else none
  |_=>none
 |_=>none
def zf6{β:Type}(lk:Nat->Bool):List (Nat×Nat)->List PO->(List PO->Option β)->Option β
 | [],os,K=>K os
 |p::l,os,K=>znr lk os p.1 p.2 fun os'=>zf6 lk l os' K
def pairs:List Nat->Nat->List (Nat×Nat)
 | [],_=>[]
 |c::l,n=>(zuh c,Nat.succ n)::pairs l (Nat.add n 2)
end Go.PE
end
section
namespace Go.PE
open Go Go.CE
def zoK(tab:Nat->Bool)(ρ:Nat->PA)(g:Operand):Option (Nat×List PA):=
 match pv ρ g with
 |some (.s (.one (.clo gf caps)))=>bif tab gf then some (gf,znx caps) else none
 |some (.s (.one (.d (.fn gf caps))))=>bif tab gf then some (gf,caps.map fun x=>pd (.fp x 0)) else none
 |_=>none
def zvm(nt:Nat)(ρ:Nat->PA):Nat->PA:=fun i=>bif Nat.ble (Nat.succ i) nt then ρ i else .bad
def zx8{β:Type}(K:Zg->List PO->Option β)(k:Nat)(os:List PO):Option β:=
 match og os k with
 | .lop _ _ _ _ _ _ (.int .i64 (.ofNat 0))=>K .ret (oset .dead os k)
 | .lop _ _ _ _ _ _ (.int .i64 (.ofNat (e+1)))=>K (.exit e) (oset .dead os k)
 | .lop _ _ _ _ _ _ (.int .i64 (.negSucc 0))=>K .normal (oset .dead os k)
 |_=>none
def zyi(l:List Pl):Bool:=l.all fun p=>match p with | .st _ _=>false|_=>true
section
variable (P:Program) (O:Orc) (tab:Nat->Bool) (Y:Inl)
noncomputable def wI(nt:Nat)(an:Nat->Option LA)(fn:Nat)(top:Bool):Code->(Nat->Bool)->Nat->{β:Type}->(Nat->PA)->List PO->(Zg->(Nat->PA)->List PO->Option β)->Option β
 | .skip,_,_,_,ρ,os,K=>K .normal ρ os
 | .region _ ops draw,lk,_,_,ρ,os,K=>bif draw then(bif P.follows .mixedOrders&&qT P ops (y5 ops.toList) then pDr P O tab Y lk nt ops (y5 ops.toList) (qS P ops.toList) 0 ops.toList ρ os (fun _=>0) [] [] (fun ρ os=>K .normal ρ os) else bif P.follows .mixedOrders&&uP P ops (y5 ops.toList) then zg0 P O tab Y lk nt ops (y5 ops.toList) (jG P ops.toList) 0 ops.toList ρ os (fun _=>0) [] [] [] true (fun ρ os=>K .normal ρ os) else none) else zj6 P O tab Y lk nt ops ops.toList ρ os (fun ρ os=>K .normal ρ os)
 | .seq a b,lk,i,_,ρ,os,K=>wI nt an fn top a lk i ρ os (zwp (fun ρ os=>wI nt an fn top b lk (i+jg a) ρ os K) K)
 | .cond c a b,lk,i,_,ρ,os,K=>
  match pv ρ c with
  |some (.s (.one (.d v)))=>ifB v (wI nt an fn top a lk i (refine ρ (zq3 c true)) os K) (wI nt an fn top b lk (i+jg a) (refine ρ (zq3 c false)) os K)
  |_=>none
 | .block id c,lk,i,_,ρ,os,K=>wI nt an fn top c lk i ρ os (zyd id K)
 | .loop c,lk,i,_,ρ,os,K=>
  match an i with
  |some la=>
   bif free lk la&&zyi la.data then
    match zkB lk (zwc la.frz) os with
    |none=>none
    |some os=>
    zru lk ρ (zth la.frz) os fun oz=>
    match vec lk (fun m=>!lk m && !listed la m) la .normal ρ oz with
    |some (os1,L0,M0,ms)=>
     xa (z6 (fun L M=>wI nt an fn top c (zeq la oz.length) (i+1) (hFr la.data la.own (writes c) ρ oz.length L) (hOs la.data la.own la (kill ms os1) oz.length L M) (zof (zeq la oz.length) oz.length la)) L0 M0)
      (fun id L M=>zf6 lk (pairs (zth la.frz) os.length) (hOs la.xdata la.xown la (xR la.xdata (kill ms os1)) oz.length L M) fun o3=>K (.exit id) (hFr la.xdata la.xown (writes c) ρ oz.length L) o3)
      (fun L M=>bif kq c then zf6 lk (pairs (zth la.frz) os.length) (hOs la.rdata la.rown la (xR la.rdata (kill ms os1)) oz.length L M) fun o3=>K .ret (hFr la.rdata la.rown (writes c) ρ oz.length L) o3 else none)
    |none=>none
   else none
  |none=>none
 | .rangeFunc g ps assign body,lk,i,β,ρ,os,K=>
  bif top then
   match zoK tab ρ g with
   |some (gf,cs)=>Y gf lk (pc (.own os.length)::cs) (os++[.lop nt (zvm nt ρ) ps.toList assign body (fn*1000+i) (.int .i64 (.negSucc 0))]) β (fun _ os2=>zx8 (fun e os3=>K e ρ os3) os.length os2)
   |none=>none
  else none
 | .exit id,_,_,_,ρ,os,K=>K (.exit id) ρ os
 | .ret,_,_,_,ρ,os,K=>K .ret ρ os
 |_,_,_,_,_,_,_=>none
end
end Go.PE
end
section
namespace Go.PE
open Go Go.CE
section
variable {fz:BN->Prop} {h h':Za} (H:∀b o,h.t.get b=some o->o≠.defer->h'.t.get b=some o)
include H
end
section
variable {N:Nm} {h':Za} (H:∀b o,N.h.t.get b=some o->o≠.defer->h'.t.get b=some o)
include H
end
end Go.PE
end
section
namespace Go.PE
open Go Go.CE
def kn:DA->PA
 | .s (.one d)=>.s (.one (.d d))
 | .s (.agg l)=>.s (.agg (l.map .d))
 | .tup l=>.tup l
def zjh(args:List DA):Nat->PA:=fun i=>match args[i]? with|some a=>kn a|none=>.bad
section
variable (P:Program)
def zj1(lk:Nat->Bool)(ρ:Nat->PA)(os:List PO):ResultVar->Option (List PO×DS)
 | .tmp i=>match ρ i with | .s v=>frV lk os v|_=>none
 | .cell i t=>
  match xP P t,ρ i with
  |some n,.s (.one (.ptr k off))=>
   match og os k with
   | .box cs=>
    match n with
    |none=>match cs[off]? with|some c=>frV lk os (.one c)|none=>none
    |some n=>bif Nat.ble (off+n) cs.length then frV lk os (.agg ((cs.drop off).take n)) else none
   |_=>none
  |_,_=>none
def uZ(lk:Nat->Bool)(ρ:Nat->PA):List PO->List ResultVar->Option (List DS×List PO)
 |os,[]=>some ([],os)
 |os,x::l=>
  match zj1 P lk ρ os x with
  |some (os',d)=>match uZ lk ρ os' l with|some (ds,os'')=>some (d::ds,os'')|none=>none
  |none=>none
def ztm:List DS->DA
 | [d]=>.s d
 |l=>.tup l
def ztl(rs:List ResultVar):Zg->(Nat->PA)->List PO->Option DA
 | .exit _,_,_=>none
 | .normal,ρ,os=>match uZ P (fun _=>false) ρ os rs with|some (l,_)=>some (ztm l)|none=>none
 | .ret,ρ,os=>match uZ P (fun _=>false) ρ os rs with|some (l,_)=>some (ztm l)|none=>none
def zvT(lk:Nat->Bool)(ρ:Nat->PA)(os:List PO):List ResultVar->Option (PA×List PO)
 | [.tmp i]=>match ρ i with | .s v=>some (.s v,os)|_=>none
 | [.cell i t]=>
  match xP P t,ρ i with
  |some n,.s (.one (.ptr k off))=>
   match og os k with
   | .box cs=>
    match n with
    |none=>match cs[off]? with|some c=>some (.s (.one c),os)|none=>none
    |some n=>bif Nat.ble (off+n) cs.length then some (.s (.agg ((cs.drop off).take n)),os) else none
   |_=>none
  |_,_=>none
 |rs=>match uZ P lk ρ os rs with|some (l,os')=>some (.tup l,os')|none=>none
def zt5(live:Bool)(lk:Nat->Bool)(ρ:Nat->PA)(os:List PO)(rs:List ResultVar):Option (PA×List PO):=
 bif live then
  match rs with
  |x::y::l=>
   match uZ P lk ρ os (y::l) with
   |some (ds,os1)=>
    match zvT P lk ρ os1 [x] with
    |some (.s p,os2)=>some (.tl p ds,os2)
    |_=>none
   |none=>none
  |_=>none
 else zvT P lk ρ os rs
def zaq(az:List PA):Nat->PA:=fun i=>match az[i]? with|some a=>a|none=>.bad
structure Red where
 r:Nat->List PA->Option (Bool×Nat×List PA)
 s:Nat->Option Srt
def zyh:DV->Option Int
 | .int .i64 n=>some n
 |_=>none
def zsD:List DV->Option (List Int)
 | []=>some []
 |d::l=>match zyh d,zsD l with|some n,some ns=>some (n::ns)|_,_=>none
def zlC(st:Nat):List (List DV)->Option (List (List Int))
 | []=>some []
 |x::l=>match zsD x,zlC st l with|some r,some rs=>bif Nat.beq r.length st&&inZ r then some (r::rs) else none|_,_=>none
def enZ(r:List Int):List DV:=r.map (DV.int .i64)
def zx5(st:Nat):OC->Option OC
 |none=>some none
 |some xs=>match zlC st xs with|some l=>bif Nat.ble (l.length+1) 4611686018427387904 then some (some ((zcK l).map enZ)) else none|none=>none
def zti(l:List Nat):PC->Bool
 | .d (.fn f' [])=>l.any (Nat.beq f')
 |_=>false
def zws{β:Type}(t:Srt)(lk:Nat->Bool)(az:List PA)(os:List PO)(K:PA->List PO->Option β):Option β:=
 match az with
 | [.s (.one (.d .nils)),.s (.one c)]=>bif zti t.f c then K (.tup []) os else none
 | [.s (.one (.own k)),.s (.one c)]=>
  bif zti t.f c && !lk k then
   match og os k with
   | .arr st v=>bif Nat.beq st t.st then za (zx5 st v) fun v'=>K (.tup []) (oset (.arr st v') os k) else none
   |_=>none
  else none
 |_=>none
noncomputable def zxq(O:Orc)(tab:Nat->Bool)(Y:Inl)(an:Nat->List PA->Nat->Nat->Option LA)(R:Red)(g:Nat)(lk:Nat->Bool)(az:List PA)(os:List PO){β:Type}(K:PA->List PO->Option β):Option β:=
 match az with
 | .s (.one (.own j))::rest=>
  match og os j with
  | .arr st v=>
   bif lk j then none else
   match frA (fun i=>lk i||Nat.beq i j) os rest with
   |some (os1,ds)=>
    match R.s g with
    |some _=>none
    |none=>
    match P.funcs[g]? with
    |some fn=>
     match fn.body with
     |some c=>
      bif (ze0 P fn.results.toList).isNone||fn.name == "runtime.NumGoroutine" then none else bif Nat.ble az.length fn.ntmps then
       wI P O tab Y fn.ntmps (an (zkM+g) az 1) g true c (fun _=>false) 0 (zaq (pc (.own 0)::ds.map kn)) [.arr st v] (fun ex ρ os2=>
        match ztl P fn.results.toList ex ρ os2 with
        |some d=>K (kn d) (oset .dead os1 j)
        |none=>none)
      else none
     |none=>none
    |none=>none
   |none=>none
  |_=>none
 |_=>none
def psP(nt:Nat)(ρ:Nat->PA):List Nat->List PA->Option (Nat->PA)
 | [],[]=>some ρ
 |p::ps,a::az=>bif Nat.ble (Nat.succ p) nt then psP nt (jZ ρ a (some p)) ps az else none
 |_,_=>none
def zsQ:Zg->Int
 | .normal=>.negSucc 0
 | .ret=>.ofNat 0
 | .exit id=>.ofNat (id+1)
def zv9:Zg->Bool
 | .normal=>true
 |_=>false
noncomputable def zxp(O:Orc)(tab:Nat->Bool)(Y:Inl)(an:Nat->List PA->Nat->Nat->Option LA)(k:Nat)(lk:Nat->Bool)(az:List PA)(os:List PO){β:Type}(K:PA->List PO->Option β):Option β:=
 match og os k with
 | .lop nt ρ0 ps A B lbl (.int .i64 (.negSucc 0))=>
  match psP nt ρ0 ps az with
  |some ρ1=>
   wI P O tab Y nt (an (zhT+lbl) [] os.length) 0 false A (fun j=>lk j||Nat.beq j k) 0 ρ1 os (fun e ρ2 os2=>
    bif zv9 e then
     match og os2 k with
     | .lop _ _ _ _ _ _ (.int .i64 (.negSucc 0))=>wI P O tab Y nt (an (zhT+lbl) [] os.length) 0 false B (fun j=>lk j||Nat.beq j k) (jg A) ρ2 (oset (.lop nt ρ0 ps A B lbl (.int .i64 (.negSucc 1))) os2 k) (fun e _ os3=>K (pd (.bool (zv9 e))) (oset (.lop nt ρ0 ps A B lbl (.int .i64 (zsQ e))) os3 k))
     |_=>none
    else none)
  |none=>none
 |_=>none
noncomputable def inl(O:Orc)(tab:Nat->Bool)(an:Nat->List PA->Nat->Nat->Option LA)(R:Red):Nat->Inl
 |0=>fun _ _ _ _ _ _=>none
 |k+1=>fun g lk az os β K=>
  bif Nat.ble zhT g then zxp P O tab (inl O tab an R k) an (Nat.sub g zhT) lk az os K else
  bif Nat.ble zkM g then zxq P O tab (inl O tab an R k) an R (Nat.sub g zkM) lk az os K else
  match R.s g with
  |some t=>zws t lk az os K
  |none=>
  match R.r g az with
  |some (b,g',as')=>bif b then inl O tab an R k g' lk as' os β (fun _ os'=>K (.tup []) os') else none
  |none=>
  match P.funcs[g]? with
  |some fn=>
   match fn.body with
   |some c=>
    bif (ze0 P fn.results.toList).isNone||fn.name == "runtime.NumGoroutine" then none else bif Nat.ble az.length fn.ntmps then
     wI P O tab (inl O tab an R k) fn.ntmps (an g az os.length) g true c lk 0 (zaq az) os (fun ex ρ os'=>
      match ex with
      | .exit _=>none
      |_=>match zt5 P (an g [] 0 999).isSome lk ρ os' fn.results.toList with|some (a,os'')=>K a os''|none=>none)
    else none
   |none=>none
  |none=>none
end
end Go.PE
end
section
namespace Go.PE
open Go Go.CE
end Go.PE
end
section
namespace Go.PE
open Go Go.CE
end Go.PE
end
section
namespace Go.PE
open Go Go.CE
abbrev I6(n:Int):DV:=.int .i64 n
theorem xj(k:IntKind):eqK k k=true:=by cases k<;>rfl
section
variable (k:IntKind) (a b:Int)
theorem zr:zg .lss (.int k a) (.int k b)=some (.bool (decide (a<b))):=by simp_all[zg,xj,uk,zyn,oD,qA]
theorem qo:zg .leq (.int k a) (.int k b)=some (.bool (decide (a<=b))):=by simp_all[zg,xj,uk,zyo,oD,ziS]
theorem yd:zg .gtr (.int k a) (.int k b)=some (.bool (decide (b<a))):=by simp_all[zg,xj,uk,zyp,oD,qA]
theorem qp:zg .geq (.int k a) (.int k b)=some (.bool (decide (b<=a))):=by simp_all[zg,xj,uk,zyq,oD,ziS]
theorem we:zg .eql (.int k a) (.int k b)=some (.bool (a==b)):=by simp_all[zg,xj,uk,zyr,oD,ju]
theorem yC:zg .neq (.int k a) (.int k b)=some (.bool (!(a==b))):=by simp_all[zg,xj,uk,zym,oD,ju]
end
theorem zu{β:Type}(q:Bool)(a b:Option β):ifB (.bool q) a b=if q=true then a else b:=by cases q<;>rfl
theorem zb{α β:Type}(a:α)(k:α->Option β):za (some a) k=k a:=rfl
theorem zV{β:Type}(d:DV)(k:DV->Option β):b1 (some (.s (.one d))) k=k d:=rfl
end Go.PE
end
section
namespace Go.PE
open Go Go.CE
abbrev U8(n:Int):DV:=.int .u8 n
attribute [simp] zr qo yd qp we yC zb zV zu
@[simp] theorem zto{α β:Type}(k:α->Option β):za none k=none:=rfl
@[simp] theorem zxT{β:Type}(k:DV->Option β):b1 none k=none:=rfl
@[simp] theorem wb(q:Bool):zec (.bool q)=some (.bool (!q)):=rfl
@[simp] theorem zlY:xl .nils=some (I6 0):=rfl
@[simp] theorem zvY(st:Nat)(xs:List (List DV)):xl (.lst st xs)=some (I6 (xs.length:Int)):=rfl
@[simp] theorem zvX(st:Nat)(v:OC):xl (mkL st v)=some (I6 (xu v:Int)):=by cases v<;>rfl
@[simp] theorem ztd:zed .nils=some true:=rfl
@[simp] theorem zt8(st:Nat)(xs:List (List DV)):zed (.lst st xs)=some false:=rfl
@[simp] theorem zrs(st:Nat):vR st .nils=some []:=rfl
@[simp] theorem ztg(st:Nat)(xs:List (List DV)):vR st (.lst st xs)=some xs:=by show (bif Nat.beq st st then some xs else none)=_;rw[Yzz];rfl
@[simp] theorem ztf(st:Nat)(v:OC):vR st (mkL st v)=some (zL v):=by cases v<;>simp[mkL,zL]
@[simp] theorem zbJ(s:ByteArray):zj7 (.str s)=some (I6 (s.size:Int)):=rfl
@[simp] theorem vC(n:Nat):Int.ofNat n=(n:Int):=rfl
@[simp] theorem zuH:xu none=0:=rfl
@[simp] theorem xL(xs:List (List DV)):xu (some xs)=xs.length:=rfl
@[simp] theorem zsM:zL none=[]:=rfl
@[simp] theorem xx(xs:List (List DV)):zL (some xs)=xs:=rfl
@[simp] theorem zv6(st:Nat):mkL st none=.nils:=rfl
@[simp] theorem zv5(st:Nat)(xs:List (List DV)):mkL st (some xs)=.lst st xs:=rfl
@[simp] theorem zwi(v:OC):zT v []=v:=rfl
@[simp] theorem zvB(v:OC)(x:List DV)(l:List (List DV)):zT v (x::l)=some (zL v++(x::l)):=rfl
@[simp] theorem wv{β:Type}(k:Option β):gd true k=k:=rfl
@[simp] theorem y3{β:Type}(id:Nat)(L:List DV)(M:List OC)(kx:Nat->List DV->List OC->Option β)(kr:List DV->List OC->Option β):xa (some (.exit id,L,M)) kx kr=kx id L M:=rfl
@[simp] theorem zuC{β:Type}(L:List DV)(M:List OC)(kx:Nat->List DV->List OC->Option β)(kr:List DV->List OC->Option β):xa (some (.ret,L,M)) kx kr=kr L M:=rfl
@[simp] theorem zK(d:DV)(l:List DV):zy (d::l) 0=d:=rfl
@[simp] theorem xI(d:DV)(l:List DV)(n:Nat):zy (d::l) (n+1)=zy l n:=rfl
@[simp] theorem y6(d:OC)(l:List OC):zU (d::l) 0=d:=rfl
@[simp] theorem uj(d:OC)(l:List OC)(n:Nat):zU (d::l) (n+1)=zU l n:=rfl
@[simp] theorem xU(d:DV)(l:List DV):atD (d::l) 0=d:=rfl
@[simp] theorem vK(d:DV)(l:List DV)(n:Nat):atD (d::l) (n+1)=atD l n:=rfl
@[simp] theorem znk(d:DS)(l:List DS):wX (d::l) 0=d:=rfl
@[simp] theorem zyx(d:DS)(l:List DS)(n:Nat):wX (d::l) (n+1)=wX l n:=rfl
@[simp] theorem zhE(d:DV):dsO (.one d)=d:=rfl
@[simp] theorem zxM(l:List DV):dsA (.agg l)=l:=rfl
@[simp] theorem zxQ{β:Type}(r:DA)(k:Option β):bN (some r) k=k:=rfl
@[simp] theorem zwU:okT [] []=true:=rfl
@[simp] theorem zwT(shs:List (Option Nat))(d:DV)(l:List DS):okT (none::shs) (.one d::l)=okT shs l:=rfl
@[simp] theorem zwV(shs:List (Option Nat))(n:Nat)(ds:List DV)(l:List DS):okT (some n::shs) (.agg ds::l)=(Nat.beq ds.length n&&okT shs l):=rfl
@[simp] theorem zvW(k:IntKind)(n:Int):zua (.int k n)=some (.int k (xZ k (-n))):=by show some (DV.int k (xZ k (0-n)))=_;rw[Int.zero_sub]
theorem zub(k:IntKind)(a b:Int):uG false (.int k a) [.int k b]=some (.int k (min a b)):=by
 simp only[uG,minD,xj,Yza,Yzc,qA]
 grind
theorem zuc(k:IntKind)(a b:Int):uG true (.int k a) [.int k b]=some (.int k (max a b)):=by
 simp only[uG,minD,xj,Yza,qA]
 grind
attribute [simp] zub zuc
abbrev Sl(α:Type):=Option (List α)
abbrev Sl.els{α:Type}(s:Sl α):List α:=s.getD []
def enL{α:Type}(st:Nat)(f:α->List DV):Sl α->DV
 |none=>.nils
 |some l=>.lst st (l.map f)
section
variable {α:Type} {st:Nat} {f:α->List DV}
@[simp] theorem zwf:enL st f none=.nils:=rfl
@[simp] theorem zxB(v:Sl α):mkL st (v.map (List.map f))=enL st f v:=by cases v<;>rfl
@[simp] theorem zR(v:Sl α):xl (enL st f v)=some (I6 (v.els.length:Int)):=by cases v<;>simp[enL]
@[simp] theorem zdc(v:Sl α):vR st (enL st f v)=some (v.els.map f):=by cases v<;>simp[enL]
@[simp] theorem zt9(v:Sl α):zed (enL st f v)=some v.isNone:=by cases v<;>rfl
end
def ocL{α:Type}(f:α->List DV)(v:Sl α):OC:=v.map (List.map f)
section
variable {α:Type} {st:Nat} {f:α->List DV}
@[simp] theorem zv2:ocL f (none:Sl α)=none:=rfl
@[simp] theorem jO(v:Sl α):xu (ocL f v)=v.els.length:=by cases v<;>simp[ocL]
@[simp] theorem w7(v:Sl α):zL (ocL f v)=v.els.map f:=by cases v<;>simp[ocL]
@[simp] theorem zmx(v:Sl α):mkL st (ocL f v)=enL st f v:=by cases v<;>rfl
end
@[simp] theorem y9{α:Type}(l:List α):Sl.els (some l)=l:=rfl
@[simp] theorem zwg{α:Type}:Sl.els (none:Sl α)=[]:=rfl
end Go.PE
end
noncomputable section
namespace Go.PE
open Go Go.CE
def zid:List DV->Option (List Zc)
 | []=>some []
 |d::l=>match d.scal,zid l with|some c,some cs=>some (c::cs)|_,_=>none
def avS:DS->Option SVal
 | .one d=>match d.scal with|some c=>some (.one c)|none=>none
 | .agg ds=>match zid ds with|some cs=>some (.agg cs)|none=>none
def avs:List DA->Option (List Zb)
 | []=>some []
 | .s d::l=>match avS d,avs l with|some v,some vs=>some (.s v::vs)|_,_=>none
 | .tup _::_=>none
def ofC:Zc->Option DV
 | .bool b=>some (.bool b)
 | .int k n=>some (.int k n)
 | .str s=>some (.str s)
 | .nils=>some .nils
 | .nilf=>some .nilf
 | .nilp=>some .nilp
 | .nilm=>some .nilm
 | .nili=>some .nili
 |_=>none
def zv1:List Zc->Option (List DV)
 | []=>some []
 |c::cs=>match ofC c,zv1 cs with|some d,some ds=>some (d::ds)|_,_=>none
def ofS:SVal->Option DS
 | .one c=>match ofC c with|some d=>some (.one d)|none=>none
 | .agg cs=>match zv1 cs with|some ds=>some (.agg ds)|none=>none
def zv0:List SVal->Option (List DS)
 | []=>some []
 |v::vs=>match ofS v,zv0 vs with|some d,some ds=>some (d::ds)|_,_=>none
def ofA:Zb->Option DA
 | .s v=>match ofS v with|some d=>some (.s d)|none=>none
 | .tup vs=>match zv0 vs with|some ds=>some (.tup ds)|none=>none
def zs9(ids:List Nat)(sums:List CE.Sum):Orc:=fun g args=>
 bif ids.any (Nat.beq g) then
  match avs args with
  |some vs=>match xS g vs ⟨.z,.nil⟩ sums with|some v=>ofA v|none=>none
  |none=>none
 else none
theorem zc0{d:DV}{c:Zc}(h:d.scal=some c):xV c=true:=by cases d<;>simp only[DV.scal]at h<;>first|cases h;rfl|cases h
theorem ziR{m m':Mt}{c c':Zc}(hp:xV c'=true)(h:mC m c c'=some m'):m'=m:=by
 unfold mC at h
 grind[xV]
theorem zfG:∀{cs cs':List Zc} {m m':Mt},(∀c∈cs',xV c=true)->mCs cs cs' m=some m'->m'=m
 | [],[],_,_,_,h=>by cases h;rfl
 |c::cs,c'::cs',m,m',hp,h=>by
  simp only[mCs]at h;split at h
  .rename_i m1 h1;rw[zfG (fun c hc=>hp c (Yzi _ hc)) h]
   grind[ziR,Yzk]
  cases h
 | [],_::_,_,_,_,h=>by cases h
 |_::_,[],_,_,_,h=>by cases h
def plS:SVal->Prop
 | .one c=>xV c=true
 | .agg cs=>∀c∈cs,xV c=true
def plA:Zb->Prop
 | .s v=>plS v
 | .tup _=>False
theorem zpg{m m':Mt}{v v':SVal}(hp:plS v')(h:mS m v v'=some m'):m'=m:=by
 cases v<;>cases v'<;>simp only[mS]at h
 .exact ziR hp h
 .cases h
 .cases h
 exact zfG hp h
theorem zph:∀{vs vs':List Zb} {m m':Mt},(∀v∈vs',plA v)->mA vs vs' m=some m'->m'=m:=by
 intro vs
 induction vs with
 |nil=>grind[mA]
 |cons v vs ih=>
  intro vs' m m' hp h;cases vs' with
  |nil=>cases v<;>cases h
  |cons v' vs'=>
   cases v with
   |tup l=>cases h
   |s v=>
    cases v' with
    |tup l=>cases h
    |s v'=>
     simp only[mA]at h;split at h
     .rename_i m1 h1;rw[ih (fun c hc=>hp c (Yzi _ hc)) h];exact zpg (hp (.s v') (Yzk ..)) h1
     cases h
theorem zm3{s:CE.Sum}{vs:List Zb}(hp:∀v∈vs,plA v)(h h':Za):s.fits vs h=s.fits vs h':=by
 unfold Sum.fits;rcases hm:mA s.args vs ⟨.nil,.nil,[]⟩ with _|m
 .rfl
 rw[zph hp hm];rfl
theorem zaT{g:Nat}{vs:List Zb}(hp:∀v∈vs,plA v)(h h':Za):∀l:List CE.Sum,xS g vs h l=xS g vs h' l
 | []=>rfl
 |s::l=>by simp only[xS,zm3 hp h h',zaT hp h h' l]
theorem zfm{fz:BN->Prop}{h:Za}:∀{ds:List DV} {cs cs':List Zc},zid ds=some cs'->RepL fz h cs ds->cs=cs'/\∀c∈cs',xV c=true
 | [],cs,cs',e,H=>by
  cases e;have:=H.1
  grind
 |d::ds,cs,cs',e,H=>by
  simp only[zid]at e;split at e
  .rename_i c1 cs1 h1 h2;cases e;cases cs with
   |nil=>have:=H.1;trivial
   |cons c cs=>
    obtain⟨ha,hb⟩:=H.inv;obtain⟨k1,k2⟩:=zfm h2 hb;refine⟨by rw[ha.scal h1,k1],fun x hx=>?_⟩;rcases Yzv.1 hx with rfl|hx
    .exact zc0 h1
    grind
  cases e
theorem zvA{fz:BN->Prop}{h:Za}{d:DS}{v v':SVal}(e:avS d=some v')(H:RepS fz h v d):v=v'/\plS v':=by
 cases d with
 |one d=>
  simp only[avS]at e;split at e
  .rename_i c hc;cases e;cases v with
   |one x=>exact⟨by rw[Rep.scal H hc],zc0 hc⟩
   |agg l=>trivial
  cases e
 |agg ds=>
  simp only[avS]at e;split at e
  .rename_i cs hc;cases e;cases v with
   |one x=>trivial
   |agg l=>obtain⟨k1,k2⟩:=zfm hc H;exact⟨by rw[k1],k2⟩
  cases e
theorem zqD{fz:BN->Prop}{h:Za}:∀{ds:List DA} {vs vs':List Zb},avs ds=some vs'->wk fz h vs ds->vs=vs'/\∀v∈vs',plA v
 | [],vs,vs',e,H=>by
  cases e;cases vs with
  |nil=>simp
  |cons v l=>trivial
 | .tup _::_,_,_,e,_=>by cases e
 | .s d::ds,vs,vs',e,H=>by
  simp only[avs]at e;split at e
  .rename_i v1 vs1 h1 h2;cases e;cases vs with
   |nil=>trivial
   |cons v vs=>
    obtain⟨ha,hb⟩:=H;obtain⟨w,rfl,hw⟩:=RepA.inv ha;obtain⟨k1,k2⟩:=zqD h2 hb;obtain⟨k3,k4⟩:=zvA h1 hw;refine⟨by rw[k1,k3],fun x hx=>?_⟩;rcases Yzv.1 hx with rfl|hx
    .exact k4
    grind
  cases e
theorem zqj{fz:BN->Prop}{h:Za}{c:Zc}{d:DV}(e:ofC c=some d):Rep fz h c d:=by
 cases c<;>simp only[ofC]at e<;>cases e
 .exact .bool _
 .exact .int _ _
 .exact .str _
 .exact .nilp
 .exact .nils
 .exact .nilm
 .exact .nilf
 exact .nili
theorem zl6{fz:BN->Prop}{h:Za}:∀{cs:List Zc} {ds:List DV},zv1 cs=some ds->RepL fz h cs ds
 | [],_,e=>by cases e;exact RepL.nil _ _
 |c::cs,ds,e=>by
  simp only[zv1]at e;split at e
  .rename_i d1 ds1 h1 h2;cases e;exact RepL.cons (zqj h1) (zl6 h2)
  cases e
theorem zqi{fz:BN->Prop}{h:Za}{v:SVal}{d:DS}(e:ofS v=some d):RepS fz h v d:=by
 cases v<;>simp only[ofS]at e<;>split at e
 .rename_i h1;cases e;exact zqj h1
 .cases e
 .rename_i h1;cases e;exact zl6 h1
 cases e
theorem zl5{fz:BN->Prop}{h:Za}:∀{vs:List SVal} {ds:List DS},zv0 vs=some ds->RepSL fz h vs ds
 | [],_,e=>by cases e;trivial
 |c::cs,ds,e=>by
  simp only[zv0]at e;split at e
  .rename_i d1 ds1 h1 h2;cases e;exact⟨zqi h1,zl5 h2⟩
  cases e
theorem zuk{fz:BN->Prop}{h:Za}{v:Zb}{d:DA}(e:ofA v=some d):RepA fz h v d:=by
 cases v<;>simp only[ofA]at e<;>split at e
 .rename_i h1;cases e;exact zqi h1
 .cases e
 .rename_i h1;cases e;exact zl5 h1
 cases e
theorem zq0{P:Program}{ids:List Nat}{sums:List CE.Sum}{srt:Nat->Option Srt}(hi:ids.all (fun g=>(srt g).isNone)=true):uW (zs9 ids sums) (fun n=>zJ (zH P) (cFs (yL P)) sums srt n):=by
 intro g args res e fz h vs hw hfz H;unfold zs9 at e;cases hj:ids.any (Nat.beq g)
 .grind
 rw[hj]at e;have hT:srt g=none:=by simp_all
 simp only[Yza]at e;split at e
 .rename_i vs' hvs;split at e
  .rename_i v hv;obtain⟨rfl,hp⟩:=zqD hvs H;rw[zaT hp _ h]at hv;refine (Ev.sum hT hv).mono ?_
   rintro _ rfl
   exact⟨hw,.refl h,zuk e⟩
  cases e
 cases e
end Go.PE
end
section
namespace Go.PE
open Go Go.CE Go.RowKit
section
variable {P:Program} {sums:List CE.Sum} {srt:Nat->Option Srt} {O:Orc}
theorem zpR(hs:∀s∈sums,ke P s)(ht:∀g t,srt g=some t->zpY P g t)(hO:uW O (fun n=>zJ (zH P) (cFs (yL P)) sums srt n)){w:World}(hG:GOk w){g:Nat}{vs:List Zb}{ds:List DA}
  (hr:wk (fun b=>b.toNat<(ym w).n.toNat) (ym w) vs ds) (hw:∀x∈vs,wfA (φ0 w) (ym w).n.toNat x) {b:Bool} (e:O g ds=some (.s (.one (.bool b)))):
  CallsIn (FR none) 0 P g (vs.map (zm (φ0 w))).toArray w (fun e w2=>e=.returned (.bool b)/\Below w.heap.size w w2):=by
 obtain⟨⟨v,h2⟩,⟨_,hg,hv⟩,N,hN⟩:=hO g ds _ e (fun b=>b.toNat<(ym w).n.toNat) (ym w) vs (zfN w) (fun b hb=>hb) hr;refine (zhN w (zjt (zlQ P) hs ht N) hG hw (hN N (LzB _)) hg).mono ?_
 rintro e9 w9 ⟨φ,rfl,hb⟩
 obtain⟨v',hv',h1⟩:=RepA.inv hv;simp only at hv';subst hv';cases v' with
 |agg l=>trivial
 |one c=>rw[Rep.scal h1 rfl];trivial
end
end Go.PE
end
section
namespace Go.PE
open Go Go.CE Go.RowKit
def zf1(P:Program):List Field->Nat->Option Nat
 | [],o=>some o
 |f::l,o=>bif Nat.beq f.offset o then zf1 P l (o+P.cellsOf f.type) else none
def zas(P:Program):Nat->TypeId->Bool
 |0,_=>false
 |n+1,t=>
  match P.underlying t with
  |some .bool=>Nat.beq (P.cellsOf t) 1
  |some (.int _)=>Nat.beq (P.cellsOf t) 1
  |some .string=>Nat.beq (P.cellsOf t) 1
  |some (.slice e)=>zas P n e&&Nat.ble 1 (P.cellsOf e)&&Nat.beq (P.cellsOf t) 1
  |some (.struct fs)=>(fs.toList.all fun f=>zas P n f.type)&&(match zf1 P fs.toList 0 with|some m=>Nat.beq m (P.cellsOf t)|none=>false)
  |some (.array k e)=>zas P n e&&Nat.beq (P.cellsOf t) (k*P.cellsOf e)
  |_=>false
def zs0(T:TypeId->List DV->Prop):List TypeId->List DV->Prop
 | [],ds=>ds=[]
 |t::l,ds=>∃a b,ds=a++b/\T t a/\zs0 T l b
def Ty(P:Program):Nat->TypeId->List DV->Prop
 |0,_,_=>False
 |n+1,t,ds=>
  match P.underlying t with
  |some .bool=>∃b,ds=[.bool b]
  |some (.int k)=>∃m,ds=[.int k m]/\(Lit.int k m).wf=true
  |some .string=>∃s,ds=[.str s]/\s.size<=maxLen
  |some (.slice e)=>ds=[.nils]\/∃xs,ds=[.lst (P.cellsOf e) xs]/\xs.length<=maxLen/\∀x∈xs,Ty P n e x
  |some (.struct fs)=>zs0 (Ty P n) (fs.toList.map (·.type)) ds
  |some (.array k e)=>zs0 (Ty P n) (List.replicate k e) ds
  |_=>False
def AbsL(w:World)(cs:List Value)(vs:List Zc):Prop:=cs.map (znL w)=vs.map some
theorem AbsL.len{w:World}{cs:List Value}{vs:List Zc}(h:AbsL w cs vs):cs.length=vs.length:=by have:=congrArg List.length h;grind
theorem AbsL.get{w:World}{cs:List Value}{vs:List Zc}(h:AbsL w cs vs){i:Nat}{v:Value}(hi:cs[i]? = some v):∃c,vs[i]? = some c/\znL w v=some c:=by
 have:=congrArg (·[i]?) h
 grind
theorem AbsL.app{w:World}{a b:List Value}{x y:List Zc}(h:AbsL w a x)(k:AbsL w b y):AbsL w (a++b) (x++y):=by grind[AbsL]
theorem AbsL.conc{w:World}:∀{cs:List Value} {vs:List Zc},AbsL w cs vs->vs.map (zf (φ0 w))=cs/\∀c∈vs,wfC (φ0 w) (ym w).n.toNat c
 | [],[],_=>⟨rfl,fun c h=>by cases h⟩
 |v::cs,c::vs,h=>by
  simp only[AbsL,Yzu,List.cons.injEq]at h;obtain⟨k1,k2⟩:=zqG w h.1;obtain⟨k3,k4⟩:=AbsL.conc (show AbsL w cs vs from h.2)
  grind
 | [],_::_,h=>by cases h
 |_::_,[],h=>by cases h
def okV(w:World)(v:Value):Prop:=∀a,v=.slice (some a) 0 0->(zcn w a.block=true/\a.spot=none)\/a∈ze9 w
theorem ziG{w:World}{a:Addr}{v:Value}(h:w.cell? a=some v):okV w v/\a.spot=none/\∃arr e fr,w.heap[a.block]? = some (.cells arr e fr)/\arr[a.off]? = some v:=by
 have key:a.spot=none/\∃arr e fr,w.heap[a.block]? = some (.cells arr e fr)/\arr[a.off]? = some v:=by unfold World.cell? at h;split at h<;>simp_all
 obtain⟨h1,arr,e,fr,h2,h3⟩:=key;exact⟨fun b hb=>by grind[zo0],h1,arr,e,fr,h2,h3⟩
theorem ziQ{α β:Type}{f:α->Option β}:∀{l:List α} {r:List β},l.mapM f=some r->r.length=l.length/\∀(i:Nat) (x:α),l[i]? = some x->∃y,r[i]? = some y/\f x=some y
 | [],r,h=>by grind
 |a::l,r,h=>by
  simp only[List.mapM_cons,YzD,Option.bind_eq_some_iff,Yz1,Option.some.injEq]at h;obtain⟨b,hb,bs,hbs,rfl⟩:=h;obtain⟨k1,k2⟩:=ziQ hbs
  grind
section
variable {H:Type} {enc:TypeId×Value->H} {P:Program} {w:World} {base:Nat} {held:Bool}
def zjE(P:Program)(w:World)(m:Nat)(t:TypeId)(cs:List Value):Prop:=
 ∃vs ds,AbsL w cs vs/\RepL (fun b=>b.toNat<(ym w).n.toNat) (ym w) vs ds/\Ty P m t ds
theorem zf7{a:Addr}{n:Nat}{cs:List Value}(h:w.cells? base a n=some cs):cs.length=n/\∀j,j<n->∃v,cs[j]? = some v/\w.cell? (a.add j)=some v:=by
 unfold World.cells? at h;split at h
 .obtain⟨k1,k2⟩:=ziQ h;refine⟨by grind,fun j hj=>?_⟩;exact k2 j j (by rw[List.getElem?_range hj])
 cases h
theorem zbs{a:Addr}{len cap st:Nat}(hst:1<=st)(hlc:len<=cap){arr:Array Value}{e:TypeId}{fr:Nat×Nat}(hb:w.heap[a.block]? = some (.cells arr e fr))(hsp:a.spot=none)
  (C:Nat->List Zc) (X:Nat->List DV) (hC:∀i,i<len->(C i).length=st/\(X i).length=st/\(∀j c,(C i)[j]? = some c->(arr[a.off+(i*st+j)]?).bind (znL w)=some c)/\RepL (fun b=>b.toNat<(ym w).n.toNat) (ym w) (C i) (X i)):
  ∃c,znL w (.slice (some a) len cap)=some c/\Rep (fun b=>b.toNat<(ym w).n.toNat) (ym w) c (.lst st ((List.range len).map X)):=by
 have hd:zcn w a.block=true:=by grind[zcn]
 have hlt:=zjl hd;refine⟨.slc (bn a.block) a.off len cap true,?_,?_⟩
 .show (bif decide (zcn w a.block=true/\a.spot=none/\len<=cap) then _ else _)=_
  grind
 have hg:(ym w).t.get (bn a.block)=some (zrf w (.cells arr e fr)):=zaR w (by grind[zF])
 let L:=(List.range (len*st)).map fun j=>((C (j / st))[j % st]?).getD .nilp
 have hLl:L.length=len*st:=by simp[L]
 have hLg:∀i j,i<len->j<st->∃c,L[i*st+j]? = some c/\(C i)[j]? = some c:=fun i j hi hj=>by
  obtain⟨c,hc⟩:∃c,(C i)[j]? = some c:=⟨_,Lz5 (by grind)⟩;refine⟨c,?_,hc⟩;have h1:i*st+j<len*st:=by
   have:(i+1)*st<=len*st:=Yzj st hi
   grind
  have e1:(i*st+j) / st=i:=by rw[Nat.mul_comm,Nat.mul_add_div (by omega),Nat.div_eq_of_lt hj,Yzy]
  grind[Nat.mul_comm,Nat.mul_add_mod,Nat.mod_eq_of_lt]
 have hrd:rd (((List.range len).map X).length*st) a.off (zrf w (.cells arr e fr))=some L:=by
  rw[Yzh,List.length_range];refine zhH hLl fun j c hj=>?_;have hjl:j<len*st:=by grind
  have hi:j / st<len:=Nat.div_lt_of_lt_mul (by grind);have hr:j % st<st:=Yzt _ (by omega);have hj':j / st*st+j % st=j:=by grind[Nat.div_add_mod]
  obtain⟨c',k1,k2⟩:=hLg (j / st) (j % st) hi hr;rw[hj',hj]at k1;cases k1;have:=(hC _ hi).2.2.1 _ _ k2;simp_all
 have hX:∀(i:Nat) (x:List DV),((List.range len).map X)[i]? = some x->i<len/\x=X i:=fun i x hx=>by grind
 have:=Rep.lst (fz:=fun b=>b.toNat<(ym w).n.toNat) (h:=ym w) (b:=bn a.block) (o:=zrf w (.cells arr e fr)) (off:=a.off) (cap:=cap) (ex:=true) (st:=st) (xs:=(List.range len).map X) L
  (by grind[zF,qH]) hg (fun _=>by grind) hrd (fun i x hx=>by grind)
  (fun i x j c d hx hc hd => by
   obtain⟨hi,rfl⟩:=hX i x hx;have hj:j<st:=by grind
   obtain⟨c',k1,k2⟩:=hLg i j hi hj;rw[hc]at k1;cases k1;exact(hC i hi).2.2.2.2 j c d k2 hd)
 grind
theorem zge{m n:Nat}{held:Bool}(ih:∀{t:TypeId} {cs:List Value} {x:DataW H×List MemPlace},zas P m t=true->DataW.trod enc P w base (fun _=>true) held n t cs=some x->(∀v∈cs,okV w v)->zjE P w m t cs/\cs.length=P.cellsOf t):
  ∀(fs:List Field) (o e:Nat) (cs:List Value),(fs.all fun f=>zas P m f.type)=true->zf1 P fs o=some e->e=cs.length->o<=e->
   (∀f∈fs,∃y,DataW.trod enc P w base (fun _=>true) held n f.type ((cs.drop f.offset).take (P.cellsOf f.type))=some y)->(∀v∈cs,okV w v)->
   ∃vs ds,AbsL w (cs.drop o) vs/\RepL (fun b=>b.toNat<(ym w).n.toNat) (ym w) vs ds/\zs0 (Ty P m) (fs.map (·.type)) ds
 | [],o,e,cs,_,hc,he,_,_,_=>by cases hc;subst he;exact⟨[],[],by simp[AbsL],RepL.nil _ _,rfl⟩
 |f::fs,o,e,cs,hd,hc,he,hle,hm,hok=>by
  simp only[List.all_cons,LzC]at hd;simp only[zf1]at hc;cases hb:Nat.beq f.offset o
  .grind
  rw[hb,Yza]at hc;have ho:=Lz1 hb;obtain⟨x,hx⟩:=hm f (Yzk ..);rw[ho]at hx;obtain⟨⟨v1,d1,a1,r1,t1⟩,hl⟩:=ih hd.1 hx (fun v hv=>hok v (List.mem_of_mem_drop (List.mem_of_mem_take hv)));have hle2:o+P.cellsOf f.type<=cs.length:=by grind
  obtain⟨v2,d2,a2,r2,t2⟩:=zge ih fs (o+P.cellsOf f.type) e cs hd.2 hc he (by omega) (fun g hg=>hm g (Yzi _ hg)) hok;refine⟨v1++v2,d1++d2,?_,r1.app r2,d1,d2,rfl,t1,t2⟩;have:cs.drop o=(cs.drop o).take (P.cellsOf f.type)++cs.drop (o+P.cellsOf f.type):=by rw[<-YzE,List.take_append_drop]
  rw[this];exact a1.app a2
theorem zjC{m n:Nat}{held:Bool}{e:TypeId}(ih:∀{t:TypeId} {cs:List Value} {x:DataW H×List MemPlace},zas P m t=true->DataW.trod enc P w base (fun _=>true) held n t cs=some x->(∀v∈cs,okV w v)->zjE P w m t cs/\cs.length=P.cellsOf t)
  (hd:zas P m e=true):∀(k:Nat) (cs:List Value),cs.length=k*P.cellsOf e->(∀i,i<k->∃x,DataW.trod enc P w base (fun _=>true) held n e ((cs.drop (i*P.cellsOf e)).take (P.cellsOf e))=some x)->(∀v∈cs,okV w v)->
   ∃vs ds,AbsL w cs vs/\RepL (fun b=>b.toNat<(ym w).n.toNat) (ym w) vs ds/\zs0 (Ty P m) (List.replicate k e) ds
 |0,cs,hl,_,_=>by have:cs=[]:=List.length_eq_zero_iff.1 (by omega);subst this;exact⟨[],[],by simp[AbsL],RepL.nil _ _,rfl⟩
 |k+1,cs,hl,hx,hok=>by
  obtain⟨x,h0⟩:=hx 0 (by omega);rw[Nat.zero_mul,List.drop_zero]at h0;obtain⟨⟨v1,d1,a1,r1,t1⟩,_⟩:=ih hd h0 (fun v hv=>hok v (List.mem_of_mem_take hv));rw[Yz2]at hl;obtain⟨v2,d2,a2,r2,t2⟩:=zjC ih hd k (cs.drop (P.cellsOf e)) (by simp;omega) (fun i hi=>by grind[YzE]) (fun v hv=>hok v (List.mem_of_mem_drop hv))
  refine⟨v1++v2,d1++d2,?_,r1.app r2,d1,d2,rfl,t1,t2⟩;rw[<-List.take_append_drop (P.cellsOf e) cs];exact a1.app a2
theorem zfw:∀(m:Nat) {q:Nat} {t:TypeId} {cs:List Value} {x:DataW H×List MemPlace},zas P m t=true->DataW.trod enc P w base (fun _=>true) held q t cs=some x->(∀v∈cs,okV w v)->zjE P w m t cs/\cs.length=P.cellsOf t
 |0,_,_,_,_,h,_,_=>by cases h
 |m+1,fu,t,cs,x,hd,ht,hok=>by
  have ih:=@zfw m;unfold zas at hd;unfold zjE;unfold Ty;rcases hu:P.underlying t with _|d
  .grind
  rw[hu]at hd;cases d<;>first|(cases (show false=true from hd);done)|skip
  case bool=>have h1:=Lz1 hd;obtain⟨b,rfl,_⟩:=DataW.trod_bool hu ht;exact⟨⟨[_],[_],rfl,RepL.cons (.bool _) (RepL.nil _ _),b,rfl⟩,h1.symm⟩
  case int k=>have h1:=Lz1 hd;obtain⟨n,rfl,_,hw⟩:=DataW.trod_int hu ht;exact⟨⟨[_],[_],rfl,RepL.cons (.int _ _) (RepL.nil _ _),n,rfl,hw⟩,h1.symm⟩
  case string=>have h1:=Lz1 hd;obtain⟨s,rfl,_,hw⟩:=DataW.trod_string hu ht;exact⟨⟨[_],[_],rfl,RepL.cons (.str _) (RepL.nil _ _),s,rfl,hw⟩,h1.symm⟩
  case slice e=>
   simp only[LzC]at hd;obtain⟨⟨hd1,hst⟩,hc1⟩:=hd;have hst:=Lz4 hst;have hc1:=Lz1 hc1;rcases DataW.trod_slice hu ht with⟨rfl,_⟩|⟨a,len,cap,elems,rest,n,hn,rfl,_,_,hlc,hcap,hel,hE,hR,_⟩
   .exact⟨⟨[_],[_],rfl,RepL.cons .nils (RepL.nil _ _),.inl rfl⟩,hc1.symm⟩
   subst hn;have hok:=hok _ (Yzk ..);refine⟨?_,hc1.symm⟩;have one:∀i,i<len->∃vs ds,(vs.length=P.cellsOf e/\ds.length=P.cellsOf e/\(∀j c,vs[j]? = some c->∃v,w.cell? ((a.add (i*P.cellsOf e)).add j)=some v/\znL w v=some c))/\RepL (fun b=>b.toNat<(ym w).n.toNat) (ym w) vs ds/\Ty P m e ds:=fun i hi=>by
    have h:=hE i hi;obtain⟨y,hy⟩:∃y,elems[i]? = some y:=⟨_,Lz5 (by omega)⟩;rw[hy,Option.bind_eq_some_iff]at h;obtain⟨cs,h1,h2⟩:=h;obtain⟨k1,k2⟩:=zf7 h1;obtain⟨⟨vs,ds,a1,r1,t1⟩,hl⟩:=ih hd1 h2 (fun v hv=>by obtain⟨j,hj⟩:=List.mem_iff_getElem?.1 hv;obtain⟨v',g1,g2⟩:=k2 j (by grind);rw[hj]at g1;cases g1;exact(ziG g2).1)
    refine⟨vs,ds,⟨by rw[<-a1.len,hl],by rw[<-r1.1,<-a1.len,hl],fun j c hj=>?_⟩,r1,t1⟩;obtain⟨v',g1,g2⟩:=k2 j (by rw[<-k1,a1.len];grind);obtain⟨c',q1,q2⟩:=a1.get g1
    grind
   by_cases hc0:cap=0
   .have hl0:len=0:=by omega
    subst hc0 hl0;rcases hok a rfl with⟨hdb,hsp⟩|hm
    .obtain⟨arr,el,fr,hb⟩:=zcm hdb;obtain⟨c,q1,q2⟩:=zbs (len:=0) (cap:=0) hst (LzB _) hb hsp (fun _=>[]) (fun _=>[]) (fun i hi=>by omega);exact⟨[c],[.lst (P.cellsOf e) []],by grind[AbsL],RepL.cons q2 (RepL.nil _ _),.inr ⟨[],rfl,by simp,fun x hx=>by cases hx⟩⟩
    by_cases hdb:zcn w a.block=true/\a.spot=none
    .obtain⟨arr,el,fr,hb⟩:=zcm hdb.1;obtain⟨c,q1,q2⟩:=zbs (len:=0) (cap:=0) hst (LzB _) hb hdb.2 (fun _=>[]) (fun _=>[]) (fun i hi=>by omega);exact⟨[c],[.lst (P.cellsOf e) []],by grind[AbsL],RepL.cons q2 (RepL.nil _ _),.inr ⟨[],rfl,by simp,fun x hx=>by cases hx⟩⟩
    have hi:=zeE hm;have hlt:=(Lz0.1 hi).1;refine⟨[.slc (bn (w.heap.size+zuU a (ze9 w))) 0 0 0 true],[.lst (P.cellsOf e) []],?_,RepL.cons ?_ (RepL.nil _ _),.inr ⟨[],rfl,by simp,fun x hx=>by cases hx⟩⟩
    .grind[znL,AbsL]
    exact Rep.lst (o:=.void) (xs:=[]) [] (by grind[zF,qH]) (zkw w hlt) (fun _=>LzB _) (by simp[rd]) (fun i x hx=>by simp at hx) (fun i x j c d hx=>by simp at hx)
   have hthere:a.spot=none/\∃arr el fr,w.heap[a.block]? = some (.cells arr el fr):=by
    have go:∀cs,w.cells? base (a.add (0*P.cellsOf e)) (P.cellsOf e)=some cs->a.spot=none/\∃arr el fr,w.heap[a.block]? = some (.cells arr el fr):=fun cs h=>by
     obtain⟨v,_,g2⟩:=(zf7 h).2 0 (by omega);have e0:(a.add (0*P.cellsOf e)).add 0=a:=by rw[Nat.zero_mul];rfl
     rw[e0]at g2;obtain⟨_,g3,arr,el,fr,g4,_⟩:=ziG g2
     grind
    by_cases hl0:0<len
    .grind[Option.bind_eq_some_iff]
    obtain⟨hrl,hr⟩:=hR rfl;have h:=hr 0 (by omega)
    grind[Option.bind_eq_some_iff]
   obtain⟨hsp,arr,el,fr,hb⟩:=hthere;have hch:∃(C:Nat->List Zc) (X:Nat->List DV),∀i,i<len->((C i).length=P.cellsOf e/\(X i).length=P.cellsOf e/\(∀j c,(C i)[j]? = some c->∃v,w.cell? ((a.add (i*P.cellsOf e)).add j)=some v/\znL w v=some c))/\RepL (fun b=>b.toNat<(ym w).n.toNat) (ym w) (C i) (X i)/\Ty P m e (X i):=by
    have:∀i:Nat,∃q:List Zc×List DV,i<len->(q.1.length=P.cellsOf e/\q.2.length=P.cellsOf e/\(∀j c,q.1[j]? = some c->∃v,w.cell? ((a.add (i*P.cellsOf e)).add j)=some v/\znL w v=some c))/\RepL (fun b=>b.toNat<(ym w).n.toNat) (ym w) q.1 q.2/\Ty P m e q.2:=fun i=>by
     by_cases hi:i<len
     .simp_all
     exact⟨([],[]),fun h=>absurd h hi⟩
    obtain⟨q,hq⟩:=Classical.axiomOfChoice this;exact⟨fun i=>(q i).1,fun i=>(q i).2,hq⟩
   obtain⟨C,X,hCX⟩:=hch;obtain⟨c,q1,q2⟩:=zbs hst hlc hb hsp C X (fun i hi=>by
    obtain⟨⟨g1,g2,g3⟩,g4,_⟩:=hCX i hi;refine⟨g1,g2,fun j c hj=>?_,g4⟩;obtain⟨v,k1,k2⟩:=g3 j c hj;have e1:(a.add (i*P.cellsOf e)).add j=⟨a.block,a.off+(i*P.cellsOf e+j),none⟩:=by
     obtain⟨ab,ao,az⟩:=a
     grind[Addr.add]
    grind[zjr])
   refine⟨[c],[.lst (P.cellsOf e) ((List.range len).map X)],by grind[AbsL],RepL.cons q2 (RepL.nil _ _),.inr ⟨_,rfl,by simp;omega,fun x hx=>?_⟩⟩
   grind
  case struct fs=>
   simp only[LzC]at hd;obtain⟨xs,n,hn,_,hl,hxl,hx⟩:=DataW.trod_struct hu ht;subst hn;refine⟨?_,hl⟩;rcases hc:zf1 P fs.toList 0 with _|q
   .grind
   rw[hc]at hd;have hq:=Lz1 hd.2;have:=zge (held:=held) (fun a b c=>ih a b c) fs.toList 0 q cs hd.1 hc (by rw[hq,hl]) (Yzn _) (fun f hf=>by
    obtain⟨i,hi⟩:=List.mem_iff_getElem?.1 hf;have h1:=hx i f (by grind);have hlt:i<xs.length:=by grind
    exact⟨_,h1.trans (Lz5 hlt)⟩) hok
   trivial
  case array k e=>simp only[LzC]at hd;obtain⟨xs,n,hn,_,hl,hxl,hx⟩:=DataW.trod_array hu ht;subst hn;refine⟨?_,hl⟩;exact zjC (held:=held) (fun a b c=>ih a b c) hd.1 k cs (by simp_all) (fun i hi=>⟨_,(hx i hi).trans (Lz5 (by omega))⟩) hok
theorem zry{P:Program}{w:World}{base:Nat}{t:TypeId}{v:Value}(h:Cell.okWide P w .any base t v):okV w v:=by
 intro a ha;subst ha
 left
 have h:Cell.ok P w .any base t (.slice (some a) 0 0):=by simp_all[Cell.okWide]
 unfold Cell.ok at h;split at h<;>first|(rename_i hh;cases hh;done)|skip
 all_goals simp_all
 obtain⟨_,_,_,h1,row,cells,h2,_⟩:=h
 grind[World.shape?,zcn]
theorem open_row{t:TypeId}{v:Value}{d:DataW H}{p:List MemPlace}(m:Nat)(hu:(match P.underlying t with|some (.struct _)|some (.array _ _)=>true|_=>false)=true)(hd:zas P m t=true)
  (hv:Value.okWide P w .any base t v) (h:DataW.Trod enc P w 0 (fun _=>true) held t v d p):
  ∃vs ds,v=zm (φ0 w) (.s (.agg vs))/\RepL (fun b=>b.toNat<(ym w).n.toNat) (ym w) vs ds/\wfA (φ0 w) (ym w).n.toNat (.s (.agg vs))/\Ty P m t ds:=by
 have:∃cs,v=.agg cs/\cs.size=P.cellsOf t/\Row.okWide P w .any base t cs:=by grind[Value.okWide]
 obtain⟨cs,rfl,hsz,ts,_,_,hc⟩:=this;obtain⟨q,hq⟩:=h;obtain⟨⟨vs,ds,a,r,ty⟩,_⟩:=zfw m hd hq (fun v hv=>by obtain⟨i,hi⟩:=List.mem_iff_getElem?.1 hv;obtain⟨u,_,ho⟩:=hc i v (by rw[<-LzA];exact hi);exact zry ho)
 obtain⟨k1,k2⟩:=a.conc;refine⟨vs,ds,?_,r,k2,ty⟩;show Value.agg cs=.agg ((vs.map (zf (φ0 w))).toArray);rw[k1];rfl
theorem open_one{t:TypeId}{v:Value}{d:DataW H}{p:List MemPlace}(m:Nat)(hu:(match P.underlying t with|some (.struct _)|some (.array _ _)=>false|_=>true)=true)(_h1:P.cellsOf t=1)(hd:zas P m t=true)
  (hv:Value.okWide P w .any base t v) (h:DataW.Trod enc P w 0 (fun _=>true) held t v d p):
  ∃c x,v=zm (φ0 w) (.s (.one c))/\Rep (fun b=>b.toNat<(ym w).n.toNat) (ym w) c x/\wfA (φ0 w) (ym w).n.toNat (.s (.one c))/\Ty P m t [x]:=by
 have hcell:Cell.okWide P w .any base t v:=by grind[Value.okWide]
 obtain⟨q,hq⟩:=h;have hone:v.cells.toList=[v]:=by
  cases v<;>first|rfl|skip
  simp_all[Cell.okWide,Cell.ok]
 rw[hone]at hq;obtain⟨⟨vs,ds,a,r,ty⟩,_⟩:=zfw m hd hq (fun x hx=>by grind[zry]);obtain⟨k1,k2⟩:=a.conc
 match vs,ds,a.len,r.1 with
 | [c],[x],_,_=>simp only[Yzu,List.map_nil,List.cons.injEq,and_true]at k1;exact⟨c,x,k1.symm,r.inv.1,k2 c (Yzk ..),ty⟩
end
end Go.PE
end
