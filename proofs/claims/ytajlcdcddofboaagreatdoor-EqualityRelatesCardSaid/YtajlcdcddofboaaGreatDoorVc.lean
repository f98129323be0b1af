/-
  Lemmas. No condition.
-/
import Derived.Test.YtajlcdcddofboaaGreatDoorVb
import Derived.ProofKit
import Derived.OpenShut
import Derived.FnData
import Derived.MakeChecks
section
namespace Go.CE
noncomputable section
abbrev Fr:=Nat→Zb
def zwU(t:Tr Zb):Fr:=fun i=>zxO (bn i) t
def coK(r:Fr):Operand→Option Opd
 | .tmp t=>some (zu (r t))
 | .const v=>match zxX v with|some s=>some (zu (.s s))|none=>none
 | .func f=>some (zu (.s (.one (.fn f []))))
 | .global g=>match qU g with|some _=>some (zu (.s (.one (.gptr g 0))))|none=>none
def kQ(co:Operand→Option Opd):List Operand→Option (List Opd)
 | []=>some []
 |x::xs=>
  match co x,kQ co xs with
  |some y,some ys=>some (y::ys)
  |_,_=>none
def zaM(co:Operand→Option Opd):Option Operand→Option (Option Opd)
 |none=>some none
 |some x=>match co x with|some y=>some (some y)|none=>none
section
variable (P:Program)
def wi(co:Operand→Option Opd)(fs:Array Field):List (Nat×Operand)→Option (List (Nat×Nat×Opd))
 | []=>some []
 |(i,x)::r=>
  match fs[i]?,co x,wi co fs r with
  |some f,some y,some rest=>
   match P.info? f.type with
   |some info=>some ((f.offset,info.size,y)::rest)
   |none=>none
  |_,_,_=>none
def wl(co:Operand→Option Opd)(size:Nat):List (Nat×Operand)→Option (List (Nat×Nat×Opd))
 | []=>some []
 |(i,x)::r=>
  match co x,wl co size r with
  |some y,some rest=>some ((i*size,size,y)::rest)
  |_,_=>none
def zwS(co:Operand→Option Opd)(o:Op):zxq:=yi <| match o with
 | .move x | .assign x=>(co x).map zxJ
 | .pick c a b=>do pure (jp (←co c) (←co a) (←co b))
 | .alloc t=>bif qN P t then do pure (zbt t (←yl P t).cells) else do pure (zb7 (←yl P t).cells)
 | .box _ x=>do pure (zcV (←co x))
 | .build t parts=>
  match P.underlying t,yl P t with
  |some (.struct fs),some z=>bif qr P fs.toList then do pure (vI z.cells (←wi P co fs parts.toList)) else none
  |some (.array _ e),some z=>
   match P.info? e with
   |some i=>do pure (vI z.cells (←wl co i.size parts.toList))
   |none=>none
  |_,_=>none
 | .buildSlice t len parts=>
  match P.underlying t with
  |some (.slice e)=>
   match P.info? e with
   |some i=>
    bif Nat.ble (len*i.size) 16777216 then
     match (bif Nat.beq (len*i.size) 0 then some [] else(yl P e).map SVal.cells) with
     |some zs=>bif Nat.beq (len*i.size) 0||Nat.beq zs.length i.size then do pure (wI i.size len (zwX zs len) (←wl co i.size parts.toList)) else none
     |none=>none
    else none
   |none=>none
  |_=>none
 | .load t x=>do pure (js (←xY P t) (←co x))
 | .store t x v=>do pure (zar (←P.info? t).size (←co x) (←co v))
 | .nilCheck x=>do pure (vC (←co x))
 | .binOp op t x y _=>
  match P.underlying t with
  |some (.int _)=>
   match op with
   | .shl=>do pure (wA zeU (←co x) (←co y))
   | .shr=>do pure (wA zeT (←co x) (←co y))
   |op=>do pure (zbi (ur op) (←co x) (←co y))
  |some .string=>do pure (zb1 op (←co x) (←co y))
  |some (.slice _)=>
   match op with
   | .eql=>do pure (um false (←co x) (←co y))
   | .neq=>do pure (um true (←co x) (←co y))
   |_=>none
  |some (.pointer e)=>
   bif x5 P e then
   match op with
   | .eql=>do pure (vB false (←co x) (←co y))
   | .neq=>do pure (vB true (←co x) (←co y))
   |_=>none
   else none
  |some (.func _ _ _)=>
   match op with
   | .eql=>do pure (jq false (←co x) (←co y))
   | .neq=>do pure (jq true (←co x) (←co y))
   |_=>none
  |some _=>
   bif P.eqGuardType P.depth t then none else
   match op with
   | .eql=>do pure (zxK (←zw1 P t) false (←co x) (←co y))
   | .neq=>do pure (zxK (←zw1 P t) true (←co x) (←co y))
   |_=>none
  |none=>none
 | .unOp .not _ x=>do pure (zb2 (←co x))
 | .unOp .neg _ x=>do pure (zb3 (←co x))
 | .convert s d x=>
  match P.underlying s,P.underlying d with
  |some (.int _),some (.int k)=>do pure (jw k (←co x))
  |some .string,some (.slice e)=>bif yM P e then do pure (zkx (←co x)) else none
  |some (.slice e),some .string=>bif yM P e then do pure (qI (←co x)) else none
  |some (.pointer e),some .unsafePointer=>bif x5 P e then do pure (zew (←co x)) else none
  |some .unsafePointer,some (.pointer u)=>bif zkQ P u then do pure (zev u (P.cellsOf u) (←co x)) else none
  |_,_=>none
 | .makeFunc (.func f) first captured=>bif first.isEmpty then do pure (jr f (←kQ co captured.toList)) else none
 | .makeMap _ none=>some zb5
 | .makeSlice t l c=>
  match P.underlying t with
  |some (.slice e)=>
   match P.info? e,yl P e with
   |some i,some z=>bif Nat.beq z.cells.length i.size && !Nat.beq i.size 0 then do pure (xU i.size z.cells i.bytes (←co l) (←co c)) else none
   |_,_=>none
  |_=>none
 | .slice t x lo hi mx=>
  match P.underlying t with
  |some (.slice e)=>
   match P.info? e with
   |some i=>bif mx.isSome && !hi.isSome then none else do pure (vA i.size (←co x) (←zaM co lo) (←zaM co hi) (←zaM co mx))
   |none=>none
  |some (.array n e)=>
   match P.info? e with
   |some i=>bif mx.isSome && !hi.isSome then none else do pure (w6 n i.size (←co x) (←zaM co lo) (←zaM co hi) (←zaM co mx))
   |none=>none
  |some .string=>bif mx.isSome then none else do pure (xM (←co x) (←zaM co lo) (←zaM co hi))
  |_=>none
 | .fieldAddr t x f=>
  match P.underlying t with
  |some (.struct fs)=>
   match fs[f]? with
   |some fd=>
    match P.info? fd.type with
    |some i=>bif Nat.beq i.size 0 then none else do pure (jv (←co x) fd.offset)
    |none=>none
   |none=>none
  |_=>none
 | .field t x f=>
  match P.underlying t with
  |some (.struct fs)=>
   match fs[f]? with
   |some fd=>do pure (vH (←co x) fd.offset (←xY P fd.type))
   |none=>none
  |_=>none
 | .indexAddr t x i=>
  match P.underlying t with
  |some (.slice e)=>
   match P.info? e with
   |some info=>do pure (zb6 info.size (←co x) (←co i))
   |none=>none
  |some (.array len e)=>
   match P.info? e with
   |some info=>do pure (vF len info.size (←co x) (←co i))
   |none=>none
  |_=>none
 | .index t x i=>
  match P.underlying t with
  |some (.array len e)=>
   match P.info? e with
   |some info=>do pure (vG len info.size (←xY P e) (←co x) (←co i))
   |none=>none
  |some .string=>do pure (vE (←co x) (←co i))
  |_=>none
 | .lookup t m k ok=>
  match P.underlying t with
  |some (.map key e)=>do pure (wH (←zw1 P key) (←yl P e) ok (←co m) (←co k))
  |_=>none
 | .mapUpdate t m k v | .insert t m k v=>
  match P.underlying t with
  |some (.map key _)=>do pure (zb4 (←zw1 P key) (←co m) (←co k) (←co v))
  |_=>none
 | .mapEntry t m k=>
  match P.underlying t with
  |some (.map key e)=>do pure (qG (←zw1 P key) (←yl P e) (←co m) (←co k))
  |_=>none
 | .entryStore _ m s v=>do pure (qH (←co m) (←co s) (←co v))
 | .extract x i=>do pure (xE (←co x) i)
 | .call c=>
  match c.callee with
  | .value f=>
   bif Nat.beq (qe P f) 0 then do pure (zdn (←co f) (←kQ co c.args.toList)) else zzb co (qe P f) c.args.toList
  | .builtin .unsafeSliceData=>
   match c.args.toList with
   | [x]=>do pure (vz (←co x))
   |_=>none
  | .builtin .unsafeString=>
   match c.argTypes.toList,c.args.toList with
   | [pt,_],[x,n]=>
    match P.underlying pt with
    |some (.pointer e)=>bif yM P e&&Nat.beq (P.cellsOf e) 1 then do pure (zfP e (←co x) (←co n)) else none
    |_=>none
   |_,_=>none
  | .builtin .cap=>
   match c.argTypes[0]?,c.args[0]? with
   |some t,some x=>
    match P.underlying t with
    |some (.slice _)=>do pure (zmh (←co x))
    |_=>none
   |_,_=>none
  | .builtin .copy=>
   match c.argTypes.toList,c.args.toList with
   | [t,t2],[d,s]=>
    match P.underlying t,P.underlying t2 with
    |some (.slice e),some (.slice _)=>
     match P.info? e with
     |some i=>bif Nat.beq i.size 0 then none else do pure (zfQ i.size (←co d) (←co s))
     |none=>none
    |_,_=>none
   |_,_=>none
  | .builtin .len=>
   match c.argTypes[0]?,c.args[0]? with
   |some t,some x=>
    match P.underlying t with
    |some .string=>do pure (jt (←co x))
    |some (.slice _)=>do pure (ju (←co x))
    |some (.map _ _)=>do pure (kK (←co x))
    |some (.array n _)=>some (zxJ (zu (.s (.one (.int .i64 (.ofNat n))))))
    |_=>none
   |_,_=>none
  | .builtin .append=>
   match c.argTypes.toList,c.args.toList with
   | [t,t2],[s,x]=>
    match P.underlying t with
    |some (.slice e)=>
     match P.info? e,yl P e with
     |some i,some z=>
      bif Nat.beq z.cells.length i.size && !Nat.beq i.size 0 then
       match P.underlying t2 with
       |some (.slice _)=>bif yM P e&&Nat.beq i.size 1 then do pure (jy e i.bytes (←co s) (←co x)) else do pure (xN false i.size i.bytes (←co s) (←co x))
       |some .string=>bif Nat.beq i.size 1 then do pure (jx e i.bytes (←co s) (←co x)) else none
       |_=>none
      else none
     |_,_=>none
    |_=>none
   |_,_=>none
  | .builtin .clear=>
   match c.argTypes[0]?,c.args[0]? with
   |some t,some x=>
    match P.underlying t with
    |some (.slice e)=>
     match P.info? e,yl P e with
     |some i,some z=>bif Nat.beq z.cells.length i.size && !Nat.beq i.size 0 then do pure (zas i.size z.cells (←co x)) else none
     |_,_=>none
    |_=>none
   |_,_=>none
  | .builtin .max=>
   match kQ co c.args.toList with
   |some (x::xs)=>some (xe true x xs)
   |_=>none
  | .builtin .min=>
   match kQ co c.args.toList with
   |some (x::xs)=>some (xe false x xs)
   |_=>none
  |_=>none
 |_=>none
end
end
section
variable {P:Program} {t:Tr Zb}
def OR(t:Tr Zb)(a b:Option Opd):Prop:=(a=none∧b=none)∨∃x y,a=some x∧b=some y∧x .nil=y t
theorem zP(x:Operand):OR t (coK (zwU t) x) (zwM x):=by
 cases x with
 |tmp i=>exact .inr ⟨_,_,rfl,rfl,rfl⟩
 |const v=>
  simp only[coK,zwM];cases zxX v with
  |none=>exact .inl ⟨rfl,rfl⟩
  |some s=>exact .inr ⟨_,_,rfl,rfl,rfl⟩
 |func f=>exact .inr ⟨_,_,rfl,rfl,rfl⟩
 |global g=>
  simp only[coK,zwM];cases qU g with
  |none=>exact .inl ⟨rfl,rfl⟩
  |some q=>exact .inr ⟨_,_,rfl,rfl,rfl⟩
def LR(t:Tr Zb):List Opd→List Opd→Prop
 | [],[]=>True
 |x::xs,y::ys=>x .nil=y t∧LR t xs ys
 |_,_=>False
theorem zcA:∀l:List Operand,(kQ (coK (zwU t)) l=none∧uh l=none)∨∃xs ys,kQ (coK (zwU t)) l=some xs∧uh l=some ys∧LR t xs ys
 | []=>.inr ⟨[],[],rfl,rfl,trivial⟩
 |x::l=>by
  simp only[kQ,uh];rcases zP (t:=t) x with⟨h1,h2⟩|⟨a,b,h1,h2,h3⟩
  ·rw[h1,h2];exact .inl ⟨rfl,rfl⟩
  ·rw[h1,h2];rcases zcA l with⟨k1,k2⟩|⟨as,bs,k1,k2,k3⟩
   ·rw[k1,k2];exact .inl ⟨rfl,rfl⟩
   ·rw[k1,k2];exact .inr ⟨_,_,rfl,rfl,h3,k3⟩
def PR(t:Tr Zb):List (Nat×Nat×Opd)→List (Nat×Nat×Opd)→Prop
 | [],[]=>True
 |x::xs,y::ys=>x.1=y.1∧x.2.1=y.2.1∧x.2.2 .nil=y.2.2 t∧PR t xs ys
 |_,_=>False
theorem kL(fs:Array Field):∀l:List (Nat×Operand),(wi P (coK (zwU t)) fs l=none∧xP P fs l=none)∨∃xs ys,wi P (coK (zwU t)) fs l=some xs∧xP P fs l=some ys∧PR t xs ys
 | []=>.inr ⟨[],[],rfl,rfl,trivial⟩
 |(i,x)::l=>by
  simp only[wi,xP];cases fs[i]? with
  |none=>exact .inl ⟨rfl,rfl⟩
  |some f=>
   rcases zP (t:=t) x with⟨h1,h2⟩|⟨a,b,h1,h2,h3⟩
   ·rw[h1,h2];exact .inl ⟨rfl,rfl⟩
   ·rw[h1,h2];rcases kL fs l with⟨k1,k2⟩|⟨as,bs,k1,k2,k3⟩
    ·rw[k1,k2];exact .inl ⟨rfl,rfl⟩
    ·rw[k1,k2];simp only;cases P.info? f.type with
     |none=>exact .inl ⟨rfl,rfl⟩
     |some i=>exact .inr ⟨_,_,rfl,rfl,rfl,rfl,h3,k3⟩
theorem uR(n:Nat):∀l:List (Nat×Operand),(wl (coK (zwU t)) n l=none∧xn n l=none)∨∃xs ys,wl (coK (zwU t)) n l=some xs∧xn n l=some ys∧PR t xs ys
 | []=>.inr ⟨[],[],rfl,rfl,trivial⟩
 |(i,x)::l=>by
  simp only[wl,xn];rcases zP (t:=t) x with⟨h1,h2⟩|⟨a,b,h1,h2,h3⟩
  ·rw[h1,h2];exact .inl ⟨rfl,rfl⟩
  ·rw[h1,h2];rcases uR n l with⟨k1,k2⟩|⟨as,bs,k1,k2,k3⟩
   ·rw[k1,k2];exact .inl ⟨rfl,rfl⟩
   ·rw[k1,k2];exact .inr ⟨_,_,rfl,rfl,rfl,rfl,h3,k3⟩
theorem qZ:∀(xs ys:List (Nat×Nat×Opd)) (cs:List Zc),PR t xs ys→q8 .nil xs cs=q8 t ys cs
 | [],[],_,_=>rfl
 |(a,b,x)::xs,(a',b',y)::ys,cs,⟨h1,h2,h3,h4⟩=>by
  simp only at h1 h2 h3;subst h1 h2;simp only[q8];rw[h3];cases y t with
  |tup _=>rfl
  |s v=>
   simp only;cases jE v.cells b with
   |false=>rfl
   |true=>
    simp only[Yza];cases putAt v.cells cs a with
    |none=>rfl
    |some cs'=>exact qZ xs ys cs' h4
theorem zmR:∀(xs ys:List Opd),LR t xs ys→xs.map (fun x=>x .nil)=ys.map (fun x=>x t)
 | [],[],_=>rfl
 |x::xs,y::ys,⟨h1,h2⟩=>by rw[Yzp,Yzp,h1,zmR xs ys h2]
theorem ziK:∀(xs ys:List Opd),LR t xs ys→zx1 .nil xs=zx1 t ys
 | [],[],_=>rfl
 |x::xs,y::ys,⟨h1,h2⟩=>by simp only[zx1];rw[h1,ziK xs ys h2]
theorem zeA(m:Bool)(k:IntKind):∀(xs ys:List Opd) (z:Int),LR t xs ys→zyc m k .nil xs z=zyc m k t ys z
 | [],[],_,_=>rfl
 |x::xs,y::ys,z,⟨h1,h2⟩=>by
  simp only[zyc];rw[h1];split
  ·rename_i k' y' _;cases eqK k k' with
   |false=>rfl
   |true=>exact zeA m k xs ys _ h2
  ·rfl
def QR(t:Tr Zb)(a b:Option Opd):Prop:=(a=none∧b=none)∨∃x y,a=some x∧b=some y∧x .nil=y t
theorem QR.bnd{a b:Option Opd}(h:QR t a b)(d y:Nat):bnd .nil a d y=CE.bnd t b d y:=by
 rcases h with⟨rfl,rfl⟩|⟨x,z,rfl,rfl,h⟩
 ·rfl
 ·simp only[CE.bnd];rw[h]
theorem jo(x:Option Operand):(zaM (coK (zwU t)) x=none∧zw6 x=none)∨∃a b,zaM (coK (zwU t)) x=some a∧zw6 x=some b∧QR t a b:=by
 cases x with
 |none=>exact .inr ⟨none,none,rfl,rfl,.inl ⟨rfl,rfl⟩⟩
 |some x=>
  simp only[zaM,zw6];rcases zP (t:=t) x with⟨h1,h2⟩|⟨a,b,h1,h2,h3⟩
  ·rw[h1,h2];exact .inl ⟨rfl,rfl⟩
  ·rw[h1,h2];exact .inr ⟨_,_,rfl,rfl,.inr ⟨_,_,rfl,rfl,h3⟩⟩
theorem zg9{lo hi mx lo' hi' mx':Option Opd}(h1:QR t lo lo')(h2:QR t hi hi')(h3:QR t mx mx')(st:Nat)(h:Za)(b:BN)(off len cap:Nat):
  xj st lo hi mx .nil h b off len cap=xj st lo' hi' mx' t h b off len cap:=by
 have e1:=h1.bnd;have e2:=h2.bnd;have e3:=h3.bnd;rcases h3 with⟨rfl,rfl⟩|⟨x,z,rfl,rfl,h⟩
 ·simp only[xj,e2,e1]
 ·rcases h2 with⟨rfl,rfl⟩|⟨x',z',rfl,rfl,h'⟩
  ·simp only[xj,e3]
  ·simp only[xj,e3,e2,e1]
variable (call:zg) (h:Za)
theorem znV(o:Op):zwS P (coK (zwU t)) o call .nil h=cOp P o call t h:=by
 cases o with
 |move x=>rcases zP (t:=t) x with⟨h1,h2⟩|⟨a,b,h1,h2,h3⟩<;>simp only[zwS,cOp,yi,Option.map_none,Yzv,zxJ,y9, *]
 |assign x=>rcases zP (t:=t) x with⟨h1,h2⟩|⟨a,b,h1,h2,h3⟩<;>simp only[zwS,cOp,yi,Option.map_none,Yzv,zxJ,y9, *]
 |pick c a b=>
  rcases zP (t:=t) c with⟨h1c,h2c⟩|⟨oac,obc,h1c,h2c,h3c⟩<;>rcases zP (t:=t) a with⟨h1a,h2a⟩|⟨oaa,oba,h1a,h2a,h3a⟩<;>rcases zP (t:=t) b with⟨h1b,h2b⟩|⟨oab,obb,h1b,h2b,h3b⟩<;>simp[zwS,cOp,yi,y9,jp, *]
 |alloc ty=>
  simp only[zwS,cOp];cases qN P ty<;>cases yl P ty<;>rfl
 |box ty x=>
  rcases zP (t:=t) x with⟨h1,h2⟩|⟨a,b,h1,h2,h3⟩<;>simp[zwS,cOp,yi,y9,zcV, *]
 |build ty parts=>
  simp only[zwS,cOp];cases P.underlying ty with
  |none=>rfl
  |some u=>
   cases yl P ty with
   |none=>cases u<;>rfl
   |some z=>
    cases u with
    |struct fs=>
     simp only;cases qr P fs.toList with
     |false=>rfl
     |true=>
      rcases kL (P:=P) (t:=t) fs parts.toList with⟨h1,h2⟩|⟨xs,ys,h1,h2,h3⟩
      ·simp only[Yza,h1,h2];rfl
      ·simp only[Yza,h1,h2,Yz8,Yz0,Yyn,yi,vI,qZ _ _ _ h3]
    |array n e=>
     simp only;cases P.info? e with
     |none=>rfl
     |some i=>
      rcases uR (t:=t) i.size parts.toList with⟨h1,h2⟩|⟨xs,ys,h1,h2,h3⟩
      ·simp only[h1,h2];rfl
      ·simp only[h1,h2,Yz8,Yz0,Yyn,yi,vI,qZ _ _ _ h3]
    |_=>rfl
 |buildSlice ty len parts=>
  simp only[zwS,cOp];cases P.underlying ty with
  |none=>rfl
  |some u=>
   cases u with
   |slice e=>
    simp only;cases P.info? e with
    |none=>rfl
    |some i=>
     simp only;cases Nat.ble (len*i.size) 16777216 with
     |false=>rfl
     |true=>
      simp only[Yza];generalize (bif Nat.beq (len*i.size) 0 then some [] else(yl P e).map SVal.cells)=q;cases q with
      |none=>rfl
      |some zs=>
       simp only;generalize (Nat.beq (len*i.size) 0||Nat.beq zs.length i.size)=q2;cases q2 with
       |false=>rfl
       |true=>
        rcases uR (t:=t) i.size parts.toList with⟨h1,h2⟩|⟨xs,ys,h1,h2,h3⟩
        ·simp only[Yza,h1,h2];rfl
        ·simp only[Yza,h1,h2,Yz8,Yz0,Yyn,yi,wI,qZ _ _ _ h3]
   |_=>rfl
 |load ty x=>
  simp only[zwS,cOp];cases xY P ty with
  |none=>rfl
  |some n=>
   rcases zP (t:=t) x with⟨h1,h2⟩|⟨a,b,h1,h2,h3⟩<;>simp[yi,y9,js, *]
 |store ty x v=>
  simp only[zwS,cOp];cases P.info? ty with
  |none=>rfl
  |some n=>
   rcases zP (t:=t) x with⟨h1x,h2x⟩|⟨oax,obx,h1x,h2x,h3x⟩<;>rcases zP (t:=t) v with⟨h1v,h2v⟩|⟨oav,obv,h1v,h2v,h3v⟩<;>simp[yi,y9,zar, *]
 |nilCheck x=>
  rcases zP (t:=t) x with⟨h1,h2⟩|⟨a,b,h1,h2,h3⟩<;>simp[zwS,cOp,yi,y9,vC, *]
 |binOp op ty x y ty2=>
  simp only[zwS,cOp];cases P.underlying ty with
  |none=>rfl
  |some u=>
   by_cases hu:∃te,u=.pointer te
   ·obtain⟨te,rfl⟩:=hu;simp only;cases x5 P te with
    |false=>rfl
    |true=>rcases zP (t:=t) x with⟨h1x,h2x⟩|⟨oax,obx,h1x,h2x,h3x⟩<;>rcases zP (t:=t) y with⟨h1y,h2y⟩|⟨oay,oby,h1y,h2y,h3y⟩<;>cases op<;>first|rfl|simp[yi,y9,vB, *]
   ·rcases zP (t:=t) x with⟨h1x,h2x⟩|⟨oax,obx,h1x,h2x,h3x⟩<;>rcases zP (t:=t) y with⟨h1y,h2y⟩|⟨oay,oby,h1y,h2y,h3y⟩<;>simp only[h1x,h2x,h1y,h2y]
    all_goals (cases u<;>first|rfl|(exfalso;exact hu ⟨_,rfl⟩)|skip)
    all_goals (clear hu)
    all_goals (try generalize P.eqGuardType P.depth ty=q)
    all_goals (try generalize zw1 P ty=q2)
    all_goals (cases op<;>first|rfl|simp only[Yz8,Yz0,Option.bind_none,Yyn,yi,zbi,wA,zb1,um,jq, *])
    all_goals (cases q<;>first|rfl|skip)
    all_goals (cases q2<;>first|rfl|simp only[Yzc,Yz0,zxK, *])
 |unOp op ty x=>
  cases op<;>first|rfl|(rcases zP (t:=t) x with⟨h1,h2⟩|⟨a,b,h1,h2,h3⟩<;>simp[zwS,cOp,yi,y9,zb2,zb3, *])
 |convert s d x=>
  simp only[zwS,cOp];cases P.underlying s with
  |none=>rfl
  |some u=>
   cases P.underlying d with
   |none=>cases u<;>rfl
   |some u2=>
    cases u<;>first|rfl|skip
    all_goals (cases u2<;>first|rfl|skip)
    case string.slice el=>cases hb:yM P el<;>rcases zP (t:=t) x with⟨h1,h2⟩|⟨a,b,h1,h2,h3⟩<;>simp[yi,y9,zkx, *]
    case slice.string el=>cases hb:yM P el<;>rcases zP (t:=t) x with⟨h1,h2⟩|⟨a,b,h1,h2,h3⟩<;>simp[yi,y9,qI, *]
    case pointer.unsafePointer el=>cases hb:x5 P el<;>rcases zP (t:=t) x with⟨h1,h2⟩|⟨a,b,h1,h2,h3⟩<;>simp[yi,y9,zew, *]
    case unsafePointer.pointer el=>cases hb:zkQ P el<;>rcases zP (t:=t) x with⟨h1,h2⟩|⟨a,b,h1,h2,h3⟩<;>simp[yi,y9,zev, *]
    all_goals (rcases zP (t:=t) x with⟨h1,h2⟩|⟨a,b,h1,h2,h3⟩<;>simp[yi,y9,jw, *])
 |makeFunc fn first captured=>
  cases fn<;>first|rfl|skip
  simp only[zwS,cOp];cases first.isEmpty with
  |false=>rfl
  |true=>
   rcases zcA (t:=t) captured.toList with⟨h1,h2⟩|⟨xs,ys,h1,h2,h3⟩
   ·simp only[Yza,h1,h2];rfl
   ·simp only[Yza,h1,h2,Yz8,Yz0,Yyn,yi,jr,ziK _ _ h3]
 |makeMap ty r=>
  cases r<;>rfl
 |makeSlice ty l c=>
  simp only[zwS,cOp];cases P.underlying ty with
  |none=>rfl
  |some u=>
   cases u with
   |slice e=>
    simp only;cases P.info? e with
    |none=>rfl
    |some i=>
     cases yl P e with
     |none=>rfl
     |some z=>
      simp only;generalize (Nat.beq z.cells.length i.size && !Nat.beq i.size 0)=q;cases q with
      |false=>rfl
      |true=>rcases zP (t:=t) l with⟨h1l,h2l⟩|⟨oal,obl,h1l,h2l,h3l⟩<;>rcases zP (t:=t) c with⟨h1c,h2c⟩|⟨oac,obc,h1c,h2c,h3c⟩<;>simp[yi,y9,xU, *]
   |_=>rfl
 |slice ty x lo hi mx=>
  simp only[zwS,cOp];cases P.underlying ty with
  |none=>rfl
  |some u=>
   cases u with
   |slice e=>
    simp only;cases P.info? e with
    |none=>rfl
    |some i=>
     simp only;generalize (mx.isSome && !hi.isSome)=q;cases q with
     |true=>rfl
     |false=>
      rcases zP (t:=t) x with⟨h1x,h2x⟩|⟨oax,obx,h1x,h2x,h3x⟩
      ·simp only[h1x,h2x,Yzc];rfl
      ·rcases jo (t:=t) lo with⟨k1,k2⟩|⟨l1,l2,k1,k2,k3⟩
       ·simp only[h1x,h2x,k1,k2,Yzc];rfl
       ·rcases jo (t:=t) hi with⟨m1,m2⟩|⟨g1,g2,m1,m2,m3⟩
        ·simp only[h1x,h2x,k1,k2,m1,m2,Yzc];rfl
        ·rcases jo (t:=t) mx with⟨n1,n2⟩|⟨j1,j2,n1,n2,n3⟩
         ·simp only[h1x,h2x,k1,k2,m1,m2,n1,n2,Yzc];rfl
         ·simp only[h1x,h2x,k1,k2,m1,m2,n1,n2,Yzc,Yz8,Yz0,Yyn,yi,vA,h3x,xL,xu,zg9 k3 m3 n3,k3.bnd,m3.bnd,n3.bnd]
   |array len e=>
    simp only;cases P.info? e with
    |none=>rfl
    |some i=>
     simp only;generalize (mx.isSome && !hi.isSome)=q;cases q with
     |true=>rfl
     |false=>
      rcases zP (t:=t) x with⟨h1x,h2x⟩|⟨oax,obx,h1x,h2x,h3x⟩
      ·simp only[h1x,h2x,Yzc];rfl
      ·rcases jo (t:=t) lo with⟨k1,k2⟩|⟨l1,l2,k1,k2,k3⟩
       ·simp only[h1x,h2x,k1,k2,Yzc];rfl
       ·rcases jo (t:=t) hi with⟨m1,m2⟩|⟨g1,g2,m1,m2,m3⟩
        ·simp only[h1x,h2x,k1,k2,m1,m2,Yzc];rfl
        ·rcases jo (t:=t) mx with⟨n1,n2⟩|⟨j1,j2,n1,n2,n3⟩
         ·simp only[h1x,h2x,k1,k2,m1,m2,n1,n2,Yzc];rfl
         ·simp only[h1x,h2x,k1,k2,m1,m2,n1,n2,Yzc,Yz8,Yz0,Yyn,yi,w6,h3x,xu,k3.bnd,m3.bnd,n3.bnd]
   |string=>
    simp only;cases mx.isSome with
    |true=>rfl
    |false=>
     rcases zP (t:=t) x with⟨h1x,h2x⟩|⟨oax,obx,h1x,h2x,h3x⟩
     ·simp only[h1x,h2x,Yzc];rfl
     ·rcases jo (t:=t) lo with⟨k1,k2⟩|⟨l1,l2,k1,k2,k3⟩
      ·simp only[h1x,h2x,k1,k2,Yzc];rfl
      ·rcases jo (t:=t) hi with⟨m1,m2⟩|⟨g1,g2,m1,m2,m3⟩
       ·simp only[h1x,h2x,k1,k2,m1,m2,Yzc];rfl
       ·simp only[h1x,h2x,k1,k2,m1,m2,Yzc,Yz8,Yz0,Yyn,yi,xM,h3x,k3.bnd,m3.bnd]
   |_=>rfl
 |fieldAddr ty x f=>
  simp only[zwS,cOp];cases P.underlying ty with
  |none=>rfl
  |some u=>
   cases u with
   |struct fs=>
    simp only;cases fs[f]? with
    |none=>rfl
    |some fd=>
     simp only;cases P.info? fd.type with
     |none=>rfl
     |some i=>
      simp only;cases Nat.beq i.size 0 with
      |true=>rfl
      |false=>rcases zP (t:=t) x with⟨h1,h2⟩|⟨a,b,h1,h2,h3⟩<;>simp[yi,y9,jv, *]
   |_=>rfl
 |field ty x f=>
  simp only[zwS,cOp];cases P.underlying ty with
  |none=>rfl
  |some u=>
   cases u with
   |struct fs=>
    simp only;cases fs[f]? with
    |none=>rfl
    |some fd=>
     simp only;rcases zP (t:=t) x with⟨h1,h2⟩|⟨a,b,h1,h2,h3⟩<;>cases xY P fd.type<;>simp[yi,y9,vH, *]
   |_=>rfl
 |indexAddr ty x i=>
  simp only[zwS,cOp];cases P.underlying ty with
  |none=>rfl
  |some u=>
   cases u with
   |slice e=>
    simp only;cases P.info? e with
    |none=>rfl
    |some n=>rcases zP (t:=t) x with⟨h1x,h2x⟩|⟨oax,obx,h1x,h2x,h3x⟩<;>rcases zP (t:=t) i with⟨h1i,h2i⟩|⟨oai,obi,h1i,h2i,h3i⟩<;>simp[yi,y9,zb6, *]
   |array len e=>
    simp only;cases P.info? e with
    |none=>rfl
    |some n=>rcases zP (t:=t) x with⟨h1x,h2x⟩|⟨oax,obx,h1x,h2x,h3x⟩<;>rcases zP (t:=t) i with⟨h1i,h2i⟩|⟨oai,obi,h1i,h2i,h3i⟩<;>simp[yi,y9,vF, *]
   |_=>rfl
 |index ty x i=>
  simp only[zwS,cOp];cases P.underlying ty with
  |none=>rfl
  |some u=>
   cases u with
   |array len e=>
    simp only;cases P.info? e with
    |none=>rfl
    |some n=>rcases zP (t:=t) x with⟨h1x,h2x⟩|⟨oax,obx,h1x,h2x,h3x⟩<;>rcases zP (t:=t) i with⟨h1i,h2i⟩|⟨oai,obi,h1i,h2i,h3i⟩<;>cases xY P e<;>simp[yi,y9,vG, *]
   |string=>rcases zP (t:=t) x with⟨h1x,h2x⟩|⟨oax,obx,h1x,h2x,h3x⟩<;>rcases zP (t:=t) i with⟨h1i,h2i⟩|⟨oai,obi,h1i,h2i,h3i⟩<;>simp[yi,y9,vE, *]
   |_=>rfl
 |lookup ty m k ok=>
  simp only[zwS,cOp];cases P.underlying ty with
  |none=>rfl
  |some u=>
   cases u with
   |map key e=>
    simp only;rcases zP (t:=t) m with⟨h1m,h2m⟩|⟨oam,obm,h1m,h2m,h3m⟩<;>rcases zP (t:=t) k with⟨h1k,h2k⟩|⟨oak,obk,h1k,h2k,h3k⟩<;>generalize zw1 P key=q1<;>generalize yl P e=q2<;>cases q1<;>cases q2<;>simp only[h1m,h2m,h1k,h2k]<;>first|rfl|simp[yi,wH, *]
   |_=>rfl
 |mapUpdate ty m k v=>
  simp only[zwS,cOp];cases P.underlying ty with
  |none=>rfl
  |some u=>
   cases u with
   |map key e=>
    simp only;rcases zP (t:=t) m with⟨h1m,h2m⟩|⟨oam,obm,h1m,h2m,h3m⟩<;>rcases zP (t:=t) k with⟨h1k,h2k⟩|⟨oak,obk,h1k,h2k,h3k⟩<;>rcases zP (t:=t) v with⟨h1v,h2v⟩|⟨oav,obv,h1v,h2v,h3v⟩<;>generalize zw1 P key=q1<;>cases q1<;>simp only[h1m,h2m,h1k,h2k]<;>first|rfl|simp[yi,y9,zb4, *]
   |_=>rfl
 |insert ty m k v=>
  simp only[zwS,cOp];cases P.underlying ty with
  |none=>rfl
  |some u=>
   cases u with
   |map key e=>
    simp only;rcases zP (t:=t) m with⟨h1m,h2m⟩|⟨oam,obm,h1m,h2m,h3m⟩<;>rcases zP (t:=t) k with⟨h1k,h2k⟩|⟨oak,obk,h1k,h2k,h3k⟩<;>rcases zP (t:=t) v with⟨h1v,h2v⟩|⟨oav,obv,h1v,h2v,h3v⟩<;>generalize zw1 P key=q1<;>cases q1<;>simp only[h1m,h2m,h1k,h2k]<;>first|rfl|simp[yi,y9,zb4, *]
   |_=>rfl
 |mapEntry ty m k=>
  simp only[zwS,cOp];cases P.underlying ty with
  |none=>rfl
  |some u=>
   cases u with
   |map key e=>
    simp only;rcases zP (t:=t) m with⟨h1m,h2m⟩|⟨oam,obm,h1m,h2m,h3m⟩<;>rcases zP (t:=t) k with⟨h1k,h2k⟩|⟨oak,obk,h1k,h2k,h3k⟩<;>generalize zw1 P key=q1<;>generalize yl P e=q2<;>cases q1<;>cases q2<;>simp only[h1m,h2m,h1k,h2k]<;>first|rfl|simp[yi,qG, *]
   |_=>rfl
 |entryStore ty m s v=>
  simp only[zwS,cOp];rcases zP (t:=t) m with⟨h1m,h2m⟩|⟨oam,obm,h1m,h2m,h3m⟩<;>rcases zP (t:=t) s with⟨h1k,h2k⟩|⟨oak,obk,h1k,h2k,h3k⟩<;>rcases zP (t:=t) v with⟨h1v,h2v⟩|⟨oav,obv,h1v,h2v,h3v⟩<;>simp only[h1m,h2m,h1k,h2k]<;>first|rfl|simp[yi,y9,qH, *]
 |extract x i=>
  rcases zP (t:=t) x with⟨h1,h2⟩|⟨a,b,h1,h2,h3⟩<;>simp[zwS,cOp,yi,y9,xE, *]
 |call c=>
  obtain⟨callee,args,tys⟩:=c;cases callee with
  |invoke _ _=>rfl
  |value f=>
   simp only[zwS,cOp];cases hk:Nat.beq (qe P f) 0 with
   |false=>
    simp only[Yzc];unfold zzb;rcases args.toList with _|⟨x,_|⟨y,_|⟨z,l⟩⟩⟩<;>try rfl
    ·simp only;cases Nat.beq (qe P f) 1 with
     |false=>rfl
     |true=>rcases zP (t:=t) x with⟨h1,h2⟩|⟨a,b,h1,h2,h3⟩<;>simp[yi,y9,zxJ, *]
    ·simp only;cases Nat.beq (qe P f) 2 with
     |false=>rfl
     |true=>rcases zP (t:=t) x with⟨h1,h2⟩|⟨a,b,h1,h2,h3⟩<;>rcases zP (t:=t) y with⟨h1x,h2x⟩|⟨oax,obx,h1x,h2x,h3x⟩<;>simp[yi,y9,ziS, *]
   |true=>
   simp only[Yza];rcases zP (t:=t) f with⟨h1x,h2x⟩|⟨oax,obx,h1x,h2x,h3x⟩
   ·simp only[h1x,h2x];rfl
   ·rcases zcA (t:=t) args.toList with⟨h1,h2⟩|⟨xs,ys,h1,h2,h3⟩
    ·simp only[h1x,h2x,h1,h2];rfl
    ·simp only[h1x,h2x,h1,h2,Yz8,Yz0,Yyn,yi,zdn,h3x,zmR _ _ h3]
  |builtin b=>
   cases b with
   |len=>
    simp only[zwS,cOp];cases tys[0]? with
    |none=>rfl
    |some ty=>
     cases args[0]? with
     |none=>rfl
     |some x=>
      simp only;cases P.underlying ty with
      |none=>rfl
      |some u=>cases u<;>first|rfl|(rcases zP (t:=t) x with⟨h1,h2⟩|⟨a,b,h1,h2,h3⟩<;>simp[yi,y9,jt,ju,kK, *])
   |append=>
    simp only[zwS,cOp];rcases tys.toList with _|⟨t1,_|⟨t2,_|⟨t3,l⟩⟩⟩<;>try rfl
    rcases args.toList with _|⟨s,_|⟨x,_|⟨y,l⟩⟩⟩<;>try rfl
    simp only;cases P.underlying t1 with
    |none=>rfl
    |some u=>
     cases u<;>try rfl
     rename_i e;simp only;cases P.info? e with
     |none=>rfl
     |some i=>
      cases yl P e with
      |none=>rfl
      |some z=>
       simp only;generalize (Nat.beq z.cells.length i.size && !Nat.beq i.size 0)=q;cases q with
       |false=>rfl
       |true=>
        cases P.underlying t2 with
        |none=>rfl
        |some u2=>
         generalize (yM P e&&Nat.beq i.size 1)=q6;generalize Nat.beq i.size 1=q5;rcases zP (t:=t) s with⟨h1,h2⟩|⟨a,b,h1,h2,h3⟩<;>rcases zP (t:=t) x with⟨h1x,h2x⟩|⟨oax,obx,h1x,h2x,h3x⟩<;>cases u2<;>cases q5<;>cases q6<;>first|rfl|simp[yi,y9,xN,jx,jy, *]
   |unsafeSliceData=>
    simp only[zwS,cOp];rcases args.toList with _|⟨x,_|⟨y,l⟩⟩<;>try rfl
    rcases zP (t:=t) x with⟨h1,h2⟩|⟨a,b,h1,h2,h3⟩<;>simp[yi,y9,vz, *]
   |unsafeString=>
    simp only[zwS,cOp];rcases tys.toList with _|⟨t1,_|⟨t2,_|⟨t3,l⟩⟩⟩<;>try rfl
    rcases args.toList with _|⟨x,_|⟨y,_|⟨z,l⟩⟩⟩<;>try rfl
    simp only;cases P.underlying t1 with
    |none=>rfl
    |some u=>
     cases u<;>try rfl
     rename_i e;simp only;generalize (yM P e&&Nat.beq (P.cellsOf e) 1)=q;cases q with
     |false=>rfl
     |true=>rcases zP (t:=t) x with⟨h1,h2⟩|⟨a,b,h1,h2,h3⟩<;>rcases zP (t:=t) y with⟨h1x,h2x⟩|⟨oax,obx,h1x,h2x,h3x⟩<;>simp[yi,y9,zfP, *]
   |cap=>
    simp only[zwS,cOp];cases tys[0]? with
    |none=>rfl
    |some ty=>
     cases args[0]? with
     |none=>rfl
     |some x=>
      simp only;cases P.underlying ty with
      |none=>rfl
      |some u=>cases u<;>first|rfl|(rcases zP (t:=t) x with⟨h1,h2⟩|⟨a,b,h1,h2,h3⟩<;>simp[yi,y9,zmh, *])
   |copy=>
    simp only[zwS,cOp];rcases tys.toList with _|⟨t1,_|⟨t2,_|⟨t3,l⟩⟩⟩<;>try rfl
    rcases args.toList with _|⟨x,_|⟨y,_|⟨z,l⟩⟩⟩<;>try rfl
    simp only;cases P.underlying t1 with
    |none=>rfl
    |some u=>
     cases P.underlying t2 with
     |none=>cases u<;>rfl
     |some u2=>
      cases u<;>try rfl
      all_goals (cases u2<;>try rfl)
      rename_i e e2;simp only;cases P.info? e with
      |none=>rfl
      |some i=>
       simp only;generalize Nat.beq i.size 0=q;cases q with
       |true=>rfl
       |false=>rcases zP (t:=t) x with⟨h1,h2⟩|⟨a,b,h1,h2,h3⟩<;>rcases zP (t:=t) y with⟨h1x,h2x⟩|⟨oax,obx,h1x,h2x,h3x⟩<;>simp[yi,y9,zfQ, *]
   |clear=>
    simp only[zwS,cOp];cases tys[0]? with
    |none=>rfl
    |some ty=>
     cases args[0]? with
     |none=>rfl
     |some x=>
      simp only;cases P.underlying ty with
      |none=>rfl
      |some u=>
       cases u<;>try rfl
       rename_i e;simp only;cases P.info? e with
       |none=>rfl
       |some i=>
        cases yl P e with
        |none=>rfl
        |some z=>
         simp only;generalize (Nat.beq z.cells.length i.size && !Nat.beq i.size 0)=q;cases q with
         |false=>rfl
         |true=>rcases zP (t:=t) x with⟨h1,h2⟩|⟨a,b,h1,h2,h3⟩<;>simp[yi,y9,zas, *]
   |max=>
    simp only[zwS,cOp];rcases zcA (t:=t) args.toList with⟨h1,h2⟩|⟨xs,ys,h1,h2,h3⟩
    ·simp only[h1,h2];rfl
    ·simp only[h1,h2];cases xs<;>cases ys<;>first|rfl|exact h3.elim|simp only[yi,xe,h3.1,zeA _ _ _ _ _ h3.2]
   |min=>
    simp only[zwS,cOp];rcases zcA (t:=t) args.toList with⟨h1,h2⟩|⟨xs,ys,h1,h2,h3⟩
    ·simp only[h1,h2];rfl
    ·simp only[h1,h2];cases xs<;>cases ys<;>first|rfl|exact h3.elim|simp only[yi,xe,h3.1,zeA _ _ _ _ _ h3.2]
   |_=>rfl
 |_=>
  rfl
end
end Go.CE
end
section
namespace Go.CE
noncomputable section
def zw0(r:Fr)(v:Zb):Option Nat→Fr
 |none=>r
 |some d=>fun i=>bif Nat.beq i d then v else r i
def bindR{β:Type}(x:Res)(k:Zb→Za→Option β):Option β:=
 match x with
 |some (v,h)=>k v h
 |none=>none
def zfi(v:Zb)(b:Bool):Bool:=
 match v with
 | .s (.one (.bool c))=>c==b
 |_=>false
section
variable (P:Program)
def yu(nt:Nat)(ops:Array Oper)(o:Oper)(call:zg)(r:Fr)(h:Za):Res:=
 bif inT nt o.dst then
  match o.guard with
  |none=>zwS P (coK r) o.op call .nil h
  |some (j,b)=>
   match (ops[j]?).bind (·.dst) with
   |some d=>bif Nat.ble (Nat.succ d) nt then(bif zfi (r d) b then zwS P (coK r) o.op call .nil h else some (yh,h)) else none
   |none=>none
 else none
def zzx(nt:Nat)(o:Oper)(r:Fr):Option Zb:=
 match o.guard with
 |some _=>none
 |none=>
  bif inT nt o.dst then
   match o.op with
   | .move x=>(coK r x).map fun c=>c .nil
   | .assign x=>(coK r x).map fun c=>c .nil
   |_=>none
  else none
def zxS{β:Type}(nt:Nat)(ops:Array Oper)(call:zg):List Oper→Fr→Za→(Fr→Za→Option β)→Option β
 | [],r,h,k=>k r h
 |o::os,r,h,k=>
  match zzx nt o r with
  |some v=>zxS nt ops call os (zw0 r v o.dst) h k
  |none=>bindR (yu P nt ops o call r h) fun v h'=>zxS nt ops call os (zw0 r v o.dst) h' k
def zxR(i:Nat):List Nat→Bool
 | []=>false
 |j::l=>bif Nat.beq i j then true else zxR i l
def zR(r:Fr)(l:List Nat):Fr:=fun i=>bif zxR i l then r i else yh
def zkl(run:Za→Res)(v:Zb):List Za→Bool
 | []=>true
 |h::hs=>
  (match run h with
  |some (v',_)=>eqA v v'
  |none=>false)&&zkl run v hs
def zyu(hs:List Za):List ((Za→Res)×Zb×Nat×Nat)→Bool
 | []=>true
 |(run,v,lo,hi)::l=>(Nat.beq lo hi||zkl run v ((hs.drop lo).take (Nat.sub (Nat.succ hi) lo)))&&zyu hs l
def kDr{β:Type}(nt:Nat)(ops:Array Oper)(call:zg)(bs:List Nat)(es:List Bool):Nat→List Oper→Fr→Za→List Za→List ((Za→Res)×Zb×Nat×Nat)→(Fr→Za→Option β)→Option β
 |_,[],r,h,hs,cs,k=>bif zyu (hs++[h]) cs then k r h else none
 |i,o::os,r,h,hs,cs,k=>
  match zzx nt o (zR r (o.looksAt ops)) with
  |some v=>kDr nt ops call bs es (Nat.succ i) os (zw0 r v o.dst) h hs (cs++[(yu P nt ops o call (zR r (o.looksAt ops)),v,ce (fun j=>bef bs j i) 0 es,ce (fun j=>!bef bs i j) 0 es)]) k
  |none=>bindR (yu P nt ops o call (zR r (o.looksAt ops)) h) fun v h'=>
  bif yF P o.op then kDr nt ops call bs es (Nat.succ i) os (zw0 r v o.dst) h hs (cs++[(yu P nt ops o call (zR r (o.looksAt ops)),v,ce (fun j=>bef bs j i) 0 es,ce (fun j=>!bef bs i j) 0 es)]) k
  else kDr nt ops call bs es (Nat.succ i) os (zw0 r v o.dst) h' (hs++[h]) cs k
abbrev CkG:=(Za→Res)×Zb×Nat×Nat×List Nat
def zdb(run:Za→Res)(v:Zb)(n0:Nat)(hide:List Nat)(mks:List (Nat×Nat×Ze)):Nat→List Za→Bool
 |_,[]=>true
 |k,h::hs=>
  match run ⟨h.n,zxa n0 hide (qc n0 k mks h.t)⟩ with
  |some (v',_)=>eqA v v'&&zdb run v n0 hide mks (Nat.succ k) hs
  |none=>false
def zh2(n0:Nat)(mks:List (Nat×Nat×Ze))(hs:List Za):List CkG→Bool
 | []=>true
 |(run,v,lo,hi,hide)::l=>(Nat.beq lo hi||zdb run v n0 hide mks lo ((hs.drop lo).take (Nat.sub (Nat.succ hi) lo)))&&zh2 n0 mks hs l
def mk1(n0 c j:Nat)(t:Tr Ze):List (Nat×Nat×Ze):=
 match t.get (bn (Nat.add n0 j)) with
 |some o=>[(c,j,o)]
 |none=>[]
def zxp{β:Type}(nt:Nat)(ops:Array Oper)(call:zg)(bs:List Nat)(es:List Bool)(n0:Nat):Nat→List Oper→Fr→Za→Nat→List Za→List CkG→List (Nat×Nat×Ze)→(Fr→Za→Option β)→Option β
 |_,[],r,h,_,hs,cs,mks,k=>bif zh2 n0 mks hs cs then k r h else none
 |i,o::os,r,h,c,hs,cs,mks,k=>
  bif zw2 o.op then
   bindR (yu P nt ops o call (zR r (o.looksAt ops)) ⟨bn (Nat.add n0 i),h.t⟩) fun v h'=>zxp nt ops call bs es n0 (Nat.succ i) os (zw0 r v o.dst) ⟨h.n,h'.t⟩ c hs cs (mks++mk1 n0 c i h'.t) k
  else
   bindR (yu P nt ops o call (zR r (o.looksAt ops)) ⟨h.n,zxa n0 (yG bs i 0 ops.toList) h.t⟩) fun v h'=>
    bif anchor P o.op then
     match zff n0 h.t (yG bs i 0 ops.toList) h'.t with
     |some t=>zxp nt ops call bs es n0 (Nat.succ i) os (zw0 r v o.dst) ⟨h'.n,t⟩ (Nat.succ c) (hs++[⟨h'.n,t⟩]) cs mks k
     |none=>none
    else zxp nt ops call bs es n0 (Nat.succ i) os (zw0 r v o.dst) h c hs (cs++[(yu P nt ops o call (zR r (o.looksAt ops)),v,ce (fun j=>bef bs j i) 0 es,ce (fun j=>!bef bs i j) 0 es,yG bs i 0 ops.toList)]) mks k
def zbj(c:List Zb→Za→Option (Zh×List Zb×Za)):Nat→List Zb→Za→Option (Zh×List Zb×Za)
 |0,_,_=>none
 |n+1,r,h=>
  match c r h with
  |some (.normal,r',h')=>zbj c n r' h'
  |x=>x
def bindX{β:Type}(x:Option (Zh×List Zb×Za))(kx:Nat→List Zb→Za→Option β)(kr:List Zb→Za→Option β):Option β:=
 match x with
 |some (.exit id,r,h)=>kx id r h
 |some (.ret,r,h)=>kr r h
 |_=>none
def ifK{β:Type}(v:Zb)(a b:Option β):Option β:=
 match v with
 | .s (.one (.bool q))=>bif q then a else b
 |_=>none
def zra{β:Type}(a:Fr→Za→Option β)(k:Zh→Fr→Za→Option β):Zh→Fr→Za→Option β
 | .normal,r,h=>a r h
 | .exit id,r,h=>k (.exit id) r h
 | .ret,r,h=>k .ret r h
def zy0{β:Type}(id:Nat)(k:Zh→Fr→Za→Option β):Zh→Fr→Za→Option β
 | .exit id',r,h=>bif Nat.beq id' id then k .normal r h else k (.exit id') r h
 | .normal,r,h=>k .normal r h
 | .ret,r,h=>k .ret r h
def writes:Code→List Nat
 | .region _ ops _=>ops.toList.filterMap (·.dst)
 | .seq a b=>writes a++writes b
 | .cond _ a b=>writes a++writes b
 | .block _ c=>writes c
 | .loop c=>writes c
 |_=>[]
def zzw:List Zb→Nat→Zb
 | [],_=>yh
 |v::l,n=>bif Nat.beq n 0 then v else zzw l (Nat.sub n 1)
def zxQ:List Nat→Nat→Fr→List Zb→Fr
 | [],_,r,_=>r
 |w::W,k,r,ys=>fun i=>bif Nat.beq i w then zzw ys k else zxQ W (Nat.succ k) r ys i
def y6(nt:Nat)(call:zg)(f:Nat):Code→{β:Type}→Fr→Za→(Zh→Fr→Za→Option β)→Option β
 | .skip,_,r,h,k=>k .normal r h
 | .region _ ops draw,_,r,h,k=>
  bif draw then(bif P.follows .mixedOrders&&zac P ops (zwR ops.toList) then kDr P nt ops call (zwR ops.toList) (zw4 P ops.toList) 0 ops.toList r h [] [] (fun r h=>k .normal r h)
   else bif P.follows .mixedOrders&&uS P ops (zwR ops.toList) then zxp P nt ops call (zwR ops.toList) (zw3 P ops.toList) h.n.toNat 0 ops.toList r ⟨bn (Nat.add h.n.toNat ops.toList.length),h.t⟩ 0 [⟨bn (Nat.add h.n.toNat ops.toList.length),h.t⟩] [] [] (fun r h=>k .normal r h) else none)
  else zxS P nt ops call ops.toList r h (fun r h=>k .normal r h)
 | .seq a b,_,r,h,k=>y6 nt call f a r h (zra (fun r h=>y6 nt call f b r h k) k)
 | .cond c a b,_,r,h,k=>
  match coK r c with
  |some c=>ifK (c .nil) (y6 nt call f a r h k) (y6 nt call f b r h k)
  |none=>none
 | .block id c,_,r,h,k=>y6 nt call f c r h (zy0 id k)
 | .loop c,_,r,h,k=>bindX (zbj (fun ys h=>y6 nt call f c (zxQ (writes c) 0 r ys) h (fun e s h=>some (e,(writes c).map s,h))) f ((writes c).map r) h)
   (fun id ys h=>k (.exit id) (zxQ (writes c) 0 r ys) h) (fun ys h=>k .ret (zxQ (writes c) 0 r ys) h)
 | .exit id,_,r,h,k=>k (.exit id) r h
 | .ret,_,r,h,k=>k .ret r h
 |_,_,_,_,_=>none
def zzo(v:Zb):Option SVal:=
 match v with
 | .s v=>some v
 |_=>none
def zzp(n:Option Nat)(v:Zb)(h:Za):Option SVal:=
 match v with
 | .s (.one (.ptr b off))=>uH n off (h.t.get b)
 |_=>none
def znI(v:Option SVal)(l:Option (List SVal)):Option (List SVal):=
 match v with
 |some v=>wo v l
 |none=>none
def zcU(r:Fr)(h:Za):ResultVar→Option SVal
 | .tmp i=>zzo (r i)
 | .cell i t=>
  match xY P t with
  |some n=>zzp n (r i) h
  |none=>none
def kC(r:Fr)(h:Za):List ResultVar→Option (List SVal)
 | []=>some []
 |x::rs=>znI (zcU P r h x) (kC r h rs)
def zx7(rs:List ResultVar):Zh→Fr→Za→Res
 | .exit _,_,_=>none
 | .normal,r,h=>zcu h (kC P r h rs)
 | .ret,r,h=>zcu h (kC P r h rs)
def zyj(g:Nat)(call:zg)(f:Nat)(args:List Zb)(h:Za):Res:=
 match P.funcs[g]? with
 |some fn=>
  match fn.body with
  |some c=>bif (zxu P fn.results.toList).isNone||fn.name == "runtime.NumGoroutine" then none else bif zyi args fn.ntmps then y6 P fn.ntmps call f c (zwU (wt .z .nil args)) h (zx7 P fn.results.toList) else none
  |none=>none
 |none=>none
end
end
section
variable {P:Program} {nt:Nat}
theorem beq_iff(a b:Nat):Nat.beq a b=true↔a=b:=⟨Lz1,fun h=>by subst h;exact Yzu a⟩
theorem wQ(t:Tr Zb)(v:Zb)(d:Option Nat):zwU (zxg t v (d.map bn))=zw0 (zwU t) v d:=by
 cases d with
 |none=>rfl
 |some d=>
  funext i
  simp only[zwU,zxg,zw0,zxO,Yzv];cases hq:Nat.beq i d with
  |true=>rw[(beq_iff i d).1 hq,zz];rfl
  |false=>
   have:bn i≠bn d:=fun e=>by rw[(beq_iff i d).2 (u4 e)]at hq;cases hq
   rw[zp _ _ _ _ this];rfl
theorem zq2(t:Tr Zb)(g:Nat)(b:Bool):want t (some (bn g,b))=zfi (zwU t g) b:=by
 simp only[want,zwU,zxO];cases t.get (bn g) with
 |none=>rfl
 |some v=>cases v with
  |tup _=>rfl
  |s v=>cases v with
   |agg _=>rfl
   |one c=>cases c<;>rfl
theorem kg(ops:Array Oper)(o:Oper)(call:zg)(t:Tr Zb)(h:Za)(v:Zb)(h':Za)(e:yu P nt ops o call (zwU t) h=some (v,h')):
  xC call (yU P nt ops o) t h=some (v,h')∧(yU P nt ops o).dst=o.dst.map bn:=by
 unfold yu at e;unfold yU;cases hin:inT nt o.dst with
 |false=>rw[hin]at e;cases e
 |true=>
  rw[hin]at e;simp only[Yza]at e ⊢;cases hg:o.guard with
  |none=>
   rw[hg]at e;simp only[znV]at e;exact⟨e,rfl⟩
  |some p=>
   obtain⟨j,b⟩:=p;rw[hg]at e;simp only at e ⊢;cases hd:(ops[j]?).bind (·.dst) with
   |none=>rw[hd]at e;cases e
   |some d=>
    rw[hd]at e;simp only at e ⊢;cases hb:Nat.ble (Nat.succ d) nt with
    |false=>rw[hb]at e;cases e
    |true=>
     rw[hb]at e;simp only[Yza,znV]at e ⊢;refine⟨?_,trivial⟩;unfold xC;simp only;rw[zq2];exact e
theorem znw(call:zg)(o:Zo)(t:Tr Zb)(h:Za):za9 call o t h=zzI t o.dst (xC call o t h):=by
 obtain⟨d,op,g⟩:=o;simp only[za9,xC];cases want t g<;>rfl
theorem wk{r:Fr}{v:Zb}{d:Option Nat}{i:Nat}(h:d≠some i):zw0 r v d i=r i:=by
 cases d with
 |none=>rfl
 |some d=>
  simp only[zw0];cases hq:Nat.beq i d with
  |true=>exact absurd (by rw[(beq_iff i d).1 hq]) h
  |false=>rfl
theorem zhq{ops:Array Oper}{o:Oper}{call:zg}{r:Fr}{v:Zb}(e:zzx nt o r=some v)(h:Za):yu P nt ops o call r h=some (v,h)∧yF P o.op=true:=by
 unfold zzx at e;unfold yu;cases hg:o.guard with
 |some p=>rw[hg]at e;cases e
 |none=>
  rw[hg]at e;simp only at e ⊢;cases hi:inT nt o.dst with
  |false=>rw[hi]at e;cases e
  |true=>
   rw[hi]at e;simp only[Yza]at e ⊢;split at e
   ·rename_i x hx;rw[hx];simp only[zwS,yF];cases hc:coK r x with
    |none=>rw[hc]at e;cases e
    |some c=>rw[hc]at e;cases e;exact⟨rfl,trivial⟩
   ·rename_i x hx;rw[hx];simp only[zwS,yF];cases hc:coK r x with
    |none=>rw[hc]at e;cases e
    |some c=>rw[hc]at e;cases e;exact⟨rfl,trivial⟩
   ·cases e
theorem zcj{β:Type}(ops:Array Oper)(call:zg)(o:Oper)(os:List Oper)(r:Fr)(h:Za)(k:Fr→Za→Option β):
  zxS P nt ops call (o::os) r h k=bindR (yu P nt ops o call r h) fun v h'=>zxS P nt ops call os (zw0 r v o.dst) h' k:=by
 rw[zxS];split
 ·rename_i v hv;rw[(zhq hv h).1];rfl
 ·rfl
theorem zjd{β:Type}(ops:Array Oper)(call:zg)(bs:List Nat)(es:List Bool)(i:Nat)(o:Oper)(os:List Oper)(r:Fr)(h:Za)(hs:List Za)(cs:List ((Za→Res)×Zb×Nat×Nat))(k:Fr→Za→Option β):
  kDr P nt ops call bs es i (o::os) r h hs cs k=bindR (yu P nt ops o call (zR r (o.looksAt ops)) h) fun v h'=>
   bif yF P o.op then kDr P nt ops call bs es (Nat.succ i) os (zw0 r v o.dst) h hs (cs++[(yu P nt ops o call (zR r (o.looksAt ops)),v,ce (fun j=>bef bs j i) 0 es,ce (fun j=>!bef bs i j) 0 es)]) k
   else kDr P nt ops call bs es (Nat.succ i) os (zw0 r v o.dst) h' (hs++[h]) cs k:=by
 rw[kDr];split
 ·rename_i v hv;rw[(zhq hv h).1];simp only[bindR];rw[(zhq (P:=P) (ops:=ops) (call:=call) hv h).2];rfl
 ·rfl
theorem znc{β:Type}(ops:Array Oper)(call:zg):∀(os:List Oper) (t:Tr Zb) (h:Za) (k:Fr→Za→Option β) (x:β),zxS P nt ops call os (zwU t) h k=some x→
  ∃t' h',zk0 call (os.map (yU P nt ops)) t h=some (t',h')∧k (zwU t') h'=some x∧∀i,i∉os.filterMap (·.dst)→zwU t' i=zwU t i
 | [],t,h,k,x,e=>⟨t,h,rfl,e,fun _ _=>rfl⟩
 |o::os,t,h,k,x,e=>by
  rw[zcj]at e;simp only[bindR]at e;split at e
  ·rename_i v h' hq;obtain⟨e1,e2⟩:=kg ops o call t h v h' hq;rw[←wQ]at e;obtain⟨t',h'',e3,e4,e5⟩:=znc ops call os _ _ _ _ e;refine⟨t',h'',?_,e4,fun i hi=>?_⟩
   ·rw[Yzp,zdO,znw,e1,e2];exact e3
   ·simp only[Yz9]at hi;rw[e5 i,wQ,wk]
    ·intro hd;rw[hd]at hi;simp at hi
    ·intro hm;apply hi;cases o.dst<;>simp[hm]
  ·cases e
theorem qL(i:Nat):∀l:List Nat,zxR i l=true↔i∈l
 | []=>by simp[zxR]
 |j::l=>by
  simp only[zxR,YzO];cases hq:Nat.beq i j with
  |true=>simp[(beq_iff i j).1 hq]
  |false=>
   have:i≠j:=fun e=>by rw[(beq_iff i j).2 e]at hq;cases hq
   simp[this,qL i l]
theorem kj(t:Tr Zb)(l:List Nat):zwU (uG t (l.map bn))=zR (zwU t) l:=by
 funext i
 simp only[zwU,zR,zxO];rw[vu];have hm:bn i∈l.map bn↔i∈l:=⟨fun h=>by obtain⟨j,h1,h2⟩:=List.mem_map.1 h;exact u4 h2▸h1,fun h=>List.mem_map_of_mem h⟩;cases hq:zxR i l with
 |true=>rw[Yzd (hm.2 ((qL i l).1 hq))];rfl
 |false=>rw[Yzb (fun hh=>by rw[(qL i l).2 (hm.1 hh)]at hq;cases hq)];rfl
theorem ziy{call:zg}{ops:Array Oper}{o:Oper}{t:Tr Zb}{v:Zb}:∀hs:List Za,zkl (yu P nt ops o call (zwU t)) v hs=true→sameAt call (yU P nt ops o) t v hs=true
 | [],_=>rfl
 |h::hs,e=>by
  simp only[zkl]at e;obtain⟨e1,e2⟩:=zwY e;unfold sameAt;split at e1
  ·rename_i v' h' hq;obtain⟨k1,_⟩:=kg ops o call t h v' h' hq;rw[k1];simp only;rw[e1,ziy hs e2];rfl
  ·cases e1
def CkR(P:Program)(nt:Nat)(ops:Array Oper)(call:zg):List ((Za→Res)×Zb×Nat×Nat)→List (Zk×Tr Zb×Zb)→Prop
 | [],l=>∀x∈l,x.1.eff=true
 |(run,v,lo,hi)::cs,l=>∃pre d tr rest,l=pre++(d,tr,v)::rest∧(∀x∈pre,x.1.eff=true)∧d.lo=lo∧d.hi=hi∧(∃o,d.rop=yU P nt ops o∧run=yu P nt ops o call (zwU tr))∧CkR P nt ops call cs rest
theorem zk5(call:zg)(hs:List Za)(l l':List (Zk×Tr Zb×Zb)):vW call hs (l++l')=(vW call hs l&&vW call hs l'):=by
 induction l with
 |nil=>rfl
 |cons x l ih=>obtain⟨d,tr,v⟩:=x;simp only[List.cons_append,vW,ih,Bool.and_assoc]
theorem zaL(call:zg)(hs:List Za):∀l:List (Zk×Tr Zb×Zb),(∀x∈l,x.1.eff=true)→vW call hs l=true
 | [],_=>rfl
 |(d,tr,v)::l,h=>by
  simp only[vW];rw[h _ (Yzi ..),zaL call hs l fun x hx=>h x (Yzf _ hx)];rfl
theorem zjI{call:zg}{ops:Array Oper}{hs:List Za}:∀(cs:List ((Za→Res)×Zb×Nat×Nat)) (l:List (Zk×Tr Zb×Zb)),CkR P nt ops call cs l→zyu hs cs=true→vW call hs l=true
 | [],l,h,_=>zaL call hs l h
 |(run,v,lo,hi)::cs,l,⟨pre,d,tr,rest,h1,h2,h3,h4,⟨o,h5,h6⟩,h7⟩,e=>by
  subst h1 h3 h4 h6;simp only[zyu]at e;obtain⟨e1,e2⟩:=zwY e;rw[zk5,zaL call hs pre h2];simp only[vW,Yye];rw[zjI cs rest h7 e2,YyH];rcases YzL _ _ |>.mp e1 with k|k
  ·rw[k];simp
  ·rw[h5,ziy _ k];simp
theorem zon{call:zg}{ops:Array Oper}{x:Zk×Tr Zb×Zb}(hx:x.1.eff=true):∀(cs:List ((Za→Res)×Zb×Nat×Nat)) (l:List (Zk×Tr Zb×Zb)),CkR P nt ops call cs l→CkR P nt ops call cs (l++[x])
 | [],l,h=>fun y hy=>by
  rcases Yys.1 hy with k|k
  ·exact h y k
  ·rw[YzB.1 k];exact hx
 |(run,v,lo,hi)::cs,l,⟨pre,d,tr,rest,h1,h2,h3,h4,h5,h6⟩=>⟨pre,d,tr,rest++[x],by rw[h1];simp,h2,h3,h4,h5,zon hx cs rest h6⟩
theorem zgX{call:zg}{ops:Array Oper}{d:Zk}{tr:Tr Zb}{v:Zb}{o:Oper}(hd:d.rop=yU P nt ops o):∀(cs:List ((Za→Res)×Zb×Nat×Nat)) (l:List (Zk×Tr Zb×Zb)),CkR P nt ops call cs l→
  CkR P nt ops call (cs++[(yu P nt ops o call (zwU tr),v,d.lo,d.hi)]) (l++[(d,tr,v)])
 | [],l,h=>⟨l,d,tr,[],rfl,h,rfl,rfl,⟨o,hd,rfl⟩,fun y hy=>by cases hy⟩
 |(run,v',lo,hi)::cs,l,⟨pre,d',tr',rest,h1,h2,h3,h4,h5,h6⟩=>⟨pre,d',tr',rest++[(d,tr,v)],by rw[h1];simp,h2,h3,h4,h5,zgX hd cs rest h6⟩
theorem znd{β:Type}(ops:Array Oper)(call:zg)(bs:List Nat)(es:List Bool)(k:Fr→Za→Option β)(x:β):
  ∀(os:List Oper) (i:Nat) (t:Tr Zb) (h:Za) (hs:List Za) (cs:List ((Za→Res)×Zb×Nat×Nat)) (l0:List (Zk×Tr Zb×Zb)),CkR P nt ops call cs l0→
   kDr P nt ops call bs es i os (zwU t) h hs cs k=some x→
   ∃l t' hs',evD call (ui P nt ops bs es i os) t h=some (l,t',hs')∧vW call (hs++hs') (l0++l)=true∧hs'≠[]∧k (zwU t') (zcX h hs')=some x∧∀i,i∉os.filterMap (·.dst)→zwU t' i=zwU t i
 | [],i,t,h,hs,cs,l0,hc,e=>by
  simp only[kDr]at e;cases hq:zyu (hs++[h]) cs with
  |false=>rw[hq]at e;cases e
  |true=>
   rw[hq]at e;exact⟨[],t,[h],rfl,by rw[YzD];exact zjI cs l0 hc hq,by simp,e,fun _ _=>rfl⟩
 |o::os,i,t,h,hs,cs,l0,hc,e=>by
  rw[zjd]at e;simp only[bindR]at e;split at e
  ·rename_i v h' hq;rw[←kj]at hq e;obtain⟨e1,e2⟩:=kg ops o call _ h v h' hq;rw[←wQ]at e;simp only[ui,evD];rw[e1];simp only;cases hqo:yF P o.op with
   |true=>
    rw[hqo]at e;simp only[Yza,YzG,Yzc]at e ⊢;obtain⟨l,t',hs',k1,k2,k3,k4,k5⟩:=znd ops call bs es k x os _ _ _ _ _ (l0++[(⟨yU P nt ops o,(o.looksAt ops).map bn,false,ce (fun j=>bef bs j i) 0 es,ce (fun j=>!bef bs i j) 0 es⟩,uG t ((o.looksAt ops).map bn),v)])
     (zgX (d:=⟨yU P nt ops o,(o.looksAt ops).map bn,false,ce (fun j=>bef bs j i) 0 es,ce (fun j=>!bef bs i j) 0 es⟩) rfl cs l0 hc) e
    rw[e2,k1];refine⟨_,_,_,rfl,?_,?_,?_,fun i hi=>?_⟩
    ·rw[Yzs]at k2;exact k2
    ·exact k3
    ·exact k4
    ·simp only[Yz9]at hi;rw[k5 i,wQ,wk]
     ·intro hd;rw[hd]at hi;simp at hi
     ·intro hm;apply hi;cases o.dst<;>simp[hm]
   |false=>
    rw[hqo]at e;simp only[Yzc,Bool.not_false,Yza]at e ⊢;obtain⟨l,t',hs',k1,k2,k3,k4,k5⟩:=znd ops call bs es k x os _ _ _ _ _ (l0++[(⟨yU P nt ops o,(o.looksAt ops).map bn,true,ce (fun j=>bef bs j i) 0 es,ce (fun j=>!bef bs i j) 0 es⟩,uG t ((o.looksAt ops).map bn),v)])
     (zon rfl cs l0 hc) e
    rw[e2,k1];refine⟨_,_,_,rfl,?_,?_,?_,fun i hi=>?_⟩
    ·rw[Yzs,Yzs]at k2;exact k2
    ·simp
    ·simp only[Yza,zcX];cases hs' with
     |nil=>exact absurd rfl k3
     |cons a b=>exact k4
    ·simp only[Yz9]at hi;rw[k5 i,wQ,wk]
     ·intro hd;rw[hd]at hi;simp at hi
     ·intro hm;apply hi;cases o.dst<;>simp[hm]
  ·cases e
section
variable {ops:Array Oper} {call:zg} {n0:Nat}
theorem zfC{o:Oper}{t:Tr Zb}{v:Zb}{d:Zp}(hd:d.rop=yU P nt ops o){mks:List (Nat×Nat×Ze)}:∀(hs:List Za) (k:Nat),zdb (yu P nt ops o call (zwU t)) v n0 d.hide mks k hs=true→zkm call n0 d t v mks k hs=true
 | [],_,_=>rfl
 |h::hs,k,e=>by
  simp only[zdb]at e;simp only[zkm];split at e
  ·rename_i v' h' hq;obtain⟨k1,_⟩:=kg ops o call t _ v' h' hq;obtain⟨e1,e2⟩:=zwY e;rw[hd,k1];simp only;rw[e1,zfC hd hs _ e2];rfl
  ·cases e
def zyF(P:Program)(nt:Nat)(ops:Array Oper)(call:zg):List CkG→List GE→Prop
 | [],l=>∀g∈l,(g.d.eff||g.d.mkb)=true
 |(run,v,lo,hi,hide)::cs,l=>∃pre g rest,l=pre++g::rest∧(∀x∈pre,(x.d.eff||x.d.mkb)=true)∧g.v=v∧g.d.lo=lo∧g.d.hi=hi∧g.d.hide=hide∧(∃o,g.d.rop=yU P nt ops o∧run=yu P nt ops o call (zwU g.tr))∧zyF P nt ops call cs rest
theorem zk4{mks:List (Nat×Nat×Ze)}{hs:List Za}(l l':List GE):vV call n0 mks hs (l++l')=(vV call n0 mks hs l&&vV call n0 mks hs l'):=by
 induction l with
 |nil=>rfl
 |cons x l ih=>simp only[List.cons_append,vV,ih,Bool.and_assoc]
theorem zaK{mks:List (Nat×Nat×Ze)}{hs:List Za}:∀l:List GE,(∀x∈l,(x.d.eff||x.d.mkb)=true)→vV call n0 mks hs l=true
 | [],_=>rfl
 |g::l,h=>by
  simp only[vV];rw[h _ (Yzi ..),zaK l fun x hx=>h x (Yzf _ hx)];simp
theorem znN{mks:List (Nat×Nat×Ze)}{hs:List Za}:∀(cs:List CkG) (l:List GE),zyF P nt ops call cs l→zh2 n0 mks hs cs=true→vV call n0 mks hs l=true
 | [],l,h,_=>zaK l h
 |(run,v,lo,hi,hide)::cs,l,⟨pre,g,rest,h1,h2,h3,h4,h5,h6,⟨o,h7,h8⟩,h9⟩,e=>by
  subst h1 h3 h4 h5 h6 h8;simp only[zh2]at e;obtain⟨e1,e2⟩:=zwY e;rw[zk4,zaK pre h2];simp only[vV,Yye];rw[znN cs rest h9 e2,YyH];rcases YzL _ _ |>.mp e1 with k|k
  ·rw[k];simp
  ·rw[zfC h7 _ _ k];simp
theorem zfh{x:GE}(hx:(x.d.eff||x.d.mkb)=true):∀(cs:List CkG) (l:List GE),zyF P nt ops call cs l→zyF P nt ops call cs (l++[x])
 | [],l,h=>fun y hy=>by
  rcases Yys.1 hy with k|k
  ·exact h y k
  ·rw[YzB.1 k];exact hx
 |(run,v,lo,hi,hide)::cs,l,⟨pre,g,rest,h1,h2,h3,h4,h5,h6,h7,h8⟩=>⟨pre,g,rest++[x],by rw[h1];simp,h2,h3,h4,h5,h6,h7,zfh hx cs rest h8⟩
theorem zdY{g:GE}{o:Oper}(hd:g.d.rop=yU P nt ops o):∀(cs:List CkG) (l:List GE),zyF P nt ops call cs l→
  zyF P nt ops call (cs++[(yu P nt ops o call (zwU g.tr),g.v,g.d.lo,g.d.hi,g.d.hide)]) (l++[g])
 | [],l,h=>⟨l,g,[],rfl,h,rfl,rfl,rfl,rfl,⟨o,hd,rfl⟩,fun y hy=>by cases hy⟩
 |(run,v',lo,hi,hide)::cs,l,⟨pre,g',rest,h1,h2,h3,h4,h5,h6,h7,h8⟩=>⟨pre,g',rest++[g],by rw[h1];simp,h2,h3,h4,h5,h6,h7,zdY hd cs rest h8⟩
theorem zeH{β:Type}(bs:List Nat)(es:List Bool)(k:Fr→Za→Option β)(x:β):
  ∀(os:List Oper) (i:Nat) (t:Tr Zb) (h:Za) (c:Nat) (hs:List Za) (cs:List CkG) (mks:List (Nat×Nat×Ze)) (l0:List GE),zyF P nt ops call cs l0→
   zxp P nt ops call bs es n0 i os (zwU t) h c hs cs mks k=some x→
   ∃l t' h',evG call n0 i (xf P nt ops bs es i os) t h=some (l,t',h')∧vV call n0 (mks++zxC n0 c i l) (hs++hsG l) (l0++l)=true∧k (zwU t') h'=some x∧∀i,i∉os.filterMap (·.dst)→zwU t' i=zwU t i
 | [],i,t,h,c,hs,cs,mks,l0,hc,e=>by
  simp only[zxp]at e;cases hq:zh2 n0 mks hs cs with
  |false=>rw[hq]at e;cases e
  |true=>
   rw[hq]at e;exact⟨[],t,h,rfl,by simp only[zxC,hsG,YzD];exact znN cs l0 hc hq,e,fun _ _=>rfl⟩
 |o::os,i,t,h,c,hs,cs,mks,l0,hc,e=>by
  have agree:∀(t2 t':Tr Zb) (v:Zb),(yU P nt ops o).dst=o.dst.map bn→t2=zxg t v (yU P nt ops o).dst→(∀i,i∉os.filterMap (·.dst)→zwU t' i=zwU t2 i)→∀i,i∉(o::os).filterMap (·.dst)→zwU t' i=zwU t i:=by
   intro t2 t' v hd h2 H i hi;subst h2;simp only[Yz9]at hi;rw[H i (fun hm=>hi (by cases o.dst<;>simp[hm])),hd,wQ];exact wk (fun hd=>hi (by rw[hd];simp))
  simp only[zxp]at e;simp only[xf,evG,stepG];cases hm:zw2 o.op with
  |true=>
   rw[hm]at e;have ha:anchor P o.op=false:=by unfold anchor;rw[hm];simp
   simp only[Yza,bindR]at e ⊢;split at e
   ·rename_i v h' hq;rw[←kj]at hq;obtain⟨e1,e2⟩:=kg ops o call _ _ v h' hq;rw[←wQ,←e2]at e;rw[e1];simp only
    let g:GE:=⟨⟨yU P nt ops o,(o.looksAt ops).map bn,anchor P o.op,true,ce (fun j=>bef bs j i) 0 es,ce (fun j=>!bef bs i j) 0 es,yG bs i 0 ops.toList⟩,uG t ((o.looksAt ops).map bn),v,h,⟨h.n,h'.t⟩⟩
    obtain⟨l,t',h2,k1,k2,k3,k4⟩:=zeH bs es k x os _ _ _ _ _ _ _ (l0++[g]) (zfh (x:=g) (by show (_||true)=true;simp) cs l0 hc) e;rw[k1];refine⟨_,_,_,rfl,?_,k3,agree _ _ v e2 rfl k4⟩;simp only[zxC,hsG,ha,Yza,Yzc];rw[Yzs]at k2;simp only[List.singleton_append,Yzs]at k2;simp only[mk1]at k2
    revert k2
    cases hx:h'.t.get (bn (Nat.add n0 i)) with
    |none=>intro k2;simpa[hx,g,ha] using k2
    |some ob=>intro k2;simpa[hx,g,ha] using k2
   ·cases e
  |false=>
   rw[hm]at e;simp only[Yzc,bindR]at e ⊢;split at e
   ·rename_i v h' hq;rw[←kj]at hq;obtain⟨e1,e2⟩:=kg ops o call _ _ v h' hq;rw[←wQ,←e2]at e;rw[e1];simp only;cases ha:anchor P o.op with
    |true=>
     rw[ha]at e;simp only[Yza]at e ⊢;split at e
     ·rename_i t1 ht;rw[ht];simp only
      let g:GE:=⟨⟨yU P nt ops o,(o.looksAt ops).map bn,true,false,ce (fun j=>bef bs j i) 0 es,ce (fun j=>!bef bs i j) 0 es,yG bs i 0 ops.toList⟩,uG t ((o.looksAt ops).map bn),v,h,⟨h'.n,t1⟩⟩
      obtain⟨l,t',h2,k1,k2,k3,k4⟩:=zeH bs es k x os _ _ _ _ _ _ _ (l0++[g]) (zfh (x:=g) rfl cs l0 hc) e;rw[k1];refine⟨_,_,_,rfl,?_,k3,agree _ _ v e2 rfl k4⟩
      simpa[zxC,hsG,g] using k2
     ·cases e
    |false=>
     rw[ha,←kj]at e;simp only[Yzc]at e ⊢
     let g:GE:=⟨⟨yU P nt ops o,(o.looksAt ops).map bn,false,false,ce (fun j=>bef bs j i) 0 es,ce (fun j=>!bef bs i j) 0 es,yG bs i 0 ops.toList⟩,uG t ((o.looksAt ops).map bn),v,h,h⟩
     obtain⟨l,t',h2,k1,k2,k3,k4⟩:=zeH bs es k x os _ _ _ _ _ _ _ (l0++[g]) (zdY (g:=g) rfl cs l0 hc) e;rw[k1];refine⟨_,_,_,rfl,?_,k3,agree _ _ v e2 rfl k4⟩
     simpa[zxC,hsG,g] using k2
   ·cases e
theorem zbc(bs:List Nat)(es:List Bool):∀(os:List Oper) (i:Nat),(xf P nt ops bs es i os).length=os.length
 | [],_=>rfl
 |o::os,i=>by simp only[xf,Yzk,zbc bs es os]
end
theorem zmy:∀(l:List Zb) (n:Nat),zzw l n=(l[n]?).getD yh
 | [],_=>rfl
 |v::l,n=>by
  cases n with
  |zero=>rfl
  |succ n=>simp only[zzw,Yzl];exact zmy l n
theorem zi7{r s:Fr}(V:List Nat):∀(W:List Nat) (k:Nat),(∀n w,W[n]? = some w→V[k+n]? = some w)→∀i,(i∉W→s i=r i)→zxQ W k r (V.map s) i=s i
 | [],k,_,i,h=>(h (by simp)).symm
 |w::W,k,hW,i,h=>by
  simp only[zxQ];cases hq:Nat.beq i w with
  |true=>
   have:=hW 0 w rfl;simp only[Yza,zmy,Lz6];rw[Yzw]at this;rw[this,(beq_iff i w).1 hq];rfl
  |false=>
   simp only[Yzc];refine zi7 V W (k+1) (fun n w' hn=>?_) i (fun hi=>h ?_)
   ·have:=hW (n+1) w' hn
    rwa [show k+1+n=k+(n+1) by omega]
   ·intro hm;rcases YzO.1 hm with rfl|hm
    ·rw[(beq_iff i i).2 rfl]at hq;cases hq
    ·exact hi hm
theorem zce{W:List Nat}{r s:Fr}(h:∀i,i∉W→s i=r i):zxQ W 0 r (W.map s)=s:=
 funext fun i=>zi7 W W 0 (fun n w hn=>by rwa [Yze]) i (h i)
theorem zeC{call:zg}{f fn:Nat}{c:Code}{r0:Fr} (H:∀(β:Type) (t:Tr Zb) (d:List BN) (h:Za) (k:Zh→Fr→Za→Option β) (x:β),y6 P nt call f c (zwU t) h k=some x→
   ∃e t' h',zX P nt c call f fn none ⟨t,d,h⟩=some (e,⟨t',d,h'⟩)∧k e (zwU t') h'=some x∧∀i,i∉writes c→zwU t' i=zwU t i):
  ∀(n:Nat) (t:Tr Zb) (d:List BN) (h:Za) (e:Zh) (ys:List Zb) (h':Za),(∀i,i∉writes c→zwU t i=r0 i)→
   zbj (fun ys h=>y6 P nt call f c (zxQ (writes c) 0 r0 ys) h (fun e s h=>some (e,(writes c).map s,h))) n ((writes c).map (zwU t)) h=some (e,ys,h')→
   ∃t',zf2 (zX P nt c call f fn none) n ⟨t,d,h⟩=some (e,⟨t',d,h'⟩)∧ys=(writes c).map (zwU t')∧∀i,i∉writes c→zwU t' i=r0 i
 |0,_,_,_,_,_,_,_,e=>by cases e
 |n+1,t,d,h,e,ys,h',ht,hh=>by
  simp only[zbj]at hh;rw[zce ht]at hh;have hN:zf2 (zX P nt c call f fn none) (n+1) ⟨t,d,h⟩=(match zX P nt c call f fn none ⟨t,d,h⟩ with
   |some (.normal,s')=>zf2 (zX P nt c call f fn none) n s'
   |r=>r):=rfl
  rw[hN];split at hh
  ·rename_i r1 h1 hq;obtain⟨e1,t1,h2,k1,k2,k3⟩:=H _ t d h _ _ hq;cases k2;rw[k1];exact zeC H n t1 d h1 e ys h' (fun i hi=>(k3 i hi).trans (ht i hi)) hh
  ·rename_i x hx;obtain⟨e1,t1,h2,k1,k2,k3⟩:=H _ t d h _ _ hh;cases k2;rw[k1];cases e with
   |normal=>exact absurd hh (hx _ _)
   |exit id=>exact⟨t1,rfl,rfl,fun i hi=>(k3 i hi).trans (ht i hi)⟩
   |ret=>exact⟨t1,rfl,rfl,fun i hi=>(k3 i hi).trans (ht i hi)⟩
theorem zpE{call:zg}{f fn:Nat}(c:Code):∀(β:Type) (t:Tr Zb) (d:List BN) (h:Za) (k:Zh→Fr→Za→Option β) (x:β),y6 P nt call f c (zwU t) h k=some x→
  ∃e t' h',zX P nt c call f fn none ⟨t,d,h⟩=some (e,⟨t',d,h'⟩)∧k e (zwU t') h'=some x∧∀i,i∉writes c→zwU t' i=zwU t i:=by
 induction c with
 |skip=>exact fun β t d h k x e=>⟨.normal,t,h,rfl,e,fun _ _=>rfl⟩
 |region id ops draw=>
  intro β t d h k x e;simp only[y6]at e;simp only[zX];cases draw with
  |false=>
   simp only[Yzc]at e ⊢;obtain⟨t',h',k1,k2,k3⟩:=znc ops call ops.toList t h _ x e;exact⟨.normal,t',h',by simp only[zzq,k1];rfl,k2,k3⟩
  |true=>
   simp only[Yza]at e ⊢;cases hq:P.follows .mixedOrders&&zac P ops (zwR ops.toList) with
   |false=>
    rw[hq]at e;simp only[Yzc]at e ⊢;cases hq2:P.follows .mixedOrders&&uS P ops (zwR ops.toList) with
    |false=>rw[hq2]at e;cases e
    |true=>
     rw[hq2]at e;simp only[Yza]at e ⊢;obtain⟨l,t',h',k1,k2,k3,k4⟩:=zeH (call:=call) (n0:=h.n.toNat) _ _ _ x ops.toList 0 t _ 0 _ [] [] [] (fun y hy=>by cases hy) e;refine⟨.normal,t',h',?_,k3,k4⟩;simp only[zjB,vM,zbc];rw[k1];simp only;rw[YzI,YzI]at k2;rw[show ((⟨bn (Nat.add h.n.toNat ops.toList.length),h.t⟩:Za)::hsG l)=[⟨bn (Nat.add h.n.toNat ops.toList.length),h.t⟩]++hsG l from rfl,k2];rfl
   |true=>
    rw[hq]at e;simp only[Yza]at e ⊢;obtain⟨l,t',hs',k1,k2,k3,k4,k5⟩:=znd ops call _ _ _ x ops.toList 0 t h [] [] [] (fun y hy=>by cases hy) e;refine⟨.normal,t',zcX h hs',?_,k4,k5⟩;simp only[zjC,zbe];rw[k1];simp only;rw[YzI,YzI]at k2;rw[k2];rfl
 |seq a b iha ihb=>
  intro β t d h k x e;simp only[y6]at e;obtain⟨e1,t1,h1,k1,k2,k3⟩:=iha β t d h _ x e;simp only[zX,zAi];rw[k1];have hw:∀i,i∉writes (a.seq b)→i∉writes a∧i∉writes b:=fun i hi=>by simpa[writes] using hi
  cases e1 with
  |normal=>
   obtain⟨e2,t2,h2,j1,j2,j3⟩:=ihb β t1 d h1 k x k2;exact⟨e2,t2,h2,j1,j2,fun i hi=>(j3 i (hw i hi).2).trans (k3 i (hw i hi).1)⟩
  |exit id=>exact⟨_,t1,h1,rfl,k2,fun i hi=>k3 i (hw i hi).1⟩
  |ret=>exact⟨_,t1,h1,rfl,k2,fun i hi=>k3 i (hw i hi).1⟩
 |cond c a b iha ihb=>
  intro β t d h k x e;simp only[y6]at e;simp only[zX];have hw:∀i,i∉writes (Code.cond c a b)→i∉writes a∧i∉writes b:=fun i hi=>by simpa[writes] using hi
  rcases zP (t:=t) c with⟨h1,h2⟩|⟨p,q,h1,h2,h3⟩
  ·rw[h1]at e;cases e
  ·rw[h1]at e;rw[h2];simp only[ifK,zsS]at e ⊢;rw[h3]at e;split at e
   ·rename_i qq hqq;rw[hqq];cases qq with
    |true=>
     obtain⟨e2,t2,h2,j1,j2,j3⟩:=iha β t d h k x e;exact⟨e2,t2,h2,j1,j2,fun i hi=>j3 i (hw i hi).1⟩
    |false=>
     obtain⟨e2,t2,h2,j1,j2,j3⟩:=ihb β t d h k x e;exact⟨e2,t2,h2,j1,j2,fun i hi=>j3 i (hw i hi).2⟩
   ·cases e
 |block id c ih=>
  intro β t d h k x e;simp only[y6]at e;obtain⟨e1,t1,h1,k1,k2,k3⟩:=ih β t d h _ x e;simp only[zX,zqQ];rw[k1];cases e1 with
  |normal=>exact⟨_,t1,h1,rfl,k2,k3⟩
  |ret=>exact⟨_,t1,h1,rfl,k2,k3⟩
  |exit id'=>
   simp only[zzt,zy0]at k2 ⊢;cases hq:Nat.beq id' id with
   |true=>rw[hq]at k2;exact⟨_,t1,h1,rfl,k2,k3⟩
   |false=>rw[hq]at k2;exact⟨_,t1,h1,rfl,k2,k3⟩
 |loop c ih=>
  intro β t d h k x e;simp only[y6,bindX]at e;simp only[zX,zua];split at e
  ·rename_i id ys h1 hq;obtain⟨t',k1,k2,k3⟩:=zeC ih f t d h _ ys h1 (fun _ _=>rfl) hq;rw[k2,zce k3]at e;exact⟨_,t',h1,k1,e,k3⟩
  ·rename_i ys h1 hq;obtain⟨t',k1,k2,k3⟩:=zeC ih f t d h _ ys h1 (fun _ _=>rfl) hq;rw[k2,zce k3]at e;exact⟨_,t',h1,k1,e,k3⟩
  ·cases e
 |exit id=>exact fun β t d h k x e=>⟨.exit id,t,h,rfl,e,fun _ _=>rfl⟩
 |ret=>exact fun β t d h k x e=>⟨.ret,t,h,rfl,e,fun _ _=>rfl⟩
 |_=>intro β t d h k x e;simp only[y6]at e;cases e
theorem zee(t:Tr Zb)(h:Za):∀(l:List ResultVar) (rs:List (BN×Option (Option Nat))),zxu P l=some rs→kC P (zwU t) h l=jM t h rs
 | [],rs,e=>by cases e;rfl
 | .tmp i::l,rs,e=>by
  simp only[zxu]at e;split at e
  ·rename_i rs' hq;cases e;simp only[kC,jM];rw[zee t h l rs' hq];simp only[zcU,zdN,zzo,zwU,zxO];cases t.get (bn i) with
   |none=>rfl
   |some v=>cases v<;>rfl
  ·cases e
 | .cell i ty::l,rs,e=>by
  simp only[zxu]at e;split at e
  ·rename_i n rs' hn hq;cases e;simp only[kC,jM];rw[zee t h l rs' hq];simp only[zcU,zdN,zzp,zwU,zxO,hn];cases t.get (bn i) with
   |none=>rfl
   |some v=>
    cases v with
    |tup _=>rfl
    |s v=>cases v with
     |agg _=>rfl
     |one c=>cases c<;>rfl
  ·cases e
theorem zuU(P:Program)(g:Nat):cFs (xm P) g=(P.funcs[g]?).bind (zh5 P):=by
 unfold cFs xm;have:=vh (P.funcs.toList.map (zh5 P)) 0 .nil g;rw[show bn 0=BN.z from rfl]at this;rw[this];simp only[YyE,if_false,Nat.sub_zero,Lz6,LzA];have hn:(Tr.nil:Tr (Option Zl)).get (bn g)=none:=by cases bn g<;>rfl
 cases P.funcs[g]? with
 |none=>simp[hn]
 |some fn=>simp
theorem zsu{g:Nat}{call:zg}{f:Nat}{args:List Zb}{h:Za}{x:Zb×Za}(e:zyj P g call f args h=some x):znx (cFs (xm P)) call f g args h=some x:=by
 unfold zyj at e;unfold znx;rw[zuU];cases hf:P.funcs[g]? with
 |none=>rw[hf]at e;cases e
 |some fn=>
  rw[hf]at e;simp only[Yz0]at e ⊢;unfold zh5;cases hb:fn.body with
  |none=>rw[hb]at e;cases e
  |some c=>
   rw[hb]at e;simp only at e ⊢;cases hr:zxu P fn.results.toList with
   |none=>rw[hr]at e;cases e
   |some rs=>
    rw[hr]at e;simp only[Option.isNone_some,Yym]at e ⊢;cases hn:fn.name == "runtime.NumGoroutine" with
    |true=>rw[hn]at e;cases e
    |false=>
     rw[hn]at e;simp only[Yzc]at e ⊢;cases hl:zyi args fn.ntmps with
     |false=>rw[hl]at e;cases e
     |true=>
      rw[hl]at e;simp only[Yza]at e ⊢;obtain⟨e1,t1,h1,k1,k2,_⟩:=zpE (fn:=g) c _ _ [] h _ _ e;rw[k1];cases e1 with
      |exit id=>cases k2
      |normal=>simp only[zx7,zee _ _ _ _ hr]at k2;exact k2
      |ret=>simp only[zx7,zee _ _ _ _ hr]at k2;exact k2
end
end Go.CE
end
section
namespace Go.CE
noncomputable section
def yv:zg:=fun _ _ _=>none
def cP(l:List (Nat×Nat×Zb)):List (Nat×Nat×Opd):=l.map fun p=>(p.1,p.2.1,zu p.2.2)
def cL(l:List Zb):List Opd:=l.map zu
def cO:Option Zb→Option Opd
 |none=>none
 |some v=>some (zu v)
def zot(c a b:Zb)(h:Za):Res:=jp (zu c) (zu a) (zu b) yv .nil h
def ztf(zs:List Zc)(h:Za):Res:=zb7 zs yv .nil h
def zA5(x:Zb)(h:Za):Res:=zcV (zu x) yv .nil h
def zlm(zs:List Zc)(l:List (Nat×Nat×Zb))(h:Za):Res:=vI zs (cP l) yv .nil h
def zq5(st len:Nat)(zs:List Zc)(l:List (Nat×Nat×Zb))(h:Za):Res:=wI st len zs (cP l) yv .nil h
def zow(n:Option Nat)(x:Zb)(h:Za):Res:=js n (zu x) yv .nil h
def ztd(n:Nat)(x v:Zb)(h:Za):Res:=zar n (zu x) (zu v) yv .nil h
def zim(x:Zb)(h:Za):Res:=vC (zu x) yv .nil h
def zzj(g:IntKind→Int→Int→Option Zc)(x y:Zb)(h:Za):Res:=zbi g (zu x) (zu y) yv .nil h
def zil(g:IntKind→Int→Int→Option Zc)(x y:Zb)(h:Za):Res:=wA g (zu x) (zu y) yv .nil h
def zzf(op:BinOp)(x y:Zb)(h:Za):Res:=zb1 op (zu x) (zu y) yv .nil h
def vEq(ks:Nat⊕List Nat)(neg:Bool)(x y:Zb)(h:Za):Res:=zxK ks neg (zu x) (zu y) yv .nil h
def zlk(neg:Bool)(x y:Zb)(h:Za):Res:=um neg (zu x) (zu y) yv .nil h
def zzg(x:Zb)(h:Za):Res:=zb2 (zu x) yv .nil h
def zzh(x:Zb)(h:Za):Res:=zb3 (zu x) yv .nil h
def zoz(k:IntKind)(x:Zb)(h:Za):Res:=jw k (zu x) yv .nil h
def zov(f:Nat)(caps:List Zb)(h:Za):Res:=jr f (cL caps) yv .nil h
def zte(h:Za):Res:=zb5 yv .nil h
def zou(st:Nat)(zs:List Zc)(bytes:Nat)(l c:Zb)(h:Za):Res:=xU st zs bytes (zu l) (zu c) yv .nil h
def uV(st:Nat)(x:Zb)(lo hi mx:Option Zb)(h:Za):Res:=vA st (zu x) (cO lo) (cO hi) (cO mx) yv .nil h
def zd3(x:Zb)(lo hi:Option Zb)(h:Za):Res:=xM (zu x) (cO lo) (cO hi) yv .nil h
def zoy(x:Zb)(off:Nat)(h:Za):Res:=jv (zu x) off yv .nil h
def zir(x:Zb)(off:Nat)(n:Option Nat)(h:Za):Res:=vH (zu x) off n yv .nil h
def zzi(st:Nat)(x i:Zb)(h:Za):Res:=zb6 st (zu x) (zu i) yv .nil h
def zio(len st:Nat)(x i:Zb)(h:Za):Res:=vF len st (zu x) (zu i) yv .nil h
def ziq(len st:Nat)(n:Option Nat)(x i:Zb)(h:Za):Res:=vG len st n (zu x) (zu i) yv .nil h
def zin(x i:Zb)(h:Za):Res:=vE (zu x) (zu i) yv .nil h
def zq4(q:Nat⊕List Nat)(z:SVal)(ok:Bool)(m k:Zb)(h:Za):Res:=wH q z ok (zu m) (zu k) yv .nil h
def zvr(q:Nat⊕List Nat)(m k v:Zb)(h:Za):Res:=zb4 q (zu m) (zu k) (zu v) yv .nil h
def zbn(x:Zb)(i:Nat)(h:Za):Res:=xE (zu x) i yv .nil h
def zox(x:Zb)(h:Za):Res:=jt (zu x) yv .nil h
def zll(x:Zb)(h:Za):Res:=ju (zu x) yv .nil h
def zvs(x:Zb)(h:Za):Res:=kK (zu x) yv .nil h
def zq6(str:Bool)(st bytes:Nat)(s x:Zb)(h:Za):Res:=xN str st bytes (zu s) (zu x) yv .nil h
def zd4(m:Bool)(x:Zb)(xs:List Zb)(h:Za):Res:=xe m (zu x) (cL xs) yv .nil h
def zqg(st:Nat)(zs:List Zc)(x:Zb)(h:Za):Res:=zas st zs (zu x) yv .nil h
def zvu(call:zg)(f:Zb)(args:List Zb)(h:Za):Res:=zdn (zu f) (cL args) call .nil h
end
end Go.CE
end
section
namespace Go.CE
def Ev{α:Type}(m:Nat→Option α)(Q:α→Prop):Prop:=∃a,Q a∧∃N,∀n,N≤n→m n=some a
theorem Ev.some{α:Type}{a:α}{Q:α→Prop}(h:Q a):Ev (fun _=>some a) Q:=⟨a,h,0,fun _ _=>rfl⟩
theorem Ev.mono{α:Type}{m:Nat→Option α}{Q Q':α→Prop}(h:Ev m Q)(hq:∀a,Q a→Q' a):Ev m Q':=by
 obtain⟨a,h1,h2⟩:=h;exact⟨a,hq a h1,h2⟩
theorem Ev.bindR{β:Type}{m:Nat→Res}{k:Nat→Zb→Za→Option β}{Q:β→Prop}(h:Ev m (fun p=>Ev (fun n=>k n p.1 p.2) Q)):Ev (fun n=>CE.bindR (m n) (k n)) Q:=by
 obtain⟨⟨v,h'⟩,⟨x,h1,N1,h2⟩,N2,h3⟩:=h;refine⟨x,h1,max N1 N2,fun n hn=>?_⟩;have e:=h3 n (by omega);simp only[e,CE.bindR];exact h2 n (by omega)
theorem Ev.bindX{β:Type}{m:Nat→Option (Zh×List Zb×Za)}{kx:Nat→Nat→List Zb→Za→Option β}{kr:Nat→List Zb→Za→Option β}{Q:β→Prop}
  (h : Ev m (fun p => match p.1 with
   | .exit id=>Ev (fun n=>kx n id p.2.1 p.2.2) Q
   | .ret=>Ev (fun n=>kr n p.2.1 p.2.2) Q
   | .normal=>False)):Ev (fun n=>CE.bindX (m n) (kx n) (kr n)) Q:=by
 obtain⟨⟨e,ys,h'⟩,h1,N2,h3⟩:=h;cases e with
 |normal=>exact h1.elim
 |exit id=>
  obtain⟨x,h1,N1,h2⟩:=h1;exact⟨x,h1,max N1 N2,fun n hn=>by have e:=h3 n (by omega);simp only[e,CE.bindX];exact h2 n (by omega)⟩
 |ret=>
  obtain⟨x,h1,N1,h2⟩:=h1;exact⟨x,h1,max N1 N2,fun n hn=>by have e:=h3 n (by omega);simp only[e,CE.bindX];exact h2 n (by omega)⟩
theorem Ev.loop{c:Nat→List Zb→Za→Option (Zh×List Zb×Za)}{Q:Zh×List Zb×Za→Prop}(I:Nat→List Zb→Za→Prop)
  (H : ∀ k ys h, I k ys h → Ev (fun n => c n ys h) (fun p => match p.1 with
   | .normal=>∃k',k'<k∧I k' p.2.1 p.2.2
   |e=>Q (e,p.2.1,p.2.2))):
  ∀k ys h,I k ys h→Ev (fun n=>zbj (c n) n ys h) Q:=by
 have key:∀K k ys h,k≤K→I k ys h→∃a,Q a∧∃N,∀n,N≤n→∀f,N≤f→zbj (c n) f ys h=Option.some a:=by
  intro K
  induction K with
  |zero=>
   intro k ys h hk hi;obtain⟨⟨e,ys',h'⟩,h1,N,h2⟩:=H k ys h hi;cases e with
   |normal=>obtain⟨k',hk',_⟩:=h1;omega
   |exit id=>
    refine⟨_,h1,N+1,fun n hn f hf=>?_⟩;cases f with
    |zero=>omega
    |succ f=>have e:=h2 n (by omega);simp only[zbj,e]
   |ret=>
    refine⟨_,h1,N+1,fun n hn f hf=>?_⟩;cases f with
    |zero=>omega
    |succ f=>have e:=h2 n (by omega);simp only[zbj,e]
  |succ K ih=>
   intro k ys h hk hi;obtain⟨⟨e,ys',h'⟩,h1,N,h2⟩:=H k ys h hi;cases e with
   |normal=>
    obtain⟨k',hk',hi'⟩:=h1;obtain⟨a,ha,N',h3⟩:=ih k' ys' h' (by omega) hi';refine⟨a,ha,max N N'+1,fun n hn f hf=>?_⟩;cases f with
    |zero=>omega
    |succ f=>have e:=h2 n (by omega);simp only[zbj,e];exact h3 n (by omega) f (by omega)
   |exit id=>
    refine⟨_,h1,N+1,fun n hn f hf=>?_⟩;cases f with
    |zero=>omega
    |succ f=>have e:=h2 n (by omega);simp only[zbj,e]
   |ret=>
    refine⟨_,h1,N+1,fun n hn f hf=>?_⟩;cases f with
    |zero=>omega
    |succ f=>have e:=h2 n (by omega);simp only[zbj,e]
 intro k ys h hi;obtain⟨a,ha,N,h1⟩:=key k k ys h (LzB _) hi;exact⟨a,ha,N,fun n hn=>h1 n hn n hn⟩
def HW(h:Za):Prop:=∀b o,h.t.get b=some o→b.toNat<h.n.toNat
structure Gr (h h':Za):Prop where
 le:h.n.toNat≤h'.n.toNat
 old:∀b:BN,b.toNat<h.n.toNat→h'.t.get b=h.t.get b
theorem Gr.refl(h:Za):Gr h h:=⟨LzB _,fun _ _=>rfl⟩
theorem Gr.get{h h':Za}(g:Gr h h')(w:HW h){b:BN}{o:Ze}(e:h.t.get b=some o):h'.t.get b=some o:=(g.old b (w b o e)).trans e
theorem zwB{a b:BN}(h:a.toNat≠b.toNat):a≠b:=fun e=>h (by rw[e])
theorem HW.new{h:Za}(w:HW h)(o:Ze):HW (h.new o):=fun b o' e=>by
 simp only[Za.new]at e ⊢;rw[BN.toNat_succ];by_cases hb:b=h.n
 ·rw[hb];omega
 ·rw[zp _ _ _ _ hb]at e;have:=w b o' e;omega
theorem Gr.new(h:Za)(o:Ze):Gr h (h.new o):=⟨by simp only[Za.new];rw[BN.toNat_succ];omega,fun b hb=>by
 simp only[Za.new];exact zp _ _ _ _ (zwB (by omega))⟩
theorem HW.put{h:Za}(w:HW h){b:BN}{o o':Ze}(e:h.t.get b=some o):HW (h.put b o'):=fun c x hx=>by
 simp only[Za.put]at hx ⊢;by_cases hb:c=b
 ·rw[hb];exact w b o e
 ·rw[zp _ _ _ _ hb]at hx;exact w c x hx
theorem uI(h:Za)(b:BN)(o:Ze):(h.put b o).t.get b=some o:=zz _ _ _
theorem xT(h:Za){b c:BN}(o:Ze)(hc:c≠b):(h.put b o).t.get c=h.t.get c:=zp _ _ _ _ hc
theorem zjx:∀v:Zb,eqA v v=true:=by
 have hbn:∀a:BN,zxL a a=true:=fun a=>by induction a with|z=>rfl|o n ih=>exact ih|d n ih=>exact ih
 have hn:∀a:Nat,Nat.beq a a=true:=Yzu;have hps:∀l:List (BN×Nat),zy9 l l=true:=fun l=>by
  induction l with
  |nil=>rfl
  |cons p l ih=>obtain⟨b,o⟩:=p;simp only[zy9,hbn,hn,ih];rfl
 have hu:∀l:List UInt8,eqU l l=true:=fun l=>by
  induction l with
  |nil=>rfl
  |cons a l ih=>simp only[eqU,hn,ih];rfl
 have hb:∀b:Bool,eqB b b=true:=fun b=>by cases b<;>rfl
 have hi:∀i:Int,eqI i i=true:=fun i=>by cases i<;>exact hn _
 have hk:∀k:IntKind,eqK k k=true:=fun k=>by cases k<;>rfl
 have hv:∀c:Zc,eqV c c=true:=fun c=>by cases c<;>simp only[eqV,hbn,hn,hps,hu,hb,hi,hk,YyA]
 have hvs:∀l:List Zc,zyM l l=true:=fun l=>by
  induction l with
  |nil=>rfl
  |cons a l ih=>simp only[zyM,hv,ih,YyA]
 have hsv:∀v:SVal,zy7 v v=true:=fun v=>by cases v<;>simp only[zy7,hv,hvs]
 have hss:∀l:List SVal,zy8 l l=true:=fun l=>by
  induction l with
  |nil=>rfl
  |cons a l ih=>simp only[zy8,hsv,ih,YyA]
 intro v;cases v<;>simp only[eqA,hsv,hss]
end Go.CE
end
section
namespace Go.CE
theorem Ev.call{P:Program}{sums:List Sum}{srt:Nat→Option Srt}{g:Nat}{args:List Zb}{h:Za}{Q:Zb×Za→Prop}(ht:srt g=none)(hs:wh g args h sums=none)
  (H:Ev (fun n=>zyj P g (z6 (zX P) (cFs (xm P)) sums srt n) n args h) Q):Ev (fun n=>z6 (zX P) (cFs (xm P)) sums srt n (.inl g) args h) Q:=by
 obtain⟨x,hx,N,hN⟩:=H;refine⟨x,hx,N+1,fun n hn=>?_⟩;cases n with
 |zero=>omega
 |succ n=>
  have e:=zsu (hN n (by omega));have:z6 (zX P) (cFs (xm P)) sums srt (n+1) (.inl g) args h=zdZ srt (zcT sums (zba (zX P) (cFs (xm P)) (z6 (zX P) (cFs (xm P)) sums srt n) n)) (.inl g) args h:=rfl;show z6 (zX P) (cFs (xm P)) sums srt (n+1) (.inl g) args h=_;rw[this];unfold zdZ zcT;simp only[ht,hs];exact e
theorem Ev.sum{P:Program}{fs:Nat→Option Zl}{sums:List Sum}{srt:Nat→Option Srt}{g:Nat}{args:List Zb}{h:Za}{v:Zb}(ht:srt g=none)(hs:wh g args h sums=Option.some v):
  Ev (fun n=>z6 (zX P) fs sums srt n (.inl g) args h) (fun p=>p=(v,h)):=by
 refine⟨_,rfl,1,fun n hn=>?_⟩;cases n with
 |zero=>omega
 |succ n=>
  have:z6 (zX P) fs sums srt (n+1) (.inl g) args h=zdZ srt (zcT sums (zba (zX P) fs (z6 (zX P) fs sums srt n) n)) (.inl g) args h:=rfl;show z6 (zX P) fs sums srt (n+1) (.inl g) args h=_;rw[this];unfold zdZ zcT;simp only[ht,hs]
theorem Ev.sort{P:Program}{fs:Nat→Option Zl}{sums:List Sum}{srt:Nat→Option Srt}{g:Nat}{t:Srt}{args:List Zb}{h h2:Za}{v:Zb}(ht:srt g=Option.some t)(hs:zaW t args h=Option.some (v,h2)):
  Ev (fun n=>z6 (zX P) fs sums srt n (.inl g) args h) (fun p=>p=(v,h2)):=by
 refine⟨_,rfl,1,fun n hn=>?_⟩;cases n with
 |zero=>omega
 |succ n=>
  have:z6 (zX P) fs sums srt (n+1) (.inl g) args h=zdZ srt (zcT sums (zba (zX P) fs (z6 (zX P) fs sums srt n) n)) (.inl g) args h:=rfl;show z6 (zX P) fs sums srt (n+1) (.inl g) args h=_;rw[this];unfold zdZ;simp only[ht,hs]
def rd(n off:Nat):Ze→Option (List Zc)
 | .cells cs _=>cut n cs off
 | .ro _ f=>zxf f n off
 | .void=>bif Nat.beq n 0 then some [] else none
 |_=>none
def Sl{α:Type}(st:Nat)(R:Za→List Zc→α→Prop)(h:Za)(c:Zc)(l:List α):Prop:=
 (c=.nils∧l=[])∨∃b off cap ex,c=.slc b off l.length cap ex∧∀i x,l[i]? = some x→∃o ds,h.t.get b=some o∧rd st (off+i*st) o=some ds∧R h ds x
theorem zsR{cs:List Zc}{i:Nat}{c:Zc}(h:cut 1 cs i=some [c]):ue cs i=some c:=by
 rw[xO];have:=(zaG h).2 0 c rfl
 simpa using this
theorem ztK{o:Ze}{off:Nat}{c:Zc}{h:Za}(e:rd 1 off o=some [c]):loadAt none h off (some o)=some (.s (.one c),h):=by
 cases o with
 |cells cs st=>show zw8 h (ue cs off)=_;rw[zsR e];rfl
 |ro x f=>
  show zw8 h (f off)=_;simp only[rd,zxf]at e;cases hf:f off with
  |none=>rw[hf]at e;cases e
  |some d=>rw[hf]at e;cases e;rfl
 |_=>cases e
end Go.CE
end
section
namespace Go.CE
theorem zc3:∀l:List Zc,takeN l.length l=some l
 | []=>rfl
 |c::l=>by simp only[Yzk,takeN,zc3 l,wo]
theorem ze4(l:List Zc):cut l.length l 0=some l:=by
 cases l with
 |nil=>rfl
 |cons c l=>simp only[cut];exact zc3 (c::l)
end Go.CE
end
section
namespace Go.CE
open Go.RowKit
section
variable (w:World)
def zAm:Value→List Addr
 | .slice (some a) 0 0=>[a]
 |_=>[]
def zBq:Obj→List Addr
 | .cells arr _ _=>arr.toList.flatMap zAm
 |_=>[]
def zxh(w:World):List Addr:=w.heap.toList.flatMap zBq
theorem zo9{w:World}{b:Nat}{arr:Array Value}{e:TypeId}{fr:Nat×Nat}{i:Nat}{a:Addr}(h:w.heap[b]? = some (.cells arr e fr))(hi:arr[i]? = some (.slice (some a) 0 0)):a∈zxh w:=by
 unfold zxh;refine List.mem_flatMap.2 ⟨.cells arr e fr,?_,List.mem_flatMap.2 ⟨.slice (some a) 0 0,?_,by simp[zAm]⟩⟩
 ·exact Lz3 (by rw[LzA];exact h)
 ·exact Lz3 (by rw[LzA];exact hi)
def zbk(w:World)(k:Nat):Bool:=match w.heap[k]? with|some (.cells _ _ _)=>true|_=>false
theorem zcx{w:World}{k:Nat}(h:zbk w k=true):∃arr e fr,w.heap[k]? = some (.cells arr e fr):=by
 unfold zbk at h;split at h
 ·rename_i arr e fr hx;exact⟨arr,e,fr,hx⟩
 ·cases h
theorem zjD{w:World}{k:Nat}(h:zbk w k=true):k<w.heap.size:=by
 obtain⟨arr,e,fr,hx⟩:=zcx h;exact(Lz7.1 hx).1
def zyL(a:Addr):List Addr→Nat
 | []=>0
 |x::l=>if x=a then 0 else zyL a l+1
theorem zeO{a:Addr}:∀{l:List Addr},a∈l→l[zyL a l]? = some a
 | [],h=>by cases h
 |x::l,h=>by
  unfold zyL;by_cases hx:x=a
  ·rw[Yzd hx,hx];rfl
  ·rw[Yzb hx];rcases YzO.1 h with h|h
   ·exact absurd h.symm hx
   ·rw[Yzl];exact zeO h
noncomputable def zxY(w:World):Value→Option Zc
 | .bool b=>some (.bool b)
 | .int k n=>some (.int k n)
 | .string s=>some (.str s)
 | .pointer none=>some .nilp
 | .pointer (some a)=>bif decide (a.block<w.heap.size∧a.spot=none) then some (.ptr (bn a.block) a.off) else none
 | .slice none len cap=>bif decide (len=0∧cap=0) then some .nils else none
 | .slice (some a) len cap=>
  bif decide (zbk w a.block=true∧a.spot=none∧len≤cap) then some (.slc (bn a.block) a.off len cap true)
  else bif decide (len=0∧cap=0∧a∈zxh w) then some (.slc (bn (w.heap.size+zyL a (zxh w))) 0 0 0 true) else none
 | .map none=>some .nilm
 | .nilFunc=>some .nilf
 | .nilIface=>some .nili
 |_=>none
def φ0(w:World):Phi:=fun b=>
 if b.toNat<w.heap.size then⟨b.toNat,0,0,true,none⟩
 else match (zxh w)[b.toNat-w.heap.size]? with|some a=>⟨a.block,a.off,0,true,a.spot⟩|none=>⟨b.toNat,0,0,true,none⟩
theorem zaU{b:BN}(h:b.toNat<w.heap.size):φ0 w b=⟨b.toNat,0,0,true,none⟩:=Yzd h
theorem zqZ{i:Nat}{a:Addr}(h:(zxh w)[i]? = some a):φ0 w (bn (w.heap.size+i))=⟨a.block,a.off,0,true,a.spot⟩:=by
 unfold φ0;rw[Yzb (by rw[zK];omega),zK,show w.heap.size+i-w.heap.size=i by omega,h]
theorem zig(b:BN):(φ0 w b).ok=true:=by
 unfold φ0;split
 ·rfl
 ·split<;>rfl
noncomputable def zyy(w:World):Obj→Ze
 | .cells arr e fr=>.ro (some (.cells arr e fr)) (fun i=>(arr[i]?).bind (zxY w))
 |_=>.dead
noncomputable def zx9(w:World)(k:Nat):Ze:=match w.heap[k]? with|some x=>zyy w x|none=>.dead
noncomputable def yz(w:World):Za:=⟨bn (w.heap.size+(zxh w).length),Tr.ofList .z ((List.range w.heap.size).map (zx9 w)++(zxh w).map fun _=>.void) .nil⟩
theorem wD(b:BN):(yz w).t.get b=if b.toNat<w.heap.size then some (zx9 w b.toNat) else if b.toNat<w.heap.size+(zxh w).length then some .void else none:=by
 have e0:BN.z=bn 0:=rfl;show (Tr.ofList .z ((List.range w.heap.size).map (zx9 w)++(zxh w).map fun _=>.void) .nil).get b=_;have:=vh ((List.range w.heap.size).map (zx9 w)++(zxh w).map fun _=>Ze.void) 0 (.nil:Tr Ze) b.toNat;rw[zY,←e0]at this;rw[this];have hn:(Tr.nil:Tr Ze).get b=none:=by cases b<;>rfl
 rw[hn];by_cases hb:b.toNat<w.heap.size
 ·rw[Yzd hb,Lz2 (by simpa using hb)];simp[YyO hb,hb]
 ·rw[Yzb hb];by_cases hb2:b.toNat<w.heap.size+(zxh w).length
  ·rw[Yzd hb2,Lz8 (by simp;omega)];have:b.toNat-w.heap.size<(zxh w).length:=by omega
   simp[Lz5 this]
  ·rw[Yzb hb2];simp;omega
theorem qP:(yz w).n.toNat=w.heap.size+(zxh w).length:=zK _
theorem za6{b:BN}{arr:Array Value}{e:TypeId}{fr:Nat×Nat}(h:w.heap[b.toNat]? = some (.cells arr e fr)):(yz w).t.get b=some (zyy w (.cells arr e fr)):=by
 rw[wD,Yzd (Lz7.1 h).1];simp only[zx9,h]
theorem zkW{i:Nat}(h:i<(zxh w).length):(yz w).t.get (bn (w.heap.size+i))=some .void:=by
 rw[wD,zK,Yzb (by omega),Yzd (by omega)]
theorem zqU{v:Value}{c:Zc}(h:zxY w v=some c):zj (φ0 w) c=v∧wfC (φ0 w) (yz w).n.toNat c:=by
 rw[qP];unfold zxY at h;split at h
 ·cases h;exact⟨rfl,trivial⟩
 ·cases h;exact⟨rfl,trivial⟩
 ·cases h;exact⟨rfl,trivial⟩
 ·cases h;exact⟨rfl,trivial⟩
 ·rename_i a;by_cases hc:a.block<w.heap.size∧a.spot=none
  ·rw[decide_eq_true hc]at h;cases h;obtain⟨b,off,sp⟩:=a;obtain⟨h1,rfl⟩:=hc;have hp:=zaU w (b:=bn b) (by rw[zK];exact h1);refine⟨?_,by rw[zK];exact Lz9 h1 (Nat.le_add_right _ _),zig w _⟩;rw[zj,zjT (by rw[hp]),hp,zK,Yze]
  ·rw[decide_eq_false hc]at h;cases h
 ·rename_i len cap;by_cases hc:len=0∧cap=0
  ·rw[decide_eq_true hc]at h;cases h;obtain⟨rfl,rfl⟩:=hc;exact⟨rfl,trivial⟩
  ·rw[decide_eq_false hc]at h;cases h
 ·rename_i a len cap;by_cases hc:zbk w a.block=true∧a.spot=none∧len≤cap
  ·rw[decide_eq_true hc]at h;cases h;obtain⟨b,off,sp⟩:=a;obtain⟨h1,rfl,h3⟩:=hc;have h1:=zjD h1;have hp:=zaU w (b:=bn b) (by rw[zK];exact h1);refine⟨?_,⟨by rw[zK];exact Lz9 h1 (Nat.le_add_right _ _),zig w _⟩,fun hh=>(by cases hh),fun _=>h3⟩;rw[zj,zjT (by rw[hp]),hp,zK,Yze,Yza]
  ·rw[decide_eq_false hc,Yzc]at h;by_cases hc2:len=0∧cap=0∧a∈zxh w
   ·rw[decide_eq_true hc2]at h;cases h;obtain⟨rfl,rfl,hm⟩:=hc2;have hi:=zeO hm;have hlt:=(Lz0.1 hi).1;have hp:=zqZ w hi;refine⟨?_,⟨by rw[zK];omega,zig w _⟩,fun hh=>(by cases hh),fun _=>LzB _⟩;rw[zj,Yza];unfold adr;rw[hp];rfl
   ·rw[decide_eq_false hc2]at h;cases h
 ·cases h;exact⟨rfl,trivial⟩
 ·cases h;exact⟨rfl,trivial⟩
 ·cases h;exact⟨rfl,trivial⟩
 ·cases h
theorem zf7:HW (yz w):=fun b o hb=>by
 rw[wD]at hb;rw[qP];by_cases h:b.toNat<w.heap.size
 ·omega
 ·rw[Yzb h]at hb;by_cases h2:b.toNat<w.heap.size+(zxh w).length
  ·exact h2
  ·rw[Yzb h2]at hb;cases hb
def SW(w:World)(k:Nat):Prop:=∃arr e fr,w.heap[k]? = some (.cells arr e fr)
theorem zbO{k:Nat}(hl:live (zx9 w k)):∃arr e fr,w.heap[k]? = some (.cells arr e fr)∧zx9 w k=zyy w (.cells arr e fr):=by
 unfold zx9 at hl ⊢;split at hl
 ·rename_i x hx;cases x with
  |cells arr e fr=>exact⟨arr,e,fr,hx,by simp only⟩
  |_=>exact hl.elim
 ·exact hl.elim
theorem zkV(hG:GOk w):Zd w (SW w) (φ0 w) (yz w) w:=by
 refine⟨zf7 w,fun b o hb=>zig w b,fun b o hb=>?_,fun b b' o o' hb hb' hl hl' hh=>?_,fun b o hb hl=>?_,rfl,rfl,rfl,LzB _,LzB _,fun _ _ _=>rfl,hG,fun b o hb hl=>?_,fun b o hb hl=>?_⟩
 ·rw[wD]at hb;by_cases hlt:b.toNat<w.heap.size
  ·rw[Yzd hlt]at hb;cases hb;have hp:=zaU w hlt;by_cases hl:live (zx9 w b.toNat)
   ·obtain⟨arr,e,fr,hx,hr⟩:=zbO w hl;rw[hr];refine⟨fun y hy=>by cases hy;rw[hp];exact hx,arr,e,fr,by rw[hp];exact hx,fun i c hc=>?_⟩
    replace hc:(arr[i]?).bind (zxY w)=some c:=hc
    cases ha:arr[i]? with
    |none=>rw[ha]at hc;cases hc
    |some v=>
     rw[ha]at hc;obtain⟨k1,k2⟩:=zqU w hc;refine⟨?_,k2⟩;rw[hp,Yze,ha,k1]
   ·generalize zx9 w b.toNat=o at hl;cases o with
    |dead=>trivial
    |void=>trivial
    |_=>exact absurd trivial hl
  ·rw[Yzb hlt]at hb;by_cases h2:b.toNat<w.heap.size+(zxh w).length
   ·rw[Yzd h2]at hb;cases hb;trivial
   ·rw[Yzb h2]at hb;cases hb
 ·have k1:=lt_live hb hl;have k2:=lt_live hb' hl';rw[zaU w k1,zaU w k2]at hh;have h2:b.toNat=b'.toNat:=hh;rw[←zY b,h2,zY]
 ·have k1:=lt_live hb hl;rw[zaU w k1];rw[wD,Yzd k1]at hb;cases hb;obtain⟨arr,e,fr,h2,_⟩:=zbO w hl;exact .inl ⟨arr,e,fr,h2⟩
 ·rw[zaU w (lt_live hb hl)]
 ·have k1:=lt_live hb hl.live;rw[wD,Yzd k1]at hb;cases hb;obtain⟨arr,e,fr,_,h2⟩:=zbO w hl.live;rw[h2]at hl;exact hl.elim
where
 lt_live {b:BN} {o:Ze} (hb:(yz w).t.get b=some o) (hl:live o):b.toNat<w.heap.size:=by
  rw[wD]at hb;by_cases hlt:b.toNat<w.heap.size
  ·exact hlt
  ·rw[Yzb hlt]at hb;by_cases h2:b.toNat<w.heap.size+(zxh w).length
   ·rw[Yzd h2]at hb;cases hb;exact hl.elim
   ·rw[Yzb h2]at hb;cases hb
theorem zh3{P:Program}{call:zg}(C:yT P call)(hG:GOk w){f:Nat}{args:List Zb}{v:Zb}{h2:Za}(ha:∀x∈args,wfA (φ0 w) (yz w).n.toNat x)(e:call (.inl f) args (yz w)=some (v,h2))(hg:Gr (yz w) h2):
  CallsIn (FR none) 0 P f (args.map (zq (φ0 w))).toArray w (fun e w2=>∃φ,e=.returned (zq φ v)∧Below w.heap.size w w2):=by
 refine ((C w _ _ _ w args v h2 (zkV w hG) ha).1 f e).2.mono ?_
 rintro e9 w9 ⟨φ2,rfl,he,H2,_,_⟩
 refine⟨φ2,rfl,H2.os,H2.tape,H2.output,H2.size,fun k hk=>?_⟩;by_cases hc:SW w k
 ·obtain⟨arr,e,fr,hc⟩:=hc;have hb:(yz w).t.get (bn k)=some (zyy w (.cells arr e fr)):=za6 w (by rw[zK];exact hc);have hn:(bn k).toNat<(yz w).n.toNat:=by rw[qP,zK];omega
  have hb2:=(hg.old _ hn).trans hb;obtain⟨h1,_⟩:=H2.obj _ _ hb2;have h1:=h1 _ rfl;rw[he _ hn,zaU w (by rw[zK];exact hk)]at h1;have h1:w9.heap[(bn k).toNat]? = _:=h1;rw[zK]at h1;rw[h1,hc]
 ·exact H2.kept k hk hc
end
end Go.CE
end
section
namespace Go.CE
open Go Go.ChangeShapes Go.WideShapes Go.ChangeAt Go.RowKit
theorem zjK{w:World}{b off:Nat}{v:Value}(h:w.cell? ⟨b,off,none⟩=some v):∃arr e fr,w.heap[b]? = some (.cells arr e fr)∧arr[off]? = some v:=by
 unfold World.cell? at h;cases hx:w.heap[b]? with
 |none=>simp[hx]at h
 |some x=>
  cases x with
  |cells arr e fr=>refine⟨arr,e,fr,rfl,?_⟩;simpa[hx] using h
  |_=>simp[hx]at h
def zy4(k:IntKind)(n:Nat):DataW Unit:=.lit (.int k (n:Int))
theorem zf3{P:Program}{w:World}{nm:String}{g:Nat}{t e:TypeId}{n:Nat}{k:IntKind}{ns:List Nat}{cs:Array Value}{fuel:Nat}{q:List MemPlace}
  (hg:P.globalNamed nm=some g) (ht:P.underlying t=some (.array n e)) (he:P.underlying e=some (.int k)) (hc:P.cellsOf e=1) (hv:w.var? P nm=some cs)
  (h:DataW.trod (fun _=>()) P w 0 (fun _=>true) false fuel t cs.toList=some (.agg (ns.map (zy4 k)),q)) {off m:Nat} (hm:ns[off]? = some m):
  ∃arr ty fr,w.heap[g]? = some (.cells arr ty fr)∧arr[off]? = some (.int k (m:Int)):=by
 obtain⟨xs,m1,rfl,hx1,hlen,hn,hel⟩:=DataW.trod_array ht h;simp only[Prod.mk.injEq,DataW.agg.injEq]at hx1;have hxl:xs.length=ns.length:=by have:=congrArg List.length hx1.1;simpa using this.symm
 have hoff:off<ns.length:=(Lz0.1 hm).1;have h0:=hel off (by omega);obtain⟨x,hx⟩:∃x,xs[off]? = some x:=⟨_,Lz5 (by omega)⟩;rw[hx,hc,YyL]at h0;obtain⟨r,e1,e2,_⟩:=DataW.trod_int he h0;have e3:x.1=zy4 k m:=by
  have h1:(xs.map (·.1))[off]? = some x.1:=by rw[Lz6,hx];rfl
  rw[←hx1.1,Lz6,hm]at h1;exact(Option.some.inj h1).symm
 have hr:r=(m:Int):=by rw[e2]at e3;simpa[zy4] using e3
 subst hr;have h2:cs.toList[off]? = some (.int k (m:Int)):=by
  have:((cs.toList.drop off).take 1)[0]? = some (.int k (m:Int)):=by rw[e1];rfl
  rw[Yzo,Yzd (by decide),Yzr]at this;exact this
 refine zjK ?_;rw[World.var?_cell hg hv off,←LzA];exact h2
theorem ziZ:∀(l:List Nat) (i:Nat),zy3 l i=l[i]?
 | [],i=>by simp[zy3]
 |x::l,0=>rfl
 |x::l,i+1=>by show zy3 l i=_;rw[ziZ l i];simp
theorem zqG{w:World}{g:Nat}{k:IntKind}{ns:List Nat}(hg:qU g=some (k,ns))(H:∀(off m:Nat),ns[off]? = some m→∃arr ty fr,w.heap[g]? = some (.cells arr ty fr)∧arr[off]? = some (.int k (m:Int)))
  {off:Nat} {c:Zc} (h:zcY g off=some c):∃arr e fr,w.heap[g]? = some (.cells arr e fr)∧∀φ,arr[off]? = some (zj φ c):=by
 unfold zcY at h;rw[hg]at h;simp only[ziZ]at h;cases hm:ns[off]? with
 |none=>rw[hm]at h;cases h
 |some m=>
  rw[hm]at h;cases h;obtain⟨arr,ty,fr,h1,h2⟩:=H off m hm;exact⟨arr,ty,fr,h1,fun φ=>h2⟩
end Go.CE
end
section
namespace Go.PE
open Go Go.CE
inductive DV where
 |bool (b:Bool)
 |int (k:IntKind) (n:Int)
 |str (s:ByteArray)
 |nils
 |lst (st:Nat) (xs:List (List DV))
 |fp (xs:List DV) (off:Nat)
 |fn (f:Nat) (caps:List (List DV))
 |nilf
 |nilp
 |nilm
 |nili
 |u
inductive DS where
 |one (d:DV)
 |agg (ds:List DV)
inductive DA where
 |s (d:DS)
 |tup (l:List DS)
def DS.cells:DS→List DV
 | .one d=>[d]
 | .agg ds=>ds
inductive Rep (fz:BN→Prop) (h:Za):Zc→DV→Prop
 |bool (b:Bool):Rep fz h (.bool b) (.bool b)
 |int (k:IntKind) (n:Int):Rep fz h (.int k n) (.int k n)
 |str (s:ByteArray):Rep fz h (.str s) (.str s)
 |nils:Rep fz h .nils .nils
 |nilf:Rep fz h .nilf .nilf
 |nilp:Rep fz h .nilp .nilp
 |nilm:Rep fz h .nilm .nilm
 |nili:Rep fz h .nili .nili
 |u (c:Zc):Rep fz h c .u
 |lst {b:BN} {o:Ze} {off cap:Nat} {ex:Bool} {st:Nat} {xs:List (List DV)} (cs:List Zc) (hb:fz b) (hg:h.t.get b=some o) (hc:ex=true→xs.length≤cap)
   (ha:rd (xs.length*st) off o=some cs) (h1:∀(i:Nat) (x:List DV),xs[i]? = some x→x.length=st)
   (h2:∀(i:Nat) (x:List DV) (j:Nat) (c:Zc) (d:DV),xs[i]? = some x→cs[i*st+j]? = some c→x[j]? = some d→Rep fz h c d):Rep fz h (.slc b off xs.length cap ex) (.lst st xs)
 |fp {b:BN} {o:Ze} {base:Nat} {xs:List DV} {off:Nat} (cs:List Zc) (hb:fz b) (hg:h.t.get b=some o) (h1:rd xs.length base o=some cs)
   (h2:∀(j:Nat) (c:Zc) (d:DV),cs[j]? = some c→xs[j]? = some d→Rep fz h c d):Rep fz h (.ptr b (base+off)) (.fp xs off)
 |fn {f:Nat} {ps:List (BN×Nat)} {caps:List (List DV)} (css:Nat→List Zc) (os:Nat→Ze) (hl:ps.length=caps.length)
   (h1:∀(i:Nat) (p:BN×Nat) (x:List DV),ps[i]? = some p→caps[i]? = some x→fz p.1∧h.t.get p.1=some (os i)∧rd x.length p.2 (os i)=some (css i))
   (h2:∀(i:Nat) (p:BN×Nat) (x:List DV) (j:Nat) (c:Zc) (d:DV),ps[i]? = some p→caps[i]? = some x→(css i)[j]? = some c→x[j]? = some d→Rep fz h c d):Rep fz h (.fn f ps) (.fn f caps)
structure FG (fz:BN→Prop) (h:Za) (fz':BN→Prop) (h':Za):Prop where
 sub:∀b o,fz b→h.t.get b=some o→fz' b
 old:∀b o,fz b→h.t.get b=some o→h'.t.get b=some o
theorem FG.refl(fz:BN→Prop)(h:Za):FG fz h fz h:=⟨fun _ _ h _=>h,fun _ _ _ h=>h⟩
theorem FG.trans{f1 f2 f3:BN→Prop}{h1 h2 h3:Za}(a:FG f1 h1 f2 h2)(b:FG f2 h2 f3 h3):FG f1 h1 f3 h3:=⟨fun x o hx ho=>b.sub x o (a.sub x o hx ho) (a.old x o hx ho),fun x o hx ho=>b.old x o (a.sub x o hx ho) (a.old x o hx ho)⟩
theorem Rep.mono{fz fz':BN→Prop}{h h':Za}(g:FG fz h fz' h'){c:Zc}{d:DV}(H:Rep fz h c d):Rep fz' h' c d:=by
 induction H with
 |bool b=>exact .bool b
 |int k n=>exact .int k n
 |str s=>exact .str s
 |nils=>exact .nils
 |nilf=>exact .nilf
 |nilp=>exact .nilp
 |nilm=>exact .nilm
 |nili=>exact .nili
 |u c=>exact .u c
 |lst cs hb hg hc ha h1 h2 ih=>exact .lst cs (g.sub _ _ hb hg) (g.old _ _ hb hg) hc ha h1 ih
 |fp cs hb hg h1 h2 ih=>exact .fp cs (g.sub _ _ hb hg) (g.old _ _ hb hg) h1 ih
 |fn css os hl h1 h2 ih=>exact .fn css os hl (fun i p x hp hx=>by obtain⟨a,b,c⟩:=h1 i p x hp hx;exact⟨g.sub _ _ a b,g.old _ _ a b,c⟩) ih
def RepL(fz:BN→Prop)(h:Za)(cs:List Zc)(ds:List DV):Prop:=cs.length=ds.length∧∀(j:Nat) (c:Zc) (d:DV),cs[j]? = some c→ds[j]? = some d→Rep fz h c d
theorem RepL.mono{fz fz':BN→Prop}{h h':Za}(g:FG fz h fz' h'){cs:List Zc}{ds:List DV}(H:RepL fz h cs ds):RepL fz' h' cs ds:=⟨H.1,fun j c d a b=>(H.2 j c d a b).mono g⟩
theorem RepL.nil(fz:BN→Prop)(h:Za):RepL fz h [] []:=⟨rfl,fun j c d a=>by simp at a⟩
theorem RepL.cons{fz:BN→Prop}{h:Za}{c:Zc}{d:DV}{cs:List Zc}{ds:List DV}(a:Rep fz h c d)(b:RepL fz h cs ds):RepL fz h (c::cs) (d::ds):=by
 refine⟨by simp[b.1],fun j c' d' hc hd=>?_⟩;cases j with
 |zero=>simp only[Yzg,Option.some.injEq]at hc hd;subst hc;subst hd;exact a
 |succ j=>simp only[Yzl]at hc hd;exact b.2 j c' d' hc hd
theorem RepL.inv{fz:BN→Prop}{h:Za}{c:Zc}{d:DV}{cs:List Zc}{ds:List DV}(H:RepL fz h (c::cs) (d::ds)):Rep fz h c d∧RepL fz h cs ds:=
 ⟨H.2 0 c d rfl rfl,by have:=H.1;simp at this;exact this,fun j c' d' hc hd=>H.2 (j+1) c' d' (by simpa using hc) (by simpa using hd)⟩
theorem RepL.app{fz:BN→Prop}{h:Za}{cs cs':List Zc}{ds ds':List DV}(a:RepL fz h cs ds)(b:RepL fz h cs' ds'):RepL fz h (cs++cs') (ds++ds'):=by
 refine⟨by simp[a.1,b.1],fun j c d hc hd=>?_⟩;by_cases hj:j<cs.length
 ·rw[Lz2 hj]at hc;rw[Lz2 (by have:=a.1;omega)]at hd;exact a.2 j c d hc hd
 ·rw[Lz8 (by omega)]at hc;rw[Lz8 (by have:=a.1;omega),←a.1]at hd;exact b.2 _ c d hc hd
theorem RepL.sub{fz:BN→Prop}{h:Za}{cs:List Zc}{ds:List DV}(a:RepL fz h cs ds)(i n:Nat):RepL fz h ((cs.drop i).take n) ((ds.drop i).take n):=by
 refine⟨by simp[a.1],fun j c d hc hd=>?_⟩;rw[Yzo]at hc hd;split at hc
 ·rename_i hj;rw[Yzd hj]at hd;rw[Yzr]at hc hd;exact a.2 _ c d hc hd
 ·cases hc
theorem RepL.set{fz:BN→Prop}{h:Za}{cs cs':List Zc}{ds ds':List DV}(a:RepL fz h cs ds)(b:RepL fz h cs' ds')(i:Nat):
  RepL fz h (cs.take i++cs'++cs.drop (i+cs'.length)) (ds.take i++ds'++ds.drop (i+ds'.length)):=by
 have h1:RepL fz h (cs.take i) (ds.take i):=by simpa using a.sub 0 i
 have h2:RepL fz h (cs.drop (i+cs'.length)) (ds.drop (i+ds'.length)):=by
  have:=a.sub (i+cs'.length) (cs.length-(i+cs'.length));rw[b.1]at this ⊢;have e1:List.take (cs.length-(i+ds'.length)) (List.drop (i+ds'.length) cs)=List.drop (i+ds'.length) cs:=Yyu (by simp);have e2:List.take (cs.length-(i+ds'.length)) (List.drop (i+ds'.length) ds)=List.drop (i+ds'.length) ds:=Yyu (by simp[a.1])
  rwa [e1,e2]at this
 exact(h1.app b).app h2
def RepS(fz:BN→Prop)(h:Za):SVal→DS→Prop
 | .one c,.one d=>Rep fz h c d
 | .agg cs,.agg ds=>RepL fz h cs ds
 |_,_=>False
theorem RepS.mono{fz fz':BN→Prop}{h h':Za}(g:FG fz h fz' h'){c:SVal}{d:DS}(H:RepS fz h c d):RepS fz' h' c d:=by
 cases c<;>cases d<;>simp only[RepS]at H ⊢
 ·exact H.mono g
 ·exact H.mono g
def RepSL(fz:BN→Prop)(h:Za):List SVal→List DS→Prop
 | [],[]=>True
 |c::cs,d::ds=>RepS fz h c d∧RepSL fz h cs ds
 |_,_=>False
theorem RepSL.mono{fz fz':BN→Prop}{h h':Za}(g:FG fz h fz' h'):∀{c:List SVal} {d:List DS},RepSL fz h c d→RepSL fz' h' c d
 | [],[],_=>trivial
 |_::_,_::_,H=>⟨H.1.mono g,RepSL.mono g H.2⟩
 | [],_::_,H=>H.elim
 |_::_,[],H=>H.elim
def RepA(fz:BN→Prop)(h:Za):Zb→DA→Prop
 | .s c,.s d=>RepS fz h c d
 | .tup cs,.tup ds=>RepSL fz h cs ds
 |_,_=>False
theorem RepA.of{fz:BN→Prop}{h:Za}{c:SVal}{d:DS}(H:RepS fz h c d):RepA fz h (.s c) (.s d):=H
theorem RepA.inv{fz:BN→Prop}{h:Za}{v:Zb}{d:DS}(H:RepA fz h v (.s d)):∃w,v=.s w∧RepS fz h w d:=by
 cases v with
 |s v=>exact⟨_,rfl,H⟩
 |tup l=>exact H.elim
theorem RepA.mono{fz fz':BN→Prop}{h h':Za}(g:FG fz h fz' h'){c:Zb}{d:DA}(H:RepA fz h c d):RepA fz' h' c d:=by
 cases d with
 |s d=>
  obtain⟨w,rfl,hw⟩:=H.inv;exact .of (hw.mono g)
 |tup ds=>
  cases c with
  |s c=>exact H.elim
  |tup cs=>exact RepSL.mono g H
def RepAL(fz:BN→Prop)(h:Za):List Zb→List DA→Prop
 | [],[]=>True
 |c::cs,d::ds=>RepA fz h c d∧RepAL fz h cs ds
 |_,_=>False
theorem RepAL.mono{fz fz':BN→Prop}{h h':Za}(g:FG fz h fz' h'):∀{c:List Zb} {d:List DA},RepAL fz h c d→RepAL fz' h' c d
 | [],[],_=>trivial
 |_::_,_::_,H=>⟨H.1.mono g,RepAL.mono g H.2⟩
 | [],_::_,H=>H.elim
 |_::_,[],H=>H.elim
theorem RepAL.app{fz:BN→Prop}{h:Za}:∀{c c':List Zb} {d d':List DA},RepAL fz h c d→RepAL fz h c' d'→RepAL fz h (c++c') (d++d')
 | [],_,[],_,_,H=>H
 |_::_,_,_::_,_,H,K=>⟨H.1,RepAL.app H.2 K⟩
 | [],_,_::_,_,H,_=>H.elim
 |_::_,_,[],_,H,_=>H.elim
theorem zcz:∀(cs:List Zc) (n i:Nat),i+n≤cs.length→cut n cs i=some ((cs.drop i).take n):=by
 have tk:∀(n:Nat) (cs:List Zc),n≤cs.length→takeN n cs=some (cs.take n):=by
  intro n
  induction n with
  |zero=>intro cs _;simp[takeN]
  |succ n ih=>
   intro cs h;cases cs with
   |nil=>simp at h
   |cons c cs=>simp only[takeN,ih cs (by simpa using h),wo,List.take_succ_cons]
 intro cs
 induction cs with
 |nil=>intro n i h;simp at h;obtain⟨rfl,rfl⟩:=h;rfl
 |cons c cs ih=>
  intro n i h;cases i with
  |zero=>
   show takeN n (c::cs)=_;rw[tk n _ (by simpa using h)];rfl
  |succ i=>
   show cut n cs i=_;rw[ih n i (by simp at h;omega)];rfl
theorem zhW{f:Nat→Option Zc}:∀{n i:Nat} {l:List Zc},l.length=n→(∀j c,l[j]? = some c→f (i+j)=some c)→zxf f n i=some l:=by
 intro n
 induction n with
 |zero=>intro i l hl _;rw[List.length_eq_zero_iff.1 hl];rfl
 |succ n ih=>
  intro i l hl H;cases l with
  |nil=>simp at hl
  |cons c l=>
   have h0:=H 0 c rfl;simp only[Yzw]at h0;have h1:=ih (i:=i+1) (l:=l) (by simpa using hl) (fun j d hd=>by have:=H (j+1) d (by simpa using hd);rw[←this];congr 1;omega);simp only[zxf,h0];show wo c (zxf f n (i+1))=_;rw[h1];rfl
theorem zeh{n off:Nat}{cs:List Zc}(h:rd n off .void=some cs):n=0∧cs=[]:=by
 have h:(bif Nat.beq n 0 then some [] else none)=some cs:=h;cases hn:Nat.beq n 0 with
 |true=>rw[hn]at h;cases h;exact⟨Lz1 hn,rfl⟩
 |false=>rw[hn]at h;cases h
theorem zdg{n off:Nat}{o:Ze}{cs:List Zc}(h:rd n off o=some cs):cs.length=n:=by
 cases o with
 |void=>obtain⟨rfl,rfl⟩:=zeh h;rfl
 |cells l st=>exact(zaG h).1
 |ro x f=>exact(zae h).1
 |_=>cases h
theorem zdf{n base:Nat}{o:Ze}{cs:List Zc}(h:rd n base o=some cs){off m:Nat}(hm:off+m≤n):rd m (base+off) o=some ((cs.drop off).take m):=by
 cases o with
 |void=>
  obtain⟨rfl,rfl⟩:=zeh h;have:m=0:=by omega
  subst this;simp[rd]
 |cells l st=>
  obtain⟨rfl,h2⟩:=zjE n l base cs h;show cut m l (base+off)=_;rw[zcz l m (base+off) (by omega)]
  congr 1
  rw[List.drop_take,Yyd,List.take_take]
  congr 1
  omega
 |ro x f=>
  obtain⟨h1,h2⟩:=zae h;refine zhW (by simp;omega) fun j c hc=>?_;rw[Yzo]at hc;split at hc
  ·rw[Yzr]at hc;rw[Yyj];exact h2 _ c hc
  ·cases hc
 |_=>cases h
theorem zrv{n off:Nat}{o:Ze}{cs:List Zc}(h':Za)(h:rd n off o=some cs)(h0:n≠0∨o≠.void):loadAt (some n) h' off (some o)=some (.s (.agg cs),h'):=by
 cases o with
 |void=>
  obtain⟨rfl,_⟩:=zeh h;rcases h0 with h0|h0<;>exact absurd rfl h0
 |cells l st=>show zxr h' (cut n l off)=_;rw[show cut n l off=some cs from h];rfl
 |ro x f=>show zxr h' (zxf f n off)=_;rw[show zxf f n off=some cs from h];rfl
 |_=>cases h
theorem zoV{n base:Nat}{o:Ze}{cs:List Zc}(h':Za)(h:rd n base o=some cs){off:Nat}{c:Zc}(hc:cs[off]? = some c):loadAt none h' (base+off) (some o)=some (.s (.one c),h'):=by
 have hl:=(Lz0.1 hc).1;have e:=zdf h (off:=off) (m:=1) (by have:=zdg h;omega);refine ztK (e.trans ?_)
 congr 1
 rw[List.take_one,List.head?_drop,hc];rfl
def DV.scal:DV→Option Zc
 | .bool b=>some (.bool b)
 | .int k n=>some (.int k n)
 | .str s=>some (.str s)
 | .nils=>some .nils
 | .nilf=>some .nilf
 | .nilp=>some .nilp
 | .nilm=>some .nilm
 | .nili=>some .nili
 |_=>none
theorem Rep.scal{fz:BN→Prop}{h:Za}{c:Zc}{d:DV}(H:Rep fz h c d){c':Zc}(e:d.scal=some c'):c=c':=by
 cases H<;>simp only[DV.scal]at e<;>first|cases e;rfl|cases e
theorem Rep.ofScal{fz:BN→Prop}{h:Za}{d:DV}{c:Zc}(e:d.scal=some c):Rep fz h c d:=by
 cases d<;>simp only[DV.scal]at e<;>cases e
 ·exact .bool _
 ·exact .int _ _
 ·exact .str _
 ·exact .nils
 ·exact .nilf
 ·exact .nilp
 ·exact .nilm
 ·exact .nili
theorem Rep.lst_inv{fz:BN→Prop}{h:Za}{c:Zc}{st:Nat}{xs:List (List DV)}(H:Rep fz h c (.lst st xs)):
  ∃b o off cap ex cs,c=.slc b off xs.length cap ex∧fz b∧h.t.get b=some o∧(ex=true→xs.length≤cap)∧rd (xs.length*st) off o=some cs∧
   ∀(i:Nat) (x:List DV),xs[i]? = some x→x.length=st∧RepL fz h ((cs.drop (i*st)).take st) x:=by
 cases H with
 |lst cs hb hg hc ha h1 h2=>
  refine⟨_,_,_,_,_,cs,rfl,hb,hg,hc,ha,fun i x hx=>⟨h1 i x hx,?_,fun j c d hc hd=>?_⟩⟩
  ·have hi:=(Lz0.1 hx).1;have:(i+1)*st≤xs.length*st:=Yzq st hi;rw[YzJ]at this;have hl:=zdg ha;simp only[List.length_take,List.length_drop,h1 i x hx];omega
  ·rw[Yzo]at hc;split at hc
   ·rw[Yzr]at hc;exact h2 i x j c d hx hc hd
   ·cases hc
theorem Rep.lst_mk{fz:BN→Prop}{h:Za}{b:BN}{o:Ze}{off cap:Nat}{ex:Bool}{st:Nat}{xs:List (List DV)}{cs:List Zc}(hb:fz b)(hg:h.t.get b=some o)(hc:ex=true→xs.length≤cap)
  (ha:rd (xs.length*st) off o=some cs) (H:∀(i:Nat) (x:List DV),xs[i]? = some x→x.length=st∧RepL fz h ((cs.drop (i*st)).take st) x):Rep fz h (.slc b off xs.length cap ex) (.lst st xs):=by
 refine .lst cs hb hg hc ha (fun i x hx=>(H i x hx).1) (fun i x j c d hx hcs hd=>(H i x hx).2.2 j c d ?_ hd);have hj:=(Lz0.1 hd).1;rw[Yzo,Yzd (by have:=(H i x hx).1;omega),Yzr];exact hcs
theorem Rep.fp_inv{fz:BN→Prop}{h:Za}{c:Zc}{xs:List DV}{off:Nat}(H:Rep fz h c (.fp xs off)):
  ∃b o base cs,c=.ptr b (base+off)∧fz b∧h.t.get b=some o∧rd xs.length base o=some cs∧RepL fz h cs xs:=by
 cases H with
 |fp cs hb hg h1 h2=>exact⟨_,_,_,cs,rfl,hb,hg,h1,zdg h1,h2⟩
theorem Rep.fp_mk{fz:BN→Prop}{h:Za}{b:BN}{o:Ze}{base:Nat}{cs:List Zc}{xs:List DV}{off:Nat}(hb:fz b)(hg:h.t.get b=some o)(h1:rd xs.length base o=some cs)(h2:RepL fz h cs xs):
  Rep fz h (.ptr b (base+off)) (.fp xs off):=.fp cs hb hg h1 h2.2
theorem Rep.fn_inv{fz:BN→Prop}{h:Za}{c:Zc}{f:Nat}{caps:List (List DV)}(H:Rep fz h c (.fn f caps)):
  ∃ps,c=.fn f ps∧RepL fz h (ps.map fun p=>.ptr p.1 p.2) (caps.map fun x=>.fp x 0):=by
 cases H with
 |fn css os hl h1 h2=>
  refine⟨_,rfl,by simp[hl],fun j c d hc hd=>?_⟩;simp only[Lz6,Yz3]at hc hd;obtain⟨p,hp,rfl⟩:=hc;obtain⟨x,hx,rfl⟩:=hd;obtain⟨a,b,c⟩:=h1 j p x hp hx;exact .fp (base:=p.2) (off:=0) (css j) a b c (fun i c d hc hd=>h2 j p x i c d hp hx hc hd)
theorem Rep.fn_mk{fz:BN→Prop}{h:Za}{f:Nat}{ps:List (BN×Nat)}{caps:List (List DV)}(H:RepL fz h (ps.map fun p=>.ptr p.1 p.2) (caps.map fun x=>.fp x 0)):Rep fz h (.fn f ps) (.fn f caps):=by
 have hl:ps.length=caps.length:=by simpa using H.1
 have:∀i:Nat,∃q:List Zc×Ze,∀(p:BN×Nat) (x:List DV),ps[i]? = some p→caps[i]? = some x→fz p.1∧h.t.get p.1=some q.2∧rd x.length p.2 q.2=some q.1∧RepL fz h q.1 x:=by
  intro i;cases hp:ps[i]? with
  |none=>exact⟨([],.dead),fun p x hp'=>by cases hp'⟩
  |some p=>
   cases hx:caps[i]? with
   |none=>exact⟨([],.dead),fun p x _ hx'=>by cases hx'⟩
   |some x=>
    have:=H.2 i (.ptr p.1 p.2) (.fp x 0) (by simp[hp]) (by simp[hx]);obtain⟨b,o,base,cs,e,a1,a2,a3,a4⟩:=this.fp_inv;simp only[Zc.ptr.injEq,Yzw]at e;obtain⟨rfl,rfl⟩:=e;exact⟨(cs,o),fun p' x' hp' hx'=>by cases hp';cases hx';exact⟨a1,a2,a3,a4⟩⟩
 obtain⟨q,hq⟩:=Classical.axiomOfChoice this;exact .fn (fun i=>(q i).1) (fun i=>(q i).2) hl (fun i p x hp hx=>⟨(hq i p x hp hx).1,(hq i p x hp hx).2.1,(hq i p x hp hx).2.2.1⟩) (fun i p x j c d hp hx hc hd=>(hq i p x hp hx).2.2.2.2 j c d hc hd)
end Go.PE
end
section
namespace Go.PE
open Go Go.CE
def shC:SVal→Nat
 | .one _=>0
 | .agg cs=>Nat.succ cs.length
def zvT(k v:SVal):Nat:=Nat.add 1048576 (Nat.add (Nat.mul (shC k) 1024) (shC v))
inductive KOp where
 |mv (x:Operand)
 |pick (c a b:Operand)
 |alloc (zs:List Zc)
 |box (x:Operand)
 |build (zs:List Zc) (parts:List (Nat×Nat×Operand))
 |bslice (st len:Nat) (zs:List Zc) (parts:List (Nat×Nat×Operand))
 |load (n:Option Nat) (x:Operand)
 |store (n:Nat) (x v:Operand)
 |nilck (x:Operand)
 |bin (op:BinOp) (x y:Operand)
 |shift (left:Bool) (x y:Operand)
 |str (op:BinOp) (x y:Operand)
 |nilS (neg:Bool) (x y:Operand)
 |eq (ks:Nat⊕List Nat) (neg:Bool) (x y:Operand)
 |not (x:Operand)
 |neg (x:Operand)
 |conv (k:IntKind) (x:Operand)
 |b2s (x:Operand)
 |s2b (x:Operand)
 |mkfn (f:Nat) (caps:List Operand)
 |mkmap (st:Nat)
 |mkslice (st:Nat) (zs:List Zc) (bytes:Nat) (l c:Operand)
 |slice (st:Nat) (x:Operand) (lo hi mx:Option Operand)
 |sslice (x:Operand) (lo hi:Option Operand)
 |foff (x:Operand) (off:Nat)
 |field (x:Operand) (off:Nat) (n:Option Nat)
 |ixs (st:Nat) (x i:Operand)
 |ixarr (len st:Nat) (x i:Operand)
 |ixagg (len st:Nat) (n:Option Nat) (x i:Operand)
 |ixstr (x i:Operand)
 |lookup (q:Nat⊕List Nat) (z:SVal) (ok:Bool) (m k:Operand)
 |mupd (q:Nat⊕List Nat) (m k v:Operand)
 |extract (x:Operand) (i:Nat)
 |lenS (x:Operand)
 |lenL (x:Operand)
 |lenM (x:Operand)
 |append (st bytes:Nat) (s x:Operand)
 |minmax (m:Bool) (x:Operand) (xs:List Operand)
 |clear (st:Nat) (zs:List Zc) (x:Operand)
 |call (f:Operand) (args:List Operand)
section
variable (P:Program)
def zdK(fs:Array Field):List (Nat×Operand)→Option (List (Nat×Nat×Operand))
 | []=>some []
 |(i,x)::r=>
  match fs[i]?,zdK fs r with
  |some f,some rest=>
   match P.info? f.type with
   |some info=>some ((f.offset,info.size,x)::rest)
   |none=>none
  |_,_=>none
def zbb(size:Nat):List (Nat×Operand)→List (Nat×Nat×Operand)
 | []=>[]
 |(i,x)::r=>(i*size,size,x)::zbb size r
def comp(o:Op):Option KOp:=
 match o with
 | .move x=>some (.mv x)
 | .assign x=>some (.mv x)
 | .pick c a b=>some (.pick c a b)
 | .alloc t=>bif qN P t then none else(match yl P t with|some z=>some (.alloc z.cells)|none=>none)
 | .box _ x=>some (.box x)
 | .build t parts=>
  match P.underlying t,yl P t with
  |some (.struct fs),some z=>bif qr P fs.toList then(match zdK P fs parts.toList with|some l=>some (.build z.cells l)|none=>none) else none
  |some (.array _ e),some z=>
   match P.info? e with
   |some i=>some (.build z.cells (zbb i.size parts.toList))
   |none=>none
  |_,_=>none
 | .buildSlice t len parts=>
  match P.underlying t with
  |some (.slice e)=>
   match P.info? e with
   |some i=>
    bif Nat.ble (len*i.size) 16777216 then
     match (bif Nat.beq (len*i.size) 0 then some [] else(yl P e).map SVal.cells) with
     |some zs=>bif Nat.beq (len*i.size) 0||Nat.beq zs.length i.size then some (.bslice i.size len (zwX zs len) (zbb i.size parts.toList)) else none
     |none=>none
    else none
   |none=>none
  |_=>none
 | .load t x=>match xY P t with|some n=>some (.load n x)|none=>none
 | .store t x v=>match P.info? t with|some i=>some (.store i.size x v)|none=>none
 | .nilCheck x=>some (.nilck x)
 | .binOp op t x y _=>
  match P.underlying t with
  |some (.int _)=>
   match op with
   | .shl=>some (.shift true x y)
   | .shr=>some (.shift false x y)
   |op=>some (.bin op x y)
  |some .string=>some (.str op x y)
  |some (.slice _)=>
   match op with
   | .eql=>some (.nilS false x y)
   | .neq=>some (.nilS true x y)
   |_=>none
  |some (.struct _)=>
   bif P.eqGuardType P.depth t then none else
   match op,zw1 P t with
   | .eql,some q=>some (.eq q false x y)
   | .neq,some q=>some (.eq q true x y)
   |_,_=>none
  |some .bool=>
   bif P.eqGuardType P.depth t then none else
   match op,zw1 P t with
   | .eql,some q=>some (.eq q false x y)
   | .neq,some q=>some (.eq q true x y)
   |_,_=>none
  |_=>none
 | .unOp .not _ x=>some (.not x)
 | .unOp .neg _ x=>some (.neg x)
 | .convert s d x=>
  match P.underlying s,P.underlying d with
  |some (.int _),some (.int k)=>some (.conv k x)
  |some (.slice e),some .string=>bif yM P e then some (.b2s x) else none
  |some .string,some (.slice e)=>bif yM P e then some (.s2b x) else none
  |_,_=>none
 | .makeFunc (.func f) first captured=>bif first.isEmpty then some (.mkfn f captured.toList) else none
 | .makeMap t none=>
  match P.underlying t with
  |some (.map key e)=>match yl P key,yl P e with|some zk,some ze=>some (.mkmap (zvT zk ze))|_,_=>none
  |_=>none
 | .makeSlice t l c=>
  match P.underlying t with
  |some (.slice e)=>
   match P.info? e,yl P e with
   |some i,some z=>bif Nat.beq z.cells.length i.size && !Nat.beq i.size 0 then some (.mkslice i.size z.cells i.bytes l c) else none
   |_,_=>none
  |_=>none
 | .slice t x lo hi mx=>
  match P.underlying t with
  |some (.slice e)=>
   match P.info? e with
   |some i=>bif mx.isSome && !hi.isSome then none else some (.slice i.size x lo hi mx)
   |none=>none
  |some .string=>bif mx.isSome then none else some (.sslice x lo hi)
  |_=>none
 | .fieldAddr t x f=>
  match P.underlying t with
  |some (.struct fs)=>
   match fs[f]? with
   |some fd=>
    match P.info? fd.type with
    |some i=>bif Nat.beq i.size 0 then none else some (.foff x fd.offset)
    |none=>none
   |none=>none
  |_=>none
 | .field t x f=>
  match P.underlying t with
  |some (.struct fs)=>
   match fs[f]? with
   |some fd=>match xY P fd.type with|some n=>some (.field x fd.offset n)|none=>none
   |none=>none
  |_=>none
 | .indexAddr t x i=>
  match P.underlying t with
  |some (.slice e)=>
   match P.info? e with
   |some info=>some (.ixs info.size x i)
   |none=>none
  |some (.array len e)=>
   match P.info? e with
   |some info=>some (.ixarr len info.size x i)
   |none=>none
  |_=>none
 | .index t x i=>
  match P.underlying t with
  |some (.array len e)=>
   match P.info? e,xY P e with
   |some info,some n=>some (.ixagg len info.size n x i)
   |_,_=>none
  |some .string=>some (.ixstr x i)
  |_=>none
 | .lookup t m k ok=>
  match P.underlying t with
  |some (.map key e)=>match zw1 P key,yl P e with|some q,some z=>some (.lookup q z ok m k)|_,_=>none
  |_=>none
 | .mapUpdate t m k v=>
  match P.underlying t with
  |some (.map key _)=>match zw1 P key with|some q=>some (.mupd q m k v)|none=>none
  |_=>none
 | .extract x i=>some (.extract x i)
 | .call c=>
  match c.callee with
  | .value f=>bif Nat.beq (qe P f) 0 then some (.call f c.args.toList) else none
  | .builtin .len=>
   match c.argTypes[0]?,c.args[0]? with
   |some t,some x=>
    match P.underlying t with
    |some .string=>some (.lenS x)
    |some (.slice _)=>some (.lenL x)
    |some (.map _ _)=>some (.lenM x)
    |_=>none
   |_,_=>none
  | .builtin .append=>
   match c.argTypes.toList,c.args.toList with
   | [t,t2],[s,x]=>
    match P.underlying t with
    |some (.slice e)=>
     match P.info? e,yl P e with
     |some i,some z=>
      bif Nat.beq z.cells.length i.size && !Nat.beq i.size 0 then
       match P.underlying t2 with
       |some (.slice _)=>bif yM P e&&Nat.beq i.size 1 then none else some (.append i.size i.bytes s x)
       |_=>none
      else none
     |_,_=>none
    |_=>none
   |_,_=>none
  | .builtin .clear=>
   match c.argTypes[0]?,c.args[0]? with
   |some t,some x=>
    match P.underlying t with
    |some (.slice e)=>
     match P.info? e,yl P e with
     |some i,some z=>bif Nat.beq z.cells.length i.size && !Nat.beq i.size 0 then some (.clear i.size z.cells x) else none
     |_,_=>none
    |_=>none
   |_,_=>none
  | .builtin .max=>
   match c.args.toList with
   |x::xs=>some (.minmax true x xs)
   |_=>none
  | .builtin .min=>
   match c.args.toList with
   |x::xs=>some (.minmax false x xs)
   |_=>none
  |_=>none
 |_=>none
end
def kv(r:Fr):Operand→Option Zb
 | .tmp t=>some (r t)
 | .const v=>match zxX v with|some s=>some (.s s)|none=>none
 | .func f=>some (.s (.one (.fn f [])))
 | .global g=>match qU g with|some _=>some (.s (.one (.gptr g 0)))|none=>none
theorem yy(r:Fr)(x:Operand):coK r x=(kv r x).map zu:=by
 cases x with
 |tmp t=>rfl
 |const v=>simp only[coK,kv];cases zxX v<;>rfl
 |func f=>rfl
 |global g=>simp only[coK,kv];cases qU g<;>rfl
def kvs(r:Fr):List Operand→Option (List Zb)
 | []=>some []
 |x::xs=>
  match kv r x,kvs r xs with
  |some y,some ys=>some (y::ys)
  |_,_=>none
theorem jV(r:Fr):∀l:List Operand,kQ (coK r) l=(kvs r l).map (·.map zu)
 | []=>rfl
 |x::l=>by
  simp only[kQ,kvs,yy,jV r l];cases kv r x<;>cases kvs r l<;>rfl
def kvo(r:Fr):Option Operand→Option (Option Zb)
 |none=>some none
 |some x=>match kv r x with|some y=>some (some y)|none=>none
theorem zjM(r:Fr)(x:Option Operand):zaM (coK r) x=(kvo r x).map (·.map zu):=by
 cases x with
 |none=>rfl
 |some x=>simp only[zaM,kvo,yy];cases kv r x<;>rfl
def kvp(r:Fr):List (Nat×Nat×Operand)→Option (List (Nat×Nat×Zb))
 | []=>some []
 |(a,b,x)::l=>
  match kv r x,kvp r l with
  |some y,some ys=>some ((a,b,y)::ys)
  |_,_=>none
theorem zcw(r:Fr)(n:Nat):∀l:List (Nat×Operand),wl (coK r) n l=(kvp r (zbb n l)).map cP
 | []=>rfl
 |(i,x)::l=>by
  simp only[wl,zbb,kvp,yy,zcw r n l];cases kv r x<;>cases kvp r (zbb n l)<;>rfl
theorem zge(P:Program)(r:Fr)(fs:Array Field):∀(l:List (Nat×Operand)) (q:List (Nat×Nat×Operand)),zdK P fs l=some q→wi P (coK r) fs l=(kvp r q).map cP
 | [],q,h=>by cases h;rfl
 |(i,x)::l,q,h=>by
  simp only[zdK]at h;cases hf:fs[i]? with
  |none=>rw[hf]at h;cases h
  |some f=>
   cases hl:zdK P fs l with
   |none=>rw[hf,hl]at h;cases h
   |some rest=>
    rw[hf,hl]at h;simp only at h;cases hi:P.info? f.type with
    |none=>rw[hi]at h;cases h
    |some info=>
     rw[hi]at h;cases h;simp only[wi,kvp,hf,yy,zge P r fs l rest hl];cases kv r x with
     |none=>rfl
     |some y=>
      cases kvp r rest with
      |none=>rfl
      |some ys=>simp only[Yzv,hi];rfl
def zH(x:Option Zb)(k:Zb→Res):Res:=match x with|some v=>k v|none=>none
noncomputable def runK(r:Fr)(o:KOp)(call:zg)(h:Za):Res:=
 match o with
 | .mv x=>zH (kv r x) fun x=>some (x,h)
 | .pick c a b=>zH (kv r c) fun c=>zH (kv r a) fun a=>zH (kv r b) fun b=>zot c a b h
 | .alloc zs=>ztf zs h
 | .box x=>zH (kv r x) fun x=>zA5 x h
 | .build zs parts=>match kvp r parts with|some l=>zlm zs l h|none=>none
 | .bslice st len zs parts=>match kvp r parts with|some l=>zq5 st len zs l h|none=>none
 | .load n x=>zH (kv r x) fun x=>zow n x h
 | .store n x v=>zH (kv r x) fun x=>zH (kv r v) fun v=>ztd n x v h
 | .nilck x=>zH (kv r x) fun x=>zim x h
 | .bin op x y=>zH (kv r x) fun x=>zH (kv r y) fun y=>zzj (ur op) x y h
 | .shift l x y=>zH (kv r x) fun x=>zH (kv r y) fun y=>zil (bif l then zeU else zeT) x y h
 | .str op x y=>zH (kv r x) fun x=>zH (kv r y) fun y=>zzf op x y h
 | .nilS n x y=>zH (kv r x) fun x=>zH (kv r y) fun y=>zlk n x y h
 | .eq q n x y=>zH (kv r x) fun x=>zH (kv r y) fun y=>vEq q n x y h
 | .not x=>zH (kv r x) fun x=>zzg x h
 | .neg x=>zH (kv r x) fun x=>zzh x h
 | .conv k x=>zH (kv r x) fun x=>zoz k x h
 | .b2s x=>zH (kv r x) fun x=>qI (zu x) yv .nil h
 | .s2b x=>zH (kv r x) fun x=>zkx (zu x) yv .nil h
 | .mkfn f caps=>match kvs r caps with|some l=>zov f l h|none=>none
 | .mkmap _=>zte h
 | .mkslice st zs bytes l c=>zH (kv r l) fun l=>zH (kv r c) fun c=>zou st zs bytes l c h
 | .slice st x lo hi mx=>zH (kv r x) fun x=>match kvo r lo,kvo r hi,kvo r mx with|some lo,some hi,some mx=>uV st x lo hi mx h|_,_,_=>none
 | .sslice x lo hi=>zH (kv r x) fun x=>match kvo r lo,kvo r hi with|some lo,some hi=>zd3 x lo hi h|_,_=>none
 | .foff x off=>zH (kv r x) fun x=>zoy x off h
 | .field x off n=>zH (kv r x) fun x=>zir x off n h
 | .ixs st x i=>zH (kv r x) fun x=>zH (kv r i) fun i=>zzi st x i h
 | .ixarr len st x i=>zH (kv r x) fun x=>zH (kv r i) fun i=>zio len st x i h
 | .ixagg len st n x i=>zH (kv r x) fun x=>zH (kv r i) fun i=>ziq len st n x i h
 | .ixstr x i=>zH (kv r x) fun x=>zH (kv r i) fun i=>zin x i h
 | .lookup q z ok m k=>zH (kv r m) fun m=>zH (kv r k) fun k=>zq4 q z ok m k h
 | .mupd q m k v=>zH (kv r m) fun m=>zH (kv r k) fun k=>zH (kv r v) fun v=>zvr q m k v h
 | .extract x i=>zH (kv r x) fun x=>zbn x i h
 | .lenS x=>zH (kv r x) fun x=>zox x h
 | .lenL x=>zH (kv r x) fun x=>zll x h
 | .lenM x=>zH (kv r x) fun x=>zvs x h
 | .append st bytes s x=>zH (kv r s) fun s=>zH (kv r x) fun x=>zq6 false st bytes s x h
 | .minmax m x xs=>zH (kv r x) fun x=>match kvs r xs with|some l=>zd4 m x l h|none=>none
 | .clear st zs x=>zH (kv r x) fun x=>zqg st zs x h
 | .call f args=>zH (kv r f) fun f=>match kvs r args with|some l=>zvu call f l h|none=>none
theorem zdA(P:Program)(r:Fr){o:Op}{ko:KOp}(call:zg)(h:Za)(e:comp P o=some ko):zwS P (coK r) o call .nil h=runK r ko call h:=by
 unfold comp at e;cases o with
 |move x=>cases e;simp only[zwS,yy,runK];cases kv r x<;>rfl
 |assign x=>cases e;simp only[zwS,yy,runK];cases kv r x<;>rfl
 |pick c a b=>cases e;simp only[zwS,yy,runK];cases kv r c<;>cases kv r a<;>cases kv r b<;>rfl
 |alloc t=>
  simp only at e;cases hb:qN P t with
  |true=>rw[hb]at e;cases e
  |false=>
   cases hz:yl P t with
   |none=>rw[hb,hz]at e;cases e
   |some z=>rw[hb,hz]at e;cases e;simp only[zwS,hb,hz,runK];rfl
 |box t x=>cases e;simp only[zwS,yy,runK];cases kv r x<;>rfl
 |build t parts=>
  simp only at e;split at e
  ·rename_i fs z hu hz;cases ha:qr P fs.toList with
   |false=>rw[ha]at e;cases e
   |true=>
    rw[ha]at e;cases hf:zdK P fs parts.toList with
    |none=>rw[hf]at e;cases e
    |some l=>
     rw[hf]at e;cases e;simp only[zwS,hu,hz,ha,Yza,zge P r fs _ _ hf,runK];cases kvp r l<;>rfl
  ·rename_i n e' z hu hz;split at e
   ·rename_i i hi;cases e;simp only[zwS,hu,hz,hi,zcw,runK];cases kvp r (zbb i.size parts.toList)<;>rfl
   ·cases e
  ·cases e
 |buildSlice t len parts=>
  simp only at e;split at e
  ·rename_i e' hu;split at e
   ·rename_i i hi;cases hl:Nat.ble (len*i.size) 16777216 with
    |false=>rw[hl]at e;cases e
    |true=>
     rw[hl]at e;simp only[Yza]at e;split at e
     ·rename_i zs hzs;cases hc:(Nat.beq (len*i.size) 0||Nat.beq zs.length i.size) with
      |false=>rw[hc]at e;cases e
      |true=>
       rw[hc]at e;cases e;simp only[zwS,hu,hi,hl,Yza,hzs,hc,zcw,runK];cases kvp r (zbb i.size parts.toList)<;>rfl
     ·cases e
   ·cases e
  ·cases e
 |load t x=>
  simp only at e;cases hs:xY P t with
  |none=>rw[hs]at e;cases e
  |some n=>rw[hs]at e;cases e;simp only[zwS,hs,yy,runK];cases kv r x<;>rfl
 |store t x v=>
  simp only at e;cases hs:P.info? t with
  |none=>rw[hs]at e;cases e
  |some i=>rw[hs]at e;cases e;simp only[zwS,hs,yy,runK];cases kv r x<;>cases kv r v<;>rfl
 |nilCheck x=>cases e;simp only[zwS,yy,runK];cases kv r x<;>rfl
 |binOp op t x y p=>
  simp only at e;split at e
  ·rename_i hu;simp only[zwS,hu];split at e<;>cases e<;>simp only[yy,runK]<;>cases kv r x<;>cases kv r y<;>rfl
  ·rename_i hu;cases e;simp only[zwS,hu,yy,runK];cases kv r x<;>cases kv r y<;>rfl
  ·rename_i hu;simp only[zwS,hu];split at e<;>cases e<;>simp only[yy,runK]<;>cases kv r x<;>cases kv r y<;>rfl
  ·rename_i fs hu;cases hg:P.eqGuardType P.depth t with
   |true=>rw[hg]at e;cases e
   |false=>
    rw[hg]at e;simp only[Yzc]at e;split at e
    ·rename_i q hk;cases e;simp only[zwS,hu,hg,Yzc,hk,yy,runK];cases kv r x<;>cases kv r y<;>rfl
    ·rename_i q hk;cases e;simp only[zwS,hu,hg,Yzc,hk,yy,runK];cases kv r x<;>cases kv r y<;>rfl
    ·cases e
  ·rename_i hu;cases hg:P.eqGuardType P.depth t with
   |true=>rw[hg]at e;cases e
   |false=>
    rw[hg]at e;simp only[Yzc]at e;split at e
    ·rename_i q hk;cases e;simp only[zwS,hu,hg,Yzc,hk,yy,runK];cases kv r x<;>cases kv r y<;>rfl
    ·rename_i q hk;cases e;simp only[zwS,hu,hg,Yzc,hk,yy,runK];cases kv r x<;>cases kv r y<;>rfl
    ·cases e
  ·cases e
 |unOp u t x=>
  cases u<;>first|cases e|skip
  ·simp only[zwS,yy,runK];cases kv r x<;>rfl
  ·simp only[zwS,yy,runK];cases kv r x<;>rfl
 |convert s d x=>
  simp only at e;split at e
  ·rename_i k hs hd;cases e;simp only[zwS,hs,hd,yy,runK];cases kv r x<;>rfl
  ·rename_i el hs hd;cases hb:yM P el with
   |false=>rw[hb]at e;cases e
   |true=>rw[hb]at e;cases e;simp only[zwS,hs,hd,hb,Yza,yy,runK];cases kv r x<;>rfl
  ·rename_i el hs hd;cases hb:yM P el with
   |false=>rw[hb]at e;cases e
   |true=>rw[hb]at e;cases e;simp only[zwS,hs,hd,hb,Yza,yy,runK];cases kv r x<;>rfl
  ·cases e
 |makeFunc f first captured=>
  cases f with
  |func f=>
   simp only at e;cases hf:first.isEmpty with
   |false=>rw[hf]at e;cases e
   |true=>rw[hf]at e;cases e;simp only[zwS,hf,Yza,jV,runK];cases kvs r captured.toList<;>rfl
  |_=>cases e
 |makeMap t n=>
  cases n with
  |none=>
   simp only at e;split at e
   ·split at e
    ·cases e;rfl
    ·cases e
   ·cases e
  |some n=>cases e
 |makeSlice t l c=>
  simp only at e;split at e
  ·rename_i el hu;split at e
   ·rename_i i z hi hz;cases hc:(Nat.beq z.cells.length i.size && !Nat.beq i.size 0) with
    |false=>rw[hc]at e;cases e
    |true=>rw[hc]at e;cases e;simp only[zwS,hu,hi,hz,hc,Yza,yy,runK];cases kv r l<;>cases kv r c<;>rfl
   ·cases e
  ·cases e
 |slice t x lo hi mx=>
  simp only at e;split at e
  ·rename_i el hu;split at e
   ·rename_i i hi';cases hc:(mx.isSome && !hi.isSome) with
    |true=>rw[hc]at e;cases e
    |false=>rw[hc]at e;cases e;simp only[zwS,hu,hi',hc,Yzc,yy,zjM,runK];cases kv r x<;>rcases kvo r lo with _|(_|_)<;>rcases kvo r hi with _|(_|_)<;>rcases kvo r mx with _|(_|_)<;>rfl
   ·cases e
  ·rename_i hu;cases hc:mx.isSome with
   |true=>rw[hc]at e;cases e
   |false=>rw[hc]at e;cases e;simp only[zwS,hu,hc,Yzc,yy,zjM,runK];cases kv r x<;>rcases kvo r lo with _|(_|_)<;>rcases kvo r hi with _|(_|_)<;>rfl
  ·cases e
 |fieldAddr t x f=>
  simp only at e;split at e
  ·rename_i fs hu;split at e
   ·rename_i fd hf;split at e
    ·rename_i i hi;cases hc:Nat.beq i.size 0 with
     |true=>rw[hc]at e;cases e
     |false=>rw[hc]at e;cases e;simp only[zwS,hu,hf,hi,hc,Yzc,yy,runK];cases kv r x<;>rfl
    ·cases e
   ·cases e
  ·cases e
 |field t x f=>
  simp only at e;split at e
  ·rename_i fs hu;split at e
   ·rename_i fd hf;split at e
    ·rename_i n hn;cases e;simp only[zwS,hu,hf,hn,yy,runK];cases kv r x<;>rfl
    ·cases e
   ·cases e
  ·cases e
 |indexAddr t x i=>
  simp only at e;split at e
  ·rename_i el hu;split at e
   ·rename_i info hi;cases e;simp only[zwS,hu,hi,yy,runK];cases kv r x<;>cases kv r i<;>rfl
   ·cases e
  ·rename_i len el hu;split at e
   ·rename_i info hi;cases e;simp only[zwS,hu,hi,yy,runK];cases kv r x<;>cases kv r i<;>rfl
   ·cases e
  ·cases e
 |index t x i=>
  simp only at e;split at e
  ·rename_i len el hu;split at e
   ·rename_i info n hi hn;cases e;simp only[zwS,hu,hi,hn,yy,runK];cases kv r x<;>cases kv r i<;>rfl
   ·cases e
  ·rename_i hu;cases e;simp only[zwS,hu,yy,runK];cases kv r x<;>cases kv r i<;>rfl
  ·cases e
 |lookup t m k ok=>
  simp only at e;split at e
  ·rename_i key el hu;split at e
   ·rename_i q z hq hz;cases e;simp only[zwS,hu,hq,hz,yy,runK];cases kv r m<;>cases kv r k<;>rfl
   ·cases e
  ·cases e
 |mapUpdate t m k v=>
  simp only at e;split at e
  ·rename_i key el hu;split at e
   ·rename_i q hq;cases e;simp only[zwS,hu,hq,yy,runK];cases kv r m<;>cases kv r k<;>cases kv r v<;>rfl
   ·cases e
  ·cases e
 |extract x i=>cases e;simp only[zwS,yy,runK];cases kv r x<;>rfl
 |call c=>
  simp only at e;split at e
  ·rename_i f hc;cases hx:Nat.beq (qe P f) 0 with
   |false=>rw[hx]at e;cases e
   |true=>
    rw[hx]at e;cases e;simp only[zwS,hc,hx,Yza,yy,jV,runK];cases kv r f<;>cases kvs r c.args.toList<;>rfl
  ·rename_i hc;split at e
   ·rename_i t x ht hx;simp only[zwS,hc,ht,hx];split at e
    ·rename_i hu;cases e;simp only[hu,yy,runK];cases kv r x<;>rfl
    ·rename_i el hu;cases e;simp only[hu,yy,runK];cases kv r x<;>rfl
    ·rename_i k el hu;cases e;simp only[hu,yy,runK];cases kv r x<;>rfl
    ·cases e
   ·cases e
  ·rename_i hc;split at e
   ·rename_i t t2 s x ht hx;simp only[zwS,hc,ht,hx];split at e
    ·rename_i el hu;split at e
     ·rename_i i z hi hz;cases hb:(Nat.beq z.cells.length i.size && !Nat.beq i.size 0) with
      |false=>rw[hb]at e;cases e
      |true=>
       rw[hb]at e;simp only[Yza]at e;split at e
       ·rename_i e2 hu2;cases hB:(yM P el&&Nat.beq i.size 1) with
        |true=>rw[hB]at e;cases e
        |false=>
         rw[hB]at e;cases e;simp only[hu,hi,hz,hb,Yza,hu2,hB,Yzc,yy,runK];cases kv r s<;>cases kv r x<;>rfl
       ·cases e
     ·cases e
    ·cases e
   ·cases e
  ·rename_i hc;split at e
   ·rename_i t x ht hx;simp only[zwS,hc,ht,hx];split at e
    ·rename_i el hu;split at e
     ·rename_i i z hi hz;cases hb:(Nat.beq z.cells.length i.size && !Nat.beq i.size 0) with
      |false=>rw[hb]at e;cases e
      |true=>rw[hb]at e;cases e;simp only[hu,hi,hz,hb,Yza,yy,runK];cases kv r x<;>rfl
     ·cases e
    ·cases e
   ·cases e
  ·rename_i hc;split at e
   ·rename_i x xs hx;cases e;simp only[zwS,hc,hx,jV,kvs,runK];cases kv r x<;>cases kvs r xs<;>rfl
   ·cases e
  ·rename_i hc;split at e
   ·rename_i x xs hx;cases e;simp only[zwS,hc,hx,jV,kvs,runK];cases kv r x<;>cases kvs r xs<;>rfl
   ·cases e
  ·cases e
 |_=>cases e
end Go.PE
end
section
namespace Go.PE
open Go Go.CE
inductive PC where
 |d (v:DV)
 |own (k:Nat)
 |ptr (k off:Nat)
 |ep (k st i off:Nat)
 |ip (k off len st i o:Nat)
 |vw (k st lo len:Nat)
 |clo (f:Nat) (caps:List (Nat⊕List DV))
inductive PV where
 |one (c:PC)
 |agg (cs:List PC)
inductive PA where
 |s (v:PV)
 |tup (l:List DS)
 |bad
 |undef
def PV.cells:PV→List PC
 | .one c=>[c]
 | .agg cs=>cs
abbrev OC:=Option (List (List DV))
def mkL(st:Nat):OC→DV
 |none=>.nils
 |some xs=>.lst st xs
inductive PO where
 |box (cs:List PC)
 |arr (st:Nat) (v:OC)
 |frz (v:DV)
 |fbox (ds:List DV)
 |mp (st:Nat) (xs:List (List DV))
 |hol (v:OC) (n t:Nat)
 |lnk (m:Nat)
 |dead
def og:List PO→Nat→PO
 | [],_=>.dead
 |o::l,k=>bif Nat.beq k 0 then o else og l (Nat.sub k 1)
def oset(o:PO):List PO→Nat→List PO
 | [],_=>[]
 |x::l,k=>bif Nat.beq k 0 then o::l else x::oset o l (Nat.sub k 1)
theorem zak(k:Nat):Nat.beq (k+1) 0=false:=rfl
theorem zex:∀(l:List PO) (k:Nat),og l k=(l[k]?).getD .dead
 | [],k=>by simp[og]
 |o::l,0=>by simp[og]
 |o::l,k+1=>by
  have:=zex l k;simp only[og,zak,Yzc,Yzl];exact this
theorem yf(o:PO):∀(l:List PO) (k:Nat),(oset o l k).length=l.length
 | [],k=>rfl
 |x::l,0=>rfl
 |x::l,k+1=>by
  have:=yf o l k;show ((x::oset o l k)).length=_;simp[this]
theorem zJ(o:PO):∀(l:List PO) (k j:Nat),og (oset o l k) j=if j=k∧k<l.length then o else og l j
 | [],k,j=>by simp[oset,og]
 |x::l,0,j=>by
  cases j with
  |zero=>simp[oset,og]
  |succ j=>simp[oset,og,zak]
 |x::l,k+1,j=>by
  show og (x::oset o l k) j=_;cases j with
  |zero=>simp[og]
  |succ j=>
   have:=zJ o l k j;show og (oset o l k) j=_;rw[this];show _=if j+1=k+1∧k+1<(x::l).length then o else og l j
   simp
theorem zbY:∀(l:List PO) (k:Nat),oset (og l k) l k=l
 | [],_=>rfl
 |x::l,0=>rfl
 |x::l,k+1=>by
  show x::oset (og l k) l k=_;rw[zbY l k]
theorem yY(l:List PO)(o:PO)(j:Nat):og (l++[o]) j=if j=l.length then o else og l j:=by
 rw[zex,zex];by_cases h:j<l.length
 ·rw[Lz2 h,Yzb (by omega)]
 ·rw[Lz8 (by omega)];by_cases h2:j=l.length
  ·subst h2;simp
  ·rw[Yzb h2];have h3:j-l.length≠0:=by omega
   obtain⟨m,hm⟩:=Nat.exists_eq_succ_of_ne_zero h3;rw[hm];simp;rw[Yyb (by omega)];rfl
theorem un{l:List PO}{k:Nat}(h:og l k≠.dead):k<l.length:=by
 rw[zex]at h;by_cases hk:k<l.length
 ·exact hk
 ·exact absurd (by rw[Yyb (by omega)];rfl) h
def blk:Zc→Option BN
 | .ptr b _=>some b
 | .slc b _ _ _ _=>some b
 | .map b=>some b
 |_=>none
def shN(n:Nat):Option Nat:=match n with|0=>none|n+1=>some n
def shK(st:Nat):Option Nat:=shN (Nat.mod (Nat.div st 1024) 1024)
def shV(st:Nat):Option Nat:=shN (Nat.mod st 1024)
def ztp:Option Nat→Nat
 |none=>1
 |some n=>n
def atD:List DV→Nat→DV
 | [],_=>.u
 |d::l,i=>bif Nat.beq i 0 then d else atD l (Nat.sub i 1)
def exp(x:List DV):Nat→Nat→List DV
 |0,_=>[]
 |n+1,i=>atD x i::exp x n (Nat.succ i)
def shD(sh:Option Nat)(x:List DV)(i:Nat):DS:=
 match sh with
 |none=>.one (atD x i)
 |some n=>.agg (exp x n i)
def kD(st:Nat)(x:List DV):DS:=shD (shK st) x 0
def vD(st:Nat)(x:List DV):DS:=shD (shV st) x (ztp (shK st))
structure Nm where
 μ:Nat→Zc
 n:Nat
 fz:BN→Prop
 h:Za
def RepCap(N:Nm):BN×Nat→Nat⊕List DV→Prop
 |p,.inl k=>k<N.n∧N.μ k=.ptr p.1 0∧p.2=0
 |p,.inr xs=>Rep N.fz N.h (.ptr p.1 p.2) (.fp xs 0)
def RepCaps(N:Nm):List (BN×Nat)→List (Nat⊕List DV)→Prop
 | [],[]=>True
 |p::ps,x::xs=>RepCap N p x∧RepCaps N ps xs
 |_,_=>False
def RepPC(N:Nm)(c:Zc):PC→Prop
 | .d v=>Rep N.fz N.h c v
 | .own k=>k<N.n∧c=N.μ k
 | .ptr k off=>k<N.n∧∃b,N.μ k=.ptr b 0∧c=.ptr b off
 | .ep k st i off=>k<N.n∧∃b l cap ex,N.μ k=.slc b 0 l cap ex∧c=.ptr b (i*st+off)∧i<l
 | .ip k off len st i o=>k<N.n∧∃b,N.μ k=.ptr b 0∧c=.ptr b (off+i*st+o)∧i<len
 | .vw k st lo len=>k<N.n∧((N.μ k=.nils∧c=.nils∧lo=0∧len=0)∨∃b l cap ex cap' ex',N.μ k=.slc b 0 l cap ex∧c=.slc b (lo*st) len cap' ex'∧lo+len≤l∧(ex'=true→len≤cap'))
 | .clo f caps=>∃ps,c=.fn f ps∧RepCaps N ps caps
def RepPL(N:Nm):List Zc→List PC→Prop
 | [],[]=>True
 |c::cs,p::ps=>RepPC N c p∧RepPL N cs ps
 |_,_=>False
def RepPV(N:Nm):SVal→PV→Prop
 | .one c,.one p=>RepPC N c p
 | .agg cs,.agg ps=>RepPL N cs ps
 |_,_=>False
def RepPA(N:Nm):Zb→PA→Prop
 |_,.bad=>True
 |v,.undef=>v=yh
 | .s v,.s p=>RepPV N v p
 | .tup l,.tup ds=>RepSL N.fz N.h l ds
 |_,_=>False
theorem RepPA.bad{N:Nm}(v:Zb):RepPA N v .bad:=by cases v<;>trivial
theorem RepPA.of{N:Nm}{v:SVal}{p:PV}(H:RepPV N v p):RepPA N (.s v) (.s p):=H
theorem RepPA.inv{N:Nm}{v:Zb}{p:PV}(H:RepPA N v (.s p)):∃w,v=.s w∧RepPV N w p:=by
 cases v with
 |s v=>exact⟨_,rfl,H⟩
 |tup l=>exact H.elim
def RepO(N:Nm)(k:Nat):PO→Prop
 | .box cs=>∃b vs,N.μ k=.ptr b 0∧¬N.fz b∧N.h.t.get b=some (.cells vs 0)∧RepPL N vs cs
 | .arr _ none=>N.μ k=.nils
 | .arr st (some xs)=>∃b vs ex,N.μ k=.slc b 0 xs.length (bif ex then xs.length else 0) ex∧¬N.fz b∧N.h.t.get b=some (.cells vs st)∧vs.length=xs.length*st∧
   ∀(i:Nat) (x:List DV),xs[i]? = some x→x.length=st∧RepL N.fz N.h ((vs.drop (i*st)).take st) x
 | .frz v=>Rep N.fz N.h (N.μ k) v
 | .fbox ds=>∃b,N.μ k=.ptr b 0∧Rep N.fz N.h (.ptr b 0) (.fp ds 0)
 | .mp st xs=>∃b es,N.μ k=.map b∧¬N.fz b∧N.h.t.get b=some (.map es)∧es.length=xs.length∧
   ∀(i:Nat) (e:SVal×SVal) (x:List DV),es[i]? = some e→xs[i]? = some x→RepS N.fz N.h e.1 (kD st x)∧RepS N.fz N.h e.2 (vD st x)
 | .hol none _ _=>False
 | .hol (some xs) n t=>∃b vs ex,N.μ k=.slc b 0 xs.length (bif ex then xs.length else 0) ex∧¬N.fz b∧N.h.t.get b=some (.cells vs 1)∧vs.length=xs.length*1∧n<xs.length∧t<N.n∧N.μ t=.ptr b n∧
   ∀(i:Nat) (x:List DV),i≠n→xs[i]? = some x→x.length=1∧RepL N.fz N.h ((vs.drop (i*1)).take 1) x
 | .lnk m=>m<N.n∧∃b n vs,N.μ k=.ptr b n∧¬N.fz b∧N.h.t.get b=some (.cells vs 1)∧vs[n]? = some (N.μ m)
 | .dead=>True
def live:PO→Prop
 | .box _=>True
 | .arr _ (some _)=>True
 | .mp _ _=>True
 | .hol _ _ _=>True
 |_=>False
def solid:PO→Prop
 | .box _=>True
 | .arr _ (some _)=>True
 | .mp _ _=>True
 |_=>False
theorem solid.live{o:PO}(h:solid o):live o:=by
 cases o with
 |box _=>trivial
 |arr _ v=>cases v with
  |none=>exact h
  |some _=>trivial
 |mp _ _=>trivial
 |_=>exact h.elim
theorem solid.hol{o:PO}(h:solid o)(v:OC)(n t:Nat):o≠.hol v n t:=fun e=>by subst e;exact h
def tied(o:PO):Prop:=live o∨∃m,o=.lnk m
structure Nx (N N':Nm):Prop where
 fg:FG N.fz N.h N'.fz N'.h
 le:N.n≤N'.n
 mu:∀k,k<N.n→N'.μ k=N.μ k
theorem Nx.refl(N:Nm):Nx N N:=⟨FG.refl _ _,LzB _,fun _ _=>rfl⟩
theorem Nx.trans{A B C:Nm}(a:Nx A B)(b:Nx B C):Nx A C:=⟨a.fg.trans b.fg,YzA a.le b.le,fun k hk=>(b.mu k (Lz9 hk a.le)).trans (a.mu k hk)⟩
section
variable {N N':Nm} (g:Nx N N')
include g
theorem RepCap.mono{p:BN×Nat}{x:Nat⊕List DV}(H:RepCap N p x):RepCap N' p x:=by
 cases x with
 |inl k=>exact⟨Lz9 H.1 g.le,(g.mu k H.1).trans H.2.1,H.2.2⟩
 |inr xs=>exact Rep.mono g.fg H
theorem RepCaps.mono:∀{ps:List (BN×Nat)} {xs:List (Nat⊕List DV)},RepCaps N ps xs→RepCaps N' ps xs
 | [],[],_=>trivial
 |_::_,_::_,H=>⟨RepCap.mono g H.1,RepCaps.mono H.2⟩
 | [],_::_,H=>H.elim
 |_::_,[],H=>H.elim
theorem RepPC.mono{c:Zc}{p:PC}(H:RepPC N c p):RepPC N' c p:=by
 cases p with
 |d v=>exact Rep.mono g.fg H
 |own k=>exact⟨Lz9 H.1 g.le,H.2.trans (g.mu k H.1).symm⟩
 |ptr k off=>obtain⟨h1,b,h2,h3⟩:=H;exact⟨Lz9 h1 g.le,b,(g.mu k h1).trans h2,h3⟩
 |ep k st i off=>obtain⟨h1,b,l,cap,ex,h2,h3,h4⟩:=H;exact⟨Lz9 h1 g.le,b,l,cap,ex,(g.mu k h1).trans h2,h3,h4⟩
 |ip k off len st i o=>obtain⟨h1,b,h2,h3,h4⟩:=H;exact⟨Lz9 h1 g.le,b,(g.mu k h1).trans h2,h3,h4⟩
 |vw k st lo len=>obtain⟨h1,h⟩:=H;exact⟨Lz9 h1 g.le,by rw[g.mu k h1];exact h⟩
 |clo f caps=>obtain⟨ps,h1,h2⟩:=H;exact⟨ps,h1,RepCaps.mono g h2⟩
theorem RepPL.mono:∀{cs:List Zc} {ps:List PC},RepPL N cs ps→RepPL N' cs ps
 | [],[],_=>trivial
 |_::_,_::_,H=>⟨RepPC.mono g H.1,RepPL.mono H.2⟩
 | [],_::_,H=>H.elim
 |_::_,[],H=>H.elim
theorem RepPV.mono{v:SVal}{p:PV}(H:RepPV N v p):RepPV N' v p:=by
 cases v<;>cases p<;>simp only[RepPV]at H ⊢
 ·exact RepPC.mono g H
 ·exact RepPL.mono g H
theorem RepPA.mono{v:Zb}{p:PA}(H:RepPA N v p):RepPA N' v p:=by
 cases p with
 |bad=>exact .bad v
 |undef=>cases v<;>exact H
 |s p=>
  obtain⟨w,rfl,h⟩:=H.inv;exact .of (RepPV.mono g h)
 |tup ds=>
  cases v with
  |s v=>exact H.elim
  |tup l=>exact RepSL.mono g.fg H
end
theorem RepPL.len{N:Nm}:∀{cs:List Zc} {ps:List PC},RepPL N cs ps→cs.length=ps.length
 | [],[],_=>rfl
 |_::_,_::_,H=>by simp[RepPL.len H.2]
 | [],_::_,H=>H.elim
 |_::_,[],H=>H.elim
theorem RepPL.get{N:Nm}:∀{cs:List Zc} {ps:List PC},RepPL N cs ps→∀{j:Nat} {c:Zc} {p:PC},cs[j]? = some c→ps[j]? = some p→RepPC N c p
 | [],[],_,j,c,p,hc,_=>by simp at hc
 |c0::cs,p0::ps,H,j,c,p,hc,hp=>by
  cases j with
  |zero=>simp only[Yzg,Option.some.injEq]at hc hp;subst hc;subst hp;exact H.1
  |succ j=>exact RepPL.get H.2 (j:=j) (by simpa using hc) (by simpa using hp)
 | [],_::_,H,_,_,_,_,_=>H.elim
 |_::_,[],H,_,_,_,_,_=>H.elim
theorem RepPL.of{N:Nm}:∀{cs:List Zc} {ps:List PC},cs.length=ps.length→(∀(j:Nat) (c:Zc) (p:PC),cs[j]? = some c→ps[j]? = some p→RepPC N c p)→RepPL N cs ps
 | [],[],_,_=>trivial
 |c::cs,p::ps,hl,H=>⟨H 0 c p rfl rfl,RepPL.of (by simpa using hl) fun j c p hc hp=>H (j+1) c p (by simpa using hc) (by simpa using hp)⟩
 | [],_::_,hl,_=>by simp at hl
 |_::_,[],hl,_=>by simp at hl
theorem RepPL.app{N:Nm}:∀{cs cs':List Zc} {ps ps':List PC},RepPL N cs ps→RepPL N cs' ps'→RepPL N (cs++cs') (ps++ps')
 | [],_,[],_,_,H=>H
 |_::_,_,_::_,_,H,K=>⟨H.1,RepPL.app H.2 K⟩
 | [],_,_::_,_,H,_=>H.elim
 |_::_,_,[],_,H,_=>H.elim
theorem RepPL.take{N:Nm}:∀{cs:List Zc} {ps:List PC} (n:Nat),RepPL N cs ps→RepPL N (cs.take n) (ps.take n)
 |_,_,0,_=>by simp[RepPL]
 | [],[],n+1,_=>by simp[RepPL]
 |_::_,_::_,n+1,H=>⟨H.1,RepPL.take n H.2⟩
 | [],_::_,_+1,H=>H.elim
 |_::_,[],_+1,H=>H.elim
theorem RepPL.drop{N:Nm}:∀{cs:List Zc} {ps:List PC} (n:Nat),RepPL N cs ps→RepPL N (cs.drop n) (ps.drop n)
 |_,_,0,H=>H
 | [],[],n+1,_=>by simp[RepPL]
 |_::_,_::_,n+1,H=>RepPL.drop n H.2
 | [],_::_,_+1,H=>H.elim
 |_::_,[],_+1,H=>H.elim
theorem RepPL.ofD{N:Nm}{cs:List Zc}{ds:List DV}(H:RepL N.fz N.h cs ds):RepPL N cs (ds.map .d):=
 RepPL.of (by simp[H.1]) fun j c p hc hp=>by
  simp only[Lz6,Yz3]at hp;obtain⟨d,hd,rfl⟩:=hp;exact H.2 j c d hc hd
structure En where
 h0:Za
 ok:BN→Prop
 xp:BN→Prop
def En.nw(E:En)(b:BN):Prop:=E.h0.n.toNat≤b.toNat∨E.xp b
structure GrX (E:En) (h:Za):Prop where
 le:E.h0.n.toNat≤h.n.toNat
 old:∀b:BN,b.toNat<E.h0.n.toNat→¬E.xp b→h.t.get b=E.h0.t.get b
theorem GrX.refl{E:En}:GrX E E.h0:=⟨LzB _,fun _ _ _=>rfl⟩
theorem GrX.trans{E:En}{h h':Za}(a:GrX E h)(g:Gr h h'):GrX E h':=⟨YzA a.le g.le,fun b hb hx=>(g.old b (Lz9 hb a.le)).trans (a.old b hb hx)⟩
theorem GrX.put{E:En}{h:Za}(a:GrX E h){b:BN}{o:Ze}(hb:E.nw b):GrX E (h.put b o):=⟨a.le,fun c hc hx=>(xT _ _ fun e=>by
 subst e;rcases hb with h|h
 ·omega
 ·exact hx h).trans (a.old c hc hx)⟩
structure Zf (E:En) (N:Nm) (os:List PO):Prop where
 hw:HW N.h
 gr:GrX E N.h
 fzlt:∀b,N.fz b→b.toNat<N.h.n.toNat
 fzok:∀b,N.fz b→E.ok b∨E.nw b
 fzex:∀b,N.fz b→b.toNat<E.h0.n.toNat∨∃y,N.h.t.get b=some y
 len:N.n=os.length
 own:∀k b,live (og os k)→blk (N.μ k)=some b→E.nw b
 inj:∀k k' b,live (og os k)→live (og os k')→blk (N.μ k)=some b→blk (N.μ k')=some b→k=k'
 obj:∀k,RepO N k (og os k)
 lnk:∀t m,og os t=.lnk m→∃k v n,og os k=.hol v n t
theorem xx{N:Nm}{k:Nat}{o:PO}(hl:live o)(H:RepO N k o):∃b x,blk (N.μ k)=some b∧¬N.fz b∧N.h.t.get b=some x:=by
 cases o with
 |box cs=>obtain⟨b,vs,h1,h2,h3,_⟩:=H;exact⟨b,_,by rw[h1];rfl,h2,h3⟩
 |arr st v=>
  cases v with
  |none=>exact hl.elim
  |some xs=>obtain⟨b,vs,ex,h1,h2,h3,_⟩:=H;exact⟨b,_,by rw[h1];rfl,h2,h3⟩
 |mp st xs=>obtain⟨b,es,h1,h2,h3,_⟩:=H;exact⟨b,_,by rw[h1];rfl,h2,h3⟩
 |hol v n t=>
  cases v with
  |none=>exact H.elim
  |some xs=>obtain⟨b,vs,ex,h1,h2,h3,_⟩:=H;exact⟨b,_,by rw[h1];rfl,h2,h3⟩
 |_=>exact hl.elim
theorem xK{N:Nm}{k:Nat}{o:PO}(hl:tied o)(H:RepO N k o):∃b x,blk (N.μ k)=some b∧¬N.fz b∧N.h.t.get b=some x:=by
 rcases hl with hl|⟨m,rfl⟩
 ·exact xx hl H
 ·obtain⟨_,b,n,vs,h1,h2,h3,_⟩:=H;exact⟨b,_,by rw[h1];rfl,h2,h3⟩
theorem Zf.lnk_blk{E:En}{N:Nm}{os:List PO}(I:Zf E N os){t m:Nat}(h:og os t=.lnk m):∃k v n,og os k=.hol v n t∧blk (N.μ t)=blk (N.μ k):=by
 obtain⟨k,v,n,hk⟩:=I.lnk t m h;have:=I.obj k;rw[hk]at this;cases v with
 |none=>exact this.elim
 |some xs=>
  obtain⟨b,vs,ex,h1,_,_,_,_,_,h8,_⟩:=this;exact⟨k,_,n,hk,by rw[h1,h8];rfl⟩
theorem RepO.mono{N N':Nm}{k:Nat}{o:PO}(g:Nx N N')(hk:N'.μ k=N.μ k)(hb:tied o→∀b,blk (N.μ k)=some b→¬N'.fz b∧N'.h.t.get b=N.h.t.get b)(H:RepO N k o):RepO N' k o:=by
 cases o with
 |box cs=>
  obtain⟨b,vs,h1,h2,h3,h4⟩:=H;obtain⟨k1,k2⟩:=hb (.inl trivial) b (by rw[h1];rfl);exact⟨b,vs,hk.trans h1,k1,k2.trans h3,h4.mono g⟩
 |arr st v=>
  cases v with
  |none=>exact hk.trans H
  |some xs=>
   obtain⟨b,vs,ex,h1,h2,h3,h4,h5⟩:=H;obtain⟨k1,k2⟩:=hb (.inl trivial) b (by rw[h1];rfl);exact⟨b,vs,ex,hk.trans h1,k1,k2.trans h3,h4,fun i x hx=>⟨(h5 i x hx).1,(h5 i x hx).2.mono g.fg⟩⟩
 |frz v=>show Rep _ _ _ _;rw[hk];exact Rep.mono g.fg H
 |fbox ds=>obtain⟨b,h1,h2⟩:=H;exact⟨b,hk.trans h1,h2.mono g.fg⟩
 |mp st xs=>
  obtain⟨b,es,h1,h2,h3,h4,h5⟩:=H;obtain⟨k1,k2⟩:=hb (.inl trivial) b (by rw[h1];rfl);exact⟨b,es,hk.trans h1,k1,k2.trans h3,h4,fun i e x he hx=>⟨(h5 i e x he hx).1.mono g.fg,(h5 i e x he hx).2.mono g.fg⟩⟩
 |hol v n t=>
  cases v with
  |none=>exact H
  |some xs=>
   obtain⟨b,vs,ex,h1,h2,h3,h4,h5,h6,h7,h8⟩:=H;obtain⟨k1,k2⟩:=hb (.inl trivial) b (by rw[h1];rfl);exact⟨b,vs,ex,hk.trans h1,k1,k2.trans h3,h4,h5,Lz9 h6 g.le,(g.mu t h6).trans h7,fun i x hi hx=>⟨(h8 i x hi hx).1,(h8 i x hi hx).2.mono g.fg⟩⟩
 |lnk m=>
  obtain⟨h0,b,n,vs,h1,h2,h3,h4⟩:=H;obtain⟨k1,k2⟩:=hb (.inr ⟨m,rfl⟩) b (by rw[h1];rfl);exact⟨Lz9 h0 g.le,b,n,vs,hk.trans h1,k1,k2.trans h3,by rw[g.mu m h0];exact h4⟩
 |dead=>trivial
def upd(μ:Nat→Zc)(k:Nat)(c:Zc):Nat→Zc:=fun j=>if j=k then c else μ j
theorem Zf.new{E:En}{N:Nm}{os:List PO}(I:Zf E N os)(x:Ze)(o:PO)(c:Zc)(hc:blk c=some N.h.n)
  (ho:RepO ⟨upd N.μ os.length c,os.length+1,N.fz,N.h.new x⟩ os.length o) (hnl:∀m,o≠.lnk m:=by intro m h;cases h):
  Zf E ⟨upd N.μ os.length c,os.length+1,N.fz,N.h.new x⟩ (os++[o])∧Nx N ⟨upd N.μ os.length c,os.length+1,N.fz,N.h.new x⟩∧
   (∀b y,N.h.t.get b=some y→(N.h.new x).t.get b=some y):=by
 have G:=Gr.new N.h x;have old:∀b y,N.h.t.get b=some y→(N.h.new x).t.get b=some y:=fun b y hy=>G.get I.hw hy;have nx:Nx N ⟨upd N.μ os.length c,os.length+1,N.fz,N.h.new x⟩:=⟨⟨fun _ _ h _=>h,fun b y _ hy=>old b y hy⟩,by have:=I.len;show N.n≤os.length+1;omega,fun k hk=>by
  have:=I.len;show (if k=os.length then c else N.μ k)=_;rw[Yzb (by omega)]⟩
 have mu:∀k,k≠os.length→upd N.μ os.length c k=N.μ k:=fun k hk=>by show (if k=os.length then c else N.μ k)=_;rw[Yzb hk]
 have muL:upd N.μ os.length c os.length=c:=by show (if os.length=os.length then c else _)=_;rw[Yzd rfl]
 have lt:∀k b,live (og os k)→blk (N.μ k)=some b→b.toNat<N.h.n.toNat:=fun k b hl hb=>by
  obtain⟨b',x',h1,_,h3⟩:=xx hl (I.obj k);rw[h1]at hb;cases hb;exact I.hw _ _ h3
 refine⟨⟨I.hw.new x,I.gr.trans G,fun b hb=>Lz9 (I.fzlt b hb) G.le,I.fzok,fun b hb=>(I.fzex b hb).imp id fun⟨y,hy⟩=>⟨y,old b y hy⟩,by simp,?_,?_,?_,?_⟩,nx,old⟩
 ·intro k b hl hb;rw[yY]at hl;by_cases hk:k=os.length
  ·subst hk;rw[show (Nm.mk (upd N.μ os.length c) (os.length+1) N.fz (N.h.new x)).μ os.length=c from muL,hc]at hb;cases hb;exact .inl I.gr.le
  ·rw[Yzb hk]at hl;rw[show (Nm.mk (upd N.μ os.length c) (os.length+1) N.fz (N.h.new x)).μ k=N.μ k from mu k hk]at hb;exact I.own k b hl hb
 ·intro k k' b hl hl' hb hb';rw[yY]at hl hl';simp only at hb hb';by_cases hk:k=os.length<;>by_cases hk':k'=os.length
  ·rw[hk,hk']
  ·subst hk;rw[muL,hc]at hb;rw[Yzb hk']at hl';rw[mu k' hk']at hb';cases hb;have:=lt k' _ hl' hb';omega
  ·subst hk';rw[muL,hc]at hb';rw[Yzb hk]at hl;rw[mu k hk]at hb;cases hb';have:=lt k _ hl hb;omega
  ·rw[Yzb hk]at hl;rw[Yzb hk']at hl';rw[mu k hk]at hb;rw[mu k' hk']at hb';exact I.inj k k' b hl hl' hb hb'
 ·intro k;rw[yY];by_cases hk:k=os.length
  ·rw[Yzd hk,hk];exact ho
  ·rw[Yzb hk];refine (I.obj k).mono nx (mu k hk) fun hl b hb=>?_;obtain⟨b',x',h1,h2,h3⟩:=xK hl (I.obj k);rw[h1]at hb;cases hb;exact⟨h2,(old _ _ h3).trans h3.symm⟩
 ·intro t m ht;rw[yY]at ht;by_cases hk:t=os.length
  ·rw[Yzd hk]at ht;exact absurd ht (hnl m)
  ·rw[Yzb hk]at ht;obtain⟨k,v,n,h⟩:=I.lnk t m ht;have hl:k<os.length:=un (by rw[h];intro e;cases e);exact⟨k,v,n,by rw[yY,Yzb (by omega)];exact h⟩
theorem Zf.put{E:En}{N:Nm}{os:List PO}(I:Zf E N os){k:Nat}(hs:solid (og os k)){b:BN}(hb:blk (N.μ k)=some b)(x:Ze)(o:PO)
  (ho:RepO ⟨N.μ,N.n,N.fz,N.h.put b x⟩ k o) (hnl:∀m,o≠.lnk m:=by intro m h;cases h):Zf E ⟨N.μ,N.n,N.fz,N.h.put b x⟩ (oset o os k)∧Nx N ⟨N.μ,N.n,N.fz,N.h.put b x⟩∧(∀b' y,N.h.t.get b'=some y→b'≠b→(N.h.put b x).t.get b'=some y):=by
 have hl:=hs.live;obtain⟨b0,x0,h1,h2,h3⟩:=xx hl (I.obj k);rw[h1]at hb;cases hb;have hk:k<os.length:=un (by intro e;rw[e]at hl;exact hl);have old:∀b' y,N.h.t.get b'=some y→b'≠b→(N.h.put b x).t.get b'=some y:=fun b' y hy hne=>by rw[xT _ _ hne];exact hy
 have nx:Nx N ⟨N.μ,N.n,N.fz,N.h.put b x⟩:=⟨⟨fun _ _ h _=>h,fun b' y hf hy=>old b' y hy (fun e=>h2 (e▸hf))⟩,LzB _,fun _ _=>rfl⟩;refine⟨⟨HW.put I.hw h3,I.gr.put (I.own k b hl h1),I.fzlt,I.fzok,fun b' hb'=>(I.fzex b' hb').imp id fun⟨y,hy⟩=>⟨y,old b' y hy (fun e=>h2 (e▸hb'))⟩,I.len.trans (yf o os k).symm,?_,?_,?_,?_⟩,nx,old⟩
 ·intro j b' hl' hb';by_cases hj:j=k
  ·subst hj;exact I.own j b' hl hb'
  ·rw[zJ,Yzb (fun e=>hj e.1)]at hl';exact I.own j b' hl' hb'
 ·intro j j' b' hl1 hl2 hb1 hb2;have t:∀i,live (og (oset o os k) i)→live (og os i):=fun i hi=>by
   by_cases hj:i=k
   ·subst hj;exact hl
   ·rwa [zJ,Yzb (fun e=>hj e.1)]at hi
  exact I.inj j j' b' (t j hl1) (t j' hl2) hb1 hb2
 ·intro j;by_cases hj:j=k
  ·subst hj;rw[zJ,Yzd ⟨rfl,hk⟩];exact ho
  ·rw[zJ,Yzb (fun e=>hj e.1)];refine (I.obj j).mono nx rfl fun hlj b' hb'=>?_;obtain⟨b1,x1,k1,k2,k3⟩:=xK hlj (I.obj j);rw[k1]at hb';cases hb';have hne:b'≠b:=fun e=>by
    rcases hlj with hlj|⟨m,hm⟩
    ·exact hj (I.inj j k b' hlj hl k1 (by rw[e];exact h1))
    ·obtain⟨k',v,n,q1,q2⟩:=I.lnk_blk hm;have:=I.inj k' k b' (by rw[q1];trivial) hl (by rw[←q2];exact k1) (by rw[e];exact h1);subst this;exact hs.hol v n j q1
   exact⟨k2,xT _ _ hne⟩
 ·intro t m ht;rw[zJ]at ht;split at ht
  ·exact absurd ht (hnl m)
  ·obtain⟨k',v,n,h⟩:=I.lnk t m ht;exact⟨k',v,n,by rw[zJ,Yzb (fun e=>hs.hol v n t (by rw[←e.1];exact h))];exact h⟩
theorem Zf.freeze{E:En}{N:Nm}{os:List PO}(I:Zf E N os){k:Nat}(hs:solid (og os k)){b:BN}(hb:blk (N.μ k)=some b)(o:PO)(hno:¬live o)
  (ho:RepO ⟨N.μ,N.n,fun b'=>N.fz b'∨b'=b,N.h⟩ k o) (hnl:∀m,o≠.lnk m:=by intro m h;cases h):Zf E ⟨N.μ,N.n,fun b'=>N.fz b'∨b'=b,N.h⟩ (oset o os k)∧Nx N ⟨N.μ,N.n,fun b'=>N.fz b'∨b'=b,N.h⟩:=by
 have hl:=hs.live;obtain⟨b0,x0,h1,h2,h3⟩:=xx hl (I.obj k);rw[h1]at hb;cases hb;have hk:k<os.length:=un (by intro e;rw[e]at hl;exact hl);have nx:Nx N ⟨N.μ,N.n,fun b'=>N.fz b'∨b'=b,N.h⟩:=⟨⟨fun _ _ h _=>.inl h,fun _ _ _ hy=>hy⟩,LzB _,fun _ _=>rfl⟩;have t:∀i,live (og (oset o os k) i)→i≠k∧live (og os i):=fun i hi=>by
  by_cases hj:i=k
  ·subst hj;rw[zJ,Yzd ⟨rfl,hk⟩]at hi;exact(hno hi).elim
  ·rw[zJ,Yzb (fun e=>hj e.1)]at hi;exact⟨hj,hi⟩
 refine⟨⟨I.hw,I.gr,fun b' hb'=>hb'.elim (I.fzlt b') (fun e=>by rw[e];exact I.hw _ _ h3),fun b' hb'=>hb'.elim (I.fzok b') (fun e=>.inr (by rw[e];exact I.own k b hl h1)),fun b' hb'=>hb'.elim (I.fzex b') (fun e=>.inr ⟨x0,by rw[e];exact h3⟩),I.len.trans (yf o os k).symm,?_,?_,?_,?_⟩,nx⟩
 ·intro j b' hl' hb';exact I.own j b' (t j hl').2 hb'
 ·intro j j' b' hl1 hl2 hb1 hb2;exact I.inj j j' b' (t j hl1).2 (t j' hl2).2 hb1 hb2
 ·intro j;by_cases hj:j=k
  ·subst hj;rw[zJ,Yzd ⟨rfl,hk⟩];exact ho
  ·rw[zJ,Yzb (fun e=>hj e.1)];refine (I.obj j).mono nx rfl fun hlj b' hb'=>?_;obtain⟨b1,x1,k1,k2,k3⟩:=xK hlj (I.obj j);rw[k1]at hb';cases hb';refine⟨fun e=>e.elim k2 (fun e=>?_),rfl⟩;rcases hlj with hlj|⟨m,hm⟩
   ·exact hj (I.inj j k b' hlj hl k1 (by rw[e];exact h1))
   ·obtain⟨k',v,n,q1,q2⟩:=I.lnk_blk hm;have:=I.inj k' k b' (by rw[q1];trivial) hl (by rw[←q2];exact k1) (by rw[e];exact h1);subst this;exact hs.hol v n j q1
 ·intro t' m ht;rw[zJ]at ht;split at ht
  ·exact absurd ht (hnl m)
  ·obtain⟨k',v,n,h⟩:=I.lnk t' m ht;exact⟨k',v,n,by rw[zJ,Yzb (fun e=>hs.hol v n t' (by rw[←e.1];exact h))];exact h⟩
theorem Zf.turn{E:En}{N:Nm}{os:List PO}(I:Zf E N os)(k:Nat)(o:PO)(hno:¬live o)(ho:RepO N k o)(hnh:∀v n t,og os k≠.hol v n t)(hnl:∀m,o≠.lnk m:=by intro m h;cases h):Zf E N (oset o os k):=by
 have t:∀i,live (og (oset o os k) i)→live (og os i):=fun i hi=>by
  rw[zJ]at hi;split at hi
  ·exact(hno hi).elim
  ·exact hi
 refine⟨I.hw,I.gr,I.fzlt,I.fzok,I.fzex,I.len.trans (yf o os k).symm,fun j b' hl' hb'=>I.own j b' (t j hl') hb',fun j j' b' hl1 hl2 hb1 hb2=>I.inj j j' b' (t j hl1) (t j' hl2) hb1 hb2,fun j=>?_,fun j m hm=>?_⟩
 ·rw[zJ];split
  ·rename_i e;rw[e.1];exact ho
  ·exact I.obj j
 ·rw[zJ]at hm;split at hm
  ·exact absurd hm (hnl m)
  ·obtain⟨k',v,n,h⟩:=I.lnk j m hm;exact⟨k',v,n,by rw[zJ,Yzb (fun e=>hnh v n j (by rw[←e.1];exact h))];exact h⟩
theorem Zf.grow{E:En}{N:Nm}{os:List PO}(I:Zf E N os){h':Za}(hw:HW h')(G:Gr N.h h'):
  Zf E ⟨N.μ,N.n,fun b=>N.fz b∨(N.h.n.toNat≤b.toNat∧∃y,h'.t.get b=some y),h'⟩ os∧Nx N ⟨N.μ,N.n,fun b=>N.fz b∨(N.h.n.toNat≤b.toNat∧∃y,h'.t.get b=some y),h'⟩:=by
 have nx:Nx N ⟨N.μ,N.n,fun b=>N.fz b∨(N.h.n.toNat≤b.toNat∧∃y,h'.t.get b=some y),h'⟩:=⟨⟨fun _ _ h _=>.inl h,fun b y _ hy=>G.get I.hw hy⟩,LzB _,fun _ _=>rfl⟩;refine⟨⟨hw,I.gr.trans G,fun b hb=>hb.elim (fun h=>Lz9 (I.fzlt b h) G.le) (fun h=>by obtain⟨_,y,hy⟩:=h;exact hw b y hy),fun b hb=>hb.elim (I.fzok b) (fun h=>.inr (.inl (YzA I.gr.le h.1))),fun b hb=>hb.elim (fun h=>(I.fzex b h).imp id fun⟨y,hy⟩=>⟨y,G.get I.hw hy⟩) (fun h=>.inr h.2),I.len,I.own,I.inj,fun k=>?_,I.lnk⟩,nx⟩;refine (I.obj k).mono nx rfl fun hl b hb=>?_;obtain⟨b',x',h1,h2,h3⟩:=xK hl (I.obj k);rw[h1]at hb;cases hb;exact⟨fun e=>e.elim h2 (fun e=>absurd (I.hw _ _ h3) (by omega)),(G.get I.hw h3).trans h3.symm⟩
end Go.PE
end
section
namespace Go.PE
open Go Go.CE
def oD:Option Zc→Option DV
 |some (.int k n)=>some (.int k n)
 |some (.bool b)=>some (.bool b)
 |some (.str s)=>some (.str s)
 |_=>none
def zwJ(op:BinOp):DV→DV→Option DV
 | .int k a,.int k' b=>bif eqK k k' then oD (ur op k a b) else none
 |_,_=>none
def wy(l:Bool):DV→DV→Option DV
 | .int k a,.int _ b=>oD ((bif l then zeU else zeT) k a b)
 |_,_=>none
def zx2(op:BinOp):DV→DV→Option DV
 | .str a,.str b=>oD (zpR op a b)
 |_,_=>none
def eqD:Nat→DV→DV→Option Bool
 |1,.int k a,.int k' b=>bif eqK k k' then some (eqI a b) else none
 |2,.str a,.str b=>some (a.data.toList==b.data.toList)
 |0,.bool a,.bool b=>some (a==b)
 |_,_,_=>none
def zxx:List Nat→List DV→List DV→Option Bool
 | [],[],[]=>some true
 |k::ks,x::xs,y::ys=>
  match eqD k x y with
  |some true=>zxx ks xs ys
  |some false=>some false
  |none=>none
 |_,_,_=>none
def zxd:DV→Option DV
 | .bool q=>some (.bool (!q))
 |_=>none
def zyY:DV→Option DV
 | .int k n=>some (.int k (wv k (Int.sub 0 n)))
 |_=>none
def yQ(k:IntKind):DV→Option DV
 | .int _ n=>some (.int k (wv k n))
 |_=>none
def zrB:DV→DV→DV→Option DV
 | .bool q,a,b=>some (bif q then a else b)
 |_,_,_=>none
def zep:DV→Option Bool
 | .nils=>some true
 | .lst _ _=>some false
 |_=>none
def zwP(st:Nat):DV→DV→Option (List DV)
 | .lst st' xs,.int _ (.ofNat i)=>bif Nat.beq st st' then xs[i]? else none
 |_,_=>none
def xA(v:OC):DV→Option Nat
 | .int _ (.ofNat i)=>match v with|some xs=>bif Nat.ble (Nat.succ i) xs.length then some i else none|none=>none
 |_=>none
def ul(len:Nat):DV→Option Nat
 | .int _ (.ofNat i)=>bif Nat.ble (Nat.succ i) len then some i else none
 |_=>none
def zxb(x:Option DV)(d y:Nat):Option Nat:=
 match x with
 |none=>some d
 |some (.int _ (.ofNat i))=>bif Nat.ble i y then some i else none
 |_=>none
def jk(st:Nat)(v:DV)(lo hi:Option DV):Option DV:=
 match v with
 | .nils=>match zxb hi 0 0,zxb lo 0 0 with|some _,some _=>some .nils|_,_=>none
 | .lst st' xs=>
  bif Nat.beq st st' then
   match zxb hi xs.length xs.length with
   |some hh=>
    match zxb lo 0 hh with
    |some l=>bif Nat.beq l 0 || !Nat.beq l hh then some (.lst st ((xs.drop l).take (hh-l))) else none
    |none=>none
   |none=>none
  else none
 |_=>none
def vwB(lo hi:Option DV)(y:Nat):Option (Nat×Nat):=
 match zxb hi y y with
 |some hh=>
  match zxb lo 0 hh with
  |some l=>bif Nat.beq l 0 || !Nat.beq l hh then some (l,hh-l) else none
  |none=>none
 |none=>none
def zhg(st lo len:Nat):DV→DV
 | .nils=>.nils
 | .lst st' xs=>bif Nat.beq st st' then .lst st' ((xs.drop lo).take len) else .u
 |_=>.u
def zwO:DV→Option DV
 | .nils=>some (.int .i64 (.ofNat 0))
 | .lst _ xs=>some (.int .i64 (.ofNat xs.length))
 |_=>none
def zwW:OC→Nat
 |none=>0
 |some xs=>xs.length
def zku:DV→Option DV
 | .str s=>some (.int .i64 (.ofNat s.size))
 |_=>none
def zh7:List UInt8→Nat→Option DV
 | [],_=>none
 |c::cs,i=>bif Nat.beq i 0 then some (.int .u8 (.ofNat c.toNat)) else zh7 cs (Nat.sub i 1)
def zaY:DV→DV→Option DV
 | .str s,.int _ (.ofNat i)=>zh7 s.data.toList i
 |_,_=>none
def zhh(v:DV)(lo hi:Option DV):Option DV:=
 match v with
 | .str s=>
  match zxb hi s.size s.size with
  |some hh=>
   match zxb lo 0 hh with
   |some l=>some (.str (s.extract l hh))
   |none=>none
  |none=>none
 |_=>none
def jn(st:Nat):DV→Option (List (List DV))
 | .nils=>some []
 | .lst st' xs=>bif Nat.beq st st' then some xs else none
 |_=>none
def zQ:OC→List (List DV)
 |none=>[]
 |some xs=>xs
def zyf(v:OC)(new:List (List DV)):OC:=
 match new with
 | []=>v
 |x::l=>some (zQ v++(x::l))
def zky:List (List DV)→Option (List Int)
 | []=>some []
 | [.int .u8 n]::cs=>match zky cs with|some l=>some (n::l)|none=>none
 |_=>none
def zx3:DV→Option DV
 | .nils=>some (.str ByteArray.empty)
 | .lst 1 xs=>match zky xs with|some ns=>some (.str (zbR ns ByteArray.empty))|none=>none
 |_=>none
def minD(isMax:Bool)(k:IntKind):List DV→Int→Option Int
 | [],x=>some x
 | .int k' y::r,x=>bif eqK k k' then minD isMax k r (bif isMax then(bif ltI x y then y else x) else(bif ltI y x then y else x)) else none
 |_::_,_=>none
def uK(isMax:Bool)(v:DV)(l:List DV):Option DV:=
 match v with
 | .int k n=>match minD isMax k l n with|some m=>some (.int k m)|none=>none
 |_=>none
def zw7(v:OC)(i:Nat):Option (List DV):=match v with|some xs=>xs[i]? |none=>none
def zyT(st:Nat)(v:OC)(i off:Nat)(ds:List DV):Option OC:=
 match v with
 |some xs=>
  match xs[i]? with
  |some x=>bif Nat.ble (off+ds.length) st then some (some (xs.set i (x.take off++ds++x.drop (off+ds.length)))) else none
  |none=>none
 |none=>none
section
variable {α β:Type}
def za(o:Option α)(k:α→Option β):Option β:=match o with|some a=>k a|none=>none
def ifB(v:DV)(a b:Option β):Option β:=match v with | .bool q=>bif q then a else b|_=>none
def gd(b:Bool)(k:Option β):Option β:=bif b then k else none
def gdN(v:DV)(k:Option β):Option β:=match v with | .nils=>k|_=>none
def w1(a:Option PA)(k:PC→Option β):Option β:=match a with|some (.s (.one c))=>k c|_=>none
def wd(a:Option PA)(k:DV→Option β):Option β:=match a with|some (.s (.one (.d v)))=>k v|_=>none
inductive Sh where
 |one
 |agg (n:Nat)
 |tup (l:List (Option Nat))
 |no
 |sc
 |tsc (n:Nat)
def b1(r:Option DA)(k:DV→Option β):Option β:=match r with|some (.s (.one d))=>k d|_=>none
def bA(n:Nat)(r:Option DA)(k:List DV→Option β):Option β:=match r with|some (.s (.agg l))=>bif Nat.beq l.length n then k l else none|_=>none
def okT:List (Option Nat)→List DS→Bool
 | [],[]=>true
 |none::shs,.one _::l=>okT shs l
 |some n::shs,.agg ds::l=>Nat.beq ds.length n&&okT shs l
 |_,_=>false
def bT(shs:List (Option Nat))(r:Option DA)(k:List DS→Option β):Option β:=match r with|some (.tup l)=>bif okT shs l then k l else none|_=>none
def bN(r:Option DA)(k:Option β):Option β:=match r with|some _=>k|none=>none
def zfA:DV→Bool
 | .bool _=>true
 | .int _ _=>true
 | .str _=>true
 |_=>false
def zlI:List DS→Bool
 | []=>true
 | .one d::l=>zfA d&&zlI l
 |_::_=>false
def zfS:Nat→List (Option Nat)
 |0=>[]
 |n+1=>none::zfS n
def b1s(r:Option DA)(k:DV→Option β):Option β:=match r with|some (.s (.one d))=>bif zfA d then k d else none|_=>none
def bTs(n:Nat)(r:Option DA)(k:List DS→Option β):Option β:=match r with|some (.tup l)=>bif okT (zfS n) l&&zlI l then k l else none|_=>none
def zwV:List DS→Nat→DS
 | [],_=>.one .u
 |d::l,i=>bif Nat.beq i 0 then d else zwV l (Nat.sub i 1)
def dsO:DS→DV
 | .one d=>d
 | .agg _=>.u
def dsA:DS→List DV
 | .agg l=>l
 | .one _=>[]
def zbm(l:List DS):List (Option Nat)→Nat→List DS
 | [],_=>[]
 |none::shs,i=>.one (dsO (zwV l i))::zbm l shs (Nat.succ i)
 |some n::shs,i=>.agg (exp (dsA (zwV l i)) n 0)::zbm l shs (Nat.succ i)
end
def cD:Zc→Option DV
 | .bool b=>some (.bool b)
 | .int k n=>some (.int k n)
 | .str s=>some (.str s)
 | .nilp=>some .nilp
 | .nils=>some .nils
 | .nilm=>some .nilm
 | .nilf=>some .nilf
 | .nili=>some .nili
 | .fn f []=>some (.fn f [])
 |_=>none
def cDs:List Zc→Option (List PC)
 | []=>some []
 |c::cs=>
  match cD c,cDs cs with
  |some d,some ds=>some (.d d::ds)
  |_,_=>none
def pvS:SVal→Option PV
 | .one c=>match cD c with|some d=>some (.one (.d d))|none=>none
 | .agg cs=>match cDs cs with|some ds=>some (.agg ds)|none=>none
def pv(ρ:Nat→PA):Operand→Option PA
 | .tmp t=>some (ρ t)
 | .const v=>match zxX v with|some s=>(match pvS s with|some p=>some (.s p)|none=>none)|none=>none
 | .func f=>some (.s (.one (.d (.fn f []))))
 | .global _=>none
def pvs(ρ:Nat→PA):List Operand→Option (List PA)
 | []=>some []
 |x::xs=>
  match pv ρ x,pvs ρ xs with
  |some a,some l=>some (a::l)
  |_,_=>none
def pvo(ρ:Nat→PA):Option Operand→Option (Option DV)
 |none=>some none
 |some x=>match pv ρ x with|some (.s (.one (.d v)))=>some (some v)|_=>none
def pvd(ρ:Nat→PA):List Operand→Option (List DV)
 | []=>some []
 |x::xs=>
  match pv ρ x,pvd ρ xs with
  |some (.s (.one (.d v))),some l=>some (v::l)
  |_,_=>none
def zgd(ρ:Nat→PA):List (Nat×Nat×Operand)→List PC→Option (List PC)
 | [],cs=>some cs
 |(off,size,x)::rest,cs=>
  match pv ρ x with
  |some (.s v)=>bif Nat.beq v.cells.length size&&Nat.ble (off+size) cs.length then zgd ρ rest (cs.take off++v.cells++cs.drop (off+size)) else none
  |_=>none
mutual
def frC(lk:Nat→Bool):Nat→List PO→PC→Option (List PO×DV)
 |_,os,.d v=>some (os,v)
 |_,os,.own k=>
  match og os k with
  | .frz v=>some (os,v)
  | .arr st v=>bif lk k then none else some (oset (.frz (mkL st v)) os k,mkL st v)
  |_=>none
 |n+1,os,.ptr k off=>
  match og os k with
  | .fbox ds=>some (os,.fp ds off)
  | .box cs=>
   bif lk k then none else
   match frL lk n os cs with
   |some (os',ds)=>
    match og os' k with
    | .box cs'=>bif Nat.beq cs'.length cs.length then some (oset (.fbox ds) os' k,.fp ds off) else none
    |_=>none
   |none=>none
  |_=>none
 |_+1,os,.vw k st lo len=>
  match og os k with
  | .frz v=>some (os,zhg st lo len v)
  | .arr st' v=>bif lk k then none else some (oset (.frz (mkL st' v)) os k,zhg st lo len (mkL st' v))
  |_=>none
 |n+1,os,.clo f caps=>
  match frK lk n os caps with
  |some (os',l)=>some (os',.fn f l)
  |none=>none
 |_,_,_=>none
def frL(lk:Nat→Bool):Nat→List PO→List PC→Option (List PO×List DV)
 |_,os,[]=>some (os,[])
 |n,os,c::cs=>
  match n with
  |0=>none
  |n+1=>
   match frC lk n os c with
   |some (os',d)=>
    match frL lk n os' cs with
    |some (os'',ds)=>some (os'',d::ds)
    |none=>none
   |none=>none
def frK(lk:Nat→Bool):Nat→List PO→List (Nat⊕List DV)→Option (List PO×List (List DV))
 |_,os,[]=>some (os,[])
 |n,os,c::cs=>
  match n with
  |0=>none
  |n+1=>
   match (match c with | .inl k=>frC lk n os (.ptr k 0) | .inr xs=>some (os,.fp xs 0)) with
   |some (os',.fp x 0)=>
    match frK lk n os' cs with
    |some (os'',xs)=>some (os'',x::xs)
    |none=>none
   |_=>none
end
def y7:Nat:=100
def frV(lk:Nat→Bool)(os:List PO):PV→Option (List PO×DS)
 | .one c=>match frC lk y7 os c with|some (os',d)=>some (os',.one d)|none=>none
 | .agg cs=>match frL lk y7 os cs with|some (os',ds)=>some (os',.agg ds)|none=>none
def frA(lk:Nat→Bool)(os:List PO):List PA→Option (List PO×List DA)
 | []=>some (os,[])
 | .s v::l=>
  match frV lk os v with
  |some (os',d)=>
   match frA lk os' l with
   |some (os'',ds)=>some (os'',.s d::ds)
   |none=>none
  |none=>none
 |_::_=>none
abbrev KT(β:Type):=PA→List PO→List Nat→List Nat→Option β
abbrev Orc:=Nat→List DA→Option DA
abbrev und:PA:=.bad
abbrev pd(v:DV):PA:=.s (.one (.d v))
abbrev pc(c:PC):PA:=.s (.one c)
def zxi(O:Orc)(v:DV)(ds:List DA):Option DA:=
 match v with
 | .fn g caps=>O g (ds++caps.map fun x=>.s (.one (.fp x 0)))
 |_=>none
def mkN(bytes:Nat)(l c:DV):Option Nat:=
 match l,c with
 | .int _ (.ofNat l),.int _ (.ofNat c)=>bif Nat.beq l c&&Nat.ble c 1073741824&&Nat.ble (bytes*c) 281474976710656 then some l else none
 |_,_=>none
def zzK:DV→Option DV
 | .str s=>some (.lst 1 (s.data.toList.map fun c=>[.int .u8 (.ofNat c.toNat)]))
 |_=>none
def chunks(st:Nat):Nat→List DV→List (List DV)
 |0,_=>[]
 |n+1,ds=>ds.take st::chunks st n (ds.drop st)
def zxV:List PC→Option (List DV)
 | []=>some []
 | .d v::cs=>match zxV cs with|some l=>some (v::l)|none=>none
 |_=>none
def zzz(cs:List PC)(st:Nat):Nat→Nat→Option (List DV)
 |0,_=>some []
 |n+1,off=>
  match cs[off]?,zzz cs st n (off+st) with
  |some (.d v),some l=>some (v::l)
  |_,_=>none
def ipC(cs:List PC)(st len i:Nat):Nat→Nat→Option (List PC)
 |0,_=>some []
 |m+1,off=>
  match zzz cs st len off,ipC cs st len i m (Nat.succ off) with
  |some l,some r=>some (.d (atD l i)::r)
  |_,_=>none
def zbh{β:Type}(n:Option Nat)(cs:List PC)(off:Nat)(k:PV→Option β):Option β:=
 match n with
 |none=>za cs[off]? fun c=>k (.one c)
 |some m=>bif Nat.ble (off+m) cs.length then k (.agg ((cs.drop off).take m)) else none
def zfK{β:Type}(n:Option Nat)(cs:List PC)(off:Nat)(k:PV→Option β):Option β:=
 match n with
 |some 0=>none
 |n=>zbh n cs off k
def znR(ρ:Nat→PA):List Operand→Option (List (Nat⊕List DV))
 | []=>some []
 |x::xs=>
  match pv ρ x,znR ρ xs with
  |some (.s (.one (.ptr k 0))),some l=>some (.inl k::l)
  |some (.s (.one (.d (.fp y 0)))),some l=>some (.inr y::l)
  |_,_=>none
def bSh{β:Type}(sh:Sh)(r:Option DA)(k:PA→Option β):Option β:=
 match sh with
 | .one=>b1 r fun d=>k (pd d)
 | .agg n=>bA n r fun l=>k (.s (.agg ((exp l n 0).map .d)))
 | .tup shs=>bT shs r fun l=>k (.tup (zbm l shs 0))
 | .no=>bN r (k und)
 | .sc=>b1 r fun d=>k (pd d)
 | .tsc n=>bT (zfS n) r fun l=>k (.tup (zbm l (zfS n) 0))
def zyP{β:Type}(sh:Sh)(r:Option DA)(k:PA→Option β):Option β:=
 match sh with
 | .sc=>b1s r fun d=>k (pd d)
 | .tsc n=>bTs n r fun l=>k (.tup (zbm l (zfS n) 0))
 |_=>none
def zzJ:Sh→Bool
 | .sc=>true
 | .tsc _=>true
 |_=>false
def lvO:PO→Bool
 | .box _=>true
 | .arr _ _=>true
 | .mp _ _=>true
 |_=>false
def zzD(os:List PO):List (Nat⊕List DV)→Bool
 | []=>false
 | .inl k::l=>lvO (og os k)||zzD os l
 | .inr _::l=>zzD os l
def zzn(os:List PO):PC→Bool
 | .own k=>lvO (og os k)
 | .ptr k _=>lvO (og os k)
 | .vw k _ _ _=>lvO (og os k)
 | .clo _ caps=>zzD os caps
 |_=>false
def zAg(os:List PO):List PC→Bool
 | []=>false
 |c::l=>zzn os c||zAg os l
def zyR(os:List PO):List PA→Bool
 | []=>false
 | .s v::l=>zAg os v.cells||zyR os l
 |_::l=>zyR os l
def zzG{β:Type}(os:List PO)(st:Nat)(c:PC)(k:List (List DV)→Option β):Option β:=
 match c with
 | .d v=>za (jn st v) k
 | .own j=>
  match og os j with
  | .arr st' v=>bif Nat.beq st st' then k (zQ v) else none
  | .frz v=>za (jn st v) k
  |_=>none
 |_=>none
variable {β:Type}
def zmc(os:List PO)(n:Option Nat)(c:PC)(k:KT β):Option β:=
 match c with
 | .ptr j off=>
  match og os j with
  | .box cs=>zbh n cs off fun v=>k (.s v) os [] [j]
  | .fbox ds=>zfK n (ds.map .d) off fun v=>k (.s v) os [] [j]
  |_=>none
 | .d (.fp xs off)=>zfK n (xs.map .d) off fun v=>k (.s v) os [] []
 | .ep j st i off=>
  match og os j with
  | .arr st' v=>bif Nat.beq st st' then za (zw7 v i) fun x=>zbh n ((exp x st 0).map .d) off fun v=>k (.s v) os [] [j] else none
  | .hol _ hn t=>
   match n with
   |none=>
    match og os t with
    | .lnk m=>bif Nat.beq st 1&&Nat.beq off 0 then gd (Nat.beq i hn) (k (pc (.own m)) os [] [j]) else none
    |_=>none
   |some _=>none
  |_=>none
 | .ip j off len st i o=>
  match og os j with
  | .box cs=>
   match n with
   |none=>za (ipC cs st len i 1 (off+o)) fun l=>match l with | [c]=>k (pc c) os [] [j]|_=>none
   |some m=>bif Nat.beq m 0 then none else za (ipC cs st len i m (off+o)) fun l=>k (.s (.agg l)) os [] [j]
  |_=>none
 |_=>none
def zmb(lk:Nat→Bool)(os:List PO)(n:Nat)(c:PC)(v:PV)(k:KT β):Option β:=
 bif Nat.beq v.cells.length n then
  match c with
  | .ptr j off=>
   match og os j with
   | .box cs=>bif lk j then none else bif Nat.ble (off+n) cs.length then k und (oset (.box (cs.take off++v.cells++cs.drop (off+n))) os j) [j] [] else none
   |_=>none
  | .ip j off _len st i o=>
   match og os j with
   | .box cs=>bif lk j then none else bif Nat.ble (off+i*st+o+n) cs.length then k und (oset (.box (cs.take (off+i*st+o)++v.cells++cs.drop (off+i*st+o+n))) os j) [j] [] else none
   |_=>none
  | .ep j st i off=>
   match og os j with
   | .hol _ hn t=>
    match v with
    | .one (.own m)=>
     match og os t with
     | .lnk _=>bif lk t then none else bif Nat.beq st 1&&Nat.beq off 0 then gd (Nat.beq i hn) (k und (oset (.lnk m) os t) [j] []) else none
     |_=>none
    |_=>none
   |_=>
   bif lk j then none else
   za (frL lk y7 os v.cells) fun p=>
   match og p.1 j with
   | .arr st' w=>bif Nat.beq st st' then za (zyT st w i off p.2) fun w'=>k und (oset (.arr st w') p.1 j) [j] [] else none
   |_=>none
  |_=>none
 else none
def zyZ(os:List PO)(st:Nat)(c:PC)(i:DV)(k:KT β):Option β:=
 match c with
 | .d v=>za (zwP st v i) fun x=>k (pd (.fp (exp x st 0) 0)) os [] []
 | .own j=>
  match og os j with
  | .frz v=>za (zwP st v i) fun x=>k (pd (.fp (exp x st 0) 0)) os [] []
  | .arr st' v=>bif Nat.beq st st' then za (xA v i) fun n=>k (pc (.ep j st n 0)) os [] [] else none
  | .hol v _ _=>bif Nat.beq st 1 then za (xA v i) fun n=>k (pc (.ep j st n 0)) os [] [] else none
  |_=>none
 | .vw j st' lo len=>
  match og os j with
  | .frz v=>za (zwP st (zhg st' lo len v) i) fun x=>k (pd (.fp (exp x st 0) 0)) os [] []
  | .arr _ _=>bif Nat.beq st st' then za (ul len i) fun n=>k (pc (.ep j st (lo+n) 0)) os [] [] else none
  |_=>none
 |_=>none
def zen(os:List PO)(st:Nat)(c:PC)(lo hi:Option DV)(k:KT β):Option β:=
 match c with
 | .own j=>
  match og os j with
  | .arr st' v=>bif Nat.beq st st' then za (vwB lo hi (zwW v)) fun p=>k (pc (.vw j st p.1 p.2)) os [] [] else none
  | .frz v=>za (jk st v lo hi) fun z=>k (pd z) os [] []
  |_=>none
 | .vw j st' l n=>bif Nat.beq st st' then za (vwB lo hi n) fun p=>k (pc (.vw j st (l+p.1) p.2)) os [] [] else none
 | .d v=>za (jk st v lo hi) fun z=>k (pd z) os [] []
 |_=>none
def zyk(v:OC)(lo len:Nat)(ds:List DV):OC:=
 match v with
 |none=>none
 |some xs=>some (xs.take lo++List.replicate len ds++xs.drop (lo+len))
def zmf(lk:Nat→Bool)(os:List PO)(st:Nat)(zs:List Zc)(c:PC)(k:KT β):Option β:=
 match c with
 | .vw j st' lo len=>
  match og os j with
  | .arr st'' v=>bif lk j then none else bif Nat.beq st st'&&Nat.beq st st''&&Nat.beq zs.length st then za (cDs zs) fun ps=>za (zxV ps) fun ds=>k und (oset (.arr st'' (zyk v lo len ds)) os j) [j] [] else none
  |_=>none
 |_=>none
def zhl(lk:Nat→Bool)(os:List PO)(st bytes:Nat)(s:PC)(x:PC)(k:KT β):Option β:=
 zzG os st x fun new=>
 match s with
 | .d v=>gdN v (gd (fits bytes new.length) (k (pc (.own os.length)) (os++[.arr st (zyf none new)]) [] []))
 | .own j=>
  match og os j with
  | .arr st' v=>bif lk j then none else bif Nat.beq st st' then gd (fits bytes (zwW v+new.length)) (k (pc (.own os.length)) (oset .dead os j++[.arr st (zyf v new)]) [j] []) else none
  |_=>none
 |_=>none
def zyC:Option Nat→Option Nat→Bool
 |none,none=>true
 |some a,some b=>Nat.beq a b
 |_,_=>false
def zxE:DS→Option Nat
 | .one _=>none
 | .agg l=>some l.length
def zza:PV→Option DS
 | .one (.d v)=>some (.one v)
 | .agg cs=>match zxV cs with|some l=>some (.agg l)|none=>none
 |_=>none
def zDs(z:SVal):Option DS:=match pvS z with|some p=>zza p|none=>none
def zxD(q:Nat⊕List Nat)(a b:DS):Option Bool:=
 match q,a,b with
 | .inl t,.one x,.one y=>eqD t x y
 | .inr ks,.agg xs,.agg ys=>zxx ks xs ys
 |_,_,_=>none
def zeR(q:Nat⊕List Nat)(st:Nat)(kd:DS):List (List DV)→Option (Option DS)
 | []=>some none
 |x::xs=>
  match zxD q kd (kD st x) with
  |some true=>some (some (vD st x))
  |some false=>zeR q st kd xs
  |none=>none
def zya(q:Nat⊕List Nat)(st:Nat)(kd:DS)(row:List DV):List (List DV)→Option (List (List DV))
 | []=>some [row]
 |x::xs=>
  match zxD q kd (kD st x) with
  |some true=>some (row::xs)
  |some false=>match zya q st kd row xs with|some l=>some (x::l)|none=>none
  |none=>none
def lkD(z:DS)(r:Option DS):DS:=match r with|some v=>v|none=>z
def zpw{β:Type}(z:DS)(ok:Bool)(r:Option DS)(os:List PO)(k:KT β):Option β:=
 match z with
 | .one _=>bif ok then k (.tup [.one (dsO (lkD z r)),.one (.bool r.isSome)]) os [] [] else k (pd (dsO (lkD z r))) os [] []
 | .agg l=>bif ok then k (.tup [.agg (exp (dsA (lkD z r)) l.length 0),.one (.bool r.isSome)]) os [] [] else k (.s (.agg ((exp (dsA (lkD z r)) l.length 0).map .d))) os [] []
def zhj{β:Type}(os:List PO)(q:Nat⊕List Nat)(z:SVal)(ok:Bool)(c:PC)(kp:PV)(k:KT β):Option β:=
 za (zza kp) fun kd=>za (zDs z) fun zd=>za (zxD q kd kd) fun _=>
 match c with
 | .own j=>
  match og os j with
  | .mp st xs=>bif zyC (shV st) (zxE zd) then za (zeR q st kd xs) fun r=>zpw zd ok r os k else none
  |_=>none
 | .d .nilm=>zpw zd ok none os k
 |_=>none
def zrD{β:Type}(lk:Nat→Bool)(os:List PO)(q:Nat⊕List Nat)(c:PC)(kp vp:PV)(k:KT β):Option β:=
 za (zza kp) fun kd=>za (frV lk os vp) fun p=>za (zxD q kd kd) fun _=>
 match c with
 | .own j=>
  match og p.1 j with
  | .mp st xs=>
   bif lk j then none else
   bif zyC (shK st) (zxE kd)&&zyC (shV st) (zxE p.2) then za (zya q st kd (kd.cells++p.2.cells) xs) fun ys=>k und (oset (.mp st ys) p.1 j) [j] [] else none
  |_=>none
 |_=>none
def pOp(O:Orc)(lk:Nat→Bool)(sh:Sh)(ρ:Nat→PA)(os:List PO)(o:KOp)(k:KT β):Option β:=
 match o with
 | .mv x=>za (pv ρ x) fun a=>k a os [] []
 | .pick c a b=>wd (pv ρ c) fun v=>za (pv ρ a) fun a=>za (pv ρ b) fun b=>
  match a,b with
  | .s (.one (.d x)),.s (.one (.d y))=>za (zrB v x y) fun z=>k (pd z) os [] []
  |a,b=>ifB v (k a os [] []) (k b os [] [])
 | .alloc zs=>za (cDs zs) fun cs=>k (pc (.ptr os.length 0)) (os++[.box cs]) [] []
 | .box x=>
  match pv ρ x with
  |some (.s v)=>k (pc (.ptr os.length 0)) (os++[.box v.cells]) [] []
  |_=>none
 | .build zs parts=>za (cDs zs) fun cs=>za (zgd ρ parts cs) fun cs=>k (.s (.agg cs)) os [] []
 | .bslice st len zs parts=>za (cDs zs) fun cs=>za (zgd ρ parts cs) fun cs=>za (frL lk y7 os cs) fun p=>
  bif Nat.beq p.2.length (len*st) then k (pc (.own p.1.length)) (p.1++[.arr st (some (chunks st len p.2))]) [] [] else none
 | .load n x=>w1 (pv ρ x) fun c=>zmc os n c k
 | .store n x v=>w1 (pv ρ x) fun c=>
  match pv ρ v with
  |some (.s v)=>zmb lk os n c v k
  |_=>none
 | .nilck x=>w1 (pv ρ x) fun c=>
  match c with
  | .ptr j off=>k (pc (.ptr j off)) os [] []
  | .clo f l=>k (pc (.clo f l)) os [] []
  | .d (.fp xs off)=>k (pd (.fp xs off)) os [] []
  |_=>none
 | .bin op x y=>wd (pv ρ x) fun v=>wd (pv ρ y) fun w=>za (zwJ op v w) fun z=>k (pd z) os [] []
 | .shift l x y=>wd (pv ρ x) fun v=>wd (pv ρ y) fun w=>za (wy l v w) fun z=>k (pd z) os [] []
 | .str op x y=>wd (pv ρ x) fun v=>wd (pv ρ y) fun w=>za (zx2 op v w) fun z=>k (pd z) os [] []
 | .nilS neg x y=>w1 (pv ρ x) fun c=>wd (pv ρ y) fun w=>
  match w with
  | .nils=>
   match c with
   | .d v=>za (zep v) fun q=>k (pd (.bool (bif neg then !q else q))) os [] []
   | .own j=>
    match og os j with
    | .arr _ v=>k (pd (.bool (bif neg then v.isSome else v.isNone))) os [] []
    | .frz v=>za (zep v) fun q=>k (pd (.bool (bif neg then !q else q))) os [] []
    |_=>none
   |_=>none
  |_=>none
 | .eq q neg x y=>
  match q with
  | .inl t=>wd (pv ρ x) fun v=>wd (pv ρ y) fun w=>za (eqD t v w) fun b=>k (pd (.bool (bif neg then !b else b))) os [] []
  | .inr ks=>
   match pv ρ x,pv ρ y with
   |some (.s (.agg xs)),some (.s (.agg ys))=>za (zxV xs) fun xs=>za (zxV ys) fun ys=>za (zxx ks xs ys) fun b=>k (pd (.bool (bif neg then !b else b))) os [] []
   |_,_=>none
 | .not x=>wd (pv ρ x) fun v=>za (zxd v) fun z=>k (pd z) os [] []
 | .neg x=>wd (pv ρ x) fun v=>za (zyY v) fun z=>k (pd z) os [] []
 | .conv t x=>wd (pv ρ x) fun v=>za (yQ t v) fun z=>k (pd z) os [] []
 | .b2s x=>w1 (pv ρ x) fun c=>
  match c with
  | .d v=>za (zx3 v) fun z=>k (pd z) os [] []
  | .own j=>
   match og os j with
   | .arr st v=>za (zx3 (mkL st v)) fun z=>k (pd z) os [] [j]
   |_=>none
  |_=>none
 | .mkfn f caps=>za (znR ρ caps) fun l=>
  match l with
  | []=>k (pd (.fn f [])) os [] []
  |x::l=>k (pc (.clo f (x::l))) os [] []
 | .slice st x lo hi mx=>
  match mx with
  |none=>w1 (pv ρ x) fun c=>za (pvo ρ lo) fun lo=>za (pvo ρ hi) fun hi=>zen os st c lo hi k
  |some _=>none
 | .sslice x lo hi=>wd (pv ρ x) fun v=>za (pvo ρ lo) fun lo=>za (pvo ρ hi) fun hi=>za (zhh v lo hi) fun z=>k (pd z) os [] []
 | .foff x off=>w1 (pv ρ x) fun c=>
  match c with
  | .ptr j o=>k (pc (.ptr j (o+off))) os [] []
  | .d (.fp xs o)=>k (pd (.fp xs (o+off))) os [] []
  | .ep j st i o=>k (pc (.ep j st i (o+off))) os [] []
  | .ip j f len st i o=>k (pc (.ip j f len st i (o+off))) os [] []
  |_=>none
 | .field x off n=>
  match pv ρ x with
  |some (.s (.agg cs))=>zbh n cs off fun v=>k (.s v) os [] []
  |_=>none
 | .ixs st x i=>w1 (pv ρ x) fun c=>wd (pv ρ i) fun i=>zyZ os st c i k
 | .ixarr len st x i=>w1 (pv ρ x) fun c=>wd (pv ρ i) fun i=>
  match c with
  | .ptr j off=>za (ul len i) fun n=>k (pc (.ip j off len st n 0)) os [] []
  |_=>none
 | .ixagg len st n x i=>wd (pv ρ i) fun i=>
  match pv ρ x with
  |some (.s (.agg cs))=>za (ul len i) fun j=>
   match n with
   |none=>za (ipC cs st len j 1 0) fun l=>match l with | [c]=>k (pc c) os [] []|_=>none
   |some m=>bif Nat.beq m 0 then none else za (ipC cs st len j m 0) fun l=>k (.s (.agg l)) os [] []
  |_=>none
 | .ixstr x i=>wd (pv ρ x) fun v=>wd (pv ρ i) fun w=>za (zaY v w) fun z=>k (pd z) os [] []
 | .extract x i=>
  match pv ρ x with
  |some (.tup l)=>
   match l[i]? with
   |some (.one d)=>k (pd d) os [] []
   |some (.agg ds)=>k (.s (.agg (ds.map .d))) os [] []
   |none=>none
  |_=>none
 | .lenS x=>wd (pv ρ x) fun v=>za (zku v) fun z=>k (pd z) os [] []
 | .lenL x=>w1 (pv ρ x) fun c=>
  match c with
  | .d v=>za (zwO v) fun z=>k (pd z) os [] []
  | .own j=>
   match og os j with
   | .arr _ v=>k (pd (.int .i64 (.ofNat (zwW v)))) os [] []
   | .frz v=>za (zwO v) fun z=>k (pd z) os [] []
   |_=>none
  | .vw _ _ _ len=>k (pd (.int .i64 (.ofNat len))) os [] []
  |_=>none
 | .append st bytes s x=>w1 (pv ρ s) fun s=>w1 (pv ρ x) fun x=>zhl lk os st bytes s x k
 | .minmax m x xs=>wd (pv ρ x) fun v=>za (pvd ρ xs) fun l=>za (uK m v l) fun z=>k (pd z) os [] []
 | .mkslice st zs bytes l c=>wd (pv ρ l) fun l=>wd (pv ρ c) fun c=>za (mkN bytes l c) fun n=>za (cDs zs) fun ps=>za (zxV ps) fun ds=>bif Nat.beq zs.length st then k (pc (.own os.length)) (os++[.arr st (some (List.replicate n ds))]) [] [] else none
 | .clear st zs x=>w1 (pv ρ x) fun c=>zmf lk os st zs c k
 | .mkmap st=>k (pc (.own os.length)) (os++[.mp st []]) [] []
 | .lookup q z ok m x=>w1 (pv ρ m) fun c=>
  match pv ρ x with
  |some (.s kp)=>zhj os q z ok c kp k
  |_=>none
 | .mupd q m x v=>w1 (pv ρ m) fun c=>
  match pv ρ x,pv ρ v with
  |some (.s kp),some (.s vp)=>zrD lk os q c kp vp k
  |_,_=>none
 | .lenM x=>w1 (pv ρ x) fun c=>
  match c with
  | .own j=>
   match og os j with
   | .mp _ xs=>k (pd (.int .i64 (.ofNat xs.length))) os [] []
   |_=>none
  | .d .nilm=>k (pd (.int .i64 (.ofNat 0))) os [] []
  |_=>none
 | .s2b x=>wd (pv ρ x) fun v=>za (zzK v) fun z=>k (pd z) os [] []
 | .call f args=>w1 (pv ρ f) fun c=>za (pvs ρ args) fun as=>
  bif zzJ sh&&(zzn os c||zyR os as) then za (frA (fun _=>false) os as) fun p=>za (frC (fun _=>false) y7 p.1 c) fun q=>zyP sh (zxi O q.2 p.2) fun a=>k a os [] []
  else za (frA lk os as) fun p=>za (frC lk y7 p.1 c) fun q=>bSh sh (zxi O q.2 p.2) fun a=>k a q.1 [] []
end Go.PE
end
section
namespace Go.PE
open Go Go.CE
structure Bk (N:Nm) (os:List PO) (N':Nm) (wr:List Nat):Prop where
 nle:N.h.n.toNat≤N'.h.n.toNat
 eq:∀b:BN,b.toNat<N.h.n.toNat→(∀j,j∈wr→j<N.n→live (og os j)→blk (N.μ j)≠some b)→N'.h.t.get b=N.h.t.get b
theorem Bk.same{N N':Nm}{os:List PO}{wr:List Nat}(h:N'.h=N.h):Bk N os N' wr:=⟨by rw[h];exact LzB _,fun b _ _=>by rw[h]⟩
theorem Bk.gr{N N':Nm}{os:List PO}{wr:List Nat}(g:Gr N.h N'.h):Bk N os N' wr:=⟨g.le,fun b hb _=>g.old b hb⟩
theorem Bk.put{N N':Nm}{os:List PO}{b:BN}{x:Ze}{j:Nat}(h:N'.h=N.h.put b x)(hj:j<N.n)(hl:live (og os j))(hb:blk (N.μ j)=some b):Bk N os N' [j]:=
 ⟨by rw[h];exact LzB _,fun b' _ H=>by rw[h];exact xT _ _ (fun e=>H j (YzE j) hj hl (by rw[e];exact hb))⟩
def held:PO→Prop
 | .box _=>True
 | .arr _ (some _)=>True
 | .frz v=>∃st xs,v=.lst st xs
 | .fbox _=>True
 | .mp _ _=>True
 | .hol _ _ _=>True
 |_=>False
def Ho(n:Nat)(os os':List PO)(wr:List Nat):Prop:=∀k,k<n→(held (og os' k)→held (og os k))∧(held (og os k)→held (og os' k)∨k∈wr)∧(live (og os' k)→live (og os k))
theorem Ho.refl(n:Nat)(os:List PO)(wr:List Nat):Ho n os os wr:=fun _ _=>⟨id,.inl,id⟩
theorem Ho.trans{n:Nat}{a b c:List PO}{w1 w2:List Nat}(h:Ho n a b w1)(g:Ho n b c w2):Ho n a c (w1++w2):=fun k hk=>
 ⟨fun x=>(h k hk).1 ((g k hk).1 x),fun x=>((h k hk).2.1 x).elim (fun y=>((g k hk).2.1 y).imp id (YzF _)) (fun y=>.inr (Yzx _ y)),fun x=>(h k hk).2.2 ((g k hk).2.2 x)⟩
theorem Ho.oset{n:Nat}{os:List PO}{o:PO}{j:Nat}{wr:List Nat}(hb:held o→held (og os j))(hf:held (og os j)→held o∨j∈wr)(hv:live o→live (og os j)):Ho n os (PE.oset o os j) wr:=fun k _=>by
 rw[zJ];by_cases h:k=j∧j<os.length
 ·rw[Yzd h,h.1];exact⟨hb,hf,hv⟩
 ·rw[Yzb h];exact⟨id,.inl,id⟩
theorem Ho.app{n:Nat}{os:List PO}{o:PO}{wr:List Nat}(hn:n≤os.length):Ho n os (os++[o]) wr:=fun k hk=>by
 rw[yY,Yzb (by omega)];exact⟨id,.inl,id⟩
theorem zcn{N:Nm}{k:Nat}{o:PO}{b:BN}(hh:held o)(H:RepO N k o)(hb:blk (N.μ k)=some b):∃y,N.h.t.get b=some y:=by
 cases o with
 |box cs=>obtain⟨b',x,k1,_,k3⟩:=xx (o:=.box cs) trivial H;rw[k1]at hb;cases hb;exact⟨x,k3⟩
 |arr st v=>
  cases v with
  |none=>exact hh.elim
  |some xs=>obtain⟨b',x,k1,_,k3⟩:=xx (o:=.arr st (some xs)) trivial H;rw[k1]at hb;cases hb;exact⟨x,k3⟩
 |frz v=>
  obtain⟨st,xs,rfl⟩:=hh;obtain⟨b2,o2,off2,cap2,ex2,cs2,q1,q2,q3,_⟩:=Rep.lst_inv H;rw[q1]at hb;cases hb;exact⟨_,q3⟩
 |fbox ds=>
  obtain⟨b2,q1,q2⟩:=H;rw[q1]at hb;cases hb;obtain⟨b3,o3,base3,cs3,p1,p2,p3,_⟩:=q2.fp_inv;cases p1;exact⟨_,p3⟩
 |mp st xs=>obtain⟨b',x,k1,_,k3⟩:=xx (o:=.mp st xs) trivial H;rw[k1]at hb;cases hb;exact⟨x,k3⟩
 |hol v n t=>obtain⟨b',x,k1,_,k3⟩:=xx (o:=.hol v n t) trivial H;rw[k1]at hb;cases hb;exact⟨x,k3⟩
 |lnk m=>exact hh.elim
 |dead=>exact hh.elim
def BkE(N:Nm)(os:List PO)(N':Nm)(wr:List Nat):Prop:=
 ∀(b:BN) y,N.h.t.get b=some y→(∀j,j∈wr→j<N.n→live (og os j)→blk (N.μ j)≠some b)→N'.h.t.get b=some y
theorem Bk.ex{N N':Nm}{os:List PO}{wr:List Nat}(K:Bk N os N' wr)(hw:HW N.h):BkE N os N' wr:=fun b y hy H=>(K.eq b (hw b y hy) H).trans hy
structure Sim (E:En) (lk:Nat→Bool) (N:Nm) (os:List PO) (wr:List Nat) (N':Nm) (os':List PO) (v:Zb) (a:PA):Prop where
 inv:Zf E N' os'
 nx:Nx N N'
 fr:Bk N os N' wr
 lock:∀j,lk j=true→og os' j=og os j
 ho:Ho N.n os os' wr
 val:RepPA N' v a
theorem Sim.quiet{E:En}{lk:Nat→Bool}{N:Nm}{os:List PO}{v:Zb}{a:PA}(I:Zf E N os)(H:RepPA N v a):Sim E lk N os [] N os v a:=⟨I,.refl N,.same rfl,fun _ _=>rfl,.refl _ _ _,H⟩
structure Stp (E:En) (lk:Nat→Bool) (N:Nm) (os:List PO) (wr:List Nat) (N':Nm) (os':List PO):Prop where
 inv:Zf E N' os'
 nx:Nx N N'
 fr:Bk N os N' wr
 lock:∀j,lk j=true→og os' j=og os j
 ho:Ho N.n os os' wr
theorem Stp.sim{E:En}{lk:Nat→Bool}{N N':Nm}{os os':List PO}{wr:List Nat}(S:Stp E lk N os wr N' os'){v:Zb}{a:PA}(H:RepPA N' v a):Sim E lk N os wr N' os' v a:=⟨S.inv,S.nx,S.fr,S.lock,S.ho,H⟩
theorem Stp.refl{E:En}{lk:Nat→Bool}{N:Nm}{os:List PO}(I:Zf E N os):Stp E lk N os [] N os:=⟨I,.refl N,.same rfl,fun _ _=>rfl,.refl _ _ _⟩
theorem Stp.trans{E:En}{lk:Nat→Bool}{A B C:Nm}{o1 o2 o3:List PO}{w1 w2:List Nat}(a:Stp E lk A o1 w1 B o2)(b:Stp E lk B o2 w2 C o3)(hn:B.n=A.n):Stp E lk A o1 (w1++w2) C o3:=
 ⟨b.inv, a.nx.trans b.nx, ⟨YzA a.fr.nle b.fr.nle, fun x hx H => (b.fr.eq x (Lz9 hx a.fr.nle) fun j hj hl hv hb => by
  have hA:j<A.n:=hn▸hl;exact H j (YzF _ hj) hA ((a.ho j hA).2.2 hv) (by rw[←a.nx.mu j hA];exact hb)).trans (a.fr.eq x hx fun j hj hl hv=>H j (Yzx _ hj) hl hv)⟩,fun j hj=>(b.lock j hj).trans (a.lock j hj),a.ho.trans (by rw[←hn];exact b.ho)⟩
structure Fz (N N':Nm):Prop where
 h:N'.h=N.h
 n:N'.n=N.n
 μ:N'.μ=N.μ
theorem Fz.refl(N:Nm):Fz N N:=⟨rfl,rfl,rfl⟩
theorem Fz.trans{A B C:Nm}(a:Fz A B)(b:Fz B C):Fz A C:=⟨b.h.trans a.h,b.n.trans a.n,b.μ.trans a.μ⟩
theorem zlY{cs:List Zc}{st n:Nat}(h:cs.length=n):rd n 0 (.cells cs st)=some cs:=by
 show cut n cs 0=some cs;rw[←h];exact ze4 cs
variable {E:En} {lk:Nat→Bool}
theorem zib{N:Nm}{k st:Nat}{v:OC}{fz':BN→Prop}(g:FG N.fz N.h fz' N.h)(H:RepO N k (.arr st v))(hb:v≠none→∀b,blk (N.μ k)=some b→fz' b):Rep fz' N.h (N.μ k) (mkL st v):=by
 cases v with
 |none=>rw[show N.μ k=.nils from H];exact .nils
 |some xs=>
  obtain⟨b,vs,ex,h1,h2,h3,h4,h5⟩:=H;rw[h1];refine Rep.lst_mk (cs:=vs) (hb (by simp) b (by rw[h1];rfl)) h3 (fun e=>by rw[e];exact LzB _) (zlY h4) fun i x hx=>⟨(h5 i x hx).1,(h5 i x hx).2.mono g⟩
theorem zn1{N:Nm}{os:List PO}(I:Zf E N os){k st:Nat}{v:OC}(ho:og os k=.arr st v)(hk:lk k=false):
  ∃N',Fz N N'∧Stp E lk N os [] N' (oset (.frz (mkL st v)) os k)∧Rep N'.fz N'.h (N.μ k) (mkL st v):=by
 have hlock:∀(o:PO) j,lk j=true→og (oset o os k) j=og os j:=fun o j hj=>by
  rw[zJ,Yzb (fun e=>by rw[e.1]at hj;rw[hj]at hk;cases hk)]
 have hO:=I.obj k;rw[ho]at hO;cases v with
 |none=>
  have h1:RepO N k (.frz (mkL st none)):=by
   show Rep _ _ _ _;rw[show N.μ k=.nils from hO];exact .nils
  exact⟨N,.refl N,⟨I.turn k _ (fun e=>e) h1 (by rw[ho];intro _ _ _ e;cases e),.refl N,Bk.same rfl,hlock _,.oset (fun⟨_,_,h⟩=>by cases h) (fun h=>by rw[ho]at h;exact h.elim) (fun h=>h.elim)⟩,h1⟩
 |some xs=>
  obtain⟨b,vs,ex,h1,h2,h3,h4,h5⟩:=hO;have hb:blk (N.μ k)=some b:=by rw[h1];rfl
  have hl:solid (og os k):=by rw[ho];trivial
  have g:FG N.fz N.h (fun b'=>N.fz b'∨b'=b) N.h:=⟨fun _ _ h _=>.inl h,fun _ _ _ h=>h⟩;have hr:Rep (fun b'=>N.fz b'∨b'=b) N.h (N.μ k) (mkL st (some xs)):=zib g (show RepO N k (.arr st (some xs)) from⟨b,vs,ex,h1,h2,h3,h4,h5⟩) fun _ b' hb'=>by rw[hb]at hb';cases hb';exact .inr rfl
  obtain⟨i1,i2⟩:=I.freeze hl hb (.frz (mkL st (some xs))) (fun e=>e) hr;exact⟨⟨N.μ,N.n,fun b'=>N.fz b'∨b'=b,N.h⟩,⟨rfl,rfl,rfl⟩,⟨i1,i2,Bk.same rfl,hlock _,.oset (fun _=>by rw[ho];trivial) (fun _=>.inl ⟨_,_,rfl⟩) (fun h=>h.elim)⟩,hr⟩
theorem zel{N:Nm}{fz:BN→Prop}{h:Za}{k st lo len:Nat}{c:Zc}{v:DV}(H:Rep fz h (N.μ k) v)(hc:RepPC N c (.vw k st lo len)):Rep fz h c (zhg st lo len v):=by
 obtain⟨_,hc⟩:=hc;cases v<;>first|exact .u _|skip
 ·have h1:=H.scal rfl;rcases hc with⟨_,rfl,_,_⟩|⟨b,l,cap,ex,cap',ex',h2,_⟩
  ·exact .nils
  ·rw[h1]at h2;cases h2
 ·rename_i st' xs;show Rep fz h c (bif Nat.beq st st' then .lst st' ((xs.drop lo).take len) else .u);cases hs:Nat.beq st st' with
  |false=>exact .u _
  |true=>
   have:=Lz1 hs;subst this;obtain⟨b,o,off,cap,ex,cs,e1,g1,g2,g3,g4,g5⟩:=H.lst_inv;rcases hc with⟨h2,_⟩|⟨b',l,cap2,ex2,cap',ex',h2,rfl,h3,h4⟩
   ·rw[e1]at h2;cases h2
   ·rw[e1]at h2;cases h2;have hlen:((xs.drop lo).take len).length=len:=by simp;omega
    have ml:(lo+len)*st≤xs.length*st:=Yzq st h3;rw[Yz6]at ml;have:=Rep.lst_mk (fz:=fz) (off:=0+lo*st) (cap:=cap') (ex:=ex') (xs:=(xs.drop lo).take len) (cs:=(cs.drop (lo*st)).take (len*st)) g1 g2 (by rw[hlen];exact h4)
     (by rw [hlen]; exact zdf g4 ml) (fun i z hz => by
      rw[Yzo]at hz;split at hz
      ·rename_i hi;rw[Yzr]at hz;obtain⟨q1,q2⟩:=g5 _ _ hz;refine⟨q1,?_⟩;have e1:List.take st (List.drop (i*st) (List.take (len*st) (List.drop (lo*st) cs)))=List.take st (List.drop ((lo+i)*st) cs):=by
        have:=Yzq st (show i+1≤len from hi);rw[YzJ]at this;rw[List.drop_take,Yyd,List.take_take,Yz6,Nat.min_eq_left (by omega)]
       rw[e1];exact q2
      ·cases hz)
    rwa [hlen,Yze]at this
theorem zuu:∀n:Nat,
  (∀(os:List PO) (N:Nm) (c:Zc) (p:PC) (os':List PO) (d:DV),Zf E N os→RepPC N c p→frC lk n os p=some (os',d)→∃N',Fz N N'∧Stp E lk N os [] N' os'∧Rep N'.fz N'.h c d)∧
  (∀(os:List PO) (N:Nm) (cs:List Zc) (ps:List PC) (os':List PO) (ds:List DV),Zf E N os→RepPL N cs ps→frL lk n os ps=some (os',ds)→∃N',Fz N N'∧Stp E lk N os [] N' os'∧RepL N'.fz N'.h cs ds)∧
  (∀ (os : List PO) (N : Nm) (qs : List (BN × Nat)) (xs : List (Nat ⊕ List DV)) (os' : List PO) (l : List (List DV)), Zf E N os → RepCaps N qs xs → frK lk n os xs = some (os', l) →
   ∃N',Fz N N'∧Stp E lk N os [] N' os'∧RepL N'.fz N'.h (qs.map fun p=>.ptr p.1 p.2) (l.map fun x=>.fp x 0)):=by
 intro n
 induction n with
 |zero=>
  refine⟨?_,?_,?_⟩
  ·intro os N c p os' d I H e;cases p with
   |d v=>simp only[frC]at e;cases e;exact⟨N,.refl N,.refl I,H⟩
   |own k=>
    simp only[frC]at e;obtain⟨hk,rfl⟩:=H;cases ho:og os k with
    |frz v=>rw[ho]at e;cases e;exact⟨N,.refl N,.refl I,by have:=I.obj k;rw[ho]at this;exact this⟩
    |arr st v=>
     rw[ho]at e;simp only at e;cases hlk:lk k with
     |true=>rw[hlk]at e;cases e
     |false=>rw[hlk]at e;cases e;exact zn1 I ho hlk
    |_=>rw[ho]at e;cases e
   |_=>simp only[frC]at e;cases e
  ·intro os N cs ps os' ds I H e;cases ps with
   |nil=>simp only[frL]at e;cases e;cases cs with
    |nil=>exact⟨N,.refl N,.refl I,.nil _ _⟩
    |cons c cs=>exact H.elim
   |cons p ps=>simp only[frL]at e;cases e
  ·intro os N cs ps os' ds I H e;cases ps with
   |nil=>simp only[frK]at e;cases e;cases cs with
    |nil=>exact⟨N,.refl N,.refl I,.nil _ _⟩
    |cons c cs=>exact H.elim
   |cons p ps=>simp only[frK]at e;cases e
 |succ n ih=>
  obtain⟨ihC,ihL,ihK⟩:=ih;refine⟨?_,?_,?_⟩
  ·intro os N c p os' d I H e;cases p with
   |d v=>simp only[frC]at e;cases e;exact⟨N,.refl N,.refl I,H⟩
   |own k=>
    simp only[frC]at e;obtain⟨hk,rfl⟩:=H;cases ho:og os k with
    |frz v=>rw[ho]at e;cases e;exact⟨N,.refl N,.refl I,by have:=I.obj k;rw[ho]at this;exact this⟩
    |arr st v=>
     rw[ho]at e;simp only at e;cases hlk:lk k with
     |true=>rw[hlk]at e;cases e
     |false=>rw[hlk]at e;cases e;exact zn1 I ho hlk
    |_=>rw[ho]at e;cases e
   |ptr k off=>
    simp only[frC]at e;obtain⟨hk,b,hb,rfl⟩:=H;cases ho:og os k with
    |fbox ds=>
     rw[ho]at e;cases e;have:=I.obj k;rw[ho]at this;obtain⟨b',h1,h2⟩:=this;rw[hb]at h1;cases h1;obtain⟨b1,o1,base,cs,e1,e2,e3,e4,e5⟩:=h2.fp_inv;cases e1;refine⟨N,.refl N,.refl I,?_⟩;have:=Rep.fp_mk (off:=off) e2 e3 e4 e5
     rwa [show (0+off)=off by omega]at this
    |box cs=>
     rw[ho]at e;simp only at e;cases hlk:lk k with
     |true=>rw[hlk]at e;cases e
     |false=>
      rw[hlk]at e;simp only[Yzc]at e;cases hf:frL lk n os cs with
      |none=>rw[hf]at e;cases e
      |some p=>
       obtain⟨os1,ds⟩:=p;rw[hf]at e;simp only at e;have hO:=I.obj k;rw[ho]at hO;obtain⟨b',vs,h1,h2,h3,h4⟩:=hO;rw[hb]at h1;cases h1;obtain⟨N1,f1,s1,r1⟩:=ihL os N vs cs os1 ds I h4 hf;cases ho1:og os1 k with
       |box cs'=>
        rw[ho1]at e;simp only at e;cases hq:Nat.beq cs'.length cs.length with
        |false=>rw[hq]at e;cases e
        |true=>
         rw[hq]at e;cases e;have hl:solid (og os1 k):=by rw[ho1];trivial
         have hbk:blk (N1.μ k)=some b:=by rw[f1.μ,hb];rfl
         have g:FG N1.fz N1.h (fun b'=>N1.fz b'∨b'=b) N1.h:=⟨fun _ _ h _=>.inl h,fun _ _ _ h=>h⟩;have h3':N1.h.t.get b=some (.cells vs 0):=by rw[f1.h];exact h3
         have hr:∀off,Rep (fun b'=>N1.fz b'∨b'=b) N1.h (.ptr b off) (.fp ds off):=fun off=>by
          have:=Rep.fp_mk (fz:=fun b'=>N1.fz b'∨b'=b) (off:=off) (base:=0) (.inr rfl) h3' (zlY r1.1) (r1.mono g)
          rwa [show (0+off)=off by omega]at this
         obtain⟨i1,i2⟩:=s1.inv.freeze hl hbk (.fbox ds) (fun e=>e) ⟨b,by rw[f1.μ];exact hb,hr 0⟩;refine⟨⟨N1.μ,N1.n,fun b'=>N1.fz b'∨b'=b,N1.h⟩,f1.trans ⟨rfl,rfl,rfl⟩,s1.trans (w2:=[]) ⟨i1,i2,Bk.same rfl,fun j hj=>?_,.oset (fun _=>by rw[ho1];trivial) (fun _=>.inl trivial) (fun h=>h.elim)⟩ f1.n,hr off⟩;rw[zJ,Yzb (fun e=>by rw[e.1]at hj;rw[hj]at hlk;cases hlk)]
       |_=>rw[ho1]at e;cases e
    |_=>rw[ho]at e;cases e
   |ep k st i off=>simp only[frC]at e;cases e
   |ip k off len st i o=>simp only[frC]at e;cases e
   |vw k st lo len=>
    simp only[frC]at e;cases ho:og os k with
    |frz v=>rw[ho]at e;cases e;exact⟨N,.refl N,.refl I,zel (by have:=I.obj k;rw[ho]at this;exact this) H⟩
    |arr st' v=>
     rw[ho]at e;simp only at e;cases hlk:lk k with
     |true=>rw[hlk]at e;cases e
     |false=>
      rw[hlk]at e;cases e;obtain⟨N',f1,s1,r1⟩:=zn1 I ho hlk;exact⟨N',f1,s1,zel (N:=N) r1 H⟩
    |_=>rw[ho]at e;cases e
   |clo f caps=>
    simp only[frC]at e;obtain⟨ps,rfl,hc⟩:=H;cases hf:frK lk n os caps with
    |none=>rw[hf]at e;cases e
    |some p=>
     obtain⟨os1,l⟩:=p;rw[hf]at e;cases e;obtain⟨N1,f1,s1,r1⟩:=ihK os N ps caps _ _ I hc hf;exact⟨N1,f1,s1,.fn_mk r1⟩
  ·intro os N cs ps os' ds I H e;cases ps with
   |nil=>simp only[frL]at e;cases e;cases cs with
    |nil=>exact⟨N,.refl N,.refl I,.nil _ _⟩
    |cons c cs=>exact H.elim
   |cons p ps=>
    cases cs with
    |nil=>exact H.elim
    |cons c cs=>
     simp only[frL]at e;cases h1:frC lk n os p with
     |none=>rw[h1]at e;cases e
     |some q=>
      obtain⟨os1,d⟩:=q;rw[h1]at e;simp only at e;cases h2:frL lk n os1 ps with
      |none=>rw[h2]at e;cases e
      |some q=>
       obtain⟨os2,ds2⟩:=q;rw[h2]at e;cases e;obtain⟨N1,f1,s1,r1⟩:=ihC os N c p os1 d I H.1 h1;obtain⟨N2,f2,s2,r2⟩:=ihL os1 N1 cs ps _ _ s1.inv (RepPL.mono s1.nx H.2) h2;exact⟨N2,f1.trans f2,s1.trans s2 f1.n,.cons (r1.mono s2.nx.fg) r2⟩
  ·intro os N qs xs os' l I H e;cases xs with
   |nil=>simp only[frK]at e;cases e;cases qs with
    |nil=>exact⟨N,.refl N,.refl I,.nil _ _⟩
    |cons c cs=>exact H.elim
   |cons x xs=>
    cases qs with
    |nil=>exact H.elim
    |cons q qs=>
     have hx:∀os1 d,(match x with | .inl k=>frC lk n os (.ptr k 0) | .inr xs=>some (os,.fp xs 0))=some (os1,d)→∃N',Fz N N'∧Stp E lk N os [] N' os1∧Rep N'.fz N'.h (.ptr q.1 q.2) d:=by
      intro os1 d h1;cases x with
      |inl k=>
       obtain⟨a1,a2,a3⟩:=H.1;exact ihC os N (.ptr q.1 q.2) (.ptr k 0) os1 d I ⟨a1,q.1,a2,by rw[a3]⟩ h1
      |inr xs=>cases h1;exact⟨N,.refl N,.refl I,H.1⟩
     have key:∀m:Option (List PO×DV),(∀os1 d,m=some (os1,d)→∃N',Fz N N'∧Stp E lk N os [] N' os1∧Rep N'.fz N'.h (.ptr q.1 q.2) d)→
       (match m with
        |some (os',.fp x 0)=>
         match frK lk n os' xs with
         |some (os'',xs)=>some (os'',x::xs)
         |none=>none
        |_=>none)=some (os',l)→∃N',Fz N N'∧Stp E lk N os [] N' os'∧RepL N'.fz N'.h ((q::qs).map fun p=>.ptr p.1 p.2) (l.map fun x=>.fp x 0):=by
      intro m hm e;split at e
      ·rename_i os1 y;cases h2:frK lk n os1 xs with
       |none=>rw[h2]at e;cases e
       |some q2=>
        obtain⟨os2,l2⟩:=q2;rw[h2]at e;cases e;obtain⟨N1,f1,s1,r1⟩:=hm os1 _ rfl;obtain⟨N2,f2,s2,r2⟩:=ihK os1 N1 qs xs _ _ s1.inv (RepCaps.mono s1.nx H.2) h2;exact⟨N2,f1.trans f2,s1.trans s2 f1.n,.cons (r1.mono s2.nx.fg) r2⟩
      ·cases e
     exact key _ hx e
theorem zdH{n:Nat}{os os':List PO}{N:Nm}{c:Zc}{p:PC}{d:DV}(I:Zf E N os)(H:RepPC N c p)(e:frC lk n os p=some (os',d)):∃N',Fz N N'∧Stp E lk N os [] N' os'∧Rep N'.fz N'.h c d:=(zuu n).1 _ _ _ _ _ _ I H e
theorem zjn{n:Nat}{os os':List PO}{N:Nm}{cs:List Zc}{ps:List PC}{ds:List DV}(I:Zf E N os)(H:RepPL N cs ps)(e:frL lk n os ps=some (os',ds)):∃N',Fz N N'∧Stp E lk N os [] N' os'∧RepL N'.fz N'.h cs ds:=(zuu n).2.1 _ _ _ _ _ _ I H e
theorem zgb{os os':List PO}{N:Nm}{v:SVal}{p:PV}{d:DS}(I:Zf E N os)(H:RepPV N v p)(e:frV lk os p=some (os',d)):∃N',Fz N N'∧Stp E lk N os [] N' os'∧RepS N'.fz N'.h v d:=by
 cases p with
 |one c=>
  cases v with
  |agg cs=>exact H.elim
  |one x=>
   simp only[frV]at e;cases h1:frC lk y7 os c with
   |none=>rw[h1]at e;cases e
   |some q=>obtain⟨o1,d1⟩:=q;rw[h1]at e;cases e;exact zdH I H h1
 |agg cs=>
  cases v with
  |one x=>exact H.elim
  |agg xs=>
   simp only[frV]at e;cases h1:frL lk y7 os cs with
   |none=>rw[h1]at e;cases e
   |some q=>obtain⟨o1,d1⟩:=q;rw[h1]at e;cases e;exact zjn I H h1
def RepPAL(N:Nm):List Zb→List PA→Prop
 | [],[]=>True
 |c::cs,d::ds=>RepPA N c d∧RepPAL N cs ds
 |_,_=>False
theorem RepPAL.mono{N N':Nm}(g:Nx N N'):∀{c:List Zb} {d:List PA},RepPAL N c d→RepPAL N' c d
 | [],[],_=>trivial
 |_::_,_::_,H=>⟨H.1.mono g,RepPAL.mono g H.2⟩
 | [],_::_,H=>H.elim
 |_::_,[],H=>H.elim
theorem zjq:∀{as:List PA} {vs:List Zb} {os os':List PO} {N:Nm} {ds:List DA},Zf E N os→RepPAL N vs as→frA lk os as=some (os',ds)→∃N',Fz N N'∧Stp E lk N os [] N' os'∧RepAL N'.fz N'.h vs ds
 | [],[],os,os',N,ds,I,H,e=>by simp only[frA]at e;cases e;exact⟨N,.refl N,.refl I,trivial⟩
 | .s p::as,v::vs,os,os',N,ds,I,H,e=>by
  simp only[frA]at e;cases h1:frV lk os p with
  |none=>rw[h1]at e;cases e
  |some q=>
   obtain⟨o1,d1⟩:=q;rw[h1]at e;simp only at e;cases h2:frA lk o1 as with
   |none=>rw[h2]at e;cases e
   |some q=>
    obtain⟨o2,ds2⟩:=q;rw[h2]at e;cases e;obtain⟨w,rfl,hw⟩:=H.1.inv
    ·obtain⟨N1,f1,s1,r1⟩:=zgb I hw h1;obtain⟨N2,f2,s2,r2⟩:=zjq s1.inv (RepPAL.mono s1.nx H.2) h2;exact⟨N2,f1.trans f2,s1.trans s2 f1.n,.of (r1.mono s2.nx.fg),r2⟩
 | .tup l::as,_::_,os,os',N,ds,I,H,e=>by simp only[frA]at e;cases e
 | .bad::as,_::_,os,os',N,ds,I,H,e=>by simp only[frA]at e;cases e
 | .undef::as,_::_,os,os',N,ds,I,H,e=>by simp only[frA]at e;cases e
 | [],_::_,_,_,_,_,_,H,_=>H.elim
 |_::_,[],_,_,_,_,_,H,_=>H.elim
end Go.PE
end
section
namespace Go.PE
open Go Go.CE
def Goal{β:Type}(C:Nat→zg)(E:En)(lk:Nat→Bool)(N:Nm)(os:List PO)(r:Fr)(ko:KOp)(k:KT β)(x:β):Prop:=
 ∃a os' wr rd,k a os' wr rd=some x∧Ev (fun n=>runK r ko (C n) N.h) (fun p=>∃N',N'.h=p.2∧Sim E lk N os wr N' os' p.1 a)
def trk(ρ:Nat→PA):KOp→Option Operand
 | .mv x=>some x
 | .foff x _=>some x
 | .field x _ _=>some x
 | .ixs _ x _=>match pv ρ x with|some (.s (.one (.own _)))=>none|some (.s (.one (.vw _ _ _ _)))=>none|_=>some x
 | .extract x _=>some x
 | .nilck x=>some x
 |_=>none
def zxA:KOp→Option Operand
 | .load _ x=>some x
 | .b2s x=>some x
 |_=>none
def zAa(N:Nm)(os:List PO)(r:Fr)(ρ:Nat→PA)(xo:Operand)(rd:List Nat):Prop:=
  ∃w,kv r xo=some (.s (.one w))∧(blk w=none∨∃b,blk w=some b∧
    ((∃ j, rd = [j] ∧ j < N.n ∧ blk (N.μ j) = some b ∧ held (og os j) ∧ ∀ N' : Nm, (∀ u pa, kv r xo = some u → pv ρ xo = some pa → RepPA N' u pa) → j < N'.n) ∨
     (rd=[]∧∀N':Nm,(∀u pa,kv r xo=some u→pv ρ xo=some pa→RepPA N' u pa)→N'.fz b∧∃y,N'.h.t.get b=some y)))
def GoalQ{β:Type}(N:Nm)(os:List PO)(r:Fr)(ρ:Nat→PA)(ko:KOp)(k:KT β)(x:β):Prop:=
 ∃v a rd,k a os [] rd=some x∧(∀call,runK r ko call N.h=some (v,N.h))∧RepPA N v a∧(∀xo,trk ρ ko=some xo→∀(N':Nm) u pa,kv r xo=some u→pv ρ xo=some pa→RepPA N' u pa→RepPA N' v a)∧
  (∀xo,zxA ko=some xo→zAa N os r ρ xo rd)
section
variable {β:Type} {C:Nat→zg} {E:En} {lk:Nat→Bool} {N:Nm} {os:List PO} {r:Fr} {ρ:Nat→PA}
theorem GoalQ.quiet{ko:KOp}{k:KT β}{x:β}(_:Zf E N os){v:Zb}{a:PA}{rd:List Nat}(e:∀call,runK r ko call N.h=some (v,N.h))(H:RepPA N v a)(hk:k a os [] rd=some x)(ht:∀xo,trk ρ ko=some xo→∀(N':Nm) u pa,kv r xo=some u→pv ρ xo=some pa→RepPA N' u pa→RepPA N' v a:=by intro _ h;cases h)(hm:∀xo,zxA ko=some xo→zAa N os r ρ xo rd:=by intro _ h;cases h):GoalQ N os r ρ ko k x:=⟨v,a,rd,hk,e,H,ht,hm⟩
theorem Goal.quiet{ko:KOp}{k:KT β}{x:β}(I:Zf E N os){v:Zb}{a:PA}{rd:List Nat}(e:∀call,runK r ko call N.h=some (v,N.h))(H:RepPA N v a)(hk:k a os [] rd=some x):Goal C E lk N os r ko k x:=
 ⟨a,os,[],rd,hk,⟨(v,N.h),⟨N,rfl,.quiet I H⟩,0,fun n _=>e (C n)⟩⟩
theorem zcl{a:Operand}{u0:Zb}{p0:PA}{v:Zb}{a':PA}(ku:kv r a=some u0)(kp:pv ρ a=some p0)(H:∀N':Nm,RepPA N' u0 p0→RepPA N' v a'):∀xo,some a=some xo→∀(N':Nm) u pa,kv r xo=some u→pv ρ xo=some pa→RepPA N' u pa→RepPA N' v a':=by
 intro xo h n u pa h1 h2 h3;cases h;rw[ku]at h1;cases h1;rw[kp]at h2;cases h2;exact H n h3
theorem GoalQ.goal{ko:KOp}{k:KT β}{x:β}(I:Zf E N os)(G:GoalQ N os r ρ ko k x):Goal C E lk N os r ko k x:=by
 obtain⟨v,a,rd,h1,h2,h3,_,_⟩:=G;exact .quiet I h2 h3 h1
theorem zuV{fz:BN→Prop}{h:Za}{c:Zc}{d:DV}(e:cD c=some d):Rep fz h c d:=by
 cases c<;>simp only[cD]at e<;>first|cases e|skip
 ·exact .bool _
 ·exact .int _ _
 ·exact .str _
 ·exact .nilp
 ·exact .nils
 ·exact .nilm
 ·rename_i f caps;cases caps with
  |nil=>cases e;exact .fn_mk (.nil _ _)
  |cons a l=>cases e
 ·exact .nilf
 ·exact .nili
theorem zaj:∀{cs:List Zc} {ps:List PC},cDs cs=some ps→RepPL N cs ps
 | [],ps,e=>by cases e;trivial
 |c::cs,ps,e=>by
  simp only[cDs]at e;cases h1:cD c with
  |none=>rw[h1]at e;cases e
  |some d=>
   cases h2:cDs cs with
   |none=>rw[h1,h2]at e;cases e
   |some ds=>rw[h1,h2]at e;cases e;exact⟨zuV h1,zaj h2⟩
theorem zl1{s:SVal}{p:PV}(e:pvS s=some p):RepPV N s p:=by
 cases s with
 |one c=>
  simp only[pvS]at e;cases h1:cD c with
  |none=>rw[h1]at e;cases e
  |some d=>rw[h1]at e;cases e;exact zuV h1
 |agg cs=>
  simp only[pvS]at e;cases h1:cDs cs with
  |none=>rw[h1]at e;cases e
  |some ds=>rw[h1]at e;cases e;exact zaj h1
theorem wM(F:∀i,RepPA N (r i) (ρ i)){x:Operand}{a:PA}(e:pv ρ x=some a):∃v,kv r x=some v∧RepPA N v a:=by
 cases x with
 |tmp t=>cases e;exact⟨_,rfl,F t⟩
 |const v=>
  simp only[pv]at e;cases hv:zxX v with
  |none=>rw[hv]at e;cases e
  |some s=>
   rw[hv]at e;simp only at e;cases hp:pvS s with
   |none=>rw[hp]at e;cases e
   |some p=>rw[hp]at e;cases e;exact⟨.s s,by simp only[kv,hv],.of (zl1 hp)⟩
 |func f=>cases e;exact⟨_,rfl,RepPA.of (p:=.one (.d (.fn f []))) (v:=.one (.fn f [])) (Rep.fn_mk (.nil _ _))⟩
 |global g=>cases e
theorem zfG(F:∀i,RepPA N (r i) (ρ i)):∀{xs:List Operand} {as:List PA},pvs ρ xs=some as→∃vs,kvs r xs=some vs∧RepPAL N vs as
 | [],as,e=>by cases e;exact⟨[],rfl,trivial⟩
 |x::xs,as,e=>by
  simp only[pvs]at e;cases h1:pv ρ x with
  |none=>rw[h1]at e;cases e
  |some a=>
   cases h2:pvs ρ xs with
   |none=>rw[h1,h2]at e;cases e
   |some l=>
    rw[h1,h2]at e;cases e;obtain⟨v,k1,k2⟩:=wM F h1;obtain⟨vs,k3,k4⟩:=zfG F h2;exact⟨v::vs,by simp only[kvs,k1,k3],k2,k4⟩
theorem uE(F:∀i,RepPA N (r i) (ρ i)){x:Operand}{K:PC→Option β}{y:β}(e:w1 (pv ρ x) K=some y):∃c v,K c=some y∧kv r x=some v∧RepPA N v (pc c)∧pv ρ x=some (pc c):=by
 cases h:pv ρ x with
 |none=>rw[h]at e;cases e
 |some a=>
  rw[h]at e;cases a with
  |tup l=>cases e
  |bad=>cases e
  |undef=>cases e
  |s p=>
   cases p with
   |agg cs=>cases e
   |one c=>
    obtain⟨v,k1,k2⟩:=wM F h;exact⟨c,v,e,k1,k2,rfl⟩
theorem wX(F:∀i,RepPA N (r i) (ρ i)){x:Operand}{K:DV→Option β}{y:β}(e:wd (pv ρ x) K=some y):∃d v,K d=some y∧kv r x=some v∧RepPA N v (pd d):=by
 cases h:pv ρ x with
 |none=>rw[h]at e;cases e
 |some a=>
  rw[h]at e;cases a with
  |tup l=>cases e
  |bad=>cases e
  |undef=>cases e
  |s p=>
   cases p with
   |agg cs=>cases e
   |one c=>
    cases c with
    |d d=>
     obtain⟨v,k1,k2⟩:=wM F h;exact⟨d,v,e,k1,k2⟩
    |_=>cases e
theorem zm{α:Type}{o:Option α}{K:α→Option β}{y:β}(e:za o K=some y):∃a,o=some a∧K a=some y:=by
 cases o with
 |none=>cases e
 |some a=>exact⟨a,rfl,e⟩
theorem yk{v:Zb}{c:PC}(H:RepPA N v (pc c)):∃w,v=.s (.one w)∧RepPC N w c:=by
 obtain⟨w,rfl,hw⟩:=H.inv;cases w with
 |one w=>exact⟨w,rfl,hw⟩
 |agg cs=>exact hw.elim
theorem wN{v:Zb}{d:DV}(H:RepPA N v (pd d)):∃w,v=.s (.one w)∧Rep N.fz N.h w d:=yk H
theorem yn{v:Zb}{d:DV}{c:Zc}(H:RepPA N v (pd d))(e:d.scal=some c):v=.s (.one c):=by
 obtain⟨w,rfl,hw⟩:=wN H;rw[hw.scal e]
theorem yP{d:DV}{c:Zc}(e:d.scal=some c):RepPA N (.s (.one c)) (pd d):=RepPA.of (p:=.one (.d d)) (v:=.one c) (Rep.ofScal e)
theorem uk{d:DV}{c:Zc}(e:Rep N.fz N.h c d):RepPA N (.s (.one c)) (pd d):=RepPA.of (p:=.one (.d d)) (v:=.one c) e
theorem y4{p:PC}{c:Zc}(e:RepPC N c p):RepPA N (.s (.one c)) (pc p):=RepPA.of (p:=.one p) (v:=.one c) e
theorem zrR{o:Option Zc}{z:DV}(e:oD o=some z):∃c,o=some c∧z.scal=some c:=by
 cases o with
 |none=>cases e
 |some c=>cases c<;>simp only[oD]at e<;>cases e<;>exact⟨_,rfl,rfl⟩
variable {k:KT β} {x:β}
theorem zAp(I:Zf E N os)(F:∀i,RepPA N (r i) (ρ i)){a:Operand}(e:za (pv ρ a) (fun a=>k a os [] [])=some x):GoalQ N os r ρ (.mv a) k x:=by
 obtain⟨p,h1,h2⟩:=zm e;obtain⟨v,k1,k2⟩:=wM F h1;exact .quiet I (fun call=>by simp only[runK,k1,zH]) k2 h2 (zcl k1 h1 fun N' H=>H)
theorem zt1(I:Zf E N os)(F:∀i,RepPA N (r i) (ρ i)){op:BinOp}{a b:Operand}(e:wd (pv ρ a) (fun v=>wd (pv ρ b) fun w=>za (zwJ op v w) fun z=>k (pd z) os [] [])=some x):GoalQ N os r ρ (.bin op a b) k x:=by
 have hh:=wX F e;clear e;obtain⟨v,va,e,ka,ra⟩:=hh;have hh:=wX F e;clear e;obtain⟨w,vb,e,kb,rb⟩:=hh;have hh:=zm e;clear e;obtain⟨z,hz,e⟩:=hh;cases v<;>cases w<;>simp only[zwJ]at hz<;>first|cases hz|skip
 rename_i k1 n1 k2 n2;cases hk:eqK k1 k2 with
 |false=>rw[hk]at hz;cases hz
 |true=>
  rw[hk]at hz;obtain⟨c,h1,h2⟩:=zrR hz;rw[yn ra rfl]at ka;rw[yn rb rfl]at kb;refine .quiet I (v:=.s (.one c)) (fun call=>?_) (yP h2) e;simp only[runK,ka,kb,zH];show (bif eqK k1 k2 then zw8 N.h (ur op k1 n1 n2) else none)=_;rw[hk,h1];rfl
theorem zmn(I:Zf E N os)(F:∀i,RepPA N (r i) (ρ i)){l:Bool}{a b:Operand}(e:wd (pv ρ a) (fun v=>wd (pv ρ b) fun w=>za (wy l v w) fun z=>k (pd z) os [] [])=some x):GoalQ N os r ρ (.shift l a b) k x:=by
 have hh:=wX F e;clear e;obtain⟨v,va,e,ka,ra⟩:=hh;have hh:=wX F e;clear e;obtain⟨w,vb,e,kb,rb⟩:=hh;have hh:=zm e;clear e;obtain⟨z,hz,e⟩:=hh;cases v<;>cases w<;>simp only[wy]at hz<;>first|cases hz|skip
 rename_i k1 n1 k2 n2;obtain⟨c,h1,h2⟩:=zrR hz;rw[yn ra rfl]at ka;rw[yn rb rfl]at kb;refine .quiet I (v:=.s (.one c)) (fun call=>?_) (yP h2) e;simp only[runK,ka,kb,zH];show zw8 N.h ((bif l then zeU else zeT) k1 n1 n2)=_;rw[h1];rfl
theorem ztT(I:Zf E N os)(F:∀i,RepPA N (r i) (ρ i)){op:BinOp}{a b:Operand}(e:wd (pv ρ a) (fun v=>wd (pv ρ b) fun w=>za (zx2 op v w) fun z=>k (pd z) os [] [])=some x):GoalQ N os r ρ (.str op a b) k x:=by
 have hh:=wX F e;clear e;obtain⟨v,va,e,ka,ra⟩:=hh;have hh:=wX F e;clear e;obtain⟨w,vb,e,kb,rb⟩:=hh;have hh:=zm e;clear e;obtain⟨z,hz,e⟩:=hh;cases v<;>cases w<;>simp only[zx2]at hz<;>first|cases hz|skip
 rename_i s1 s2;obtain⟨c,h1,h2⟩:=zrR hz;rw[yn ra rfl]at ka;rw[yn rb rfl]at kb;refine .quiet I (v:=.s (.one c)) (fun call=>?_) (yP h2) e;simp only[runK,ka,kb,zH];show zw8 N.h (zpR op s1 s2)=_;rw[h1];rfl
theorem ztU(I:Zf E N os)(F:∀i,RepPA N (r i) (ρ i)){a:Operand}(e:wd (pv ρ a) (fun v=>za (zxd v) fun z=>k (pd z) os [] [])=some x):GoalQ N os r ρ (.not a) k x:=by
 have hh:=wX F e;clear e;obtain⟨v,va,e,ka,ra⟩:=hh;have hh:=zm e;clear e;obtain⟨z,hz,e⟩:=hh;cases v<;>simp only[zxd]at hz<;>cases hz;rw[yn ra rfl]at ka;exact .quiet I (fun call=>by simp only[runK,ka,zH];rfl) (yP rfl) e
theorem ztV(I:Zf E N os)(F:∀i,RepPA N (r i) (ρ i)){a:Operand}(e:wd (pv ρ a) (fun v=>za (zyY v) fun z=>k (pd z) os [] [])=some x):GoalQ N os r ρ (.neg a) k x:=by
 have hh:=wX F e;clear e;obtain⟨v,va,e,ka,ra⟩:=hh;have hh:=zm e;clear e;obtain⟨z,hz,e⟩:=hh;cases v<;>simp only[zyY]at hz<;>cases hz;rw[yn ra rfl]at ka;exact .quiet I (fun call=>by simp only[runK,ka,zH];rfl) (yP rfl) e
theorem zqC(I:Zf E N os)(F:∀i,RepPA N (r i) (ρ i)){t:IntKind}{a:Operand}(e:wd (pv ρ a) (fun v=>za (yQ t v) fun z=>k (pd z) os [] [])=some x):GoalQ N os r ρ (.conv t a) k x:=by
 have hh:=wX F e;clear e;obtain⟨v,va,e,ka,ra⟩:=hh;have hh:=zm e;clear e;obtain⟨z,hz,e⟩:=hh;cases v<;>simp only[yQ]at hz<;>cases hz;rw[yn ra rfl]at ka;exact .quiet I (fun call=>by simp only[runK,ka,zH];rfl) (yP rfl) e
theorem zqz(I:Zf E N os)(F:∀i,RepPA N (r i) (ρ i)){a:Operand}(e:wd (pv ρ a) (fun v=>za (zku v) fun z=>k (pd z) os [] [])=some x):GoalQ N os r ρ (.lenS a) k x:=by
 have hh:=wX F e;clear e;obtain⟨v,va,e,ka,ra⟩:=hh;have hh:=zm e;clear e;obtain⟨z,hz,e⟩:=hh;cases v<;>simp only[zku]at hz<;>cases hz;rw[yn ra rfl]at ka;exact .quiet I (fun call=>by simp only[runK,ka,zH];rfl) (yP rfl) e
theorem zjO:∀{l:List UInt8} {i:Nat} {z:DV},zh7 l i=some z→∃c,zcJ l i=some c∧z.scal=some c
 | [],i,z,e=>by cases e
 |u::l,i,z,e=>by
  simp only[zh7,zcJ]at e ⊢;cases hb:Nat.beq i 0 with
  |true=>rw[hb]at e;cases e;exact⟨_,rfl,rfl⟩
  |false=>rw[hb]at e;exact zjO e
theorem zmq(I:Zf E N os)(F:∀i,RepPA N (r i) (ρ i)){a b:Operand}(e:wd (pv ρ a) (fun v=>wd (pv ρ b) fun w=>za (zaY v w) fun z=>k (pd z) os [] [])=some x):GoalQ N os r ρ (.ixstr a b) k x:=by
 have hh:=wX F e;clear e;obtain⟨v,va,e,ka,ra⟩:=hh;have hh:=wX F e;clear e;obtain⟨w,vb,e,kb,rb⟩:=hh;have hh:=zm e;clear e;obtain⟨z,hz,e⟩:=hh;cases v<;>first|cases hz|skip
 cases w<;>first|cases hz|skip
 rename_i s kk n;cases n with
 |negSucc n=>cases hz
 |ofNat n=>
  simp only[zaY]at hz;obtain⟨c,h1,h2⟩:=zjO hz;rw[yn ra rfl]at ka;rw[yn rb rfl]at kb;refine .quiet I (v:=.s (.one c)) (fun call=>?_) (yP h2) e;simp only[runK,ka,kb,zH];show zw8 N.h (zcJ s.data.toList n)=_;rw[h1];rfl
theorem uC{t:Tr Zb}{x:Option DV}{o:Option Zb}{d y i:Nat}(hx:∀v,x=some v→∃w,o=some w∧RepPA N w (pd v))(hn:x=none→o=none)(e:zxb x d y=some i):bnd t (cO o) d y=some i:=by
 cases x with
 |none=>rw[hn rfl];exact e
 |some v=>
  obtain⟨w,rfl,hw⟩:=hx v rfl;cases v<;>first|cases e|skip
  rename_i kk n;cases n with
  |negSucc n=>cases e
  |ofNat n=>rw[yn hw rfl];exact e
theorem ziH(F:∀i,RepPA N (r i) (ρ i)){a:Option Operand}{x:Option DV}(e:pvo ρ a=some x):∃o,kvo r a=some o∧(∀v,x=some v→∃w,o=some w∧RepPA N w (pd v))∧(x=none→o=none):=by
 cases a with
 |none=>cases e;exact⟨none,rfl,fun v h=>(by cases h),fun _=>rfl⟩
 |some a=>
  simp only[pvo]at e;split at e
  ·rename_i v hv;cases e;obtain⟨w,k1,k2⟩:=wM F hv;exact⟨some w,by simp only[kvo,k1],fun v h=>by cases h;exact⟨w,rfl,k2⟩,fun h=>by cases h⟩
  ·cases e
theorem ziV(I:Zf E N os)(F:∀i,RepPA N (r i) (ρ i)){a:Operand}{lo hi:Option Operand}(e:wd (pv ρ a) (fun v=>za (pvo ρ lo) fun lo=>za (pvo ρ hi) fun hi=>za (zhh v lo hi) fun z=>k (pd z) os [] [])=some x):GoalQ N os r ρ (.sslice a lo hi) k x:=by
 have hh:=wX F e;clear e;obtain⟨v,va,e,ka,ra⟩:=hh;have hh:=zm e;clear e;obtain⟨l,hl,e⟩:=hh;have hh:=zm e;clear e;obtain⟨h,hh,e⟩:=hh;have hh:=zm e;clear e;obtain⟨z,hz,e⟩:=hh;obtain⟨ol,kl,l1,l2⟩:=ziH F hl;obtain⟨oh,kh,h1,h2⟩:=ziH F hh;cases v<;>first|cases hz|skip
 rename_i s;simp only[zhh]at hz;cases hb:zxb h s.size s.size with
 |none=>rw[hb]at hz;cases hz
 |some y=>
  rw[hb]at hz;simp only at hz;cases hb2:zxb l 0 y with
  |none=>rw[hb2]at hz;cases hz
  |some q=>
   rw[hb2]at hz;cases hz;rw[yn ra rfl]at ka;refine .quiet I (v:=.s (.one (.str (s.extract q y)))) (fun call=>?_) (yP rfl) e;simp only[runK,ka,kl,kh,zH];show xM (zu (.s (.one (.str s)))) (cO ol) (cO oh) yv .nil N.h=_;simp only[xM,zu,uC h1 h2 hb,uC l1 l2 hb2]
theorem zmO{m:Bool}{t:IntKind}:∀{l:List DV} {vs:List Zb} {a z:Int},(∀(j:Nat) (d:DV) (v:Zb),l[j]? = some d→vs[j]? = some v→RepPA N v (pd d))→vs.length=l.length→minD m t l a=some z→zyc m t .nil (cL vs) a=some z
 | [],[],a,z,_,_,e=>e
 |d::l,v::vs,a,z,H,hl,e=>by
  cases d<;>first|cases e|skip
  rename_i t' n;simp only[minD]at e;have:=yn (H 0 _ _ rfl rfl) rfl;subst this;show zyc m t .nil (zu _::cL vs) a=some z;simp only[zyc,zu];cases hk:eqK t t' with
  |false=>rw[hk]at e;cases e
  |true=>
   rw[hk]at e;exact zmO (fun j d v h1 h2=>H (j+1) d v (by simpa using h1) (by simpa using h2)) (by simpa using hl) e
 | [],_::_,_,_,_,hl,_=>by simp at hl
 |_::_,[],_,_,_,hl,_=>by simp at hl
theorem zqr(F:∀i,RepPA N (r i) (ρ i)):∀{xs:List Operand} {l:List DV},pvd ρ xs=some l→∃vs,kvs r xs=some vs∧vs.length=l.length∧∀(j:Nat) (d:DV) (v:Zb),l[j]? = some d→vs[j]? = some v→RepPA N v (pd d)
 | [],l,e=>by cases e;exact⟨[],rfl,rfl,fun j d v h=>by simp at h⟩
 |x::xs,l,e=>by
  simp only[pvd]at e;split at e
  ·rename_i v l' hv hl;cases e;obtain⟨w,k1,k2⟩:=wM F hv;obtain⟨vs,k3,k4,k5⟩:=zqr F hl;refine⟨w::vs,by simp only[kvs,k1,k3],by simp[k4],fun j d u h1 h2=>?_⟩;cases j with
   |zero=>simp only[Yzg,Option.some.injEq]at h1 h2;subst h1;subst h2;exact k2
   |succ j=>exact k5 j d u (by simpa using h1) (by simpa using h2)
  ·cases e
theorem ziW(I:Zf E N os)(F:∀i,RepPA N (r i) (ρ i)){m:Bool}{a:Operand}{xs:List Operand}(e:wd (pv ρ a) (fun v=>za (pvd ρ xs) fun l=>za (uK m v l) fun z=>k (pd z) os [] [])=some x):GoalQ N os r ρ (.minmax m a xs) k x:=by
 have hh:=wX F e;clear e;obtain⟨v,va,e,ka,ra⟩:=hh;have hh:=zm e;clear e;obtain⟨l,hl,e⟩:=hh;have hh:=zm e;clear e;obtain⟨z,hz,e⟩:=hh;obtain⟨vs,k3,k4,k5⟩:=zqr F hl;cases v<;>first|cases hz|skip
 rename_i t n;simp only[uK]at hz;cases hm:minD m t l n with
 |none=>rw[hm]at hz;cases hz
 |some q=>
  rw[hm]at hz;cases hz;rw[yn ra rfl]at ka;refine .quiet I (v:=.s (.one (.int t q))) (fun call=>?_) (yP rfl) e;simp only[runK,ka,k3,zH];show xe m (zu (.s (.one (.int t n)))) (cL vs) yv .nil N.h=_;simp only[xe,zu,zmO k5 k4 hm]
theorem zqv(I:Zf E N os)(F:∀i,RepPA N (r i) (ρ i)){c a b:Operand} (e:wd (pv ρ c) (fun v=>za (pv ρ a) fun a=>za (pv ρ b) fun b=>
  match a,b with
  | .s (.one (.d x)),.s (.one (.d y))=>za (zrB v x y) fun z=>k (pd z) os [] []
  |a,b=>ifB v (k a os [] []) (k b os [] []))=some x):GoalQ N os r ρ (.pick c a b) k x:=by
 have hh:=wX F e;clear e;obtain⟨v,vc,e,kc,rc⟩:=hh;have hh:=zm e;clear e;obtain⟨pa,ha,e⟩:=hh;have hh:=zm e;clear e;obtain⟨pb,hb,e⟩:=hh;obtain⟨va,ka,ra⟩:=wM F ha;obtain⟨vb,kb,rb⟩:=wM F hb;have hv:∃q,v=.bool q∧k (bif q then pa else pb) os [] []=some x:=by
  split at e
  ·have hh:=zm e;clear e;obtain⟨z,hz,e⟩:=hh;cases v<;>simp only[zrB]at hz<;>cases hz;rename_i q;exact⟨q,rfl,by cases q<;>exact e⟩
  ·cases v<;>first|cases e|skip
   rename_i q;exact⟨q,rfl,by cases q<;>exact e⟩
 obtain⟨q,rfl,hk⟩:=hv;rw[yn rc rfl]at kc;refine .quiet I (v:=bif q then va else vb) (fun call=>by simp only[runK,ka,kb,kc,zH];rfl) ?_ hk;cases q
 ·exact rb
 ·exact ra
end
end Go.PE
end
section
namespace Go.PE
open Go Go.CE
section
variable {β:Type} {C:Nat→zg} {E:En} {lk:Nat→Bool} {N:Nm} {os:List PO} {r:Fr} {ρ:Nat→PA} {k:KT β} {x:β}
theorem zma{n:Option Nat}{ps:List PC}{off:Nat}{K:PV→Option β}{y:β}(e:zfK n ps off K=some y):n≠some 0∧zbh n ps off K=some y:=by
 unfold zfK at e;split at e
 ·cases e
 ·rename_i h;exact⟨h,e⟩
theorem zem{n:Option Nat}{ps:List PC}{cs:List Zc}{base off m:Nat}{o:Ze}{K:PV→Option β}{y:β}(h:Za)(hr:rd m base o=some cs)(H:RepPL N cs ps)(h0:n≠some 0∨o≠.void)(e:zbh n ps off K=some y):
  ∃p s,K p=some y∧loadAt n h (base+off) (some o)=some (.s s,h)∧RepPV N s p:=by
 cases n with
 |none=>
  simp only[zbh]at e;obtain⟨c,hc,e⟩:=zm e;have hl:=H.len;have hi:=(Lz0.1 hc).1;obtain⟨v,hv⟩:∃v,cs[off]? = some v:=⟨_,Lz5 (by omega)⟩;exact⟨.one c,.one v,e,zoV h hr hv,H.get hv hc⟩
 |some n=>
  simp only[zbh]at e;cases hb:Nat.ble (off+n) ps.length with
  |false=>rw[hb]at e;cases e
  |true=>
   rw[hb]at e;have hle:=Lz4 hb;have hl:=H.len;have hm:=zdg hr;exact⟨_,.agg ((cs.drop off).take n),e,zrv h (zdf hr (by omega)) (h0.imp (fun hh he=>hh (by rw[he])) id),(H.drop off).take n⟩
theorem zrz{n:Option Nat}{ps:List PC}{cs:List Zc}{off:Nat}{K:PV→Option β}{y:β}(h:Za)(H:RepPL N cs ps)(e:zbh n ps off K=some y):
  ∃p s,K p=some y∧CE.part n cs off h=some (.s s,h)∧RepPV N s p∧∀N':Nm,RepPL N' cs ps→RepPV N' s p:=by
 cases n with
 |none=>
  simp only[zbh]at e;obtain⟨c,hc,e⟩:=zm e;have hl:=H.len;have hi:=(Lz0.1 hc).1;obtain⟨v,hv⟩:∃v,cs[off]? = some v:=⟨_,Lz5 (by omega)⟩;refine⟨.one c,.one v,e,?_,H.get hv hc,fun N' X=>X.get hv hc⟩;show zw8 h (ue cs off)=_;rw[xO,hv];rfl
 |some n=>
  simp only[zbh]at e;cases hb:Nat.ble (off+n) ps.length with
  |false=>rw[hb]at e;cases e
  |true=>
   rw[hb]at e;have hle:=Lz4 hb;have hl:=H.len;refine⟨_,.agg ((cs.drop off).take n),e,?_,(H.drop off).take n,fun N' X=>(X.drop off).take n⟩;show zxr h (cut n cs off)=_;rw[zcz cs n off (by omega)];rfl
theorem zju:∀(x:List DV),exp x x.length 0=x:=by
 have key:∀(p x:List DV),exp (p++x) x.length p.length=x:=by
  intro p x
  induction x generalizing p with
  |nil=>rfl
  |cons d x ih=>
   simp only[Yzk,exp];have h1:∀q:List DV,atD (q++d::x) q.length=d:=by
    intro q
    induction q with
    |nil=>rfl
    |cons a q ih=>show atD (q++d::x) q.length=d;exact ih
   have h2:=ih (p++[d]);simp only[Yzs,List.cons_append,YzI,Yzz,Yzk,Yz7]at h2;rw[h1 p]
   congr 1
 intro x;exact key [] x
theorem uU(I:Zf E N os){j:Nat}{ps:List PC}(ho:og os j=.box ps):∃b cs,N.μ j=.ptr b 0∧¬N.fz b∧N.h.t.get b=some (.cells cs 0)∧RepPL N cs ps:=by
 have:=I.obj j;rw[ho]at this;exact this
theorem zaR(I:Zf E N os){j st:Nat}{xs:List (List DV)}(ho:og os j=.arr st (some xs)):∃b vs ex,N.μ j=.slc b 0 xs.length (bif ex then xs.length else 0) ex∧¬N.fz b∧N.h.t.get b=some (.cells vs st)∧vs.length=xs.length*st∧
   ∀(i:Nat) (x:List DV),xs[i]? = some x→x.length=st∧RepL N.fz N.h ((vs.drop (i*st)).take st) x:=by
 have:=I.obj j;rw[ho]at this;exact this
theorem znq:∀{cs:List PC} {st n off:Nat} {l:List DV},zzz cs st n off=some l→∀i,i<n→cs[off+i*st]? = some (.d (atD l i))
 |cs,st,0,off,l,_,i,hi=>by omega
 |cs,st,n+1,off,l,e,i,hi=>by
  simp only[zzz]at e;split at e
  ·rename_i v l' h1 h2;cases e;cases i with
   |zero=>simpa[atD] using h1
   |succ i=>
    have:=znq h2 i (by omega);rw[show off+(i+1)*st=off+st+i*st by rw[YzJ];omega,this];rfl
  ·cases e
theorem zjf:∀{cs:List PC} {st len i m off:Nat} {l:List PC},ipC cs st len i m off=some l→i<len→l.length=m∧∀j,j<m→cs[off+j+i*st]? = l[j]?
 |cs,st,len,i,0,off,l,e,_=>by cases e;exact⟨rfl,fun j hj=>by omega⟩
 |cs,st,len,i,m+1,off,l,e,hi=>by
  simp only[ipC]at e;split at e
  ·rename_i g r h1 h2;cases e;obtain⟨k1,k2⟩:=zjf h2 hi;refine⟨by simp[k1],fun j hj=>?_⟩;cases j with
   |zero=>simpa using znq h1 i hi
   |succ j=>
    have:=k2 j (by omega);rw[Yzl,←this]
    congr 1
    omega
  ·cases e
theorem zeK{cs:List Zc}{ps:List PC}(H:RepPL N cs ps){st len i m off:Nat}{l:List PC}(e:ipC ps st len i m off=some l)(hi:i<len)(hm:m≠0):off+i*st+m≤cs.length∧RepPL N ((cs.drop (off+i*st)).take m) l:=by
 obtain⟨h1,h2⟩:=zjf e hi;have hb:off+m+i*st≤cs.length:=by
  have:=h2 (m-1) (by omega);have hx:(l[m-1]?).isSome=true:=by simp[h1];omega
  rw[←this]at hx;have:=(Lz0.1 (Option.eq_some_of_isSome hx)).1;have:=H.len;omega
 refine⟨by omega,RepPL.of ?_ fun j c p hc hp=>?_⟩
 ·simp;omega
 ·rw[Yzo]at hc;split at hc
  ·rename_i hj;rw[Yzr]at hc;have:=h2 j hj;rw[hp]at this;exact H.get (j:=off+j+i*st) (by rw[←hc];congr 1;omega) this
  ·cases hc
theorem zqy(I:Zf E N os)(F:∀i,RepPA N (r i) (ρ i)){n:Option Nat}{a:Operand}(e:w1 (pv ρ a) (fun c=>zmc os n c k)=some x):GoalQ N os r ρ (.load n a) k x:=by
 have hh:=uE F e;clear e;obtain⟨c,v,e,ka,ra,pka⟩:=hh;have fpc:∀(w:Zc) (xs:List DV) (off:Nat) (rd:List Nat),(v=.s (.one w)→zAa N os r ρ a rd)→Rep N.fz N.h w (.fp xs off)→(zfK n (xs.map .d) off fun v=>k (.s v) os [] rd)=some x→v=.s (.one w)→GoalQ N os r ρ (.load n a) k x:=by
  intro w xs off rd hmi hw e hv;obtain⟨b,o,base,cs,rfl,h1,h2,h3,h4⟩:=hw.fp_inv;obtain⟨h0,e⟩:=zma e;obtain⟨p,s,e,hl,hp⟩:=zem N.h h3 (.ofD h4) (.inl h0) e;refine .quiet I (v:=.s s) (fun call=>?_) (.of hp) e (hm:=fun xo hx=>by cases hx;exact hmi hv);simp only[runK,ka,hv,zH];show loadAt n N.h (base+off) (N.h.t.get b)=_;rw[h2,hl]
 cases c with
 |d d=>
  cases d<;>first|cases e|skip
  obtain⟨w,hv,hw⟩:=wN ra;refine fpc w _ _ _ (fun hv=>?_) hw e hv;obtain⟨b,o,base,cs,rfl,h1,_⟩:=hw.fp_inv;refine⟨_,ka.trans (by rw[hv]),.inr ⟨b,rfl,.inr ⟨rfl,fun N' H=>?_⟩⟩⟩;obtain⟨w',hw',hr'⟩:=wN (H _ _ ka pka);rw[hv]at hw';cases hw';obtain⟨b2,o2,base2,cs2,q1,q2,q3,_⟩:=hr'.fp_inv;rw[(Zc.ptr.inj q1).1];exact⟨q2,_,q3⟩
 |own j=>cases e
 |ptr j off=>
  simp only[zmc]at e;obtain⟨w,hv,hj,b,hb,rfl⟩:=yk ra;subst hv;cases ho:og os j with
  |box ps=>
   rw[ho]at e;simp only at e;obtain⟨b',cs,h1,h2,h3,h4⟩:=uU I ho;rw[hb]at h1;cases h1;obtain⟨p,s,e,hl,hp⟩:=zem (o:=.cells cs 0) (base:=0) N.h (zlY rfl) h4 (.inr (by intro hh;cases hh)) e;refine .quiet I (v:=.s s) (fun call=>?_) (.of hp) e (hm:=fun xo hx=>by
    cases hx;exact⟨_,ka,.inr ⟨b,rfl,.inl ⟨j,rfl,hj,by rw[hb];rfl,by rw[ho];trivial,fun N' H=>(yk (H _ _ ka pka)).elim fun _ q=>q.2.1⟩⟩⟩)
   simp only[runK,ka,zH];show loadAt n N.h off (N.h.t.get b)=_;rw[h3]
   simpa using hl
  |fbox ds=>
   rw[ho]at e;simp only at e;have hO:=I.obj j;rw[ho]at hO;obtain⟨b',h1,h2⟩:=hO;rw[hb]at h1;cases h1;obtain⟨b1,o1,base,cs,e1,e2,e3,e4,e5⟩:=h2.fp_inv;cases e1;refine fpc (.ptr b off) ds off _ (fun _=>⟨_,ka,.inr ⟨b,rfl,.inl ⟨j,rfl,hj,by rw[hb];rfl,by rw[ho];trivial,fun N' H=>(yk (H _ _ ka pka)).elim fun _ q=>q.2.1⟩⟩⟩) ?_ e rfl;have:=Rep.fp_mk (off:=off) e2 e3 e4 e5
   rwa [show (0+off)=off by omega]at this
  |_=>rw[ho]at e;cases e
 |ep j st i off=>
  simp only[zmc]at e;obtain⟨w,hv,hj,b,l,cap,ex,hb,rfl,hil⟩:=yk ra;subst hv;cases ho:og os j with
  |arr st' vo=>
   rw[ho]at e;simp only at e;cases hs:Nat.beq st st' with
   |false=>rw[hs]at e;cases e
   |true=>
    rw[hs]at e;have:=Lz1 hs;subst this;simp only[Yza]at e;have hh:=zm e;clear e;obtain⟨y,hy,e⟩:=hh;cases vo with
    |none=>cases hy
    |some xs=>
     obtain⟨b',vs,ex',h1,h2,h3,h4,h5⟩:=zaR I ho;rw[hb]at h1;cases h1;obtain⟨k1,k2⟩:=h5 i y hy;have he:=zju y;rw[k1]at he;rw[he]at e;have hi:=(Lz0.1 hy).1;have hr:rd st (i*st) (.cells vs st)=some ((vs.drop (i*st)).take st):=by
      have:=Yzq st (show i+1≤xs.length from hi);rw[YzJ]at this;exact zcz vs st (i*st) (by omega)
     obtain⟨p,s,e,hl,hp⟩:=zem N.h hr (.ofD k2) (.inr (by intro hh;cases hh)) e;refine .quiet I (v:=.s s) (fun call=>?_) (.of hp) e (hm:=fun xo hx=>by
    cases hx;exact⟨_,ka,.inr ⟨b,rfl,.inl ⟨j,rfl,hj,by rw[hb];rfl,by rw[ho];trivial,fun N' H=>(yk (H _ _ ka pka)).elim fun _ q=>q.2.1⟩⟩⟩)
     simp only[runK,ka,zH];show loadAt n N.h (i*st+off) (N.h.t.get b)=_;rw[h3,hl]
  |hol vo hn t=>
   rw[ho]at e;simp only at e;cases n with
   |some n=>cases e
   |none=>
    simp only at e;cases ht:og os t with
    |lnk m=>
     rw[ht]at e;simp only at e;cases hs:(Nat.beq st 1&&Nat.beq off 0) with
     |false=>rw[hs]at e;cases e
     |true=>
      rw[hs]at e;rw[LzC]at hs;have e1:=Lz1 hs.1;have e2:=Lz1 hs.2;subst e1 e2;simp only[Yza]at e;cases hi:Nat.beq i hn with
      |false=>rw[hi]at e;cases e
      |true=>
       rw[hi]at e;have:=Lz1 hi;subst this;have hO:=I.obj j;rw[ho]at hO;have hT:=I.obj t;rw[ht]at hT;cases vo with
       |none=>exact hO.elim
       |some xs=>
        obtain⟨b',vs,ex',h1,h2,h3,h4,h5,h6,h7,h8⟩:=hO;obtain⟨g0,b2,n2,vs2,g1,g2,g3,g4⟩:=hT;rw[h7]at g1;cases g1;rw[h3]at g3;cases g3;rw[hb]at h1;cases h1;refine .quiet I (v:=.s (.one (N.μ m))) (fun call=>?_) (y4 (p:=.own m) ⟨g0,rfl⟩) e (hm:=fun xo hx=>by
         cases hx;exact⟨_,ka,.inr ⟨b,rfl,.inl ⟨j,rfl,hj,by rw[hb];rfl,by rw[ho];trivial,fun N' H=>(yk (H _ _ ka pka)).elim fun _ q=>q.2.1⟩⟩⟩)
        simp only[runK,ka,zH];show loadAt none N.h (i*1+0) (N.h.t.get b)=_;rw[h3];show zw8 N.h (ue vs (i*1+0))=_;rw[xO,show i*1+0=i by omega,g4];rfl
    |_=>rw[ht]at e;cases e
  |_=>rw[ho]at e;cases e
 |ip j f len st i o=>
  simp only[zmc]at e;obtain⟨w,hv,hj,b,hb,rfl,hil⟩:=yk ra;subst hv;cases ho:og os j with
  |box ps=>
   rw[ho]at e;simp only at e;obtain⟨b',cs,h1,h2,h3,h4⟩:=uU I ho;rw[hb]at h1;cases h1;cases n with
   |none=>
    simp only at e;have hh:=zm e;clear e;obtain⟨l,hl,e⟩:=hh;obtain⟨q1,q2⟩:=zeK h4 hl hil (by omega);have ql:=(zjf hl hil).1
    match l,e,q2,ql with
    | [p],e,q2,_=>
     simp only at e
     match hc:(List.drop (f+o+i*st) cs).take 1,q2 with
     | [c],q2=>
      have hcc:cs[f+o+i*st]? = some c:=by
       have:=congrArg List.head? hc;rw[List.take_one]at this;cases hd:(List.drop (f+o+i*st) cs).head? with
       |none=>rw[hd]at this;cases this
       |some c'=>rw[hd]at this;cases this;rwa [List.head?_drop]at hd
      refine .quiet I (v:=.s (.one c)) (fun call=>?_) (y4 q2.1) e (hm:=fun xo hx=>by
    cases hx;exact⟨_,ka,.inr ⟨b,rfl,.inl ⟨j,rfl,hj,by rw[hb];rfl,by rw[ho];trivial,fun N' H=>(yk (H _ _ ka pka)).elim fun _ q=>q.2.1⟩⟩⟩)
      simp only[runK,ka,zH];show loadAt none N.h (f+i*st+o) (N.h.t.get b)=_;rw[h3,show f+i*st+o=f+o+i*st by omega];show zw8 N.h (ue cs _)=_;rw[xO,hcc];rfl
   |some m=>
    simp only at e;cases hm:Nat.beq m 0 with
    |true=>rw[hm]at e;cases e
    |false=>
     rw[hm]at e;simp only[Yzc]at e;have hh:=zm e;clear e;obtain⟨l,hl,e⟩:=hh;obtain⟨q1,q2⟩:=zeK h4 hl hil (fun h=>by subst h;cases hm);refine .quiet I (v:=.s (.agg ((cs.drop (f+o+i*st)).take m))) (fun call=>?_) (RepPA.of (v:=.agg _) (p:=.agg l) q2) e (hm:=fun xo hx=>by
    cases hx;exact⟨_,ka,.inr ⟨b,rfl,.inl ⟨j,rfl,hj,by rw[hb];rfl,by rw[ho];trivial,fun N' H=>(yk (H _ _ ka pka)).elim fun _ q=>q.2.1⟩⟩⟩)
     simp only[runK,ka,zH];show loadAt (some m) N.h (f+i*st+o) (N.h.t.get b)=_;rw[h3,show f+i*st+o=f+o+i*st by omega];show zxr N.h (cut m cs _)=_;rw[zcz cs m _ (by omega)];rfl
  |_=>rw[ho]at e;cases e
 |vw j st lo len=>cases e
 |clo f caps=>cases e
theorem zmo(I:Zf E N os)(F:∀i,RepPA N (r i) (ρ i)){a:Operand} (e:w1 (pv ρ a) (fun c=>
  match c with
  | .ptr j off=>k (pc (.ptr j off)) os [] []
  | .clo f l=>k (pc (.clo f l)) os [] []
  | .d (.fp xs off)=>k (pd (.fp xs off)) os [] []
  |_=>none)=some x):GoalQ N os r ρ (.nilck a) k x:=by
 have hh:=uE F e;clear e;obtain⟨c,v,e,ka,ra,pka⟩:=hh;split at e
 ·obtain⟨w,rfl,hw⟩:=yk ra;have hw':=hw;obtain⟨hj,b,hb,rfl⟩:=hw;exact .quiet I (fun call=>by simp only[runK,ka,zH];rfl) (y4 hw') e (zcl ka pka fun N' H=>H)
 ·obtain⟨w,rfl,hw⟩:=yk ra;have hw':=hw;obtain⟨ps,rfl,hc⟩:=hw;exact .quiet I (fun call=>by simp only[runK,ka,zH];rfl) (y4 hw') e (zcl ka pka fun N' H=>H)
 ·obtain⟨w,rfl,hw⟩:=wN ra;obtain⟨b,o,base,cs,rfl,_⟩:=hw.fp_inv;exact .quiet I (fun call=>by simp only[runK,ka,zH];rfl) ra e (zcl ka pka fun N' H=>H)
 ·cases e
theorem ziP{w:Zc}{v:DV}{q:Bool}(H:Rep N.fz N.h w v)(e:zep v=some q)(neg:Bool)(h:Za):zlk neg (.s (.one w)) (.s (.one .nils)) h=some (.s (.one (.bool (bif neg then !q else q))),h):=by
 cases v<;>simp only[zep]at e<;>cases e
 ·rw[H.scal rfl];cases neg<;>rfl
 ·obtain⟨b,o,off,cap,ex,cs,rfl,_⟩:=H.lst_inv;cases neg<;>rfl
theorem zqw(I:Zf E N os)(F:∀i,RepPA N (r i) (ρ i)){neg:Bool}{a b:Operand} (e:w1 (pv ρ a) (fun c=>wd (pv ρ b) fun w=>
  match w with
  | .nils=>
   match c with
   | .d v=>za (zep v) fun q=>k (pd (.bool (bif neg then !q else q))) os [] []
   | .own j=>
    match og os j with
    | .arr _ v=>k (pd (.bool (bif neg then v.isSome else v.isNone))) os [] []
    | .frz v=>za (zep v) fun q=>k (pd (.bool (bif neg then !q else q))) os [] []
    |_=>none
   |_=>none
  |_=>none)=some x):GoalQ N os r ρ (.nilS neg a b) k x:=by
 have hh:=uE F e;clear e;obtain⟨c,v,e,ka,ra,pka⟩:=hh;have hh:=wX F e;clear e;obtain⟨w,u,e,kb,rb⟩:=hh;cases w<;>first|cases e|skip
 simp only at e;rw[yn rb rfl]at kb;cases c<;>first|cases e|skip
 ·rename_i d;simp only at e;have hh:=zm e;clear e;obtain⟨q,hq,e⟩:=hh;obtain⟨c,rfl,hc⟩:=wN ra;exact .quiet I (fun call=>by simp only[runK,ka,kb,zH];exact ziP hc hq neg N.h) (yP rfl) e
 ·rename_i j;simp only at e;obtain⟨c,rfl,hj,hc⟩:=yk ra;cases ho:og os j with
  |arr st vo=>
   rw[ho]at e;simp only at e;have hO:=I.obj j;rw[ho]at hO;refine .quiet I (fun call=>?_) (yP rfl) e;simp only[runK,ka,kb,zH];cases vo with
   |none=>rw[hc,show N.μ j=.nils from hO];cases neg<;>rfl
   |some xs=>
    obtain⟨b,vs,ex,h1,_⟩:=hO;rw[hc,h1];cases neg<;>rfl
  |frz d=>
   rw[ho]at e;simp only at e;have hO:=I.obj j;rw[ho]at hO;have hh:=zm e;clear e;obtain⟨q,hq,e⟩:=hh;exact .quiet I (fun call=>by simp only[runK,ka,kb,zH];rw[hc];exact ziP hO hq neg N.h) (yP rfl) e
  |_=>rw[ho]at e;cases e
theorem znD{t:Nat}{a b:Zc}{v w:DV}{q:Bool}{fz:BN→Prop}{h:Za}(ha:Rep fz h a v)(hb:Rep fz h b w)(e:eqD t v w=some q):eqC t a b=some q:=by
 unfold eqD at e;split at e
 ·rw[ha.scal rfl,hb.scal rfl];exact e
 ·rw[ha.scal rfl,hb.scal rfl];exact e
 ·rw[ha.scal rfl,hb.scal rfl];exact e
 ·cases e
theorem zhR{fz:BN→Prop}{h:Za}:∀{ks:List Nat} {as bs:List Zc} {vs ws:List DV} {q:Bool},RepL fz h as vs→RepL fz h bs ws→zxx ks vs ws=some q→zx6 ks as bs=some q
 | [],[],[],[],[],q,_,_,e=>e
 |k::ks,a::as,b::bs,v::vs,w::ws,q,ha,hb,e=>by
  obtain⟨a1,a2⟩:=ha.inv;obtain⟨b1,b2⟩:=hb.inv;simp only[zxx,zx6]at e ⊢;cases hq:eqD k v w with
  |none=>rw[hq]at e;cases e
  |some p=>
   rw[hq]at e;rw[znD a1 b1 hq];cases p with
   |true=>exact zhR a2 b2 e
   |false=>exact e
 |_,a::as,_,[],_,_,ha,_,_=>by have:=ha.1;simp at this
 |_,[],_,v::vs,_,_,ha,_,_=>by have:=ha.1;simp at this
 |_,_,b::bs,_,[],_,_,hb,_=>by have:=hb.1;simp at this
 |_,_,[],_,w::ws,_,_,hb,_=>by have:=hb.1;simp at this
 | [],[],b::bs,[],w::ws,q,_,_,e=>by cases e
 | [],a::as,[],v::vs,[],q,_,_,e=>by cases e
 | [],a::as,b::bs,v::vs,w::ws,q,_,_,e=>by cases e
 |k::ks,[],[],[],[],q,_,_,e=>by cases e
 |k::ks,[],b::bs,[],w::ws,q,_,_,e=>by cases e
 |k::ks,a::as,[],v::vs,[],q,_,_,e=>by cases e
theorem zaS:∀{ps:List PC} {cs:List Zc} {ds:List DV},zxV ps=some ds→RepPL N cs ps→RepL N.fz N.h cs ds
 | [],[],ds,e,_=>by cases e;exact .nil _ _
 | .d v::ps,c::cs,ds,e,H=>by
  simp only[zxV]at e;cases hd:zxV ps with
  |none=>rw[hd]at e;cases e
  |some l=>rw[hd]at e;cases e;exact .cons H.1 (zaS hd H.2)
 | [],_::_,_,_,H=>H.elim
 |_::_,[],_,_,H=>H.elim
 | .own _::_,_::_,_,e,_=>by cases e
 | .ptr _ _::_,_::_,_,e,_=>by cases e
 | .ep _ _ _ _::_,_::_,_,e,_=>by cases e
 | .ip _ _ _ _ _ _::_,_::_,_,e,_=>by cases e
 | .vw _ _ _ _::_,_::_,_,e,_=>by cases e
 | .clo _ _::_,_::_,_,e,_=>by cases e
theorem zcP{v:Zb}{ps:List PC}(H:RepPA N v (.s (.agg ps))):∃cs,v=.s (.agg cs)∧RepPL N cs ps:=by
 obtain⟨w,rfl,hw⟩:=H.inv;cases w with
 |one c=>exact hw.elim
 |agg cs=>exact⟨cs,rfl,hw⟩
theorem zAq(I:Zf E N os)(F:∀i,RepPA N (r i) (ρ i)){q:Nat⊕List Nat}{neg:Bool}{a b:Operand} (e:(match q with
  | .inl t=>wd (pv ρ a) fun v=>wd (pv ρ b) fun w=>za (eqD t v w) fun b=>k (pd (.bool (bif neg then !b else b))) os [] []
  | .inr ks=>
   match pv ρ a,pv ρ b with
   |some (.s (.agg xs)),some (.s (.agg ys))=>za (zxV xs) fun xs=>za (zxV ys) fun ys=>za (zxx ks xs ys) fun b=>k (pd (.bool (bif neg then !b else b))) os [] []
   |_,_=>none)=some x):GoalQ N os r ρ (.eq q neg a b) k x:=by
 cases q with
 |inl t=>
  simp only at e;have hh:=wX F e;clear e;obtain⟨v,va,e,ka,ra⟩:=hh;have hh:=wX F e;clear e;obtain⟨w,vb,e,kb,rb⟩:=hh;have hh:=zm e;clear e;obtain⟨p,hp,e⟩:=hh;obtain⟨ca,rfl,ha⟩:=wN ra;obtain⟨cb,rfl,hb⟩:=wN rb;refine .quiet I (v:=.s (.one (.bool (bif neg then !p else p)))) (fun call=>?_) (yP rfl) e;simp only[runK,ka,kb,zH];show (match eqC t ca cb with|some q=>some (Zb.s (.one (.bool (bif neg then !q else q))),N.h)|none=>none)=_;rw[znD ha hb hp]
 |inr ks=>
  simp only at e;split at e
  ·rename_i xs ys hx hy;obtain⟨va,ka,ra⟩:=wM F hx;obtain⟨vb,kb,rb⟩:=wM F hy;have hh:=zm e;clear e;obtain⟨ds,hd,e⟩:=hh;have hh:=zm e;clear e;obtain⟨es,he,e⟩:=hh;have hh:=zm e;clear e;obtain⟨p,hp,e⟩:=hh;obtain⟨ca,rfl,ha⟩:=zcP ra;obtain⟨cb,rfl,hb⟩:=zcP rb;refine .quiet I (v:=.s (.one (.bool (bif neg then !p else p)))) (fun call=>?_) (yP rfl) e;simp only[runK,ka,kb,zH];show (match zx6 ks ca cb with|some q=>some (Zb.s (.one (.bool (bif neg then !q else q))),N.h)|none=>none)=_;rw[zhR (zaS hd ha) (zaS he hb) hp]
  ·cases e
theorem zqB(I:Zf E N os)(F:∀i,RepPA N (r i) (ρ i)){a:Operand}{off:Nat} (e:w1 (pv ρ a) (fun c=>
  match c with
  | .ptr j o=>k (pc (.ptr j (o+off))) os [] []
  | .d (.fp xs o)=>k (pd (.fp xs (o+off))) os [] []
  | .ep j st i o=>k (pc (.ep j st i (o+off))) os [] []
  | .ip j f len st i o=>k (pc (.ip j f len st i (o+off))) os [] []
  |_=>none)=some x):GoalQ N os r ρ (.foff a off) k x:=by
 have hh:=uE F e;clear e;obtain⟨c,v,e,ka,ra,pka⟩:=hh;split at e
 ·rename_i j o;obtain⟨w,rfl,hj,b,hb,rfl⟩:=yk ra;exact .quiet I (v:=.s (.one (.ptr b (o+off)))) (fun call=>by simp only[runK,ka,zH];rfl) (y4 (p:=.ptr j (o+off)) ⟨hj,b,hb,rfl⟩) e (zcl ka pka fun N' H=>by
   obtain⟨w,hw,a1,b2,a2,a3⟩:=yk H;cases hw;cases a3;exact y4 (p:=.ptr j (o+off)) ⟨a1,b,a2,rfl⟩)
 ·obtain⟨w,rfl,hw⟩:=wN ra;obtain⟨b,o,base,cs,rfl,h1,h2,h3,h4⟩:=hw.fp_inv;rename_i xs off';exact .quiet I (v:=.s (.one (.ptr b (base+off'+off)))) (fun call=>by simp only[runK,ka,zH];rfl) (uk (by rw[Yyj];exact .fp_mk h1 h2 h3 h4)) e (zcl ka pka fun N' H=>by
   obtain⟨w,hw,hr⟩:=wN H;cases hw;obtain⟨b2,o2,base2,cs2,a1,a2,a3,a4,a5⟩:=hr.fp_inv;have hb2:b=b2∧base=base2:=by
    cases Zc.ptr.inj a1 with
    |intro x1 x2=>exact⟨x1,by omega⟩
   obtain⟨rfl,rfl⟩:=hb2;exact uk (by rw[Yyj];exact .fp_mk a2 a3 a4 a5))
 ·rename_i j st i o;obtain⟨w,rfl,hj,b,l,cap,ex,hb,rfl,hi⟩:=yk ra;exact .quiet I (v:=.s (.one (.ptr b (i*st+o+off)))) (fun call=>by simp only[runK,ka,zH];rfl) (y4 (p:=.ep j st i (o+off)) ⟨hj,b,l,cap,ex,hb,by simp[Yyj],hi⟩) e (zcl ka pka fun N' H=>by
   obtain⟨w,hw,a1,b2,l2,cap2,ex2,a2,a3,a4⟩:=yk H;cases hw;have:=(Zc.ptr.inj a3).1;subst this;exact y4 (p:=.ep j st i (o+off)) ⟨a1,b,l2,cap2,ex2,a2,by simp[Yyj],a4⟩)
 ·rename_i j f len st i o;obtain⟨w,rfl,hj,b,hb,rfl,hi⟩:=yk ra;exact .quiet I (v:=.s (.one (.ptr b (f+i*st+o+off)))) (fun call=>by simp only[runK,ka,zH];rfl) (y4 (p:=.ip j f len st i (o+off)) ⟨hj,b,hb,by simp[Yyj],hi⟩) e (zcl ka pka fun N' H=>by
   obtain⟨w,hw,a1,b2,a2,a3,a4⟩:=yk H;cases hw;have:=(Zc.ptr.inj a3).1;subst this;exact y4 (p:=.ip j f len st i (o+off)) ⟨a1,b,a2,by simp[Yyj],a4⟩)
 ·cases e
theorem zmt(I:Zf E N os)(F:∀i,RepPA N (r i) (ρ i)){a:Operand}{off:Nat}{n:Option Nat} (e:(match pv ρ a with
  |some (.s (.agg cs))=>zbh n cs off fun v=>k (.s v) os [] []
  |_=>none)=some x):GoalQ N os r ρ (.field a off n) k x:=by
 split at e
 ·rename_i cs hx;obtain⟨va,ka,ra⟩:=wM F hx;obtain⟨ca,rfl,ha⟩:=zcP ra;obtain⟨p,s,e,h1,h2,h3⟩:=zrz N.h ha e;exact .quiet I (v:=.s s) (fun call=>by simp only[runK,ka,zH];exact h1) (.of h2) e (zcl ka hx fun N' H=>by
   obtain⟨cs',hcs,hr⟩:=zcP H;cases hcs;exact .of (h3 N' hr))
 ·cases e
theorem zer{len:Nat}{i:DV}{n:Nat}(e:ul len i=some n):n<len∧Nat.ble (Nat.succ n) len=true∧∃t,i=.int t (.ofNat n):=by
 cases i<;>first|cases e|skip
 rename_i t m;cases m with
 |negSucc m=>cases e
 |ofNat m=>
  simp only[ul]at e;cases hb:Nat.ble (Nat.succ m) len with
  |false=>rw[hb]at e;cases e
  |true=>rw[hb]at e;cases e;exact⟨Lz4 hb,hb,t,rfl⟩
theorem zeI(I:Zf E N os){st:Nat}{a b:Operand}{v u:Zb}{i:DV}(ka:kv r a=some v)(kb:kv r b=some u)(rb:RepPA N u (pd i))(w:Zc)(d:DV){p:PC}(pka:pv ρ a=some (pc p))(hp:p=.d d∨(∃j,p=.own j)∨∃j s l n,p=.vw j s l n)(hw:Rep N.fz N.h w d)
  (e:(za (zwP st d i) fun x=>k (pd (.fp (exp x st 0) 0)) os [] [])=some x) (hv:v=.s (.one w)):GoalQ N os r ρ (.ixs st a b) k x:=by
 have hh:=zm e;clear e;obtain⟨y,hy,e⟩:=hh;cases d<;>first|cases hy|skip
 rename_i st' xs;cases i<;>first|cases hy|skip
 rename_i t n;cases n with
 |negSucc n=>cases hy
 |ofNat n=>
  simp only[zwP]at hy;cases hs:Nat.beq st st' with
  |false=>rw[hs]at hy;cases hy
  |true=>
   rw[hs]at hy;have:=Lz1 hs;subst this;simp only[Yza]at hy;obtain⟨b',o,off,cap,ex,cs,rfl,h1,h2,h3,h4,h5⟩:=hw.lst_inv;obtain⟨k1,k2⟩:=h5 n y hy;have hi:=(Lz0.1 hy).1;rw[yn rb rfl]at kb;subst hv;have he:=zju y;rw[k1]at he;rw[he]at e;have:=Yzq st (show n+1≤xs.length from hi);rw[YzJ]at this;refine .quiet I (v:=.s (.one (.ptr b' (off+n*st)))) (fun call=>?_) (uk (Rep.fp_mk (off:=0) h1 h2 (cs:=(cs.drop (n*st)).take st) (by rw[k1];exact zdf h4 (by omega)) k2)) e (fun xo hxo N' u' pa' hu' hpa' H=>by
    have htk:trk ρ (.ixs st a b)=(match pv ρ a with|some (.s (.one (.own _)))=>none|some (.s (.one (.vw _ _ _ _)))=>none|_=>some a):=rfl;rw[pka]at htk;rcases hp with rfl|⟨j,rfl⟩|⟨j,s,l,n,rfl⟩
    ·rw[htk]at hxo;cases hxo;rw[ka]at hu';cases hu';rw[pka]at hpa';cases hpa';obtain⟨w',hw',hr'⟩:=wN H;cases hw';obtain⟨b2,o2,off2,cap2,ex2,cs2,q1,q2,q3,q4,q5,q6⟩:=hr'.lst_inv;cases q1;obtain⟨g1,g2⟩:=q6 n y hy;exact uk (Rep.fp_mk (off:=0) q2 q3 (cs:=(cs2.drop (n*st)).take st) (by rw[g1];exact zdf q5 (by omega)) g2)
    ·rw[htk]at hxo;cases hxo
    ·rw[htk]at hxo;cases hxo)
   simp only[runK,ka,kb,zH];show (bif Nat.ble (Nat.succ n) xs.length then some (Zb.s (.one (.ptr b' (off+n*st))),N.h) else none)=_;rw[Yzm hi];rfl
theorem ztZ(I:Zf E N os)(F:∀i,RepPA N (r i) (ρ i)){st:Nat}{a b:Operand}(e:w1 (pv ρ a) (fun c=>wd (pv ρ b) fun i=>zyZ os st c i k)=some x):GoalQ N os r ρ (.ixs st a b) k x:=by
 have hh:=uE F e;clear e;obtain⟨c,v,e,ka,ra,pka⟩:=hh;have hh:=wX F e;clear e;obtain⟨i,u,e,kb,rb⟩:=hh;cases c<;>first|cases e|skip
 ·rename_i d;simp only[zyZ]at e;obtain⟨w,hv,hw⟩:=wN ra;exact zeI I ka kb rb w d pka (.inl rfl) hw e hv
 ·rename_i j;simp only[zyZ]at e;obtain⟨c,rfl,hj,hc⟩:=yk ra;cases ho:og os j with
  |frz d=>
   rw[ho]at e;have hO:=I.obj j;rw[ho]at hO;exact zeI I ka kb rb c d pka (.inr (.inl ⟨j,rfl⟩)) (by rw[hc];exact hO) e rfl
  |arr st' vo=>
   rw[ho]at e;simp only at e;cases hs:Nat.beq st st' with
   |false=>rw[hs]at e;cases e
   |true=>
    rw[hs]at e;have:=Lz1 hs;subst this;simp only[Yza]at e;have hh:=zm e;clear e;obtain⟨n,hn,e⟩:=hh;cases i<;>first|cases hn|skip
    rename_i t m;cases m with
    |negSucc m=>cases hn
    |ofNat m=>
     cases vo with
     |none=>cases hn
     |some xs=>
      simp only[xA]at hn;cases hb:Nat.ble (Nat.succ m) xs.length with
      |false=>rw[hb]at hn;cases hn
      |true=>
       rw[hb]at hn;cases hn;obtain⟨b',vs,ex,h1,h2,h3,h4,h5⟩:=zaR I ho;rw[yn rb rfl]at kb;refine .quiet I (v:=.s (.one (.ptr b' (0+n*st)))) (fun call=>?_) (y4 (p:=.ep j st n 0) ⟨hj,b',_,_,_,h1,by simp,Lz4 hb⟩) e (fun xo hxo N' u' pa' hu' hpa' H=>by
        have htk:trk ρ (.ixs st a b)=(match pv ρ a with|some (.s (.one (.own _)))=>none|some (.s (.one (.vw _ _ _ _)))=>none|_=>some a):=rfl;rw[pka]at htk;rw[htk]at hxo;cases hxo)
       simp only[runK,ka,kb,zH,hc,h1];show (bif Nat.ble (Nat.succ n) xs.length then some (Zb.s (.one (.ptr b' (0+n*st))),N.h) else none)=_;rw[hb];rfl
  |hol vo hn ht=>
   rw[ho]at e;simp only at e;cases hs:Nat.beq st 1 with
   |false=>rw[hs]at e;cases e
   |true=>
    rw[hs]at e;have:=Lz1 hs;subst this;simp only[Yza]at e;have hh:=zm e;clear e;obtain⟨n,hn,e⟩:=hh;cases i<;>first|cases hn|skip
    rename_i t m;cases m with
    |negSucc m=>cases hn
    |ofNat m=>
     cases vo with
     |none=>cases hn
     |some xs=>
      simp only[xA]at hn;cases hb:Nat.ble (Nat.succ m) xs.length with
      |false=>rw[hb]at hn;cases hn
      |true=>
       rw[hb]at hn;cases hn;have hO:=I.obj j;rw[ho]at hO;obtain⟨b',vs,ex,h1,h2,h3,h4,h5⟩:=hO;rw[yn rb rfl]at kb;refine .quiet I (v:=.s (.one (.ptr b' (0+n*1)))) (fun call=>?_) (y4 (p:=.ep j 1 n 0) ⟨hj,b',_,_,_,h1,by simp,Lz4 hb⟩) e (fun xo hxo N' u' pa' hu' hpa' H=>by
        have htk:trk ρ (.ixs 1 a b)=(match pv ρ a with|some (.s (.one (.own _)))=>none|some (.s (.one (.vw _ _ _ _)))=>none|_=>some a):=rfl;rw[pka]at htk;rw[htk]at hxo;cases hxo)
       simp only[runK,ka,kb,zH,hc,h1];show (bif Nat.ble (Nat.succ n) xs.length then some (Zb.s (.one (.ptr b' (0+n*1))),N.h) else none)=_;rw[hb];rfl
  |_=>rw[ho]at e;cases e
 ·rename_i j st' lo len;simp only[zyZ]at e;obtain⟨c,rfl,hc⟩:=yk ra;cases ho:og os j with
  |frz d=>
   rw[ho]at e;have hO:=I.obj j;rw[ho]at hO;exact zeI I ka kb rb c _ pka (.inr (.inr ⟨j,st',lo,len,rfl⟩)) (zel (N:=N) hO hc) e rfl
  |arr st'' vo=>
   rw[ho]at e;simp only at e;cases hs:Nat.beq st st' with
   |false=>rw[hs]at e;cases e
   |true=>
    rw[hs]at e;have:=Lz1 hs;subst this;simp only[Yza]at e;have hh:=zm e;clear e;obtain⟨n,hn,e⟩:=hh;obtain⟨h1,h2,t,rfl⟩:=zer hn;obtain⟨hj,hc⟩:=hc;rcases hc with⟨_,_,_,rfl⟩|⟨b',l,cap,ex,cap',ex',g1,rfl,g2,g3⟩
    ·omega
    ·rw[yn rb rfl]at kb;refine .quiet I (v:=.s (.one (.ptr b' (lo*st+n*st)))) (fun call=>?_) (y4 (p:=.ep j st (lo+n) 0) ⟨hj,b',_,_,_,g1,by rw[Yz6];rfl,by omega⟩) e (fun xo hxo N' u' pa' hu' hpa' H=>by
      have htk:trk ρ (.ixs st a b)=(match pv ρ a with|some (.s (.one (.own _)))=>none|some (.s (.one (.vw _ _ _ _)))=>none|_=>some a):=rfl;rw[pka]at htk;rw[htk]at hxo;cases hxo)
     simp only[runK,ka,kb,zH];show (bif Nat.ble (Nat.succ n) len then some (Zb.s (.one (.ptr b' (lo*st+n*st))),N.h) else none)=_;rw[h2];rfl
  |_=>rw[ho]at e;cases e
theorem zmr(I:Zf E N os)(F:∀i,RepPA N (r i) (ρ i)){len st:Nat}{a b:Operand} (e:w1 (pv ρ a) (fun c=>wd (pv ρ b) fun i=>
  match c with
  | .ptr j off=>za (ul len i) fun n=>k (pc (.ip j off len st n 0)) os [] []
  |_=>none)=some x):GoalQ N os r ρ (.ixarr len st a b) k x:=by
 have hh:=uE F e;clear e;obtain⟨c,v,e,ka,ra,pka⟩:=hh;have hh:=wX F e;clear e;obtain⟨i,u,e,kb,rb⟩:=hh;split at e
 ·have hh:=zm e;clear e;obtain⟨n,hn,e⟩:=hh;obtain⟨h1,h2,t,rfl⟩:=zer hn;obtain⟨w,rfl,hj,b',hb,rfl⟩:=yk ra;rw[yn rb rfl]at kb;rename_i j off;refine .quiet I (v:=.s (.one (.ptr b' (off+n*st)))) (fun call=>?_) (y4 (p:=.ip j off len st n 0) ⟨hj,b',hb,by simp,h1⟩) e;simp only[runK,ka,kb,zH];show (bif Nat.ble (Nat.succ n) len then some (Zb.s (.one (.ptr b' (off+n*st))),N.h) else none)=_;rw[h2];rfl
 ·cases e
theorem zms(I:Zf E N os)(F:∀i,RepPA N (r i) (ρ i)){len st:Nat}{n:Option Nat}{a b:Operand} (e:wd (pv ρ b) (fun i=>
  match pv ρ a with
  |some (.s (.agg cs))=>za (ul len i) fun j=>
   match n with
   |none=>za (ipC cs st len j 1 0) fun l=>match l with | [c]=>k (pc c) os [] []|_=>none
   |some m=>bif Nat.beq m 0 then none else za (ipC cs st len j m 0) fun l=>k (.s (.agg l)) os [] []
  |_=>none)=some x):GoalQ N os r ρ (.ixagg len st n a b) k x:=by
 have hh:=wX F e;clear e;obtain⟨i,u,e,kb,rb⟩:=hh;split at e
 ·rename_i ps hx;obtain⟨va,ka,ra⟩:=wM F hx;obtain⟨cs,rfl,ha⟩:=zcP ra;have hh:=zm e;clear e;obtain⟨j,hj,e⟩:=hh;obtain⟨h1,h2,t,rfl⟩:=zer hj;rw[yn rb rfl]at kb;have run:∀call,runK r (.ixagg len st n a b) call N.h=CE.part n cs (j*st) N.h:=fun call=>by
   simp only[runK,ka,kb,zH];show (bif Nat.ble (Nat.succ j) len then CE.part n cs (j*st) N.h else none)=_;rw[h2];rfl
  cases n with
  |none=>
   simp only at e;have hh:=zm e;clear e;obtain⟨l,hl,e⟩:=hh;obtain⟨q1,q2⟩:=zeK ha hl h1 (by omega);rw[Yze]at q1 q2;have ql:=(zjf hl h1).1
   match l,e,q2,ql with
   | [p],e,q2,_=>
    simp only at e
    match hc:(List.drop (j*st) cs).take 1,q2 with
    | [c],q2=>
     have hcc:cs[j*st]? = some c:=by
      have:=congrArg List.head? hc;rw[List.take_one]at this;cases hd:(List.drop (j*st) cs).head? with
      |none=>rw[hd]at this;cases this
      |some c'=>rw[hd]at this;cases this;rwa [List.head?_drop]at hd
     refine .quiet I (v:=.s (.one c)) (fun call=>?_) (y4 q2.1) e;rw[run];show zw8 N.h (ue cs _)=_;rw[xO,hcc];rfl
  |some m=>
   simp only at e;cases hm:Nat.beq m 0 with
   |true=>rw[hm]at e;cases e
   |false=>
    rw[hm]at e;simp only[Yzc]at e;have hh:=zm e;clear e;obtain⟨l,hl,e⟩:=hh;obtain⟨q1,q2⟩:=zeK ha hl h1 (fun h=>by subst h;cases hm);rw[Yze]at q1 q2;refine .quiet I (v:=.s (.agg ((cs.drop (j*st)).take m))) (fun call=>?_) (RepPA.of (v:=.agg _) (p:=.agg l) q2) e;rw[run];show zxr N.h (cut m cs _)=_;rw[zcz cs m _ (by omega)];rfl
 ·cases e
theorem RepSL.get{fz:BN→Prop}{h:Za}:∀{cs:List SVal} {ds:List DS},RepSL fz h cs ds→∀{i:Nat} {d:DS},ds[i]? = some d→∃c,zyB cs i=some c∧RepS fz h c d
 | [],[],_,i,d,e=>by simp at e
 |c::cs,d0::ds,H,i,d,e=>by
  cases i with
  |zero=>simp only[Yzg,Option.some.injEq]at e;subst e;exact⟨c,rfl,H.1⟩
  |succ i=>exact RepSL.get H.2 (i:=i) (by simpa using e)
 | [],_::_,H,_,_,_=>H.elim
 |_::_,[],H,_,_,_=>H.elim
theorem zfR(I:Zf E N os)(F:∀i,RepPA N (r i) (ρ i)){a:Operand}{i:Nat} (e:(match pv ρ a with
  |some (.tup l)=>
   match l[i]? with
   |some (.one d)=>k (pd d) os [] []
   |some (.agg ds)=>k (.s (.agg (ds.map .d))) os [] []
   |none=>none
  |_=>none)=some x):GoalQ N os r ρ (.extract a i) k x:=by
 split at e
 ·rename_i l hx;obtain⟨va,ka,ra⟩:=wM F hx;cases va with
  |s v=>exact ra.elim
  |tup vs=>
   have run:∀c,zyB vs i=some c→∀call,runK r (.extract a i) call N.h=some (.s c,N.h):=fun c hc call=>by
    simp only[runK,ka,zH];show (match zyB vs i with|some v=>some (Zb.s v,N.h)|none=>none)=_;rw[hc]
   split at e
   ·rename_i d hd;obtain⟨c,h1,h2⟩:=RepSL.get ra hd;cases c with
    |agg cs=>exact h2.elim
    |one c=>exact .quiet I (run _ h1) (uk h2) e (zcl ka hx fun N' H=>by
     obtain⟨c',g1,g2⟩:=RepSL.get (show RepSL N'.fz N'.h vs l from H) hd;rw[h1]at g1;cases g1;exact uk g2)
   ·rename_i ds hd;obtain⟨c,h1,h2⟩:=RepSL.get ra hd;cases c with
    |one c=>exact h2.elim
    |agg cs=>exact .quiet I (run _ h1) (RepPA.of (v:=.agg _) (p:=.agg _) (RepPL.ofD h2)) e (zcl ka hx fun N' H=>by
     obtain⟨c',g1,g2⟩:=RepSL.get (show RepSL N'.fz N'.h vs l from H) hd;rw[h1]at g1;cases g1;exact RepPA.of (v:=.agg _) (p:=.agg _) (RepPL.ofD g2))
   ·cases e
 ·cases e
theorem zmd{w:Zc}{v z:DV}(H:Rep N.fz N.h w v)(e:zwO v=some z)(h:Za):∃c,zll (.s (.one w)) h=some (.s (.one c),h)∧z.scal=some c:=by
 cases v<;>simp only[zwO]at e<;>cases e
 ·rw[H.scal rfl];exact⟨_,rfl,rfl⟩
 ·obtain⟨b,o,off,cap,ex,cs,rfl,_⟩:=H.lst_inv;exact⟨_,rfl,rfl⟩
theorem zqA(I:Zf E N os)(F:∀i,RepPA N (r i) (ρ i)){a:Operand} (e:w1 (pv ρ a) (fun c=>
  match c with
  | .d v=>za (zwO v) fun z=>k (pd z) os [] []
  | .own j=>
   match og os j with
   | .arr _ v=>k (pd (.int .i64 (.ofNat (zwW v)))) os [] []
   | .frz v=>za (zwO v) fun z=>k (pd z) os [] []
   |_=>none
  | .vw _ _ _ len=>k (pd (.int .i64 (.ofNat len))) os [] []
  |_=>none)=some x):GoalQ N os r ρ (.lenL a) k x:=by
 have hh:=uE F e;clear e;obtain⟨c,v,e,ka,ra,pka⟩:=hh;cases c<;>first|cases e|skip
 ·rename_i d;simp only at e;have hh:=zm e;clear e;obtain⟨z,hz,e⟩:=hh;obtain⟨w,rfl,hw⟩:=wN ra;obtain⟨c,h1,h2⟩:=zmd hw hz N.h;exact .quiet I (fun call=>by simp only[runK,ka,zH];exact h1) (yP h2) e
 ·rename_i j;simp only at e;obtain⟨c,rfl,hj,hc⟩:=yk ra;cases ho:og os j with
  |arr st vo=>
   rw[ho]at e;simp only at e;have hO:=I.obj j;rw[ho]at hO;refine .quiet I (fun call=>?_) (yP rfl) e;simp only[runK,ka,zH];cases vo with
   |none=>rw[hc,show N.μ j=.nils from hO];rfl
   |some xs=>obtain⟨b,vs,ex,h1,_⟩:=hO;rw[hc,h1];rfl
  |frz d=>
   rw[ho]at e;simp only at e;have hO:=I.obj j;rw[ho]at hO;have hh:=zm e;clear e;obtain⟨z,hz,e⟩:=hh;obtain⟨c',h1,h2⟩:=zmd (show Rep N.fz N.h (N.μ j) d from hO) hz N.h;exact .quiet I (fun call=>by simp only[runK,ka,zH];rw[hc];exact h1) (yP h2) e
  |_=>rw[ho]at e;cases e
 ·rename_i j st lo len;simp only at e;obtain⟨c,rfl,hj,hc⟩:=yk ra;refine .quiet I (fun call=>?_) (yP rfl) e;simp only[runK,ka,zH];rcases hc with⟨_,rfl,_,rfl⟩|⟨b',l,cap,ex,cap',ex',g1,rfl,g2,g3⟩<;>rfl
end
end Go.PE
end
section
namespace Go.PE
open Go Go.CE
def fzN(fz:BN→Prop)(h h':Za):BN→Prop:=fun b=>fz b∨(h.n.toNat≤b.toNat∧b.toNat<h'.n.toNat)
def zqY(C:Nat→zg)(g:Nat)(args:List DA)(res:DA):Prop:=
 ∀(fz:BN→Prop) (h:Za) (vs:List Zb),HW h→(∀b,fz b→b.toNat<h.n.toNat)→RepAL fz h vs args→
  Ev (fun n=>C n (.inl g) vs h) (fun p=>HW p.2∧Gr h p.2∧RepA (fzN fz h p.2) p.2 p.1 res)
def u7(O:Orc)(C:Nat→zg):Prop:=∀g args res,O g args=some res→zqY C g args res
theorem j4(vs:List Zc):∀(cs:List Zc) (i:Nat),i+vs.length≤cs.length→putAt vs cs i=some (cs.take i++vs++cs.drop (i+vs.length)):=by
 have ov:∀(vs cs:List Zc),vs.length≤cs.length→over vs cs=some (vs++cs.drop vs.length):=by
  intro vs
  induction vs with
  |nil=>intro cs _;rfl
  |cons v vs ih=>
   intro cs h;cases cs with
   |nil=>simp at h
   |cons c cs=>simp only[over,ih cs (by simpa using h),wo,Yzk,List.drop_succ_cons,List.cons_append]
 intro cs
 induction cs with
 |nil=>intro i h;simp at h;obtain⟨rfl,h2⟩:=h;subst h2;rfl
 |cons c cs ih=>
  intro i h;cases i with
  |zero=>
   show over vs (c::cs)=_;rw[ov vs _ (by simpa using h)];simp
  |succ i=>
   show wo c (putAt vs cs i)=_;rw[ih i (by simp at h;omega)];simp[wo,Nat.succ_add]
theorem zeD:∀(cs:List Zc),jE cs cs.length=true
 | []=>rfl
 |c::cs=>by
  show (bif Nat.beq (cs.length+1) 0 then false else jE cs cs.length)=true;rw[zeD cs];rfl
section
variable {β:Type} {C:Nat→zg} {E:En} {lk:Nat→Bool} {N:Nm} {os:List PO} {r:Fr} {ρ:Nat→PA} {k:KT β} {x:β}
theorem zg2(I:Zf E N os)(hlk:∀j,lk j=true→j<os.length)(y:Ze)(o:PO)(c:Zc)(hc:blk c=some N.h.n)
  (ho:∀N',Nx N N'→N'.μ os.length=c→¬N'.fz N.h.n→N'.h.t.get N.h.n=some y→RepO N' os.length o) (hnl:∀m,o≠.lnk m:=by intro m h;cases h):
  ∃N',N'.h=N.h.new y∧N'.μ os.length=c∧N'.n=os.length+1∧Stp E lk N os [] N' (os++[o]):=by
 have G:=Gr.new N.h y;have nx:Nx N ⟨upd N.μ os.length c,os.length+1,N.fz,N.h.new y⟩:=⟨⟨fun _ _ h _=>h,fun b z _ hz=>G.get I.hw hz⟩,by have:=I.len;show N.n≤os.length+1;omega,fun k hk=>by
  have:=I.len;show (if k=os.length then c else N.μ k)=_;rw[Yzb (by omega)]⟩
 have muL:upd N.μ os.length c os.length=c:=by show (if os.length=os.length then c else _)=_;rw[Yzd rfl]
 obtain⟨i1,i2,i3⟩:=I.new y o c hc (ho _ nx muL (fun h=>absurd (I.fzlt _ h) (by omega)) (zz _ _ _)) hnl;refine⟨_,rfl,muL,rfl,⟨i1,i2,Bk.gr G,fun j hj=>?_,.app (Nat.le_of_eq I.len)⟩⟩;rw[yY,Yzb (by have:=hlk j hj;omega)]
theorem ub(h:Za)(o:Ze)(v:BN→Zc):zxe h o v=some (.s (.one (v h.n)),h.new o):=by cases h;rfl
theorem zmz(I:Zf E N os)(hlk:∀j,lk j=true→j<os.length){vs:List Zc}{ps:List PC}(H:RepPL N vs ps){ko:KOp}(run:∀call,runK r ko call N.h=zxe N.h (.cells vs 0) (fun b=>.ptr b 0))
  (e:k (pc (.ptr os.length 0)) (os++[.box ps]) [] []=some x):Goal C E lk N os r ko k x:=by
 obtain⟨N',h1,h2,h3,S⟩:=zg2 (lk:=lk) I hlk (.cells vs 0) (.box ps) (.ptr N.h.n 0) rfl fun N' nx hmu hf hg=>⟨_,vs,hmu,hf,hg,H.mono nx⟩;refine⟨_,_,_,_,e,⟨(.s (.one (.ptr N.h.n 0)),N.h.new (.cells vs 0)),⟨N',h1,S.sim (y4 (p:=.ptr os.length 0) (c:=.ptr N.h.n 0) ⟨by rw[h3];omega,_,h2,rfl⟩)⟩,0,fun n _=>(run (C n)).trans (ub _ _ _)⟩⟩
theorem zrQ(I:Zf E N os)(hlk:∀j,lk j=true→j<os.length){zs:List Zc}(e:za (cDs zs) (fun cs=>k (pc (.ptr os.length 0)) (os++[.box cs]) [] [])=some x):Goal C E lk N os r (.alloc zs) k x:=by
 obtain⟨ps,h1,e⟩:=zm e;exact zmz I hlk (zaj h1) (fun call=>rfl) e
theorem RepPV.cells{v:SVal}{p:PV}(H:RepPV N v p):RepPL N v.cells p.cells:=by
 cases v<;>cases p<;>simp only[RepPV]at H
 ·exact⟨H,trivial⟩
 ·exact H
theorem zvR(I:Zf E N os)(F:∀i,RepPA N (r i) (ρ i))(hlk:∀j,lk j=true→j<os.length){a:Operand} (e:(match pv ρ a with
  |some (.s v)=>k (pc (.ptr os.length 0)) (os++[.box v.cells]) [] []
  |_=>none)=some x):Goal C E lk N os r (.box a) k x:=by
 split at e
 ·rename_i p hp;obtain⟨v,ka,ra⟩:=wM F hp;obtain⟨w,rfl,hw⟩:=ra.inv
  ·exact zmz I hlk hw.cells (fun call=>by simp only[runK,ka,zH];rfl) e
 ·cases e
theorem zby(F:∀i,RepPA N (r i) (ρ i)):∀{parts:List (Nat×Nat×Operand)} {ps ps':List PC} {cs:List Zc},zgd ρ parts ps=some ps'→RepPL N cs ps→∃l cs',kvp r parts=some l∧q8 .nil (cP l) cs=some cs'∧RepPL N cs' ps'
 | [],ps,ps',cs,e,H=>by cases e;exact⟨[],cs,rfl,rfl,H⟩
 |(off,size,a)::rest,ps,ps',cs,e,H=>by
  simp only[zgd]at e;split at e
  ·rename_i p hp;obtain⟨v,ka,ra⟩:=wM F hp;cases hb:(Nat.beq p.cells.length size&&Nat.ble (off+size) ps.length) with
   |false=>rw[hb]at e;cases e
   |true=>
    rw[hb]at e;simp only[LzC]at hb;have h1:=Lz1 hb.1;have h2:=Lz4 hb.2;simp only[Yza]at e;have hcs:=H.len;obtain⟨w,rfl,hw⟩:=ra.inv;have hw:=hw.cells;have hl:=hw.len;obtain⟨l,cs',k1,k2,k3⟩:=zby F e (cs:=cs.take off++w.cells++cs.drop (off+size)) (((H.take off).app hw).app (H.drop (off+size)));refine⟨(off,size,.s w)::l,cs',by simp only[kvp,ka,k1],?_,k3⟩;show q8 .nil ((off,size,zu (.s w))::cP l) cs=_;simp only[q8,zu];have hls:jE w.cells size=true:=by rw[←h1,←hl];exact zeD _
    rw[hls,Yza,j4 w.cells cs off (by omega),show off+w.cells.length=off+size by omega];exact k2
  ·cases e
theorem zmu(I:Zf E N os)(F:∀i,RepPA N (r i) (ρ i)){zs:List Zc}{parts:List (Nat×Nat×Operand)}(e:za (cDs zs) (fun cs=>za (zgd ρ parts cs) fun cs=>k (.s (.agg cs)) os [] [])=some x):GoalQ N os r ρ (.build zs parts) k x:=by
 obtain⟨ps,h1,e⟩:=zm e;obtain⟨ps',h2,e⟩:=zm e;obtain⟨l,cs',k1,k2,k3⟩:=zby F h2 (zaj h1);refine .quiet I (v:=.s (.agg cs')) (fun call=>?_) (RepPA.of (v:=.agg cs') (p:=.agg ps') k3) e;simp only[runK,k1];show zxr N.h (q8 .nil (cP l) zs)=_;rw[k2];rfl
theorem zaI(st:Nat):∀(n:Nat) (ds:List DV),(chunks st n ds).length=n
 |0,_=>rfl
 |n+1,ds=>by simp[chunks,zaI st n]
theorem zaJ(st:Nat):∀(n:Nat) (ds:List DV) (i:Nat) (x:List DV),(chunks st n ds)[i]? = some x→x=(ds.drop (i*st)).take st∧i<n
 |0,_,i,x,e=>by simp[chunks]at e
 |n+1,ds,i,x,e=>by
  cases i with
  |zero=>simp only[chunks,Yzg,Option.some.injEq]at e;subst e;exact⟨by simp,by omega⟩
  |succ i=>
   obtain⟨h1,h2⟩:=zaJ st n (ds.drop st) i x (by simpa[chunks] using e);refine⟨?_,by omega⟩;rw[h1,Yyd,YzJ,YyN]
theorem zcb(I:Zf E N os)(hlk:∀j,lk j=true→j<os.length){st:Nat}{vs:List Zc}{xs:List (List DV)}{ex:Bool}(hl:vs.length=xs.length*st)
  (H:∀(i:Nat) (x:List DV),xs[i]? = some x→x.length=st∧RepL N.fz N.h ((vs.drop (i*st)).take st) x):
  ∃N',N'.h=N.h.new (.cells vs st)∧N'.n=os.length+1∧Stp E lk N os [] N' (os++[.arr st (some xs)])∧RepPA N' (.s (.one (.slc N.h.n 0 xs.length (bif ex then xs.length else 0) ex))) (pc (.own os.length)):=by
 obtain⟨N',h1,h2,h3,S⟩:=zg2 (lk:=lk) I hlk (.cells vs st) (.arr st (some xs)) (.slc N.h.n 0 xs.length (bif ex then xs.length else 0) ex) rfl fun N' nx hmu hf hg=>
  ⟨_,vs,ex,hmu,hf,hg,hl,fun i x hx=>⟨(H i x hx).1,(H i x hx).2.mono nx.fg⟩⟩
 exact⟨N',h1,h3,S,y4 (p:=.own os.length) ⟨by rw[h3];omega,h2.symm⟩⟩
theorem zpc(I:Zf E N os)(F:∀i,RepPA N (r i) (ρ i))(hlk:∀j,lk j=true→j<os.length){st len:Nat}{zs:List Zc}{parts:List (Nat×Nat×Operand)} (e:za (cDs zs) (fun cs=>za (zgd ρ parts cs) fun cs=>za (frL lk y7 os cs) fun p=>
  bif Nat.beq p.2.length (len*st) then k (pc (.own p.1.length)) (p.1++[.arr st (some (chunks st len p.2))]) [] [] else none)=some x):Goal C E lk N os r (.bslice st len zs parts) k x:=by
 obtain⟨ps,h1,e⟩:=zm e;obtain⟨ps',h2,e⟩:=zm e;obtain⟨⟨os1,ds⟩,h3,e⟩:=zm e;obtain⟨l,cs',k1,k2,k3⟩:=zby F h2 (zaj h1);obtain⟨N1,f1,S1,r1⟩:=zjn I k3 h3;simp only at e;cases hb:Nat.beq ds.length (len*st) with
 |false=>rw[hb]at e;cases e
 |true=>
  rw[hb]at e;have hd:=Lz1 hb;have hl1:os1.length=os.length:=by rw[←S1.inv.len,f1.n,I.len]
  have hlc:(chunks st len ds).length=len:=zaI st len ds;obtain⟨N2,h4,h5,S2,r2⟩:=zcb (lk:=lk) (ex:=true) S1.inv (fun j hj=>by rw[hl1];exact hlk j hj) (st:=st) (vs:=cs') (xs:=chunks st len ds) (by rw[r1.1,hd,hlc]) fun i y hy=>by
   obtain⟨q1,q2⟩:=zaJ st len ds i y hy;subst q1;refine⟨?_,r1.sub (i*st) st⟩;have:=Yzq st (show i+1≤len from q2);rw[YzJ]at this;simp;omega
  refine⟨_,_,_,_,e,⟨(.s (.one (.slc N.h.n 0 len len true)),N.h.new (.cells cs' st)),⟨N2,by rw[h4,f1.h],?_⟩,0,fun n _=>?_⟩⟩
  ·rw[hlc]at r2;rw[f1.h]at r2;exact(S1.trans S2 f1.n).sim r2
  ·show runK r (.bslice st len zs parts) (C n) N.h=_;simp only[runK,k1];show (match q8 .nil (cP l) zs with|some cs=>zxe N.h (.cells cs st) (fun b=>.slc b 0 len len true)|none=>none)=_;rw[k2];exact ub _ _ _
theorem zl3(I:Zf E N os){j:Nat}(hj:lk j=false){ps qs:List PC}(ho:og os j=.box ps){b:BN}(hb:N.μ j=.ptr b 0){vs ws:List Zc}(_hg:N.h.t.get b=some (.cells vs 0))(hv:RepPL N vs ps)(hw:RepPL N ws qs){off:Nat}(_hl:off+ws.length≤vs.length):
  ∃N',N'.h=N.h.put b (.cells (vs.take off++ws++vs.drop (off+ws.length)) 0)∧Stp E lk N os [j] N' (oset (.box (ps.take off++qs++ps.drop (off+ws.length))) os j):=by
 have hsv:solid (og os j):=by rw[ho];trivial
 have hlv:=hsv.live;have hbk:blk (N.μ j)=some b:=by rw[hb];rfl
 obtain⟨b0,x0,q1,q2,q3⟩:=xx hlv (I.obj j);rw[hbk]at q1;cases q1;have nx:Nx N ⟨N.μ,N.n,N.fz,N.h.put b (.cells (vs.take off++ws++vs.drop (off+ws.length)) 0)⟩:=⟨⟨fun _ _ h _=>h,fun b' y hf hy=>by
  show (N.h.put b _).t.get b'=_;rw[xT _ _ (fun(e:b'=b)=>q2 (by rw[←e];exact hf))];exact hy⟩,LzB _,fun _ _=>rfl⟩
 obtain⟨i1,i2,i3⟩:=I.put hsv hbk (.cells (vs.take off++ws++vs.drop (off+ws.length)) 0) (.box (ps.take off++qs++ps.drop (off+ws.length)))
  ⟨b,_,hb,q2,uI _ _ _,(((hv.take off).app hw).app (hv.drop (off+ws.length))).mono nx⟩
 exact⟨_,rfl,⟨i1,i2,Bk.put rfl (by
  rw[I.len];exact un (by rw[ho];intro h;cases h)) hlv hbk,fun j' hj'=>by rw[zJ,Yzb (fun e=>by rw[e.1,hj]at hj';cases hj')],.oset (fun _=>by rw[ho];trivial) (fun _=>.inl trivial) (fun _=>by rw[ho];trivial)⟩⟩
theorem qv{vs ds:List Zc}{p st i off:Nat}(h:p+ds.length≤vs.length)(hp:p=i*st+off)(hs:off+ds.length≤st)(j:Nat)(hij:j≠i):
  ((vs.take p++ds++vs.drop (p+ds.length)).drop (j*st)).take st=(vs.drop (j*st)).take st:=by
 apply Yyx;intro t;rw[Yzo,Yzo];split
 ·rename_i ht;rw[Yzr,Yzr];by_cases hlt:j<i
  ·have:=Yzq st (show j+1≤i from hlt);rw[YzJ]at this;rw[Yzs,Lz2 (by simp;omega),Yzo,Yzd (by omega)]
  ·have:=Yzq st (show i+1≤j by omega);rw[YzJ]at this;rw[Lz8 (by simp;omega),Yzr]
   congr 1
   simp;omega
 ·rfl
theorem zrx(I:Zf E N os){j t i m m0:Nat}{xs:List (List DV)}(hlt:lk t=false)(hoj:og os j=.hol (some xs) i t)(hot:og os t=.lnk m0){b:BN}(hbj:blk (N.μ j)=some b){vs:List Zc}(hg:N.h.t.get b=some (.cells vs 1))(hm:m<N.n):
  ∃N',N'.h=N.h.put b (.cells (vs.take i++[N.μ m]++vs.drop (i+1)) 1)∧Stp E lk N os [j] N' (oset (.lnk m) os t):=by
 have hlv:live (og os j):=by rw[hoj];trivial
 have hO:=I.obj j;rw[hoj]at hO;obtain⟨b',vs',ex,h1,h2,h3,h4,h5,h6,h7,h8⟩:=hO;rw[h1]at hbj;cases hbj;rw[hg]at h3;cases h3;have htl:t<os.length:=un (by rw[hot];intro e;cases e);have hjl:j<os.length:=un (by rw[hoj];intro e;cases e);have hjt:j≠t:=fun e=>by rw[e,hot]at hoj;cases hoj
 let X:=vs.take i++[N.μ m]++vs.drop (i+1)
 let N':Nm:=⟨N.μ,N.n,N.fz,N.h.put b (.cells X 1)⟩
 have hXl:X.length=vs.length:=by simp[X];omega
 have old:∀b' y,N.h.t.get b'=some y→b'≠b→N'.h.t.get b'=some y:=fun b' y hy hne=>by show (N.h.put b _).t.get b'=_;rw[xT _ _ hne];exact hy
 have nx:Nx N N':=⟨⟨fun _ _ h _=>h,fun b' y hf hy=>old b' y hy (fun e=>h2 (e▸hf))⟩,LzB _,fun _ _=>rfl⟩;have gt:∀k,k≠t→og (oset (.lnk m) os t) k=og os k:=fun k hk=>by rw[zJ,Yzb (fun e=>hk e.1)]
 have lv:∀k,live (og (oset (.lnk m) os t) k)→live (og os k):=fun k hk=>by
  by_cases h:k=t
  ·rw[h,zJ,Yzd ⟨rfl,htl⟩]at hk;exact hk.elim
  ·rwa [gt k h]at hk
 refine⟨N',rfl,⟨⟨HW.put I.hw hg,I.gr.put (I.own j b hlv (by rw[h1];rfl)),I.fzlt,I.fzok,fun b' hb'=>(I.fzex b' hb').imp id fun⟨y,hy⟩=>⟨y,old b' y hy (fun e=>h2 (e▸hb'))⟩,I.len.trans (yf _ os t).symm,
  fun k b' hl hb'=>I.own k b' (lv k hl) hb',fun k k' b' hl hl' hb hb'=>I.inj k k' b' (lv k hl) (lv k' hl') hb hb',fun k=>?_,fun k m' hk=>?_⟩,nx,Bk.put rfl (by rw[I.len];exact hjl) hlv (by rw[h1];rfl),fun j' hj'=>gt j' (fun e=>by rw[e,hlt]at hj';cases hj'),.oset (fun h=>h.elim) (fun h=>by rw[hot]at h;exact h.elim) (fun h=>h.elim)⟩⟩
 ·by_cases hk:k=t
  ·subst hk;rw[zJ,Yzd ⟨rfl,htl⟩];refine⟨hm,b,i,X,h7,h2,uI _ _ _,?_⟩;show X[i]? = some (N.μ m);have:(vs.take i).length=i:=by simp;omega
   simp only[X];rw[Yzs,Lz8 (by omega),this,Nat.sub_self];rfl
  ·rw[gt k hk];by_cases hkj:k=j
   ·subst hkj;rw[hoj];refine⟨b,X,ex,h1,h2,uI _ _ _,by rw[hXl];exact h4,h5,h6,h7,fun q x hq hx=>?_⟩;obtain⟨r1,r2⟩:=h8 q x hq hx;refine⟨r1,?_⟩;have:=qv (vs:=vs) (ds:=[N.μ m]) (p:=i) (st:=1) (i:=i) (off:=0) (by simp;omega) (by omega) (by simp) q hq;simp only[YyF]at this;show RepL _ _ ((X.drop (q*1)).take 1) x;rw[show X=vs.take i++[N.μ m]++vs.drop (i+1) from rfl,this];exact r2.mono nx.fg
   ·refine (I.obj k).mono nx rfl fun htd b1 hb1=>?_;obtain⟨b2,x2,k1,k2,k3⟩:=xK htd (I.obj k);rw[k1]at hb1;cases hb1;have hne:b1≠b:=fun e=>by
     subst e;rcases htd with hl|⟨m1,hm1⟩
     ·exact hkj (I.inj k j b1 hl hlv k1 (by rw[h1];rfl))
     ·obtain⟨k',v',n',q1,q2⟩:=I.lnk_blk hm1;have:=I.inj k' j b1 (by rw[q1];trivial) hlv (by rw[←q2];exact k1) (by rw[h1];rfl);subst this;rw[hoj]at q1;cases q1;exact hk rfl
    exact⟨k2,xT _ _ hne⟩
 ·by_cases h:k=t
  ·subst h;exact⟨j,_,i,by rw[gt j hjt];exact hoj⟩
  ·rw[gt k h]at hk;obtain⟨k',v',n',q⟩:=I.lnk k m' hk;exact⟨k',v',n',by rw[gt k' (fun e=>by rw[e,hot]at q;cases q)];exact q⟩
theorem qu{vs ds:List Zc}{p st i off:Nat}(h:p+ds.length≤vs.length)(hp:p=i*st+off)(hs:off+ds.length≤st)(hst:i*st+st≤vs.length):
  ((vs.take p++ds++vs.drop (p+ds.length)).drop (i*st)).take st=((vs.drop (i*st)).take st).take off++ds++((vs.drop (i*st)).take st).drop (off+ds.length):=by
 apply Yyx;intro t;subst hp;have e1:(List.take (i*st+off) vs).length=i*st+off:=by simp;omega
 have e2:(((vs.drop (i*st)).take st).take off).length=off:=by simp;omega
 rw[Yzo];by_cases ht:t<st
 ·rw[Yzd ht,Yzr];by_cases h1:t<off
  ·rw[Yzs,Lz2 (by omega),Yzs,Lz2 (by omega),Yzo,Yzd (by omega),Yzo,Yzd h1,Yzo,Yzd ht,Yzr]
  ·by_cases h2:t<off+ds.length
   ·rw[Yzs,Lz8 (by omega),Lz2 (by omega),Yzs,Lz8 (by omega),Lz2 (by omega)]
    congr 1;omega
   ·rw[Lz8 (by simp;omega),Yzr,Lz8 (by simp;omega),Yzr,Yzo,Yzd (by simp;omega),Yzr]
    congr 1;simp;omega
 ·rw[Yzb ht];symm;rw[Yyb];simp;omega
theorem zrM(I:Zf E N os)(F:∀i,RepPA N (r i) (ρ i)){n:Nat}{a b:Operand} (e:w1 (pv ρ a) (fun c=>
  match pv ρ b with
  |some (.s v)=>zmb lk os n c v k
  |_=>none)=some x):Goal C E lk N os r (.store n a b) k x:=by
 have hh:=uE F e;clear e;obtain⟨c,v,e,ka,ra,pka⟩:=hh;split at e
 case h_2=>cases e
 rename_i p hp;obtain⟨vb,kb,rb⟩:=wM F hp;obtain⟨w,rfl,hw⟩:=rb.inv;have hw:=hw.cells;unfold zmb at e;cases hn:Nat.beq p.cells.length n with
 |false=>rw[hn]at e;cases e
 |true=>
  rw[hn]at e;have hn:=Lz1 hn;have hwl:=hw.len;have hls:jE w.cells n=true:=by rw[←hn,←hwl];exact zeD _
  simp only[Yza]at e;cases c<;>first|cases e|skip
  ·rename_i j off;simp only at e;obtain⟨cv,rfl,hjn,bb,hb,rfl⟩:=yk ra;cases ho:og os j with
   |box ps=>
    rw[ho]at e;simp only at e;cases hlj:lk j with
    |true=>rw[hlj]at e;cases e
    |false=>
     rw[hlj]at e;simp only[Yzc]at e;cases hbd:Nat.ble (off+n) ps.length with
     |false=>rw[hbd]at e;cases e
     |true=>
      rw[hbd]at e;have hbd:=Lz4 hbd;obtain⟨b',cs,h1,h2,h3,h4⟩:=uU I ho;rw[hb]at h1;cases h1;have hcl:=h4.len;obtain⟨N',q1,q2⟩:=zl3 I hlj ho hb h3 h4 hw (off:=off) (by omega);rw[show off+w.cells.length=off+n by omega]at q2;refine⟨_,_,_,_,e,⟨(yh,_),⟨N',q1,q2.sim (.bad _)⟩,0,fun m _=>?_⟩⟩;show runK r (.store n a b) (C m) N.h=_;simp only[runK,ka,kb,zH];show storeAt n N.h bb off w.cells (N.h.t.get bb)=_;rw[h3];simp only[storeAt,hls,Yza];rw[j4 w.cells cs off (by omega)];rfl
   |_=>rw[ho]at e;cases e
  rotate_left
  ·rename_i j f0 len st i o;simp only at e;generalize hoff:f0+i*st+o=off at e;obtain⟨cv,rfl,hjn,bb,hb,hcv,_⟩:=yk ra;rw[hoff]at hcv;subst hcv;cases ho:og os j with
   |box ps=>
    rw[ho]at e;simp only at e;cases hlj:lk j with
    |true=>rw[hlj]at e;cases e
    |false=>
     rw[hlj]at e;simp only[Yzc]at e;cases hbd:Nat.ble (off+n) ps.length with
     |false=>rw[hbd]at e;cases e
     |true=>
      rw[hbd]at e;have hbd:=Lz4 hbd;obtain⟨b',cs,h1,h2,h3,h4⟩:=uU I ho;rw[hb]at h1;cases h1;have hcl:=h4.len;obtain⟨N',q1,q2⟩:=zl3 I hlj ho hb h3 h4 hw (off:=off) (by omega);rw[show off+w.cells.length=off+n by omega]at q2;refine⟨_,_,_,_,e,⟨(yh,_),⟨N',q1,q2.sim (.bad _)⟩,0,fun m _=>?_⟩⟩;show runK r (.store n a b) (C m) N.h=_;simp only[runK,ka,kb,zH];show storeAt n N.h bb off w.cells (N.h.t.get bb)=_;rw[h3];simp only[storeAt,hls,Yza];rw[j4 w.cells cs off (by omega)];rfl
   |_=>rw[ho]at e;cases e
  ·rename_i j st i off;simp only at e;split at e
   ·rename_i vo i' t hoj;cases p with
    |agg ps=>cases e
    |one pc0=>
    obtain⟨m,rfl⟩:∃m,pc0=.own m:=by cases pc0<;>first|exact⟨_,rfl⟩|cases e
    simp only at e;cases ht:og os t with
    |lnk m0=>
     rw[ht]at e;simp only at e;cases hlt:lk t with
     |true=>rw[hlt]at e;cases e
     |false=>
      rw[hlt]at e;simp only[Yzc]at e;cases hs:(Nat.beq st 1&&Nat.beq off 0) with
      |false=>rw[hs]at e;cases e
      |true=>
       rw[hs]at e;rw[LzC]at hs;have e1:=Lz1 hs.1;have e2:=Lz1 hs.2;subst e1 e2;simp only[Yza]at e;cases hi:Nat.beq i i' with
       |false=>rw[hi]at e;cases e
       |true=>
        rw[hi]at e;have:=Lz1 hi;subst this;obtain⟨cv,rfl,hjn,bb,l0,cap0,ex0,hb,rfl,hil⟩:=yk ra;cases vo with
        |none=>have:=I.obj j;rw[hoj]at this;exact this.elim
        |some xs=>
         have hO:=I.obj j;rw[hoj]at hO;obtain⟨b',vs,ex,h1,h2,h3,h4,h5,h6,h7,h8⟩:=hO;rw[hb]at h1;cases h1;cases w with
         |agg ws=>exact False.elim rb
         |one wc=>
         have hwc:m<N.n∧wc=N.μ m:=hw.1;obtain⟨hm,rfl⟩:=hwc;obtain⟨N',q1,q2⟩:=zrx (lk:=lk) I hlt hoj ht (b:=bb) (by rw[hb];rfl) h3 hm;refine⟨_,_,_,_,e,⟨(yh,_),⟨N',q1,q2.sim (.bad _)⟩,0,fun m' _=>?_⟩⟩;show runK r (.store n a b) (C m') N.h=_;simp only[runK,ka,kb,zH];show storeAt n N.h bb (i*1+0) [N.μ m] (N.h.t.get bb)=_;rw[h3,show i*1+0=i by omega];simp only[storeAt];rw[show (SVal.one (N.μ m)).cells=[N.μ m] from rfl]at hls;simp only[hls,Yza];rw[j4 [N.μ m] vs i (by simp;omega)];rfl
    |_=>rw[ht]at e;cases e
   ·cases hlj:lk j with
    |true=>rw[hlj]at e;cases e
    |false=>
     rw[hlj]at e;simp only[Yzc]at e;have hh:=zm e;clear e;obtain⟨⟨os1,ds⟩,hf,e⟩:=hh;obtain⟨N1,f1,S1,r1⟩:=zjn I hw hf;simp only at e;obtain⟨cv,rfl,hjn,bb,l0,cap0,ex0,hb,rfl,hil⟩:=yk ra;cases ho:og os1 j with
     |arr st' vo=>
      rw[ho]at e;simp only at e;cases hs:Nat.beq st st' with
      |false=>rw[hs]at e;cases e
      |true=>
       rw[hs]at e;have:=Lz1 hs;subst this;simp only[Yza]at e;have hh:=zm e;clear e;obtain⟨vo',hvo,e⟩:=hh;cases vo with
       |none=>cases hvo
       |some xs=>
        simp only[zyT]at hvo;cases hy:xs[i]? with
        |none=>rw[hy]at hvo;cases hvo
        |some y=>
         rw[hy]at hvo;simp only at hvo;cases hbd:Nat.ble (off+ds.length) st with
         |false=>rw[hbd]at hvo;cases hvo
         |true=>
          rw[hbd]at hvo;cases hvo;have hbd:=Lz4 hbd;obtain⟨b',vs,ex,h1,h2,h3,h4,h5⟩:=zaR S1.inv ho;have hmu:N1.μ j=N.μ j:=by rw[f1.μ]
          rw[hmu,hb]at h1;cases h1;have hi:=(Lz0.1 hy).1;have hil2:=Yzq st (show i+1≤xs.length from hi);rw[YzJ]at hil2;have hwd:w.cells.length=ds.length:=r1.1;have hp2:i*st+off+w.cells.length≤vs.length:=by omega
          have hsv:solid (og os1 j):=by rw[ho];trivial
          have hlv:=hsv.live;have hbk:blk (N1.μ j)=some bb:=by rw[hmu,hb];rfl
          have hjl:j<os1.length:=un (by rw[ho];intro h;cases h)
          let X:=vs.take (i*st+off)++w.cells++vs.drop (i*st+off+w.cells.length)
          have fg:FG N1.fz N1.h N1.fz (N1.h.put bb (.cells X st)):=⟨fun _ _ h _=>h,fun b2 z hf2 hz=>by
           rw[xT _ _ (fun(e:b2=bb)=>h2 (by rw[←e];exact hf2))];exact hz⟩
          obtain⟨i1,i2,i3⟩:=S1.inv.put hsv hbk (.cells X st) (.arr st (some (xs.set i (y.take off++ds++y.drop (off+ds.length)))))
           ⟨bb, X, _, by rw [List.length_set]; exact hmu.trans hb, h2, uI _ _ _, by rw [List.length_set, ← h4]; simp [X]; omega, fun t z hz => by
            rw[List.getElem?_set]at hz;by_cases ht:i=t
            ·subst ht;rw[Yzd rfl,Yzd hi]at hz;cases hz;obtain⟨g1,g2⟩:=h5 i y hy;refine⟨by simp[g1];omega,?_⟩;show RepL _ _ ((X.drop (i*st)).take st) _;rw[qu hp2 rfl (by omega) (by omega)];rw[hwd];have:=(g2.mono fg).set (r1.mono fg) off
             rwa [hwd]at this
            ·rw[Yzb ht]at hz;obtain⟨g1,g2⟩:=h5 t z hz;refine⟨g1,?_⟩;show RepL _ _ ((X.drop (t*st)).take st) _;rw[qv hp2 rfl (by omega) t (fun e=>ht e.symm)];exact g2.mono fg⟩
          have S2:Stp E lk N1 os1 [j] ⟨N1.μ,N1.n,N1.fz,N1.h.put bb (.cells X st)⟩ _:=⟨i1,i2,Bk.put rfl (by rw[S1.inv.len];exact hjl) hlv hbk,fun j' hj'=>by
           rw[zJ,Yzb (fun e=>by rw[e.1,hlj]at hj';cases hj')],.oset (fun _=>by rw[ho];trivial) (fun _=>.inl trivial) (fun _=>by rw[ho];trivial)⟩
          refine⟨_,_,_,_,e,⟨(yh,N.h.put bb (.cells X st)),⟨_,by rw[←f1.h],(S1.trans S2 f1.n).sim (.bad _)⟩,0,fun m _=>?_⟩⟩;show runK r (.store n a b) (C m) N.h=_;simp only[runK,ka,kb,zH];show storeAt n N.h bb (i*st+off) w.cells (N.h.t.get bb)=_;rw[f1.h]at h3;rw[h3];simp only[storeAt,hls,Yza];rw[j4 w.cells vs _ hp2];rfl
     |_=>rw[ho]at e;cases e
end
end Go.PE
end
section
namespace Go.PE
open Go Go.CE
section
variable {β:Type} {C:Nat→zg} {E:En} {lk:Nat→Bool} {N:Nm} {os:List PO} {r:Fr} {ρ:Nat→PA} {k:KT β} {x:β}
theorem zrN(I:Zf E N os)(hlk:∀j,lk j=true→j<os.length){st:Nat}(e:k (pc (.own os.length)) (os++[.mp st []]) [] []=some x):Goal C E lk N os r (.mkmap st) k x:=by
 obtain⟨N',h1,h2,h3,S⟩:=zg2 (lk:=lk) I hlk (.map []) (.mp st []) (.map N.h.n) rfl fun N' nx hmu hf hg=>⟨_,[],hmu,hf,hg,rfl,fun i e x he=>by simp at he⟩;refine⟨_,_,_,_,e,⟨(.s (.one (.map N.h.n)),N.h.new (.map [])),⟨N',h1,S.sim (y4 (p:=.own os.length) (c:=.map N.h.n) ⟨by rw[h3];omega,h2.symm⟩)⟩,0,fun n _=>?_⟩⟩;show runK r (.mkmap st) (C n) N.h=_;exact ub _ _ _
theorem zhT{v:SVal}{p:PV}{d:DS}(H:RepPV N v p)(e:zza p=some d):RepS N.fz N.h v d:=by
 cases p with
 |one c=>
  cases v with
  |agg cs=>exact H.elim
  |one y=>
   cases c<;>first|(cases e;done)|skip
   cases e;exact H
 |agg cs=>
  cases v with
  |one y=>exact H.elim
  |agg ys=>
   simp only[zza]at e;cases h:zxV cs with
   |none=>rw[h]at e;cases e
   |some l=>rw[h]at e;cases e;exact zaS h H
theorem ztc{z:SVal}{d:DS}(e:zDs z=some d):RepS N.fz N.h z d:=by
 unfold zDs at e;cases h:pvS z with
 |none=>rw[h]at e;cases e
 |some p=>rw[h]at e;exact zhT (zl1 h) e
theorem zeX{q:Nat⊕List Nat}{a b:SVal}{v w:DS}{p:Bool}{fz:BN→Prop}{h:Za}(ha:RepS fz h a v)(hb:RepS fz h b w)(e:zxD q v w=some p):eqS q a b=some p:=by
 cases q<;>cases v<;>cases w<;>first|(cases e;done)|skip
 ·cases a<;>first|exact ha.elim|skip
  cases b<;>first|exact hb.elim|skip
  exact znD ha hb e
 ·cases a<;>first|exact ha.elim|skip
  cases b<;>first|exact hb.elim|skip
  exact zhR ha hb e
def RepE(fz:BN→Prop)(h:Za)(st:Nat)(es:List (SVal×SVal))(xs:List (List DV)):Prop:=
 es.length=xs.length∧∀(i:Nat) (e:SVal×SVal) (x:List DV),es[i]? = some e→xs[i]? = some x→RepS fz h e.1 (kD st x)∧RepS fz h e.2 (vD st x)
theorem RepE.inv{fz:BN→Prop}{h:Za}{st:Nat}{e:SVal×SVal}{es:List (SVal×SVal)}{x:List DV}{xs:List (List DV)}(H:RepE fz h st (e::es) (x::xs)):RepS fz h e.1 (kD st x)∧RepS fz h e.2 (vD st x)∧RepE fz h st es xs:=
 ⟨(H.2 0 e x rfl rfl).1,(H.2 0 e x rfl rfl).2,by have:=H.1;simpa using this,fun i e' x' he hx=>H.2 (i+1) e' x' (by simpa using he) (by simpa using hx)⟩
theorem RepE.cons{fz:BN→Prop}{h:Za}{st:Nat}{e:SVal×SVal}{es:List (SVal×SVal)}{x:List DV}{xs:List (List DV)}(h1:RepS fz h e.1 (kD st x))(h2:RepS fz h e.2 (vD st x))(H:RepE fz h st es xs):RepE fz h st (e::es) (x::xs):=
 ⟨by simp [H.1], fun i e' x' he hx => by
  cases i with
  |zero=>simp only[Yzg,Option.some.injEq]at he hx;subst he;subst hx;exact⟨h1,h2⟩
  |succ i=>exact H.2 i e' x' (by simpa using he) (by simpa using hx)⟩
theorem RepE.nil{fz:BN→Prop}{h:Za}{st:Nat}:RepE fz h st [] []:=⟨rfl,fun i e x he=>by simp at he⟩
theorem RepE.ne{fz:BN→Prop}{h:Za}{st:Nat}{es:List (SVal×SVal)}{xs:List (List DV)}(H:RepE fz h st es xs):(es=[]∧xs=[])∨∃e es' x xs',es=e::es'∧xs=x::xs':=by
 cases es with
 |nil=>cases xs with
  |nil=>exact .inl ⟨rfl,rfl⟩
  |cons x xs=>have:=H.1;simp at this
 |cons e es=>cases xs with
  |nil=>have:=H.1;simp at this
  |cons x xs=>exact .inr ⟨e,es,x,xs,rfl,rfl⟩
def zA4(fz:BN→Prop)(h:Za):Option SVal→Option DS→Prop
 |none,none=>True
 |some v,some d=>RepS fz h v d
 |_,_=>False
theorem zjt{fz:BN→Prop}{h:Za}{q:Nat⊕List Nat}{st:Nat}{key:SVal}{kd:DS}(hk:RepS fz h key kd):∀{xs:List (List DV)} {es:List (SVal×SVal)} {d:Option DS},RepE fz h st es xs→zeR q st kd xs=some d→
  ∃v,jL q key es=some v∧zA4 fz h v d∧∀y,d=some y→∃x,y=vD st x
 | [],es,d,H,e=>by
  rcases H.ne with⟨rfl,_⟩|⟨_,_,_,_,_,h2⟩
  ·cases e;exact⟨none,rfl,trivial,fun y h=>by cases h⟩
  ·cases h2
 |x::xs,es,d,H,e=>by
  rcases H.ne with⟨_,h2⟩|⟨e0,es',x',xs',rfl,h2⟩
  ·cases h2
  ·cases h2;obtain⟨h1,h2,h3⟩:=H.inv;simp only[zeR]at e;obtain⟨k0,v0⟩:=e0;cases hq:zxD q kd (kD st x) with
   |none=>rw[hq]at e;cases e
   |some b=>
    rw[hq]at e;have hq':=zeX hk h1 hq;cases b with
    |true=>
     cases e;exact⟨some v0,by simp only[jL,hq'],h2,fun y h=>by cases h;exact⟨x,rfl⟩⟩
    |false=>
     obtain⟨v,g1,g2⟩:=zjt hk h3 e;exact⟨v,by simp only[jL,hq'];exact g1,g2⟩
theorem zl4{fz:BN→Prop}{h:Za}{q:Nat⊕List Nat}{st:Nat}{key val:SVal}{kd:DS}{row:List DV}(hk:RepS fz h key kd)(h1:RepS fz h key (kD st row))(h2:RepS fz h val (vD st row)):∀{xs ys:List (List DV)} {es:List (SVal×SVal)},RepE fz h st es xs→zya q st kd row xs=some ys→
  ∃es',zxm q key val es=some es'∧RepE fz h st es' ys
 | [],ys,es,H,e=>by
  rcases H.ne with⟨rfl,_⟩|⟨_,_,_,_,_,h2⟩
  ·cases e;exact⟨_,rfl,.cons h1 h2 .nil⟩
  ·cases h2
 |x::xs,ys,es,H,e=>by
  rcases H.ne with⟨_,h2⟩|⟨e0,es',x',xs',rfl,hh⟩
  ·cases h2
  ·cases hh;obtain⟨g1,g2,g3⟩:=H.inv;simp only[zya]at e;obtain⟨k0,v0⟩:=e0;cases hq:zxD q kd (kD st x) with
   |none=>rw[hq]at e;cases e
   |some b=>
    rw[hq]at e;have hq':=zeX hk g1 hq;cases b with
    |true=>
     cases e;exact⟨(key,val)::es',by simp only[zxm,hq'],.cons h1 h2 g3⟩
    |false=>
     simp only at e;cases hp:zya q st kd row xs with
     |none=>rw[hp]at e;cases e
     |some l=>
      rw[hp]at e;cases e;obtain⟨es2,k1,k2⟩:=zl4 hk h1 h2 g3 hp;exact⟨(k0,v0)::es2,by simp only[zxm,hq',k1,wo],.cons g1 g2 k2⟩
theorem zmA(I:Zf E N os){j st:Nat}{xs:List (List DV)}(ho:og os j=.mp st xs):∃b es,N.μ j=.map b∧¬N.fz b∧N.h.t.get b=some (.map es)∧RepE N.fz N.h st es xs:=by
 have:=I.obj j;rw[ho]at this;obtain⟨b,es,h1,h2,h3,h4,h5⟩:=this;exact⟨b,es,h1,h2,h3,h4,h5⟩
theorem zhN{a b:Option Nat}(h:zyC a b=true):a=b:=by
 cases a<;>cases b<;>first|rfl|(cases h;done)|skip
 rw[Lz1 h]
theorem znt(x:List DV):∀n i,(exp x n i).length=n
 |0,_=>rfl
 |n+1,i=>by simp[exp,znt x n]
theorem zia(a b:List DV):∀i,atD (a++b) (a.length+i)=atD b i:=by
 induction a with
 |nil=>intro i;simp
 |cons x a ih=>
  intro i;show atD (x::(a++b)) (a.length+1+i)=_;rw[show a.length+1+i=(a.length+i)+1 by omega];show atD (a++b) (a.length+i)=_;exact ih i
theorem znu(a b:List DV):∀n i,exp (a++b) n (a.length+i)=exp b n i
 |0,_=>rfl
 |n+1,i=>by
  have:=znu a b n (i+1);show atD (a++b) (a.length+i)::exp (a++b) n (a.length+i+1)=atD b i::exp b n (i+1);rw[zia,show a.length+i+1=a.length+(i+1) by omega,this]
theorem zeS(a b:List DV):exp (a++b) a.length 0=a:=by
 have key:∀(a p b:List DV),exp (p++(a++b)) a.length p.length=a:=by
  intro a
  induction a with
  |nil=>intro p b;rfl
  |cons x a ih=>
   intro p b;have h:=ih (p++[x]) b;have h0:=zia p (x::(a++b)) 0;show atD (p++(x::(a++b))) p.length::exp (p++(x::(a++b))) a.length (p.length+1)=_;rw[Yzw]at h0;rw[h0];rw[Yzz,Yzs]at h;exact congrArg _ h
 exact key a [] b
theorem zvK{st:Nat}{kd vd:DS}(h:shK st=zxE kd):kD st (kd.cells++vd.cells)=kd:=by
 unfold kD;rw[h];cases kd with
 |one d=>rfl
 |agg l=>show DS.agg (exp (l++vd.cells) l.length 0)=_;rw[zeS]
theorem zvJ{st:Nat}{kd vd:DS}(h:shK st=zxE kd)(h2:shV st=zxE vd):vD st (kd.cells++vd.cells)=vd:=by
 unfold vD;rw[h,h2];have hk:ztp (zxE kd)=kd.cells.length:=by cases kd<;>rfl
 rw[hk];cases vd with
 |one d=>
  show DS.one (atD (kd.cells++[d]) (kd.cells.length+0))=_;rw[zia];rfl
 |agg l=>
  have:=znu kd.cells l l.length 0;have h2:=zeS l [];rw[YzD]at h2;show DS.agg (exp (kd.cells++l) l.length (kd.cells.length+0))=_;rw[this,h2]
theorem zvt(st:Nat)(x:List DV):zxE (vD st x)=shV st:=by
 unfold vD;cases shV st with
 |none=>rfl
 |some n=>show some (exp x n _).length=_;rw[znt]
theorem look_ok(_:Zf E N os){z:SVal}{zd:DS}{ok:Bool}{v:Option SVal}{d:Option DS}(hz:RepS N.fz N.h z zd)(hv:zA4 N.fz N.h v d)(hs:∀y,d=some y→zxE y=zxE zd)(e:zpw zd ok d os k=some x):
  ∃a,k a os [] []=some x∧RepPA N (bif ok then .tup [v.getD z,.one (.bool v.isSome)] else .s (v.getD z)) a:=by
 have hd:RepS N.fz N.h (v.getD z) (lkD zd d):=by
  cases v<;>cases d<;>first|exact hv.elim|skip
  ·exact hz
  ·exact hv
 have hi:d.isSome=v.isSome:=by cases v<;>cases d<;>first|exact hv.elim|rfl
 have hsh:zxE (lkD zd d)=zxE zd:=by
  cases d with
  |none=>rfl
  |some y=>exact hs y rfl
 have hb:RepS N.fz N.h (.one (.bool v.isSome)) (.one (.bool d.isSome)):=by rw[hi];exact Rep.bool _
 generalize hg:lkD zd d=g at hd hsh e;unfold zpw at e;rw[hg]at e;cases zd with
 |one z0=>
  cases g with
  |agg l=>cases hsh
  |one g=>
   cases ok with
   |true=>exact⟨_,e,show RepSL N.fz N.h [v.getD z,.one (.bool v.isSome)] [.one g,.one (.bool d.isSome)] from⟨hd,hb,trivial⟩⟩
   |false=>
    refine⟨_,e,?_⟩;show RepPA N (.s (v.getD z)) (pd g);generalize v.getD z=w at hd;cases w with
    |agg cs=>exact hd.elim
    |one c=>exact RepPA.of (v:=.one c) (p:=.one (.d g)) hd
 |agg l=>
  cases g with
  |one g=>cases hsh
  |agg m=>
   have hm:m.length=l.length:=by simpa[zxE] using hsh
   have he:exp m l.length 0=m:=by
    have:=zeS m []
    rwa [YzD,hm]at this
   simp only[dsA,he]at e;cases ok with
   |true=>exact⟨_,e,show RepSL N.fz N.h [v.getD z,.one (.bool v.isSome)] [.agg m,.one (.bool d.isSome)] from⟨hd,hb,trivial⟩⟩
   |false=>
    refine⟨_,e,?_⟩;show RepPA N (.s (v.getD z)) (.s (.agg (m.map .d)));generalize v.getD z=w at hd;cases w with
    |one c=>exact hd.elim
    |agg cs=>exact RepPA.of (v:=.agg cs) (p:=.agg (m.map .d)) (RepPL.ofD hd)
theorem zpb(I:Zf E N os)(F:∀i,RepPA N (r i) (ρ i)){q:Nat⊕List Nat}{z:SVal}{ok:Bool}{a b:Operand} (e:w1 (pv ρ a) (fun c=>
  match pv ρ b with
  |some (.s kp)=>zhj os q z ok c kp k
  |_=>none)=some x):Goal C E lk N os r (.lookup q z ok a b) k x:=by
 have hh:=uE F e;clear e;obtain⟨c,v,e,ka,ra,pka⟩:=hh;split at e
 case h_2=>cases e
 rename_i p hp;obtain⟨vb,kb,rb⟩:=wM F hp;obtain⟨w,rfl,hw⟩:=rb.inv;unfold zhj at e;have hh:=zm e;clear e;obtain⟨kd,hkd,e⟩:=hh;have hh:=zm e;clear e;obtain⟨zd,hzd,e⟩:=hh;have hh:=zm e;clear e;obtain⟨pp,hpp,e⟩:=hh;have hk:=zhT hw hkd;have hz:=ztc (N:=N) hzd;have hself:(eqS q w w).isNone=false:=by rw[zeX hk hk hpp];rfl
 cases c<;>first|(cases e;done)|skip
 ·rename_i dv;cases dv<;>first|(cases e;done)|skip
  simp only at e;have hv:v=.s (.one .nilm):=yn ra (c:=.nilm) rfl;subst hv;obtain⟨a',e1,e2⟩:=look_ok I (v:=none) (d:=none) hz trivial (fun y h=>by cases h) e;refine .quiet I (fun call=>?_) e2 e1;simp only[runK,ka,kb,zH];show (bif (eqS q w w).isNone then none else _)=_;rw[hself];rfl
 ·rename_i j;simp only at e;obtain⟨c,rfl,hj,rfl⟩:=yk ra;cases ho:og os j with
  |mp st xs=>
   rw[ho]at e;simp only at e;cases hs:zyC (shV st) (zxE zd) with
   |false=>rw[hs]at e;cases e
   |true=>
    rw[hs]at e;have hh:=zm e;clear e;obtain⟨d,hd,e⟩:=hh;obtain⟨bb,es,g1,g2,g3,g4⟩:=zmA I ho;obtain⟨vv,f1,f2,f3⟩:=zjt hk g4 hd;obtain⟨a',e1,e2⟩:=look_ok I hz f2 (fun y h=>by obtain⟨x,rfl⟩:=f3 y h;rw[zvt];exact zhN hs) e;refine .quiet I (fun call=>?_) e2 e1;simp only[runK,ka,kb,zH];rw[g1];show (match mapOf N.h (.s (.one (.map bb))),Zb.s w with
     |some es,.s k=>bif (eqS q k k).isNone then none else match jL q k es with|some r=>some (bif ok then Zb.tup [r.getD z,.one (.bool r.isSome)] else Zb.s (r.getD z),N.h)|none=>none
     |_,_=>none)=_
    simp only[mapOf,g3,hself,Yzc,f1]
  |_=>rw[ho]at e;cases e
theorem ztY(I:Zf E N os)(F:∀i,RepPA N (r i) (ρ i)){a:Operand} (e:w1 (pv ρ a) (fun c=>
  match c with
  | .own j=>
   match og os j with
   | .mp _ xs=>k (pd (.int .i64 (.ofNat xs.length))) os [] []
   |_=>none
  | .d .nilm=>k (pd (.int .i64 (.ofNat 0))) os [] []
  |_=>none)=some x):Goal C E lk N os r (.lenM a) k x:=by
 have hh:=uE F e;clear e;obtain⟨c,v,e,ka,ra,pka⟩:=hh;cases c<;>first|(cases e;done)|skip
 ·rename_i dv;cases dv<;>first|(cases e;done)|skip
  have hv:v=.s (.one .nilm):=yn ra (c:=.nilm) rfl;subst hv;exact .quiet I (fun call=>by simp only[runK,ka,zH];rfl) (yP rfl) e
 ·rename_i j;simp only at e;obtain⟨c,rfl,hj,rfl⟩:=yk ra;cases ho:og os j with
  |mp st xs=>
   rw[ho]at e;simp only at e;obtain⟨bb,es,g1,g2,g3,g4⟩:=zmA I ho;refine .quiet I (v:=.s (.one (.int .i64 (.ofNat xs.length)))) (fun call=>?_) (yP rfl) e;simp only[runK,ka,zH];rw[g1];show (match N.h.t.get bb with|some (.map es)=>some (Zb.s (.one (.int .i64 (.ofNat es.length))),N.h)|_=>none)=_;rw[g3,←g4.1]
  |_=>rw[ho]at e;cases e
theorem ztW(I:Zf E N os)(F:∀i,RepPA N (r i) (ρ i)){q:Nat⊕List Nat}{a b c:Operand} (e:w1 (pv ρ a) (fun m=>
  match pv ρ b,pv ρ c with
  |some (.s kp),some (.s vp)=>zrD lk os q m kp vp k
  |_,_=>none)=some x):Goal C E lk N os r (.mupd q a b c) k x:=by
 have hh:=uE F e;clear e;obtain⟨m,v,e,ka,ra,pka⟩:=hh;split at e
 case h_2=>cases e
 rename_i p vp hp hvp;obtain⟨vb,kb,rb⟩:=wM F hp;obtain⟨w,rfl,hw⟩:=rb.inv;obtain⟨vc,kc,rc⟩:=wM F hvp;obtain⟨u,rfl,hu⟩:=rc.inv;unfold zrD at e;have hh:=zm e;clear e;obtain⟨kd,hkd,e⟩:=hh;have hh:=zm e;clear e;obtain⟨⟨os1,vd⟩,hvd,e⟩:=hh;have hh:=zm e;clear e;obtain⟨pp,hpp,e⟩:=hh;have hk:=zhT hw hkd;have hself:(eqS q w w).isNone=false:=by rw[zeX hk hk hpp];rfl
 obtain⟨N1,f1,S1,r1⟩:=zgb I hu hvd;have hk1:RepS N1.fz N1.h w kd:=hk.mono S1.nx.fg;cases m<;>first|(cases e;done)|skip
 rename_i j;simp only at e;obtain⟨cm,rfl,hj,rfl⟩:=yk ra;cases ho:og os1 j with
 |mp st xs=>
  rw[ho]at e;simp only at e;cases hlj:lk j with
  |true=>rw[hlj]at e;cases e
  |false=>
   rw[hlj]at e;simp only[Yzc]at e;cases hs:(zyC (shK st) (zxE kd)&&zyC (shV st) (zxE vd)) with
   |false=>rw[hs]at e;cases e
   |true=>
    rw[hs]at e;rw[LzC]at hs;have s1:=zhN hs.1;have s2:=zhN hs.2;simp only[Yza]at e;have hh:=zm e;clear e;obtain⟨ys,hys,e⟩:=hh;obtain⟨bb,es,g1,g2,g3,g4⟩:=zmA S1.inv ho;obtain⟨es',q1,q2⟩:=zl4 hk1 (val:=u) (by rw[zvK s1];exact hk1) (by rw[zvJ s1 s2];exact r1) g4 hys;have hmu:N1.μ j=N.μ j:=by rw[f1.μ]
    have hlv:live (og os1 j):=by rw[ho];trivial
    have hbk:blk (N1.μ j)=some bb:=by rw[g1];rfl
    have hjl:j<os1.length:=un (by rw[ho];intro h;cases h);have fg:FG N1.fz N1.h N1.fz (N1.h.put bb (.map es')):=⟨fun _ _ h _=>h,fun b2 z hf2 hz=>by
     rw[xT _ _ (fun(e:b2=bb)=>g2 (by rw[←e];exact hf2))];exact hz⟩
    obtain⟨i1,i2,i3⟩:=S1.inv.put (by rw[ho];trivial) hbk (.map es') (.mp st ys)
     ⟨bb,es',g1,g2,uI _ _ _,q2.1,fun i e x he hx=>⟨(q2.2 i e x he hx).1.mono fg,(q2.2 i e x he hx).2.mono fg⟩⟩
    have S2:Stp E lk N1 os1 [j] ⟨N1.μ,N1.n,N1.fz,N1.h.put bb (.map es')⟩ _:=⟨i1,i2,Bk.put rfl (by rw[S1.inv.len];exact hjl) hlv hbk,fun j' hj'=>by
     rw[zJ,Yzb (fun e=>by rw[e.1,hlj]at hj';cases hj')],.oset (fun _=>by rw[ho];trivial) (fun _=>.inl trivial) (fun _=>by rw[ho];trivial)⟩
    refine⟨_,_,_,_,e,⟨(yh,N.h.put bb (.map es')),⟨_,by rw[←f1.h],(S1.trans S2 f1.n).sim (.bad _)⟩,0,fun n _=>?_⟩⟩;show runK r (.mupd q a b c) (C n) N.h=_;simp only[runK,ka,kb,kc,zH];rw[←hmu,g1];rw[f1.h]at g3;show (bif (eqS q w w).isNone then none else match N.h.t.get bb with
     |some (.map es)=>match zxm q w u es with|some es'=>some (yh,N.h.put bb (.map es'))|none=>none
     |_=>none)=_
    rw[hself,g3];simp only[Yzc,q1]
 |_=>rw[ho]at e;cases e
end
end Go.PE
end
