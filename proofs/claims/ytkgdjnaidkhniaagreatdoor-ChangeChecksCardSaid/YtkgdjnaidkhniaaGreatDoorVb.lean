/-
  Lemmas. No condition.
-/
import Derived.Test.YtkgdjnaidkhniaaGreatDoorVa
import Derived.OrdersIn
import Derived.RangeFuncLeaves
import Derived.RangeFuncIn
import Derived.Laws.Sem
import Derived.ProofKit
import Derived.OpenShut
import Derived.FnData
import Derived.MakeChecks
set_option linter.unusedSimpArgs false
set_option linter.unusedVariables false
section
namespace Go.CE
open Go.RowKit
def yp(f:zgM):Prop:=∀call t h v h2,f call t h=some (v,h2)->h2=h
theorem zL:yp (zM none):=fun _ _ _ _ _ e=>by cases e
theorem yO{f:zgM}(hf:yp f):yp (zM (some f)):=hf
theorem zoM{α:Type}{a:Option α}{g:α->Option zgM}(hg:∀x,yp (zM (g x))):yp (zM (a.bind g)):=by cases a<;>grind[zL]
theorem zy{α:Type}{a:Option α}{g:α->Option zgM}(hg:∀x,yp (zM (g x))):yp (zM (a >>= g)):=zoM hg
theorem zjy{α:Type}{a:Option α}{g:α->zgM}(hg:∀x,yp (g x)):yp (zM (a.map g)):=by cases a<;>grind[zL,zM]
theorem xu{b:Bool}{x y:Option zgM}(hx:yp (zM x))(hy:yp (zM y)):yp (zM (bif b then x else y)):=by grind
theorem wS{h h2:Za}{c:Option Zc}{v:Zb}(e:zbY h c=some (v,h2)):h2=h:=by cases c<;>cases e;rfl
theorem zaY{h h2:Za}{c:Option (List Zc)}{v:Zb}(e:zgF h c=some (v,h2)):h2=h:=by cases c<;>cases e;rfl
theorem vJ{h h2:Za}{n:Option Nat}{cs:List Zc}{off:Nat}{v:Zb}(e:part n cs off h=some (v,h2)):h2=h:=by
 cases n
 .exact wS e
 exact zaY e
theorem zbt{h h2:Za}{b:Bool}{x y:Res}{v:Zb}(hx:x=some (v,h2)->h2=h)(hy:y=some (v,h2)->h2=h)(e:(bif b then x else y)=some (v,h2)):h2=h:=by grind
theorem zjC{st:Nat}{lo hi mx:Option Opd}{t:Tr Zb}{h h2:Za}{b:BN}{off len cap:Nat}{v:Zb}(e:xw st lo hi mx t h b off len cap=some (v,h2)):h2=h:=by grind[xw]
theorem zqn{st:Nat}{lo hi mx:Option Opd}{t:Tr Zb}{h h2:Za}{b:BN}{off len cap:Nat}{v:Zb}(e:xj st lo hi mx t h b off len cap=some (v,h2)):h2=h:=by
 unfold xj at e
 (repeat' split at e)<;>first|(cases e;done)|(cases e;rfl)|exact zbt (fun e=>by cases e;rfl) (fun e=>by cases e) e
theorem zoP{lo hi mx:Option Opd}{t:Tr Zb}{h h2:Za}{v:Zb}(e:we lo hi mx t h=some (v,h2)):h2=h:=by grind[we]
theorem zhT(x:Opd):yp (znm x):=by
 intro call t h v h2 e
 grind[znm]
theorem zoC(x y z:Opd):yp (za3 x y z):=by
 intro call t h v h2 e
 grind[za3]
theorem ze7(zs ps):yp (uB zs ps):=by intro call t h v h2 e;exact zaY e
theorem zoG(n x):yp (za6 n x):=by
 intro call t h v h2 e;unfold za6 loadAt at e
 (repeat' split at e)<;>first|(cases e;done)|exact vJ e|(unfold zjN at e;split at e;exact wS e;exact zaY e)|exact zbt wS (fun e=>by cases e) e
theorem zlg(x):yp (uw x):=by
 intro call t h v h2 e
 grind[uw]
theorem zqh(g x y):yp (zeF g x y):=by
 intro call t h v h2 e;unfold zeF at e
 (repeat' split at e)<;>first|(cases e;done)|(cases e;rfl)|exact wS e|exact zaY e|exact vJ e|exact zbt (fun e=>by first|(cases e;rfl)|exact wS e|exact vJ e) (fun e=>by cases e) e
theorem zle(g x y):yp (vu g x y):=by
 intro call t h v h2 e;unfold vu at e
 (repeat' split at e)<;>first|(cases e;done)|(cases e;rfl)|exact wS e|exact zaY e|exact vJ e|exact zbt (fun e=>by first|(cases e;rfl)|exact wS e|exact vJ e) (fun e=>by cases e) e
theorem zqc(g x y):yp (zfw g x y):=by
 intro call t h v h2 e;unfold zfw at e
 (repeat' split at e)<;>first|(cases e;done)|(cases e;rfl)|exact wS e|exact zaY e|exact vJ e|exact zbt (fun e=>by first|(cases e;rfl)|exact wS e|exact vJ e) (fun e=>by cases e) e
theorem ztS(g n x y):yp (znn g n x y):=by
 intro call t h v h2 e
 grind[znn]
theorem zoD(n x y):yp (ki n x y):=by
 intro call t h v h2 e
 grind[ki]
theorem zoE(n x y):yp (za4 n x y):=by
 intro call t h v h2 e
 grind[za4]
theorem zqe(x):yp (zfx x):=by
 intro call t h v h2 e
 grind[zfx]
theorem zqf(x):yp (zfy x):=by
 intro call t h v h2 e
 grind[zfy]
theorem zoL(k x):yp (zba k x):=by
 intro call t h v h2 e
 grind[zba]
theorem zAg{h h2:Za}{c:Option (List Zc)}{v:Zb}(e:zeM h c=some (v,h2)):h2=h:=by
 unfold zeM at e
 grind
theorem zqj(x):yp (zcX x):=by
 intro call t h v h2 e
 grind[zcX,zAg]
theorem zqd(x):yp (zil x):=by
 intro call t h v h2 e
 grind[zil]
theorem zqb(u n x):yp (zik u n x):=by
 intro call t h v h2 e
 grind[zik]
theorem zlf(n x y):yp (uv n x y):=by
 intro call t h v h2 e
 grind[uv]
theorem zjx(l st x lo hi mx):yp (ue l st x lo hi mx):=by
 intro call t h v h2 e
 grind[ue,zjC]
theorem zoF(f x):yp (za5 f x):=by
 intro call t h v h2 e
 grind[za5]
theorem zld(st x lo hi mx):yp (uu st x lo hi mx):=by
 intro call t h v h2 e;unfold uu at e;split at e
 .exact zoP e
 .exact zbt zjC zqn e
 cases e
theorem zjw(x lo hi):yp (wi x lo hi):=by
 intro call t h v h2 e
 grind[wi]
theorem zoK(x o):yp (za9 x o):=by
 intro call t h v h2 e
 grind[za9]
theorem zlk(x o n):yp (uA x o n):=by
 intro call t h v h2 e;unfold uA at e
 (repeat' split at e)<;>first|(cases e;done)|(cases e;rfl)|exact wS e|exact zaY e|exact vJ e|exact zbt (fun e=>by first|(cases e;rfl)|exact wS e|exact vJ e) (fun e=>by cases e) e
theorem zqg(st x i):yp (zfB st x i):=by
 intro call t h v h2 e;unfold zfB at e
 (repeat' split at e)<;>first|(cases e;done)|(cases e;rfl)|exact wS e|exact zaY e|exact vJ e|exact zbt (fun e=>by first|(cases e;rfl)|exact wS e|exact vJ e) (fun e=>by cases e) e
theorem zli(l st x i):yp (uy l st x i):=by
 intro call t h v h2 e;unfold uy at e
 (repeat' split at e)<;>first|(cases e;done)|(cases e;rfl)|exact wS e|exact zaY e|exact vJ e|exact zbt (fun e=>by first|(cases e;rfl)|exact wS e|exact vJ e) (fun e=>by cases e) e
theorem zlj(l st n x i):yp (uz l st n x i):=by
 intro call t h v h2 e;unfold uz at e
 (repeat' split at e)<;>first|(cases e;done)|(cases e;rfl)|exact wS e|exact zaY e|exact vJ e|exact zbt (fun e=>by first|(cases e;rfl)|exact wS e|exact vJ e) (fun e=>by cases e) e
theorem zlh(x i):yp (ux x i):=by
 intro call t h v h2 e;unfold ux at e
 (repeat' split at e)<;>first|(cases e;done)|(cases e;rfl)|exact wS e|exact zaY e|exact vJ e|exact zbt (fun e=>by first|(cases e;rfl)|exact wS e|exact vJ e) (fun e=>by cases e) e
theorem zjz(q z ok m k):yp (wW q z ok m k):=by
 intro call t h v h2 e
 grind[wW]
theorem zhU(x i):yp (xX x i):=by
 intro call t h v h2 e
 grind[xX]
theorem zoH(x):yp (za7 x):=by
 intro call t h v h2 e
 grind[za7]
theorem zoJ(x):yp (za8 x):=by
 intro call t h v h2 e
 grind[za8]
theorem zoI(x):yp (zb7 x):=by
 intro call t h v h2 e
 grind[zb7]
theorem zed(b x xs):yp (xm b x xs):=by
 intro call t h v h2 e
 grind[xm]
theorem zqi(P:Program)(o:Op)(hq:yK P o=true):yp (cOp P o):=by
 cases o with
 |move x=>exact zjy zhT
 |assign x=>exact zjy zhT
 |pick c x y=>exact zy fun _=>zy fun _=>zy fun _=>yO (zoC _ _ _)
 |build t parts=>
  unfold cOp;simp only;split
  .exact xu (zy fun _=>yO (ze7 _ _)) zL
  .grind[zy,ze7,zL,zM]
  exact zL
 |load t x=>exact zy fun _=>zy fun _=>yO (zoG _ _)
 |nilCheck x=>exact zy fun _=>yO (zlg _)
 |binOp op t x y u=>
  unfold cOp;simp only;split
  .grind[zy,zle,zqh,zM]
  .grind[zy,zqc,zM]
  .grind[zy,zoD,zL,zM]
  .refine xu ?_ zL
   grind[zy,zlf,zL,zM]
  .grind[zy,zoE,zL,zM]
  .refine xu zL ?_
   grind[zy,ztS,zL,zM]
  exact zL
 |unOp u t x=>
  cases u with
  |not=>exact zy fun _=>yO (zqe _)
  |neg=>exact zy fun _=>yO (zqf _)
  |_=>exact zL
 |convert a b x=>
  unfold cOp;simp only;split
  .grind[zy,zoL,zM]
  .grind[yK,zsf,ziH]
  .exact xu (zy fun _=>yO (zqj _)) zL
  .exact xu (zy fun _=>yO (zqd _)) zL
  .exact xu (zy fun _=>yO (zqb _ _ _)) zL
  exact zL
 |makeFunc f first captured=>
  cases f with
  |func f=>exact xu (zy fun _=>yO (zoF _ _)) zL
  |_=>exact zL
 |slice t x lo hi mx=>
  unfold cOp;simp only;split
  .split
   .exact xu zL (zy fun _=>zy fun _=>zy fun _=>zy fun _=>yO (zld _ _ _ _ _))
   exact zL
  .split
   .exact xu zL (zy fun _=>zy fun _=>zy fun _=>zy fun _=>yO (zjx _ _ _ _ _ _))
   exact zL
  .exact xu zL (zy fun _=>zy fun _=>zy fun _=>yO (zjw _ _ _))
  exact zL
 |fieldAddr t x f=>
  unfold cOp;simp only;split
  .split
   .split
    .exact xu zL (zy fun _=>yO (zoK _ _))
    exact zL
   exact zL
  exact zL
 |field t x f=>
  unfold cOp
  grind[zy,zlk,zL,zM]
 |indexAddr t x i=>
  unfold cOp
  grind[zy,zqg,zL,zli,zM]
 |index t x i=>unfold cOp;simp only;split<;>grind[zy,zlj,zL,zlh,zM]
 |lookup t m k ok=>
  unfold cOp
  grind[zy,zjz,zL,zM]
 |extract x i=>exact zy fun _=>yO (zhU _ _)
 |call c=>
  obtain⟨callee,args,ts⟩:=c;cases callee with
  |builtin b=>
   cases b with
   |len=>grind[cOp,zy,zoH,zoJ,zoI,zhT,zL,zM]
   |max=>grind[cOp,zed,zL,zM]
   |min=>grind[cOp,zed,zL,zM]
   |_=>cases hq
  |_=>cases hq
 |_=>cases hq
end Go.CE
end
section
namespace Go.CE
open Go.RowKit
theorem j7{a b:Bool}(h:(a&&b)=true):a=true/\b=true:=by grind
theorem zbq:∀{a b:BN},zpH a b=true->a=b
 | .z,.z,_=>rfl
 | .o a,.o b,h=>by rw[zbq (a:=a) (b:=b) h]
 | .d a,.d b,h=>by rw[zbq (a:=a) (b:=b) h]
 | .z,.o _,h=>by cases h
 | .z,.d _,h=>by cases h
 | .o _,.z,h=>by cases h
 | .o _,.d _,h=>by cases h
 | .d _,.z,h=>by cases h
 | .d _,.o _,h=>by cases h
theorem zsK{a b:Bool}(h:eqB a b=true):a=b:=by cases a<;>cases b<;>first|rfl|cases h
theorem zsF:∀{a b:List (BN×Nat)},zBC a b=true->a=b
 | [],[],_=>rfl
 |(b,o)::l,(b',o')::l',h=>by obtain⟨h1,h2⟩:=j7 h;obtain⟨h3,h4⟩:=j7 h1;rw[zbq h3,beq_true h4,zsF h2]
 | [],_::_,h=>by cases h
 |_::_,[],h=>by cases h
theorem zwj:∀{a b:List UInt8},eqU a b=true->a=b
 | [],[],_=>rfl
 |a::l,b::l',h=>by obtain⟨h1,h2⟩:=j7 h;rw[UInt8.toNat_inj.1 (beq_true h1),zwj h2]
 | [],_::_,h=>by cases h
 |_::_,[],h=>by cases h
theorem zvh{a b:ByteArray}(h:eqU a.data.toList b.data.toList=true):a=b:=by have:=zwj h;cases a<;>simp_all
theorem zHc{a b:Int}(h:eqI a b=true):a=b:=by grind[uV]
theorem zsB{a b:Zc}(h:eqV a b=true):a=b:=by
 cases a<;>cases b<;>first
  |rfl
  |(cases h;done)
  |skip
 .exact congrArg _ (zsK h)
 .obtain⟨h1,h2⟩:=j7 h
  grind[zl5,zHc]
 .exact congrArg _ (zvh h)
 .obtain⟨h1,h2⟩:=j7 h
  grind[zbq,beq_true]
 .obtain⟨h1,h2⟩:=j7 h;obtain⟨h1,h3⟩:=j7 h1;obtain⟨h1,h4⟩:=j7 h1;obtain⟨h1,h5⟩:=j7 h1
  grind[zbq,beq_true,zsK]
 .exact congrArg _ (zbq h)
 .obtain⟨h1,h2⟩:=j7 h
  grind[beq_true,zsF]
 .exact congrArg _ (zbq h)
 obtain⟨h1,h2⟩:=j7 h;simp_all
theorem zl3:∀{a b:List Zc},zzm a b=true->a=b
 | [],[],_=>rfl
 |a::l,b::l',h=>by obtain⟨h1,h2⟩:=j7 h;rw[zsB h1,zl3 h2]
 | [],_::_,h=>by cases h
 |_::_,[],h=>by cases h
theorem zsC{a b:SVal}(h:zBA a b=true):a=b:=by
 cases a<;>cases b<;>first
  |(cases h;done)
  |exact congrArg _ (zsB h)
  |exact congrArg _ (zl3 h)
theorem zsE:∀{a b:List SVal},zBB a b=true->a=b
 | [],[],_=>rfl
 |a::l,b::l',h=>by obtain⟨h1,h2⟩:=j7 h;rw[zsC h1,zsE h2]
 | [],_::_,h=>by cases h
 |_::_,[],h=>by cases h
theorem zn6{a b:Zb}(h:eqA a b=true):a=b:=by
 cases a<;>cases b<;>first
  |(cases h;done)
  |exact congrArg _ (zsC h)
  |exact congrArg _ (zsE h)
noncomputable def frL(L:Nat->Bool):Nat->List (Option BN×Zb)->Tr Zb->Tr Zb
 |_,[],t=>t
 |i,(d,v)::r,t=>frL L (i+1) r (bif L i then zfd t v d else t)
open Classical in
noncomputable def lw(L:Nat->Bool)(s:BN):Nat->List (Option BN×Zb)->Option Zb
 |_,[]=>none
 |i,(d,v)::r=>(lw L s (i+1) r).or (if L i=true/\d=some s then some v else none)
theorem zhZ(t:Tr Zb)(v:Zb)(d:Option BN)(s:BN)[Decidable (d=some s)]:(zfd t v d).get s=if d=some s then some v else t.get s:=by
 rcases d with _|d
 .simp[zfd]
 by_cases h:d=s
 .grind[zfd,zC]
 rw[Yza (fun hh=>h (Option.some.inj hh))];exact zt _ _ _ _ (fun hh=>h hh.symm)
section
variable {L L':Nat->Bool} {s:BN}
open Classical in
theorem zay:∀(r:List (Option BN×Zb)) (i:Nat) (t:Tr Zb),(frL L i r t).get s=(lw L s i r).or (t.get s)
 | [],i,t=>rfl
 |(d,v)::r,i,t=>by
  unfold frL lw;rw[zay r (i+1),Option.or_assoc]
  congr 1
  cases hL:L i
  .simp
  simp only[Yzb,true_and]
  grind[zhZ]
theorem zc3:∀(r:List (Option BN×Zb)) (i:Nat),(∀j d v,r[j]? = some (d,v)->d=some s->L (i+j)=L' (i+j))->lw L s i r=lw L' s i r
 | [],i,_=>rfl
 |(d,v)::r,i,h=>by
  unfold lw;rw[zc3 r (i+1) fun j d v hj hd=>by have:=h (j+1) d v (by trivial) hd;grind]
  congr 1
  by_cases hd:d=some s
  .have:=h 0 d v (by simp) hd
   grind
  grind
theorem zrS:∀(r:List (Option BN×Zb)) (i:Nat),(∀j d v,r[j]? = some (d,v)->d=some s->L (i+j)=false)->lw L s i r=none
 | [],i,_=>rfl
 |(d,v)::r,i,h=>by
  unfold lw;rw[zrS r (i+1) fun j d v hj hd=>by have:=h (j+1) d v (by trivial) hd;grind];by_cases hd:d=some s
  .have:=h 0 d v (by simp) hd
   grind
  grind
theorem zlN:∀(r:List (Option BN×Zb)) (i k:Nat) (v:Zb),r[k]? = some (some s,v)->L (i+k)=true->(∀j d u,k<j->r[j]? = some (d,u)->d=some s->L (i+j)=false)->lw L s i r=some v
 | [],i,k,v,hk,_,_=>by simp at hk
 |(d,u)::r,i,0,v,hk,hL,h=>by
  simp only[Yzj,Option.some.injEq,Prod.mk.injEq]at hk;obtain⟨rfl,rfl⟩:=hk;unfold lw;rw[zrS r (i+1) fun j d v hj hd=>by have:=h (j+1) d v (by omega) (by trivial) hd;grind]
  grind
 |(d,u)::r,i,k+1,v,hk,hL,h=>by
  unfold lw;rw[zlN r (i+1) k v (by trivial) (by grind) fun j d v hj hjr hd=>by have:=h (j+1) d v (by omega) (by trivial) hd;grind]
  rfl
theorem znV(d:Option BN)(v:Zb)(r:List (Option BN×Zb))(i:Nat)(t:Tr Zb):frL L i ((d,v)::r) t=frL L (i+1) r (bif L i then zfd t v d else t):=rfl
theorem zsZ(e:Bool)(es:List Bool)(i:Nat):ce L i (e::es)=bif L i&&e then ce L (i+1) es+1 else ce L (i+1) es:=rfl
theorem zf4:∀(r:List (Option BN×Zb)) (i:Nat) (t:Tr Zb),frL L (i+1) r t=frL (fun k=>L (k+1)) i r t
 | [],i,t=>rfl
 |(d,v)::r,i,t=>by unfold frL;exact zf4 r (i+1) _
theorem zdd:∀(r:List (Option BN×Zb)) (i:Nat) (t:Tr Zb),(∀j,j<r.length->L (i+j)=L' (i+j))->frL L i r t=frL L' i r t
 | [],i,t,_=>rfl
 |(d,v)::r,i,t,h=>by unfold frL;have h0:=h 0 (by simp);simp only[YzE]at h0;rw[h0];exact zdd r (i+1) _ fun j hj=>by have:=h (j+1) (by grind);grind
theorem zjc:∀(es:List Bool) (i:Nat),ce L (i+1) es=ce (fun k=>L (k+1)) i es
 | [],i=>rfl
 |e::es,i=>by unfold ce;rw[Yyl,Yyl,zjc es (i+1)]
theorem vH:∀(es:List Bool) (i:Nat),(∀j,es[j]? = some true->L (i+j)=L' (i+j))->ce L i es=ce L' i es
 | [],i,_=>rfl
 |e::es,i,h=>by
  unfold ce;have ih:=vH es (i+1) fun j hj=>by have:=h (j+1) (by trivial);grind
  rw[Yyl,ih];cases e
  .simp
  have h0:=h 0 (by simp)
  grind
theorem w8:∀(es:List Bool) (i:Nat),(∀j,es[j]? = some true->L (i+j)=true->L' (i+j)=true)->ce L i es<=ce L' i es
 | [],i,_=>LzB _
 |e::es,i,h=>by
  unfold ce;have ih:=w8 es (i+1) fun j hj hL=>by have:=h (j+1) (by trivial) (by grind);grind
  simp only[Yyl];cases e
  .grind
  have h0:=h 0 (by simp)
  grind
theorem zkz:∀(es:List Bool) (i k:Nat),es[k]? = some true->L (i+k)=false->L' (i+k)=true->(∀j,j≠i+k->L' j=L j)->ce L' i es=ce L i es+1
 | [],i,k,hk,_,_,_=>by simp at hk
 |e::es,i,0,hk,h1,h2,h3=>by
  simp only[Yzj,Option.some.injEq]at hk;subst hk;simp only[YzE]at h1 h2 h3;unfold ce;rw[h1,h2];simp only[Yyl,Yyn,Yzb,Yzd]
  grind[vH]
 |e::es,i,k+1,hk,h1,h2,h3=>by
  unfold ce;have ih:=zkz es (i+1) k (by trivial) (by grind) (by grind) fun j hj=>h3 j (by omega)
  grind
end
theorem ur(t:Tr Zb)(s:BN)[DecidableEq BN]:∀(l:List BN),(zap t l).get s=if s∈l then t.get s else none
 | []=>by cases s<;>rfl
 |x::l=>by
  unfold zap;split
  .rename_i v hv;by_cases hx:s=x
   .grind[zC]
   rw[zt _ _ _ _ hx,ur t s l];simp[hx]
  rename_i hv;rw[ur t s l]
  grind
def dv(x:Zk×Tr Zb×Zb):Option BN×Zb:=(x.1.rop.dst,x.2.2)
theorem ziW(call:zh):∀(ds:List Zk) (t:Tr Zb) (h:Za) (l:List (Zk×Tr Zb×Zb)) (t2:Tr Zb) (hs:List Za),evD call ds t h=some (l,t2,hs)->
  l.map (·.1)=ds/\hs[0]? = some h/\hs.length=ce (fun _=>true) 0 (ds.map (·.eff))+1/\t2=frL (fun _=>true) 0 (l.map dv) t/\
  ∀j d tr v,l[j]? = some (d,tr,v)->tr=zap (frL (fun k=>decide (k<j)) 0 (l.map dv) t) d.looks/\
   ∃hk h',hs[ce (fun k=>decide (k<j)) 0 (ds.map (·.eff))]? = some hk/\xW call d.rop tr hk=some (v,h')/\(d.eff=true->hs[ce (fun k=>decide (k<j)) 0 (ds.map (·.eff))+1]? = some h')
 | [],t,h,l,t2,hs,e=>by cases e;exact⟨rfl,rfl,rfl,rfl,fun j d tr v hj=>by simp at hj⟩
 |d::ds,t,h,l,t2,hs,e=>by
  unfold evD at e;split at e
  .rename_i v0 h0 hv0;rcases hr:evD call ds (zfd t v0 d.rop.dst) (bif d.eff then h0 else h) with _|p
   .rw[hr]at e;cases e
   obtain⟨l',t',hs'⟩:=p;rw[hr]at e;simp only[zBH,Option.some.injEq,Prod.mk.injEq]at e;obtain⟨rfl,rfl,rfl⟩:=e;obtain⟨g1,g2,g3,g4,g5⟩:=ziW call ds _ _ l' _ hs' hr;have hsh:∀(L:Nat->Bool),ce L 0 ((d::ds).map (·.eff))=(bif L 0&&d.eff then 1 else 0)+ce (fun k=>L (k+1)) 0 (ds.map (·.eff)):=by grind[zsZ,zjc]
   have hfr:∀(L:Nat->Bool),frL L 0 (((d,zap t d.looks,v0)::l').map dv) t=frL (fun k=>L (k+1)) 0 (l'.map dv) (bif L 0 then zfd t v0 d.rop.dst else t):=by grind[dv,znV,zf4]
   refine⟨by simp[g1],?_,?_,?_,?_⟩
   .grind
   .grind
   .grind
   intro j dj tr v hj;cases j with
   |zero=>
    simp only[Yzj,Option.some.injEq,Prod.mk.injEq]at hj;obtain⟨rfl,rfl,rfl⟩:=hj;have hz:ce (fun k=>decide (k<0)) 0 ((d::ds).map (·.eff))=0:=by
     rw[hsh];simp only[Nat.not_lt_zero,decide_false,Bool.false_and,Yzd,Yzi];have:∀(es:List Bool) (i:Nat),ce (fun _=>false) i es=0:=by
      intro es
      induction es<;>grind[ce]
     grind
    refine⟨?_,h,h0,?_,hv0,?_⟩
    .rw[hfr];simp only[Nat.not_lt_zero,decide_false,Yzd]
     congr 1
     have:∀(r:List (Option BN×Zb)) (i:Nat) (t:Tr Zb),frL (fun _=>false) i r t=t:=by
      intro r
      induction r<;>grind[frL]
     grind
    .grind
    grind
   |succ j=>grind
  cases e
theorem zfe{call:zh}{o:Zp}{tr:Tr Zb}{v:Zb}:∀(hs:List Za),sameAt call o tr v hs=true->∀(k:Nat) (hk:Za),hs[k]? = some hk->∃h',xW call o tr hk=some (v,h')
 | [],_,k,hk,hh=>by simp at hh
 |h::hs,e,k,hk,hh=>by
  unfold sameAt at e;split at e
  .rename_i v' h' hv;obtain⟨e1,e2⟩:=j7 e;cases k with
   |zero=>grind[zn6]
   |succ k=>exact zfe hs e2 k hk (by trivial)
  cases e
theorem zgj{call:zh}{hs:List Za}:∀(l:List (Zk×Tr Zb×Zb)),uY call hs l=true->∀(j:Nat) (d:Zk) (tr:Tr Zb) (v:Zb),l[j]? = some (d,tr,v)->d.eff=false->
  d.lo=d.hi\/∀k hk,d.lo<=k->k<=d.hi->hs[k]? = some hk->∃h',xW call d.rop tr hk=some (v,h')
 | [],_,j,d,tr,v,hj,_=>by simp at hj
 |(d0,tr0,v0)::l,e,j,d,tr,v,hj,hd=>by
  obtain⟨e1,e2⟩:=j7 e;cases j with
  |zero=>
   simp only[Yzj,Option.some.injEq,Prod.mk.injEq]at hj;obtain⟨rfl,rfl,rfl⟩:=hj;rw[hd]at e1;simp only[Yz8,YzH]at e1;rcases e1 with e1|e1
   .simp_all
   refine .inr fun k hk h1 h2 h3=>?_;refine zfe _ e1 (k-d0.lo) hk ?_
   grind
  |succ j=>exact zgj l e2 j d tr v (by trivial) hd
theorem ziy:∀(hs:List Za) (h:Za),hs≠[]->hs[hs.length-1]? = some (ziz h hs)
 | [],_,h=>absurd rfl h
 | [x],_,_=>rfl
 |x::y::hs,h,_=>by have:=ziy (y::hs) x (by simp);trivial
theorem zgm(P:Program)(nt:Nat)(ops:Array Oper)(bs:List Nat)(es:List Bool):∀(os:List Oper) (i j:Nat),(j6 P nt ops bs es i os)[j]? = (os[j]?).map fun o=>
  (⟨yX P nt ops o,(o.looksAt ops).map bn,!yK P o.op,ce (fun k=>bef bs k (i+j)) 0 es,ce (fun k=>!bef bs (i+j) k) 0 es⟩:Zk)
 | [],i,j=>by simp[j6]
 |o::os,i,0=>by simp[j6]
 |o::os,i,j+1=>by simp only[j6,Yzt];rw[zgm P nt ops bs es os (Nat.succ i) j,show Nat.succ i+j=i+(j+1) by omega]
theorem zgn(P:Program)(nt:Nat)(ops:Array Oper)(bs:List Nat)(es:List Bool):∀(os:List Oper) (i:Nat),(j6 P nt ops bs es i os).map (·.eff)=zdk P os
 | [],i=>rfl
 |o::os,i=>by have:=zgn P nt ops bs es os (Nat.succ i);simp only[j6,Yzw,this];rfl
theorem uK{p:Nat->Oper->Bool}:∀(os:List Oper) (i:Nat),allI p i os=true->∀(j:Nat) (o:Oper),os[j]? = some o->p (i+j) o=true
 | [],_,_,j,o,hj=>by simp at hj
 |o::os,i,e,0,o',hj=>by simp only[Yzj,Option.some.injEq]at hj;subst hj;exact(j7 e).1
 |o::os,i,e,j+1,o',hj=>by
  have:=uK os (Nat.succ i) (j7 e).2 j o' (by trivial)
  grind
section
variable {ops:Array Oper}
def Rdy(ops:Array Oper)(L:Nat->Bool)(i:Nat):Prop:=∀o e,ops[i]? = some o->e∈o.after.toList->Region.binds .any e=true->L e.on=true
def Clo(ops:Array Oper)(L:Nat->Bool):Prop:=∀i,L i=true->Rdy ops L i
def zy7(ops:Array Oper)(acc:List Nat):Prop:=∀(i x:Nat),acc[i]? = some x->∀(j:Nat),Nat.testBit x j=true->∀(L:Nat->Bool),Clo ops L->Rdy ops L i->L j=true
theorem zd6{acc:List Nat}{j:Nat}:∀(es:List Edge),Nat.testBit (zmD acc es) j=true->∃e∈es,Region.binds .any e=true/\(e.on=j\/∃x,acc[e.on]? = some x/\Nat.testBit x j=true)
 | [],h=>by grind[zmD]
 |e::es,h=>by
  unfold zmD at h;cases hb:Region.binds .any e
  .rw[hb]at h;obtain⟨e',h1,h2⟩:=zd6 es h
   grind
  rw[hb]at h;simp only[Yzb]at h;have h:Nat.testBit ((2^e.on ||| (acc[e.on]?).getD 0) ||| zmD acc es) j=true:=h;rw[Nat.testBit_or,Nat.testBit_or,YzH,YzH]at h;rcases h with (h|h)|h
  .grind
  .grind
  obtain⟨e',h1,h2⟩:=zd6 es h
  grind
theorem zgs:∀(os pre:List Oper) (acc:List Nat),ops.toList=pre++os->acc.length=pre.length->zy7 ops acc->zy7 ops (zoq os acc)
 | [],_,acc,_,_,hg=>hg
 |o::os,pre,acc,hp,hl,hg=>by
  unfold zoq;refine zgs os (pre++[o]) _ (by simp[hp]) (by simp[hl]) ?_;intro i x hi j hj L hC hR;by_cases hlt:i<acc.length
  .rw[Lz2 hlt]at hi;exact hg i x hi j hj L hC hR
  rw[Lz8 (by omega)]at hi;have h0:i-acc.length=0:=by grind
  rw[h0]at hi;simp only[Yzj,Option.some.injEq]at hi;subst hi;obtain⟨e,he,hb,hh⟩:=zd6 _ hj;have ho:ops[i]? = some o:=by
   rw[<-LzA,hp,Lz8 (by omega)]
   grind
  have hon:=hR o e ho he hb;rcases hh with hh|⟨x,hx,hh⟩
  .grind
  exact hg _ x hx j hh L hC (hC _ hon)
theorem uk{i j:Nat}(h:bef (xz ops.toList) j i=true){L:Nat->Bool}(hC:Clo ops L)(hR:Rdy ops L i):L j=true:=by
 have hg:zy7 ops (xz ops.toList):=zgs ops.toList [] [] rfl rfl (fun i x hi=>by simp at hi);unfold bef at h;rcases hx:(xz ops.toList)[i]? with _|x
 .grind
 rw[hx]at h;exact hg i x hx j h L hC hR
def lst(listed:Array Bool)(i:Nat):Bool:=listed.getD i false
theorem mem_ready{listed:Array Bool}{i:Nat}(h:i∈Region.ready .any ops listed):∃o,ops[i]? = some o/\i<listed.size/\lst listed i=false/\Rdy ops (lst listed) i:=by
 unfold Region.ready at h;rw[List.mem_filter]at h;obtain⟨h1,h2⟩:=h;obtain⟨h3,h4⟩:=j7 h2;have hlt:i<listed.size:=by grind
 rcases ho:ops[i]? with _|o
 .grind
 rw[ho]at h4;refine⟨o,rfl,hlt,?_,?_⟩
 .grind[lst]
 intro o' e ho' he hb
 grind[Array.all_eq_true',lst]
theorem zqM{listed:Array Bool}(hsz:listed.size=ops.size){i:Nat}{o:Oper}(ho:ops[i]? = some o)(hl:lst listed i=false)(hR:Rdy ops (lst listed) i):i∈Region.ready .any ops listed:=by
 have hi:i<ops.size:=(Lz7.1 ho).1;unfold Region.ready;rw[List.mem_filter];refine⟨by grind,?_⟩;rw[LzC]
 constructor
 .grind[lst]
 rw[ho];simp only[YzG,Yyf,Array.all_eq_true'];intro e he;cases hb:Region.binds .any e
 .rfl
 simpa[lst] using hR o e ho (by grind) hb
theorem zhF{listed:Array Bool}(hsz:listed.size=ops.size)(hA:∀(i:Nat) (o:Oper) (e:Edge),ops[i]? = some o->e∈o.after.toList->Region.binds .any e=true->e.on<i)
  (hnil:Region.ready .any ops listed=[]):∀i,i<ops.size->lst listed i=true:=by
 intro i
 induction i using Nat.strongRecOn with
 |_ i ih=>
  intro hi;cases hl:lst listed i
  case true=>rfl
  have:=zqM (ops:=ops) hsz (YzF hi) hl (fun o e ho he hb=>by grind)
  grind
theorem vR{listed:Array Bool}{i:Nat}(hi:i<listed.size)(j:Nat):lst (listed.setIfInBounds i true) j=(decide (j=i)||lst listed j):=by
 unfold lst;rw[YzC,YzC,Array.getElem?_setIfInBounds]
 grind
def unl(listed:Array Bool):Nat:=listed.toList.count false
theorem zp8{listed:Array Bool}{i:Nat}(hi:i<listed.size)(hl:lst listed i=false):unl (listed.setIfInBounds i true)+1=unl listed:=by
 unfold unl;rw[Array.toList_setIfInBounds,List.count_set (by omega)];have hg:listed.toList[i]'(by omega)=false:=by simp_all[lst]
 grind
theorem zmS{listed:Array Bool}(h:unl listed=0){i:Nat}(hi:i<listed.size):lst listed i=true:=by
 unfold unl at h;rw[List.count_eq_zero]at h;unfold lst;rw[YzC,YzF hi]
 grind
end
end Go.CE
end
section
namespace Go.CE
open Go.RowKit
section
variable {P:Program} {w0:World} {S:Nat->Prop} {nt:Nat} {call:zh} {ops:Array Oper}
theorem Zi.of_get{φ:Phi}{n:Nat}{t t':Tr Zb}{arr:Array Value}(T:Zi φ nt n t arr)(h:∀s,t'.get s=t.get s):Zi φ nt n t' arr:=
 ⟨T.size,fun i hi=>by rw[h];exact T.get i hi,fun i hi=>by rw[h];exact T.out i hi,fun i v hv=>T.wf i v (by grind)⟩
noncomputable def vU(φ:Phi)(nt:Nat)(t:Tr Zb):Array Value:=Array.ofFn (n:=nt) fun i=>zw φ ((t.get (bn i.val)).getD zn)
theorem zku{φ:Phi}{n:Nat}{t:Tr Zb}(h1:∀i,nt<=i->t.get (bn i)=none)(h2:∀i v,t.get i=some v->wfA φ n v):Zi φ nt n t (vU φ nt t):=
 ⟨by simp[vU],fun i hi=>by simp[vU,hi],h1,h2⟩
theorem zkn{φ:Phi}{t:Tr Zb}{h h2:Za}{a:Act}{v:Zb}{o:Oper}(e:xW call (yX P nt ops o) t h=some (v,h2))(T:Zi φ nt h.n.toNat t a.tmps):
  (Region.wanted o (yielded ops a.tmps)=true/\cOp P o.op call t h=some (v,h2))\/(Region.wanted o (yielded ops a.tmps)=false/\v=zn/\h2=h):=by
 unfold yX at e;have bad:∀{o':Zp},o'=⟨none,xk,none⟩->xW call o' t h=some (v,h2)->False:=by intro o' ho' e;subst ho';cases e
 cases hd:inT nt o.dst
 .grind
 rw[hd]at e;simp only[Yzb]at e
 grind[xW,Region.wanted,zdu,ym]
theorem zdj{t:Tr Zb}{h:Za}{r:Zb×Za}{o:Oper}(e:xW call (yX P nt ops o) t h=some r):(yX P nt ops o).dst=o.dst.map bn/\inT nt o.dst=true:=by
 have bad:∀{o':Zp},o'=⟨none,xk,none⟩->xW call o' t h=some r->False:=by intro o' ho' e;subst ho';cases e
 grind[yX]
theorem zmj(hok:zdl P ops (xz ops.toList)=true):(∀(i:Nat) (o:Oper),ops[i]? = some o->(∀cs b,o.op≠.select cs b)/\∀e∈o.after.toList,Region.binds .any e=true->e.on<i)/\
  ∀(i j:Nat) (oi oj:Oper),ops[i]? = some oi->ops[j]? = some oj->i<j->bef (xz ops.toList) i j=true\/(oi.apart ops oj=true/\(yK P oi.op=true\/yK P oj.op=true)):=by
 obtain⟨h1,h2⟩:=j7 hok
 constructor
 .intro i o ho;have:=uK _ 0 h1 i o (by grind);rw[Yzi]at this;obtain⟨g1,g2⟩:=j7 this;refine⟨(fun cs b hh=>by rw[hh]at g1;cases g1),fun e he hb=>?_⟩;rw[YzJ]at g2;have:=g2 e he;rw[hb]at this;exact ym (by trivial)
 intro i j oi oj hi hj hlt;have:=uK _ 0 h2 j oj (by grind);rw[Yzi]at this;have:=uK _ 0 this i oi (by grind);rw[Yzi]at this;simp only[YzH]at this
 grind[Yzg]
theorem zsO(C:xT P call){Q:Exit->Act->World->Prop}{a0:Act}{t t2:Tr Zb}{h:Za}{φ0:Phi}{l:List (Zk×Tr Zb×Zb)}{hs:List Za}{ro:Option Nat}
  (hok:zdl P ops (xz ops.toList)=true) (hev:evD call (zeB P nt ops) t h=some (l,t2,hs)) (hch:uY call hs l=true)
  (hQ:∀a2 w2,Next1 w0 S φ0 nt h t2 (ziz h hs) a0 a2 w2->Q .normal a2 w2):
  ∀(fuel:Nat) (listed:Array Bool) (φ:Phi) (a:Act) (w:World) (Hk:Za),listed.size=ops.size->unl listed<=fuel->Clo ops (lst listed)->Ext h.n.toNat φ0 φ->
   hs[ce (lst listed) 0 (zdk P ops.toList)]? = some Hk->Ze w0 S φ Hk w->h.n.toNat<=Hk.n.toNat->Zi φ nt Hk.n.toNat (frL (lst listed) 0 (l.map dv) t) a.tmps->a.defers=a0.defers->
   wpAnyIn (FR ro) 0 P .any ops Q fuel listed a w:=by
 obtain⟨hA,hord⟩:=zmj hok;obtain⟨g1,g2,g3,g4,g5⟩:=ziW call _ _ _ _ _ _ hev;have heff:(zeB P nt ops).map (·.eff)=zdk P ops.toList:=zgn _ _ _ _ _ _ _;rw[heff]at g3 g5;have hl:∀(j:Nat) (o:Oper),ops[j]? = some o->∃tr v,l[j]? = some ((⟨yX P nt ops o,(o.looksAt ops).map bn,!yK P o.op,ce (fun k=>bef (xz ops.toList) k j) 0 (zdk P ops.toList),ce (fun k=>!bef (xz ops.toList) j k) 0 (zdk P ops.toList)⟩:Zk),tr,v):=by
  intro j o ho;have h1:(zeB P nt ops)[j]? = some ⟨yX P nt ops o,(o.looksAt ops).map bn,!yK P o.op,ce (fun k=>bef (xz ops.toList) k j) 0 (zdk P ops.toList),ce (fun k=>!bef (xz ops.toList) j k) 0 (zdk P ops.toList)⟩:=by grind[zeB,zgm]
  grind
 have hlen:l.length=ops.size:=by
  have h1:=congrArg List.length g1;have h2:=congrArg List.length heff
  grind[zdk]
 have hdst:∀(j:Nat) (o:Oper) (d:Zk) (tr:Tr Zb) (v:Zb),ops[j]? = some o->l[j]? = some (d,tr,v)->d.rop.dst=o.dst.map bn/\inT nt o.dst=true:=by grind[zdj]
 have hdv:∀(j:Nat) (d:Option BN) (v:Zb) (s:BN),(l.map dv)[j]? = some (d,v)->d=some s->∃o sn,ops[j]? = some o/\o.dst=some sn/\bn sn=s:=by
  intro j d v s hj hd;rw[Lz6]at hj;rcases hx:l[j]? with _|x
  .grind
  obtain⟨d',tr,v'⟩:=x;rw[hx]at hj;simp only[YzG,Option.some.injEq,dv,Prod.mk.injEq]at hj;have hjl:j<ops.size:=by grind
  have ho:ops[j]? = some ops[j]:=YzF hjl;have:=(hdst j _ d' tr v' ho hx).1;simp_all
 have hes:∀(j:Nat),(zdk P ops.toList)[j]? = some true->∃o,ops[j]? = some o/\yK P o.op=false:=by grind[zdk]
 have hes':∀(j:Nat) (o:Oper),ops[j]? = some o->(zdk P ops.toList)[j]? = some (!yK P o.op):=by grind
 intro fuel
 induction fuel with
 |zero=>
  intro listed φ a w Hk hsz hu hC hE hH HR hn T hdf;have hall:∀i,i<ops.size->lst listed i=true:=fun i hi=>zmS (by omega) (by omega);have hnil:Region.ready .any ops listed=[]:=by
   cases hr:Region.ready .any ops listed with
   |nil=>rfl
   |cons i r=>
    obtain⟨o,ho,h1,h2,h3⟩:=mem_ready (ops:=ops) (listed:=listed) (i:=i) (by grind)
    grind
  refine⟨hnil,hQ a w ⟨φ,hE,?_,?_,hdf,?_⟩⟩
  all_goals
   have hk:Hk=ziz h hs:=by have h1:=ziy hs h (fun hh=>by rw[hh]at g2;cases g2);rw[g3,Nat.add_sub_cancel]at h1;rw[vH (L:=lst listed) (L':=fun _=>true) _ 0 (fun j hj=>by obtain⟨o,ho,_⟩:=hes j hj;rw[Yzi];exact hall j (Lz7.1 ho).1)]at hH;exact Option.some.inj (hH.symm.trans h1)
   subst hk
  .exact HR
  .grind[zdd]
  exact hn
 |succ fuel ih=>
  intro listed φ a w Hk hsz hu hC hE hH HR hn T hdf;refine⟨fun hnil=>?_,fun i hi=>?_⟩
  .have hall:=zhF (ops:=ops) hsz (fun i o e ho he hb=>(hA i o ho).2 e he hb) hnil;have hk:Hk=ziz h hs:=by
    have h1:=ziy hs h (fun hh=>by grind)
    grind[vH]
   subst hk;refine hQ a w ⟨φ,hE,HR,?_,hdf,hn⟩
   grind[zdd]
  obtain⟨o,ho,hlt,hli,hR⟩:=mem_ready hi;obtain⟨tr,v,hj⟩:=hl i o ho;obtain⟨htr,hk0,h0',hk0s,hone0,heff0⟩:=g5 i _ tr v hj;obtain⟨hnosel,hedge⟩:=hA i o ho;obtain⟨hdd,hdin⟩:=hdst i o _ tr v ho hj;have before:∀j,bef (xz ops.toList) j i=true->lst listed j=true:=fun j hb=>uk hb hC hR;have after:∀j,bef (xz ops.toList) i j=true->lst listed j=false:=by
   intro j hb;cases hj:lst listed j
   .rfl
   have:=uk hb hC (hC j hj)
   grind
  have hCi:Clo ops (fun k=>decide (k<i)):=by
   intro j hj o' e ho' he hb
   grind
  have hRi:Rdy ops (fun k=>decide (k<i)) i:=by
   intro o' e ho' he hb
   grind
  have hagree:∀s∈(o.looksAt ops).map bn,(frL (fun k=>decide (k<i)) 0 (l.map dv) t).get s=(frL (lst listed) 0 (l.map dv) t).get s:=by
   intro s hs';obtain⟨sn,hsn,rfl⟩:=List.mem_map.1 hs';rw[zay,zay]
   congr 1
   refine zc3 _ 0 fun j d v hjd hds=>?_;obtain⟨oj,sj,hoj,hsj,hbe⟩:=hdv j d v _ hjd hds;have:=zah hbe;subst this;rw[Yzi]
   grind[Oper.apart_spec]
  have htrg:∀s,tr.get s=(frL (lst listed) 0 (l.map dv) t).get s/\s∈(o.looksAt ops).map bn\/tr.get s=none:=by grind[ur]
  have Tr':Zi φ nt Hk.n.toNat tr (vU φ nt tr):=by
   refine zku (fun j hj=>?_) (fun s v hv=>?_)
   .rcases htrg (bn j) with⟨h1,_⟩|h1
    .rw[h1];exact T.out j hj
    exact h1
   rcases htrg s with⟨h1,_⟩|h1
   .rw[h1]at hv;exact T.wf s v hv
   grind
  have htmps:∀sn∈o.looksAt ops,a.tmps[sn]? = (vU φ nt tr)[sn]?:=by
   intro sn hsn;by_cases hlt':sn<nt
   .rw[T.get sn hlt',Tr'.get sn hlt'];have hm:bn sn∈(o.looksAt ops).map bn:=List.mem_map.2 ⟨sn,hsn,rfl⟩
    grind[ur]
   have e1:a.tmps[sn]? = none:=Yz2 (by rw[T.size];grind);have e2:(vU φ nt tr)[sn]? = none:=Yz2 (by rw[Tr'.size];grind);rw[e1,e2]
  have hexec:execOp a.eval o=execOp ({ tmps:=vU φ nt tr,defers:=[] }:Act).eval o:=by
   refine execOp_congr o hnosel fun x hx=>?_;cases x with
   |tmp sn=>have:=htmps sn (Yzz _ (List.mem_filterMap.2 ⟨.tmp sn,by grind,rfl⟩));simp only[Act.eval,YzC,this]
   |_=>rfl
  have hwant:Region.wanted o (yielded ops a.tmps)=Region.wanted o (yielded ops (vU φ nt tr)):=by
   unfold Region.wanted;rcases hg:o.guard with _|gb
   .rfl
   obtain⟨g,b⟩:=gb;simp only;have:yielded ops a.tmps g=yielded ops (vU φ nt tr) g:=by
    unfold yielded;rcases hd:(ops[g]?).bind (·.dst) with _|sn
    .rfl
    have:=htmps sn (Yzr _ (by grind))
    grind
   rw[this]
  have hone:∃h',xW call (yX P nt ops o) tr Hk=some (v,h')/\hs[ce (lst (listed.setIfInBounds i true)) 0 (zdk P ops.toList)]? = some h':=by
   cases hq:yK P o.op
   .have hce:ce (lst listed) 0 (zdk P ops.toList)=ce (fun k=>decide (k<i)) 0 (zdk P ops.toList):=by
     refine vH _ 0 fun j hj=>?_
     grind
    rw[hce]at hH;cases hH.symm.trans hk0s;refine⟨h0',hone0,?_⟩;have:=heff0 (by simp[hq]);rw[<-hce]at this;rw[zkz (L:=lst listed) (zdk P ops.toList) 0 i (by grind) (by grind) (by grind[vR]) (fun j hj=>by rw[Yzi]at hj;grind[vR])];exact this
   have hsame:ce (lst (listed.setIfInBounds i true)) 0 (zdk P ops.toList)=ce (lst listed) 0 (zdk P ops.toList):=by
    refine vH _ 0 fun j hj=>?_;rw[Yzi,vR hlt]
    grind
   have hlo:ce (fun k=>bef (xz ops.toList) k i) 0 (zdk P ops.toList)<=ce (lst listed) 0 (zdk P ops.toList):=w8 _ 0 fun j _ hb=>by grind
   have hhi:ce (lst listed) 0 (zdk P ops.toList)<=ce (fun k=>!bef (xz ops.toList) i k) 0 (zdk P ops.toList):=w8 _ 0 fun j _ hb=>by grind
   have hlo0:ce (fun k=>bef (xz ops.toList) k i) 0 (zdk P ops.toList)<=ce (fun k=>decide (k<i)) 0 (zdk P ops.toList):=w8 _ 0 fun j _ hb=>by rw[Yzi]at hb ⊢;grind[uk]
   have hhi0:ce (fun k=>decide (k<i)) 0 (zdk P ops.toList)<=ce (fun k=>!bef (xz ops.toList) i k) 0 (zdk P ops.toList):=w8 _ 0 fun j _ hb=>by
    rw[Yzi]at hb ⊢;cases hbb:bef (xz ops.toList) i j
    .rfl
    have:=uk hbb hCi (hCi j hb)
    grind
   have hex:∃h',xW call (yX P nt ops o) tr Hk=some (v,h'):=by
    rcases zgj l hch i _ tr v hj (by simp[hq]) with heq|hall
    .grind
    grind
   obtain⟨h',hh'⟩:=hex;refine⟨h',hh',?_⟩;have:h'=Hk:=by
    rcases zkn (a:={ tmps:=vU φ nt tr,defers:=[] }) hh' Tr' with⟨_,hc⟩|⟨_,_,hc⟩
    .exact zqi P o.op hq _ _ _ _ _ hc
    exact hc
   grind
  obtain⟨h',hone,hH'⟩:=hone;have hC':Clo ops (lst (listed.setIfInBounds i true)):=by
   intro j hj o' e ho' he hb;rw[vR hlt]at hj ⊢;rw[YzH]
   right
   simp only[YzH,Yzo]at hj;rcases hj with hj|hj
   .subst hj;exact hR o' e ho' he hb
   exact hC j hj o' e ho' he hb
  have next:∀(φ2:Phi) (w2:World),Ext Hk.n.toNat φ φ2->Ze w0 S φ2 h' w2->wfA φ2 h'.n.toNat v->Hk.n.toNat<=h'.n.toNat->wpAnyIn (FR ro) 0 P .any ops Q fuel (listed.setIfInBounds i true) (a.put o.dst (zw φ2 v)) w2:=by
   intro φ2 w2 he H2 hv hle;refine ih _ φ2 _ w2 h' (by grind) ?_ hC' (hE.trans he hn) hH' H2 (Yzl hn hle) ?_ ((put_defers _ _ _).trans hdf)
   .grind[zp8]
   refine Zi.of_get (Zi.put (T.ext he hle) hv o.dst hdin) fun s=>?_
   classical
   rw[zhZ,zay];have hri:(l.map dv)[i]? = some (o.dst.map bn,v):=by grind[dv]
   by_cases hd:o.dst.map bn=some s
   .rw[Yzc hd];rw[hd]at hri;rw[zlN (l.map dv) 0 i v hri (by rw[Yzi,vR hlt];simp) (fun j d u hij hjd hds=>?_)]
    .rfl
    rw[Yzi,vR hlt];obtain⟨oj,sj,hoj,hsj,hbe⟩:=hdv j d u _ hjd hds;have hne:¬j=i:=by omega
    simp only[hne,decide_false,Yz8]
    grind[zah,Oper.apart_spec]
   rw[Yza hd,zay]
   congr 1
   refine zc3 _ 0 fun j d u hjd hds=>?_;rw[Yzi,vR hlt]
   grind
  unfold wpOpIn;simp only[ho];rcases zkn (a:={ tmps:=vU φ nt tr,defers:=[] }) hone Tr' with⟨hw,hc⟩|⟨hw,hv,hh⟩
  .rw[Yzc (by grind)];exact zjU C HR (ar:={ tmps:=vU φ nt tr,defers:=[] }) Tr' hexec hc next
  rw[Yza (by grind)];subst hv hh;exact⟨fun f _=>trivial,next φ w (Ext.refl _ _) HR (fun _ hv=>by cases hv) (LzB _)⟩
end
end Go.CE
end
section
namespace Go.CE
open Go.RowKit
section
variable {α:Type}
theorem zbl:∀(n:BN) (t:Tr α),(t.del n).get n=none:=by
 intro n
 induction n with
 |z=>intro t;cases t<;>rfl
 |o n ih=>intro t;cases t with
  |nil=>rfl
  |node l v r=>exact ih l
 |d n ih=>intro t;cases t with
  |nil=>rfl
  |node l v r=>exact ih r
theorem zaw:∀(n m:BN) (t:Tr α),m≠n->(t.del n).get m=t.get m:=by
 intro n
 induction n with
 |z=>intro m t h;cases t with
  |nil=>rfl
  |node l v r=>cases m with
   |z=>trivial
   |o m=>rfl
   |d m=>rfl
 |o n ih=>intro m t h;cases t with
  |nil=>rfl
  |node l v r=>cases m with
   |z=>rfl
   |o m=>exact ih m l (fun e=>h (by rw[e]))
   |d m=>rfl
 |d n ih=>intro m t h;cases t with
  |nil=>rfl
  |node l v r=>cases m with
   |z=>rfl
   |o m=>rfl
   |d m=>exact ih m r (fun e=>h (by rw[e]))
end
abbrev nm(n0 j:Nat):BN:=bn (Nat.add n0 j)
theorem yM(n0 j:Nat):(nm n0 j).toNat=n0+j:=yg _
theorem uR{n0 i j:Nat}(h:nm n0 i=nm n0 j):i=j:=by
 have:=congrArg BN.toNat h
 grind[yM]
theorem zDw{n0:Nat}{b:BN}(h:n0<=b.toNat):b=nm n0 (b.toNat-n0):=by grind[BN.toNat_inj,yM]
theorem zgd{n0:Nat}:∀(l:List Nat) (t:Tr Zg) (j:Nat),j∈l->(zdW n0 l t).get (nm n0 j)=none
 | [],_,j,h=>by cases h
 |i::l,t,j,h=>by
  unfold zdW;by_cases hj:j∈l
  .exact zgd l _ j hj
  have hji:j=i:=by grind
  subst hji;have key:∀(l:List Nat) (t:Tr Zg) (b:BN),t.get b=none->(zdW n0 l t).get b=none:=by
   intro l
   induction l with
   |nil=>intro t b h;exact h
   |cons i l ih=>intro t b h;unfold zdW;apply ih;by_cases hb:b=bn (Nat.add n0 i)<;>simp_all[zbl,zaw]
  grind[zbl]
theorem uW{n0:Nat}:∀(l:List Nat) (t:Tr Zg) (b:BN),(∀j∈l,b≠nm n0 j)->(zdW n0 l t).get b=t.get b
 | [],_,_,_=>rfl
 |i::l,t,b,h=>by unfold zdW;rw[uW l _ b fun j hj=>h j (by simp[hj]),zaw _ _ _ (h i (by simp))]
theorem zbW{n0:Nat}{h:Tr Zg}:∀(l:List Nat) (t t':Tr Zg),zjk n0 h l t=some t'->
  (∀j∈l,t'.get (nm n0 j)=h.get (nm n0 j))/\(∀b,(∀j∈l,b≠nm n0 j)->t'.get b=t.get b)/\∀j∈l,t.get (nm n0 j)=none
 | [],t,t',e=>by cases e<;>grind
 |i::l,t,t',e=>by
  unfold zjk at e;split at e
  .cases e
  rename_i hn;split at e
  .rename_i o ho;obtain⟨g1,g2,g3⟩:=zbW l _ t' e;have hni:∀j∈l,nm n0 i≠nm n0 j:=fun j hj hh=>by
    have:=g3 j hj;rw[<-hh]at this;rw[show nm n0 i=bn (Nat.add n0 i) from rfl,zC]at this;cases this
   refine⟨fun j hj=>?_,fun b hb=>?_,fun j hj=>?_⟩
   .rcases Yya.1 hj with rfl|hj
    .rw[g2 _ hni,show nm n0 j=bn (Nat.add n0 j) from rfl,zC,ho]
    grind
   .grind[zt]
   rcases Yya.1 hj with rfl|hj
   .exact hn
   grind[zt]
  rename_i ho;obtain⟨g1,g2,g3⟩:=zbW l _ t' e
  grind
theorem zFf{n0:Nat}(h t:Tr Zg):∀(l:List Nat),∃t':Tr Zg,(∀j∈l,t'.get (nm n0 j)=h.get (nm n0 j))/\∀b,(∀j∈l,b≠nm n0 j)->t'.get b=t.get b
 | []=>⟨t,fun j hj=>(by cases hj),fun _ _=>rfl⟩
 |i::l=>by
  obtain⟨t1,g1,g2⟩:=zFf h t l;have key:∃t2:Tr Zg,t2.get (nm n0 i)=h.get (nm n0 i)/\∀b,b≠nm n0 i->t2.get b=t1.get b:=by
   rcases ho:h.get (nm n0 i) with _|o
   .exact⟨t1.del (nm n0 i),zbl _ _,fun b hb=>zaw _ _ _ hb⟩
   exact⟨t1.set (nm n0 i) o,zC _ _ _,fun b hb=>zt _ _ _ _ hb⟩
  obtain⟨t2,k1,k2⟩:=key;refine⟨t2,fun j hj=>?_,fun b hb=>?_⟩
  .by_cases hji:nm n0 j=nm n0 i
   .grind
   rw[k2 _ hji];rcases Yya.1 hj with rfl|hj
   .trivial
   exact g1 j hj
  grind
def Sbh(e h:Za):Prop:=∀b o,e.t.get b=some o->h.t.get b=some o
section
variable {w0:World} {S:Nat->Prop} {φ φ2:Phi} {h e e2 h2:Za} {w w2:World}
def zB8(φ:Phi)(e:Za)(k:Nat):Prop:=∃b o,e.t.get b=some o/\live o/\(φ b).blk=k
theorem Ze.sub(H:Ze w0 S φ h w)(hs:Sbh e h)(hn:e.n.toNat=h.n.toNat):Ze w (zB8 φ e) φ e w:=
 ⟨fun b o hb => by rw [hn]; exact H.keys b o (hs b o hb), fun b o hb => H.okb b o (hs b o hb), fun b o hb => by rw [hn]; exact H.obj b o (hs b o hb),
  fun b b' o o' hb hb' hl hl' he=>H.inj b b' o o' (hs b o hb) (hs b' o' hb') hl hl' he,fun b o hb hl=>.inl ⟨b,o,hb,hl,rfl⟩,rfl,rfl,rfl,LzB _,LzB _,fun _ _ _=>rfl,H.glob,fun b o hb hl=>H.flat b o (hs b o hb) hl,fun b o hb hl=>H.ng b o (hs b o hb) hl⟩
theorem Ze.join(H:Ze w0 S φ h w)(hs:Sbh e h)(_hn:e.n.toNat=h.n.toNat)(H2:Ze w (zB8 φ e) φ2 e2 w2)(he:Ext h.n.toNat φ φ2)(hle:h.n.toNat<=e2.n.toNat)
  (hn2:h2.n.toNat=e2.n.toNat) (hg:∀b o,h2.t.get b=some o->e2.t.get b=some o\/(h.t.get b=some o/\e.t.get b=none)):Ze w0 S φ2 h2 w2:=by
 have hold:∀b o,h.t.get b=some o->φ2 b=φ b:=fun b o hb=>he b (H.keys b o hb);have hdesc:∀k,zB8 φ e k->S k\/w0.heap.size<=k:=by
  rintro k ⟨b,o,hb,hl,rfl⟩
  exact H.own b o (hs b o hb) hl
 have hrest:∀b o,h.t.get b=some o->e.t.get b=none->live o->¬zB8 φ e (φ b).blk:=by
  rintro b o hb hn hl ⟨c,o',hc,hl',hcc⟩
  have:=H.inj c b o' o (hs c o' hc) hb hl' hl hcc
  grind
 have hlt:∀b o,h.t.get b=some o->live o->(φ b).blk<w.heap.size:=fun b o hb hl=>(H.obj b o hb).there hl;refine⟨fun b o hb=>?_,fun b o hb=>?_,fun b o hb=>?_,fun b b' o o' hb hb' hl hl' hh=>?_,fun b o hb hl=>?_,H2.os.trans H.os,H2.tape.trans H.tape,H2.output.trans H.output,Yzl H.size H2.size,Yzl H.drawn H2.drawn,fun k hk hS=>?_,H2.glob,fun b o hb hl=>?_,fun b o hb hl=>?_⟩
 .rw[hn2];rcases hg b o hb with hb|⟨hb,_⟩
  .exact H2.keys b o hb
  exact Lz9 (H.keys b o hb) hle
 .rcases hg b o hb with hb|⟨hb,_⟩
  .exact H2.okb b o hb
  rw[hold b o hb];exact H.okb b o hb
 .rw[hn2];rcases hg b o hb with hb|⟨hb,hnone⟩
  .exact H2.obj b o hb
  exact((H.obj b o hb).world fun hl=>H2.kept _ (hlt b o hb hl) (hrest b o hb hnone hl)).ext (H.okk b o hb) he hle
 .have hcross:∀b b' o o',e2.t.get b=some o->h.t.get b'=some o'->e.t.get b'=none->live o->live o'->(φ2 b).blk=(φ2 b').blk->False:=by
   intro b b' o o' hb hb' hn hl hl' hh;rw[hold b' o' hb']at hh;rcases H2.own b o hb hl with h1|h1<;>grind
  rcases hg b o hb with hb|⟨hb,hnb⟩<;>rcases hg b' o' hb' with hb'|⟨hb',hnb'⟩
  .exact H2.inj b b' o o' hb hb' hl hl' hh
  .grind
  .grind
  rw[hold b o hb,hold b' o' hb']at hh;exact H.inj b b' o o' hb hb' hl hl' hh
 .rcases hg b o hb with hb|⟨hb,_⟩
  .rcases H2.own b o hb hl with h1|h1
   .grind
   exact .inr (Yzl H.size h1)
  rw[hold b o hb];exact H.own b o hb hl
 .rw[H2.kept k (Lz9 hk H.size) (fun hd=>by
   grind)]
  exact H.kept k hk hS
 .rcases hg b o hb with hb|⟨hb,_⟩
  .exact H2.flat b o hb hl
  rw[hold b o hb];exact H.flat b o hb hl
 rcases hg b o hb with hb|⟨hb,_⟩
 .exact H2.ng b o hb hl
 rw[hold b o hb];exact H.ng b o hb hl
theorem Ze.of_get(H:Ze w0 S φ h w)(hg:∀b,e.t.get b=h.t.get b)(hn:e.n.toNat=h.n.toNat):Ze w0 S φ e w:=
 ⟨fun b o hb => by rw [hn]; exact H.keys b o (by grind), fun b o hb => H.okb b o (by grind), fun b o hb => by rw [hn]; exact H.obj b o (by grind),
  fun b b' o o' hb hb'=>H.inj b b' o o' (by grind) (by grind),fun b o hb=>H.own b o (by grind),H.os,H.tape,H.output,H.size,H.drawn,H.kept,H.glob,fun b o hb hl=>H.flat b o (by grind) hl,fun b o hb hl=>H.ng b o (by grind) hl⟩
noncomputable def zho(φ:Phi)(n0 N:Nat):Phi:=fun b=>if n0<=b.toNat/\b.toNat<n0+N then⟨0,0,0,false,none⟩ else φ b
theorem zhn(φ:Phi)(n0 N:Nat):Ext n0 φ (zho φ n0 N):=fun b hb=>by grind[zho]
theorem zr2(φ:Phi)(n0 N j:Nat)(hj:j<N):(zho φ n0 N (nm n0 j)).ok=false:=by grind[zho,yM]
theorem Ze.keep(H:Ze w0 S φ h w)(N:Nat):Ze w0 S (zho φ h.n.toNat N) ⟨bn (Nat.add h.n.toNat N),h.t⟩ w:=by
 have he:=zhn φ h.n.toNat N;have hn:(bn (Nat.add h.n.toNat N)).toNat=h.n.toNat+N:=yg _;refine⟨fun b o hb=>?_,fun b o hb=>?_,fun b o hb=>?_,fun b b' o o' hb hb' hl hl' hh=>?_,fun b o hb hl=>?_,H.os,H.tape,H.output,H.size,H.drawn,H.kept,H.glob,fun b o hb hl=>?_,fun b o hb hl=>?_⟩
 .show b.toNat<(bn (Nat.add h.n.toNat N)).toNat;rw[hn];have:=H.keys b o hb;omega
 .rw[he b (H.keys b o hb)];exact H.okb b o hb
 .show ORel _ (bn (Nat.add h.n.toNat N)).toNat w b o;rw[hn];exact(H.obj b o hb).ext (H.okk b o hb) he (by omega)
 .rw[he b (H.keys b o hb),he b' (H.keys b' o' hb')]at hh;exact H.inj b b' o o' hb hb' hl hl' hh
 .rw[he b (H.keys b o hb)];exact H.own b o hb hl
 .rw[he b (H.keys b o hb)];exact H.flat b o hb hl
 rw[he b (H.keys b o hb)];exact H.ng b o hb hl
def OWf(φ:Phi)(n:Nat):Zg->Prop
 | .cells cs _=>∀c∈cs,wfC φ n c
 | .ro _ f=>∀i c,f i=some c->wfC φ n c
 | .tcells cs _ _=>∀c∈cs,wfC φ n c
 | .map es=>∀p∈es,wfS φ n p.1/\wfS φ n p.2
 | .loop _ _ _ _ tmps _ _ _ d=>(∀i v,tmps.get i=some v->wfA φ n v)/\okB φ n d
 |_=>True
theorem ORel.wf{n:Nat}{b:BN}{o:Zg}(h:ORel φ n w b o):OWf φ n o:=by
 cases o with
 |cells cs st=>obtain⟨_,_,_,_,_,h4⟩:=h;exact h4
 |ro x f=>obtain⟨_,_,_,_,_,h4⟩:=h;exact fun i c hc=>(h4 i c hc).2
 |tcells cs ty var=>obtain⟨_,_,_,_,_,_,h4⟩:=h;exact h4
 |map es=>obtain⟨_,_,_,_,h3,_⟩:=h;exact h3
 |loop st pend fn nt tmps ps assign body d=>obtain⟨_,_,_,h2,h3⟩:=h;exact⟨h2.wf,h3⟩
 |_=>trivial
theorem ORel.recast{φ1 φ2:Phi}{n n1 n2:Nat}{b b2:BN}{o:Zg}(h:ORel φ1 n1 w b o)(hw:OWf φ n o)(hb:φ2 b2=φ1 b)(e1:zk5 n φ φ1)(e2:zk5 n φ φ2)(hn2:n<=n2):ORel φ2 n2 w b2 o:=by
 have cc:∀c,wfC φ n c->zl φ2 c=zl φ1 c:=fun c hc=>(wK e2 hc).trans (wK e1 hc).symm;have cs':∀c,wfS φ n c->zQ φ2 c=zQ φ1 c:=fun c hc=>(zad e2 hc).trans (zad e1 hc).symm;have ca:∀c,wfA φ n c->zw φ2 c=zw φ1 c:=fun c hc=>(zdY e2 hc).trans (zdY e1 hc).symm;cases o with
 |cells cs st=>
  obtain⟨arr,e,h1,h2,h3,h4⟩:=h;refine⟨arr,e,by grind,fun i c hc=>?_,by grind,fun c hc=>vF e2 hn2 (hw c hc)⟩;rw[hb,cc c (hw c (Lz3 hc))]
  grind
 |ro x f=>obtain⟨h0,arr,e,fr,h1,h2⟩:=h;refine⟨fun y hy=>by grind,arr,e,fr,by grind,fun i c hc=>?_⟩;obtain⟨k1,_⟩:=h2 i c hc;exact⟨by rw[hb,cc c (hw i c hc)];exact k1,vF e2 hn2 (hw i c hc)⟩
 |tcells cs ty var=>
  obtain⟨arr,h1,h2,h3,h4,h5,h6⟩:=h;refine⟨arr,by grind,fun i c hc=>?_,by grind,by grind,h5,fun c hc=>vF e2 hn2 (hw c hc)⟩;rw[cc c (hw c (Lz3 hc))]
  grind
 |dead=>trivial
 |void=>trivial
 |map es=>obtain⟨ents,clock,h1,h2,h3,h4⟩:=h;refine⟨ents,clock,by grind,?_,fun p hp=>⟨zal e2 hn2 (hw p hp).1,zal e2 hn2 (hw p hp).2⟩,h4⟩;rw[h2];exact YzN fun p hp=>by rw[cs' _ (hw p hp).1,cs' _ (hw p hp).2]
 |loop st pend fn nt tmps ps assign body d=>
  obtain⟨arr,f,h1,h2,h3⟩:=h;obtain⟨w1,w2'⟩:=hw;refine⟨arr,f,by rw[hb,(e2 d w2').trans (e1 d w2').symm];exact h1,⟨h2.size,fun i hi=>?_,h2.out,fun i v hv=>zmN e2 hn2 (w1 i v hv)⟩,okB.extW e2 hn2 w2'⟩;rw[h2.get i hi];rcases hg:tmps.get (bn i) with _|v
  .rfl
  grind
 |defer=>grind[ORel]
theorem Ze.rename(H:Ze w0 S φ h w){o:Zg}{φ1:Phi}(H1:Ze w0 S φ1 (h.new o) w2)(he:Ext h.n.toNat φ φ1)(hw:OWf φ h.n.toNat o){b:BN}(hb:b.toNat<h.n.toNat)(hbad:(φ b).ok=false)(hnone:h.t.get b=none):
  Ze w0 S (upd φ b (φ1 h.n)) (h.put b o) w2/\zk5 h.n.toNat φ (upd φ b (φ1 h.n)):=by
 have hnb:∀c o',h.t.get c=some o'->c≠b:=fun c o' hc hh=>by grind
 have hnn:∀c o',h.t.get c=some o'->c≠h.n:=fun c o' hc hh=>by have:=H.keys c o' hc;grind
 have hupd:∀c,c≠b->upd φ b (φ1 h.n) c=φ c:=fun c hc=>by grind[upd]
 have hget:∀c x,(h.put b o).t.get c=some x->(c=b/\x=o)\/(c≠b/\h.t.get c=some x):=by grind[Za.put,zbk]
 have hold:∀c x,h.t.get c=some x->(h.new o).t.get c=some x:=fun c x hc=>by grind[Za.new,zt]
 have hnew:(h.new o).t.get h.n=some o:=by grind[Za.new,zC]
 have e2:zk5 h.n.toNat φ (upd φ b (φ1 h.n)):=fun c hc=>hupd c fun hh=>by grind
 refine⟨⟨fun c x hc=>?_,fun c x hc=>?_,fun c x hc=>?_,fun c c' x x' hc hc' hl hl' hh=>?_,fun c x hc hl=>?_,H1.os,H1.tape,H1.output,H1.size,H1.drawn,H1.kept,H1.glob,fun c x hc hl=>?_,fun c x hc hl=>?_⟩,e2⟩
 .rcases hget c x hc with⟨rfl,_⟩|⟨_,hc'⟩
  .exact hb
  exact H.keys c x hc'
 .rcases hget c x hc with⟨rfl,_⟩|⟨hne,hc'⟩
  .rw[zp];exact H1.okb _ _ hnew
  rw[hupd c hne];exact H.okb c x hc'
 .rcases hget c x hc with⟨rfl,rfl⟩|⟨hne,hc'⟩
  .exact(H1.obj _ _ hnew).recast hw (zp _ _ _) he.w e2 (LzB _)
  exact(H1.obj _ _ (hold c x hc')).recast (H.obj c x hc').wf ((hupd c hne).trans (he c (H.keys c x hc')).symm) he.w e2 (LzB _)
 .rcases hget c x hc with⟨rfl,rfl⟩|⟨hne,hc1⟩<;>rcases hget c' x' hc' with⟨rfl,rfl⟩|⟨hne',hc2⟩
  .rfl
  .rw[zp,hupd c' hne',<-he c' (H.keys c' x' hc2)]at hh;exact absurd (H1.inj _ _ _ _ hnew (hold c' x' hc2) hl hl' hh).symm (hnn c' x' hc2)
  .rw[zp,hupd c hne,<-he c (H.keys c x hc1)]at hh;exact absurd (H1.inj _ _ _ _ (hold c x hc1) hnew hl hl' hh) (hnn c x hc1)
  rw[hupd c hne,hupd c' hne']at hh;exact H.inj c c' x x' hc1 hc2 hl hl' hh
 .rcases hget c x hc with⟨rfl,rfl⟩|⟨hne,hc'⟩
  .rw[zp];exact H1.own _ _ hnew hl
  rw[hupd c hne];exact H.own c x hc' hl
 .rcases hget c x hc with⟨rfl,rfl⟩|⟨hne,hc'⟩
  .rw[zp];exact H1.flat _ _ hnew hl
  rw[hupd c hne];exact H.flat c x hc' hl
 rcases hget c x hc with⟨rfl,rfl⟩|⟨hne,hc'⟩
 .rw[zp];exact H1.ng _ _ hnew hl
 rw[hupd c hne];exact H.ng c x hc' hl
end
end Go.CE
end
section
namespace Go.CE
open Go.RowKit
def xc(f:zgM):Prop:=∀call t h h' v h2,f call t h=some (v,h2)->Sbh h h'->f call t h'=some (v,h')
theorem z8:xc (zM none):=fun _ _ _ _ _ _ e=>by cases e
theorem y8{f:zgM}(hf:xc f):xc (zM (some f)):=hf
theorem zrH{α:Type}{a:Option α}{g:α->Option zgM}(hg:∀x,xc (zM (g x))):xc (zM (a.bind g)):=by cases a<;>grind[z8]
theorem zD{α:Type}{a:Option α}{g:α->Option zgM}(hg:∀x,xc (zM (g x))):xc (zM (a >>= g)):=zrH hg
theorem znx{α:Type}{a:Option α}{g:α->zgM}(hg:∀x,xc (g x)):xc (zM (a.map g)):=by cases a<;>grind[z8,zM]
theorem xZ{b:Bool}{x y:Option zgM}(hx:xc (zM x))(hy:xc (zM y)):xc (zM (bif b then x else y)):=by grind
section
variable {h h' h2:Za} {v:Zb}
theorem yA{c:Option Zc}(e:zbY h c=some (v,h2)):zbY h' c=some (v,h'):=by cases c<;>cases e;rfl
theorem yB{c:Option (List Zc)}(e:zgF h c=some (v,h2)):zgF h' c=some (v,h'):=by cases c<;>cases e;rfl
theorem yD{n:Option Nat}{cs:List Zc}{off:Nat}(e:part n cs off h=some (v,h2)):part n cs off h'=some (v,h'):=by
 cases n
 .exact yA e
 exact yB e
theorem xK{b:Bool}{x y x' y':Res}(hx:x=some (v,h2)->x'=some (v,h'))(hy:y=some (v,h2)->y'=some (v,h'))(e:(bif b then x else y)=some (v,h2)):(bif b then x' else y')=some (v,h'):=by grind
theorem zjB{st:Nat}{lo hi mx:Option Opd}{t:Tr Zb}{b:BN}{off len cap:Nat}(e:xw st lo hi mx t h b off len cap=some (v,h2)):xw st lo hi mx t h' b off len cap=some (v,h'):=by
 unfold xw at e ⊢
 (repeat' split at e)<;>first|(cases e;done)|((try simp only[*]);exact xK (fun e=>by cases e;rfl) (fun e=>by cases e) e)
theorem zqm{st:Nat}{lo hi mx:Option Opd}{t:Tr Zb}{b:BN}{off len cap:Nat}(e:xj st lo hi mx t h b off len cap=some (v,h2)):xj st lo hi mx t h' b off len cap=some (v,h'):=by
 unfold xj at e ⊢
 (repeat' split at e)<;>first|(cases e;done)|(cases e;simp only[*];done)|((try simp only[*]);exact xK (fun e=>by cases e;rfl) (fun e=>by cases e) e)
theorem zoO{lo hi mx:Option Opd}{t:Tr Zb}(e:we lo hi mx t h=some (v,h2)):we lo hi mx t h'=some (v,h'):=by grind[we]
end
theorem zlJ(x):xc (znm x):=by intro call t h h' v h2 e _;simp_all[znm]
theorem zrx(x y z):xc (za3 x y z):=by
 intro call t h h' v h2 e _;unfold za3 at e ⊢
 (repeat' split at e)<;>first
  |(cases e;done)
  |(cases e;simp only[*];done)
  |((try simp only[*]);first|exact yA e|exact yB e|exact yD e|exact xK (fun e=>by first|(cases e;rfl)|exact yA e|exact yB e|exact yD e) (fun e=>by cases e) e)
theorem zhe(zs ps):xc (uB zs ps):=by intro call t h h' v h2 e _;exact yB e
theorem zpg(x):xc (uw x):=by
 intro call t h h' v h2 e _;unfold uw at e ⊢
 (repeat' split at e)<;>first
  |(cases e;done)
  |(cases e;simp only[*];done)
  |((try simp only[*]);first|exact yA e|exact yB e|exact yD e|exact xK (fun e=>by first|(cases e;rfl)|exact yA e|exact yB e|exact yD e) (fun e=>by cases e) e)
theorem zuE(g x y):xc (zeF g x y):=by
 intro call t h h' v h2 e _;unfold zeF at e ⊢
 (repeat' split at e)<;>first
  |(cases e;done)
  |(cases e;simp only[*];done)
  |((try simp only[*]);first|exact yA e|exact yB e|exact yD e|exact xK (fun e=>by first|(cases e;rfl)|exact yA e|exact yB e|exact yD e) (fun e=>by cases e) e)
theorem zpe(g x y):xc (vu g x y):=by
 intro call t h h' v h2 e _;unfold vu at e ⊢
 (repeat' split at e)<;>first
  |(cases e;done)
  |(cases e;simp only[*];done)
  |((try simp only[*]);first|exact yA e|exact yB e|exact yD e|exact xK (fun e=>by first|(cases e;rfl)|exact yA e|exact yB e|exact yD e) (fun e=>by cases e) e)
theorem zuz(g x y):xc (zfw g x y):=by
 intro call t h h' v h2 e _;unfold zfw at e ⊢
 (repeat' split at e)<;>first
  |(cases e;done)
  |(cases e;simp only[*];done)
  |((try simp only[*]);first|exact yA e|exact yB e|exact yD e|exact xK (fun e=>by first|(cases e;rfl)|exact yA e|exact yB e|exact yD e) (fun e=>by cases e) e)
theorem zxD(g n x y):xc (znn g n x y):=by
 intro call t h h' v h2 e _;unfold znn at e ⊢
 (repeat' split at e)<;>first
  |(cases e;done)
  |(cases e;simp only[*];done)
  |((try simp only[*]);first|exact yA e|exact yB e|exact yD e|exact xK (fun e=>by first|(cases e;rfl)|exact yA e|exact yB e|exact yD e) (fun e=>by cases e) e)
theorem zry(n x y):xc (ki n x y):=by
 intro call t h h' v h2 e _
 grind[ki]
theorem zrz(n x y):xc (za4 n x y):=by
 intro call t h h' v h2 e _
 grind[za4]
theorem zuB(x):xc (zfx x):=by
 intro call t h h' v h2 e _;unfold zfx at e ⊢
 (repeat' split at e)<;>first
  |(cases e;done)
  |(cases e;simp only[*];done)
  |((try simp only[*]);first|exact yA e|exact yB e|exact yD e|exact xK (fun e=>by first|(cases e;rfl)|exact yA e|exact yB e|exact yD e) (fun e=>by cases e) e)
theorem zuC(x):xc (zfy x):=by
 intro call t h h' v h2 e _;unfold zfy at e ⊢
 (repeat' split at e)<;>first
  |(cases e;done)
  |(cases e;simp only[*];done)
  |((try simp only[*]);first|exact yA e|exact yB e|exact yD e|exact xK (fun e=>by first|(cases e;rfl)|exact yA e|exact yB e|exact yD e) (fun e=>by cases e) e)
theorem zrG(k x):xc (zba k x):=by
 intro call t h h' v h2 e _;unfold zba at e ⊢
 (repeat' split at e)<;>first
  |(cases e;done)
  |(cases e;simp only[*];done)
  |((try simp only[*]);first|exact yA e|exact yB e|exact yD e|exact xK (fun e=>by first|(cases e;rfl)|exact yA e|exact yB e|exact yD e) (fun e=>by cases e) e)
theorem zrA(f x):xc (za5 f x):=by
 intro call t h h' v h2 e _;unfold za5 at e ⊢
 (repeat' split at e)<;>first
  |(cases e;done)
  |(cases e;simp only[*];done)
  |((try simp only[*]);first|exact yA e|exact yB e|exact yD e|exact xK (fun e=>by first|(cases e;rfl)|exact yA e|exact yB e|exact yD e) (fun e=>by cases e) e)
theorem zlH(x lo hi):xc (wi x lo hi):=by
 intro call t h h' v h2 e _;unfold wi at e ⊢
 (repeat' split at e)<;>first
  |(cases e;done)
  |(cases e;simp only[*];done)
  |((try simp only[*]);first|exact yA e|exact yB e|exact yD e|exact xK (fun e=>by first|(cases e;rfl)|exact yA e|exact yB e|exact yD e) (fun e=>by cases e) e)
theorem zrF(x o):xc (za9 x o):=by
 intro call t h h' v h2 e _;unfold za9 at e ⊢
 (repeat' split at e)<;>first
  |(cases e;done)
  |(cases e;simp only[*];done)
  |((try simp only[*]);first|exact yA e|exact yB e|exact yD e|exact xK (fun e=>by first|(cases e;rfl)|exact yA e|exact yB e|exact yD e) (fun e=>by cases e) e)
theorem zpk(x o n):xc (uA x o n):=by
 intro call t h h' v h2 e _;unfold uA at e ⊢
 (repeat' split at e)<;>first
  |(cases e;done)
  |(cases e;simp only[*];done)
  |((try simp only[*]);first|exact yA e|exact yB e|exact yD e|exact xK (fun e=>by first|(cases e;rfl)|exact yA e|exact yB e|exact yD e) (fun e=>by cases e) e)
theorem zuD(st x i):xc (zfB st x i):=by
 intro call t h h' v h2 e _;unfold zfB at e ⊢
 (repeat' split at e)<;>first
  |(cases e;done)
  |(cases e;simp only[*];done)
  |((try simp only[*]);first|exact yA e|exact yB e|exact yD e|exact xK (fun e=>by first|(cases e;rfl)|exact yA e|exact yB e|exact yD e) (fun e=>by cases e) e)
theorem zpi(l st x i):xc (uy l st x i):=by
 intro call t h h' v h2 e _;unfold uy at e ⊢
 (repeat' split at e)<;>first
  |(cases e;done)
  |(cases e;simp only[*];done)
  |((try simp only[*]);first|exact yA e|exact yB e|exact yD e|exact xK (fun e=>by first|(cases e;rfl)|exact yA e|exact yB e|exact yD e) (fun e=>by cases e) e)
theorem zpj(l st n x i):xc (uz l st n x i):=by
 intro call t h h' v h2 e _;unfold uz at e ⊢
 (repeat' split at e)<;>first
  |(cases e;done)
  |(cases e;simp only[*];done)
  |((try simp only[*]);first|exact yA e|exact yB e|exact yD e|exact xK (fun e=>by first|(cases e;rfl)|exact yA e|exact yB e|exact yD e) (fun e=>by cases e) e)
theorem zph(x i):xc (ux x i):=by
 intro call t h h' v h2 e _;unfold ux at e ⊢
 (repeat' split at e)<;>first
  |(cases e;done)
  |(cases e;simp only[*];done)
  |((try simp only[*]);first|exact yA e|exact yB e|exact yD e|exact xK (fun e=>by first|(cases e;rfl)|exact yA e|exact yB e|exact yD e) (fun e=>by cases e) e)
theorem zjZ(x i):xc (xX x i):=by
 intro call t h h' v h2 e _;unfold xX at e ⊢
 (repeat' split at e)<;>first
  |(cases e;done)
  |(cases e;simp only[*];done)
  |((try simp only[*]);first|exact yA e|exact yB e|exact yD e|exact xK (fun e=>by first|(cases e;rfl)|exact yA e|exact yB e|exact yD e) (fun e=>by cases e) e)
theorem zrC(x):xc (za7 x):=by
 intro call t h h' v h2 e _;unfold za7 at e ⊢
 (repeat' split at e)<;>first
  |(cases e;done)
  |(cases e;simp only[*];done)
  |((try simp only[*]);first|exact yA e|exact yB e|exact yD e|exact xK (fun e=>by first|(cases e;rfl)|exact yA e|exact yB e|exact yD e) (fun e=>by cases e) e)
theorem zrE(x):xc (za8 x):=by
 intro call t h h' v h2 e _
 grind[za8]
theorem zfH(b x xs):xc (xm b x xs):=by
 intro call t h h' v h2 e _;unfold xm at e ⊢
 (repeat' split at e)<;>first
  |(cases e;done)
  |(cases e;simp only[*];done)
  |((try simp only[*]);first|exact yA e|exact yB e|exact yD e|exact xK (fun e=>by first|(cases e;rfl)|exact yA e|exact yB e|exact yD e) (fun e=>by cases e) e)
theorem zpd(st x lo hi mx):xc (uu st x lo hi mx):=by
 intro call t h h' v h2 e _;unfold uu at e ⊢;split at e
 .grind[zoO]
 ·(try simp only[*]);exact xK zjB zqm e
 cases e
theorem zpf(n x y):xc (uv n x y):=by
 intro call t h h' v h2 e _
 grind[uv]
theorem zlI(l st x lo hi mx):xc (ue l st x lo hi mx):=by
 intro call t h h' v h2 e _
 grind[ue,zjB]
theorem zuA(x):xc (zil x):=by
 intro call t h h' v h2 e hs;unfold zil at e ⊢;split at e
 .grind
 .rename_i b o hx;rcases hb:h.t.get b with _|ob
  .grind
  rw[hb]at e;rw[hs b ob hb];cases ob<;>grind
 cases e
theorem zuy(u n x):xc (zik u n x):=by
 intro call t h h' v h2 e hs;unfold zik at e ⊢;split at e
 .grind
 .rename_i b o hx;refine xK (fun e=>?_) (fun e=>by cases e) e;rcases hb:h.t.get b with _|ob
  .grind
  rw[hb]at e;rw[hs b ob hb];cases ob<;>grind
 cases e
theorem zuS{n:Option Nat}{h h' h2:Za}{off:Nat}{o:Zg}{v:Zb}(e:loadAt n h off (some o)=some (v,h2)):loadAt n h' off (some o)=some (v,h'):=by
 cases o with
 |cells cs st=>exact yD (e:part n cs off h=some (v,h2))
 |tcells cs ty var=>exact yD (e:part n cs off h=some (v,h2))
 |ro x f=>have e:zjN n f off h=some (v,h2):=e;show zjN n f off h'=some (v,h');unfold zjN at e ⊢;cases n<;>grind[yA,yB]
 |_=>cases e
theorem zAf{h h' h2:Za}{c:Option (List Zc)}{v:Zb}(e:zeM h c=some (v,h2)):zeM h' c=some (v,h'):=by
 unfold zeM at e ⊢
 (repeat' split at e)<;>first|(cases e;done)|(cases e;rfl)
theorem zuG(x):xc (zcX x):=by
 intro call t h h' v h2 e hs;unfold zcX at e ⊢;split at e
 .grind
 .rename_i b off len cap ex hx;rcases hb:h.t.get b with _|o
  .grind
  rw[hb]at e;rw[hs b o hb];cases o<;>grind[zAf]
 cases e
theorem zrB(n x):xc (za6 n x):=by
 intro call t h h' v h2 e hs;unfold za6 at e ⊢;split at e
 .rename_i b off hx
  try simp only[hx]
  rcases hb:h.t.get b with _|o
  .rw[hb]at e;cases e
  rw[hb]at e;rw[hs b o hb];exact zuS e
 .exact xK yA (fun e=>by cases e) e
 cases e
theorem zxJ{h h':Za}(hs:Sbh h h'){m:Zb}{es:List (SVal×SVal)}(e:mapOf h m=some es):mapOf h' m=some es:=by
 unfold mapOf at e ⊢;split at e
 .exact e
 .rename_i b;split at e
  .rename_i es' hb;rw[hs b _ hb];exact e
  cases e
 cases e
theorem zlK(q z ok m k):xc (wW q z ok m k):=by
 intro call t h h' v h2 e hs
 grind[wW,zxJ]
theorem zrD(x):xc (zb7 x):=by
 intro call t h h' v h2 e hs;unfold zb7 at e ⊢;split at e
 .grind
 .rename_i b hx
  try rw[hx]
  try simp only
  split at e
  .rename_i es hb;rw[hs b _ hb]
   grind
  cases e
 cases e
theorem zuF(P:Program)(o:Op)(hq:yK P o=true):xc (cOp P o):=by
 cases o with
 |move x=>exact znx zlJ
 |assign x=>exact znx zlJ
 |pick c x y=>exact zD fun _=>zD fun _=>zD fun _=>y8 (zrx _ _ _)
 |build t parts=>
  unfold cOp;simp only;split
  .exact xZ (zD fun _=>y8 (zhe _ _)) z8
  .grind[zD,zhe,z8,zM]
  exact z8
 |load t x=>exact zD fun _=>zD fun _=>y8 (zrB _ _)
 |nilCheck x=>exact zD fun _=>y8 (zpg _)
 |binOp op t x y u=>
  unfold cOp;simp only;split
  .grind[zD,zpe,zuE,zM]
  .grind[zD,zuz,zM]
  .grind[zD,zry,z8,zM]
  .refine xZ ?_ z8
   grind[zD,zpf,z8,zM]
  .grind[zD,zrz,z8,zM]
  .refine xZ z8 ?_
   grind[zD,zxD,z8,zM]
  exact z8
 |unOp u t x=>
  cases u with
  |not=>exact zD fun _=>y8 (zuB _)
  |neg=>exact zD fun _=>y8 (zuC _)
  |_=>exact z8
 |convert a b x=>
  unfold cOp;simp only;split
  .grind[zD,zrG,zM]
  .grind[yK,zsf,ziH]
  .exact xZ (zD fun _=>y8 (zuG _)) z8
  .exact xZ (zD fun _=>y8 (zuA _)) z8
  .exact xZ (zD fun _=>y8 (zuy _ _ _)) z8
  exact z8
 |makeFunc f first captured=>
  cases f with
  |func f=>exact xZ (zD fun _=>y8 (zrA _ _)) z8
  |_=>exact z8
 |slice t x lo hi mx=>
  unfold cOp;simp only;split
  .split
   .exact xZ z8 (zD fun _=>zD fun _=>zD fun _=>zD fun _=>y8 (zpd _ _ _ _ _))
   exact z8
  .split
   .exact xZ z8 (zD fun _=>zD fun _=>zD fun _=>zD fun _=>y8 (zlI _ _ _ _ _ _))
   exact z8
  .exact xZ z8 (zD fun _=>zD fun _=>zD fun _=>y8 (zlH _ _ _))
  exact z8
 |fieldAddr t x f=>
  unfold cOp;simp only;split
  .split
   .split
    .exact xZ z8 (zD fun _=>y8 (zrF _ _))
    exact z8
   exact z8
  exact z8
 |field t x f=>
  unfold cOp
  grind[zD,zpk,z8,zM]
 |indexAddr t x i=>
  unfold cOp
  grind[zD,zuD,z8,zpi,zM]
 |index t x i=>unfold cOp;simp only;split<;>grind[zD,zpj,z8,zph,zM]
 |lookup t m k ok=>
  unfold cOp
  grind[zD,zlK,z8,zM]
 |extract x i=>exact zD fun _=>y8 (zjZ _ _)
 |call c=>
  obtain⟨callee,args,ts⟩:=c;cases callee with
  |builtin b=>
   cases b with
   |len=>grind[cOp,zD,zrC,zrE,zrD,zlJ,z8,zM]
   |max=>grind[cOp,zfH,z8,zM]
   |min=>grind[cOp,zfH,z8,zM]
   |_=>cases hq
  |_=>cases hq
 |_=>cases hq
section
variable {P:Program} {t:Tr Zb} {call:zh}
def zy6(f:zgM)(call:zh)(t:Tr Zb)(nt:Nat):Prop:=∃(obj:Zg) (vf:BN->Zc),(∀hh:Za,f call t hh=some (.s (.one (vf hh.n)),hh.new obj))/\
 (∀(φ φ':Phi) b b',φ b=φ' b'->zl φ (vf b)=zl φ' (vf b'))/\(∀φ n b,okB φ n b->wfC φ n (vf b))/\∀φ n arr,Zi φ nt n t arr->OWf φ n obj
theorem zeQ(hh:Za)(o:Zg)(g:BN->Zc):zcZ hh o g=some (.s (.one (g hh.n)),hh.new o):=by rfl
theorem zfa(φ φ':Phi)(b b':BN)(h:φ b=φ' b'):zl φ (.ptr b 0)=zl φ' (.ptr b' 0):=by grind[zl,adr]
theorem zjE(l c:Nat)(φ φ':Phi)(b b':BN)(h:φ b=φ' b'):zl φ (.slc b 0 l c true)=zl φ' (.slc b' 0 l c true):=by grind[zl,adr]
theorem zft{α:Type}{a:Option α}{g:α->Option zgM}{h h2:Za}{v:Zb}(e:zM (a >>= g) call t h=some (v,h2)):∃x,a=some x/\zM (g x) call t h=some (v,h2):=by
 cases a
 case some=>grind
 cases e
theorem zny{nt:Nat}{o:Op}(hm:zb2 o=true){h h2:Za}{v:Zb}(e:cOp P o call t h=some (v,h2)):zy6 (cOp P o) call t nt:=by
 cases o with
 |alloc ty=>
  rcases hz:yu P ty with _|z
  .simp only[cOp,hz]at e;cases hb:zc6 P ty<;>rw[hb]at e<;>cases e
  cases hb:zc6 P ty
  .refine⟨.cells z.cells 0,fun b=>.ptr b 0,fun hh=>?_,zfa,fun φ n b hb=>hb,fun φ n arr _=>?_⟩
   .simp_all[cOp,zfC,zeQ,zM]
   obtain⟨_,_,_,_,_,hwz⟩:=y5 (φ:=φ) hz;exact fun c hc=>xl (Yzs _) (hwz c hc)
  refine⟨.tcells z.cells ty true,fun b=>.ptr b 0,fun hh=>?_,zfa,fun φ n b hb=>hb,fun φ n arr _=>?_⟩
  .simp_all[cOp,zeP,zeQ,zM]
  obtain⟨_,_,_,_,_,hwz⟩:=y5 (φ:=φ) hz;exact fun c hc=>xl (Yzs _) (hwz c hc)
 |box ty x=>
  rcases hx:ya x with _|f
  .simp only[cOp,hx]at e;cases e
  simp only[cOp,hx]at e;have e:zim f call t h=some (v,h2):=e;unfold zim at e;split at e
  .rename_i u hu;refine⟨.cells u.cells 0,fun b=>.ptr b 0,fun hh=>?_,zfa,fun φ n b hb=>hb,fun φ n arr T=>?_⟩
   .simp_all[cOp,zim,zeQ,zM]
   have:=(zo (a:=⟨arr,[]⟩) T hx).2;rw[hu]at this;exact um this
  cases e
 |buildSlice ty len parts=>
  simp only[cOp]at e;split at e
  .rename_i el hu;split at e
   .rename_i i hi;cases hle:Nat.ble (len*i.size) 16777216
    .rw[hle]at e;cases e
    rw[hle]at e;simp only[Yzb]at e;split at e
    .rename_i zs hzs;cases hq:Nat.beq (len*i.size) 0||Nat.beq zs.length i.size
     .rw[hq]at e;cases e
     rw[hq]at e;simp only[Yzb]at e;obtain⟨r,hr,e⟩:=zft e;have e:uf i.size len (jD zs len) r call t h=some (v,h2):=e;unfold uf at e;split at e
     .rename_i cs hc;refine⟨.cells cs i.size,fun b=>.slc b 0 len len true,fun hh=>?_,zjE len len,fun φ n b hb=>⟨hb,(fun hh=>by cases hh),fun _=>LzB _⟩,fun φ n arr T=>?_⟩
      .simp only[cOp,hu,hi,hle,Yzb,hzs,hq,hr];simp_all[uf,zeQ,zM]
      have T':Zi φ nt (Za.n ⟨bn n,.nil⟩).toNat t (Act.tmps ⟨arr,[]⟩):=by grind[yg]
      obtain⟨hp,hw⟩:=wC T' i.size hr;have hwz:∀c∈jD zs len,wfC φ (Za.n ⟨bn n,.nil⟩).toNat c:=by
       refine zcg (fun c hc=>?_) len;cases h0:Nat.beq (len*i.size) 0
       case true=>grind
       rw[h0]at hzs;simp only[Yzd]at hzs;rcases hz:yu P el with _|z
       .grind
       rw[hz]at hzs;cases hzs;obtain⟨_,_,_,_,_,hwz⟩:=y5 (φ:=φ) hz;exact xl (Yzs _) (hwz c hc)
      have hf:=(zaa hp hwz hw hc).2.1;intro c hc;have:=hf c hc
      rwa [show (Za.n ⟨bn n,.nil⟩).toNat=n from yg n]at this
     cases e
    cases e
   cases e
  cases e
 |makeMap ty r=>
  cases r
  case some=>cases e
  refine⟨.map [],fun b=>.map b,fun hh=>?_,fun φ φ' b b' h=>by grind[zl],fun φ n b hb=>hb,fun φ n arr _ p hp=>by cases hp⟩;rfl
 |makeSlice ty l c=>
  simp only[cOp]at e;split at e
  .rename_i el hu;split at e
   .rename_i i z hi hz;cases hq:Nat.beq z.cells.length i.size && !Nat.beq i.size 0
    .rw[hq]at e;cases e
    rw[hq]at e;simp only[Yzb]at e;obtain⟨fl,hl,e⟩:=zft e;obtain⟨fc,hc,e⟩:=zft e;have e:wA i.size z.cells i.bytes fl fc call t h=some (v,h2):=e;unfold wA at e;split at e
    .rename_i x y hx hy;cases hb:Nat.ble x y&&Nat.ble y 1073741824&&Nat.ble (i.bytes*y) 281474976710656
     .grind
     obtain⟨hb1,_⟩:=j7 hb;obtain⟨hb1,_⟩:=j7 hb1;refine⟨.cells (jD z.cells y) i.size,fun b=>.slc b 0 x y true,fun hh=>?_,zjE x y,fun φ n b hb=>⟨hb,(fun hh=>by cases hh),fun _=>ym hb1⟩,fun φ n arr T=>?_⟩
     .simp only[cOp,hu,hi,hz,hq,Yzb,hl,hc];show wA i.size z.cells i.bytes fl fc call t hh=_;unfold wA;rw[hx,hy];simp only[hb,Yzb];rfl
     obtain⟨_,_,_,_,_,hwz⟩:=y5 (φ:=φ) hz;exact zcg (fun c hc=>xl (Yzs _) (hwz c hc)) y
    cases e
   cases e
  cases e
 |_=>cases hm
end
end Go.CE
end
noncomputable section
namespace Go.CE
open Go.RowKit
def gdv(g:GE):Option BN×Zb:=(g.d.rop.dst,g.v)
def hAt:Za->List GE->Nat->Za
 |h,_,0=>h
 |h,[],_+1=>h
 |_,g::l,j+1=>hAt g.ha l j
theorem ziQ:∀(l:List GE) (h:Za) (j:Nat) (g:GE),l[j]? = some g->hAt h l (j+1)=g.ha
 | [],_,j,g,hj=>by simp at hj
 |g0::l,h,0,g,hj=>by simp only[Yzj,Option.some.injEq]at hj;subst hj;cases l<;>rfl
 |g0::l,h,j+1,g,hj=>by simp only[Yzt]at hj;exact ziQ l g0.ha j g hj
theorem zn3(call:zh)(n0:Nat):∀(ds:List Zq) (i:Nat) (t:Tr Zb) (h:Za) (l:List GE) (t2:Tr Zb) (h2:Za),evG call n0 i ds t h=some (l,t2,h2)->
  l.map (·.d)=ds/\t2=frL (fun _=>true) 0 (l.map gdv) t/\h2=hAt h l l.length/\
  ∀j g,l[j]? = some g->g.tr=zap (frL (fun k=>decide (k<j)) 0 (l.map gdv) t) g.d.looks/\g.hb=hAt h l j/\stepG call n0 (i+j) g.d g.tr g.hb=some (g.v,g.ha)
 | [],i,t,h,l,t2,h2,e=>by cases e;exact⟨rfl,rfl,rfl,fun j g hj=>by simp at hj⟩
 |d::ds,i,t,h,l,t2,h2,e=>by
  unfold evG at e;split at e
  .rename_i v0 h0 hv0;rcases hr:evG call n0 (Nat.succ i) ds (zfd t v0 d.rop.dst) h0 with _|p
   .rw[hr]at e;cases e
   obtain⟨l',t',h'⟩:=p;rw[hr]at e;simp only[zBG,Option.some.injEq,Prod.mk.injEq]at e;obtain⟨rfl,rfl,rfl⟩:=e;obtain⟨g1,g2,g3,g4⟩:=zn3 call n0 ds _ _ _ l' _ _ hr;have hfr:∀(L:Nat->Bool),frL L 0 (((⟨d,zap t d.looks,v0,h,h0⟩:GE)::l').map gdv) t=frL (fun k=>L (k+1)) 0 (l'.map gdv) (bif L 0 then zfd t v0 d.rop.dst else t):=by grind[gdv,znV,zf4]
   refine⟨by simp[g1],by grind,g3,?_⟩;intro j g hj;cases j with
   |zero=>
    simp only[Yzj,Option.some.injEq]at hj;subst hj;refine⟨?_,rfl,hv0⟩;rw[hfr];simp only[Nat.not_lt_zero,decide_false,Yzd]
    congr 1
    have:∀(r:List (Option BN×Zb)) (i:Nat) (t:Tr Zb),frL (fun _=>false) i r t=t:=by
     intro r
     induction r<;>grind[frL]
    grind
   |succ j=>simp only[Yzt]at hj;obtain⟨k1,k2,k3⟩:=g4 j g hj;refine⟨?_,k2,?_⟩<;>grind
  cases e
theorem zeX(es:List Bool):∀i,ce (fun _=>false) i es=0:=by induction es<;>grind[ce]
theorem zsY(L:Nat->Bool)(e:Bool)(es:List Bool):ce L 0 (e::es)=(bif L 0&&e then 1 else 0)+ce (fun k=>L (k+1)) 0 es:=by grind[zsZ,zjc]
theorem zlV:∀(l:List GE) (j:Nat) (g:GE),l[j]? = some g->g.d.eff=true->(hsG l)[ce (fun k=>decide (k<j)) 0 (l.map (·.d.eff))]? = some g.ha
 | [],j,g,hj,_=>by simp at hj
 |g0::l,0,g,hj,he=>by
  simp only[Yzj,Option.some.injEq]at hj;subst hj;have hz:ce (fun k=>decide (k<0)) 0 ((g0::l).map (·.d.eff))=0:=by rw[show (fun k=>decide (k<0))=(fun _:Nat=>false) from funext fun k=>by simp,zeX]
  grind[hsG]
 |g0::l,j+1,g,hj,he=>by
  simp only[Yzt]at hj;have ih:=zlV l j g hj he;simp only[Yzw];rw[zsY];simp only[Nat.zero_lt_succ,decide_true,Yyb,Nat.succ_lt_succ_iff]
  grind[hsG]
theorem zu0(g:GE)(l:List GE):hsG (g::l)=bif g.d.eff then g.ha::hsG l else hsG l:=rfl
def obG(n0:Nat)(l:List GE)(m:Nat):Option Zg:=
 match l[m]? with
 |some g=>bif g.d.mkb then g.ha.t.get (nm n0 m) else none
 |none=>none
def cmG(l:List GE)(m:Nat):Nat:=ce (fun k=>decide (k<m)) 0 (l.map (·.d.eff))
theorem zi8(l:List GE):cmG l 0=0:=by unfold cmG;rw[show (fun k=>decide (k<0))=(fun _:Nat=>false) from funext fun k=>by simp,zeX]
theorem zi9(g:GE)(l:List GE)(m:Nat):cmG (g::l) (m+1)=(bif g.d.eff then 1 else 0)+cmG l m:=by grind[cmG,zsY]
theorem zis{n0:Nat}:∀(l:List GE) (c i:Nat) (x:Nat×Nat×Zg),(∀g∈l,g.d.mkb=true->g.d.eff=false)->x∈zk1 n0 c i l->
  ∃m,x.2.1=i+m/\(∃g,l[m]? = some g/\g.d.mkb=true/\g.ha.t.get (nm n0 (i+m))=some x.2.2)/\x.1=c+cmG l m
 | [],c,i,x,_,hx=>by cases hx
 |g::l,c,i,x,hall,hx=>by
  have step:∀c',x∈zk1 n0 c' (Nat.succ i) l->c'=c+(bif g.d.eff then 1 else 0)->∃m,x.2.1=i+m/\(∃g',(g::l)[m]? = some g'/\g'.d.mkb=true/\g'.ha.t.get (nm n0 (i+m))=some x.2.2)/\x.1=c+cmG (g::l) m:=by
   intro c' hx' hc;obtain⟨m,k1,⟨g',k2,k3,k4⟩,k5⟩:=zis l c' (Nat.succ i) x (fun g' hg'=>hall g' (by simp[hg'])) hx';refine⟨m+1,by omega,⟨g',by trivial,k3,by grind⟩,?_⟩
   grind[zi9]
  unfold zk1 at hx;cases hm:g.d.mkb
  .grind
  have he:=hall g (by simp) hm;rw[hm]at hx;simp only[Yzb]at hx;split at hx
  .rename_i o ho;rcases Yya.1 hx with rfl|hx
   .exact⟨0,rfl,⟨g,rfl,hm,ho⟩,by rw[zi8];rfl⟩
   grind
  grind
theorem zf2{n0 k:Nat}:∀(l:List (Nat×Nat×Zg)) (t:Tr Zg) (b:BN),(zcu n0 k l t).get b=t.get b\/∃x∈l,k<=x.1/\b=nm n0 x.2.1/\(zcu n0 k l t).get b=some x.2.2
 | [],t,b=>.inl rfl
 |(c,j,o)::l,t,b=>by
  unfold zcu;rcases zf2 l (bif Nat.ble k c then t.set (bn (Nat.add n0 j)) o else t) b with h|⟨x,hx,h1,h2,h3⟩
  .rw[h];cases hk:Nat.ble k c
   .simp
   simp only[Yzb];by_cases hb:b=bn (Nat.add n0 j)
   .subst hb;exact .inr ⟨(c,j,o),by simp,ym hk,rfl,zC _ _ _⟩
   grind[zt]
  grind
end Go.CE
end
section
namespace Go.CE
open Go.RowKit
theorem ziN:∀(l:List GE) (k:Nat) (h:Za),(hsG l)[k]? = some h->∃j g,l[j]? = some g/\g.d.eff=true/\cmG l j=k/\g.ha=h
 | [],k,h,e=>by trivial
 |g::l,k,h,e=>by
  rw[zu0]at e;cases he:g.d.eff
  .rw[he]at e;obtain⟨j,g',k1,k2,k3,k4⟩:=ziN l k h e;exact⟨j+1,g',by trivial,k2,by grind[zi9],k4⟩
  rw[he]at e;simp only[Yzb]at e;cases k with
  |zero=>simp only[Yzj,Option.some.injEq]at e;exact⟨0,g,rfl,he,zi8 _,e⟩
  |succ k=>simp only[Yzt]at e;obtain⟨j,g',k1,k2,k3,k4⟩:=ziN l k h e;exact⟨j+1,g',by trivial,k2,by grind[zi9],k4⟩
theorem uF{bs:List Nat}{i:Nat}:∀(os:List Oper) (off j':Nat),j'∈yH bs i off os↔∃j o,os[j]? = some o/\j'=off+j/\(zb2 o.op&&bef bs (off+j) i)=false
 | [],off,j'=>by simp[yH]
 |o::os,off,j'=>by
  have ih:=uF (bs:=bs) (i:=i) os (Nat.succ off) j';have tail:(∃j o',os[j]? = some o'/\j'=Nat.succ off+j/\(zb2 o'.op&&bef bs (Nat.succ off+j) i)=false)↔∃j o',(o::os)[j+1]? = some o'/\j'=off+(j+1)/\(zb2 o'.op&&bef bs (off+(j+1)) i)=false:=by grind
  unfold yH;cases hq:zb2 o.op&&bef bs off i
  case true=>grind
  simp only[Yzd,Yya];rw[ih,tail]
  constructor
  .rintro (rfl|⟨j,o',h1,h2,h3⟩)<;>grind
  grind
theorem zeA(P:Program)(nt:Nat)(ops:Array Oper)(bs:List Nat)(es:List Bool):∀(os:List Oper) (i j:Nat),(xt P nt ops bs es i os)[j]? = (os[j]?).map fun o=>
  (⟨yX P nt ops o,(o.looksAt ops).map bn,anchor P o.op,zb2 o.op,ce (fun k=>bef bs k (i+j)) 0 es,ce (fun k=>!bef bs (i+j) k) 0 es,yH bs (i+j) 0 ops.toList⟩:Zq)
 | [],i,j=>by simp[xt]
 |o::os,i,0=>by simp[xt]
 |o::os,i,j+1=>by simp only[xt,Yzt];rw[zeA P nt ops bs es os (Nat.succ i) j,show Nat.succ i+j=i+(j+1) by omega]
structure Spc (n0 N:Nat) (l:List GE) (L:Nat->Bool) (k:Nat) (Hk H:Za):Prop where
 n:H.n.toNat=Hk.n.toNat
 old:∀b:BN,(b.toNat<n0\/n0+N<=b.toNat)->H.t.get b=Hk.t.get b
 res:∀m,m<N->H.t.get (nm n0 m)=if L m=true then(if k<=cmG l m then obG n0 l m else Hk.t.get (nm n0 m)) else none
noncomputable abbrev FG(n0:Nat)(l:List GE)(k:Nat)(Hk:Za)(m:Nat):Option Zg:=if k<=cmG l m then obG n0 l m else Hk.t.get (nm n0 m)
theorem zhd(n0 N:Nat)(b:BN):(b.toNat<n0\/n0+N<=b.toNat)\/∃m,m<N/\b=nm n0 m:=by
 by_cases h:b.toNat<n0\/n0+N<=b.toNat
 .omega
 exact .inr ⟨b.toNat-n0,by omega,zDw (by omega)⟩
section
variable {P:Program} {nt:Nat} {call:zh} {ops:Array Oper} {n0:Nat} {t t2:Tr Zb} {h0 h2:Za} {l:List GE}
structure Txt (P:Program) (nt:Nat) (call:zh) (ops:Array Oper) (n0:Nat) (t t2:Tr Zb) (h0 h2:Za) (l:List GE):Prop where
 len:l.length=ops.size
 es:l.map (·.d.eff)=zbC P ops.toList
 ent:∀(j:Nat) (o:Oper),ops[j]? = some o->∃g,l[j]? = some g/\g.d=⟨yX P nt ops o,(o.looksAt ops).map bn,anchor P o.op,zb2 o.op,ce (fun k=>bef (xz ops.toList) k j) 0 (zbC P ops.toList),ce (fun k=>!bef (xz ops.toList) j k) 0 (zbC P ops.toList),yH (xz ops.toList) j 0 ops.toList⟩
 fr:t2=frL (fun _=>true) 0 (l.map gdv) t
 fin:h2=hAt h0 l ops.size
 step:∀j g,l[j]? = some g->g.tr=zap (frL (fun k=>decide (k<j)) 0 (l.map gdv) t) g.d.looks/\g.hb=hAt h0 l j/\stepG call n0 j g.d g.tr g.hb=some (g.v,g.ha)
 fresh:∀m,m<ops.size->h0.t.get (nm n0 m)=none
theorem zzM(e:evG call n0 0 (uI P nt ops) t h0=some (l,t2,h2))(hf:∀m,m<ops.size->h0.t.get (nm n0 m)=none):Txt P nt call ops n0 t t2 h0 h2 l:=by
 obtain⟨g1,g2,g3,g4⟩:=zn3 call n0 _ _ _ _ _ _ _ e;have hget:∀(j:Nat) (o:Oper),ops[j]? = some o->(uI P nt ops)[j]? = some ⟨yX P nt ops o,(o.looksAt ops).map bn,anchor P o.op,zb2 o.op,ce (fun k=>bef (xz ops.toList) k j) 0 (zbC P ops.toList),ce (fun k=>!bef (xz ops.toList) j k) 0 (zbC P ops.toList),yH (xz ops.toList) j 0 ops.toList⟩:=by grind[uI,zeA]
 have hlen:(uI P nt ops).length=ops.size:=by
  have key:∀(os:List Oper) (i:Nat),(xt P nt ops (xz ops.toList) (zbC P ops.toList) i os).length=os.length:=by
   intro os
   induction os<;>grind[xt]
  grind[uI]
 have hll:l.length=ops.size:=by grind
 refine⟨hll,?_,fun j o ho=>?_,g2,by grind,fun j g hj=>by grind,hf⟩
 .rw[show (fun x:GE=>x.d.eff)=Zq.eff ∘ GE.d from rfl,<-List.map_map,g1];have key:∀(os:List Oper) (i:Nat),(xt P nt ops (xz ops.toList) (zbC P ops.toList) i os).map Zq.eff=zbC P os:=by
   intro os
   induction os with
   |nil=>intro i;rfl
   |cons o os ih=>intro i;simp only[xt,Yzw,ih];rfl
  exact key _ _
 grind
theorem zdS{φ:Phi}{n:Nat}{tr:Tr Zb}{h h2:Za}{a:Act}{v:Zb}{o:Oper}(e:xW call (yX P nt ops o) tr h=some (v,h2))(T:Zi φ nt n tr a.tmps):
  (Region.wanted o (yielded ops a.tmps)=true/\cOp P o.op call tr h=some (v,h2))\/(Region.wanted o (yielded ops a.tmps)=false/\v=zn/\h2=h):=by
 have key:∀hh:Za,hh.n.toNat=n->xW call (yX P nt ops o) tr ⟨hh.n,h.t⟩=xW call (yX P nt ops o) tr ⟨hh.n,h.t⟩->True:=fun _ _ _=>trivial;unfold yX at e;have bad:∀{o':Zp},o'=⟨none,xk,none⟩->xW call o' tr h=some (v,h2)->False:=by intro o' ho' e;subst ho';cases e
 cases hd:inT nt o.dst
 .grind
 rw[hd]at e;simp only[Yzb]at e;have fin:∀g,xW call ⟨o.dst.map bn,cOp P o.op,g⟩ tr h=some (v,h2)->(want tr g=true/\cOp P o.op call tr h=some (v,h2))\/(want tr g=false/\v=zn/\h2=h):=by grind[xW]
 split at e
 .rename_i hg;rcases fin none e with hh|⟨hw,_⟩
  .grind[Region.wanted]
  cases hw
 rename_i j b hg;split at e
 .rename_i d hjd;cases hb:Nat.ble (Nat.succ d) nt
  .grind
  rw[hb]at e;have T':Zi φ nt (Za.n ⟨bn n,.nil⟩).toNat tr a.tmps:=by grind[yg]
  have hyd:=zdu T' hjd (ym hb) b
  grind[Region.wanted]
 trivial
theorem zvd{tr:Tr Zb}{h h2:Za}{v:Zb}{o:Oper}(e:xW call (yX P nt ops o) tr h=some (v,h2)):cOp P o.op call tr h=some (v,h2)\/(v=zn/\h2=h):=by
 unfold yX at e;have fin:∀(d:Option BN) (f:zgM) g,xW call ⟨d,f,g⟩ tr h=some (v,h2)->f call tr h=some (v,h2)\/(v=zn/\h2=h):=by grind[xW]
 have bad:∀(g:Option (BN×Bool)),xW call ⟨none,xk,none⟩ tr h=some (v,h2)->False:=fun _ e=>by cases e
 cases hd:inT nt o.dst
 .simp_all
 rw[hd]at e;simp only[Yzb]at e;split at e
 .grind
 split at e
 .rename_i d _;cases hb:Nat.ble (Nat.succ d) nt
  case true=>grind
  simp_all
 trivial
theorem ug{o:Op}(h:zb2 o=true):anchor P o=false:=by simp[anchor,h]
theorem zr1(P:Program)(o:Op):zb2 o=true\/(zb2 o=false/\anchor P o=true)\/(zb2 o=false/\anchor P o=false/\yK P o=true):=by
 cases hm:zb2 o
 case true=>simp
 cases hq:yK P o
 case true=>simp
 exact .inr (.inl ⟨rfl,by grind[anchor]⟩)
theorem Txt.made(X:Txt P nt call ops n0 t t2 h0 h2 l){j:Nat}{o:Oper}{g:GE}(ho:ops[j]? = some o)(hg:l[j]? = some g)(hm:zb2 o.op=true):
  g.ha.n=g.hb.n/\(∀b,b≠nm n0 j->g.ha.t.get b=g.hb.t.get b)/\∃h',xW call (yX P nt ops o) g.tr ⟨nm n0 j,g.hb.t⟩=some (g.v,h')/\h'.t=g.ha.t:=by
 obtain⟨g',hg',hd⟩:=X.ent j o ho;cases hg.symm.trans hg';obtain⟨_,_,hs⟩:=X.step j g hg;unfold stepG at hs;rw[hd]at hs;simp only[hm,Yzb]at hs;split at hs
 .rename_i v h' he;simp only[Option.some.injEq,Prod.mk.injEq]at hs;obtain⟨rfl,hs⟩:=hs;rw[<-hs];refine⟨rfl,fun b hb=>?_,h',he,rfl⟩;rcases zvd he with hc|⟨_,rfl⟩
  .obtain⟨obj,vf,hsh,_⟩:=zny (nt:=nt) hm hc;have:=hsh ⟨nm n0 j,g.hb.t⟩;rw[hc]at this;simp only[Option.some.injEq,Prod.mk.injEq]at this;rw[this.2];exact zt _ _ _ _ hb
  rfl
 cases hs
theorem Txt.quiet(X:Txt P nt call ops n0 t t2 h0 h2 l){j:Nat}{o:Oper}{g:GE}(ho:ops[j]? = some o)(hg:l[j]? = some g)(hm:zb2 o.op=false)(ha:anchor P o.op=false):
  g.ha=g.hb/\∃h',xW call (yX P nt ops o) g.tr ⟨g.hb.n,zdW n0 (yH (xz ops.toList) j 0 ops.toList) g.hb.t⟩=some (g.v,h'):=by
 obtain⟨g',hg',hd⟩:=X.ent j o ho;cases hg.symm.trans hg';obtain⟨_,_,hs⟩:=X.step j g hg
 grind[stepG]
theorem Txt.anchor(X:Txt P nt call ops n0 t t2 h0 h2 l){j:Nat}{o:Oper}{g:GE}(ho:ops[j]? = some o)(hg:l[j]? = some g)(hm:zb2 o.op=false)(ha:anchor P o.op=true):
  ∃h',xW call (yX P nt ops o) g.tr ⟨g.hb.n,zdW n0 (yH (xz ops.toList) j 0 ops.toList) g.hb.t⟩=some (g.v,h')/\g.ha.n=h'.n/\(∀i∈yH (xz ops.toList) j 0 ops.toList,g.ha.t.get (nm n0 i)=g.hb.t.get (nm n0 i)/\h'.t.get (nm n0 i)=none)/\
   ∀b,(∀i∈yH (xz ops.toList) j 0 ops.toList,b≠nm n0 i)->g.ha.t.get b=h'.t.get b:=by
 obtain⟨g',hg',hd⟩:=X.ent j o ho;cases hg.symm.trans hg';obtain⟨_,_,hs⟩:=X.step j g hg;unfold stepG at hs;rw[hd]at hs;simp only[hm,ha,Yzd,Yzb]at hs;split at hs
 .rename_i v h' he;split at hs
  .rename_i t' ht;simp only[Option.some.injEq,Prod.mk.injEq]at hs;obtain⟨rfl,hs⟩:=hs
   grind[zbW]
  cases hs
 cases hs
theorem Txt.mkeff(X:Txt P nt call ops n0 t t2 h0 h2 l):∀g∈l,g.d.mkb=true->g.d.eff=false:=by
 intro g hg hm;obtain⟨j,hj⟩:=List.mem_iff_getElem?.1 hg;have hjl:j<ops.size:=by rw[<-X.len];grind
 obtain⟨g',hg',hd⟩:=X.ent j _ (YzF hjl)
 grind[ug]
theorem Txt.ob(X:Txt P nt call ops n0 t t2 h0 h2 l){j:Nat}{o:Oper}{g:GE}(ho:ops[j]? = some o)(hg:l[j]? = some g):obG n0 l j=bif zb2 o.op then g.ha.t.get (nm n0 j) else none:=by
 obtain⟨g',hg',hd⟩:=X.ent j o ho
 grind[obG]
theorem Txt.spc(X:Txt P nt call ops n0 t t2 h0 h2 l)(hA:∀(i:Nat) (o:Oper),ops[i]? = some o->∀e∈o.after.toList,Region.binds .any e=true->e.on<i):
  ∀j,j<=ops.size->∃Hk,(h0::hsG l)[cmG l j]? = some Hk/\Spc n0 ops.size l (fun m=>decide (m<j)) (cmG l j) Hk (hAt h0 l j):=by
 have hbef:∀i j,bef (xz ops.toList) i j=true->i<j:=by
  intro i j hb;have hC:Clo ops (fun k=>decide (k<j)):=by
   intro q hq o' e ho' he hb'
   grind
  grind[Rdy,uk]
 intro j
 induction j with
 |zero=>
  intro _;have e0:hAt h0 l 0=h0:=by cases l<;>rfl
  rw[e0,zi8];refine⟨h0,rfl,rfl,fun _ _=>rfl,fun m hm=>?_⟩;rw[Yza (by simp)];exact X.fresh m hm
 |succ j ih=>
  intro hj;obtain⟨Hk,hHk,S⟩:=ih (by omega);have hjs:j<ops.size:=by omega
  have ho:ops[j]? = some ops[j]:=YzF hjs;generalize ops[j]=o at ho;obtain⟨g,hg,hd⟩:=X.ent j o ho;have hhb:=(X.step j g hg).2.1;have hha:hAt h0 l (j+1)=g.ha:=ziQ l h0 j g hg;have heff:(l.map (·.d.eff))[j]? = some (CE.anchor P o.op):=by grind
  have hcm:cmG l (j+1)=cmG l j+(bif CE.anchor P o.op then 1 else 0):=by
   cases ha:CE.anchor P o.op
   .rw[Yzd,YzE];refine vH _ 0 fun k hk=>?_
    grind
   rw[Yzb];exact zkz _ 0 j (by grind) (by simp) (by simp) (fun k hk=>by grind)
  rw[hha];rcases zr1 P o.op with hm|⟨hm,ha⟩|⟨hm,ha,_⟩
  ·
   obtain⟨k1,k2,h',k3,k4⟩:=X.made ho hg hm;rw[hcm,ug hm,Yzd,YzE];refine⟨Hk,hHk,by rw[k1,hhb];exact S.n,fun b hb=>?_,fun m hmN=>?_⟩
   .rw[k2 b (fun hh=>by grind[yM]),hhb];exact S.old b hb
   by_cases hmj:m=j
   .subst hmj;rw[Yzc (by simp),Yzc (LzB _),X.ob ho hg,hm];rfl
   rw[k2 _ (fun hh=>hmj (uR hh)),hhb,S.res m hmN]
   grind
  ·
   obtain⟨h',k1,k2,k3,k4⟩:=X.anchor ho hg hm ha;rw[hcm,ha,Yzb];refine⟨g.ha,?_,rfl,fun _ _=>rfl,fun m hmN=>?_⟩
   .rw[Yzt];exact zlV l j g hg (by grind)
   by_cases hlt:m<j+1
   .rw[Yzc (by grind),Yza]
    grind[cmG,w8]
   rw[Yza (by grind)];have hmem:m∈yH (xz ops.toList) j 0 ops.toList:=by grind[uF]
   rw[(k3 m hmem).1,hhb,S.res m hmN,Yza (show ¬decide (m<j)=true by grind)]
  obtain⟨k1,_⟩:=X.quiet ho hg hm ha;rw[hcm,ha,Yzd,YzE,k1,hhb];refine⟨Hk,hHk,S.n,S.old,fun m hmN=>?_⟩;rw[S.res m hmN];by_cases hmj:m=j
  .subst hmj;rw[Yza (show ¬decide (m<m)=true by simp),Yzc (show decide (m<m+1)=true by simp),Yzc (LzB _),X.ob ho hg,hm];rfl
  grind
end
end Go.CE
end
section
namespace Go.CE
open Go.RowKit
section
variable {P:Program} {w0:World} {S:Nat->Prop} {nt:Nat} {call:zh} {ops:Array Oper}
theorem zkq(hok:zaF P ops (xz ops.toList)=true):(∀(i:Nat) (o:Oper),ops[i]? = some o->(∀cs b,o.op≠.select cs b)/\∀e∈o.after.toList,Region.binds .any e=true->e.on<i)/\
  ∀(i j:Nat) (oi oj:Oper),ops[i]? = some oi->ops[j]? = some oj->i<j->bef (xz ops.toList) i j=true\/(oi.apart ops oj=true/\(anchor P oi.op=false\/anchor P oj.op=false)):=by
 obtain⟨h1,h2⟩:=j7 hok
 constructor
 .intro i o ho;have:=uK _ 0 h1 i o (by grind);rw[Yzi]at this;obtain⟨g1,g2⟩:=j7 this;refine⟨(fun cs b hh=>by rw[hh]at g1;cases g1),fun e he hb=>?_⟩;rw[YzJ]at g2;have:=g2 e he;rw[hb]at this;exact ym (by trivial)
 intro i j oi oj hi hj hlt;have:=uK _ 0 h2 j oj (by grind);rw[Yzi]at this;have:=uK _ 0 this i oi (by grind);rw[Yzi]at this;simp only[YzH]at this
 grind[Yzg]
theorem zgY{n0:Nat}{d:Zq}{tr:Tr Zb}{v:Zb}{mks:List (Nat×Nat×Zg)}:∀(hs:List Za) (c:Nat),zoU call n0 d tr v mks c hs=true->∀(k:Nat) (hk:Za),hs[k]? = some hk->
  ∃h',xW call d.rop tr ⟨hk.n,zdW n0 d.hide (zcu n0 (c+k) mks hk.t)⟩=some (v,h')
 | [],_,_,k,hk,hh=>by simp at hh
 |h::hs,c,e,k,hk,hh=>by
  unfold zoU at e;split at e
  .rename_i v' h' hv;obtain⟨e1,e2⟩:=j7 e;cases k with
   |zero=>simp only[Yzj,Option.some.injEq]at hh;subst hh;exact⟨h',by rw[YzE,hv,zn6 e1]⟩
   |succ k=>
    have:=zgY hs (Nat.succ c) e2 k hk (by trivial)
    grind
  cases e
theorem zgi{n0:Nat}{mks:List (Nat×Nat×Zg)}{hs:List Za}:∀(l:List GE),uX call n0 mks hs l=true->∀(j:Nat) (g:GE),l[j]? = some g->g.d.eff=false->g.d.mkb=false->
  g.d.lo=g.d.hi\/∀k hk,g.d.lo<=k->k<=g.d.hi->hs[k]? = some hk->∃h',xW call g.d.rop g.tr ⟨hk.n,zdW n0 g.d.hide (zcu n0 k mks hk.t)⟩=some (g.v,h')
 | [],_,j,g,hj,_,_=>by simp at hj
 |g0::l,e,j,g,hj,hd,hm=>by
  obtain⟨e1,e2⟩:=j7 e;cases j with
  |zero=>
   simp only[Yzj,Option.some.injEq]at hj;subst hj;rw[hd,hm]at e1;simp only[Yz8,YzH]at e1;rcases e1 with e1|e1
   .simp_all
   refine .inr fun k hk h1 h2 h3=>?_;have:=zgY _ _ e1 (k-g0.d.lo) hk (by grind)
   grind
  |succ j=>exact zgi l e2 j g (by trivial) hd hm
set_option maxHeartbeats 1000000 in
theorem zpI(C:xT P call){Q:Exit->Act->World->Prop}{a0:Act}{t t2:Tr Zb}{hh0 h0 h2:Za}{φ0:Phi}{l:List GE}{ro:Option Nat}{n0:Nat}
  (hok:zaF P ops (xz ops.toList)=true) (X:Txt P nt call ops n0 t t2 h0 h2 l) (hch:uX call n0 (zk1 n0 0 0 l) (h0::hsG l) l=true) (hn0:hh0.n.toNat=n0) (hh0n:h0.n.toNat=n0+ops.size)
  (hQ:∀a2 w2,Next1 w0 S φ0 nt hh0 t2 h2 a0 a2 w2->Q .normal a2 w2):
  ∀(fuel:Nat) (listed:Array Bool) (φ:Phi) (a:Act) (w:World) (Hk H:Za),listed.size=ops.size->unl listed<=fuel->Clo ops (lst listed)->Ext n0 φ0 φ->
   (h0::hsG l)[ce (lst listed) 0 (zbC P ops.toList)]? = some Hk->Spc n0 ops.size l (lst listed) (ce (lst listed) 0 (zbC P ops.toList)) Hk H->Ze w0 S φ H w->n0+ops.size<=H.n.toNat->
   Zi φ nt H.n.toNat (frL (lst listed) 0 (l.map gdv) t) a.tmps->a.defers=a0.defers->(∀m,m<ops.size->lst listed m=false->(φ (nm n0 m)).ok=false)->
   wpAnyIn (FR ro) 0 P .any ops Q fuel listed a w:=by
 obtain⟨hA,hord⟩:=zkq hok;have hA':∀(i:Nat) (o:Oper),ops[i]? = some o->∀e∈o.after.toList,Region.binds .any e=true->e.on<i:=fun i o ho=>(hA i o ho).2;have hbef:∀i j,bef (xz ops.toList) i j=true->i<j:=by
  intro i j hb;have hC:Clo ops (fun k=>decide (k<j)):=by
   intro q hq o' e ho' he hb'
   grind
  grind[Rdy,uk]
 have hspc:=X.spc hA';have hcmE:∀j,cmG l j=ce (fun k=>decide (k<j)) 0 (zbC P ops.toList):=fun j=>by unfold cmG;rw[X.es]
 have hdst:∀(j:Nat) (o:Oper) (g:GE),ops[j]? = some o->l[j]? = some g->g.d.rop.dst=o.dst.map bn/\inT nt o.dst=true:=by
  intro j o g ho hj;obtain⟨g',hj',hd⟩:=X.ent j o ho;cases hj.symm.trans hj';rw[hd];rcases zr1 P o.op with hm|⟨hm,ha⟩|⟨hm,ha,_⟩
  .obtain⟨_,_,h',he,_⟩:=X.made ho hj hm;exact zdj he
  .obtain⟨h',he,_⟩:=X.anchor ho hj hm ha;exact zdj he
  obtain⟨_,h',he⟩:=X.quiet ho hj hm ha;exact zdj he
 have hdv:∀(j:Nat) (d:Option BN) (v:Zb) (s:BN),(l.map gdv)[j]? = some (d,v)->d=some s->∃o sn,ops[j]? = some o/\o.dst=some sn/\bn sn=s:=by
  intro j d v s hj hd;rw[Lz6]at hj;rcases hx:l[j]? with _|g
  .grind
  rw[hx]at hj;simp only[YzG,Option.some.injEq,gdv,Prod.mk.injEq]at hj;have hjl:j<ops.size:=by have:=(Lz0.1 hx).1;have:=X.len;omega
  have ho:ops[j]? = some ops[j]:=YzF hjl;have:=(hdst j _ g ho hx).1;simp_all
 have hes:∀(j:Nat),(zbC P ops.toList)[j]? = some true->∃o,ops[j]? = some o/\anchor P o.op=true:=by grind[zbC]
 have hes':∀(j:Nat) (o:Oper),ops[j]? = some o->(zbC P ops.toList)[j]? = some (anchor P o.op):=by grind[zbC]
 have hhid:∀(i m:Nat) (om:Oper),ops[m]? = some om->(m∈yH (xz ops.toList) i 0 ops.toList↔(zb2 om.op&&bef (xz ops.toList) m i)=false):=by grind[uF]
 have hhidlt:∀(i m:Nat),m∈yH (xz ops.toList) i 0 ops.toList->m<ops.size:=by grind[uF]
 have hFG:∀(j:Nat) (o:Oper) (g:GE) (Hk:Za) (m:Nat),ops[j]? = some o->l[j]? = some g->zb2 o.op=false->anchor P o.op=true->(h0::hsG l)[cmG l j]? = some Hk->m∈yH (xz ops.toList) j 0 ops.toList->
   FG n0 l (cmG l j+1) g.ha m=FG n0 l (cmG l j) Hk m:=by
  intro j o g Hk m ho hg hm ha hHk hmem;have hmN:=hhidlt j m hmem;obtain⟨h',k1,k2,k3,k4⟩:=X.anchor ho hg hm ha;have hjN:j<ops.size:=(Lz7.1 ho).1;obtain⟨Hk',hHk',Sp⟩:=hspc j (by omega);cases hHk.symm.trans hHk';have hhb:=(X.step j g hg).2.1;have hgm:g.ha.t.get (nm n0 m)=if decide (m<j)=true then FG n0 l (cmG l j) Hk m else none:=by rw[(k3 m hmem).1,hhb];exact Sp.res m hmN
  show (if cmG l j+1<=cmG l m then obG n0 l m else g.ha.t.get (nm n0 m))=if cmG l j<=cmG l m then obG n0 l m else Hk.t.get (nm n0 m)
  rcases Nat.lt_trichotomy m j with hmj|hmj|hmj
  .grind
  .subst hmj;rw[Yza (by omega),hgm,Yza (by simp),Yzc (LzB _),X.ob ho hg,hm];rfl
  have hle:cmG l j+1<=cmG l m:=by
   have h1:cmG l (j+1)=cmG l j+1:=by refine zkz _ 0 j ?_ (by simp) (by simp) (fun k hk=>by grind);rw[X.es,hes' j o ho,ha]
   have h2:cmG l (j+1)<=cmG l m:=w8 _ 0 fun k _ hk=>by grind
   omega
  grind
 have FGu:∀(k:Nat) (Hk:Za) (m:Nat),m<ops.size->(h0::hsG l)[k]? = some Hk->(∀(j:Nat) (oj:Oper),ops[j]? = some oj->anchor P oj.op=true->cmG l j<k->m∈yH (xz ops.toList) j 0 ops.toList)->FG n0 l k Hk m=obG n0 l m:=by
  intro k
  induction k with
  |zero=>simp
  |succ k ih=>
   intro Hk m hmN hHk hall;rw[Yzt]at hHk;obtain⟨j,g,k1,k2,k3,k4⟩:=ziN l k Hk hHk;have hjN:j<ops.size:=by rw[<-X.len];grind
   have ho:ops[j]? = some ops[j]:=YzF hjN;obtain⟨g',hg',hd⟩:=X.ent j _ ho;cases k1.symm.trans hg';have ha:anchor P ops[j].op=true:=by grind
   have hm:zb2 ops[j].op=false:=by grind[ug]
   obtain⟨Hk',hHk',_⟩:=hspc j (by omega);have:=hFG j _ g Hk' m ho k1 hm ha hHk' (hall j _ ho ha (by omega));rw[k3,k4]at this;rw[this];rw[k3]at hHk';exact ih Hk' m hmN hHk' fun j oj hoj haj hlt=>hall j oj hoj haj (by omega)
 have FGn:∀(k:Nat) (Hk:Za) (m:Nat) (om:Oper),ops[m]? = some om->zb2 om.op=false->(h0::hsG l)[k]? = some Hk->FG n0 l k Hk m=none:=by intro k Hk m om hom hmk hHk;have hmN:m<ops.size:=(Lz7.1 hom).1;obtain⟨g,hg,_⟩:=X.ent m om hom;rw[FGu k Hk m hmN hHk fun j oj _ _ _=>(hhid j m om hom).2 (by grind),X.ob hom hg,hmk];rfl
 have hkNone:∀(k:Nat) (Hk:Za) (m:Nat),m<ops.size->(h0::hsG l)[k]? = some Hk->k<=cmG l m->Hk.t.get (nm n0 m)=none:=by
  intro k Hk m hmN hHk hle;cases k with
  |zero=>simp only[Yzj,Option.some.injEq]at hHk;subst hHk;exact X.fresh m hmN
  |succ k=>
   rw[Yzt]at hHk;obtain⟨j,g,k1,k2,k3,k4⟩:=ziN l k Hk hHk;have hjN:j<ops.size:=by rw[<-X.len];grind
   obtain⟨Hk',_,Sp⟩:=hspc (j+1) (by omega);rw[ziQ l h0 j g k1,k4]at Sp;have hmj:¬m<j+1:=fun hh=>by
    have:cmG l m<=cmG l j:=w8 _ 0 fun q _ hq=>by grind
    omega
   rw[Sp.res m hmN,Yza (show ¬decide (m<j+1)=true by grind)]
 have finish:∀(listed:Array Bool) (φ:Phi) (a:Act) (w:World) (Hk H:Za),(∀i,i<ops.size->lst listed i=true)->Ext n0 φ0 φ->
   (h0::hsG l)[ce (lst listed) 0 (zbC P ops.toList)]? = some Hk->Spc n0 ops.size l (lst listed) (ce (lst listed) 0 (zbC P ops.toList)) Hk H->Ze w0 S φ H w->n0+ops.size<=H.n.toNat->
   Zi φ nt H.n.toNat (frL (lst listed) 0 (l.map gdv) t) a.tmps->a.defers=a0.defers->Q .normal a w:=by
  intro listed φ a w Hk H hall hE hH Sp HR hn T hdf;have hce:ce (lst listed) 0 (zbC P ops.toList)=cmG l ops.size:=by grind[vH]
  rw[hce]at hH Sp;obtain⟨Hk',hHk',Sp'⟩:=hspc ops.size (LzB _);cases hH.symm.trans hHk';rw[<-X.fin]at Sp';have hg:∀b,h2.t.get b=H.t.get b:=by
   intro b;rcases zhd n0 ops.size b with hb|⟨m,hm,rfl⟩
   .rw[Sp.old b hb,Sp'.old b hb]
   rw[Sp.res m hm,Sp'.res m hm,Yzc (hall m hm),Yzc (show decide (m<ops.size)=true by grind)]
  have hnn:h2.n.toNat=H.n.toNat:=by rw[Sp.n,Sp'.n]
  refine hQ a w ⟨φ,by grind,HR.of_get hg hnn,?_,hdf,by omega⟩;rw[hnn,X.fr,<-zdd (L:=lst listed) (l.map gdv) 0 t (fun j hj=>by rw[Yzi];exact hall j (by simpa[X.len] using hj))];exact T
 intro fuel
 induction fuel with
 |zero=>
  intro listed φ a w Hk H hsz hu hC hE hH Sp HR hn T hdf hbad;have hall:∀i,i<ops.size->lst listed i=true:=fun i hi=>zmS (by omega) (by omega);have hnil:Region.ready .any ops listed=[]:=by
   cases hr:Region.ready .any ops listed with
   |nil=>rfl
   |cons i r=>
    obtain⟨o,ho,h1,h2,h3⟩:=mem_ready (ops:=ops) (listed:=listed) (i:=i) (by grind)
    grind
  exact⟨hnil,finish listed φ a w Hk H hall hE hH Sp HR hn T hdf⟩
 |succ fuel ih=>
  intro listed φ a w Hk H hsz hu hC hE hH Sp HR hn T hdf hbad;refine⟨fun hnil=>finish listed φ a w Hk H (zhF (ops:=ops) hsz (fun i o e ho he hb=>hA' i o ho e he hb) hnil) hE hH Sp HR hn T hdf,fun i hi=>?_⟩;obtain⟨o,ho,hlt,hli,hR⟩:=mem_ready hi;have hiN:i<ops.size:=(Lz7.1 ho).1;obtain⟨g,hj,hgd⟩:=X.ent i o ho;obtain⟨htr,hhb,_⟩:=X.step i g hj;obtain⟨hnosel,hedge⟩:=hA i o ho;obtain⟨hdd,hdin⟩:=hdst i o g ho hj;generalize hk:ce (lst listed) 0 (zbC P ops.toList)=k at hH Sp;have before:∀j,bef (xz ops.toList) j i=true->lst listed j=true:=fun j hb=>uk hb hC hR;have after:∀j,bef (xz ops.toList) i j=true->lst listed j=false:=by
   intro j hb;cases hj:lst listed j
   .rfl
   have:=uk hb hC (hC j hj)
   grind
  have hCi:Clo ops (fun k=>decide (k<i)):=by
   intro j hj o' e ho' he hb
   grind
  have hRi:Rdy ops (fun k=>decide (k<i)) i:=by
   intro o' e ho' he hb
   grind
  have hlk:g.d.looks=(o.looksAt ops).map bn:=by rw[hgd]
  rw[hlk]at htr;have hagree:∀s∈(o.looksAt ops).map bn,(frL (fun k=>decide (k<i)) 0 (l.map gdv) t).get s=(frL (lst listed) 0 (l.map gdv) t).get s:=by
   intro s hs';obtain⟨sn,hsn,rfl⟩:=List.mem_map.1 hs';rw[zay,zay]
   congr 1
   refine zc3 _ 0 fun j d v hjd hds=>?_;obtain⟨oj,sj,hoj,hsj,hbe⟩:=hdv j d v _ hjd hds;have:=zah hbe;subst this;rw[Yzi];rcases Nat.lt_trichotomy j i with hji|hji|hji
   .grind[Oper.apart_spec]
   .grind
   grind[Oper.apart_spec]
  have htrg:∀s,g.tr.get s=(frL (lst listed) 0 (l.map gdv) t).get s/\s∈(o.looksAt ops).map bn\/g.tr.get s=none:=by
   intro s
   classical
   have:=ur (frL (fun k=>decide (k<i)) 0 (l.map gdv) t) s ((o.looksAt ops).map bn);rw[<-htr]at this;by_cases hm:s∈(o.looksAt ops).map bn<;>grind
  have Tr':Zi φ nt H.n.toNat g.tr (vU φ nt g.tr):=by
   refine zku (fun j hj=>?_) (fun s v hv=>?_)
   .rcases htrg (bn j) with⟨h1,_⟩|h1
    .rw[h1];exact T.out j hj
    exact h1
   rcases htrg s with⟨h1,_⟩|h1
   .rw[h1]at hv;exact T.wf s v hv
   grind
  have htmps:∀sn∈o.looksAt ops,a.tmps[sn]? = (vU φ nt g.tr)[sn]?:=by
   intro sn hsn;by_cases hlt':sn<nt
   .rw[T.get sn hlt',Tr'.get sn hlt'];have hm:bn sn∈(o.looksAt ops).map bn:=List.mem_map.2 ⟨sn,hsn,rfl⟩
    grind[ur]
   have e1:a.tmps[sn]? = none:=Yz2 (by rw[T.size];grind);have e2:(vU φ nt g.tr)[sn]? = none:=Yz2 (by rw[Tr'.size];grind);rw[e1,e2]
  have hexec:execOp a.eval o=execOp ({ tmps:=vU φ nt g.tr,defers:=[] }:Act).eval o:=by
   refine execOp_congr o hnosel fun x hx=>?_;cases x with
   |tmp sn=>have:=htmps sn (Yzz _ (List.mem_filterMap.2 ⟨.tmp sn,by grind,rfl⟩));simp only[Act.eval,YzC,this]
   |_=>rfl
  have hwant:Region.wanted o (yielded ops a.tmps)=Region.wanted o (yielded ops (vU φ nt g.tr)):=by
   unfold Region.wanted;rcases hg:o.guard with _|gb
   .rfl
   obtain⟨q,b⟩:=gb;simp only;have:yielded ops a.tmps q=yielded ops (vU φ nt g.tr) q:=by
    unfold yielded;rcases hd:(ops[q]?).bind (·.dst) with _|sn
    .rfl
    have:=htmps sn (Yzr _ (by grind))
    grind
   rw[this]
  have hC':Clo ops (lst (listed.setIfInBounds i true)):=by
   intro j hj o' e ho' he hb;rw[vR hlt]at hj ⊢;rw[YzH]
   right
   simp only[YzH,Yzo]at hj;rcases hj with hj|hj
   .subst hj;exact hR o' e ho' he hb
   exact hC j hj o' e ho' he hb
  have next:∀(φ2:Phi) (w2:World) (Hk' H':Za),zk5 H.n.toNat φ φ2->Ext n0 φ φ2->H.n.toNat<=H'.n.toNat->
    (h0::hsG l)[ce (lst (listed.setIfInBounds i true)) 0 (zbC P ops.toList)]? = some Hk'->Spc n0 ops.size l (lst (listed.setIfInBounds i true)) (ce (lst (listed.setIfInBounds i true)) 0 (zbC P ops.toList)) Hk' H'->
    Ze w0 S φ2 H' w2->wfA φ2 H'.n.toNat g.v->(∀m,m<ops.size->lst (listed.setIfInBounds i true) m=false->(φ2 (nm n0 m)).ok=false)->
    wpAnyIn (FR ro) 0 P .any ops Q fuel (listed.setIfInBounds i true) (a.put o.dst (zw φ2 g.v)) w2:=by
   intro φ2 w2 Hk' H' he he0 hle hH' Sp' H2 hv hbad';refine ih _ φ2 _ w2 Hk' H' (by grind) ?_ hC' (hE.trans he0 (LzB _)) hH' Sp' H2 (Yzl hn hle) ?_ ((put_defers _ _ _).trans hdf) hbad'
   .grind[zp8]
   refine Zi.of_get (Zi.put (T.extW he hle) hv o.dst hdin) fun s=>?_
   classical
   rw[zhZ,zay];have hri:(l.map gdv)[i]? = some (o.dst.map bn,g.v):=by grind[gdv]
   by_cases hd:o.dst.map bn=some s
   .rw[Yzc hd];rw[hd]at hri;rw[zlN (l.map gdv) 0 i g.v hri (by rw[Yzi,vR hlt];simp) (fun j d u hij hjd hds=>?_)]
    .rfl
    rw[Yzi,vR hlt];obtain⟨oj,sj,hoj,hsj,hbe⟩:=hdv j d u _ hjd hds;have hne:¬j=i:=by omega
    simp only[hne,decide_false,Yz8];rcases hord i j o oj ho hoj hij with hb|⟨hap,_⟩
    .grind
    rcases hod:o.dst with _|so
    .grind
    grind[zah,Oper.apart_spec]
   rw[Yza hd,zay]
   congr 1
   refine zc3 _ 0 fun j d u hjd hds=>?_;rw[Yzi,vR hlt];have hne:¬j=i:=fun hh=>by grind
   simp[hne]
  have lset:∀m,lst (listed.setIfInBounds i true) m=(decide (m=i)||lst listed m):=vR hlt;have badK:∀(φ2:Phi),(∀m,m<ops.size->m≠i->lst listed m=false->φ2 (nm n0 m)=φ (nm n0 m))->∀m,m<ops.size->lst (listed.setIfInBounds i true) m=false->(φ2 (nm n0 m)).ok=false:=by grind
  unfold wpOpIn;simp only[ho];obtain⟨Hi,hHi,Spi⟩:=hspc i (by omega);rw[<-hhb]at Spi;have partOf:∀(t':Tr Zg) (n':BN),(∀b o',(b.toNat<n0\/n0+ops.size<=b.toNat)->t'.get b=some o'->Hk.t.get b=some o')->
    (∀m,m<ops.size->m∉yH (xz ops.toList) i 0 ops.toList->∀o',t'.get (nm n0 m)=some o'->FG n0 l k Hk m=some o')->(∀m∈yH (xz ops.toList) i 0 ops.toList,t'.get (nm n0 m)=none)->Sbh ⟨n',t'⟩ H:=by
   intro t' n' h1 h2 h3 b o' hb;rcases zhd n0 ops.size b with hb'|⟨m,hm,rfl⟩
   .rw[Sp.old b hb'];grind
   by_cases hmem:m∈yH (xz ops.toList) i 0 ops.toList
   .grind
   have hq:(zb2 ops[m].op&&bef (xz ops.toList) m i)=true:=by grind
   rw[Sp.res m hm,Yzc (before m (j7 hq).2)]
   grind
  have hself:Sbh ⟨g.hb.n,zdW n0 (yH (xz ops.toList) i 0 ops.toList) g.hb.t⟩ H\/cmG l i≠k:=by
   by_cases hki:cmG l i=k
   .left
    rw[hki]at hHi Spi;cases hH.symm.trans hHi;refine partOf _ _ (fun b o' hb hget=>?_) (fun m hmN hmem o' hget=>?_) (fun m hmem=>zgd _ _ m hmem)
    .rw[uW _ _ b fun j hj hh=>by have:=hhidlt i j hj;rw[hh,yM]at hb;omega]at hget;rw[<-Spi.old b hb];exact hget
    rw[uW _ _ _ fun j hj hh=>hmem (by grind[uR]),Spi.res m hmN]at hget
    grind
   omega
  have hnE:cmG l i=k->g.hb.n.toNat=H.n.toNat:=by intro hki;rw[hki]at hHi;cases hH.symm.trans hHi;rw[Spi.n,Sp.n]
  have ceSame:anchor P o.op=false->ce (lst (listed.setIfInBounds i true)) 0 (zbC P ops.toList)=k:=by
   intro ha;rw[<-hk];refine vH _ 0 fun j hj=>?_;rw[Yzi,lset];obtain⟨oj,hoj,haj⟩:=hes j hj;have:j≠i:=fun hh=>by grind
   simp[this]
  have spcSame:anchor P o.op=false->FG n0 l k Hk i=none->Spc n0 ops.size l (lst (listed.setIfInBounds i true)) k Hk H:=by
   intro ha hnone;refine⟨Sp.n,Sp.old,fun m hmN=>?_⟩;rw[Sp.res m hmN,lset];by_cases hmi:m=i
   .grind
   simp only[hmi,decide_false,Yz8]
  rcases zr1 P o.op with hm|⟨hm,ha⟩|⟨hm,ha,hq⟩
  ·
   have ha:=ug (P:=P) hm;obtain⟨k1,k2,h',k3,k4⟩:=X.made ho hj hm;have hob:FG n0 l k Hk i=obG n0 l i:=by
    refine FGu k Hk i hiN hH fun j oj hoj haj hlt=>(hhid j i o ho).2 ?_;cases hb:bef (xz ops.toList) i j
    .simp
    have hlj:=after j hb;exfalso;have hle:ce (lst listed) 0 (zbC P ops.toList)<=ce (fun q=>decide (q<j)) 0 (zbC P ops.toList):=by
     refine w8 _ 0 fun q hq hlq=>?_;rw[Yzi]at hlq ⊢;obtain⟨oq,hoq,haq⟩:=hes q hq;rcases Nat.lt_trichotomy q j with hqj|hqj|hqj
     .grind
     .grind
     rcases hord j q oj oq hoj hoq hqj with hb'|⟨_,hc|hc⟩
     .have:=uk hb' hC (hC q hlq)
      grind
     .grind
     grind
    grind
   have hHnone:H.t.get (nm n0 i)=none:=by rw[Sp.res i hiN,Yza (by grind)]
   have hnmlt:(nm n0 i).toNat<H.n.toNat:=by grind[yM]
   rcases zdS (a:={ tmps:=vU φ nt g.tr,defers:=[] }) k3 Tr' with⟨hw,hc⟩|⟨hw,hv,hh⟩
   .rw[Yzc (by grind)];obtain⟨obj,vf,hsh,hconc,hwf,howf⟩:=zny (nt:=nt) hm hc;have e1:=hsh ⟨nm n0 i,g.hb.t⟩;rw[hc]at e1;simp only[Option.some.injEq,Prod.mk.injEq]at e1;obtain⟨ev,eh⟩:=e1;have hobj:obG n0 l i=some obj:=by
     rw[X.ob ho hj,hm];show g.ha.t.get (nm n0 i)=some obj;rw[<-k4,eh];exact zC _ _ _
    refine zjU C HR (ar:={ tmps:=vU φ nt g.tr,defers:=[] }) Tr' hexec (hsh H) ?_;intro φ1 w2 he H2 hv hle;obtain⟨HR2,he2⟩:=HR.rename H2 he (howf φ _ _ Tr') hnmlt (hbad i hiN hli) hHnone;have hcv:zw φ1 (.s (.one (vf H.n)))=zw (upd φ (nm n0 i) (φ1 H.n)) g.v:=by rw[ev];exact hconc _ _ _ _ (zp _ _ _).symm
    rw[hcv];refine next _ w2 Hk (H.put (nm n0 i) obj) he2 (fun b hb=>?_) (LzB _) (by grind) ?_ HR2 ?_ (badK _ fun m hmN hmi _=>?_)
    .have:b≠nm n0 i:=fun hh=>by grind[yM]
     grind[upd]
    .rw[ceSame ha];refine⟨Sp.n,fun b hb=>?_,fun m hmN=>?_⟩
     .show (H.t.set (nm n0 i) obj).get b=_;rw[zt _ _ _ _ (fun hh=>by grind[yM])];exact Sp.old b hb
     show (H.t.set (nm n0 i) obj).get (nm n0 m)=_;rw[lset];by_cases hmi:m=i
     .subst hmi;rw[zC,Yzc (by simp)]
      grind
     rw[zt _ _ _ _ (fun hh=>hmi (uR hh)),Sp.res m hmN];simp only[hmi,decide_false,Yz8]
    .rw[ev];refine hwf _ _ _ ⟨hnmlt,?_⟩;rw[zp];exact H2.okb H.n obj (by grind[Za.new,zC])
    have:nm n0 m≠nm n0 i:=fun hh=>hmi (uR hh)
    grind[upd]
   rw[Yza (by grind)];have hnone:FG n0 l k Hk i=none:=by rw[hob,X.ob ho hj,hm];show g.ha.t.get (nm n0 i)=none;rw[<-k4,hh];show g.hb.t.get (nm n0 i)=none;rw[Spi.res i hiN,Yza (by simp)]
   have hn':=next φ w Hk H (Ext.refl _ _).w (Ext.refl _ _) (LzB _) (by grind) (by grind) HR (by rw[hv];exact fun _ hv=>by cases hv) (badK φ fun _ _ _ _=>rfl)
   rw[hv]at hn';exact⟨fun f _=>trivial,hn'⟩
  ·
   have hki:cmG l i=k:=by
    rw[hcmE,<-hk];refine (vH _ 0 fun j hj=>?_).symm;obtain⟨oj,hoj,haj⟩:=hes j hj;rw[Yzi];rcases Nat.lt_trichotomy j i with hji|hji|hji
    .grind
    .grind
    grind
   have hsub:=hself.resolve_right (fun hh=>hh hki);have hEn:=hnE hki;obtain⟨h',k1,k2,k3,k4⟩:=X.anchor ho hj hm ha;have hce1:ce (lst (listed.setIfInBounds i true)) 0 (zbC P ops.toList)=k+1:=by rw[<-hk];exact zkz (L:=lst listed) (zbC P ops.toList) 0 i (by grind) (by grind) (by grind) (fun j hj=>by rw[Yzi]at hj;rw[lset];simp[hj])
   have hH1:(h0::hsG l)[k+1]? = some g.ha:=by rw[Yzt,<-hki];exact zlV l i g hj (by grind)
   have HE:=HR.sub hsub hEn;have go:∀(φ2:Phi) (w2:World),Ext H.n.toNat φ φ2->Ze w (zB8 φ ⟨g.hb.n,zdW n0 (yH (xz ops.toList) i 0 ops.toList) g.hb.t⟩) φ2 h' w2->wfA φ2 h'.n.toNat g.v->H.n.toNat<=h'.n.toNat->
     wpAnyIn (FR ro) 0 P .any ops Q fuel (listed.setIfInBounds i true) (a.put o.dst (zw φ2 g.v)) w2:=by
    intro φ2 w2 he H2 hv hle;obtain⟨t',m1,m2⟩:=zFf (n0:=n0) H.t h'.t (yH (xz ops.toList) i 0 ops.toList);have HR2:Ze w0 S φ2 ⟨h'.n,t'⟩ w2:=by
     refine HR.join hsub hEn H2 he hle rfl fun b o' hb=>?_;by_cases hmem:∃m∈yH (xz ops.toList) i 0 ops.toList,b=nm n0 m
     .obtain⟨m,hmem,rfl⟩:=hmem
      grind[zgd]
     left
     rw[<-m2 b fun j hj hh=>hmem ⟨j,hj,hh⟩];exact hb
    refine next φ2 w2 g.ha ⟨h'.n,t'⟩ he.w (he.mono (by omega)) hle (by grind) ?_ HR2 hv (badK φ2 fun m hmN _ _=>he _ (by grind[yM]))
    rw[hce1];refine⟨by rw[k2],fun b hb=>?_,fun m hmN=>?_⟩
    .have hb':∀j∈yH (xz ops.toList) i 0 ops.toList,b≠nm n0 j:=fun j hj hh=>by have:=hhidlt i j hj;rw[hh,yM]at hb;omega
     show t'.get b=_;rw[m2 b hb',k4 b hb']
    show t'.get (nm n0 m)=_;rw[lset];by_cases hmem:m∈yH (xz ops.toList) i 0 ops.toList
    .have hfg:FG n0 l (k+1) g.ha m=FG n0 l k Hk m:=by
      have:=hFG i o g Hk m ho hj hm ha (by grind) hmem
      rwa [hki]at this
     rw[m1 m hmem,Sp.res m hmN];by_cases hmi:m=i
     .grind
     simp only[hmi,decide_false,Yz8]
     grind
    have hq:(zb2 ops[m].op&&bef (xz ops.toList) m i)=true:=by grind
    have hbm:=(j7 hq).2;have hmi:=hbef m i hbm;have hle':cmG l m<=cmG l i:=w8 _ 0 fun q _ hq=>by grind
    have hb':∀j∈yH (xz ops.toList) i 0 ops.toList,nm n0 m≠nm n0 j:=fun j hj hh=>hmem (by grind[uR]);rw[m2 _ hb',Yzc (by grind),Yza (by omega),k4 _ hb']
   have TrE:Zi φ nt (Za.n ⟨g.hb.n,zdW n0 (yH (xz ops.toList) i 0 ops.toList) g.hb.t⟩).toNat g.tr (vU φ nt g.tr):=by grind
   rcases zdS (a:={ tmps:=vU φ nt g.tr,defers:=[] }) k1 Tr' with⟨hw,hc⟩|⟨hw,hv,hh⟩
   .rw[Yzc (by grind)];refine zjU C HE (ar:={ tmps:=vU φ nt g.tr,defers:=[] }) TrE hexec hc ?_
    grind
   rw[Yza (by grind)];have:=go φ w (Ext.refl _ _) (by grind) (by rw[hv];exact fun _ hv=>by cases hv) (by grind);rw[hv]at this;exact⟨fun f _=>trivial,this⟩
  have hex:∃X':Za,Sbh X' H/\∃h',xW call (yX P nt ops o) g.tr X'=some (g.v,h'):=by
   obtain⟨_,h',he⟩:=X.quiet ho hj hm ha;have hlo:ce (fun q=>bef (xz ops.toList) q i) 0 (zbC P ops.toList)<=k:=by rw[<-hk];exact w8 _ 0 fun j _ hb=>by grind
   have hhi:k<=ce (fun q=>!bef (xz ops.toList) i q) 0 (zbC P ops.toList):=by
    rw[<-hk];refine w8 _ 0 fun j _ hb=>?_
    grind
   have hlo0:ce (fun q=>bef (xz ops.toList) q i) 0 (zbC P ops.toList)<=cmG l i:=by rw[hcmE];exact w8 _ 0 fun j _ hb=>by grind
   have hhi0:cmG l i<=ce (fun q=>!bef (xz ops.toList) i q) 0 (zbC P ops.toList):=by
    rw[hcmE];refine w8 _ 0 fun j _ hb=>?_
    grind
   rcases zgi l hch i g hj (by grind) (by grind) with heq|hall
   .grind
   rw[hgd]at hall;obtain⟨h'',he''⟩:=hall k Hk hlo hhi hH;refine⟨_,partOf _ _ (fun b o' hb hget=>?_) (fun m hmN hmem o' hget=>?_) (fun m hmem=>zgd _ _ m hmem),h'',he''⟩
   .rw[uW _ _ b fun j hj hh=>by have:=hhidlt i j hj;rw[hh,yM]at hb;omega]at hget;rcases zf2 (zk1 n0 0 0 l) Hk.t b (n0:=n0) (k:=k) with h1|⟨x,hx,_,h2,_⟩
    .grind
    obtain⟨m,q1,⟨gm,q2,_⟩,_⟩:=zis l 0 0 x X.mkeff hx;have:m<ops.size:=by rw[<-X.len];grind
    rw[h2,yM,q1]at hb;omega
   rw[uW _ _ _ fun j hj hh=>hmem (by grind[uR])]at hget;rcases zf2 (zk1 n0 0 0 l) Hk.t (nm n0 m) (n0:=n0) (k:=k) with h1|⟨x,hx,hkx,h2,h3⟩
   .grind
   obtain⟨m',q1,⟨gm,q2,q3,q4⟩,q5⟩:=zis l 0 0 x X.mkeff hx;rw[Yzi]at q1 q4 q5;have hmm:m=m':=by grind[uR]
   subst hmm;rw[hget]at h3;cases h3;show (if k<=cmG l m then _ else _)=_;rw[Yzc (by omega)]
   grind[obG]
  obtain⟨X',hsub,h',he⟩:=hex;have hnone:=FGn k Hk i o ho hm hH;rcases zdS (a:={ tmps:=vU φ nt g.tr,defers:=[] }) he Tr' with⟨hw,hc⟩|⟨hw,hv,hh⟩
  .rw[Yzc (by grind)];refine zjU C HR (ar:={ tmps:=vU φ nt g.tr,defers:=[] }) Tr' hexec (zuF P o.op hq _ _ _ _ _ _ hc hsub) ?_;intro φ2 w2 he2 H2 hv hle;exact next φ2 w2 Hk H he2.w (he2.mono (by omega)) hle (by grind) (by grind) H2 hv (badK φ2 fun m hmN _ _=>he2 _ (by grind[yM]))
  rw[Yza (by grind)];have:=next φ w Hk H (Ext.refl _ _).w (Ext.refl _ _) (LzB _) (by grind) (by grind) HR (by rw[hv];exact fun _ hv=>by cases hv) (badK φ fun _ _ _ _=>rfl)
  rw[hv]at this;exact⟨fun f _=>trivial,this⟩
end
end Go.CE
end
section
namespace Go.CE
open Go.RowKit
section
variable {P:Program} {w0:World} {S:Nat->Prop} {nt:Nat} {call:zh}
theorem zum(C:xT P call)(id:Nat)(ops:Array Oper):u3 P w0 S nt call (.region id ops true):=by
 intro f fn round ro φ s s2 e a w Q hc R hr hQ;have hc:(bif P.follows .mixedOrders&&zdl P ops (xz ops.toList) then zob (zeB P nt ops) else bif P.follows .mixedOrders&&zaF P ops (xz ops.toList) then zoa (uI P nt ops) else zBP) call f fn round s=some (e,s2):=hc;cases hb:(P.follows .mixedOrders&&zdl P ops (xz ops.toList))
 .rw[hb]at hc;simp only[Yzd]at hc;cases hb2:(P.follows .mixedOrders&&zaF P ops (xz ops.toList))
  .rw[hb2]at hc;cases hc
  rw[hb2]at hc;obtain⟨hm,hok⟩:=j7 hb2;obtain⟨t,d,h⟩:=s;simp only[Yzb,zoa]at hc;have hlen:(uI P nt ops).length=ops.size:=by
   have key:∀(os:List Oper) (i:Nat),(xt P nt ops (xz ops.toList) (zbC P ops.toList) i os).length=os.length:=by
    intro os
    induction os<;>grind[xt]
   grind[uI]
  rw[hlen]at hc;rcases hev:evG call h.n.toNat 0 (uI P nt ops) t ⟨bn (Nat.add h.n.toNat ops.size),h.t⟩ with _|p
  .grind
  obtain⟨l,t2,h2⟩:=p;rw[hev]at hc;simp only at hc;cases hch:uX call h.n.toNat (zk1 h.n.toNat 0 0 l) (⟨bn (Nat.add h.n.toNat ops.size),h.t⟩::hsG l) l
  .grind
  rw[hch]at hc;cases hc;have hkn:(bn (Nat.add h.n.toNat ops.size)).toNat=h.n.toNat+ops.size:=yg _;have X:=zzM (P:=P) hev (fun m hm=>by
   show h.t.get (nm h.n.toNat m)=none;rcases hx:h.t.get (nm h.n.toNat m) with _|o
   .rfl
   have:=R.H.keys _ _ hx;grind[yM])
  refine wpIn_region_any hm ?_;have hz:∀i,lst (Array.replicate ops.size false) i=false:=by
   intro i;unfold lst;rw[YzC,Array.getElem?_replicate]
   grind
  have hzf:lst (Array.replicate ops.size false)=fun _=>false:=funext hz;have hfr:∀(r:List (Option BN×Zb)) (i:Nat) (t:Tr Zb),frL (fun _=>false) i r t=t:=by
   intro r
   induction r<;>grind[frL]
  have he:=zhn φ h.n.toNat ops.size;refine zpI (hh0:=h) (φ0:=φ) C hok X hch rfl hkn (fun a2 w2 hn=>hQ a2 w2 (zdG R hn)) ops.size (Array.replicate ops.size false) (zho φ h.n.toNat ops.size) a _ ⟨bn (Nat.add h.n.toNat ops.size),h.t⟩ ⟨bn (Nat.add h.n.toNat ops.size),h.t⟩
   (by simp) (by unfold unl;simp) ?_ he ?_ ?_ (R.H.drew.keep ops.size) (by grind) ?_ rfl (fun m hm _=>zr2 φ _ _ m hm)
  .intro i hi;grind
  .grind[zeX]
  .rw[hzf,zeX];exact⟨rfl,fun _ _=>rfl,fun m hm=>by rw[Yza (by simp)];exact X.fresh m hm⟩
  rw[hzf,hfr,hkn];exact R.T.ext he (by simp)
 rw[hb]at hc;obtain⟨hm,hok⟩:=j7 hb;obtain⟨t,d,h⟩:=s;simp only[Yzb,zob]at hc;rcases hev:evD call (zeB P nt ops) t h with _|p
 .grind
 obtain⟨l,t2,hs⟩:=p;rw[hev]at hc;simp only at hc;cases hch:uY call hs l
 .grind
 rw[hch]at hc;cases hc;refine wpIn_region_any hm ?_;have hz:∀i,lst (Array.replicate ops.size false) i=false:=by
  intro i;unfold lst;rw[YzC,Array.getElem?_replicate]
  grind
 have hzf:lst (Array.replicate ops.size false)=fun _=>false:=funext hz;have hce:∀(es:List Bool) (i:Nat),ce (fun _=>false) i es=0:=by
  intro es
  induction es<;>grind[ce]
 have hfr:∀(r:List (Option BN×Zb)) (i:Nat) (t:Tr Zb),frL (fun _=>false) i r t=t:=by
  intro r
  induction r<;>grind[frL]
 obtain⟨_,g2,_,_,_⟩:=ziW call _ _ _ _ _ _ hev;refine zsO C hok hev hch (fun a2 w2 hn=>hQ a2 w2 (zdG R hn)) ops.size (Array.replicate ops.size false) φ a _ h (by simp) (by unfold unl;simp) ?_ (Ext.refl _ _) ?_ R.H.drew (LzB _) ?_ rfl
 .intro i hi;grind
 .grind
 rw[hzf,hfr];exact R.T
end
end Go.CE
end
section
namespace Go.CE
open Go.RowKit
section
variable {P:Program} {w0:World} {S:Nat->Prop} {nt:Nat} {call:zh}
theorem zmq(C:xT P call)(c:Code):u3 P w0 S nt call c:=by
 induction c with
 |skip=>intro f fn round ro φ s s2 e a w Q hc R hr hQ;cases hc;exact wpIn_skip (hQ _ _ R.after)
 |region id ops draw=>cases draw<;>grind[zrd,zum]
 |seq x y hx hy=>grind[zAu]
 |cond c x y hx hy=>grind[zxr]
 |block id x hx=>exact zun hx
 |loop x hx=>exact zxq hx
 |rangeFunc g ps assign body _ _=>exact zul C
 |exit id=>intro f fn round ro φ s s2 e a w Q hc R hr hQ;cases hc;exact wpIn_exit (hQ _ _ R.after)
 |ret=>intro f fn round ro φ s s2 e a w Q hc R hr hQ;cases hc;exact wpIn_ret (hQ _ _ R.after)
 |_=>intro f fn round ro φ s s2 e a w Q hc R hr hQ;cases hc
theorem zvK:∀(d:List BN) (h h2:Za),shut d h=some h2->h2.n=h.n
 | [],h,h2,e=>by cases e;rfl
 |b::d,h,h2,e=>by
  unfold shut at e;split at e
  .exact(zvK d _ _ e).trans rfl
  cases e
theorem zrY{φ:Phi}{fn:Func}{tmps:Array Value}{R:Ending->World->Prop}{h2:Za}(hR:∀w2,Ze w0 S φ h2 w2->LeavesIn (FR none) 0 P fn tmps R [] .returning w2):
  ∀(d:List BN) (h:Za) (w:World),shut d h=some h2->Ze w0 S φ h w->LeavesInM (FR none) 0 P fn tmps R (marks φ d) .returning w
 | [],h,w,e,H=>by cases e;exact hR w H
 |b::d,h,w,e,H=>by
  unfold shut at e;split at e
  .rename_i hb;have g1:w.heap[(φ b).blk]? = some (.deferred (some [])):=H.obj b _ hb;refine⟨by simp,.inl ⟨(φ b).blk,_,rfl,run_takeDeferred g1,?_⟩⟩;refine zrY hR d _ _ e ?_;exact H.put hb trivial (fun k hk=>World.putObj_heap_other hk) (by simp) rfl rfl rfl trivial
  cases e
def zxa(tmps:Array Value):ResultVar->Sem Value
 | .tmp t=>pure (tmps.getD t undef)
 | .cell a t=>do loadVar t (<-asAddr (tmps.getD a undef))
theorem zkh{φ:Phi}{n:Nat}{t:Tr Zb}{tmps:Array Value}(T:Zi φ nt n t tmps){i:Nat}{v:Zb}(hi:t.get (bn i)=some v):tmps.getD i undef=zw φ v/\wfA φ n v:=by
 have hlt:i<nt:=by apply Decidable.byContradiction;intro hn;rw[T.out i (by omega)]at hi;cases hi
 have:=T.get i hlt;rw[hi]at this;refine⟨?_,T.wf _ _ hi⟩;simp_all
theorem zhw{t:Tr Zb}{h:Za}{r:BN×Option (Option Nat)}{rs:List (BN×Option (Option Nat))}{vs:List SVal}(e:zbo t h (r::rs)=some vs):
  ∃v vs',vs=v::vs'/\zhx t h r=some v/\zbo t h rs=some vs':=by
 unfold zbo at e;split at e
 .rename_i v hv;unfold wv at e
  grind
 cases e
theorem zar{φ:Phi}{h:Za}{w:World}{t:Tr Zb}{tmps:Array Value}(H:Ze w0 S φ h w)(T:Zi φ nt h.n.toNat t tmps):∀(l:List ResultVar) (rs:List (BN×Option (Option Nat))) (vs:List SVal),
  zje P l=some rs->zbo t h rs=some vs->(l.mapM (zxa tmps)).run P w=.ok (vs.map (zQ φ)) w/\∀v∈vs,wfS φ h.n.toNat v
 | [],rs,vs,hc,he=>by cases hc;cases he<;>simp_all
 | .tmp i::l,rs,vs,hc,he=>by
  unfold zje at hc;split at hc
  .rename_i rs' hrs;cases hc;obtain⟨v1,vs',rfl,hv1,hvs⟩:=zhw he;simp only[zhx]at hv1;split at hv1
   .rename_i u hu;cases hv1;obtain⟨h1,h2⟩:=zar H T l rs' vs' hrs hvs;obtain⟨g1,g2⟩:=zkh T hu;refine⟨?_,fun v hv=>?_⟩
    .rw[List.mapM_cons];simp only[zxa,Sem.run_bind,Sem.run_pure,Result.andThen_ok,h1,g1];rfl
    cases hv with
    |head=>exact g2
    |tail _ hm=>exact h2 v hm
   trivial
  cases hc
 | .cell i ty::l,rs,vs,hc,he=>by
  unfold zje at hc;split at hc
  .rename_i n rs' hn hrs;cases hc;obtain⟨v1,vs',rfl,hv1,hvs⟩:=zhw he;simp only[zhx]at hv1;split at hv1
   .rename_i b off hu;obtain⟨h1,h2⟩:=zar H T l rs' vs' hrs hvs;obtain⟨g1,g2⟩:=zkh T hu;have key:(loadVar ty (adr φ b off)).run P w=.ok (zQ φ v1) w/\wfS φ h.n.toNat v1:=by
     unfold zas at hv1;split at hv1
     .rename_i cs st hb;have hp:part n cs off h=some (.s v1,h):=by
       grind[part,zbY,zgF]
      obtain⟨k1,k2,_⟩:=zfN (P:=P) H hn hb hp;trivial
     trivial
    grind[zxa,Sem.run_bind,zw,zQ,zl,asAddr,Sem.run_pure,Result.andThen_ok]
   trivial
  cases hc
theorem zoW(fn:Func)(tmps:Array Value):results fn tmps=(do
  let vs <-fn.results.toList.mapM (zxa tmps)
  pure (match vs with | [v]=>v|vs=>.tuple vs.toArray)):=by
 have:fn.results.mapM (zxa tmps)=List.toArray <$> fn.results.toList.mapM (zxa tmps):=by rw[<-List.mapM_toArray]
 have e:results fn tmps=(do
   let vs <-fn.results.mapM (zxa tmps)
   pure (if h:vs.size=1 then vs[0] else .tuple vs)):=by
  rfl
 rw[e,this,map_eq_pure_bind,bind_assoc]
 congr 1
 funext vs
 rw[pure_bind]
 congr 1
 match vs with
 | []=>rfl
 | [v]=>rfl
 |v::u::vs=>rfl
theorem zoV{φ:Phi}{h:Za}{w:World}{t:Tr Zb}{tmps:Array Value}(H:Ze w0 S φ h w)(T:Zi φ nt h.n.toNat t tmps){fn:Func}{rs:List (BN×Option (Option Nat))}(hc:zje P fn.results.toList=some rs)
  {v:Zb} {h2:Za} (he:zb4 h (zbo t h rs)=some (v,h2)):(results fn tmps).run P w=.ok (zw φ v) w/\wfA φ h.n.toNat v/\h2=h:=by
 rcases hv:zbo t h rs with _|vs
 .rw[hv]at he;cases he
 rw[hv]at he;obtain⟨h1,hw⟩:=zar H T _ rs vs hc hv;rw[zoW,Sem.run_bind,h1]
 match vs,he,hw with
 | [],he,hw=>cases he;trivial
 | [u],he,hw=>cases he;exact⟨rfl,hw u (by simp),rfl⟩
 |u::u'::vs,he,hw=>cases he;trivial
theorem zdU:∀(args:List Zb) (i:Nat) (t:Tr Zb) (j:Nat),(w7 (bn i) t args).get (bn j)=if j<i then t.get (bn j) else(args[j-i]?).or (t.get (bn j))
 | [],i,t,j=>by simp[w7]
 |v::vs,i,t,j=>by
  unfold w7;rw[zjh,zdU vs (i+1) _ j];by_cases h1:j<i
  .rw[Yzc h1,Yzc (by omega),zt _ _ _ _ (fun hh=>by grind[zah])]
  rw[Yza h1];by_cases h2:j=i
  .simp_all[zC]
  rw[Yza (by omega),zt _ _ _ _ (fun hh=>by grind[zah])]
  grind
theorem zvj{φ:Phi}{n nt:Nat}{args:List Zb}(hl:args.length<=nt)(hw:∀x∈args,wfA φ n x):
  Zi φ nt n (w7 .z .nil args) ((args.map (zw φ)).toArray++Array.replicate (nt-(args.map (zw φ)).toArray.size) undef):=by
 have key:∀j,(w7 .z .nil args).get (bn j)=args[j]?:=by intro j;have:=zdU args 0 .nil j;simp only[Nat.not_lt_zero,if_false,Nat.sub_zero]at this;have e0:bn 0=.z:=rfl;simp_all
 refine⟨by simp;omega,fun i hi=>?_,fun i hi=>?_,fun i v hv=>?_⟩
 .rw[key];by_cases hlt:i<args.length
  .grind
  rw[Array.getElem?_append_right (by simp;omega)];have:args[i]? = none:=by simp;omega
  rw[this];simp only[List.size_toArray,Yzm,Option.getD_none];rw[Array.getElem?_replicate,Yzc (by omega)];rfl
 .grind
 rw[<-vE i,key]at hv
 grind
theorem zmx{g:Nat}{fn:Func}{c:Code}(hf:P.funcs[g]? = some fn)(hb:fn.body=some c)(hn:(fn.name == "runtime.NumGoroutine")=false)(as:Array Value)(w:World):(callFunc g as).run P w=.ok (.enter g as) w:=by simp_all[callFunc]
theorem zs6{fn:Func}{r:Zn}(h:zmy P fn=some r):∃c rs,fn.body=some c/\zje P fn.results.toList=some rs/\(fn.name == "runtime.NumGoroutine")=false/\r=⟨fn.ntmps,rs,zT P fn.ntmps c⟩:=by grind[zmy]
def zy8(P:Program)(fs:Nat->Option Zn):Prop:=∀g r,fs g=some r->∃fn,P.funcs[g]? = some fn/\zmy P fn=some r
theorem zBq(C:xT P call){fs:Nat->Option Zn}(hfs:zy8 P fs){f g:Nat}{φ:Phi}{h h2:Za}{w:World}{args:List Zb}{v:Zb}(H:Ze w0 S φ h w)(hw:∀x∈args,wfA φ h.n.toNat x)
  (e:zsA fs call f g args h=some (v,h2)):(∀as w,(callFunc g as).run P w=.ok (.enter g as) w)/\CallsIn (FR none) 0 P g (args.map (zw φ)).toArray w (Ret w0 S φ h v h2):=by
 unfold zsA at e;split at e
 .rename_i ntmps rs body hfg;obtain⟨fn,hf,hcf⟩:=hfs g _ hfg;obtain⟨c,rs',hb,hrs,hname,hr⟩:=zs6 hcf;cases hr;refine⟨zmx hf hb hname,?_⟩;cases hl:zuU args fn.ntmps
  .grind
  rw[hl]at e;simp only[Yzb]at e;rcases hbody:zT P fn.ntmps c call f g none ⟨w7 .z .nil args,[],h⟩ with _|p
  .rw[hbody]at e;cases e
  obtain⟨ex,t1,d1,h1⟩:=p;rw[hbody]at e;refine callsIn_of_wp_marks hf hb trivial (zmq C c f g none none φ _ _ ex _ w _ hbody ⟨H,zvj (zrX _ _ hl) hw,rfl,fun b hb=>by cases hb⟩ rfl fun a2 w2 hA=>?_) rfl;obtain⟨φ2,he2,⟨H2,T2,D2,dn2⟩,hle⟩:=hA;simp only at H2 T2 D2 dn2 he2 hle;have key:leave rs (some (.normal,⟨t1,d1,h1⟩))=some (v,h2)->LeavesInM (FR none) 0 P fn a2.tmps (Ret w0 S φ h v h2) a2.defers .returning w2:=by
   intro e;simp only[leave]at e;split at e
   .rename_i h3 hs;rw[D2];refine zrY (fun w3 H3=>?_) d1 h1 w2 hs H2;have hn3:=zvK _ _ _ hs;have T3:Zi φ2 fn.ntmps h3.n.toNat t1 a2.tmps:=by grind
    obtain⟨k1,k2,rfl⟩:=zoV H3 T3 hrs e;exact⟨_,k1,φ2,rfl,he2,H3,k2,by grind⟩
   cases e
  cases ex with
  |normal=>exact key e
  |exit id=>cases e
  |ret=>exact key e
 cases e
theorem zmV{φ:Phi}{n:Nat}:∀(ps:List Nat) (args:List Zb) (t t2:Tr Zb) (arr:Array Value),zlm nt t ps args=some t2->Zi φ nt n t arr->(∀x∈args,wfA φ n x)->
  Zi φ nt n t2 ((ps.zip (args.map (zw φ))).foldl (fun t (p:Nat×Value)=>t.setIfInBounds p.1 p.2) arr)/\args.length=ps.length
 | [],[],t,t2,arr,e,T,hw=>by cases e<;>simp_all
 |p::ps,v::vs,t,t2,arr,e,T,hw=>by
  unfold zlm at e;cases hp:Nat.ble (Nat.succ p) nt
  .grind
  rw[hp]at e;simp only[Yzb]at e;have T2:=Zi.put (a:={ tmps:=arr,defers:=[] }) T (hw v (by simp)) (some p) hp;obtain⟨k1,k2⟩:=zmV ps vs _ t2 _ e T2 fun x hx=>hw x (by simp[hx]);exact⟨k1,by simp[k2]⟩
 | [],_::_,t,t2,arr,e,T,hw=>by cases e
 |_::_,[],t,t2,arr,e,T,hw=>by cases e
theorem zt5(C:xT P call){f:Nat}{l:BN}{φ:Phi}{h h2:Za}{w:World}{args:List Zb}{v:Zb}(H:Ze w0 S φ h w)(hw:∀x∈args,wfA φ h.n.toNat x)
  (e:zf7 (zT P) call f l args h=some (v,h2)):∃f tmps assign body,(Instr.yield (φ l).blk (args.map (zw φ)).toArray).run P w=.ok (.round (φ l).blk f tmps assign body) w/\
   RoundIn (FR none) 0 P (φ l).blk f tmps assign body w (Ret w0 S φ h v h2):=by
 unfold zf7 at e;split at e
 .rename_i pend lf ln lt lps la lb ld hl;split at e
  .rename_i t ht;obtain⟨arr,f8,g1,g2,g3⟩:=H.obj l _ hl;have hln:=H.okk _ _ hl;obtain⟨T,hlen⟩:=zmV _ _ _ _ arr ht g2 hw;refine⟨f8,_,la,lb,run_yield g1 (by simp[hlen]),?_⟩;have harr:((lps.zip (args.map (zw φ)).toArray).foldl (fun tmps (x:Nat×Value)=>tmps.setIfInBounds x.1 x.2) arr)=((lps.toList.zip (args.map (zw φ))).foldl (fun t (p:Nat×Value)=>t.setIfInBounds p.1 p.2) arr):=by
    grind[Array.toList_zip]
   split at e
   .rename_i t1 d1 h1 has;split at e
    .rename_i h3 hbe;refine roundIn_of_wpIn trivial ?_;refine zmq C la f lf (some l) (some (φ l).blk) φ ⟨t,[],h⟩ ⟨t1,d1,h1⟩ .normal _ w _ has ⟨H,?_,rfl,fun b hb=>by cases hb⟩ ⟨rfl,hln⟩ fun a1 w1 hA=>?_
     .grind
     obtain⟨φ1,he1,⟨H1,T1,D1,dn1⟩,hle1⟩:=hA;simp only at H1 T1 D1 dn1 he1 hle1;unfold zgr at hbe;split at hbe
     .rename_i p9 lf9 ln9 lt9 lps9 la9 lb9 ld9 hl9;cases hbe;obtain⟨arr9,f9,k1,k2,k3⟩:=H1.obj l _ hl9;have el:φ1 l=φ l:=he1 l hln.1;have hlt:(φ1 l).blk<w1.heap.size:=(Lz7.1 k1).1;have H3:Ze w0 S φ1 (h1.put l (.loop .busy p9 lf9 ln9 lt9 lps9 la9 lb9 ld9)) (w1.putObj (φ1 l).blk (.loop { state:=.busy,pending:=p9.map zeq,fn:=f9,tmps:=arr9,params:=lps9,assign:=la9,body:=lb9,defers:=(φ1 ld9).blk })):=
       H1.put hl9 trivial (fun k hk=>World.putObj_heap_other hk) (by simp) rfl rfl rfl ⟨arr9,f9,World.putObj_heap_same hlt,k2,k3⟩
      have hbr:=run_beginRound (P:=P) k1 rfl;rw[el]at hbr;refine⟨_,hbr,?_⟩;rw[el]at H3;rcases hbd:zT P ln lb call f lf (some l) ⟨t1,d1,h1.put l (.loop .busy p9 lf9 ln9 lt9 lps9 la9 lb9 ld9)⟩ with _|p
      .rw[hbd]at e;cases e
      obtain⟨ex,t4,d4,h4⟩:=p;rw[hbd]at e;refine zmq C lb f lf (some l) (some (φ l).blk) φ1 _ _ ex a1 _ _ hbd ⟨H3,T1,D1,dn1⟩ ⟨by rw[el],okB.ext he1 hle1 hln⟩ fun a5 w5 hA5=>?_;obtain⟨φ5,he5,⟨H5,T5,D5,dn5⟩,hle5⟩:=hA5;simp only[zuc]at H5 T5 D5 dn5 he5 hle5;cases d4 with
      |cons b d=>cases e
      |nil=>
       simp only[zwa,endR]at e;split at e
       .rename_i s6 p6 lf6 ln6 lt6 lps6 la6 lb6 ld6 hl6;obtain⟨arr6,f6,m1,m2,m3⟩:=H5.obj l _ hl6;have el5:φ5 l=φ l:=(he5 l (okB.ext he1 hle1 hln).1).trans el;rw[el5]at m1;have hlt5:(φ l).blk<w5.heap.size:=(Lz7.1 m1).1;have hE:Ext h.n.toNat φ φ5:=he1.trans he5 hle1;have fin:∀(j:Option Zf) (st:LoopState),st=(if (j.map zeq).isNone then .ready else .done)->Ze w0 S φ5 (h4.put l (.loop st j lf6 ln6 lt6 lps6 la6 lb6 ld6)) (w5.putObj (φ l).blk (.loop { state:=if (j.map zeq).isNone then .ready else .done,pending:=j.map zeq,fn:=f6,tmps:=arr6,params:=lps6,assign:=la6,body:=lb6,defers:=(φ5 ld6).blk })):=by
         intro j st hst;subst hst;refine H5.put hl6 trivial (fun k hk=>?_) (by simp) rfl rfl rfl ⟨arr6,f6,?_,m2,m3⟩
         .grind[World.putObj_heap_other]
         grind[World.putObj_heap_same]
        cases ex with
        |normal=>cases e;exact⟨_,_,run_endRound none m1,φ5,rfl,hE,fin none .ready rfl,trivial,Yzl hle1 hle5⟩
        |exit id=>cases e;exact⟨_,_,run_endRound (some (.exit id)) m1,φ5,rfl,hE,fin (some (.exit id)) .done rfl,trivial,Yzl hle1 hle5⟩
        |ret=>cases e;exact⟨_,_,run_endRound (some .ret) m1,φ5,rfl,hE,fin (some .ret) .done rfl,trivial,Yzl hle1 hle5⟩
       cases e
     trivial
    cases e
   cases e
  cases e
 cases e
theorem zmB(C:xT P call){fs:Nat->Option Zn}(hfs:zy8 P fs)(f:Nat):xT P (zew (zT P) fs call f):=
 fun _ _ _ _ _ _ _ _ H hw=>⟨fun _ e=>zBq C hfs H hw e,fun _ e=>zt5 C H hw e⟩
theorem zlE:xT P (fun _ _ _=>none):=
 fun _ _ _ _ _ _ _ _ _ _=>⟨fun _ e=>(by cases e),fun _ e=>(by cases e)⟩
theorem zmw{fs:Nat->Option Zn}(hfs:zy8 P fs):∀n,xT P (zn4 (zT P) fs n)
 |0=>zlE
 |n+1=>zmB (zmw hfs n) hfs n
theorem kI{α:Type}:∀(l:List α) (i:Nat) (t:Tr α) (j:Nat),(Tr.ofList (bn i) l t).get (bn j)=if j<i then t.get (bn j) else(l[j-i]?).or (t.get (bn j))
 | [],i,t,j=>by simp[Tr.ofList]
 |v::vs,i,t,j=>by
  unfold Tr.ofList;rw[zjh,kI vs (i+1) _ j];by_cases h1:j<i
  .rw[Yzc h1,Yzc (by omega),zt _ _ _ _ (fun hh=>by grind[zah])]
  rw[Yza h1];by_cases h2:j=i
  .simp_all[zC]
  rw[Yza (by omega),zt _ _ _ _ (fun hh=>by grind[zah])]
  grind
theorem zqW(P:Program):zy8 P (cFs (yI P)):=by
 intro g r h;unfold cFs yI at h;have e0:BN.z=bn 0:=rfl;rw[e0,kI]at h;have:(Tr.nil:Tr (Option Zn)).get (bn g)=none:=by simp
 grind
end
end Go.CE
end
section
namespace Go.CE
open Go.RowKit
noncomputable section
structure Mt where
 ρ:Tr BN
 inv:Tr BN
 work:List (BN×BN)
def mB(b b':BN)(m:Mt):Option Mt:=
 match m with
 |⟨ρ,inv,work⟩=>
  match ρ.get b with
  |some b''=>bif zpH b'' b' then some ⟨ρ,inv,work⟩ else none
  |none=>
   match inv.get b' with
   |some _=>none
   |none=>some ⟨ρ.set b b',inv.set b' b,(b,b')::work⟩
def vq:Zc->Bool
 | .bool _ | .int _ _ | .str _ | .nilp | .nils | .nilm | .nilf | .nili=>true
 |_=>false
def mC(m:Mt)(c c':Zc):Option Mt:=
 match c with
 | .ptr b o=>
  match c' with
  | .ptr b' o'=>bif Nat.beq o o' then mB b b' m else none
  |_=>none
 | .slc b o l k e=>
  match c' with
  | .slc b' o' l' k' e'=>bif Nat.beq o o'&&Nat.beq l l'&&Nat.beq k k'&&eqB e e' then mB b b' m else none
  |_=>none
 |c=>bif vq c&&eqV c c' then some m else none
def mCs:List Zc->List Zc->Mt->Option Mt
 | [],[],m=>some m
 |c::cs,c'::cs',m=>
  match mC m c c' with
  |some m'=>mCs cs cs' m'
  |none=>none
 |_,_,_=>none
def mS(m:Mt):SVal->SVal->Option Mt
 | .one c,.one c'=>mC m c c'
 | .agg cs,.agg cs'=>mCs cs cs' m
 |_,_=>none
def mA:List Zb->List Zb->Mt->Option Mt
 | [],[],m=>some m
 | .s v::vs,.s v'::vs',m=>
  match mS m v v' with
  |some m'=>mA vs vs' m'
  |none=>none
 |_,_,_=>none
def zuL(hc h:Za):Nat->Mt->Option (Tr BN)
 |0,_=>none
 |f+1,⟨ρ,inv,work⟩=>
  match work with
  | []=>some ρ
  |(b,b')::ws=>
   match hc.t.get b,h.t.get b' with
   |some (.cells cs st),some (.cells cs' st')=>
    bif Nat.beq st st' then
     match mCs cs cs' ⟨ρ,inv,ws⟩ with
     |some m'=>zuL hc h f m'
     |none=>none
    else none
   |_,_=>none
structure Sum where
 g:Nat
 args:List Zb
 objs:List Zg
 res:Zb
def Sum.heap(s:Sum):Za:=⟨bn s.objs.length,Tr.ofList .z s.objs .nil⟩
def zB3(ρ:Tr BN):BN->List Zg->Bool
 |_,[]=>true
 |i,_::l=>
  match ρ.get i with
  |some _=>zB3 ρ i.succ l
  |none=>false
def Sum.fits(s:Sum)(args:List Zb)(h:Za):Bool:=
 match mA s.args args ⟨.nil,.nil,[]⟩ with
 |some m=>
  match zuL s.heap h (Nat.succ s.objs.length) m with
  |some ρ=>zB3 ρ .z s.objs
  |none=>false
 |none=>false
def zne:SVal->Bool
 | .one c=>vq c
 | .agg cs=>cs.all vq
def vI:Zb->Bool
 | .s v=>zne v
 | .tup vs=>vs.all zne
def ztW(h2:Za):BN->List Zg->Bool
 |_,[]=>true
 |i,.cells cs st::l=>
  match h2.t.get i with
  |some (.cells cs' st')=>zzm cs cs'&&Nat.beq st st'&&ztW h2 i.succ l
  |_=>false
 |_,_::_=>false
def Sum.chk(call:zh)(s:Sum):Bool:=
 match call (.inl s.g) s.args s.heap with
 |some (v,h2)=>eqA s.res v&&vI s.res&&ztW h2 .z s.objs
 |none=>false
def xG(g:Nat)(args:List Zb)(h:Za):List Sum->Option Zb
 | []=>none
 |s::l=>bif Nat.beq g s.g&&s.fits args h then some s.res else xG g args h l
def ze2(sums:List Sum)(call:zh):zh
 | .inl g,args,h=>
  match xG g args h sums with
  |some v=>some (v,h)
  |none=>call (.inl g) args h
 | .inr l,args,h=>call (.inr l) args h
def zyD(cc:Nat->Code->xU)(fs:Nat->Option Zn)(sums:List Sum)(n:Nat):zh:=
 Nat.rec (motive:=fun _=>zh) (fun _ _ _=>none) (fun f ih=>ze2 sums (zew cc fs ih f)) n
def isTrue:Res->Bool
 |some (.s (.one (.bool b)),_)=>b
 |_=>false
end
theorem zpu{r:Res}(h:isTrue r=true):∃h2,r=some (.s (.one (.bool true)),h2):=by
 unfold isTrue at h
 grind
def RC(ρ:Tr BN):Zc->Zc->Prop
 | .ptr b o,c'=>∃b',c'=.ptr b' o/\ρ.get b=some b'
 | .slc b o l k e,c'=>∃b',c'=.slc b' o l k e/\ρ.get b=some b'
 |c,c'=>vq c=true/\c'=c
def Sub(ρ ρ':Tr BN):Prop:=∀b b',ρ.get b=some b'->ρ'.get b=some b'
theorem Sub.refl(ρ:Tr BN):Sub ρ ρ:=fun _ _ h=>h
theorem Sub.trans{a b c:Tr BN}(h:Sub a b)(k:Sub b c):Sub a c:=fun _ _ hh=>k _ _ (h _ _ hh)
theorem RC.mono{ρ ρ':Tr BN}(hs:Sub ρ ρ'){c c':Zc}(h:RC ρ c c'):RC ρ' c c':=by
 cases c with
 |ptr b o=>obtain⟨b',h1,h2⟩:=h;exact⟨b',h1,hs _ _ h2⟩
 |slc b o l k e=>obtain⟨b',h1,h2⟩:=h;exact⟨b',h1,hs _ _ h2⟩
 |_=>exact h
def RCs(ρ:Tr BN)(cs cs':List Zc):Prop:=cs'.length=cs.length/\∀(i:Nat) (c:Zc),cs[i]? = some c->∃c',cs'[i]? = some c'/\RC ρ c c'
theorem RCs.mono{ρ ρ':Tr BN}(hs:Sub ρ ρ'){cs cs':List Zc}(h:RCs ρ cs cs'):RCs ρ' cs cs':=
 ⟨h.1,fun i c hc=>by obtain⟨c',h1,h2⟩:=h.2 i c hc;exact⟨c',h1,h2.mono hs⟩⟩
def RS(ρ:Tr BN):SVal->SVal->Prop
 | .one c,v=>∃c',v=.one c'/\RC ρ c c'
 | .agg cs,v=>∃cs',v=.agg cs'/\RCs ρ cs cs'
theorem RS.mono{ρ ρ':Tr BN}(hs:Sub ρ ρ'){v v':SVal}(h:RS ρ v v'):RS ρ' v v':=by
 cases v with
 |one c=>obtain⟨c',h1,h2⟩:=h;exact⟨c',h1,h2.mono hs⟩
 |agg cs=>obtain⟨cs',h1,h2⟩:=h;exact⟨cs',h1,h2.mono hs⟩
structure MI (D:BN->BN->Prop) (hc h:Za) (m:Mt):Prop where
 inv:∀b b',m.ρ.get b=some b'->m.inv.get b'=some b
 pairs:∀b b',m.ρ.get b=some b'->(b,b')∈m.work\/D b b'\/∃cs cs' st,hc.t.get b=some (.cells cs st)/\h.t.get b'=some (.cells cs' st)/\RCs m.ρ cs cs'
section
variable {D:BN->BN->Prop} {hc h:Za}
theorem zAP{m m':Mt}{b b':BN}(I:MI D hc h m)(e:mB b b' m=some m'):MI D hc h m'/\Sub m.ρ m'.ρ/\m'.ρ.get b=some b':=by
 obtain⟨ρ,inv,work⟩:=m;unfold mB at e;simp only at e;split at e
 .grind[zbq,Sub.refl]
 rename_i hb;split at e
 .cases e
 rename_i hi;cases e;have hsub:Sub ρ (ρ.set b b'):=by
  intro x y hx
  grind[zt]
 refine⟨⟨fun x y hx=>?_,fun x y hx=>?_⟩,hsub,zC _ _ _⟩
 .show (inv.set b' b).get y=some x;by_cases hxb:x=b
  .grind[zC]
  have hx:(ρ.set b b').get x=some y:=hx;rw[zt _ _ _ _ hxb]at hx;have h1:=I.inv x y hx
  grind[zt]
 by_cases hxb:x=b
 .grind[zC]
 have hx:(ρ.set b b').get x=some y:=hx;rw[zt _ _ _ _ hxb]at hx;rcases I.pairs x y hx with h1|h1|⟨cs,cs',st,h1,h2,h3⟩
 .grind
 .grind
 exact .inr (.inr ⟨cs,cs',st,h1,h2,h3.mono hsub⟩)
theorem zAO{m m':Mt}{c c':Zc}(I:MI D hc h m)(e:mC m c c'=some m'):MI D hc h m'/\Sub m.ρ m'.ρ/\RC m'.ρ c c':=by
 have rest:(bif vq c&&eqV c c' then some m else none)=some m'->(vq c=true->RC m'.ρ c c'\/True)->MI D hc h m'/\Sub m.ρ m'.ρ/\vq c=true/\c'=c:=by
  intro e _;cases hq:(vq c&&eqV c c')
  .grind
  rw[hq]at e;cases e;obtain⟨h1,h2⟩:=j7 hq
  grind[Sub.refl,zsB]
 cases c with
 |ptr b o=>
  cases c' with
  |ptr b' o'=>
   simp only[mC]at e;cases hq:Nat.beq o o'
   .grind
   rw[hq]at e;obtain⟨h1,h2,h3⟩:=zAP I e;exact⟨h1,h2,b',by rw[beq_true hq],h3⟩
  |_=>cases e
 |slc b o l k x=>
  cases c' with
  |slc b' o' l' k' x'=>
   simp only[mC]at e;cases hq:(Nat.beq o o'&&Nat.beq l l'&&Nat.beq k k'&&eqB x x')
   .grind
   rw[hq]at e;obtain⟨h1,h2,h3⟩:=zAP I e;obtain⟨q1,q2⟩:=j7 hq;obtain⟨q1,q3⟩:=j7 q1;obtain⟨q1,q4⟩:=j7 q1;exact⟨h1,h2,b',by grind[beq_true,zsK],h3⟩
  |_=>cases e
 |_=>exact rest e (fun _=>.inr trivial)
theorem zrR:∀(cs cs':List Zc) (m m':Mt),MI D hc h m->mCs cs cs' m=some m'->MI D hc h m'/\Sub m.ρ m'.ρ/\RCs m'.ρ cs cs'
 | [],[],m,m',I,e=>by cases e;exact⟨I,Sub.refl _,rfl,fun i c hc=>by simp at hc⟩
 |c::cs,c'::cs',m,m',I,e=>by
  unfold mCs at e;split at e
  .rename_i m1 h1;obtain⟨I1,s1,r1⟩:=zAO I h1;obtain⟨I2,s2,r2⟩:=zrR cs cs' m1 m' I1 e;refine⟨I2,s1.trans s2,by simp[r2.1],fun i x hx=>?_⟩;cases i with
   |zero=>simp only[Yzj,Option.some.injEq]at hx;subst hx;exact⟨c',rfl,r1.mono s2⟩
   |succ i=>simp only[Yzt]at hx ⊢;exact r2.2 i x hx
  cases e
 | [],_::_,m,m',I,e=>by cases e
 |_::_,[],m,m',I,e=>by cases e
theorem zDA{m m':Mt}{v v':SVal}(I:MI D hc h m)(e:mS m v v'=some m'):MI D hc h m'/\Sub m.ρ m'.ρ/\RS m'.ρ v v':=by
 cases v with
 |one c=>
  cases v' with
  |one c'=>obtain⟨h1,h2,h3⟩:=zAO I e;exact⟨h1,h2,c',rfl,h3⟩
  |agg cs'=>cases e
 |agg cs=>
  cases v' with
  |one c'=>cases e
  |agg cs'=>obtain⟨h1,h2,h3⟩:=zrR _ _ _ _ I e;exact⟨h1,h2,cs',rfl,h3⟩
def RAs(ρ:Tr BN):List Zb->List Zb->Prop
 | [],[]=>True
 | .s v::vs,.s v'::vs'=>RS ρ v v'/\RAs ρ vs vs'
 |_,_=>False
theorem RAs.mono{ρ ρ':Tr BN}(hs:Sub ρ ρ'):∀{vs vs':List Zb},RAs ρ vs vs'->RAs ρ' vs vs'
 | [],[],_=>trivial
 | .s _::_,.s _::_,h=>⟨h.1.mono hs,RAs.mono hs h.2⟩
 | [],_::_,h=>h.elim
 | .tup _::_,_,h=>by cases h
 | .s _::_,[],h=>by cases h
 | .s _::_,.tup _::_,h=>by cases h
theorem zAQ:∀(vs vs':List Zb) (m m':Mt),MI D hc h m->mA vs vs' m=some m'->MI D hc h m'/\Sub m.ρ m'.ρ/\RAs m'.ρ vs vs'
 | [],[],m,m',I,e=>by cases e;exact⟨I,Sub.refl _,trivial⟩
 | .s v::vs,.s v'::vs',m,m',I,e=>by
  unfold mA at e;split at e
  .rename_i m1 h1;obtain⟨I1,s1,r1⟩:=zDA I h1;obtain⟨I2,s2,r2⟩:=zAQ vs vs' m1 m' I1 e;exact⟨I2,s1.trans s2,r1.mono s2,r2⟩
  cases e
 | [],_::_,m,m',I,e=>by cases e
 | .tup _::_,_,m,m',I,e=>by trivial
 | .s _::_,[],m,m',I,e=>by cases e
 | .s _::_,.tup _::_,m,m',I,e=>by cases e
theorem znF:∀(f:Nat) (m:Mt) (ρ:Tr BN),MI (fun _ _=>False) hc h m->zuL hc h f m=some ρ->∃inv,MI (fun _ _=>False) hc h ⟨ρ,inv,[]⟩/\Sub m.ρ ρ
 |0,m,ρ,I,e=>by cases e
 |f+1,⟨ρ0,inv,work⟩,ρ,I,e=>by
  unfold zuL at e;cases work with
  |nil=>grind[Sub.refl]
  |cons p ws=>
   obtain⟨b,b'⟩:=p;simp only at e;split at e
   .rename_i cs st cs' st' h1 h2;cases hq:Nat.beq st st'
    .grind
    rw[hq]at e;simp only[Yzb]at e;have hst:=beq_true hq;subst hst;rcases hm:mCs cs cs' ⟨ρ0,inv,ws⟩ with _|m1
    .grind
    rw[hm]at e;have I0:MI (fun x y=>x=b/\y=b') hc h ⟨ρ0,inv,ws⟩:=by refine⟨I.inv,fun x y hx=>?_⟩;rcases I.pairs x y hx with k|k|k<;>grind
    obtain⟨I1,s1,r1⟩:=zrR cs cs' _ m1 I0 hm;have I2:MI (fun _ _=>False) hc h m1:=by refine⟨I1.inv,fun x y hx=>?_⟩;rcases I1.pairs x y hx with k|⟨rfl,rfl⟩|k<;>grind
    obtain⟨inv',k1,k2⟩:=znF f m1 ρ I2 e;exact⟨inv',k1,s1.trans k2⟩
   cases e
theorem xf{s:Sum}{args:List Zb}(e:s.fits args h=true):∃ρ:Tr BN,RAs ρ s.args args/\(∀b c b',ρ.get b=some b'->ρ.get c=some b'->b=c)/\
  (∀b b',ρ.get b=some b'->∃cs cs' st,s.heap.t.get b=some (.cells cs st)/\h.t.get b'=some (.cells cs' st)/\RCs ρ cs cs')/\zB3 ρ .z s.objs=true:=by
 unfold Sum.fits at e;split at e
 .rename_i m hm;split at e
  .rename_i ρ hρ;have I0:MI (fun _ _=>False) s.heap h ⟨.nil,.nil,[]⟩:=⟨(fun b b' hb=>by simp_all),(fun b b' hb=>by simp_all)⟩;obtain⟨I1,s1,r1⟩:=zAQ _ _ _ _ I0 hm;obtain⟨inv,I2,s2⟩:=znF _ _ _ I1 hρ;refine⟨ρ,r1.mono s2,fun b c b' hb hc=>?_,fun b b' hb=>?_,e⟩
   .have h1:=I2.inv b b' hb;have h2:=I2.inv c b' hc
    grind
   rcases I2.pairs b b' hb with k|k|k<;>grind
  cases e
 cases e
end
section
variable {P:Program} {w0:World} {S:Nat->Prop} {φ:Phi} {h:Za} {w:World}
noncomputable def via(ρ:Tr BN)(φ:Phi):Phi:=fun b=>match ρ.get b with|some b'=>φ b'|none=>⟨0,0,0,true,none⟩
theorem uo{ρ:Tr BN}{b b':BN}(hb:ρ.get b=some b'):via ρ φ b=φ b':=by grind[via]
theorem zjm{ρ:Tr BN}{c c':Zc}(hr:RC ρ c c'):zl φ c'=zl (via ρ φ) c:=by
 cases c with
 |ptr b o=>obtain⟨b',rfl,hb⟩:=hr;grind[zl,adr,uo]
 |slc b o l k e=>obtain⟨b',rfl,hb⟩:=hr;grind[zl,adr,uo]
 |_=>obtain⟨hp,rfl⟩:=hr;first|rfl|cases hp
theorem zvy{ρ:Tr BN}{n m:Nat}(hlt:∀b b',ρ.get b=some b'->b.toNat<m){c c':Zc}(hr:RC ρ c c')(hw:wfC φ n c'):wfC (via ρ φ) m c:=by
 cases c with
 |ptr b o=>obtain⟨b',rfl,hb⟩:=hr;exact⟨hlt _ _ hb,by rw[uo hb];exact hw.2⟩
 |slc b o l k e=>obtain⟨b',rfl,hb⟩:=hr;exact⟨⟨hlt _ _ hb,by rw[uo hb];exact hw.1.2⟩,by rw[uo hb];exact hw.2.1,hw.2.2⟩
 |_=>obtain⟨hp,rfl⟩:=hr;first|trivial|cases hp
theorem zvx{ρ:Tr BN}{cs cs':List Zc}(hr:RCs ρ cs cs'):cs'.map (zl φ)=cs.map (zl (via ρ φ)):=by
 apply Yz3;intro i;rw[Lz6,Lz6];rcases hc:cs[i]? with _|c
 .have:cs'[i]? = none:=by
   have:=hr.1
   grind
  grind
 obtain⟨c',h1,h2⟩:=hr.2 i c hc
 grind[zjm]
theorem zyZ{ρ:Tr BN}{v v':SVal}(hr:RS ρ v v'):zQ φ v'=zQ (via ρ φ) v:=by
 cases v with
 |one c=>obtain⟨c',rfl,h2⟩:=hr;exact zjm h2
 |agg cs=>obtain⟨cs',rfl,h2⟩:=hr;grind[zQ,zvx]
theorem zEC{ρ:Tr BN}{n m:Nat}(hlt:∀b b',ρ.get b=some b'->b.toNat<m){v v':SVal}(hr:RS ρ v v')(hw:wfS φ n v'):wfS (via ρ φ) m v:=by
 cases v with
 |one c=>obtain⟨c',rfl,h2⟩:=hr;exact zvy hlt h2 hw
 |agg cs=>obtain⟨cs',rfl,h2⟩:=hr;intro c hc;obtain⟨i,hi⟩:=List.mem_iff_getElem?.1 hc;obtain⟨c',h3,h4⟩:=h2.2 i c hi;exact zvy hlt h4 (hw c' (Lz3 h3))
theorem zwr{ρ:Tr BN}{n m:Nat}(hlt:∀b b',ρ.get b=some b'->b.toNat<m):∀{vs vs':List Zb},RAs ρ vs vs'->(∀x∈vs',wfA φ n x)->vs'.map (zw φ)=vs.map (zw (via ρ φ))/\∀x∈vs,wfA (via ρ φ) m x
 | [],[],_,_=>⟨rfl,fun x hx=>by cases hx⟩
 | .s v::vs,.s v'::vs',hr,hw=>by
  obtain⟨h1,h2⟩:=zwr (n:=n) hlt hr.2 fun x hx=>hw x (by simp[hx]);refine⟨?_,fun x hx=>?_⟩
  .simp only[Yzw,h1,zw,zyZ hr.1]
  cases hx with
  |head=>exact zEC hlt hr.1 (hw (.s v') (by simp))
  |tail _ hm=>exact h2 x hm
 | [],_::_,hr,_=>hr.elim
 | .tup _::_,_,hr,_=>by cases hr
 | .s _::_,[],hr,_=>by cases hr
 | .s _::_,.tup _::_,hr,_=>by cases hr
theorem zkF{ρ:Tr BN}:∀(l:List Zg) (i j:Nat) (o:Zg),zB3 ρ (bn i) l=true->l[j]? = some o->∃b',ρ.get (bn (i+j))=some b'
 | [],i,j,o,e,hj=>by simp at hj
 |x::l,i,j,o,e,hj=>by
  unfold zB3 at e;split at e
  .rename_i b' hb;cases j with
   |zero=>grind
   |succ j=>
    rw[zjh]at e;obtain⟨b'',hb''⟩:=zkF l (i+1) j o e (by trivial)
    grind
  cases e
theorem ziP(s:Sum)(b:BN):s.heap.t.get b=s.objs[b.toNat]?:=by have e0:BN.z=bn 0:=rfl;show (Tr.ofList .z s.objs .nil).get b=_;have:=kI s.objs 0 (.nil:Tr Zg) b.toNat;simp_all[vE]
theorem zgX{h2:Za}:∀(l:List Zg) (i j:Nat) (o:Zg),ztW h2 (bn i) l=true->l[j]? = some o->∃cs st,o=.cells cs st/\h2.t.get (bn (i+j))=some (.cells cs st)
 | [],i,j,o,e,hj=>by simp at hj
 |x::l,i,j,o,e,hj=>by
  cases x with
  |cells cs st=>
   unfold ztW at e;split at e
   .rename_i cs' st' hb;obtain⟨e1,e2⟩:=j7 e;obtain⟨e1,e3⟩:=j7 e1;cases j with
    |zero=>grind[zl3,beq_true]
    |succ j=>
     rw[zjh]at e2;obtain⟨cs2,st2,k1,k2⟩:=zgX l (i+1) j o e2 (by trivial)
     grind
   cases e
  |_=>cases e
theorem zfn{φ ψ:Phi}{c:Zc}(hp:vq c=true):zl φ c=zl ψ c:=by cases c<;>first|rfl|cases hp
theorem zjM{n:Nat}{c:Zc}(hp:vq c=true):wfC φ n c:=by cases c<;>first|trivial|cases hp
theorem zfm{φ ψ:Phi}{v:SVal}(hp:zne v=true):zQ φ v=zQ ψ v:=by
 cases v with
 |one c=>exact zfn hp
 |agg cs=>
  simp only[zQ]
  congr 2
  exact YzN fun c hc=>zfn (YzJ.1 hp c hc)
theorem zjL{n:Nat}{v:SVal}(hp:zne v=true):wfS φ n v:=by
 cases v with
 |one c=>exact zjM hp
 |agg cs=>exact fun c hc=>zjM (YzJ.1 hp c hc)
theorem zlt{φ ψ:Phi}{v:Zb}(hp:vI v=true):zw φ v=zw ψ v:=by
 cases v with
 |s v=>exact zfm hp
 |tup vs=>
  simp only[zw]
  congr 2
  exact YzN fun c hc=>zfm (YzJ.1 hp c hc)
theorem zqZ{n:Nat}{v:Zb}(hp:vI v=true):wfA φ n v:=by
 cases v with
 |s v=>exact zjL hp
 |tup vs=>exact fun c hc=>zjL (YzJ.1 hp c hc)
def zd9(P:Program)(s:Sum):Prop:=∃call,xT P call/\s.chk call=true
theorem zzT{s:Sum}(hs:zd9 P s){args:List Zb}(H:Ze w0 S φ h w)(hw:∀x∈args,wfA φ h.n.toNat x)(hf:s.fits args h=true):
  (∀as w,(callFunc s.g as).run P w=.ok (.enter s.g as) w)/\CallsIn (FR none) 0 P s.g (args.map (zw φ)).toArray w (Ret w0 S φ h s.res h):=by
 obtain⟨call,C,hchk⟩:=hs;obtain⟨ρ,hargs,hinj,hpair,hall⟩:=xf hf;unfold Sum.chk at hchk;split at hchk
 .rename_i v h2 hcall;obtain⟨e1,e2⟩:=j7 hchk;obtain⟨e1,e3⟩:=j7 e1;have hv:=zn6 e1;subst hv;have hn:s.heap.n.toNat=s.objs.length:=yg _;have hlt:∀b b',ρ.get b=some b'->b.toNat<s.heap.n.toNat:=by
   grind[ziP]
  have hin:∀b o,s.heap.t.get b=some o->∃b' cs cs' st,ρ.get b=some b'/\o=.cells cs st/\h.t.get b'=some (.cells cs' st)/\RCs ρ cs cs':=by
   intro b o hb;have hb':=hb;rw[ziP]at hb';obtain⟨b',hρ⟩:=zkF s.objs 0 b.toNat o hall hb';rw[Yzi,vE]at hρ
   grind
  obtain⟨hconc,hwf⟩:=zwr (φ:=φ) (n:=h.n.toNat) (m:=s.heap.n.toNat) hlt hargs hw;have HC:Ze w (fun k=>∃b b',ρ.get b=some b'/\k=(φ b').blk) (via ρ φ) s.heap w:=by
   refine⟨fun b o hb=>?_,fun b o hb=>?_,fun b o hb=>?_,fun b c o o' hb hc _ _ hh=>?_,fun b o hb _=>?_,rfl,rfl,rfl,LzB _,LzB _,fun _ _ _=>rfl,H.glob,fun b o hb _=>?_,fun b o hb _=>?_⟩
   .grind
   .obtain⟨b',cs,cs',st,hρ,rfl,hb',hr⟩:=hin b o hb;rw[uo hρ];exact H.okb b' _ hb'
   .obtain⟨b',cs,cs',st,hρ,rfl,hb',hr⟩:=hin b o hb;obtain⟨arr,e,g1,g2,g3,g4⟩:=H.obj b' _ hb';refine⟨arr,e,by grind[uo],fun i c hc=>?_,by grind[uo],fun c hc=>?_⟩
    .obtain⟨c',k1,k2⟩:=hr.2 i c hc
     grind[uo,zjm]
    obtain⟨i,hi⟩:=List.mem_iff_getElem?.1 hc;obtain⟨c',k1,k2⟩:=hr.2 i c hi;exact zvy hlt k2 (g4 c' (Lz3 k1))
   .obtain⟨b',cs,cs',st,hρ,rfl,hb',_⟩:=hin b o hb;obtain⟨c',ds,ds',st2,hρc,rfl,hc',_⟩:=hin c o' hc;rw[uo hρ,uo hρc]at hh;have:=H.inj b' c' _ _ hb' hc' trivial trivial hh
    grind
   .obtain⟨b',cs,cs',st,hρ,rfl,hb',_⟩:=hin b o hb
    grind[uo]
   .obtain⟨b',cs,cs',st,hρ,rfl,hb',_⟩:=hin b o hb;rw[uo hρ];exact H.flat b' _ hb' trivial
   obtain⟨b',cs,cs',st,hρ,rfl,hb',_⟩:=hin b o hb;rw[uo hρ];exact H.ng b' _ hb' trivial
  obtain⟨hcf,hcl⟩:=(C w _ _ _ w _ _ h2 HC hwf).1 s.g hcall;refine⟨hcf,?_⟩;rw[hconc];refine hcl.mono ?_
  rintro e9 w9 ⟨φ2,rfl,he,H2,_,hle⟩
  refine⟨φ,by grind[zlt],Ext.refl _ _,?_,zqZ e3,LzB _⟩;have hkeep:∀k,k<w.heap.size->(¬∃b b',ρ.get b=some b'/\k=(φ b').blk)->w9.heap[k]? = w.heap[k]?:=fun k hk hS=>H2.kept k hk hS;refine⟨H.keys,H.okb,fun b o hb=>?_,H.inj,H.own,H2.os.trans H.os,H2.tape.trans H.tape,H2.output.trans H.output,Yzl H.size H2.size,Yzl H.drawn H2.drawn,fun k hk hS=>?_,H2.glob,H.flat,H.ng⟩
  .by_cases hl:live o
   .by_cases hm:∃c c',ρ.get c=some c'/\(φ b).blk=(φ c').blk
    .obtain⟨c,c',hρ,hblk⟩:=hm;obtain⟨cs,cs',st,k1,k2,k3⟩:=hpair c c' hρ;have:=H.inj b c' _ _ hb k2 hl trivial hblk;subst this;cases hb.symm.trans k2;have k1':=k1;rw[ziP]at k1';obtain⟨cs2,st2,q1,q2⟩:=zgX s.objs 0 c.toNat _ e2 k1';rw[Yzi,vE]at q2;cases q1;obtain⟨arr,e,g1,g2,g3,g4⟩:=H2.obj c _ q2;have ec:φ2 c=φ b:=(he c (hlt _ _ hρ)).trans (uo hρ);obtain⟨_,_,_,_,_,o4⟩:=H.obj b _ hb;refine⟨arr,e,by grind,fun i x hx=>?_,by grind,o4⟩;have hi:i<cs.length:=by
      have:=(Lz0.1 hx).1;have:=k3.1;omega
     obtain⟨x',j1,j2⟩:=k3.2 i cs[i] (Lz5 hi);rw[hx]at j1;cases j1;have:=g2 i cs[i] (Lz5 hi);rw[ec]at this;rw[this,zjm j2];have hwc:wfC (via ρ φ) s.heap.n.toNat cs[i]:=zvy hlt j2 (o4 x (Lz3 hx))
     grind[zae]
    exact(H.obj b o hb).world fun _=>hkeep _ ((H.obj b o hb).there hl) (fun⟨c,c',h1,h2⟩=>hm ⟨c,c',h1,h2⟩)
   exact(H.obj b o hb).world fun hh=>absurd hh hl
  by_cases hm:∃c c',ρ.get c=some c'/\k=(φ c').blk
  .obtain⟨c,c',hρ,rfl⟩:=hm;obtain⟨cs,cs',st,_,k2,_⟩:=hpair c c' hρ;rcases H.own c' _ k2 trivial with h1|h1<;>grind
  rw[hkeep k (Lz9 hk H.size) hm];exact H.kept k hk hS
 trivial
theorem zht{g:Nat}{args:List Zb}{v:Zb}:∀(l:List Sum),xG g args h l=some v->∃s∈l,s.g=g/\s.fits args h=true/\s.res=v
 | [],e=>by cases e
 |s::l,e=>by
  unfold xG at e;cases hq:(Nat.beq g s.g&&s.fits args h)
  case true=>simp_all
  rw[hq]at e;obtain⟨s',k1,k2⟩:=zht l e
  grind
theorem zmM{sums:List Sum}(hs:∀s∈sums,zd9 P s){call:zh}(C:xT P call):xT P (ze2 sums call):=by
 intro w0 S φ h w args v h2 H hw;refine⟨fun g e=>?_,fun l e=>(C w0 S φ h w args v h2 H hw).2 l e⟩;unfold ze2 at e;simp only at e;split at e
 .rename_i v' hf;cases e;obtain⟨s,h1,rfl,h3,rfl⟩:=zht sums hf
  grind[zzT]
 exact(C w0 S φ h w args v h2 H hw).1 g e
theorem zvq{fs:Nat->Option Zn}(hfs:zy8 P fs){sums:List Sum}(hs:∀s∈sums,zd9 P s):∀n,xT P (zyD (zT P) fs sums n)
 |0=>zlE
 |n+1=>zmM hs (zmB (zvq hfs hs n) hfs n)
theorem ztD{call:zh}(C:xT P call){f:Nat}{c:Zc}{h2:Za}(e:call (.inl f) [] ⟨.z,.nil⟩=some (.s (.one c),h2))(w:World)(hG:GOk w):
  (∀as w,(callFunc f as).run P w=.ok (.enter f as) w)/\CallsIn (FR none) 0 P f #[] w (fun e w2=>∃φ,e=.returned (zl φ c)/\Below w.heap.size w w2):=by
 have H:Ze w (fun _=>False) (fun _=>⟨0,0,0,true,none⟩) ⟨.z,.nil⟩ w:=by
  have hnil:∀b,(Tr.nil:Tr Zg).get b=none:=by simp
  refine⟨?_,?_,?_,?_,?_,rfl,rfl,rfl,LzB _,LzB _,fun _ _ _=>rfl,hG,?_,?_⟩
  .simp
  .simp
  .simp
  .simp
  .simp
  .simp
  simp
 have:=(C w _ _ _ w [] _ h2 H (fun x hx=>by cases hx)).1 f e;refine⟨this.1,this.2.mono ?_⟩
 rintro e9 w9 ⟨φ2,rfl,he,H2,_,_⟩
 exact⟨φ2,rfl,⟨H2.os,H2.tape,H2.output,H2.size,fun k hk=>H2.kept k hk (fun hh=>hh)⟩⟩
end
end Go.CE
end
section
namespace Go.CE
open Go.RowKit
noncomputable section
def mR(m:Mt):Zb->Zb->Option Mt
 | .s v,.s v'=>mS m v v'
 | .tup vs,.tup vs'=>mA (vs.map .s) (vs'.map .s) m
 |_,_=>none
def sC(ρ:Tr BN):Zc->Option Zc
 | .ptr b o=>match ρ.get b with|some b'=>some (.ptr b' o)|none=>none
 | .slc b o l k e=>match ρ.get b with|some b'=>some (.slc b' o l k e)|none=>none
 |c=>bif vq c then some c else none
def sCs(ρ:Tr BN):List Zc->Option (List Zc)
 | []=>some []
 |c::cs=>
  match sC ρ c with
  |some c'=>match sCs ρ cs with|some cs'=>some (c'::cs')|none=>none
  |none=>none
def sS(ρ:Tr BN):SVal->Option SVal
 | .one c=>match sC ρ c with|some c'=>some (.one c')|none=>none
 | .agg cs=>match sCs ρ cs with|some cs'=>some (.agg cs')|none=>none
def sSs(ρ:Tr BN):List SVal->Option (List SVal)
 | []=>some []
 |v::vs=>
  match sS ρ v with
  |some v'=>match sSs ρ vs with|some vs'=>some (v'::vs')|none=>none
  |none=>none
def sA(ρ:Tr BN):Zb->Option Zb
 | .s v=>match sS ρ v with|some v'=>some (.s v')|none=>none
 | .tup vs=>match sSs ρ vs with|some vs'=>some (.tup vs')|none=>none
end
def RR(ρ:Tr BN):Zb->Zb->Prop
 | .s v,.s v'=>RS ρ v v'
 | .tup vs,.tup vs'=>RAs ρ (vs.map .s) (vs'.map .s)
 |_,_=>False
end Go.CE
end
section
namespace Go.CE
open Go.RowKit
noncomputable section
structure Srt where
 f:List Nat
 st:Nat
def ltZ:List Int->List Int->Bool
 |a::as,b::bs=>if a<b then true else if b<a then false else ltZ as bs
 |_,_=>false
def leZ(a b:List Int):Bool:=!ltZ b a
def inZ(r:List Int):Bool:=r.all fun a=>decide (-2305843009213693952<=a)&&decide (a<=2305843009213693952)
def zB5(k:Nat)(r:List Int):Prop:=r.length=k/\inZ r=true
def zgE(l:List (List Int)):List (List Int):=l.mergeSort leZ
def uH(l:List (List Int)):List Zc:=l.flatten.map (Zc.int .i64)
open Classical in
def zgT(t:Srt):List Zb->Za->Res
 | [.s (.one .nils),.s (.one (.fn f []))],h=>if f∈t.f then some (.tup [],h) else none
 | [.s (.one (.slc b off len _ _)),.s (.one (.fn f []))],h=>
  if H:f∈t.f/\off=0/\∃l:List (List Int),l.length=len/\(∀r∈l,zB5 t.st r)/\h.t.get b=some (.cells (uH l) t.st)/\len<4611686018427387904 then
   some (.tup [],h.put b (.cells (uH (zgE (Classical.choose H.2.2))) t.st))
  else none
 |_,_=>none
def ze1(srt:Nat->Option Srt)(call:zh):zh
 | .inl g,args,h=>
  match srt g with
  |some t=>zgT t args h
  |none=>call (.inl g) args h
 | .inr l,args,h=>call (.inr l) args h
def zI(cc:Nat->Code->xU)(fs:Nat->Option Zn)(sums:List Sum)(srt:Nat->Option Srt)(n:Nat):zh:=
 Nat.rec (motive:=fun _=>zh) (fun _ _ _=>none) (fun f ih=>ze1 srt (ze2 sums (zew cc fs ih f))) n
end
theorem zm2{st:Nat}:∀{l l':List (List Int)},l.length=l'.length->(∀r∈l,r.length=st)->(∀r∈l',r.length=st)->l.flatten=l'.flatten->l=l'
 | [],[],_,_,_,_=>rfl
 |r::l,r'::l',hl,h,h',e=>by rw[List.flatten_cons,List.flatten_cons]at e;have hr:r.length=r'.length:=(h r (Yzf ..)).trans (h' r' (Yzf ..)).symm;obtain⟨e1,e2⟩:=List.append_inj e hr;rw[e1,zm2 (by grind) (fun x hx=>h x (Yze _ hx)) (fun x hx=>h' x (Yze _ hx)) e2]
 | [],_::_,hl,_,_,_=>by simp at hl
 |_::_,[],hl,_,_,_=>by simp at hl
theorem int_inj:∀{l l':List Int},l.map (Zc.int .i64)=l'.map (Zc.int .i64)->l=l'
 | [],[],_=>rfl
 |a::l,b::l',e=>by simp only[Yzw,List.cons.injEq,Zc.int.injEq,true_and]at e;rw[e.1,int_inj e.2]
 | [],_::_,e=>by simp at e
 |_::_,[],e=>by simp at e
theorem zgS{t:Srt}{f:Nat}(hf:f∈t.f)(h:Za):zgT t [.s (.one .nils),.s (.one (.fn f []))] h=some (.tup [],h):=Yzc hf
theorem zoN{t:Srt}{f:Nat}(hf:f∈t.f){b:BN}{len cap:Nat}{ex:Bool}{h:Za}{l:List (List Int)}(h1:l.length=len)(h2:∀r∈l,zB5 t.st r)(h3:h.t.get b=some (.cells (uH l) t.st))(h4:len<4611686018427387904):
  zgT t [.s (.one (.slc b 0 len cap ex)),.s (.one (.fn f []))] h=some (.tup [],h.put b (.cells (uH (zgE l)) t.st)):=by
 have H:f∈t.f/\0=0/\∃l:List (List Int),l.length=len/\(∀r∈l,zB5 t.st r)/\h.t.get b=some (.cells (uH l) t.st)/\len<4611686018427387904:=⟨hf,rfl,l,h1,h2,h3,h4⟩;unfold zgT;simp only;rw[dif_pos H];obtain⟨k1,k2,k3,_⟩:=Classical.choose_spec H.2.2;have e:Classical.choose H.2.2=l:=zm2 (k1.trans h1.symm) (fun r hr=>(k2 r hr).1) (fun r hr=>(h2 r hr).1) (int_inj (Zg.cells.inj (Option.some.inj (h3.symm.trans k3))).1.symm);rw[e]
def zvv(P:Program)(g:Nat)(t:Srt):Prop:=
 ∀(w0:World) (S:Nat->Prop) (φ:Phi) (h:Za) (w:World) (args:List Zb) (v:Zb) (h2:Za),Ze w0 S φ h w->(∀x∈args,wfA φ h.n.toNat x)->zgT t args h=some (v,h2)->
  (∀as w,(callFunc g as).run P w=.ok (.enter g as) w)/\CallsIn (FR none) 0 P g (args.map (zw φ)).toArray w (Ret w0 S φ h v h2)
theorem ztG{P:Program}{srt:Nat->Option Srt}(hs:∀g t,srt g=some t->zvv P g t){call:zh}(C:xT P call):xT P (ze1 srt call):=by
 intro w0 S φ h w args v h2 H hw;refine⟨fun g e=>?_,fun l e=>(C w0 S φ h w args v h2 H hw).2 l e⟩;unfold ze1 at e;simp only at e;split at e
 .rename_i t ht;exact hs g t ht w0 S φ h w args v h2 H hw e
 exact(C w0 S φ h w args v h2 H hw).1 g e
theorem zom{P:Program}{fs:Nat->Option Zn}(hfs:zy8 P fs){sums:List Sum}(hs:∀s∈sums,zd9 P s){srt:Nat->Option Srt}(ht:∀g t,srt g=some t->zvv P g t):∀n,xT P (zI (zT P) fs sums srt n)
 |0=>zlE
 |n+1=>ztG ht (zmM hs (zmB (zom hfs hs ht n) hfs n))
def zDu:Nat->Option Srt:=fun _=>none
end Go.CE
end
section
namespace Go.CE
noncomputable section
abbrev Fr:=Nat->Zb
def wa(t:Tr Zb):Fr:=fun i=>zec (bn i) t
def coK(r:Fr):Operand->Option Opd
 | .tmp t=>some (zu (r t))
 | .const v=>match zs2 v with|some s=>some (zu (.s s))|none=>none
 | .func f=>some (zu (.s (.one (.fn f []))))
 | .global g=>match zdP g with|some _=>some (zu (.s (.one (.gptr g 0))))|none=>none
def zcf(co:Operand->Option Opd):List Operand->Option (List Opd)
 | []=>some []
 |x::xs=>
  match co x,zcf co xs with
  |some y,some ys=>some (y::ys)
  |_,_=>none
def zd4(co:Operand->Option Opd):Option Operand->Option (Option Opd)
 |none=>some none
 |some x=>match co x with|some y=>some (some y)|none=>none
section
variable (P:Program)
def wH(co:Operand->Option Opd)(fs:Array Field):List (Nat×Operand)->Option (List (Nat×Nat×Opd))
 | []=>some []
 |(i,x)::r=>
  match fs[i]?,co x,wH co fs r with
  |some f,some y,some rest=>
   match P.info? f.type with
   |some info=>some ((f.offset,info.size,y)::rest)
   |none=>none
  |_,_,_=>none
def wJ(co:Operand->Option Opd)(size:Nat):List (Nat×Operand)->Option (List (Nat×Nat×Opd))
 | []=>some []
 |(i,x)::r=>
  match co x,wJ co size r with
  |some y,some rest=>some ((i*size,size,y)::rest)
  |_,_=>none
def xq(co:Operand->Option Opd)(o:Op):zgM:=zM <| match o with
 | .move x | .assign x=>(co x).map znm
 | .pick c a b=>do pure (za3 (<-co c) (<-co a) (<-co b))
 | .alloc t=>bif zc6 P t then do pure (zeP t (<-yu P t).cells) else do pure (zfC (<-yu P t).cells)
 | .box _ x=>do pure (zim (<-co x))
 | .build t parts=>
  match P.underlying t,yu P t with
  |some (.struct fs),some z=>bif zcF P fs.toList then do pure (uB z.cells (<-wH P co fs parts.toList)) else none
  |some (.array _ e),some z=>
   match P.info? e with
   |some i=>do pure (uB z.cells (<-wJ co i.size parts.toList))
   |none=>none
  |_,_=>none
 | .buildSlice t len parts=>
  match P.underlying t with
  |some (.slice e)=>
   match P.info? e with
   |some i=>
    bif Nat.ble (len*i.size) 16777216 then
     match (bif Nat.beq (len*i.size) 0 then some [] else(yu P e).map SVal.cells) with
     |some zs=>bif Nat.beq (len*i.size) 0||Nat.beq zs.length i.size then do pure (uf i.size len (jD zs len) (<-wJ co i.size parts.toList)) else none
     |none=>none
    else none
   |none=>none
  |_=>none
 | .load t x=>do pure (za6 (<-wF P t) (<-co x))
 | .store t x v=>do pure (zcp (<-P.info? t).size (<-co x) (<-co v))
 | .nilCheck x=>do pure (uw (<-co x))
 | .binOp op t x y _=>
  match P.underlying t with
  |some (.int _)=>
   match op with
   | .shl=>do pure (vu ziV (<-co x) (<-co y))
   | .shr=>do pure (vu ziU (<-co x) (<-co y))
   |op=>do pure (zeF (qD op) (<-co x) (<-co y))
  |some .string=>do pure (zfw op (<-co x) (<-co y))
  |some (.slice _)=>
   match op with
   | .eql=>do pure (ki false (<-co x) (<-co y))
   | .neq=>do pure (ki true (<-co x) (<-co y))
   |_=>none
  |some (.pointer e)=>
   bif wG P e then
   match op with
   | .eql=>do pure (uv false (<-co x) (<-co y))
   | .neq=>do pure (uv true (<-co x) (<-co y))
   |_=>none
   else none
  |some (.func _ _ _)=>
   match op with
   | .eql=>do pure (za4 false (<-co x) (<-co y))
   | .neq=>do pure (za4 true (<-co x) (<-co y))
   |_=>none
  |some _=>
   bif P.eqGuardType P.depth t then none else
   match op with
   | .eql=>do pure (znn (<-zak P t) false (<-co x) (<-co y))
   | .neq=>do pure (znn (<-zak P t) true (<-co x) (<-co y))
   |_=>none
  |none=>none
 | .unOp .not _ x=>do pure (zfx (<-co x))
 | .unOp .neg _ x=>do pure (zfy (<-co x))
 | .convert s d x=>
  match P.underlying s,P.underlying d with
  |some (.int _),some (.int k)=>do pure (zba k (<-co x))
  |some .string,some (.slice e)=>bif yT P e then do pure (zo8 (<-co x)) else none
  |some (.slice e),some .string=>bif yT P e then do pure (zcX (<-co x)) else none
  |some (.pointer e),some .unsafePointer=>bif wG P e then do pure (zil (<-co x)) else none
  |some .unsafePointer,some (.pointer u)=>bif zps P u then do pure (zik u (P.cellsOf u) (<-co x)) else none
  |_,_=>none
 | .makeFunc (.func f) first captured=>bif first.isEmpty then do pure (za5 f (<-zcf co captured.toList)) else none
 | .makeMap _ none=>some zfA
 | .makeSlice t l c=>
  match P.underlying t with
  |some (.slice e)=>
   match P.info? e,yu P e with
   |some i,some z=>bif Nat.beq z.cells.length i.size && !Nat.beq i.size 0 then do pure (wA i.size z.cells i.bytes (<-co l) (<-co c)) else none
   |_,_=>none
  |_=>none
 | .slice t x lo hi mx=>
  match P.underlying t with
  |some (.slice e)=>
   match P.info? e with
   |some i=>bif mx.isSome && !hi.isSome then none else do pure (uu i.size (<-co x) (<-zd4 co lo) (<-zd4 co hi) (<-zd4 co mx))
   |none=>none
  |some (.array n e)=>
   match P.info? e with
   |some i=>bif mx.isSome && !hi.isSome then none else do pure (ue n i.size (<-co x) (<-zd4 co lo) (<-zd4 co hi) (<-zd4 co mx))
   |none=>none
  |some .string=>bif mx.isSome then none else do pure (wi (<-co x) (<-zd4 co lo) (<-zd4 co hi))
  |_=>none
 | .fieldAddr t x f=>
  match P.underlying t with
  |some (.struct fs)=>
   match fs[f]? with
   |some fd=>
    match P.info? fd.type with
    |some i=>bif Nat.beq i.size 0 then none else do pure (za9 (<-co x) fd.offset)
    |none=>none
   |none=>none
  |_=>none
 | .field t x f=>
  match P.underlying t with
  |some (.struct fs)=>
   match fs[f]? with
   |some fd=>do pure (uA (<-co x) fd.offset (<-wF P fd.type))
   |none=>none
  |_=>none
 | .indexAddr t x i=>
  match P.underlying t with
  |some (.slice e)=>
   match P.info? e with
   |some info=>do pure (zfB info.size (<-co x) (<-co i))
   |none=>none
  |some (.array len e)=>
   match P.info? e with
   |some info=>do pure (uy len info.size (<-co x) (<-co i))
   |none=>none
  |_=>none
 | .index t x i=>
  match P.underlying t with
  |some (.array len e)=>
   match P.info? e with
   |some info=>do pure (uz len info.size (<-wF P e) (<-co x) (<-co i))
   |none=>none
  |some .string=>do pure (ux (<-co x) (<-co i))
  |_=>none
 | .lookup t m k ok=>
  match P.underlying t with
  |some (.map key e)=>do pure (wW (<-zak P key) (<-yu P e) ok (<-co m) (<-co k))
  |_=>none
 | .mapUpdate t m k v | .insert t m k v=>
  match P.underlying t with
  |some (.map key _)=>do pure (zfz (<-zak P key) (<-co m) (<-co k) (<-co v))
  |_=>none
 | .mapEntry t m k=>
  match P.underlying t with
  |some (.map key e)=>do pure (zbH (<-zak P key) (<-yu P e) (<-co m) (<-co k))
  |_=>none
 | .entryStore _ m s v=>do pure (zbI (<-co m) (<-co s) (<-co v))
 | .extract x i=>do pure (xX (<-co x) i)
 | .call c=>
  match c.callee with
  | .value f=>bif Nat.beq (zcv P f) 0 then do pure (zg9 (<-co f) (<-zcf co c.args.toList)) else zBK co (zcv P f) c.args.toList
  | .builtin .unsafeSliceData=>
   match c.args.toList with
   | [x]=>do pure (ut (<-co x))
   |_=>none
  | .builtin .unsafeString=>
   match c.argTypes.toList,c.args.toList with
   | [pt,_],[x,n]=>
    match P.underlying pt with
    |some (.pointer e)=>bif yT P e&&Nat.beq (P.cellsOf e) 1 then do pure (zjV e (<-co x) (<-co n)) else none
    |_=>none
   |_,_=>none
  | .builtin .cap=>
   match c.argTypes[0]?,c.args[0]? with
   |some t,some x=>
    match P.underlying t with
    |some (.slice _)=>do pure (zrc (<-co x))
    |_=>none
   |_,_=>none
  | .builtin .copy=>
   match c.argTypes.toList,c.args.toList with
   | [t,t2],[d,s]=>
    match P.underlying t,P.underlying t2 with
    |some (.slice e),some (.slice _)=>
     match P.info? e with
     |some i=>bif Nat.beq i.size 0 then none else do pure (zjW i.size (<-co d) (<-co s))
     |none=>none
    |_,_=>none
   |_,_=>none
  | .builtin .len=>
   match c.argTypes[0]?,c.args[0]? with
   |some t,some x=>
    match P.underlying t with
    |some .string=>do pure (za7 (<-co x))
    |some (.slice _)=>do pure (za8 (<-co x))
    |some (.map _ _)=>do pure (zb7 (<-co x))
    |some (.array n _)=>some (znm (zu (.s (.one (.int .i64 (.ofNat n))))))
    |_=>none
   |_,_=>none
  | .builtin .append=>
   match c.argTypes.toList,c.args.toList with
   | [t,t2],[s,x]=>
    match P.underlying t with
    |some (.slice e)=>
     match P.info? e,yu P e with
     |some i,some z=>
      bif Nat.beq z.cells.length i.size && !Nat.beq i.size 0 then
       match P.underlying t2 with
       |some (.slice _)=>bif yT P e&&Nat.beq i.size 1 then do pure (zbc e i.bytes (<-co s) (<-co x)) else do pure (xE false i.size i.bytes (<-co s) (<-co x))
       |some .string=>bif Nat.beq i.size 1 then do pure (zbb e i.bytes (<-co s) (<-co x)) else none
       |_=>none
      else none
     |_,_=>none
    |_=>none
   |_,_=>none
  | .builtin .clear=>
   match c.argTypes[0]?,c.args[0]? with
   |some t,some x=>
    match P.underlying t with
    |some (.slice e)=>
     match P.info? e,yu P e with
     |some i,some z=>bif Nat.beq z.cells.length i.size && !Nat.beq i.size 0 then do pure (zdC i.size z.cells (<-co x)) else none
     |_,_=>none
    |_=>none
   |_,_=>none
  | .builtin .max=>
   match zcf co c.args.toList with
   |some (x::xs)=>some (xm true x xs)
   |_=>none
  | .builtin .min=>
   match zcf co c.args.toList with
   |some (x::xs)=>some (xm false x xs)
   |_=>none
  |_=>none
 |_=>none
end
end
section
variable {P:Program} {t:Tr Zb}
def OR(t:Tr Zb)(a b:Option Opd):Prop:=(a=none/\b=none)\/∃x y,a=some x/\b=some y/\x .nil=y t
theorem zU(x:Operand):OR t (coK (wa t) x) (ya x):=by
 cases x with
 |tmp i=>exact .inr ⟨_,_,rfl,rfl,rfl⟩
 |const v=>
  simp only[coK,ya];rcases zs2 v with _|s
  .exact .inl ⟨rfl,rfl⟩
  exact .inr ⟨_,_,rfl,rfl,rfl⟩
 |func f=>exact .inr ⟨_,_,rfl,rfl,rfl⟩
 |global g=>
  simp only[coK,ya];rcases zdP g with _|q
  .exact .inl ⟨rfl,rfl⟩
  exact .inr ⟨_,_,rfl,rfl,rfl⟩
def LR(t:Tr Zb):List Opd->List Opd->Prop
 | [],[]=>True
 |x::xs,y::ys=>x .nil=y t/\LR t xs ys
 |_,_=>False
theorem zgg:∀l:List Operand,(zcf (coK (wa t)) l=none/\j5 l=none)\/∃xs ys,zcf (coK (wa t)) l=some xs/\j5 l=some ys/\LR t xs ys
 | []=>.inr ⟨[],[],rfl,rfl,trivial⟩
 |x::l=>by
  simp only[zcf,j5];rcases zU (t:=t) x with⟨h1,h2⟩|⟨a,b,h1,h2,h3⟩
  .grind
  rw[h1,h2];rcases zgg l with⟨k1,k2⟩|⟨as,bs,k1,k2,k3⟩
  .grind
  rw[k1,k2];exact .inr ⟨_,_,rfl,rfl,h3,k3⟩
def PR(t:Tr Zb):List (Nat×Nat×Opd)->List (Nat×Nat×Opd)->Prop
 | [],[]=>True
 |x::xs,y::ys=>x.1=y.1/\x.2.1=y.2.1/\x.2.2 .nil=y.2.2 t/\PR t xs ys
 |_,_=>False
theorem zcc(fs:Array Field):∀l:List (Nat×Operand),(wH P (coK (wa t)) fs l=none/\wn P fs l=none)\/∃xs ys,wH P (coK (wa t)) fs l=some xs/\wn P fs l=some ys/\PR t xs ys
 | []=>.inr ⟨[],[],rfl,rfl,trivial⟩
 |(i,x)::l=>by
  simp only[wH,wn];rcases fs[i]? with _|f
  .simp
  rcases zU (t:=t) x with⟨h1,h2⟩|⟨a,b,h1,h2,h3⟩
  .grind
  rw[h1,h2];rcases zcc fs l with⟨k1,k2⟩|⟨as,bs,k1,k2,k3⟩
  .grind
  rw[k1,k2];simp only;rcases P.info? f.type with _|i
  .simp
  exact .inr ⟨_,_,rfl,rfl,rfl,rfl,h3,k3⟩
theorem zaD(n:Nat):∀l:List (Nat×Operand),(wJ (coK (wa t)) n l=none/\xJ n l=none)\/∃xs ys,wJ (coK (wa t)) n l=some xs/\xJ n l=some ys/\PR t xs ys
 | []=>.inr ⟨[],[],rfl,rfl,trivial⟩
 |(i,x)::l=>by
  simp only[wJ,xJ];rcases zU (t:=t) x with⟨h1,h2⟩|⟨a,b,h1,h2,h3⟩
  .grind
  rw[h1,h2];rcases zaD n l with⟨k1,k2⟩|⟨as,bs,k1,k2,k3⟩
  .grind
  rw[k1,k2];exact .inr ⟨_,_,rfl,rfl,rfl,rfl,h3,k3⟩
theorem zdh:∀(xs ys:List (Nat×Nat×Opd)) (cs:List Zc),PR t xs ys->zdi .nil xs cs=zdi t ys cs
 | [],[],_,_=>rfl
 |(a,b,x)::xs,(a',b',y)::ys,cs,⟨h1,h2,h3,h4⟩=>by
  simp only at h1 h2 h3;subst h1 h2;simp only[zdi];rw[h3];cases y t with
  |tup _=>rfl
  |s v=>
   simp only;cases zaU v.cells b
   .rfl
   simp only[Yzb];rcases putAt v.cells cs a with _|cs'
   .rfl
   exact zdh xs ys cs' h4
theorem zrP:∀(xs ys:List Opd),LR t xs ys->xs.map (fun x=>x .nil)=ys.map (fun x=>x t)
 | [],[],_=>rfl
 |x::xs,y::ys,⟨h1,h2⟩=>by rw[Yzw,Yzw,h1,zrP xs ys h2]
theorem znc:∀(xs ys:List Opd),LR t xs ys->zqU .nil xs=zqU t ys
 | [],[],_=>rfl
 |x::xs,y::ys,⟨h1,h2⟩=>by simp only[zqU];rw[h1,znc xs ys h2]
theorem zit(m:Bool)(k:IntKind):∀(xs ys:List Opd) (z:Int),LR t xs ys->zty m k .nil xs z=zty m k t ys z
 | [],[],_,_=>rfl
 |x::xs,y::ys,z,⟨h1,h2⟩=>by
  simp only[zty];rw[h1];split
  .rename_i k' y' _;cases eqK k k'
   .rfl
   exact zit m k xs ys _ h2
  rfl
def QR(t:Tr Zb)(a b:Option Opd):Prop:=(a=none/\b=none)\/∃x y,a=some x/\b=some y/\x .nil=y t
theorem QR.bnd{a b:Option Opd}(h:QR t a b)(d y:Nat):bnd .nil a d y=CE.bnd t b d y:=by
 rcases h with⟨rfl,rfl⟩|⟨x,z,rfl,rfl,h⟩
 .rfl
 grind[CE.bnd]
theorem za2(x:Option Operand):(zd4 (coK (wa t)) x=none/\zcH x=none)\/∃a b,zd4 (coK (wa t)) x=some a/\zcH x=some b/\QR t a b:=by
 rcases x with _|x
 .exact .inr ⟨none,none,rfl,rfl,.inl ⟨rfl,rfl⟩⟩
 simp only[zd4,zcH];rcases zU (t:=t) x with⟨h1,h2⟩|⟨a,b,h1,h2,h3⟩
 .grind
 rw[h1,h2];exact .inr ⟨_,_,rfl,rfl,.inr ⟨_,_,rfl,rfl,h3⟩⟩
theorem zll{lo hi mx lo' hi' mx':Option Opd}(h1:QR t lo lo')(h2:QR t hi hi')(h3:QR t mx mx')(st:Nat)(h:Za)(b:BN)(off len cap:Nat):
  xj st lo hi mx .nil h b off len cap=xj st lo' hi' mx' t h b off len cap:=by
 have e1:=h1.bnd;have e2:=h2.bnd;have e3:=h3.bnd;rcases h3 with⟨rfl,rfl⟩|⟨x,z,rfl,rfl,h⟩
 .grind[xj]
 rcases h2 with⟨rfl,rfl⟩|⟨x',z',rfl,rfl,h'⟩
 .grind[xj]
 grind[xj]
variable (call:zh) (h:Za)
theorem zs5(o:Op):xq P (coK (wa t)) o call .nil h=cOp P o call t h:=by
 cases o with
 |move x=>rcases zU (t:=t) x with⟨h1,h2⟩|⟨a,b,h1,h2,h3⟩<;>simp only[xq,cOp,zM,Option.map_none,YzG,znm,xk, *]
 |assign x=>rcases zU (t:=t) x with⟨h1,h2⟩|⟨a,b,h1,h2,h3⟩<;>simp only[xq,cOp,zM,Option.map_none,YzG,znm,xk, *]
 |pick c a b=>rcases zU (t:=t) c with⟨h1c,h2c⟩|⟨oac,obc,h1c,h2c,h3c⟩<;>rcases zU (t:=t) a with⟨h1a,h2a⟩|⟨oaa,oba,h1a,h2a,h3a⟩<;>rcases zU (t:=t) b with⟨h1b,h2b⟩|⟨oab,obb,h1b,h2b,h3b⟩<;>simp[xq,cOp,zM,xk,za3, *]
 |alloc ty=>simp only[xq,cOp];cases zc6 P ty<;>cases yu P ty<;>rfl
 |box ty x=>rcases zU (t:=t) x with⟨h1,h2⟩|⟨a,b,h1,h2,h3⟩<;>simp[xq,cOp,zM,xk,zim, *]
 |build ty parts=>
  simp only[xq,cOp];rcases P.underlying ty with _|u
  .rfl
  rcases yu P ty with _|z
  .cases u<;>rfl
  cases u with
  |struct fs=>
   simp only;cases zcF P fs.toList
   .rfl
   rcases zcc (P:=P) (t:=t) fs parts.toList with⟨h1,h2⟩|⟨xs,ys,h1,h2,h3⟩
   .simp only[Yzb,h1,h2];rfl
   simp only[Yzb,h1,h2,YzK,YzI,Yz4,zM,uB,zdh _ _ _ h3]
  |array n e=>
   simp only;rcases P.info? e with _|i
   .rfl
   rcases zaD (t:=t) i.size parts.toList with⟨h1,h2⟩|⟨xs,ys,h1,h2,h3⟩
   .simp only[h1,h2];rfl
   simp only[h1,h2,YzK,YzI,Yz4,zM,uB,zdh _ _ _ h3]
  |_=>rfl
 |buildSlice ty len parts=>
  simp only[xq,cOp];rcases P.underlying ty with _|u
  .rfl
  cases u with
  |slice e=>
   simp only;rcases P.info? e with _|i
   .rfl
   simp only;cases Nat.ble (len*i.size) 16777216
   .rfl
   simp only[Yzb];generalize (bif Nat.beq (len*i.size) 0 then some [] else(yu P e).map SVal.cells)=q;rcases q with _|zs
   .rfl
   simp only;generalize (Nat.beq (len*i.size) 0||Nat.beq zs.length i.size)=q2;cases q2
   .rfl
   rcases zaD (t:=t) i.size parts.toList with⟨h1,h2⟩|⟨xs,ys,h1,h2,h3⟩
   .simp only[Yzb,h1,h2];rfl
   simp only[Yzb,h1,h2,YzK,YzI,Yz4,zM,uf,zdh _ _ _ h3]
  |_=>rfl
 |load ty x=>
  simp only[xq,cOp];rcases wF P ty with _|n
  .rfl
  rcases zU (t:=t) x with⟨h1,h2⟩|⟨a,b,h1,h2,h3⟩<;>simp[zM,xk,za6, *]
 |store ty x v=>
  simp only[xq,cOp];rcases P.info? ty with _|n
  .rfl
  rcases zU (t:=t) x with⟨h1x,h2x⟩|⟨oax,obx,h1x,h2x,h3x⟩<;>rcases zU (t:=t) v with⟨h1v,h2v⟩|⟨oav,obv,h1v,h2v,h3v⟩<;>simp[zM,xk,zcp, *]
 |nilCheck x=>rcases zU (t:=t) x with⟨h1,h2⟩|⟨a,b,h1,h2,h3⟩<;>simp[xq,cOp,zM,xk,uw, *]
 |binOp op ty x y ty2=>
  simp only[xq,cOp];rcases P.underlying ty with _|u
  .rfl
  by_cases hu:∃te,u=.pointer te
  .obtain⟨te,rfl⟩:=hu;simp only;cases wG P te
   .rfl
   rcases zU (t:=t) x with⟨h1x,h2x⟩|⟨oax,obx,h1x,h2x,h3x⟩<;>rcases zU (t:=t) y with⟨h1y,h2y⟩|⟨oay,oby,h1y,h2y,h3y⟩<;>cases op<;>first|rfl|simp[zM,xk,uv, *]
  rcases zU (t:=t) x with⟨h1x,h2x⟩|⟨oax,obx,h1x,h2x,h3x⟩<;>rcases zU (t:=t) y with⟨h1y,h2y⟩|⟨oay,oby,h1y,h2y,h3y⟩<;>simp only[h1x,h2x,h1y,h2y]
  all_goals (cases u<;>first|rfl|(exfalso;exact hu ⟨_,rfl⟩)|skip)
  all_goals (clear hu)
  all_goals (try generalize P.eqGuardType P.depth ty=q)
  all_goals (try generalize zak P ty=q2)
  all_goals (cases op<;>first|rfl|simp only[YzK,YzI,Option.bind_none,Yz4,zM,zeF,vu,zfw,ki,za4, *])
  all_goals (cases q<;>first|rfl|skip)
  all_goals (cases q2<;>first|rfl|simp only[Yzd,YzI,znn, *])
 |unOp op ty x=>cases op<;>first|rfl|(rcases zU (t:=t) x with⟨h1,h2⟩|⟨a,b,h1,h2,h3⟩<;>simp[xq,cOp,zM,xk,zfx,zfy, *])
 |convert s d x=>
  simp only[xq,cOp];rcases P.underlying s with _|u
  .rfl
  rcases P.underlying d with _|u2
  .cases u<;>rfl
  cases u<;>first|rfl|skip
  all_goals (cases u2<;>first|rfl|skip)
  case string.slice el=>cases hb:yT P el<;>rcases zU (t:=t) x with⟨h1,h2⟩|⟨a,b,h1,h2,h3⟩<;>simp[zM,xk,zo8, *]
  case slice.string el=>cases hb:yT P el<;>rcases zU (t:=t) x with⟨h1,h2⟩|⟨a,b,h1,h2,h3⟩<;>simp[zM,xk,zcX, *]
  case pointer.unsafePointer el=>cases hb:wG P el<;>rcases zU (t:=t) x with⟨h1,h2⟩|⟨a,b,h1,h2,h3⟩<;>simp[zM,xk,zil, *]
  case unsafePointer.pointer el=>cases hb:zps P el<;>rcases zU (t:=t) x with⟨h1,h2⟩|⟨a,b,h1,h2,h3⟩<;>simp[zM,xk,zik, *]
  all_goals (rcases zU (t:=t) x with⟨h1,h2⟩|⟨a,b,h1,h2,h3⟩<;>simp[zM,xk,zba, *])
 |makeFunc fn first captured=>
  cases fn<;>first|rfl|skip
  simp only[xq,cOp];cases first.isEmpty
  .rfl
  rcases zgg (t:=t) captured.toList with⟨h1,h2⟩|⟨xs,ys,h1,h2,h3⟩
  .simp only[Yzb,h1,h2];rfl
  simp only[Yzb,h1,h2,YzK,YzI,Yz4,zM,za5,znc _ _ h3]
 |makeMap ty r=>cases r<;>rfl
 |makeSlice ty l c=>
  simp only[xq,cOp];rcases P.underlying ty with _|u
  .rfl
  cases u with
  |slice e=>
   simp only;rcases P.info? e with _|i
   .rfl
   rcases yu P e with _|z
   .rfl
   simp only;generalize (Nat.beq z.cells.length i.size && !Nat.beq i.size 0)=q;cases q
   .rfl
   rcases zU (t:=t) l with⟨h1l,h2l⟩|⟨oal,obl,h1l,h2l,h3l⟩<;>rcases zU (t:=t) c with⟨h1c,h2c⟩|⟨oac,obc,h1c,h2c,h3c⟩<;>simp[zM,xk,wA, *]
  |_=>rfl
 |slice ty x lo hi mx=>
  simp only[xq,cOp];rcases P.underlying ty with _|u
  .rfl
  cases u with
  |slice e=>
   simp only;rcases P.info? e with _|i
   .rfl
   simp only;generalize (mx.isSome && !hi.isSome)=q;cases q
   case true=>rfl
   rcases zU (t:=t) x with⟨h1x,h2x⟩|⟨oax,obx,h1x,h2x,h3x⟩
   .simp only[h1x,h2x,Yzd];rfl
   rcases za2 (t:=t) lo with⟨k1,k2⟩|⟨l1,l2,k1,k2,k3⟩
   .simp only[h1x,h2x,k1,k2,Yzd];rfl
   rcases za2 (t:=t) hi with⟨m1,m2⟩|⟨g1,g2,m1,m2,m3⟩
   .simp only[h1x,h2x,k1,k2,m1,m2,Yzd];rfl
   rcases za2 (t:=t) mx with⟨n1,n2⟩|⟨j1,j2,n1,n2,n3⟩
   .simp only[h1x,h2x,k1,k2,m1,m2,n1,n2,Yzd];rfl
   simp only[h1x,h2x,k1,k2,m1,m2,n1,n2,Yzd,YzK,YzI,Yz4,zM,uu,h3x,we,xw,zll k3 m3 n3,k3.bnd,m3.bnd,n3.bnd]
  |array len e=>
   simp only;rcases P.info? e with _|i
   .rfl
   simp only;generalize (mx.isSome && !hi.isSome)=q;cases q
   case true=>rfl
   rcases zU (t:=t) x with⟨h1x,h2x⟩|⟨oax,obx,h1x,h2x,h3x⟩
   .simp only[h1x,h2x,Yzd];rfl
   rcases za2 (t:=t) lo with⟨k1,k2⟩|⟨l1,l2,k1,k2,k3⟩
   .simp only[h1x,h2x,k1,k2,Yzd];rfl
   rcases za2 (t:=t) hi with⟨m1,m2⟩|⟨g1,g2,m1,m2,m3⟩
   .simp only[h1x,h2x,k1,k2,m1,m2,Yzd];rfl
   rcases za2 (t:=t) mx with⟨n1,n2⟩|⟨j1,j2,n1,n2,n3⟩
   .simp only[h1x,h2x,k1,k2,m1,m2,n1,n2,Yzd];rfl
   simp only[h1x,h2x,k1,k2,m1,m2,n1,n2,Yzd,YzK,YzI,Yz4,zM,ue,h3x,xw,k3.bnd,m3.bnd,n3.bnd]
  |string=>
   simp only;cases mx.isSome
   case true=>rfl
   rcases zU (t:=t) x with⟨h1x,h2x⟩|⟨oax,obx,h1x,h2x,h3x⟩
   .simp only[h1x,h2x,Yzd];rfl
   rcases za2 (t:=t) lo with⟨k1,k2⟩|⟨l1,l2,k1,k2,k3⟩
   .simp only[h1x,h2x,k1,k2,Yzd];rfl
   rcases za2 (t:=t) hi with⟨m1,m2⟩|⟨g1,g2,m1,m2,m3⟩
   .simp only[h1x,h2x,k1,k2,m1,m2,Yzd];rfl
   simp only[h1x,h2x,k1,k2,m1,m2,Yzd,YzK,YzI,Yz4,zM,wi,h3x,k3.bnd,m3.bnd]
  |_=>rfl
 |fieldAddr ty x f=>
  simp only[xq,cOp];rcases P.underlying ty with _|u
  .rfl
  cases u with
  |struct fs=>
   simp only;rcases fs[f]? with _|fd
   .rfl
   simp only;rcases P.info? fd.type with _|i
   .rfl
   simp only;cases Nat.beq i.size 0
   case true=>rfl
   rcases zU (t:=t) x with⟨h1,h2⟩|⟨a,b,h1,h2,h3⟩<;>simp[zM,xk,za9, *]
  |_=>rfl
 |field ty x f=>
  simp only[xq,cOp];rcases P.underlying ty with _|u
  .rfl
  cases u with
  |struct fs=>
   simp only;rcases fs[f]? with _|fd
   .rfl
   simp only;rcases zU (t:=t) x with⟨h1,h2⟩|⟨a,b,h1,h2,h3⟩<;>cases wF P fd.type<;>simp[zM,xk,uA, *]
  |_=>rfl
 |indexAddr ty x i=>
  simp only[xq,cOp];rcases P.underlying ty with _|u
  .rfl
  cases u with
  |slice e=>
   simp only;rcases P.info? e with _|n
   .rfl
   rcases zU (t:=t) x with⟨h1x,h2x⟩|⟨oax,obx,h1x,h2x,h3x⟩<;>rcases zU (t:=t) i with⟨h1i,h2i⟩|⟨oai,obi,h1i,h2i,h3i⟩<;>simp[zM,xk,zfB, *]
  |array len e=>
   simp only;rcases P.info? e with _|n
   .rfl
   rcases zU (t:=t) x with⟨h1x,h2x⟩|⟨oax,obx,h1x,h2x,h3x⟩<;>rcases zU (t:=t) i with⟨h1i,h2i⟩|⟨oai,obi,h1i,h2i,h3i⟩<;>simp[zM,xk,uy, *]
  |_=>rfl
 |index ty x i=>
  simp only[xq,cOp];rcases P.underlying ty with _|u
  .rfl
  cases u with
  |array len e=>
   simp only;rcases P.info? e with _|n
   .rfl
   rcases zU (t:=t) x with⟨h1x,h2x⟩|⟨oax,obx,h1x,h2x,h3x⟩<;>rcases zU (t:=t) i with⟨h1i,h2i⟩|⟨oai,obi,h1i,h2i,h3i⟩<;>cases wF P e<;>simp[zM,xk,uz, *]
  |string=>rcases zU (t:=t) x with⟨h1x,h2x⟩|⟨oax,obx,h1x,h2x,h3x⟩<;>rcases zU (t:=t) i with⟨h1i,h2i⟩|⟨oai,obi,h1i,h2i,h3i⟩<;>simp[zM,xk,ux, *]
  |_=>rfl
 |lookup ty m k ok=>
  simp only[xq,cOp];rcases P.underlying ty with _|u
  .rfl
  cases u with
  |map key e=>simp only;rcases zU (t:=t) m with⟨h1m,h2m⟩|⟨oam,obm,h1m,h2m,h3m⟩<;>rcases zU (t:=t) k with⟨h1k,h2k⟩|⟨oak,obk,h1k,h2k,h3k⟩<;>generalize zak P key=q1<;>generalize yu P e=q2<;>cases q1<;>cases q2<;>simp only[h1m,h2m,h1k,h2k]<;>first|rfl|simp[zM,wW, *]
  |_=>rfl
 |mapUpdate ty m k v=>
  simp only[xq,cOp];rcases P.underlying ty with _|u
  .rfl
  cases u with
  |map key e=>simp only;rcases zU (t:=t) m with⟨h1m,h2m⟩|⟨oam,obm,h1m,h2m,h3m⟩<;>rcases zU (t:=t) k with⟨h1k,h2k⟩|⟨oak,obk,h1k,h2k,h3k⟩<;>rcases zU (t:=t) v with⟨h1v,h2v⟩|⟨oav,obv,h1v,h2v,h3v⟩<;>generalize zak P key=q1<;>cases q1<;>simp only[h1m,h2m,h1k,h2k]<;>first|rfl|simp[zM,xk,zfz, *]
  |_=>rfl
 |insert ty m k v=>
  simp only[xq,cOp];rcases P.underlying ty with _|u
  .rfl
  cases u with
  |map key e=>simp only;rcases zU (t:=t) m with⟨h1m,h2m⟩|⟨oam,obm,h1m,h2m,h3m⟩<;>rcases zU (t:=t) k with⟨h1k,h2k⟩|⟨oak,obk,h1k,h2k,h3k⟩<;>rcases zU (t:=t) v with⟨h1v,h2v⟩|⟨oav,obv,h1v,h2v,h3v⟩<;>generalize zak P key=q1<;>cases q1<;>simp only[h1m,h2m,h1k,h2k]<;>first|rfl|simp[zM,xk,zfz, *]
  |_=>rfl
 |mapEntry ty m k=>
  simp only[xq,cOp];rcases P.underlying ty with _|u
  .rfl
  cases u with
  |map key e=>simp only;rcases zU (t:=t) m with⟨h1m,h2m⟩|⟨oam,obm,h1m,h2m,h3m⟩<;>rcases zU (t:=t) k with⟨h1k,h2k⟩|⟨oak,obk,h1k,h2k,h3k⟩<;>generalize zak P key=q1<;>generalize yu P e=q2<;>cases q1<;>cases q2<;>simp only[h1m,h2m,h1k,h2k]<;>first|rfl|simp[zM,zbH, *]
  |_=>rfl
 |entryStore ty m s v=>simp only[xq,cOp];rcases zU (t:=t) m with⟨h1m,h2m⟩|⟨oam,obm,h1m,h2m,h3m⟩<;>rcases zU (t:=t) s with⟨h1k,h2k⟩|⟨oak,obk,h1k,h2k,h3k⟩<;>rcases zU (t:=t) v with⟨h1v,h2v⟩|⟨oav,obv,h1v,h2v,h3v⟩<;>simp only[h1m,h2m,h1k,h2k]<;>first|rfl|simp[zM,xk,zbI, *]
 |extract x i=>rcases zU (t:=t) x with⟨h1,h2⟩|⟨a,b,h1,h2,h3⟩<;>simp[xq,cOp,zM,xk,xX, *]
 |call c=>
  obtain⟨callee,args,tys⟩:=c;cases callee with
  |invoke _ _=>rfl
  |value f=>
   simp only[xq,cOp];cases hk:Nat.beq (zcv P f) 0 with
   |false=>
    simp only[Yzd];unfold zBK;rcases args.toList with _|⟨x,_|⟨y,_|⟨z,l⟩⟩⟩<;>try rfl
    .simp only;cases Nat.beq (zcv P f) 1
     .rfl
     rcases zU (t:=t) x with⟨h1,h2⟩|⟨a,b,h1,h2,h3⟩<;>simp[zM,xk,znm, *]
    simp only;cases Nat.beq (zcv P f) 2
    .rfl
    rcases zU (t:=t) x with⟨h1,h2⟩|⟨a,b,h1,h2,h3⟩<;>rcases zU (t:=t) y with⟨h1x,h2x⟩|⟨oax,obx,h1x,h2x,h3x⟩<;>simp[zM,xk,zno, *]
   |true=>
   simp only[Yzb];rcases zU (t:=t) f with⟨h1x,h2x⟩|⟨oax,obx,h1x,h2x,h3x⟩
   .simp only[h1x,h2x];rfl
   rcases zgg (t:=t) args.toList with⟨h1,h2⟩|⟨xs,ys,h1,h2,h3⟩
   .simp only[h1x,h2x,h1,h2];rfl
   simp only[h1x,h2x,h1,h2,YzK,YzI,Yz4,zM,zg9,h3x,zrP _ _ h3]
  |builtin b=>
   cases b with
   |len=>
    simp only[xq,cOp];rcases tys[0]? with _|ty
    .rfl
    rcases args[0]? with _|x
    .rfl
    simp only;rcases P.underlying ty with _|u
    .rfl
    cases u<;>first|rfl|(rcases zU (t:=t) x with⟨h1,h2⟩|⟨a,b,h1,h2,h3⟩<;>simp[zM,xk,za7,za8,zb7, *])
   |append=>
    simp only[xq,cOp];rcases tys.toList with _|⟨t1,_|⟨t2,_|⟨t3,l⟩⟩⟩<;>try rfl
    rcases args.toList with _|⟨s,_|⟨x,_|⟨y,l⟩⟩⟩<;>try rfl
    simp only;rcases P.underlying t1 with _|u
    .rfl
    cases u<;>try rfl
    rename_i e;simp only;rcases P.info? e with _|i
    .rfl
    rcases yu P e with _|z
    .rfl
    simp only;generalize (Nat.beq z.cells.length i.size && !Nat.beq i.size 0)=q;cases q
    .rfl
    rcases P.underlying t2 with _|u2
    .rfl
    generalize (yT P e&&Nat.beq i.size 1)=q6;generalize Nat.beq i.size 1=q5;rcases zU (t:=t) s with⟨h1,h2⟩|⟨a,b,h1,h2,h3⟩<;>rcases zU (t:=t) x with⟨h1x,h2x⟩|⟨oax,obx,h1x,h2x,h3x⟩<;>cases u2<;>cases q5<;>cases q6<;>first|rfl|simp[zM,xk,xE,zbb,zbc, *]
   |unsafeSliceData=>
    simp only[xq,cOp];rcases args.toList with _|⟨x,_|⟨y,l⟩⟩<;>try rfl
    rcases zU (t:=t) x with⟨h1,h2⟩|⟨a,b,h1,h2,h3⟩<;>simp[zM,xk,ut, *]
   |unsafeString=>
    simp only[xq,cOp];rcases tys.toList with _|⟨t1,_|⟨t2,_|⟨t3,l⟩⟩⟩<;>try rfl
    rcases args.toList with _|⟨x,_|⟨y,_|⟨z,l⟩⟩⟩<;>try rfl
    simp only;rcases P.underlying t1 with _|u
    .rfl
    cases u<;>try rfl
    rename_i e;simp only;generalize (yT P e&&Nat.beq (P.cellsOf e) 1)=q;cases q
    .rfl
    rcases zU (t:=t) x with⟨h1,h2⟩|⟨a,b,h1,h2,h3⟩<;>rcases zU (t:=t) y with⟨h1x,h2x⟩|⟨oax,obx,h1x,h2x,h3x⟩<;>simp[zM,xk,zjV, *]
   |cap=>
    simp only[xq,cOp];rcases tys[0]? with _|ty
    .rfl
    rcases args[0]? with _|x
    .rfl
    simp only;rcases P.underlying ty with _|u
    .rfl
    cases u<;>first|rfl|(rcases zU (t:=t) x with⟨h1,h2⟩|⟨a,b,h1,h2,h3⟩<;>simp[zM,xk,zrc, *])
   |copy=>
    simp only[xq,cOp];rcases tys.toList with _|⟨t1,_|⟨t2,_|⟨t3,l⟩⟩⟩<;>try rfl
    rcases args.toList with _|⟨x,_|⟨y,_|⟨z,l⟩⟩⟩<;>try rfl
    simp only;rcases P.underlying t1 with _|u
    .rfl
    rcases P.underlying t2 with _|u2
    .cases u<;>rfl
    cases u<;>try rfl
    all_goals (cases u2<;>try rfl)
    rename_i e e2;simp only;rcases P.info? e with _|i
    .rfl
    simp only;generalize Nat.beq i.size 0=q;cases q
    case true=>rfl
    rcases zU (t:=t) x with⟨h1,h2⟩|⟨a,b,h1,h2,h3⟩<;>rcases zU (t:=t) y with⟨h1x,h2x⟩|⟨oax,obx,h1x,h2x,h3x⟩<;>simp[zM,xk,zjW, *]
   |clear=>
    simp only[xq,cOp];rcases tys[0]? with _|ty
    .rfl
    rcases args[0]? with _|x
    .rfl
    simp only;rcases P.underlying ty with _|u
    .rfl
    cases u<;>try rfl
    rename_i e;simp only;rcases P.info? e with _|i
    .rfl
    rcases yu P e with _|z
    .rfl
    simp only;generalize (Nat.beq z.cells.length i.size && !Nat.beq i.size 0)=q;cases q
    .rfl
    rcases zU (t:=t) x with⟨h1,h2⟩|⟨a,b,h1,h2,h3⟩<;>simp[zM,xk,zdC, *]
   |max=>
    simp only[xq,cOp];rcases zgg (t:=t) args.toList with⟨h1,h2⟩|⟨xs,ys,h1,h2,h3⟩
    .simp only[h1,h2];rfl
    simp only[h1,h2];cases xs<;>cases ys<;>first|rfl|exact h3.elim|simp only[zM,xm,h3.1,zit _ _ _ _ _ h3.2]
   |min=>
    simp only[xq,cOp];rcases zgg (t:=t) args.toList with⟨h1,h2⟩|⟨xs,ys,h1,h2,h3⟩
    .simp only[h1,h2];rfl
    simp only[h1,h2];cases xs<;>cases ys<;>first|rfl|exact h3.elim|simp only[zM,xm,h3.1,zit _ _ _ _ _ h3.2]
   |_=>rfl
 |_=>rfl
end
end Go.CE
end
section
namespace Go.CE
noncomputable section
def uL(r:Fr)(v:Zb):Option Nat->Fr
 |none=>r
 |some d=>fun i=>bif Nat.beq i d then v else r i
def bindR{β:Type}(x:Res)(k:Zb->Za->Option β):Option β:=
 match x with
 |some (v,h)=>k v h
 |none=>none
def zgA(v:Zb)(b:Bool):Bool:=
 match v with
 | .s (.one (.bool c))=>c==b
 |_=>false
section
variable (P:Program)
def yk(nt:Nat)(ops:Array Oper)(o:Oper)(call:zh)(r:Fr)(h:Za):Res:=
 bif inT nt o.dst then
  match o.guard with
  |none=>xq P (coK r) o.op call .nil h
  |some (j,b)=>
   match (ops[j]?).bind (·.dst) with
   |some d=>bif Nat.ble (Nat.succ d) nt then(bif zgA (r d) b then xq P (coK r) o.op call .nil h else some (zn,h)) else none
   |none=>none
 else none
def zCr(nt:Nat)(o:Oper)(r:Fr):Option Zb:=
 match o.guard with
 |some _=>none
 |none=>
  bif inT nt o.dst then
   match o.op with
   | .move x=>(coK r x).map fun c=>c .nil
   | .assign x=>(coK r x).map fun c=>c .nil
   |_=>none
  else none
def ziD{β:Type}(nt:Nat)(ops:Array Oper)(call:zh):List Oper->Fr->Za->(Fr->Za->Option β)->Option β
 | [],r,h,k=>k r h
 |o::os,r,h,k=>
  match zCr nt o r with
  |some v=>ziD nt ops call os (uL r v o.dst) h k
  |none=>bindR (yk P nt ops o call r h) fun v h'=>ziD nt ops call os (uL r v o.dst) h' k
def zpp(i:Nat):List Nat->Bool
 | []=>false
 |j::l=>bif Nat.beq i j then true else zpp i l
def z4(r:Fr)(l:List Nat):Fr:=fun i=>bif zpp i l then r i else zn
def zoT(run:Za->Res)(v:Zb):List Za->Bool
 | []=>true
 |h::hs=>
  (match run h with
  |some (v',_)=>eqA v v'
  |none=>false)&&zoT run v hs
def zwl(hs:List Za):List ((Za->Res)×Zb×Nat×Nat)->Bool
 | []=>true
 |(run,v,lo,hi)::l=>(Nat.beq lo hi||zoT run v ((hs.drop lo).take (Nat.sub (Nat.succ hi) lo)))&&zwl hs l
def kDr{β:Type}(nt:Nat)(ops:Array Oper)(call:zh)(bs:List Nat)(es:List Bool):Nat->List Oper->Fr->Za->List Za->List ((Za->Res)×Zb×Nat×Nat)->(Fr->Za->Option β)->Option β
 |_,[],r,h,hs,cs,k=>bif zwl (hs++[h]) cs then k r h else none
 |i,o::os,r,h,hs,cs,k=>
  match zCr nt o (z4 r (o.looksAt ops)) with
  |some v=>kDr nt ops call bs es (Nat.succ i) os (uL r v o.dst) h hs (cs++[(yk P nt ops o call (z4 r (o.looksAt ops)),v,ce (fun j=>bef bs j i) 0 es,ce (fun j=>!bef bs i j) 0 es)]) k
  |none=>bindR (yk P nt ops o call (z4 r (o.looksAt ops)) h) fun v h'=>
  bif yK P o.op then kDr nt ops call bs es (Nat.succ i) os (uL r v o.dst) h hs (cs++[(yk P nt ops o call (z4 r (o.looksAt ops)),v,ce (fun j=>bef bs j i) 0 es,ce (fun j=>!bef bs i j) 0 es)]) k
  else kDr nt ops call bs es (Nat.succ i) os (uL r v o.dst) h' (hs++[h]) cs k
abbrev CkG:=(Za->Res)×Zb×Nat×Nat×List Nat
def zgZ(run:Za->Res)(v:Zb)(n0:Nat)(hide:List Nat)(mks:List (Nat×Nat×Zg)):Nat->List Za->Bool
 |_,[]=>true
 |k,h::hs=>
  match run ⟨h.n,zdW n0 hide (zcu n0 k mks h.t)⟩ with
  |some (v',_)=>eqA v v'&&zgZ run v n0 hide mks (Nat.succ k) hs
  |none=>false
def zmt(n0:Nat)(mks:List (Nat×Nat×Zg))(hs:List Za):List CkG->Bool
 | []=>true
 |(run,v,lo,hi,hide)::l=>(Nat.beq lo hi||zgZ run v n0 hide mks lo ((hs.drop lo).take (Nat.sub (Nat.succ hi) lo)))&&zmt n0 mks hs l
def mk1(n0 c j:Nat)(t:Tr Zg):List (Nat×Nat×Zg):=
 match t.get (bn (Nat.add n0 j)) with
 |some o=>[(c,j,o)]
 |none=>[]
def zgJ{β:Type}(nt:Nat)(ops:Array Oper)(call:zh)(bs:List Nat)(es:List Bool)(n0:Nat):Nat->List Oper->Fr->Za->Nat->List Za->List CkG->List (Nat×Nat×Zg)->(Fr->Za->Option β)->Option β
 |_,[],r,h,_,hs,cs,mks,k=>bif zmt n0 mks hs cs then k r h else none
 |i,o::os,r,h,c,hs,cs,mks,k=>
  bif zb2 o.op then
   bindR (yk P nt ops o call (z4 r (o.looksAt ops)) ⟨bn (Nat.add n0 i),h.t⟩) fun v h'=>zgJ nt ops call bs es n0 (Nat.succ i) os (uL r v o.dst) ⟨h.n,h'.t⟩ c hs cs (mks++mk1 n0 c i h'.t) k
  else
   bindR (yk P nt ops o call (z4 r (o.looksAt ops)) ⟨h.n,zdW n0 (yH bs i 0 ops.toList) h.t⟩) fun v h'=>
    bif anchor P o.op then
     match zjk n0 h.t (yH bs i 0 ops.toList) h'.t with
     |some t=>zgJ nt ops call bs es n0 (Nat.succ i) os (uL r v o.dst) ⟨h'.n,t⟩ (Nat.succ c) (hs++[⟨h'.n,t⟩]) cs mks k
     |none=>none
    else zgJ nt ops call bs es n0 (Nat.succ i) os (uL r v o.dst) h c hs (cs++[(yk P nt ops o call (z4 r (o.looksAt ops)),v,ce (fun j=>bef bs j i) 0 es,ce (fun j=>!bef bs i j) 0 es,yH bs i 0 ops.toList)]) mks k
def zc4(c:List Zb->Za->List BN->Option (Zf×List Zb×Za×List BN)):Nat->List Zb->Za->List BN->Option (Zf×List Zb×Za×List BN)
 |0,_,_,_=>none
 |n+1,r,h,d=>
  match c r h d with
  |some (.normal,r',h',d')=>zc4 c n r' h' d'
  |x=>x
def bindX{β:Type}(x:Option (Zf×List Zb×Za×List BN))(kx:Nat->List Zb->Za->List BN->Option β)(kr:List Zb->Za->List BN->Option β):Option β:=
 match x with
 |some (.exit id,r,h,d)=>kx id r h d
 |some (.ret,r,h,d)=>kr r h d
 |_=>none
def ifK{β:Type}(v:Zb)(a b:Option β):Option β:=
 match v with
 | .s (.one (.bool q))=>bif q then a else b
 |_=>none
abbrev KK(β:Type):=Zf->Fr->Za->List BN->Option β
def zwL{β:Type}(a:Fr->Za->List BN->Option β)(k:KK β):KK β
 | .normal,r,h,d=>a r h d
 | .exit id,r,h,d=>k (.exit id) r h d
 | .ret,r,h,d=>k .ret r h d
def zAr{β:Type}(id:Nat)(k:KK β):KK β
 | .exit id',r,h,d=>bif Nat.beq id' id then k .normal r h d else k (.exit id') r h d
 | .normal,r,h,d=>k .normal r h d
 | .ret,r,h,d=>k .ret r h d
def rangeK{β:Type}(l:BN)(k:Zf->Za->Option β):Res->Option β
 |some (_,h)=>
  match h.t.get l with
  |some (.loop st pend lf ln lt lps la lb ld)=>
   match st with
   | .busy=>none
   |_=>k (pend.getD .normal) (h.put l (.loop .exhausted pend lf ln lt lps la lb ld))
  |_=>none
 |none=>none
def writes:Code->List Nat
 | .region _ ops _=>ops.toList.filterMap (·.dst)
 | .seq a b=>writes a++writes b
 | .cond _ a b=>writes a++writes b
 | .block _ c=>writes c
 | .loop c=>writes c
 |_=>[]
def zG:List Zb->Nat->Zb
 | [],_=>zn
 |v::l,n=>bif Nat.beq n 0 then v else zG l (Nat.sub n 1)
def zpm:List Nat->Nat->Fr->List Zb->Fr
 | [],_,r,_=>r
 |w::W,k,r,ys=>fun i=>bif Nat.beq i w then zG ys k else zpm W (Nat.succ k) r ys i
def yZ(nt:Nat)(call:zh)(f fn:Nat)(top:Bool):Code->{β:Type}->Fr->Za->List BN->KK β->Option β
 | .skip,_,r,h,d,k=>k .normal r h d
 | .region _ ops draw,_,r,h,d,k=>
  bif draw then(bif P.follows .mixedOrders&&zdl P ops (xz ops.toList) then kDr P nt ops call (xz ops.toList) (zdk P ops.toList) 0 ops.toList r h [] [] (fun r h=>k .normal r h d)
   else bif P.follows .mixedOrders&&zaF P ops (xz ops.toList) then zgJ P nt ops call (xz ops.toList) (zbC P ops.toList) h.n.toNat 0 ops.toList r ⟨bn (Nat.add h.n.toNat ops.toList.length),h.t⟩ 0 [⟨bn (Nat.add h.n.toNat ops.toList.length),h.t⟩] [] [] (fun r h=>k .normal r h d) else none)
  else ziD P nt ops call ops.toList r h (fun r h=>k .normal r h d)
 | .seq a b,_,r,h,d,k=>yZ nt call f fn top a r h d (zwL (fun r h d=>yZ nt call f fn top b r h d k) k)
 | .cond c a b,_,r,h,d,k=>
  match coK r c with
  |some c=>ifK (c .nil) (yZ nt call f fn top a r h d k) (yZ nt call f fn top b r h d k)
  |none=>none
 | .block id c,_,r,h,d,k=>yZ nt call f fn top c r h d (zAr id k)
 | .loop c,_,r,h,d,k=>bindX (zc4 (fun ys h d=>yZ nt call f fn top c (zpm (writes c) 0 r ys) h d (fun e s h d=>some (e,(writes c).map s,h,d))) f ((writes c).map r) h d)
   (fun id ys h d=>k (.exit id) (zpm (writes c) 0 r ys) h d) (fun ys h d=>k .ret (zpm (writes c) 0 r ys) h d)
 | .rangeFunc g ps assign body,_,r,h,d,k=>
  bif top then
   match coK r g with
   |some gv=>
    match gv .nil with
    | .s (.one (.fn gf caps))=>rangeK (h.new .defer).n (fun e h'=>k e r h' (h.n::d)) (call (.inl gf) ([.s (.one (.yld (h.new .defer).n))]++caps.map fun p=>.s (.one (.ptr p.1 p.2))) ((h.new .defer).new (.loop .ready none fn nt (wL r nt) ps assign body h.n)))
    |_=>none
   |none=>none
  else none
 | .exit id,_,r,h,d,k=>k (.exit id) r h d
 | .ret,_,r,h,d,k=>k .ret r h d
 |_,_,_,_,_,_=>none
def zqI(v:Zb):Option SVal:=
 match v with
 | .s v=>some v
 |_=>none
def zCg(n:Option Nat)(v:Zb)(h:Za):Option SVal:=
 match v with
 | .s (.one (.ptr b off))=>zas n off (h.t.get b)
 |_=>none
def zdX(v:Option SVal)(l:Option (List SVal)):Option (List SVal):=
 match v with
 |some v=>wv v l
 |none=>none
def zdw(r:Fr)(h:Za):ResultVar->Option SVal
 | .tmp i=>zqI (r i)
 | .cell i t=>
  match wF P t with
  |some n=>zCg n (r i) h
  |none=>none
def zbZ(r:Fr)(h:Za):List ResultVar->Option (List SVal)
 | []=>some []
 |x::rs=>zdX (zdw P r h x) (zbZ r h rs)
def zi0(rs:List ResultVar):Zf->Fr->Za->List BN->Res
 | .exit _,_,_,_=>none
 |_,r,h,d=>
  match shut d h with
  |some h'=>zb4 h' (zbZ P r h' rs)
  |none=>none
def zhp(call:zh)(f:Nat)(l:BN)(args:List Zb)(h:Za):Res:=
 match h.t.get l with
 |some (.loop .ready _ lf ln lt lps la lb _)=>
  match zlm ln lt lps.toList args with
  |some t=>yZ P ln call f lf false la (wa t) h [] (fun e r1 h1 d1=>
    match e,d1 with
    | .normal,[]=>
     match zgr l h1 with
     |some h2=>yZ P ln call f lf false lb r1 h2 [] (fun e _ h3 d2=>
       match d2 with
       | []=>endR l e h3
       |_=>none)
     |none=>none
    |_,_=>none)
  |none=>none
 |_=>none
def znI(g:Nat)(call:zh)(f:Nat)(args:List Zb)(h:Za):Res:=
 match P.funcs[g]? with
 |some fn=>
  match fn.body with
  |some c=>bif (zje P fn.results.toList).isNone||fn.name == "runtime.NumGoroutine" then none else bif zuU args fn.ntmps then yZ P fn.ntmps call f g true c (wa (w7 .z .nil args)) h [] (zi0 P fn.results.toList) else none
  |none=>none
 |none=>none
end
end
section
variable {P:Program} {nt:Nat}
theorem beq_iff(a b:Nat):Nat.beq a b=true↔a=b:=⟨Lz1,fun h=>by simp_all⟩
theorem wZ(t:Tr Zb)(v:Zb)(d:Option Nat):wa (zfd t v (d.map bn))=uL (wa t) v d:=by cases d<;>grind[wa,zfd,uL,zec,beq_iff,zC,zah,zt]
theorem zwu(t:Tr Zb)(g:Nat)(b:Bool):want t (some (bn g,b))=zgA (wa t g) b:=by
 simp only[want,wa,zec];cases t.get (bn g) with
 |none=>rfl
 |some v=>cases v with
  |tup _=>rfl
  |s v=>cases v with
   |agg _=>rfl
   |one c=>cases c<;>rfl
theorem zbQ(ops:Array Oper)(o:Oper)(call:zh)(t:Tr Zb)(h:Za)(v:Zb)(h':Za)(e:yk P nt ops o call (wa t) h=some (v,h')):
  xW call (yX P nt ops o) t h=some (v,h')/\(yX P nt ops o).dst=o.dst.map bn:=by
 unfold yk at e;unfold yX;cases hin:inT nt o.dst
 .grind
 rw[hin]at e;simp only[Yzb]at e ⊢;rcases hg:o.guard with _|p
 .rw[hg]at e;simp only[zs5]at e;trivial
 grind[zs5,xW,zwu]
theorem zsz(call:zh)(o:Zp)(t:Tr Zb)(h:Za):zev call o t h=zCX t o.dst (xW call o t h):=by obtain⟨d,op,g⟩:=o;simp only[zev,xW];cases want t g<;>rfl
theorem xL{r:Fr}{v:Zb}{d:Option Nat}{i:Nat}(h:d≠some i):uL r v d i=r i:=by
 rcases d with _|d
 .rfl
 grind[uL,beq_iff]
theorem zlG{ops:Array Oper}{o:Oper}{call:zh}{r:Fr}{v:Zb}(e:zCr nt o r=some v)(h:Za):yk P nt ops o call r h=some (v,h)/\yK P o.op=true:=by
 unfold zCr at e;unfold yk;cases hg:o.guard
 case some=>grind
 rw[hg]at e;simp only at e ⊢;cases hi:inT nt o.dst
 .grind
 rw[hi]at e;simp only[Yzb]at e ⊢;split at e
 .rename_i x hx;rw[hx];simp only[xq,yK];rcases hc:coK r x with _|c
  .grind
  rw[hc]at e;cases e;trivial
 .rename_i x hx;rw[hx];simp only[xq,yK];rcases hc:coK r x with _|c
  .grind
  rw[hc]at e;cases e;trivial
 cases e
theorem zbg{β:Type}(ops:Array Oper)(call:zh)(o:Oper)(os:List Oper)(r:Fr)(h:Za)(k:Fr->Za->Option β):
  ziD P nt ops call (o::os) r h k=bindR (yk P nt ops o call r h) fun v h'=>ziD P nt ops call os (uL r v o.dst) h' k:=by
 rw[ziD];split
 .rename_i v hv;rw[(zlG hv h).1];rfl
 rfl
theorem znJ{β:Type}(ops:Array Oper)(call:zh)(bs:List Nat)(es:List Bool)(i:Nat)(o:Oper)(os:List Oper)(r:Fr)(h:Za)(hs:List Za)(cs:List ((Za->Res)×Zb×Nat×Nat))(k:Fr->Za->Option β):
  kDr P nt ops call bs es i (o::os) r h hs cs k=bindR (yk P nt ops o call (z4 r (o.looksAt ops)) h) fun v h'=>
   bif yK P o.op then kDr P nt ops call bs es (Nat.succ i) os (uL r v o.dst) h hs (cs++[(yk P nt ops o call (z4 r (o.looksAt ops)),v,ce (fun j=>bef bs j i) 0 es,ce (fun j=>!bef bs i j) 0 es)]) k
   else kDr P nt ops call bs es (Nat.succ i) os (uL r v o.dst) h' (hs++[h]) cs k:=by
 rw[kDr];split
 .rename_i v hv;rw[(zlG hv h).1];simp only[bindR];rw[(zlG (P:=P) (ops:=ops) (call:=call) hv h).2];rfl
 rfl
theorem zr9{β:Type}(ops:Array Oper)(call:zh):∀(os:List Oper) (t:Tr Zb) (h:Za) (k:Fr->Za->Option β) (x:β),ziD P nt ops call os (wa t) h k=some x->
  ∃t' h',zpG call (os.map (yX P nt ops)) t h=some (t',h')/\k (wa t') h'=some x/\∀i,i∉os.filterMap (·.dst)->wa t' i=wa t i
 | [],t,h,k,x,e=>⟨t,h,rfl,e,fun _ _=>rfl⟩
 |o::os,t,h,k,x,e=>by
  rw[zbg]at e;simp only[bindR]at e;split at e
  .rename_i v h' hq;obtain⟨e1,e2⟩:=zbQ ops o call t h v h' hq;rw[<-wZ]at e;obtain⟨t',h'',e3,e4,e5⟩:=zr9 ops call os _ _ _ _ e;refine⟨t',h'',?_,e4,fun i hi=>?_⟩
   .rw[Yzw,zhy,zsz,e1,e2];exact e3
   simp only[List.filterMap_cons]at hi;rw[e5 i,wZ,xL]
   .grind
   grind
  cases e
theorem zc2(i:Nat):∀l:List Nat,zpp i l=true↔i∈l
 | []=>by simp[zpp]
 |j::l=>by
  simp only[zpp,Yya];cases hq:Nat.beq i j
  case true=>simp_all
  have:i≠j:=fun e=>by simp_all
  simp[this,zc2 i l]
theorem zbS(t:Tr Zb)(l:List Nat):wa (zap t (l.map bn))=z4 (wa t) l:=by
 funext i
 simp only[wa,z4,zec];rw[ur];have hm:bn i∈l.map bn↔i∈l:=⟨fun h=>by grind[zah],fun h=>List.mem_map_of_mem h⟩;cases hq:zpp i l
 case true=>simp_all[zc2]
 rw[Yza (fun hh=>by grind[zc2])];rfl
theorem zmZ{call:zh}{ops:Array Oper}{o:Oper}{t:Tr Zb}{v:Zb}:∀hs:List Za,zoT (yk P nt ops o call (wa t)) v hs=true->sameAt call (yX P nt ops o) t v hs=true
 | [],_=>rfl
 |h::hs,e=>by
  simp only[zoT]at e;obtain⟨e1,e2⟩:=j7 e;unfold sameAt;split at e1
  .rename_i v' h' hq;obtain⟨k1,_⟩:=zbQ ops o call t h v' h' hq;rw[k1];simp only;rw[e1,zmZ hs e2];rfl
  cases e1
def CkR(P:Program)(nt:Nat)(ops:Array Oper)(call:zh):List ((Za->Res)×Zb×Nat×Nat)->List (Zk×Tr Zb×Zb)->Prop
 | [],l=>∀x∈l,x.1.eff=true
 |(run,v,lo,hi)::cs,l=>∃pre d tr rest,l=pre++(d,tr,v)::rest/\(∀x∈pre,x.1.eff=true)/\d.lo=lo/\d.hi=hi/\(∃o,d.rop=yX P nt ops o/\run=yk P nt ops o call (wa tr))/\CkR P nt ops call cs rest
theorem zpM(call:zh)(hs:List Za)(l l':List (Zk×Tr Zb×Zb)):uY call hs (l++l')=(uY call hs l&&uY call hs l'):=by induction l<;>grind[uY]
theorem zd2(call:zh)(hs:List Za):∀l:List (Zk×Tr Zb×Zb),(∀x∈l,x.1.eff=true)->uY call hs l=true
 | [],_=>rfl
 |(d,tr,v)::l,h=>by simp only[uY];rw[h _ (Yzf ..),zd2 call hs l fun x hx=>h x (Yze _ hx)];rfl
theorem zoi{call:zh}{ops:Array Oper}{hs:List Za}:∀(cs:List ((Za->Res)×Zb×Nat×Nat)) (l:List (Zk×Tr Zb×Zb)),CkR P nt ops call cs l->zwl hs cs=true->uY call hs l=true
 | [],l,h,_=>zd2 call hs l h
 |(run,v,lo,hi)::cs,l,⟨pre,d,tr,rest,h1,h2,h3,h4,⟨o,h5,h6⟩,h7⟩,e=>by
  subst h1 h3 h4 h6;simp only[zwl]at e;obtain⟨e1,e2⟩:=j7 e;rw[zpM,zd2 call hs pre h2];simp only[uY,Yyb];rw[zoi cs rest h7 e2,Yyn];rcases YzH _ _ |>.mp e1 with k|k
  .grind
  grind[zmZ]
theorem ztv{call:zh}{ops:Array Oper}{x:Zk×Tr Zb×Zb}(hx:x.1.eff=true):∀(cs:List ((Za->Res)×Zb×Nat×Nat)) (l:List (Zk×Tr Zb×Zb)),CkR P nt ops call cs l->CkR P nt ops call cs (l++[x])
 | [],l,h=>fun y hy=>by
  rcases List.mem_append.1 hy with k|k
  .exact h y k
  grind
 |(run,v,lo,hi)::cs,l,⟨pre,d,tr,rest,h1,h2,h3,h4,h5,h6⟩=>⟨pre,d,tr,rest++[x],by grind,h2,h3,h4,h5,ztv hx cs rest h6⟩
theorem zk0{call:zh}{ops:Array Oper}{d:Zk}{tr:Tr Zb}{v:Zb}{o:Oper}(hd:d.rop=yX P nt ops o):∀(cs:List ((Za->Res)×Zb×Nat×Nat)) (l:List (Zk×Tr Zb×Zb)),CkR P nt ops call cs l->
  CkR P nt ops call (cs++[(yk P nt ops o call (wa tr),v,d.lo,d.hi)]) (l++[(d,tr,v)])
 | [],l,h=>⟨l,d,tr,[],rfl,h,rfl,rfl,⟨o,hd,rfl⟩,fun y hy=>by cases hy⟩
 |(run,v',lo,hi)::cs,l,⟨pre,d',tr',rest,h1,h2,h3,h4,h5,h6⟩=>⟨pre,d',tr',rest++[(d,tr,v)],by grind,h2,h3,h4,h5,zk0 hd cs rest h6⟩
theorem zsa{β:Type}(ops:Array Oper)(call:zh)(bs:List Nat)(es:List Bool)(k:Fr->Za->Option β)(x:β):
  ∀(os:List Oper) (i:Nat) (t:Tr Zb) (h:Za) (hs:List Za) (cs:List ((Za->Res)×Zb×Nat×Nat)) (l0:List (Zk×Tr Zb×Zb)),CkR P nt ops call cs l0->
   kDr P nt ops call bs es i os (wa t) h hs cs k=some x->
   ∃l t' hs',evD call (j6 P nt ops bs es i os) t h=some (l,t',hs')/\uY call (hs++hs') (l0++l)=true/\hs'≠[]/\k (wa t') (ziz h hs')=some x/\∀i,i∉os.filterMap (·.dst)->wa t' i=wa t i
 | [],i,t,h,hs,cs,l0,hc,e=>by
  simp only[kDr]at e;cases hq:zwl (hs++[h]) cs
  .grind
  rw[hq]at e;exact⟨[],t,[h],rfl,by grind[zoi],by simp,e,fun _ _=>rfl⟩
 |o::os,i,t,h,hs,cs,l0,hc,e=>by
  rw[znJ]at e;simp only[bindR]at e;split at e
  .rename_i v h' hq;rw[<-zbS]at hq e;obtain⟨e1,e2⟩:=zbQ ops o call _ h v h' hq;rw[<-wZ]at e;simp only[j6,evD];rw[e1];simp only;cases hqo:yK P o.op
   .rw[hqo]at e;simp only[Yzd,Bool.not_false,Yzb]at e ⊢;obtain⟨l,t',hs',k1,k2,k3,k4,k5⟩:=zsa ops call bs es k x os _ _ _ _ _ (l0++[(⟨yX P nt ops o,(o.looksAt ops).map bn,true,ce (fun j=>bef bs j i) 0 es,ce (fun j=>!bef bs i j) 0 es⟩,zap t ((o.looksAt ops).map bn),v)])
     (ztv rfl cs l0 hc) e
    rw[e2,k1];refine⟨_,_,_,rfl,?_,?_,?_,fun i hi=>?_⟩
    .grind
    .simp
    .simp only[Yzb,ziz];cases hs' with
     |nil=>trivial
     |cons a b=>exact k4
    simp only[List.filterMap_cons]at hi;rw[k5 i,wZ,xL]
    .grind
    grind
   rw[hqo]at e;simp only[Yzb,Yyo,Yzd]at e ⊢;obtain⟨l,t',hs',k1,k2,k3,k4,k5⟩:=zsa ops call bs es k x os _ _ _ _ _ (l0++[(⟨yX P nt ops o,(o.looksAt ops).map bn,false,ce (fun j=>bef bs j i) 0 es,ce (fun j=>!bef bs i j) 0 es⟩,zap t ((o.looksAt ops).map bn),v)])
    (zk0 (d:=⟨yX P nt ops o,(o.looksAt ops).map bn,false,ce (fun j=>bef bs j i) 0 es,ce (fun j=>!bef bs i j) 0 es⟩) rfl cs l0 hc) e
   rw[e2,k1];refine⟨_,_,_,rfl,?_,?_,?_,fun i hi=>?_⟩
   .grind
   .exact k3
   .exact k4
   simp only[List.filterMap_cons]at hi;rw[k5 i,wZ,xL]
   .grind
   grind
  cases e
section
variable {ops:Array Oper} {call:zh} {n0:Nat}
theorem zjJ{o:Oper}{t:Tr Zb}{v:Zb}{d:Zq}(hd:d.rop=yX P nt ops o){mks:List (Nat×Nat×Zg)}:∀(hs:List Za) (k:Nat),zgZ (yk P nt ops o call (wa t)) v n0 d.hide mks k hs=true->zoU call n0 d t v mks k hs=true
 | [],_,_=>rfl
 |h::hs,k,e=>by
  simp only[zgZ]at e;simp only[zoU];split at e
  .rename_i v' h' hq;obtain⟨k1,_⟩:=zbQ ops o call t _ v' h' hq;obtain⟨e1,e2⟩:=j7 e;rw[hd,k1];simp only;rw[e1,zjJ hd hs _ e2];rfl
  cases e
def zza(P:Program)(nt:Nat)(ops:Array Oper)(call:zh):List CkG->List GE->Prop
 | [],l=>∀g∈l,(g.d.eff||g.d.mkb)=true
 |(run,v,lo,hi,hide)::cs,l=>∃pre g rest,l=pre++g::rest/\(∀x∈pre,(x.d.eff||x.d.mkb)=true)/\g.v=v/\g.d.lo=lo/\g.d.hi=hi/\g.d.hide=hide/\(∃o,g.d.rop=yX P nt ops o/\run=yk P nt ops o call (wa g.tr))/\zza P nt ops call cs rest
theorem zpL{mks:List (Nat×Nat×Zg)}{hs:List Za}(l l':List GE):uX call n0 mks hs (l++l')=(uX call n0 mks hs l&&uX call n0 mks hs l'):=by induction l<;>grind[uX]
theorem zd1{mks:List (Nat×Nat×Zg)}{hs:List Za}:∀l:List GE,(∀x∈l,(x.d.eff||x.d.mkb)=true)->uX call n0 mks hs l=true
 | [],_=>rfl
 |g::l,h=>by simp only[uX];rw[h _ (Yzf ..),zd1 l fun x hx=>h x (Yze _ hx)];simp
theorem zsW{mks:List (Nat×Nat×Zg)}{hs:List Za}:∀(cs:List CkG) (l:List GE),zza P nt ops call cs l->zmt n0 mks hs cs=true->uX call n0 mks hs l=true
 | [],l,h,_=>zd1 l h
 |(run,v,lo,hi,hide)::cs,l,⟨pre,g,rest,h1,h2,h3,h4,h5,h6,⟨o,h7,h8⟩,h9⟩,e=>by
  subst h1 h3 h4 h5 h6 h8;simp only[zmt]at e;obtain⟨e1,e2⟩:=j7 e;rw[zpL,zd1 pre h2];simp only[uX,Yyb];rw[zsW cs rest h9 e2,Yyn];rcases YzH _ _ |>.mp e1 with k|k
  .grind
  grind[zjJ]
theorem zjp{x:GE}(hx:(x.d.eff||x.d.mkb)=true):∀(cs:List CkG) (l:List GE),zza P nt ops call cs l->zza P nt ops call cs (l++[x])
 | [],l,h=>fun y hy=>by
  rcases List.mem_append.1 hy with k|k
  .exact h y k
  grind
 |(run,v,lo,hi,hide)::cs,l,⟨pre,g,rest,h1,h2,h3,h4,h5,h6,h7,h8⟩=>⟨pre,g,rest++[x],by grind,h2,h3,h4,h5,h6,h7,zjp hx cs rest h8⟩
theorem zhI{g:GE}{o:Oper}(hd:g.d.rop=yX P nt ops o):∀(cs:List CkG) (l:List GE),zza P nt ops call cs l->
  zza P nt ops call (cs++[(yk P nt ops o call (wa g.tr),g.v,g.d.lo,g.d.hi,g.d.hide)]) (l++[g])
 | [],l,h=>⟨l,g,[],rfl,h,rfl,rfl,rfl,rfl,⟨o,hd,rfl⟩,fun y hy=>by cases hy⟩
 |(run,v',lo,hi,hide)::cs,l,⟨pre,g',rest,h1,h2,h3,h4,h5,h6,h7,h8⟩=>⟨pre,g',rest++[g],by grind,h2,h3,h4,h5,h6,h7,zhI hd cs rest h8⟩
theorem ziE{β:Type}(bs:List Nat)(es:List Bool)(k:Fr->Za->Option β)(x:β):
  ∀(os:List Oper) (i:Nat) (t:Tr Zb) (h:Za) (c:Nat) (hs:List Za) (cs:List CkG) (mks:List (Nat×Nat×Zg)) (l0:List GE),zza P nt ops call cs l0->
   zgJ P nt ops call bs es n0 i os (wa t) h c hs cs mks k=some x->
   ∃l t' h',evG call n0 i (xt P nt ops bs es i os) t h=some (l,t',h')/\uX call n0 (mks++zk1 n0 c i l) (hs++hsG l) (l0++l)=true/\k (wa t') h'=some x/\∀i,i∉os.filterMap (·.dst)->wa t' i=wa t i
 | [],i,t,h,c,hs,cs,mks,l0,hc,e=>by
  simp only[zgJ]at e;cases hq:zmt n0 mks hs cs
  .grind
  rw[hq]at e;exact⟨[],t,h,rfl,by grind[zk1,hsG,zsW],e,fun _ _=>rfl⟩
 |o::os,i,t,h,c,hs,cs,mks,l0,hc,e=>by
  have agree:∀(t2 t':Tr Zb) (v:Zb),(yX P nt ops o).dst=o.dst.map bn->t2=zfd t v (yX P nt ops o).dst->(∀i,i∉os.filterMap (·.dst)->wa t' i=wa t2 i)->∀i,i∉(o::os).filterMap (·.dst)->wa t' i=wa t i:=by
   intro t2 t' v hd h2 H i hi;subst h2;simp only[List.filterMap_cons]at hi;rw[H i (fun hm=>hi (by grind)),hd,wZ]
   grind[xL]
  simp only[zgJ]at e;simp only[xt,evG,stepG];cases hm:zb2 o.op
  .rw[hm]at e;simp only[Yzd,bindR]at e ⊢;split at e
   .rename_i v h' hq;rw[<-zbS]at hq;obtain⟨e1,e2⟩:=zbQ ops o call _ _ v h' hq;rw[<-wZ,<-e2]at e;rw[e1];simp only;cases ha:anchor P o.op
    .rw[ha,<-zbS]at e;simp only[Yzd]at e ⊢
     let g:GE:=⟨⟨yX P nt ops o,(o.looksAt ops).map bn,false,false,ce (fun j=>bef bs j i) 0 es,ce (fun j=>!bef bs i j) 0 es,yH bs i 0 ops.toList⟩,zap t ((o.looksAt ops).map bn),v,h,h⟩
     obtain⟨l,t',h2,k1,k2,k3,k4⟩:=ziE bs es k x os _ _ _ _ _ _ _ (l0++[g]) (zhI (g:=g) rfl cs l0 hc) e;rw[k1];refine⟨_,_,_,rfl,?_,k3,agree _ _ v e2 rfl k4⟩
     grind[zk1,hsG]
    rw[ha]at e;simp only[Yzb]at e ⊢;split at e
    .rename_i t1 ht;rw[ht];simp only
     let g:GE:=⟨⟨yX P nt ops o,(o.looksAt ops).map bn,true,false,ce (fun j=>bef bs j i) 0 es,ce (fun j=>!bef bs i j) 0 es,yH bs i 0 ops.toList⟩,zap t ((o.looksAt ops).map bn),v,h,⟨h'.n,t1⟩⟩
     obtain⟨l,t',h2,k1,k2,k3,k4⟩:=ziE bs es k x os _ _ _ _ _ _ _ (l0++[g]) (zjp (x:=g) rfl cs l0 hc) e;rw[k1];refine⟨_,_,_,rfl,?_,k3,agree _ _ v e2 rfl k4⟩
     grind[zk1,hsG]
    cases e
   cases e
  rw[hm]at e;have ha:anchor P o.op=false:=by grind[anchor]
  simp only[Yzb,bindR]at e ⊢;split at e
  .rename_i v h' hq;rw[<-zbS]at hq;obtain⟨e1,e2⟩:=zbQ ops o call _ _ v h' hq;rw[<-wZ,<-e2]at e;rw[e1];simp only
   let g:GE:=⟨⟨yX P nt ops o,(o.looksAt ops).map bn,anchor P o.op,true,ce (fun j=>bef bs j i) 0 es,ce (fun j=>!bef bs i j) 0 es,yH bs i 0 ops.toList⟩,zap t ((o.looksAt ops).map bn),v,h,⟨h.n,h'.t⟩⟩
   obtain⟨l,t',h2,k1,k2,k3,k4⟩:=ziE bs es k x os _ _ _ _ _ _ _ (l0++[g]) (zjp (x:=g) (by grind) cs l0 hc) e;rw[k1];refine⟨_,_,_,rfl,?_,k3,agree _ _ v e2 rfl k4⟩;simp only[zk1,hsG,ha,Yzb,Yzd]
   grind[mk1]
  cases e
theorem zez(bs:List Nat)(es:List Bool):∀(os:List Oper) (i:Nat),(xt P nt ops bs es i os).length=os.length
 | [],_=>rfl
 |o::os,i=>by simp only[xt,Yzh,zez bs es os]
end
theorem zrt:∀(l:List Zb) (n:Nat),zG l n=(l[n]?).getD zn
 | [],_=>rfl
 |v::l,n=>by
  cases n with
  |zero=>rfl
  |succ n=>simp only[zG,Yzt];exact zrt l n
theorem znC{r s:Fr}(V:List Nat):∀(W:List Nat) (k:Nat),(∀n w,W[n]? = some w->V[k+n]? = some w)->∀i,(i∉W->s i=r i)->zpm W k r (V.map s) i=s i
 | [],k,_,i,h=>(h (by simp)).symm
 |w::W,k,hW,i,h=>by
  simp only[zpm];cases hq:Nat.beq i w
  .simp only[Yzd];refine znC V W (k+1) (fun n w' hn=>?_) i (fun hi=>h ?_)
   .have:=hW (n+1) w' hn
    grind
   intro hm;simp_all
  have:=hW 0 w rfl;simp_all[zrt]
theorem zfK{W:List Nat}{r s:Fr}(h:∀i,i∉W->s i=r i):zpm W 0 r (W.map s)=s:=
 funext fun i=>znC W W 0 (fun n w hn=>by rwa [Yzi]) i (h i)
theorem ziu{call:zh}{f fn:Nat}{ro:Option BN}{top:Bool}{c:Code}{r0:Fr} (H:∀(β:Type) (t:Tr Zb) (d:List BN) (h:Za) (k:KK β) (x:β),yZ P nt call f fn top c (wa t) h d k=some x->
   ∃e t' h' d',zT P nt c call f fn ro ⟨t,d,h⟩=some (e,⟨t',d',h'⟩)/\k e (wa t') h' d'=some x/\∀i,i∉writes c->wa t' i=wa t i):
  ∀(n:Nat) (t:Tr Zb) (d:List BN) (h:Za) (e:Zf) (ys:List Zb) (h':Za) (d':List BN),(∀i,i∉writes c->wa t i=r0 i)->
   zc4 (fun ys h d=>yZ P nt call f fn top c (zpm (writes c) 0 r0 ys) h d (fun e s h d=>some (e,(writes c).map s,h,d))) n ((writes c).map (wa t)) h d=some (e,ys,h',d')->
   ∃t',zj8 (zT P nt c call f fn ro) n ⟨t,d,h⟩=some (e,⟨t',d',h'⟩)/\ys=(writes c).map (wa t')/\∀i,i∉writes c->wa t' i=r0 i
 |0,_,_,_,_,_,_,_,_,e=>by cases e
 |n+1,t,d,h,e,ys,h',d',ht,hh=>by
  simp only[zc4]at hh;rw[zfK ht]at hh;have hN:zj8 (zT P nt c call f fn ro) (n+1) ⟨t,d,h⟩=(match zT P nt c call f fn ro ⟨t,d,h⟩ with
   |some (.normal,s')=>zj8 (zT P nt c call f fn ro) n s'
   |r=>r):=rfl
  rw[hN];split at hh
  .rename_i r1 h1 d1 hq;obtain⟨e1,t1,h2,d2,k1,k2,k3⟩:=H _ t d h _ _ hq;cases k2;rw[k1];exact ziu H n t1 d1 h1 e ys h' d' (fun i hi=>(k3 i hi).trans (ht i hi)) hh
  rename_i x hx;obtain⟨e1,t1,h2,d2,k1,k2,k3⟩:=H _ t d h _ _ hh;cases k2;rw[k1];cases e<;>grind
theorem ziF{call:zh}{f fn:Nat}{ro:Option BN}{top:Bool}(hro:top=true->ro=none)(c:Code):∀(β:Type) (t:Tr Zb) (d:List BN) (h:Za) (k:KK β) (x:β),yZ P nt call f fn top c (wa t) h d k=some x->
  ∃e t' h' d',zT P nt c call f fn ro ⟨t,d,h⟩=some (e,⟨t',d',h'⟩)/\k e (wa t') h' d'=some x/\∀i,i∉writes c->wa t' i=wa t i:=by
 induction c with
 |skip=>exact fun β t d h k x e=>⟨.normal,t,h,d,rfl,e,fun _ _=>rfl⟩
 |region id ops draw=>
  intro β t d h k x e;simp only[yZ]at e;simp only[zT];cases draw
  .simp only[Yzd]at e ⊢;obtain⟨t',h',k1,k2,k3⟩:=zr9 ops call ops.toList t h _ x e;exact⟨.normal,t',h',d,by simp only[zCi,k1];rfl,k2,k3⟩
  simp only[Yzb]at e ⊢;cases hq:P.follows .mixedOrders&&zdl P ops (xz ops.toList)
  .rw[hq]at e;simp only[Yzd]at e ⊢;cases hq2:P.follows .mixedOrders&&zaF P ops (xz ops.toList)
   .grind
   rw[hq2]at e;simp only[Yzb]at e ⊢;obtain⟨l,t',h',k1,k2,k3,k4⟩:=ziE (call:=call) (n0:=h.n.toNat) _ _ _ x ops.toList 0 t _ 0 _ [] [] [] (fun y hy=>by cases hy) e;refine⟨.normal,t',h',d,?_,k3,k4⟩
   grind[zoa,uI,zez]
  rw[hq]at e;simp only[Yzb]at e ⊢;obtain⟨l,t',hs',k1,k2,k3,k4,k5⟩:=zsa ops call _ _ _ x ops.toList 0 t h [] [] [] (fun y hy=>by cases hy) e;refine⟨.normal,t',ziz h hs',d,?_,k4,k5⟩
  grind[zob,zeB]
 |seq a b iha ihb=>
  intro β t d h k x e;simp only[yZ]at e;obtain⟨e1,t1,h1,d1,k1,k2,k3⟩:=iha β t d h _ x e;simp only[zT,zE2];rw[k1];have hw:∀i,i∉writes (a.seq b)->i∉writes a/\i∉writes b:=fun i hi=>by grind[writes]
  cases e1 with
  |normal=>obtain⟨e2,t2,h2,d2,j1,j2,j3⟩:=ihb β t1 d1 h1 k x k2;exact⟨e2,t2,h2,d2,j1,j2,fun i hi=>(j3 i (hw i hi).2).trans (k3 i (hw i hi).1)⟩
  |exit id=>exact⟨_,t1,h1,d1,rfl,k2,fun i hi=>k3 i (hw i hi).1⟩
  |ret=>exact⟨_,t1,h1,d1,rfl,k2,fun i hi=>k3 i (hw i hi).1⟩
 |cond c a b iha ihb=>
  intro β t d h k x e;simp only[yZ]at e;simp only[zT];have hw:∀i,i∉writes (Code.cond c a b)->i∉writes a/\i∉writes b:=fun i hi=>by grind[writes]
  rcases zU (t:=t) c with⟨h1,h2⟩|⟨p,q,h1,h2,h3⟩
  .grind
  rw[h1]at e;rw[h2];simp only[ifK,zyL]at e ⊢
  grind
 |block id c ih=>
  intro β t d h k x e;simp only[yZ]at e;obtain⟨e1,t1,h1,d1,k1,k2,k3⟩:=ih β t d h _ x e;simp only[zT,zwm];rw[k1];cases e1 with
  |normal=>exact⟨_,t1,h1,d1,rfl,k2,k3⟩
  |ret=>exact⟨_,t1,h1,d1,rfl,k2,k3⟩
  |exit id'=>
   simp only[zCm,zAr]at k2 ⊢;cases hq:Nat.beq id' id
   .rw[hq]at k2;exact⟨_,t1,h1,d1,rfl,k2,k3⟩
   rw[hq]at k2;exact⟨_,t1,h1,d1,rfl,k2,k3⟩
 |loop c ih=>
  intro β t d h k x e;simp only[yZ,bindX]at e;simp only[zT,zAS];split at e
  .rename_i id ys h1 d1 hq;obtain⟨t',k1,k2,k3⟩:=ziu ih f t d h _ ys h1 d1 (fun _ _=>rfl) hq;rw[k2,zfK k3]at e;exact⟨_,t',h1,d1,k1,e,k3⟩
  .rename_i ys h1 d1 hq;obtain⟨t',k1,k2,k3⟩:=ziu ih f t d h _ ys h1 d1 (fun _ _=>rfl) hq;rw[k2,zfK k3]at e;exact⟨_,t',h1,d1,k1,e,k3⟩
  cases e
 |rangeFunc g ps assign body=>
  intro β t d h k x e;simp only[yZ]at e;cases top with
  |false=>cases e
  |true=>
  obtain rfl:=hro rfl;simp only[Yzb]at e;simp only[zT];rcases zU (t:=t) g with⟨h1,h2⟩|⟨p,q,h1,h2,h3⟩
  .grind
  rw[h1]at e;rw[h2];simp only[zqO,zm8]at e ⊢;rw[h3]at e;split at e
  .rename_i gf caps hq;rw[hq];simp only;unfold rangeK at e;split at e
   .rename_i v hh hc;split at e
    .rename_i st pend lf ln lt lps la lb ld hl;have hc':call (.inl gf) ([.s (.one (.yld (h.new .defer).n))]++caps.map fun p=>.s (.one (.ptr p.1 p.2))) ((h.new .defer).new (.loop .ready none fn nt (wL (fun i=>zec (bn i) t) nt) ps assign body h.n))=some (v,hh):=hc;cases st with
     |busy=>cases e
     |ready=>exact⟨_,t,_,_,by grind[zg4],e,fun _ _=>rfl⟩
     |done=>exact⟨_,t,_,_,by grind[zg4],e,fun _ _=>rfl⟩
     |exhausted=>exact⟨_,t,_,_,by grind[zg4],e,fun _ _=>rfl⟩
    cases e
   cases e
  cases e
 |exit id=>exact fun β t d h k x e=>⟨.exit id,t,h,d,rfl,e,fun _ _=>rfl⟩
 |ret=>exact fun β t d h k x e=>⟨.ret,t,h,d,rfl,e,fun _ _=>rfl⟩
 |_=>grind[yZ]
theorem zh3(t:Tr Zb)(h:Za):∀(l:List ResultVar) (rs:List (BN×Option (Option Nat))),zje P l=some rs->zbZ P (wa t) h l=zbo t h rs
 | [],rs,e=>by cases e;rfl
 | .tmp i::l,rs,e=>by
  simp only[zje]at e;split at e
  .rename_i rs' hq;cases e;simp only[zbZ,zbo];rw[zh3 t h l rs' hq];simp only[zdw,zhx,zqI,wa,zec];rcases t.get (bn i) with _|v
   .rfl
   cases v<;>rfl
  cases e
 | .cell i ty::l,rs,e=>by
  simp only[zje]at e;split at e
  .rename_i n rs' hn hq;cases e;simp only[zbZ,zbo];rw[zh3 t h l rs' hq];simp only[zdw,zhx,zCg,wa,zec,hn];rcases t.get (bn i) with _|v
   .rfl
   cases v with
   |tup _=>rfl
   |s v=>cases v with
    |agg _=>rfl
    |one c=>cases c<;>rfl
  cases e
theorem zBJ(P:Program)(g:Nat):cFs (yI P) g=(P.funcs[g]?).bind (zmy P):=by
 unfold cFs yI;have:=kI (P.funcs.toList.map (zmy P)) 0 .nil g;rw[show bn 0=BN.z from rfl]at this;rw[this];simp only[Nat.not_lt_zero,if_false,Nat.sub_zero,Lz6,LzA];have hn:(Tr.nil:Tr (Option Zn)).get (bn g)=none:=by simp
 grind
theorem zyg{g:Nat}{call:zh}{f:Nat}{args:List Zb}{h:Za}{x:Zb×Za}(e:znI P g call f args h=some x):zsA (cFs (yI P)) call f g args h=some x:=by
 unfold znI at e;unfold zsA;rw[zBJ];rcases hf:P.funcs[g]? with _|fn
 .grind
 rw[hf]at e;simp only[YzI]at e ⊢;unfold zmy;rcases hb:fn.body with _|c
 .grind
 rw[hb]at e;simp only at e ⊢;rcases hr:zje P fn.results.toList with _|rs
 .grind
 rw[hr]at e;simp only[Option.isNone_some,Yz8]at e ⊢;cases hn:fn.name == "runtime.NumGoroutine"
 case true=>grind
 rw[hn]at e;simp only[Yzd]at e ⊢;cases hl:zuU args fn.ntmps
 .grind
 rw[hl]at e;simp only[Yzb]at e ⊢;obtain⟨e1,t1,h1,d1,k1,k2,_⟩:=ziF (fn:=g) (ro:=none) (fun _=>rfl) c _ _ [] h _ _ e;rw[k1];cases e1<;>grind[zi0,leave,zh3]
theorem zr8{call:zh}{f:Nat}{l:BN}{args:List Zb}{h:Za}{x:Zb×Za}(e:zhp P call f l args h=some x):zf7 (zT P) call f l args h=some x:=by
 unfold zhp at e;unfold zf7;split at e
 .rename_i lf ln lt lps la lb ld hl;rw[hl];simp only;split at e
  .rename_i t ht;rw[ht];simp only;obtain⟨e1,t1,h1,d1,k1,k2,_⟩:=ziF (fn:=lf) (ro:=some l) (fun h=>by cases h) la _ t [] h _ _ e;rw[k1];cases e1 with
   |exit id=>cases k2
   |ret=>cases k2
   |normal=>
    cases d1 with
    |cons _ _=>cases k2
    |nil=>
     simp only at k2 ⊢;split at k2
     .rename_i h2 hb;rw[hb];simp only;obtain⟨e2,t2,h3,d2,j1,j2,_⟩:=ziF (fn:=lf) (ro:=some l) (fun h=>by cases h) lb _ t1 [] h2 _ _ k2;rw[j1];cases d2 with
      |cons _ _=>cases j2
      |nil=>exact j2
     cases k2
  cases e
 cases e
end
end Go.CE
end
section
namespace Go.CE
noncomputable section
def yw:zh:=fun _ _ _=>none
def cP(l:List (Nat×Nat×Zb)):List (Nat×Nat×Opd):=l.map fun p=>(p.1,p.2.1,zu p.2.2)
def cL(l:List Zb):List Opd:=l.map zu
def cO:Option Zb->Option Opd
 |none=>none
 |some v=>some (zu v)
def gK(v:Zb)(b:Bool)(h:Za)(x:Res):Res:=bif zgA v b then x else some (zn,h)
def zhM(c a b:Zb)(h:Za):Res:=za3 (zu c) (zu a) (zu b) yw .nil h
def zju(zs:List Zc)(h:Za):Res:=zfC zs yw .nil h
def zCd(x:Zb)(h:Za):Res:=zim (zu x) yw .nil h
def zjt(zs:List Zc)(l:List (Nat×Nat×Zb))(h:Za):Res:=uB zs (cP l) yw .nil h
def zla(st len:Nat)(zs:List Zc)(l:List (Nat×Nat×Zb))(h:Za):Res:=uf st len zs (cP l) yw .nil h
def wE(n:Option Nat)(x:Zb)(h:Za):Res:=za6 n (zu x) yw .nil h
def ze5(n:Nat)(x v:Zb)(h:Za):Res:=zcp n (zu x) (zu v) yw .nil h
def zmO(x:Zb)(h:Za):Res:=uw (zu x) yw .nil h
def zgC(g:IntKind->Int->Int->Option Zc)(x y:Zb)(h:Za):Res:=zeF g (zu x) (zu y) yw .nil h
def zgQ(g:IntKind->Int->Int->Option Zc)(x y:Zb)(h:Za):Res:=vu g (zu x) (zu y) yw .nil h
def zCb(op:BinOp)(x y:Zb)(h:Za):Res:=zfw op (zu x) (zu y) yw .nil h
def vEq(ks:Nat⊕List Nat)(neg:Bool)(x y:Zb)(h:Za):Res:=znn ks neg (zu x) (zu y) yw .nil h
def zp5(neg:Bool)(x y:Zb)(h:Za):Res:=ki neg (zu x) (zu y) yw .nil h
def zCc(x:Zb)(h:Za):Res:=zfx (zu x) yw .nil h
def zzc(x:Zb)(h:Za):Res:=zfy (zu x) yw .nil h
def zoA(k:IntKind)(x:Zb)(h:Za):Res:=zba k (zu x) yw .nil h
def zoz(f:Nat)(caps:List Zb)(h:Za):Res:=za5 f (cL caps) yw .nil h
def zp6(h:Za):Res:=zfA yw .nil h
def ztJ(st:Nat)(zs:List Zc)(bytes:Nat)(l c:Zb)(h:Za):Res:=wA st zs bytes (zu l) (zu c) yw .nil h
def vV(st:Nat)(x:Zb)(lo hi mx:Option Zb)(h:Za):Res:=uu st (zu x) (cO lo) (cO hi) (cO mx) yw .nil h
def zhL(x:Zb)(lo hi:Option Zb)(h:Za):Res:=wi (zu x) (cO lo) (cO hi) yw .nil h
def uq(x:Zb)(off:Nat)(h:Za):Res:=za9 (zu x) off yw .nil h
def zmR(x:Zb)(off:Nat)(n:Option Nat)(h:Za):Res:=uA (zu x) off n yw .nil h
def zvH(st:Nat)(x i:Zb)(h:Za):Res:=zfB st (zu x) (zu i) yw .nil h
def ze6(len st:Nat)(x i:Zb)(h:Za):Res:=uy len st (zu x) (zu i) yw .nil h
def zmQ(len st:Nat)(n:Option Nat)(x i:Zb)(h:Za):Res:=uz len st n (zu x) (zu i) yw .nil h
def zmP(x i:Zb)(h:Za):Res:=ux (zu x) (zu i) yw .nil h
def zhO(q:Nat⊕List Nat)(z:SVal)(ok:Bool)(m k:Zb)(h:Za):Res:=wW q z ok (zu m) (zu k) yw .nil h
def zCK(q:Nat⊕List Nat)(m k v:Zb)(h:Za):Res:=zfz q (zu m) (zu k) (zu v) yw .nil h
def wP(x:Zb)(i:Nat)(h:Za):Res:=xX (zu x) i yw .nil h
def ztK(x:Zb)(h:Za):Res:=za7 (zu x) yw .nil h
def zgB(x:Zb)(h:Za):Res:=za8 (zu x) yw .nil h
def zCL(x:Zb)(h:Za):Res:=zb7 (zu x) yw .nil h
def zch(str:Bool)(st bytes:Nat)(s x:Zb)(h:Za):Res:=xE str st bytes (zu s) (zu x) yw .nil h
def zhN(m:Bool)(x:Zb)(xs:List Zb)(h:Za):Res:=xm m (zu x) (cL xs) yw .nil h
def zvI(st:Nat)(zs:List Zc)(x:Zb)(h:Za):Res:=zdC st zs (zu x) yw .nil h
def zCN(call:zh)(f:Zb)(args:List Zb)(h:Za):Res:=zg9 (zu f) (cL args) call .nil h
end
end Go.CE
end
section
namespace Go.CE
def Ev{α:Type}(m:Nat->Option α)(Q:α->Prop):Prop:=∃a,Q a/\∃N,∀n,N<=n->m n=some a
theorem Ev.some{α:Type}{a:α}{Q:α->Prop}(h:Q a):Ev (fun _=>some a) Q:=⟨a,h,0,fun _ _=>rfl⟩
theorem Ev.mono{α:Type}{m:Nat->Option α}{Q Q':α->Prop}(h:Ev m Q)(hq:∀a,Q a->Q' a):Ev m Q':=by obtain⟨a,h1,h2⟩:=h;exact⟨a,hq a h1,h2⟩
theorem Ev.bindR{β:Type}{m:Nat->Res}{k:Nat->Zb->Za->Option β}{Q:β->Prop}(h:Ev m (fun p=>Ev (fun n=>k n p.1 p.2) Q)):Ev (fun n=>CE.bindR (m n) (k n)) Q:=by
 obtain⟨⟨v,h'⟩,⟨x,h1,N1,h2⟩,N2,h3⟩:=h;refine⟨x,h1,max N1 N2,fun n hn=>?_⟩
 grind[CE.bindR]
theorem Ev.bindX{β:Type}{m:Nat->Option (Zf×List Zb×Za×List BN)}{kx:Nat->Nat->List Zb->Za->List BN->Option β}{kr:Nat->List Zb->Za->List BN->Option β}{Q:β->Prop}
  (h : Ev m (fun p => match p.1 with
   | .exit id=>Ev (fun n=>kx n id p.2.1 p.2.2.1 p.2.2.2) Q
   | .ret=>Ev (fun n=>kr n p.2.1 p.2.2.1 p.2.2.2) Q
   | .normal=>False)):Ev (fun n=>CE.bindX (m n) (kx n) (kr n)) Q:=by
 obtain⟨⟨e,ys,h',d'⟩,h1,N2,h3⟩:=h;cases e with
 |normal=>trivial
 |exit id=>obtain⟨x,h1,N1,h2⟩:=h1;exact⟨x,h1,max N1 N2,fun n hn=>by grind[CE.bindX]⟩
 |ret=>obtain⟨x,h1,N1,h2⟩:=h1;exact⟨x,h1,max N1 N2,fun n hn=>by grind[CE.bindX]⟩
theorem Ev.loop{c:Nat->List Zb->Za->List BN->Option (Zf×List Zb×Za×List BN)}{Q:Zf×List Zb×Za×List BN->Prop}(I:Nat->List Zb->Za->List BN->Prop)
  (H : ∀ k ys h d, I k ys h d -> Ev (fun n => c n ys h d) (fun p => match p.1 with
   | .normal=>∃k',k'<k/\I k' p.2.1 p.2.2.1 p.2.2.2
   |e=>Q (e,p.2.1,p.2.2.1,p.2.2.2))):
  ∀k ys h d,I k ys h d->Ev (fun n=>zc4 (c n) n ys h d) Q:=by
 have key:∀K k ys h d,k<=K->I k ys h d->∃a,Q a/\∃N,∀n,N<=n->∀f,N<=f->zc4 (c n) f ys h d=Option.some a:=by
  intro K
  induction K with
  |zero=>
   intro k ys h d hk hi;obtain⟨⟨e,ys',h',d'⟩,h1,N,h2⟩:=H k ys h d hi;cases e with
   |normal=>omega
   |exit id=>refine⟨_,h1,N+1,fun n hn f hf=>?_⟩;cases f<;>grind[zc4]
   |ret=>refine⟨_,h1,N+1,fun n hn f hf=>?_⟩;cases f<;>grind[zc4]
  |succ K ih=>
   intro k ys h d hk hi;obtain⟨⟨e,ys',h',d'⟩,h1,N,h2⟩:=H k ys h d hi;cases e with
   |normal=>obtain⟨k',hk',hi'⟩:=h1;obtain⟨a,ha,N',h3⟩:=ih k' ys' h' d' (by omega) hi';refine⟨a,ha,max N N'+1,fun n hn f hf=>?_⟩;cases f<;>grind[zc4]
   |exit id=>refine⟨_,h1,N+1,fun n hn f hf=>?_⟩;cases f<;>grind[zc4]
   |ret=>refine⟨_,h1,N+1,fun n hn f hf=>?_⟩;cases f<;>grind[zc4]
 intro k ys h d hi;obtain⟨a,ha,N,h1⟩:=key k k ys h d (LzB _) hi;exact⟨a,ha,N,fun n hn=>h1 n hn n hn⟩
def HW(h:Za):Prop:=∀b o,h.t.get b=some o->b.toNat<h.n.toNat
structure Gr (h h':Za):Prop where
 le:h.n.toNat<=h'.n.toNat
 old:∀b:BN,b.toNat<h.n.toNat->h'.t.get b=h.t.get b
theorem Gr.refl(h:Za):Gr h h:=⟨LzB _,fun _ _=>rfl⟩
theorem Gr.trans{a b c:Za}(h:Gr a b)(k:Gr b c):Gr a c:=⟨Yzl h.le k.le,fun x hx=>(k.old x (Lz9 hx h.le)).trans (h.old x hx)⟩
theorem Gr.get{h h':Za}(g:Gr h h')(w:HW h){b:BN}{o:Zg}(e:h.t.get b=some o):h'.t.get b=some o:=(g.old b (w b o e)).trans e
theorem zmC{a b:BN}(h:a.toNat≠b.toNat):a≠b:=fun e=>h (by rw[e])
theorem HW.new{h:Za}(w:HW h)(o:Zg):HW (h.new o):=fun b o' e=>by
 simp only[Za.new]at e ⊢;rw[BN.toNat_succ];by_cases hb:b=h.n
 .grind
 rw[zt _ _ _ _ hb]at e;have:=w b o' e;omega
theorem Gr.new(h:Za)(o:Zg):Gr h (h.new o):=⟨by grind[Za.new,BN.toNat_succ],fun b hb=>by grind[Za.new,zt]⟩
theorem HW.put{h:Za}(w:HW h){b:BN}{o o':Zg}(e:h.t.get b=some o):HW (h.put b o'):=fun c x hx=>by
 simp only[Za.put]at hx ⊢;by_cases hb:c=b
 .rw[hb];exact w b o e
 rw[zt _ _ _ _ hb]at hx;exact w c x hx
theorem Gr.put{h0 h:Za}(g:Gr h0 h){b:BN}{o':Zg}(hb:h0.n.toNat<=b.toNat):Gr h0 (h.put b o'):=⟨g.le,fun c hc=>by simp only[Za.put];rw[zt _ _ _ _ (zmC (by omega))];exact g.old c hc⟩
theorem xh(h:Za)(b:BN)(o:Zg):(h.put b o).t.get b=some o:=zC _ _ _
theorem yN(h:Za){b c:BN}(o:Zg)(hc:c≠b):(h.put b o).t.get c=h.t.get c:=zt _ _ _ _ hc
theorem Ev.new{β:Type}{h:Za}{o:Zg}{mk:BN->Zc}{k:Nat->Zb->Za->Option β}{Q:β->Prop}(w:HW h)
  (H:∀b h',b.toNat=h.n.toNat->h'.n.toNat=h.n.toNat+1->h'.t.get b=Option.some o->HW h'->Gr h h'->Ev (fun n=>k n (.s (.one (mk b))) h') Q):Ev (fun n=>CE.bindR (zcZ h o mk) (k n)) Q:=
 H h.n (h.new o) rfl (BN.toNat_succ _) (zC _ _ _) (w.new o) (Gr.new h o)
theorem Ev.store{β:Type}{h:Za}{b:BN}{off n:Nat}{v:SVal}{cs cs':List Zc}{st:Nat}{k:Nat->Zb->Za->Option β}{Q:β->Prop}(hb:h.t.get b=Option.some (.cells cs st))
  (hl:zaU v.cells n=true) (hp:putAt v.cells cs off=Option.some cs') (H:Ev (fun n=>k n zn (h.put b (.cells cs' st))) Q):
  Ev (fun m=>CE.bindR (ze5 n (.s (.one (.ptr b off))) (.s v) h) (k m)) Q:=by
 have:ze5 n (.s (.one (.ptr b off))) (.s v) h=Option.some (zn,h.put b (.cells cs' st)):=by grind[ze5,zcp,zu,storeAt,zAk,wrote]
 rw[this];exact H
section
variable {β:Type} (k:Zb->Za->Option β) (h:Za)
theorem zFh(v:SVal):zCd (.s v) h=zcZ h (.cells v.cells 0) (fun b=>.ptr b 0):=(id rfl)
theorem zsb(zs:List Zc):zju zs h=zcZ h (.cells zs 0) (fun b=>.ptr b 0):=(id rfl)
theorem zfS(b:BN)(o off:Nat):bindR (uq (.s (.one (.ptr b o))) off h) k=k (.s (.one (.ptr b (o+off)))) h:=(id rfl)
theorem zbh(b:BN)(off:Nat):wE none (.s (.one (.ptr b off))) h=loadAt none h off (h.t.get b):=(id rfl)
theorem zkb(n:Nat)(b:BN)(off:Nat):wE (some n) (.s (.one (.ptr b off))) h=loadAt (some n) h off (h.t.get b):=(id rfl)
theorem kL1(cs:List Zc)(st off:Nat):loadAt none h off (some (.cells cs st))=zbY h (vC cs off):=(id rfl)
theorem kLN(n:Nat)(cs:List Zc)(st off:Nat):loadAt (some n) h off (some (.cells cs st))=zgF h (cut n cs off):=(id rfl)
theorem zcr(c:Zc):bindR (zbY h (some c)) k=k (.s (.one c)) h:=(id rfl)
theorem zuY(cs:List Zc):bindR (zgF h (some cs)) k=k (.s (.agg cs)) h:=(id rfl)
theorem zaV(v:Zb):bindR (some (v,h)) k=k v h:=(id rfl)
theorem zdN(g:IntKind->Int->Int->Option Zc)(x y:Int):zgC g (.s (.one (.int .i64 x))) (.s (.one (.int .i64 y))) h=zbY h (g .i64 x y):=(id rfl)
theorem zBc(k:IntKind)(x y:Int):zyC k x y=some (.bool (ltI x y)):=(id rfl)
theorem zD6(k:IntKind)(x y:Int):zzl k x y=some (.bool (ltI y x)):=(id rfl)
theorem zFg(k:IntKind)(x y:Int):zBz k x y=some (.bool (leI y x)):=(id rfl)
end
theorem zn5:∀v:Zb,eqA v v=true:=by
 have hbn:∀a:BN,zpH a a=true:=fun a=>by induction a with|z=>rfl|o n ih=>exact ih|d n ih=>exact ih
 have hn:∀a:Nat,Nat.beq a a=true:=Yzq;have hps:∀l:List (BN×Nat),zBC l l=true:=fun l=>by induction l<;>grind[zBC]
 have hu:∀l:List UInt8,eqU l l=true:=fun l=>by induction l<;>grind[eqU]
 have hb:∀b:Bool,eqB b b=true:=fun b=>by cases b<;>rfl
 have hi:∀i:Int,eqI i i=true:=fun i=>by cases i<;>exact hn _
 have hk:∀k:IntKind,eqK k k=true:=fun k=>by cases k<;>rfl
 have hv:∀c:Zc,eqV c c=true:=fun c=>by cases c<;>simp only[eqV,hbn,hn,hps,hu,hb,hi,hk,Bool.and_self]
 have hvs:∀l:List Zc,zzm l l=true:=fun l=>by induction l<;>grind[zzm]
 have hsv:∀v:SVal,zBA v v=true:=fun v=>by cases v<;>simp only[zBA,hv,hvs]
 have hss:∀l:List SVal,zBB l l=true:=fun l=>by induction l<;>grind[zBB]
 intro v;cases v<;>simp only[eqA,hsv,hss]
end Go.CE
end
section
namespace Go.CE
theorem Ev.call{P:Program}{sums:List Sum}{srt:Nat->Option Srt}{g:Nat}{args:List Zb}{h:Za}{Q:Zb×Za->Prop}(ht:srt g=none)(hs:xG g args h sums=none)
  (H:Ev (fun n=>znI P g (zI (zT P) (cFs (yI P)) sums srt n) n args h) Q):Ev (fun n=>zI (zT P) (cFs (yI P)) sums srt n (.inl g) args h) Q:=by
 obtain⟨x,hx,N,hN⟩:=H;refine⟨x,hx,N+1,fun n hn=>?_⟩;cases n with
 |zero=>omega
 |succ n=>have e:=zyg (hN n (by omega));have:zI (zT P) (cFs (yI P)) sums srt (n+1) (.inl g) args h=ze1 srt (ze2 sums (zew (zT P) (cFs (yI P)) (zI (zT P) (cFs (yI P)) sums srt n) n)) (.inl g) args h:=rfl;show zI (zT P) (cFs (yI P)) sums srt (n+1) (.inl g) args h=_;rw[this];unfold ze1 ze2;simp only[ht,hs];exact e
theorem Ev.round{P:Program}{sums:List Sum}{srt:Nat->Option Srt}{l:BN}{args:List Zb}{h:Za}{Q:Zb×Za->Prop}
  (H:Ev (fun n=>zhp P (zI (zT P) (cFs (yI P)) sums srt n) n l args h) Q):Ev (fun n=>zI (zT P) (cFs (yI P)) sums srt n (.inr l) args h) Q:=by
 obtain⟨x,hx,N,hN⟩:=H;refine⟨x,hx,N+1,fun n hn=>?_⟩;cases n with
 |zero=>omega
 |succ n=>have e:=zr8 (hN n (by omega));trivial
theorem Ev.sum{P:Program}{fs:Nat->Option Zn}{sums:List Sum}{srt:Nat->Option Srt}{g:Nat}{args:List Zb}{h:Za}{v:Zb}(ht:srt g=none)(hs:xG g args h sums=Option.some v):
  Ev (fun n=>zI (zT P) fs sums srt n (.inl g) args h) (fun p=>p=(v,h)):=by
 refine⟨_,rfl,1,fun n hn=>?_⟩;cases n with
 |zero=>omega
 |succ n=>
  have:zI (zT P) fs sums srt (n+1) (.inl g) args h=ze1 srt (ze2 sums (zew (zT P) fs (zI (zT P) fs sums srt n) n)) (.inl g) args h:=rfl
  grind[ze1,ze2]
theorem Ev.sort{P:Program}{fs:Nat->Option Zn}{sums:List Sum}{srt:Nat->Option Srt}{g:Nat}{t:Srt}{args:List Zb}{h h2:Za}{v:Zb}(ht:srt g=Option.some t)(hs:zgT t args h=Option.some (v,h2)):
  Ev (fun n=>zI (zT P) fs sums srt n (.inl g) args h) (fun p=>p=(v,h2)):=by
 refine⟨_,rfl,1,fun n hn=>?_⟩;cases n with
 |zero=>omega
 |succ n=>
  have:zI (zT P) fs sums srt (n+1) (.inl g) args h=ze1 srt (ze2 sums (zew (zT P) fs (zI (zT P) fs sums srt n) n)) (.inl g) args h:=rfl
  grind[ze1]
def rd(n off:Nat):Zg->Option (List Zc)
 | .cells cs _=>cut n cs off
 | .ro _ f=>zgf f n off
 | .void=>bif Nat.beq n 0 then some [] else none
 |_=>none
def Sl{α:Type}(st:Nat)(R:Za->List Zc->α->Prop)(h:Za)(c:Zc)(l:List α):Prop:=
 (c=.nils/\l=[])\/∃b off cap ex,c=.slc b off l.length cap ex/\∀i x,l[i]? = some x->∃o ds,h.t.get b=some o/\rd st (off+i*st) o=some ds/\R h ds x
theorem zyK{cs:List Zc}{i:Nat}{c:Zc}(h:cut 1 cs i=some [c]):vC cs i=some c:=by rw[wl];have:=(zcB h).2 0 c rfl;omega
theorem zAj{o:Zg}{off:Nat}{c:Zc}{h:Za}(e:rd 1 off o=some [c]):loadAt none h off (some o)=some (.s (.one c),h):=by
 cases o with
 |cells cs st=>show zbY h (vC cs off)=_;rw[zyK e];rfl
 |ro x f=>
  show zbY h (f off)=_;simp only[rd,zgf]at e;rcases hf:f off with _|d
  .grind
  rw[hf]at e;cases e;rfl
 |_=>cases e
end Go.CE
end
section
namespace Go.CE
theorem zgR:∀l:List Zc,takeN l.length l=some l
 | []=>rfl
 |c::l=>by simp only[Yzh,takeN,zgR l,wv]
theorem zbU(l:List Zc):cut l.length l 0=some l:=by
 cases l with
 |nil=>rfl
 |cons c l=>simp only[cut];exact zgR (c::l)
def Acc(st:Nat)(h:Za)(u:Zc)(ws:List Zc)(n:Nat)(ob:Option BN):Prop:=
 ws.length=n*st/\((u=.nils/\n=0/\ob=none)\/∃b,u=.slc b 0 n 0 false/\h.t.get b=some (.cells ws st)/\ob=some b)
theorem Acc.nil(st:Nat)(h:Za):Acc st h .nils [] 0 none:=⟨by simp,.inl ⟨rfl,rfl,rfl⟩⟩
theorem Ev.append{β:Type}{h:Za}{st bytes:Nat}{u:Zc}{ws new:List Zc}{n m:Nat}{ob:Option BN}{bs:BN}{cs:List Zc}{st' off cap:Nat}{ex:Bool}{k:Nat->Zb->Za->Option β}{Q:β->Prop}
  (hw:HW h) (hA:Acc st h u ws n ob) (hs:h.t.get bs=Option.some (.cells cs st')) (hc:cut (m*st) cs off=Option.some new) (hm:0<m) (hf:fits bytes (n+m)=true)
  (H : ∀ b' h', b'.toNat = h.n.toNat -> h'.n.toNat = h.n.toNat + 1 -> HW h' -> Acc st h' (.slc b' 0 (n + m) 0 false) (ws ++ new) (n + m) (Option.some b') ->
   (∀c:BN,c.toNat<h.n.toNat->ob≠Option.some c->h'.t.get c=h.t.get c)->Ev (fun q=>k q (.s (.one (.slc b' 0 (n+m) 0 false))) h') Q):
  Ev (fun q=>CE.bindR (zch false st bytes (.s (.one u)) (.s (.one (.slc bs off m cap ex))) h) (k q)) Q:=by
 have hnl:new.length=m*st:=(zcB hc).1;have hm0:Nat.beq m 0=false:=by cases m with|zero=>omega|succ m=>rfl
 obtain⟨hlen,⟨rfl,rfl,rfl⟩|⟨bq,rfl,hq,rfl⟩⟩:=hA
 .have hws:ws=[]:=List.length_eq_zero_iff.1 (by omega);subst hws;have e:zch false st bytes (.s (.one .nils)) (.s (.one (.slc bs off m cap ex))) h=zcZ h (.cells ([]++new) st) (fun b=>.slc b 0 m 0 false):=by
   grind[zch,xE,zu,zgD,grown]
  rw[e];refine Ev.new hw fun b' h' e1 e2 e3 hw' G=>?_;have:=H b' h' e1 e2 hw' ⟨by grind,.inr ⟨b',rfl,e3,rfl⟩⟩ (fun c hc _=>G.old c hc)
  grind
 have hcut:cut (n*st) ws 0=Option.some ws:=by grind[zbU]
 have hbb:(Nat.beq st st&&Nat.beq 0 (0*st))=true:=by simp
 have e:zch false st bytes (.s (.one (.slc bq 0 n 0 false))) (.s (.one (.slc bs off m cap ex))) h=zcZ (h.put bq .dead) (.cells (ws++new) st) (fun b=>.slc b 0 (n+m) 0 false):=by simp_all[zch,xE,zu,zgD,vh,grown]
 rw[e];refine Ev.new (hw.put hq) fun b' h' e1 e2 e3 hw' G=>?_;refine H b' h' e1 e2 hw' ⟨by grind,.inr ⟨b',rfl,e3,rfl⟩⟩ (fun c hc hne=>?_);rw[G.old c hc,yN]
 grind
end Go.CE
end
section
namespace Go.CE
open Go.RowKit
section
variable (w:World)
def zE8:Value->List Addr
 | .slice (some a) 0 0=>[a]
 |_=>[]
def zGw:Obj->List Addr
 | .cells arr _ _=>arr.toList.flatMap zE8
 |_=>[]
def zha(w:World):List Addr:=w.heap.toList.flatMap zGw
theorem zup{w:World}{b:Nat}{arr:Array Value}{e:TypeId}{fr:Nat×Nat}{i:Nat}{a:Addr}(h:w.heap[b]? = some (.cells arr e fr))(hi:arr[i]? = some (.slice (some a) 0 0)):a∈zha w:=by
 unfold zha;refine List.mem_flatMap.2 ⟨.cells arr e fr,?_,List.mem_flatMap.2 ⟨.slice (some a) 0 0,?_,by simp[zE8]⟩⟩
 .grind
 grind
def zeH(w:World)(k:Nat):Bool:=match w.heap[k]? with|some (.cells _ _ _)=>true|_=>false
theorem zgc{w:World}{k:Nat}(h:zeH w k=true):∃arr e fr,w.heap[k]? = some (.cells arr e fr):=by grind[zeH]
theorem zoc{w:World}{k:Nat}(h:zeH w k=true):k<w.heap.size:=by grind[zgc]
def zzj(a:Addr):List Addr->Nat
 | []=>0
 |x::l=>if x=a then 0 else zzj a l+1
theorem ziM{a:Addr}:∀{l:List Addr},a∈l->l[zzj a l]? = some a
 | [],h=>by cases h
 |x::l,h=>by
  unfold zzj;by_cases hx:x=a
  .grind
  rw[Yza hx];rcases Yya.1 h with h|h
  .grind
  rw[Yzt];exact ziM h
noncomputable def zpW(w:World):Value->Option Zc
 | .bool b=>some (.bool b)
 | .int k n=>some (.int k n)
 | .string s=>some (.str s)
 | .pointer none=>some .nilp
 | .pointer (some a)=>bif decide (a.block<w.heap.size/\a.spot=none) then some (.ptr (bn a.block) a.off) else none
 | .slice none len cap=>bif decide (len=0/\cap=0) then some .nils else none
 | .slice (some a) len cap=>
  bif decide (zeH w a.block=true/\a.spot=none/\len<=cap) then some (.slc (bn a.block) a.off len cap true)
  else bif decide (len=0/\cap=0/\a∈zha w) then some (.slc (bn (w.heap.size+zzj a (zha w))) 0 0 0 true) else none
 | .map none=>some .nilm
 | .nilFunc=>some .nilf
 | .nilIface=>some .nili
 |_=>none
def φ0(w:World):Phi:=fun b=>
 if b.toNat<w.heap.size then⟨b.toNat,0,0,true,none⟩
 else match (zha w)[b.toNat-w.heap.size]? with|some a=>⟨a.block,a.off,0,true,a.spot⟩|none=>⟨b.toNat,0,0,true,none⟩
theorem ze0{b:BN}(h:b.toNat<w.heap.size):φ0 w b=⟨b.toNat,0,0,true,none⟩:=Yzc h
theorem zwt{i:Nat}{a:Addr}(h:(zha w)[i]? = some a):φ0 w (bn (w.heap.size+i))=⟨a.block,a.off,0,true,a.spot⟩:=by simp_all[φ0,Yza,yg]
theorem zmK(b:BN):(φ0 w b).ok=true:=by grind[φ0]
noncomputable def zw8(w:World):Obj->Zg
 | .cells arr e fr=>.ro (some (.cells arr e fr)) (fun i=>(arr[i]?).bind (zpW w))
 |_=>.dead
noncomputable def ztw(w:World)(k:Nat):Zg:=match w.heap[k]? with|some x=>zw8 w x|none=>.dead
noncomputable def yy(w:World):Za:=⟨bn (w.heap.size+(zha w).length),Tr.ofList .z ((List.range w.heap.size).map (ztw w)++(zha w).map fun _=>.void) .nil⟩
theorem vB(b:BN):(yy w).t.get b=if b.toNat<w.heap.size then some (ztw w b.toNat) else if b.toNat<w.heap.size+(zha w).length then some .void else none:=by
 have e0:BN.z=bn 0:=rfl;show (Tr.ofList .z ((List.range w.heap.size).map (ztw w)++(zha w).map fun _=>.void) .nil).get b=_;have:=kI ((List.range w.heap.size).map (ztw w)++(zha w).map fun _=>Zg.void) 0 (.nil:Tr Zg) b.toNat;rw[vE,<-e0]at this;rw[this];have hn:(Tr.nil:Tr Zg).get b=none:=by simp
 grind
theorem zc9:(yy w).n.toNat=w.heap.size+(zha w).length:=yg _
theorem zer{b:BN}{arr:Array Value}{e:TypeId}{fr:Nat×Nat}(h:w.heap[b.toNat]? = some (.cells arr e fr)):(yy w).t.get b=some (zw8 w (.cells arr e fr)):=by
 rw[vB,Yzc (Lz7.1 h).1]
 grind[ztw]
theorem zpz{i:Nat}(h:i<(zha w).length):(yy w).t.get (bn (w.heap.size+i))=some .void:=by simp_all[vB,yg,Yza]
theorem zwq{v:Value}{c:Zc}(h:zpW w v=some c):zl (φ0 w) c=v/\wfC (φ0 w) (yy w).n.toNat c:=by
 rw[zc9];unfold zpW at h;split at h
 .cases h;trivial
 .cases h;trivial
 .cases h;trivial
 .cases h;trivial
 .rename_i a;by_cases hc:a.block<w.heap.size/\a.spot=none
  .rw[decide_eq_true hc]at h;cases h;obtain⟨b,off,sp⟩:=a;obtain⟨h1,rfl⟩:=hc;have hp:=ze0 w (b:=bn b) (by grind[yg]);refine⟨?_,by grind[yg],zmK w _⟩
   grind[zl,zos,yg]
  grind
 .rename_i len cap;by_cases hc:len=0/\cap=0
  .rw[decide_eq_true hc]at h;cases h;obtain⟨rfl,rfl⟩:=hc;trivial
  grind
 .rename_i a len cap;by_cases hc:zeH w a.block=true/\a.spot=none/\len<=cap
  .rw[decide_eq_true hc]at h;cases h;obtain⟨b,off,sp⟩:=a;obtain⟨h1,rfl,h3⟩:=hc;have h1:=zoc h1;have hp:=ze0 w (b:=bn b) (by grind[yg]);refine⟨?_,⟨by grind[yg],zmK w _⟩,fun hh=>(by cases hh),fun _=>h3⟩
   grind[zl,zos,yg]
  rw[decide_eq_false hc,Yzd]at h;by_cases hc2:len=0/\cap=0/\a∈zha w
  .rw[decide_eq_true hc2]at h;cases h;obtain⟨rfl,rfl,hm⟩:=hc2;have hi:=ziM hm;have hlt:=(Lz0.1 hi).1;have hp:=zwt w hi;refine⟨?_,⟨by grind[yg],zmK w _⟩,fun hh=>(by cases hh),fun _=>LzB _⟩;rw[zl,Yzb];unfold adr;rw[hp];rfl
  grind
 .cases h;trivial
 .cases h;trivial
 .cases h;trivial
 cases h
theorem zkg:HW (yy w):=fun b o hb=>by grind[vB,zc9]
def SW(w:World)(k:Nat):Prop:=∃arr e fr,w.heap[k]? = some (.cells arr e fr)
theorem zff{k:Nat}(hl:live (ztw w k)):∃arr e fr,w.heap[k]? = some (.cells arr e fr)/\ztw w k=zw8 w (.cells arr e fr):=by
 unfold ztw at hl ⊢;split at hl
 .rename_i x hx;cases x with
  |cells arr e fr=>grind
  |_=>exact hl.elim
 trivial
theorem zpy(hG:GOk w):Ze w (SW w) (φ0 w) (yy w) w:=by
 refine⟨zkg w,fun b o hb=>zmK w b,fun b o hb=>?_,fun b b' o o' hb hb' hl hl' hh=>?_,fun b o hb hl=>?_,rfl,rfl,rfl,LzB _,LzB _,fun _ _ _=>rfl,hG,fun b o hb hl=>?_,fun b o hb hl=>?_⟩
 .rw[vB]at hb;by_cases hlt:b.toNat<w.heap.size
  .rw[Yzc hlt]at hb;cases hb;have hp:=ze0 w hlt;by_cases hl:live (ztw w b.toNat)
   .obtain⟨arr,e,fr,hx,hr⟩:=zff w hl;rw[hr];refine⟨fun y hy=>by grind,arr,e,fr,by grind,fun i c hc=>?_⟩
    grind[zwq]
   generalize ztw w b.toNat=o at hl;cases o with
   |dead=>trivial
   |void=>trivial
   |_=>exact absurd trivial hl
  rw[Yza hlt]at hb;by_cases h2:b.toNat<w.heap.size+(zha w).length
  .rw[Yzc h2]at hb;cases hb;trivial
  grind
 .have k1:=lt_live hb hl;have k2:=lt_live hb' hl'
  grind[ze0,vE]
 .have k1:=lt_live hb hl;rw[ze0 w k1];rw[vB,Yzc k1]at hb;cases hb;obtain⟨arr,e,fr,h2,_⟩:=zff w hl;exact .inl ⟨arr,e,fr,h2⟩
 .rw[ze0 w (lt_live hb hl)]
 have k1:=lt_live hb hl.live;rw[vB,Yzc k1]at hb;cases hb;obtain⟨arr,e,fr,_,h2⟩:=zff w hl.live;rw[h2]at hl;trivial
where
 lt_live {b:BN} {o:Zg} (hb:(yy w).t.get b=some o) (hl:live o):b.toNat<w.heap.size:=by
  rw[vB]at hb;by_cases hlt:b.toNat<w.heap.size
  .exact hlt
  .rw[Yza hlt]at hb;by_cases h2:b.toNat<w.heap.size+(zha w).length
   .rw[Yzc h2]at hb;cases hb;trivial
   .grind
theorem zmv{P:Program}{call:zh}(C:xT P call)(hG:GOk w){f:Nat}{args:List Zb}{v:Zb}{h2:Za}(ha:∀x∈args,wfA (φ0 w) (yy w).n.toNat x)(e:call (.inl f) args (yy w)=some (v,h2))(hg:Gr (yy w) h2):
  CallsIn (FR none) 0 P f (args.map (zw (φ0 w))).toArray w (fun e w2=>∃φ,e=.returned (zw φ v)/\Below w.heap.size w w2):=by
 refine ((C w _ _ _ w args v h2 (zpy w hG) ha).1 f e).2.mono ?_
 rintro e9 w9 ⟨φ2,rfl,he,H2,_,_⟩
 refine⟨φ2,rfl,H2.os,H2.tape,H2.output,H2.size,fun k hk=>?_⟩;by_cases hc:SW w k
 .obtain⟨arr,e,fr,hc⟩:=hc;have hb:(yy w).t.get (bn k)=some (zw8 w (.cells arr e fr)):=zer w (by grind[yg]);have hn:(bn k).toNat<(yy w).n.toNat:=by grind[zc9,yg]
  have hb2:=(hg.old _ hn).trans hb;obtain⟨h1,_⟩:=H2.obj _ _ hb2;have h1:=h1 _ rfl;rw[he _ hn,ze0 w (by grind[yg])]at h1
  grind[yg]
 exact H2.kept k hk hc
end
end Go.CE
end
section
namespace Go.CE
open Go Go.ChangeShapes Go.WideShapes Go.ChangeAt Go.RowKit
theorem zok{w:World}{b off:Nat}{v:Value}(h:w.cell? ⟨b,off,none⟩=some v):∃arr e fr,w.heap[b]? = some (.cells arr e fr)/\arr[off]? = some v:=by grind[World.cell?]
def zAV(k:IntKind)(n:Nat):DataW Unit:=.lit (.int k (n:Int))
theorem zka{P:Program}{w:World}{nm:String}{g:Nat}{t e:TypeId}{n:Nat}{k:IntKind}{ns:List Nat}{cs:Array Value}{fuel:Nat}{q:List MemPlace}
  (hg:P.globalNamed nm=some g) (ht:P.underlying t=some (.array n e)) (he:P.underlying e=some (.int k)) (hc:P.cellsOf e=1) (hv:w.var? P nm=some cs)
  (h:DataW.trod (fun _=>()) P w 0 (fun _=>true) false fuel t cs.toList=some (.agg (ns.map (zAV k)),q)) {off m:Nat} (hm:ns[off]? = some m):
  ∃arr ty fr,w.heap[g]? = some (.cells arr ty fr)/\arr[off]? = some (.int k (m:Int)):=by
 obtain⟨xs,m1,rfl,hx1,hlen,hn,hel⟩:=DataW.trod_array ht h;simp only[Prod.mk.injEq,DataW.agg.injEq]at hx1;have hxl:xs.length=ns.length:=by have:=congrArg List.length hx1.1;grind
 have hoff:off<ns.length:=(Lz0.1 hm).1;have h0:=hel off (by omega);obtain⟨x,hx⟩:∃x,xs[off]? = some x:=⟨_,Lz5 (by omega)⟩;rw[hx,hc,Nat.mul_one]at h0;obtain⟨r,e1,e2,_⟩:=DataW.trod_int he h0;have e3:x.1=zAV k m:=by
  have h1:(xs.map (·.1))[off]? = some x.1:=by grind
  grind
 have hr:r=(m:Int):=by grind[zAV]
 subst hr;have h2:cs.toList[off]? = some (.int k (m:Int)):=by
  have:((cs.toList.drop off).take 1)[0]? = some (.int k (m:Int)):=by grind
  grind
 refine zok ?_
 grind[World.var?_cell]
theorem znv:∀(l:List Nat) (i:Nat),zAI l i=l[i]?
 | [],i=>by simp[zAI]
 |x::l,0=>rfl
 |x::l,i+1=>by show zAI l i=_;rw[znv l i];simp
theorem zwd{w:World}{g:Nat}{k:IntKind}{ns:List Nat}(hg:zdP g=some (k,ns))(H:∀(off m:Nat),ns[off]? = some m->∃arr ty fr,w.heap[g]? = some (.cells arr ty fr)/\arr[off]? = some (.int k (m:Int)))
  {off:Nat} {c:Zc} (h:zdQ g off=some c):∃arr e fr,w.heap[g]? = some (.cells arr e fr)/\∀φ,arr[off]? = some (zl φ c):=by
 unfold zdQ at h;rw[hg]at h;simp only[znv]at h;rcases hm:ns[off]? with _|m
 .grind
 rw[hm]at h;cases h;obtain⟨arr,ty,fr,h1,h2⟩:=H off m hm;exact⟨arr,ty,fr,h1,fun φ=>h2⟩
end Go.CE
end
section
namespace Go.PE
open Go Go.CE
inductive DV where
 |bool (b:Bool)
 |int (k:IntKind) (n:Int)
 |str (s:ByteArray)
 |nils
 |lst (st:Nat) (xs:List (List DV))
 |fp (xs:List DV) (off:Nat)
 |fn (f:Nat) (caps:List (List DV))
 |nilf
 |nilp
 |nilm
 |nili
 |u
inductive DS where
 |one (d:DV)
 |agg (ds:List DV)
inductive DA where
 |s (d:DS)
 |tup (l:List DS)
def DS.cells:DS->List DV
 | .one d=>[d]
 | .agg ds=>ds
inductive Rep (fz:BN->Prop) (h:Za):Zc->DV->Prop
 |bool (b:Bool):Rep fz h (.bool b) (.bool b)
 |int (k:IntKind) (n:Int):Rep fz h (.int k n) (.int k n)
 |str (s:ByteArray):Rep fz h (.str s) (.str s)
 |nils:Rep fz h .nils .nils
 |nilf:Rep fz h .nilf .nilf
 |nilp:Rep fz h .nilp .nilp
 |nilm:Rep fz h .nilm .nilm
 |nili:Rep fz h .nili .nili
 |u (c:Zc):Rep fz h c .u
 |lst {b:BN} {o:Zg} {off cap:Nat} {ex:Bool} {st:Nat} {xs:List (List DV)} (cs:List Zc) (hb:fz b) (hg:h.t.get b=some o) (hc:ex=true->xs.length<=cap)
   (ha:rd (xs.length*st) off o=some cs) (h1:∀(i:Nat) (x:List DV),xs[i]? = some x->x.length=st)
   (h2:∀(i:Nat) (x:List DV) (j:Nat) (c:Zc) (d:DV),xs[i]? = some x->cs[i*st+j]? = some c->x[j]? = some d->Rep fz h c d):Rep fz h (.slc b off xs.length cap ex) (.lst st xs)
 |fp {b:BN} {o:Zg} {base:Nat} {xs:List DV} {off:Nat} (cs:List Zc) (hb:fz b) (hg:h.t.get b=some o) (h1:rd xs.length base o=some cs)
   (h2:∀(j:Nat) (c:Zc) (d:DV),cs[j]? = some c->xs[j]? = some d->Rep fz h c d):Rep fz h (.ptr b (base+off)) (.fp xs off)
 |fn {f:Nat} {ps:List (BN×Nat)} {caps:List (List DV)} (css:Nat->List Zc) (os:Nat->Zg) (hl:ps.length=caps.length)
   (h1:∀(i:Nat) (p:BN×Nat) (x:List DV),ps[i]? = some p->caps[i]? = some x->fz p.1/\h.t.get p.1=some (os i)/\rd x.length p.2 (os i)=some (css i))
   (h2:∀(i:Nat) (p:BN×Nat) (x:List DV) (j:Nat) (c:Zc) (d:DV),ps[i]? = some p->caps[i]? = some x->(css i)[j]? = some c->x[j]? = some d->Rep fz h c d):Rep fz h (.fn f ps) (.fn f caps)
structure FG (fz:BN->Prop) (h:Za) (fz':BN->Prop) (h':Za):Prop where
 sub:∀b o,fz b->h.t.get b=some o->fz' b
 old:∀b o,fz b->h.t.get b=some o->h'.t.get b=some o
theorem FG.refl(fz:BN->Prop)(h:Za):FG fz h fz h:=⟨fun _ _ h _=>h,fun _ _ _ h=>h⟩
theorem FG.trans{f1 f2 f3:BN->Prop}{h1 h2 h3:Za}(a:FG f1 h1 f2 h2)(b:FG f2 h2 f3 h3):FG f1 h1 f3 h3:=⟨fun x o hx ho=>b.sub x o (a.sub x o hx ho) (a.old x o hx ho),fun x o hx ho=>b.old x o (a.sub x o hx ho) (a.old x o hx ho)⟩
theorem Rep.mono{fz fz':BN->Prop}{h h':Za}(g:FG fz h fz' h'){c:Zc}{d:DV}(H:Rep fz h c d):Rep fz' h' c d:=by
 induction H with
 |bool b=>exact .bool b
 |int k n=>exact .int k n
 |str s=>exact .str s
 |nils=>exact .nils
 |nilf=>exact .nilf
 |nilp=>exact .nilp
 |nilm=>exact .nilm
 |nili=>exact .nili
 |u c=>exact .u c
 |lst cs hb hg hc ha h1 h2 ih=>exact .lst cs (g.sub _ _ hb hg) (g.old _ _ hb hg) hc ha h1 ih
 |fp cs hb hg h1 h2 ih=>exact .fp cs (g.sub _ _ hb hg) (g.old _ _ hb hg) h1 ih
 |fn css os hl h1 h2 ih=>exact .fn css os hl (fun i p x hp hx=>by obtain⟨a,b,c⟩:=h1 i p x hp hx;exact⟨g.sub _ _ a b,g.old _ _ a b,c⟩) ih
def RepL(fz:BN->Prop)(h:Za)(cs:List Zc)(ds:List DV):Prop:=cs.length=ds.length/\∀(j:Nat) (c:Zc) (d:DV),cs[j]? = some c->ds[j]? = some d->Rep fz h c d
theorem RepL.mono{fz fz':BN->Prop}{h h':Za}(g:FG fz h fz' h'){cs:List Zc}{ds:List DV}(H:RepL fz h cs ds):RepL fz' h' cs ds:=⟨H.1,fun j c d a b=>(H.2 j c d a b).mono g⟩
theorem RepL.nil(fz:BN->Prop)(h:Za):RepL fz h [] []:=⟨rfl,fun j c d a=>by simp at a⟩
theorem RepL.cons{fz:BN->Prop}{h:Za}{c:Zc}{d:DV}{cs:List Zc}{ds:List DV}(a:Rep fz h c d)(b:RepL fz h cs ds):RepL fz h (c::cs) (d::ds):=by
 refine⟨by simp[b.1],fun j c' d' hc hd=>?_⟩;cases j with
 |zero=>grind
 |succ j=>simp only[Yzt]at hc hd;exact b.2 j c' d' hc hd
theorem RepL.inv{fz:BN->Prop}{h:Za}{c:Zc}{d:DV}{cs:List Zc}{ds:List DV}(H:RepL fz h (c::cs) (d::ds)):Rep fz h c d/\RepL fz h cs ds:=
 ⟨H.2 0 c d rfl rfl,by have:=H.1;grind,fun j c' d' hc hd=>H.2 (j+1) c' d' (by trivial) (by trivial)⟩
theorem RepL.app{fz:BN->Prop}{h:Za}{cs cs':List Zc}{ds ds':List DV}(a:RepL fz h cs ds)(b:RepL fz h cs' ds'):RepL fz h (cs++cs') (ds++ds'):=by
 refine⟨by simp[a.1,b.1],fun j c d hc hd=>?_⟩;by_cases hj:j<cs.length
 .rw[Lz2 hj]at hc;rw[Lz2 (by have:=a.1;omega)]at hd;exact a.2 j c d hc hd
 rw[Lz8 (by omega)]at hc;rw[Lz8 (by have:=a.1;omega),<-a.1]at hd;exact b.2 _ c d hc hd
theorem RepL.sub{fz:BN->Prop}{h:Za}{cs:List Zc}{ds:List DV}(a:RepL fz h cs ds)(i n:Nat):RepL fz h ((cs.drop i).take n) ((ds.drop i).take n):=by
 refine⟨by simp[a.1],fun j c d hc hd=>?_⟩;rw[YzB]at hc hd;split at hc
 .rename_i hj;rw[Yzc hj]at hd;rw[Yzu]at hc hd;exact a.2 _ c d hc hd
 cases hc
theorem RepL.set{fz:BN->Prop}{h:Za}{cs cs':List Zc}{ds ds':List DV}(a:RepL fz h cs ds)(b:RepL fz h cs' ds')(i:Nat):
  RepL fz h (cs.take i++cs'++cs.drop (i+cs'.length)) (ds.take i++ds'++ds.drop (i+ds'.length)):=by
 grind[RepL]
def RepS(fz:BN->Prop)(h:Za):SVal->DS->Prop
 | .one c,.one d=>Rep fz h c d
 | .agg cs,.agg ds=>RepL fz h cs ds
 |_,_=>False
theorem RepS.mono{fz fz':BN->Prop}{h h':Za}(g:FG fz h fz' h'){c:SVal}{d:DS}(H:RepS fz h c d):RepS fz' h' c d:=by
 cases c<;>cases d<;>simp only[RepS]at H ⊢
 .exact H.mono g
 exact H.mono g
def RepSL(fz:BN->Prop)(h:Za):List SVal->List DS->Prop
 | [],[]=>True
 |c::cs,d::ds=>RepS fz h c d/\RepSL fz h cs ds
 |_,_=>False
theorem RepSL.mono{fz fz':BN->Prop}{h h':Za}(g:FG fz h fz' h'):∀{c:List SVal} {d:List DS},RepSL fz h c d->RepSL fz' h' c d
 | [],[],_=>trivial
 |_::_,_::_,H=>⟨H.1.mono g,RepSL.mono g H.2⟩
 | [],_::_,H=>H.elim
 |_::_,[],H=>H.elim
def RepA(fz:BN->Prop)(h:Za):Zb->DA->Prop
 | .s c,.s d=>RepS fz h c d
 | .tup cs,.tup ds=>RepSL fz h cs ds
 |_,_=>False
theorem RepA.of{fz:BN->Prop}{h:Za}{c:SVal}{d:DS}(H:RepS fz h c d):RepA fz h (.s c) (.s d):=H
theorem RepA.inv{fz:BN->Prop}{h:Za}{v:Zb}{d:DS}(H:RepA fz h v (.s d)):∃w,v=.s w/\RepS fz h w d:=by
 cases v with
 |s v=>exact⟨_,rfl,H⟩
 |tup l=>trivial
theorem RepA.mono{fz fz':BN->Prop}{h h':Za}(g:FG fz h fz' h'){c:Zb}{d:DA}(H:RepA fz h c d):RepA fz' h' c d:=by
 cases d with
 |s d=>obtain⟨w,rfl,hw⟩:=H.inv;exact .of (hw.mono g)
 |tup ds=>
  cases c with
  |s c=>trivial
  |tup cs=>exact RepSL.mono g H
def RepAL(fz:BN->Prop)(h:Za):List Zb->List DA->Prop
 | [],[]=>True
 |c::cs,d::ds=>RepA fz h c d/\RepAL fz h cs ds
 |_,_=>False
theorem RepAL.mono{fz fz':BN->Prop}{h h':Za}(g:FG fz h fz' h'):∀{c:List Zb} {d:List DA},RepAL fz h c d->RepAL fz' h' c d
 | [],[],_=>trivial
 |_::_,_::_,H=>⟨H.1.mono g,RepAL.mono g H.2⟩
 | [],_::_,H=>H.elim
 |_::_,[],H=>H.elim
theorem RepAL.app{fz:BN->Prop}{h:Za}:∀{c c':List Zb} {d d':List DA},RepAL fz h c d->RepAL fz h c' d'->RepAL fz h (c++c') (d++d')
 | [],_,[],_,_,H=>H
 |_::_,_,_::_,_,H,K=>⟨H.1,RepAL.app H.2 K⟩
 | [],_,_::_,_,H,_=>H.elim
 |_::_,_,[],_,H,_=>H.elim
theorem zge:∀(cs:List Zc) (n i:Nat),i+n<=cs.length->cut n cs i=some ((cs.drop i).take n):=by
 have tk:∀(n:Nat) (cs:List Zc),n<=cs.length->takeN n cs=some (cs.take n):=by
  intro n
  induction n with
  |zero=>grind[takeN]
  |succ n ih=>intro cs h;cases cs<;>grind[takeN,wv]
 intro cs
 induction cs with
 |nil=>intro n i h;simp at h;obtain⟨rfl,rfl⟩:=h;rfl
 |cons c cs ih=>
  intro n i h;cases i with
  |zero=>
   show takeN n (c::cs)=_
   grind
  |succ i=>
   show cut n cs i=_
   grind
theorem zmm{f:Nat->Option Zc}:∀{n i:Nat} {l:List Zc},l.length=n->(∀j c,l[j]? = some c->f (i+j)=some c)->zgf f n i=some l:=by
 intro n
 induction n with
 |zero=>intro i l hl _;rw[List.length_eq_zero_iff.1 hl];rfl
 |succ n ih=>
  intro i l hl H;cases l with
  |nil=>simp at hl
  |cons c l=>
   have h0:=H 0 c rfl;simp only[YzE]at h0;have h1:=ih (i:=i+1) (l:=l) (by grind) (fun j d hd=>by have:=H (j+1) d (by trivial);grind)
   grind[zgf,wv]
theorem zh6{n off:Nat}{cs:List Zc}(h:rd n off .void=some cs):n=0/\cs=[]:=by have h:(bif Nat.beq n 0 then some [] else none)=some cs:=h;cases hn:Nat.beq n 0<;>simp_all
theorem zeg{n off:Nat}{o:Zg}{cs:List Zc}(h:rd n off o=some cs):cs.length=n:=by
 cases o with
 |void=>obtain⟨rfl,rfl⟩:=zh6 h;rfl
 |cells l st=>exact(zcB h).1
 |ro x f=>exact(zdp h).1
 |_=>cases h
theorem zef{n base:Nat}{o:Zg}{cs:List Zc}(h:rd n base o=some cs){off m:Nat}(hm:off+m<=n):rd m (base+off) o=some ((cs.drop off).take m):=by
 cases o with
 |void=>
  obtain⟨rfl,rfl⟩:=zh6 h
  grind
 |cells l st=>
  obtain⟨rfl,h2⟩:=zoe n l base cs h;show cut m l (base+off)=_
  grind[zge,List.drop_take,YzL]
 |ro x f=>
  obtain⟨h1,h2⟩:=zdp h;refine zmm (by simp;omega) fun j c hc=>?_
  grind
 |_=>cases h
theorem zlq{n off:Nat}{o:Zg}{cs:List Zc}(h':Za)(h:rd n off o=some cs)(h0:n≠0\/o≠.void):loadAt (some n) h' off (some o)=some (.s (.agg cs),h'):=by
 cases o with
 |void=>
  obtain⟨rfl,_⟩:=zh6 h
  grind
 |cells l st=>show zgF h' (cut n l off)=_;rw[show cut n l off=some cs from h];rfl
 |ro x f=>show zgF h' (zgf f n off)=_;rw[show zgf f n off=some cs from h];rfl
 |_=>cases h
theorem zub{n base:Nat}{o:Zg}{cs:List Zc}(h':Za)(h:rd n base o=some cs){off:Nat}{c:Zc}(hc:cs[off]? = some c):loadAt none h' (base+off) (some o)=some (.s (.one c),h'):=by
 have hl:=(Lz0.1 hc).1;have e:=zef h (off:=off) (m:=1) (by grind[zeg])
 grind[zAj,List.take_one,List.head?_drop]
def DV.scal:DV->Option Zc
 | .bool b=>some (.bool b)
 | .int k n=>some (.int k n)
 | .str s=>some (.str s)
 | .nils=>some .nils
 | .nilf=>some .nilf
 | .nilp=>some .nilp
 | .nilm=>some .nilm
 | .nili=>some .nili
 |_=>none
theorem Rep.scal{fz:BN->Prop}{h:Za}{c:Zc}{d:DV}(H:Rep fz h c d){c':Zc}(e:d.scal=some c'):c=c':=by cases H<;>simp only[DV.scal]at e<;>first|cases e;rfl|cases e
theorem Rep.ofScal{fz:BN->Prop}{h:Za}{d:DV}{c:Zc}(e:d.scal=some c):Rep fz h c d:=by
 cases d<;>simp only[DV.scal]at e<;>cases e
 .exact .bool _
 .exact .int _ _
 .exact .str _
 .exact .nils
 .exact .nilf
 .exact .nilp
 .exact .nilm
 exact .nili
theorem Rep.lst_inv{fz:BN->Prop}{h:Za}{c:Zc}{st:Nat}{xs:List (List DV)}(H:Rep fz h c (.lst st xs)):
  ∃b o off cap ex cs,c=.slc b off xs.length cap ex/\fz b/\h.t.get b=some o/\(ex=true->xs.length<=cap)/\rd (xs.length*st) off o=some cs/\
   ∀(i:Nat) (x:List DV),xs[i]? = some x->x.length=st/\RepL fz h ((cs.drop (i*st)).take st) x:=by
 cases H with
 |lst cs hb hg hc ha h1 h2=>
  refine⟨_,_,_,_,_,cs,rfl,hb,hg,hc,ha,fun i x hx=>⟨h1 i x hx,?_,fun j c d hc hd=>?_⟩⟩
  .have hi:=(Lz0.1 hx).1;have:(i+1)*st<=xs.length*st:=Yzk st hi
   grind[zeg]
  grind
theorem Rep.lst_mk{fz:BN->Prop}{h:Za}{b:BN}{o:Zg}{off cap:Nat}{ex:Bool}{st:Nat}{xs:List (List DV)}{cs:List Zc}(hb:fz b)(hg:h.t.get b=some o)(hc:ex=true->xs.length<=cap)
  (ha:rd (xs.length*st) off o=some cs) (H:∀(i:Nat) (x:List DV),xs[i]? = some x->x.length=st/\RepL fz h ((cs.drop (i*st)).take st) x):Rep fz h (.slc b off xs.length cap ex) (.lst st xs):=by
 refine .lst cs hb hg hc ha (fun i x hx=>(H i x hx).1) (fun i x j c d hx hcs hd=>(H i x hx).2.2 j c d ?_ hd)
 grind
theorem Rep.fp_inv{fz:BN->Prop}{h:Za}{c:Zc}{xs:List DV}{off:Nat}(H:Rep fz h c (.fp xs off)):
  ∃b o base cs,c=.ptr b (base+off)/\fz b/\h.t.get b=some o/\rd xs.length base o=some cs/\RepL fz h cs xs:=by
 cases H with
 |fp cs hb hg h1 h2=>exact⟨_,_,_,cs,rfl,hb,hg,h1,zeg h1,h2⟩
theorem Rep.fp_mk{fz:BN->Prop}{h:Za}{b:BN}{o:Zg}{base:Nat}{cs:List Zc}{xs:List DV}{off:Nat}(hb:fz b)(hg:h.t.get b=some o)(h1:rd xs.length base o=some cs)(h2:RepL fz h cs xs):
  Rep fz h (.ptr b (base+off)) (.fp xs off):=.fp cs hb hg h1 h2.2
theorem Rep.fn_inv{fz:BN->Prop}{h:Za}{c:Zc}{f:Nat}{caps:List (List DV)}(H:Rep fz h c (.fn f caps)):
  ∃ps,c=.fn f ps/\RepL fz h (ps.map fun p=>.ptr p.1 p.2) (caps.map fun x=>.fp x 0):=by
 cases H with
 |fn css os hl h1 h2=>refine⟨_,rfl,by simp[hl],fun j c d hc hd=>?_⟩;simp only[Lz6,Yz9]at hc hd;obtain⟨p,hp,rfl⟩:=hc;obtain⟨x,hx,rfl⟩:=hd;obtain⟨a,b,c⟩:=h1 j p x hp hx;exact .fp (base:=p.2) (off:=0) (css j) a b c (fun i c d hc hd=>h2 j p x i c d hp hx hc hd)
theorem Rep.fn_mk{fz:BN->Prop}{h:Za}{f:Nat}{ps:List (BN×Nat)}{caps:List (List DV)}(H:RepL fz h (ps.map fun p=>.ptr p.1 p.2) (caps.map fun x=>.fp x 0)):Rep fz h (.fn f ps) (.fn f caps):=by
 have hl:ps.length=caps.length:=by simpa using H.1
 have:∀i:Nat,∃q:List Zc×Zg,∀(p:BN×Nat) (x:List DV),ps[i]? = some p->caps[i]? = some x->fz p.1/\h.t.get p.1=some q.2/\rd x.length p.2 q.2=some q.1/\RepL fz h q.1 x:=by
  intro i;rcases hp:ps[i]? with _|p
  .exact⟨([],.dead),fun p x hp'=>by cases hp'⟩
  rcases hx:caps[i]? with _|x
  .grind
  have:=H.2 i (.ptr p.1 p.2) (.fp x 0) (by simp[hp]) (by simp[hx]);obtain⟨b,o,base,cs,e,a1,a2,a3,a4⟩:=this.fp_inv;simp_all
 obtain⟨q,hq⟩:=Classical.axiomOfChoice this;exact .fn (fun i=>(q i).1) (fun i=>(q i).2) hl (fun i p x hp hx=>⟨(hq i p x hp hx).1,(hq i p x hp hx).2.1,(hq i p x hp hx).2.2.1⟩) (fun i p x j c d hp hx hc hd=>(hq i p x hp hx).2.2.2.2 j c d hc hd)
end Go.PE
end
section
namespace Go.PE
open Go Go.CE
def shC:SVal->Nat
 | .one _=>0
 | .agg cs=>Nat.succ cs.length
def zDy(k v:SVal):Nat:=Nat.add 1048576 (Nat.add (Nat.mul (shC k) 1024) (shC v))
inductive KOp where
 |mv (x:Operand)
 |pick (c a b:Operand)
 |alloc (zs:List Zc)
 |box (x:Operand)
 |build (zs:List Zc) (parts:List (Nat×Nat×Operand))
 |bslice (st len:Nat) (zs:List Zc) (parts:List (Nat×Nat×Operand))
 |load (n:Option Nat) (x:Operand)
 |store (n:Nat) (x v:Operand)
 |nilck (x:Operand)
 |bin (op:BinOp) (x y:Operand)
 |shift (left:Bool) (x y:Operand)
 |str (op:BinOp) (x y:Operand)
 |nilS (neg:Bool) (x y:Operand)
 |eq (ks:Nat⊕List Nat) (neg:Bool) (x y:Operand)
 |not (x:Operand)
 |neg (x:Operand)
 |conv (k:IntKind) (x:Operand)
 |b2s (x:Operand)
 |s2b (x:Operand)
 |mkfn (f:Nat) (caps:List Operand)
 |mkmap (st:Nat)
 |mkslice (st:Nat) (zs:List Zc) (bytes:Nat) (l c:Operand)
 |slice (st:Nat) (x:Operand) (lo hi mx:Option Operand)
 |sslice (x:Operand) (lo hi:Option Operand)
 |foff (x:Operand) (off:Nat)
 |field (x:Operand) (off:Nat) (n:Option Nat)
 |ixs (st:Nat) (x i:Operand)
 |ixarr (len st:Nat) (x i:Operand)
 |ixagg (len st:Nat) (n:Option Nat) (x i:Operand)
 |ixstr (x i:Operand)
 |lookup (q:Nat⊕List Nat) (z:SVal) (ok:Bool) (m k:Operand)
 |mupd (q:Nat⊕List Nat) (m k v:Operand)
 |extract (x:Operand) (i:Nat)
 |lenS (x:Operand)
 |lenL (x:Operand)
 |lenM (x:Operand)
 |append (st bytes:Nat) (s x:Operand)
 |minmax (m:Bool) (x:Operand) (xs:List Operand)
 |clear (st:Nat) (zs:List Zc) (x:Operand)
 |call (f:Operand) (args:List Operand)
section
variable (P:Program)
def zhu(fs:Array Field):List (Nat×Operand)->Option (List (Nat×Nat×Operand))
 | []=>some []
 |(i,x)::r=>
  match fs[i]?,zhu fs r with
  |some f,some rest=>
   match P.info? f.type with
   |some info=>some ((f.offset,info.size,x)::rest)
   |none=>none
  |_,_=>none
def zex(size:Nat):List (Nat×Operand)->List (Nat×Nat×Operand)
 | []=>[]
 |(i,x)::r=>(i*size,size,x)::zex size r
def comp(o:Op):Option KOp:=
 match o with
 | .move x=>some (.mv x)
 | .assign x=>some (.mv x)
 | .pick c a b=>some (.pick c a b)
 | .alloc t=>bif zc6 P t then none else(match yu P t with|some z=>some (.alloc z.cells)|none=>none)
 | .box _ x=>some (.box x)
 | .build t parts=>
  match P.underlying t,yu P t with
  |some (.struct fs),some z=>bif zcF P fs.toList then(match zhu P fs parts.toList with|some l=>some (.build z.cells l)|none=>none) else none
  |some (.array _ e),some z=>
   match P.info? e with
   |some i=>some (.build z.cells (zex i.size parts.toList))
   |none=>none
  |_,_=>none
 | .buildSlice t len parts=>
  match P.underlying t with
  |some (.slice e)=>
   match P.info? e with
   |some i=>
    bif Nat.ble (len*i.size) 16777216 then
     match (bif Nat.beq (len*i.size) 0 then some [] else(yu P e).map SVal.cells) with
     |some zs=>bif Nat.beq (len*i.size) 0||Nat.beq zs.length i.size then some (.bslice i.size len (jD zs len) (zex i.size parts.toList)) else none
     |none=>none
    else none
   |none=>none
  |_=>none
 | .load t x=>match wF P t with|some n=>some (.load n x)|none=>none
 | .store t x v=>match P.info? t with|some i=>some (.store i.size x v)|none=>none
 | .nilCheck x=>some (.nilck x)
 | .binOp op t x y _=>
  match P.underlying t with
  |some (.int _)=>
   match op with
   | .shl=>some (.shift true x y)
   | .shr=>some (.shift false x y)
   |op=>some (.bin op x y)
  |some .string=>some (.str op x y)
  |some (.slice _)=>
   match op with
   | .eql=>some (.nilS false x y)
   | .neq=>some (.nilS true x y)
   |_=>none
  |some (.struct _)=>
   bif P.eqGuardType P.depth t then none else
   match op,zak P t with
   | .eql,some q=>some (.eq q false x y)
   | .neq,some q=>some (.eq q true x y)
   |_,_=>none
  |some .bool=>
   bif P.eqGuardType P.depth t then none else
   match op,zak P t with
   | .eql,some q=>some (.eq q false x y)
   | .neq,some q=>some (.eq q true x y)
   |_,_=>none
  |_=>none
 | .unOp .not _ x=>some (.not x)
 | .unOp .neg _ x=>some (.neg x)
 | .convert s d x=>
  match P.underlying s,P.underlying d with
  |some (.int _),some (.int k)=>some (.conv k x)
  |some (.slice e),some .string=>bif yT P e then some (.b2s x) else none
  |some .string,some (.slice e)=>bif yT P e then some (.s2b x) else none
  |_,_=>none
 | .makeFunc (.func f) first captured=>bif first.isEmpty then some (.mkfn f captured.toList) else none
 | .makeMap t none=>
  match P.underlying t with
  |some (.map key e)=>match yu P key,yu P e with|some zk,some ze=>some (.mkmap (zDy zk ze))|_,_=>none
  |_=>none
 | .makeSlice t l c=>
  match P.underlying t with
  |some (.slice e)=>
   match P.info? e,yu P e with
   |some i,some z=>bif Nat.beq z.cells.length i.size && !Nat.beq i.size 0 then some (.mkslice i.size z.cells i.bytes l c) else none
   |_,_=>none
  |_=>none
 | .slice t x lo hi mx=>
  match P.underlying t with
  |some (.slice e)=>
   match P.info? e with
   |some i=>bif mx.isSome && !hi.isSome then none else some (.slice i.size x lo hi mx)
   |none=>none
  |some .string=>bif mx.isSome then none else some (.sslice x lo hi)
  |_=>none
 | .fieldAddr t x f=>
  match P.underlying t with
  |some (.struct fs)=>
   match fs[f]? with
   |some fd=>
    match P.info? fd.type with
    |some i=>bif Nat.beq i.size 0 then none else some (.foff x fd.offset)
    |none=>none
   |none=>none
  |_=>none
 | .field t x f=>
  match P.underlying t with
  |some (.struct fs)=>
   match fs[f]? with
   |some fd=>match wF P fd.type with|some n=>some (.field x fd.offset n)|none=>none
   |none=>none
  |_=>none
 | .indexAddr t x i=>
  match P.underlying t with
  |some (.slice e)=>
   match P.info? e with
   |some info=>some (.ixs info.size x i)
   |none=>none
  |some (.array len e)=>
   match P.info? e with
   |some info=>some (.ixarr len info.size x i)
   |none=>none
  |_=>none
 | .index t x i=>
  match P.underlying t with
  |some (.array len e)=>
   match P.info? e,wF P e with
   |some info,some n=>some (.ixagg len info.size n x i)
   |_,_=>none
  |some .string=>some (.ixstr x i)
  |_=>none
 | .lookup t m k ok=>
  match P.underlying t with
  |some (.map key e)=>match zak P key,yu P e with|some q,some z=>some (.lookup q z ok m k)|_,_=>none
  |_=>none
 | .mapUpdate t m k v=>
  match P.underlying t with
  |some (.map key _)=>match zak P key with|some q=>some (.mupd q m k v)|none=>none
  |_=>none
 | .extract x i=>some (.extract x i)
 | .call c=>
  match c.callee with
  | .value f=>bif Nat.beq (zcv P f) 0 then some (.call f c.args.toList) else none
  | .builtin .len=>
   match c.argTypes[0]?,c.args[0]? with
   |some t,some x=>
    match P.underlying t with
    |some .string=>some (.lenS x)
    |some (.slice _)=>some (.lenL x)
    |some (.map _ _)=>some (.lenM x)
    |_=>none
   |_,_=>none
  | .builtin .append=>
   match c.argTypes.toList,c.args.toList with
   | [t,t2],[s,x]=>
    match P.underlying t with
    |some (.slice e)=>
     match P.info? e,yu P e with
     |some i,some z=>
      bif Nat.beq z.cells.length i.size && !Nat.beq i.size 0 then
       match P.underlying t2 with
       |some (.slice _)=>bif yT P e&&Nat.beq i.size 1 then none else some (.append i.size i.bytes s x)
       |_=>none
      else none
     |_,_=>none
    |_=>none
   |_,_=>none
  | .builtin .clear=>
   match c.argTypes[0]?,c.args[0]? with
   |some t,some x=>
    match P.underlying t with
    |some (.slice e)=>
     match P.info? e,yu P e with
     |some i,some z=>bif Nat.beq z.cells.length i.size && !Nat.beq i.size 0 then some (.clear i.size z.cells x) else none
     |_,_=>none
    |_=>none
   |_,_=>none
  | .builtin .max=>
   match c.args.toList with
   |x::xs=>some (.minmax true x xs)
   |_=>none
  | .builtin .min=>
   match c.args.toList with
   |x::xs=>some (.minmax false x xs)
   |_=>none
  |_=>none
 |_=>none
end
def kv(r:Fr):Operand->Option Zb
 | .tmp t=>some (r t)
 | .const v=>match zs2 v with|some s=>some (.s s)|none=>none
 | .func f=>some (.s (.one (.fn f [])))
 | .global g=>match zdP g with|some _=>some (.s (.one (.gptr g 0)))|none=>none
theorem yz(r:Fr)(x:Operand):coK r x=(kv r x).map zu:=by cases x<;>grind[coK,kv]
def kvs(r:Fr):List Operand->Option (List Zb)
 | []=>some []
 |x::xs=>
  match kv r x,kvs r xs with
  |some y,some ys=>some (y::ys)
  |_,_=>none
theorem zbx(r:Fr):∀l:List Operand,zcf (coK r) l=(kvs r l).map (·.map zu)
 | []=>rfl
 |x::l=>by simp only[zcf,kvs,yz,zbx r l];cases kv r x<;>cases kvs r l<;>rfl
def kvo(r:Fr):Option Operand->Option (Option Zb)
 |none=>some none
 |some x=>match kv r x with|some y=>some (some y)|none=>none
theorem zon(r:Fr)(x:Option Operand):zd4 (coK r) x=(kvo r x).map (·.map zu):=by cases x<;>grind[zd4,kvo,yz]
def kvp(r:Fr):List (Nat×Nat×Operand)->Option (List (Nat×Nat×Zb))
 | []=>some []
 |(a,b,x)::l=>
  match kv r x,kvp r l with
  |some y,some ys=>some ((a,b,y)::ys)
  |_,_=>none
theorem zgb(r:Fr)(n:Nat):∀l:List (Nat×Operand),wJ (coK r) n l=(kvp r (zex n l)).map cP
 | []=>rfl
 |(i,x)::l=>by simp only[wJ,zex,kvp,yz,zgb r n l];cases kv r x<;>cases kvp r (zex n l)<;>rfl
theorem zkm(P:Program)(r:Fr)(fs:Array Field):∀(l:List (Nat×Operand)) (q:List (Nat×Nat×Operand)),zhu P fs l=some q->wH P (coK r) fs l=(kvp r q).map cP
 | [],q,h=>by cases h;rfl
 |(i,x)::l,q,h=>by
  simp only[zhu]at h;rcases hf:fs[i]? with _|f
  .grind
  rcases hl:zhu P fs l with _|rest
  .grind
  rw[hf,hl]at h;simp only at h;rcases hi:P.info? f.type with _|info
  .grind
  rw[hi]at h;cases h;simp only[wH,kvp,hf,yz,zkm P r fs l rest hl];rcases kv r x with _|y
  .rfl
  rcases kvp r rest with _|ys
  .rfl
  simp only[YzG,hi];rfl
def zH(x:Option Zb)(k:Zb->Res):Res:=match x with|some v=>k v|none=>none
noncomputable def runK(r:Fr)(o:KOp)(call:zh)(h:Za):Res:=
 match o with
 | .mv x=>zH (kv r x) fun x=>some (x,h)
 | .pick c a b=>zH (kv r c) fun c=>zH (kv r a) fun a=>zH (kv r b) fun b=>zhM c a b h
 | .alloc zs=>zju zs h
 | .box x=>zH (kv r x) fun x=>zCd x h
 | .build zs parts=>match kvp r parts with|some l=>zjt zs l h|none=>none
 | .bslice st len zs parts=>match kvp r parts with|some l=>zla st len zs l h|none=>none
 | .load n x=>zH (kv r x) fun x=>wE n x h
 | .store n x v=>zH (kv r x) fun x=>zH (kv r v) fun v=>ze5 n x v h
 | .nilck x=>zH (kv r x) fun x=>zmO x h
 | .bin op x y=>zH (kv r x) fun x=>zH (kv r y) fun y=>zgC (qD op) x y h
 | .shift l x y=>zH (kv r x) fun x=>zH (kv r y) fun y=>zgQ (bif l then ziV else ziU) x y h
 | .str op x y=>zH (kv r x) fun x=>zH (kv r y) fun y=>zCb op x y h
 | .nilS n x y=>zH (kv r x) fun x=>zH (kv r y) fun y=>zp5 n x y h
 | .eq q n x y=>zH (kv r x) fun x=>zH (kv r y) fun y=>vEq q n x y h
 | .not x=>zH (kv r x) fun x=>zCc x h
 | .neg x=>zH (kv r x) fun x=>zzc x h
 | .conv k x=>zH (kv r x) fun x=>zoA k x h
 | .b2s x=>zH (kv r x) fun x=>zcX (zu x) yw .nil h
 | .s2b x=>zH (kv r x) fun x=>zo8 (zu x) yw .nil h
 | .mkfn f caps=>match kvs r caps with|some l=>zoz f l h|none=>none
 | .mkmap _=>zp6 h
 | .mkslice st zs bytes l c=>zH (kv r l) fun l=>zH (kv r c) fun c=>ztJ st zs bytes l c h
 | .slice st x lo hi mx=>zH (kv r x) fun x=>match kvo r lo,kvo r hi,kvo r mx with|some lo,some hi,some mx=>vV st x lo hi mx h|_,_,_=>none
 | .sslice x lo hi=>zH (kv r x) fun x=>match kvo r lo,kvo r hi with|some lo,some hi=>zhL x lo hi h|_,_=>none
 | .foff x off=>zH (kv r x) fun x=>uq x off h
 | .field x off n=>zH (kv r x) fun x=>zmR x off n h
 | .ixs st x i=>zH (kv r x) fun x=>zH (kv r i) fun i=>zvH st x i h
 | .ixarr len st x i=>zH (kv r x) fun x=>zH (kv r i) fun i=>ze6 len st x i h
 | .ixagg len st n x i=>zH (kv r x) fun x=>zH (kv r i) fun i=>zmQ len st n x i h
 | .ixstr x i=>zH (kv r x) fun x=>zH (kv r i) fun i=>zmP x i h
 | .lookup q z ok m k=>zH (kv r m) fun m=>zH (kv r k) fun k=>zhO q z ok m k h
 | .mupd q m k v=>zH (kv r m) fun m=>zH (kv r k) fun k=>zH (kv r v) fun v=>zCK q m k v h
 | .extract x i=>zH (kv r x) fun x=>wP x i h
 | .lenS x=>zH (kv r x) fun x=>ztK x h
 | .lenL x=>zH (kv r x) fun x=>zgB x h
 | .lenM x=>zH (kv r x) fun x=>zCL x h
 | .append st bytes s x=>zH (kv r s) fun s=>zH (kv r x) fun x=>zch false st bytes s x h
 | .minmax m x xs=>zH (kv r x) fun x=>match kvs r xs with|some l=>zhN m x l h|none=>none
 | .clear st zs x=>zH (kv r x) fun x=>zvI st zs x h
 | .call f args=>zH (kv r f) fun f=>match kvs r args with|some l=>zCN call f l h|none=>none
theorem zep(P:Program)(r:Fr){o:Op}{ko:KOp}(call:zh)(h:Za)(e:comp P o=some ko):xq P (coK r) o call .nil h=runK r ko call h:=by
 unfold comp at e;cases o with
 |move x=>cases e;simp only[xq,yz,runK];cases kv r x<;>rfl
 |assign x=>cases e;simp only[xq,yz,runK];cases kv r x<;>rfl
 |pick c a b=>cases e;simp only[xq,yz,runK];cases kv r c<;>cases kv r a<;>cases kv r b<;>rfl
 |alloc t=>
  simp only at e;cases hb:zc6 P t
  case true=>grind
  rcases hz:yu P t with _|z
  .grind
  rw[hb,hz]at e;cases e;simp only[xq,hb,hz,runK];rfl
 |box t x=>cases e;simp only[xq,yz,runK];cases kv r x<;>rfl
 |build t parts=>
  simp only at e;split at e
  .rename_i fs z hu hz;cases ha:zcF P fs.toList
   .grind
   rw[ha]at e;rcases hf:zhu P fs parts.toList with _|l
   .grind
   rw[hf]at e;cases e;simp only[xq,hu,hz,ha,Yzb,zkm P r fs _ _ hf,runK];cases kvp r l<;>rfl
  .rename_i n e' z hu hz;split at e
   .rename_i i hi;cases e;simp only[xq,hu,hz,hi,zgb,runK];cases kvp r (zex i.size parts.toList)<;>rfl
   cases e
  cases e
 |buildSlice t len parts=>
  simp only at e;split at e
  .rename_i e' hu;split at e
   .rename_i i hi;cases hl:Nat.ble (len*i.size) 16777216
    .grind
    rw[hl]at e;simp only[Yzb]at e;split at e
    .rename_i zs hzs;cases hc:(Nat.beq (len*i.size) 0||Nat.beq zs.length i.size)
     .grind
     rw[hc]at e;cases e;simp only[xq,hu,hi,hl,Yzb,hzs,hc,zgb,runK];cases kvp r (zex i.size parts.toList)<;>rfl
    cases e
   cases e
  cases e
 |load t x=>
  simp only at e;rcases hs:wF P t with _|n
  .grind
  rw[hs]at e;cases e;simp only[xq,hs,yz,runK];cases kv r x<;>rfl
 |store t x v=>
  simp only at e;rcases hs:P.info? t with _|i
  .grind
  rw[hs]at e;cases e;simp only[xq,hs,yz,runK];cases kv r x<;>cases kv r v<;>rfl
 |nilCheck x=>cases e;simp only[xq,yz,runK];cases kv r x<;>rfl
 |binOp op t x y p=>
  simp only at e;split at e
  .rename_i hu;simp only[xq,hu];split at e<;>cases e<;>simp only[yz,runK]<;>cases kv r x<;>cases kv r y<;>rfl
  .rename_i hu;cases e;simp only[xq,hu,yz,runK];cases kv r x<;>cases kv r y<;>rfl
  .rename_i hu;simp only[xq,hu];split at e<;>cases e<;>simp only[yz,runK]<;>cases kv r x<;>cases kv r y<;>rfl
  .rename_i fs hu;cases hg:P.eqGuardType P.depth t
   case true=>grind
   rw[hg]at e;simp only[Yzd]at e;split at e
   .rename_i q hk;cases e;simp only[xq,hu,hg,Yzd,hk,yz,runK];cases kv r x<;>cases kv r y<;>rfl
   .rename_i q hk;cases e;simp only[xq,hu,hg,Yzd,hk,yz,runK];cases kv r x<;>cases kv r y<;>rfl
   cases e
  .rename_i hu;cases hg:P.eqGuardType P.depth t
   case true=>grind
   rw[hg]at e;simp only[Yzd]at e;split at e
   .rename_i q hk;cases e;simp only[xq,hu,hg,Yzd,hk,yz,runK];cases kv r x<;>cases kv r y<;>rfl
   .rename_i q hk;cases e;simp only[xq,hu,hg,Yzd,hk,yz,runK];cases kv r x<;>cases kv r y<;>rfl
   cases e
  cases e
 |unOp u t x=>
  cases u<;>first|cases e|skip
  .simp only[xq,yz,runK];cases kv r x<;>rfl
  simp only[xq,yz,runK];cases kv r x<;>rfl
 |convert s d x=>
  simp only at e;split at e
  .rename_i k hs hd;cases e;simp only[xq,hs,hd,yz,runK];cases kv r x<;>rfl
  .rename_i el hs hd;cases hb:yT P el
   .grind
   rw[hb]at e;cases e;simp only[xq,hs,hd,hb,Yzb,yz,runK];cases kv r x<;>rfl
  .rename_i el hs hd;cases hb:yT P el
   .grind
   rw[hb]at e;cases e;simp only[xq,hs,hd,hb,Yzb,yz,runK];cases kv r x<;>rfl
  cases e
 |makeFunc f first captured=>
  cases f with
  |func f=>
   simp only at e;cases hf:first.isEmpty
   .grind
   rw[hf]at e;cases e;simp only[xq,hf,Yzb,zbx,runK];cases kvs r captured.toList<;>rfl
  |_=>cases e
 |makeMap t n=>
  cases n
  case some=>cases e
  simp only at e;split at e
  .split at e
   .cases e;rfl
   cases e
  cases e
 |makeSlice t l c=>
  simp only at e;split at e
  .rename_i el hu;split at e
   .rename_i i z hi hz;cases hc:(Nat.beq z.cells.length i.size && !Nat.beq i.size 0)
    .grind
    rw[hc]at e;cases e;simp only[xq,hu,hi,hz,hc,Yzb,yz,runK];cases kv r l<;>cases kv r c<;>rfl
   cases e
  cases e
 |slice t x lo hi mx=>
  simp only at e;split at e
  .rename_i el hu;split at e
   .rename_i i hi';cases hc:(mx.isSome && !hi.isSome)
    case true=>grind
    rw[hc]at e;cases e;simp only[xq,hu,hi',hc,Yzd,yz,zon,runK];cases kv r x<;>rcases kvo r lo with _|(_|_)<;>rcases kvo r hi with _|(_|_)<;>rcases kvo r mx with _|(_|_)<;>rfl
   cases e
  .rename_i hu;cases hc:mx.isSome
   case true=>grind
   rw[hc]at e;cases e;simp only[xq,hu,hc,Yzd,yz,zon,runK];cases kv r x<;>rcases kvo r lo with _|(_|_)<;>rcases kvo r hi with _|(_|_)<;>rfl
  cases e
 |fieldAddr t x f=>
  simp only at e;split at e
  .rename_i fs hu;split at e
   .rename_i fd hf;split at e
    .rename_i i hi;cases hc:Nat.beq i.size 0
     case true=>grind
     rw[hc]at e;cases e;simp only[xq,hu,hf,hi,hc,Yzd,yz,runK];cases kv r x<;>rfl
    cases e
   cases e
  cases e
 |field t x f=>
  simp only at e;split at e
  .rename_i fs hu;split at e
   .rename_i fd hf;split at e
    .rename_i n hn;cases e;simp only[xq,hu,hf,hn,yz,runK];cases kv r x<;>rfl
    cases e
   cases e
  cases e
 |indexAddr t x i=>
  simp only at e;split at e
  .rename_i el hu;split at e
   .rename_i info hi;cases e;simp only[xq,hu,hi,yz,runK];cases kv r x<;>cases kv r i<;>rfl
   cases e
  .rename_i len el hu;split at e
   .rename_i info hi;cases e;simp only[xq,hu,hi,yz,runK];cases kv r x<;>cases kv r i<;>rfl
   cases e
  cases e
 |index t x i=>
  simp only at e;split at e
  .rename_i len el hu;split at e
   .rename_i info n hi hn;cases e;simp only[xq,hu,hi,hn,yz,runK];cases kv r x<;>cases kv r i<;>rfl
   cases e
  .rename_i hu;cases e;simp only[xq,hu,yz,runK];cases kv r x<;>cases kv r i<;>rfl
  cases e
 |lookup t m k ok=>
  simp only at e;split at e
  .rename_i key el hu;split at e
   .rename_i q z hq hz;cases e;simp only[xq,hu,hq,hz,yz,runK];cases kv r m<;>cases kv r k<;>rfl
   cases e
  cases e
 |mapUpdate t m k v=>
  simp only at e;split at e
  .rename_i key el hu;split at e
   .rename_i q hq;cases e;simp only[xq,hu,hq,yz,runK];cases kv r m<;>cases kv r k<;>cases kv r v<;>rfl
   cases e
  cases e
 |extract x i=>cases e;simp only[xq,yz,runK];cases kv r x<;>rfl
 |call c=>
  simp only at e;split at e
  .rename_i f hc;cases hx:Nat.beq (zcv P f) 0
   .grind
   rw[hx]at e;cases e;simp only[xq,hc,hx,Yzb,yz,zbx,runK];cases kv r f<;>cases kvs r c.args.toList<;>rfl
  .rename_i hc;split at e
   .rename_i t x ht hx;simp only[xq,hc,ht,hx];split at e
    .rename_i hu;cases e;simp only[hu,yz,runK];cases kv r x<;>rfl
    .rename_i el hu;cases e;simp only[hu,yz,runK];cases kv r x<;>rfl
    .rename_i k el hu;cases e;simp only[hu,yz,runK];cases kv r x<;>rfl
    cases e
   cases e
  .rename_i hc;split at e
   .rename_i t t2 s x ht hx;simp only[xq,hc,ht,hx];split at e
    .rename_i el hu;split at e
     .rename_i i z hi hz;cases hb:(Nat.beq z.cells.length i.size && !Nat.beq i.size 0)
      .grind
      rw[hb]at e;simp only[Yzb]at e;split at e
      .rename_i e2 hu2;cases hB:(yT P el&&Nat.beq i.size 1)
       case true=>grind
       rw[hB]at e;cases e;simp only[hu,hi,hz,hb,Yzb,hu2,hB,Yzd,yz,runK];cases kv r s<;>cases kv r x<;>rfl
      cases e
     cases e
    cases e
   cases e
  .rename_i hc;split at e
   .rename_i t x ht hx;simp only[xq,hc,ht,hx];split at e
    .rename_i el hu;split at e
     .rename_i i z hi hz;cases hb:(Nat.beq z.cells.length i.size && !Nat.beq i.size 0)
      .grind
      rw[hb]at e;cases e;simp only[hu,hi,hz,hb,Yzb,yz,runK];cases kv r x<;>rfl
     cases e
    cases e
   cases e
  .rename_i hc;split at e
   .rename_i x xs hx;cases e;simp only[xq,hc,hx,zbx,kvs,runK];cases kv r x<;>cases kvs r xs<;>rfl
   cases e
  .rename_i hc;split at e
   .rename_i x xs hx;cases e;simp only[xq,hc,hx,zbx,kvs,runK];cases kv r x<;>cases kvs r xs<;>rfl
   cases e
  cases e
 |_=>cases e
end Go.PE
end
