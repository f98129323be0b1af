/-
  Lemmas. No condition.
-/
import Derived.Test.YtkgdjnaidkhniaaGreatDoorVb
set_option linter.unusedSimpArgs false
set_option linter.unusedVariables false
section
namespace Go.PE
open Go Go.CE
inductive PC where
 |d (v:DV)
 |own (k:Nat)
 |ptr (k off:Nat)
 |ep (k st i off:Nat)
 |ip (k off len st i o:Nat)
 |vw (k st lo len:Nat)
 |lit (k:Nat)
 |clo (f:Nat) (caps:List (Nat⊕List DV))
inductive PV where
 |one (c:PC)
 |agg (cs:List PC)
inductive PA where
 |s (v:PV)
 |tup (l:List DS)
 |tl (p:PV) (l:List DS)
 |bad
 |undef
def PV.cells:PV->List PC
 | .one c=>[c]
 | .agg cs=>cs
abbrev OC:=Option (List (List DV))
def mkL(st:Nat):OC->DV
 |none=>.nils
 |some xs=>.lst st xs
inductive PO where
 |box (cs:List PC)
 |arr (st:Nat) (v:OC)
 |frz (v:DV)
 |fbox (ds:List DV)
 |mp (st:Nat) (xs:List (List DV))
 |hol (v:OC) (n t:Nat)
 |lnk (m:Nat)
 |lop (nt:Nat) (ρ:Nat->PA) (ps:List Nat) (a b:Code) (lbl:Nat) (st:DV)
 |dead
def og:List PO->Nat->PO
 | [],_=>.dead
 |o::l,k=>bif Nat.beq k 0 then o else og l (Nat.sub k 1)
def oset(o:PO):List PO->Nat->List PO
 | [],_=>[]
 |x::l,k=>bif Nat.beq k 0 then o::l else x::oset o l (Nat.sub k 1)
theorem zjj(k:Nat):Nat.beq (k+1) 0=false:=rfl
theorem zdE:∀(l:List PO) (k:Nat),og l k=(l[k]?).getD .dead
 | [],k=>by simp[og]
 |o::l,0=>by simp[og]
 |o::l,k+1=>by have:=zdE l k;trivial
theorem yd(o:PO):∀(l:List PO) (k:Nat),(oset o l k).length=l.length
 | [],k=>rfl
 |x::l,0=>rfl
 |x::l,k+1=>by
  have:=yd o l k
  grind[oset]
theorem zF(o:PO):∀(l:List PO) (k j:Nat),og (oset o l k) j=if j=k/\k<l.length then o else og l j
 | [],k,j=>by grind[oset]
 |x::l,0,j=>by cases j<;>simp_all[oset,og,zjj]
 |x::l,k+1,j=>by
  show og (x::oset o l k) j=_;cases j with
  |zero=>simp[og]
  |succ j=>
   have:=zF o l k j;show og (oset o l k) j=_;rw[this];show _=if j+1=k+1/\k+1<(x::l).length then o else og l j
   simp
theorem zfs:∀(l:List PO) (k:Nat),oset (og l k) l k=l
 | [],_=>rfl
 |x::l,0=>rfl
 |x::l,k+1=>by show x::oset (og l k) l k=_;rw[zfs l k]
theorem y7(l:List PO)(o:PO)(j:Nat):og (l++[o]) j=if j=l.length then o else og l j:=by grind[zdE]
theorem vQ{l:List PO}{k:Nat}(h:og l k≠.dead):k<l.length:=by grind[zdE]
def blk:Zc->Option BN
 | .ptr b _=>some b
 | .slc b _ _ _ _=>some b
 | .map b=>some b
 | .yld b=>some b
 |_=>none
def shN(n:Nat):Option Nat:=match n with|0=>none|n+1=>some n
def shK(st:Nat):Option Nat:=shN (Nat.mod (Nat.div st 1024) 1024)
def shV(st:Nat):Option Nat:=shN (Nat.mod st 1024)
def zzY:Option Nat->Nat
 |none=>1
 |some n=>n
def atD:List DV->Nat->DV
 | [],_=>.u
 |d::l,i=>bif Nat.beq i 0 then d else atD l (Nat.sub i 1)
def exp(x:List DV):Nat->Nat->List DV
 |0,_=>[]
 |n+1,i=>atD x i::exp x n (Nat.succ i)
def shD(sh:Option Nat)(x:List DV)(i:Nat):DS:=
 match sh with
 |none=>.one (atD x i)
 |some n=>.agg (exp x n i)
def kD(st:Nat)(x:List DV):DS:=shD (shK st) x 0
def vD(st:Nat)(x:List DV):DS:=shD (shV st) x (zzY (shK st))
structure Nm where
 μ:Nat->Zc
 n:Nat
 fz:BN->Prop
 h:Za
def RepCap(N:Nm):BN×Nat->Nat⊕List DV->Prop
 |p,.inl k=>k<N.n/\N.μ k=.ptr p.1 0/\p.2=0
 |p,.inr xs=>Rep N.fz N.h (.ptr p.1 p.2) (.fp xs 0)
def RepCaps(N:Nm):List (BN×Nat)->List (Nat⊕List DV)->Prop
 | [],[]=>True
 |p::ps,x::xs=>RepCap N p x/\RepCaps N ps xs
 |_,_=>False
def RepPC(N:Nm)(c:Zc):PC->Prop
 | .d v=>Rep N.fz N.h c v
 | .own k=>k<N.n/\c=N.μ k
 | .ptr k off=>k<N.n/\∃b,N.μ k=.ptr b 0/\c=.ptr b off
 | .ep k st i off=>k<N.n/\∃b l cap ex,N.μ k=.slc b 0 l cap ex/\c=.ptr b (i*st+off)/\i<l
 | .ip k off len st i o=>k<N.n/\∃b,N.μ k=.ptr b 0/\c=.ptr b (off+i*st+o)/\i<len
 | .vw k st lo len=>k<N.n/\((N.μ k=.nils/\c=.nils/\lo=0/\len=0)\/∃b l cap ex cap' ex',N.μ k=.slc b 0 l cap ex/\c=.slc b (lo*st) len cap' ex'/\lo+len<=l/\(ex'=true->len<=cap'))
 | .lit k=>k<N.n/\∃b,N.μ k=.slc b 0 0 0 true/\c=.slc b 0 0 0 true
 | .clo f caps=>∃ps,c=.fn f ps/\RepCaps N ps caps
def RepPL(N:Nm):List Zc->List PC->Prop
 | [],[]=>True
 |c::cs,p::ps=>RepPC N c p/\RepPL N cs ps
 |_,_=>False
def RepPV(N:Nm):SVal->PV->Prop
 | .one c,.one p=>RepPC N c p
 | .agg cs,.agg ps=>RepPL N cs ps
 |_,_=>False
def zvw(N:Nm):List SVal->PV->List DS->Prop
 |w::l,p,ds=>RepPV N w p/\RepSL N.fz N.h l ds
 | [],_,_=>False
def RepPA(N:Nm):Zb->PA->Prop
 |_,.bad=>True
 |v,.undef=>v=zn
 | .s v,.s p=>RepPV N v p
 | .tup l,.tup ds=>RepSL N.fz N.h l ds
 | .tup l,.tl p ds=>zvw N l p ds
 |_,_=>False
theorem RepPA.bad{N:Nm}(v:Zb):RepPA N v .bad:=by trivial
theorem RepPA.of{N:Nm}{v:SVal}{p:PV}(H:RepPV N v p):RepPA N (.s v) (.s p):=H
theorem RepPA.inv{N:Nm}{v:Zb}{p:PV}(H:RepPA N v (.s p)):∃w,v=.s w/\RepPV N w p:=by
 cases v with
 |s v=>exact⟨_,rfl,H⟩
 |tup l=>trivial
def zmr:Zf->Int
 | .normal=>-3
 | .exit id=>(id:Int)+1
 | .ret=>0
def stR:DV->LoopState->Option Zf->Prop
 | .int .i64 n,S,pend=>(n=-1/\S=.ready/\pend=none)\/(n=-2/\S=.busy/\pend=none)\/(S=.done/\∃e,pend=some e/\e≠.normal/\n=zmr e)
 |_,_,_=>False
def RepO(N:Nm)(k:Nat):PO->Prop
 | .box cs=>∃b vs,N.μ k=.ptr b 0/\¬N.fz b/\N.h.t.get b=some (.cells vs 0)/\RepPL N vs cs
 | .arr _ none=>N.μ k=.nils
 | .arr st (some xs)=>∃b vs ex,N.μ k=.slc b 0 xs.length (bif ex then xs.length else 0) ex/\¬N.fz b/\N.h.t.get b=some (.cells vs st)/\vs.length=xs.length*st/\
   ∀(i:Nat) (x:List DV),xs[i]? = some x->x.length=st/\RepL N.fz N.h ((vs.drop (i*st)).take st) x
 | .frz v=>Rep N.fz N.h (N.μ k) v
 | .fbox ds=>∃b,N.μ k=.ptr b 0/\Rep N.fz N.h (.ptr b 0) (.fp ds 0)
 | .mp st xs=>∃b es,N.μ k=.map b/\¬N.fz b/\N.h.t.get b=some (.map es)/\es.length=xs.length/\
   ∀(i:Nat) (e:SVal×SVal) (x:List DV),es[i]? = some e->xs[i]? = some x->RepS N.fz N.h e.1 (kD st x)/\RepS N.fz N.h e.2 (vD st x)
 | .hol none _ _=>False
 | .hol (some xs) n t=>∃b vs ex,N.μ k=.slc b 0 xs.length (bif ex then xs.length else 0) ex/\¬N.fz b/\N.h.t.get b=some (.cells vs 1)/\vs.length=xs.length*1/\n<xs.length/\t<N.n/\N.μ t=.ptr b n/\
   ∀(i:Nat) (x:List DV),i≠n->xs[i]? = some x->x.length=1/\RepL N.fz N.h ((vs.drop (i*1)).take 1) x
 | .lnk m=>m<N.n/\∃b n vs,N.μ k=.ptr b n/\¬N.fz b/\N.h.t.get b=some (.cells vs 1)/\vs[n]? = some (N.μ m)
 | .lop nt ρ ps a b _ st=>∃l S pend lf lt psA ld,N.μ k=.yld l/\¬N.fz l/\N.h.t.get l=some (.loop S pend lf nt lt psA a b ld)/\psA.toList=ps/\stR st S pend/\∀i,RepPA N (zec (bn i) lt) (ρ i)
 | .dead=>True
def live:PO->Prop
 | .box _=>True
 | .arr _ (some _)=>True
 | .mp _ _=>True
 | .hol _ _ _=>True
 | .lop ..=>True
 |_=>False
def solid:PO->Prop
 | .box _=>True
 | .arr _ (some _)=>True
 | .mp _ _=>True
 | .lop ..=>True
 |_=>False
theorem solid.live{o:PO}(h:solid o):live o:=by
 cases o with
 |box _=>trivial
 |arr _ v=>cases v with
  |none=>exact h
  |some _=>trivial
 |mp _ _=>trivial
 |lop=>trivial
 |_=>trivial
theorem solid.hol{o:PO}(h:solid o)(v:OC)(n t:Nat):o≠.hol v n t:=fun e=>by subst e;exact h
def tied(o:PO):Prop:=live o\/∃m,o=.lnk m
structure Nx (N N':Nm):Prop where
 fg:FG N.fz N.h N'.fz N'.h
 le:N.n<=N'.n
 mu:∀k,k<N.n->N'.μ k=N.μ k
theorem Nx.refl(N:Nm):Nx N N:=⟨FG.refl _ _,LzB _,fun _ _=>rfl⟩
theorem Nx.trans{A B C:Nm}(a:Nx A B)(b:Nx B C):Nx A C:=⟨a.fg.trans b.fg,Yzl a.le b.le,fun k hk=>(b.mu k (Lz9 hk a.le)).trans (a.mu k hk)⟩
section
variable {N N':Nm} (g:Nx N N')
include g
theorem RepCap.mono{p:BN×Nat}{x:Nat⊕List DV}(H:RepCap N p x):RepCap N' p x:=by
 cases x with
 |inl k=>exact⟨Lz9 H.1 g.le,(g.mu k H.1).trans H.2.1,H.2.2⟩
 |inr xs=>exact Rep.mono g.fg H
theorem RepCaps.mono:∀{ps:List (BN×Nat)} {xs:List (Nat⊕List DV)},RepCaps N ps xs->RepCaps N' ps xs
 | [],[],_=>trivial
 |_::_,_::_,H=>⟨RepCap.mono g H.1,RepCaps.mono H.2⟩
 | [],_::_,H=>H.elim
 |_::_,[],H=>H.elim
theorem RepPC.mono{c:Zc}{p:PC}(H:RepPC N c p):RepPC N' c p:=by
 cases p with
 |d v=>exact Rep.mono g.fg H
 |own k=>exact⟨Lz9 H.1 g.le,H.2.trans (g.mu k H.1).symm⟩
 |ptr k off=>obtain⟨h1,b,h2,h3⟩:=H;exact⟨Lz9 h1 g.le,b,(g.mu k h1).trans h2,h3⟩
 |ep k st i off=>obtain⟨h1,b,l,cap,ex,h2,h3,h4⟩:=H;exact⟨Lz9 h1 g.le,b,l,cap,ex,(g.mu k h1).trans h2,h3,h4⟩
 |ip k off len st i o=>obtain⟨h1,b,h2,h3,h4⟩:=H;exact⟨Lz9 h1 g.le,b,(g.mu k h1).trans h2,h3,h4⟩
 |vw k st lo len=>obtain⟨h1,h⟩:=H;exact⟨Lz9 h1 g.le,by rw[g.mu k h1];exact h⟩
 |lit k=>obtain⟨h1,b,h2,h3⟩:=H;exact⟨Lz9 h1 g.le,b,(g.mu k h1).trans h2,h3⟩
 |clo f caps=>obtain⟨ps,h1,h2⟩:=H;exact⟨ps,h1,RepCaps.mono g h2⟩
theorem RepPL.mono:∀{cs:List Zc} {ps:List PC},RepPL N cs ps->RepPL N' cs ps
 | [],[],_=>trivial
 |_::_,_::_,H=>⟨RepPC.mono g H.1,RepPL.mono H.2⟩
 | [],_::_,H=>H.elim
 |_::_,[],H=>H.elim
theorem RepPV.mono{v:SVal}{p:PV}(H:RepPV N v p):RepPV N' v p:=by cases v<;>cases p<;>simp only[RepPV]at H ⊢<;>grind[RepPC.mono,RepPL.mono]
theorem RepPA.mono{v:Zb}{p:PA}(H:RepPA N v p):RepPA N' v p:=by
 cases p with
 |bad=>trivial
 |undef=>trivial
 |s p=>
  obtain⟨w,rfl,h⟩:=H.inv
  grind[of,RepPV.mono]
 |tup ds=>
  cases v with
  |s v=>trivial
  |tup l=>exact RepSL.mono g.fg H
 |tl p ds=>
  cases v with
  |s v=>trivial
  |tup l=>
   cases l with
   |nil=>trivial
   |cons w l=>exact⟨RepPV.mono g H.1,RepSL.mono g.fg H.2⟩
end
theorem RepPL.len{N:Nm}:∀{cs:List Zc} {ps:List PC},RepPL N cs ps->cs.length=ps.length
 | [],[],_=>rfl
 |_::_,_::_,H=>by simp[RepPL.len H.2]
 | [],_::_,H=>H.elim
 |_::_,[],H=>H.elim
theorem RepPL.get{N:Nm}:∀{cs:List Zc} {ps:List PC},RepPL N cs ps->∀{j:Nat} {c:Zc} {p:PC},cs[j]? = some c->ps[j]? = some p->RepPC N c p
 | [],[],_,j,c,p,hc,_=>by simp at hc
 |c0::cs,p0::ps,H,j,c,p,hc,hp=>by
  cases j with
  |zero=>simp only[Yzj,Option.some.injEq]at hc hp;subst hc;subst hp;exact H.1
  |succ j=>exact RepPL.get H.2 (j:=j) (by simpa using hc) (by simpa using hp)
 | [],_::_,H,_,_,_,_,_=>H.elim
 |_::_,[],H,_,_,_,_,_=>H.elim
theorem RepPL.of{N:Nm}:∀{cs:List Zc} {ps:List PC},cs.length=ps.length->(∀(j:Nat) (c:Zc) (p:PC),cs[j]? = some c->ps[j]? = some p->RepPC N c p)->RepPL N cs ps
 | [],[],_,_=>trivial
 |c::cs,p::ps,hl,H=>⟨H 0 c p rfl rfl,RepPL.of (by grind) fun j c p hc hp=>H (j+1) c p (by trivial) (by trivial)⟩
 | [],_::_,hl,_=>by simp at hl
 |_::_,[],hl,_=>by simp at hl
theorem RepPL.app{N:Nm}:∀{cs cs':List Zc} {ps ps':List PC},RepPL N cs ps->RepPL N cs' ps'->RepPL N (cs++cs') (ps++ps')
 | [],_,[],_,_,H=>H
 |_::_,_,_::_,_,H,K=>⟨H.1,RepPL.app H.2 K⟩
 | [],_,_::_,_,H,_=>H.elim
 |_::_,_,[],_,H,_=>H.elim
theorem RepPL.take{N:Nm}:∀{cs:List Zc} {ps:List PC} (n:Nat),RepPL N cs ps->RepPL N (cs.take n) (ps.take n)
 |_,_,0,_=>by simp[RepPL]
 | [],[],n+1,_=>by simp[RepPL]
 |_::_,_::_,n+1,H=>⟨H.1,RepPL.take n H.2⟩
 | [],_::_,_+1,H=>H.elim
 |_::_,[],_+1,H=>H.elim
theorem RepPL.drop{N:Nm}:∀{cs:List Zc} {ps:List PC} (n:Nat),RepPL N cs ps->RepPL N (cs.drop n) (ps.drop n)
 |_,_,0,H=>H
 | [],[],n+1,_=>by simp[RepPL]
 |_::_,_::_,n+1,H=>RepPL.drop n H.2
 | [],_::_,_+1,H=>H.elim
 |_::_,[],_+1,H=>H.elim
theorem RepPL.ofD{N:Nm}{cs:List Zc}{ds:List DV}(H:RepL N.fz N.h cs ds):RepPL N cs (ds.map .d):=
 RepPL.of (by simp[H.1]) fun j c p hc hp=>by simp only[Lz6,Yz9]at hp;obtain⟨d,hd,rfl⟩:=hp;exact H.2 j c d hc hd
structure En where
 h0:Za
 ok:BN->Prop
 xp:BN->Prop
def En.nw(E:En)(b:BN):Prop:=E.h0.n.toNat<=b.toNat\/E.xp b
structure GrX (E:En) (h:Za):Prop where
 le:E.h0.n.toNat<=h.n.toNat
 old:∀b:BN,b.toNat<E.h0.n.toNat->¬E.xp b->h.t.get b=E.h0.t.get b
theorem GrX.refl{E:En}:GrX E E.h0:=⟨LzB _,fun _ _ _=>rfl⟩
theorem GrX.trans{E:En}{h h':Za}(a:GrX E h)(g:Gr h h'):GrX E h':=⟨Yzl a.le g.le,fun b hb hx=>(g.old b (Lz9 hb a.le)).trans (a.old b hb hx)⟩
theorem GrX.put{E:En}{h:Za}(a:GrX E h){b:BN}{o:Zg}(hb:E.nw b):GrX E (h.put b o):=⟨a.le,fun c hc hx=>(yN _ _ fun e=>by subst e;rcases hb with h|h<;>grind).trans (a.old c hc hx)⟩
structure Zd (E:En) (N:Nm) (os:List PO):Prop where
 hw:HW N.h
 gr:GrX E N.h
 fzlt:∀b,N.fz b->b.toNat<N.h.n.toNat
 fzok:∀b,N.fz b->E.ok b\/E.nw b
 fzex:∀b,N.fz b->b.toNat<E.h0.n.toNat\/∃y,N.h.t.get b=some y
 len:N.n=os.length
 own:∀k b,live (og os k)->blk (N.μ k)=some b->E.nw b
 inj:∀k k' b,live (og os k)->live (og os k')->blk (N.μ k)=some b->blk (N.μ k')=some b->k=k'
 obj:∀k,RepO N k (og os k)
 lnk:∀t m,og os t=.lnk m->∃k v n,og os k=.hol v n t
theorem xF{N:Nm}{k:Nat}{o:PO}(hl:live o)(H:RepO N k o):∃b x,blk (N.μ k)=some b/\¬N.fz b/\N.h.t.get b=some x:=by
 cases o with
 |box cs=>obtain⟨b,vs,h1,h2,h3,_⟩:=H;exact⟨b,_,by rw[h1];rfl,h2,h3⟩
 |arr st v=>
  rcases v with _|xs
  .trivial
  obtain⟨b,vs,ex,h1,h2,h3,_⟩:=H;exact⟨b,_,by rw[h1];rfl,h2,h3⟩
 |mp st xs=>obtain⟨b,es,h1,h2,h3,_⟩:=H;exact⟨b,_,by rw[h1];rfl,h2,h3⟩
 |lop nt ρ ps a b lbl st=>obtain⟨l,S,pend,lf,lt,psA,ld,h1,h2,h3,_⟩:=H;exact⟨l,_,by rw[h1];rfl,h2,h3⟩
 |hol v n t=>
  rcases v with _|xs
  .trivial
  obtain⟨b,vs,ex,h1,h2,h3,_⟩:=H;exact⟨b,_,by rw[h1];rfl,h2,h3⟩
 |_=>trivial
theorem wb{N:Nm}{k:Nat}{o:PO}(hl:tied o)(H:RepO N k o):∃b x,blk (N.μ k)=some b/\¬N.fz b/\N.h.t.get b=some x:=by
 rcases hl with hl|⟨m,rfl⟩
 .grind[xF]
 obtain⟨_,b,n,vs,h1,h2,h3,_⟩:=H;exact⟨b,_,by rw[h1];rfl,h2,h3⟩
theorem Zd.lnk_blk{E:En}{N:Nm}{os:List PO}(I:Zd E N os){t m:Nat}(h:og os t=.lnk m):∃k v n,og os k=.hol v n t/\blk (N.μ t)=blk (N.μ k):=by
 obtain⟨k,v,n,hk⟩:=I.lnk t m h;have:=I.obj k;rw[hk]at this;rcases v with _|xs
 .trivial
 obtain⟨b,vs,ex,h1,_,_,_,_,_,h8,_⟩:=this;exact⟨k,_,n,hk,by rw[h1,h8];rfl⟩
theorem RepO.mono{N N':Nm}{k:Nat}{o:PO}(g:Nx N N')(hk:N'.μ k=N.μ k)(hb:tied o->∀b,blk (N.μ k)=some b->¬N'.fz b/\N'.h.t.get b=N.h.t.get b)(H:RepO N k o):RepO N' k o:=by
 cases o with
 |box cs=>obtain⟨b,vs,h1,h2,h3,h4⟩:=H;obtain⟨k1,k2⟩:=hb (.inl trivial) b (by rw[h1];rfl);exact⟨b,vs,hk.trans h1,k1,k2.trans h3,h4.mono g⟩
 |arr st v=>
  rcases v with _|xs
  .exact hk.trans H
  obtain⟨b,vs,ex,h1,h2,h3,h4,h5⟩:=H;obtain⟨k1,k2⟩:=hb (.inl trivial) b (by rw[h1];rfl);exact⟨b,vs,ex,hk.trans h1,k1,k2.trans h3,h4,fun i x hx=>⟨(h5 i x hx).1,(h5 i x hx).2.mono g.fg⟩⟩
 |frz v=>show Rep _ _ _ _;rw[hk];exact Rep.mono g.fg H
 |fbox ds=>obtain⟨b,h1,h2⟩:=H;exact⟨b,hk.trans h1,h2.mono g.fg⟩
 |mp st xs=>obtain⟨b,es,h1,h2,h3,h4,h5⟩:=H;obtain⟨k1,k2⟩:=hb (.inl trivial) b (by rw[h1];rfl);exact⟨b,es,hk.trans h1,k1,k2.trans h3,h4,fun i e x he hx=>⟨(h5 i e x he hx).1.mono g.fg,(h5 i e x he hx).2.mono g.fg⟩⟩
 |hol v n t=>
  rcases v with _|xs
  .exact H
  obtain⟨b,vs,ex,h1,h2,h3,h4,h5,h6,h7,h8⟩:=H;obtain⟨k1,k2⟩:=hb (.inl trivial) b (by rw[h1];rfl);exact⟨b,vs,ex,hk.trans h1,k1,k2.trans h3,h4,h5,Lz9 h6 g.le,(g.mu t h6).trans h7,fun i x hi hx=>⟨(h8 i x hi hx).1,(h8 i x hi hx).2.mono g.fg⟩⟩
 |lnk m=>obtain⟨h0,b,n,vs,h1,h2,h3,h4⟩:=H;obtain⟨k1,k2⟩:=hb (.inr ⟨m,rfl⟩) b (by rw[h1];rfl);exact⟨Lz9 h0 g.le,b,n,vs,hk.trans h1,k1,k2.trans h3,by rw[g.mu m h0];exact h4⟩
 |lop nt ρ ps a b lbl st=>obtain⟨l,S,pend,lf,lt,psA,ld,h1,h2,h3,h4,h5,h6⟩:=H;obtain⟨k1,k2⟩:=hb (.inl trivial) l (by rw[h1];rfl);exact⟨l,S,pend,lf,lt,psA,ld,hk.trans h1,k1,k2.trans h3,h4,h5,fun i=>(h6 i).mono g⟩
 |dead=>trivial
def upd(μ:Nat->Zc)(k:Nat)(c:Zc):Nat->Zc:=fun j=>if j=k then c else μ j
theorem Zd.new{E:En}{N:Nm}{os:List PO}(I:Zd E N os)(x:Zg)(o:PO)(c:Zc)(hc:blk c=some N.h.n)
  (ho:RepO ⟨upd N.μ os.length c,os.length+1,N.fz,N.h.new x⟩ os.length o) (hnl:∀m,o≠.lnk m:=by intro m h;cases h):
  Zd E ⟨upd N.μ os.length c,os.length+1,N.fz,N.h.new x⟩ (os++[o])/\Nx N ⟨upd N.μ os.length c,os.length+1,N.fz,N.h.new x⟩/\
   (∀b y,N.h.t.get b=some y->(N.h.new x).t.get b=some y):=by
 have G:=Gr.new N.h x;have old:∀b y,N.h.t.get b=some y->(N.h.new x).t.get b=some y:=fun b y hy=>G.get I.hw hy;have nx:Nx N ⟨upd N.μ os.length c,os.length+1,N.fz,N.h.new x⟩:=⟨⟨fun _ _ h _=>h,fun b y _ hy=>old b y hy⟩,by have:=I.len;grind,fun k hk=>by
  have:=I.len;show (if k=os.length then c else N.μ k)=_
  grind⟩
 have mu:∀k,k≠os.length->upd N.μ os.length c k=N.μ k:=fun k hk=>by show (if k=os.length then c else N.μ k)=_;rw[Yza hk]
 have muL:upd N.μ os.length c os.length=c:=by show (if os.length=os.length then c else _)=_;simp
 have lt:∀k b,live (og os k)->blk (N.μ k)=some b->b.toNat<N.h.n.toNat:=fun k b hl hb=>by obtain⟨b',x',h1,_,h3⟩:=xF hl (I.obj k);rw[h1]at hb;cases hb;exact I.hw _ _ h3
 refine⟨⟨I.hw.new x,I.gr.trans G,fun b hb=>Lz9 (I.fzlt b hb) G.le,I.fzok,fun b hb=>(I.fzex b hb).imp id fun⟨y,hy⟩=>⟨y,old b y hy⟩,by simp,?_,?_,?_,?_⟩,nx,old⟩
 .intro k b hl hb;rw[y7]at hl;by_cases hk:k=os.length
  .subst hk;rw[show (Nm.mk (upd N.μ os.length c) (os.length+1) N.fz (N.h.new x)).μ os.length=c from muL,hc]at hb;cases hb;exact .inl I.gr.le
  rw[Yza hk]at hl;rw[show (Nm.mk (upd N.μ os.length c) (os.length+1) N.fz (N.h.new x)).μ k=N.μ k from mu k hk]at hb;exact I.own k b hl hb
 .intro k k' b hl hl' hb hb';rw[y7]at hl hl';simp only at hb hb';by_cases hk:k=os.length<;>by_cases hk':k'=os.length
  .omega
  .grind
  .grind
  rw[Yza hk]at hl;rw[Yza hk']at hl';rw[mu k hk]at hb;rw[mu k' hk']at hb';exact I.inj k k' b hl hl' hb hb'
 .intro k;rw[y7];by_cases hk:k=os.length
  .grind
  rw[Yza hk];refine (I.obj k).mono nx (mu k hk) fun hl b hb=>?_;obtain⟨b',x',h1,h2,h3⟩:=wb hl (I.obj k)
  grind
 intro t m ht;rw[y7]at ht;by_cases hk:t=os.length
 .grind
 rw[Yza hk]at ht;obtain⟨k,v,n,h⟩:=I.lnk t m ht;have hl:k<os.length:=vQ (by grind);exact⟨k,v,n,by rw[y7,Yza (by omega)];exact h⟩
theorem Zd.put{E:En}{N:Nm}{os:List PO}(I:Zd E N os){k:Nat}(hs:solid (og os k)){b:BN}(hb:blk (N.μ k)=some b)(x:Zg)(o:PO)
  (ho:RepO ⟨N.μ,N.n,N.fz,N.h.put b x⟩ k o) (hnl:∀m,o≠.lnk m:=by intro m h;cases h):Zd E ⟨N.μ,N.n,N.fz,N.h.put b x⟩ (oset o os k)/\Nx N ⟨N.μ,N.n,N.fz,N.h.put b x⟩/\(∀b' y,N.h.t.get b'=some y->b'≠b->(N.h.put b x).t.get b'=some y):=by
 have hl:=hs.live;obtain⟨b0,x0,h1,h2,h3⟩:=xF hl (I.obj k);rw[h1]at hb;cases hb;have hk:k<os.length:=vQ (by intro e;rw[e]at hl;exact hl);have old:∀b' y,N.h.t.get b'=some y->b'≠b->(N.h.put b x).t.get b'=some y:=fun b' y hy hne=>by grind[yN]
 have nx:Nx N ⟨N.μ,N.n,N.fz,N.h.put b x⟩:=⟨⟨fun _ _ h _=>h,fun b' y hf hy=>old b' y hy (fun e=>h2 (e▸hf))⟩,LzB _,fun _ _=>rfl⟩;refine⟨⟨HW.put I.hw h3,I.gr.put (I.own k b hl h1),I.fzlt,I.fzok,fun b' hb'=>(I.fzex b' hb').imp id fun⟨y,hy⟩=>⟨y,old b' y hy (fun e=>h2 (e▸hb'))⟩,I.len.trans (yd o os k).symm,?_,?_,?_,?_⟩,nx,old⟩
 .intro j b' hl' hb';by_cases hj:j=k
  .subst hj;exact I.own j b' hl hb'
  rw[zF,Yza (fun e=>hj e.1)]at hl';exact I.own j b' hl' hb'
 .intro j j' b' hl1 hl2 hb1 hb2;have t:∀i,live (og (oset o os k) i)->live (og os i):=fun i hi=>by
   grind[zF]
  exact I.inj j j' b' (t j hl1) (t j' hl2) hb1 hb2
 .intro j;by_cases hj:j=k
  .subst hj;rw[zF,Yzc ⟨rfl,hk⟩];exact ho
  rw[zF,Yza (fun e=>hj e.1)];refine (I.obj j).mono nx rfl fun hlj b' hb'=>?_;obtain⟨b1,x1,k1,k2,k3⟩:=wb hlj (I.obj j);rw[k1]at hb';cases hb';have hne:b'≠b:=fun e=>by
   rcases hlj with hlj|⟨m,hm⟩
   .exact hj (I.inj j k b' hlj hl k1 (by grind))
   obtain⟨k',v,n,q1,q2⟩:=I.lnk_blk hm;have:=I.inj k' k b' (by rw[q1];trivial) hl (by grind) (by grind);subst this;exact hs.hol v n j q1
  grind
 intro t m ht;rw[zF]at ht;split at ht
 .grind
 obtain⟨k',v,n,h⟩:=I.lnk t m ht;exact⟨k',v,n,by rw[zF,Yza (fun e=>hs.hol v n t (by grind))];exact h⟩
theorem Zd.freeze{E:En}{N:Nm}{os:List PO}(I:Zd E N os){k:Nat}(hs:solid (og os k)){b:BN}(hb:blk (N.μ k)=some b)(o:PO)(hno:¬live o)
  (ho:RepO ⟨N.μ,N.n,fun b'=>N.fz b'\/b'=b,N.h⟩ k o) (hnl:∀m,o≠.lnk m:=by intro m h;cases h):Zd E ⟨N.μ,N.n,fun b'=>N.fz b'\/b'=b,N.h⟩ (oset o os k)/\Nx N ⟨N.μ,N.n,fun b'=>N.fz b'\/b'=b,N.h⟩:=by
 have hl:=hs.live;obtain⟨b0,x0,h1,h2,h3⟩:=xF hl (I.obj k);rw[h1]at hb;cases hb;have hk:k<os.length:=vQ (by intro e;rw[e]at hl;exact hl);have nx:Nx N ⟨N.μ,N.n,fun b'=>N.fz b'\/b'=b,N.h⟩:=⟨⟨fun _ _ h _=>.inl h,fun _ _ _ hy=>hy⟩,LzB _,fun _ _=>rfl⟩;have t:∀i,live (og (oset o os k) i)->i≠k/\live (og os i):=fun i hi=>by
  by_cases hj:i=k
  .subst hj;rw[zF,Yzc ⟨rfl,hk⟩]at hi;trivial
  simp_all[zF]
 refine⟨⟨I.hw,I.gr,fun b' hb'=>hb'.elim (I.fzlt b') (fun e=>by rw[e];exact I.hw _ _ h3),fun b' hb'=>hb'.elim (I.fzok b') (fun e=>.inr (by rw[e];exact I.own k b hl h1)),fun b' hb'=>hb'.elim (I.fzex b') (fun e=>.inr ⟨x0,by grind⟩),I.len.trans (yd o os k).symm,?_,?_,?_,?_⟩,nx⟩
 .intro j b' hl' hb';exact I.own j b' (t j hl').2 hb'
 .intro j j' b' hl1 hl2 hb1 hb2;exact I.inj j j' b' (t j hl1).2 (t j' hl2).2 hb1 hb2
 .intro j;by_cases hj:j=k
  .subst hj;rw[zF,Yzc ⟨rfl,hk⟩];exact ho
  rw[zF,Yza (fun e=>hj e.1)];refine (I.obj j).mono nx rfl fun hlj b' hb'=>?_;obtain⟨b1,x1,k1,k2,k3⟩:=wb hlj (I.obj j);rw[k1]at hb';cases hb';refine⟨fun e=>e.elim k2 (fun e=>?_),rfl⟩;rcases hlj with hlj|⟨m,hm⟩
  .exact hj (I.inj j k b' hlj hl k1 (by grind))
  obtain⟨k',v,n,q1,q2⟩:=I.lnk_blk hm;have:=I.inj k' k b' (by rw[q1];trivial) hl (by grind) (by grind);subst this;exact hs.hol v n j q1
 intro t' m ht;rw[zF]at ht;split at ht
 .grind
 obtain⟨k',v,n,h⟩:=I.lnk t' m ht;exact⟨k',v,n,by rw[zF,Yza (fun e=>hs.hol v n t' (by grind))];exact h⟩
theorem Zd.turn{E:En}{N:Nm}{os:List PO}(I:Zd E N os)(k:Nat)(o:PO)(hno:¬live o)(ho:RepO N k o)(hnh:∀v n t,og os k≠.hol v n t)(hnl:∀m,o≠.lnk m:=by intro m h;cases h):Zd E N (oset o os k):=by
 have t:∀i,live (og (oset o os k) i)->live (og os i):=fun i hi=>by grind[zF]
 refine⟨I.hw,I.gr,I.fzlt,I.fzok,I.fzex,I.len.trans (yd o os k).symm,fun j b' hl' hb'=>I.own j b' (t j hl') hb',fun j j' b' hl1 hl2 hb1 hb2=>I.inj j j' b' (t j hl1) (t j' hl2) hb1 hb2,fun j=>?_,fun j m hm=>?_⟩
 .rw[zF];split
  .grind
  exact I.obj j
 rw[zF]at hm;split at hm
 .grind
 obtain⟨k',v,n,h⟩:=I.lnk j m hm;exact⟨k',v,n,by rw[zF,Yza (fun e=>hnh v n j (by grind))];exact h⟩
theorem Zd.grow{E:En}{N:Nm}{os:List PO}(I:Zd E N os){h':Za}(hw:HW h')(G:Gr N.h h'):
  Zd E ⟨N.μ,N.n,fun b=>N.fz b\/(N.h.n.toNat<=b.toNat/\∃y,h'.t.get b=some y),h'⟩ os/\Nx N ⟨N.μ,N.n,fun b=>N.fz b\/(N.h.n.toNat<=b.toNat/\∃y,h'.t.get b=some y),h'⟩:=by
 have nx:Nx N ⟨N.μ,N.n,fun b=>N.fz b\/(N.h.n.toNat<=b.toNat/\∃y,h'.t.get b=some y),h'⟩:=⟨⟨fun _ _ h _=>.inl h,fun b y _ hy=>G.get I.hw hy⟩,LzB _,fun _ _=>rfl⟩;refine⟨⟨hw,I.gr.trans G,fun b hb=>hb.elim (fun h=>Lz9 (I.fzlt b h) G.le) (fun h=>by obtain⟨_,y,hy⟩:=h;exact hw b y hy),fun b hb=>hb.elim (I.fzok b) (fun h=>.inr (.inl (Yzl I.gr.le h.1))),fun b hb=>hb.elim (fun h=>(I.fzex b h).imp id fun⟨y,hy⟩=>⟨y,G.get I.hw hy⟩) (fun h=>.inr h.2),I.len,I.own,I.inj,fun k=>?_,I.lnk⟩,nx⟩;refine (I.obj k).mono nx rfl fun hl b hb=>?_;obtain⟨b',x',h1,h2,h3⟩:=wb hl (I.obj k);rw[h1]at hb;cases hb;exact⟨fun e=>e.elim h2 (fun e=>absurd (I.hw _ _ h3) (by omega)),(G.get I.hw h3).trans h3.symm⟩
end Go.PE
end
section
namespace Go.PE
open Go Go.CE
def oD:Option Zc->Option DV
 |some (.int k n)=>some (.int k n)
 |some (.bool b)=>some (.bool b)
 |some (.str s)=>some (.str s)
 |_=>none
def zc(op:BinOp):DV->DV->Option DV
 | .int k a,.int k' b=>bif eqK k k' then oD (qD op k a b) else none
 |_,_=>none
def zq(l:Bool):DV->DV->Option DV
 | .int k a,.int _ b=>oD ((bif l then ziV else ziU) k a b)
 |_,_=>none
def zq3(op:BinOp):DV->DV->Option DV
 | .str a,.str b=>oD (zvc op a b)
 |_,_=>none
def eqD:Nat->DV->DV->Option Bool
 |1,.int k a,.int k' b=>bif eqK k k' then some (eqI a b) else none
 |2,.str a,.str b=>some (a.data.toList==b.data.toList)
 |0,.bool a,.bool b=>some (a==b)
 |_,_,_=>none
def zvi:List Nat->List DV->List DV->Option Bool
 | [],[],[]=>some true
 |k::ks,x::xs,y::ys=>
  match eqD k x y with
  |some true=>zvi ks xs ys
  |some false=>some false
  |none=>none
 |_,_,_=>none
def zbG:DV->Option DV
 | .bool q=>some (.bool (!q))
 |_=>none
def zAn:DV->Option DV
 | .int k n=>some (.int k (xV k (Int.sub 0 n)))
 |_=>none
def zx(k:IntKind):DV->Option DV
 | .int _ n=>some (.int k (xV k n))
 |_=>none
def zxf:DV->DV->DV->Option DV
 | .bool q,a,b=>some (bif q then a else b)
 |_,_,_=>none
def zdA:DV->Option Bool
 | .nils=>some true
 | .lst _ _=>some false
 |_=>none
def yb(st:Nat):DV->DV->Option (List DV)
 | .lst st' xs,.int _ (.ofNat i)=>bif Nat.beq st st' then xs[i]? else none
 |_,_=>none
def zO(v:OC):DV->Option Nat
 | .int _ (.ofNat i)=>match v with|some xs=>bif Nat.ble (Nat.succ i) xs.length then some i else none|none=>none
 |_=>none
def uc(len:Nat):DV->Option Nat
 | .int _ (.ofNat i)=>bif Nat.ble (Nat.succ i) len then some i else none
 |_=>none
def zcD(x:Option DV)(d y:Nat):Option Nat:=
 match x with
 |none=>some d
 |some (.int _ (.ofNat i))=>bif Nat.ble i y then some i else none
 |_=>none
def za0(st:Nat)(v:DV)(lo hi:Option DV):Option DV:=
 match v with
 | .nils=>match zcD hi 0 0,zcD lo 0 0 with|some _,some _=>some .nils|_,_=>none
 | .lst st' xs=>
  bif Nat.beq st st' then
   match zcD hi xs.length xs.length with
   |some hh=>
    match zcD lo 0 hh with
    |some l=>bif Nat.beq l 0 || !Nat.beq l xs.length then some (.lst st ((xs.drop l).take (hh-l))) else none
    |none=>none
   |none=>none
  else none
 |_=>none
def zwB(lo:Option DV)(hi mx:DV)(y:Nat):Option (Nat×Nat):=
 match zcD (some mx) 0 y with
 |some m=>
  match zcD (some hi) 0 m with
  |some hh=>
   match zcD lo 0 hh with
   |some l=>bif Nat.beq l hh then none else some (l,hh-l)
   |none=>none
  |none=>none
 |none=>none
def zfp(st:Nat)(v:DV)(lo:Option DV)(hi mx:DV):Option DV:=
 match v with
 | .lst st' xs=>bif Nat.beq st st' then(match zwB lo hi mx xs.length with|some p=>some (.lst st ((xs.drop p.1).take p.2))|none=>none) else none
 |_=>none
def vwB(lo hi:Option DV)(y:Nat):Option (Nat×Nat):=
 match zcD hi y y with
 |some hh=>
  match zcD lo 0 hh with
  |some l=>bif Nat.beq l 0 || !Nat.beq l hh then some (l,hh-l) else none
  |none=>none
 |none=>none
def zud(st lo len:Nat):DV->DV
 | .nils=>.nils
 | .lst st' xs=>bif Nat.beq st st' then .lst st' ((xs.drop lo).take len) else .u
 |_=>.u
def zV:DV->Option DV
 | .nils=>some (.int .i64 (.ofNat 0))
 | .lst _ xs=>some (.int .i64 (.ofNat xs.length))
 |_=>none
def xH:OC->Nat
 |none=>0
 |some xs=>xs.length
def zo5:DV->Option DV
 | .str s=>some (.int .i64 (.ofNat s.size))
 |_=>none
def zmA:List UInt8->Nat->Option DV
 | [],_=>none
 |c::cs,i=>bif Nat.beq i 0 then some (.int .u8 (.ofNat c.toNat)) else zmA cs (Nat.sub i 1)
def zei:DV->DV->Option DV
 | .str s,.int _ (.ofNat i)=>zmA s.data.toList i
 |_,_=>none
def zlv(v:DV)(lo hi:Option DV):Option DV:=
 match v with
 | .str s=>
  match zcD hi s.size s.size with
  |some hh=>
   match zcD lo 0 hh with
   |some l=>some (.str (s.extract l hh))
   |none=>none
  |none=>none
 |_=>none
def yq(st:Nat):DV->Option (List (List DV))
 | .nils=>some []
 | .lst st' xs=>bif Nat.beq st st' then some xs else none
 |_=>none
def z5:OC->List (List DV)
 |none=>[]
 |some xs=>xs
def zP(v:OC)(new:List (List DV)):OC:=
 match new with
 | []=>v
 |x::l=>some (z5 v++(x::l))
def zo9:List (List DV)->Option (List Int)
 | []=>some []
 | [.int .u8 n]::cs=>match zo9 cs with|some l=>some (n::l)|none=>none
 |_=>none
def zra:DV->Option DV
 | .nils=>some (.str ByteArray.empty)
 | .lst 1 xs=>match zo9 xs with|some ns=>some (.str (zfk ns ByteArray.empty))|none=>none
 |_=>none
def minD(isMax:Bool)(k:IntKind):List DV->Int->Option Int
 | [],x=>some x
 | .int k' y::r,x=>bif eqK k k' then minD isMax k r (bif isMax then(bif ltI x y then y else x) else(bif ltI y x then y else x)) else none
 |_::_,_=>none
def jI(isMax:Bool)(v:DV)(l:List DV):Option DV:=
 match v with
 | .int k n=>match minD isMax k l n with|some m=>some (.int k m)|none=>none
 |_=>none
def xY(v:OC)(i:Nat):Option (List DV):=match v with|some xs=>xs[i]? |none=>none
def zaR(st:Nat)(v:OC)(i off:Nat)(ds:List DV):Option OC:=
 match v with
 |some xs=>
  match xs[i]? with
  |some x=>bif Nat.ble (off+ds.length) st then some (some (xs.set i (x.take off++ds++x.drop (off+ds.length)))) else none
  |none=>none
 |none=>none
section
variable {α β:Type}
def za(o:Option α)(k:α->Option β):Option β:=match o with|some a=>k a|none=>none
def ifB(v:DV)(a b:Option β):Option β:=match v with | .bool q=>bif q then a else b|_=>none
def gd(b:Bool)(k:Option β):Option β:=bif b then k else none
def gdN(v:DV)(k:Option β):Option β:=match v with | .nils=>k|_=>none
def w1(a:Option PA)(k:PC->Option β):Option β:=match a with|some (.s (.one c))=>k c|_=>none
def wd(a:Option PA)(k:DV->Option β):Option β:=match a with|some (.s (.one (.d v)))=>k v|_=>none
inductive Sh where
 |one
 |agg (n:Nat)
 |tup (l:List (Option Nat))
 |no
 |sc
 |tsc (n:Nat)
def b1(r:Option DA)(k:DV->Option β):Option β:=match r with|some (.s (.one d))=>k d|_=>none
def bA(n:Nat)(r:Option DA)(k:List DV->Option β):Option β:=match r with|some (.s (.agg l))=>bif Nat.beq l.length n then k l else none|_=>none
def okT:List (Option Nat)->List DS->Bool
 | [],[]=>true
 |none::shs,.one _::l=>okT shs l
 |some n::shs,.agg ds::l=>Nat.beq ds.length n&&okT shs l
 |_,_=>false
def bT(shs:List (Option Nat))(r:Option DA)(k:List DS->Option β):Option β:=match r with|some (.tup l)=>bif okT shs l then k l else none|_=>none
def bN(r:Option DA)(k:Option β):Option β:=match r with|some _=>k|none=>none
def ztV:DV->Bool
 | .bool _=>true
 | .int _ _=>true
 | .str _=>true
 |_=>false
def zqw:List DS->Bool
 | []=>true
 | .one d::l=>ztV d&&zqw l
 |_::_=>false
def zjY:Nat->List (Option Nat)
 |0=>[]
 |n+1=>none::zjY n
def b1s(r:Option DA)(k:DV->Option β):Option β:=match r with|some (.s (.one d))=>bif ztV d then k d else none|_=>none
def bTs(n:Nat)(r:Option DA)(k:List DS->Option β):Option β:=match r with|some (.tup l)=>bif okT (zjY n) l&&zqw l then k l else none|_=>none
def yR:List DS->Nat->DS
 | [],_=>.one .u
 |d::l,i=>bif Nat.beq i 0 then d else yR l (Nat.sub i 1)
def dsO:DS->DV
 | .one d=>d
 | .agg _=>.u
def dsA:DS->List DV
 | .agg l=>l
 | .one _=>[]
def zeI(l:List DS):List (Option Nat)->Nat->List DS
 | [],_=>[]
 |none::shs,i=>.one (dsO (yR l i))::zeI l shs (Nat.succ i)
 |some n::shs,i=>.agg (exp (dsA (yR l i)) n 0)::zeI l shs (Nat.succ i)
end
def cD:Zc->Option DV
 | .bool b=>some (.bool b)
 | .int k n=>some (.int k n)
 | .str s=>some (.str s)
 | .nilp=>some .nilp
 | .nils=>some .nils
 | .nilm=>some .nilm
 | .nilf=>some .nilf
 | .nili=>some .nili
 | .fn f []=>some (.fn f [])
 |_=>none
def cDs:List Zc->Option (List PC)
 | []=>some []
 |c::cs=>
  match cD c,cDs cs with
  |some d,some ds=>some (.d d::ds)
  |_,_=>none
def pvS:SVal->Option PV
 | .one c=>match cD c with|some d=>some (.one (.d d))|none=>none
 | .agg cs=>match cDs cs with|some ds=>some (.agg ds)|none=>none
def pv(ρ:Nat->PA):Operand->Option PA
 | .tmp t=>some (ρ t)
 | .const v=>match zs2 v with|some s=>(match pvS s with|some p=>some (.s p)|none=>none)|none=>none
 | .func f=>some (.s (.one (.d (.fn f []))))
 | .global _=>none
def pvs(ρ:Nat->PA):List Operand->Option (List PA)
 | []=>some []
 |x::xs=>
  match pv ρ x,pvs ρ xs with
  |some a,some l=>some (a::l)
  |_,_=>none
def pvo(ρ:Nat->PA):Option Operand->Option (Option DV)
 |none=>some none
 |some x=>match pv ρ x with|some (.s (.one (.d v)))=>some (some v)|_=>none
def pvd(ρ:Nat->PA):List Operand->Option (List DV)
 | []=>some []
 |x::xs=>
  match pv ρ x,pvd ρ xs with
  |some (.s (.one (.d v))),some l=>some (v::l)
  |_,_=>none
def zkl(ρ:Nat->PA):List (Nat×Nat×Operand)->List PC->Option (List PC)
 | [],cs=>some cs
 |(off,size,x)::rest,cs=>
  match pv ρ x with
  |some (.s v)=>bif Nat.beq v.cells.length size&&Nat.ble (off+size) cs.length then zkl ρ rest (cs.take off++v.cells++cs.drop (off+size)) else none
  |_=>none
mutual
def frC(lk:Nat->Bool):Nat->List PO->PC->Option (List PO×DV)
 |_,os,.d v=>some (os,v)
 |_,os,.own k=>
  match og os k with
  | .frz v=>some (os,v)
  | .arr st v=>bif lk k then none else some (oset (.frz (mkL st v)) os k,mkL st v)
  |_=>none
 |n+1,os,.ptr k off=>
  match og os k with
  | .fbox ds=>some (os,.fp ds off)
  | .box cs=>
   bif lk k then none else
   match frL lk n os cs with
   |some (os',ds)=>
    match og os' k with
    | .box cs'=>bif Nat.beq cs'.length cs.length then some (oset (.fbox ds) os' k,.fp ds off) else none
    |_=>none
   |none=>none
  |_=>none
 |_+1,os,.vw k st lo len=>
  match og os k with
  | .frz v=>some (os,zud st lo len v)
  | .arr st' v=>bif lk k then none else some (oset (.frz (mkL st' v)) os k,zud st lo len (mkL st' v))
  |_=>none
 |n+1,os,.clo f caps=>
  match frK lk n os caps with
  |some (os',l)=>some (os',.fn f l)
  |none=>none
 |_,_,_=>none
def frL(lk:Nat->Bool):Nat->List PO->List PC->Option (List PO×List DV)
 |_,os,[]=>some (os,[])
 |n,os,c::cs=>
  match n with
  |0=>none
  |n+1=>
   match frC lk n os c with
   |some (os',d)=>
    match frL lk n os' cs with
    |some (os'',ds)=>some (os'',d::ds)
    |none=>none
   |none=>none
def frK(lk:Nat->Bool):Nat->List PO->List (Nat⊕List DV)->Option (List PO×List (List DV))
 |_,os,[]=>some (os,[])
 |n,os,c::cs=>
  match n with
  |0=>none
  |n+1=>
   match (match c with | .inl k=>frC lk n os (.ptr k 0) | .inr xs=>some (os,.fp xs 0)) with
   |some (os',.fp x 0)=>
    match frK lk n os' cs with
    |some (os'',xs)=>some (os'',x::xs)
    |none=>none
   |_=>none
end
def xd:Nat:=100
def frV(lk:Nat->Bool)(os:List PO):PV->Option (List PO×DS)
 | .one c=>match frC lk xd os c with|some (os',d)=>some (os',.one d)|none=>none
 | .agg cs=>match frL lk xd os cs with|some (os',ds)=>some (os',.agg ds)|none=>none
def frA(lk:Nat->Bool)(os:List PO):List PA->Option (List PO×List DA)
 | []=>some (os,[])
 | .s v::l=>
  match frV lk os v with
  |some (os',d)=>
   match frA lk os' l with
   |some (os'',ds)=>some (os'',.s d::ds)
   |none=>none
  |none=>none
 |_::_=>none
abbrev KT(β:Type):=PA->List PO->List Nat->List Nat->Option β
abbrev Orc:=Nat->List DA->Option DA
abbrev und:PA:=.bad
abbrev pd(v:DV):PA:=.s (.one (.d v))
abbrev pc(c:PC):PA:=.s (.one c)
def zjr(O:Orc)(v:DV)(ds:List DA):Option DA:=
 match v with
 | .fn g caps=>O g (ds++caps.map fun x=>.s (.one (.fp x 0)))
 |_=>none
def mkN(bytes:Nat)(l c:DV):Option Nat:=
 match l,c with
 | .int _ (.ofNat l),.int _ (.ofNat c)=>bif Nat.beq l c&&Nat.ble c 1073741824&&Nat.ble (bytes*c) 281474976710656 then some l else none
 |_,_=>none
def zDl:DV->Option DV
 | .str s=>some (.lst 1 (s.data.toList.map fun c=>[.int .u8 (.ofNat c.toNat)]))
 |_=>none
def chunks(st:Nat):Nat->List DV->List (List DV)
 |0,_=>[]
 |n+1,ds=>ds.take st::chunks st n (ds.drop st)
def zpQ:List PC->Option (List DV)
 | []=>some []
 | .d v::cs=>match zpQ cs with|some l=>some (v::l)|none=>none
 |_=>none
def zCw(cs:List PC)(st:Nat):Nat->Nat->Option (List DV)
 |0,_=>some []
 |n+1,off=>
  match cs[off]?,zCw cs st n (off+st) with
  |some (.d v),some l=>some (v::l)
  |_,_=>none
def ipC(cs:List PC)(st len i:Nat):Nat->Nat->Option (List PC)
 |0,_=>some []
 |m+1,off=>
  match zCw cs st len off,ipC cs st len i m (Nat.succ off) with
  |some l,some r=>some (.d (atD l i)::r)
  |_,_=>none
def zeE{β:Type}(n:Option Nat)(cs:List PC)(off:Nat)(k:PV->Option β):Option β:=
 match n with
 |none=>za cs[off]? fun c=>k (.one c)
 |some m=>bif Nat.ble (off+m) cs.length then k (.agg ((cs.drop off).take m)) else none
def zjO{β:Type}(n:Option Nat)(cs:List PC)(off:Nat)(k:PV->Option β):Option β:=
 match n with
 |some 0=>none
 |n=>zeE n cs off k
def zs0(ρ:Nat->PA):List Operand->Option (List (Nat⊕List DV))
 | []=>some []
 |x::xs=>
  match pv ρ x,zs0 ρ xs with
  |some (.s (.one (.ptr k 0))),some l=>some (.inl k::l)
  |some (.s (.one (.d (.fp y 0)))),some l=>some (.inr y::l)
  |_,_=>none
def bSh{β:Type}(sh:Sh)(r:Option DA)(k:PA->Option β):Option β:=
 match sh with
 | .one=>b1 r fun d=>k (pd d)
 | .agg n=>bA n r fun l=>k (.s (.agg ((exp l n 0).map .d)))
 | .tup shs=>bT shs r fun l=>k (.tup (zeI l shs 0))
 | .no=>bN r (k und)
 | .sc=>b1 r fun d=>k (pd d)
 | .tsc n=>bT (zjY n) r fun l=>k (.tup (zeI l (zjY n) 0))
def zzq{β:Type}(sh:Sh)(r:Option DA)(k:PA->Option β):Option β:=
 match sh with
 | .sc=>b1s r fun d=>k (pd d)
 | .tsc n=>bTs n r fun l=>k (.tup (zeI l (zjY n) 0))
 |_=>none
def zCY:Sh->Bool
 | .sc=>true
 | .tsc _=>true
 |_=>false
def lvO:PO->Bool
 | .box _=>true
 | .arr _ _=>true
 | .mp _ _=>true
 |_=>false
def zCR(os:List PO):List (Nat⊕List DV)->Bool
 | []=>false
 | .inl k::l=>lvO (og os k)||zCR os l
 | .inr _::l=>zCR os l
def zCf(os:List PO):PC->Bool
 | .own k=>lvO (og os k)
 | .ptr k _=>lvO (og os k)
 | .vw k _ _ _=>lvO (og os k)
 | .clo _ caps=>zCR os caps
 |_=>false
def zEZ(os:List PO):List PC->Bool
 | []=>false
 |c::l=>zCf os c||zEZ os l
def zzO(os:List PO):List PA->Bool
 | []=>false
 | .s v::l=>zEZ os v.cells||zzO os l
 |_::l=>zzO os l
def zCU{β:Type}(os:List PO)(st:Nat)(c:PC)(k:List (List DV)->Option β):Option β:=
 match c with
 | .d v=>za (yq st v) k
 | .own j=>
  match og os j with
  | .arr st' v=>bif Nat.beq st st' then k (z5 v) else none
  | .frz v=>za (yq st v) k
  |_=>none
 |_=>none
variable {β:Type}
def zq5(os:List PO)(n:Option Nat)(c:PC)(k:KT β):Option β:=
 match c with
 | .ptr j off=>
  match og os j with
  | .box cs=>zeE n cs off fun v=>k (.s v) os [] [j]
  | .fbox ds=>zjO n (ds.map .d) off fun v=>k (.s v) os [] [j]
  |_=>none
 | .d (.fp xs off)=>zjO n (xs.map .d) off fun v=>k (.s v) os [] []
 | .ep j st i off=>
  match og os j with
  | .arr st' v=>bif Nat.beq st st' then za (xY v i) fun x=>zeE n ((exp x st 0).map .d) off fun v=>k (.s v) os [] [j] else none
  | .hol _ hn t=>
   match n with
   |none=>
    match og os t with
    | .lnk m=>bif Nat.beq st 1&&Nat.beq off 0 then gd (Nat.beq i hn) (k (pc (.own m)) os [] [j]) else none
    |_=>none
   |some _=>none
  |_=>none
 | .ip j off len st i o=>
  match og os j with
  | .box cs=>
   match n with
   |none=>za (ipC cs st len i 1 (off+o)) fun l=>match l with | [c]=>k (pc c) os [] [j]|_=>none
   |some m=>bif Nat.beq m 0 then none else za (ipC cs st len i m (off+o)) fun l=>k (.s (.agg l)) os [] [j]
  |_=>none
 |_=>none
def zq4(lk:Nat->Bool)(os:List PO)(n:Nat)(c:PC)(v:PV)(k:KT β):Option β:=
 bif Nat.beq v.cells.length n then
  match c with
  | .ptr j off=>
   match og os j with
   | .box cs=>bif lk j then none else bif Nat.ble (off+n) cs.length then k und (oset (.box (cs.take off++v.cells++cs.drop (off+n))) os j) [j] [] else none
   |_=>none
  | .ip j off _len st i o=>
   match og os j with
   | .box cs=>bif lk j then none else bif Nat.ble (off+i*st+o+n) cs.length then k und (oset (.box (cs.take (off+i*st+o)++v.cells++cs.drop (off+i*st+o+n))) os j) [j] [] else none
   |_=>none
  | .ep j st i off=>
   match og os j with
   | .hol _ hn t=>
    match v with
    | .one (.own m)=>
     match og os t with
     | .lnk _=>bif lk t then none else bif Nat.beq st 1&&Nat.beq off 0 then gd (Nat.beq i hn) (k und (oset (.lnk m) os t) [j] []) else none
     |_=>none
    |_=>none
   |_=>
   bif lk j then none else
   za (frL lk xd os v.cells) fun p=>
   match og p.1 j with
   | .arr st' w=>bif Nat.beq st st' then za (zaR st w i off p.2) fun w'=>k und (oset (.arr st w') p.1 j) [j] [] else none
   |_=>none
  |_=>none
 else none
def zAq(os:List PO)(st:Nat)(c:PC)(i:DV)(k:KT β):Option β:=
 match c with
 | .d v=>za (yb st v i) fun x=>k (pd (.fp (exp x st 0) 0)) os [] []
 | .own j=>
  match og os j with
  | .frz v=>za (yb st v i) fun x=>k (pd (.fp (exp x st 0) 0)) os [] []
  | .arr st' v=>bif Nat.beq st st' then za (zO v i) fun n=>k (pc (.ep j st n 0)) os [] [] else none
  | .hol v _ _=>bif Nat.beq st 1 then za (zO v i) fun n=>k (pc (.ep j st n 0)) os [] [] else none
  |_=>none
 | .vw j st' lo len=>
  match og os j with
  | .frz v=>za (yb st (zud st' lo len v) i) fun x=>k (pd (.fp (exp x st 0) 0)) os [] []
  | .arr _ _=>bif Nat.beq st st' then za (uc len i) fun n=>k (pc (.ep j st (lo+n) 0)) os [] [] else none
  |_=>none
 |_=>none
def zid(os:List PO)(st:Nat)(c:PC)(lo hi:Option DV)(k:KT β):Option β:=
 match c with
 | .own j=>
  match og os j with
  | .arr st' v=>bif Nat.beq st st' then za (vwB lo hi (xH v)) fun p=>k (pc (.vw j st p.1 p.2)) os [] [] else none
  | .frz v=>za (za0 st v lo hi) fun z=>k (pd z) os [] []
  |_=>none
 | .vw j st' l n=>bif Nat.beq st st' then za (vwB lo hi n) fun p=>k (pc (.vw j st (l+p.1) p.2)) os [] [] else none
 | .d v=>za (za0 st v lo hi) fun z=>k (pd z) os [] []
 |_=>none
def zlw(os:List PO)(st:Nat)(c:PC)(lo hi mx:Option DV)(k:KT β):Option β:=
 match hi,mx with
 |some hi,some mx=>
  match c with
  | .d v=>za (zfp st v lo hi mx) fun z=>k (pd z) os [] []
  | .own j=>
   match og os j with
   | .frz v=>za (zfp st v lo hi mx) fun z=>k (pd z) os [] []
   | .arr st' v=>bif Nat.beq st st' then za (zwB lo hi mx (xH v)) fun p=>k (pc (.vw j st p.1 p.2)) os [] [] else none
   |_=>none
  | .vw j st' l n=>bif Nat.beq st st' then za (zwB lo hi mx n) fun p=>k (pc (.vw j st (l+p.1) p.2)) os [] [] else none
  |_=>none
 |_,_=>none
def zCC(v:OC)(lo len:Nat)(ds:List DV):OC:=
 match v with
 |none=>none
 |some xs=>some (xs.take lo++List.replicate len ds++xs.drop (lo+len))
def zq8(lk:Nat->Bool)(os:List PO)(st:Nat)(zs:List Zc)(c:PC)(k:KT β):Option β:=
 match c with
 | .vw j st' lo len=>
  match og os j with
  | .arr st'' v=>bif lk j then none else bif Nat.beq st st'&&Nat.beq st st''&&Nat.beq zs.length st then za (cDs zs) fun ps=>za (zpQ ps) fun ds=>k und (oset (.arr st'' (zCC v lo len ds)) os j) [j] [] else none
  |_=>none
 |_=>none
def zlz(lk:Nat->Bool)(os:List PO)(st bytes:Nat)(s:PC)(x:PC)(k:KT β):Option β:=
 zCU os st x fun new=>
 match s with
 | .d v=>gdN v (gd (fits bytes new.length) (k (pc (.own os.length)) (os++[.arr st (zP none new)]) [] []))
 | .own j=>
  match og os j with
  | .arr st' v=>bif lk j then none else bif Nat.beq st st' then gd (fits bytes (xH v+new.length)) (k (pc (.own os.length)) (oset .dead os j++[.arr st (zP v new)]) [j] []) else none
  |_=>none
 | .lit j=>
  match og os j with
  | .arr st' (some [])=>bif Nat.beq st st' && !List.isEmpty new then gd (fits bytes new.length) (k (pc (.own os.length)) (os++[.arr st (zP none new)]) [] []) else none
  |_=>none
 |_=>none
def zyF:Option Nat->Option Nat->Bool
 |none,none=>true
 |some a,some b=>Nat.beq a b
 |_,_=>false
def zk3:DS->Option Nat
 | .one _=>none
 | .agg l=>some l.length
def zBE:PV->Option DS
 | .one (.d v)=>some (.one v)
 | .agg cs=>match zpQ cs with|some l=>some (.agg l)|none=>none
 |_=>none
def zDs(z:SVal):Option DS:=match pvS z with|some p=>zBE p|none=>none
def zk2(q:Nat⊕List Nat)(a b:DS):Option Bool:=
 match q,a,b with
 | .inl t,.one x,.one y=>eqD t x y
 | .inr ks,.agg xs,.agg ys=>zvi ks xs ys
 |_,_,_=>none
def ziS(q:Nat⊕List Nat)(st:Nat)(kd:DS):List (List DV)->Option (Option DS)
 | []=>some none
 |x::xs=>
  match zk2 q kd (kD st x) with
  |some true=>some (some (vD st x))
  |some false=>ziS q st kd xs
  |none=>none
def ztx(q:Nat⊕List Nat)(st:Nat)(kd:DS)(row:List DV):List (List DV)->Option (List (List DV))
 | []=>some [row]
 |x::xs=>
  match zk2 q kd (kD st x) with
  |some true=>some (row::xs)
  |some false=>match ztx q st kd row xs with|some l=>some (x::l)|none=>none
  |none=>none
def lkD(z:DS)(r:Option DS):DS:=match r with|some v=>v|none=>z
def zuQ{β:Type}(z:DS)(ok:Bool)(r:Option DS)(os:List PO)(k:KT β):Option β:=
 match z with
 | .one _=>bif ok then k (.tup [.one (dsO (lkD z r)),.one (.bool r.isSome)]) os [] [] else k (pd (dsO (lkD z r))) os [] []
 | .agg l=>bif ok then k (.tup [.agg (exp (dsA (lkD z r)) l.length 0),.one (.bool r.isSome)]) os [] [] else k (.s (.agg ((exp (dsA (lkD z r)) l.length 0).map .d))) os [] []
def zlx{β:Type}(os:List PO)(q:Nat⊕List Nat)(z:SVal)(ok:Bool)(c:PC)(kp:PV)(k:KT β):Option β:=
 za (zBE kp) fun kd=>za (zDs z) fun zd=>za (zk2 q kd kd) fun _=>
 match c with
 | .own j=>
  match og os j with
  | .mp st xs=>bif zyF (shV st) (zk3 zd) then za (ziS q st kd xs) fun r=>zuQ zd ok r os k else none
  |_=>none
 | .d .nilm=>zuQ zd ok none os k
 |_=>none
def zxh{β:Type}(lk:Nat->Bool)(os:List PO)(q:Nat⊕List Nat)(c:PC)(kp vp:PV)(k:KT β):Option β:=
 za (zBE kp) fun kd=>za (frV lk os vp) fun p=>za (zk2 q kd kd) fun _=>
 match c with
 | .own j=>
  match og p.1 j with
  | .mp st xs=>
   bif lk j then none else
   bif zyF (shK st) (zk3 kd)&&zyF (shV st) (zk3 p.2) then za (ztx q st kd (kd.cells++p.2.cells) xs) fun ys=>k und (oset (.mp st ys) p.1 j) [j] [] else none
  |_=>none
 |_=>none
def pOp(O:Orc)(lk:Nat->Bool)(sh:Sh)(ρ:Nat->PA)(os:List PO)(o:KOp)(k:KT β):Option β:=
 match o with
 | .mv x=>za (pv ρ x) fun a=>k a os [] []
 | .pick c a b=>wd (pv ρ c) fun v=>za (pv ρ a) fun a=>za (pv ρ b) fun b=>
  match a,b with
  | .s (.one (.d x)),.s (.one (.d y))=>za (zxf v x y) fun z=>k (pd z) os [] []
  |a,b=>ifB v (k a os [] []) (k b os [] [])
 | .alloc zs=>za (cDs zs) fun cs=>k (pc (.ptr os.length 0)) (os++[.box cs]) [] []
 | .box x=>
  match pv ρ x with
  |some (.s v)=>k (pc (.ptr os.length 0)) (os++[.box v.cells]) [] []
  |_=>none
 | .build zs parts=>za (cDs zs) fun cs=>za (zkl ρ parts cs) fun cs=>k (.s (.agg cs)) os [] []
 | .bslice st len zs parts=>za (cDs zs) fun cs=>za (zkl ρ parts cs) fun cs=>za (frL lk xd os cs) fun p=>bif Nat.beq p.2.length (len*st) then k (pc (.own p.1.length)) (p.1++[.arr st (some (chunks st len p.2))]) [] [] else none
 | .load n x=>w1 (pv ρ x) fun c=>zq5 os n c k
 | .store n x v=>w1 (pv ρ x) fun c=>
  match pv ρ v with
  |some (.s v)=>zq4 lk os n c v k
  |_=>none
 | .nilck x=>w1 (pv ρ x) fun c=>
  match c with
  | .ptr j off=>k (pc (.ptr j off)) os [] []
  | .ep j st i off=>k (pc (.ep j st i off)) os [] []
  | .clo f l=>k (pc (.clo f l)) os [] []
  | .d (.fp xs off)=>k (pd (.fp xs off)) os [] []
  |_=>none
 | .bin op x y=>wd (pv ρ x) fun v=>wd (pv ρ y) fun w=>za (zc op v w) fun z=>k (pd z) os [] []
 | .shift l x y=>wd (pv ρ x) fun v=>wd (pv ρ y) fun w=>za (zq l v w) fun z=>k (pd z) os [] []
 | .str op x y=>wd (pv ρ x) fun v=>wd (pv ρ y) fun w=>za (zq3 op v w) fun z=>k (pd z) os [] []
 | .nilS neg x y=>w1 (pv ρ x) fun c=>wd (pv ρ y) fun w=>
  match w with
  | .nils=>
   match c with
   | .d v=>za (zdA v) fun q=>k (pd (.bool (bif neg then !q else q))) os [] []
   | .own j=>
    match og os j with
    | .arr _ v=>k (pd (.bool (bif neg then v.isSome else v.isNone))) os [] []
    | .frz v=>za (zdA v) fun q=>k (pd (.bool (bif neg then !q else q))) os [] []
    |_=>none
   |_=>none
  |_=>none
 | .eq q neg x y=>
  match q with
  | .inl t=>wd (pv ρ x) fun v=>wd (pv ρ y) fun w=>za (eqD t v w) fun b=>k (pd (.bool (bif neg then !b else b))) os [] []
  | .inr ks=>
   match pv ρ x,pv ρ y with
   |some (.s (.agg xs)),some (.s (.agg ys))=>za (zpQ xs) fun xs=>za (zpQ ys) fun ys=>za (zvi ks xs ys) fun b=>k (pd (.bool (bif neg then !b else b))) os [] []
   |_,_=>none
 | .not x=>wd (pv ρ x) fun v=>za (zbG v) fun z=>k (pd z) os [] []
 | .neg x=>wd (pv ρ x) fun v=>za (zAn v) fun z=>k (pd z) os [] []
 | .conv t x=>wd (pv ρ x) fun v=>za (zx t v) fun z=>k (pd z) os [] []
 | .b2s x=>w1 (pv ρ x) fun c=>
  match c with
  | .d v=>za (zra v) fun z=>k (pd z) os [] []
  | .own j=>
   match og os j with
   | .arr st v=>za (zra (mkL st v)) fun z=>k (pd z) os [] [j]
   |_=>none
  |_=>none
 | .mkfn f caps=>za (zs0 ρ caps) fun l=>
  match l with
  | []=>k (pd (.fn f [])) os [] []
  |x::l=>k (pc (.clo f (x::l))) os [] []
 | .slice st x lo hi mx=>
  match mx with
  |none=>w1 (pv ρ x) fun c=>za (pvo ρ lo) fun lo=>za (pvo ρ hi) fun hi=>zid os st c lo hi k
  |some m=>w1 (pv ρ x) fun c=>za (pvo ρ lo) fun lo=>za (pvo ρ hi) fun hi=>za (pvo ρ (some m)) fun mx=>zlw os st c lo hi mx k
 | .sslice x lo hi=>wd (pv ρ x) fun v=>za (pvo ρ lo) fun lo=>za (pvo ρ hi) fun hi=>za (zlv v lo hi) fun z=>k (pd z) os [] []
 | .foff x off=>w1 (pv ρ x) fun c=>
  match c with
  | .ptr j o=>k (pc (.ptr j (o+off))) os [] []
  | .d (.fp xs o)=>k (pd (.fp xs (o+off))) os [] []
  | .ep j st i o=>k (pc (.ep j st i (o+off))) os [] []
  | .ip j f len st i o=>k (pc (.ip j f len st i (o+off))) os [] []
  |_=>none
 | .field x off n=>
  match pv ρ x with
  |some (.s (.agg cs))=>zeE n cs off fun v=>k (.s v) os [] []
  |_=>none
 | .ixs st x i=>w1 (pv ρ x) fun c=>wd (pv ρ i) fun i=>zAq os st c i k
 | .ixarr len st x i=>w1 (pv ρ x) fun c=>wd (pv ρ i) fun i=>
  match c with
  | .ptr j off=>za (uc len i) fun n=>k (pc (.ip j off len st n 0)) os [] []
  |_=>none
 | .ixagg len st n x i=>wd (pv ρ i) fun i=>
  match pv ρ x with
  |some (.s (.agg cs))=>za (uc len i) fun j=>
   match n with
   |none=>za (ipC cs st len j 1 0) fun l=>match l with | [c]=>k (pc c) os [] []|_=>none
   |some m=>bif Nat.beq m 0 then none else za (ipC cs st len j m 0) fun l=>k (.s (.agg l)) os [] []
  |_=>none
 | .ixstr x i=>wd (pv ρ x) fun v=>wd (pv ρ i) fun w=>za (zei v w) fun z=>k (pd z) os [] []
 | .extract x i=>
  match pv ρ x with
  |some (.tup l)=>
   match l[i]? with
   |some (.one d)=>k (pd d) os [] []
   |some (.agg ds)=>k (.s (.agg (ds.map .d))) os [] []
   |none=>none
  |some (.tl p l)=>
   match i with
   |0=>k (.s p) os [] []
   |i+1=>
    match l[i]? with
    |some (.one d)=>k (pd d) os [] []
    |some (.agg ds)=>k (.s (.agg (ds.map .d))) os [] []
    |none=>none
  |_=>none
 | .lenS x=>wd (pv ρ x) fun v=>za (zo5 v) fun z=>k (pd z) os [] []
 | .lenL x=>w1 (pv ρ x) fun c=>
  match c with
  | .d v=>za (zV v) fun z=>k (pd z) os [] []
  | .own j=>
   match og os j with
   | .arr _ v=>k (pd (.int .i64 (.ofNat (xH v)))) os [] []
   | .frz v=>za (zV v) fun z=>k (pd z) os [] []
   |_=>none
  | .vw _ _ _ len=>k (pd (.int .i64 (.ofNat len))) os [] []
  |_=>none
 | .append st bytes s x=>w1 (pv ρ s) fun s=>w1 (pv ρ x) fun x=>zlz lk os st bytes s x k
 | .minmax m x xs=>wd (pv ρ x) fun v=>za (pvd ρ xs) fun l=>za (jI m v l) fun z=>k (pd z) os [] []
 | .mkslice st zs bytes l c=>wd (pv ρ l) fun l=>wd (pv ρ c) fun c=>za (mkN bytes l c) fun n=>za (cDs zs) fun ps=>za (zpQ ps) fun ds=>bif Nat.beq zs.length st then k (pc (.own os.length)) (os++[.arr st (some (List.replicate n ds))]) [] [] else none
 | .clear st zs x=>w1 (pv ρ x) fun c=>zq8 lk os st zs c k
 | .mkmap st=>k (pc (.own os.length)) (os++[.mp st []]) [] []
 | .lookup q z ok m x=>w1 (pv ρ m) fun c=>
  match pv ρ x with
  |some (.s kp)=>zlx os q z ok c kp k
  |_=>none
 | .mupd q m x v=>w1 (pv ρ m) fun c=>
  match pv ρ x,pv ρ v with
  |some (.s kp),some (.s vp)=>zxh lk os q c kp vp k
  |_,_=>none
 | .lenM x=>w1 (pv ρ x) fun c=>
  match c with
  | .own j=>
   match og os j with
   | .mp _ xs=>k (pd (.int .i64 (.ofNat xs.length))) os [] []
   |_=>none
  | .d .nilm=>k (pd (.int .i64 (.ofNat 0))) os [] []
  |_=>none
 | .s2b x=>wd (pv ρ x) fun v=>za (zDl v) fun z=>k (pd z) os [] []
 | .call f args=>w1 (pv ρ f) fun c=>za (pvs ρ args) fun as=>
  bif zCY sh&&(zCf os c||zzO os as) then za (frA (fun _=>false) os as) fun p=>za (frC (fun _=>false) xd p.1 c) fun q=>zzq sh (zjr O q.2 p.2) fun a=>k a os [] []
  else za (frA lk os as) fun p=>za (frC lk xd p.1 c) fun q=>bSh sh (zjr O q.2 p.2) fun a=>k a q.1 [] []
end Go.PE
end
section
namespace Go.PE
open Go Go.CE
structure Bk (N:Nm) (os:List PO) (N':Nm) (wr:List Nat):Prop where
 nle:N.h.n.toNat<=N'.h.n.toNat
 eq:∀b:BN,b.toNat<N.h.n.toNat->(∀j,j∈wr->j<N.n->live (og os j)->blk (N.μ j)≠some b)->N'.h.t.get b=N.h.t.get b
theorem Bk.same{N N':Nm}{os:List PO}{wr:List Nat}(h:N'.h=N.h):Bk N os N' wr:=⟨by grind,fun b _ _=>by rw[h]⟩
theorem Bk.gr{N N':Nm}{os:List PO}{wr:List Nat}(g:Gr N.h N'.h):Bk N os N' wr:=⟨g.le,fun b hb _=>g.old b hb⟩
theorem Bk.put{N N':Nm}{os:List PO}{b:BN}{x:Zg}{j:Nat}(h:N'.h=N.h.put b x)(hj:j<N.n)(hl:live (og os j))(hb:blk (N.μ j)=some b):Bk N os N' [j]:=
 ⟨by rw[h];exact LzB _,fun b' _ H=>by grind[yN]⟩
def held:PO->Prop
 | .box _=>True
 | .arr _ (some _)=>True
 | .frz v=>∃st xs,v=.lst st xs
 | .fbox _=>True
 | .mp _ _=>True
 | .hol _ _ _=>True
 |_=>False
def Ho(n:Nat)(os os':List PO)(wr:List Nat):Prop:=∀k,k<n->(held (og os' k)->held (og os k))/\(held (og os k)->held (og os' k)\/k∈wr)/\(live (og os' k)->live (og os k))
theorem Ho.refl(n:Nat)(os:List PO)(wr:List Nat):Ho n os os wr:=fun _ _=>⟨id,.inl,id⟩
theorem Ho.trans{n:Nat}{a b c:List PO}{w1 w2:List Nat}(h:Ho n a b w1)(g:Ho n b c w2):Ho n a c (w1++w2):=fun k hk=>⟨fun x=>(h k hk).1 ((g k hk).1 x),fun x=>((h k hk).2.1 x).elim (fun y=>((g k hk).2.1 y).imp id (Yzr _)) (fun y=>.inr (Yzz _ y)),fun x=>(h k hk).2.2 ((g k hk).2.2 x)⟩
theorem Ho.oset{n:Nat}{os:List PO}{o:PO}{j:Nat}{wr:List Nat}(hb:held o->held (og os j))(hf:held (og os j)->held o\/j∈wr)(hv:live o->live (og os j)):Ho n os (PE.oset o os j) wr:=fun k _=>by grind[zF]
theorem Ho.app{n:Nat}{os:List PO}{o:PO}{wr:List Nat}(hn:n<=os.length):Ho n os (os++[o]) wr:=fun k hk=>by rw[y7,Yza (by omega)];grind
theorem zfY{N:Nm}{k:Nat}{o:PO}{b:BN}(hh:held o)(H:RepO N k o)(hb:blk (N.μ k)=some b):∃y,N.h.t.get b=some y:=by
 cases o with
 |box cs=>obtain⟨b',x,k1,_,k3⟩:=xF (o:=.box cs) trivial H;grind
 |arr st v=>
  rcases v with _|xs
  .trivial
  obtain⟨b',x,k1,_,k3⟩:=xF (o:=.arr st (some xs)) trivial H;grind
 |frz v=>obtain⟨st,xs,rfl⟩:=hh;obtain⟨b2,o2,off2,cap2,ex2,cs2,q1,q2,q3,_⟩:=Rep.lst_inv H;rw[q1]at hb;cases hb<;>grind
 |fbox ds=>
  obtain⟨b2,q1,q2⟩:=H;rw[q1]at hb;cases hb;obtain⟨b3,o3,base3,cs3,p1,p2,p3,_⟩:=q2.fp_inv
  grind
 |mp st xs=>obtain⟨b',x,k1,_,k3⟩:=xF (o:=.mp st xs) trivial H;grind
 |hol v n t=>obtain⟨b',x,k1,_,k3⟩:=xF (o:=.hol v n t) trivial H;grind
 |lnk m=>trivial
 |lop=>trivial
 |dead=>trivial
def BkE(N:Nm)(os:List PO)(N':Nm)(wr:List Nat):Prop:=
 ∀(b:BN) y,N.h.t.get b=some y->(∀j,j∈wr->j<N.n->live (og os j)->blk (N.μ j)≠some b)->N'.h.t.get b=some y
theorem Bk.ex{N N':Nm}{os:List PO}{wr:List Nat}(K:Bk N os N' wr)(hw:HW N.h):BkE N os N' wr:=fun b y hy H=>(K.eq b (hw b y hy) H).trans hy
structure Sim (E:En) (lk:Nat->Bool) (N:Nm) (os:List PO) (wr:List Nat) (N':Nm) (os':List PO) (v:Zb) (a:PA):Prop where
 inv:Zd E N' os'
 nx:Nx N N'
 fr:Bk N os N' wr
 lock:∀j,lk j=true->og os' j=og os j
 ho:Ho N.n os os' wr
 val:RepPA N' v a
theorem Sim.quiet{E:En}{lk:Nat->Bool}{N:Nm}{os:List PO}{v:Zb}{a:PA}(I:Zd E N os)(H:RepPA N v a):Sim E lk N os [] N os v a:=⟨I,.refl N,.same rfl,fun _ _=>rfl,.refl _ _ _,H⟩
structure Stp (E:En) (lk:Nat->Bool) (N:Nm) (os:List PO) (wr:List Nat) (N':Nm) (os':List PO):Prop where
 inv:Zd E N' os'
 nx:Nx N N'
 fr:Bk N os N' wr
 lock:∀j,lk j=true->og os' j=og os j
 ho:Ho N.n os os' wr
theorem Stp.sim{E:En}{lk:Nat->Bool}{N N':Nm}{os os':List PO}{wr:List Nat}(S:Stp E lk N os wr N' os'){v:Zb}{a:PA}(H:RepPA N' v a):Sim E lk N os wr N' os' v a:=⟨S.inv,S.nx,S.fr,S.lock,S.ho,H⟩
theorem Stp.refl{E:En}{lk:Nat->Bool}{N:Nm}{os:List PO}(I:Zd E N os):Stp E lk N os [] N os:=⟨I,.refl N,.same rfl,fun _ _=>rfl,.refl _ _ _⟩
theorem Stp.trans{E:En}{lk:Nat->Bool}{A B C:Nm}{o1 o2 o3:List PO}{w1 w2:List Nat}(a:Stp E lk A o1 w1 B o2)(b:Stp E lk B o2 w2 C o3)(hn:B.n=A.n):Stp E lk A o1 (w1++w2) C o3:=
 ⟨b.inv, a.nx.trans b.nx, ⟨Yzl a.fr.nle b.fr.nle, fun x hx H => (b.fr.eq x (Lz9 hx a.fr.nle) fun j hj hl hv hb => by have hA:j<A.n:=hn▸hl;exact H j (Yzr _ hj) hA ((a.ho j hA).2.2 hv) (by rw[<-a.nx.mu j hA];exact hb)).trans (a.fr.eq x hx fun j hj hl hv=>H j (Yzz _ hj) hl hv)⟩,fun j hj=>(b.lock j hj).trans (a.lock j hj),a.ho.trans (by rw[<-hn];exact b.ho)⟩
structure Fz (N N':Nm):Prop where
 h:N'.h=N.h
 n:N'.n=N.n
 μ:N'.μ=N.μ
theorem Fz.refl(N:Nm):Fz N N:=⟨rfl,rfl,rfl⟩
theorem Fz.trans{A B C:Nm}(a:Fz A B)(b:Fz B C):Fz A C:=⟨b.h.trans a.h,b.n.trans a.n,b.μ.trans a.μ⟩
theorem zqN{cs:List Zc}{st n:Nat}(h:cs.length=n):rd n 0 (.cells cs st)=some cs:=by
 show cut n cs 0=some cs
 grind[zbU]
variable {E:En} {lk:Nat->Bool}
theorem zmG{N:Nm}{k st:Nat}{v:OC}{fz':BN->Prop}(g:FG N.fz N.h fz' N.h)(H:RepO N k (.arr st v))(hb:v≠none->∀b,blk (N.μ k)=some b->fz' b):Rep fz' N.h (N.μ k) (mkL st v):=by
 rcases v with _|xs
 .rw[show N.μ k=.nils from H];exact .nils
 obtain⟨b,vs,ex,h1,h2,h3,h4,h5⟩:=H;rw[h1];refine Rep.lst_mk (cs:=vs) (hb (by simp) b (by rw[h1];rfl)) h3 (fun e=>by grind) (zqN h4) fun i x hx=>⟨(h5 i x hx).1,(h5 i x hx).2.mono g⟩
theorem ztc{N:Nm}{os:List PO}(I:Zd E N os){k st:Nat}{v:OC}(ho:og os k=.arr st v)(hk:lk k=false):
  ∃N',Fz N N'/\Stp E lk N os [] N' (oset (.frz (mkL st v)) os k)/\Rep N'.fz N'.h (N.μ k) (mkL st v):=by
 have hlock:∀(o:PO) j,lk j=true->og (oset o os k) j=og os j:=fun o j hj=>by rw[zF,Yza (fun e=>by grind)]
 have hO:=I.obj k;rw[ho]at hO;rcases v with _|xs
 .have h1:RepO N k (.frz (mkL st none)):=by
   show Rep _ _ _ _;rw[show N.μ k=.nils from hO];exact .nils
  exact⟨N,.refl N,⟨I.turn k _ (fun e=>e) h1 (by grind),.refl N,Bk.same rfl,hlock _,.oset (fun⟨_,_,h⟩=>by cases h) (fun h=>by rw[ho]at h;trivial) (fun h=>h.elim)⟩,h1⟩
 obtain⟨b,vs,ex,h1,h2,h3,h4,h5⟩:=hO;have hb:blk (N.μ k)=some b:=by rw[h1];rfl
 have hl:solid (og os k):=by rw[ho];trivial
 have g:FG N.fz N.h (fun b'=>N.fz b'\/b'=b) N.h:=⟨fun _ _ h _=>.inl h,fun _ _ _ h=>h⟩;have hr:Rep (fun b'=>N.fz b'\/b'=b) N.h (N.μ k) (mkL st (some xs)):=zmG g (show RepO N k (.arr st (some xs)) from⟨b,vs,ex,h1,h2,h3,h4,h5⟩) fun _ b' hb'=>by grind
 obtain⟨i1,i2⟩:=I.freeze hl hb (.frz (mkL st (some xs))) (fun e=>e) hr;exact⟨⟨N.μ,N.n,fun b'=>N.fz b'\/b'=b,N.h⟩,⟨rfl,rfl,rfl⟩,⟨i1,i2,Bk.same rfl,hlock _,.oset (fun _=>by rw[ho];trivial) (fun _=>.inl ⟨_,_,rfl⟩) (fun h=>h.elim)⟩,hr⟩
theorem zib{N:Nm}{fz:BN->Prop}{h:Za}{k st lo len:Nat}{c:Zc}{v:DV}(H:Rep fz h (N.μ k) v)(hc:RepPC N c (.vw k st lo len)):Rep fz h c (zud st lo len v):=by
 obtain⟨_,hc⟩:=hc;cases v<;>first|exact .u _|skip
 .have h1:=H.scal rfl;rcases hc with⟨_,rfl,_,_⟩|⟨b,l,cap,ex,cap',ex',h2,_⟩
  .exact .nils
  grind
 rename_i st' xs;show Rep fz h c (bif Nat.beq st st' then .lst st' ((xs.drop lo).take len) else .u);cases hs:Nat.beq st st'
 .exact .u _
 have:=Lz1 hs;subst this;obtain⟨b,o,off,cap,ex,cs,e1,g1,g2,g3,g4,g5⟩:=H.lst_inv;rcases hc with⟨h2,_⟩|⟨b',l,cap2,ex2,cap',ex',h2,rfl,h3,h4⟩
 .grind
 rw[e1]at h2;cases h2;have hlen:((xs.drop lo).take len).length=len:=by simp;omega
 have ml:(lo+len)*st<=xs.length*st:=Yzk st h3;rw[Yyd]at ml;have:=Rep.lst_mk (fz:=fz) (off:=0+lo*st) (cap:=cap') (ex:=ex') (xs:=(xs.drop lo).take len) (cs:=(cs.drop (lo*st)).take (len*st)) g1 g2 (by grind)
  (by rw[hlen];exact zef g4 ml) (fun i z hz=>by
   rw[YzB]at hz;split at hz
   .rename_i hi;rw[Yzu]at hz;obtain⟨q1,q2⟩:=g5 _ _ hz;refine⟨q1,?_⟩;have e1:List.take st (List.drop (i*st) (List.take (len*st) (List.drop (lo*st) cs)))=List.take st (List.drop ((lo+i)*st) cs):=by
     have:=Yzk st (show i+1<=len from hi)
     grind[List.drop_take,YzL,Yyd]
    grind
   cases hz)
 grind
theorem zBs:∀n:Nat,
  (∀(os:List PO) (N:Nm) (c:Zc) (p:PC) (os':List PO) (d:DV),Zd E N os->RepPC N c p->frC lk n os p=some (os',d)->∃N',Fz N N'/\Stp E lk N os [] N' os'/\Rep N'.fz N'.h c d)/\
  (∀(os:List PO) (N:Nm) (cs:List Zc) (ps:List PC) (os':List PO) (ds:List DV),Zd E N os->RepPL N cs ps->frL lk n os ps=some (os',ds)->∃N',Fz N N'/\Stp E lk N os [] N' os'/\RepL N'.fz N'.h cs ds)/\
  (∀ (os : List PO) (N : Nm) (qs : List (BN × Nat)) (xs : List (Nat ⊕ List DV)) (os' : List PO) (l : List (List DV)), Zd E N os -> RepCaps N qs xs -> frK lk n os xs = some (os', l) ->
   ∃N',Fz N N'/\Stp E lk N os [] N' os'/\RepL N'.fz N'.h (qs.map fun p=>.ptr p.1 p.2) (l.map fun x=>.fp x 0)):=by
 intro n
 induction n with
 |zero=>
  refine⟨?_,?_,?_⟩
  .intro os N c p os' d I H e;cases p with
   |d v=>simp only[frC]at e;cases e;exact⟨N,.refl N,.refl I,H⟩
   |own k=>
    simp only[frC]at e;obtain⟨hk,rfl⟩:=H;cases ho:og os k with
    |frz v=>rw[ho]at e;cases e;exact⟨N,.refl N,.refl I,by have:=I.obj k;rw[ho]at this;exact this⟩
    |arr st v=>
     rw[ho]at e;simp only at e;cases hlk:lk k
     case true=>grind
     rw[hlk]at e;cases e<;>simp_all[ztc]
    |_=>grind
   |_=>trivial
  .intro os N cs ps os' ds I H e;cases ps with
   |nil=>simp only[frL]at e;cases e;cases cs with
    |nil=>exact⟨N,.refl N,.refl I,.nil _ _⟩
    |cons c cs=>trivial
   |cons p ps=>trivial
  intro os N cs ps os' ds I H e;cases ps with
  |nil=>simp only[frK]at e;cases e;cases cs with
   |nil=>exact⟨N,.refl N,.refl I,.nil _ _⟩
   |cons c cs=>trivial
  |cons p ps=>trivial
 |succ n ih=>
  obtain⟨ihC,ihL,ihK⟩:=ih;refine⟨?_,?_,?_⟩
  .intro os N c p os' d I H e;cases p with
   |d v=>grind[frC]
   |lit k=>trivial
   |own k=>
    simp only[frC]at e;obtain⟨hk,rfl⟩:=H;cases ho:og os k with
    |frz v=>rw[ho]at e;cases e;exact⟨N,.refl N,.refl I,by have:=I.obj k;rw[ho]at this;exact this⟩
    |arr st v=>
     rw[ho]at e;simp only at e;cases hlk:lk k
     case true=>grind
     rw[hlk]at e;cases e<;>simp_all[ztc]
    |_=>grind
   |ptr k off=>
    simp only[frC]at e;obtain⟨hk,b,hb,rfl⟩:=H;cases ho:og os k with
    |fbox ds=>
     rw[ho]at e;cases e;have:=I.obj k;rw[ho]at this;obtain⟨b',h1,h2⟩:=this;rw[hb]at h1;cases h1;obtain⟨b1,o1,base,cs,e1,e2,e3,e4,e5⟩:=h2.fp_inv;cases e1;refine⟨N,.refl N,.refl I,?_⟩;have:=Rep.fp_mk (off:=off) e2 e3 e4 e5
     grind
    |box cs=>
     rw[ho]at e;simp only at e;cases hlk:lk k
     case true=>grind
     rw[hlk]at e;simp only[Yzd]at e;rcases hf:frL lk n os cs with _|p
     .grind
     obtain⟨os1,ds⟩:=p;rw[hf]at e;simp only at e;have hO:=I.obj k;rw[ho]at hO;obtain⟨b',vs,h1,h2,h3,h4⟩:=hO;rw[hb]at h1;cases h1;obtain⟨N1,f1,s1,r1⟩:=ihL os N vs cs os1 ds I h4 hf;cases ho1:og os1 k with
     |box cs'=>
      rw[ho1]at e;simp only at e;cases hq:Nat.beq cs'.length cs.length
      .grind
      rw[hq]at e;cases e;have hl:solid (og os1 k):=by rw[ho1];trivial
      have hbk:blk (N1.μ k)=some b:=by rw[f1.μ,hb];rfl
      have g:FG N1.fz N1.h (fun b'=>N1.fz b'\/b'=b) N1.h:=⟨fun _ _ h _=>.inl h,fun _ _ _ h=>h⟩;have h3':N1.h.t.get b=some (.cells vs 0):=by rw[f1.h];exact h3
      have hr:∀off,Rep (fun b'=>N1.fz b'\/b'=b) N1.h (.ptr b off) (.fp ds off):=fun off=>by
       have:=Rep.fp_mk (fz:=fun b'=>N1.fz b'\/b'=b) (off:=off) (base:=0) (.inr rfl) h3' (zqN r1.1) (r1.mono g)
       grind
      obtain⟨i1,i2⟩:=s1.inv.freeze hl hbk (.fbox ds) (fun e=>e) ⟨b,by rw[f1.μ];exact hb,hr 0⟩;refine⟨⟨N1.μ,N1.n,fun b'=>N1.fz b'\/b'=b,N1.h⟩,f1.trans ⟨rfl,rfl,rfl⟩,s1.trans (w2:=[]) ⟨i1,i2,Bk.same rfl,fun j hj=>?_,.oset (fun _=>by rw[ho1];trivial) (fun _=>.inl trivial) (fun h=>h.elim)⟩ f1.n,hr off⟩;rw[zF,Yza (fun e=>by grind)]
     |_=>grind
    |_=>grind
   |ep k st i off=>trivial
   |ip k off len st i o=>trivial
   |vw k st lo len=>
    simp only[frC]at e;cases ho:og os k with
    |frz v=>rw[ho]at e;cases e;exact⟨N,.refl N,.refl I,zib (by have:=I.obj k;rw[ho]at this;exact this) H⟩
    |arr st' v=>
     rw[ho]at e;simp only at e;cases hlk:lk k
     case true=>grind
     rw[hlk]at e;cases e;obtain⟨N',f1,s1,r1⟩:=ztc I ho hlk
     grind[zib]
    |_=>grind
   |clo f caps=>
    simp only[frC]at e;obtain⟨ps,rfl,hc⟩:=H;rcases hf:frK lk n os caps with _|p
    .grind
    obtain⟨os1,l⟩:=p;rw[hf]at e;cases e;obtain⟨N1,f1,s1,r1⟩:=ihK os N ps caps _ _ I hc hf;exact⟨N1,f1,s1,.fn_mk r1⟩
  .intro os N cs ps os' ds I H e;cases ps with
   |nil=>grind[frL]
   |cons p ps=>
    cases cs with
    |nil=>trivial
    |cons c cs=>
     simp only[frL]at e;rcases h1:frC lk n os p with _|q
     .grind
     obtain⟨os1,d⟩:=q;rw[h1]at e;simp only at e;rcases h2:frL lk n os1 ps with _|q
     .grind
     obtain⟨os2,ds2⟩:=q;rw[h2]at e;cases e;obtain⟨N1,f1,s1,r1⟩:=ihC os N c p os1 d I H.1 h1;obtain⟨N2,f2,s2,r2⟩:=ihL os1 N1 cs ps _ _ s1.inv (RepPL.mono s1.nx H.2) h2;exact⟨N2,f1.trans f2,s1.trans s2 f1.n,.cons (r1.mono s2.nx.fg) r2⟩
  intro os N qs xs os' l I H e;cases xs with
  |nil=>grind[frK]
  |cons x xs=>
   cases qs with
   |nil=>trivial
   |cons q qs=>
    have hx:∀os1 d,(match x with | .inl k=>frC lk n os (.ptr k 0) | .inr xs=>some (os,.fp xs 0))=some (os1,d)->∃N',Fz N N'/\Stp E lk N os [] N' os1/\Rep N'.fz N'.h (.ptr q.1 q.2) d:=by
     intro os1 d h1;cases x with
     |inl k=>obtain⟨a1,a2,a3⟩:=H.1;exact ihC os N (.ptr q.1 q.2) (.ptr k 0) os1 d I ⟨a1,q.1,a2,by rw[a3]⟩ h1
     |inr xs=>cases h1;exact⟨N,.refl N,.refl I,H.1⟩
    have key:∀m:Option (List PO×DV),(∀os1 d,m=some (os1,d)->∃N',Fz N N'/\Stp E lk N os [] N' os1/\Rep N'.fz N'.h (.ptr q.1 q.2) d)->
      (match m with
       |some (os',.fp x 0)=>
        match frK lk n os' xs with
        |some (os'',xs)=>some (os'',x::xs)
        |none=>none
       |_=>none)=some (os',l)->∃N',Fz N N'/\Stp E lk N os [] N' os'/\RepL N'.fz N'.h ((q::qs).map fun p=>.ptr p.1 p.2) (l.map fun x=>.fp x 0):=by
     intro m hm e;split at e
     .rename_i os1 y;rcases h2:frK lk n os1 xs with _|q2
      .grind
      obtain⟨os2,l2⟩:=q2;rw[h2]at e;cases e;obtain⟨N1,f1,s1,r1⟩:=hm os1 _ rfl;obtain⟨N2,f2,s2,r2⟩:=ihK os1 N1 qs xs _ _ s1.inv (RepCaps.mono s1.nx H.2) h2;exact⟨N2,f1.trans f2,s1.trans s2 f1.n,.cons (r1.mono s2.nx.fg) r2⟩
     cases e
    exact key _ hx e
theorem zf5{n:Nat}{os os':List PO}{N:Nm}{c:Zc}{p:PC}{d:DV}(I:Zd E N os)(H:RepPC N c p)(e:frC lk n os p=some (os',d)):∃N',Fz N N'/\Stp E lk N os [] N' os'/\Rep N'.fz N'.h c d:=(zBs n).1 _ _ _ _ _ _ I H e
theorem znU{n:Nat}{os os':List PO}{N:Nm}{cs:List Zc}{ps:List PC}{ds:List DV}(I:Zd E N os)(H:RepPL N cs ps)(e:frL lk n os ps=some (os',ds)):∃N',Fz N N'/\Stp E lk N os [] N' os'/\RepL N'.fz N'.h cs ds:=(zBs n).2.1 _ _ _ _ _ _ I H e
theorem zkk{os os':List PO}{N:Nm}{v:SVal}{p:PV}{d:DS}(I:Zd E N os)(H:RepPV N v p)(e:frV lk os p=some (os',d)):∃N',Fz N N'/\Stp E lk N os [] N' os'/\RepS N'.fz N'.h v d:=by
 cases p with
 |one c=>
  cases v with
  |agg cs=>trivial
  |one x=>
   simp only[frV]at e;rcases h1:frC lk xd os c with _|q
   .grind
   obtain⟨o1,d1⟩:=q;rw[h1]at e;cases e;exact zf5 I H h1
 |agg cs=>
  cases v with
  |one x=>trivial
  |agg xs=>
   simp only[frV]at e;rcases h1:frL lk xd os cs with _|q
   .grind
   obtain⟨o1,d1⟩:=q;rw[h1]at e;cases e;exact znU I H h1
def RepPAL(N:Nm):List Zb->List PA->Prop
 | [],[]=>True
 |c::cs,d::ds=>RepPA N c d/\RepPAL N cs ds
 |_,_=>False
theorem RepPAL.mono{N N':Nm}(g:Nx N N'):∀{c:List Zb} {d:List PA},RepPAL N c d->RepPAL N' c d
 | [],[],_=>trivial
 |_::_,_::_,H=>⟨H.1.mono g,RepPAL.mono g H.2⟩
 | [],_::_,H=>H.elim
 |_::_,[],H=>H.elim
theorem znX:∀{as:List PA} {vs:List Zb} {os os':List PO} {N:Nm} {ds:List DA},Zd E N os->RepPAL N vs as->frA lk os as=some (os',ds)->∃N',Fz N N'/\Stp E lk N os [] N' os'/\RepAL N'.fz N'.h vs ds
 | [],[],os,os',N,ds,I,H,e=>by simp only[frA]at e;cases e;exact⟨N,.refl N,.refl I,trivial⟩
 | .s p::as,v::vs,os,os',N,ds,I,H,e=>by
  simp only[frA]at e;rcases h1:frV lk os p with _|q
  .grind
  obtain⟨o1,d1⟩:=q;rw[h1]at e;simp only at e;rcases h2:frA lk o1 as with _|q
  .grind
  obtain⟨o2,ds2⟩:=q;rw[h2]at e;cases e;obtain⟨w,rfl,hw⟩:=H.1.inv;obtain⟨N1,f1,s1,r1⟩:=zkk I hw h1;obtain⟨N2,f2,s2,r2⟩:=znX s1.inv (RepPAL.mono s1.nx H.2) h2;exact⟨N2,f1.trans f2,s1.trans s2 f1.n,.of (r1.mono s2.nx.fg),r2⟩
 | .tup l::as,_::_,os,os',N,ds,I,H,e=>by trivial
 | .tl p l::as,_::_,os,os',N,ds,I,H,e=>by cases e
 | .bad::as,_::_,os,os',N,ds,I,H,e=>by trivial
 | .undef::as,_::_,os,os',N,ds,I,H,e=>by trivial
 | [],_::_,_,_,_,_,_,H,_=>H.elim
 |_::_,[],_,_,_,_,_,H,_=>H.elim
end Go.PE
end
section
namespace Go.PE
open Go Go.CE
def Goal{β:Type}(C:Nat->zh)(E:En)(lk:Nat->Bool)(N:Nm)(os:List PO)(r:Fr)(ko:KOp)(k:KT β)(x:β):Prop:=
 ∃a os' wr rd,k a os' wr rd=some x/\Ev (fun n=>runK r ko (C n) N.h) (fun p=>∃N',N'.h=p.2/\Sim E lk N os wr N' os' p.1 a)
def trk(ρ:Nat->PA):KOp->Option Operand
 | .mv x=>some x
 | .foff x _=>some x
 | .field x _ _=>some x
 | .ixarr _ _ x _=>some x
 | .ixs _ x _=>match pv ρ x with|some (.s (.one (.own _)))=>none|some (.s (.one (.vw _ _ _ _)))=>none|_=>some x
 | .extract x _=>some x
 | .nilck x=>some x
 |_=>none
def zj6:KOp->Option Operand
 | .load _ x=>some x
 | .b2s x=>some x
 |_=>none
def zEU(N:Nm)(os:List PO)(r:Fr)(ρ:Nat->PA)(xo:Operand)(rd:List Nat):Prop:=
  ∃w,kv r xo=some (.s (.one w))/\(blk w=none\/∃b,blk w=some b/\
    ((∃ j, rd = [j] /\ j < N.n /\ blk (N.μ j) = some b /\ held (og os j) /\ ∀ N' : Nm, (∀ u pa, kv r xo = some u -> pv ρ xo = some pa -> RepPA N' u pa) -> j < N'.n) \/
     (rd=[]/\∀N':Nm,(∀u pa,kv r xo=some u->pv ρ xo=some pa->RepPA N' u pa)->N'.fz b/\∃y,N'.h.t.get b=some y)))
def GoalQ{β:Type}(N:Nm)(os:List PO)(r:Fr)(ρ:Nat->PA)(ko:KOp)(k:KT β)(x:β):Prop:=
 ∃v a rd,k a os [] rd=some x/\(∀call,runK r ko call N.h=some (v,N.h))/\RepPA N v a/\(∀xo,trk ρ ko=some xo->∀(N':Nm) u pa,kv r xo=some u->pv ρ xo=some pa->RepPA N' u pa->RepPA N' v a)/\
  (∀xo,zj6 ko=some xo->zEU N os r ρ xo rd)
section
variable {β:Type} {C:Nat->zh} {E:En} {lk:Nat->Bool} {N:Nm} {os:List PO} {r:Fr} {ρ:Nat->PA}
theorem GoalQ.quiet{ko:KOp}{k:KT β}{x:β}(_:Zd E N os){v:Zb}{a:PA}{rd:List Nat}(e:∀call,runK r ko call N.h=some (v,N.h))(H:RepPA N v a)(hk:k a os [] rd=some x)(ht:∀xo,trk ρ ko=some xo->∀(N':Nm) u pa,kv r xo=some u->pv ρ xo=some pa->RepPA N' u pa->RepPA N' v a:=by intro _ h;cases h)(hm:∀xo,zj6 ko=some xo->zEU N os r ρ xo rd:=by intro _ h;cases h):GoalQ N os r ρ ko k x:=⟨v,a,rd,hk,e,H,ht,hm⟩
theorem Goal.quiet{ko:KOp}{k:KT β}{x:β}(I:Zd E N os){v:Zb}{a:PA}{rd:List Nat}(e:∀call,runK r ko call N.h=some (v,N.h))(H:RepPA N v a)(hk:k a os [] rd=some x):Goal C E lk N os r ko k x:=
 ⟨a,os,[],rd,hk,⟨(v,N.h),⟨N,rfl,.quiet I H⟩,0,fun n _=>e (C n)⟩⟩
theorem zc7{a:Operand}{u0:Zb}{p0:PA}{v:Zb}{a':PA}(ku:kv r a=some u0)(kp:pv ρ a=some p0)(H:∀N':Nm,RepPA N' u0 p0->RepPA N' v a'):∀xo,some a=some xo->∀(N':Nm) u pa,kv r xo=some u->pv ρ xo=some pa->RepPA N' u pa->RepPA N' v a':=by grind
theorem GoalQ.goal{ko:KOp}{k:KT β}{x:β}(I:Zd E N os)(G:GoalQ N os r ρ ko k x):Goal C E lk N os r ko k x:=by obtain⟨v,a,rd,h1,h2,h3,_,_⟩:=G;exact .quiet I h2 h3 h1
theorem zBL{fz:BN->Prop}{h:Za}{c:Zc}{d:DV}(e:cD c=some d):Rep fz h c d:=by
 cases c<;>simp only[cD]at e<;>first|cases e|skip
 .exact .bool _
 .exact .int _ _
 .exact .str _
 .exact .nilp
 .exact .nils
 .exact .nilm
 .rename_i f caps;cases caps with
  |nil=>cases e;exact .fn_mk (.nil _ _)
  |cons a l=>cases e
 .exact .nilf
 exact .nili
theorem zds:∀{cs:List Zc} {ps:List PC},cDs cs=some ps->RepPL N cs ps
 | [],ps,e=>by cases e;trivial
 |c::cs,ps,e=>by
  simp only[cDs]at e;rcases h1:cD c with _|d
  .grind
  rcases h2:cDs cs with _|ds
  .grind
  rw[h1,h2]at e;cases e;exact⟨zBL h1,zds h2⟩
theorem zqP{s:SVal}{p:PV}(e:pvS s=some p):RepPV N s p:=by
 cases s with
 |one c=>
  simp only[pvS]at e;rcases h1:cD c with _|d
  .grind
  rw[h1]at e;cases e;exact zBL h1
 |agg cs=>
  simp only[pvS]at e;rcases h1:cDs cs with _|ds
  .grind
  rw[h1]at e;cases e;exact zds h1
theorem wM(F:∀i,RepPA N (r i) (ρ i)){x:Operand}{a:PA}(e:pv ρ x=some a):∃v,kv r x=some v/\RepPA N v a:=by
 cases x with
 |tmp t=>cases e;exact⟨_,rfl,F t⟩
 |const v=>
  simp only[pv]at e;rcases hv:zs2 v with _|s
  .grind
  rw[hv]at e;simp only at e;rcases hp:pvS s with _|p
  .grind
  rw[hp]at e;cases e;exact⟨.s s,by grind[kv],.of (zqP hp)⟩
 |func f=>cases e;exact⟨_,rfl,RepPA.of (p:=.one (.d (.fn f []))) (v:=.one (.fn f [])) (Rep.fn_mk (.nil _ _))⟩
 |global g=>cases e
theorem zg5(F:∀i,RepPA N (r i) (ρ i)):∀{xs:List Operand} {as:List PA},pvs ρ xs=some as->∃vs,kvs r xs=some vs/\RepPAL N vs as
 | [],as,e=>by cases e;exact⟨[],rfl,trivial⟩
 |x::xs,as,e=>by
  simp only[pvs]at e;rcases h1:pv ρ x with _|a
  .grind
  rcases h2:pvs ρ xs with _|l
  .grind
  rw[h1,h2]at e;cases e;obtain⟨v,k1,k2⟩:=wM F h1;obtain⟨vs,k3,k4⟩:=zg5 F h2;exact⟨v::vs,by grind[kvs],k2,k4⟩
theorem j8(F:∀i,RepPA N (r i) (ρ i)){x:Operand}{K:PC->Option β}{y:β}(e:w1 (pv ρ x) K=some y):∃c v,K c=some y/\kv r x=some v/\RepPA N v (pc c)/\pv ρ x=some (pc c):=by
 rcases h:pv ρ x with _|a
 .rw[h]at e;cases e
 rw[h]at e;cases a with
 |tup l=>cases e
 |tl p l=>cases e
 |bad=>cases e
 |undef=>cases e
 |s p=>
  cases p with
  |agg cs=>cases e
  |one c=>obtain⟨v,k1,k2⟩:=wM F h;exact⟨c,v,e,k1,k2,rfl⟩
theorem ua(F:∀i,RepPA N (r i) (ρ i)){x:Operand}{K:DV->Option β}{y:β}(e:wd (pv ρ x) K=some y):∃d v,K d=some y/\kv r x=some v/\RepPA N v (pd d):=by
 rcases h:pv ρ x with _|a
 .rw[h]at e;cases e
 rw[h]at e;cases a with
 |tup l=>cases e
 |tl p l=>cases e
 |bad=>cases e
 |undef=>cases e
 |s p=>
  cases p with
  |agg cs=>cases e
  |one c=>
   cases c with
   |d d=>obtain⟨v,k1,k2⟩:=wM F h;exact⟨d,v,e,k1,k2⟩
   |_=>cases e
theorem zj{α:Type}{o:Option α}{K:α->Option β}{y:β}(e:za o K=some y):∃a,o=some a/\K a=some y:=by
 rcases o with _|a
 .cases e
 exact⟨a,rfl,e⟩
theorem yc{v:Zb}{c:PC}(H:RepPA N v (pc c)):∃w,v=.s (.one w)/\RepPC N w c:=by
 obtain⟨w,rfl,hw⟩:=H.inv;cases w with
 |one w=>exact⟨w,rfl,hw⟩
 |agg cs=>trivial
theorem wU{v:Zb}{d:DV}(H:RepPA N v (pd d)):∃w,v=.s (.one w)/\Rep N.fz N.h w d:=yc H
theorem yh{v:Zb}{d:DV}{c:Zc}(H:RepPA N v (pd d))(e:d.scal=some c):v=.s (.one c):=by obtain⟨w,rfl,hw⟩:=wU H;rw[hw.scal e]
theorem yS{d:DV}{c:Zc}(e:d.scal=some c):RepPA N (.s (.one c)) (pd d):=RepPA.of (p:=.one (.d d)) (v:=.one c) (Rep.ofScal e)
theorem uO{d:DV}{c:Zc}(e:Rep N.fz N.h c d):RepPA N (.s (.one c)) (pd d):=RepPA.of (p:=.one (.d d)) (v:=.one c) e
theorem yY{p:PC}{c:Zc}(e:RepPC N c p):RepPA N (.s (.one c)) (pc p):=RepPA.of (p:=.one p) (v:=.one c) e
theorem zxy{o:Option Zc}{z:DV}(e:oD o=some z):∃c,o=some c/\z.scal=some c:=by
 rcases o with _|c
 .cases e
 cases c<;>simp only[oD]at e<;>cases e<;>exact⟨_,rfl,rfl⟩
variable {k:KT β} {x:β}
theorem zE9(I:Zd E N os)(F:∀i,RepPA N (r i) (ρ i)){a:Operand}(e:za (pv ρ a) (fun a=>k a os [] [])=some x):GoalQ N os r ρ (.mv a) k x:=by obtain⟨p,h1,h2⟩:=zj e;obtain⟨v,k1,k2⟩:=wM F h1;exact .quiet I (fun call=>by grind[runK,zH]) k2 h2 (zc7 k1 h1 fun N' H=>H)
theorem zAG(I:Zd E N os)(F:∀i,RepPA N (r i) (ρ i)){op:BinOp}{a b:Operand}(e:wd (pv ρ a) (fun v=>wd (pv ρ b) fun w=>za (zc op v w) fun z=>k (pd z) os [] [])=some x):GoalQ N os r ρ (.bin op a b) k x:=by
 have hh:=ua F e;clear e;obtain⟨v,va,e,ka,ra⟩:=hh;have hh:=ua F e;clear e;obtain⟨w,vb,e,kb,rb⟩:=hh;have hh:=zj e;clear e;obtain⟨z,hz,e⟩:=hh;cases v<;>cases w<;>simp only[zc]at hz<;>first|cases hz|skip
 rename_i k1 n1 k2 n2;cases hk:eqK k1 k2
 .grind
 rw[hk]at hz;obtain⟨c,h1,h2⟩:=zxy hz;rw[yh ra rfl]at ka;rw[yh rb rfl]at kb;refine .quiet I (v:=.s (.one c)) (fun call=>?_) (yS h2) e;simp only[runK,ka,kb,zH];show (bif eqK k1 k2 then zbY N.h (qD op k1 n1 n2) else none)=_;rw[hk,h1];rfl
theorem zri(I:Zd E N os)(F:∀i,RepPA N (r i) (ρ i)){l:Bool}{a b:Operand}(e:wd (pv ρ a) (fun v=>wd (pv ρ b) fun w=>za (zq l v w) fun z=>k (pd z) os [] [])=some x):GoalQ N os r ρ (.shift l a b) k x:=by
 have hh:=ua F e;clear e;obtain⟨v,va,e,ka,ra⟩:=hh;have hh:=ua F e;clear e;obtain⟨w,vb,e,kb,rb⟩:=hh;have hh:=zj e;clear e;obtain⟨z,hz,e⟩:=hh;cases v<;>cases w<;>simp only[zq]at hz<;>first|cases hz|skip
 rename_i k1 n1 k2 n2;obtain⟨c,h1,h2⟩:=zxy hz;rw[yh ra rfl]at ka;rw[yh rb rfl]at kb;refine .quiet I (v:=.s (.one c)) (fun call=>?_) (yS h2) e;simp only[runK,ka,kb,zH];show zbY N.h ((bif l then ziV else ziU) k1 n1 n2)=_;rw[h1];rfl
theorem zAy(I:Zd E N os)(F:∀i,RepPA N (r i) (ρ i)){op:BinOp}{a b:Operand}(e:wd (pv ρ a) (fun v=>wd (pv ρ b) fun w=>za (zq3 op v w) fun z=>k (pd z) os [] [])=some x):GoalQ N os r ρ (.str op a b) k x:=by
 have hh:=ua F e;clear e;obtain⟨v,va,e,ka,ra⟩:=hh;have hh:=ua F e;clear e;obtain⟨w,vb,e,kb,rb⟩:=hh;have hh:=zj e;clear e;obtain⟨z,hz,e⟩:=hh;cases v<;>cases w<;>simp only[zq3]at hz<;>first|cases hz|skip
 rename_i s1 s2;obtain⟨c,h1,h2⟩:=zxy hz;rw[yh ra rfl]at ka;rw[yh rb rfl]at kb;refine .quiet I (v:=.s (.one c)) (fun call=>?_) (yS h2) e;simp only[runK,ka,kb,zH];show zbY N.h (zvc op s1 s2)=_;rw[h1];rfl
theorem zAz(I:Zd E N os)(F:∀i,RepPA N (r i) (ρ i)){a:Operand}(e:wd (pv ρ a) (fun v=>za (zbG v) fun z=>k (pd z) os [] [])=some x):GoalQ N os r ρ (.not a) k x:=by have hh:=ua F e;clear e;obtain⟨v,va,e,ka,ra⟩:=hh;have hh:=zj e;clear e;obtain⟨z,hz,e⟩:=hh;cases v<;>simp only[zbG]at hz<;>cases hz;rw[yh ra rfl]at ka;exact .quiet I (fun call=>by simp only[runK,ka,zH];rfl) (yS rfl) e
theorem zAA(I:Zd E N os)(F:∀i,RepPA N (r i) (ρ i)){a:Operand}(e:wd (pv ρ a) (fun v=>za (zAn v) fun z=>k (pd z) os [] [])=some x):GoalQ N os r ρ (.neg a) k x:=by have hh:=ua F e;clear e;obtain⟨v,va,e,ka,ra⟩:=hh;have hh:=zj e;clear e;obtain⟨z,hz,e⟩:=hh;cases v<;>simp only[zAn]at hz<;>cases hz;rw[yh ra rfl]at ka;exact .quiet I (fun call=>by simp only[runK,ka,zH];rfl) (yS rfl) e
theorem zv6(I:Zd E N os)(F:∀i,RepPA N (r i) (ρ i)){t:IntKind}{a:Operand}(e:wd (pv ρ a) (fun v=>za (zx t v) fun z=>k (pd z) os [] [])=some x):GoalQ N os r ρ (.conv t a) k x:=by have hh:=ua F e;clear e;obtain⟨v,va,e,ka,ra⟩:=hh;have hh:=zj e;clear e;obtain⟨z,hz,e⟩:=hh;cases v<;>simp only[zx]at hz<;>cases hz;rw[yh ra rfl]at ka;exact .quiet I (fun call=>by simp only[runK,ka,zH];rfl) (yS rfl) e
theorem zv3(I:Zd E N os)(F:∀i,RepPA N (r i) (ρ i)){a:Operand}(e:wd (pv ρ a) (fun v=>za (zo5 v) fun z=>k (pd z) os [] [])=some x):GoalQ N os r ρ (.lenS a) k x:=by have hh:=ua F e;clear e;obtain⟨v,va,e,ka,ra⟩:=hh;have hh:=zj e;clear e;obtain⟨z,hz,e⟩:=hh;cases v<;>simp only[zo5]at hz<;>cases hz;rw[yh ra rfl]at ka;exact .quiet I (fun call=>by simp only[runK,ka,zH];rfl) (yS rfl) e
theorem zoo:∀{l:List UInt8} {i:Nat} {z:DV},zmA l i=some z->∃c,zgp l i=some c/\z.scal=some c
 | [],i,z,e=>by cases e
 |u::l,i,z,e=>by
  simp only[zmA,zgp]at e ⊢;cases hb:Nat.beq i 0
  .rw[hb]at e;exact zoo e
  rw[hb]at e;cases e;exact⟨_,rfl,rfl⟩
theorem zrl(I:Zd E N os)(F:∀i,RepPA N (r i) (ρ i)){a b:Operand}(e:wd (pv ρ a) (fun v=>wd (pv ρ b) fun w=>za (zei v w) fun z=>k (pd z) os [] [])=some x):GoalQ N os r ρ (.ixstr a b) k x:=by
 have hh:=ua F e;clear e;obtain⟨v,va,e,ka,ra⟩:=hh;have hh:=ua F e;clear e;obtain⟨w,vb,e,kb,rb⟩:=hh;have hh:=zj e;clear e;obtain⟨z,hz,e⟩:=hh;cases v<;>first|cases hz|skip
 cases w<;>first|cases hz|skip
 rename_i s kk n;cases n with
 |negSucc n=>cases hz
 |ofNat n=>simp only[zei]at hz;obtain⟨c,h1,h2⟩:=zoo hz;rw[yh ra rfl]at ka;rw[yh rb rfl]at kb;refine .quiet I (v:=.s (.one c)) (fun call=>?_) (yS h2) e;simp only[runK,ka,kb,zH];show zbY N.h (zgp s.data.toList n)=_;rw[h1];rfl
theorem vt{t:Tr Zb}{x:Option DV}{o:Option Zb}{d y i:Nat}(hx:∀v,x=some v->∃w,o=some w/\RepPA N w (pd v))(hn:x=none->o=none)(e:zcD x d y=some i):bnd t (cO o) d y=some i:=by
 rcases x with _|v
 .rw[hn rfl];exact e
 obtain⟨w,rfl,hw⟩:=hx v rfl;cases v<;>first|cases e|skip
 rename_i kk n;cases n with
 |negSucc n=>cases e
 |ofNat n=>rw[yh hw rfl];exact e
theorem zfi(F:∀i,RepPA N (r i) (ρ i)){a:Option Operand}{x:Option DV}(e:pvo ρ a=some x):∃o,kvo r a=some o/\(∀v,x=some v->∃w,o=some w/\RepPA N w (pd v))/\(x=none->o=none):=by
 rcases a with _|a
 .cases e;exact⟨none,rfl,fun v h=>(by cases h),fun _=>rfl⟩
 simp only[pvo]at e;split at e
 .rename_i v hv;cases e;obtain⟨w,k1,k2⟩:=wM F hv;simp_all[kvo]
 cases e
theorem znr(I:Zd E N os)(F:∀i,RepPA N (r i) (ρ i)){a:Operand}{lo hi:Option Operand}(e:wd (pv ρ a) (fun v=>za (pvo ρ lo) fun lo=>za (pvo ρ hi) fun hi=>za (zlv v lo hi) fun z=>k (pd z) os [] [])=some x):GoalQ N os r ρ (.sslice a lo hi) k x:=by
 have hh:=ua F e;clear e;obtain⟨v,va,e,ka,ra⟩:=hh;have hh:=zj e;clear e;obtain⟨l,hl,e⟩:=hh;have hh:=zj e;clear e;obtain⟨h,hh,e⟩:=hh;have hh:=zj e;clear e;obtain⟨z,hz,e⟩:=hh;obtain⟨ol,kl,l1,l2⟩:=zfi F hl;obtain⟨oh,kh,h1,h2⟩:=zfi F hh;cases v<;>first|cases hz|skip
 rename_i s;simp only[zlv]at hz;rcases hb:zcD h s.size s.size with _|y
 .grind
 rw[hb]at hz;simp only at hz;rcases hb2:zcD l 0 y with _|q
 .grind
 rw[hb2]at hz;cases hz;rw[yh ra rfl]at ka;refine .quiet I (v:=.s (.one (.str (s.extract q y)))) (fun call=>?_) (yS rfl) e;simp only[runK,ka,kl,kh,zH];show wi (zu (.s (.one (.str s)))) (cO ol) (cO oh) yw .nil N.h=_;simp only[wi,zu,vt h1 h2 hb,vt l1 l2 hb2]
theorem zrM{m:Bool}{t:IntKind}:∀{l:List DV} {vs:List Zb} {a z:Int},(∀(j:Nat) (d:DV) (v:Zb),l[j]? = some d->vs[j]? = some v->RepPA N v (pd d))->vs.length=l.length->minD m t l a=some z->zty m t .nil (cL vs) a=some z
 | [],[],a,z,_,_,e=>e
 |d::l,v::vs,a,z,H,hl,e=>by
  cases d<;>first|cases e|skip
  rename_i t' n;simp only[minD]at e;have:=yh (H 0 _ _ rfl rfl) rfl;subst this;show zty m t .nil (zu _::cL vs) a=some z;simp only[zty,zu];cases hk:eqK t t'
  .grind
  rw[hk]at e;exact zrM (fun j d v h1 h2=>H (j+1) d v (by trivial) (by trivial)) (by grind) e
 | [],_::_,_,_,_,hl,_=>by simp at hl
 |_::_,[],_,_,_,hl,_=>by simp at hl
theorem zvS(F:∀i,RepPA N (r i) (ρ i)):∀{xs:List Operand} {l:List DV},pvd ρ xs=some l->∃vs,kvs r xs=some vs/\vs.length=l.length/\∀(j:Nat) (d:DV) (v:Zb),l[j]? = some d->vs[j]? = some v->RepPA N v (pd d)
 | [],l,e=>by cases e;exact⟨[],rfl,rfl,fun j d v h=>by simp at h⟩
 |x::xs,l,e=>by
  simp only[pvd]at e;split at e
  .rename_i v l' hv hl;cases e;obtain⟨w,k1,k2⟩:=wM F hv;obtain⟨vs,k3,k4,k5⟩:=zvS F hl
   grind[kvs]
  cases e
theorem zns(I:Zd E N os)(F:∀i,RepPA N (r i) (ρ i)){m:Bool}{a:Operand}{xs:List Operand}(e:wd (pv ρ a) (fun v=>za (pvd ρ xs) fun l=>za (jI m v l) fun z=>k (pd z) os [] [])=some x):GoalQ N os r ρ (.minmax m a xs) k x:=by
 have hh:=ua F e;clear e;obtain⟨v,va,e,ka,ra⟩:=hh;have hh:=zj e;clear e;obtain⟨l,hl,e⟩:=hh;have hh:=zj e;clear e;obtain⟨z,hz,e⟩:=hh;obtain⟨vs,k3,k4,k5⟩:=zvS F hl;cases v<;>first|cases hz|skip
 rename_i t n;simp only[jI]at hz;rcases hm:minD m t l n with _|q
 .grind
 rw[hm]at hz;cases hz;rw[yh ra rfl]at ka;refine .quiet I (v:=.s (.one (.int t q))) (fun call=>?_) (yS rfl) e;simp only[runK,ka,k3,zH];show xm m (zu (.s (.one (.int t n)))) (cL vs) yw .nil N.h=_;simp only[xm,zu,zrM k5 k4 hm]
theorem zvZ(I:Zd E N os)(F:∀i,RepPA N (r i) (ρ i)){c a b:Operand} (e:wd (pv ρ c) (fun v=>za (pv ρ a) fun a=>za (pv ρ b) fun b=>
  match a,b with
  | .s (.one (.d x)),.s (.one (.d y))=>za (zxf v x y) fun z=>k (pd z) os [] []
  |a,b=>ifB v (k a os [] []) (k b os [] []))=some x):GoalQ N os r ρ (.pick c a b) k x:=by
 have hh:=ua F e;clear e;obtain⟨v,vc,e,kc,rc⟩:=hh;have hh:=zj e;clear e;obtain⟨pa,ha,e⟩:=hh;have hh:=zj e;clear e;obtain⟨pb,hb,e⟩:=hh;obtain⟨va,ka,ra⟩:=wM F ha;obtain⟨vb,kb,rb⟩:=wM F hb;have hv:∃q,v=.bool q/\k (bif q then pa else pb) os [] []=some x:=by
  split at e
  .have hh:=zj e;clear e;obtain⟨z,hz,e⟩:=hh;cases v<;>simp only[zxf]at hz<;>cases hz
   grind
  cases v<;>first|cases e|skip
  rename_i q;exact⟨q,rfl,by cases q<;>exact e⟩
 obtain⟨q,rfl,hk⟩:=hv;rw[yh rc rfl]at kc;refine .quiet I (v:=bif q then va else vb) (fun call=>by simp only[runK,ka,kb,kc,zH];rfl) ?_ hk
 grind
end
end Go.PE
end
section
namespace Go.PE
open Go Go.CE
section
variable {β:Type} {C:Nat->zh} {E:En} {lk:Nat->Bool} {N:Nm} {os:List PO} {r:Fr} {ρ:Nat->PA} {k:KT β} {x:β}
theorem zq2{n:Option Nat}{ps:List PC}{off:Nat}{K:PV->Option β}{y:β}(e:zjO n ps off K=some y):n≠some 0/\zeE n ps off K=some y:=by grind[zjO]
theorem zic{n:Option Nat}{ps:List PC}{cs:List Zc}{base off m:Nat}{o:Zg}{K:PV->Option β}{y:β}(h:Za)(hr:rd m base o=some cs)(H:RepPL N cs ps)(h0:n≠some 0\/o≠.void)(e:zeE n ps off K=some y):
  ∃p s,K p=some y/\loadAt n h (base+off) (some o)=some (.s s,h)/\RepPV N s p:=by
 rcases n with _|n
 .simp only[zeE]at e;obtain⟨c,hc,e⟩:=zj e;have hl:=H.len;have hi:=(Lz0.1 hc).1;obtain⟨v,hv⟩:∃v,cs[off]? = some v:=⟨_,Lz5 (by omega)⟩;exact⟨.one c,.one v,e,zub h hr hv,H.get hv hc⟩
 simp only[zeE]at e;cases hb:Nat.ble (off+n) ps.length
 .grind
 rw[hb]at e;have hle:=Lz4 hb;have hl:=H.len;have hm:=zeg hr;exact⟨_,.agg ((cs.drop off).take n),e,zlq h (zef hr (by omega)) (h0.imp (fun hh he=>hh (by rw[he])) id),(H.drop off).take n⟩
theorem zxe{n:Option Nat}{ps:List PC}{cs:List Zc}{off:Nat}{K:PV->Option β}{y:β}(h:Za)(H:RepPL N cs ps)(e:zeE n ps off K=some y):
  ∃p s,K p=some y/\CE.part n cs off h=some (.s s,h)/\RepPV N s p/\∀N':Nm,RepPL N' cs ps->RepPV N' s p:=by
 rcases n with _|n
 .simp only[zeE]at e;obtain⟨c,hc,e⟩:=zj e;have hl:=H.len;have hi:=(Lz0.1 hc).1;obtain⟨v,hv⟩:∃v,cs[off]? = some v:=⟨_,Lz5 (by omega)⟩;refine⟨.one c,.one v,e,?_,H.get hv hc,fun N' X=>X.get hv hc⟩;show zbY h (vC cs off)=_;rw[wl,hv];rfl
 simp only[zeE]at e;cases hb:Nat.ble (off+n) ps.length
 .grind
 rw[hb]at e;have hle:=Lz4 hb;have hl:=H.len;refine⟨_,.agg ((cs.drop off).take n),e,?_,(H.drop off).take n,fun N' X=>(X.drop off).take n⟩;show zgF h (cut n cs off)=_;rw[zge cs n off (by omega)];rfl
theorem zn1:∀(x:List DV),exp x x.length 0=x:=by
 have key:∀(p x:List DV),exp (p++x) x.length p.length=x:=by
  intro p x
  induction x generalizing p with
  |nil=>rfl
  |cons d x ih=>
   simp only[Yzh,exp];have h1:∀q:List DV,atD (q++d::x) q.length=d:=by
    intro q
    induction q with
    |nil=>rfl
    |cons a q ih=>trivial
   grind[Yzv]
 intro x;exact key [] x
theorem zaH(I:Zd E N os){j:Nat}{ps:List PC}(ho:og os j=.box ps):∃b cs,N.μ j=.ptr b 0/\¬N.fz b/\N.h.t.get b=some (.cells cs 0)/\RepPL N cs ps:=by have:=I.obj j;rw[ho]at this;exact this
theorem zcE(I:Zd E N os){j st:Nat}{xs:List (List DV)}(ho:og os j=.arr st (some xs)):∃b vs ex,N.μ j=.slc b 0 xs.length (bif ex then xs.length else 0) ex/\¬N.fz b/\N.h.t.get b=some (.cells vs st)/\vs.length=xs.length*st/\
   ∀(i:Nat) (x:List DV),xs[i]? = some x->x.length=st/\RepL N.fz N.h ((vs.drop (i*st)).take st) x:=by
 have:=I.obj j;rw[ho]at this;exact this
theorem zsq:∀{cs:List PC} {st n off:Nat} {l:List DV},zCw cs st n off=some l->∀i,i<n->cs[off+i*st]? = some (.d (atD l i))
 |cs,st,0,off,l,_,i,hi=>by omega
 |cs,st,n+1,off,l,e,i,hi=>by
  simp only[zCw]at e;split at e
  .rename_i v l' h1 h2;cases e;cases i with
   |zero=>simp_all[atD]
   |succ i=>have:=zsq h2 i (by omega);rw[show off+(i+1)*st=off+st+i*st by grind,this];rfl
  cases e
theorem znL:∀{cs:List PC} {st len i m off:Nat} {l:List PC},ipC cs st len i m off=some l->i<len->l.length=m/\∀j,j<m->cs[off+j+i*st]? = l[j]?
 |cs,st,len,i,0,off,l,e,_=>by cases e<;>grind
 |cs,st,len,i,m+1,off,l,e,hi=>by
  simp only[ipC]at e;split at e
  .rename_i g r h1 h2;cases e;obtain⟨k1,k2⟩:=znL h2 hi;refine⟨by simp[k1],fun j hj=>?_⟩;cases j<;>grind[zsq]
  cases e
theorem ziI{cs:List Zc}{ps:List PC}(H:RepPL N cs ps){st len i m off:Nat}{l:List PC}(e:ipC ps st len i m off=some l)(hi:i<len)(hm:m≠0):off+i*st+m<=cs.length/\RepPL N ((cs.drop (off+i*st)).take m) l:=by
 obtain⟨h1,h2⟩:=znL e hi;have hb:off+m+i*st<=cs.length:=by
  have:=h2 (m-1) (by omega);have hx:(l[m-1]?).isSome=true:=by grind
  rw[<-this]at hx;have:=(Lz0.1 (Option.eq_some_of_isSome hx)).1;have:=H.len;omega
 refine⟨by omega,RepPL.of ?_ fun j c p hc hp=>?_⟩
 .simp;omega
 rw[YzB]at hc;split at hc
 .rename_i hj;rw[Yzu]at hc;have:=h2 j hj;rw[hp]at this;exact H.get (j:=off+j+i*st) (by grind) this
 cases hc
theorem zv2(I:Zd E N os)(F:∀i,RepPA N (r i) (ρ i)){n:Option Nat}{a:Operand}(e:w1 (pv ρ a) (fun c=>zq5 os n c k)=some x):GoalQ N os r ρ (.load n a) k x:=by
 have hh:=j8 F e;clear e;obtain⟨c,v,e,ka,ra,pka⟩:=hh;have fpc:∀(w:Zc) (xs:List DV) (off:Nat) (rd:List Nat),(v=.s (.one w)->zEU N os r ρ a rd)->Rep N.fz N.h w (.fp xs off)->(zjO n (xs.map .d) off fun v=>k (.s v) os [] rd)=some x->v=.s (.one w)->GoalQ N os r ρ (.load n a) k x:=by intro w xs off rd hmi hw e hv;obtain⟨b,o,base,cs,rfl,h1,h2,h3,h4⟩:=hw.fp_inv;obtain⟨h0,e⟩:=zq2 e;obtain⟨p,s,e,hl,hp⟩:=zic N.h h3 (.ofD h4) (.inl h0) e;refine .quiet I (v:=.s s) (fun call=>?_) (.of hp) e (hm:=fun xo hx=>by cases hx<;>grind);simp only[runK,ka,hv,zH];show loadAt n N.h (base+off) (N.h.t.get b)=_;rw[h2,hl]
 cases c with
 |d d=>
  cases d<;>first|cases e|skip
  obtain⟨w,hv,hw⟩:=wU ra;refine fpc w _ _ _ (fun hv=>?_) hw e hv;obtain⟨b,o,base,cs,rfl,h1,_⟩:=hw.fp_inv;refine⟨_,ka.trans (by rw[hv]),.inr ⟨b,rfl,.inr ⟨rfl,fun N' H=>?_⟩⟩⟩;obtain⟨w',hw',hr'⟩:=wU (H _ _ ka pka);rw[hv]at hw';cases hw';obtain⟨b2,o2,base2,cs2,q1,q2,q3,_⟩:=hr'.fp_inv
  grind
 |own j=>cases e
 |lit j=>cases e
 |ptr j off=>
  simp only[zq5]at e;obtain⟨w,hv,hj,b,hb,rfl⟩:=yc ra;subst hv;cases ho:og os j with
  |box ps=>
   rw[ho]at e;simp only at e;obtain⟨b',cs,h1,h2,h3,h4⟩:=zaH I ho;rw[hb]at h1;cases h1;obtain⟨p,s,e,hl,hp⟩:=zic (o:=.cells cs 0) (base:=0) N.h (zqN rfl) h4 (.inr (by simp)) e;refine .quiet I (v:=.s s) (fun call=>?_) (.of hp) e (hm:=fun xo hx=>by cases hx;exact⟨_,ka,.inr ⟨b,rfl,.inl ⟨j,rfl,hj,by rw[hb];rfl,by rw[ho];trivial,fun N' H=>(yc (H _ _ ka pka)).elim fun _ q=>q.2.1⟩⟩⟩)
   simp only[runK,ka,zH];show loadAt n N.h off (N.h.t.get b)=_
   grind
  |fbox ds=>
   rw[ho]at e;simp only at e;have hO:=I.obj j;rw[ho]at hO;obtain⟨b',h1,h2⟩:=hO;rw[hb]at h1;cases h1;obtain⟨b1,o1,base,cs,e1,e2,e3,e4,e5⟩:=h2.fp_inv;cases e1;refine fpc (.ptr b off) ds off _ (fun _=>⟨_,ka,.inr ⟨b,rfl,.inl ⟨j,rfl,hj,by rw[hb];rfl,by rw[ho];trivial,fun N' H=>(yc (H _ _ ka pka)).elim fun _ q=>q.2.1⟩⟩⟩) ?_ e rfl;have:=Rep.fp_mk (off:=off) e2 e3 e4 e5
   grind
  |_=>grind
 |ep j st i off=>
  simp only[zq5]at e;obtain⟨w,hv,hj,b,l,cap,ex,hb,rfl,hil⟩:=yc ra;subst hv;cases ho:og os j with
  |arr st' vo=>
   rw[ho]at e;simp only at e;cases hs:Nat.beq st st'
   .grind
   rw[hs]at e;have:=Lz1 hs;subst this;simp only[Yzb]at e;have hh:=zj e;clear e;obtain⟨y,hy,e⟩:=hh;cases vo with
   |none=>cases hy
   |some xs=>
    obtain⟨b',vs,ex',h1,h2,h3,h4,h5⟩:=zcE I ho;rw[hb]at h1;cases h1;obtain⟨k1,k2⟩:=h5 i y hy;have he:=zn1 y;rw[k1]at he;rw[he]at e;have hi:=(Lz0.1 hy).1;have hr:rd st (i*st) (.cells vs st)=some ((vs.drop (i*st)).take st):=by have:=Yzk st (show i+1<=xs.length from hi);rw[Yz5]at this;exact zge vs st (i*st) (by omega)
    obtain⟨p,s,e,hl,hp⟩:=zic N.h hr (.ofD k2) (.inr (by simp)) e;refine .quiet I (v:=.s s) (fun call=>?_) (.of hp) e (hm:=fun xo hx=>by
   cases hx;exact⟨_,ka,.inr ⟨b,rfl,.inl ⟨j,rfl,hj,by rw[hb];rfl,by rw[ho];trivial,fun N' H=>(yc (H _ _ ka pka)).elim fun _ q=>q.2.1⟩⟩⟩)
    simp only[runK,ka,zH];show loadAt n N.h (i*st+off) (N.h.t.get b)=_;rw[h3,hl]
  |hol vo hn t=>
   rw[ho]at e;simp only at e;cases n
   case some=>cases e
   simp only at e;cases ht:og os t with
   |lnk m=>
    rw[ht]at e;simp only at e;cases hs:(Nat.beq st 1&&Nat.beq off 0)
    .grind
    rw[hs]at e;rw[LzC]at hs;have e1:=Lz1 hs.1;have e2:=Lz1 hs.2;subst e1 e2;simp only[Yzb]at e;cases hi:Nat.beq i hn
    .rw[hi]at e;cases e
    rw[hi]at e;have:=Lz1 hi;subst this;have hO:=I.obj j;rw[ho]at hO;have hT:=I.obj t;rw[ht]at hT;rcases vo with _|xs
    .trivial
    obtain⟨b',vs,ex',h1,h2,h3,h4,h5,h6,h7,h8⟩:=hO;obtain⟨g0,b2,n2,vs2,g1,g2,g3,g4⟩:=hT;rw[h7]at g1;cases g1;rw[h3]at g3;cases g3;rw[hb]at h1;cases h1;refine .quiet I (v:=.s (.one (N.μ m))) (fun call=>?_) (yY (p:=.own m) ⟨g0,rfl⟩) e (hm:=fun xo hx=>by cases hx;exact⟨_,ka,.inr ⟨b,rfl,.inl ⟨j,rfl,hj,by rw[hb];rfl,by rw[ho];trivial,fun N' H=>(yc (H _ _ ka pka)).elim fun _ q=>q.2.1⟩⟩⟩)
    simp only[runK,ka,zH];show loadAt none N.h (i*1+0) (N.h.t.get b)=_;rw[h3];show zbY N.h (vC vs (i*1+0))=_;rw[wl,show i*1+0=i by omega,g4];rfl
   |_=>grind
  |_=>grind
 |ip j f len st i o=>
  simp only[zq5]at e;obtain⟨w,hv,hj,b,hb,rfl,hil⟩:=yc ra;subst hv;cases ho:og os j with
  |box ps=>
   rw[ho]at e;simp only at e;obtain⟨b',cs,h1,h2,h3,h4⟩:=zaH I ho;rw[hb]at h1;cases h1;rcases n with _|m
   .simp only at e;have hh:=zj e;clear e;obtain⟨l,hl,e⟩:=hh;obtain⟨q1,q2⟩:=ziI h4 hl hil (by omega);have ql:=(znL hl hil).1
    match l,e,q2,ql with
    | [p],e,q2,_=>
     simp only at e
     match hc:(List.drop (f+o+i*st) cs).take 1,q2 with
     | [c],q2=>
      have hcc:cs[f+o+i*st]? = some c:=by
       have:=congrArg List.head? hc
       grind[List.take_one,List.head?_drop]
      refine .quiet I (v:=.s (.one c)) (fun call=>?_) (yY q2.1) e (hm:=fun xo hx=>by
    cases hx;exact⟨_,ka,.inr ⟨b,rfl,.inl ⟨j,rfl,hj,by rw[hb];rfl,by rw[ho];trivial,fun N' H=>(yc (H _ _ ka pka)).elim fun _ q=>q.2.1⟩⟩⟩)
      simp only[runK,ka,zH];show loadAt none N.h (f+i*st+o) (N.h.t.get b)=_;rw[h3,show f+i*st+o=f+o+i*st by omega];show zbY N.h (vC cs _)=_;rw[wl,hcc];rfl
   simp only at e;cases hm:Nat.beq m 0 with
   |true=>grind
   |false=>
    rw[hm]at e;simp only[Yzd]at e;have hh:=zj e;clear e;obtain⟨l,hl,e⟩:=hh;obtain⟨q1,q2⟩:=ziI h4 hl hil (fun h=>by simp_all);refine .quiet I (v:=.s (.agg ((cs.drop (f+o+i*st)).take m))) (fun call=>?_) (RepPA.of (v:=.agg _) (p:=.agg l) q2) e (hm:=fun xo hx=>by
   cases hx;exact⟨_,ka,.inr ⟨b,rfl,.inl ⟨j,rfl,hj,by rw[hb];rfl,by rw[ho];trivial,fun N' H=>(yc (H _ _ ka pka)).elim fun _ q=>q.2.1⟩⟩⟩)
    simp only[runK,ka,zH];show loadAt (some m) N.h (f+i*st+o) (N.h.t.get b)=_;rw[h3,show f+i*st+o=f+o+i*st by omega];show zgF N.h (cut m cs _)=_;rw[zge cs m _ (by omega)];rfl
  |_=>grind
 |vw j st lo len=>cases e
 |clo f caps=>cases e
theorem zrj(I:Zd E N os)(F:∀i,RepPA N (r i) (ρ i)){a:Operand} (e:w1 (pv ρ a) (fun c=>
  match c with
  | .ptr j off=>k (pc (.ptr j off)) os [] []
  | .ep j st i off=>k (pc (.ep j st i off)) os [] []
  | .clo f l=>k (pc (.clo f l)) os [] []
  | .d (.fp xs off)=>k (pd (.fp xs off)) os [] []
  |_=>none)=some x):GoalQ N os r ρ (.nilck a) k x:=by
 have hh:=j8 F e;clear e;obtain⟨c,v,e,ka,ra,pka⟩:=hh;split at e
 .obtain⟨w,rfl,hw⟩:=yc ra;have hw':=hw;obtain⟨hj,b,hb,rfl⟩:=hw;exact .quiet I (fun call=>by simp only[runK,ka,zH];rfl) (yY hw') e (zc7 ka pka fun N' H=>H)
 .obtain⟨w,rfl,hw⟩:=yc ra;have hw':=hw;obtain⟨hj,b,l,cap,ex,hb,rfl,hi⟩:=hw;exact .quiet I (fun call=>by simp only[runK,ka,zH];rfl) (yY hw') e (zc7 ka pka fun N' H=>H)
 .obtain⟨w,rfl,hw⟩:=yc ra;have hw':=hw;obtain⟨ps,rfl,hc⟩:=hw;exact .quiet I (fun call=>by simp only[runK,ka,zH];rfl) (yY hw') e (zc7 ka pka fun N' H=>H)
 .obtain⟨w,rfl,hw⟩:=wU ra;obtain⟨b,o,base,cs,rfl,_⟩:=hw.fp_inv;exact .quiet I (fun call=>by simp only[runK,ka,zH];rfl) ra e (zc7 ka pka fun N' H=>H)
 cases e
theorem zni{w:Zc}{v:DV}{q:Bool}(H:Rep N.fz N.h w v)(e:zdA v=some q)(neg:Bool)(h:Za):zp5 neg (.s (.one w)) (.s (.one .nils)) h=some (.s (.one (.bool (bif neg then !q else q))),h):=by
 cases v<;>simp only[zdA]at e<;>cases e
 .rw[H.scal rfl];rfl
 obtain⟨b,o,off,cap,ex,cs,rfl,_⟩:=H.lst_inv;cases neg<;>rfl
theorem zv0(I:Zd E N os)(F:∀i,RepPA N (r i) (ρ i)){neg:Bool}{a b:Operand} (e:w1 (pv ρ a) (fun c=>wd (pv ρ b) fun w=>
  match w with
  | .nils=>
   match c with
   | .d v=>za (zdA v) fun q=>k (pd (.bool (bif neg then !q else q))) os [] []
   | .own j=>
    match og os j with
    | .arr _ v=>k (pd (.bool (bif neg then v.isSome else v.isNone))) os [] []
    | .frz v=>za (zdA v) fun q=>k (pd (.bool (bif neg then !q else q))) os [] []
    |_=>none
   |_=>none
  |_=>none)=some x):GoalQ N os r ρ (.nilS neg a b) k x:=by
 have hh:=j8 F e;clear e;obtain⟨c,v,e,ka,ra,pka⟩:=hh;have hh:=ua F e;clear e;obtain⟨w,u,e,kb,rb⟩:=hh;cases w<;>first|cases e|skip
 simp only at e;rw[yh rb rfl]at kb;cases c<;>first|cases e|skip
 .rename_i d;simp only at e;have hh:=zj e;clear e;obtain⟨q,hq,e⟩:=hh;obtain⟨c,rfl,hc⟩:=wU ra;exact .quiet I (fun call=>by grind[runK,zH,zni]) (yS rfl) e
 rename_i j;simp only at e;obtain⟨c,rfl,hj,hc⟩:=yc ra;cases ho:og os j with
 |arr st vo=>
  rw[ho]at e;simp only at e;have hO:=I.obj j;rw[ho]at hO;refine .quiet I (fun call=>?_) (yS rfl) e;simp only[runK,ka,kb,zH];rcases vo with _|xs
  .rw[hc,show N.μ j=.nils from hO];rfl
  obtain⟨b,vs,ex,h1,_⟩:=hO;rw[hc,h1];cases neg<;>rfl
 |frz d=>rw[ho]at e;simp only at e;have hO:=I.obj j;rw[ho]at hO;have hh:=zj e;clear e;obtain⟨q,hq,e⟩:=hh;exact .quiet I (fun call=>by simp only[runK,ka,kb,zH];rw[hc];exact zni hO hq neg N.h) (yS rfl) e
 |_=>grind
theorem zsH{t:Nat}{a b:Zc}{v w:DV}{q:Bool}{fz:BN->Prop}{h:Za}(ha:Rep fz h a v)(hb:Rep fz h b w)(e:eqD t v w=some q):eqC t a b=some q:=by
 unfold eqD at e;split at e
 .rw[ha.scal rfl,hb.scal rfl];exact e
 .rw[ha.scal rfl,hb.scal rfl];exact e
 .rw[ha.scal rfl,hb.scal rfl];exact e
 cases e
theorem zl8{fz:BN->Prop}{h:Za}:∀{ks:List Nat} {as bs:List Zc} {vs ws:List DV} {q:Bool},RepL fz h as vs->RepL fz h bs ws->zvi ks vs ws=some q->zsJ ks as bs=some q
 | [],[],[],[],[],q,_,_,e=>e
 |k::ks,a::as,b::bs,v::vs,w::ws,q,ha,hb,e=>by
  obtain⟨a1,a2⟩:=ha.inv;obtain⟨b1,b2⟩:=hb.inv;simp only[zvi,zsJ]at e ⊢;rcases hq:eqD k v w with _|p
  .grind
  rw[hq]at e;rw[zsH a1 b1 hq];cases p
  .exact e
  exact zl8 a2 b2 e
 |_,a::as,_,[],_,_,ha,_,_=>by have:=ha.1;trivial
 |_,[],_,v::vs,_,_,ha,_,_=>by have:=ha.1;trivial
 |_,_,b::bs,_,[],_,_,hb,_=>by have:=hb.1;trivial
 |_,_,[],_,w::ws,_,_,hb,_=>by have:=hb.1;trivial
 | [],[],b::bs,[],w::ws,q,_,_,e=>by cases e
 | [],a::as,[],v::vs,[],q,_,_,e=>by cases e
 | [],a::as,b::bs,v::vs,w::ws,q,_,_,e=>by cases e
 |k::ks,[],[],[],[],q,_,_,e=>by cases e
 |k::ks,[],b::bs,[],w::ws,q,_,_,e=>by cases e
 |k::ks,a::as,[],v::vs,[],q,_,_,e=>by cases e
theorem zd8:∀{ps:List PC} {cs:List Zc} {ds:List DV},zpQ ps=some ds->RepPL N cs ps->RepL N.fz N.h cs ds
 | [],[],ds,e,_=>by cases e;exact .nil _ _
 | .d v::ps,c::cs,ds,e,H=>by
  simp only[zpQ]at e;rcases hd:zpQ ps with _|l
  .grind
  rw[hd]at e;cases e;exact .cons H.1 (zd8 hd H.2)
 | [],_::_,_,_,H=>H.elim
 |_::_,[],_,_,H=>H.elim
 | .own _::_,_::_,_,e,_=>by cases e
 | .ptr _ _::_,_::_,_,e,_=>by cases e
 | .ep _ _ _ _::_,_::_,_,e,_=>by cases e
 | .ip _ _ _ _ _ _::_,_::_,_,e,_=>by cases e
 | .vw _ _ _ _::_,_::_,_,e,_=>by cases e
 | .lit _::_,_::_,_,e,_=>by cases e
 | .clo _ _::_,_::_,_,e,_=>by cases e
theorem zgv{v:Zb}{ps:List PC}(H:RepPA N v (.s (.agg ps))):∃cs,v=.s (.agg cs)/\RepPL N cs ps:=by
 obtain⟨w,rfl,hw⟩:=H.inv;cases w with
 |one c=>trivial
 |agg cs=>exact⟨cs,rfl,hw⟩
theorem zFa(I:Zd E N os)(F:∀i,RepPA N (r i) (ρ i)){q:Nat⊕List Nat}{neg:Bool}{a b:Operand} (e:(match q with
  | .inl t=>wd (pv ρ a) fun v=>wd (pv ρ b) fun w=>za (eqD t v w) fun b=>k (pd (.bool (bif neg then !b else b))) os [] []
  | .inr ks=>
   match pv ρ a,pv ρ b with
   |some (.s (.agg xs)),some (.s (.agg ys))=>za (zpQ xs) fun xs=>za (zpQ ys) fun ys=>za (zvi ks xs ys) fun b=>k (pd (.bool (bif neg then !b else b))) os [] []
   |_,_=>none)=some x):GoalQ N os r ρ (.eq q neg a b) k x:=by
 cases q with
 |inl t=>
  simp only at e;have hh:=ua F e;clear e;obtain⟨v,va,e,ka,ra⟩:=hh;have hh:=ua F e;clear e;obtain⟨w,vb,e,kb,rb⟩:=hh;have hh:=zj e;clear e;obtain⟨p,hp,e⟩:=hh;obtain⟨ca,rfl,ha⟩:=wU ra;obtain⟨cb,rfl,hb⟩:=wU rb;refine .quiet I (v:=.s (.one (.bool (bif neg then !p else p)))) (fun call=>?_) (yS rfl) e;simp only[runK,ka,kb,zH];show (match eqC t ca cb with|some q=>some (Zb.s (.one (.bool (bif neg then !q else q))),N.h)|none=>none)=_
  grind[zsH]
 |inr ks=>
  simp only at e;split at e
  .rename_i xs ys hx hy;obtain⟨va,ka,ra⟩:=wM F hx;obtain⟨vb,kb,rb⟩:=wM F hy;have hh:=zj e;clear e;obtain⟨ds,hd,e⟩:=hh;have hh:=zj e;clear e;obtain⟨es,he,e⟩:=hh;have hh:=zj e;clear e;obtain⟨p,hp,e⟩:=hh;obtain⟨ca,rfl,ha⟩:=zgv ra;obtain⟨cb,rfl,hb⟩:=zgv rb;refine .quiet I (v:=.s (.one (.bool (bif neg then !p else p)))) (fun call=>?_) (yS rfl) e;simp only[runK,ka,kb,zH];show (match zsJ ks ca cb with|some q=>some (Zb.s (.one (.bool (bif neg then !q else q))),N.h)|none=>none)=_;rw[zl8 (zd8 hd ha) (zd8 he hb) hp]
  cases e
theorem zv5(I:Zd E N os)(F:∀i,RepPA N (r i) (ρ i)){a:Operand}{off:Nat} (e:w1 (pv ρ a) (fun c=>
  match c with
  | .ptr j o=>k (pc (.ptr j (o+off))) os [] []
  | .d (.fp xs o)=>k (pd (.fp xs (o+off))) os [] []
  | .ep j st i o=>k (pc (.ep j st i (o+off))) os [] []
  | .ip j f len st i o=>k (pc (.ip j f len st i (o+off))) os [] []
  |_=>none)=some x):GoalQ N os r ρ (.foff a off) k x:=by
 have hh:=j8 F e;clear e;obtain⟨c,v,e,ka,ra,pka⟩:=hh;split at e
 .rename_i j o;obtain⟨w,rfl,hj,b,hb,rfl⟩:=yc ra;exact .quiet I (v:=.s (.one (.ptr b (o+off)))) (fun call=>by simp only[runK,ka,zH];rfl) (yY (p:=.ptr j (o+off)) ⟨hj,b,hb,rfl⟩) e (zc7 ka pka fun N' H=>by obtain⟨w,hw,a1,b2,a2,a3⟩:=yc H;cases hw;cases a3;exact yY (p:=.ptr j (o+off)) ⟨a1,b,a2,rfl⟩)
 .obtain⟨w,rfl,hw⟩:=wU ra;obtain⟨b,o,base,cs,rfl,h1,h2,h3,h4⟩:=hw.fp_inv;rename_i xs off';exact .quiet I (v:=.s (.one (.ptr b (base+off'+off)))) (fun call=>by simp only[runK,ka,zH];rfl) (uO (by rw[Yz7];exact .fp_mk h1 h2 h3 h4)) e (zc7 ka pka fun N' H=>by
   obtain⟨w,hw,hr⟩:=wU H;cases hw;obtain⟨b2,o2,base2,cs2,a1,a2,a3,a4,a5⟩:=hr.fp_inv;have hb2:b=b2/\base=base2:=by grind
   obtain⟨rfl,rfl⟩:=hb2;exact uO (by rw[Yz7];exact .fp_mk a2 a3 a4 a5))
 .rename_i j st i o;obtain⟨w,rfl,hj,b,l,cap,ex,hb,rfl,hi⟩:=yc ra;exact .quiet I (v:=.s (.one (.ptr b (i*st+o+off)))) (fun call=>by simp only[runK,ka,zH];rfl) (yY (p:=.ep j st i (o+off)) ⟨hj,b,l,cap,ex,hb,by simp[Yz7],hi⟩) e (zc7 ka pka fun N' H=>by obtain⟨w,hw,a1,b2,l2,cap2,ex2,a2,a3,a4⟩:=yc H;cases hw;have:=(Zc.ptr.inj a3).1;subst this;exact yY (p:=.ep j st i (o+off)) ⟨a1,b,l2,cap2,ex2,a2,by simp[Yz7],a4⟩)
 .rename_i j f len st i o;obtain⟨w,rfl,hj,b,hb,rfl,hi⟩:=yc ra;exact .quiet I (v:=.s (.one (.ptr b (f+i*st+o+off)))) (fun call=>by simp only[runK,ka,zH];rfl) (yY (p:=.ip j f len st i (o+off)) ⟨hj,b,hb,by simp[Yz7],hi⟩) e (zc7 ka pka fun N' H=>by obtain⟨w,hw,a1,b2,a2,a3,a4⟩:=yc H;cases hw;have:=(Zc.ptr.inj a3).1;subst this;exact yY (p:=.ip j f len st i (o+off)) ⟨a1,b,a2,by simp[Yz7],a4⟩)
 cases e
theorem zro(I:Zd E N os)(F:∀i,RepPA N (r i) (ρ i)){a:Operand}{off:Nat}{n:Option Nat} (e:(match pv ρ a with
  |some (.s (.agg cs))=>zeE n cs off fun v=>k (.s v) os [] []
  |_=>none)=some x):GoalQ N os r ρ (.field a off n) k x:=by
 split at e
 .rename_i cs hx;obtain⟨va,ka,ra⟩:=wM F hx;obtain⟨ca,rfl,ha⟩:=zgv ra;obtain⟨p,s,e,h1,h2,h3⟩:=zxe N.h ha e;exact .quiet I (v:=.s s) (fun call=>by simp only[runK,ka,zH];exact h1) (.of h2) e (zc7 ka hx fun N' H=>by obtain⟨cs',hcs,hr⟩:=zgv H;cases hcs;exact .of (h3 N' hr))
 cases e
theorem zig{len:Nat}{i:DV}{n:Nat}(e:uc len i=some n):n<len/\Nat.ble (Nat.succ n) len=true/\∃t,i=.int t (.ofNat n):=by
 cases i<;>first|cases e|skip
 rename_i t m;cases m with
 |negSucc m=>cases e
 |ofNat m=>
  simp only[uc]at e;cases hb:Nat.ble (Nat.succ m) len
  .grind
  rw[hb]at e;cases e;exact⟨Lz4 hb,hb,t,rfl⟩
theorem ziG(I:Zd E N os){st:Nat}{a b:Operand}{v u:Zb}{i:DV}(ka:kv r a=some v)(kb:kv r b=some u)(rb:RepPA N u (pd i))(w:Zc)(d:DV){p:PC}(pka:pv ρ a=some (pc p))(hp:p=.d d\/(∃j,p=.own j)\/∃j s l n,p=.vw j s l n)(hw:Rep N.fz N.h w d)
  (e:(za (yb st d i) fun x=>k (pd (.fp (exp x st 0) 0)) os [] [])=some x) (hv:v=.s (.one w)):GoalQ N os r ρ (.ixs st a b) k x:=by
 have hh:=zj e;clear e;obtain⟨y,hy,e⟩:=hh;cases d<;>first|cases hy|skip
 rename_i st' xs;cases i<;>first|cases hy|skip
 rename_i t n;cases n with
 |negSucc n=>cases hy
 |ofNat n=>
  simp only[yb]at hy;cases hs:Nat.beq st st'
  .grind
  rw[hs]at hy;have:=Lz1 hs;subst this;simp only[Yzb]at hy;obtain⟨b',o,off,cap,ex,cs,rfl,h1,h2,h3,h4,h5⟩:=hw.lst_inv;obtain⟨k1,k2⟩:=h5 n y hy;have hi:=(Lz0.1 hy).1;rw[yh rb rfl]at kb;subst hv;have he:=zn1 y;rw[k1]at he;rw[he]at e;have:=Yzk st (show n+1<=xs.length from hi);rw[Yz5]at this;refine .quiet I (v:=.s (.one (.ptr b' (off+n*st)))) (fun call=>?_) (uO (Rep.fp_mk (off:=0) h1 h2 (cs:=(cs.drop (n*st)).take st) (by grind[zef]) k2)) e (fun xo hxo N' u' pa' hu' hpa' H=>by
   have htk:trk ρ (.ixs st a b)=(match pv ρ a with|some (.s (.one (.own _)))=>none|some (.s (.one (.vw _ _ _ _)))=>none|_=>some a):=rfl;rw[pka]at htk;rcases hp with rfl|⟨j,rfl⟩|⟨j,s,l,n,rfl⟩
   .rw[htk]at hxo;cases hxo;rw[ka]at hu';cases hu';rw[pka]at hpa';cases hpa';obtain⟨w',hw',hr'⟩:=wU H;cases hw';obtain⟨b2,o2,off2,cap2,ex2,cs2,q1,q2,q3,q4,q5,q6⟩:=hr'.lst_inv;cases q1;obtain⟨g1,g2⟩:=q6 n y hy;exact uO (Rep.fp_mk (off:=0) q2 q3 (cs:=(cs2.drop (n*st)).take st) (by grind[zef]) g2)
   .grind
   grind)
  simp only[runK,ka,kb,zH];show (bif Nat.ble (Nat.succ n) xs.length then some (Zb.s (.one (.ptr b' (off+n*st))),N.h) else none)=_
  grind[Yzg]
theorem zAE(I:Zd E N os)(F:∀i,RepPA N (r i) (ρ i)){st:Nat}{a b:Operand}(e:w1 (pv ρ a) (fun c=>wd (pv ρ b) fun i=>zAq os st c i k)=some x):GoalQ N os r ρ (.ixs st a b) k x:=by
 have hh:=j8 F e;clear e;obtain⟨c,v,e,ka,ra,pka⟩:=hh;have hh:=ua F e;clear e;obtain⟨i,u,e,kb,rb⟩:=hh;cases c<;>first|cases e|skip
 .rename_i d;simp only[zAq]at e;obtain⟨w,hv,hw⟩:=wU ra;exact ziG I ka kb rb w d pka (.inl rfl) hw e hv
 .rename_i j;simp only[zAq]at e;obtain⟨c,rfl,hj,hc⟩:=yc ra;cases ho:og os j with
  |frz d=>rw[ho]at e;have hO:=I.obj j;rw[ho]at hO;exact ziG I ka kb rb c d pka (.inr (.inl ⟨j,rfl⟩)) (by rw[hc];exact hO) e rfl
  |arr st' vo=>
   rw[ho]at e;simp only at e;cases hs:Nat.beq st st'
   .grind
   rw[hs]at e;have:=Lz1 hs;subst this;simp only[Yzb]at e;have hh:=zj e;clear e;obtain⟨n,hn,e⟩:=hh;cases i<;>first|cases hn|skip
   rename_i t m;cases m with
   |negSucc m=>cases hn
   |ofNat m=>
    rcases vo with _|xs
    .cases hn
    simp only[zO]at hn;cases hb:Nat.ble (Nat.succ m) xs.length
    .grind
    rw[hb]at hn;cases hn;obtain⟨b',vs,ex,h1,h2,h3,h4,h5⟩:=zcE I ho;rw[yh rb rfl]at kb;refine .quiet I (v:=.s (.one (.ptr b' (0+n*st)))) (fun call=>?_) (yY (p:=.ep j st n 0) ⟨hj,b',_,_,_,h1,by simp,Lz4 hb⟩) e (fun xo hxo N' u' pa' hu' hpa' H=>by
     have htk:trk ρ (.ixs st a b)=(match pv ρ a with|some (.s (.one (.own _)))=>none|some (.s (.one (.vw _ _ _ _)))=>none|_=>some a):=rfl
     grind)
    simp only[runK,ka,kb,zH,hc,h1];show (bif Nat.ble (Nat.succ n) xs.length then some (Zb.s (.one (.ptr b' (0+n*st))),N.h) else none)=_
    grind
  |hol vo hn ht=>
   rw[ho]at e;simp only at e;cases hs:Nat.beq st 1
   .grind
   rw[hs]at e;have:=Lz1 hs;subst this;simp only[Yzb]at e;have hh:=zj e;clear e;obtain⟨n,hn,e⟩:=hh;cases i<;>first|cases hn|skip
   rename_i t m;cases m with
   |negSucc m=>cases hn
   |ofNat m=>
    rcases vo with _|xs
    .cases hn
    simp only[zO]at hn;cases hb:Nat.ble (Nat.succ m) xs.length
    .grind
    rw[hb]at hn;cases hn;have hO:=I.obj j;rw[ho]at hO;obtain⟨b',vs,ex,h1,h2,h3,h4,h5⟩:=hO;rw[yh rb rfl]at kb;refine .quiet I (v:=.s (.one (.ptr b' (0+n*1)))) (fun call=>?_) (yY (p:=.ep j 1 n 0) ⟨hj,b',_,_,_,h1,by simp,Lz4 hb⟩) e (fun xo hxo N' u' pa' hu' hpa' H=>by
     have htk:trk ρ (.ixs 1 a b)=(match pv ρ a with|some (.s (.one (.own _)))=>none|some (.s (.one (.vw _ _ _ _)))=>none|_=>some a):=rfl
     grind)
    simp only[runK,ka,kb,zH,hc,h1];show (bif Nat.ble (Nat.succ n) xs.length then some (Zb.s (.one (.ptr b' (0+n*1))),N.h) else none)=_
    grind
  |_=>grind
 rename_i j st' lo len;simp only[zAq]at e;obtain⟨c,rfl,hc⟩:=yc ra;cases ho:og os j with
 |frz d=>rw[ho]at e;have hO:=I.obj j;rw[ho]at hO;exact ziG I ka kb rb c _ pka (.inr (.inr ⟨j,st',lo,len,rfl⟩)) (zib (N:=N) hO hc) e rfl
 |arr st'' vo=>
  rw[ho]at e;simp only at e;cases hs:Nat.beq st st'
  .grind
  rw[hs]at e;have:=Lz1 hs;subst this;simp only[Yzb]at e;have hh:=zj e;clear e;obtain⟨n,hn,e⟩:=hh;obtain⟨h1,h2,t,rfl⟩:=zig hn;obtain⟨hj,hc⟩:=hc;rcases hc with⟨_,_,_,rfl⟩|⟨b',l,cap,ex,cap',ex',g1,rfl,g2,g3⟩
  .omega
  rw[yh rb rfl]at kb;refine .quiet I (v:=.s (.one (.ptr b' (lo*st+n*st)))) (fun call=>?_) (yY (p:=.ep j st (lo+n) 0) ⟨hj,b',_,_,_,g1,by grind,by omega⟩) e (fun xo hxo N' u' pa' hu' hpa' H=>by
   have htk:trk ρ (.ixs st a b)=(match pv ρ a with|some (.s (.one (.own _)))=>none|some (.s (.one (.vw _ _ _ _)))=>none|_=>some a):=rfl
   grind)
  simp only[runK,ka,kb,zH];show (bif Nat.ble (Nat.succ n) len then some (Zb.s (.one (.ptr b' (lo*st+n*st))),N.h) else none)=_
  grind
 |_=>grind
theorem zrm(I:Zd E N os)(F:∀i,RepPA N (r i) (ρ i)){len st:Nat}{a b:Operand} (e:w1 (pv ρ a) (fun c=>wd (pv ρ b) fun i=>
  match c with
  | .ptr j off=>za (uc len i) fun n=>k (pc (.ip j off len st n 0)) os [] []
  |_=>none)=some x):GoalQ N os r ρ (.ixarr len st a b) k x:=by
 have hh:=j8 F e;clear e;obtain⟨c,v,e,ka,ra,pka⟩:=hh;have hh:=ua F e;clear e;obtain⟨i,u,e,kb,rb⟩:=hh;split at e
 .have hh:=zj e;clear e;obtain⟨n,hn,e⟩:=hh;obtain⟨h1,h2,t,rfl⟩:=zig hn;obtain⟨w,rfl,hj,b',hb,rfl⟩:=yc ra;rw[yh rb rfl]at kb;rename_i j off;refine .quiet I (v:=.s (.one (.ptr b' (off+n*st)))) (fun call=>?_) (yY (p:=.ip j off len st n 0) ⟨hj,b',hb,by simp,h1⟩) e (fun xo hxo N' u' pa' hu' hpa' H=>by
   obtain rfl:a=xo:=Option.some.inj hxo;rw[ka]at hu';rw[pka]at hpa';cases hu';cases hpa';obtain⟨w2,e2,hj2,b2,hb2,rfl⟩:=yc H;cases e2;exact yY (p:=.ip j off len st n 0) ⟨hj2,_,hb2,by simp,h1⟩)
  simp only[runK,ka,kb,zH];show (bif Nat.ble (Nat.succ n) len then some (Zb.s (.one (.ptr b' (off+n*st))),N.h) else none)=_
  grind
 cases e
theorem zrn(I:Zd E N os)(F:∀i,RepPA N (r i) (ρ i)){len st:Nat}{n:Option Nat}{a b:Operand} (e:wd (pv ρ b) (fun i=>
  match pv ρ a with
  |some (.s (.agg cs))=>za (uc len i) fun j=>
   match n with
   |none=>za (ipC cs st len j 1 0) fun l=>match l with | [c]=>k (pc c) os [] []|_=>none
   |some m=>bif Nat.beq m 0 then none else za (ipC cs st len j m 0) fun l=>k (.s (.agg l)) os [] []
  |_=>none)=some x):GoalQ N os r ρ (.ixagg len st n a b) k x:=by
 have hh:=ua F e;clear e;obtain⟨i,u,e,kb,rb⟩:=hh;split at e
 .rename_i ps hx;obtain⟨va,ka,ra⟩:=wM F hx;obtain⟨cs,rfl,ha⟩:=zgv ra;have hh:=zj e;clear e;obtain⟨j,hj,e⟩:=hh;obtain⟨h1,h2,t,rfl⟩:=zig hj;rw[yh rb rfl]at kb;have run:∀call,runK r (.ixagg len st n a b) call N.h=CE.part n cs (j*st) N.h:=fun call=>by
   simp only[runK,ka,kb,zH];show (bif Nat.ble (Nat.succ j) len then CE.part n cs (j*st) N.h else none)=_
   grind
  rcases n with _|m
  .simp only at e;have hh:=zj e;clear e;obtain⟨l,hl,e⟩:=hh;obtain⟨q1,q2⟩:=ziI ha hl h1 (by omega);rw[Yzi]at q1 q2;have ql:=(znL hl h1).1
   match l,e,q2,ql with
   | [p],e,q2,_=>
    simp only at e
    match hc:(List.drop (j*st) cs).take 1,q2 with
    | [c],q2=>
     have hcc:cs[j*st]? = some c:=by
      have:=congrArg List.head? hc
      grind[List.take_one,List.head?_drop]
     refine .quiet I (v:=.s (.one c)) (fun call=>?_) (yY q2.1) e;rw[run];show zbY N.h (vC cs _)=_;rw[wl,hcc];rfl
  simp only at e;cases hm:Nat.beq m 0
  case true=>grind
  rw[hm]at e;simp only[Yzd]at e;have hh:=zj e;clear e;obtain⟨l,hl,e⟩:=hh;obtain⟨q1,q2⟩:=ziI ha hl h1 (fun h=>by simp_all);rw[Yzi]at q1 q2;refine .quiet I (v:=.s (.agg ((cs.drop (j*st)).take m))) (fun call=>?_) (RepPA.of (v:=.agg _) (p:=.agg l) q2) e;rw[run];show zgF N.h (cut m cs _)=_;rw[zge cs m _ (by omega)];rfl
 cases e
theorem RepSL.get{fz:BN->Prop}{h:Za}:∀{cs:List SVal} {ds:List DS},RepSL fz h cs ds->∀{i:Nat} {d:DS},ds[i]? = some d->∃c,zuu cs i=some c/\RepS fz h c d
 | [],[],_,i,d,e=>by simp at e
 |c::cs,d0::ds,H,i,d,e=>by
  cases i with
  |zero=>simp only[Yzj,Option.some.injEq]at e;subst e;exact⟨c,rfl,H.1⟩
  |succ i=>exact RepSL.get H.2 (i:=i) (by simpa using e)
 | [],_::_,H,_,_,_=>H.elim
 |_::_,[],H,_,_,_=>H.elim
theorem zjX(I:Zd E N os)(F:∀i,RepPA N (r i) (ρ i)){a:Operand}{i:Nat} (e:(match pv ρ a with
  |some (.tup l)=>
   match l[i]? with
   |some (.one d)=>k (pd d) os [] []
   |some (.agg ds)=>k (.s (.agg (ds.map .d))) os [] []
   |none=>none
  |some (.tl p l)=>
   match i with
   |0=>k (.s p) os [] []
   |i+1=>
    match l[i]? with
    |some (.one d)=>k (pd d) os [] []
    |some (.agg ds)=>k (.s (.agg (ds.map .d))) os [] []
    |none=>none
  |_=>none)=some x):GoalQ N os r ρ (.extract a i) k x:=by
 split at e
 .rename_i l hx;obtain⟨va,ka,ra⟩:=wM F hx;cases va with
  |s v=>trivial
  |tup vs=>
   have run:∀c,zuu vs i=some c->∀call,runK r (.extract a i) call N.h=some (.s c,N.h):=fun c hc call=>by simp only[runK,ka,zH];show (match zuu vs i with|some v=>some (Zb.s v,N.h)|none=>none)=_;rw[hc]
   split at e
   .rename_i d hd;obtain⟨c,h1,h2⟩:=RepSL.get ra hd;cases c with
    |agg cs=>trivial
    |one c=>exact .quiet I (run _ h1) (uO h2) e (zc7 ka hx fun N' H=>by obtain⟨c',g1,g2⟩:=RepSL.get (show RepSL N'.fz N'.h vs l from H) hd;rw[h1]at g1;cases g1;trivial)
   .rename_i ds hd;obtain⟨c,h1,h2⟩:=RepSL.get ra hd;cases c with
    |one c=>trivial
    |agg cs=>exact .quiet I (run _ h1) (RepPA.of (v:=.agg _) (p:=.agg _) (RepPL.ofD h2)) e (zc7 ka hx fun N' H=>by obtain⟨c',g1,g2⟩:=RepSL.get (show RepSL N'.fz N'.h vs l from H) hd;rw[h1]at g1;cases g1;exact RepPA.of (v:=.agg _) (p:=.agg _) (RepPL.ofD g2))
   cases e
 .rename_i p l hx;obtain⟨va,ka,ra⟩:=wM F hx;cases va with
  |s v=>trivial
  |tup vs=>
   have run:∀c,zuu vs i=some c->∀call,runK r (.extract a i) call N.h=some (.s c,N.h):=fun c hc call=>by simp only[runK,ka,zH];show (match zuu vs i with|some v=>some (Zb.s v,N.h)|none=>none)=_;rw[hc]
   cases vs with
   |nil=>trivial
   |cons w vs=>
    split at e
    .exact .quiet I (run w rfl) (RepPA.of ra.1) e (zc7 ka hx fun N' H=>RepPA.of (show zvw N' (w::vs) p l from H).1)
    rename_i i;split at e
    .rename_i d hd;obtain⟨c,h1,h2⟩:=RepSL.get ra.2 hd;cases c with
     |agg cs=>trivial
     |one c=>exact .quiet I (run (.one c) h1) (uO h2) e (zc7 ka hx fun N' H=>by obtain⟨c',g1,g2⟩:=RepSL.get (show zvw N' (w::vs) p l from H).2 hd;rw[h1]at g1;cases g1;trivial)
    .rename_i ds hd;obtain⟨c,h1,h2⟩:=RepSL.get ra.2 hd;cases c with
     |one c=>trivial
     |agg cs=>exact .quiet I (run (.agg cs) h1) (RepPA.of (v:=.agg _) (p:=.agg _) (RepPL.ofD h2)) e (zc7 ka hx fun N' H=>by obtain⟨c',g1,g2⟩:=RepSL.get (show zvw N' (w::vs) p l from H).2 hd;rw[h1]at g1;cases g1;exact RepPA.of (v:=.agg _) (p:=.agg _) (RepPL.ofD g2))
    cases e
 cases e
theorem zq6{w:Zc}{v z:DV}(H:Rep N.fz N.h w v)(e:zV v=some z)(h:Za):∃c,zgB (.s (.one w)) h=some (.s (.one c),h)/\z.scal=some c:=by
 cases v<;>simp only[zV]at e<;>cases e
 .rw[H.scal rfl];exact⟨_,rfl,rfl⟩
 obtain⟨b,o,off,cap,ex,cs,rfl,_⟩:=H.lst_inv;exact⟨_,rfl,rfl⟩
theorem zv4(I:Zd E N os)(F:∀i,RepPA N (r i) (ρ i)){a:Operand} (e:w1 (pv ρ a) (fun c=>
  match c with
  | .d v=>za (zV v) fun z=>k (pd z) os [] []
  | .own j=>
   match og os j with
   | .arr _ v=>k (pd (.int .i64 (.ofNat (xH v)))) os [] []
   | .frz v=>za (zV v) fun z=>k (pd z) os [] []
   |_=>none
  | .vw _ _ _ len=>k (pd (.int .i64 (.ofNat len))) os [] []
  |_=>none)=some x):GoalQ N os r ρ (.lenL a) k x:=by
 have hh:=j8 F e;clear e;obtain⟨c,v,e,ka,ra,pka⟩:=hh;cases c<;>first|cases e|skip
 .rename_i d;simp only at e;have hh:=zj e;clear e;obtain⟨z,hz,e⟩:=hh;obtain⟨w,rfl,hw⟩:=wU ra;obtain⟨c,h1,h2⟩:=zq6 hw hz N.h;exact .quiet I (fun call=>by grind[runK,zH]) (yS h2) e
 .rename_i j;simp only at e;obtain⟨c,rfl,hj,hc⟩:=yc ra;cases ho:og os j with
  |arr st vo=>
   rw[ho]at e;simp only at e;have hO:=I.obj j;rw[ho]at hO;refine .quiet I (fun call=>?_) (yS rfl) e;simp only[runK,ka,zH];rcases vo with _|xs
   .rw[hc,show N.μ j=.nils from hO];rfl
   obtain⟨b,vs,ex,h1,_⟩:=hO;rw[hc,h1];rfl
  |frz d=>rw[ho]at e;simp only at e;have hO:=I.obj j;rw[ho]at hO;have hh:=zj e;clear e;obtain⟨z,hz,e⟩:=hh;obtain⟨c',h1,h2⟩:=zq6 (show Rep N.fz N.h (N.μ j) d from hO) hz N.h;exact .quiet I (fun call=>by grind[runK,zH]) (yS h2) e
  |_=>grind
 rename_i j st lo len;simp only at e;obtain⟨c,rfl,hj,hc⟩:=yc ra;refine .quiet I (fun call=>?_) (yS rfl) e;simp only[runK,ka,zH];rcases hc with⟨_,rfl,_,rfl⟩|⟨b',l,cap,ex,cap',ex',g1,rfl,g2,g3⟩<;>rfl
end
end Go.PE
end
section
namespace Go.PE
open Go Go.CE
def fzN(fz:BN->Prop)(h h':Za):BN->Prop:=fun b=>fz b\/(h.n.toNat<=b.toNat/\b.toNat<h'.n.toNat)
def zaP(C:Nat->zh)(g:Nat)(args:List DA)(res:DA):Prop:=
 ∀(fz:BN->Prop) (h:Za) (vs:List Zb),HW h->(∀b,fz b->b.toNat<h.n.toNat)->RepAL fz h vs args->
  Ev (fun n=>C n (.inl g) vs h) (fun p=>HW p.2/\Gr h p.2/\RepA (fzN fz h p.2) p.2 p.1 res)
def zaj(O:Orc)(C:Nat->zh):Prop:=∀g args res,O g args=some res->zaP C g args res
theorem zbF(vs:List Zc):∀(cs:List Zc) (i:Nat),i+vs.length<=cs.length->putAt vs cs i=some (cs.take i++vs++cs.drop (i+vs.length)):=by
 have ov:∀(vs cs:List Zc),vs.length<=cs.length->over vs cs=some (vs++cs.drop vs.length):=by
  intro vs
  induction vs with
  |nil=>intro cs _;rfl
  |cons v vs ih=>intro cs h;cases cs<;>grind[over,wv]
 intro cs
 induction cs with
 |nil=>intro i h;simp at h;obtain⟨rfl,h2⟩:=h;subst h2;rfl
 |cons c cs ih=>
  intro i h;cases i with
  |zero=>
   show over vs (c::cs)=_
   grind
  |succ i=>
   show wv c (putAt vs cs i)=_
   grind[wv]
theorem ziw:∀(cs:List Zc),zaU cs cs.length=true
 | []=>rfl
 |c::cs=>by show (bif Nat.beq (cs.length+1) 0 then false else zaU cs cs.length)=true;rw[ziw cs];rfl
section
variable {β:Type} {C:Nat->zh} {E:En} {lk:Nat->Bool} {N:Nm} {os:List PO} {r:Fr} {ρ:Nat->PA} {k:KT β} {x:β}
theorem zlc(I:Zd E N os)(hlk:∀j,lk j=true->j<os.length)(y:Zg)(o:PO)(c:Zc)(hc:blk c=some N.h.n)
  (ho:∀N',Nx N N'->N'.μ os.length=c->¬N'.fz N.h.n->N'.h.t.get N.h.n=some y->RepO N' os.length o) (hnl:∀m,o≠.lnk m:=by intro m h;cases h):
  ∃N',N'.h=N.h.new y/\N'.μ os.length=c/\N'.n=os.length+1/\Stp E lk N os [] N' (os++[o]):=by
 have G:=Gr.new N.h y;have nx:Nx N ⟨upd N.μ os.length c,os.length+1,N.fz,N.h.new y⟩:=⟨⟨fun _ _ h _=>h,fun b z _ hz=>G.get I.hw hz⟩,by have:=I.len;grind,fun k hk=>by
  have:=I.len;show (if k=os.length then c else N.μ k)=_
  grind⟩
 have muL:upd N.μ os.length c os.length=c:=by show (if os.length=os.length then c else _)=_;simp
 obtain⟨i1,i2,i3⟩:=I.new y o c hc (ho _ nx muL (fun h=>absurd (I.fzlt _ h) (by omega)) (zC _ _ _)) hnl;refine⟨_,rfl,muL,rfl,⟨i1,i2,Bk.gr G,fun j hj=>?_,.app (Nat.le_of_eq I.len)⟩⟩;rw[y7,Yza (by grind)]
theorem ziq(h:Za)(o:Zg)(v:BN->Zc):zcZ h o v=some (.s (.one (v h.n)),h.new o):=by rfl
theorem zrv(I:Zd E N os)(hlk:∀j,lk j=true->j<os.length){vs:List Zc}{ps:List PC}(H:RepPL N vs ps){ko:KOp}(run:∀call,runK r ko call N.h=zcZ N.h (.cells vs 0) (fun b=>.ptr b 0))
  (e:k (pc (.ptr os.length 0)) (os++[.box ps]) [] []=some x):Goal C E lk N os r ko k x:=by
 obtain⟨N',h1,h2,h3,S⟩:=zlc (lk:=lk) I hlk (.cells vs 0) (.box ps) (.ptr N.h.n 0) rfl fun N' nx hmu hf hg=>⟨_,vs,hmu,hf,hg,H.mono nx⟩;refine⟨_,_,_,_,e,⟨(.s (.one (.ptr N.h.n 0)),N.h.new (.cells vs 0)),⟨N',h1,S.sim (yY (p:=.ptr os.length 0) (c:=.ptr N.h.n 0) ⟨by omega,_,h2,rfl⟩)⟩,0,fun n _=>(run (C n)).trans (ziq _ _ _)⟩⟩
theorem zxx(I:Zd E N os)(hlk:∀j,lk j=true->j<os.length){zs:List Zc}(e:za (cDs zs) (fun cs=>k (pc (.ptr os.length 0)) (os++[.box cs]) [] [])=some x):Goal C E lk N os r (.alloc zs) k x:=by obtain⟨ps,h1,e⟩:=zj e;exact zrv I hlk (zds h1) (fun call=>rfl) e
theorem RepPV.cells{v:SVal}{p:PV}(H:RepPV N v p):RepPL N v.cells p.cells:=by
 cases v<;>cases p<;>simp only[RepPV]at H
 .trivial
 exact H
theorem zDt(I:Zd E N os)(F:∀i,RepPA N (r i) (ρ i))(hlk:∀j,lk j=true->j<os.length){a:Operand} (e:(match pv ρ a with
  |some (.s v)=>k (pc (.ptr os.length 0)) (os++[.box v.cells]) [] []
  |_=>none)=some x):Goal C E lk N os r (.box a) k x:=by
 split at e
 .rename_i p hp;obtain⟨v,ka,ra⟩:=wM F hp;obtain⟨w,rfl,hw⟩:=ra.inv;exact zrv I hlk hw.cells (fun call=>by simp only[runK,ka,zH];rfl) e
 cases e
theorem zeV(F:∀i,RepPA N (r i) (ρ i)):∀{parts:List (Nat×Nat×Operand)} {ps ps':List PC} {cs:List Zc},zkl ρ parts ps=some ps'->RepPL N cs ps->∃l cs',kvp r parts=some l/\zdi .nil (cP l) cs=some cs'/\RepPL N cs' ps'
 | [],ps,ps',cs,e,H=>by cases e;exact⟨[],cs,rfl,rfl,H⟩
 |(off,size,a)::rest,ps,ps',cs,e,H=>by
  simp only[zkl]at e;split at e
  .rename_i p hp;obtain⟨v,ka,ra⟩:=wM F hp;cases hb:(Nat.beq p.cells.length size&&Nat.ble (off+size) ps.length)
   .grind
   rw[hb]at e;simp only[LzC]at hb;have h1:=Lz1 hb.1;have h2:=Lz4 hb.2;simp only[Yzb]at e;have hcs:=H.len;obtain⟨w,rfl,hw⟩:=ra.inv;have hw:=hw.cells;have hl:=hw.len;obtain⟨l,cs',k1,k2,k3⟩:=zeV F e (cs:=cs.take off++w.cells++cs.drop (off+size)) (((H.take off).app hw).app (H.drop (off+size)));refine⟨(off,size,.s w)::l,cs',by grind[kvp],?_,k3⟩
   grind[zdi,zu,cP,ziw,zbF]
  cases e
theorem zrp(I:Zd E N os)(F:∀i,RepPA N (r i) (ρ i)){zs:List Zc}{parts:List (Nat×Nat×Operand)}(e:za (cDs zs) (fun cs=>za (zkl ρ parts cs) fun cs=>k (.s (.agg cs)) os [] [])=some x):GoalQ N os r ρ (.build zs parts) k x:=by obtain⟨ps,h1,e⟩:=zj e;obtain⟨ps',h2,e⟩:=zj e;obtain⟨l,cs',k1,k2,k3⟩:=zeV F h2 (zds h1);refine .quiet I (v:=.s (.agg cs')) (fun call=>?_) (RepPA.of (v:=.agg cs') (p:=.agg ps') k3) e;simp only[runK,k1];show zgF N.h (zdi .nil (cP l) zs)=_;rw[k2];rfl
theorem zdZ(st:Nat):∀(n:Nat) (ds:List DV),(chunks st n ds).length=n
 |0,_=>rfl
 |n+1,ds=>by simp[chunks,zdZ st n]
theorem zd0(st:Nat):∀(n:Nat) (ds:List DV) (i:Nat) (x:List DV),(chunks st n ds)[i]? = some x->x=(ds.drop (i*st)).take st/\i<n
 |0,_,i,x,e=>by trivial
 |n+1,ds,i,x,e=>by
  cases i with
  |zero=>grind[chunks]
  |succ i=>
   obtain⟨h1,h2⟩:=zd0 st n (ds.drop st) i x (by trivial)
   grind[YzL]
theorem zdH(I:Zd E N os)(hlk:∀j,lk j=true->j<os.length){st:Nat}{vs:List Zc}{xs:List (List DV)}{ex:Bool}(hl:vs.length=xs.length*st)
  (H:∀(i:Nat) (x:List DV),xs[i]? = some x->x.length=st/\RepL N.fz N.h ((vs.drop (i*st)).take st) x):
  ∃N',N'.h=N.h.new (.cells vs st)/\N'.n=os.length+1/\Stp E lk N os [] N' (os++[.arr st (some xs)])/\RepPA N' (.s (.one (.slc N.h.n 0 xs.length (bif ex then xs.length else 0) ex))) (pc (.own os.length)):=by
 obtain⟨N',h1,h2,h3,S⟩:=zlc (lk:=lk) I hlk (.cells vs st) (.arr st (some xs)) (.slc N.h.n 0 xs.length (bif ex then xs.length else 0) ex) rfl fun N' nx hmu hf hg=>⟨_,vs,ex,hmu,hf,hg,hl,fun i x hx=>⟨(H i x hx).1,(H i x hx).2.mono nx.fg⟩⟩
 exact⟨N',h1,h3,S,yY (p:=.own os.length) ⟨by omega,h2.symm⟩⟩
theorem zus(I:Zd E N os)(F:∀i,RepPA N (r i) (ρ i))(hlk:∀j,lk j=true->j<os.length){st len:Nat}{zs:List Zc}{parts:List (Nat×Nat×Operand)} (e:za (cDs zs) (fun cs=>za (zkl ρ parts cs) fun cs=>za (frL lk xd os cs) fun p=>
  bif Nat.beq p.2.length (len*st) then k (pc (.own p.1.length)) (p.1++[.arr st (some (chunks st len p.2))]) [] [] else none)=some x):Goal C E lk N os r (.bslice st len zs parts) k x:=by
 obtain⟨ps,h1,e⟩:=zj e;obtain⟨ps',h2,e⟩:=zj e;obtain⟨⟨os1,ds⟩,h3,e⟩:=zj e;obtain⟨l,cs',k1,k2,k3⟩:=zeV F h2 (zds h1);obtain⟨N1,f1,S1,r1⟩:=znU I k3 h3;simp only at e;cases hb:Nat.beq ds.length (len*st)
 .grind
 rw[hb]at e;have hd:=Lz1 hb;have hl1:os1.length=os.length:=by rw[<-S1.inv.len,f1.n,I.len]
 have hlc:(chunks st len ds).length=len:=zdZ st len ds;obtain⟨N2,h4,h5,S2,r2⟩:=zdH (lk:=lk) (ex:=true) S1.inv (fun j hj=>by grind) (st:=st) (vs:=cs') (xs:=chunks st len ds) (by rw[r1.1,hd,hlc]) fun i y hy=>by
  obtain⟨q1,q2⟩:=zd0 st len ds i y hy;subst q1;refine⟨?_,r1.sub (i*st) st⟩;have:=Yzk st (show i+1<=len from q2)
  grind
 refine⟨_,_,_,_,e,⟨(.s (.one (.slc N.h.n 0 len len true)),N.h.new (.cells cs' st)),⟨N2,by rw[h4,f1.h],?_⟩,0,fun n _=>?_⟩⟩
 .rw[hlc]at r2;rw[f1.h]at r2;exact(S1.trans S2 f1.n).sim r2
 show runK r (.bslice st len zs parts) (C n) N.h=_;simp only[runK,k1];show (match zdi .nil (cP l) zs with|some cs=>zcZ N.h (.cells cs st) (fun b=>.slc b 0 len len true)|none=>none)=_
 grind[ziq]
theorem zqR(I:Zd E N os){j:Nat}(hj:lk j=false){ps qs:List PC}(ho:og os j=.box ps){b:BN}(hb:N.μ j=.ptr b 0){vs ws:List Zc}(_hg:N.h.t.get b=some (.cells vs 0))(hv:RepPL N vs ps)(hw:RepPL N ws qs){off:Nat}(_hl:off+ws.length<=vs.length):
  ∃N',N'.h=N.h.put b (.cells (vs.take off++ws++vs.drop (off+ws.length)) 0)/\Stp E lk N os [j] N' (oset (.box (ps.take off++qs++ps.drop (off+ws.length))) os j):=by
 have hsv:solid (og os j):=by rw[ho];trivial
 have hlv:=hsv.live;have hbk:blk (N.μ j)=some b:=by rw[hb];rfl
 obtain⟨b0,x0,q1,q2,q3⟩:=xF hlv (I.obj j);rw[hbk]at q1;cases q1;have nx:Nx N ⟨N.μ,N.n,N.fz,N.h.put b (.cells (vs.take off++ws++vs.drop (off+ws.length)) 0)⟩:=⟨⟨fun _ _ h _=>h,fun b' y hf hy=>by grind[yN]⟩,LzB _,fun _ _=>rfl⟩
 obtain⟨i1,i2,i3⟩:=I.put hsv hbk (.cells (vs.take off++ws++vs.drop (off+ws.length)) 0) (.box (ps.take off++qs++ps.drop (off+ws.length)))
  ⟨b,_,hb,q2,xh _ _ _,(((hv.take off).app hw).app (hv.drop (off+ws.length))).mono nx⟩
 exact⟨_,rfl,⟨i1,i2,Bk.put rfl (by rw[I.len];simp_all[vQ]) hlv hbk,fun j' hj'=>by rw[zF,Yza (fun e=>by grind)],.oset (fun _=>by rw[ho];trivial) (fun _=>.inl trivial) (fun _=>by omega)⟩⟩
theorem zcJ{vs ds:List Zc}{p st i off:Nat}(h:p+ds.length<=vs.length)(hp:p=i*st+off)(hs:off+ds.length<=st)(j:Nat)(hij:j≠i):
  ((vs.take p++ds++vs.drop (p+ds.length)).drop (j*st)).take st=(vs.drop (j*st)).take st:=by
 apply Yz3;intro t;rw[YzB,YzB];split
 .rename_i ht;rw[Yzu,Yzu];by_cases hlt:j<i
  .have:=Yzk st (show j+1<=i from hlt);rw[Yz5]at this;rw[YzD,Lz2 (by simp;omega),YzB,Yzc (by omega)]
  have:=Yzk st (show i+1<=j by omega);rw[Yz5]at this;rw[Lz8 (by simp;omega),Yzu]
  grind
 rfl
theorem zxc(I:Zd E N os){j t i m m0:Nat}{xs:List (List DV)}(hlt:lk t=false)(hoj:og os j=.hol (some xs) i t)(hot:og os t=.lnk m0){b:BN}(hbj:blk (N.μ j)=some b){vs:List Zc}(hg:N.h.t.get b=some (.cells vs 1))(hm:m<N.n):
  ∃N',N'.h=N.h.put b (.cells (vs.take i++[N.μ m]++vs.drop (i+1)) 1)/\Stp E lk N os [j] N' (oset (.lnk m) os t):=by
 have hlv:live (og os j):=by rw[hoj];trivial
 have hO:=I.obj j;rw[hoj]at hO;obtain⟨b',vs',ex,h1,h2,h3,h4,h5,h6,h7,h8⟩:=hO;rw[h1]at hbj;cases hbj;rw[hg]at h3;cases h3;have htl:t<os.length:=vQ (by grind);have hjl:j<os.length:=vQ (by grind);have hjt:j≠t:=fun e=>by grind
 let X:=vs.take i++[N.μ m]++vs.drop (i+1)
 let N':Nm:=⟨N.μ,N.n,N.fz,N.h.put b (.cells X 1)⟩
 have hXl:X.length=vs.length:=by grind
 have old:∀b' y,N.h.t.get b'=some y->b'≠b->N'.h.t.get b'=some y:=fun b' y hy hne=>by grind[yN]
 have nx:Nx N N':=⟨⟨fun _ _ h _=>h,fun b' y hf hy=>old b' y hy (fun e=>h2 (e▸hf))⟩,LzB _,fun _ _=>rfl⟩;have gt:∀k,k≠t->og (oset (.lnk m) os t) k=og os k:=fun k hk=>by simp_all[zF]
 have lv:∀k,live (og (oset (.lnk m) os t) k)->live (og os k):=fun k hk=>by
  by_cases h:k=t
  .rw[h,zF,Yzc ⟨rfl,htl⟩]at hk;trivial
  grind
 refine⟨N',rfl,⟨⟨HW.put I.hw hg,I.gr.put (I.own j b hlv (by rw[h1];rfl)),I.fzlt,I.fzok,fun b' hb'=>(I.fzex b' hb').imp id fun⟨y,hy⟩=>⟨y,old b' y hy (fun e=>h2 (e▸hb'))⟩,I.len.trans (yd _ os t).symm,
  fun k b' hl hb'=>I.own k b' (lv k hl) hb',fun k k' b' hl hl' hb hb'=>I.inj k k' b' (lv k hl) (lv k' hl') hb hb',fun k=>?_,fun k m' hk=>?_⟩,nx,Bk.put rfl (by rw[I.len];exact hjl) hlv (by rw[h1];rfl),fun j' hj'=>gt j' (fun e=>by grind),.oset (fun h=>h.elim) (fun h=>by rw[hot]at h;trivial) (fun h=>h.elim)⟩⟩
 .by_cases hk:k=t
  .subst hk;rw[zF,Yzc ⟨rfl,htl⟩];refine⟨hm,b,i,X,h7,h2,xh _ _ _,?_⟩
   grind
  rw[gt k hk];by_cases hkj:k=j
  .subst hkj;rw[hoj];refine⟨b,X,ex,h1,h2,xh _ _ _,by omega,h5,h6,h7,fun q x hq hx=>?_⟩;obtain⟨r1,r2⟩:=h8 q x hq hx;refine⟨r1,?_⟩;have:=zcJ (vs:=vs) (ds:=[N.μ m]) (p:=i) (st:=1) (i:=i) (off:=0) (by simp;omega) (by omega) (by simp) q hq;simp only[List.length_singleton]at this;show RepL _ _ ((X.drop (q*1)).take 1) x;rw[show X=vs.take i++[N.μ m]++vs.drop (i+1) from rfl,this];exact r2.mono nx.fg
  refine (I.obj k).mono nx rfl fun htd b1 hb1=>?_;obtain⟨b2,x2,k1,k2,k3⟩:=wb htd (I.obj k);rw[k1]at hb1;cases hb1;have hne:b1≠b:=fun e=>by
   subst e;rcases htd with hl|⟨m1,hm1⟩
   .exact hkj (I.inj k j b1 hl hlv k1 (by rw[h1];rfl))
   obtain⟨k',v',n',q1,q2⟩:=I.lnk_blk hm1;have:=I.inj k' j b1 (by rw[q1];trivial) hlv (by grind) (by rw[h1];rfl)
   grind
  grind
 by_cases h:k=t
 .grind
 rw[gt k h]at hk;obtain⟨k',v',n',q⟩:=I.lnk k m' hk
 grind
theorem zcI{vs ds:List Zc}{p st i off:Nat}(h:p+ds.length<=vs.length)(hp:p=i*st+off)(hs:off+ds.length<=st)(hst:i*st+st<=vs.length):
  ((vs.take p++ds++vs.drop (p+ds.length)).drop (i*st)).take st=((vs.drop (i*st)).take st).take off++ds++((vs.drop (i*st)).take st).drop (off+ds.length):=by
 apply Yz3;intro t;subst hp;have e1:(List.take (i*st+off) vs).length=i*st+off:=by simp;omega
 have e2:(((vs.drop (i*st)).take st).take off).length=off:=by simp;omega
 rw[YzB];by_cases ht:t<st
 .rw[Yzc ht,Yzu];by_cases h1:t<off
  .grind
  by_cases h2:t<off+ds.length
  .rw[YzD,Lz8 (by omega),Lz2 (by omega),YzD,Lz8 (by omega),Lz2 (by omega)]
   grind
  rw[Lz8 (by simp;omega),Yzu,Lz8 (by simp;omega),Yzu,YzB,Yzc (by simp;omega),Yzu]
  grind
 grind
theorem zxt(I:Zd E N os)(F:∀i,RepPA N (r i) (ρ i)){n:Nat}{a b:Operand} (e:w1 (pv ρ a) (fun c=>
  match pv ρ b with
  |some (.s v)=>zq4 lk os n c v k
  |_=>none)=some x):Goal C E lk N os r (.store n a b) k x:=by
 have hh:=j8 F e;clear e;obtain⟨c,v,e,ka,ra,pka⟩:=hh;split at e
 case h_2=>cases e
 rename_i p hp;obtain⟨vb,kb,rb⟩:=wM F hp;obtain⟨w,rfl,hw⟩:=rb.inv;have hw:=hw.cells;unfold zq4 at e;cases hn:Nat.beq p.cells.length n
 .grind
 rw[hn]at e;have hn:=Lz1 hn;have hwl:=hw.len;have hls:zaU w.cells n=true:=by grind[ziw]
 simp only[Yzb]at e;cases c<;>first|cases e|skip
 .rename_i j off;simp only at e;obtain⟨cv,rfl,hjn,bb,hb,rfl⟩:=yc ra;cases ho:og os j with
  |box ps=>
   rw[ho]at e;simp only at e;cases hlj:lk j
   case true=>grind
   rw[hlj]at e;simp only[Yzd]at e;cases hbd:Nat.ble (off+n) ps.length
   .grind
   rw[hbd]at e;have hbd:=Lz4 hbd;obtain⟨b',cs,h1,h2,h3,h4⟩:=zaH I ho;rw[hb]at h1;cases h1;have hcl:=h4.len;obtain⟨N',q1,q2⟩:=zqR I hlj ho hb h3 h4 hw (off:=off) (by omega);rw[show off+w.cells.length=off+n by omega]at q2;refine⟨_,_,_,_,e,⟨(zn,_),⟨N',q1,q2.sim (.bad _)⟩,0,fun m _=>?_⟩⟩;show runK r (.store n a b) (C m) N.h=_;simp only[runK,ka,kb,zH];show storeAt n N.h bb off w.cells (N.h.t.get bb)=_;rw[h3];simp only[storeAt,hls,Yzb];rw[zbF w.cells cs off (by omega)];rfl
  |_=>grind
 rotate_left
 .rename_i j f0 len st i o;simp only at e;generalize hoff:f0+i*st+o=off at e;obtain⟨cv,rfl,hjn,bb,hb,hcv,_⟩:=yc ra;rw[hoff]at hcv;subst hcv;cases ho:og os j with
  |box ps=>
   rw[ho]at e;simp only at e;cases hlj:lk j
   case true=>grind
   rw[hlj]at e;simp only[Yzd]at e;cases hbd:Nat.ble (off+n) ps.length
   .grind
   rw[hbd]at e;have hbd:=Lz4 hbd;obtain⟨b',cs,h1,h2,h3,h4⟩:=zaH I ho;rw[hb]at h1;cases h1;have hcl:=h4.len;obtain⟨N',q1,q2⟩:=zqR I hlj ho hb h3 h4 hw (off:=off) (by omega);rw[show off+w.cells.length=off+n by omega]at q2;refine⟨_,_,_,_,e,⟨(zn,_),⟨N',q1,q2.sim (.bad _)⟩,0,fun m _=>?_⟩⟩;show runK r (.store n a b) (C m) N.h=_;simp only[runK,ka,kb,zH];show storeAt n N.h bb off w.cells (N.h.t.get bb)=_;rw[h3];simp only[storeAt,hls,Yzb];rw[zbF w.cells cs off (by omega)];rfl
  |_=>grind
 rename_i j st i off;simp only at e;split at e
 .rename_i vo i' t hoj;cases p with
  |agg ps=>cases e
  |one pc0=>
  obtain⟨m,rfl⟩:∃m,pc0=.own m:=by grind
  simp only at e;cases ht:og os t with
  |lnk m0=>
   rw[ht]at e;simp only at e;cases hlt:lk t
   case true=>grind
   rw[hlt]at e;simp only[Yzd]at e;cases hs:(Nat.beq st 1&&Nat.beq off 0)
   .grind
   rw[hs]at e;rw[LzC]at hs;have e1:=Lz1 hs.1;have e2:=Lz1 hs.2;subst e1 e2;simp only[Yzb]at e;cases hi:Nat.beq i i'
   .rw[hi]at e;cases e
   rw[hi]at e;have:=Lz1 hi;subst this;obtain⟨cv,rfl,hjn,bb,l0,cap0,ex0,hb,rfl,hil⟩:=yc ra;rcases vo with _|xs
   .have:=I.obj j;rw[hoj]at this;trivial
   have hO:=I.obj j;rw[hoj]at hO;obtain⟨b',vs,ex,h1,h2,h3,h4,h5,h6,h7,h8⟩:=hO;rw[hb]at h1;cases h1;cases w with
   |agg ws=>trivial
   |one wc=>
   have hwc:m<N.n/\wc=N.μ m:=hw.1;obtain⟨hm,rfl⟩:=hwc;obtain⟨N',q1,q2⟩:=zxc (lk:=lk) I hlt hoj ht (b:=bb) (by rw[hb];rfl) h3 hm;refine⟨_,_,_,_,e,⟨(zn,_),⟨N',q1,q2.sim (.bad _)⟩,0,fun m' _=>?_⟩⟩;show runK r (.store n a b) (C m') N.h=_;simp only[runK,ka,kb,zH];show storeAt n N.h bb (i*1+0) [N.μ m] (N.h.t.get bb)=_;rw[h3,show i*1+0=i by omega];simp only[storeAt];rw[show (SVal.one (N.μ m)).cells=[N.μ m] from rfl]at hls;simp only[hls,Yzb];rw[zbF [N.μ m] vs i (by simp;omega)];rfl
  |_=>grind
 cases hlj:lk j
 case true=>grind
 rw[hlj]at e;simp only[Yzd]at e;have hh:=zj e;clear e;obtain⟨⟨os1,ds⟩,hf,e⟩:=hh;obtain⟨N1,f1,S1,r1⟩:=znU I hw hf;simp only at e;obtain⟨cv,rfl,hjn,bb,l0,cap0,ex0,hb,rfl,hil⟩:=yc ra;cases ho:og os1 j with
 |arr st' vo=>
  rw[ho]at e;simp only at e;cases hs:Nat.beq st st'
  .grind
  rw[hs]at e;have:=Lz1 hs;subst this;simp only[Yzb]at e;have hh:=zj e;clear e;obtain⟨vo',hvo,e⟩:=hh;rcases vo with _|xs
  .cases hvo
  simp only[zaR]at hvo;rcases hy:xs[i]? with _|y
  .grind
  rw[hy]at hvo;simp only at hvo;cases hbd:Nat.ble (off+ds.length) st
  .grind
  rw[hbd]at hvo;cases hvo;have hbd:=Lz4 hbd;obtain⟨b',vs,ex,h1,h2,h3,h4,h5⟩:=zcE S1.inv ho;have hmu:N1.μ j=N.μ j:=by rw[f1.μ]
  rw[hmu,hb]at h1;cases h1;have hi:=(Lz0.1 hy).1;have hil2:=Yzk st (show i+1<=xs.length from hi);rw[Yz5]at hil2;have hwd:w.cells.length=ds.length:=r1.1;have hp2:i*st+off+w.cells.length<=vs.length:=by omega
  have hsv:solid (og os1 j):=by rw[ho];trivial
  have hlv:=hsv.live;have hbk:blk (N1.μ j)=some bb:=by rw[hmu,hb];rfl
  have hjl:j<os1.length:=vQ (by grind)
  let X:=vs.take (i*st+off)++w.cells++vs.drop (i*st+off+w.cells.length)
  have fg:FG N1.fz N1.h N1.fz (N1.h.put bb (.cells X st)):=⟨fun _ _ h _=>h,fun b2 z hf2 hz=>by grind[yN]⟩
  obtain⟨i1,i2,i3⟩:=S1.inv.put hsv hbk (.cells X st) (.arr st (some (xs.set i (y.take off++ds++y.drop (off+ds.length)))))
   ⟨bb, X, _, by rw [List.length_set]; exact hmu.trans hb, h2, xh _ _ _, by grind, fun t z hz => by
    rw[List.getElem?_set]at hz;by_cases ht:i=t
    .subst ht;rw[Yzc rfl,Yzc hi]at hz;cases hz;obtain⟨g1,g2⟩:=h5 i y hy;refine⟨by grind,?_⟩;show RepL _ _ ((X.drop (i*st)).take st) _;rw[zcI hp2 rfl (by omega) (by omega)];rw[hwd];have:=(g2.mono fg).set (r1.mono fg) off
     grind
    rw[Yza ht]at hz;obtain⟨g1,g2⟩:=h5 t z hz;refine⟨g1,?_⟩;show RepL _ _ ((X.drop (t*st)).take st) _;rw[zcJ hp2 rfl (by omega) t (fun e=>ht e.symm)];exact g2.mono fg⟩
  have S2:Stp E lk N1 os1 [j] ⟨N1.μ,N1.n,N1.fz,N1.h.put bb (.cells X st)⟩ _:=⟨i1,i2,Bk.put rfl (by rw[S1.inv.len];exact hjl) hlv hbk,fun j' hj'=>by rw[zF,Yza (fun e=>by grind)],.oset (fun _=>by rw[ho];trivial) (fun _=>.inl trivial) (fun _=>by omega)⟩
  refine⟨_,_,_,_,e,⟨(zn,N.h.put bb (.cells X st)),⟨_,by rw[<-f1.h],(S1.trans S2 f1.n).sim (.bad _)⟩,0,fun m _=>?_⟩⟩;show runK r (.store n a b) (C m) N.h=_;simp only[runK,ka,kb,zH];show storeAt n N.h bb (i*st+off) w.cells (N.h.t.get bb)=_;rw[f1.h]at h3;rw[h3];simp only[storeAt,hls,Yzb];rw[zbF w.cells vs _ hp2];rfl
 |_=>grind
end
end Go.PE
end
section
namespace Go.PE
open Go Go.CE
section
variable {β:Type} {C:Nat->zh} {E:En} {lk:Nat->Bool} {N:Nm} {os:List PO} {r:Fr} {ρ:Nat->PA} {k:KT β} {x:β}
theorem zxu(I:Zd E N os)(hlk:∀j,lk j=true->j<os.length){st:Nat}(e:k (pc (.own os.length)) (os++[.mp st []]) [] []=some x):Goal C E lk N os r (.mkmap st) k x:=by obtain⟨N',h1,h2,h3,S⟩:=zlc (lk:=lk) I hlk (.map []) (.mp st []) (.map N.h.n) rfl fun N' nx hmu hf hg=>⟨_,[],hmu,hf,hg,rfl,fun i e x he=>by simp at he⟩;refine⟨_,_,_,_,e,⟨(.s (.one (.map N.h.n)),N.h.new (.map [])),⟨N',h1,S.sim (yY (p:=.own os.length) (c:=.map N.h.n) ⟨by omega,h2.symm⟩)⟩,0,fun n _=>?_⟩⟩;rfl
theorem zmf{v:SVal}{p:PV}{d:DS}(H:RepPV N v p)(e:zBE p=some d):RepS N.fz N.h v d:=by
 cases p with
 |one c=>
  cases v with
  |agg cs=>trivial
  |one y=>
   cases c<;>first|(cases e;done)|skip
   cases e;exact H
 |agg cs=>
  cases v with
  |one y=>trivial
  |agg ys=>
   simp only[zBE]at e;rcases h:zpQ cs with _|l
   .grind
   rw[h]at e;cases e;exact zd8 h H
theorem zzs{z:SVal}{d:DS}(e:zDs z=some d):RepS N.fz N.h z d:=by
 unfold zDs at e;rcases h:pvS z with _|p
 .grind
 rw[h]at e;exact zmf (zqP h) e
theorem ziY{q:Nat⊕List Nat}{a b:SVal}{v w:DS}{p:Bool}{fz:BN->Prop}{h:Za}(ha:RepS fz h a v)(hb:RepS fz h b w)(e:zk2 q v w=some p):eqS q a b=some p:=by
 cases q<;>cases v<;>cases w<;>first|(cases e;done)|skip
 .cases a<;>first|exact ha.elim|skip
  cases b<;>first|exact hb.elim|skip
  exact zsH ha hb e
 cases a<;>first|exact ha.elim|skip
 cases b<;>first|exact hb.elim|skip
 exact zl8 ha hb e
def RepE(fz:BN->Prop)(h:Za)(st:Nat)(es:List (SVal×SVal))(xs:List (List DV)):Prop:=
 es.length=xs.length/\∀(i:Nat) (e:SVal×SVal) (x:List DV),es[i]? = some e->xs[i]? = some x->RepS fz h e.1 (kD st x)/\RepS fz h e.2 (vD st x)
theorem RepE.inv{fz:BN->Prop}{h:Za}{st:Nat}{e:SVal×SVal}{es:List (SVal×SVal)}{x:List DV}{xs:List (List DV)}(H:RepE fz h st (e::es) (x::xs)):RepS fz h e.1 (kD st x)/\RepS fz h e.2 (vD st x)/\RepE fz h st es xs:=
 ⟨(H.2 0 e x rfl rfl).1,(H.2 0 e x rfl rfl).2,by have:=H.1;grind,fun i e' x' he hx=>H.2 (i+1) e' x' (by trivial) (by trivial)⟩
theorem RepE.cons{fz:BN->Prop}{h:Za}{st:Nat}{e:SVal×SVal}{es:List (SVal×SVal)}{x:List DV}{xs:List (List DV)}(h1:RepS fz h e.1 (kD st x))(h2:RepS fz h e.2 (vD st x))(H:RepE fz h st es xs):RepE fz h st (e::es) (x::xs):=
 ⟨by simp [H.1], fun i e' x' he hx => by
  cases i with
  |zero=>grind
  |succ i=>exact H.2 i e' x' (by trivial) (by trivial)⟩
theorem RepE.nil{fz:BN->Prop}{h:Za}{st:Nat}:RepE fz h st [] []:=⟨rfl,fun i e x he=>by simp at he⟩
theorem RepE.ne{fz:BN->Prop}{h:Za}{st:Nat}{es:List (SVal×SVal)}{xs:List (List DV)}(H:RepE fz h st es xs):(es=[]/\xs=[])\/∃e es' x xs',es=e::es'/\xs=x::xs':=by
 cases es with
 |nil=>cases xs with
  |nil=>simp
  |cons x xs=>have:=H.1;trivial
 |cons e es=>cases xs with
  |nil=>have:=H.1;trivial
  |cons x xs=>simp
def zFO(fz:BN->Prop)(h:Za):Option SVal->Option DS->Prop
 |none,none=>True
 |some v,some d=>RepS fz h v d
 |_,_=>False
theorem zn0{fz:BN->Prop}{h:Za}{q:Nat⊕List Nat}{st:Nat}{key:SVal}{kd:DS}(hk:RepS fz h key kd):∀{xs:List (List DV)} {es:List (SVal×SVal)} {d:Option DS},RepE fz h st es xs->ziS q st kd xs=some d->
  ∃v,uG q key es=some v/\zFO fz h v d/\∀y,d=some y->∃x,y=vD st x
 | [],es,d,H,e=>by
  rcases H.ne with⟨rfl,_⟩|⟨_,_,_,_,_,h2⟩
  .cases e;exact⟨none,rfl,trivial,fun y h=>by cases h⟩
  cases h2
 |x::xs,es,d,H,e=>by
  rcases H.ne with⟨_,h2⟩|⟨e0,es',x',xs',rfl,h2⟩
  .cases h2
  cases h2;obtain⟨h1,h2,h3⟩:=H.inv;simp only[ziS]at e;obtain⟨k0,v0⟩:=e0;rcases hq:zk2 q kd (kD st x) with _|b
  .grind
  rw[hq]at e;have hq':=ziY hk h1 hq;cases b
  .obtain⟨v,g1,g2⟩:=zn0 hk h3 e
   grind[uG]
  cases e;exact⟨some v0,by grind[uG],h2,fun y h=>by grind⟩
theorem zqS{fz:BN->Prop}{h:Za}{q:Nat⊕List Nat}{st:Nat}{key val:SVal}{kd:DS}{row:List DV}(hk:RepS fz h key kd)(h1:RepS fz h key (kD st row))(h2:RepS fz h val (vD st row)):∀{xs ys:List (List DV)} {es:List (SVal×SVal)},RepE fz h st es xs->ztx q st kd row xs=some ys->
  ∃es',zcS q key val es=some es'/\RepE fz h st es' ys
 | [],ys,es,H,e=>by
  rcases H.ne with⟨rfl,_⟩|⟨_,_,_,_,_,h2⟩
  .cases e;exact⟨_,rfl,.cons h1 h2 .nil⟩
  cases h2
 |x::xs,ys,es,H,e=>by
  rcases H.ne with⟨_,h2⟩|⟨e0,es',x',xs',rfl,hh⟩
  .cases h2
  cases hh;obtain⟨g1,g2,g3⟩:=H.inv;simp only[ztx]at e;obtain⟨k0,v0⟩:=e0;rcases hq:zk2 q kd (kD st x) with _|b
  .grind
  rw[hq]at e;have hq':=ziY hk g1 hq;cases b
  .simp only at e;rcases hp:ztx q st kd row xs with _|l
   .grind
   rw[hp]at e;cases e;obtain⟨es2,k1,k2⟩:=zqS hk h1 h2 g3 hp;exact⟨(k0,v0)::es2,by grind[zcS,wv],.cons g1 g2 k2⟩
  cases e;exact⟨(key,val)::es',by grind[zcS],.cons h1 h2 g3⟩
theorem zrw(I:Zd E N os){j st:Nat}{xs:List (List DV)}(ho:og os j=.mp st xs):∃b es,N.μ j=.map b/\¬N.fz b/\N.h.t.get b=some (.map es)/\RepE N.fz N.h st es xs:=by have:=I.obj j;rw[ho]at this;trivial
theorem zl4{a b:Option Nat}(h:zyF a b=true):a=b:=by
 cases a<;>cases b<;>first|rfl|(cases h;done)|skip
 rw[Lz1 h]
theorem zsw(x:List DV):∀n i,(exp x n i).length=n
 |0,_=>rfl
 |n+1,i=>by simp[exp,zsw x n]
theorem zmF(a b:List DV):∀i,atD (a++b) (a.length+i)=atD b i:=by
 induction a with
 |nil=>simp
 |cons x a ih=>intro i;show atD (x::(a++b)) (a.length+1+i)=_;rw[show a.length+1+i=(a.length+i)+1 by omega];show atD (a++b) (a.length+i)=_;exact ih i
theorem zsx(a b:List DV):∀n i,exp (a++b) n (a.length+i)=exp b n i
 |0,_=>rfl
 |n+1,i=>by
  have:=zsx a b n (i+1)
  grind[exp,zmF]
theorem ziT(a b:List DV):exp (a++b) a.length 0=a:=by
 have key:∀(a p b:List DV),exp (p++(a++b)) a.length p.length=a:=by
  intro a
  induction a with
  |nil=>intro p b;rfl
  |cons x a ih=>intro p b;have h:=ih (p++[x]) b;have h0:=zmF p (x::(a++b)) 0;show atD (p++(x::(a++b))) p.length::exp (p++(x::(a++b))) a.length (p.length+1)=_;rw[YzE]at h0;rw[h0];rw[Yzx,YzD]at h;exact congrArg _ h
 exact key a [] b
theorem zDd{st:Nat}{kd vd:DS}(h:shK st=zk3 kd):kD st (kd.cells++vd.cells)=kd:=by
 unfold kD;rw[h];cases kd with
 |one d=>rfl
 |agg l=>show DS.agg (exp (l++vd.cells) l.length 0)=_;rw[ziT]
theorem zDc{st:Nat}{kd vd:DS}(h:shK st=zk3 kd)(h2:shV st=zk3 vd):vD st (kd.cells++vd.cells)=vd:=by
 unfold vD;rw[h,h2];have hk:zzY (zk3 kd)=kd.cells.length:=by cases kd<;>rfl
 rw[hk];cases vd with
 |one d=>show DS.one (atD (kd.cells++[d]) (kd.cells.length+0))=_;rw[zmF];rfl
 |agg l=>
  have:=zsx kd.cells l l.length 0;have h2:=ziT l [];rw[YzP]at h2;show DS.agg (exp (kd.cells++l) l.length (kd.cells.length+0))=_
  grind
theorem zCM(st:Nat)(x:List DV):zk3 (vD st x)=shV st:=by
 unfold vD;rcases shV st with _|n
 .rfl
 show some (exp x n _).length=_;rw[zsw]
theorem look_ok(_:Zd E N os){z:SVal}{zd:DS}{ok:Bool}{v:Option SVal}{d:Option DS}(hz:RepS N.fz N.h z zd)(hv:zFO N.fz N.h v d)(hs:∀y,d=some y->zk3 y=zk3 zd)(e:zuQ zd ok d os k=some x):
  ∃a,k a os [] []=some x/\RepPA N (bif ok then .tup [v.getD z,.one (.bool v.isSome)] else .s (v.getD z)) a:=by
 have hd:RepS N.fz N.h (v.getD z) (lkD zd d):=by
  cases v<;>cases d<;>first|exact hv.elim|skip
  .exact hz
  exact hv
 have hi:d.isSome=v.isSome:=by cases v<;>cases d<;>first|exact hv.elim|rfl
 have hsh:zk3 (lkD zd d)=zk3 zd:=by
  rcases d with _|y
  .rfl
  exact hs y rfl
 have hb:RepS N.fz N.h (.one (.bool v.isSome)) (.one (.bool d.isSome)):=by rw[hi];exact Rep.bool _
 generalize hg:lkD zd d=g at hd hsh e;unfold zuQ at e;rw[hg]at e;cases zd with
 |one z0=>
  cases g with
  |agg l=>cases hsh
  |one g=>
   cases ok
   case true=>exact⟨_,e,show RepSL N.fz N.h [v.getD z,.one (.bool v.isSome)] [.one g,.one (.bool d.isSome)] from⟨hd,hb,trivial⟩⟩
   refine⟨_,e,?_⟩;show RepPA N (.s (v.getD z)) (pd g);generalize v.getD z=w at hd;cases w with
   |agg cs=>trivial
   |one c=>trivial
 |agg l=>
  cases g with
  |one g=>cases hsh
  |agg m=>
   have hm:m.length=l.length:=by grind[zk3]
   have he:exp m l.length 0=m:=by
    have:=ziT m []
    grind
   simp only[dsA,he]at e;cases ok
   case true=>exact⟨_,e,show RepSL N.fz N.h [v.getD z,.one (.bool v.isSome)] [.agg m,.one (.bool d.isSome)] from⟨hd,hb,trivial⟩⟩
   refine⟨_,e,?_⟩;show RepPA N (.s (v.getD z)) (.s (.agg (m.map .d)));generalize v.getD z=w at hd;cases w with
   |one c=>trivial
   |agg cs=>exact RepPA.of (v:=.agg cs) (p:=.agg (m.map .d)) (RepPL.ofD hd)
theorem zur(I:Zd E N os)(F:∀i,RepPA N (r i) (ρ i)){q:Nat⊕List Nat}{z:SVal}{ok:Bool}{a b:Operand} (e:w1 (pv ρ a) (fun c=>
  match pv ρ b with
  |some (.s kp)=>zlx os q z ok c kp k
  |_=>none)=some x):Goal C E lk N os r (.lookup q z ok a b) k x:=by
 have hh:=j8 F e;clear e;obtain⟨c,v,e,ka,ra,pka⟩:=hh;split at e
 case h_2=>cases e
 rename_i p hp;obtain⟨vb,kb,rb⟩:=wM F hp;obtain⟨w,rfl,hw⟩:=rb.inv;unfold zlx at e;have hh:=zj e;clear e;obtain⟨kd,hkd,e⟩:=hh;have hh:=zj e;clear e;obtain⟨zd,hzd,e⟩:=hh;have hh:=zj e;clear e;obtain⟨pp,hpp,e⟩:=hh;have hk:=zmf hw hkd;have hz:=zzs (N:=N) hzd;have hself:(eqS q w w).isNone=false:=by grind[ziY]
 cases c<;>first|(cases e;done)|skip
 .rename_i dv;cases dv<;>first|(cases e;done)|skip
  simp only at e;have hv:v=.s (.one .nilm):=yh ra (c:=.nilm) rfl;subst hv;obtain⟨a',e1,e2⟩:=look_ok I (v:=none) (d:=none) hz trivial (fun y h=>by cases h) e;refine .quiet I (fun call=>?_) e2 e1;simp only[runK,ka,kb,zH];show (bif (eqS q w w).isNone then none else _)=_;rw[hself];rfl
 rename_i j;simp only at e;obtain⟨c,rfl,hj,rfl⟩:=yc ra;cases ho:og os j with
 |mp st xs=>
  rw[ho]at e;simp only at e;cases hs:zyF (shV st) (zk3 zd)
  .grind
  rw[hs]at e;have hh:=zj e;clear e;obtain⟨d,hd,e⟩:=hh;obtain⟨bb,es,g1,g2,g3,g4⟩:=zrw I ho;obtain⟨vv,f1,f2,f3⟩:=zn0 hk g4 hd;obtain⟨a',e1,e2⟩:=look_ok I hz f2 (fun y h=>by obtain⟨x,rfl⟩:=f3 y h;grind[zCM,zl4]) e;refine .quiet I (fun call=>?_) e2 e1;simp only[runK,ka,kb,zH];rw[g1];show (match mapOf N.h (.s (.one (.map bb))),Zb.s w with
   |some es,.s k=>bif (eqS q k k).isNone then none else match uG q k es with|some r=>some (bif ok then Zb.tup [r.getD z,.one (.bool r.isSome)] else Zb.s (r.getD z),N.h)|none=>none
   |_,_=>none)=_
  simp only[mapOf,g3,hself,Yzd,f1]
 |_=>grind
theorem zAD(I:Zd E N os)(F:∀i,RepPA N (r i) (ρ i)){a:Operand} (e:w1 (pv ρ a) (fun c=>
  match c with
  | .own j=>
   match og os j with
   | .mp _ xs=>k (pd (.int .i64 (.ofNat xs.length))) os [] []
   |_=>none
  | .d .nilm=>k (pd (.int .i64 (.ofNat 0))) os [] []
  |_=>none)=some x):Goal C E lk N os r (.lenM a) k x:=by
 have hh:=j8 F e;clear e;obtain⟨c,v,e,ka,ra,pka⟩:=hh;cases c<;>first|(cases e;done)|skip
 .rename_i dv;cases dv<;>first|(cases e;done)|skip
  have hv:v=.s (.one .nilm):=yh ra (c:=.nilm) rfl;subst hv;exact .quiet I (fun call=>by simp only[runK,ka,zH];rfl) (yS rfl) e
 rename_i j;simp only at e;obtain⟨c,rfl,hj,rfl⟩:=yc ra;cases ho:og os j with
 |mp st xs=>rw[ho]at e;simp only at e;obtain⟨bb,es,g1,g2,g3,g4⟩:=zrw I ho;refine .quiet I (v:=.s (.one (.int .i64 (.ofNat xs.length)))) (fun call=>?_) (yS rfl) e;simp only[runK,ka,zH];rw[g1];show (match N.h.t.get bb with|some (.map es)=>some (Zb.s (.one (.int .i64 (.ofNat es.length))),N.h)|_=>none)=_;rw[g3,<-g4.1]
 |_=>grind
theorem zAB(I:Zd E N os)(F:∀i,RepPA N (r i) (ρ i)){q:Nat⊕List Nat}{a b c:Operand} (e:w1 (pv ρ a) (fun m=>
  match pv ρ b,pv ρ c with
  |some (.s kp),some (.s vp)=>zxh lk os q m kp vp k
  |_,_=>none)=some x):Goal C E lk N os r (.mupd q a b c) k x:=by
 have hh:=j8 F e;clear e;obtain⟨m,v,e,ka,ra,pka⟩:=hh;split at e
 case h_2=>cases e
 rename_i p vp hp hvp;obtain⟨vb,kb,rb⟩:=wM F hp;obtain⟨w,rfl,hw⟩:=rb.inv;obtain⟨vc,kc,rc⟩:=wM F hvp;obtain⟨u,rfl,hu⟩:=rc.inv;unfold zxh at e;have hh:=zj e;clear e;obtain⟨kd,hkd,e⟩:=hh;have hh:=zj e;clear e;obtain⟨⟨os1,vd⟩,hvd,e⟩:=hh;have hh:=zj e;clear e;obtain⟨pp,hpp,e⟩:=hh;have hk:=zmf hw hkd;have hself:(eqS q w w).isNone=false:=by grind[ziY]
 obtain⟨N1,f1,S1,r1⟩:=zkk I hu hvd;have hk1:RepS N1.fz N1.h w kd:=hk.mono S1.nx.fg;cases m<;>first|(cases e;done)|skip
 rename_i j;simp only at e;obtain⟨cm,rfl,hj,rfl⟩:=yc ra;cases ho:og os1 j with
 |mp st xs=>
  rw[ho]at e;simp only at e;cases hlj:lk j
  case true=>grind
  rw[hlj]at e;simp only[Yzd]at e;cases hs:(zyF (shK st) (zk3 kd)&&zyF (shV st) (zk3 vd))
  .grind
  rw[hs]at e;rw[LzC]at hs;have s1:=zl4 hs.1;have s2:=zl4 hs.2;simp only[Yzb]at e;have hh:=zj e;clear e;obtain⟨ys,hys,e⟩:=hh;obtain⟨bb,es,g1,g2,g3,g4⟩:=zrw S1.inv ho;obtain⟨es',q1,q2⟩:=zqS hk1 (val:=u) (by grind[zDd]) (by grind[zDc]) g4 hys;have hmu:N1.μ j=N.μ j:=by rw[f1.μ]
  have hlv:live (og os1 j):=by rw[ho];trivial
  have hbk:blk (N1.μ j)=some bb:=by rw[g1];rfl
  have hjl:j<os1.length:=vQ (by grind);have fg:FG N1.fz N1.h N1.fz (N1.h.put bb (.map es')):=⟨fun _ _ h _=>h,fun b2 z hf2 hz=>by grind[yN]⟩
  obtain⟨i1,i2,i3⟩:=S1.inv.put (by rw[ho];trivial) hbk (.map es') (.mp st ys)
   ⟨bb,es',g1,g2,xh _ _ _,q2.1,fun i e x he hx=>⟨(q2.2 i e x he hx).1.mono fg,(q2.2 i e x he hx).2.mono fg⟩⟩
  have S2:Stp E lk N1 os1 [j] ⟨N1.μ,N1.n,N1.fz,N1.h.put bb (.map es')⟩ _:=⟨i1,i2,Bk.put rfl (by rw[S1.inv.len];exact hjl) hlv hbk,fun j' hj'=>by rw[zF,Yza (fun e=>by grind)],.oset (fun _=>by rw[ho];trivial) (fun _=>.inl trivial) (fun _=>by omega)⟩
  refine⟨_,_,_,_,e,⟨(zn,N.h.put bb (.map es')),⟨_,by rw[<-f1.h],(S1.trans S2 f1.n).sim (.bad _)⟩,0,fun n _=>?_⟩⟩;show runK r (.mupd q a b c) (C n) N.h=_;simp only[runK,ka,kb,kc,zH];rw[<-hmu,g1];rw[f1.h]at g3;show (bif (eqS q w w).isNone then none else match N.h.t.get bb with
   |some (.map es)=>match zcS q w u es with|some es'=>some (zn,N.h.put bb (.map es'))|none=>none
   |_=>none)=_
  grind
 |_=>grind
end
end Go.PE
end
section
namespace Go.PE
open Go Go.CE
section
variable {β:Type} {C:Nat->zh} {E:En} {lk:Nat->Bool} {N:Nm} {os:List PO} {r:Fr} {ρ:Nat->PA} {k:KT β} {x:β}
theorem zqT:∀(l:List (BN×Nat)),zqU .nil (cL (l.map fun(p:BN×Nat)=>Zb.s (.one (.ptr p.1 p.2))))=some l
 | []=>rfl
 |p::l=>by show (match (zu (.s (.one (.ptr p.1 p.2))):Opd) .nil with | .s (.one (.ptr b off))=>wv (b,off) (zqU .nil (cL (l.map fun(p:BN×Nat)=>Zb.s (.one (.ptr p.1 p.2)))))|_=>none)=_;simp only[zu,zqT l,wv]
theorem zjd(F:∀i,RepPA N (r i) (ρ i)):∀{xs:List Operand} {l:List (Nat⊕List DV)},zs0 ρ xs=some l->∃ps:List (BN×Nat),kvs r xs=some (ps.map fun(p:BN×Nat)=>Zb.s (.one (.ptr p.1 p.2)))/\RepCaps N ps l
 | [],l,e=>by cases e;exact⟨[],rfl,trivial⟩
 |a::xs,l,e=>by
  simp only[zs0]at e;split at e
  .rename_i j l' h1 h2;cases e;obtain⟨v,ka,ra⟩:=wM F h1;obtain⟨ps,k1,k2⟩:=zjd F h2;obtain⟨w,rfl,hj,b,hb,rfl⟩:=yc ra;exact⟨(b,0)::ps,by grind[kvs],⟨hj,hb,rfl⟩,k2⟩
  .rename_i y l' h1 h2;cases e;obtain⟨v,ka,ra⟩:=wM F h1;obtain⟨ps,k1,k2⟩:=zjd F h2;obtain⟨w,rfl,hw⟩:=wU ra;have hw':=hw;obtain⟨b,o,base,cs,rfl,_⟩:=hw.fp_inv;exact⟨(b,base+0)::ps,by grind[kvs],hw',k2⟩
  cases e
theorem zv1(I:Zd E N os)(F:∀i,RepPA N (r i) (ρ i)){f:Nat}{caps:List Operand} (e:za (zs0 ρ caps) (fun l=>
  match l with
  | []=>k (pd (.fn f [])) os [] []
  |x::l=>k (pc (.clo f (x::l))) os [] [])=some x):GoalQ N os r ρ (.mkfn f caps) k x:=by
 have hh:=zj e;clear e;obtain⟨l,hl,e⟩:=hh;obtain⟨ps,k1,k2⟩:=zjd F hl;have run:∀call,runK r (.mkfn f caps) call N.h=some (.s (.one (.fn f ps)),N.h):=fun call=>by simp only[runK,k1];show (match zqU .nil (cL (ps.map fun(p:BN×Nat)=>Zb.s (.one (.ptr p.1 p.2)))) with|some l=>some (Zb.s (.one (.fn f l)),N.h)|none=>none)=_;rw[zqT]
 cases l with
 |nil=>
  cases ps with
  |nil=>exact .quiet I run (uO (.fn_mk (.nil _ _))) e
  |cons p ps=>trivial
 |cons a l=>exact .quiet I run (yY (p:=.clo f (a::l)) ⟨ps,rfl,k2⟩) e
theorem znu{fz:BN->Prop}{h:Za}:∀{xs:List (List DV)} {cs:List Zc} {ns:List Int},zo9 xs=some ns->cs.length=xs.length->(∀(i:Nat) (x:List DV),xs[i]? = some x->RepL fz h ((cs.drop i).take 1) x)->zel cs=some ns
 | [],cs,ns,e,hl,_=>by cases e;rw[List.length_eq_zero_iff.1 hl];rfl
 |x::xs,cs,ns,e,hl,H=>by
  unfold zo9 at e;split at e
  .trivial
  .rename_i n cs' h;cases h;rcases hn:zo9 xs with _|l
   .grind
   rw[hn]at e;cases e;cases cs with
   |nil=>simp at hl
   |cons c cs=>
    have h0:=H 0 _ rfl;simp only[List.drop_zero,List.take_succ_cons,List.take_zero]at h0;have:=(h0.inv.1).scal rfl;subst this;have ih:=znu hn (by simpa using hl) (fun i y hy=>by have:=H (i+1) y (by trivial);trivial)
    grind[wv,zel]
  cases e
theorem zwn{fz:BN->Prop}{h:Za}{w:Zc}{v z:DV}(H:Rep fz h w v)(e:zra v=some z):∃c,zcX (zu (.s (.one w))) yw .nil h=some (.s (.one c),h)/\z.scal=some c:=by
 unfold zra at e;split at e
 .cases e;rw[H.scal rfl];exact⟨_,rfl,rfl⟩
 .rename_i xs;rcases hn:zo9 xs with _|ns
  .grind
  rw[hn]at e;cases e;obtain⟨b,o,off,cap,ex,cs,rfl,h1,h2,h3,h4,h5⟩:=H.lst_inv;have hns:=znu (cs:=cs) hn (by grind[zeg]) fun i x hx=>by
   have:=(h5 i x hx).2
   rwa [Nat.mul_one]at this
  refine⟨_,?_,rfl⟩;rw[Nat.mul_one]at h4;show (match h.t.get b with
   |some (.cells cs _)=>zeM h (cut xs.length cs off)
   |some (.ro _ f)=>zeM h (zgf f xs.length off)
   |some (.tcells cs _ _)=>zeM h (cut xs.length cs off)
   |some .void=>zeM h (bif Nat.beq xs.length 0 then some [] else none)
   |_=>none)=_
  rw[h2];cases o with
  |cells l st=>show zeM h (cut xs.length l off)=_;rw[show cut xs.length l off=some cs from h4];grind[zeM]
  |ro y f=>show zeM h (zgf f xs.length off)=_;rw[show zgf f xs.length off=some cs from h4];grind[zeM]
  |void=>show zeM h (bif Nat.beq xs.length 0 then some [] else none)=_;rw[show (bif Nat.beq xs.length 0 then some [] else none)=some cs from h4];grind[zeM]
  |_=>cases h4
 cases e
theorem zAH(I:Zd E N os)(F:∀i,RepPA N (r i) (ρ i)){a:Operand} (e:w1 (pv ρ a) (fun c=>
  match c with
  | .d v=>za (zra v) fun z=>k (pd z) os [] []
  | .own j=>
   match og os j with
   | .arr st v=>za (zra (mkL st v)) fun z=>k (pd z) os [] [j]
   |_=>none
  |_=>none)=some x):GoalQ N os r ρ (.b2s a) k x:=by
 have hh:=j8 F e;clear e;obtain⟨c,v,e,ka,ra,pka⟩:=hh;cases c<;>first|cases e|skip
 .rename_i d;simp only at e;have hh:=zj e;clear e;obtain⟨z,hz,e⟩:=hh;obtain⟨w,rfl,hw⟩:=wU ra;obtain⟨c,h1,h2⟩:=zwn hw hz;refine .quiet I (fun call=>by grind[runK,zH]) (yS h2) e (hm:=fun xo hx=>?_);cases hx;refine⟨_,ka,?_⟩;cases hw with
  |lst cs g1 g2=>
   refine .inr ⟨_,rfl,.inr ⟨rfl,fun N' H=>?_⟩⟩;obtain⟨w',hw',hr'⟩:=wU (H _ _ ka pka);cases hw';obtain⟨b2,o2,off2,cap2,ex2,cs2,q1,q2,q3,_⟩:=hr'.lst_inv
   grind
  |nils=>exact .inl rfl
  |_=>cases hz
 rename_i j;simp only at e;obtain⟨c,rfl,hj,hc⟩:=yc ra;cases ho:og os j with
 |arr st vo=>
  rw[ho]at e;simp only at e;have hh:=zj e;clear e;obtain⟨z,hz,e⟩:=hh;have hO:=I.obj j;rw[ho]at hO;have:=zmG (fz':=fun _=>True) ⟨fun _ _ _ _=>trivial,fun _ _ _ h=>h⟩ hO (fun _ _ _=>trivial);obtain⟨c',h1,h2⟩:=zwn this hz;refine .quiet I (fun call=>by grind[runK,zH]) (yS h2) e (hm:=fun xo hx=>?_);cases hx;refine⟨_,ka,?_⟩;rcases vo with _|xs
  .exact .inl (by rw[hc,show N.μ j=.nils from hO];rfl)
  obtain⟨b,vs,ex,q1,_⟩:=hO;exact .inr ⟨b,by rw[hc,q1];rfl,.inl ⟨j,rfl,hj,by rw[q1];rfl,by rw[ho];trivial,fun N' H=>(yc (H _ _ ka pka)).elim fun _ q=>q.2.1⟩⟩
 |_=>grind
theorem zs7{t:Tr Zb}{x:Option DV}{o:Option Zb}{d y y' i:Nat}(hx:∀v,x=some v->∃w,o=some w/\RepPA N w (pd v))(hn:x=none->o=none)(e:zcD x d y=some i)(hy:y<=y'):bnd t (cO o) d y'=some i:=by
 refine vt hx hn ?_;rcases x with _|v
 .exact e
 cases v<;>first|cases e|skip
 rename_i kk n;cases n with
 |negSucc n=>cases e
 |ofNat n=>grind[zcD,Lz4,Yzg]
theorem zaI{x:Option DV}{d y i:Nat}(e:zcD x d y=some i)(hd:d<=y):i<=y:=by
 rcases x with _|v
 .cases e;exact hd
 cases v<;>first|cases e|skip
 rename_i kk n;cases n with
 |negSucc n=>cases e
 |ofNat n=>simp only[zcD]at e;cases hb:Nat.ble n y<;>simp_all
theorem zvn{l y n:Nat}(h:(Nat.beq l 0 || !Nat.beq l y)=true)(h1:l<=y)(h2:y<=n):(Nat.beq l 0 || !Nat.beq l n)=true:=by
 cases h0:Nat.beq l 0
 case true=>rfl
 rw[h0]at h;simp only[Yz8,Yzy]at h ⊢;rw[Bool.eq_false_iff]at h ⊢;intro e;have:=Lz1 e
 grind
theorem zng{st off l y cap':Nat}{ex':Bool}{b:BN}{o:Zg}{xs:List (List DV)}{cs:List Zc}(g1:N.fz b)(g2:N.h.t.get b=some o)(g4:rd (xs.length*st) off o=some cs)(g5:∀(i:Nat) (x:List DV),xs[i]? = some x->x.length=st/\RepL N.fz N.h ((cs.drop (i*st)).take st) x)(hly:l<=y)(hy:y<=xs.length)(hcap:ex'=true->y-l<=cap'):
  Rep N.fz N.h (.slc b (off+l*st) (y-l) cap' ex') (.lst st ((xs.drop l).take (y-l))):=by
 have hlen:((xs.drop l).take (y-l)).length=y-l:=by simp;omega
 have ml:l*st<=y*st:=Yzk st hly;have my:y*st<=xs.length*st:=Yzk st hy;have:=Rep.lst_mk (off:=off+l*st) (cap:=cap') (ex:=ex') (xs:=(xs.drop l).take (y-l)) (cs:=(cs.drop (l*st)).take ((y-l)*st)) g1 g2 (by grind)
  (by rw[hlen];exact zef g4 (by grind[Nat.mul_sub_right_distrib])) (fun i z hz=>by
   rw[YzB]at hz;split at hz
   .rename_i hi;rw[Yzu]at hz;obtain⟨q1,q2⟩:=g5 _ _ hz;refine⟨q1,?_⟩;have e1:List.take st (List.drop (i*st) (List.take ((y-l)*st) (List.drop (l*st) cs)))=List.take st (List.drop ((l+i)*st) cs):=by
     have:=Yzk st (show i+1<=y-l from hi)
     grind[List.drop_take,YzL,Yyd]
    grind
   cases hz)
 grind
theorem bndD_d{v:DV}{d d' y:Nat}:zcD (some v) d y=zcD (some v) d' y:=by
 cases v with
 |int k n=>cases n<;>rfl
 |_=>rfl
theorem un{st off n cap p1 p2:Nat}{ex:Bool}{b:BN}{hi mx:DV}{lo:Option DV}{ol oh om:Option Zb}(hcap:ex=true->n<=cap)(l1:∀v,lo=some v->∃w,ol=some w/\RepPA N w (pd v))(l2:lo=none->ol=none)(h1:∀v,some hi=some v->∃w,oh=some w/\RepPA N w (pd v))(m1:∀v,some mx=some v->∃w,om=some w/\RepPA N w (pd v))
  (e:zwB lo hi mx n=some (p1,p2)) (h:Za):p1+p2<=n/\0<p2/\∃cap',vV st (.s (.one (.slc b off n cap ex))) ol oh om h=some (.s (.one (.slc b (off+p1*st) p2 cap' true)),h)/\p2<=cap':=by
 unfold zwB at e;rcases hm:zcD (some mx) 0 n with _|m
 .grind
 rw[hm]at e;simp only at e;rcases hh:zcD (some hi) 0 m with _|y
 .grind
 rw[hh]at e;simp only at e;rcases hl:zcD lo 0 y with _|l
 .grind
 rw[hl]at e;simp only at e;cases hc:Nat.beq l y
 case true=>grind
 rw[hc]at e;cases e;have hmx:=zaI hm (Yzs _);have hy:=zaI hh (Yzs _);have hly:=zaI hl (Yzs _);have hne:p1≠y:=fun h=>by simp_all
 have hq:Nat.beq m p1=false:=by
  rw[Bool.eq_false_iff]
  grind[Lz1]
 have h2:some hi=none->oh=none:=fun h=>by cases h
 have m2:some mx=none->om=none:=fun h=>by cases h
 refine⟨by omega,by omega,m-p1,?_,by omega⟩;cases ex
 .obtain⟨wm,rfl,_⟩:=m1 mx rfl;obtain⟨wh,rfl,_⟩:=h1 hi rfl;have k1:=vt (t:=.nil) m1 m2 hm;have k2:=vt (t:=.nil) h1 h2 hh;have k3:=vt (t:=.nil) l1 l2 hl;show xj st (cO ol) (some (zu wh)) (some (zu wm)) .nil h b off n cap=_;unfold xj;have k1:bnd .nil (some (zu wm)) 0 n=some m:=k1;have k2:bnd .nil (some (zu wh)) 0 m=some y:=k2
  grind
 show xw st (cO ol) (cO oh) (cO om) .nil h b off n cap=_;unfold xw;rw[zs7 (d:=cap) m1 m2 (y:=n) (bndD_d.trans hm) (hcap rfl)];simp only;rw[vt (d:=n) h1 h2 (bndD_d.trans hh)];simp only;rw[vt l1 l2 hl];simp_all[Yzg]
theorem zqo{st:Nat}{w:Zc}{v z hi mx:DV}{lo:Option DV}{ol oh om:Option Zb}(H:Rep N.fz N.h w v)(l1:∀v,lo=some v->∃w,ol=some w/\RepPA N w (pd v))(l2:lo=none->ol=none)(h1:∀v,some hi=some v->∃w,oh=some w/\RepPA N w (pd v))(m1:∀v,some mx=some v->∃w,om=some w/\RepPA N w (pd v))
  (e:zfp st v lo hi mx=some z):∃c,vV st (.s (.one w)) ol oh om N.h=some (.s (.one c),N.h)/\Rep N.fz N.h c z:=by
 unfold zfp at e;split at e
 .rename_i st' xs;cases hs:Nat.beq st st'
  .grind
  rw[hs]at e;have:=Lz1 hs;subst this;simp only[Yzb]at e;rcases hv:zwB lo hi mx xs.length with _|p
  .grind
  obtain⟨p1,p2⟩:=p;rw[hv]at e;cases e;obtain⟨b,o,off,cap,ex,cs,rfl,g1,g2,g3,g4,g5⟩:=H.lst_inv;obtain⟨q0,_,cap',q1,q2⟩:=un (st:=st) (off:=off) (b:=b) g3 l1 l2 h1 m1 hv N.h
  grind[zng,Nat.add_sub_cancel_left]
 cases e
theorem ztT{st:Nat}{w:Zc}{v z:DV}{lo hi:Option DV}{ol oh:Option Zb}(H:Rep N.fz N.h w v)(l1:∀v,lo=some v->∃w,ol=some w/\RepPA N w (pd v))(l2:lo=none->ol=none)(h1:∀v,hi=some v->∃w,oh=some w/\RepPA N w (pd v))(h2:hi=none->oh=none)
  (e:za0 st v lo hi=some z):∃c,vV st (.s (.one w)) ol oh none N.h=some (.s (.one c),N.h)/\Rep N.fz N.h c z:=by
 unfold za0 at e;split at e
 .split at e
  .rename_i a b ha hb;cases e;rw[H.scal rfl];refine⟨.nils,?_,.nils⟩;show we (cO ol) (cO oh) (cO none) .nil N.h=_;unfold we;rw[vt h1 h2 ha,vt l1 l2 hb];rfl
  cases e
 .rename_i st' xs;cases hs:Nat.beq st st'
  .grind
  rw[hs]at e;have:=Lz1 hs;subst this;simp only[Yzb]at e;rcases hh:zcD hi xs.length xs.length with _|y
  .grind
  rw[hh]at e;simp only at e;rcases hl:zcD lo 0 y with _|l
  .grind
  rw[hl]at e;simp only at e;cases hc:(Nat.beq l 0 || !Nat.beq l xs.length)
  .grind
  rw[hc]at e;cases e;obtain⟨b,o,off,cap,ex,cs,rfl,g1,g2,g3,g4,g5⟩:=H.lst_inv;have hy:=zaI hh (LzB _);have hly:=zaI hl (Yzs _);have rep:∀(cap':Nat) (ex':Bool),(ex'=true->y-l<=cap')->Rep N.fz N.h (.slc b (off+l*st) (y-l) cap' ex') (.lst st ((xs.drop l).take (y-l))):=fun cap' ex' hcap=>zng g1 g2 g4 g5 hly hy hcap;cases ex
  .have run:vV st (.s (.one (.slc b off xs.length cap false))) ol oh none N.h=some (.s (.one (.slc b (off+l*st) (y-l) (cap+l) false)),N.h):=by
    show xj st (cO ol) (cO oh) (cO none) .nil N.h b off xs.length cap=_;unfold xj;show (match bnd .nil (cO oh) xs.length xs.length with
     |some hh=>match bnd .nil (cO ol) 0 hh with
      |some l=>bif Nat.beq l 0 || !Nat.beq l xs.length then some (Zb.s (.one (.slc b (off+l*st) (hh-l) (cap+l) false)),N.h) else none
      |none=>none
     |none=>none)=_
    rw[vt h1 h2 hh];simp only;rw[vt l1 l2 hl]
    grind
   grind
  have hcap:=g3 rfl;have run:vV st (.s (.one (.slc b off xs.length cap true))) ol oh none N.h=some (.s (.one (.slc b (bif Nat.beq cap l then off else off+l*st) (y-l) (cap-l) true)),N.h):=by
   show xw st (cO ol) (cO oh) (cO none) .nil N.h b off xs.length cap=_;unfold xw;have hm:bnd .nil (cO none) cap cap=some cap:=(id rfl);rw[hm];simp only;rw[zs7 h1 h2 hh hcap];simp only;rw[vt l1 l2 hl]
   grind[Yzg]
  grind[Lz1]
 cases e
theorem zh4(zs:List Zc):∀n,(jD zs n).length=n*zs.length
 |0=>by simp[jD]
 |n+1=>by rw[jD,Yzx,zh4 zs n,Yz5,Nat.add_comm]
theorem zh5(zs:List Zc):∀(n i:Nat),i<n->((jD zs n).drop (i*zs.length)).take zs.length=zs
 |0,i,h=>by omega
 |n+1,0,_=>by simp[jD]
 |n+1,i+1,h=>by rw[jD,Yz5,Nat.add_comm,<-YzL];rw[List.drop_left];exact zh5 zs n i (by omega)
theorem zgO{st off len cap l n:Nat}{ex:Bool}{b:BN}{lo hi:Option DV}{ol oh:Option Zb}(hex:ex=true->len<=cap)(l1:∀v,lo=some v->∃w,ol=some w/\RepPA N w (pd v))(l2:lo=none->ol=none)(h1:∀v,hi=some v->∃w,oh=some w/\RepPA N w (pd v))(h2:hi=none->oh=none)
  (e:vwB lo hi len=some (l,n)) (h:Za):l+n<=len/\∃cap' ex',vV st (.s (.one (.slc b off len cap ex))) ol oh none h=some (.s (.one (.slc b (off+l*st) n cap' ex')),h)/\(ex'=true->n<=cap'):=by
 unfold vwB at e;rcases hh:zcD hi len len with _|y
 .grind
 rw[hh]at e;simp only at e;rcases hl:zcD lo 0 y with _|l0
 .grind
 rw[hl]at e;simp only at e;cases hc:(Nat.beq l0 0 || !Nat.beq l0 y)
 .grind
 rw[hc]at e;cases e;have hy:=zaI hh (LzB _);have hly:=zaI hl (Yzs _);refine⟨by omega,?_⟩;cases ex
 .refine⟨cap+l,false,?_,fun h=>by cases h⟩;show xj st (cO ol) (cO oh) (cO none) .nil h b off len cap=_;unfold xj;show (match bnd .nil (cO oh) len len with
   |some hh=>match bnd .nil (cO ol) 0 hh with
    |some l=>bif Nat.beq l 0 || !Nat.beq l len then some (Zb.s (.one (.slc b (off+l*st) (hh-l) (cap+l) false)),h) else none
    |none=>none
   |none=>none)=_
  rw[vt h1 h2 hh];simp only;rw[vt l1 l2 hl];simp only[zvn hc hly hy,Yzb]
 have hcap:=hex rfl;have run:vV st (.s (.one (.slc b off len cap true))) ol oh none h=some (.s (.one (.slc b (bif Nat.beq cap l then off else off+l*st) (y-l) (cap-l) true)),h):=by
  show xw st (cO ol) (cO oh) (cO none) .nil h b off len cap=_;unfold xw;have hm:bnd .nil (cO none) cap cap=some cap:=(id rfl);rw[hm];simp only;rw[zs7 h1 h2 hh hcap];simp only;rw[vt l1 l2 hl]
  grind[Yzg]
 refine⟨cap-l,true,run.trans ?_,fun _=>by omega⟩
 grind[Lz1]
theorem zgP{st l n:Nat}{lo hi:Option DV}{ol oh:Option Zb}(l1:∀v,lo=some v->∃w,ol=some w/\RepPA N w (pd v))(l2:lo=none->ol=none)(h1:∀v,hi=some v->∃w,oh=some w/\RepPA N w (pd v))(h2:hi=none->oh=none)
  (e:vwB lo hi 0=some (l,n)) (h:Za):l=0/\n=0/\vV st (.s (.one .nils)) ol oh none h=some (.s (.one .nils),h):=by
 unfold vwB at e;rcases hh:zcD hi 0 0 with _|y
 .grind
 have hy:=zaI hh (LzB _);obtain rfl:y=0:=by omega
 rw[hh]at e;simp only at e;rcases hl:zcD lo 0 0 with _|l0
 .grind
 have hy:=zaI hl (LzB _);obtain rfl:l0=0:=by omega
 rw[hl]at e;cases e;refine⟨rfl,rfl,?_⟩;show we (cO ol) (cO oh) (cO none) .nil h=_;unfold we;rw[vt h1 h2 hh,vt l1 l2 hl];rfl
theorem zrh(I:Zd E N os)(F:∀i,RepPA N (r i) (ρ i)){st:Nat}{a:Operand}{lo hi mx:Option Operand} (e:(match mx with
  |none=>w1 (pv ρ a) fun c=>za (pvo ρ lo) fun lo=>za (pvo ρ hi) fun hi=>zid os st c lo hi k
  |some m=>w1 (pv ρ a) fun c=>za (pvo ρ lo) fun lo=>za (pvo ρ hi) fun hi=>za (pvo ρ (some m)) fun mx=>zlw os st c lo hi mx k)=some x):GoalQ N os r ρ (.slice st a lo hi mx) k x:=by
 rcases mx with _|m
 .simp only at e;have hh:=j8 F e;clear e;obtain⟨c,v,e,ka,ra,pka⟩:=hh;have hq:=zj e;clear e;obtain⟨l,hl,e⟩:=hq;have hq:=zj e;clear e;obtain⟨h,hh,e⟩:=hq;obtain⟨ol,kl,l1,l2⟩:=zfi F hl;obtain⟨oh,kh,h1,h2⟩:=zfi F hh;have run:∀call,runK r (.slice st a lo hi none) call N.h=vV st v ol oh none N.h:=fun call=>by
   show zH (kv r a) (fun x=>match kvo r lo,kvo r hi,(some none:Option (Option Zb)) with|some lo,some hi,some mx=>vV st x lo hi mx N.h|_,_,_=>none)=_;rw[ka,kl,kh];rfl
  have data:∀(w:Zc) (d:DV),v=.s (.one w)->Rep N.fz N.h w d->za (za0 st d l h) (fun z=>k (pd z) os [] [])=some x->GoalQ N os r ρ (.slice st a lo hi none) k x:=by intro w d hv hw e;have hq:=zj e;clear e;obtain⟨z,hz,e⟩:=hq;obtain⟨c',q1,q2⟩:=ztT hw l1 l2 h1 h2 hz;exact .quiet I (v:=.s (.one c')) (fun call=>by grind) (uO q2) e
  cases c with
  |d d=>obtain⟨w,hv,hw⟩:=wU ra;exact data w d hv hw e
  |own j=>
   obtain⟨w,hv,hj,hw⟩:=yc ra;simp only[zid]at e;cases ho:og os j with
   |frz d=>rw[ho]at e;have hO:=I.obj j;rw[ho]at hO;exact data w d hv (by rw[hw];exact hO) e
   |arr st' vo=>
    rw[ho]at e;simp only at e;cases hs:Nat.beq st st'
    .grind
    rw[hs]at e;have:=Lz1 hs;subst this;simp only[Yzb]at e;have hq:=zj e;clear e;obtain⟨⟨p1,p2⟩,hp,e⟩:=hq;rcases vo with _|xs
    .have hO:=I.obj j;rw[ho]at hO;have hO:N.μ j=.nils:=hO;obtain⟨rfl,rfl,q⟩:=zgP (st:=st) l1 l2 h1 h2 hp N.h;exact .quiet I (v:=.s (.one .nils)) (fun call=>by grind) (yY (p:=.vw j st 0 0) ⟨hj,.inl ⟨hO,rfl,rfl,rfl⟩⟩) e
    obtain⟨b,vs,ex,g1,_⟩:=zcE I ho;obtain⟨q0,cap',ex',q1,q2⟩:=zgO (st:=st) (off:=0) (b:=b) (cap:=bif ex then xs.length else 0) (ex:=ex) (fun h=>by rw[h];exact LzB _) l1 l2 h1 h2 hp N.h;refine .quiet I (v:=.s (.one (.slc b (p1*st) p2 cap' ex'))) (fun call=>?_) (yY (p:=.vw j st p1 p2) ⟨hj,.inr ⟨b,_,_,_,cap',ex',g1,rfl,q0,q2⟩⟩) e;rw[run,hv,hw,g1];rw[Yzi]at q1;exact q1
   |_=>grind
  |vw j st' lo2 n2=>
   obtain⟨w,hv,hj,hw⟩:=yc ra;simp only[zid]at e;cases hs:Nat.beq st st'
   .grind
   rw[hs]at e;have:=Lz1 hs;subst this;simp only[Yzb]at e;have hq:=zj e;clear e;obtain⟨⟨p1,p2⟩,hp,e⟩:=hq;rcases hw with⟨g1,rfl,rfl,rfl⟩|⟨b,l0,cap,ex,cap',ex',g1,rfl,g2,g3⟩
   .obtain⟨rfl,rfl,q⟩:=zgP (st:=st) l1 l2 h1 h2 hp N.h;exact .quiet I (v:=.s (.one .nils)) (fun call=>by grind) (yY (p:=.vw j st (0+0) 0) ⟨hj,.inl ⟨g1,rfl,rfl,rfl⟩⟩) e
   obtain⟨q0,cap2,ex2,q1,q2⟩:=zgO (st:=st) (off:=lo2*st) (b:=b) (cap:=cap') (ex:=ex') g3 l1 l2 h1 h2 hp N.h;refine .quiet I (v:=.s (.one (.slc b ((lo2+p1)*st) p2 cap2 ex2))) (fun call=>?_) (yY (p:=.vw j st (lo2+p1) p2) ⟨hj,.inr ⟨b,_,_,_,cap2,ex2,g1,rfl,by omega,q2⟩⟩) e
   grind
  |_=>cases e
 simp only at e;have hh:=j8 F e;clear e;obtain⟨c,v,e,ka,ra,pka⟩:=hh;have hq:=zj e;clear e;obtain⟨l,hl,e⟩:=hq;have hq:=zj e;clear e;obtain⟨h,hh,e⟩:=hq;have hq:=zj e;clear e;obtain⟨m',hm,e⟩:=hq;obtain⟨ol,kl,l1,l2⟩:=zfi F hl;obtain⟨oh,kh,h1,h2⟩:=zfi F hh;obtain⟨om,km,m1,m2⟩:=zfi F hm;have run:∀call,runK r (.slice st a lo hi (some m)) call N.h=vV st v ol oh om N.h:=fun call=>by show zH (kv r a) (fun x=>match kvo r lo,kvo r hi,kvo r (some m) with|some lo,some hi,some mx=>vV st x lo hi mx N.h|_,_,_=>none)=_;rw[ka,kl,kh,km];rfl
 unfold zlw at e;rcases h with _|hv
 .cases e
 rcases m' with _|mv
 .cases e
 simp only at e;have data:∀(w:Zc) (d:DV),v=.s (.one w)->Rep N.fz N.h w d->za (zfp st d l hv mv) (fun z=>k (pd z) os [] [])=some x->GoalQ N os r ρ (.slice st a lo hi (some m)) k x:=by intro w d hw0 hw e;have hq:=zj e;clear e;obtain⟨z,hz,e⟩:=hq;obtain⟨c',q1,q2⟩:=zqo hw l1 l2 h1 m1 hz;exact .quiet I (v:=.s (.one c')) (fun call=>by grind) (uO q2) e
 cases c with
 |d d=>grind[wU]
 |own j=>
  obtain⟨w,hv',hj,hw⟩:=yc ra;simp only at e;cases ho:og os j with
  |frz d=>rw[ho]at e;have hO:=I.obj j;rw[ho]at hO;exact data w d hv' (by rw[hw];exact hO) e
  |arr st' vo=>
   rw[ho]at e;simp only at e;cases hs:Nat.beq st st'
   .grind
   rw[hs]at e;have:=Lz1 hs;subst this;simp only[Yzb]at e;have hq:=zj e;clear e;obtain⟨⟨p1,p2⟩,hp,e⟩:=hq;rcases vo with _|xs
   .exfalso;obtain⟨q0,q,_⟩:=un (N:=N) (st:=0) (off:=0) (cap:=0) (b:=.z) (ex:=false) (fun h=>by cases h) l1 l2 h1 m1 (show zwB l hv mv 0=some (p1,p2) from hp) N.h;omega
   obtain⟨b,vs,ex,g1,_⟩:=zcE I ho;obtain⟨q0,_,cap',q1,q2⟩:=un (st:=st) (off:=0) (b:=b) (cap:=bif ex then xs.length else 0) (ex:=ex) (fun h=>by rw[h];exact LzB _) l1 l2 h1 m1 hp N.h;refine .quiet I (v:=.s (.one (.slc b (p1*st) p2 cap' true))) (fun call=>?_) (yY (p:=.vw j st p1 p2) ⟨hj,.inr ⟨b,_,_,_,cap',true,g1,rfl,q0,fun _=>q2⟩⟩) e;rw[run,hv',hw,g1];rw[Yzi]at q1;exact q1
  |_=>grind
 |vw j st' lo2 n2=>
  obtain⟨w,hv',hj,hw⟩:=yc ra;simp only at e;cases hs:Nat.beq st st'
  .grind
  rw[hs]at e;have:=Lz1 hs;subst this;simp only[Yzb]at e;have hq:=zj e;clear e;obtain⟨⟨p1,p2⟩,hp,e⟩:=hq;rcases hw with⟨g1,rfl,rfl,rfl⟩|⟨b,l0,cap,ex,cap',ex',g1,rfl,g2,g3⟩
  .exfalso;obtain⟨q0,q,_⟩:=un (N:=N) (st:=0) (off:=0) (cap:=0) (b:=.z) (ex:=false) (fun h=>by cases h) l1 l2 h1 m1 hp N.h;omega
  obtain⟨q0,_,cap2,q1,q2⟩:=un (st:=st) (off:=lo2*st) (b:=b) (cap:=cap') (ex:=ex') g3 l1 l2 h1 m1 hp N.h;refine .quiet I (v:=.s (.one (.slc b ((lo2+p1)*st) p2 cap2 true))) (fun call=>?_) (yY (p:=.vw j st (lo2+p1) p2) ⟨hj,.inr ⟨b,_,_,_,cap2,true,g1,rfl,by omega,fun _=>q2⟩⟩) e
  grind
 |_=>cases e
theorem zxv(I:Zd E N os)(F:∀i,RepPA N (r i) (ρ i)){st:Nat}{zs:List Zc}{a:Operand}(e:w1 (pv ρ a) (fun c=>zq8 lk os st zs c k)=some x):Goal C E lk N os r (.clear st zs a) k x:=by
 have hh:=j8 F e;clear e;obtain⟨c,v,e,ka,ra,pka⟩:=hh;cases c<;>first|cases e|skip
 rename_i j st' lo len;simp only[zq8]at e;obtain⟨w,rfl,hj,hw⟩:=yc ra;cases ho:og os j with
 |arr st'' vo=>
  rw[ho]at e;simp only at e;cases hlj:lk j
  case true=>grind
  rw[hlj]at e;simp only[Yzd]at e;cases hs:(Nat.beq st st'&&Nat.beq st st''&&Nat.beq zs.length st)
  .grind
  rw[hs]at e;simp only[Yzb]at e;rw[LzC,LzC]at hs;have t1:=Lz1 hs.1.1;have t2:=Lz1 hs.1.2;have t3:=Lz1 hs.2;subst t1 t2;have hh:=zj e;clear e;obtain⟨ps,hp,e⟩:=hh;have hh:=zj e;clear e;obtain⟨ds,hd,e⟩:=hh;have hz:RepL N.fz N.h zs ds:=zd8 hd (zds (N:=N) hp);have run:∀call,runK r (.clear st zs a) call N.h=zvI st zs (.s (.one w)) N.h:=fun call=>by grind[runK,zH]
  have hjl:j<os.length:=vQ (by grind);rcases vo with _|xs
  .have hO:=I.obj j;rw[ho]at hO;have hO:N.μ j=.nils:=hO;rcases hw with⟨g1,rfl,rfl,rfl⟩|⟨b,l0,cap,ex,cap',ex',g1,rfl,g2,g3⟩
   .refine⟨_,_,_,_,e,⟨(zn,N.h),⟨N,rfl,⟨I.turn j _ (fun h=>h) hO (by grind),.refl N,⟨LzB _,fun _ _ _=>rfl⟩,fun j' hj'=>?_,.oset (fun h=>h.elim) (fun h=>by simp) (fun h=>h.elim),.bad _⟩⟩,0,fun n _=>?_⟩⟩
    .rw[zF,Yza (fun e=>by grind)]
    exact run (C n)
   grind
  obtain⟨b',vs,ex2,k1,k2,k3,k4,k5⟩:=zcE I ho;rcases hw with⟨g1,rfl,rfl,rfl⟩|⟨b,l0,cap,ex,cap',ex',g1,rfl,g2,g3⟩
  .grind
  rw[g1]at k1;cases k1;by_cases hl:len=0
  .subst hl;have hs:oset (.arr st (zCC (some xs) lo 0 ds)) os j=os:=by
    have:PO.arr st (zCC (some xs) lo 0 ds)=og os j:=by simp_all[zCC]
    grind[zfs]
   rw[hs]at e;refine⟨_,_,_,_,e,⟨(zn,N.h),⟨N,rfl,⟨I,.refl N,.same rfl,fun _ _=>rfl,.refl _ _ _,.bad _⟩⟩,0,fun n _=>?_⟩⟩;exact run (C n)
  have hlv:live (og os j):=by rw[ho];trivial
  have hbk:blk (N.μ j)=some b':=by rw[g1];rfl
  have rl:(jD zs len).length=len*st:=by rw[zh4,t3]
  have m1:(lo+len)*st<=xs.length*st:=Yzk st g2;rw[Yyd]at m1
  let X:=vs.take (lo*st)++jD zs len++vs.drop (lo*st+(jD zs len).length)
  have hX:X.length=xs.length*st:=by grind
  have hn:(xs.take lo++List.replicate len ds++xs.drop (lo+len)).length=xs.length:=by simp;omega
  have fg:FG N.fz N.h N.fz (N.h.put b' (.cells X st)):=⟨fun _ _ h _=>h,fun b2 z hf2 hz=>by grind[yN]⟩
  obtain⟨i1,i2,i3⟩:=I.put (by rw[ho];trivial) hbk (.cells X st) (.arr st (some (xs.take lo++List.replicate len ds++xs.drop (lo+len))))
   ⟨b', X, _, by rw [hn]; exact g1, k2, xh _ _ _, by grind, fun t z hzt => by
    have ht:t<xs.length:=by grind
    have mt:=Yzk st (show t+1<=xs.length from ht);rw[Yz5]at mt;by_cases c1:t<lo
    .rw[YzD,Lz2 (by simp;omega),YzB,Yzc c1]at hzt;obtain⟨q1,q2⟩:=k5 t z hzt;refine⟨q1,?_⟩;have mt2:=Yzk st (show t+1<=lo from c1);rw[Yz5]at mt2;show RepL _ _ ((X.drop (t*st)).take st) _;have:(X.drop (t*st)).take st=(vs.drop (t*st)).take st:=by
      grind[List.drop_take]
     rw[this];exact q2.mono fg
    by_cases c2:t<lo+len
    .rw[YzD,Lz8 (by simp;omega),Lz2 (by simp;omega),List.getElem?_replicate,Yzc (by simp;omega)]at hzt;cases hzt;refine⟨by rw[<-hz.1,t3],?_⟩;have mt2:=Yzk st (show t-lo+1<=len by omega);rw[Yz5]at mt2;have mt3:t*st=lo*st+(t-lo)*st:=by rw[<-Yyd];grind
     show RepL _ _ ((X.drop (t*st)).take st) _;have:(X.drop (t*st)).take st=zs:=by
      show List.take st (List.drop (t*st) (vs.take (lo*st)++jD zs len++vs.drop (lo*st+(jD zs len).length)))=_;have hl0:(vs.take (lo*st)).length=lo*st:=by simp;omega
      rw[YzD,mt3,<-YzL,List.drop_left' hl0,List.drop_append_of_le_length (by omega),List.take_append_of_le_length (by simp;omega)]
      grind[zh5]
     rw[this];exact hz.mono fg
    have hl0:(xs.take lo++List.replicate len ds).length=lo+len:=by simp;omega
    rw[Lz8 (by omega),hl0,Yzu]at hzt;rw[show lo+len+(t-(lo+len))=t by omega]at hzt;obtain⟨q1,q2⟩:=k5 t z hzt;refine⟨q1,?_⟩;have mt2:=Yzk st (show lo+len<=t by omega);rw[Yyd]at mt2;show RepL _ _ ((X.drop (t*st)).take st) _;have:(X.drop (t*st)).take st=(vs.drop (t*st)).take st:=by
     show List.take st (List.drop (t*st) (vs.take (lo*st)++jD zs len++vs.drop (lo*st+(jD zs len).length)))=_;have hl1:(vs.take (lo*st)++jD zs len).length=lo*st+len*st:=by grind
     rw[show t*st=(lo*st+len*st)+(t*st-(lo*st+len*st)) by omega,<-YzL,List.drop_left' hl1,YzL,rl]
    rw[this];exact q2.mono fg⟩
  refine⟨_,_,_,_,e,⟨(zn,N.h.put b' (.cells X st)),⟨⟨N.μ,N.n,N.fz,N.h.put b' (.cells X st)⟩,rfl,⟨i1,i2,Bk.put rfl (by omega) hlv hbk,fun j' hj'=>?_,.oset (fun _=>by rw[ho];trivial) (fun _=>.inl trivial) (fun _=>by omega),.bad _⟩⟩,0,fun n _=>?_⟩⟩
  .rw[zF,Yza (fun e=>by grind)]
  refine (run (C n)).trans ?_;show (bif Nat.beq len 0 then some (zn,N.h) else zja st zs N.h b' (lo*st) len (N.h.t.get b'))=_;have hb0:Nat.beq len 0=false:=by grind[Lz1]
  rw[hb0,k3,Yzd];simp only[zja];rw[t3,Yzq,Yzb,zbF (jD zs len) vs (lo*st) (by omega)];rfl
 |_=>grind
theorem zaz{st:Nat}{vs ws:List Zc}{xs ys:List (List DV)}{fz:BN->Prop}{h:Za}(hl:vs.length=xs.length*st)(hw:ws.length=ys.length*st)
  (H:∀(i:Nat) (x:List DV),xs[i]? = some x->x.length=st/\RepL fz h ((vs.drop (i*st)).take st) x) (K:∀(i:Nat) (x:List DV),ys[i]? = some x->x.length=st/\RepL fz h ((ws.drop (i*st)).take st) x):
  (vs++ws).length=(xs++ys).length*st/\∀(i:Nat) (x:List DV),(xs++ys)[i]? = some x->x.length=st/\RepL fz h (((vs++ws).drop (i*st)).take st) x:=by
 refine⟨by grind,fun i x hx=>?_⟩;by_cases hi:i<xs.length
 .rw[Lz2 hi]at hx;obtain⟨a,b⟩:=H i x hx;refine⟨a,?_⟩;have:=Yzk st (show i+1<=xs.length from hi)
  grind
 grind[Yzk,List.drop_append,List.drop_of_length_le,Nat.mul_sub_right_distrib]
theorem zi4{fz:BN->Prop}{h:Za}{st:Nat}{w:Zc}{v:DV}{xs:List (List DV)}(H:Rep fz h w v)(e:yq st v=some xs):∃cs,zgD false st h (.s (.one w))=some (cs,xs.length)/\cs.length=xs.length*st/\
  ∀(i:Nat) (x:List DV),xs[i]? = some x->x.length=st/\RepL fz h ((cs.drop (i*st)).take st) x:=by
 cases v<;>simp only[yq]at e<;>first|cases e|skip
 .rw[H.scal rfl];exact⟨[],rfl,by simp,fun i x hx=>by simp at hx⟩
 rename_i st' ys;cases hs:Nat.beq st st'
 .grind
 rw[hs]at e;cases e;have:=Lz1 hs;subst this;obtain⟨b,o,off,cap,ex,cs,rfl,g1,g2,g3,g4,g5⟩:=H.lst_inv;refine⟨cs,?_,zeg g4,g5⟩;show (match h.t.get b with
  |some (.cells l _)=>match cut (Nat.mul xs.length st) l off with|some l=>some (l,xs.length)|none=>none
  |some (.ro _ f)=>match zgf f (Nat.mul xs.length st) off with|some l=>some (l,xs.length)|none=>none
  |some (.tcells l _ _)=>match cut (Nat.mul xs.length st) l off with|some l=>some (l,xs.length)|none=>none
  |some .void=>bif Nat.beq (Nat.mul xs.length st) 0 then some ([],xs.length) else none
  |_=>none)=_
 rw[g2];cases o with
 |cells l s=>simp only;rw[show cut (Nat.mul xs.length st) l off=some cs from g4]
 |ro y f=>simp only;rw[show zgf f (Nat.mul xs.length st) off=some cs from g4]
 |void=>obtain⟨k1,k2⟩:=zh6 g4;simp_all
 |_=>cases g4
theorem zzU(I:Zd E N os){st:Nat}{c:PC}{v:Zb}{K:List (List DV)->Option β}(ra:RepPA N v (pc c))(e:zCU os st c K=some x):∃new cs,K new=some x/\zgD false st N.h v=some (cs,new.length)/\cs.length=new.length*st/\
  ∀(i:Nat) (x:List DV),new[i]? = some x->x.length=st/\RepL N.fz N.h ((cs.drop (i*st)).take st) x:=by
 obtain⟨w,rfl,hw⟩:=yc ra;cases c<;>simp only[zCU]at e<;>first|cases e|skip
 .obtain⟨new,hn,e⟩:=zj e;obtain⟨cs,h1,h2,h3⟩:=zi4 hw hn
  grind
 rename_i j;obtain⟨hj,rfl⟩:=hw;have hO:=I.obj j;cases ho:og os j with
 |arr st' vo=>
  rw[ho]at e hO;simp only at e;cases hs:Nat.beq st st'
  .grind
  rw[hs]at e;have:=Lz1 hs;subst this;rcases vo with _|xs
  .refine⟨[],[],e,?_,by simp,fun i x hx=>by simp at hx⟩;rw[show N.μ j=.nils from hO];rfl
  have:=hO;obtain⟨b,vs,ex,h1,h2,h3,h4,h5⟩:=this;refine⟨xs,vs,e,?_,h4,h5⟩;have hr:=zmG (fz':=fun _=>True) ⟨fun _ _ _ _=>trivial,fun _ _ _ h=>h⟩ hO (fun _ _ _=>trivial);obtain⟨cs,q1,q2,_⟩:=zi4 (st:=st) (xs:=xs) hr (by simp[mkL,yq]);rw[q1];have:cs=vs:=by
   rw[h1]at q1;have:(match N.h.t.get b with
    |some (.cells l _)=>match cut (Nat.mul xs.length st) l 0 with|some l=>some (l,xs.length)|none=>none
    |some (.ro _ f)=>match zgf f (Nat.mul xs.length st) 0 with|some l=>some (l,xs.length)|none=>none
    |some (.tcells l _ _)=>match cut (Nat.mul xs.length st) l 0 with|some l=>some (l,xs.length)|none=>none
    |some .void=>bif Nat.beq (Nat.mul xs.length st) 0 then some ([],xs.length) else none
    |_=>none)=some (cs,xs.length):=q1
   rw[h3]at this;simp only at this;rw[show cut (Nat.mul xs.length st) vs 0=some vs by grind[zbU]]at this
   grind
  rw[this]
 |frz d=>
  rw[ho]at e hO;simp only at e;obtain⟨new,hn,e⟩:=zj e;obtain⟨cs,h1,h2,h3⟩:=zi4 (show Rep N.fz N.h (N.μ j) d from hO) hn
  grind
 |_=>grind
theorem Zd.name(I:Zd E N os)(hlk:∀j,lk j=true->j<os.length){j st:Nat}{v:OC}(hj:j<os.length)(hlj:lk j=false)(ho:og os j=.arr st v):
  ∃N',N'.h=N.h/\N'.n=os.length+1/\Stp E lk N os [j] N' (oset .dead os j++[.arr st v])/\RepPA N' (.s (.one (N.μ j))) (pc (.own os.length)):=by
 have hO:=I.obj j;rw[ho]at hO
 let N':Nm:=⟨upd N.μ os.length (N.μ j),os.length+1,N.fz,N.h⟩
 have mu:∀k,k≠os.length->N'.μ k=N.μ k:=fun k hk=>by show (if k=os.length then _ else N.μ k)=_;rw[Yza hk]
 have muL:N'.μ os.length=N.μ j:=by show (if os.length=os.length then _ else _)=_;simp
 have nx:Nx N N':=⟨.refl _ _,by have:=I.len;grind,fun k hk=>mu k (by have:=I.len;omega)⟩;have hlen:=yd .dead os j;have t:∀i,live (og (oset .dead os j++[.arr st v]) i)->(i=os.length/\live (og os j))\/(i≠os.length/\i≠j/\live (og os i)):=fun i hi=>by
  rw[y7,hlen]at hi;by_cases h1:i=os.length
  .grind
  rw[Yza h1,zF]at hi;by_cases h2:i=j
  .rw[Yzc ⟨h2,hj⟩]at hi;trivial
  grind
 refine⟨N',rfl,rfl,⟨⟨I.hw,I.gr,I.fzlt,I.fzok,I.fzex,by grind,?_,?_,?_,fun t' m ht=>?_⟩,nx,Bk.same rfl,fun j' hj'=>?_,Ho.trans (w1:=[j]) (w2:=[]) (Ho.oset (o:=.dead) (fun h=>h.elim) (fun _=>.inr (YzA j)) (fun h=>h.elim)) (.app (by rw[hlen];exact Nat.le_of_eq I.len))⟩,yY (p:=.own os.length) ⟨by grind,muL.symm⟩⟩
 .intro k b hl hb;rcases t k hl with⟨h1,h2⟩|⟨h1,h2,h3⟩
  .rw[h1,muL]at hb;exact I.own j b h2 hb
  rw[mu k h1]at hb;exact I.own k b h3 hb
 .intro k k' b hl hl' hb hb';rcases t k hl with⟨h1,h2⟩|⟨h1,h2,h3⟩<;>rcases t k' hl' with⟨g1,g2⟩|⟨g1,g2,g3⟩
  .rw[h1,g1]
  .rw[h1,muL]at hb;rw[mu k' g1]at hb';exact absurd (I.inj k' j b g3 h2 hb' hb) g2
  .rw[g1,muL]at hb';rw[mu k h1]at hb;exact absurd (I.inj k j b h3 g2 hb hb') h2
  rw[mu k h1]at hb;rw[mu k' g1]at hb';exact I.inj k k' b h3 g3 hb hb'
 .intro k;rw[y7,hlen];by_cases h1:k=os.length
  .rw[Yzc h1,h1];rcases v with _|xs
   .exact muL.trans hO
   obtain⟨b,vs,ex,q1,q2⟩:=hO;exact⟨b,vs,ex,muL.trans q1,q2⟩
  rw[Yza h1,zF];split
  .trivial
  exact(I.obj k).mono nx (mu k h1) fun hl b hb=>by
   obtain⟨b',x',q1,q2,q3⟩:=wb hl (I.obj k)
   grind
 .rw[y7,hlen]at ht;by_cases h1:t'=os.length
  .grind
  rw[Yza h1,zF]at ht;split at ht
  .cases ht
  obtain⟨k',v',n',q⟩:=I.lnk t' m ht;have hl:k'<os.length:=vQ (by grind);exact⟨k',v',n',by rw[y7,hlen,Yza (by omega),zF,Yza (fun e=>by grind)];exact q⟩
 rw[y7,hlen,Yza (by grind),zF,Yza (fun e=>by grind)]
noncomputable def zvt(st bytes:Nat)(h:Za)(cs:List Zc)(n:Nat)(v:Zb):Res:=
 match v with
 | .s (.one .nils)=>bif Nat.beq n 0 then some (.s (.one .nils),h) else bif fits bytes n then grown h st n [] cs else none
 | .s (.one (.slc b off len cap ex))=>
  bif Nat.beq n 0 then some (.s (.one (.slc b off len cap ex)),h) else
  bif fits bytes (Nat.add len n) then vh st h cs n b off len cap ex (h.t.get b) else none
 |_=>none
theorem zut(I:Zd E N os)(F:∀i,RepPA N (r i) (ρ i))(hlk:∀j,lk j=true->j<os.length){st bytes:Nat}{a b:Operand}(e:w1 (pv ρ a) (fun s=>w1 (pv ρ b) fun y=>zlz lk os st bytes s y k)=some x):Goal C E lk N os r (.append st bytes a b) k x:=by
 have hh:=j8 F e;clear e;obtain⟨c,v,e,ka,ra,pka⟩:=hh;have hh:=j8 F e;clear e;obtain⟨d,u,e,kb,rb,pkb⟩:=hh;unfold zlz at e;have hh:=zzU I rb e;clear e;obtain⟨new,cs,e,hsrc,hcl,hcs⟩:=hh;have run:∀call,runK r (.append st bytes a b) call N.h=zvt st bytes N.h cs new.length v:=fun call=>by
  simp only[runK,ka,kb,zH];show (match zgD false st N.h u with
   |none=>none
   |some (new,n)=>match v with
    | .s (.one .nils)=>bif Nat.beq n 0 then some (Zb.s (.one .nils),N.h) else bif fits bytes n then grown N.h st n [] new else none
    | .s (.one (.slc b off len cap ex))=>
     bif Nat.beq n 0 then some (Zb.s (.one (.slc b off len cap ex)),N.h) else
     bif fits bytes (Nat.add len n) then vh st N.h new n b off len cap ex (N.h.t.get b) else none
    |_=>none)=_
  rw[hsrc];rfl
 have fresh:∀(os1:List PO) (w1:List Nat) (S1:Stp E lk N os w1 N os1) (hl1:os1.length=os.length),new≠[]->v=Zb.s (.one .nils)->fits bytes new.length=true->
   k (pc (.own os.length)) (os1++[.arr st (zP none new)]) w1 []=some x->Goal C E lk N os r (.append st bytes a b) k x:=by
  intro os1 w1 S1 hl1 hne hv hfit hk;obtain⟨N2,h4,h5,S2,r2⟩:=zdH (lk:=lk) (ex:=false) S1.inv (fun j hj=>by grind) hcl hcs;have he:zP none new=some new:=by
   cases new with
   |nil=>trivial
   |cons y l=>rfl
  rw[he]at hk;rw[hl1]at r2;have S:=S1.trans S2 rfl;rw[YzP]at S;refine⟨_,_,_,_,hk,⟨(.s (.one (.slc N.h.n 0 new.length 0 false)),N.h.new (.cells cs st)),⟨N2,h4,S.sim r2⟩,0,fun n _=>?_⟩⟩;show runK r (.append st bytes a b) (C n) N.h=_;rw[run,hv];have:Nat.beq new.length 0=false:=by
   cases new with
   |nil=>trivial
   |cons y l=>rfl
  simp only[zvt,this,Yzd,hfit,Yzb];rfl
 cases c with
 |d dv=>
  cases dv<;>simp only[gdN]at e<;>first|(cases e;done)|skip
  cases hfit:fits bytes new.length
  .rw[hfit]at e;cases e
  rw[hfit]at e;have hv:=yh ra (c:=.nils) rfl;cases hnew:new with
  |nil=>
   subst hnew;obtain⟨N2,h4,h5,S2⟩:∃N',N'.h=N.h/\RepPA N' (.s (.one .nils)) (pc (.own os.length))/\Stp E lk N os [] N' (os++[.arr st none]):=by
    have I0:=I
    let N':Nm:=⟨upd N.μ os.length .nils,os.length+1,N.fz,N.h⟩
    have mu:∀k,k≠os.length->N'.μ k=N.μ k:=fun k hk=>by show (if k=os.length then _ else N.μ k)=_;rw[Yza hk]
    have muL:N'.μ os.length=.nils:=by show (if os.length=os.length then _ else _)=_;simp
    have nx:Nx N N':=⟨.refl _ _,by have:=I.len;grind,fun k hk=>mu k (by have:=I.len;omega)⟩;have t:∀i,live (og (os++[.arr st none]) i)->i≠os.length/\live (og os i):=fun i hi=>by
     rw[y7]at hi;by_cases h1:i=os.length
     .rw[Yzc h1]at hi;trivial
     grind
    refine⟨N',rfl,yY (p:=.own os.length) ⟨by grind,muL.symm⟩,⟨⟨I.hw,I.gr,I.fzlt,I.fzok,I.fzex,by grind,?_,?_,?_,fun t' m ht=>?_⟩,nx,Bk.same rfl,fun j' hj'=>?_,.app (Nat.le_of_eq I.len)⟩⟩
    .intro k b hl hb;rw[mu k (t k hl).1]at hb;exact I.own k b (t k hl).2 hb
    .intro k k' b hl hl' hb hb';rw[mu k (t k hl).1]at hb;rw[mu k' (t k' hl').1]at hb';exact I.inj k k' b (t k hl).2 (t k' hl').2 hb hb'
    .intro k;rw[y7];by_cases h1:k=os.length
     .rw[Yzc h1,h1];exact muL
     rw[Yza h1];exact(I.obj k).mono nx (mu k h1) fun hl b hb=>by
      obtain⟨b',x',q1,q2,q3⟩:=wb hl (I.obj k)
      grind
    .rw[y7]at ht;by_cases h1:t'=os.length
     .grind
     rw[Yza h1]at ht;obtain⟨k',v',n',q⟩:=I.lnk t' m ht;have hl:k'<os.length:=vQ (by grind);exact⟨k',v',n',by rw[y7,Yza (by omega)];exact q⟩
    rw[y7,Yza (by grind)]
   refine⟨_,_,_,_,e,⟨(.s (.one .nils),N.h),⟨N2,h4,S2.sim h5⟩,0,fun n _=>?_⟩⟩;show runK r (.append st bytes a b) (C n) N.h=_;rw[run,hv];rfl
  |cons y l=>exact fresh os [] (.refl I) rfl (by grind) hv hfit e
 |own j=>
  simp only at e;obtain⟨w,rfl,hj,rfl⟩:=yc ra;cases ho:og os j with
  |arr st' vo=>
   rw[ho]at e;simp only at e;cases hlj:lk j
   case true=>grind
   rw[hlj]at e;simp only[Yzd]at e;cases hs:Nat.beq st st'
   .grind
   rw[hs]at e;have:=Lz1 hs;subst this;simp only[Yzb]at e;cases hfit:fits bytes (xH vo+new.length)
   .rw[hfit]at e;cases e
   rw[hfit]at e;have hjl:j<os.length:=vQ (by grind);have hO:=I.obj j;rw[ho]at hO;by_cases hnew:new=[]
   .subst hnew;obtain⟨N2,h4,h5,S2,r2⟩:=Zd.name (lk:=lk) I hlk hjl hlj ho;refine⟨_,_,_,_,e,⟨(.s (.one (N.μ j)),N.h),⟨N2,h4,S2.sim r2⟩,0,fun n _=>?_⟩⟩;show runK r (.append st bytes a b) (C n) N.h=_;rw[run];rcases vo with _|xs
    .rw[show N.μ j=.nils from hO];rfl
    obtain⟨b',vs,ex,h1,_⟩:=hO;rw[h1];rfl
   have hlock:∀j',lk j'=true->og (oset .dead os j) j'=og os j':=fun j' hj'=>by rw[zF,Yza (fun e=>by grind)]
   rcases vo with _|xs
   .refine fresh (oset .dead os j) [j] ⟨I.turn j .dead (fun e=>e) trivial (by grind),.refl N,Bk.same rfl,hlock,Ho.oset (o:=.dead) (fun h=>h.elim) (fun _=>.inr (YzA j)) (fun h=>h.elim)⟩ (yd _ _ _) hnew (by rw[show N.μ j=.nils from hO]) (by grind[xH]) e
   obtain⟨b',vs,ex,h1,h2,h3,h4,h5⟩:=hO;have he:zP (some xs) new=some (xs++new):=by
    cases new with
    |nil=>trivial
    |cons y l=>rfl
   have hn0:Nat.beq new.length 0=false:=by
    cases new with
    |nil=>trivial
    |cons y l=>rfl
   have hcut:cut (Nat.mul xs.length st) vs 0=some vs:=by grind[zbU]
   rw[he]at e;cases ex
   .have hlv:live (og os j):=by rw[ho];trivial
    have hbk:blk (N.μ j)=some b':=by rw[h1];rfl
    obtain⟨i1,i2,i3⟩:=I.put (by rw[ho];trivial) hbk .dead .dead trivial;have S1:Stp E lk N os [j] ⟨N.μ,N.n,N.fz,N.h.put b' .dead⟩ (oset .dead os j):=⟨i1,i2,Bk.put rfl (by omega) hlv hbk,hlock,Ho.oset (o:=.dead) (fun h=>h.elim) (fun _=>.inr (YzA j)) (fun h=>h.elim)⟩;obtain⟨f1,f2⟩:=zaz (fz:=N.fz) (h:=N.h.put b' .dead) h4 hcl (fun i y hy=>⟨(h5 i y hy).1,(h5 i y hy).2.mono i2.fg⟩) (fun i y hy=>⟨(hcs i y hy).1,(hcs i y hy).2.mono i2.fg⟩);obtain⟨N2,g4,g5,S2,r2⟩:=zdH (lk:=lk) (ex:=false) S1.inv (fun j hj=>by grind[yd]) f1 f2;rw[yd]at r2;have S:=S1.trans S2 rfl;refine⟨_,_,_,_,e,⟨(.s (.one (.slc N.h.n 0 (xs++new).length 0 false)),(N.h.put b' .dead).new (.cells (vs++cs) st)),⟨N2,g4,S.sim r2⟩,0,fun n _=>?_⟩⟩;show runK r (.append st bytes a b) (C n) N.h=_;rw[run,h1];simp only[zvt,hn0,Yzd];rw[show fits bytes (Nat.add xs.length new.length)=true from hfit,h3];simp only[Yzb,vh,hcut];rw[Yzd,show (Nat.beq st st&&Nat.beq 0 (Nat.mul 0 st))=true by simp,Yzb,Yzx];rfl
   have S1:Stp E lk N os [j] N (oset .dead os j):=⟨I.turn j .dead (fun e=>e) trivial (by grind),.refl N,Bk.same rfl,hlock,Ho.oset (o:=.dead) (fun h=>h.elim) (fun _=>.inr (YzA j)) (fun h=>h.elim)⟩;obtain⟨f1,f2⟩:=zaz h4 hcl h5 hcs;obtain⟨N2,g4,g5,S2,r2⟩:=zdH (lk:=lk) (ex:=false) S1.inv (fun j hj=>by grind[yd]) f1 f2;rw[yd]at r2;have S:=S1.trans S2 rfl;refine⟨_,_,_,_,e,⟨(.s (.one (.slc N.h.n 0 (xs++new).length 0 false)),N.h.new (.cells (vs++cs) st)),⟨N2,g4,S.sim r2⟩,0,fun n _=>?_⟩⟩;show runK r (.append st bytes a b) (C n) N.h=_;rw[run,h1];simp only[zvt,hn0,Yzd];rw[show fits bytes (Nat.add xs.length new.length)=true from hfit,h3];simp only[Yzb,vh,hcut];have:Nat.ble (Nat.add xs.length new.length) xs.length=false:=by
    cases hb:Nat.ble (Nat.add xs.length new.length) xs.length
    .rfl
    have:=Lz4 hb
    grind
   rw[this,Yzd,Yzx];rfl
  |_=>grind
 |lit j=>
  simp only at e;obtain⟨w,rfl,hj,b',hb,rfl⟩:=yc ra;cases ho:og os j with
  |arr st' vo=>
   rw[ho]at e;rcases vo with _|xs
   .cases e
   cases xs with
   |cons _ _=>cases e
   |nil=>
    simp only at e;have hO:=I.obj j;rw[ho]at hO;obtain⟨b2,vs,ex,h1,h2,h3,h4,h5⟩:=hO;cases hs:Nat.beq st st' with
    |false=>grind
    |true=>
    cases new with
    |nil=>grind
    |cons y l=>
    rw[hs]at e;have:=Lz1 hs;subst this;cases hfit:fits bytes (y::l).length with
    |false=>rw[hfit]at e;cases e
    |true=>
    rw[hfit]at e;have e:k (pc (.own os.length)) (os++[.arr st (some (y::l))]) [] []=some x:=e;obtain⟨N2,g4,g5,S2,r2⟩:=zdH (lk:=lk) (ex:=false) I hlk hcl hcs;refine⟨_,_,_,_,e,⟨(.s (.one (.slc N.h.n 0 (y::l).length 0 false)),N.h.new (.cells cs st)),⟨N2,g4,S2.sim r2⟩,0,fun n _=>?_⟩⟩;show runK r (.append st bytes a b) (C n) N.h=_;have hbb:b2=b':=by grind
    subst hbb;have hv:vs=[]:=List.length_eq_zero_iff.1 (by grind);subst hv;have hc:cut (Nat.mul 0 st) ([]:List Zc) 0=some []:=by rw[show Nat.mul 0 st=0 from Nat.zero_mul _];rfl
    rw[run];have hf2:fits bytes (Nat.add 0 (y::l).length)=true:=by grind
    have hle:Nat.ble (Nat.add 0 (y::l).length) 0=false:=rfl;show (bif fits bytes (Nat.add 0 (y::l).length) then vh st N.h cs (y::l).length b2 0 0 0 true (N.h.t.get b2) else none)=_;rw[hf2,h3];simp only[Yzb,vh,hc,hle,Yzd];rw[show Nat.add 0 (y::l).length=(y::l).length from Yzi _];rfl
  |_=>grind
 |_=>cases e
theorem zoh:∀(p l:List DS) (shs:List (Option Nat)),okT shs l=true->zeI (p++l) shs p.length=l:=by
 have at_:∀(p l:List DS) (d:DS),yR (p++d::l) p.length=d:=by
  intro p l d
  induction p with
  |nil=>rfl
  |cons a p ih=>exact ih
 intro p l shs
 induction shs generalizing p l with
 |nil=>
  intro e;cases l with
  |nil=>rfl
  |cons d l=>cases e
 |cons s shs ih=>
  intro e;cases l with
  |nil=>cases s<;>cases e
  |cons d l=>
   have step:okT shs l=true->zeI (p++d::l) shs (Nat.succ p.length)=l:=fun h=>by
    have:=ih (p++[d]) l h
    grind
   rcases s with _|n
   .cases d with
    |agg ds=>cases e
    |one d=>simp only[zeI,at_,dsO];rw[step e]
   cases d with
   |one d=>cases e
   |agg ds=>
    simp only[okT,LzC]at e
    grind[Lz1,zeI,dsA,zn1]
theorem zvN{res:Option DA}{K:PA->Option β}(e:b1 res (fun d=>K (pd d))=some x):∃d a,res=some d/\K a=some x/\∀(M:Nm) v,RepA M.fz M.h v d->RepPA M v a:=by
 rcases res with _|d
 .cases e
 cases d with
 |tup l=>cases e
 |s d=>
  cases d with
  |agg l=>cases e
  |one d=>
   refine⟨_,_,rfl,e,fun M v H=>?_⟩;obtain⟨w,rfl,hw⟩:=H.inv;cases w with
   |one c=>trivial
   |agg l=>trivial
theorem zvM{shs:List (Option Nat)}{res:Option DA}{K:PA->Option β}(e:bT shs res (fun l=>K (.tup (zeI l shs 0)))=some x):∃d a,res=some d/\K a=some x/\∀(M:Nm) v,RepA M.fz M.h v d->RepPA M v a:=by
 rcases res with _|d
 .cases e
 cases d with
 |s d=>cases e
 |tup l=>
  simp only[bT]at e;cases ho:okT shs l
  .grind
  rw[ho]at e;refine⟨_,_,rfl,e,fun M v H=>?_⟩;have hc:=zoh [] l shs ho;rw[YzM]at hc;show RepPA M v (.tup (zeI l shs ([]:List DS).length));rw[hc];cases v with
  |s v=>trivial
  |tup vs=>exact H
theorem zqq{sh:Sh}{res:Option DA}{K:PA->Option β}(e:bSh sh res K=some x):∃d a,res=some d/\K a=some x/\∀(M:Nm) v,RepA M.fz M.h v d->RepPA M v a:=by
 cases sh with
 |one=>exact zvN e
 |sc=>exact zvN e
 |tup shs=>exact zvM e
 |tsc n=>exact zvM e
 |agg n=>
  rcases res with _|d
  .cases e
  cases d with
  |tup l=>cases e
  |s d=>
   cases d with
   |one d=>cases e
   |agg l=>
    simp only[bSh,bA]at e;cases hn:Nat.beq l.length n
    .grind
    rw[hn]at e;have hn:=Lz1 hn;refine⟨_,_,rfl,e,fun M v H=>?_⟩;obtain⟨w,rfl,hw⟩:=H.inv;cases w with
    |one c=>trivial
    |agg cs=>rw[<-hn,zn1];exact RepPA.of (v:=.agg cs) (p:=.agg _) (RepPL.ofD hw)
 |no=>
  rcases res with _|d
  .cases e
  exact⟨d,.bad,rfl,e,fun M v _=>.bad v⟩
theorem zmY{fz fz':BN->Prop}{h h':Za}{c:Zc}{d:DV}(hs:ztV d=true)(H:Rep fz h c d):Rep fz' h' c d:=by cases d<;>first|(cases hs;done)|(rw[H.scal rfl];constructor)
theorem zjI{fz fz':BN->Prop}{h h':Za}:∀{cs:List SVal} {ds:List DS},zqw ds=true->RepSL fz h cs ds->RepSL fz' h' cs ds
 | [],[],_,_=>trivial
 | .one c::cs,.one d::ds,hs,H=>by simp only[zqw,LzC]at hs;exact⟨zmY hs.1 H.1,zjI hs.2 H.2⟩
 | .agg _::_,.one _::_,_,H=>H.1.elim
 |_,.agg _::_,hs,_=>by cases hs
 | [],_::_,_,H=>H.elim
 |_::_,[],_,H=>H.elim
theorem zzW{sh:Sh}{res:Option DA}{K:PA->Option β}(e:zzq sh res K=some x):∃d a,res=some d/\K a=some x/\∀(fz:BN->Prop) (h:Za) (M:Nm) v,RepA fz h v d->RepPA M v a:=by
 cases sh with
 |sc=>
  rcases res with _|d
  .cases e
  cases d with
  |tup l=>cases e
  |s d=>
   cases d with
   |agg l=>cases e
   |one d=>
    simp only[zzq,b1s]at e;cases hs:ztV d
    .grind
    rw[hs]at e;refine⟨_,_,rfl,e,fun fz h M v H=>?_⟩;obtain⟨w,rfl,hw⟩:=H.inv;cases w with
    |one c=>exact uO (zmY hs hw)
    |agg l=>trivial
 |tsc n=>
  rcases res with _|d
  .cases e
  cases d with
  |s d=>cases e
  |tup l=>
   simp only[zzq,bTs]at e;cases ho:(okT (zjY n) l&&zqw l)
   .grind
   rw[ho]at e;rw[LzC]at ho;refine⟨_,_,rfl,e,fun fz h M v H=>?_⟩;have hc:=zoh [] l (zjY n) ho.1;rw[YzM]at hc;show RepPA M v (.tup (zeI l (zjY n) ([]:List DS).length));rw[hc];cases v with
   |s v=>trivial
   |tup vs=>exact zjI ho.2 H
 |_=>cases e
theorem zkA:∀(l:List Zb),(cL l).map (fun x=>x .nil)=l
 | []=>rfl
 |v::l=>by show zu v .nil::(cL l).map (fun x=>x .nil)=_;rw[zkA l];rfl
theorem zgl{fz:BN->Prop}{h:Za}:∀{ps:List (BN×Nat)} {caps:List (List DV)},RepL fz h (ps.map fun p=>.ptr p.1 p.2) (caps.map fun x=>.fp x 0)->RepAL fz h (ps.map fun(p:BN×Nat)=>Zb.s (.one (.ptr p.1 p.2))) (caps.map fun x=>.s (.one (.fp x 0)))
 | [],[],_=>trivial
 |p::ps,y::caps,H=>⟨H.inv.1,zgl H.inv.2⟩
 | [],_::_,H=>by have:=H.1;trivial
 |_::_,[],H=>by have:=H.1;trivial
theorem zxw{O:Orc}(hO:zaj O C){sh:Sh}(I:Zd E N os)(F:∀i,RepPA N (r i) (ρ i)){f:Operand}{args:List Operand}(e:w1 (pv ρ f) (fun c=>za (pvs ρ args) fun as=>za (frA lk os as) fun p=>za (frC lk xd p.1 c) fun q=>bSh sh (zjr O q.2 p.2) fun a=>k a q.1 [] [])=some x):Goal C E lk N os r (.call f args) k x:=by
 have hh:=j8 F e;clear e;obtain⟨c,v,e,ka,ra,pka⟩:=hh;obtain⟨as,h1,e⟩:=zj e;obtain⟨⟨os1,ds⟩,h2,e⟩:=zj e;obtain⟨⟨os2,fv⟩,h3,e⟩:=zj e;simp only at h3 e;obtain⟨vs,kvs1,rvs⟩:=zg5 F h1;obtain⟨w,rfl,hw⟩:=yc ra;obtain⟨N1,f1,S1,r1⟩:=znX I rvs h2;obtain⟨N2,f2,S2,r2⟩:=zf5 S1.inv (RepPC.mono S1.nx hw) h3;have S12:=S1.trans S2 f1.n;have hh2:N2.h=N.h:=f2.h.trans f1.h;unfold zjr at e;cases fv<;>first|(cases sh<;>cases e)|skip
 rename_i g caps;simp only at e;obtain⟨ps,rfl,hps⟩:=r2.fn_inv;have harg:RepAL N2.fz N2.h (vs++ps.map fun(p:BN×Nat)=>Zb.s (.one (.ptr p.1 p.2))) (ds++caps.map fun x=>.s (.one (.fp x 0))):=RepAL.app (r1.mono S2.nx.fg) (zgl hps);have key:∀res,O g (ds++caps.map fun x=>.s (.one (.fp x 0)))=some res->∀a,(∀(N':Nm) v,RepA N'.fz N'.h v res->RepPA N' v a)->k a os2 [] []=some x->Goal C E lk N os r (.call f args) k x:=by
  intro res hres a ha hk;have ev:=hO g _ res hres N2.fz N2.h _ S12.inv.hw S12.inv.fzlt harg;rw[hh2]at ev;refine⟨a,os2,[],[],hk,?_⟩;have run:∀call,runK r (.call f args) call N.h=call (.inl g) (vs++ps.map fun(p:BN×Nat)=>Zb.s (.one (.ptr p.1 p.2))) N.h:=fun call=>by simp only[runK,ka,kvs1,zH];show call (.inl g) ((cL vs).map (fun x=>x .nil)++ps.map fun(p:BN×Nat)=>Zb.s (.one (.ptr p.1 p.2))) N.h=_;rw[zkA]
  obtain⟨p,⟨q1,q2,q3⟩,M,hM⟩:=ev;refine⟨p,?_,M,fun n hn=>(run (C n)).trans (hM n hn)⟩;have G:Gr N2.h p.2:=by grind
  obtain⟨i1,i2⟩:=S12.inv.grow q1 G;refine⟨_,rfl,⟨i1,S12.nx.trans i2,Bk.gr q2,S12.lock,S12.ho,?_⟩⟩;refine ha _ _ ?_;refine q3.mono ⟨fun b o hb ho=>hb.imp id fun h=>⟨?_,o,ho⟩,fun _ _ _ h=>h⟩
  grind
 grind[zqq]
theorem zAC{O:Orc}(hO:zaj O C){sh:Sh}(I:Zd E N os)(F:∀i,RepPA N (r i) (ρ i)){f:Operand}{args:List Operand}(e:w1 (pv ρ f) (fun c=>za (pvs ρ args) fun as=>za (frA (fun _=>false) os as) fun p=>za (frC (fun _=>false) xd p.1 c) fun q=>zzq sh (zjr O q.2 p.2) fun a=>k a os [] [])=some x):Goal C E lk N os r (.call f args) k x:=by
 have hh:=j8 F e;clear e;obtain⟨c,v,e,ka,ra,pka⟩:=hh;obtain⟨as,h1,e⟩:=zj e;obtain⟨⟨os1,ds⟩,h2,e⟩:=zj e;obtain⟨⟨os2,fv⟩,h3,e⟩:=zj e;simp only at h3 e;obtain⟨vs,kvs1,rvs⟩:=zg5 F h1;obtain⟨w,rfl,hw⟩:=yc ra;obtain⟨N1,f1,S1,r1⟩:=znX I rvs h2;obtain⟨N2,f2,S2,r2⟩:=zf5 S1.inv (RepPC.mono S1.nx hw) h3;have S12:=S1.trans S2 f1.n;have hh2:N2.h=N.h:=f2.h.trans f1.h;unfold zjr at e;cases fv<;>first|(cases sh<;>cases e)|skip
 rename_i g caps;simp only at e;obtain⟨ps,rfl,hps⟩:=r2.fn_inv;have harg:RepAL N2.fz N2.h (vs++ps.map fun(p:BN×Nat)=>Zb.s (.one (.ptr p.1 p.2))) (ds++caps.map fun x=>.s (.one (.fp x 0))):=RepAL.app (r1.mono S2.nx.fg) (zgl hps);have key:∀res,O g (ds++caps.map fun x=>.s (.one (.fp x 0)))=some res->∀a,(∀(fz:BN->Prop) (h:Za) (N':Nm) v,RepA fz h v res->RepPA N' v a)->k a os [] []=some x->Goal C E lk N os r (.call f args) k x:=by
  intro res hres a ha hk;have ev:=hO g _ res hres N2.fz N2.h _ S12.inv.hw S12.inv.fzlt harg;rw[hh2]at ev;refine⟨a,os,[],[],hk,?_⟩;have run:∀call,runK r (.call f args) call N.h=call (.inl g) (vs++ps.map fun(p:BN×Nat)=>Zb.s (.one (.ptr p.1 p.2))) N.h:=fun call=>by simp only[runK,ka,kvs1,zH];show call (.inl g) ((cL vs).map (fun x=>x .nil)++ps.map fun(p:BN×Nat)=>Zb.s (.one (.ptr p.1 p.2))) N.h=_;rw[zkA]
  obtain⟨p,⟨q1,q2,q3⟩,M,hM⟩:=ev;refine⟨p,?_,M,fun n hn=>(run (C n)).trans (hM n hn)⟩;obtain⟨i1,i2⟩:=I.grow q1 q2;exact⟨_,rfl,⟨i1,i2,Bk.gr q2,fun _ _=>rfl,.refl _ _ _,ha _ _ _ _ q3⟩⟩
 grind[zzW]
theorem zAF{O:Orc}(hO:zaj O C){sh:Sh}(I:Zd E N os)(F:∀i,RepPA N (r i) (ρ i)){f:Operand}{args:List Operand}(e:w1 (pv ρ f) (fun c=>za (pvs ρ args) fun as=>bif zCY sh&&(zCf os c||zzO os as) then za (frA (fun _=>false) os as) (fun p=>za (frC (fun _=>false) xd p.1 c) fun q=>zzq sh (zjr O q.2 p.2) fun a=>k a os [] []) else za (frA lk os as) fun p=>za (frC lk xd p.1 c) fun q=>bSh sh (zjr O q.2 p.2) fun a=>k a q.1 [] [])=some x):Goal C E lk N os r (.call f args) k x:=by
 have hh:=j8 F e;obtain⟨c,v,e',ka,ra,pka⟩:=hh;obtain⟨as,h1,e'⟩:=zj e';cases hb:(zCY sh&&(zCf os c||zzO os as))
 .rw[hb]at e';exact zxw hO I F (f:=f) (args:=args) (sh:=sh) (by rw[pka,h1];exact e')
 rw[hb]at e';exact zAC hO I F (f:=f) (args:=args) (sh:=sh) (by rw[pka,h1];exact e')
theorem zrk(I:Zd E N os)(F:∀i,RepPA N (r i) (ρ i))(hlk:∀j,lk j=true->j<os.length){st bytes:Nat}{zs:List Zc}{a b:Operand}
  (e:wd (pv ρ a) (fun l=>wd (pv ρ b) fun c=>za (mkN bytes l c) fun n=>za (cDs zs) fun ps=>za (zpQ ps) fun ds=>bif Nat.beq zs.length st then k (pc (.own os.length)) (os++[.arr st (some (List.replicate n ds))]) [] [] else none)=some x):Goal C E lk N os r (.mkslice st zs bytes a b) k x:=by
 have hh:=ua F e;clear e;obtain⟨l,w,e,ka,ra⟩:=hh;have hh:=ua F e;clear e;obtain⟨c,w2,e,kb,rb⟩:=hh;have hh:=zj e;clear e;obtain⟨n,hn,e⟩:=hh;have hh:=zj e;clear e;obtain⟨ps,hp,e⟩:=hh;have hh:=zj e;clear e;obtain⟨ds,hd,e⟩:=hh;have hz:RepL N.fz N.h zs ds:=zd8 hd (zds (N:=N) hp);cases hst:Nat.beq zs.length st with
 |false=>grind
 |true=>
 rw[hst,Yzb]at e;have hst:=Lz1 hst;unfold mkN at hn;split at hn
 .rename_i kl m kc q;cases hb:(Nat.beq m q&&Nat.ble q 1073741824&&Nat.ble (bytes*q) 281474976710656)
  .grind
  rw[hb]at hn;cases hn;rw[LzC,LzC]at hb;obtain⟨⟨h1,h2⟩,h3⟩:=hb;have h1:q=n:=(Lz1 h1).symm;rw[h1]at rb h2 h3;have ew:=yh ra (c:=.int kl (.ofNat n)) rfl;have ew2:=yh rb (c:=.int kc (.ofNat n)) rfl;subst ew ew2;subst hst;obtain⟨N2,h4,h5,S2,r2⟩:=zdH (lk:=lk) (ex:=true) I hlk (st:=zs.length) (vs:=jD zs n) (xs:=List.replicate n ds) (by rw[zh4,Yyi]) fun i y hy=>by
   have hi:i<n:=by grind
   rw[List.getElem?_replicate,Yzc hi]at hy;cases hy;exact⟨hz.1.symm,by grind[zh5]⟩
  refine⟨_,_,_,_,e,⟨(.s (.one (.slc N.h.n 0 n n true)),N.h.new (.cells (jD zs n) zs.length)),⟨N2,h4,?_⟩,0,fun _ _=>?_⟩⟩
  .rw[Yyi]at r2;exact S2.sim r2
  show runK r (.mkslice zs.length zs bytes a b) (C _) N.h=_;simp only[runK,ka,kb,zH];show (bif Nat.ble n n&&Nat.ble n 1073741824&&Nat.ble (bytes*n) 281474976710656 then zcZ N.h (.cells (jD zs n) zs.length) (fun b=>.slc b 0 n n true) else none)=_;rw[Yzg (LzB n),h2,h3];rfl
 cases hn
theorem zDr(I:Zd E N os)(F:∀i,RepPA N (r i) (ρ i)){a:Operand}(e:wd (pv ρ a) (fun v=>za (zDl v) fun z=>k (pd z) os [] [])=some x):Goal C E lk N os r (.s2b a) k x:=by
 have hh:=ua F e;clear e;obtain⟨v,w,e,ka,ra⟩:=hh;have hh:=zj e;clear e;obtain⟨z,hz,e⟩:=hh;unfold zDl at hz;split at hz
 .rename_i s;cases hz;have ew:=yh ra (c:=.str s) rfl;subst ew;have hw:=I.hw.new (.ro none (vC (bytesOf s)));have G:=Gr.new N.h (.ro none (vC (bytesOf s)));obtain⟨i1,i2⟩:=I.grow hw G;have hget:(N.h.new (.ro none (vC (bytesOf s)))).t.get N.h.n=some (.ro none (vC (bytesOf s))):=by grind[Za.new,zC]
  refine⟨_,_,_,_,e,⟨(.s (.one (.slc N.h.n 0 s.size 0 false)),N.h.new (.ro none (vC (bytesOf s)))),⟨_,rfl,⟨i1,i2,Bk.gr G,fun _ _=>rfl,.refl _ _ _,?_⟩⟩,0,fun n _=>?_⟩⟩
  .refine uO ?_;have hl:s.size=(s.data.toList.map fun c=>([.int .u8 (.ofNat c.toNat)]:List DV)).length:=by
    simp
   rw[hl];have hlen:(bytesOf s).length=s.data.toList.length:=by grind[bytesOf]
   refine Rep.lst (o:=.ro none (vC (bytesOf s))) (bytesOf s) (.inr ⟨LzB _,_,hget⟩) hget (fun h=>by cases h) ?_ (fun i y hy=>?_) (fun i y j c d hy hc hd=>?_)
   .refine zmm (by grind) fun j c hj=>?_;simp_all[wl]
   .grind
   rw[Lz6,Yz9]at hy;obtain⟨q,hq,rfl⟩:=hy;cases j with
   |succ j=>simp at hd
   |zero=>simp only[Yzj,Option.some.injEq]at hd;subst hd;rw[Nat.mul_one,YzE]at hc;unfold bytesOf at hc;rw[Lz6,hq]at hc;cases hc;exact .int _ _
  show runK r (.s2b a) (C n) N.h=_;simp only[runK,ka,zH];rfl
 cases hz
theorem zvW{O:Orc}(hO:zaj O C){sh:Sh}(I:Zd E N os)(F:∀i,RepPA N (r i) (ρ i))(hlk:∀j,lk j=true->j<os.length){ko:KOp}(e:pOp O lk sh ρ os ko k=some x):Goal C E lk N os r ko k x:=by
 cases ko with
 |mv a=>exact(zE9 I F e).goal I
 |pick c a b=>exact(zvZ I F e).goal I
 |alloc zs=>exact zxx I hlk e
 |box a=>exact zDt I F hlk e
 |build zs parts=>exact(zrp I F e).goal I
 |bslice st len zs parts=>exact zus I F hlk e
 |load n a=>exact(zv2 I F e).goal I
 |store n a b=>exact zxt I F e
 |nilck a=>exact(zrj I F e).goal I
 |bin op a b=>exact(zAG I F e).goal I
 |shift l a b=>exact(zri I F e).goal I
 |str op a b=>exact(zAy I F e).goal I
 |nilS neg a b=>exact(zv0 I F e).goal I
 |eq q neg a b=>exact(zFa I F e).goal I
 |not a=>exact(zAz I F e).goal I
 |neg a=>exact(zAA I F e).goal I
 |conv t a=>exact(zv6 I F e).goal I
 |b2s a=>exact(zAH I F e).goal I
 |mkfn f caps=>exact(zv1 I F e).goal I
 |slice st a lo hi mx=>exact(zrh I F e).goal I
 |clear st zs a=>exact zxv I F e
 |sslice a lo hi=>exact(znr I F e).goal I
 |foff a off=>exact(zv5 I F e).goal I
 |field a off n=>exact(zro I F e).goal I
 |ixs st a i=>exact(zAE I F e).goal I
 |ixarr len st a i=>exact(zrm I F e).goal I
 |ixagg len st n a i=>exact(zrn I F e).goal I
 |ixstr a i=>exact(zrl I F e).goal I
 |extract a i=>exact(zjX I F e).goal I
 |lenS a=>exact(zv3 I F e).goal I
 |lenL a=>exact(zv4 I F e).goal I
 |append st bytes s a=>exact zut I F hlk e
 |minmax m a xs=>exact(zns I F e).goal I
 |mkslice st zs bytes a b=>exact zrk I F hlk e
 |s2b a=>exact zDr I F e
 |call f args=>exact zAF hO I F e
 |mkmap st=>exact zxu I hlk e
 |lookup q z ok a b=>exact zur I F e
 |mupd q a b c=>exact zAB I F e
 |lenM a=>exact zAD I F e
end
end Go.PE
end
section
namespace Go.PE
open Go Go.CE
inductive Pl where
 |slot (i:Nat)
 |cell (k j:Nat)
 |lnk (t:Nat)
 |st (k c:Nat)
def zCz:Pl->Pl->Bool
 | .slot i,.slot j=>Nat.beq i j
 | .cell k i,.cell l j=>Nat.beq k l&&Nat.beq i j
 | .lnk i,.lnk j=>Nat.beq i j
 | .st k i,.st l j=>Nat.beq k l&&Nat.beq i j
 |_,_=>false
theorem zyG{a b:Pl}(h:zCz a b=true):a=b:=by
 cases a<;>cases b<;>simp only[zCz]at h<;>first|(cases h;done)|skip
 .rw[Lz1 h]
 .simp_all
 .rw[Lz1 h]
 simp_all
def zsh(x:Pl):List Pl->Nat->Option Nat
 | [],_=>none
 |y::l,i=>bif zCz x y then some i else zsh x l (Nat.succ i)
theorem ziK{x:Pl}:∀{l:List Pl} {i p:Nat},zsh x l i=some p->∃q,p=i+q/\l[q]? = some x
 | [],i,p,e=>by cases e
 |y::l,i,p,e=>by
  simp only[zsh]at e;cases hb:zCz x y
  case true=>rw[hb]at e;cases e;exact⟨0,rfl,by grind[zyG]⟩
  rw[hb]at e;obtain⟨q,h1,h2⟩:=ziK e;exact⟨q+1,by omega,by trivial⟩
structure LA where
 data:List Pl
 own:List (Pl×Nat)
 boxes:List (Nat×Nat)
 arrs:List (Nat×Nat)
 xdata:List Pl
 xown:List (Pl×Nat)
 rdata:List Pl
 rown:List (Pl×Nat)
 frz:List Nat
def zcG(la:LA):Zf->List Pl
 | .normal=>la.data
 | .exit _=>la.xdata
 | .ret=>la.rdata
def zoR(la:LA):Zf->List (Pl×Nat)
 | .normal=>la.own
 | .exit _=>la.xown
 | .ret=>la.rown
def zf:List DV->Nat->DV
 | [],_=>.u
 |d::l,i=>bif Nat.beq i 0 then d else zf l (Nat.sub i 1)
def yf:List OC->Nat->OC
 | [],_=>none
 |d::l,i=>bif Nat.beq i 0 then d else yf l (Nat.sub i 1)
theorem zrs:∀(l:List DV) (i:Nat),zf l i=(l[i]?).getD .u
 | [],i=>by simp[zf]
 |d::l,0=>by simp[zf]
 |d::l,i+1=>by have:=zrs l i;trivial
theorem zlD:∀(l:List OC) (i:Nat),yf l i=(l[i]?).getD none
 | [],i=>by simp[yf]
 |d::l,0=>by simp[yf]
 |d::l,i+1=>by have:=zlD l i;trivial
def zBe(c:Nat):DV->Bool
 | .int .i64 (.ofNat n)=>Nat.beq n c
 |_=>false
def zio:DV->Bool
 | .int .i64 (.negSucc _)=>true
 |_=>false
def zpC(ρ:Nat->PA)(os:List PO):Pl->Option PC
 | .slot i=>match ρ i with | .s (.one c)=>some c|_=>none
 | .cell k j=>match og os k with | .box cs=>cs[j]? |_=>none
 | .lnk t=>match og os t with | .lnk m=>some (.own m)|_=>none
 | .st k c=>match og os k with | .lop _ _ _ _ _ _ s=>bif zBe c s then some (.d (.int .i64 (.ofNat c))) else none|_=>none
def zkc(st:Nat):Bool:=Nat.ble 1048576 st
def mkO(st:Nat)(v:OC):PO:=bif zkc st then .mp st (z5 v) else .arr st v
theorem zbe{st:Nat}{v:OC}(h:zkc st=false):mkO st v=.arr st v:=by simp_all[mkO]
theorem zj0{st:Nat}{v:OC}(h:zkc st=true):mkO st v=.mp st (z5 v):=by simp_all[mkO]
def zpS(lk:Nat->Bool)(ρ:Nat->PA):List Pl->List PO->Option (List PO×List DV)
 | [],os=>some (os,[])
 |p::l,os=>
  match zpC ρ os p with
  |some c=>
   match frC lk xd os c with
   |some (os',d)=>
    match zpS lk ρ l os' with
    |some (os'',ds)=>some (os'',d::ds)
    |none=>none
   |none=>none
  |none=>none
def zCV(os:List PO)(st:Nat):PC->Option (OC×Option Nat)
 | .own m=>
  match og os m with
  | .arr st' v=>bif Nat.beq st st' && !zkc st then some (v,some m) else none
  | .mp st' xs=>bif Nat.beq st st'&&zkc st then some (some xs,some m) else none
  |_=>none
 | .d .nils=>bif zkc st then none else some (none,none)
 |_=>none
def zzb(ρ:Nat->PA)(os:List PO):List (Pl×Nat)->Option (List OC×List (Option Nat))
 | []=>some ([],[])
 |(p,st)::l=>
  match zpC ρ os p with
  |some c=>
   match zCV os st c with
   |some (v,m)=>
    match zzb ρ os l with
    |some (vs,ms)=>some (v::vs,m::ms)
    |none=>none
   |none=>none
  |none=>none
def zvG(os:List PO):List (Nat×Nat)->Option (List OC)
 | []=>some []
 |(k,st)::l=>
  match og os k with
  | .arr st' v=>bif Nat.beq st st' && !zkc st then(match zvG os l with|some vs=>some (v::vs)|none=>none) else none
  | .mp st' xs=>bif Nat.beq st st'&&zkc st then(match zvG os l with|some vs=>some (some xs::vs)|none=>none) else none
  |_=>none
def zby(os:List PO):List (Nat×Nat)->Bool
 | []=>true
 |(k,n)::l=>(match og os k with | .box cs=>Nat.beq cs.length n|_=>false)&&zby os l
def zhV(okm:Nat->Bool):List (Option Nat)->Bool
 | []=>true
 |none::l=>zhV okm l
 |some m::l=>okm m && !(l.any fun x=>match x with|some m'=>Nat.beq m m'|none=>false)&&zhV okm l
def zey(D:List Pl):List PO->Nat->Bool
 | [],_=>true
 |o::os,k=>(match o with | .lop _ _ _ _ _ _ s=>zio s||(D.any fun p=>match p with | .st k' c=>Nat.beq k k'&&zBe c s|_=>false)|_=>true)&&zey D os (Nat.succ k)
def wu:List Pl->List PO->List PO
 | .st k c::D,os=>wu D (match og os k with | .lop nt ρ ps a b l _=>oset (.lop nt ρ ps a b l (.int .i64 (.ofNat c))) os k|_=>os)
 |_::D,os=>wu D os
 | [],os=>os
def zpE(lk:Nat->Bool):List Nat->List PO->Option (List PO)
 | [],os=>some os
 |k::l,os=>
  match frC lk xd os (match og os k with | .box _=>.ptr k 0|_=>.own k) with
  |some (os',_)=>zpE lk l os'
  |none=>none
def vec(lk:Nat->Bool)(okm:Nat->Bool)(la:LA)(x:Zf)(ρ:Nat->PA)(os:List PO):Option (List PO×List DV×List OC×List (Option Nat)):=
 match zpS lk ρ (zcG la x) os with
 |some (os1,ds)=>
  match zzb ρ os1 (zoR la x),zvG os1 la.arrs with
  |some (vs,ms),some ws=>bif (zby os1 la.boxes&&zhV okm ms)&&zey (zcG la x) os1 0 then some (os1,ds,vs++ws,ms) else none
  |_,_=>none
 |none=>none
def plP(D:List Pl)(Ow:List (Pl×Nat))(L:List DV)(n0:Nat)(p:Pl):Option PC:=
 match zsh p D 0 with
 |some i=>some (.d (zf L i))
 |none=>match zsh p (Ow.map (·.1)) 0 with|some i=>some (.own (n0+i))|none=>none
def hFr(D:List Pl)(Ow:List (Pl×Nat))(W:List Nat)(ρ:Nat->PA)(n0:Nat)(L:List DV):Nat->PA:=fun i=>
 match plP D Ow L n0 (.slot i) with
 |some c=>pc c
 |none=>bif zpp i W then .bad else ρ i
def zdb(D:List Pl)(Ow:List (Pl×Nat))(L:List DV)(n0 k:Nat):Nat->Nat->List PC
 |0,_=>[]
 |n+1,j=>(match plP D Ow L n0 (.cell k j) with|some c=>c|none=>.d .u)::zdb D Ow L n0 k n (Nat.succ j)
def vX(D:List Pl)(Ow:List (Pl×Nat))(L:List DV)(n0:Nat):List (Nat×Nat)->List PO->List PO
 | [],os=>os
 |(k,n)::l,os=>vX D Ow L n0 l (oset (.box (zdb D Ow L n0 k n 0)) os k)
def zct(M:List OC):List (Nat×Nat)->Nat->List PO->List PO
 | [],_,os=>os
 |(k,st)::l,i,os=>zct M l (Nat.succ i) (oset (mkO st (yf M i)) os k)
def zsm(M:List OC):List (Pl×Nat)->Nat->List PO
 | [],_=>[]
 |(_,st)::l,i=>mkO st (yf M i)::zsm M l (Nat.succ i)
def zhl:List (Pl×Nat)->List Nat
 | []=>[]
 |(.lnk t,_)::l=>t::zhl l
 |_::l=>zhl l
def zf0(Ow:List (Pl×Nat))(n0:Nat):List Nat->List PO->List PO
 | [],os=>os
 |t::l,os=>zf0 Ow n0 l (oset (match zsh (.lnk t) (Ow.map (·.1)) 0 with|some i=>.lnk (n0+i)|none=>.dead) os t)
def hOs(D:List Pl)(Ow:List (Pl×Nat))(la:LA)(B:List PO)(n0:Nat)(L:List DV)(M:List OC):List PO:=
 zf0 Ow n0 (zhl la.own) (zct M la.arrs Ow.length (vX D Ow L n0 la.boxes B))++zsm M Ow 0
def listed(la:LA)(k:Nat):Bool:=(la.boxes.any fun x=>Nat.beq k x.1)||(la.arrs.any fun x=>Nat.beq k x.1)||((zhl la.own).any fun t=>Nat.beq k t)
def kill:List (Option Nat)->List PO->List PO
 | [],os=>os
 |none::l,os=>kill l os
 |some m::l,os=>kill l (oset .dead os m)
section
variable {E:En} {lk:Nat->Bool}
def cvAt(N:Nm)(r:Fr):Pl->Zc->Prop
 | .slot i,c=>r i=.s (.one c)
 | .cell k j,c=>∃b vs,N.μ k=.ptr b 0/\N.h.t.get b=some (.cells vs 0)/\vs[j]? = some c
 | .lnk t,c=>∃b n vs,N.μ t=.ptr b n/\N.h.t.get b=some (.cells vs 1)/\vs[n]? = some c
 | .st _ n,c=>c=.int .i64 (.ofNat n)
theorem cvAt.fz{N N':Nm}(f:Fz N N'){r:Fr}{p:Pl}{c:Zc}(H:cvAt N r p c):cvAt N' r p c:=by
 cases p with
 |slot i=>exact H
 |cell k j=>obtain⟨b,vs,h1,h2,h3⟩:=H;exact⟨b,vs,by rw[f.μ];exact h1,by rw[f.h];exact h2,h3⟩
 |lnk t=>obtain⟨b,n,vs,h1,h2,h3⟩:=H;exact⟨b,n,vs,by rw[f.μ];exact h1,by rw[f.h];exact h2,h3⟩
 |st k n=>exact H
theorem zlY{N:Nm}{os:List PO}{r:Fr}{ρ:Nat->PA}(I:Zd E N os)(F:∀i,RepPA N (r i) (ρ i)){p:Pl}{c:PC}(e:zpC ρ os p=some c):∃v,cvAt N r p v/\RepPC N v c:=by
 cases p with
 |slot i=>
  simp only[zpC]at e;split at e
  .rename_i c' h;cases e;have:=F i;rw[h]at this;obtain⟨w,h1,h2⟩:=yc this;exact⟨w,h1,h2⟩
  cases e
 |cell k j=>
  simp only[zpC]at e;cases ho:og os k with
  |box cs=>rw[ho]at e;obtain⟨b,vs,h1,h2,h3,h4⟩:=zaH I ho;have hj:=(Lz0.1 e).1;have hl:=h4.len;obtain⟨v,hv⟩:∃v,vs[j]? = some v:=⟨_,Lz5 (by omega)⟩;exact⟨v,⟨b,vs,h1,h3,hv⟩,h4.get hv e⟩
  |_=>grind
 |lnk t=>
  simp only[zpC]at e;cases ho:og os t with
  |lnk m=>rw[ho]at e;cases e;have hO:=I.obj t;rw[ho]at hO;obtain⟨h0,b,n,vs,h1,h2,h3,h4⟩:=hO;exact⟨N.μ m,⟨b,n,vs,h1,h3,h4⟩,h0,rfl⟩
  |_=>grind
 |st k n=>
  simp only[zpC]at e;split at e
  .rename_i s _;cases hs:zBe n s
   .grind
   rw[hs]at e;cases e;exact⟨_,rfl,Rep.int _ _⟩
  cases e
theorem zva{os:List PO}{ρ:Nat->PA}{t:Nat}{c:PC}(e:zpC ρ os (.lnk t)=some c):∃m,og os t=.lnk m:=by grind[zpC]
theorem znW:∀{l:List Nat} {os os':List PO} {N:Nm},Zd E N os->zpE lk l os=some os'->∃N',Fz N N'/\Stp E lk N os [] N' os'
 | [],os,os',N,I,e=>by cases e;exact⟨N,.refl N,.refl I⟩
 |k::l,os,os',N,I,e=>by
  simp only[zpE]at e;have key:∀p,(∀os1 d,frC lk xd os p=some (os1,d)->∃c,RepPC N c p)->(match frC lk xd os p with|some (os',_)=>zpE lk l os'|none=>none)=some os'->∃N',Fz N N'/\Stp E lk N os [] N' os':=by
   intro p hp e;rcases h:frC lk xd os p with _|q
   .grind
   obtain⟨os1,d⟩:=q;rw[h]at e;obtain⟨c,hc⟩:=hp os1 d h;obtain⟨N1,f1,s1,_⟩:=zf5 I hc h;obtain⟨N2,f2,s2⟩:=znW s1.inv e;exact⟨N2,f1.trans f2,s1.trans s2 f1.n⟩
  have lt:og os k≠.dead->k<N.n:=fun h=>by rw[I.len];exact vQ h
  cases ho:og os k with
  |box cs=>rw[ho]at e;obtain⟨b,vs,h1,_⟩:=zaH I ho;exact key (.ptr k 0) (fun _ _ _=>⟨.ptr b 0,lt (by grind),b,h1,rfl⟩) e
  |arr st v=>rw[ho]at e;exact key (.own k) (fun _ _ _=>⟨N.μ k,lt (by grind),rfl⟩) e
  |frz v=>rw[ho]at e;exact key (.own k) (fun _ _ _=>⟨N.μ k,lt (by grind),rfl⟩) e
  |mp st xs=>
   rw[ho]at e;refine key (.own k) (fun os1 d h=>?_) e;have:frC lk xd os (.own k)=none:=by
    rw[show xd=99+1 from rfl]
    grind[frC]
   grind
  |fbox ds=>rw[ho]at e;exact key (.own k) (fun _ _ _=>⟨N.μ k,lt (by grind),rfl⟩) e
  |hol v n t=>rw[ho]at e;exact key (.own k) (fun _ _ _=>⟨N.μ k,lt (by grind),rfl⟩) e
  |lnk m=>rw[ho]at e;exact key (.own k) (fun _ _ _=>⟨N.μ k,lt (by grind),rfl⟩) e
  |lop=>rw[ho]at e;exact key (.own k) (fun _ _ _=>⟨N.μ k,lt (by grind),rfl⟩) e
  |dead=>
   rw[ho]at e;refine key (.own k) (fun os1 d h=>?_) e;have:frC lk xd os (.own k)=none:=by
    rw[show xd=99+1 from rfl]
    grind[frC]
   grind
theorem zhK{r:Fr}{ρ:Nat->PA}:∀{D:List Pl} {N:Nm} {os os1:List PO} {ds:List DV},Zd E N os->(∀i,RepPA N (r i) (ρ i))->zpS lk ρ D os=some (os1,ds)->
  ∃N1,Fz N N1/\Stp E lk N os [] N1 os1/\ds.length=D.length/\∀(i:Nat) (p:Pl) (d:DV),D[i]? = some p->ds[i]? = some d->∃c,cvAt N1 r p c/\Rep N1.fz N1.h c d
 | [],N,os,os1,ds,I,F,e=>by cases e;exact⟨N,.refl N,.refl I,rfl,fun i p d h=>by simp at h⟩
 |p::D,N,os,os1,ds,I,F,e=>by
  simp only[zpS]at e;rcases h1:zpC ρ os p with _|c
  .grind
  rw[h1]at e;simp only at e;rcases h2:frC lk xd os c with _|q
  .grind
  obtain⟨o1,d⟩:=q;rw[h2]at e;simp only at e;rcases h3:zpS lk ρ D o1 with _|q
  .grind
  obtain⟨o2,ds2⟩:=q;rw[h3]at e;cases e;obtain⟨v,k1,k2⟩:=zlY I F h1;obtain⟨N1,f1,s1,r1⟩:=zf5 I k2 h2;obtain⟨N2,f2,s2,l2,r2⟩:=zhK s1.inv (fun i=>(F i).mono s1.nx) h3;refine⟨N2,f1.trans f2,s1.trans s2 f1.n,by simp[l2],fun i p' d' hp hd=>?_⟩;cases i with
  |zero=>simp only[Yzj,Option.some.injEq]at hp hd;subst hp;subst hd;exact⟨v,(k1.fz f1).fz f2,r1.mono s2.nx.fg⟩
  |succ i=>grind
theorem zk7{N:Nm}{os:List PO}{r:Fr}{ρ:Nat->PA}(I:Zd E N os)(F:∀i,RepPA N (r i) (ρ i)):∀{Ow:List (Pl×Nat)} {vs:List OC} {ms:List (Option Nat)},zzb ρ os Ow=some (vs,ms)->
  vs.length=Ow.length/\ms.length=Ow.length/\∀(i:Nat) (p:Pl) (st:Nat),Ow[i]? = some (p,st)->∃v m c,vs[i]? = some v/\ms[i]? = some m/\cvAt N r p c/\((m=none/\v=none/\c=.nils/\zkc st=false)\/∃q,m=some q/\og os q=mkO st v/\c=N.μ q/\q<N.n)/\(∀t,p=.lnk t->∃m,og os t=.lnk m)
 | [],vs,ms,e=>by cases e<;>grind
 |(p,st)::Ow,vs,ms,e=>by
  simp only[zzb]at e;rcases h1:zpC ρ os p with _|c
  .grind
  rw[h1]at e;simp only at e;rcases h2:zCV os st c with _|q
  .grind
  obtain⟨v,m⟩:=q;rw[h2]at e;simp only at e;rcases h3:zzb ρ os Ow with _|q
  .grind
  obtain⟨vs2,ms2⟩:=q;rw[h3]at e;cases e;obtain⟨w,k1,k2⟩:=zlY I F h1;obtain⟨l1,l2,H⟩:=zk7 I F h3;refine⟨by simp[l1],by simp[l2],fun i p' st' hp=>?_⟩;cases i with
  |zero=>
   simp only[Yzj,Option.some.injEq,Prod.mk.injEq]at hp;obtain⟨rfl,rfl⟩:=hp;refine⟨v,m,w,rfl,rfl,k1,?_,fun t ht=>by grind[zva]⟩;cases c with
   |d dv=>
    cases dv with
    |nils=>
     have h2':(bif zkc st then none else some ((none:OC),(none:Option Nat)))=some (v,m):=h2;cases hm:zkc st
     case true=>grind
     rw[hm]at h2';cases h2';exact .inl ⟨rfl,rfl,Rep.scal k2 rfl,rfl⟩
    |_=>cases h2
   |own q=>
    simp only[zCV]at h2;cases ho:og os q with
    |arr st' v'=>
     rw[ho]at h2;simp only at h2;cases hs:(Nat.beq st st' && !zkc st)
     .grind
     rw[hs]at h2;cases h2;simp only[LzC,Yzy]at hs;have he:=Lz1 hs.1;subst he;exact .inr ⟨q,rfl,by grind[zbe],k2.2,k2.1⟩
    |mp st' xs=>
     rw[ho]at h2;simp only at h2;cases hs:(Nat.beq st st'&&zkc st)
     .grind
     rw[hs]at h2;cases h2;rw[LzC]at hs;have he:=Lz1 hs.1;subst he;exact .inr ⟨q,rfl,by rw[zj0 hs.2];exact ho,k2.2,k2.1⟩
    |_=>grind
   |_=>cases h2
  |succ i=>grind
theorem zk8{os:List PO}:∀{l:List (Nat×Nat)} {ws:List OC},zvG os l=some ws->ws.length=l.length/\∀(i k st:Nat),l[i]? = some (k,st)->∃v,ws[i]? = some v/\og os k=mkO st v
 | [],ws,e=>by cases e<;>grind
 |(k,st)::l,ws,e=>by
  simp only[zvG]at e;have key:∀v,og os k=mkO st v->(match zvG os l with|some vs=>some (v::vs)|none=>none)=some ws->ws.length=((k,st)::l).length/\∀(i k' st':Nat),((k,st)::l)[i]? = some (k',st')->∃v,ws[i]? = some v/\og os k'=mkO st' v:=by
   intro v ho e;rcases h2:zvG os l with _|vs
   .grind
   rw[h2]at e;cases e;obtain⟨a,b⟩:=zk8 h2
   grind
  cases ho:og os k with
  |arr st' v=>
   rw[ho]at e;simp only at e;cases hs:(Nat.beq st st' && !zkc st)
   .grind
   rw[hs]at e;simp only[LzC,Yzy]at hs;simp_all[zbe]
  |mp st' xs=>
   rw[ho]at e;simp only at e;cases hs:(Nat.beq st st'&&zkc st)
   .grind
   rw[hs]at e;rw[LzC]at hs;have he:=Lz1 hs.1;subst he;exact key (some xs) (by rw[zj0 hs.2];exact ho) e
  |_=>grind
theorem zd5{os:List PO}:∀{l:List (Nat×Nat)},zby os l=true->∀k n,(k,n)∈l->∃cs,og os k=.box cs/\cs.length=n
 |(k0,n0)::l,e,k,n,h=>by
  simp only[zby,LzC]at e;rcases Yya.1 h with h|h
  .rw[Prod.mk.injEq]at h;obtain⟨h1,h2⟩:=h;subst h1;subst h2;cases ho:og os k<;>simp_all
  exact zd5 e.2 k n h
theorem zeK{okm:Nat->Bool}:∀{ms:List (Option Nat)},zhV okm ms=true->(∀(i m:Nat),ms[i]? = some (some m)->okm m=true)/\∀(i j m:Nat),ms[i]? = some (some m)->ms[j]? = some (some m)->i=j
 | [],_=>⟨fun i m h=>by simp at h,fun i j m h=>by simp at h⟩
 |none::l,e=>by
  obtain⟨a,b⟩:=zeK (ms:=l) e
  grind
 |some q::l,e=>by
  simp only[zhV,LzC,Yzy]at e;obtain⟨⟨e1,e2⟩,e3⟩:=e;obtain⟨a,b⟩:=zeK (ms:=l) e3;have ne:∀j:Nat,l[j]?≠some (some q):=fun j h=>by
   have:=Lz3 h
   grind[Yzq]
  grind
theorem q7(D:List Pl)(Ow:List (Pl×Nat))(L:List DV)(n0:Nat):∀(l:List (Nat×Nat)) (os:List PO),(vX D Ow L n0 l os).length=os.length
 | [],_=>rfl
 |(k,n)::l,os=>by simp only[vX];rw[q7 D Ow L n0 l,yd]
theorem zdc(M:List OC):∀(l:List (Nat×Nat)) (i:Nat) (os:List PO),(zct M l i os).length=os.length
 | [],_,_=>rfl
 |(k,st)::l,i,os=>by simp only[zct];rw[zdc M l,yd]
theorem zda(Ow:List (Pl×Nat))(n0:Nat):∀(l:List Nat) (os:List PO),(zf0 Ow n0 l os).length=os.length
 | [],_=>rfl
 |t::l,os=>by simp only[zf0];rw[zda Ow n0 l,yd]
theorem zfZ(Ow:List (Pl×Nat))(n0:Nat):∀(l:List Nat) (os:List PO) (k:Nat),
  (k∈l/\k<os.length/\og (zf0 Ow n0 l os) k=match zsh (.lnk k) (Ow.map (·.1)) 0 with|some i=>.lnk (n0+i)|none=>.dead)\/((k∈l->¬k<os.length)/\og (zf0 Ow n0 l os) k=og os k)
 | [],os,k=>.inr ⟨fun h=>(by cases h),rfl⟩
 |t::l,os,k=>by
  simp only[zf0];rcases zfZ Ow n0 l (oset (match zsh (.lnk t) (Ow.map (·.1)) 0 with|some i=>.lnk (n0+i)|none=>.dead) os t) k with⟨h1,h2,h3⟩|⟨h1,h2⟩
  .grind[yd]
  rw[zF]at h2;by_cases hk:k=t/\t<os.length
  .grind
  rw[Yza hk]at h2
  grind[yd]
theorem znQ(M:List OC):∀(l:List (Pl×Nat)) (i:Nat),(zsm M l i).length=l.length
 | [],_=>rfl
 |(_,st)::l,i=>by simp[zsm,znQ M l]
theorem znR(M:List OC):∀(l:List (Pl×Nat)) (i j:Nat),(zsm M l i)[j]? = (l[j]?).map fun x=>mkO x.2 (yf M (i+j))
 | [],i,j=>by simp[zsm]
 |(p,st)::l,i,0=>by simp[zsm]
 |(p,st)::l,i,j+1=>by
  have:=znR M l (i+1) j
  grind[zsm]
theorem zdO(D:List Pl)(Ow:List (Pl×Nat))(L:List DV)(n0:Nat):∀(l:List (Nat×Nat)) (os:List PO) (k:Nat),
  (∃n,(k,n)∈l/\k<os.length/\og (vX D Ow L n0 l os) k=.box (zdb D Ow L n0 k n 0))\/((∀n,(k,n)∈l->¬k<os.length)/\og (vX D Ow L n0 l os) k=og os k)
 | [],os,k=>.inr ⟨fun n h=>(by cases h),rfl⟩
 |(k0,n)::l,os,k=>by
  simp only[vX];rcases zdO D Ow L n0 l (oset (.box (zdb D Ow L n0 k0 n 0)) os k0) k with⟨m,h1,h2,h3⟩|⟨h1,h2⟩
  .grind[yd]
  grind[zF,yd]
theorem zf1(M:List OC):∀(l:List (Nat×Nat)) (i:Nat) (os:List PO) (k:Nat),
  (∃j st,l[j]? = some (k,st)/\k<os.length/\og (zct M l i os) k=mkO st (yf M (i+j)))\/((∀st,(k,st)∈l->¬k<os.length)/\og (zct M l i os) k=og os k)
 | [],i,os,k=>.inr ⟨fun n h=>(by cases h),rfl⟩
 |(k0,st)::l,i,os,k=>by
  simp only[zct];rcases zf1 M l (Nat.succ i) (oset (mkO st (yf M i)) os k0) k with⟨j,s,h1,h2,h3⟩|⟨h1,h2⟩
  .exact .inl ⟨j+1,s,by trivial,by grind[yd],by grind⟩
  rw[zF]at h2;split at h2
  .rename_i hk;rw[hk.1]at h2 ⊢;exact .inl ⟨0,st,rfl,hk.2,h2⟩
  grind[yd]
theorem zhr(D:List Pl)(Ow:List (Pl×Nat))(L:List DV)(n0 k:Nat):∀(n i j:Nat),j<n->(zdb D Ow L n0 k n i)[j]? = some (match plP D Ow L n0 (.cell k (i+j)) with|some c=>c|none=>.d .u)
 |0,i,j,h=>by omega
 |n+1,i,0,_=>rfl
 |n+1,i,j+1,h=>by
  have:=zhr D Ow L n0 k n (i+1) j (by omega)
  grind[zdb]
theorem zhq(D:List Pl)(Ow:List (Pl×Nat))(L:List DV)(n0 k:Nat):∀(n i:Nat),(zdb D Ow L n0 k n i).length=n
 |0,_=>rfl
 |n+1,i=>by simp[zdb,zhq D Ow L n0 k n]
theorem Zd.reidx{N:Nm}{os:List PO}(I:Zd E N os)(os':List PO)(μ':Nat->Zc)(s:Nat->Nat)(hs:∀k,live (og os' k)->live (og os (s k))/\μ' k=N.μ (s k))
  (hi:∀k k',live (og os' k)->live (og os' k')->s k=s k'->k=k') (ho:∀k,RepO ⟨μ',os'.length,N.fz,N.h⟩ k (og os' k)) (hn:∀t m,og os' t=.lnk m->∃k v n,og os' k=.hol v n t):Zd E ⟨μ',os'.length,N.fz,N.h⟩ os':=
 ⟨I.hw, I.gr, I.fzlt, I.fzok, I.fzex, rfl, fun k b hl hb => by
  obtain⟨h1,h2⟩:=hs k hl;rw[show (Nm.mk μ' os'.length N.fz N.h).μ k=N.μ (s k) from h2]at hb;exact I.own _ b h1 hb,fun k k' b hl hl' hb hb'=>by
  obtain⟨h1,h2⟩:=hs k hl;obtain⟨g1,g2⟩:=hs k' hl';rw[show (Nm.mk μ' os'.length N.fz N.h).μ k=N.μ (s k) from h2]at hb;rw[show (Nm.mk μ' os'.length N.fz N.h).μ k'=N.μ (s k') from g2]at hb';exact hi k k' hl hl' (I.inj _ _ b h1 g1 hb hb'),ho,hn⟩
end
end Go.PE
end
section
namespace Go.PE
open Go Go.CE
section
variable {E:En} {lk okm:Nat->Bool}
theorem zlC(a b:List PO)(k:Nat)(h:k<a.length):og (a++b) k=og a k:=by grind[zdE]
theorem zuo(a b:List PO)(k:Nat)(h:a.length<=k):og (a++b) k=(b[k-a.length]?).getD .dead:=by grind[zdE]
theorem RepCaps.re{N0 N1 N2:Nm}(hle:N0.n<=N2.n)(hmu:∀k,k<N0.n->N2.μ k=N1.μ k)(hfz:N2.fz=N1.fz)(hh:N2.h=N1.h):∀{ps0 ps:List (BN×Nat)} {caps:List (Nat⊕List DV)},RepCaps N0 ps0 caps->RepCaps N1 ps caps->RepCaps N2 ps caps
 | [],[],[],_,_=>trivial
 |_::_,_::_,.inl k::_,H0,H=>⟨⟨Lz9 H0.1.1 hle,(hmu k H0.1.1).trans H.1.2.1,H.1.2.2⟩,RepCaps.re hle hmu hfz hh H0.2 H.2⟩
 |_::_,_::_,.inr xs::_,H0,H=>⟨by show Rep _ _ _ _;rw[hfz,hh];exact H.1,RepCaps.re hle hmu hfz hh H0.2 H.2⟩
 |_,[],_::_,_,H=>H.elim
 |_,_::_,[],_,H=>H.elim
 | [],_,_::_,H0,_=>H0.elim
 |_::_,_,[],H0,_=>H0.elim
theorem RepPC.re{N0 N1 N2:Nm}(hle:N0.n<=N2.n)(hmu:∀k,k<N0.n->N2.μ k=N1.μ k)(hfz:N2.fz=N1.fz)(hh:N2.h=N1.h){c0 c:Zc}{p:PC}(H0:RepPC N0 c0 p)(H:RepPC N1 c p):RepPC N2 c p:=by
 cases p with
 |d v=>show Rep _ _ _ _;rw[hfz,hh];exact H
 |own k=>exact⟨Lz9 H0.1 hle,H.2.trans (hmu k H0.1).symm⟩
 |ptr k off=>obtain⟨_,b,h2,h3⟩:=H;exact⟨Lz9 H0.1 hle,b,(hmu k H0.1).trans h2,h3⟩
 |ep k st i off=>obtain⟨_,b,l,cap,ex,h2,h3,h4⟩:=H;exact⟨Lz9 H0.1 hle,b,l,cap,ex,(hmu k H0.1).trans h2,h3,h4⟩
 |ip k off len st i o=>obtain⟨_,b,h2,h3,h4⟩:=H;exact⟨Lz9 H0.1 hle,b,(hmu k H0.1).trans h2,h3,h4⟩
 |vw k st lo len=>exact⟨Lz9 H0.1 hle,by rw[hmu k H0.1];exact H.2⟩
 |lit k=>obtain⟨_,b,h2,h3⟩:=H;exact⟨Lz9 H0.1 hle,b,(hmu k H0.1).trans h2,h3⟩
 |clo f caps=>obtain⟨ps,rfl,hc⟩:=H;obtain⟨ps0,_,hc0⟩:=H0;exact⟨ps,rfl,RepCaps.re hle hmu hfz hh hc0 hc⟩
theorem RepPL.re{N0 N1 N2:Nm}(hle:N0.n<=N2.n)(hmu:∀k,k<N0.n->N2.μ k=N1.μ k)(hfz:N2.fz=N1.fz)(hh:N2.h=N1.h):∀{v0 v:List Zc} {ps:List PC},RepPL N0 v0 ps->RepPL N1 v ps->RepPL N2 v ps
 | [],[],[],_,_=>trivial
 |_::_,_::_,_::_,H0,H=>⟨RepPC.re hle hmu hfz hh H0.1 H.1,RepPL.re hle hmu hfz hh H0.2 H.2⟩
 |_,[],_::_,_,H=>H.elim
 |_,_::_,[],_,H=>H.elim
 | [],_,_::_,H0,_=>H0.elim
 |_::_,_,[],H0,_=>H0.elim
theorem RepPA.re{N0 N1 N2:Nm}(hle:N0.n<=N2.n)(hmu:∀k,k<N0.n->N2.μ k=N1.μ k)(hfz:N2.fz=N1.fz)(hh:N2.h=N1.h){v0 v:Zb}{p:PA}(H0:RepPA N0 v0 p)(H:RepPA N1 v p):RepPA N2 v p:=by
 cases p with
 |bad=>trivial
 |undef=>exact H
 |s p=>
  obtain⟨w0,rfl,h0⟩:=H0.inv;obtain⟨w,rfl,h⟩:=H.inv;cases p<;>cases w<;>cases w0<;>simp only[RepPV]at h h0
  .exact RepPC.re hle hmu hfz hh h0 h
  exact RepPL.re hle hmu hfz hh h0 h
 |tup ds=>
  cases v with
  |s v=>exact H
  |tup l=>show RepSL _ _ _ _;rw[hfz,hh];exact H
 |tl p ds=>
  cases v with
  |s v=>exact H
  |tup l=>
   cases l with
   |nil=>exact H
   |cons w l=>
    cases v0 with
    |s v=>trivial
    |tup l0=>
     cases l0 with
     |nil=>trivial
     |cons w0 l0=>
      refine⟨?_,by rw[hfz,hh];exact H.2⟩;have h:=H.1;have h0:=H0.1;cases p<;>cases w<;>cases w0<;>simp only[RepPV]at h h0
      .exact RepPC.re hle hmu hfz hh h0 h
      exact RepPL.re hle hmu hfz hh h0 h
theorem RepO.arr_re{N1 N2:Nm}{k m st:Nat}{v:OC}(hmu:N2.μ k=N1.μ m)(hfz:N2.fz=N1.fz)(hh:N2.h=N1.h)(H:RepO N1 m (.arr st v)):RepO N2 k (.arr st v):=by
 rcases v with _|xs
 .exact hmu.trans H
 obtain⟨b,vs,ex,h1,h2,h3,h4,h5⟩:=H;exact⟨b,vs,ex,hmu.trans h1,by grind,by grind,h4,fun i x hx=>by grind⟩
theorem RepO.mkO_re{N1 N2:Nm}{k m st:Nat}{v:OC}(hmu:N2.μ k=N1.μ m)(hfz:N2.fz=N1.fz)(hh:N2.h=N1.h)(H:RepO N1 m (mkO st v)):RepO N2 k (mkO st v):=by
 cases hm:zkc st
 .grind[zbe,RepO.arr_re]
 rw[zj0 hm]at H ⊢;obtain⟨b,es,h1,h2,h3,h4,h5⟩:=H;exact⟨b,es,hmu.trans h1,by grind,by grind,h4,fun i e x he hx=>by grind⟩
theorem zyW{l:List (Nat×Nat)}{k:Nat}(h:(l.any fun x=>Nat.beq k x.1)=false):∀n,(k,n)∉l:=fun n hn=>by grind[Yzq]
theorem zlL{st:Nat}{v:OC}{m:Nat}(h:mkO st v=.lnk m):False:=by grind[zj0,zbe]
theorem zc5{t:Nat}:∀{l:List (Pl×Nat)},t∈zhl l->∃st:Nat,(.lnk t,st)∈l
 | [],h=>by cases h
 |(.lnk t',st)::l,h=>by
  simp only[zhl]at h;rcases Yya.1 h with rfl|h
  .simp
  obtain⟨st,h⟩:=zc5 h;grind
 |(.slot _,_)::l,h=>by obtain⟨st,h⟩:=zc5 (l:=l) h;grind
 |(.cell _ _,_)::l,h=>by obtain⟨st,h⟩:=zc5 (l:=l) h;grind
 |(.st _ _,_)::l,h=>by obtain⟨st,h⟩:=zc5 (l:=l) h;grind
theorem zyV{l:List Nat}{k:Nat}(h:(l.any fun t=>Nat.beq k t)=false):k∉l:=fun hn=>by grind[Yzq]
theorem zbO{la:LA}{k:Nat}(h:listed la k=false):(∀n,(k,n)∉la.boxes)/\(∀n,(k,n)∉la.arrs)/\k∉zhl la.own:=by grind[listed,zyW,zyV]
theorem zbj{D:List Pl}{Ow:List (Pl×Nat)}{la:LA}{B:List PO}{L:List DV}{M:List OC}{k:Nat}(h:k<B.length)(hl:listed la k=false):og (hOs D Ow la B B.length L M) k=og B k:=by
 unfold hOs;obtain⟨l1,l2,l3⟩:=zbO hl
 grind[zlC,zda,zdc,q7,zfZ,zf1,zdO]
def simO(o o':PO):Prop:=o'=o\/∃nt ρ ps a b l s s',o=.lop nt ρ ps a b l s/\o'=.lop nt ρ ps a b l s'
theorem simO.nl{o o':PO}(h:simO o o')(hn:∀nt ρ ps a b l s,o≠.lop nt ρ ps a b l s):o'=o:=by rcases h with h|⟨nt,ρ,ps,a,b,l,s,s',h,_⟩<;>grind
set_option maxHeartbeats 1000000 in
theorem zsl{la:LA}{x:Zf}{N0 N:Nm}{B os os1:List PO}{r r0:Fr}{ρ ρ0:Nat->PA}{W:List Nat}{L:List DV}{M:List OC}{ms:List (Option Nat)}
  (I:Zd E N os) (F:∀i,RepPA N (r i) (ρ i)) (e:vec lk okm la x ρ os=some (os1,L,M,ms)) (hn0:N0.n=B.length) (nx0:Nx N0 N) (F0:∀i,RepPA N0 (r0 i) (ρ0 i)) (hW:∀i,i∉W->r i=r0 i)
  (hB:∀k,k<B.length->listed la k=false->og B k=.dead\/(og B k=og os1 k/\∃(N':Nm) (o':PO),N'.n=B.length/\RepO N' k o'/\simO (og B k) o'))
  (hT:∀t,t∈zhl la.own->∃m,og B t=.lnk m) (hL:∀t m,og B t=.lnk m->∃k v n,k<B.length/\listed la k=false/\og B k=.hol v n t)
  (hok:∀m,some m∈ms->m<B.length->¬live (og B m)/\listed la m=false):
  ∃N2,N2.h=N.h/\Zd E N2 (hOs (zcG la x) (zoR la x) la B B.length L M)/\
   (∀i,RepPA N2 (r i) (hFr (zcG la x) (zoR la x) W ρ0 B.length L i))/\Nx N0 N2/\FG N.fz N.h N2.fz N2.h:=by
 unfold vec at e;generalize hD:(zcG la x)=D at e ⊢;generalize hOw:(zoR la x)=Ow at e ⊢;rcases h1:zpS lk ρ D os with _|q
 .grind
 obtain⟨o1,ds⟩:=q;rw[h1]at e;simp only at e;rcases h2:zzb ρ o1 Ow with _|q
 .grind
 obtain⟨vs,ms0⟩:=q;rcases h3:zvG o1 la.arrs with _|ws
 .grind
 rw[h2,h3]at e;simp only at e;cases h4:((zby o1 la.boxes&&zhV okm ms0)&&zey D o1 0)
 .grind
 rw[h4]at e;cases e;rw[LzC]at h4
 replace h4:=h4.1
 rw[LzC]at h4;obtain⟨N1,f1,S1,lD,rD⟩:=zhK I F h1;have F1:∀i,RepPA N1 (r i) (ρ i):=fun i=>(F i).mono S1.nx;have I1:=S1.inv;obtain⟨lO,lms,rO⟩:=zk7 I1 F1 h2;obtain⟨lA,rA⟩:=zk8 h3;have bO:=zd5 h4.1;obtain⟨sA,sB⟩:=zeK h4.2
 let os2:=hOs D Ow la B B.length L (vs++ws)
 have hl0:(zct (vs++ws) la.arrs Ow.length (vX D Ow L B.length la.boxes B)).length=B.length:=by rw[zdc,q7]
 have hl1:(zf0 Ow B.length (zhl la.own) (zct (vs++ws) la.arrs Ow.length (vX D Ow L B.length la.boxes B))).length=B.length:=by rw[zda,hl0]
 have hlen:os2.length=B.length+Ow.length:=(Yzx (as:=zf0 Ow B.length (zhl la.own) (zct (vs++ws) la.arrs Ow.length (vX D Ow L B.length la.boxes B))) (bs:=zsm (vs++ws) Ow 0)).trans (by rw[hl1,znQ])
 let μ2:Nat->Zc:=fun k=>if k<B.length then N1.μ k else match ms[k-B.length]? with|some (some m)=>N1.μ m|_=>.nils
 let s:Nat->Nat:=fun k=>if k<B.length then k else match ms[k-B.length]? with|some (some m)=>m|_=>0
 let N2:Nm:=⟨μ2,os2.length,N1.fz,N1.h⟩
 have mulo:∀k,k<B.length->μ2 k=N1.μ k:=fun k hk=>by grind
 have slo:∀k,k<B.length->s k=k:=fun k hk=>by grind
 have muhi:∀q,μ2 (B.length+q)=match ms[q]? with|some (some m)=>N1.μ m|_=>.nils:=fun q=>by grind
 have shi:∀q m,ms[q]? = some (some m)->s (B.length+q)=m:=fun q m hm=>by show (if B.length+q<B.length then _ else _)=_;rw[Yza (by omega),Nat.add_sub_cancel_left,hm]
 have nthO1:∀q v,vs[q]? = some v->yf (vs++ws) q=v:=fun q v hq=>by grind[zlD]
 have nthO2:∀j v,ws[j]? = some v->yf (vs++ws) (Ow.length+j)=v:=fun j v hj=>by grind[zlD]
 have nx2:Nx N0 N2:=⟨nx0.fg.trans S1.nx.fg,by grind,fun k hk=>by
  have hk':k<B.length:=by omega
  show μ2 k=_;rw[mulo k hk',f1.μ];exact nx0.mu k hk⟩
 have place:∀p c,plP D Ow L B.length p=some c->∃v,cvAt N1 r p v/\RepPC N2 v c:=by
  intro p c hp;unfold plP at hp;rcases hd:zsh p D 0 with _|i
  .rw[hd]at hp;simp only at hp;rcases ho:zsh p (Ow.map (·.1)) 0 with _|i
   .grind
   rw[ho]at hp;cases hp;obtain⟨q,rfl,hq⟩:=ziK ho;simp only[Lz6,Yz9]at hq;obtain⟨⟨p',st⟩,hq,rfl⟩:=hq;obtain⟨v,m,c,k1,k2,k3,k4,_⟩:=rO q p' st hq;refine⟨c,k3,?_,?_⟩
   .grind
   grind
  rw[hd]at hp;cases hp;obtain⟨q,rfl,hq⟩:=ziK hd;have hqd:=(Lz0.1 hq).1;obtain⟨d,hdd⟩:∃d,L[q]? = some d:=⟨_,Lz5 (by omega)⟩;obtain⟨v,k1,k2⟩:=rD q p d hq hdd;refine⟨v,k1,?_⟩;show Rep _ _ _ _;rw[Yzi,zrs,hdd];exact k2
 have obj:∀k,(k<B.length/\((∃(j st:Nat) (v:OC),la.arrs[j]? = some (k,st)/\ws[j]? = some v/\og os2 k=mkO st v/\og os1 k=mkO st v)\/
   (∃(n:Nat) (cs:List PC),(k,n)∈la.boxes/\og os2 k=.box (zdb D Ow L B.length k n 0)/\og os1 k=.box cs/\cs.length=n)\/(listed la k=false/\og os2 k=og B k)\/
    (k∈zhl la.own/\(og os2 k=.dead\/∃(q st:Nat) (m:Option Nat) (c:Zc),Ow[q]? = some (.lnk k,st)/\ms[q]? = some m/\cvAt N1 r (.lnk k) c/\((m=none/\c=.nils)\/∃q',m=some q'/\c=N1.μ q')/\(∃m',og os1 k=.lnk m')/\og os2 k=.lnk (B.length+q)))))\/
   (∃(q:Nat),k=B.length+q/\((∃(p:Pl) (st:Nat) (v:OC) (m:Option Nat) (c:Zc),Ow[q]? = some (p,st)/\vs[q]? = some v/\ms[q]? = some m/\cvAt N1 r p c/\((m=none/\v=none/\c=.nils/\zkc st=false)\/∃q',m=some q'/\og os1 q'=mkO st v/\c=N1.μ q'/\q'<N1.n)/\og os2 k=mkO st v)\/og os2 k=.dead)):=by
  intro k;by_cases hk:k<B.length
  .refine .inl ⟨hk,?_⟩;have e1:og os2 k=og (zf0 Ow B.length (zhl la.own) (zct (vs++ws) la.arrs Ow.length (vX D Ow L B.length la.boxes B))) k:=zlC _ _ k (by omega);rcases zfZ Ow B.length (zhl la.own) (zct (vs++ws) la.arrs Ow.length (vX D Ow L B.length la.boxes B)) k with⟨z1,_,z3⟩|⟨z1,z2⟩
   .refine .inr (.inr (.inr ⟨z1,?_⟩));rcases hi:zsh (.lnk k) (Ow.map (·.1)) 0 with _|i
    .grind
    rw[hi]at z3;obtain⟨q,rfl,hq⟩:=ziK hi;simp only[Lz6,Yz9]at hq;obtain⟨⟨p',st⟩,hq,rfl⟩:=hq;obtain⟨v,m,c,k1,k2,k3,k4,k5⟩:=rO q _ st hq
    grind
   have hnl:k∉zhl la.own:=fun h=>z1 h (by omega);have e0:og os2 k=og (zct (vs++ws) la.arrs Ow.length (vX D Ow L B.length la.boxes B)) k:=e1.trans z2;rcases zf1 (vs++ws) la.arrs Ow.length (vX D Ow L B.length la.boxes B) k with⟨j,st,a1,a2,a3⟩|⟨a1,a2⟩
   .grind
   grind[zdO,listed,Lz1,q7]
  refine .inr ⟨k-B.length,by omega,?_⟩;have e0:og os2 k=((zsm (vs++ws) Ow 0)[k-B.length]?).getD .dead:=by have:=zuo (zf0 Ow B.length (zhl la.own) (zct (vs++ws) la.arrs Ow.length (vX D Ow L B.length la.boxes B))) (zsm (vs++ws) Ow 0) k (by omega);rw[hl1]at this;exact this
  rw[znR]at e0;rcases hq:Ow[k-B.length]? with _|y
  .grind
  obtain⟨p,st⟩:=y;obtain⟨v,m,c,k1,k2,k3,k4,_⟩:=rO _ p st hq
  grind
 have inv:Zd E N2 os2:=by
  refine I1.reidx os2 μ2 s ?_ ?_ ?_ ?_
  .intro k hl;rcases obj k with⟨hk,⟨j,st,v,a1,a2,a3,a4⟩|⟨n,cs,a1,a2,a3,a4⟩|⟨a1,a2⟩|⟨_,a1|⟨q,st,m,c,a1,a2,a3,a4,a5,a6⟩⟩⟩|⟨q,rfl,⟨p,st,v,m,c,a1,a2,a3,a4,a5,a6⟩|a1⟩
   .grind
   .rw[slo k hk,mulo k hk,a3];trivial
   .rw[slo k hk,mulo k hk];rcases hB k hk a1 with h|⟨h,_⟩
    .rw[a2,h]at hl;trivial
    grind
   .rw[a1]at hl;trivial
   .rw[a6]at hl;trivial
   .rcases a5 with⟨rfl,rfl,_,hmp⟩|⟨m',rfl,b1,b2,b3⟩
    .rw[a6,zbe hmp]at hl;trivial
    grind
   rw[a1]at hl;trivial
  .have high:∀k,live (og os2 k)->¬k<B.length->∃q m,k=B.length+q/\ms[q]? = some (some m):=fun k hl hk=>by
    rcases obj k with⟨hk',_⟩|⟨q,rfl,⟨p,st,v,m,c,a1,a2,a3,a4,a5,a6⟩|a1⟩
    .omega
    .rcases a5 with⟨rfl,rfl,_,hmp⟩|⟨m',rfl,_⟩
     .rw[a6,zbe hmp]at hl;trivial
     grind
    rw[a1]at hl;trivial
   have mixed:∀k k',live (og os2 k)->live (og os2 k')->k<B.length->¬k'<B.length->s k≠s k':=fun k k' hl hl' hk hk' heq=>by
    obtain⟨q,m,rfl,hm⟩:=high k' hl' hk';rw[slo k hk,shi q m hm]at heq;subst heq;obtain⟨g1,g2⟩:=hok k (Lz3 hm) hk;rcases obj k with⟨_,⟨j,st,v,a1,a2,a3,a4⟩|⟨n,cs,a1,a2,a3,a4⟩|⟨a1,a2⟩|⟨a1,_⟩⟩|⟨q',h,_⟩
    .grind[zbO]
    .grind[zbO]
    .grind
    .grind[zbO]
    omega
   intro k k' hl hl' heq;by_cases hk:k<B.length<;>by_cases hk':k'<B.length
   .grind
   .grind
   .grind
   obtain⟨q,m,rfl,hm⟩:=high k hl hk;obtain⟨q',m',rfl,hm'⟩:=high k' hl' hk'
   grind
  .intro k;rcases obj k with⟨hk,⟨j,st,v,a1,a2,a3,a4⟩|⟨n,cs,a1,a2,a3,a4⟩|⟨a1,a2⟩|⟨_,a1|⟨q,st,m,c,a1,a2,a3,a4,⟨m',a5⟩,a6⟩⟩⟩|⟨q,rfl,⟨p,st,v,m,c,a1,a2,a3,a4,a5,a6⟩|a1⟩
   .rw[a3];have:=I1.obj k;rw[a4]at this;exact RepO.mkO_re (N2:=N2) (mulo k hk) rfl rfl this
   .rw[a2];obtain⟨b,us,b1,b2,b3,b4⟩:=zaH I1 a3;have hul:=b4.len;refine⟨b,us,(mulo k hk).trans b1,b2,b3,RepPL.of (by grind[zhq]) fun j c p hc hp=>?_⟩;have hj:=(Lz0.1 hc).1;rw[zhr D Ow L B.length k n 0 j (by omega),Yzi]at hp;cases hp;rcases hpl:plP D Ow L B.length (.cell k j) with _|c'
    .exact Rep.u c
    obtain⟨v,w1,w2⟩:=place _ _ hpl;obtain⟨b',us',x1,x2,x3⟩:=w1
    grind
   .rw[a2];rcases hB k hk a1 with h|⟨h,hbx⟩
    .rw[h];trivial
    have:=I1.obj k;rw[<-h]at this;generalize hoB:og B k=ob at this hbx;cases ob with
    |box cs=>obtain⟨N',o',hnn,hR',hs'⟩:=hbx;rw[hs'.nl (by simp)]at hR';obtain⟨_,vs0,_,_,_,hv0⟩:=hR';obtain⟨b,us,b1,b2,b3,b4⟩:=this;exact⟨b,us,(mulo k hk).trans b1,b2,b3,RepPL.re (N0:=N') (N1:=N1) (N2:=N2) (by grind) (fun i hi=>mulo i (by omega)) rfl rfl hv0 b4⟩
    |arr st v=>exact RepO.arr_re (N2:=N2) (mulo k hk) rfl rfl this
    |frz v=>show Rep N1.fz N1.h (μ2 k) v;rw[mulo k hk];exact this
    |fbox ds=>obtain⟨b,b1,b2⟩:=this;exact⟨b,(mulo k hk).trans b1,b2⟩
    |mp st xs=>obtain⟨b,es,h1,h2,h3,h4,h5⟩:=this;exact⟨b,es,(mulo k hk).trans h1,h2,h3,h4,h5⟩
    |hol v n t=>
     rcases v with _|xs
     .exact this
     obtain⟨N',o',hnn,hR',hs'⟩:=hbx;rw[hs'.nl (by simp)]at hR';obtain⟨_,_,_,_,_,_,_,_,ht,_⟩:=hR';obtain⟨b,us,ex,h1,h2,h3,h4,h5,h6,h7,h8⟩:=this;exact⟨b,us,ex,(mulo k hk).trans h1,h2,h3,h4,h5,by grind,(mulo t (by omega)).trans h7,h8⟩
    |lnk m=>obtain⟨N',o',hnn,hR',hs'⟩:=hbx;rw[hs'.nl (by simp)]at hR';obtain⟨hm,_⟩:=hR';obtain⟨h0,b,n,us,h1,h2,h3,h4⟩:=this;exact⟨by grind,b,n,us,(mulo k hk).trans h1,h2,h3,h4.trans (congrArg some (mulo m (by omega)).symm)⟩
    |lop nt ρl ps a b lbl st=>
     obtain⟨N',o',hnn,hR',hs'⟩:=hbx;have hf':∃lt',∀i,RepPA N' (zec (bn i) lt') (ρl i):=by
      rcases hs' with rfl|⟨_,_,_,_,_,_,_,_,h1,rfl⟩
      .obtain⟨_,_,_,_,lt',_,_,_,_,_,_,_,hf0⟩:=hR';exact⟨lt',hf0⟩
      cases h1;obtain⟨_,_,_,_,lt',_,_,_,_,_,_,_,hf0⟩:=hR';exact⟨lt',hf0⟩
     obtain⟨lt',hf0⟩:=hf';obtain⟨l,S,pend,lf,lt,psA,ld,h1,h2,h3,h4,h5,h6⟩:=this;exact⟨l,S,pend,lf,lt,psA,ld,(mulo k hk).trans h1,h2,h3,h4,h5,fun i=>RepPA.re (N0:=N') (N1:=N1) (N2:=N2) (by grind) (fun i hi=>mulo i (by omega)) rfl rfl (hf0 i) (h6 i)⟩
    |dead=>trivial
   .rw[a1];trivial
   .rw[a6];have:=I1.obj k;rw[a5]at this;obtain⟨_,b,n,us,h1,h2,h3,h4⟩:=this;have hqo:=(Lz0.1 a1).1;obtain⟨b',n',us',g1,g2,g3⟩:=a3;rw[h1]at g1;cases g1;rw[h3]at g2;cases g2;refine⟨by grind,b,n,us,(mulo k hk).trans h1,h2,h3,?_⟩;show us[n]? = some (μ2 (B.length+q));rw[muhi,a2,g3]
    grind
   .rw[a6];rcases a5 with⟨rfl,rfl,_,hmp⟩|⟨m',rfl,b1,b2,b3⟩
    .rw[zbe hmp];show μ2 (B.length+q)=.nils
     grind
    have:=I1.obj m';rw[b1]at this;refine RepO.mkO_re (N1:=N1) (N2:=N2) ?_ rfl rfl this
    grind
   rw[a1];trivial
  intro t m ht;have fin:∀m',og B t=.lnk m'->∃k v n,og os2 k=.hol v n t:=fun m' h=>by grind[zbj]
  rcases obj t with⟨hk,⟨j,st,v,a1,a2,a3,a4⟩|⟨n,cs,a1,a2,a3,a4⟩|⟨a1,a2⟩|⟨a1,_⟩⟩|⟨q,rfl,⟨p,st,v,m,c,a1,a2,a3,a4,a5,a6⟩|a1⟩
  .grind[zlL]
  .grind
  .grind
  .grind
  .grind[zlL]
  grind
 refine⟨N2,f1.h,inv,fun i=>?_,nx2,S1.nx.fg⟩;unfold hFr;rcases hp:plP D Ow L B.length (.slot i) with _|c
 .simp only;cases hm:zpp i W
  case true=>trivial
  rw[hW i (fun h=>by grind[zc2])];exact(F0 i).mono nx2
 obtain⟨v,w1,w2⟩:=place _ _ hp;simp only;rw[show r i=.s (.one v) from w1];trivial
end
end Go.PE
end
section
namespace Go.PE
open Go Go.CE
def zb6(ρ:Nat->PA)(a:PA):Option Nat->Nat->PA
 |none=>ρ
 |some d=>fun i=>bif Nat.beq i d then a else ρ i
def refine(ρ:Nat->PA):Option (Nat×Bool)->Nat->PA
 |none=>ρ
 |some (d,b)=>fun i=>bif Nat.beq i d then pd (.bool b) else ρ i
def zwR:Operand->Bool->Option (Nat×Bool)
 | .tmp t,b=>some (t,b)
 |_,_=>none
def scT(P:Program)(t:TypeId):Bool:=
 match P.underlying t with
 |some .bool=>true
 |some .string=>true
 |some (.int _)=>true
 |_=>false
def zzd(P:Program)(dst:Option Nat)(t:TypeId):Sh:=
 match dst with
 |none=>.no
 |some _=>
  match P.underlying t with
  |some (.tuple ts)=>bif ts.toList.all (scT P) then .tsc ts.toList.length else .tup (ts.toList.map fun t=>match wF P t with|some n=>n|none=>none)
  |_=>bif scT P t then .sc else match wF P t with|some none=>.one|some (some n)=>.agg n|none=>.no
section
variable (P:Program) (O:Orc)
def zb0{β:Type}(lk:Nat->Bool)(nt:Nat)(ops:Array Oper)(o:Oper)(ρ:Nat->PA)(os:List PO)(K:Option (Nat×Bool)->KT β):Option β:=
 bif inT nt o.dst then
  match comp P o.op with
  |some ko=>
   match o.guard with
   |none=>pOp O lk (zzd P o.dst o.type) ρ os ko (K none)
   |some (j,b)=>
    match (ops[j]?).bind (·.dst) with
    |some d=>
     bif Nat.ble (Nat.succ d) nt then
      match ρ d with
      | .s (.one (.d v))=>
       bif b then ifB v (pOp O lk (zzd P o.dst o.type) (refine ρ (some (d,true))) os ko (K (some (d,true)))) (K (some (d,false)) .undef os [] [])
       else ifB v (K (some (d,true)) .undef os [] []) (pOp O lk (zzd P o.dst o.type) (refine ρ (some (d,false))) os ko (K (some (d,false))))
      | .undef=>K none .undef os [] []
      |_=>none
     else none
    |none=>none
  |none=>none
 else none
abbrev Inl:=Nat->(Nat->Bool)->List PA->List PO->(β:Type)->(PA->List PO->Option β)->Option β
def zs1:List (Nat⊕List DV)->List PA
 | []=>[]
 | .inl k::l=>pc (.ptr k 0)::zs1 l
 | .inr xs::l=>pd (.fp xs 0)::zs1 l
def ziJ(tab:Nat->Bool)(ρ:Nat->PA)(o:Oper):Option (Nat×List PA):=
 match o.guard with
 |some _=>none
 |none=>
  match comp P o.op with
  |some (.call f args)=>
   match f with
   | .func g=>bif tab g then match pvs ρ args with|some az=>some (g,az)|none=>none else none
   |f=>
    match pv ρ f,pvs ρ args with
    |some (.s (.one (.clo g caps))),some az=>bif tab g then some (g,az++zs1 caps) else none
    |_,_=>none
  |_=>none
def zk4:Nat:=1000000
def zji:Nat:=2000000
def zCv(ρ:Nat->PA)(os:List PO)(o:Oper):Option (Nat×List PA):=
 match comp P o.op with
 |some (.call f args)=>
  match pv ρ f,pvs ρ args with
  |some (.s (.one (.own k))),some az=>match og os k with | .lop ..=>some (k,az)|_=>none
  |_,_=>none
 |_=>none
def zo4(tab:Nat->Bool)(Y:Inl){β:Type}(lk:Nat->Bool)(nt:Nat)(ops:Array Oper):List Oper->(Nat->PA)->List PO->((Nat->PA)->List PO->Option β)->Option β
 | [],ρ,os,K=>K ρ os
 |o::l,ρ,os,K=>
  match ziJ P tab ρ o with
  |some (g,az)=>bif inT nt o.dst then Y g lk az os β (fun a os'=>zo4 tab Y lk nt ops l (zb6 ρ a o.dst) os' K) else none
  |none=>
  match zCv P ρ os o with
  |some (k,az)=>
   bif inT nt o.dst then
    match o.guard with
    |none=>Y (zji+k) lk az os β (fun a os'=>zo4 tab Y lk nt ops l (zb6 ρ a o.dst) os' K)
    |some (j,b)=>
     match (ops[j]?).bind (·.dst) with
     |some d=>
      bif Nat.ble (Nat.succ d) nt then
       match ρ d with
       | .s (.one (.d v))=>
        bif b then ifB v (Y (zji+k) lk az os β (fun a os'=>zo4 tab Y lk nt ops l (zb6 (refine ρ (some (d,true))) a o.dst) os' K)) (zo4 tab Y lk nt ops l (zb6 (refine ρ (some (d,false))) .undef o.dst) os K)
        else ifB v (zo4 tab Y lk nt ops l (zb6 (refine ρ (some (d,true))) .undef o.dst) os K) (Y (zji+k) lk az os β (fun a os'=>zo4 tab Y lk nt ops l (zb6 (refine ρ (some (d,false))) a o.dst) os' K))
       | .undef=>zo4 tab Y lk nt ops l (zb6 ρ .undef o.dst) os K
       |_=>none
      else none
     |none=>none
   else none
  |none=>zb0 P O lk nt ops o ρ os fun ref a os' _ _=>zo4 tab Y lk nt ops l (zb6 (refine ρ ref) a o.dst) os' K
def zCQ{β:Type}(a:(Nat->PA)->List PO->Option β)(k:Zf->(Nat->PA)->List PO->Option β):Zf->(Nat->PA)->List PO->Option β
 | .normal,ρ,os=>a ρ os
 | .exit id,ρ,os=>k (.exit id) ρ os
 | .ret,ρ,os=>k .ret ρ os
def zE7{β:Type}(id:Nat)(k:Zf->(Nat->PA)->List PO->Option β):Zf->(Nat->PA)->List PO->Option β
 | .exit id',ρ,os=>bif Nat.beq id' id then k .normal ρ os else k (.exit id') ρ os
 | .normal,ρ,os=>k .normal ρ os
 | .ret,ρ,os=>k .ret ρ os
def zbd:Code->Nat
 | .seq a b=>zbd a+zbd b
 | .cond _ a b=>zbd a+zbd b
 | .block _ c=>zbd c
 | .loop c=>zbd c+1
 | .rangeFunc ..=>1
 |_=>0
def zca:Code->Bool
 | .seq a b=>zca a||zca b
 | .cond _ a b=>zca a||zca b
 | .block _ c=>zca c
 | .loop c=>zca c
 | .rangeFunc _ _ _ c=>zca c
 | .ret=>true
 |_=>false
abbrev PX:=Zf×List DV×List OC
def vn(f:List DV->List OC->Option PX):Nat->List DV->List OC->Option PX
 |0,_,_=>none
 |n+1,L,M=>
  match f L M with
  |some (.normal,L',M')=>vn f n L' M'
  |x=>x
open Classical in
noncomputable def zS(f:List DV->List OC->Option PX)(L:List DV)(M:List OC):Option PX:=
 if h:∃n y,vn f n L M=some y then some (Classical.choose (Classical.choose_spec h)) else none
def yP{β:Type}(x:Option PX)(kx:Nat->List DV->List OC->Option β)(kr:List DV->List OC->Option β):Option β:=
 match x with
 |some (.exit id,L,M)=>kx id L M
 |some (.ret,L,M)=>kr L M
 |_=>none
def ziv(la:LA)(n0:Nat)(k:Nat):Bool:=Nat.ble (Nat.succ k) n0 && !listed la k
def free(lk:Nat->Bool)(la:LA):Bool:=(la.boxes.all fun x=>!lk x.1)&&(la.arrs.all fun x=>!lk x.1)&&((zhl la.own).all fun t=>!lk t)
def ztI(lk:Nat->Bool)(n0:Nat)(la:LA)(e:Zf)(ρ:Nat->PA)(os:List PO):Option PX:=
 match vec lk (fun m=>Nat.ble n0 m) la e ρ os with
 |some (_,L,M,_)=>some (e,L,M)
 |none=>none
end
theorem zg6{f:List DV->List OC->Option PX}:∀{n m:Nat} {L:List DV} {M:List OC} {x y:PX},vn f n L M=some x->vn f m L M=some y->x=y
 |0,_,_,_,_,_,e,_=>by cases e
 |_+1,0,_,_,_,_,_,e=>by cases e
 |n+1,m+1,L,M,x,y,e,e'=>by
  simp only[vn]at e e';rcases h:f L M with _|q
  .grind
  obtain⟨ex,L',M'⟩:=q;rw[h]at e e';cases ex with
  |normal=>exact zg6 e e'
  |exit id=>grind
  |ret=>grind
theorem zfl{f:List DV->List OC->Option PX}{L:List DV}{M:List OC}{x:PX}:zS f L M=some x↔∃n,vn f n L M=some x:=by
 unfold zS
 constructor
 .intro e;split at e<;>grind
 rintro⟨n,e⟩
 have h:∃n y,vn f n L M=some y:=⟨n,x,e⟩;rw[dif_pos h]
 grind[zg6]
theorem zdz(f:List DV->List OC->Option PX)(L:List DV)(M:List OC):zS f L M=match f L M with|some (.normal,L',M')=>zS f L' M'|x=>x:=by
  apply Option.ext;intro y;rw[zfl];cases h:f L M with
  | none => simp only; constructor
            · rintro⟨n,e⟩;cases n<;>simp[vn,h]at e
            simp
  |some q=>
    obtain⟨ex,L',M'⟩:=q;cases ex with
    |normal=>
      simp only[zfl]
      constructor
      · rintro⟨n,e⟩
        cases n<;>grind[vn]
      rintro⟨n,e⟩;exact⟨n+1,by grind[vn]⟩
    |exit id=>
      simp only
      constructor
      · rintro⟨n,e⟩
        cases n<;>grind[vn]
      intro e;exact⟨1,by grind[vn]⟩
    |ret=>
      simp only
      constructor
      · rintro⟨n,e⟩
        cases n<;>grind[vn]
      intro e;exact⟨1,by grind[vn]⟩
section
variable {P:Program} {O:Orc} {C:Nat->zh} {E:En}
theorem zbX{N:Nm}{r:Fr}{ρ:Nat->PA}(F:∀i,RepPA N (r i) (ρ i)){d:Nat}{b:Bool}(h:r d=.s (.one (.bool b))):∀i,RepPA N (r i) (refine ρ (some (d,b)) i):=by
 intro i;show RepPA N (r i) (bif Nat.beq i d then pd (.bool b) else ρ i);cases hb:Nat.beq i d
 .exact F i
 have:=Lz1 hb;subst this;rw[h];exact yS rfl
theorem zbE{N:Nm}{r:Fr}{ρ:Nat->PA}(F:∀i,RepPA N (r i) (ρ i)){v:Zb}{a:PA}(h:RepPA N v a)(dst:Option Nat):∀i,RepPA N (uL r v dst i) (zb6 ρ a dst i):=by
 intro i;rcases dst with _|d
 .exact F i
 show RepPA N (bif Nat.beq i d then v else r i) (bif Nat.beq i d then a else ρ i)
 grind
theorem zfW{β:Type}{v:DV}{a b:Option β}{x:β}(e:ifB v a b=some x):∃q,v=.bool q/\(bif q then a else b)=some x:=by
 cases v<;>first|cases e|skip
 rename_i q;exact⟨q,rfl,e⟩
theorem zie(hO:zaj O C){β:Type}{lk:Nat->Bool}{nt:Nat}{ops:Array Oper}{o:Oper}{ρ:Nat->PA}{os:List PO}{N:Nm}{r:Fr}{K:Option (Nat×Bool)->KT β}{x:β}(I:Zd E N os)(F:∀i,RepPA N (r i) (ρ i))(hlk:∀j,lk j=true->j<os.length)
  (e:zb0 P O lk nt ops o ρ os K=some x):∃ref a os' wr rd,K ref a os' wr rd=some x/\(∀i,RepPA N (r i) (refine ρ ref i))/\
   Ev (fun n=>yk P nt ops o (C n) r N.h) (fun p=>∃N',N'.h=p.2/\Sim E lk N os wr N' os' p.1 a):=by
 unfold zb0 at e;cases hT:inT nt o.dst
 .grind
 rw[hT]at e;simp only[Yzb]at e;rcases hc:comp P o.op with _|ko
 .grind
 rw[hc]at e;simp only at e;rcases hg:o.guard with _|gb
 .rw[hg]at e;obtain⟨a,os',wr,rd,h1,h2⟩:=zvW hO I F hlk e;refine⟨none,a,os',wr,rd,h1,F,?_⟩
  grind[yk,zep]
 obtain⟨j,b⟩:=gb;rw[hg]at e;simp only at e;rcases hd:(ops[j]?).bind (·.dst) with _|d
 .grind
 rw[hd]at e;simp only at e;cases hb:Nat.ble (Nat.succ d) nt
 .grind
 rw[hb]at e;simp only[Yzb]at e;have run:∀call,yk P nt ops o call r N.h=bif zgA (r d) b then runK r ko call N.h else some (zn,N.h):=fun call=>by
  unfold yk;rw[hT,hg];simp only[Yzb]
  grind[zep]
 split at e
 .rename_i v hρ;have hrd:=F d;rw[hρ]at hrd;have key:∀q,v=.bool q->(if q=b then pOp O lk (zzd P o.dst o.type) (refine ρ (some (d,q))) os ko (K (some (d,q))) else K (some (d,q)) .undef os [] [])=some x->(∃ref a os' wr rd,K ref a os' wr rd=some x/\(∀i,RepPA N (r i) (refine ρ ref i))/\
    Ev (fun n=>yk P nt ops o (C n) r N.h) (fun p=>∃N',N'.h=p.2/\Sim E lk N os wr N' os' p.1 a)):=fun q hq e2=>by
   subst hq;have hr:=yh hrd (c:=.bool q) rfl;have F':=zbX F hr;by_cases hqb:q=b
   .rw[Yzc hqb]at e2;obtain⟨a,os',wr,rd,h1,h2⟩:=zvW hO I F' hlk e2
    grind[zgA]
   rw[Yza hqb]at e2;refine⟨some (d,q),.undef,os,[],[],e2,F',⟨(zn,N.h),⟨N,rfl,.quiet I rfl⟩,0,fun n _=>?_⟩⟩;show yk P nt ops o (C n) r N.h=_;rw[run,hr];have:zgA (.s (.one (.bool q))) b=false:=by cases q<;>cases b<;>first|rfl|exact absurd rfl hqb
   grind
  cases b
  .obtain⟨q,rfl,e⟩:=zfW e
   grind
  obtain⟨q,rfl,e⟩:=zfW e
  grind
 .rename_i hρ;have hrd:r d=zn:=by
   have:=F d;rw[hρ]at this;trivial
  refine⟨none,.undef,os,[],[],e,F,⟨(zn,N.h),⟨N,rfl,.quiet I rfl⟩,0,fun n _=>?_⟩⟩;show yk P nt ops o (C n) r N.h=_;rw[run,hrd];rfl
 cases e
def sameO(a b:PO):Prop:=b=a\/∃nt ρ ps A B lbl n,a=.lop nt ρ ps A B lbl (.int .i64 (-1))/\b=.lop nt ρ ps A B lbl (.int .i64 (.ofNat n))
theorem sameO.refl(a:PO):sameO a a:=.inl rfl
theorem sameO.of{a b:PO}(h:b=a):sameO a b:=.inl h
theorem sameO.trans{a b c:PO}(h:sameO a b)(k:sameO b c):sameO a c:=by
 rcases h with rfl|⟨nt,ρ,ps,A,B,lbl,n,rfl,rfl⟩
 .exact k
 rcases k with rfl|⟨nt',ρ',ps',A',B',lbl',n',h,rfl⟩
 .exact .inr ⟨_,_,_,_,_,_,_,rfl,rfl⟩
 cases h
structure Zs (tab:Nat->Bool) (Y:Inl) (C:Nat->zh):Prop where
 o:∀{β:Type} {E:En} {lk:Nat->Bool} {N:Nm} {os:List PO} {g:Nat} {az:List PA} {vs:List Zb} {K:PA->List PO->Option β} {x:β},tab g=true->Zd E N os->RepPAL N vs az->(∀j,lk j=true->j<os.length)->Y g lk az os β K=some x->
  ∃a os',K a os'=some x/\Ev (fun n=>C n (.inl g) vs N.h) (fun p=>∃N',N'.h=p.2/\Zd E N' os'/\Nx N N'/\(∀j,lk j=true->sameO (og os j) (og os' j))/\RepPA N' p.1 a)
 m:∀{β:Type} {E:En} {lk:Nat->Bool} {N:Nm} {os:List PO} {g j:Nat} {az:List PA} {vs:List Zb} {K:PA->List PO->Option β} {x:β},tab g=true->Zd E N os->RepPAL N vs (pc (.own j)::az)->Y (zk4+g) lk (pc (.own j)::az) os β K=some x->
  ∃a os',K a os'=some x/\Ev (fun n=>C n (.inl g) vs N.h) (fun p=>∃N',N'.h=p.2/\Sim E lk N os [j] N' os' p.1 a)
 y:∀{β:Type} {E:En} {lk:Nat->Bool} {N:Nm} {os:List PO} {k nt lbl:Nat} {ρ:Nat->PA} {ps:List Nat} {A B:Code} {st:DV} {l:BN} {az:List PA} {vs:List Zb} {K:PA->List PO->Option β} {x:β},og os k=.lop nt ρ ps A B lbl st->N.μ k=.yld l->Zd E N os->RepPAL N vs az->(∀j,lk j=true->j<os.length)->Y (zji+k) lk az os β K=some x->
  ∃a os',K a os'=some x/\Ev (fun n=>C n (.inr l) vs N.h) (fun p=>∃N',N'.h=p.2/\Zd E N' os'/\Nx N N'/\(∀j,lk j=true->sameO (og os j) (og os' j))/\RepPA N' p.1 a)
theorem RepPAL.app{N:Nm}:∀{a b:List Zb} {x y:List PA},RepPAL N a x->RepPAL N b y->RepPAL N (a++b) (x++y)
 | [],_,[],_,_,H=>H
 |_::_,_,_::_,_,H,K=>⟨H.1,RepPAL.app H.2 K⟩
 | [],_,_::_,_,H,_=>H.elim
 |_::_,_,[],_,H,_=>H.elim
theorem zeY{N:Nm}:∀{ps:List (BN×Nat)} {xs:List (Nat⊕List DV)},RepCaps N ps xs->RepPAL N (ps.map fun(p:BN×Nat)=>Zb.s (.one (.ptr p.1 p.2))) (zs1 xs)
 | [],[],_=>trivial
 |p::ps,.inl k::xs,H=>⟨RepPA.of (v:=.one (.ptr p.1 p.2)) (p:=.one (.ptr k 0)) ⟨H.1.1,p.1,H.1.2.1,by rw[H.1.2.2]⟩,zeY H.2⟩
 |p::ps,.inr y::xs,H=>⟨RepPA.of (v:=.one (.ptr p.1 p.2)) (p:=.one (.d (.fp y 0))) H.1,zeY H.2⟩
 | [],_::_,H=>H.elim
 |_::_,[],H=>H.elim
theorem zol{N:Nm}:∀{ps:List (BN×Nat)} {caps:List (List DV)},RepL N.fz N.h (ps.map fun p=>.ptr p.1 p.2) (caps.map fun x=>.fp x 0)->RepPAL N (ps.map fun(p:BN×Nat)=>Zb.s (.one (.ptr p.1 p.2))) (caps.map fun x=>pd (.fp x 0))
 | [],[],_=>trivial
 |p::ps,y::caps,H=>⟨uO H.inv.1,zol H.inv.2⟩
 | [],_::_,H=>by have:=H.1;trivial
 |_::_,[],H=>by have:=H.1;trivial
theorem zeU{tab:Nat->Bool}{N:Nm}{r:Fr}{ρ:Nat->PA}{o:Oper}{g nt:Nat}{az:List PA}{ops:Array Oper}(F:∀i,RepPA N (r i) (ρ i))(e:ziJ P tab ρ o=some (g,az))(hT:inT nt o.dst=true):
  tab g=true/\∃vs,RepPAL N vs az/\∀call h,yk P nt ops o call r h=call (.inl g) vs h:=by
 unfold ziJ at e;cases hg:o.guard
 case some=>grind
 rw[hg]at e;simp only at e;rcases hc:comp P o.op with _|ko
 .grind
 rw[hc]at e;have step:∀call h,yk P nt ops o call r h=runK r ko call h:=fun call h=>by grind[yk,zep]
 cases ko<;>first|(cases (show (none:Option (Nat×List PA))=some (g,az) from e);done)|skip
 rename_i f args;have fin:∀(g':Nat) (ps:List (BN×Nat)) (vs:List Zb),kv r f=some (.s (.one (.fn g' ps)))->kvs r args=some vs->∀call h,runK r (.call f args) call h=call (.inl g') (vs++ps.map fun(p:BN×Nat)=>Zb.s (.one (.ptr p.1 p.2))) h:=by intro g' ps vs h1 h2 call h;simp only[runK,h1,h2,zH];show call (.inl g') ((cL vs).map (fun x=>x .nil)++ps.map fun(p:BN×Nat)=>Zb.s (.one (.ptr p.1 p.2))) h=_;rw[zkA]
 simp only at e;split at e
 .rename_i g';cases ht:tab g'
  .grind
  rw[ht]at e;simp only[Yzb]at e;rcases h2:pvs ρ args with _|as'
  .grind
  rw[h2]at e;cases e;obtain⟨v,k1,k2⟩:=wM (x:=.func g) (a:=pd (.fn g [])) F rfl;obtain⟨vs,k3,k4⟩:=zg5 F h2;obtain⟨w,rfl,hw⟩:=wU k2;obtain⟨ps,rfl,hps⟩:=Rep.fn_inv hw;cases ps with
  |cons p ps=>trivial
  |nil=>grind
 split at e
 .rename_i g' caps as' h1 h2;cases ht:tab g'
  .grind
  rw[ht]at e;cases e;obtain⟨v,k1,k2⟩:=wM F h1;obtain⟨vs,k3,k4⟩:=zg5 F h2;obtain⟨w,rfl,hw⟩:=yc k2;obtain⟨ps,rfl,hps⟩:=hw;exact⟨ht,_,k4.app (zeY hps),fun call h=>(step call h).trans (fin _ _ _ k1 k3 call h)⟩
 cases e
theorem zyi{N:Nm}{r:Fr}{ρ:Nat->PA}{os:List PO}{o:Oper}{k:Nat}{az:List PA}(I:Zd E N os)(F:∀i,RepPA N (r i) (ρ i))(e:zCv P ρ os o=some (k,az)):
  ∃ko vs nt' ρ' ps A B lbl st l,comp P o.op=some ko/\RepPAL N vs az/\og os k=.lop nt' ρ' ps A B lbl st/\N.μ k=.yld l/\∀call h,runK r ko call h=call (.inr l) vs h:=by
 unfold zCv at e;rcases hc:comp P o.op with _|ko
 .grind
 rw[hc]at e;cases ko<;>first|(cases (show (none:Option (Nat×List PA))=some (k,az) from e);done)|skip
 rename_i f args;simp only at e;split at e
 .rename_i k' as' h1 h2;split at e
  .rename_i nt' ρ' ps A B lbl st ho;cases e;obtain⟨v,k1,k2⟩:=wM F h1;obtain⟨vs,k3,k4⟩:=zg5 F h2;obtain⟨w,rfl,hw⟩:=yc k2;have hR:=I.obj k;rw[ho]at hR;obtain⟨l,_,_,_,_,_,_,hl,_⟩:=hR;refine⟨_,vs,nt',ρ',ps,A,B,lbl,st,l,rfl,k4,ho,hl,fun call h=>?_⟩;have hwl:w=.yld l:=hw.2.trans hl;subst hwl;simp only[runK,k1,k3,zH];show call (.inr l) ((cL vs).map (fun x=>x .nil)) h=_;rw[zkA]
  cases e
 cases e
theorem zfq(hO:zaj O C){tab:Nat->Bool}{Y:Inl}(hY:Zs tab Y C){β γ:Type}{Q:γ->Prop}{lk:Nat->Bool}{nt:Nat}{ops:Array Oper}{x:β}{K:(Nat->PA)->List PO->Option β}{kk:Nat->Fr->Za->Option γ}:∀(l:List Oper) (ρ:Nat->PA) (os:List PO) (N:Nm) (r:Fr),
  zo4 P O tab Y lk nt ops l ρ os K=some x->Zd E N os->(∀i,RepPA N (r i) (ρ i))->(∀j,lk j=true->j<os.length)->
  (∀ρ' os' N' r',K ρ' os'=some x->Zd E N' os'->(∀i,RepPA N' (r' i) (ρ' i))->Nx N N'->(∀j,lk j=true->sameO (og os j) (og os' j))->(∀i,i∉l.filterMap (·.dst)->r' i=r i)->Ev (fun n=>kk n r' N'.h) Q)->
  Ev (fun n=>ziD P nt ops (C n) l r N.h (kk n)) Q
 | [],ρ,os,N,r,e,I,F,hlk,H=>H ρ os N r e I F (.refl N) (fun _ _=>.refl _) (fun _ _=>rfl)
 |o::l,ρ,os,N,r,e,I,F,hlk,H=>by
  simp only[zo4]at e;cases hi:ziJ P tab ρ o with
  |some q=>
   obtain⟨g,az⟩:=q;rw[hi]at e;simp only at e;cases hT:inT nt o.dst
   .grind
   rw[hT,Yzb]at e;obtain⟨ht,vs,rvs,run⟩:=zeU (ops:=ops) F hi hT;obtain⟨a,os',e1,ev⟩:=hY.o ht I rvs hlk e;have:(fun n=>ziD P nt ops (C n) (o::l) r N.h (kk n))=fun n=>CE.bindR (C n (.inl g) vs N.h) fun v h'=>ziD P nt ops (C n) l (uL r v o.dst) h' (kk n):=by grind[zbg]
   rw[this];refine Ev.bindR (ev.mono ?_)
   rintro⟨v,h'⟩ ⟨N',hh,i1,i2,i3,i4⟩
   simp only at hh i4 ⊢;subst hh;refine zfq hO hY l _ os' N' (uL r v o.dst) e1 i1 (zbE (fun i=>(F i).mono i2) i4 o.dst) (fun j hj=>?_) (fun ρ2 os2 N2 r2 k1 k2 k3 k4 k5 k6=>?_)
   .have h1:=i2.le;rw[i1.len,I.len]at h1
    grind
   refine H ρ2 os2 N2 r2 k1 k2 k3 (i2.trans k4) (fun j hj=>(i3 j hj).trans (k5 j hj)) (fun i hi=>?_)
   grind[xL]
  |none=>
  rw[hi]at e;simp only at e;cases hy:zCv P ρ os o with
  |some q=>
   obtain⟨k,az⟩:=q;rw[hy]at e;simp only at e;cases hT:inT nt o.dst
   .grind
   rw[hT,Yzb]at e;obtain⟨ko,vs,nt',ρ',ps,A,B,lbl,st,lb,hc,rvs,ho,hl,run⟩:=zyi I F hy;have go:∀(ref:Option (Nat×Bool)),(∀i,RepPA N (r i) (refine ρ ref i))->(∀n,yk P nt ops o (C n) r N.h=C n (.inr lb) vs N.h)->Y (zji+k) lk az os β (fun a os'=>zo4 P O tab Y lk nt ops l (zb6 (refine ρ ref) a o.dst) os' K)=some x->Ev (fun n=>ziD P nt ops (C n) (o::l) r N.h (kk n)) Q:=by
    intro ref F1 hrun e;obtain⟨a,os',e1,ev⟩:=hY.y ho hl I rvs hlk e;have:(fun n=>ziD P nt ops (C n) (o::l) r N.h (kk n))=fun n=>CE.bindR (C n (.inr lb) vs N.h) fun v h'=>ziD P nt ops (C n) l (uL r v o.dst) h' (kk n):=by grind[zbg]
    rw[this];refine Ev.bindR (ev.mono ?_)
    rintro⟨v,h'⟩ ⟨N',hh,i1,i2,i3,i4⟩
    simp only at hh i4 ⊢;subst hh;refine zfq hO hY l _ os' N' (uL r v o.dst) e1 i1 (zbE (fun i=>(F1 i).mono i2) i4 o.dst) (fun j hj=>?_) (fun ρ2 os2 N2 r2 k1 k2 k3 k4 k5 k6=>?_)
    .have h1:=i2.le;rw[i1.len,I.len]at h1
     grind
    refine H ρ2 os2 N2 r2 k1 k2 k3 (i2.trans k4) (fun j hj=>(i3 j hj).trans (k5 j hj)) (fun i hi=>?_)
    grind[xL]
   have pass:∀(ref:Option (Nat×Bool)),(∀i,RepPA N (r i) (refine ρ ref i))->(∀n,yk P nt ops o (C n) r N.h=some (zn,N.h))->zo4 P O tab Y lk nt ops l (zb6 (refine ρ ref) .undef o.dst) os K=some x->Ev (fun n=>ziD P nt ops (C n) (o::l) r N.h (kk n)) Q:=by
    intro ref F1 hrun e;have:(fun n=>ziD P nt ops (C n) (o::l) r N.h (kk n))=fun n=>ziD P nt ops (C n) l (uL r zn o.dst) N.h (kk n):=by
     funext n
     rw[zbg,hrun];rfl
    rw[this];refine zfq hO hY l _ os N (uL r zn o.dst) e I (zbE F1 (show RepPA N zn .undef from rfl) o.dst) hlk (fun ρ2 os2 N2 r2 k1 k2 k3 k4 k5 k6=>?_);refine H ρ2 os2 N2 r2 k1 k2 k3 k4 k5 (fun i hi=>?_)
    grind[xL]
   rcases hg:o.guard with _|gb
   .rw[hg]at e;refine go none F (fun n=>?_) e;simp_all[yk,zep]
   obtain⟨j,b⟩:=gb;rw[hg]at e;simp only at e;rcases hd:(ops[j]?).bind (·.dst) with _|d
   .grind
   rw[hd]at e;simp only at e;cases hb:Nat.ble (Nat.succ d) nt
   .grind
   rw[hb]at e;simp only[Yzb]at e;have krun:∀call,yk P nt ops o call r N.h=bif zgA (r d) b then runK r ko call N.h else some (zn,N.h):=fun call=>by
    unfold yk;rw[hT,hg];simp only[Yzb]
    grind[zep]
   split at e
   .rename_i v hρ;have hrd:=F d;rw[hρ]at hrd;cases b
    .obtain⟨q,rfl,e⟩:=zfW e;have hr:=yh hrd (c:=.bool q) rfl;have F':=zbX F hr;cases q
     case true=>exact pass _ F' (fun n=>by rw[krun,hr];rfl) e
     exact go _ F' (fun n=>by rw[krun,hr];exact run _ _) e
    obtain⟨q,rfl,e⟩:=zfW e;have hr:=yh hrd (c:=.bool q) rfl;have F':=zbX F hr;cases q
    .exact pass _ F' (fun n=>by rw[krun,hr];rfl) e
    exact go _ F' (fun n=>by rw[krun,hr];exact run _ _) e
   .rename_i hρ;have hrd:r d=zn:=by
     have:=F d;rw[hρ]at this;exact this
    exact pass none F (fun n=>by rw[krun,hrd];rfl) e
   cases e
  |none=>
  rw[hy]at e;simp only at e;obtain⟨ref,a,os',wr,rd,e1,F1,ev⟩:=zie hO I F hlk e;have:(fun n=>ziD P nt ops (C n) (o::l) r N.h (kk n))=fun n=>CE.bindR (yk P nt ops o (C n) r N.h) fun v h'=>ziD P nt ops (C n) l (uL r v o.dst) h' (kk n):=by grind[zbg]
  rw[this];refine Ev.bindR (ev.mono ?_)
  rintro⟨v,h'⟩ ⟨N',hh,S⟩
  simp only at hh S ⊢;subst hh;refine zfq hO hY l _ os' N' (uL r v o.dst) e1 S.inv (zbE (fun i=>(F1 i).mono S.nx) S.val o.dst) (fun j hj=>?_) (fun ρ2 os2 N2 r2 k1 k2 k3 k4 k5 k6=>?_)
  .have h1:=S.nx.le;rw[S.inv.len,I.len]at h1
   grind
  refine H ρ2 os2 N2 r2 k1 k2 k3 (S.nx.trans k4) (fun j hj=>(sameO.of (S.lock j hj)).trans (k5 j hj)) (fun i hi=>?_)
  grind[xL]
theorem zxL{la:LA}{n0 k:Nat}(h:ziv la n0 k=true):k<n0/\listed la k=false:=by unfold ziv at h;rw[LzC,Yzy]at h;exact⟨Lz4 h.1,h.2⟩
theorem zyv{D:List Pl}{Ow:List (Pl×Nat)}{la:LA}{B:List PO}{L:List DV}{M:List OC}{n0:Nat}(h:B.length=n0):n0<=(hOs D Ow la B n0 L M).length:=by grind[hOs,zda,zdc,q7]
theorem ziA:∀(ms:List (Option Nat)) (os:List PO),(kill ms os).length=os.length
 | [],_=>rfl
 |none::ms,os=>ziA ms os
 |some m::ms,os=>by simp only[kill];rw[ziA ms,yd]
theorem ui:∀(ms:List (Option Nat)) (os:List PO) (k:Nat),(some k∈ms/\og (kill ms os) k=.dead)\/(some k∉ms/\og (kill ms os) k=og os k)
 | [],os,k=>.inr ⟨by simp,rfl⟩
 |none::ms,os,k=>by simp only[kill];rcases ui ms os k with⟨a,b⟩|⟨a,b⟩<;>grind
 |some m::ms,os,k=>by simp only[kill];rcases ui ms (oset .dead os m) k with⟨a,b⟩|⟨a,b⟩<;>grind[zF,zdE]
end
end Go.PE
end
section
namespace Go.PE
open Go Go.CE
theorem zcl{h h2 h':Za}{c:Option Zc}{v:Zb}(e:zbY h c=some (v,h')):zbY h2 c=some (v,h2):=by cases c<;>cases e;rfl
theorem zlp{h h2 h':Za}{c:Option (List Zc)}{v:Zb}(e:zgF h c=some (v,h')):zgF h2 c=some (v,h2):=by cases c<;>cases e;rfl
theorem zia{h h2 h':Za}{n:Option Nat}{cs:List Zc}{off:Nat}{v:Zb}(e:CE.part n cs off h=some (v,h')):CE.part n cs off h2=some (v,h2):=by
 rcases n with _|n
 .exact zcl e
 exact zlp e
theorem zql{h h2 h':Za}{w v:Zb}(e:some (w,h)=some (v,h')):(some (w,h2):Res)=some (v,h2):=by grind
theorem zs9{h' h2:Za}{b:Bool}{x y:Res}{v:Zb}(e:(bif b then x else none)=some (v,h'))(H:x=some (v,h')->y=some (v,h2)):(bif b then y else none)=some (v,h2):=by grind
section
variable {h h2 h':Za} {v:Zb}
theorem zyn{c a b:Zb}(e:zhM c a b h=some (v,h')):zhM c a b h2=some (v,h2):=by unfold zhM za3 zu at e ⊢;split at e<;>grind
theorem zu9{zs:List Zc}{l:List (Nat×Nat×Zb)}(e:zjt zs l h=some (v,h')):zjt zs l h2=some (v,h2):=zlp e
theorem zu4{x:Zb}(e:zmO x h=some (v,h')):zmO x h2=some (v,h2):=by unfold zmO uw zu at e ⊢;split at e<;>grind
theorem zBo{g:IntKind->Int->Int->Option Zc}{x y:Zb}(e:zgC g x y h=some (v,h')):zgC g x y h2=some (v,h2):=by
 unfold zgC zeF zu at e ⊢;split at e
 .split at e
  .exact zs9 e zcl
  cases e
 cases e
theorem zu3{g:IntKind->Int->Int->Option Zc}{x y:Zb}(e:zgQ g x y h=some (v,h')):zgQ g x y h2=some (v,h2):=by
 unfold zgQ vu zu at e ⊢;split at e
 .split at e<;>grind[zcl]
 cases e
theorem zBk{op:BinOp}{x y:Zb}(e:zCb op x y h=some (v,h')):zCb op x y h2=some (v,h2):=by unfold zCb zfw zu at e ⊢;split at e<;>grind[zcl]
theorem zyo{neg:Bool}{x y:Zb}(e:zp5 neg x y h=some (v,h')):zp5 neg x y h2=some (v,h2):=by grind[zp5,ki]
theorem zEb{q:Nat⊕List Nat}{neg:Bool}{x y:Zb}(e:vEq q neg x y h=some (v,h')):vEq q neg x y h2=some (v,h2):=by grind[vEq,znn]
theorem zBl{x:Zb}(e:zCc x h=some (v,h')):zCc x h2=some (v,h2):=by unfold zCc zfx zu at e ⊢;split at e<;>grind
theorem zBm{x:Zb}(e:zzc x h=some (v,h')):zzc x h2=some (v,h2):=by unfold zzc zfy zu at e ⊢;split at e<;>grind
theorem zyt{t:IntKind}{x:Zb}(e:zoA t x h=some (v,h')):zoA t x h2=some (v,h2):=by unfold zoA zba zu at e ⊢;split at e<;>grind
theorem zyp{f:Nat}{l:List Zb}(e:zoz f l h=some (v,h')):zoz f l h2=some (v,h2):=by unfold zoz za5 at e ⊢;split at e<;>grind
theorem zpw{st:Nat}{lo hi mx:Option Opd}{t:Tr Zb}{b:BN}{off len cap:Nat}(e:xw st lo hi mx t h b off len cap=some (v,h')):xw st lo hi mx t h2 b off len cap=some (v,h2):=by
 unfold xw at e ⊢;split at e
 .split at e
  .split at e<;>grind
  cases e
 cases e
theorem zpv{st:Nat}{lo hi mx:Option Opd}{t:Tr Zb}{b:BN}{off len cap:Nat}(e:xj st lo hi mx t h b off len cap=some (v,h')):xj st lo hi mx t h2 b off len cap=some (v,h2):=by
 unfold xj at e ⊢;split at e
 .split at e
  .split at e
   .split at e
    .split at e<;>grind
    cases e
   cases e
  cases e
 split at e
 .split at e<;>grind
 cases e
theorem zu2{st:Nat}{x:Zb}{lo hi mx:Option Zb}(e:vV st x lo hi mx h=some (v,h')):vV st x lo hi mx h2=some (v,h2):=by unfold vV uu zu at e ⊢;split at e<;>grind[we,zpw,zpv]
theorem zsi{x:Zb}{lo hi:Option Zb}(e:zhL x lo hi h=some (v,h')):zhL x lo hi h2=some (v,h2):=by
 unfold zhL wi zu at e ⊢;split at e
 .split at e
  .split at e<;>grind
  cases e
 cases e
theorem zys{x:Zb}{off:Nat}(e:uq x off h=some (v,h')):uq x off h2=some (v,h2):=by unfold uq za9 zu at e ⊢;split at e<;>grind
theorem zu8{x:Zb}{off:Nat}{n:Option Nat}(e:zmR x off n h=some (v,h')):zmR x off n h2=some (v,h2):=by unfold zmR uA zu at e ⊢;split at e<;>grind[zia]
theorem zBn{st:Nat}{x i:Zb}(e:zvH st x i h=some (v,h')):zvH st x i h2=some (v,h2):=by
 unfold zvH zfB zu at e ⊢;split at e
 .split at e<;>grind
 cases e
theorem zu6{len st:Nat}{x i:Zb}(e:ze6 len st x i h=some (v,h')):ze6 len st x i h2=some (v,h2):=by
 unfold ze6 uy zu at e ⊢;split at e
 .split at e<;>grind
 .split at e<;>grind
 cases e
theorem zu7{len st:Nat}{n:Option Nat}{x i:Zb}(e:zmQ len st n x i h=some (v,h')):zmQ len st n x i h2=some (v,h2):=by
 unfold zmQ uz zu at e ⊢;split at e
 .split at e
  .exact zs9 e zia
  cases e
 cases e
theorem zu5{x i:Zb}(e:zmP x i h=some (v,h')):zmP x i h2=some (v,h2):=by
 unfold zmP ux zu at e ⊢;split at e
 .split at e<;>grind[zcl]
 cases e
theorem zpx{x:Zb}{i:Nat}(e:wP x i h=some (v,h')):wP x i h2=some (v,h2):=by
 unfold wP xX zu at e ⊢;split at e
 .split at e<;>grind
 cases e
theorem zyq{x:Zb}(e:ztK x h=some (v,h')):ztK x h2=some (v,h2):=by unfold ztK za7 zu at e ⊢;split at e<;>grind
theorem zyr{x:Zb}(e:zgB x h=some (v,h')):zgB x h2=some (v,h2):=by grind[zgB,za8]
theorem zsj{m:Bool}{x:Zb}{xs:List Zb}(e:zhN m x xs h=some (v,h')):zhN m x xs h2=some (v,h2):=by
 unfold zhN xm zu at e ⊢;split at e
 .split at e<;>grind
 cases e
theorem wp{x:Option Zb}{K K2:Zb->Res}(e:zH x K=some (v,h'))(H:∀a,K a=some (v,h')->K2 a=some (v,h2)):zH x K2=some (v,h2):=by
 rcases x with _|a
 .cases e
 exact H a e
end
def zb5:KOp->Bool
 | .mv _ | .pick .. | .build .. | .nilck _ | .bin .. | .shift .. | .str .. | .nilS .. | .eq .. | .not _ | .neg _ | .conv .. | .mkfn .. | .slice .. | .sslice .. | .foff .. | .field .. | .ixs .. | .ixarr .. | .ixagg .. | .ixstr .. | .extract .. | .lenS _ | .lenL _ | .minmax ..=>true
 |_=>false
theorem ztR{r:Fr}{ko:KOp}(hs:zb5 ko=true){call call2:zh}{h h2 h':Za}{v:Zb}(e:runK r ko call h=some (v,h')):runK r ko call2 h2=some (v,h2):=by
 cases ko<;>first|(exfalso;exact Bool.noConfusion hs)|skip
 .exact wp e fun _=>zql
 .exact wp e fun _ e=>wp e fun _ e=>wp e fun _=>zyn
 .grind[runK,zu9]
 .exact wp e fun _=>zu4
 .exact wp e fun _ e=>wp e fun _=>zBo
 .exact wp e fun _ e=>wp e fun _=>zu3
 .exact wp e fun _ e=>wp e fun _=>zBk
 .exact wp e fun _ e=>wp e fun _=>zyo
 .exact wp e fun _ e=>wp e fun _=>zEb
 .exact wp e fun _=>zBl
 .exact wp e fun _=>zBm
 .exact wp e fun _=>zyt
 .grind[runK,zyp]
 .refine wp e fun _ e=>?_;split at e<;>grind[zu2]
 .refine wp e fun _ e=>?_;split at e<;>grind[zsi]
 .exact wp e fun _=>zys
 .exact wp e fun _=>zu8
 .exact wp e fun _ e=>wp e fun _=>zBn
 .exact wp e fun _ e=>wp e fun _=>zu6
 .exact wp e fun _ e=>wp e fun _=>zu7
 .exact wp e fun _ e=>wp e fun _=>zu5
 .exact wp e fun _=>zpx
 .exact wp e fun _=>zyq
 .exact wp e fun _=>zyr
 refine wp e fun _ e=>?_;split at e<;>grind[zsj]
theorem zuR{n:Option Nat}{x v:Zb}{h h2 h':Za}(e:wE n x h=some (v,h'))(H:∀b off,x=.s (.one (.ptr b off))->h2.t.get b=h.t.get b):wE n x h2=some (v,h2):=by
 unfold wE za6 zu at e ⊢;split at e
 .rename_i b off;have:=H b off rfl;rw[this];unfold loadAt at e ⊢;split at e
  .exact zia e
  .rcases n with _|n
   .exact zcl e
   exact zlp e
  .exact zia e
  cases e
 .exact zs9 e zcl
 cases e
theorem zw9{h h2 h':Za}{v:Zb}{l:Option (List Zc)}(e:zeM h l=some (v,h')):zeM h2 l=some (v,h2):=by
 unfold zeM at e ⊢;split at e
 .split at e<;>grind
 cases e
theorem zyU{x v:Zb}{h h2 h':Za}(e:zcX (zu x) yw .nil h=some (v,h'))(H:∀b off len cap ex,x=.s (.one (.slc b off len cap ex))->h2.t.get b=h.t.get b):zcX (zu x) yw .nil h2=some (v,h2):=by
 unfold zcX zu at e ⊢;split at e
 .exact zql e
 .rename_i b off len cap ex;have:=H b off len cap ex rfl;rw[this];split at e<;>grind[zw9]
 cases e
end Go.PE
end
section
namespace Go.PE
open Go Go.CE
def zZ(ρ:Nat->PA)(l:List Nat):Nat->PA:=fun i=>bif zpp i l then ρ i else .bad
def zjg(bo:Nat->Nat)(n:Nat):Option Nat->Nat->Nat
 |none=>bo
 |some d=>fun i=>bif Nat.beq i d then n else bo i
def bOf(bo:Nat->Nat):Operand->Nat
 | .tmp t=>bo t
 |_=>0
def okW(ws:List (List Nat))(lo hi:Nat)(rd:List Nat):Bool:=((ws.drop lo).take (hi-lo)).all fun w=>rd.all fun k=>!zpp k w
def zuv(os:List PO):Bool:=os.all fun o=>match o with | .lop ..=>false|_=>true
def zB4(n j:Nat):Bool:=Nat.ble (Nat.succ j) n
section
variable (P:Program) (O:Orc) (tab:Nat->Bool) (Y:Inl)
def zdK(ρ:Nat->PA)(o:Oper):List Oper->Option (Nat×List PA)
 | []=>ziJ P tab ρ o
 |_::_=>none
def zDz(ρ:Nat->PA)(o:Oper):Option (Nat×Nat×List PA):=
 match ziJ P tab ρ o with
 |some (g,az)=>
  match az with
  | .s (.one (.own j))::rest=>some (g,j,rest)
  |_=>none
 |none=>none
def pDr{β:Type}(lk:Nat->Bool)(nt:Nat)(ops:Array Oper)(bs:List Nat)(es:List Bool):Nat->List Oper->(Nat->PA)->List PO->(Nat->Nat)->List (List Nat)->List (Nat×Nat×List Nat)->((Nat->PA)->List PO->Option β)->Option β
 |_,[],ρ,os,_,ws,ps,K=>bif ps.all (fun p=>okW ws p.1 p.2.1 p.2.2) then K ρ os else none
 |i,o::l,ρ,os,bo,ws,ps,K=>
  bif yK P o.op then
   match comp P o.op with
   |none=>none
   |some ko=>
    bif zb5 ko then
     zb0 P O (fun _=>true) nt ops o (zZ ρ (o.looksAt ops)) os fun ref a _ _ _=>pDr lk nt ops bs es (Nat.succ i) l (zb6 (refine ρ ref) a o.dst) os (zjg bo (match trk (refine (zZ ρ (o.looksAt ops)) ref) ko with|some x=>bOf bo x|none=>ws.length) o.dst) ws ps K
    else
     match zj6 ko with
     |none=>none
     |some x=>
      bif Nat.beq (ce (fun j=>bef bs j i) 0 es) (ce (fun j=>!bef bs i j) 0 es) then
       zb0 P O (fun _=>true) nt ops o (zZ ρ (o.looksAt ops)) os fun ref a _ _ _=>pDr lk nt ops bs es (Nat.succ i) l (zb6 (refine ρ ref) a o.dst) os (zjg bo ws.length o.dst) ws ps K
      else
       bif Nat.ble (bOf bo x) (ce (fun j=>bef bs j i) 0 es)&&Nat.ble (ce (fun j=>bef bs j i) 0 es) ws.length&&Nat.ble ws.length (ce (fun j=>!bef bs i j) 0 es) then
        zb0 P O (fun _=>true) nt ops o (zZ ρ (o.looksAt ops)) os fun ref a _ _ rd=>pDr lk nt ops bs es (Nat.succ i) l (zb6 (refine ρ ref) a o.dst) os (zjg bo ws.length o.dst) ws (ps++[(ce (fun j=>bef bs j i) 0 es,ce (fun j=>!bef bs i j) 0 es,rd)]) K
       else none
  else
   match zdK P tab (zZ ρ (o.looksAt ops)) o l with
   |some (g,az)=>bif inT nt o.dst&&ps.all (fun p=>okW ws p.1 p.2.1 p.2.2&&Nat.ble p.2.1 ws.length) then Y g lk az os β (fun a os'=>K (zb6 ρ a o.dst) os') else none
   |none=>
   match zDz P tab (zZ ρ (o.looksAt ops)) o with
   |some (g,j,az)=>bif inT nt o.dst then Y (zk4+g) lk (pc (.own j)::az) os β (fun a os'=>pDr lk nt ops bs es (Nat.succ i) l (zb6 ρ a o.dst) os' (zjg bo (Nat.succ ws.length) o.dst) (ws++[[j]]) ps K) else none
   |none=>
   match ziJ P tab (zZ ρ (o.looksAt ops)) o with
   |some (g,az)=>bif inT nt o.dst then Y g (zB4 os.length) az (List.replicate os.length .dead) β (fun a os'=>pDr lk nt ops bs es (Nat.succ i) l (zb6 ρ a o.dst) (os++os'.drop os.length) (zjg bo (Nat.succ ws.length) o.dst) (ws++[[]]) ps K) else none
   |none=>
   zb0 P O lk nt ops o (zZ ρ (o.looksAt ops)) os fun ref a os' wr _=>pDr lk nt ops bs es (Nat.succ i) l (zb6 (refine ρ ref) a o.dst) os' (zjg bo (Nat.succ ws.length) o.dst) (ws++[wr]) ps K
end
section
variable {P:Program} {O:Orc} {C:Nat->zh} {E:En}
theorem zxg{β:Type}{N:Nm}{os:List PO}{r:Fr}{ρ:Nat->PA}{k:KT β}{x:β}{sh:Sh}(I:Zd E N os)(F:∀i,RepPA N (r i) (ρ i)){ko:KOp}(hq:zb5 ko=true\/∃y,zj6 ko=some y)(e:pOp O (fun _=>true) sh ρ os ko k=some x):GoalQ N os r ρ ko k x:=by
 cases ko with
 |mv a=>exact zE9 I F e
 |pick c a b=>exact zvZ I F e
 |build zs parts=>exact zrp I F e
 |load n a=>exact zv2 I F e
 |nilck a=>exact zrj I F e
 |bin op a b=>exact zAG I F e
 |shift l a b=>exact zri I F e
 |str op a b=>exact zAy I F e
 |nilS neg a b=>exact zv0 I F e
 |eq q neg a b=>exact zFa I F e
 |not a=>exact zAz I F e
 |neg a=>exact zAA I F e
 |conv t a=>exact zv6 I F e
 |b2s a=>exact zAH I F e
 |mkfn f caps=>exact zv1 I F e
 |slice st a lo hi mx=>exact zrh I F e
 |sslice a lo hi=>exact znr I F e
 |foff a off=>exact zv5 I F e
 |field a off n=>exact zro I F e
 |ixs st a i=>exact zAE I F e
 |ixarr len st a i=>exact zrm I F e
 |ixagg len st n a i=>exact zrn I F e
 |ixstr a i=>exact zrl I F e
 |extract a i=>exact zjX I F e
 |lenS a=>exact zv3 I F e
 |lenL a=>exact zv4 I F e
 |minmax m a xs=>exact zns I F e
 |_=>rcases hq with h|⟨y,h⟩<;>cases h
def zED(P:Program){β:Type}(nt:Nat)(ops:Array Oper)(o:Oper)(ko:KOp)(N:Nm)(os:List PO)(r:Fr)(ρ:Nat->PA)(K:Option (Nat×Bool)->KT β)(x:β):Prop:=
  ∃ref a rd v,K ref a os [] rd=some x/\(∀i,RepPA N (r i) (refine ρ ref i))/\RepPA N v a/\(∀call,yk P nt ops o call r N.h=some (v,N.h))/\
    (∀xo,trk (refine ρ ref) ko=some xo->∀N':Nm,(∀t,xo=.tmp t->RepPA N' (r t) (refine ρ ref t))->RepPA N' v a)/\
    ((∀call h2,∃h',yk P nt ops o call r h2=some (v,h'))\/(∃xo,zj6 ko=some xo/\∃b:BN,(∀call h2,h2.t.get b=N.h.t.get b->∃h',yk P nt ops o call r h2=some (v,h'))/\
      ((∃ j, rd = [j] /\ j < N.n /\ blk (N.μ j) = some b /\ held (og os j) /\ ∀ N' : Nm, (∀ t, xo = .tmp t -> RepPA N' (r t) (refine ρ ref t)) -> j < N'.n) \/
       (rd=[]/\∀N':Nm,(∀t,xo=.tmp t->RepPA N' (r t) (refine ρ ref t))->N'.fz b/\∃y,N'.h.t.get b=some y))))
theorem zkt{r:Fr}{ρ:Nat->PA}{xo:Operand}{N':Nm}(H:∀t,xo=Operand.tmp t->RepPA N' (r t) (ρ t)){u:Zb}{pa:PA}(hu:kv r xo=some u)(hpa:pv ρ xo=some pa):RepPA N' u pa:=by
 cases xo with
 |tmp t=>cases hu;cases hpa<;>grind
 |const cv=>
  simp only[kv]at hu;simp only[pv]at hpa;rcases hcv:zs2 cv with _|sv
  .grind
  rw[hcv]at hu hpa;cases hu;simp only at hpa;rcases hps:pvS sv with _|q
  .grind
  rw[hps]at hpa;cases hpa;exact .of (zqP hps)
 |func f=>cases hu;cases hpa;exact uO (.fn_mk (.nil _ _))
 |global g=>cases hpa
theorem zm9{β:Type}{nt:Nat}{ops:Array Oper}{o:Oper}{ρ:Nat->PA}{os:List PO}{N:Nm}{r:Fr}{K:Option (Nat×Bool)->KT β}{x:β}{sh:Sh}(I:Zd E N os){ko:KOp}(hq:zb5 ko=true\/∃y,zj6 ko=some y)
  (ref:Option (Nat×Bool)) (F':∀i,RepPA N (r i) (refine ρ ref i)) (run:∀call h,yk P nt ops o call r h=runK r ko call h) (e:pOp O (fun _=>true) sh (refine ρ ref) os ko (K ref)=some x):zED P nt ops o ko N os r ρ K x:=by
 obtain⟨v,a,rd,h1,h2,h3,h4,h5⟩:=zxg I F' hq e;refine⟨ref,a,rd,v,h1,F',h3,fun call=>(run call N.h).trans (h2 call),?_,?_⟩
 .intro xo hxo N' H;have hk:∃u pa,kv r xo=some u/\pv (refine ρ ref) xo=some pa:=by
   cases hp:pv (refine ρ ref) xo
   case some=>obtain⟨u,hu,_⟩:=wM F' hp;grind
   exfalso;have:∀y,trk (refine ρ ref) ko=some y->pv (refine ρ ref) y=none->False:=by
    intro y hy hp;cases ko<;>simp only[trk]at hy<;>first|cases hy|skip
    all_goals first
     |(simp only[pOp,hp,w1,za]at e;cases e;done)
     |(split at hy<;>first|(cases hy;simp only[pOp,hp,w1]at e;cases e;done)|cases hy)
   grind
  obtain⟨u,pa,hu,hpa⟩:=hk;exact h4 xo hxo N' u pa hu hpa (zkt H hu hpa)
 rcases hq with hs|⟨y,hy⟩
 .exact .inl fun call h2'=>⟨h2',by rw[run];exact ztR hs (h2 call)⟩
 obtain⟨w,kw,hw⟩:=h5 y hy;have cr:∀N':Nm,(∀t,y=.tmp t->RepPA N' (r t) (refine ρ ref t))->∀u pa,kv r y=some u->pv (refine ρ ref) y=some pa->RepPA N' u pa:=fun N' H u pa hu hpa=>zkt H hu hpa;have loc:∀call h2',(∀b,blk w=some b->h2'.t.get b=N.h.t.get b)->runK r ko call h2'=some (v,h2'):=by
  intro call h2' H;have hr:=h2 call;cases ko<;>simp only[zj6]at hy<;>cases hy
  .simp only[runK,kw,zH]at hr ⊢;exact zuR hr fun b off he=>by cases he;exact H b rfl
  simp only[runK,kw,zH]at hr ⊢;exact zyU hr fun b o' l' c' e' he=>by cases he;exact H b rfl
 rcases hw with hw|⟨b,hb,hsrc⟩
 .simp_all
 refine .inr ⟨y,hy,b,fun call h2' hh=>⟨h2',by grind⟩,?_⟩
 grind
theorem zjP{β:Type}{nt:Nat}{ops:Array Oper}{o:Oper}{ρ:Nat->PA}{os:List PO}{N:Nm}{r:Fr}{K:Option (Nat×Bool)->KT β}{x:β}(I:Zd E N os)(F:∀i,RepPA N (r i) (ρ i))
  {ko:KOp} (hc:comp P o.op=some ko) (hq:zb5 ko=true\/∃y,zj6 ko=some y) (e:zb0 P O (fun _=>true) nt ops o ρ os K=some x):zED P nt ops o ko N os r ρ K x:=by
 unfold zb0 at e;cases hT:inT nt o.dst
 .grind
 rw[hT]at e;simp only[Yzb]at e;rw[hc]at e;simp only at e;rcases hg:o.guard with _|gb
 .rw[hg]at e;refine zm9 I hq none F (fun call h=>?_) e
  grind[yk,zep]
 obtain⟨j,b⟩:=gb;rw[hg]at e;simp only at e;rcases hd:(ops[j]?).bind (·.dst) with _|d
 .grind
 rw[hd]at e;simp only at e;cases hb:Nat.ble (Nat.succ d) nt
 .grind
 rw[hb]at e;simp only[Yzb]at e;have run:∀call h,yk P nt ops o call r h=bif zgA (r d) b then runK r ko call h else some (zn,h):=fun call h=>by
  unfold yk;rw[hT,hg];simp only[Yzb]
  grind[zep]
 split at e
 .rename_i v hρ;have hrd:=F d;rw[hρ]at hrd;have key:∀q,v=.bool q->(if q=b then pOp O (fun _=>true) (zzd P o.dst o.type) (refine ρ (some (d,q))) os ko (K (some (d,q))) else K (some (d,q)) .undef os [] [])=some x->zED P nt ops o ko N os r ρ K x:=fun q hq2 e2=>by
   subst hq2;have hr:=yh hrd (c:=.bool q) rfl;have F':=zbX F hr;by_cases hqb:q=b
   .rw[Yzc hqb]at e2
    grind[zm9,zgA]
   rw[Yza hqb]at e2;have hr2:∀call h,yk P nt ops o call r h=some (zn,h):=fun call h=>by
    rw[run,hr];have:zgA (.s (.one (.bool q))) b=false:=by cases q<;>cases b<;>first|rfl|exact absurd rfl hqb
    grind
   exact⟨some (d,q),.undef,[],zn,e2,F',rfl,fun call=>hr2 call N.h,fun _ _ _ _=>rfl,.inl fun call h2=>⟨h2,hr2 call h2⟩⟩
  cases b
  .obtain⟨q,rfl,e⟩:=zfW e
   grind
  obtain⟨q,rfl,e⟩:=zfW e
  grind
 .rename_i hρ;have hrd:r d=zn:=by
   have:=F d;rw[hρ]at this;trivial
  have hr2:∀call h,yk P nt ops o call r h=some (zn,h):=fun call h=>by rw[run,hrd];rfl
  exact⟨none,.undef,[],zn,e,F,rfl,fun call=>hr2 call N.h,fun _ _ _ _=>rfl,.inl fun call h2=>⟨h2,hr2 call h2⟩⟩
 cases e
end
end Go.PE
end
