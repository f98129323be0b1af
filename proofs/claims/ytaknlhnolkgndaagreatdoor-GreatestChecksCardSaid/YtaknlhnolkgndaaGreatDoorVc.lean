/-
  Lemmas. No condition.
-/
import Derived.Test.YtaknlhnolkgndaaGreatDoorVb
set_option linter.unusedSimpArgs false
set_option linter.unusedVariables false
section
namespace Go.PE
open Go Go.CE
inductive DV where
 |bool (b:Bool)
 |int (k:IntKind) (n:Int)
 |str (s:ByteArray)
 |nils
 |lst (st:Nat) (xs:List (List DV))
 |fp (xs:List DV) (off:Nat)
 |fn (f:Nat) (caps:List (List DV))
 |nilf
 |nilp
 |nilm
 |nili
 |u
inductive DS where
 |one (d:DV)
 |agg (ds:List DV)
inductive DA where
 |s (d:DS)
 |tup (l:List DS)
def DS.cells:DS->List DV
 | .one d=>[d]
 | .agg ds=>ds
inductive Rep (fz:BN->Prop) (h:Za):Zc->DV->Prop
 |bool (b:Bool):Rep fz h (.bool b) (.bool b)
 |int (k:IntKind) (n:Int):Rep fz h (.int k n) (.int k n)
 |str (s:ByteArray):Rep fz h (.str s) (.str s)
 |nils:Rep fz h .nils .nils
 |nilf:Rep fz h .nilf .nilf
 |nilp:Rep fz h .nilp .nilp
 |nilm:Rep fz h .nilm .nilm
 |nili:Rep fz h .nili .nili
 |u (c:Zc):Rep fz h c .u
 |lst {b:BN} {o:Zf} {off cap:Nat} {ex:Bool} {st:Nat} {xs:List (List DV)} (cs:List Zc) (hb:fz b) (hg:h.t.get b=some o) (hc:ex=true->xs.length<=cap)
   (ha:rd (xs.length*st) off o=some cs) (h1:∀(i:Nat) (x:List DV),xs[i]? = some x->x.length=st)
   (h2:∀(i:Nat) (x:List DV) (j:Nat) (c:Zc) (d:DV),xs[i]? = some x->cs[i*st+j]? = some c->x[j]? = some d->Rep fz h c d):Rep fz h (.slc b off xs.length cap ex) (.lst st xs)
 |fp {b:BN} {o:Zf} {base:Nat} {xs:List DV} {off:Nat} (cs:List Zc) (hb:fz b) (hg:h.t.get b=some o) (h1:rd xs.length base o=some cs)
   (h2:∀(j:Nat) (c:Zc) (d:DV),cs[j]? = some c->xs[j]? = some d->Rep fz h c d):Rep fz h (.ptr b (base+off)) (.fp xs off)
 |fn {f:Nat} {ps:List (BN×Nat)} {caps:List (List DV)} (css:Nat->List Zc) (os:Nat->Zf) (hl:ps.length=caps.length)
   (h1:∀(i:Nat) (p:BN×Nat) (x:List DV),ps[i]? = some p->caps[i]? = some x->fz p.1/\h.t.get p.1=some (os i)/\rd x.length p.2 (os i)=some (css i))
   (h2:∀(i:Nat) (p:BN×Nat) (x:List DV) (j:Nat) (c:Zc) (d:DV),ps[i]? = some p->caps[i]? = some x->(css i)[j]? = some c->x[j]? = some d->Rep fz h c d):Rep fz h (.fn f ps) (.fn f caps)
structure FG (fz:BN->Prop) (h:Za) (fz':BN->Prop) (h':Za):Prop where
 sub:∀b o,fz b->h.t.get b=some o->fz' b
 old:∀b o,fz b->h.t.get b=some o->h'.t.get b=some o
theorem FG.refl(fz:BN->Prop)(h:Za):FG fz h fz h:=⟨fun _ _ h _=>h,fun _ _ _ h=>h⟩
theorem FG.trans{f1 f2 f3:BN->Prop}{h1 h2 h3:Za}(a:FG f1 h1 f2 h2)(b:FG f2 h2 f3 h3):FG f1 h1 f3 h3:=⟨fun x o hx ho=>b.sub x o (a.sub x o hx ho) (a.old x o hx ho),fun x o hx ho=>b.old x o (a.sub x o hx ho) (a.old x o hx ho)⟩
theorem Rep.mono{fz fz':BN->Prop}{h h':Za}(g:FG fz h fz' h'){c:Zc}{d:DV}(H:Rep fz h c d):Rep fz' h' c d:=by
 induction H with
 |bool b=>exact .bool b
 |int k n=>exact .int k n
 |str s=>exact .str s
 |nils=>exact .nils
 |nilf=>exact .nilf
 |nilp=>exact .nilp
 |nilm=>exact .nilm
 |nili=>exact .nili
 |u c=>exact .u c
 |lst cs hb hg hc ha h1 h2 ih=>exact .lst cs (g.sub _ _ hb hg) (g.old _ _ hb hg) hc ha h1 ih
 |fp cs hb hg h1 h2 ih=>exact .fp cs (g.sub _ _ hb hg) (g.old _ _ hb hg) h1 ih
 |fn css os hl h1 h2 ih=>exact .fn css os hl (fun i p x hp hx=>by obtain⟨a,b,c⟩:=h1 i p x hp hx;exact⟨g.sub _ _ a b,g.old _ _ a b,c⟩) ih
def RepL(fz:BN->Prop)(h:Za)(cs:List Zc)(ds:List DV):Prop:=cs.length=ds.length/\∀(j:Nat) (c:Zc) (d:DV),cs[j]? = some c->ds[j]? = some d->Rep fz h c d
theorem RepL.mono{fz fz':BN->Prop}{h h':Za}(g:FG fz h fz' h'){cs:List Zc}{ds:List DV}(H:RepL fz h cs ds):RepL fz' h' cs ds:=⟨H.1,fun j c d a b=>(H.2 j c d a b).mono g⟩
theorem RepL.nil(fz:BN->Prop)(h:Za):RepL fz h [] []:=⟨rfl,fun j c d a=>by simp at a⟩
theorem RepL.cons{fz:BN->Prop}{h:Za}{c:Zc}{d:DV}{cs:List Zc}{ds:List DV}(a:Rep fz h c d)(b:RepL fz h cs ds):RepL fz h (c::cs) (d::ds):=by
 refine⟨by simp[b.1],fun j c' d' hc hd=>?_⟩;cases j with
 |zero=>grind
 |succ j=>simp only[Yzm]at hc hd;exact b.2 j c' d' hc hd
theorem RepL.inv{fz:BN->Prop}{h:Za}{c:Zc}{d:DV}{cs:List Zc}{ds:List DV}(H:RepL fz h (c::cs) (d::ds)):Rep fz h c d/\RepL fz h cs ds:=
 ⟨H.2 0 c d rfl rfl,by have:=H.1;grind,fun j c' d' hc hd=>H.2 (j+1) c' d' (by trivial) (by trivial)⟩
theorem RepL.app{fz:BN->Prop}{h:Za}{cs cs':List Zc}{ds ds':List DV}(a:RepL fz h cs ds)(b:RepL fz h cs' ds'):RepL fz h (cs++cs') (ds++ds'):=by
 refine⟨by simp[a.1,b.1],fun j c d hc hd=>?_⟩;by_cases hj:j<cs.length
 .rw[Lz2 hj]at hc;rw[Lz2 (by have:=a.1;omega)]at hd;exact a.2 j c d hc hd
 rw[Lz8 (by omega)]at hc;rw[Lz8 (by have:=a.1;omega),<-a.1]at hd;exact b.2 _ c d hc hd
theorem RepL.sub{fz:BN->Prop}{h:Za}{cs:List Zc}{ds:List DV}(a:RepL fz h cs ds)(i n:Nat):RepL fz h ((cs.drop i).take n) ((ds.drop i).take n):=by
 refine⟨by simp[a.1],fun j c d hc hd=>?_⟩;rw[YzH]at hc hd;split at hc
 .rename_i hj;rw[Yzd hj]at hd;rw[Yzo]at hc hd;exact a.2 _ c d hc hd
 cases hc
theorem RepL.set{fz:BN->Prop}{h:Za}{cs cs':List Zc}{ds ds':List DV}(a:RepL fz h cs ds)(b:RepL fz h cs' ds')(i:Nat):
  RepL fz h (cs.take i++cs'++cs.drop (i+cs'.length)) (ds.take i++ds'++ds.drop (i+ds'.length)):=by
 grind[RepL]
def RepS(fz:BN->Prop)(h:Za):SVal->DS->Prop
 | .one c,.one d=>Rep fz h c d
 | .agg cs,.agg ds=>RepL fz h cs ds
 |_,_=>False
theorem RepS.mono{fz fz':BN->Prop}{h h':Za}(g:FG fz h fz' h'){c:SVal}{d:DS}(H:RepS fz h c d):RepS fz' h' c d:=by
 cases c<;>cases d<;>simp only[RepS]at H ⊢
 .exact H.mono g
 exact H.mono g
def RepSL(fz:BN->Prop)(h:Za):List SVal->List DS->Prop
 | [],[]=>True
 |c::cs,d::ds=>RepS fz h c d/\RepSL fz h cs ds
 |_,_=>False
theorem RepSL.mono{fz fz':BN->Prop}{h h':Za}(g:FG fz h fz' h'):∀{c:List SVal} {d:List DS},RepSL fz h c d->RepSL fz' h' c d
 | [],[],_=>trivial
 |_::_,_::_,H=>⟨H.1.mono g,RepSL.mono g H.2⟩
 | [],_::_,H=>H.elim
 |_::_,[],H=>H.elim
def RepA(fz:BN->Prop)(h:Za):Zb->DA->Prop
 | .s c,.s d=>RepS fz h c d
 | .tup cs,.tup ds=>RepSL fz h cs ds
 |_,_=>False
theorem RepA.of{fz:BN->Prop}{h:Za}{c:SVal}{d:DS}(H:RepS fz h c d):RepA fz h (.s c) (.s d):=H
theorem RepA.inv{fz:BN->Prop}{h:Za}{v:Zb}{d:DS}(H:RepA fz h v (.s d)):∃w,v=.s w/\RepS fz h w d:=by
 cases v with
 |s v=>exact⟨_,rfl,H⟩
 |tup l=>trivial
theorem RepA.mono{fz fz':BN->Prop}{h h':Za}(g:FG fz h fz' h'){c:Zb}{d:DA}(H:RepA fz h c d):RepA fz' h' c d:=by
 cases d with
 |s d=>obtain⟨w,rfl,hw⟩:=H.inv;exact .of (hw.mono g)
 |tup ds=>
  cases c with
  |s c=>trivial
  |tup cs=>exact RepSL.mono g H
def RepAL(fz:BN->Prop)(h:Za):List Zb->List DA->Prop
 | [],[]=>True
 |c::cs,d::ds=>RepA fz h c d/\RepAL fz h cs ds
 |_,_=>False
theorem RepAL.mono{fz fz':BN->Prop}{h h':Za}(g:FG fz h fz' h'):∀{c:List Zb} {d:List DA},RepAL fz h c d->RepAL fz' h' c d
 | [],[],_=>trivial
 |_::_,_::_,H=>⟨H.1.mono g,RepAL.mono g H.2⟩
 | [],_::_,H=>H.elim
 |_::_,[],H=>H.elim
theorem RepAL.app{fz:BN->Prop}{h:Za}:∀{c c':List Zb} {d d':List DA},RepAL fz h c d->RepAL fz h c' d'->RepAL fz h (c++c') (d++d')
 | [],_,[],_,_,H=>H
 |_::_,_,_::_,_,H,K=>⟨H.1,RepAL.app H.2 K⟩
 | [],_,_::_,_,H,_=>H.elim
 |_::_,_,[],_,H,_=>H.elim
theorem zcp:∀(cs:List Zc) (n i:Nat),i+n<=cs.length->cut n cs i=some ((cs.drop i).take n):=by
 have tk:∀(n:Nat) (cs:List Zc),n<=cs.length->takeN n cs=some (cs.take n):=by
  intro n
  induction n with
  |zero=>grind[takeN]
  |succ n ih=>intro cs h;cases cs<;>grind[takeN,x6]
 intro cs
 induction cs with
 |nil=>intro n i h;simp at h;obtain⟨rfl,rfl⟩:=h;rfl
 |cons c cs ih=>
  intro n i h;cases i with
  |zero=>
   show takeN n (c::cs)=_
   grind
  |succ i=>
   show cut n cs i=_
   grind
theorem zhH{f:Nat->Option Zc}:∀{n i:Nat} {l:List Zc},l.length=n->(∀j c,l[j]? = some c->f (i+j)=some c)->zcq f n i=some l:=by
 intro n
 induction n with
 |zero=>intro i l hl _;rw[List.length_eq_zero_iff.1 hl];rfl
 |succ n ih=>
  intro i l hl H;cases l with
  |nil=>simp at hl
  |cons c l=>
   have h0:=H 0 c rfl;simp only[Yzy]at h0;have h1:=ih (i:=i+1) (l:=l) (by grind) (fun j d hd=>by have:=H (j+1) d (by trivial);grind)
   grind[zcq,x6]
theorem zd4{n off:Nat}{cs:List Zc}(h:rd n off .void=some cs):n=0/\cs=[]:=by have h:(bif Nat.beq n 0 then some [] else none)=some cs:=h;cases hn:Nat.beq n 0<;>simp_all
theorem zc8{n off:Nat}{o:Zf}{cs:List Zc}(h:rd n off o=some cs):cs.length=n:=by
 cases o with
 |void=>obtain⟨rfl,rfl⟩:=zd4 h;rfl
 |cells l st=>exact(zat h).1
 |ro x f=>exact(qU h).1
 |_=>cases h
theorem zc7{n base:Nat}{o:Zf}{cs:List Zc}(h:rd n base o=some cs){off m:Nat}(hm:off+m<=n):rd m (base+off) o=some ((cs.drop off).take m):=by
 cases o with
 |void=>
  obtain⟨rfl,rfl⟩:=zd4 h
  grind
 |cells l st=>
  obtain⟨rfl,h2⟩:=zjm n l base cs h;show cut m l (base+off)=_
  grind[zcp,List.drop_take,YzE]
 |ro x f=>
  obtain⟨h1,h2⟩:=qU h;refine zhH (by simp;omega) fun j c hc=>?_
  grind
 |_=>cases h
theorem zrj{n off:Nat}{o:Zf}{cs:List Zc}(h':Za)(h:rd n off o=some cs)(h0:n≠0\/o≠.void):loadAt (some n) h' off (some o)=some (.s (.agg cs),h'):=by
 cases o with
 |void=>
  obtain⟨rfl,_⟩:=zd4 h
  grind
 |cells l st=>show zd1 h' (cut n l off)=_;rw[show cut n l off=some cs from h];rfl
 |ro x f=>show zd1 h' (zcq f n off)=_;rw[show zcq f n off=some cs from h];rfl
 |_=>cases h
theorem zoL{n base:Nat}{o:Zf}{cs:List Zc}(h':Za)(h:rd n base o=some cs){off:Nat}{c:Zc}(hc:cs[off]? = some c):loadAt none h' (base+off) (some o)=some (.s (.one c),h'):=by
 have hl:=(Lz0.1 hc).1;have e:=zc7 h (off:=off) (m:=1) (by grind[zc8])
 grind[zt7,List.take_one,List.head?_drop]
def DV.scal:DV->Option Zc
 | .bool b=>some (.bool b)
 | .int k n=>some (.int k n)
 | .str s=>some (.str s)
 | .nils=>some .nils
 | .nilf=>some .nilf
 | .nilp=>some .nilp
 | .nilm=>some .nilm
 | .nili=>some .nili
 |_=>none
theorem Rep.scal{fz:BN->Prop}{h:Za}{c:Zc}{d:DV}(H:Rep fz h c d){c':Zc}(e:d.scal=some c'):c=c':=by cases H<;>simp only[DV.scal]at e<;>first|cases e;rfl|cases e
theorem Rep.ofScal{fz:BN->Prop}{h:Za}{d:DV}{c:Zc}(e:d.scal=some c):Rep fz h c d:=by
 cases d<;>simp only[DV.scal]at e<;>cases e
 .exact .bool _
 .exact .int _ _
 .exact .str _
 .exact .nils
 .exact .nilf
 .exact .nilp
 .exact .nilm
 exact .nili
theorem Rep.lst_inv{fz:BN->Prop}{h:Za}{c:Zc}{st:Nat}{xs:List (List DV)}(H:Rep fz h c (.lst st xs)):
  ∃b o off cap ex cs,c=.slc b off xs.length cap ex/\fz b/\h.t.get b=some o/\(ex=true->xs.length<=cap)/\rd (xs.length*st) off o=some cs/\
   ∀(i:Nat) (x:List DV),xs[i]? = some x->x.length=st/\RepL fz h ((cs.drop (i*st)).take st) x:=by
 cases H with
 |lst cs hb hg hc ha h1 h2=>
  refine⟨_,_,_,_,_,cs,rfl,hb,hg,hc,ha,fun i x hx=>⟨h1 i x hx,?_,fun j c d hc hd=>?_⟩⟩
  .have hi:=(Lz0.1 hx).1;have:(i+1)*st<=xs.length*st:=Yzj st hi
   grind[zc8]
  grind
theorem Rep.lst_mk{fz:BN->Prop}{h:Za}{b:BN}{o:Zf}{off cap:Nat}{ex:Bool}{st:Nat}{xs:List (List DV)}{cs:List Zc}(hb:fz b)(hg:h.t.get b=some o)(hc:ex=true->xs.length<=cap)
  (ha:rd (xs.length*st) off o=some cs) (H:∀(i:Nat) (x:List DV),xs[i]? = some x->x.length=st/\RepL fz h ((cs.drop (i*st)).take st) x):Rep fz h (.slc b off xs.length cap ex) (.lst st xs):=by
 refine .lst cs hb hg hc ha (fun i x hx=>(H i x hx).1) (fun i x j c d hx hcs hd=>(H i x hx).2.2 j c d ?_ hd)
 grind
theorem Rep.fp_inv{fz:BN->Prop}{h:Za}{c:Zc}{xs:List DV}{off:Nat}(H:Rep fz h c (.fp xs off)):
  ∃b o base cs,c=.ptr b (base+off)/\fz b/\h.t.get b=some o/\rd xs.length base o=some cs/\RepL fz h cs xs:=by
 cases H with
 |fp cs hb hg h1 h2=>exact⟨_,_,_,cs,rfl,hb,hg,h1,zc8 h1,h2⟩
theorem Rep.fp_mk{fz:BN->Prop}{h:Za}{b:BN}{o:Zf}{base:Nat}{cs:List Zc}{xs:List DV}{off:Nat}(hb:fz b)(hg:h.t.get b=some o)(h1:rd xs.length base o=some cs)(h2:RepL fz h cs xs):
  Rep fz h (.ptr b (base+off)) (.fp xs off):=.fp cs hb hg h1 h2.2
theorem Rep.fn_inv{fz:BN->Prop}{h:Za}{c:Zc}{f:Nat}{caps:List (List DV)}(H:Rep fz h c (.fn f caps)):
  ∃ps,c=.fn f ps/\RepL fz h (ps.map fun p=>.ptr p.1 p.2) (caps.map fun x=>.fp x 0):=by
 cases H with
 |fn css os hl h1 h2=>refine⟨_,rfl,by simp[hl],fun j c d hc hd=>?_⟩;simp only[Lz6,Yz7]at hc hd;obtain⟨p,hp,rfl⟩:=hc;obtain⟨x,hx,rfl⟩:=hd;obtain⟨a,b,c⟩:=h1 j p x hp hx;exact .fp (base:=p.2) (off:=0) (css j) a b c (fun i c d hc hd=>h2 j p x i c d hp hx hc hd)
theorem Rep.fn_mk{fz:BN->Prop}{h:Za}{f:Nat}{ps:List (BN×Nat)}{caps:List (List DV)}(H:RepL fz h (ps.map fun p=>.ptr p.1 p.2) (caps.map fun x=>.fp x 0)):Rep fz h (.fn f ps) (.fn f caps):=by
 have hl:ps.length=caps.length:=by simpa using H.1
 have:∀i:Nat,∃q:List Zc×Zf,∀(p:BN×Nat) (x:List DV),ps[i]? = some p->caps[i]? = some x->fz p.1/\h.t.get p.1=some q.2/\rd x.length p.2 q.2=some q.1/\RepL fz h q.1 x:=by
  intro i;rcases hp:ps[i]? with _|p
  .exact⟨([],.dead),fun p x hp'=>by cases hp'⟩
  rcases hx:caps[i]? with _|x
  .grind
  have:=H.2 i (.ptr p.1 p.2) (.fp x 0) (by simp[hp]) (by simp[hx]);obtain⟨b,o,base,cs,e,a1,a2,a3,a4⟩:=this.fp_inv;simp_all
 obtain⟨q,hq⟩:=Classical.axiomOfChoice this;exact .fn (fun i=>(q i).1) (fun i=>(q i).2) hl (fun i p x hp hx=>⟨(hq i p x hp hx).1,(hq i p x hp hx).2.1,(hq i p x hp hx).2.2.1⟩) (fun i p x j c d hp hx hc hd=>(hq i p x hp hx).2.2.2.2 j c d hc hd)
end Go.PE
end
section
namespace Go.PE
open Go Go.CE
def shC:SVal->Nat
 | .one _=>0
 | .agg cs=>Nat.succ cs.length
def zw2(k v:SVal):Nat:=Nat.add 1048576 (Nat.add (Nat.mul (shC k) 1024) (shC v))
inductive KOp where
 |mv (x:Operand)
 |pick (c a b:Operand)
 |alloc (zs:List Zc)
 |box (x:Operand)
 |build (zs:List Zc) (parts:List (Nat×Nat×Operand))
 |bslice (st len:Nat) (zs:List Zc) (parts:List (Nat×Nat×Operand))
 |load (n:Option Nat) (x:Operand)
 |store (n:Nat) (x v:Operand)
 |nilck (x:Operand)
 |bin (op:BinOp) (x y:Operand)
 |shift (left:Bool) (x y:Operand)
 |str (op:BinOp) (x y:Operand)
 |nilS (neg:Bool) (x y:Operand)
 |eq (ks:Nat⊕List Nat) (neg:Bool) (x y:Operand)
 |not (x:Operand)
 |neg (x:Operand)
 |conv (k:IntKind) (x:Operand)
 |b2s (x:Operand)
 |s2b (x:Operand)
 |mkfn (f:Nat) (caps:List Operand)
 |mkmap (st:Nat)
 |mkslice (st:Nat) (zs:List Zc) (bytes:Nat) (l c:Operand)
 |slice (st:Nat) (x:Operand) (lo hi mx:Option Operand)
 |sslice (x:Operand) (lo hi:Option Operand)
 |foff (x:Operand) (off:Nat)
 |field (x:Operand) (off:Nat) (n:Option Nat)
 |ixs (st:Nat) (x i:Operand)
 |ixarr (len st:Nat) (x i:Operand)
 |ixagg (len st:Nat) (n:Option Nat) (x i:Operand)
 |ixstr (x i:Operand)
 |lookup (q:Nat⊕List Nat) (z:SVal) (ok:Bool) (m k:Operand)
 |mupd (q:Nat⊕List Nat) (m k v:Operand)
 |extract (x:Operand) (i:Nat)
 |lenS (x:Operand)
 |lenL (x:Operand)
 |lenM (x:Operand)
 |append (st bytes:Nat) (s x:Operand)
 |minmax (m:Bool) (x:Operand) (xs:List Operand)
 |clear (st:Nat) (zs:List Zc) (x:Operand)
 |call (f:Operand) (args:List Operand)
section
variable (P:Program)
def zdv(fs:Array Field):List (Nat×Operand)->Option (List (Nat×Nat×Operand))
 | []=>some []
 |(i,x)::r=>
  match fs[i]?,zdv fs r with
  |some f,some rest=>
   match P.info? f.type with
   |some info=>some ((f.offset,info.size,x)::rest)
   |none=>none
  |_,_=>none
def zaW(size:Nat):List (Nat×Operand)->List (Nat×Nat×Operand)
 | []=>[]
 |(i,x)::r=>(i*size,size,x)::zaW size r
def comp(o:Op):Option KOp:=
 match o with
 | .move x=>some (.mv x)
 | .assign x=>some (.mv x)
 | .pick c a b=>some (.pick c a b)
 | .alloc t=>bif qD P t then none else(match yb P t with|some z=>some (.alloc z.cells)|none=>none)
 | .box _ x=>some (.box x)
 | .build t parts=>
  match P.underlying t,yb P t with
  |some (.struct fs),some z=>bif k8 P fs.toList then(match zdv P fs parts.toList with|some l=>some (.build z.cells l)|none=>none) else none
  |some (.array _ e),some z=>
   match P.info? e with
   |some i=>some (.build z.cells (zaW i.size parts.toList))
   |none=>none
  |_,_=>none
 | .buildSlice t len parts=>
  match P.underlying t with
  |some (.slice e)=>
   match P.info? e with
   |some i=>
    bif Nat.ble (len*i.size) 16777216 then
     match (bif Nat.beq (len*i.size) 0 then some [] else(yb P e).map SVal.cells) with
     |some zs=>bif Nat.beq (len*i.size) 0||Nat.beq zs.length i.size then some (.bslice i.size len (v8 zs len) (zaW i.size parts.toList)) else none
     |none=>none
    else none
   |none=>none
  |_=>none
 | .load t x=>match xP P t with|some n=>some (.load n x)|none=>none
 | .store t x v=>match P.info? t with|some i=>some (.store i.size x v)|none=>none
 | .nilCheck x=>some (.nilck x)
 | .binOp op t x y _=>
  match P.underlying t with
  |some (.int _)=>
   match op with
   | .shl=>some (.shift true x y)
   | .shr=>some (.shift false x y)
   |op=>some (.bin op x y)
  |some .string=>some (.str op x y)
  |some (.slice _)=>
   match op with
   | .eql=>some (.nilS false x y)
   | .neq=>some (.nilS true x y)
   |_=>none
  |some (.struct _)=>
   bif P.eqGuardType P.depth t then none else
   match op,uA P t with
   | .eql,some q=>some (.eq q false x y)
   | .neq,some q=>some (.eq q true x y)
   |_,_=>none
  |some .bool=>
   bif P.eqGuardType P.depth t then none else
   match op,uA P t with
   | .eql,some q=>some (.eq q false x y)
   | .neq,some q=>some (.eq q true x y)
   |_,_=>none
  |_=>none
 | .unOp .not _ x=>some (.not x)
 | .unOp .neg _ x=>some (.neg x)
 | .convert s d x=>
  match P.underlying s,P.underlying d with
  |some (.int _),some (.int k)=>some (.conv k x)
  |some (.slice e),some .string=>bif yB P e then some (.b2s x) else none
  |some .string,some (.slice e)=>bif yB P e then some (.s2b x) else none
  |_,_=>none
 | .makeFunc (.func f) first captured=>bif first.isEmpty then some (.mkfn f captured.toList) else none
 | .makeMap t none=>
  match P.underlying t with
  |some (.map key e)=>match yb P key,yb P e with|some zk,some ze=>some (.mkmap (zw2 zk ze))|_,_=>none
  |_=>none
 | .makeSlice t l c=>
  match P.underlying t with
  |some (.slice e)=>
   match P.info? e,yb P e with
   |some i,some z=>bif Nat.beq z.cells.length i.size && !Nat.beq i.size 0 then some (.mkslice i.size z.cells i.bytes l c) else none
   |_,_=>none
  |_=>none
 | .slice t x lo hi mx=>
  match P.underlying t with
  |some (.slice e)=>
   match P.info? e with
   |some i=>bif mx.isSome && !hi.isSome then none else some (.slice i.size x lo hi mx)
   |none=>none
  |some .string=>bif mx.isSome then none else some (.sslice x lo hi)
  |_=>none
 | .fieldAddr t x f=>
  match P.underlying t with
  |some (.struct fs)=>
   match fs[f]? with
   |some fd=>
    match P.info? fd.type with
    |some i=>bif Nat.beq i.size 0 then none else some (.foff x fd.offset)
    |none=>none
   |none=>none
  |_=>none
 | .field t x f=>
  match P.underlying t with
  |some (.struct fs)=>
   match fs[f]? with
   |some fd=>match xP P fd.type with|some n=>some (.field x fd.offset n)|none=>none
   |none=>none
  |_=>none
 | .indexAddr t x i=>
  match P.underlying t with
  |some (.slice e)=>
   match P.info? e with
   |some info=>some (.ixs info.size x i)
   |none=>none
  |some (.array len e)=>
   match P.info? e with
   |some info=>some (.ixarr len info.size x i)
   |none=>none
  |_=>none
 | .index t x i=>
  match P.underlying t with
  |some (.array len e)=>
   match P.info? e,xP P e with
   |some info,some n=>some (.ixagg len info.size n x i)
   |_,_=>none
  |some .string=>some (.ixstr x i)
  |_=>none
 | .lookup t m k ok=>
  match P.underlying t with
  |some (.map key e)=>match uA P key,yb P e with|some q,some z=>some (.lookup q z ok m k)|_,_=>none
  |_=>none
 | .mapUpdate t m k v=>
  match P.underlying t with
  |some (.map key _)=>match uA P key with|some q=>some (.mupd q m k v)|none=>none
  |_=>none
 | .extract x i=>some (.extract x i)
 | .call c=>
  match c.callee with
  | .value f=>bif Nat.beq (vO P f) 0 then some (.call f c.args.toList) else none
  | .builtin .len=>
   match c.argTypes[0]?,c.args[0]? with
   |some t,some x=>
    match P.underlying t with
    |some .string=>some (.lenS x)
    |some (.slice _)=>some (.lenL x)
    |some (.map _ _)=>some (.lenM x)
    |_=>none
   |_,_=>none
  | .builtin .append=>
   match c.argTypes.toList,c.args.toList with
   | [t,t2],[s,x]=>
    match P.underlying t with
    |some (.slice e)=>
     match P.info? e,yb P e with
     |some i,some z=>
      bif Nat.beq z.cells.length i.size && !Nat.beq i.size 0 then
       match P.underlying t2 with
       |some (.slice _)=>bif yB P e&&Nat.beq i.size 1 then none else some (.append i.size i.bytes s x)
       |_=>none
      else none
     |_,_=>none
    |_=>none
   |_,_=>none
  | .builtin .clear=>
   match c.argTypes[0]?,c.args[0]? with
   |some t,some x=>
    match P.underlying t with
    |some (.slice e)=>
     match P.info? e,yb P e with
     |some i,some z=>bif Nat.beq z.cells.length i.size && !Nat.beq i.size 0 then some (.clear i.size z.cells x) else none
     |_,_=>none
    |_=>none
   |_,_=>none
  | .builtin .max=>
   match c.args.toList with
   |x::xs=>some (.minmax true x xs)
   |_=>none
  | .builtin .min=>
   match c.args.toList with
   |x::xs=>some (.minmax false x xs)
   |_=>none
  |_=>none
 |_=>none
end
def kv(r:Fr):Operand->Option Zb
 | .tmp t=>some (r t)
 | .const v=>match znz v with|some s=>some (.s s)|none=>none
 | .func f=>some (.s (.one (.fn f [])))
 | .global g=>match zam g with|some _=>some (.s (.one (.gptr g 0)))|none=>none
theorem yf(r:Fr)(x:Operand):coK r x=(kv r x).map zn:=by cases x<;>grind[coK,kv]
def kvs(r:Fr):List Operand->Option (List Zb)
 | []=>some []
 |x::xs=>
  match kv r x,kvs r xs with
  |some y,some ys=>some (y::ys)
  |_,_=>none
theorem jC(r:Fr):∀l:List Operand,kC (coK r) l=(kvs r l).map (·.map zn)
 | []=>rfl
 |x::l=>by simp only[kC,kvs,yf,jC r l];cases kv r x<;>cases kvs r l<;>rfl
def kvo(r:Fr):Option Operand->Option (Option Zb)
 |none=>some none
 |some x=>match kv r x with|some y=>some (some y)|none=>none
theorem zjv(r:Fr)(x:Option Operand):zaz (coK r) x=(kvo r x).map (·.map zn):=by cases x<;>grind[zaz,kvo,yf]
def kvp(r:Fr):List (Nat×Nat×Operand)->Option (List (Nat×Nat×Zb))
 | []=>some []
 |(a,b,x)::l=>
  match kv r x,kvp r l with
  |some y,some ys=>some ((a,b,y)::ys)
  |_,_=>none
theorem zch(r:Fr)(n:Nat):∀l:List (Nat×Operand),xW (coK r) n l=(kvp r (zaW n l)).map cP
 | []=>rfl
 |(i,x)::l=>by simp only[xW,zaW,kvp,yf,zch r n l];cases kv r x<;>cases kvp r (zaW n l)<;>rfl
theorem zfT(P:Program)(r:Fr)(fs:Array Field):∀(l:List (Nat×Operand)) (q:List (Nat×Nat×Operand)),zdv P fs l=some q->xT P (coK r) fs l=(kvp r q).map cP
 | [],q,h=>by cases h;rfl
 |(i,x)::l,q,h=>by
  simp only[zdv]at h;rcases hf:fs[i]? with _|f
  .grind
  rcases hl:zdv P fs l with _|rest
  .grind
  rw[hf,hl]at h;simp only at h;rcases hi:P.info? f.type with _|info
  .grind
  rw[hi]at h;cases h;simp only[xT,kvp,hf,yf,zfT P r fs l rest hl];rcases kv r x with _|y
  .rfl
  rcases kvp r rest with _|ys
  .rfl
  simp only[YzF,hi];rfl
def zx(x:Option Zb)(k:Zb->Res):Res:=match x with|some v=>k v|none=>none
noncomputable def runK(r:Fr)(o:KOp)(call:zc)(h:Za):Res:=
 match o with
 | .mv x=>zx (kv r x) fun x=>some (x,h)
 | .pick c a b=>zx (kv r c) fun c=>zx (kv r a) fun a=>zx (kv r b) fun b=>zog c a b h
 | .alloc zs=>ztv zs h
 | .box x=>zx (kv r x) fun x=>zyX x h
 | .build zs parts=>match kvp r parts with|some l=>zk2 zs l h|none=>none
 | .bslice st len zs parts=>match kvp r parts with|some l=>zqR st len zs l h|none=>none
 | .load n x=>zx (kv r x) fun x=>zoj n x h
 | .store n x v=>zx (kv r x) fun x=>zx (kv r v) fun v=>ztt n x v h
 | .nilck x=>zx (kv r x) fun x=>zh3 x h
 | .bin op x y=>zx (kv r x) fun x=>zx (kv r y) fun y=>zvO (uk op) x y h
 | .shift l x y=>zx (kv r x) fun x=>zx (kv r y) fun y=>zh2 (bif l then zeK else zhs) x y h
 | .str op x y=>zx (kv r x) fun x=>zx (kv r y) fun y=>zvK op x y h
 | .nilS n x y=>zx (kv r x) fun x=>zx (kv r y) fun y=>zk0 n x y h
 | .eq q n x y=>zx (kv r x) fun x=>zx (kv r y) fun y=>vEq q n x y h
 | .not x=>zx (kv r x) fun x=>zvL x h
 | .neg x=>zx (kv r x) fun x=>zvM x h
 | .conv k x=>zx (kv r x) fun x=>zom k x h
 | .b2s x=>zx (kv r x) fun x=>qv (zn x) yi .nil h
 | .s2b x=>zx (kv r x) fun x=>zka (zn x) yi .nil h
 | .mkfn f caps=>match kvs r caps with|some l=>zoi f l h|none=>none
 | .mkmap _=>ztu h
 | .mkslice st zs bytes l c=>zx (kv r l) fun l=>zx (kv r c) fun c=>zoh st zs bytes l c h
 | .slice st x lo hi mx=>zx (kv r x) fun x=>match kvo r lo,kvo r hi,kvo r mx with|some lo,some hi,some mx=>wM st x lo hi mx h|_,_,_=>none
 | .sslice x lo hi=>zx (kv r x) fun x=>match kvo r lo,kvo r hi with|some lo,some hi=>zdO x lo hi h|_,_=>none
 | .foff x off=>zx (kv r x) fun x=>zol x off h
 | .field x off n=>zx (kv r x) fun x=>zh7 x off n h
 | .ixs st x i=>zx (kv r x) fun x=>zx (kv r i) fun i=>zvN st x i h
 | .ixarr len st x i=>zx (kv r x) fun x=>zx (kv r i) fun i=>zh5 len st x i h
 | .ixagg len st n x i=>zx (kv r x) fun x=>zx (kv r i) fun i=>zh6 len st n x i h
 | .ixstr x i=>zx (kv r x) fun x=>zx (kv r i) fun i=>zh4 x i h
 | .lookup q z ok m k=>zx (kv r m) fun m=>zx (kv r k) fun k=>zqQ q z ok m k h
 | .mupd q m k v=>zx (kv r m) fun m=>zx (kv r k) fun k=>zx (kv r v) fun v=>zwl q m k v h
 | .extract x i=>zx (kv r x) fun x=>za7 x i h
 | .lenS x=>zx (kv r x) fun x=>zok x h
 | .lenL x=>zx (kv r x) fun x=>zk1 x h
 | .lenM x=>zx (kv r x) fun x=>zwm x h
 | .append st bytes s x=>zx (kv r s) fun s=>zx (kv r x) fun x=>zqS false st bytes s x h
 | .minmax m x xs=>zx (kv r x) fun x=>match kvs r xs with|some l=>zdP m x l h|none=>none
 | .clear st zs x=>zx (kv r x) fun x=>zp7 st zs x h
 | .call f args=>zx (kv r f) fun f=>match kvs r args with|some l=>zwo call f l h|none=>none
theorem zaP(P:Program)(r:Fr){o:Op}{ko:KOp}(call:zc)(h:Za)(e:comp P o=some ko):yV P (coK r) o call .nil h=runK r ko call h:=by
 unfold comp at e;cases o with
 |move x=>cases e;simp only[yV,yf,runK];cases kv r x<;>rfl
 |assign x=>cases e;simp only[yV,yf,runK];cases kv r x<;>rfl
 |pick c a b=>cases e;simp only[yV,yf,runK];cases kv r c<;>cases kv r a<;>cases kv r b<;>rfl
 |alloc t=>
  simp only at e;cases hb:qD P t
  case true=>grind
  rcases hz:yb P t with _|z
  .grind
  rw[hb,hz]at e;cases e;simp only[yV,hb,hz,runK];rfl
 |box t x=>cases e;simp only[yV,yf,runK];cases kv r x<;>rfl
 |build t parts=>
  simp only at e;split at e
  .rename_i fs z hu hz;cases ha:k8 P fs.toList
   .grind
   rw[ha]at e;rcases hf:zdv P fs parts.toList with _|l
   .grind
   rw[hf]at e;cases e;simp only[yV,hu,hz,ha,Yza,zfT P r fs _ _ hf,runK];cases kvp r l<;>rfl
  .rename_i n e' z hu hz;split at e
   .rename_i i hi;cases e;simp only[yV,hu,hz,hi,zch,runK];cases kvp r (zaW i.size parts.toList)<;>rfl
   cases e
  cases e
 |buildSlice t len parts=>
  simp only at e;split at e
  .rename_i e' hu;split at e
   .rename_i i hi;cases hl:Nat.ble (len*i.size) 16777216
    .grind
    rw[hl]at e;simp only[Yza]at e;split at e
    .rename_i zs hzs;cases hc:(Nat.beq (len*i.size) 0||Nat.beq zs.length i.size)
     .grind
     rw[hc]at e;cases e;simp only[yV,hu,hi,hl,Yza,hzs,hc,zch,runK];cases kvp r (zaW i.size parts.toList)<;>rfl
    cases e
   cases e
  cases e
 |load t x=>
  simp only at e;rcases hs:xP P t with _|n
  .grind
  rw[hs]at e;cases e;simp only[yV,hs,yf,runK];cases kv r x<;>rfl
 |store t x v=>
  simp only at e;rcases hs:P.info? t with _|i
  .grind
  rw[hs]at e;cases e;simp only[yV,hs,yf,runK];cases kv r x<;>cases kv r v<;>rfl
 |nilCheck x=>cases e;simp only[yV,yf,runK];cases kv r x<;>rfl
 |binOp op t x y p=>
  simp only at e;split at e
  .rename_i hu;simp only[yV,hu];split at e<;>cases e<;>simp only[yf,runK]<;>cases kv r x<;>cases kv r y<;>rfl
  .rename_i hu;cases e;simp only[yV,hu,yf,runK];cases kv r x<;>cases kv r y<;>rfl
  .rename_i hu;simp only[yV,hu];split at e<;>cases e<;>simp only[yf,runK]<;>cases kv r x<;>cases kv r y<;>rfl
  .rename_i fs hu;cases hg:P.eqGuardType P.depth t
   case true=>grind
   rw[hg]at e;simp only[Yzc]at e;split at e
   .rename_i q hk;cases e;simp only[yV,hu,hg,Yzc,hk,yf,runK];cases kv r x<;>cases kv r y<;>rfl
   .rename_i q hk;cases e;simp only[yV,hu,hg,Yzc,hk,yf,runK];cases kv r x<;>cases kv r y<;>rfl
   cases e
  .rename_i hu;cases hg:P.eqGuardType P.depth t
   case true=>grind
   rw[hg]at e;simp only[Yzc]at e;split at e
   .rename_i q hk;cases e;simp only[yV,hu,hg,Yzc,hk,yf,runK];cases kv r x<;>cases kv r y<;>rfl
   .rename_i q hk;cases e;simp only[yV,hu,hg,Yzc,hk,yf,runK];cases kv r x<;>cases kv r y<;>rfl
   cases e
  cases e
 |unOp u t x=>
  cases u<;>first|cases e|skip
  .simp only[yV,yf,runK];cases kv r x<;>rfl
  simp only[yV,yf,runK];cases kv r x<;>rfl
 |convert s d x=>
  simp only at e;split at e
  .rename_i k hs hd;cases e;simp only[yV,hs,hd,yf,runK];cases kv r x<;>rfl
  .rename_i el hs hd;cases hb:yB P el
   .grind
   rw[hb]at e;cases e;simp only[yV,hs,hd,hb,Yza,yf,runK];cases kv r x<;>rfl
  .rename_i el hs hd;cases hb:yB P el
   .grind
   rw[hb]at e;cases e;simp only[yV,hs,hd,hb,Yza,yf,runK];cases kv r x<;>rfl
  cases e
 |makeFunc f first captured=>
  cases f with
  |func f=>
   simp only at e;cases hf:first.isEmpty
   .grind
   rw[hf]at e;cases e;simp only[yV,hf,Yza,jC,runK];cases kvs r captured.toList<;>rfl
  |_=>cases e
 |makeMap t n=>
  cases n
  case some=>cases e
  simp only at e;split at e
  .split at e
   .cases e;rfl
   cases e
  cases e
 |makeSlice t l c=>
  simp only at e;split at e
  .rename_i el hu;split at e
   .rename_i i z hi hz;cases hc:(Nat.beq z.cells.length i.size && !Nat.beq i.size 0)
    .grind
    rw[hc]at e;cases e;simp only[yV,hu,hi,hz,hc,Yza,yf,runK];cases kv r l<;>cases kv r c<;>rfl
   cases e
  cases e
 |slice t x lo hi mx=>
  simp only at e;split at e
  .rename_i el hu;split at e
   .rename_i i hi';cases hc:(mx.isSome && !hi.isSome)
    case true=>grind
    rw[hc]at e;cases e;simp only[yV,hu,hi',hc,Yzc,yf,zjv,runK];cases kv r x<;>rcases kvo r lo with _|(_|_)<;>rcases kvo r hi with _|(_|_)<;>rcases kvo r mx with _|(_|_)<;>rfl
   cases e
  .rename_i hu;cases hc:mx.isSome
   case true=>grind
   rw[hc]at e;cases e;simp only[yV,hu,hc,Yzc,yf,zjv,runK];cases kv r x<;>rcases kvo r lo with _|(_|_)<;>rcases kvo r hi with _|(_|_)<;>rfl
  cases e
 |fieldAddr t x f=>
  simp only at e;split at e
  .rename_i fs hu;split at e
   .rename_i fd hf;split at e
    .rename_i i hi;cases hc:Nat.beq i.size 0
     case true=>grind
     rw[hc]at e;cases e;simp only[yV,hu,hf,hi,hc,Yzc,yf,runK];cases kv r x<;>rfl
    cases e
   cases e
  cases e
 |field t x f=>
  simp only at e;split at e
  .rename_i fs hu;split at e
   .rename_i fd hf;split at e
    .rename_i n hn;cases e;simp only[yV,hu,hf,hn,yf,runK];cases kv r x<;>rfl
    cases e
   cases e
  cases e
 |indexAddr t x i=>
  simp only at e;split at e
  .rename_i el hu;split at e
   .rename_i info hi;cases e;simp only[yV,hu,hi,yf,runK];cases kv r x<;>cases kv r i<;>rfl
   cases e
  .rename_i len el hu;split at e
   .rename_i info hi;cases e;simp only[yV,hu,hi,yf,runK];cases kv r x<;>cases kv r i<;>rfl
   cases e
  cases e
 |index t x i=>
  simp only at e;split at e
  .rename_i len el hu;split at e
   .rename_i info n hi hn;cases e;simp only[yV,hu,hi,hn,yf,runK];cases kv r x<;>cases kv r i<;>rfl
   cases e
  .rename_i hu;cases e;simp only[yV,hu,yf,runK];cases kv r x<;>cases kv r i<;>rfl
  cases e
 |lookup t m k ok=>
  simp only at e;split at e
  .rename_i key el hu;split at e
   .rename_i q z hq hz;cases e;simp only[yV,hu,hq,hz,yf,runK];cases kv r m<;>cases kv r k<;>rfl
   cases e
  cases e
 |mapUpdate t m k v=>
  simp only at e;split at e
  .rename_i key el hu;split at e
   .rename_i q hq;cases e;simp only[yV,hu,hq,yf,runK];cases kv r m<;>cases kv r k<;>cases kv r v<;>rfl
   cases e
  cases e
 |extract x i=>cases e;simp only[yV,yf,runK];cases kv r x<;>rfl
 |call c=>
  simp only at e;split at e
  .rename_i f hc;cases hx:Nat.beq (vO P f) 0
   .grind
   rw[hx]at e;cases e;simp only[yV,hc,hx,Yza,yf,jC,runK];cases kv r f<;>cases kvs r c.args.toList<;>rfl
  .rename_i hc;split at e
   .rename_i t x ht hx;simp only[yV,hc,ht,hx];split at e
    .rename_i hu;cases e;simp only[hu,yf,runK];cases kv r x<;>rfl
    .rename_i el hu;cases e;simp only[hu,yf,runK];cases kv r x<;>rfl
    .rename_i k el hu;cases e;simp only[hu,yf,runK];cases kv r x<;>rfl
    cases e
   cases e
  .rename_i hc;split at e
   .rename_i t t2 s x ht hx;simp only[yV,hc,ht,hx];split at e
    .rename_i el hu;split at e
     .rename_i i z hi hz;cases hb:(Nat.beq z.cells.length i.size && !Nat.beq i.size 0)
      .grind
      rw[hb]at e;simp only[Yza]at e;split at e
      .rename_i e2 hu2;cases hB:(yB P el&&Nat.beq i.size 1)
       case true=>grind
       rw[hB]at e;cases e;simp only[hu,hi,hz,hb,Yza,hu2,hB,Yzc,yf,runK];cases kv r s<;>cases kv r x<;>rfl
      cases e
     cases e
    cases e
   cases e
  .rename_i hc;split at e
   .rename_i t x ht hx;simp only[yV,hc,ht,hx];split at e
    .rename_i el hu;split at e
     .rename_i i z hi hz;cases hb:(Nat.beq z.cells.length i.size && !Nat.beq i.size 0)
      .grind
      rw[hb]at e;cases e;simp only[hu,hi,hz,hb,Yza,yf,runK];cases kv r x<;>rfl
     cases e
    cases e
   cases e
  .rename_i hc;split at e
   .rename_i x xs hx;cases e;simp only[yV,hc,hx,jC,kvs,runK];cases kv r x<;>cases kvs r xs<;>rfl
   cases e
  .rename_i hc;split at e
   .rename_i x xs hx;cases e;simp only[yV,hc,hx,jC,kvs,runK];cases kv r x<;>cases kvs r xs<;>rfl
   cases e
  cases e
 |_=>cases e
end Go.PE
end
section
namespace Go.PE
open Go Go.CE
inductive PC where
 |d (v:DV)
 |own (k:Nat)
 |ptr (k off:Nat)
 |ep (k st i off:Nat)
 |ip (k off len st i o:Nat)
 |vw (k st lo len:Nat)
 |lit (k:Nat)
 |clo (f:Nat) (caps:List (Nat⊕List DV))
inductive PV where
 |one (c:PC)
 |agg (cs:List PC)
inductive PA where
 |s (v:PV)
 |tup (l:List DS)
 |tl (p:PV) (l:List DS)
 |bad
 |undef
def PV.cells:PV->List PC
 | .one c=>[c]
 | .agg cs=>cs
abbrev OC:=Option (List (List DV))
def mkL(st:Nat):OC->DV
 |none=>.nils
 |some xs=>.lst st xs
inductive PO where
 |box (cs:List PC)
 |arr (st:Nat) (v:OC)
 |frz (v:DV)
 |fbox (ds:List DV)
 |mp (st:Nat) (xs:List (List DV))
 |hol (v:OC) (n t:Nat)
 |lnk (m:Nat)
 |lop (nt:Nat) (ρ:Nat->PA) (ps:List Nat) (a b:Code) (lbl:Nat) (st:DV)
 |dead
def og:List PO->Nat->PO
 | [],_=>.dead
 |o::l,k=>bif Nat.beq k 0 then o else og l (Nat.sub k 1)
def oset(o:PO):List PO->Nat->List PO
 | [],_=>[]
 |x::l,k=>bif Nat.beq k 0 then o::l else x::oset o l (Nat.sub k 1)
theorem ze3(k:Nat):Nat.beq (k+1) 0=false:=rfl
theorem za3:∀(l:List PO) (k:Nat),og l k=(l[k]?).getD .dead
 | [],k=>by simp[og]
 |o::l,0=>by simp[og]
 |o::l,k+1=>by have:=za3 l k;trivial
theorem zX(o:PO):∀(l:List PO) (k:Nat),(oset o l k).length=l.length
 | [],k=>rfl
 |x::l,0=>rfl
 |x::l,k+1=>by
  have:=zX o l k
  grind[oset]
theorem zw(o:PO):∀(l:List PO) (k j:Nat),og (oset o l k) j=if j=k/\k<l.length then o else og l j
 | [],k,j=>by grind[oset]
 |x::l,0,j=>by cases j<;>simp_all[oset,og,ze3]
 |x::l,k+1,j=>by
  show og (x::oset o l k) j=_;cases j with
  |zero=>simp[og]
  |succ j=>
   have:=zw o l k j;show og (oset o l k) j=_;rw[this];show _=if j+1=k+1/\k+1<(x::l).length then o else og l j
   simp
theorem zbK:∀(l:List PO) (k:Nat),oset (og l k) l k=l
 | [],_=>rfl
 |x::l,0=>rfl
 |x::l,k+1=>by show x::oset (og l k) l k=_;rw[zbK l k]
theorem yI(l:List PO)(o:PO)(j:Nat):og (l++[o]) j=if j=l.length then o else og l j:=by grind[za3]
theorem wF{l:List PO}{k:Nat}(h:og l k≠.dead):k<l.length:=by grind[za3]
def blk:Zc->Option BN
 | .ptr b _=>some b
 | .slc b _ _ _ _=>some b
 | .map b=>some b
 | .yld b=>some b
 |_=>none
def shN(n:Nat):Option Nat:=match n with|0=>none|n+1=>some n
def shK(st:Nat):Option Nat:=shN (Nat.mod (Nat.div st 1024) 1024)
def shV(st:Nat):Option Nat:=shN (Nat.mod st 1024)
def ztJ:Option Nat->Nat
 |none=>1
 |some n=>n
def atD:List DV->Nat->DV
 | [],_=>.u
 |d::l,i=>bif Nat.beq i 0 then d else atD l (Nat.sub i 1)
def exp(x:List DV):Nat->Nat->List DV
 |0,_=>[]
 |n+1,i=>atD x i::exp x n (Nat.succ i)
def shD(sh:Option Nat)(x:List DV)(i:Nat):DS:=
 match sh with
 |none=>.one (atD x i)
 |some n=>.agg (exp x n i)
def kD(st:Nat)(x:List DV):DS:=shD (shK st) x 0
def vD(st:Nat)(x:List DV):DS:=shD (shV st) x (ztJ (shK st))
structure Nm where
 μ:Nat->Zc
 n:Nat
 fz:BN->Prop
 h:Za
def RepCap(N:Nm):BN×Nat->Nat⊕List DV->Prop
 |p,.inl k=>k<N.n/\N.μ k=.ptr p.1 0/\p.2=0
 |p,.inr xs=>Rep N.fz N.h (.ptr p.1 p.2) (.fp xs 0)
def RepCaps(N:Nm):List (BN×Nat)->List (Nat⊕List DV)->Prop
 | [],[]=>True
 |p::ps,x::xs=>RepCap N p x/\RepCaps N ps xs
 |_,_=>False
def RepPC(N:Nm)(c:Zc):PC->Prop
 | .d v=>Rep N.fz N.h c v
 | .own k=>k<N.n/\c=N.μ k
 | .ptr k off=>k<N.n/\∃b,N.μ k=.ptr b 0/\c=.ptr b off
 | .ep k st i off=>k<N.n/\∃b l cap ex,N.μ k=.slc b 0 l cap ex/\c=.ptr b (i*st+off)/\i<l
 | .ip k off len st i o=>k<N.n/\∃b,N.μ k=.ptr b 0/\c=.ptr b (off+i*st+o)/\i<len
 | .vw k st lo len=>k<N.n/\((N.μ k=.nils/\c=.nils/\lo=0/\len=0)\/∃b l cap ex cap' ex',N.μ k=.slc b 0 l cap ex/\c=.slc b (lo*st) len cap' ex'/\lo+len<=l/\(ex'=true->len<=cap'))
 | .lit k=>k<N.n/\∃b,N.μ k=.slc b 0 0 0 true/\c=.slc b 0 0 0 true
 | .clo f caps=>∃ps,c=.fn f ps/\RepCaps N ps caps
def RepPL(N:Nm):List Zc->List PC->Prop
 | [],[]=>True
 |c::cs,p::ps=>RepPC N c p/\RepPL N cs ps
 |_,_=>False
def RepPV(N:Nm):SVal->PV->Prop
 | .one c,.one p=>RepPC N c p
 | .agg cs,.agg ps=>RepPL N cs ps
 |_,_=>False
def zpZ(N:Nm):List SVal->PV->List DS->Prop
 |w::l,p,ds=>RepPV N w p/\RepSL N.fz N.h l ds
 | [],_,_=>False
def RepPA(N:Nm):Zb->PA->Prop
 |_,.bad=>True
 |v,.undef=>v=zP
 | .s v,.s p=>RepPV N v p
 | .tup l,.tup ds=>RepSL N.fz N.h l ds
 | .tup l,.tl p ds=>zpZ N l p ds
 |_,_=>False
theorem RepPA.bad{N:Nm}(v:Zb):RepPA N v .bad:=by trivial
theorem RepPA.of{N:Nm}{v:SVal}{p:PV}(H:RepPV N v p):RepPA N (.s v) (.s p):=H
theorem RepPA.inv{N:Nm}{v:Zb}{p:PV}(H:RepPA N v (.s p)):∃w,v=.s w/\RepPV N w p:=by
 cases v with
 |s v=>exact⟨_,rfl,H⟩
 |tup l=>trivial
def zvp:Zg->Int
 | .normal=>-3
 | .exit id=>(id:Int)+1
 | .ret=>0
def stR:DV->LoopState->Option Zg->Prop
 | .int .i64 n,S,pend=>(n=-1/\S=.ready/\pend=none)\/(n=-2/\S=.busy/\pend=none)\/(S=.done/\∃e,pend=some e/\e≠.normal/\n=zvp e)
 |_,_,_=>False
def RepO(N:Nm)(k:Nat):PO->Prop
 | .box cs=>∃b vs,N.μ k=.ptr b 0/\¬N.fz b/\N.h.t.get b=some (.cells vs 0)/\RepPL N vs cs
 | .arr _ none=>N.μ k=.nils
 | .arr st (some xs)=>∃b vs ex,N.μ k=.slc b 0 xs.length (bif ex then xs.length else 0) ex/\¬N.fz b/\N.h.t.get b=some (.cells vs st)/\vs.length=xs.length*st/\
   ∀(i:Nat) (x:List DV),xs[i]? = some x->x.length=st/\RepL N.fz N.h ((vs.drop (i*st)).take st) x
 | .frz v=>Rep N.fz N.h (N.μ k) v
 | .fbox ds=>∃b,N.μ k=.ptr b 0/\Rep N.fz N.h (.ptr b 0) (.fp ds 0)
 | .mp st xs=>∃b es,N.μ k=.map b/\¬N.fz b/\N.h.t.get b=some (.map es)/\es.length=xs.length/\
   ∀(i:Nat) (e:SVal×SVal) (x:List DV),es[i]? = some e->xs[i]? = some x->RepS N.fz N.h e.1 (kD st x)/\RepS N.fz N.h e.2 (vD st x)
 | .hol none _ _=>False
 | .hol (some xs) n t=>∃b vs ex,N.μ k=.slc b 0 xs.length (bif ex then xs.length else 0) ex/\¬N.fz b/\N.h.t.get b=some (.cells vs 1)/\vs.length=xs.length*1/\n<xs.length/\t<N.n/\N.μ t=.ptr b n/\
   ∀(i:Nat) (x:List DV),i≠n->xs[i]? = some x->x.length=1/\RepL N.fz N.h ((vs.drop (i*1)).take 1) x
 | .lnk m=>m<N.n/\∃b n vs,N.μ k=.ptr b n/\¬N.fz b/\N.h.t.get b=some (.cells vs 1)/\vs[n]? = some (N.μ m)
 | .lop nt ρ ps a b _ st=>∃l S pend lf lt psA ld,N.μ k=.yld l/\¬N.fz l/\N.h.t.get l=some (.loop S pend lf nt lt psA a b ld)/\psA.toList=ps/\stR st S pend/\∀i,RepPA N (zaF (bn i) lt) (ρ i)
 | .dead=>True
def live:PO->Prop
 | .box _=>True
 | .arr _ (some _)=>True
 | .mp _ _=>True
 | .hol _ _ _=>True
 | .lop ..=>True
 |_=>False
def solid:PO->Prop
 | .box _=>True
 | .arr _ (some _)=>True
 | .mp _ _=>True
 | .lop ..=>True
 |_=>False
theorem solid.live{o:PO}(h:solid o):live o:=by
 cases o with
 |box _=>trivial
 |arr _ v=>cases v with
  |none=>exact h
  |some _=>trivial
 |mp _ _=>trivial
 |lop=>trivial
 |_=>trivial
theorem solid.hol{o:PO}(h:solid o)(v:OC)(n t:Nat):o≠.hol v n t:=fun e=>by subst e;exact h
def tied(o:PO):Prop:=live o\/∃m,o=.lnk m
structure Nx (N N':Nm):Prop where
 fg:FG N.fz N.h N'.fz N'.h
 le:N.n<=N'.n
 mu:∀k,k<N.n->N'.μ k=N.μ k
theorem Nx.refl(N:Nm):Nx N N:=⟨FG.refl _ _,LzB _,fun _ _=>rfl⟩
theorem Nx.trans{A B C:Nm}(a:Nx A B)(b:Nx B C):Nx A C:=⟨a.fg.trans b.fg,Yzl a.le b.le,fun k hk=>(b.mu k (Lz9 hk a.le)).trans (a.mu k hk)⟩
section
variable {N N':Nm} (g:Nx N N')
include g
theorem RepCap.mono{p:BN×Nat}{x:Nat⊕List DV}(H:RepCap N p x):RepCap N' p x:=by
 cases x with
 |inl k=>exact⟨Lz9 H.1 g.le,(g.mu k H.1).trans H.2.1,H.2.2⟩
 |inr xs=>exact Rep.mono g.fg H
theorem RepCaps.mono:∀{ps:List (BN×Nat)} {xs:List (Nat⊕List DV)},RepCaps N ps xs->RepCaps N' ps xs
 | [],[],_=>trivial
 |_::_,_::_,H=>⟨RepCap.mono g H.1,RepCaps.mono H.2⟩
 | [],_::_,H=>H.elim
 |_::_,[],H=>H.elim
theorem RepPC.mono{c:Zc}{p:PC}(H:RepPC N c p):RepPC N' c p:=by
 cases p with
 |d v=>exact Rep.mono g.fg H
 |own k=>exact⟨Lz9 H.1 g.le,H.2.trans (g.mu k H.1).symm⟩
 |ptr k off=>obtain⟨h1,b,h2,h3⟩:=H;exact⟨Lz9 h1 g.le,b,(g.mu k h1).trans h2,h3⟩
 |ep k st i off=>obtain⟨h1,b,l,cap,ex,h2,h3,h4⟩:=H;exact⟨Lz9 h1 g.le,b,l,cap,ex,(g.mu k h1).trans h2,h3,h4⟩
 |ip k off len st i o=>obtain⟨h1,b,h2,h3,h4⟩:=H;exact⟨Lz9 h1 g.le,b,(g.mu k h1).trans h2,h3,h4⟩
 |vw k st lo len=>obtain⟨h1,h⟩:=H;exact⟨Lz9 h1 g.le,by rw[g.mu k h1];exact h⟩
 |lit k=>obtain⟨h1,b,h2,h3⟩:=H;exact⟨Lz9 h1 g.le,b,(g.mu k h1).trans h2,h3⟩
 |clo f caps=>obtain⟨ps,h1,h2⟩:=H;exact⟨ps,h1,RepCaps.mono g h2⟩
theorem RepPL.mono:∀{cs:List Zc} {ps:List PC},RepPL N cs ps->RepPL N' cs ps
 | [],[],_=>trivial
 |_::_,_::_,H=>⟨RepPC.mono g H.1,RepPL.mono H.2⟩
 | [],_::_,H=>H.elim
 |_::_,[],H=>H.elim
theorem RepPV.mono{v:SVal}{p:PV}(H:RepPV N v p):RepPV N' v p:=by cases v<;>cases p<;>simp only[RepPV]at H ⊢<;>grind[RepPC.mono,RepPL.mono]
theorem RepPA.mono{v:Zb}{p:PA}(H:RepPA N v p):RepPA N' v p:=by
 cases p with
 |bad=>trivial
 |undef=>trivial
 |s p=>
  obtain⟨w,rfl,h⟩:=H.inv
  grind[of,RepPV.mono]
 |tup ds=>
  cases v with
  |s v=>trivial
  |tup l=>exact RepSL.mono g.fg H
 |tl p ds=>
  cases v with
  |s v=>trivial
  |tup l=>
   cases l with
   |nil=>trivial
   |cons w l=>exact⟨RepPV.mono g H.1,RepSL.mono g.fg H.2⟩
end
theorem RepPL.len{N:Nm}:∀{cs:List Zc} {ps:List PC},RepPL N cs ps->cs.length=ps.length
 | [],[],_=>rfl
 |_::_,_::_,H=>by simp[RepPL.len H.2]
 | [],_::_,H=>H.elim
 |_::_,[],H=>H.elim
theorem RepPL.get{N:Nm}:∀{cs:List Zc} {ps:List PC},RepPL N cs ps->∀{j:Nat} {c:Zc} {p:PC},cs[j]? = some c->ps[j]? = some p->RepPC N c p
 | [],[],_,j,c,p,hc,_=>by simp at hc
 |c0::cs,p0::ps,H,j,c,p,hc,hp=>by
  cases j with
  |zero=>simp only[Yzf,Option.some.injEq]at hc hp;subst hc;subst hp;exact H.1
  |succ j=>exact RepPL.get H.2 (j:=j) (by simpa using hc) (by simpa using hp)
 | [],_::_,H,_,_,_,_,_=>H.elim
 |_::_,[],H,_,_,_,_,_=>H.elim
theorem RepPL.of{N:Nm}:∀{cs:List Zc} {ps:List PC},cs.length=ps.length->(∀(j:Nat) (c:Zc) (p:PC),cs[j]? = some c->ps[j]? = some p->RepPC N c p)->RepPL N cs ps
 | [],[],_,_=>trivial
 |c::cs,p::ps,hl,H=>⟨H 0 c p rfl rfl,RepPL.of (by grind) fun j c p hc hp=>H (j+1) c p (by trivial) (by trivial)⟩
 | [],_::_,hl,_=>by simp at hl
 |_::_,[],hl,_=>by simp at hl
theorem RepPL.app{N:Nm}:∀{cs cs':List Zc} {ps ps':List PC},RepPL N cs ps->RepPL N cs' ps'->RepPL N (cs++cs') (ps++ps')
 | [],_,[],_,_,H=>H
 |_::_,_,_::_,_,H,K=>⟨H.1,RepPL.app H.2 K⟩
 | [],_,_::_,_,H,_=>H.elim
 |_::_,_,[],_,H,_=>H.elim
theorem RepPL.take{N:Nm}:∀{cs:List Zc} {ps:List PC} (n:Nat),RepPL N cs ps->RepPL N (cs.take n) (ps.take n)
 |_,_,0,_=>by simp[RepPL]
 | [],[],n+1,_=>by simp[RepPL]
 |_::_,_::_,n+1,H=>⟨H.1,RepPL.take n H.2⟩
 | [],_::_,_+1,H=>H.elim
 |_::_,[],_+1,H=>H.elim
theorem RepPL.drop{N:Nm}:∀{cs:List Zc} {ps:List PC} (n:Nat),RepPL N cs ps->RepPL N (cs.drop n) (ps.drop n)
 |_,_,0,H=>H
 | [],[],n+1,_=>by simp[RepPL]
 |_::_,_::_,n+1,H=>RepPL.drop n H.2
 | [],_::_,_+1,H=>H.elim
 |_::_,[],_+1,H=>H.elim
theorem RepPL.ofD{N:Nm}{cs:List Zc}{ds:List DV}(H:RepL N.fz N.h cs ds):RepPL N cs (ds.map .d):=
 RepPL.of (by simp[H.1]) fun j c p hc hp=>by simp only[Lz6,Yz7]at hp;obtain⟨d,hd,rfl⟩:=hp;exact H.2 j c d hc hd
structure En where
 h0:Za
 ok:BN->Prop
 xp:BN->Prop
def En.nw(E:En)(b:BN):Prop:=E.h0.n.toNat<=b.toNat\/E.xp b
structure GrX (E:En) (h:Za):Prop where
 le:E.h0.n.toNat<=h.n.toNat
 old:∀b:BN,b.toNat<E.h0.n.toNat->¬E.xp b->h.t.get b=E.h0.t.get b
theorem GrX.refl{E:En}:GrX E E.h0:=⟨LzB _,fun _ _ _=>rfl⟩
theorem GrX.trans{E:En}{h h':Za}(a:GrX E h)(g:Gr h h'):GrX E h':=⟨Yzl a.le g.le,fun b hb hx=>(g.old b (Lz9 hb a.le)).trans (a.old b hb hx)⟩
theorem GrX.put{E:En}{h:Za}(a:GrX E h){b:BN}{o:Zf}(hb:E.nw b):GrX E (h.put b o):=⟨a.le,fun c hc hx=>(xn _ _ fun e=>by subst e;rcases hb with h|h<;>grind).trans (a.old c hc hx)⟩
structure Zd (E:En) (N:Nm) (os:List PO):Prop where
 hw:HW N.h
 gr:GrX E N.h
 fzlt:∀b,N.fz b->b.toNat<N.h.n.toNat
 fzok:∀b,N.fz b->E.ok b\/E.nw b
 fzex:∀b,N.fz b->b.toNat<E.h0.n.toNat\/∃y,N.h.t.get b=some y
 len:N.n=os.length
 own:∀k b,live (og os k)->blk (N.μ k)=some b->E.nw b
 inj:∀k k' b,live (og os k)->live (og os k')->blk (N.μ k)=some b->blk (N.μ k')=some b->k=k'
 obj:∀k,RepO N k (og os k)
 lnk:∀t m,og os t=.lnk m->∃k v n,og os k=.hol v n t
theorem yZ{N:Nm}{k:Nat}{o:PO}(hl:live o)(H:RepO N k o):∃b x,blk (N.μ k)=some b/\¬N.fz b/\N.h.t.get b=some x:=by
 cases o with
 |box cs=>obtain⟨b,vs,h1,h2,h3,_⟩:=H;exact⟨b,_,by rw[h1];rfl,h2,h3⟩
 |arr st v=>
  rcases v with _|xs
  .trivial
  obtain⟨b,vs,ex,h1,h2,h3,_⟩:=H;exact⟨b,_,by rw[h1];rfl,h2,h3⟩
 |mp st xs=>obtain⟨b,es,h1,h2,h3,_⟩:=H;exact⟨b,_,by rw[h1];rfl,h2,h3⟩
 |lop nt ρ ps a b lbl st=>obtain⟨l,S,pend,lf,lt,psA,ld,h1,h2,h3,_⟩:=H;exact⟨l,_,by rw[h1];rfl,h2,h3⟩
 |hol v n t=>
  rcases v with _|xs
  .trivial
  obtain⟨b,vs,ex,h1,h2,h3,_⟩:=H;exact⟨b,_,by rw[h1];rfl,h2,h3⟩
 |_=>trivial
theorem xf{N:Nm}{k:Nat}{o:PO}(hl:tied o)(H:RepO N k o):∃b x,blk (N.μ k)=some b/\¬N.fz b/\N.h.t.get b=some x:=by
 rcases hl with hl|⟨m,rfl⟩
 .grind[yZ]
 obtain⟨_,b,n,vs,h1,h2,h3,_⟩:=H;exact⟨b,_,by rw[h1];rfl,h2,h3⟩
theorem Zd.lnk_blk{E:En}{N:Nm}{os:List PO}(I:Zd E N os){t m:Nat}(h:og os t=.lnk m):∃k v n,og os k=.hol v n t/\blk (N.μ t)=blk (N.μ k):=by
 obtain⟨k,v,n,hk⟩:=I.lnk t m h;have:=I.obj k;rw[hk]at this;rcases v with _|xs
 .trivial
 obtain⟨b,vs,ex,h1,_,_,_,_,_,h8,_⟩:=this;exact⟨k,_,n,hk,by rw[h1,h8];rfl⟩
theorem RepO.mono{N N':Nm}{k:Nat}{o:PO}(g:Nx N N')(hk:N'.μ k=N.μ k)(hb:tied o->∀b,blk (N.μ k)=some b->¬N'.fz b/\N'.h.t.get b=N.h.t.get b)(H:RepO N k o):RepO N' k o:=by
 cases o with
 |box cs=>obtain⟨b,vs,h1,h2,h3,h4⟩:=H;obtain⟨k1,k2⟩:=hb (.inl trivial) b (by rw[h1];rfl);exact⟨b,vs,hk.trans h1,k1,k2.trans h3,h4.mono g⟩
 |arr st v=>
  rcases v with _|xs
  .exact hk.trans H
  obtain⟨b,vs,ex,h1,h2,h3,h4,h5⟩:=H;obtain⟨k1,k2⟩:=hb (.inl trivial) b (by rw[h1];rfl);exact⟨b,vs,ex,hk.trans h1,k1,k2.trans h3,h4,fun i x hx=>⟨(h5 i x hx).1,(h5 i x hx).2.mono g.fg⟩⟩
 |frz v=>show Rep _ _ _ _;rw[hk];exact Rep.mono g.fg H
 |fbox ds=>obtain⟨b,h1,h2⟩:=H;exact⟨b,hk.trans h1,h2.mono g.fg⟩
 |mp st xs=>obtain⟨b,es,h1,h2,h3,h4,h5⟩:=H;obtain⟨k1,k2⟩:=hb (.inl trivial) b (by rw[h1];rfl);exact⟨b,es,hk.trans h1,k1,k2.trans h3,h4,fun i e x he hx=>⟨(h5 i e x he hx).1.mono g.fg,(h5 i e x he hx).2.mono g.fg⟩⟩
 |hol v n t=>
  rcases v with _|xs
  .exact H
  obtain⟨b,vs,ex,h1,h2,h3,h4,h5,h6,h7,h8⟩:=H;obtain⟨k1,k2⟩:=hb (.inl trivial) b (by rw[h1];rfl);exact⟨b,vs,ex,hk.trans h1,k1,k2.trans h3,h4,h5,Lz9 h6 g.le,(g.mu t h6).trans h7,fun i x hi hx=>⟨(h8 i x hi hx).1,(h8 i x hi hx).2.mono g.fg⟩⟩
 |lnk m=>obtain⟨h0,b,n,vs,h1,h2,h3,h4⟩:=H;obtain⟨k1,k2⟩:=hb (.inr ⟨m,rfl⟩) b (by rw[h1];rfl);exact⟨Lz9 h0 g.le,b,n,vs,hk.trans h1,k1,k2.trans h3,by rw[g.mu m h0];exact h4⟩
 |lop nt ρ ps a b lbl st=>obtain⟨l,S,pend,lf,lt,psA,ld,h1,h2,h3,h4,h5,h6⟩:=H;obtain⟨k1,k2⟩:=hb (.inl trivial) l (by rw[h1];rfl);exact⟨l,S,pend,lf,lt,psA,ld,hk.trans h1,k1,k2.trans h3,h4,h5,fun i=>(h6 i).mono g⟩
 |dead=>trivial
def upd(μ:Nat->Zc)(k:Nat)(c:Zc):Nat->Zc:=fun j=>if j=k then c else μ j
theorem Zd.new{E:En}{N:Nm}{os:List PO}(I:Zd E N os)(x:Zf)(o:PO)(c:Zc)(hc:blk c=some N.h.n)
  (ho:RepO ⟨upd N.μ os.length c,os.length+1,N.fz,N.h.new x⟩ os.length o) (hnl:∀m,o≠.lnk m:=by intro m h;cases h):
  Zd E ⟨upd N.μ os.length c,os.length+1,N.fz,N.h.new x⟩ (os++[o])/\Nx N ⟨upd N.μ os.length c,os.length+1,N.fz,N.h.new x⟩/\
   (∀b y,N.h.t.get b=some y->(N.h.new x).t.get b=some y):=by
 have G:=Gr.new N.h x;have old:∀b y,N.h.t.get b=some y->(N.h.new x).t.get b=some y:=fun b y hy=>G.get I.hw hy;have nx:Nx N ⟨upd N.μ os.length c,os.length+1,N.fz,N.h.new x⟩:=⟨⟨fun _ _ h _=>h,fun b y _ hy=>old b y hy⟩,by have:=I.len;grind,fun k hk=>by
  have:=I.len;show (if k=os.length then c else N.μ k)=_
  grind⟩
 have mu:∀k,k≠os.length->upd N.μ os.length c k=N.μ k:=fun k hk=>by show (if k=os.length then c else N.μ k)=_;rw[Yzb hk]
 have muL:upd N.μ os.length c os.length=c:=by show (if os.length=os.length then c else _)=_;simp
 have lt:∀k b,live (og os k)->blk (N.μ k)=some b->b.toNat<N.h.n.toNat:=fun k b hl hb=>by obtain⟨b',x',h1,_,h3⟩:=yZ hl (I.obj k);rw[h1]at hb;cases hb;exact I.hw _ _ h3
 refine⟨⟨I.hw.new x,I.gr.trans G,fun b hb=>Lz9 (I.fzlt b hb) G.le,I.fzok,fun b hb=>(I.fzex b hb).imp id fun⟨y,hy⟩=>⟨y,old b y hy⟩,by simp,?_,?_,?_,?_⟩,nx,old⟩
 .intro k b hl hb;rw[yI]at hl;by_cases hk:k=os.length
  .subst hk;rw[show (Nm.mk (upd N.μ os.length c) (os.length+1) N.fz (N.h.new x)).μ os.length=c from muL,hc]at hb;cases hb;exact .inl I.gr.le
  rw[Yzb hk]at hl;rw[show (Nm.mk (upd N.μ os.length c) (os.length+1) N.fz (N.h.new x)).μ k=N.μ k from mu k hk]at hb;exact I.own k b hl hb
 .intro k k' b hl hl' hb hb';rw[yI]at hl hl';simp only at hb hb';by_cases hk:k=os.length<;>by_cases hk':k'=os.length
  .omega
  .grind
  .grind
  rw[Yzb hk]at hl;rw[Yzb hk']at hl';rw[mu k hk]at hb;rw[mu k' hk']at hb';exact I.inj k k' b hl hl' hb hb'
 .intro k;rw[yI];by_cases hk:k=os.length
  .grind
  rw[Yzb hk];refine (I.obj k).mono nx (mu k hk) fun hl b hb=>?_;obtain⟨b',x',h1,h2,h3⟩:=xf hl (I.obj k)
  grind
 intro t m ht;rw[yI]at ht;by_cases hk:t=os.length
 .grind
 rw[Yzb hk]at ht;obtain⟨k,v,n,h⟩:=I.lnk t m ht;have hl:k<os.length:=wF (by grind);exact⟨k,v,n,by rw[yI,Yzb (by omega)];exact h⟩
theorem Zd.put{E:En}{N:Nm}{os:List PO}(I:Zd E N os){k:Nat}(hs:solid (og os k)){b:BN}(hb:blk (N.μ k)=some b)(x:Zf)(o:PO)
  (ho:RepO ⟨N.μ,N.n,N.fz,N.h.put b x⟩ k o) (hnl:∀m,o≠.lnk m:=by intro m h;cases h):Zd E ⟨N.μ,N.n,N.fz,N.h.put b x⟩ (oset o os k)/\Nx N ⟨N.μ,N.n,N.fz,N.h.put b x⟩/\(∀b' y,N.h.t.get b'=some y->b'≠b->(N.h.put b x).t.get b'=some y):=by
 have hl:=hs.live;obtain⟨b0,x0,h1,h2,h3⟩:=yZ hl (I.obj k);rw[h1]at hb;cases hb;have hk:k<os.length:=wF (by intro e;rw[e]at hl;exact hl);have old:∀b' y,N.h.t.get b'=some y->b'≠b->(N.h.put b x).t.get b'=some y:=fun b' y hy hne=>by grind[xn]
 have nx:Nx N ⟨N.μ,N.n,N.fz,N.h.put b x⟩:=⟨⟨fun _ _ h _=>h,fun b' y hf hy=>old b' y hy (fun e=>h2 (e▸hf))⟩,LzB _,fun _ _=>rfl⟩;refine⟨⟨HW.put I.hw h3,I.gr.put (I.own k b hl h1),I.fzlt,I.fzok,fun b' hb'=>(I.fzex b' hb').imp id fun⟨y,hy⟩=>⟨y,old b' y hy (fun e=>h2 (e▸hb'))⟩,I.len.trans (zX o os k).symm,?_,?_,?_,?_⟩,nx,old⟩
 .intro j b' hl' hb';by_cases hj:j=k
  .subst hj;exact I.own j b' hl hb'
  rw[zw,Yzb (fun e=>hj e.1)]at hl';exact I.own j b' hl' hb'
 .intro j j' b' hl1 hl2 hb1 hb2;have t:∀i,live (og (oset o os k) i)->live (og os i):=fun i hi=>by
   grind[zw]
  exact I.inj j j' b' (t j hl1) (t j' hl2) hb1 hb2
 .intro j;by_cases hj:j=k
  .subst hj;rw[zw,Yzd ⟨rfl,hk⟩];exact ho
  rw[zw,Yzb (fun e=>hj e.1)];refine (I.obj j).mono nx rfl fun hlj b' hb'=>?_;obtain⟨b1,x1,k1,k2,k3⟩:=xf hlj (I.obj j);rw[k1]at hb';cases hb';have hne:b'≠b:=fun e=>by
   rcases hlj with hlj|⟨m,hm⟩
   .exact hj (I.inj j k b' hlj hl k1 (by grind))
   obtain⟨k',v,n,q1,q2⟩:=I.lnk_blk hm;have:=I.inj k' k b' (by rw[q1];trivial) hl (by grind) (by grind);subst this;exact hs.hol v n j q1
  grind
 intro t m ht;rw[zw]at ht;split at ht
 .grind
 obtain⟨k',v,n,h⟩:=I.lnk t m ht;exact⟨k',v,n,by rw[zw,Yzb (fun e=>hs.hol v n t (by grind))];exact h⟩
theorem Zd.freeze{E:En}{N:Nm}{os:List PO}(I:Zd E N os){k:Nat}(hs:solid (og os k)){b:BN}(hb:blk (N.μ k)=some b)(o:PO)(hno:¬live o)
  (ho:RepO ⟨N.μ,N.n,fun b'=>N.fz b'\/b'=b,N.h⟩ k o) (hnl:∀m,o≠.lnk m:=by intro m h;cases h):Zd E ⟨N.μ,N.n,fun b'=>N.fz b'\/b'=b,N.h⟩ (oset o os k)/\Nx N ⟨N.μ,N.n,fun b'=>N.fz b'\/b'=b,N.h⟩:=by
 have hl:=hs.live;obtain⟨b0,x0,h1,h2,h3⟩:=yZ hl (I.obj k);rw[h1]at hb;cases hb;have hk:k<os.length:=wF (by intro e;rw[e]at hl;exact hl);have nx:Nx N ⟨N.μ,N.n,fun b'=>N.fz b'\/b'=b,N.h⟩:=⟨⟨fun _ _ h _=>.inl h,fun _ _ _ hy=>hy⟩,LzB _,fun _ _=>rfl⟩;have t:∀i,live (og (oset o os k) i)->i≠k/\live (og os i):=fun i hi=>by
  by_cases hj:i=k
  .subst hj;rw[zw,Yzd ⟨rfl,hk⟩]at hi;trivial
  simp_all[zw]
 refine⟨⟨I.hw,I.gr,fun b' hb'=>hb'.elim (I.fzlt b') (fun e=>by rw[e];exact I.hw _ _ h3),fun b' hb'=>hb'.elim (I.fzok b') (fun e=>.inr (by rw[e];exact I.own k b hl h1)),fun b' hb'=>hb'.elim (I.fzex b') (fun e=>.inr ⟨x0,by grind⟩),I.len.trans (zX o os k).symm,?_,?_,?_,?_⟩,nx⟩
 .intro j b' hl' hb';exact I.own j b' (t j hl').2 hb'
 .intro j j' b' hl1 hl2 hb1 hb2;exact I.inj j j' b' (t j hl1).2 (t j' hl2).2 hb1 hb2
 .intro j;by_cases hj:j=k
  .subst hj;rw[zw,Yzd ⟨rfl,hk⟩];exact ho
  rw[zw,Yzb (fun e=>hj e.1)];refine (I.obj j).mono nx rfl fun hlj b' hb'=>?_;obtain⟨b1,x1,k1,k2,k3⟩:=xf hlj (I.obj j);rw[k1]at hb';cases hb';refine⟨fun e=>e.elim k2 (fun e=>?_),rfl⟩;rcases hlj with hlj|⟨m,hm⟩
  .exact hj (I.inj j k b' hlj hl k1 (by grind))
  obtain⟨k',v,n,q1,q2⟩:=I.lnk_blk hm;have:=I.inj k' k b' (by rw[q1];trivial) hl (by grind) (by grind);subst this;exact hs.hol v n j q1
 intro t' m ht;rw[zw]at ht;split at ht
 .grind
 obtain⟨k',v,n,h⟩:=I.lnk t' m ht;exact⟨k',v,n,by rw[zw,Yzb (fun e=>hs.hol v n t' (by grind))];exact h⟩
theorem Zd.turn{E:En}{N:Nm}{os:List PO}(I:Zd E N os)(k:Nat)(o:PO)(hno:¬live o)(ho:RepO N k o)(hnh:∀v n t,og os k≠.hol v n t)(hnl:∀m,o≠.lnk m:=by intro m h;cases h):Zd E N (oset o os k):=by
 have t:∀i,live (og (oset o os k) i)->live (og os i):=fun i hi=>by grind[zw]
 refine⟨I.hw,I.gr,I.fzlt,I.fzok,I.fzex,I.len.trans (zX o os k).symm,fun j b' hl' hb'=>I.own j b' (t j hl') hb',fun j j' b' hl1 hl2 hb1 hb2=>I.inj j j' b' (t j hl1) (t j' hl2) hb1 hb2,fun j=>?_,fun j m hm=>?_⟩
 .rw[zw];split
  .grind
  exact I.obj j
 rw[zw]at hm;split at hm
 .grind
 obtain⟨k',v,n,h⟩:=I.lnk j m hm;exact⟨k',v,n,by rw[zw,Yzb (fun e=>hnh v n j (by grind))];exact h⟩
theorem Zd.grow{E:En}{N:Nm}{os:List PO}(I:Zd E N os){h':Za}(hw:HW h')(G:Gr N.h h'):
  Zd E ⟨N.μ,N.n,fun b=>N.fz b\/(N.h.n.toNat<=b.toNat/\∃y,h'.t.get b=some y),h'⟩ os/\Nx N ⟨N.μ,N.n,fun b=>N.fz b\/(N.h.n.toNat<=b.toNat/\∃y,h'.t.get b=some y),h'⟩:=by
 have nx:Nx N ⟨N.μ,N.n,fun b=>N.fz b\/(N.h.n.toNat<=b.toNat/\∃y,h'.t.get b=some y),h'⟩:=⟨⟨fun _ _ h _=>.inl h,fun b y _ hy=>G.get I.hw hy⟩,LzB _,fun _ _=>rfl⟩;refine⟨⟨hw,I.gr.trans G,fun b hb=>hb.elim (fun h=>Lz9 (I.fzlt b h) G.le) (fun h=>by obtain⟨_,y,hy⟩:=h;exact hw b y hy),fun b hb=>hb.elim (I.fzok b) (fun h=>.inr (.inl (Yzl I.gr.le h.1))),fun b hb=>hb.elim (fun h=>(I.fzex b h).imp id fun⟨y,hy⟩=>⟨y,G.get I.hw hy⟩) (fun h=>.inr h.2),I.len,I.own,I.inj,fun k=>?_,I.lnk⟩,nx⟩;refine (I.obj k).mono nx rfl fun hl b hb=>?_;obtain⟨b',x',h1,h2,h3⟩:=xf hl (I.obj k);rw[h1]at hb;cases hb;exact⟨fun e=>e.elim h2 (fun e=>absurd (I.hw _ _ h3) (by omega)),(G.get I.hw h3).trans h3.symm⟩
end Go.PE
end
section
namespace Go.PE
open Go Go.CE
def oD:Option Zc->Option DV
 |some (.int k n)=>some (.int k n)
 |some (.bool b)=>some (.bool b)
 |some (.str s)=>some (.str s)
 |_=>none
def zg(op:BinOp):DV->DV->Option DV
 | .int k a,.int k' b=>bif eqK k k' then oD (uk op k a b) else none
 |_,_=>none
def vQ(l:Bool):DV->DV->Option DV
 | .int k a,.int _ b=>oD ((bif l then zeK else zhs) k a b)
 |_,_=>none
def zgv(op:BinOp):DV->DV->Option DV
 | .str a,.str b=>oD (zpG op a b)
 |_,_=>none
def eqD:Nat->DV->DV->Option Bool
 |1,.int k a,.int k' b=>bif eqK k k' then some (eqI a b) else none
 |2,.str a,.str b=>some (a.data.toList==b.data.toList)
 |0,.bool a,.bool b=>some (a==b)
 |_,_,_=>none
def zn9:List Nat->List DV->List DV->Option Bool
 | [],[],[]=>some true
 |k::ks,x::xs,y::ys=>
  match eqD k x y with
  |some true=>zn9 ks xs ys
  |some false=>some false
  |none=>none
 |_,_,_=>none
def zec:DV->Option DV
 | .bool q=>some (.bool (!q))
 |_=>none
def zua:DV->Option DV
 | .int k n=>some (.int k (xZ k (Int.sub 0 n)))
 |_=>none
def zZ(k:IntKind):DV->Option DV
 | .int _ n=>some (.int k (xZ k n))
 |_=>none
def zro:DV->DV->DV->Option DV
 | .bool q,a,b=>some (bif q then a else b)
 |_,_,_=>none
def zed:DV->Option Bool
 | .nils=>some true
 | .lst _ _=>some false
 |_=>none
def uh(st:Nat):DV->DV->Option (List DV)
 | .lst st' xs,.int _ (.ofNat i)=>bif Nat.beq st st' then xs[i]? else none
 |_,_=>none
def yn(v:OC):DV->Option Nat
 | .int _ (.ofNat i)=>match v with|some xs=>bif Nat.ble (Nat.succ i) xs.length then some i else none|none=>none
 |_=>none
def j4(len:Nat):DV->Option Nat
 | .int _ (.ofNat i)=>bif Nat.ble (Nat.succ i) len then some i else none
 |_=>none
def kX(x:Option DV)(d y:Nat):Option Nat:=
 match x with
 |none=>some d
 |some (.int _ (.ofNat i))=>bif Nat.ble i y then some i else none
 |_=>none
def u1(st:Nat)(v:DV)(lo hi:Option DV):Option DV:=
 match v with
 | .nils=>match kX hi 0 0,kX lo 0 0 with|some _,some _=>some .nils|_,_=>none
 | .lst st' xs=>
  bif Nat.beq st st' then
   match kX hi xs.length xs.length with
   |some hh=>
    match kX lo 0 hh with
    |some l=>bif Nat.beq l 0 || !Nat.beq l xs.length then some (.lst st ((xs.drop l).take (hh-l))) else none
    |none=>none
   |none=>none
  else none
 |_=>none
def zqO(lo:Option DV)(hi mx:DV)(y:Nat):Option (Nat×Nat):=
 match kX (some mx) 0 y with
 |some m=>
  match kX (some hi) 0 m with
  |some hh=>
   match kX lo 0 hh with
   |some l=>bif Nat.beq l hh then none else some (l,hh-l)
   |none=>none
  |none=>none
 |none=>none
def zbH(st:Nat)(v:DV)(lo:Option DV)(hi mx:DV):Option DV:=
 match v with
 | .lst st' xs=>bif Nat.beq st st' then(match zqO lo hi mx xs.length with|some p=>some (.lst st ((xs.drop p.1).take p.2))|none=>none) else none
 |_=>none
def vwB(lo hi:Option DV)(y:Nat):Option (Nat×Nat):=
 match kX hi y y with
 |some hh=>
  match kX lo 0 hh with
  |some l=>bif Nat.beq l 0 || !Nat.beq l hh then some (l,hh-l) else none
  |none=>none
 |none=>none
def zgW(st lo len:Nat):DV->DV
 | .nils=>.nils
 | .lst st' xs=>bif Nat.beq st st' then .lst st' ((xs.drop lo).take len) else .u
 |_=>.u
def xl:DV->Option DV
 | .nils=>some (.int .i64 (.ofNat 0))
 | .lst _ xs=>some (.int .i64 (.ofNat xs.length))
 |_=>none
def xu:OC->Nat
 |none=>0
 |some xs=>xs.length
def zj7:DV->Option DV
 | .str s=>some (.int .i64 (.ofNat s.size))
 |_=>none
def zhS:List UInt8->Nat->Option DV
 | [],_=>none
 |c::cs,i=>bif Nat.beq i 0 then some (.int .u8 (.ofNat c.toNat)) else zhS cs (Nat.sub i 1)
def zaJ:DV->DV->Option DV
 | .str s,.int _ (.ofNat i)=>zhS s.data.toList i
 |_,_=>none
def zgX(v:DV)(lo hi:Option DV):Option DV:=
 match v with
 | .str s=>
  match kX hi s.size s.size with
  |some hh=>
   match kX lo 0 hh with
   |some l=>some (.str (s.extract l hh))
   |none=>none
  |none=>none
 |_=>none
def vR(st:Nat):DV->Option (List (List DV))
 | .nils=>some []
 | .lst st' xs=>bif Nat.beq st st' then some xs else none
 |_=>none
def zL:OC->List (List DV)
 |none=>[]
 |some xs=>xs
def zT(v:OC)(new:List (List DV)):OC:=
 match new with
 | []=>v
 |x::l=>some (zL v++(x::l))
def zkb:List (List DV)->Option (List Int)
 | []=>some []
 | [.int .u8 n]::cs=>match zkb cs with|some l=>some (n::l)|none=>none
 |_=>none
def zgw:DV->Option DV
 | .nils=>some (.str ByteArray.empty)
 | .lst 1 xs=>match zkb xs with|some ns=>some (.str (jY ns ByteArray.empty))|none=>none
 |_=>none
def minD(isMax:Bool)(k:IntKind):List DV->Int->Option Int
 | [],x=>some x
 | .int k' y::r,x=>bif eqK k k' then minD isMax k r (bif isMax then(bif ltI x y then y else x) else(bif ltI y x then y else x)) else none
 |_::_,_=>none
def uG(isMax:Bool)(v:DV)(l:List DV):Option DV:=
 match v with
 | .int k n=>match minD isMax k l n with|some m=>some (.int k m)|none=>none
 |_=>none
def j5(v:OC)(i:Nat):Option (List DV):=match v with|some xs=>xs[i]? |none=>none
def uV(st:Nat)(v:OC)(i off:Nat)(ds:List DV):Option OC:=
 match v with
 |some xs=>
  match xs[i]? with
  |some x=>bif Nat.ble (off+ds.length) st then some (some (xs.set i (x.take off++ds++x.drop (off+ds.length)))) else none
  |none=>none
 |none=>none
section
variable {α β:Type}
def za(o:Option α)(k:α->Option β):Option β:=match o with|some a=>k a|none=>none
def ifB(v:DV)(a b:Option β):Option β:=match v with | .bool q=>bif q then a else b|_=>none
def gd(b:Bool)(k:Option β):Option β:=bif b then k else none
def gdN(v:DV)(k:Option β):Option β:=match v with | .nils=>k|_=>none
def w1(a:Option PA)(k:PC->Option β):Option β:=match a with|some (.s (.one c))=>k c|_=>none
def wd(a:Option PA)(k:DV->Option β):Option β:=match a with|some (.s (.one (.d v)))=>k v|_=>none
inductive Sh where
 |one
 |agg (n:Nat)
 |tup (l:List (Option Nat))
 |no
 |sc
 |tsc (n:Nat)
def b1(r:Option DA)(k:DV->Option β):Option β:=match r with|some (.s (.one d))=>k d|_=>none
def bA(n:Nat)(r:Option DA)(k:List DV->Option β):Option β:=match r with|some (.s (.agg l))=>bif Nat.beq l.length n then k l else none|_=>none
def okT:List (Option Nat)->List DS->Bool
 | [],[]=>true
 |none::shs,.one _::l=>okT shs l
 |some n::shs,.agg ds::l=>Nat.beq ds.length n&&okT shs l
 |_,_=>false
def bT(shs:List (Option Nat))(r:Option DA)(k:List DS->Option β):Option β:=match r with|some (.tup l)=>bif okT shs l then k l else none|_=>none
def bN(r:Option DA)(k:Option β):Option β:=match r with|some _=>k|none=>none
def zoy:DV->Bool
 | .bool _=>true
 | .int _ _=>true
 | .str _=>true
 |_=>false
def zls:List DS->Bool
 | []=>true
 | .one d::l=>zoy d&&zls l
 |_::_=>false
def zfB:Nat->List (Option Nat)
 |0=>[]
 |n+1=>none::zfB n
def b1s(r:Option DA)(k:DV->Option β):Option β:=match r with|some (.s (.one d))=>bif zoy d then k d else none|_=>none
def bTs(n:Nat)(r:Option DA)(k:List DS->Option β):Option β:=match r with|some (.tup l)=>bif okT (zfB n) l&&zls l then k l else none|_=>none
def wX:List DS->Nat->DS
 | [],_=>.one .u
 |d::l,i=>bif Nat.beq i 0 then d else wX l (Nat.sub i 1)
def dsO:DS->DV
 | .one d=>d
 | .agg _=>.u
def dsA:DS->List DV
 | .agg l=>l
 | .one _=>[]
def za6(l:List DS):List (Option Nat)->Nat->List DS
 | [],_=>[]
 |none::shs,i=>.one (dsO (wX l i))::za6 l shs (Nat.succ i)
 |some n::shs,i=>.agg (exp (dsA (wX l i)) n 0)::za6 l shs (Nat.succ i)
end
def cD:Zc->Option DV
 | .bool b=>some (.bool b)
 | .int k n=>some (.int k n)
 | .str s=>some (.str s)
 | .nilp=>some .nilp
 | .nils=>some .nils
 | .nilm=>some .nilm
 | .nilf=>some .nilf
 | .nili=>some .nili
 | .fn f []=>some (.fn f [])
 |_=>none
def cDs:List Zc->Option (List PC)
 | []=>some []
 |c::cs=>
  match cD c,cDs cs with
  |some d,some ds=>some (.d d::ds)
  |_,_=>none
def pvS:SVal->Option PV
 | .one c=>match cD c with|some d=>some (.one (.d d))|none=>none
 | .agg cs=>match cDs cs with|some ds=>some (.agg ds)|none=>none
def pv(ρ:Nat->PA):Operand->Option PA
 | .tmp t=>some (ρ t)
 | .const v=>match znz v with|some s=>(match pvS s with|some p=>some (.s p)|none=>none)|none=>none
 | .func f=>some (.s (.one (.d (.fn f []))))
 | .global _=>none
def pvs(ρ:Nat->PA):List Operand->Option (List PA)
 | []=>some []
 |x::xs=>
  match pv ρ x,pvs ρ xs with
  |some a,some l=>some (a::l)
  |_,_=>none
def pvo(ρ:Nat->PA):Option Operand->Option (Option DV)
 |none=>some none
 |some x=>match pv ρ x with|some (.s (.one (.d v)))=>some (some v)|_=>none
def pvd(ρ:Nat->PA):List Operand->Option (List DV)
 | []=>some []
 |x::xs=>
  match pv ρ x,pvd ρ xs with
  |some (.s (.one (.d v))),some l=>some (v::l)
  |_,_=>none
def zfS(ρ:Nat->PA):List (Nat×Nat×Operand)->List PC->Option (List PC)
 | [],cs=>some cs
 |(off,size,x)::rest,cs=>
  match pv ρ x with
  |some (.s v)=>bif Nat.beq v.cells.length size&&Nat.ble (off+size) cs.length then zfS ρ rest (cs.take off++v.cells++cs.drop (off+size)) else none
  |_=>none
mutual
def frC(lk:Nat->Bool):Nat->List PO->PC->Option (List PO×DV)
 |_,os,.d v=>some (os,v)
 |_,os,.own k=>
  match og os k with
  | .frz v=>some (os,v)
  | .arr st v=>bif lk k then none else some (oset (.frz (mkL st v)) os k,mkL st v)
  |_=>none
 |n+1,os,.ptr k off=>
  match og os k with
  | .fbox ds=>some (os,.fp ds off)
  | .box cs=>
   bif lk k then none else
   match frL lk n os cs with
   |some (os',ds)=>
    match og os' k with
    | .box cs'=>bif Nat.beq cs'.length cs.length then some (oset (.fbox ds) os' k,.fp ds off) else none
    |_=>none
   |none=>none
  |_=>none
 |_+1,os,.vw k st lo len=>
  match og os k with
  | .frz v=>some (os,zgW st lo len v)
  | .arr st' v=>bif lk k then none else some (oset (.frz (mkL st' v)) os k,zgW st lo len (mkL st' v))
  |_=>none
 |n+1,os,.clo f caps=>
  match frK lk n os caps with
  |some (os',l)=>some (os',.fn f l)
  |none=>none
 |_,_,_=>none
def frL(lk:Nat->Bool):Nat->List PO->List PC->Option (List PO×List DV)
 |_,os,[]=>some (os,[])
 |n,os,c::cs=>
  match n with
  |0=>none
  |n+1=>
   match frC lk n os c with
   |some (os',d)=>
    match frL lk n os' cs with
    |some (os'',ds)=>some (os'',d::ds)
    |none=>none
   |none=>none
def frK(lk:Nat->Bool):Nat->List PO->List (Nat⊕List DV)->Option (List PO×List (List DV))
 |_,os,[]=>some (os,[])
 |n,os,c::cs=>
  match n with
  |0=>none
  |n+1=>
   match (match c with | .inl k=>frC lk n os (.ptr k 0) | .inr xs=>some (os,.fp xs 0)) with
   |some (os',.fp x 0)=>
    match frK lk n os' cs with
    |some (os'',xs)=>some (os'',x::xs)
    |none=>none
   |_=>none
end
def yP:Nat:=100
def frV(lk:Nat->Bool)(os:List PO):PV->Option (List PO×DS)
 | .one c=>match frC lk yP os c with|some (os',d)=>some (os',.one d)|none=>none
 | .agg cs=>match frL lk yP os cs with|some (os',ds)=>some (os',.agg ds)|none=>none
def frA(lk:Nat->Bool)(os:List PO):List PA->Option (List PO×List DA)
 | []=>some (os,[])
 | .s v::l=>
  match frV lk os v with
  |some (os',d)=>
   match frA lk os' l with
   |some (os'',ds)=>some (os'',.s d::ds)
   |none=>none
  |none=>none
 |_::_=>none
abbrev KT(β:Type):=PA->List PO->List Nat->List Nat->Option β
abbrev Orc:=Nat->List DA->Option DA
abbrev und:PA:=.bad
abbrev pd(v:DV):PA:=.s (.one (.d v))
abbrev pc(c:PC):PA:=.s (.one c)
def zkO(O:Orc)(v:DV)(ds:List DA):Option DA:=
 match v with
 | .fn g caps=>O g (ds++caps.map fun x=>.s (.one (.fp x 0)))
 |_=>none
def mkN(bytes:Nat)(l c:DV):Option Nat:=
 match l,c with
 | .int _ (.ofNat l),.int _ (.ofNat c)=>bif Nat.beq l c&&Nat.ble c 1073741824&&Nat.ble (bytes*c) 281474976710656 then some l else none
 |_,_=>none
def zwR:DV->Option DV
 | .str s=>some (.lst 1 (s.data.toList.map fun c=>[.int .u8 (.ofNat c.toNat)]))
 |_=>none
def chunks(st:Nat):Nat->List DV->List (List DV)
 |0,_=>[]
 |n+1,ds=>ds.take st::chunks st n (ds.drop st)
def zkP:List PC->Option (List DV)
 | []=>some []
 | .d v::cs=>match zkP cs with|some l=>some (v::l)|none=>none
 |_=>none
def zwb(cs:List PC)(st:Nat):Nat->Nat->Option (List DV)
 |0,_=>some []
 |n+1,off=>
  match cs[off]?,zwb cs st n (off+st) with
  |some (.d v),some l=>some (v::l)
  |_,_=>none
def ipC(cs:List PC)(st len i:Nat):Nat->Nat->Option (List PC)
 |0,_=>some []
 |m+1,off=>
  match zwb cs st len off,ipC cs st len i m (Nat.succ off) with
  |some l,some r=>some (.d (atD l i)::r)
  |_,_=>none
def za1{β:Type}(n:Option Nat)(cs:List PC)(off:Nat)(k:PV->Option β):Option β:=
 match n with
 |none=>za cs[off]? fun c=>k (.one c)
 |some m=>bif Nat.ble (off+m) cs.length then k (.agg ((cs.drop off).take m)) else none
def zfs{β:Type}(n:Option Nat)(cs:List PC)(off:Nat)(k:PV->Option β):Option β:=
 match n with
 |some 0=>none
 |n=>za1 n cs off k
def znw(ρ:Nat->PA):List Operand->Option (List (Nat⊕List DV))
 | []=>some []
 |x::xs=>
  match pv ρ x,znw ρ xs with
  |some (.s (.one (.ptr k 0))),some l=>some (.inl k::l)
  |some (.s (.one (.d (.fp y 0)))),some l=>some (.inr y::l)
  |_,_=>none
def bSh{β:Type}(sh:Sh)(r:Option DA)(k:PA->Option β):Option β:=
 match sh with
 | .one=>b1 r fun d=>k (pd d)
 | .agg n=>bA n r fun l=>k (.s (.agg ((exp l n 0).map .d)))
 | .tup shs=>bT shs r fun l=>k (.tup (za6 l shs 0))
 | .no=>bN r (k und)
 | .sc=>b1 r fun d=>k (pd d)
 | .tsc n=>bT (zfB n) r fun l=>k (.tup (za6 l (zfB n) 0))
def ztp{β:Type}(sh:Sh)(r:Option DA)(k:PA->Option β):Option β:=
 match sh with
 | .sc=>b1s r fun d=>k (pd d)
 | .tsc n=>bTs n r fun l=>k (.tup (za6 l (zfB n) 0))
 |_=>none
def zwx:Sh->Bool
 | .sc=>true
 | .tsc _=>true
 |_=>false
def lvO:PO->Bool
 | .box _=>true
 | .arr _ _=>true
 | .mp _ _=>true
 |_=>false
def zwq(os:List PO):List (Nat⊕List DV)->Bool
 | []=>false
 | .inl k::l=>lvO (og os k)||zwq os l
 | .inr _::l=>zwq os l
def zvQ(os:List PO):PC->Bool
 | .own k=>lvO (og os k)
 | .ptr k _=>lvO (og os k)
 | .vw k _ _ _=>lvO (og os k)
 | .clo _ caps=>zwq os caps
 |_=>false
def zx4(os:List PO):List PC->Bool
 | []=>false
 |c::l=>zvQ os c||zx4 os l
def ztC(os:List PO):List PA->Bool
 | []=>false
 | .s v::l=>zx4 os v.cells||ztC os l
 |_::l=>ztC os l
def zwt{β:Type}(os:List PO)(st:Nat)(c:PC)(k:List (List DV)->Option β):Option β:=
 match c with
 | .d v=>za (vR st v) k
 | .own j=>
  match og os j with
  | .arr st' v=>bif Nat.beq st st' then k (zL v) else none
  | .frz v=>za (vR st v) k
  |_=>none
 |_=>none
variable {β:Type}
def zlW(os:List PO)(n:Option Nat)(c:PC)(k:KT β):Option β:=
 match c with
 | .ptr j off=>
  match og os j with
  | .box cs=>za1 n cs off fun v=>k (.s v) os [] [j]
  | .fbox ds=>zfs n (ds.map .d) off fun v=>k (.s v) os [] [j]
  |_=>none
 | .d (.fp xs off)=>zfs n (xs.map .d) off fun v=>k (.s v) os [] []
 | .ep j st i off=>
  match og os j with
  | .arr st' v=>bif Nat.beq st st' then za (j5 v i) fun x=>za1 n ((exp x st 0).map .d) off fun v=>k (.s v) os [] [j] else none
  | .hol _ hn t=>
   match n with
   |none=>
    match og os t with
    | .lnk m=>bif Nat.beq st 1&&Nat.beq off 0 then gd (Nat.beq i hn) (k (pc (.own m)) os [] [j]) else none
    |_=>none
   |some _=>none
  |_=>none
 | .ip j off len st i o=>
  match og os j with
  | .box cs=>
   match n with
   |none=>za (ipC cs st len i 1 (off+o)) fun l=>match l with | [c]=>k (pc c) os [] [j]|_=>none
   |some m=>bif Nat.beq m 0 then none else za (ipC cs st len i m (off+o)) fun l=>k (.s (.agg l)) os [] [j]
  |_=>none
 |_=>none
def zlV(lk:Nat->Bool)(os:List PO)(n:Nat)(c:PC)(v:PV)(k:KT β):Option β:=
 bif Nat.beq v.cells.length n then
  match c with
  | .ptr j off=>
   match og os j with
   | .box cs=>bif lk j then none else bif Nat.ble (off+n) cs.length then k und (oset (.box (cs.take off++v.cells++cs.drop (off+n))) os j) [j] [] else none
   |_=>none
  | .ip j off _len st i o=>
   match og os j with
   | .box cs=>bif lk j then none else bif Nat.ble (off+i*st+o+n) cs.length then k und (oset (.box (cs.take (off+i*st+o)++v.cells++cs.drop (off+i*st+o+n))) os j) [j] [] else none
   |_=>none
  | .ep j st i off=>
   match og os j with
   | .hol _ hn t=>
    match v with
    | .one (.own m)=>
     match og os t with
     | .lnk _=>bif lk t then none else bif Nat.beq st 1&&Nat.beq off 0 then gd (Nat.beq i hn) (k und (oset (.lnk m) os t) [j] []) else none
     |_=>none
    |_=>none
   |_=>
   bif lk j then none else
   za (frL lk yP os v.cells) fun p=>
   match og p.1 j with
   | .arr st' w=>bif Nat.beq st st' then za (uV st w i off p.2) fun w'=>k und (oset (.arr st w') p.1 j) [j] [] else none
   |_=>none
  |_=>none
 else none
def zud(os:List PO)(st:Nat)(c:PC)(i:DV)(k:KT β):Option β:=
 match c with
 | .d v=>za (uh st v i) fun x=>k (pd (.fp (exp x st 0) 0)) os [] []
 | .own j=>
  match og os j with
  | .frz v=>za (uh st v i) fun x=>k (pd (.fp (exp x st 0) 0)) os [] []
  | .arr st' v=>bif Nat.beq st st' then za (yn v i) fun n=>k (pc (.ep j st n 0)) os [] [] else none
  | .hol v _ _=>bif Nat.beq st 1 then za (yn v i) fun n=>k (pc (.ep j st n 0)) os [] [] else none
  |_=>none
 | .vw j st' lo len=>
  match og os j with
  | .frz v=>za (uh st (zgW st' lo len v) i) fun x=>k (pd (.fp (exp x st 0) 0)) os [] []
  | .arr _ _=>bif Nat.beq st st' then za (j4 len i) fun n=>k (pc (.ep j st (lo+n) 0)) os [] [] else none
  |_=>none
 |_=>none
def zea(os:List PO)(st:Nat)(c:PC)(lo hi:Option DV)(k:KT β):Option β:=
 match c with
 | .own j=>
  match og os j with
  | .arr st' v=>bif Nat.beq st st' then za (vwB lo hi (xu v)) fun p=>k (pc (.vw j st p.1 p.2)) os [] [] else none
  | .frz v=>za (u1 st v lo hi) fun z=>k (pd z) os [] []
  |_=>none
 | .vw j st' l n=>bif Nat.beq st st' then za (vwB lo hi n) fun p=>k (pc (.vw j st (l+p.1) p.2)) os [] [] else none
 | .d v=>za (u1 st v lo hi) fun z=>k (pd z) os [] []
 |_=>none
def zgY(os:List PO)(st:Nat)(c:PC)(lo hi mx:Option DV)(k:KT β):Option β:=
 match hi,mx with
 |some hi,some mx=>
  match c with
  | .d v=>za (zbH st v lo hi mx) fun z=>k (pd z) os [] []
  | .own j=>
   match og os j with
   | .frz v=>za (zbH st v lo hi mx) fun z=>k (pd z) os [] []
   | .arr st' v=>bif Nat.beq st st' then za (zqO lo hi mx (xu v)) fun p=>k (pc (.vw j st p.1 p.2)) os [] [] else none
   |_=>none
  | .vw j st' l n=>bif Nat.beq st st' then za (zqO lo hi mx n) fun p=>k (pc (.vw j st (l+p.1) p.2)) os [] [] else none
  |_=>none
 |_,_=>none
def zwh(v:OC)(lo len:Nat)(ds:List DV):OC:=
 match v with
 |none=>none
 |some xs=>some (xs.take lo++List.replicate len ds++xs.drop (lo+len))
def zl0(lk:Nat->Bool)(os:List PO)(st:Nat)(zs:List Zc)(c:PC)(k:KT β):Option β:=
 match c with
 | .vw j st' lo len=>
  match og os j with
  | .arr st'' v=>bif lk j then none else bif Nat.beq st st'&&Nat.beq st st''&&Nat.beq zs.length st then za (cDs zs) fun ps=>za (zkP ps) fun ds=>k und (oset (.arr st'' (zwh v lo len ds)) os j) [j] [] else none
  |_=>none
 |_=>none
def zg1(lk:Nat->Bool)(os:List PO)(st bytes:Nat)(s:PC)(x:PC)(k:KT β):Option β:=
 zwt os st x fun new=>
 match s with
 | .d v=>gdN v (gd (fits bytes new.length) (k (pc (.own os.length)) (os++[.arr st (zT none new)]) [] []))
 | .own j=>
  match og os j with
  | .arr st' v=>bif lk j then none else bif Nat.beq st st' then gd (fits bytes (xu v+new.length)) (k (pc (.own os.length)) (oset .dead os j++[.arr st (zT v new)]) [j] []) else none
  |_=>none
 | .lit j=>
  match og os j with
  | .arr st' (some [])=>bif Nat.beq st st' && !List.isEmpty new then gd (fits bytes new.length) (k (pc (.own os.length)) (os++[.arr st (zT none new)]) [] []) else none
  |_=>none
 |_=>none
def zsI:Option Nat->Option Nat->Bool
 |none,none=>true
 |some a,some b=>Nat.beq a b
 |_,_=>false
def zgA:DS->Option Nat
 | .one _=>none
 | .agg l=>some l.length
def zvl:PV->Option DS
 | .one (.d v)=>some (.one v)
 | .agg cs=>match zkP cs with|some l=>some (.agg l)|none=>none
 |_=>none
def zDs(z:SVal):Option DS:=match pvS z with|some p=>zvl p|none=>none
def zgz(q:Nat⊕List Nat)(a b:DS):Option Bool:=
 match q,a,b with
 | .inl t,.one x,.one y=>eqD t x y
 | .inr ks,.agg xs,.agg ys=>zn9 ks xs ys
 |_,_,_=>none
def zeI(q:Nat⊕List Nat)(st:Nat)(kd:DS):List (List DV)->Option (Option DS)
 | []=>some none
 |x::xs=>
  match zgz q kd (kD st x) with
  |some true=>some (some (vD st x))
  |some false=>zeI q st kd xs
  |none=>none
def zn7(q:Nat⊕List Nat)(st:Nat)(kd:DS)(row:List DV):List (List DV)->Option (List (List DV))
 | []=>some [row]
 |x::xs=>
  match zgz q kd (kD st x) with
  |some true=>some (row::xs)
  |some false=>match zn7 q st kd row xs with|some l=>some (x::l)|none=>none
  |none=>none
def lkD(z:DS)(r:Option DS):DS:=match r with|some v=>v|none=>z
def zpj{β:Type}(z:DS)(ok:Bool)(r:Option DS)(os:List PO)(k:KT β):Option β:=
 match z with
 | .one _=>bif ok then k (.tup [.one (dsO (lkD z r)),.one (.bool r.isSome)]) os [] [] else k (pd (dsO (lkD z r))) os [] []
 | .agg l=>bif ok then k (.tup [.agg (exp (dsA (lkD z r)) l.length 0),.one (.bool r.isSome)]) os [] [] else k (.s (.agg ((exp (dsA (lkD z r)) l.length 0).map .d))) os [] []
def zgZ{β:Type}(os:List PO)(q:Nat⊕List Nat)(z:SVal)(ok:Bool)(c:PC)(kp:PV)(k:KT β):Option β:=
 za (zvl kp) fun kd=>za (zDs z) fun zd=>za (zgz q kd kd) fun _=>
 match c with
 | .own j=>
  match og os j with
  | .mp st xs=>bif zsI (shV st) (zgA zd) then za (zeI q st kd xs) fun r=>zpj zd ok r os k else none
  |_=>none
 | .d .nilm=>zpj zd ok none os k
 |_=>none
def zrq{β:Type}(lk:Nat->Bool)(os:List PO)(q:Nat⊕List Nat)(c:PC)(kp vp:PV)(k:KT β):Option β:=
 za (zvl kp) fun kd=>za (frV lk os vp) fun p=>za (zgz q kd kd) fun _=>
 match c with
 | .own j=>
  match og p.1 j with
  | .mp st xs=>
   bif lk j then none else
   bif zsI (shK st) (zgA kd)&&zsI (shV st) (zgA p.2) then za (zn7 q st kd (kd.cells++p.2.cells) xs) fun ys=>k und (oset (.mp st ys) p.1 j) [j] [] else none
  |_=>none
 |_=>none
def pOp(O:Orc)(lk:Nat->Bool)(sh:Sh)(ρ:Nat->PA)(os:List PO)(o:KOp)(k:KT β):Option β:=
 match o with
 | .mv x=>za (pv ρ x) fun a=>k a os [] []
 | .pick c a b=>wd (pv ρ c) fun v=>za (pv ρ a) fun a=>za (pv ρ b) fun b=>
  match a,b with
  | .s (.one (.d x)),.s (.one (.d y))=>za (zro v x y) fun z=>k (pd z) os [] []
  |a,b=>ifB v (k a os [] []) (k b os [] [])
 | .alloc zs=>za (cDs zs) fun cs=>k (pc (.ptr os.length 0)) (os++[.box cs]) [] []
 | .box x=>
  match pv ρ x with
  |some (.s v)=>k (pc (.ptr os.length 0)) (os++[.box v.cells]) [] []
  |_=>none
 | .build zs parts=>za (cDs zs) fun cs=>za (zfS ρ parts cs) fun cs=>k (.s (.agg cs)) os [] []
 | .bslice st len zs parts=>za (cDs zs) fun cs=>za (zfS ρ parts cs) fun cs=>za (frL lk yP os cs) fun p=>bif Nat.beq p.2.length (len*st) then k (pc (.own p.1.length)) (p.1++[.arr st (some (chunks st len p.2))]) [] [] else none
 | .load n x=>w1 (pv ρ x) fun c=>zlW os n c k
 | .store n x v=>w1 (pv ρ x) fun c=>
  match pv ρ v with
  |some (.s v)=>zlV lk os n c v k
  |_=>none
 | .nilck x=>w1 (pv ρ x) fun c=>
  match c with
  | .ptr j off=>k (pc (.ptr j off)) os [] []
  | .ep j st i off=>k (pc (.ep j st i off)) os [] []
  | .clo f l=>k (pc (.clo f l)) os [] []
  | .d (.fp xs off)=>k (pd (.fp xs off)) os [] []
  |_=>none
 | .bin op x y=>wd (pv ρ x) fun v=>wd (pv ρ y) fun w=>za (zg op v w) fun z=>k (pd z) os [] []
 | .shift l x y=>wd (pv ρ x) fun v=>wd (pv ρ y) fun w=>za (vQ l v w) fun z=>k (pd z) os [] []
 | .str op x y=>wd (pv ρ x) fun v=>wd (pv ρ y) fun w=>za (zgv op v w) fun z=>k (pd z) os [] []
 | .nilS neg x y=>w1 (pv ρ x) fun c=>wd (pv ρ y) fun w=>
  match w with
  | .nils=>
   match c with
   | .d v=>za (zed v) fun q=>k (pd (.bool (bif neg then !q else q))) os [] []
   | .own j=>
    match og os j with
    | .arr _ v=>k (pd (.bool (bif neg then v.isSome else v.isNone))) os [] []
    | .frz v=>za (zed v) fun q=>k (pd (.bool (bif neg then !q else q))) os [] []
    |_=>none
   |_=>none
  |_=>none
 | .eq q neg x y=>
  match q with
  | .inl t=>wd (pv ρ x) fun v=>wd (pv ρ y) fun w=>za (eqD t v w) fun b=>k (pd (.bool (bif neg then !b else b))) os [] []
  | .inr ks=>
   match pv ρ x,pv ρ y with
   |some (.s (.agg xs)),some (.s (.agg ys))=>za (zkP xs) fun xs=>za (zkP ys) fun ys=>za (zn9 ks xs ys) fun b=>k (pd (.bool (bif neg then !b else b))) os [] []
   |_,_=>none
 | .not x=>wd (pv ρ x) fun v=>za (zec v) fun z=>k (pd z) os [] []
 | .neg x=>wd (pv ρ x) fun v=>za (zua v) fun z=>k (pd z) os [] []
 | .conv t x=>wd (pv ρ x) fun v=>za (zZ t v) fun z=>k (pd z) os [] []
 | .b2s x=>w1 (pv ρ x) fun c=>
  match c with
  | .d v=>za (zgw v) fun z=>k (pd z) os [] []
  | .own j=>
   match og os j with
   | .arr st v=>za (zgw (mkL st v)) fun z=>k (pd z) os [] [j]
   |_=>none
  |_=>none
 | .mkfn f caps=>za (znw ρ caps) fun l=>
  match l with
  | []=>k (pd (.fn f [])) os [] []
  |x::l=>k (pc (.clo f (x::l))) os [] []
 | .slice st x lo hi mx=>
  match mx with
  |none=>w1 (pv ρ x) fun c=>za (pvo ρ lo) fun lo=>za (pvo ρ hi) fun hi=>zea os st c lo hi k
  |some m=>w1 (pv ρ x) fun c=>za (pvo ρ lo) fun lo=>za (pvo ρ hi) fun hi=>za (pvo ρ (some m)) fun mx=>zgY os st c lo hi mx k
 | .sslice x lo hi=>wd (pv ρ x) fun v=>za (pvo ρ lo) fun lo=>za (pvo ρ hi) fun hi=>za (zgX v lo hi) fun z=>k (pd z) os [] []
 | .foff x off=>w1 (pv ρ x) fun c=>
  match c with
  | .ptr j o=>k (pc (.ptr j (o+off))) os [] []
  | .d (.fp xs o)=>k (pd (.fp xs (o+off))) os [] []
  | .ep j st i o=>k (pc (.ep j st i (o+off))) os [] []
  | .ip j f len st i o=>k (pc (.ip j f len st i (o+off))) os [] []
  |_=>none
 | .field x off n=>
  match pv ρ x with
  |some (.s (.agg cs))=>za1 n cs off fun v=>k (.s v) os [] []
  |_=>none
 | .ixs st x i=>w1 (pv ρ x) fun c=>wd (pv ρ i) fun i=>zud os st c i k
 | .ixarr len st x i=>w1 (pv ρ x) fun c=>wd (pv ρ i) fun i=>
  match c with
  | .ptr j off=>za (j4 len i) fun n=>k (pc (.ip j off len st n 0)) os [] []
  |_=>none
 | .ixagg len st n x i=>wd (pv ρ i) fun i=>
  match pv ρ x with
  |some (.s (.agg cs))=>za (j4 len i) fun j=>
   match n with
   |none=>za (ipC cs st len j 1 0) fun l=>match l with | [c]=>k (pc c) os [] []|_=>none
   |some m=>bif Nat.beq m 0 then none else za (ipC cs st len j m 0) fun l=>k (.s (.agg l)) os [] []
  |_=>none
 | .ixstr x i=>wd (pv ρ x) fun v=>wd (pv ρ i) fun w=>za (zaJ v w) fun z=>k (pd z) os [] []
 | .extract x i=>
  match pv ρ x with
  |some (.tup l)=>
   match l[i]? with
   |some (.one d)=>k (pd d) os [] []
   |some (.agg ds)=>k (.s (.agg (ds.map .d))) os [] []
   |none=>none
  |some (.tl p l)=>
   match i with
   |0=>k (.s p) os [] []
   |i+1=>
    match l[i]? with
    |some (.one d)=>k (pd d) os [] []
    |some (.agg ds)=>k (.s (.agg (ds.map .d))) os [] []
    |none=>none
  |_=>none
 | .lenS x=>wd (pv ρ x) fun v=>za (zj7 v) fun z=>k (pd z) os [] []
 | .lenL x=>w1 (pv ρ x) fun c=>
  match c with
  | .d v=>za (xl v) fun z=>k (pd z) os [] []
  | .own j=>
   match og os j with
   | .arr _ v=>k (pd (.int .i64 (.ofNat (xu v)))) os [] []
   | .frz v=>za (xl v) fun z=>k (pd z) os [] []
   |_=>none
  | .vw _ _ _ len=>k (pd (.int .i64 (.ofNat len))) os [] []
  |_=>none
 | .append st bytes s x=>w1 (pv ρ s) fun s=>w1 (pv ρ x) fun x=>zg1 lk os st bytes s x k
 | .minmax m x xs=>wd (pv ρ x) fun v=>za (pvd ρ xs) fun l=>za (uG m v l) fun z=>k (pd z) os [] []
 | .mkslice st zs bytes l c=>wd (pv ρ l) fun l=>wd (pv ρ c) fun c=>za (mkN bytes l c) fun n=>za (cDs zs) fun ps=>za (zkP ps) fun ds=>bif Nat.beq zs.length st then k (pc (.own os.length)) (os++[.arr st (some (List.replicate n ds))]) [] [] else none
 | .clear st zs x=>w1 (pv ρ x) fun c=>zl0 lk os st zs c k
 | .mkmap st=>k (pc (.own os.length)) (os++[.mp st []]) [] []
 | .lookup q z ok m x=>w1 (pv ρ m) fun c=>
  match pv ρ x with
  |some (.s kp)=>zgZ os q z ok c kp k
  |_=>none
 | .mupd q m x v=>w1 (pv ρ m) fun c=>
  match pv ρ x,pv ρ v with
  |some (.s kp),some (.s vp)=>zrq lk os q c kp vp k
  |_,_=>none
 | .lenM x=>w1 (pv ρ x) fun c=>
  match c with
  | .own j=>
   match og os j with
   | .mp _ xs=>k (pd (.int .i64 (.ofNat xs.length))) os [] []
   |_=>none
  | .d .nilm=>k (pd (.int .i64 (.ofNat 0))) os [] []
  |_=>none
 | .s2b x=>wd (pv ρ x) fun v=>za (zwR v) fun z=>k (pd z) os [] []
 | .call f args=>w1 (pv ρ f) fun c=>za (pvs ρ args) fun as=>
  bif zwx sh&&(zvQ os c||ztC os as) then za (frA (fun _=>false) os as) fun p=>za (frC (fun _=>false) yP p.1 c) fun q=>ztp sh (zkO O q.2 p.2) fun a=>k a os [] []
  else za (frA lk os as) fun p=>za (frC lk yP p.1 c) fun q=>bSh sh (zkO O q.2 p.2) fun a=>k a q.1 [] []
end Go.PE
end
section
namespace Go.PE
open Go Go.CE
structure Bk (N:Nm) (os:List PO) (N':Nm) (wr:List Nat):Prop where
 nle:N.h.n.toNat<=N'.h.n.toNat
 eq:∀b:BN,b.toNat<N.h.n.toNat->(∀j,j∈wr->j<N.n->live (og os j)->blk (N.μ j)≠some b)->N'.h.t.get b=N.h.t.get b
theorem Bk.same{N N':Nm}{os:List PO}{wr:List Nat}(h:N'.h=N.h):Bk N os N' wr:=⟨by grind,fun b _ _=>by rw[h]⟩
theorem Bk.gr{N N':Nm}{os:List PO}{wr:List Nat}(g:Gr N.h N'.h):Bk N os N' wr:=⟨g.le,fun b hb _=>g.old b hb⟩
theorem Bk.put{N N':Nm}{os:List PO}{b:BN}{x:Zf}{j:Nat}(h:N'.h=N.h.put b x)(hj:j<N.n)(hl:live (og os j))(hb:blk (N.μ j)=some b):Bk N os N' [j]:=
 ⟨by rw[h];exact LzB _,fun b' _ H=>by grind[xn]⟩
def held:PO->Prop
 | .box _=>True
 | .arr _ (some _)=>True
 | .frz v=>∃st xs,v=.lst st xs
 | .fbox _=>True
 | .mp _ _=>True
 | .hol _ _ _=>True
 |_=>False
def Ho(n:Nat)(os os':List PO)(wr:List Nat):Prop:=∀k,k<n->(held (og os' k)->held (og os k))/\(held (og os k)->held (og os' k)\/k∈wr)/\(live (og os' k)->live (og os k))
theorem Ho.refl(n:Nat)(os:List PO)(wr:List Nat):Ho n os os wr:=fun _ _=>⟨id,.inl,id⟩
theorem Ho.trans{n:Nat}{a b c:List PO}{w1 w2:List Nat}(h:Ho n a b w1)(g:Ho n b c w2):Ho n a c (w1++w2):=fun k hk=>⟨fun x=>(h k hk).1 ((g k hk).1 x),fun x=>((h k hk).2.1 x).elim (fun y=>((g k hk).2.1 y).imp id (YzM _)) (fun y=>.inr (YzG _ y)),fun x=>(h k hk).2.2 ((g k hk).2.2 x)⟩
theorem Ho.oset{n:Nat}{os:List PO}{o:PO}{j:Nat}{wr:List Nat}(hb:held o->held (og os j))(hf:held (og os j)->held o\/j∈wr)(hv:live o->live (og os j)):Ho n os (PE.oset o os j) wr:=fun k _=>by grind[zw]
theorem Ho.app{n:Nat}{os:List PO}{o:PO}{wr:List Nat}(hn:n<=os.length):Ho n os (os++[o]) wr:=fun k hk=>by rw[yI,Yzb (by omega)];grind
theorem zb7{N:Nm}{k:Nat}{o:PO}{b:BN}(hh:held o)(H:RepO N k o)(hb:blk (N.μ k)=some b):∃y,N.h.t.get b=some y:=by
 cases o with
 |box cs=>obtain⟨b',x,k1,_,k3⟩:=yZ (o:=.box cs) trivial H;grind
 |arr st v=>
  rcases v with _|xs
  .trivial
  obtain⟨b',x,k1,_,k3⟩:=yZ (o:=.arr st (some xs)) trivial H;grind
 |frz v=>obtain⟨st,xs,rfl⟩:=hh;obtain⟨b2,o2,off2,cap2,ex2,cs2,q1,q2,q3,_⟩:=Rep.lst_inv H;rw[q1]at hb;cases hb<;>grind
 |fbox ds=>
  obtain⟨b2,q1,q2⟩:=H;rw[q1]at hb;cases hb;obtain⟨b3,o3,base3,cs3,p1,p2,p3,_⟩:=q2.fp_inv
  grind
 |mp st xs=>obtain⟨b',x,k1,_,k3⟩:=yZ (o:=.mp st xs) trivial H;grind
 |hol v n t=>obtain⟨b',x,k1,_,k3⟩:=yZ (o:=.hol v n t) trivial H;grind
 |lnk m=>trivial
 |lop=>trivial
 |dead=>trivial
def BkE(N:Nm)(os:List PO)(N':Nm)(wr:List Nat):Prop:=
 ∀(b:BN) y,N.h.t.get b=some y->(∀j,j∈wr->j<N.n->live (og os j)->blk (N.μ j)≠some b)->N'.h.t.get b=some y
theorem Bk.ex{N N':Nm}{os:List PO}{wr:List Nat}(K:Bk N os N' wr)(hw:HW N.h):BkE N os N' wr:=fun b y hy H=>(K.eq b (hw b y hy) H).trans hy
structure Sim (E:En) (lk:Nat->Bool) (N:Nm) (os:List PO) (wr:List Nat) (N':Nm) (os':List PO) (v:Zb) (a:PA):Prop where
 inv:Zd E N' os'
 nx:Nx N N'
 fr:Bk N os N' wr
 lock:∀j,lk j=true->og os' j=og os j
 ho:Ho N.n os os' wr
 val:RepPA N' v a
theorem Sim.quiet{E:En}{lk:Nat->Bool}{N:Nm}{os:List PO}{v:Zb}{a:PA}(I:Zd E N os)(H:RepPA N v a):Sim E lk N os [] N os v a:=⟨I,.refl N,.same rfl,fun _ _=>rfl,.refl _ _ _,H⟩
structure Stp (E:En) (lk:Nat->Bool) (N:Nm) (os:List PO) (wr:List Nat) (N':Nm) (os':List PO):Prop where
 inv:Zd E N' os'
 nx:Nx N N'
 fr:Bk N os N' wr
 lock:∀j,lk j=true->og os' j=og os j
 ho:Ho N.n os os' wr
theorem Stp.sim{E:En}{lk:Nat->Bool}{N N':Nm}{os os':List PO}{wr:List Nat}(S:Stp E lk N os wr N' os'){v:Zb}{a:PA}(H:RepPA N' v a):Sim E lk N os wr N' os' v a:=⟨S.inv,S.nx,S.fr,S.lock,S.ho,H⟩
theorem Stp.refl{E:En}{lk:Nat->Bool}{N:Nm}{os:List PO}(I:Zd E N os):Stp E lk N os [] N os:=⟨I,.refl N,.same rfl,fun _ _=>rfl,.refl _ _ _⟩
theorem Stp.trans{E:En}{lk:Nat->Bool}{A B C:Nm}{o1 o2 o3:List PO}{w1 w2:List Nat}(a:Stp E lk A o1 w1 B o2)(b:Stp E lk B o2 w2 C o3)(hn:B.n=A.n):Stp E lk A o1 (w1++w2) C o3:=
 ⟨b.inv, a.nx.trans b.nx, ⟨Yzl a.fr.nle b.fr.nle, fun x hx H => (b.fr.eq x (Lz9 hx a.fr.nle) fun j hj hl hv hb => by have hA:j<A.n:=hn▸hl;exact H j (YzM _ hj) hA ((a.ho j hA).2.2 hv) (by rw[<-a.nx.mu j hA];exact hb)).trans (a.fr.eq x hx fun j hj hl hv=>H j (YzG _ hj) hl hv)⟩,fun j hj=>(b.lock j hj).trans (a.lock j hj),a.ho.trans (by rw[<-hn];exact b.ho)⟩
structure Fz (N N':Nm):Prop where
 h:N'.h=N.h
 n:N'.n=N.n
 μ:N'.μ=N.μ
theorem Fz.refl(N:Nm):Fz N N:=⟨rfl,rfl,rfl⟩
theorem Fz.trans{A B C:Nm}(a:Fz A B)(b:Fz B C):Fz A C:=⟨b.h.trans a.h,b.n.trans a.n,b.μ.trans a.μ⟩
theorem zlH{cs:List Zc}{st n:Nat}(h:cs.length=n):rd n 0 (.cells cs st)=some cs:=by
 show cut n cs 0=some cs
 grind[zeS]
variable {E:En} {lk:Nat->Bool}
theorem zhW{N:Nm}{k st:Nat}{v:OC}{fz':BN->Prop}(g:FG N.fz N.h fz' N.h)(H:RepO N k (.arr st v))(hb:v≠none->∀b,blk (N.μ k)=some b->fz' b):Rep fz' N.h (N.μ k) (mkL st v):=by
 rcases v with _|xs
 .rw[show N.μ k=.nils from H];exact .nils
 obtain⟨b,vs,ex,h1,h2,h3,h4,h5⟩:=H;rw[h1];refine Rep.lst_mk (cs:=vs) (hb (by simp) b (by rw[h1];rfl)) h3 (fun e=>by grind) (zlH h4) fun i x hx=>⟨(h5 i x hx).1,(h5 i x hx).2.mono g⟩
theorem znK{N:Nm}{os:List PO}(I:Zd E N os){k st:Nat}{v:OC}(ho:og os k=.arr st v)(hk:lk k=false):
  ∃N',Fz N N'/\Stp E lk N os [] N' (oset (.frz (mkL st v)) os k)/\Rep N'.fz N'.h (N.μ k) (mkL st v):=by
 have hlock:∀(o:PO) j,lk j=true->og (oset o os k) j=og os j:=fun o j hj=>by rw[zw,Yzb (fun e=>by grind)]
 have hO:=I.obj k;rw[ho]at hO;rcases v with _|xs
 .have h1:RepO N k (.frz (mkL st none)):=by
   show Rep _ _ _ _;rw[show N.μ k=.nils from hO];exact .nils
  exact⟨N,.refl N,⟨I.turn k _ (fun e=>e) h1 (by grind),.refl N,Bk.same rfl,hlock _,.oset (fun⟨_,_,h⟩=>by cases h) (fun h=>by rw[ho]at h;trivial) (fun h=>h.elim)⟩,h1⟩
 obtain⟨b,vs,ex,h1,h2,h3,h4,h5⟩:=hO;have hb:blk (N.μ k)=some b:=by rw[h1];rfl
 have hl:solid (og os k):=by rw[ho];trivial
 have g:FG N.fz N.h (fun b'=>N.fz b'\/b'=b) N.h:=⟨fun _ _ h _=>.inl h,fun _ _ _ h=>h⟩;have hr:Rep (fun b'=>N.fz b'\/b'=b) N.h (N.μ k) (mkL st (some xs)):=zhW g (show RepO N k (.arr st (some xs)) from⟨b,vs,ex,h1,h2,h3,h4,h5⟩) fun _ b' hb'=>by grind
 obtain⟨i1,i2⟩:=I.freeze hl hb (.frz (mkL st (some xs))) (fun e=>e) hr;exact⟨⟨N.μ,N.n,fun b'=>N.fz b'\/b'=b,N.h⟩,⟨rfl,rfl,rfl⟩,⟨i1,i2,Bk.same rfl,hlock _,.oset (fun _=>by rw[ho];trivial) (fun _=>.inl ⟨_,_,rfl⟩) (fun h=>h.elim)⟩,hr⟩
theorem zd8{N:Nm}{fz:BN->Prop}{h:Za}{k st lo len:Nat}{c:Zc}{v:DV}(H:Rep fz h (N.μ k) v)(hc:RepPC N c (.vw k st lo len)):Rep fz h c (zgW st lo len v):=by
 obtain⟨_,hc⟩:=hc;cases v<;>first|exact .u _|skip
 .have h1:=H.scal rfl;rcases hc with⟨_,rfl,_,_⟩|⟨b,l,cap,ex,cap',ex',h2,_⟩
  .exact .nils
  grind
 rename_i st' xs;show Rep fz h c (bif Nat.beq st st' then .lst st' ((xs.drop lo).take len) else .u);cases hs:Nat.beq st st'
 .exact .u _
 have:=Lz1 hs;subst this;obtain⟨b,o,off,cap,ex,cs,e1,g1,g2,g3,g4,g5⟩:=H.lst_inv;rcases hc with⟨h2,_⟩|⟨b',l,cap2,ex2,cap',ex',h2,rfl,h3,h4⟩
 .grind
 rw[e1]at h2;cases h2;have hlen:((xs.drop lo).take len).length=len:=by simp;omega
 have ml:(lo+len)*st<=xs.length*st:=Yzj st h3;rw[Yyd]at ml;have:=Rep.lst_mk (fz:=fz) (off:=0+lo*st) (cap:=cap') (ex:=ex') (xs:=(xs.drop lo).take len) (cs:=(cs.drop (lo*st)).take (len*st)) g1 g2 (by grind)
  (by rw[hlen];exact zc7 g4 ml) (fun i z hz=>by
   rw[YzH]at hz;split at hz
   .rename_i hi;rw[Yzo]at hz;obtain⟨q1,q2⟩:=g5 _ _ hz;refine⟨q1,?_⟩;have e1:List.take st (List.drop (i*st) (List.take (len*st) (List.drop (lo*st) cs)))=List.take st (List.drop ((lo+i)*st) cs):=by
     have:=Yzj st (show i+1<=len from hi)
     grind[List.drop_take,YzE,Yyd]
    grind
   cases hz)
 grind
theorem zu3:∀n:Nat,
  (∀(os:List PO) (N:Nm) (c:Zc) (p:PC) (os':List PO) (d:DV),Zd E N os->RepPC N c p->frC lk n os p=some (os',d)->∃N',Fz N N'/\Stp E lk N os [] N' os'/\Rep N'.fz N'.h c d)/\
  (∀(os:List PO) (N:Nm) (cs:List Zc) (ps:List PC) (os':List PO) (ds:List DV),Zd E N os->RepPL N cs ps->frL lk n os ps=some (os',ds)->∃N',Fz N N'/\Stp E lk N os [] N' os'/\RepL N'.fz N'.h cs ds)/\
  (∀ (os : List PO) (N : Nm) (qs : List (BN × Nat)) (xs : List (Nat ⊕ List DV)) (os' : List PO) (l : List (List DV)), Zd E N os -> RepCaps N qs xs -> frK lk n os xs = some (os', l) ->
   ∃N',Fz N N'/\Stp E lk N os [] N' os'/\RepL N'.fz N'.h (qs.map fun p=>.ptr p.1 p.2) (l.map fun x=>.fp x 0)):=by
 intro n
 induction n with
 |zero=>
  refine⟨?_,?_,?_⟩
  .intro os N c p os' d I H e;cases p with
   |d v=>simp only[frC]at e;cases e;exact⟨N,.refl N,.refl I,H⟩
   |own k=>
    simp only[frC]at e;obtain⟨hk,rfl⟩:=H;cases ho:og os k with
    |frz v=>rw[ho]at e;cases e;exact⟨N,.refl N,.refl I,by have:=I.obj k;rw[ho]at this;exact this⟩
    |arr st v=>
     rw[ho]at e;simp only at e;cases hlk:lk k
     case true=>grind
     rw[hlk]at e;cases e<;>simp_all[znK]
    |_=>grind
   |_=>trivial
  .intro os N cs ps os' ds I H e;cases ps with
   |nil=>simp only[frL]at e;cases e;cases cs with
    |nil=>exact⟨N,.refl N,.refl I,.nil _ _⟩
    |cons c cs=>trivial
   |cons p ps=>trivial
  intro os N cs ps os' ds I H e;cases ps with
  |nil=>simp only[frK]at e;cases e;cases cs with
   |nil=>exact⟨N,.refl N,.refl I,.nil _ _⟩
   |cons c cs=>trivial
  |cons p ps=>trivial
 |succ n ih=>
  obtain⟨ihC,ihL,ihK⟩:=ih;refine⟨?_,?_,?_⟩
  .intro os N c p os' d I H e;cases p with
   |d v=>grind[frC]
   |lit k=>trivial
   |own k=>
    simp only[frC]at e;obtain⟨hk,rfl⟩:=H;cases ho:og os k with
    |frz v=>rw[ho]at e;cases e;exact⟨N,.refl N,.refl I,by have:=I.obj k;rw[ho]at this;exact this⟩
    |arr st v=>
     rw[ho]at e;simp only at e;cases hlk:lk k
     case true=>grind
     rw[hlk]at e;cases e<;>simp_all[znK]
    |_=>grind
   |ptr k off=>
    simp only[frC]at e;obtain⟨hk,b,hb,rfl⟩:=H;cases ho:og os k with
    |fbox ds=>
     rw[ho]at e;cases e;have:=I.obj k;rw[ho]at this;obtain⟨b',h1,h2⟩:=this;rw[hb]at h1;cases h1;obtain⟨b1,o1,base,cs,e1,e2,e3,e4,e5⟩:=h2.fp_inv;cases e1;refine⟨N,.refl N,.refl I,?_⟩;have:=Rep.fp_mk (off:=off) e2 e3 e4 e5
     grind
    |box cs=>
     rw[ho]at e;simp only at e;cases hlk:lk k
     case true=>grind
     rw[hlk]at e;simp only[Yzc]at e;rcases hf:frL lk n os cs with _|p
     .grind
     obtain⟨os1,ds⟩:=p;rw[hf]at e;simp only at e;have hO:=I.obj k;rw[ho]at hO;obtain⟨b',vs,h1,h2,h3,h4⟩:=hO;rw[hb]at h1;cases h1;obtain⟨N1,f1,s1,r1⟩:=ihL os N vs cs os1 ds I h4 hf;cases ho1:og os1 k with
     |box cs'=>
      rw[ho1]at e;simp only at e;cases hq:Nat.beq cs'.length cs.length
      .grind
      rw[hq]at e;cases e;have hl:solid (og os1 k):=by rw[ho1];trivial
      have hbk:blk (N1.μ k)=some b:=by rw[f1.μ,hb];rfl
      have g:FG N1.fz N1.h (fun b'=>N1.fz b'\/b'=b) N1.h:=⟨fun _ _ h _=>.inl h,fun _ _ _ h=>h⟩;have h3':N1.h.t.get b=some (.cells vs 0):=by rw[f1.h];exact h3
      have hr:∀off,Rep (fun b'=>N1.fz b'\/b'=b) N1.h (.ptr b off) (.fp ds off):=fun off=>by
       have:=Rep.fp_mk (fz:=fun b'=>N1.fz b'\/b'=b) (off:=off) (base:=0) (.inr rfl) h3' (zlH r1.1) (r1.mono g)
       grind
      obtain⟨i1,i2⟩:=s1.inv.freeze hl hbk (.fbox ds) (fun e=>e) ⟨b,by rw[f1.μ];exact hb,hr 0⟩;refine⟨⟨N1.μ,N1.n,fun b'=>N1.fz b'\/b'=b,N1.h⟩,f1.trans ⟨rfl,rfl,rfl⟩,s1.trans (w2:=[]) ⟨i1,i2,Bk.same rfl,fun j hj=>?_,.oset (fun _=>by rw[ho1];trivial) (fun _=>.inl trivial) (fun h=>h.elim)⟩ f1.n,hr off⟩;rw[zw,Yzb (fun e=>by grind)]
     |_=>grind
    |_=>grind
   |ep k st i off=>trivial
   |ip k off len st i o=>trivial
   |vw k st lo len=>
    simp only[frC]at e;cases ho:og os k with
    |frz v=>rw[ho]at e;cases e;exact⟨N,.refl N,.refl I,zd8 (by have:=I.obj k;rw[ho]at this;exact this) H⟩
    |arr st' v=>
     rw[ho]at e;simp only at e;cases hlk:lk k
     case true=>grind
     rw[hlk]at e;cases e;obtain⟨N',f1,s1,r1⟩:=znK I ho hlk
     grind[zd8]
    |_=>grind
   |clo f caps=>
    simp only[frC]at e;obtain⟨ps,rfl,hc⟩:=H;rcases hf:frK lk n os caps with _|p
    .grind
    obtain⟨os1,l⟩:=p;rw[hf]at e;cases e;obtain⟨N1,f1,s1,r1⟩:=ihK os N ps caps _ _ I hc hf;exact⟨N1,f1,s1,.fn_mk r1⟩
  .intro os N cs ps os' ds I H e;cases ps with
   |nil=>grind[frL]
   |cons p ps=>
    cases cs with
    |nil=>trivial
    |cons c cs=>
     simp only[frL]at e;rcases h1:frC lk n os p with _|q
     .grind
     obtain⟨os1,d⟩:=q;rw[h1]at e;simp only at e;rcases h2:frL lk n os1 ps with _|q
     .grind
     obtain⟨os2,ds2⟩:=q;rw[h2]at e;cases e;obtain⟨N1,f1,s1,r1⟩:=ihC os N c p os1 d I H.1 h1;obtain⟨N2,f2,s2,r2⟩:=ihL os1 N1 cs ps _ _ s1.inv (RepPL.mono s1.nx H.2) h2;exact⟨N2,f1.trans f2,s1.trans s2 f1.n,.cons (r1.mono s2.nx.fg) r2⟩
  intro os N qs xs os' l I H e;cases xs with
  |nil=>grind[frK]
  |cons x xs=>
   cases qs with
   |nil=>trivial
   |cons q qs=>
    have hx:∀os1 d,(match x with | .inl k=>frC lk n os (.ptr k 0) | .inr xs=>some (os,.fp xs 0))=some (os1,d)->∃N',Fz N N'/\Stp E lk N os [] N' os1/\Rep N'.fz N'.h (.ptr q.1 q.2) d:=by
     intro os1 d h1;cases x with
     |inl k=>obtain⟨a1,a2,a3⟩:=H.1;exact ihC os N (.ptr q.1 q.2) (.ptr k 0) os1 d I ⟨a1,q.1,a2,by rw[a3]⟩ h1
     |inr xs=>cases h1;exact⟨N,.refl N,.refl I,H.1⟩
    have key:∀m:Option (List PO×DV),(∀os1 d,m=some (os1,d)->∃N',Fz N N'/\Stp E lk N os [] N' os1/\Rep N'.fz N'.h (.ptr q.1 q.2) d)->
      (match m with
       |some (os',.fp x 0)=>
        match frK lk n os' xs with
        |some (os'',xs)=>some (os'',x::xs)
        |none=>none
       |_=>none)=some (os',l)->∃N',Fz N N'/\Stp E lk N os [] N' os'/\RepL N'.fz N'.h ((q::qs).map fun p=>.ptr p.1 p.2) (l.map fun x=>.fp x 0):=by
     intro m hm e;split at e
     .rename_i os1 y;rcases h2:frK lk n os1 xs with _|q2
      .grind
      obtain⟨os2,l2⟩:=q2;rw[h2]at e;cases e;obtain⟨N1,f1,s1,r1⟩:=hm os1 _ rfl;obtain⟨N2,f2,s2,r2⟩:=ihK os1 N1 qs xs _ _ s1.inv (RepCaps.mono s1.nx H.2) h2;exact⟨N2,f1.trans f2,s1.trans s2 f1.n,.cons (r1.mono s2.nx.fg) r2⟩
     cases e
    exact key _ hx e
theorem zce{n:Nat}{os os':List PO}{N:Nm}{c:Zc}{p:PC}{d:DV}(I:Zd E N os)(H:RepPC N c p)(e:frC lk n os p=some (os',d)):∃N',Fz N N'/\Stp E lk N os [] N' os'/\Rep N'.fz N'.h c d:=(zu3 n).1 _ _ _ _ _ _ I H e
theorem zi2{n:Nat}{os os':List PO}{N:Nm}{cs:List Zc}{ps:List PC}{ds:List DV}(I:Zd E N os)(H:RepPL N cs ps)(e:frL lk n os ps=some (os',ds)):∃N',Fz N N'/\Stp E lk N os [] N' os'/\RepL N'.fz N'.h cs ds:=(zu3 n).2.1 _ _ _ _ _ _ I H e
theorem zfR{os os':List PO}{N:Nm}{v:SVal}{p:PV}{d:DS}(I:Zd E N os)(H:RepPV N v p)(e:frV lk os p=some (os',d)):∃N',Fz N N'/\Stp E lk N os [] N' os'/\RepS N'.fz N'.h v d:=by
 cases p with
 |one c=>
  cases v with
  |agg cs=>trivial
  |one x=>
   simp only[frV]at e;rcases h1:frC lk yP os c with _|q
   .grind
   obtain⟨o1,d1⟩:=q;rw[h1]at e;cases e;exact zce I H h1
 |agg cs=>
  cases v with
  |one x=>trivial
  |agg xs=>
   simp only[frV]at e;rcases h1:frL lk yP os cs with _|q
   .grind
   obtain⟨o1,d1⟩:=q;rw[h1]at e;cases e;exact zi2 I H h1
def RepPAL(N:Nm):List Zb->List PA->Prop
 | [],[]=>True
 |c::cs,d::ds=>RepPA N c d/\RepPAL N cs ds
 |_,_=>False
theorem RepPAL.mono{N N':Nm}(g:Nx N N'):∀{c:List Zb} {d:List PA},RepPAL N c d->RepPAL N' c d
 | [],[],_=>trivial
 |_::_,_::_,H=>⟨H.1.mono g,RepPAL.mono g H.2⟩
 | [],_::_,H=>H.elim
 |_::_,[],H=>H.elim
theorem zi5:∀{as:List PA} {vs:List Zb} {os os':List PO} {N:Nm} {ds:List DA},Zd E N os->RepPAL N vs as->frA lk os as=some (os',ds)->∃N',Fz N N'/\Stp E lk N os [] N' os'/\RepAL N'.fz N'.h vs ds
 | [],[],os,os',N,ds,I,H,e=>by simp only[frA]at e;cases e;exact⟨N,.refl N,.refl I,trivial⟩
 | .s p::as,v::vs,os,os',N,ds,I,H,e=>by
  simp only[frA]at e;rcases h1:frV lk os p with _|q
  .grind
  obtain⟨o1,d1⟩:=q;rw[h1]at e;simp only at e;rcases h2:frA lk o1 as with _|q
  .grind
  obtain⟨o2,ds2⟩:=q;rw[h2]at e;cases e;obtain⟨w,rfl,hw⟩:=H.1.inv;obtain⟨N1,f1,s1,r1⟩:=zfR I hw h1;obtain⟨N2,f2,s2,r2⟩:=zi5 s1.inv (RepPAL.mono s1.nx H.2) h2;exact⟨N2,f1.trans f2,s1.trans s2 f1.n,.of (r1.mono s2.nx.fg),r2⟩
 | .tup l::as,_::_,os,os',N,ds,I,H,e=>by trivial
 | .tl p l::as,_::_,os,os',N,ds,I,H,e=>by cases e
 | .bad::as,_::_,os,os',N,ds,I,H,e=>by trivial
 | .undef::as,_::_,os,os',N,ds,I,H,e=>by trivial
 | [],_::_,_,_,_,_,_,H,_=>H.elim
 |_::_,[],_,_,_,_,_,H,_=>H.elim
end Go.PE
end
section
namespace Go.PE
open Go Go.CE
def Goal{β:Type}(C:Nat->zc)(E:En)(lk:Nat->Bool)(N:Nm)(os:List PO)(r:Fr)(ko:KOp)(k:KT β)(x:β):Prop:=
 ∃a os' wr rd,k a os' wr rd=some x/\Ev (fun n=>runK r ko (C n) N.h) (fun p=>∃N',N'.h=p.2/\Sim E lk N os wr N' os' p.1 a)
def trk(ρ:Nat->PA):KOp->Option Operand
 | .mv x=>some x
 | .foff x _=>some x
 | .field x _ _=>some x
 | .ixarr _ _ x _=>some x
 | .ixs _ x _=>match pv ρ x with|some (.s (.one (.own _)))=>none|some (.s (.one (.vw _ _ _ _)))=>none|_=>some x
 | .extract x _=>some x
 | .nilck x=>some x
 |_=>none
def zfF:KOp->Option Operand
 | .load _ x=>some x
 | .b2s x=>some x
 |_=>none
def zxX(N:Nm)(os:List PO)(r:Fr)(ρ:Nat->PA)(xo:Operand)(rd:List Nat):Prop:=
  ∃w,kv r xo=some (.s (.one w))/\(blk w=none\/∃b,blk w=some b/\
    ((∃ j, rd = [j] /\ j < N.n /\ blk (N.μ j) = some b /\ held (og os j) /\ ∀ N' : Nm, (∀ u pa, kv r xo = some u -> pv ρ xo = some pa -> RepPA N' u pa) -> j < N'.n) \/
     (rd=[]/\∀N':Nm,(∀u pa,kv r xo=some u->pv ρ xo=some pa->RepPA N' u pa)->N'.fz b/\∃y,N'.h.t.get b=some y)))
def GoalQ{β:Type}(N:Nm)(os:List PO)(r:Fr)(ρ:Nat->PA)(ko:KOp)(k:KT β)(x:β):Prop:=
 ∃v a rd,k a os [] rd=some x/\(∀call,runK r ko call N.h=some (v,N.h))/\RepPA N v a/\(∀xo,trk ρ ko=some xo->∀(N':Nm) u pa,kv r xo=some u->pv ρ xo=some pa->RepPA N' u pa->RepPA N' v a)/\
  (∀xo,zfF ko=some xo->zxX N os r ρ xo rd)
section
variable {β:Type} {C:Nat->zc} {E:En} {lk:Nat->Bool} {N:Nm} {os:List PO} {r:Fr} {ρ:Nat->PA}
theorem GoalQ.quiet{ko:KOp}{k:KT β}{x:β}(_:Zd E N os){v:Zb}{a:PA}{rd:List Nat}(e:∀call,runK r ko call N.h=some (v,N.h))(H:RepPA N v a)(hk:k a os [] rd=some x)(ht:∀xo,trk ρ ko=some xo->∀(N':Nm) u pa,kv r xo=some u->pv ρ xo=some pa->RepPA N' u pa->RepPA N' v a:=by intro _ h;cases h)(hm:∀xo,zfF ko=some xo->zxX N os r ρ xo rd:=by intro _ h;cases h):GoalQ N os r ρ ko k x:=⟨v,a,rd,hk,e,H,ht,hm⟩
theorem Goal.quiet{ko:KOp}{k:KT β}{x:β}(I:Zd E N os){v:Zb}{a:PA}{rd:List Nat}(e:∀call,runK r ko call N.h=some (v,N.h))(H:RepPA N v a)(hk:k a os [] rd=some x):Goal C E lk N os r ko k x:=
 ⟨a,os,[],rd,hk,⟨(v,N.h),⟨N,rfl,.quiet I H⟩,0,fun n _=>e (C n)⟩⟩
theorem kN{a:Operand}{u0:Zb}{p0:PA}{v:Zb}{a':PA}(ku:kv r a=some u0)(kp:pv ρ a=some p0)(H:∀N':Nm,RepPA N' u0 p0->RepPA N' v a'):∀xo,some a=some xo->∀(N':Nm) u pa,kv r xo=some u->pv ρ xo=some pa->RepPA N' u pa->RepPA N' v a':=by grind
theorem GoalQ.goal{ko:KOp}{k:KT β}{x:β}(I:Zd E N os)(G:GoalQ N os r ρ ko k x):Goal C E lk N os r ko k x:=by obtain⟨v,a,rd,h1,h2,h3,_,_⟩:=G;exact .quiet I h2 h3 h1
theorem zvu{fz:BN->Prop}{h:Za}{c:Zc}{d:DV}(e:cD c=some d):Rep fz h c d:=by
 cases c<;>simp only[cD]at e<;>first|cases e|skip
 .exact .bool _
 .exact .int _ _
 .exact .str _
 .exact .nilp
 .exact .nils
 .exact .nilm
 .rename_i f caps;cases caps with
  |nil=>cases e;exact .fn_mk (.nil _ _)
  |cons a l=>cases e
 .exact .nilf
 exact .nili
theorem qX:∀{cs:List Zc} {ps:List PC},cDs cs=some ps->RepPL N cs ps
 | [],ps,e=>by cases e;trivial
 |c::cs,ps,e=>by
  simp only[cDs]at e;rcases h1:cD c with _|d
  .grind
  rcases h2:cDs cs with _|ds
  .grind
  rw[h1,h2]at e;cases e;exact⟨zvu h1,qX h2⟩
theorem zlJ{s:SVal}{p:PV}(e:pvS s=some p):RepPV N s p:=by
 cases s with
 |one c=>
  simp only[pvS]at e;rcases h1:cD c with _|d
  .grind
  rw[h1]at e;cases e;exact zvu h1
 |agg cs=>
  simp only[pvS]at e;rcases h1:cDs cs with _|ds
  .grind
  rw[h1]at e;cases e;exact qX h1
theorem x4(F:∀i,RepPA N (r i) (ρ i)){x:Operand}{a:PA}(e:pv ρ x=some a):∃v,kv r x=some v/\RepPA N v a:=by
 cases x with
 |tmp t=>cases e;exact⟨_,rfl,F t⟩
 |const v=>
  simp only[pv]at e;rcases hv:znz v with _|s
  .grind
  rw[hv]at e;simp only at e;rcases hp:pvS s with _|p
  .grind
  rw[hp]at e;cases e;exact⟨.s s,by grind[kv],.of (zlJ hp)⟩
 |func f=>cases e;exact⟨_,rfl,RepPA.of (p:=.one (.d (.fn f []))) (v:=.one (.fn f [])) (Rep.fn_mk (.nil _ _))⟩
 |global g=>cases e
theorem zda(F:∀i,RepPA N (r i) (ρ i)):∀{xs:List Operand} {as:List PA},pvs ρ xs=some as->∃vs,kvs r xs=some vs/\RepPAL N vs as
 | [],as,e=>by cases e;exact⟨[],rfl,trivial⟩
 |x::xs,as,e=>by
  simp only[pvs]at e;rcases h1:pv ρ x with _|a
  .grind
  rcases h2:pvs ρ xs with _|l
  .grind
  rw[h1,h2]at e;cases e;obtain⟨v,k1,k2⟩:=x4 F h1;obtain⟨vs,k3,k4⟩:=zda F h2;exact⟨v::vs,by grind[kvs],k2,k4⟩
theorem uf(F:∀i,RepPA N (r i) (ρ i)){x:Operand}{K:PC->Option β}{y:β}(e:w1 (pv ρ x) K=some y):∃c v,K c=some y/\kv r x=some v/\RepPA N v (pc c)/\pv ρ x=some (pc c):=by
 rcases h:pv ρ x with _|a
 .rw[h]at e;cases e
 rw[h]at e;cases a with
 |tup l=>cases e
 |tl p l=>cases e
 |bad=>cases e
 |undef=>cases e
 |s p=>
  cases p with
  |agg cs=>cases e
  |one c=>obtain⟨v,k1,k2⟩:=x4 F h;exact⟨c,v,e,k1,k2,rfl⟩
theorem wP(F:∀i,RepPA N (r i) (ρ i)){x:Operand}{K:DV->Option β}{y:β}(e:wd (pv ρ x) K=some y):∃d v,K d=some y/\kv r x=some v/\RepPA N v (pd d):=by
 rcases h:pv ρ x with _|a
 .rw[h]at e;cases e
 rw[h]at e;cases a with
 |tup l=>cases e
 |tl p l=>cases e
 |bad=>cases e
 |undef=>cases e
 |s p=>
  cases p with
  |agg cs=>cases e
  |one c=>
   cases c with
   |d d=>obtain⟨v,k1,k2⟩:=x4 F h;exact⟨d,v,e,k1,k2⟩
   |_=>cases e
theorem zh{α:Type}{o:Option α}{K:α->Option β}{y:β}(e:za o K=some y):∃a,o=some a/\K a=some y:=by
 rcases o with _|a
 .cases e
 exact⟨a,rfl,e⟩
theorem zQ{v:Zb}{c:PC}(H:RepPA N v (pc c)):∃w,v=.s (.one w)/\RepPC N w c:=by
 obtain⟨w,rfl,hw⟩:=H.inv;cases w with
 |one w=>exact⟨w,rfl,hw⟩
 |agg cs=>trivial
theorem wa{v:Zb}{d:DV}(H:RepPA N v (pd d)):∃w,v=.s (.one w)/\Rep N.fz N.h w d:=zQ H
theorem z7{v:Zb}{d:DV}{c:Zc}(H:RepPA N v (pd d))(e:d.scal=some c):v=.s (.one c):=by obtain⟨w,rfl,hw⟩:=wa H;rw[hw.scal e]
theorem yA{d:DV}{c:Zc}(e:d.scal=some c):RepPA N (.s (.one c)) (pd d):=RepPA.of (p:=.one (.d d)) (v:=.one c) (Rep.ofScal e)
theorem ug{d:DV}{c:Zc}(e:Rep N.fz N.h c d):RepPA N (.s (.one c)) (pd d):=RepPA.of (p:=.one (.d d)) (v:=.one c) e
theorem yD{p:PC}{c:Zc}(e:RepPC N c p):RepPA N (.s (.one c)) (pc p):=RepPA.of (p:=.one p) (v:=.one c) e
theorem zrE{o:Option Zc}{z:DV}(e:oD o=some z):∃c,o=some c/\z.scal=some c:=by
 rcases o with _|c
 .cases e
 cases c<;>simp only[oD]at e<;>cases e<;>exact⟨_,rfl,rfl⟩
variable {k:KT β} {x:β}
theorem zyf(I:Zd E N os)(F:∀i,RepPA N (r i) (ρ i)){a:Operand}(e:za (pv ρ a) (fun a=>k a os [] [])=some x):GoalQ N os r ρ (.mv a) k x:=by obtain⟨p,h1,h2⟩:=zh e;obtain⟨v,k1,k2⟩:=x4 F h1;exact .quiet I (fun call=>by grind[runK,zx]) k2 h2 (kN k1 h1 fun N' H=>H)
theorem zut(I:Zd E N os)(F:∀i,RepPA N (r i) (ρ i)){op:BinOp}{a b:Operand}(e:wd (pv ρ a) (fun v=>wd (pv ρ b) fun w=>za (zg op v w) fun z=>k (pd z) os [] [])=some x):GoalQ N os r ρ (.bin op a b) k x:=by
 have hh:=wP F e;clear e;obtain⟨v,va,e,ka,ra⟩:=hh;have hh:=wP F e;clear e;obtain⟨w,vb,e,kb,rb⟩:=hh;have hh:=zh e;clear e;obtain⟨z,hz,e⟩:=hh;cases v<;>cases w<;>simp only[zg]at hz<;>first|cases hz|skip
 rename_i k1 n1 k2 n2;cases hk:eqK k1 k2
 .grind
 rw[hk]at hz;obtain⟨c,h1,h2⟩:=zrE hz;rw[z7 ra rfl]at ka;rw[z7 rb rfl]at kb;refine .quiet I (v:=.s (.one c)) (fun call=>?_) (yA h2) e;simp only[runK,ka,kb,zx];show (bif eqK k1 k2 then qZ N.h (uk op k1 n1 n2) else none)=_;rw[hk,h1];rfl
theorem zl8(I:Zd E N os)(F:∀i,RepPA N (r i) (ρ i)){l:Bool}{a b:Operand}(e:wd (pv ρ a) (fun v=>wd (pv ρ b) fun w=>za (vQ l v w) fun z=>k (pd z) os [] [])=some x):GoalQ N os r ρ (.shift l a b) k x:=by
 have hh:=wP F e;clear e;obtain⟨v,va,e,ka,ra⟩:=hh;have hh:=wP F e;clear e;obtain⟨w,vb,e,kb,rb⟩:=hh;have hh:=zh e;clear e;obtain⟨z,hz,e⟩:=hh;cases v<;>cases w<;>simp only[vQ]at hz<;>first|cases hz|skip
 rename_i k1 n1 k2 n2;obtain⟨c,h1,h2⟩:=zrE hz;rw[z7 ra rfl]at ka;rw[z7 rb rfl]at kb;refine .quiet I (v:=.s (.one c)) (fun call=>?_) (yA h2) e;simp only[runK,ka,kb,zx];show qZ N.h ((bif l then zeK else zhs) k1 n1 n2)=_;rw[h1];rfl
theorem zul(I:Zd E N os)(F:∀i,RepPA N (r i) (ρ i)){op:BinOp}{a b:Operand}(e:wd (pv ρ a) (fun v=>wd (pv ρ b) fun w=>za (zgv op v w) fun z=>k (pd z) os [] [])=some x):GoalQ N os r ρ (.str op a b) k x:=by
 have hh:=wP F e;clear e;obtain⟨v,va,e,ka,ra⟩:=hh;have hh:=wP F e;clear e;obtain⟨w,vb,e,kb,rb⟩:=hh;have hh:=zh e;clear e;obtain⟨z,hz,e⟩:=hh;cases v<;>cases w<;>simp only[zgv]at hz<;>first|cases hz|skip
 rename_i s1 s2;obtain⟨c,h1,h2⟩:=zrE hz;rw[z7 ra rfl]at ka;rw[z7 rb rfl]at kb;refine .quiet I (v:=.s (.one c)) (fun call=>?_) (yA h2) e;simp only[runK,ka,kb,zx];show qZ N.h (zpG op s1 s2)=_;rw[h1];rfl
theorem zum(I:Zd E N os)(F:∀i,RepPA N (r i) (ρ i)){a:Operand}(e:wd (pv ρ a) (fun v=>za (zec v) fun z=>k (pd z) os [] [])=some x):GoalQ N os r ρ (.not a) k x:=by have hh:=wP F e;clear e;obtain⟨v,va,e,ka,ra⟩:=hh;have hh:=zh e;clear e;obtain⟨z,hz,e⟩:=hh;cases v<;>simp only[zec]at hz<;>cases hz;rw[z7 ra rfl]at ka;exact .quiet I (fun call=>by simp only[runK,ka,zx];rfl) (yA rfl) e
theorem zun(I:Zd E N os)(F:∀i,RepPA N (r i) (ρ i)){a:Operand}(e:wd (pv ρ a) (fun v=>za (zua v) fun z=>k (pd z) os [] [])=some x):GoalQ N os r ρ (.neg a) k x:=by have hh:=wP F e;clear e;obtain⟨v,va,e,ka,ra⟩:=hh;have hh:=zh e;clear e;obtain⟨z,hz,e⟩:=hh;cases v<;>simp only[zua]at hz<;>cases hz;rw[z7 ra rfl]at ka;exact .quiet I (fun call=>by simp only[runK,ka,zx];rfl) (yA rfl) e
theorem zqr(I:Zd E N os)(F:∀i,RepPA N (r i) (ρ i)){t:IntKind}{a:Operand}(e:wd (pv ρ a) (fun v=>za (zZ t v) fun z=>k (pd z) os [] [])=some x):GoalQ N os r ρ (.conv t a) k x:=by have hh:=wP F e;clear e;obtain⟨v,va,e,ka,ra⟩:=hh;have hh:=zh e;clear e;obtain⟨z,hz,e⟩:=hh;cases v<;>simp only[zZ]at hz<;>cases hz;rw[z7 ra rfl]at ka;exact .quiet I (fun call=>by simp only[runK,ka,zx];rfl) (yA rfl) e
theorem zqo(I:Zd E N os)(F:∀i,RepPA N (r i) (ρ i)){a:Operand}(e:wd (pv ρ a) (fun v=>za (zj7 v) fun z=>k (pd z) os [] [])=some x):GoalQ N os r ρ (.lenS a) k x:=by have hh:=wP F e;clear e;obtain⟨v,va,e,ka,ra⟩:=hh;have hh:=zh e;clear e;obtain⟨z,hz,e⟩:=hh;cases v<;>simp only[zj7]at hz<;>cases hz;rw[z7 ra rfl]at ka;exact .quiet I (fun call=>by simp only[runK,ka,zx];rfl) (yA rfl) e
theorem zjw:∀{l:List UInt8} {i:Nat} {z:DV},zhS l i=some z->∃c,zcA l i=some c/\z.scal=some c
 | [],i,z,e=>by cases e
 |u::l,i,z,e=>by
  simp only[zhS,zcA]at e ⊢;cases hb:Nat.beq i 0
  .rw[hb]at e;exact zjw e
  rw[hb]at e;cases e;exact⟨_,rfl,rfl⟩
theorem zmb(I:Zd E N os)(F:∀i,RepPA N (r i) (ρ i)){a b:Operand}(e:wd (pv ρ a) (fun v=>wd (pv ρ b) fun w=>za (zaJ v w) fun z=>k (pd z) os [] [])=some x):GoalQ N os r ρ (.ixstr a b) k x:=by
 have hh:=wP F e;clear e;obtain⟨v,va,e,ka,ra⟩:=hh;have hh:=wP F e;clear e;obtain⟨w,vb,e,kb,rb⟩:=hh;have hh:=zh e;clear e;obtain⟨z,hz,e⟩:=hh;cases v<;>first|cases hz|skip
 cases w<;>first|cases hz|skip
 rename_i s kk n;cases n with
 |negSucc n=>cases hz
 |ofNat n=>simp only[zaJ]at hz;obtain⟨c,h1,h2⟩:=zjw hz;rw[z7 ra rfl]at ka;rw[z7 rb rfl]at kb;refine .quiet I (v:=.s (.one c)) (fun call=>?_) (yA h2) e;simp only[runK,ka,kb,zx];show qZ N.h (zcA s.data.toList n)=_;rw[h1];rfl
theorem wq{t:Tr Zb}{x:Option DV}{o:Option Zb}{d y i:Nat}(hx:∀v,x=some v->∃w,o=some w/\RepPA N w (pd v))(hn:x=none->o=none)(e:kX x d y=some i):bnd t (cO o) d y=some i:=by
 rcases x with _|v
 .rw[hn rfl];exact e
 obtain⟨w,rfl,hw⟩:=hx v rfl;cases v<;>first|cases e|skip
 rename_i kk n;cases n with
 |negSucc n=>cases e
 |ofNat n=>rw[z7 hw rfl];exact e
theorem zbB(F:∀i,RepPA N (r i) (ρ i)){a:Option Operand}{x:Option DV}(e:pvo ρ a=some x):∃o,kvo r a=some o/\(∀v,x=some v->∃w,o=some w/\RepPA N w (pd v))/\(x=none->o=none):=by
 rcases a with _|a
 .cases e;exact⟨none,rfl,fun v h=>(by cases h),fun _=>rfl⟩
 simp only[pvo]at e;split at e
 .rename_i v hv;cases e;obtain⟨w,k1,k2⟩:=x4 F hv;simp_all[kvo]
 cases e
theorem ziI(I:Zd E N os)(F:∀i,RepPA N (r i) (ρ i)){a:Operand}{lo hi:Option Operand}(e:wd (pv ρ a) (fun v=>za (pvo ρ lo) fun lo=>za (pvo ρ hi) fun hi=>za (zgX v lo hi) fun z=>k (pd z) os [] [])=some x):GoalQ N os r ρ (.sslice a lo hi) k x:=by
 have hh:=wP F e;clear e;obtain⟨v,va,e,ka,ra⟩:=hh;have hh:=zh e;clear e;obtain⟨l,hl,e⟩:=hh;have hh:=zh e;clear e;obtain⟨h,hh,e⟩:=hh;have hh:=zh e;clear e;obtain⟨z,hz,e⟩:=hh;obtain⟨ol,kl,l1,l2⟩:=zbB F hl;obtain⟨oh,kh,h1,h2⟩:=zbB F hh;cases v<;>first|cases hz|skip
 rename_i s;simp only[zgX]at hz;rcases hb:kX h s.size s.size with _|y
 .grind
 rw[hb]at hz;simp only at hz;rcases hb2:kX l 0 y with _|q
 .grind
 rw[hb2]at hz;cases hz;rw[z7 ra rfl]at ka;refine .quiet I (v:=.s (.one (.str (s.extract q y)))) (fun call=>?_) (yA rfl) e;simp only[runK,ka,kl,kh,zx];show xE (zn (.s (.one (.str s)))) (cO ol) (cO oh) yi .nil N.h=_;simp only[xE,zn,wq h1 h2 hb,wq l1 l2 hb2]
theorem zmy{m:Bool}{t:IntKind}:∀{l:List DV} {vs:List Zb} {a z:Int},(∀(j:Nat) (d:DV) (v:Zb),l[j]? = some d->vs[j]? = some v->RepPA N v (pd d))->vs.length=l.length->minD m t l a=some z->zn8 m t .nil (cL vs) a=some z
 | [],[],a,z,_,_,e=>e
 |d::l,v::vs,a,z,H,hl,e=>by
  cases d<;>first|cases e|skip
  rename_i t' n;simp only[minD]at e;have:=z7 (H 0 _ _ rfl rfl) rfl;subst this;show zn8 m t .nil (zn _::cL vs) a=some z;simp only[zn8,zn];cases hk:eqK t t'
  .grind
  rw[hk]at e;exact zmy (fun j d v h1 h2=>H (j+1) d v (by trivial) (by trivial)) (by grind) e
 | [],_::_,_,_,_,hl,_=>by simp at hl
 |_::_,[],_,_,_,hl,_=>by simp at hl
theorem zqf(F:∀i,RepPA N (r i) (ρ i)):∀{xs:List Operand} {l:List DV},pvd ρ xs=some l->∃vs,kvs r xs=some vs/\vs.length=l.length/\∀(j:Nat) (d:DV) (v:Zb),l[j]? = some d->vs[j]? = some v->RepPA N v (pd d)
 | [],l,e=>by cases e;exact⟨[],rfl,rfl,fun j d v h=>by simp at h⟩
 |x::xs,l,e=>by
  simp only[pvd]at e;split at e
  .rename_i v l' hv hl;cases e;obtain⟨w,k1,k2⟩:=x4 F hv;obtain⟨vs,k3,k4,k5⟩:=zqf F hl
   grind[kvs]
  cases e
theorem ziJ(I:Zd E N os)(F:∀i,RepPA N (r i) (ρ i)){m:Bool}{a:Operand}{xs:List Operand}(e:wd (pv ρ a) (fun v=>za (pvd ρ xs) fun l=>za (uG m v l) fun z=>k (pd z) os [] [])=some x):GoalQ N os r ρ (.minmax m a xs) k x:=by
 have hh:=wP F e;clear e;obtain⟨v,va,e,ka,ra⟩:=hh;have hh:=zh e;clear e;obtain⟨l,hl,e⟩:=hh;have hh:=zh e;clear e;obtain⟨z,hz,e⟩:=hh;obtain⟨vs,k3,k4,k5⟩:=zqf F hl;cases v<;>first|cases hz|skip
 rename_i t n;simp only[uG]at hz;rcases hm:minD m t l n with _|q
 .grind
 rw[hm]at hz;cases hz;rw[z7 ra rfl]at ka;refine .quiet I (v:=.s (.one (.int t q))) (fun call=>?_) (yA rfl) e;simp only[runK,ka,k3,zx];show yY m (zn (.s (.one (.int t n)))) (cL vs) yi .nil N.h=_;simp only[yY,zn,zmy k5 k4 hm]
theorem zqk(I:Zd E N os)(F:∀i,RepPA N (r i) (ρ i)){c a b:Operand} (e:wd (pv ρ c) (fun v=>za (pv ρ a) fun a=>za (pv ρ b) fun b=>
  match a,b with
  | .s (.one (.d x)),.s (.one (.d y))=>za (zro v x y) fun z=>k (pd z) os [] []
  |a,b=>ifB v (k a os [] []) (k b os [] []))=some x):GoalQ N os r ρ (.pick c a b) k x:=by
 have hh:=wP F e;clear e;obtain⟨v,vc,e,kc,rc⟩:=hh;have hh:=zh e;clear e;obtain⟨pa,ha,e⟩:=hh;have hh:=zh e;clear e;obtain⟨pb,hb,e⟩:=hh;obtain⟨va,ka,ra⟩:=x4 F ha;obtain⟨vb,kb,rb⟩:=x4 F hb;have hv:∃q,v=.bool q/\k (bif q then pa else pb) os [] []=some x:=by
  split at e
  .have hh:=zh e;clear e;obtain⟨z,hz,e⟩:=hh;cases v<;>simp only[zro]at hz<;>cases hz
   grind
  cases v<;>first|cases e|skip
  rename_i q;exact⟨q,rfl,by cases q<;>exact e⟩
 obtain⟨q,rfl,hk⟩:=hv;rw[z7 rc rfl]at kc;refine .quiet I (v:=bif q then va else vb) (fun call=>by simp only[runK,ka,kb,kc,zx];rfl) ?_ hk
 grind
end
end Go.PE
end
section
namespace Go.PE
open Go Go.CE
section
variable {β:Type} {C:Nat->zc} {E:En} {lk:Nat->Bool} {N:Nm} {os:List PO} {r:Fr} {ρ:Nat->PA} {k:KT β} {x:β}
theorem zlU{n:Option Nat}{ps:List PC}{off:Nat}{K:PV->Option β}{y:β}(e:zfs n ps off K=some y):n≠some 0/\za1 n ps off K=some y:=by grind[zfs]
theorem zd9{n:Option Nat}{ps:List PC}{cs:List Zc}{base off m:Nat}{o:Zf}{K:PV->Option β}{y:β}(h:Za)(hr:rd m base o=some cs)(H:RepPL N cs ps)(h0:n≠some 0\/o≠.void)(e:za1 n ps off K=some y):
  ∃p s,K p=some y/\loadAt n h (base+off) (some o)=some (.s s,h)/\RepPV N s p:=by
 rcases n with _|n
 .simp only[za1]at e;obtain⟨c,hc,e⟩:=zh e;have hl:=H.len;have hi:=(Lz0.1 hc).1;obtain⟨v,hv⟩:∃v,cs[off]? = some v:=⟨_,Lz5 (by omega)⟩;exact⟨.one c,.one v,e,zoL h hr hv,H.get hv hc⟩
 simp only[za1]at e;cases hb:Nat.ble (off+n) ps.length
 .grind
 rw[hb]at e;have hle:=Lz4 hb;have hl:=H.len;have hm:=zc8 hr;exact⟨_,.agg ((cs.drop off).take n),e,zrj h (zc7 hr (by omega)) (h0.imp (fun hh he=>hh (by rw[he])) id),(H.drop off).take n⟩
theorem zrm{n:Option Nat}{ps:List PC}{cs:List Zc}{off:Nat}{K:PV->Option β}{y:β}(h:Za)(H:RepPL N cs ps)(e:za1 n ps off K=some y):
  ∃p s,K p=some y/\CE.part n cs off h=some (.s s,h)/\RepPV N s p/\∀N':Nm,RepPL N' cs ps->RepPV N' s p:=by
 rcases n with _|n
 .simp only[za1]at e;obtain⟨c,hc,e⟩:=zh e;have hl:=H.len;have hi:=(Lz0.1 hc).1;obtain⟨v,hv⟩:∃v,cs[off]? = some v:=⟨_,Lz5 (by omega)⟩;refine⟨.one c,.one v,e,?_,H.get hv hc,fun N' X=>X.get hv hc⟩;show qZ h (uq cs off)=_;rw[xi,hv];rfl
 simp only[za1]at e;cases hb:Nat.ble (off+n) ps.length
 .grind
 rw[hb]at e;have hle:=Lz4 hb;have hl:=H.len;refine⟨_,.agg ((cs.drop off).take n),e,?_,(H.drop off).take n,fun N' X=>(X.drop off).take n⟩;show zd1 h (cut n cs off)=_;rw[zcp cs n off (by omega)];rfl
theorem zi9:∀(x:List DV),exp x x.length 0=x:=by
 have key:∀(p x:List DV),exp (p++x) x.length p.length=x:=by
  intro p x
  induction x generalizing p with
  |nil=>rfl
  |cons d x ih=>
   simp only[YzJ,exp];have h1:∀q:List DV,atD (q++d::x) q.length=d:=by
    intro q
    induction q with
    |nil=>rfl
    |cons a q ih=>trivial
   grind[Yz6]
 intro x;exact key [] x
theorem uR(I:Zd E N os){j:Nat}{ps:List PC}(ho:og os j=.box ps):∃b cs,N.μ j=.ptr b 0/\¬N.fz b/\N.h.t.get b=some (.cells cs 0)/\RepPL N cs ps:=by have:=I.obj j;rw[ho]at this;exact this
theorem kZ(I:Zd E N os){j st:Nat}{xs:List (List DV)}(ho:og os j=.arr st (some xs)):∃b vs ex,N.μ j=.slc b 0 xs.length (bif ex then xs.length else 0) ex/\¬N.fz b/\N.h.t.get b=some (.cells vs st)/\vs.length=xs.length*st/\
   ∀(i:Nat) (x:List DV),xs[i]? = some x->x.length=st/\RepL N.fz N.h ((vs.drop (i*st)).take st) x:=by
 have:=I.obj j;rw[ho]at this;exact this
theorem zm1:∀{cs:List PC} {st n off:Nat} {l:List DV},zwb cs st n off=some l->∀i,i<n->cs[off+i*st]? = some (.d (atD l i))
 |cs,st,0,off,l,_,i,hi=>by omega
 |cs,st,n+1,off,l,e,i,hi=>by
  simp only[zwb]at e;split at e
  .rename_i v l' h1 h2;cases e;cases i with
   |zero=>simp_all[atD]
   |succ i=>have:=zm1 h2 i (by omega);rw[show off+(i+1)*st=off+st+i*st by grind,this];rfl
  cases e
theorem ziW:∀{cs:List PC} {st len i m off:Nat} {l:List PC},ipC cs st len i m off=some l->i<len->l.length=m/\∀j,j<m->cs[off+j+i*st]? = l[j]?
 |cs,st,len,i,0,off,l,e,_=>by cases e<;>grind
 |cs,st,len,i,m+1,off,l,e,hi=>by
  simp only[ipC]at e;split at e
  .rename_i g r h1 h2;cases e;obtain⟨k1,k2⟩:=ziW h2 hi;refine⟨by simp[k1],fun j hj=>?_⟩;cases j<;>grind[zm1]
  cases e
theorem zeB{cs:List Zc}{ps:List PC}(H:RepPL N cs ps){st len i m off:Nat}{l:List PC}(e:ipC ps st len i m off=some l)(hi:i<len)(hm:m≠0):off+i*st+m<=cs.length/\RepPL N ((cs.drop (off+i*st)).take m) l:=by
 obtain⟨h1,h2⟩:=ziW e hi;have hb:off+m+i*st<=cs.length:=by
  have:=h2 (m-1) (by omega);have hx:(l[m-1]?).isSome=true:=by grind
  rw[<-this]at hx;have:=(Lz0.1 (Option.eq_some_of_isSome hx)).1;have:=H.len;omega
 refine⟨by omega,RepPL.of ?_ fun j c p hc hp=>?_⟩
 .simp;omega
 rw[YzH]at hc;split at hc
 .rename_i hj;rw[Yzo]at hc;have:=h2 j hj;rw[hp]at this;exact H.get (j:=off+j+i*st) (by grind) this
 cases hc
theorem zqn(I:Zd E N os)(F:∀i,RepPA N (r i) (ρ i)){n:Option Nat}{a:Operand}(e:w1 (pv ρ a) (fun c=>zlW os n c k)=some x):GoalQ N os r ρ (.load n a) k x:=by
 have hh:=uf F e;clear e;obtain⟨c,v,e,ka,ra,pka⟩:=hh;have fpc:∀(w:Zc) (xs:List DV) (off:Nat) (rd:List Nat),(v=.s (.one w)->zxX N os r ρ a rd)->Rep N.fz N.h w (.fp xs off)->(zfs n (xs.map .d) off fun v=>k (.s v) os [] rd)=some x->v=.s (.one w)->GoalQ N os r ρ (.load n a) k x:=by intro w xs off rd hmi hw e hv;obtain⟨b,o,base,cs,rfl,h1,h2,h3,h4⟩:=hw.fp_inv;obtain⟨h0,e⟩:=zlU e;obtain⟨p,s,e,hl,hp⟩:=zd9 N.h h3 (.ofD h4) (.inl h0) e;refine .quiet I (v:=.s s) (fun call=>?_) (.of hp) e (hm:=fun xo hx=>by cases hx<;>grind);simp only[runK,ka,hv,zx];show loadAt n N.h (base+off) (N.h.t.get b)=_;rw[h2,hl]
 cases c with
 |d d=>
  cases d<;>first|cases e|skip
  obtain⟨w,hv,hw⟩:=wa ra;refine fpc w _ _ _ (fun hv=>?_) hw e hv;obtain⟨b,o,base,cs,rfl,h1,_⟩:=hw.fp_inv;refine⟨_,ka.trans (by rw[hv]),.inr ⟨b,rfl,.inr ⟨rfl,fun N' H=>?_⟩⟩⟩;obtain⟨w',hw',hr'⟩:=wa (H _ _ ka pka);rw[hv]at hw';cases hw';obtain⟨b2,o2,base2,cs2,q1,q2,q3,_⟩:=hr'.fp_inv
  grind
 |own j=>cases e
 |lit j=>cases e
 |ptr j off=>
  simp only[zlW]at e;obtain⟨w,hv,hj,b,hb,rfl⟩:=zQ ra;subst hv;cases ho:og os j with
  |box ps=>
   rw[ho]at e;simp only at e;obtain⟨b',cs,h1,h2,h3,h4⟩:=uR I ho;rw[hb]at h1;cases h1;obtain⟨p,s,e,hl,hp⟩:=zd9 (o:=.cells cs 0) (base:=0) N.h (zlH rfl) h4 (.inr (by simp)) e;refine .quiet I (v:=.s s) (fun call=>?_) (.of hp) e (hm:=fun xo hx=>by cases hx;exact⟨_,ka,.inr ⟨b,rfl,.inl ⟨j,rfl,hj,by rw[hb];rfl,by rw[ho];trivial,fun N' H=>(zQ (H _ _ ka pka)).elim fun _ q=>q.2.1⟩⟩⟩)
   simp only[runK,ka,zx];show loadAt n N.h off (N.h.t.get b)=_
   grind
  |fbox ds=>
   rw[ho]at e;simp only at e;have hO:=I.obj j;rw[ho]at hO;obtain⟨b',h1,h2⟩:=hO;rw[hb]at h1;cases h1;obtain⟨b1,o1,base,cs,e1,e2,e3,e4,e5⟩:=h2.fp_inv;cases e1;refine fpc (.ptr b off) ds off _ (fun _=>⟨_,ka,.inr ⟨b,rfl,.inl ⟨j,rfl,hj,by rw[hb];rfl,by rw[ho];trivial,fun N' H=>(zQ (H _ _ ka pka)).elim fun _ q=>q.2.1⟩⟩⟩) ?_ e rfl;have:=Rep.fp_mk (off:=off) e2 e3 e4 e5
   grind
  |_=>grind
 |ep j st i off=>
  simp only[zlW]at e;obtain⟨w,hv,hj,b,l,cap,ex,hb,rfl,hil⟩:=zQ ra;subst hv;cases ho:og os j with
  |arr st' vo=>
   rw[ho]at e;simp only at e;cases hs:Nat.beq st st'
   .grind
   rw[hs]at e;have:=Lz1 hs;subst this;simp only[Yza]at e;have hh:=zh e;clear e;obtain⟨y,hy,e⟩:=hh;cases vo with
   |none=>cases hy
   |some xs=>
    obtain⟨b',vs,ex',h1,h2,h3,h4,h5⟩:=kZ I ho;rw[hb]at h1;cases h1;obtain⟨k1,k2⟩:=h5 i y hy;have he:=zi9 y;rw[k1]at he;rw[he]at e;have hi:=(Lz0.1 hy).1;have hr:rd st (i*st) (.cells vs st)=some ((vs.drop (i*st)).take st):=by have:=Yzj st (show i+1<=xs.length from hi);rw[Yz2]at this;exact zcp vs st (i*st) (by omega)
    obtain⟨p,s,e,hl,hp⟩:=zd9 N.h hr (.ofD k2) (.inr (by simp)) e;refine .quiet I (v:=.s s) (fun call=>?_) (.of hp) e (hm:=fun xo hx=>by
   cases hx;exact⟨_,ka,.inr ⟨b,rfl,.inl ⟨j,rfl,hj,by rw[hb];rfl,by rw[ho];trivial,fun N' H=>(zQ (H _ _ ka pka)).elim fun _ q=>q.2.1⟩⟩⟩)
    simp only[runK,ka,zx];show loadAt n N.h (i*st+off) (N.h.t.get b)=_;rw[h3,hl]
  |hol vo hn t=>
   rw[ho]at e;simp only at e;cases n
   case some=>cases e
   simp only at e;cases ht:og os t with
   |lnk m=>
    rw[ht]at e;simp only at e;cases hs:(Nat.beq st 1&&Nat.beq off 0)
    .grind
    rw[hs]at e;rw[LzC]at hs;have e1:=Lz1 hs.1;have e2:=Lz1 hs.2;subst e1 e2;simp only[Yza]at e;cases hi:Nat.beq i hn
    .rw[hi]at e;cases e
    rw[hi]at e;have:=Lz1 hi;subst this;have hO:=I.obj j;rw[ho]at hO;have hT:=I.obj t;rw[ht]at hT;rcases vo with _|xs
    .trivial
    obtain⟨b',vs,ex',h1,h2,h3,h4,h5,h6,h7,h8⟩:=hO;obtain⟨g0,b2,n2,vs2,g1,g2,g3,g4⟩:=hT;rw[h7]at g1;cases g1;rw[h3]at g3;cases g3;rw[hb]at h1;cases h1;refine .quiet I (v:=.s (.one (N.μ m))) (fun call=>?_) (yD (p:=.own m) ⟨g0,rfl⟩) e (hm:=fun xo hx=>by cases hx;exact⟨_,ka,.inr ⟨b,rfl,.inl ⟨j,rfl,hj,by rw[hb];rfl,by rw[ho];trivial,fun N' H=>(zQ (H _ _ ka pka)).elim fun _ q=>q.2.1⟩⟩⟩)
    simp only[runK,ka,zx];show loadAt none N.h (i*1+0) (N.h.t.get b)=_;rw[h3];show qZ N.h (uq vs (i*1+0))=_;rw[xi,show i*1+0=i by omega,g4];rfl
   |_=>grind
  |_=>grind
 |ip j f len st i o=>
  simp only[zlW]at e;obtain⟨w,hv,hj,b,hb,rfl,hil⟩:=zQ ra;subst hv;cases ho:og os j with
  |box ps=>
   rw[ho]at e;simp only at e;obtain⟨b',cs,h1,h2,h3,h4⟩:=uR I ho;rw[hb]at h1;cases h1;rcases n with _|m
   .simp only at e;have hh:=zh e;clear e;obtain⟨l,hl,e⟩:=hh;obtain⟨q1,q2⟩:=zeB h4 hl hil (by omega);have ql:=(ziW hl hil).1
    match l,e,q2,ql with
    | [p],e,q2,_=>
     simp only at e
     match hc:(List.drop (f+o+i*st) cs).take 1,q2 with
     | [c],q2=>
      have hcc:cs[f+o+i*st]? = some c:=by
       have:=congrArg List.head? hc
       grind[List.take_one,List.head?_drop]
      refine .quiet I (v:=.s (.one c)) (fun call=>?_) (yD q2.1) e (hm:=fun xo hx=>by
    cases hx;exact⟨_,ka,.inr ⟨b,rfl,.inl ⟨j,rfl,hj,by rw[hb];rfl,by rw[ho];trivial,fun N' H=>(zQ (H _ _ ka pka)).elim fun _ q=>q.2.1⟩⟩⟩)
      simp only[runK,ka,zx];show loadAt none N.h (f+i*st+o) (N.h.t.get b)=_;rw[h3,show f+i*st+o=f+o+i*st by omega];show qZ N.h (uq cs _)=_;rw[xi,hcc];rfl
   simp only at e;cases hm:Nat.beq m 0 with
   |true=>grind
   |false=>
    rw[hm]at e;simp only[Yzc]at e;have hh:=zh e;clear e;obtain⟨l,hl,e⟩:=hh;obtain⟨q1,q2⟩:=zeB h4 hl hil (fun h=>by simp_all);refine .quiet I (v:=.s (.agg ((cs.drop (f+o+i*st)).take m))) (fun call=>?_) (RepPA.of (v:=.agg _) (p:=.agg l) q2) e (hm:=fun xo hx=>by
   cases hx;exact⟨_,ka,.inr ⟨b,rfl,.inl ⟨j,rfl,hj,by rw[hb];rfl,by rw[ho];trivial,fun N' H=>(zQ (H _ _ ka pka)).elim fun _ q=>q.2.1⟩⟩⟩)
    simp only[runK,ka,zx];show loadAt (some m) N.h (f+i*st+o) (N.h.t.get b)=_;rw[h3,show f+i*st+o=f+o+i*st by omega];show zd1 N.h (cut m cs _)=_;rw[zcp cs m _ (by omega)];rfl
  |_=>grind
 |vw j st lo len=>cases e
 |clo f caps=>cases e
theorem zl9(I:Zd E N os)(F:∀i,RepPA N (r i) (ρ i)){a:Operand} (e:w1 (pv ρ a) (fun c=>
  match c with
  | .ptr j off=>k (pc (.ptr j off)) os [] []
  | .ep j st i off=>k (pc (.ep j st i off)) os [] []
  | .clo f l=>k (pc (.clo f l)) os [] []
  | .d (.fp xs off)=>k (pd (.fp xs off)) os [] []
  |_=>none)=some x):GoalQ N os r ρ (.nilck a) k x:=by
 have hh:=uf F e;clear e;obtain⟨c,v,e,ka,ra,pka⟩:=hh;split at e
 .obtain⟨w,rfl,hw⟩:=zQ ra;have hw':=hw;obtain⟨hj,b,hb,rfl⟩:=hw;exact .quiet I (fun call=>by simp only[runK,ka,zx];rfl) (yD hw') e (kN ka pka fun N' H=>H)
 .obtain⟨w,rfl,hw⟩:=zQ ra;have hw':=hw;obtain⟨hj,b,l,cap,ex,hb,rfl,hi⟩:=hw;exact .quiet I (fun call=>by simp only[runK,ka,zx];rfl) (yD hw') e (kN ka pka fun N' H=>H)
 .obtain⟨w,rfl,hw⟩:=zQ ra;have hw':=hw;obtain⟨ps,rfl,hc⟩:=hw;exact .quiet I (fun call=>by simp only[runK,ka,zx];rfl) (yD hw') e (kN ka pka fun N' H=>H)
 .obtain⟨w,rfl,hw⟩:=wa ra;obtain⟨b,o,base,cs,rfl,_⟩:=hw.fp_inv;exact .quiet I (fun call=>by simp only[runK,ka,zx];rfl) ra e (kN ka pka fun N' H=>H)
 cases e
theorem zix{w:Zc}{v:DV}{q:Bool}(H:Rep N.fz N.h w v)(e:zed v=some q)(neg:Bool)(h:Za):zk0 neg (.s (.one w)) (.s (.one .nils)) h=some (.s (.one (.bool (bif neg then !q else q))),h):=by
 cases v<;>simp only[zed]at e<;>cases e
 .rw[H.scal rfl];rfl
 obtain⟨b,o,off,cap,ex,cs,rfl,_⟩:=H.lst_inv;cases neg<;>rfl
theorem zql(I:Zd E N os)(F:∀i,RepPA N (r i) (ρ i)){neg:Bool}{a b:Operand} (e:w1 (pv ρ a) (fun c=>wd (pv ρ b) fun w=>
  match w with
  | .nils=>
   match c with
   | .d v=>za (zed v) fun q=>k (pd (.bool (bif neg then !q else q))) os [] []
   | .own j=>
    match og os j with
    | .arr _ v=>k (pd (.bool (bif neg then v.isSome else v.isNone))) os [] []
    | .frz v=>za (zed v) fun q=>k (pd (.bool (bif neg then !q else q))) os [] []
    |_=>none
   |_=>none
  |_=>none)=some x):GoalQ N os r ρ (.nilS neg a b) k x:=by
 have hh:=uf F e;clear e;obtain⟨c,v,e,ka,ra,pka⟩:=hh;have hh:=wP F e;clear e;obtain⟨w,u,e,kb,rb⟩:=hh;cases w<;>first|cases e|skip
 simp only at e;rw[z7 rb rfl]at kb;cases c<;>first|cases e|skip
 .rename_i d;simp only at e;have hh:=zh e;clear e;obtain⟨q,hq,e⟩:=hh;obtain⟨c,rfl,hc⟩:=wa ra;exact .quiet I (fun call=>by grind[runK,zx,zix]) (yA rfl) e
 rename_i j;simp only at e;obtain⟨c,rfl,hj,hc⟩:=zQ ra;cases ho:og os j with
 |arr st vo=>
  rw[ho]at e;simp only at e;have hO:=I.obj j;rw[ho]at hO;refine .quiet I (fun call=>?_) (yA rfl) e;simp only[runK,ka,kb,zx];rcases vo with _|xs
  .rw[hc,show N.μ j=.nils from hO];rfl
  obtain⟨b,vs,ex,h1,_⟩:=hO;rw[hc,h1];cases neg<;>rfl
 |frz d=>rw[ho]at e;simp only at e;have hO:=I.obj j;rw[ho]at hO;have hh:=zh e;clear e;obtain⟨q,hq,e⟩:=hh;exact .quiet I (fun call=>by simp only[runK,ka,kb,zx];rw[hc];exact zix hO hq neg N.h) (yA rfl) e
 |_=>grind
theorem zng{t:Nat}{a b:Zc}{v w:DV}{q:Bool}{fz:BN->Prop}{h:Za}(ha:Rep fz h a v)(hb:Rep fz h b w)(e:eqD t v w=some q):eqC t a b=some q:=by
 unfold eqD at e;split at e
 .rw[ha.scal rfl,hb.scal rfl];exact e
 .rw[ha.scal rfl,hb.scal rfl];exact e
 .rw[ha.scal rfl,hb.scal rfl];exact e
 cases e
theorem zhA{fz:BN->Prop}{h:Za}:∀{ks:List Nat} {as bs:List Zc} {vs ws:List DV} {q:Bool},RepL fz h as vs->RepL fz h bs ws->zn9 ks vs ws=some q->zni ks as bs=some q
 | [],[],[],[],[],q,_,_,e=>e
 |k::ks,a::as,b::bs,v::vs,w::ws,q,ha,hb,e=>by
  obtain⟨a1,a2⟩:=ha.inv;obtain⟨b1,b2⟩:=hb.inv;simp only[zn9,zni]at e ⊢;rcases hq:eqD k v w with _|p
  .grind
  rw[hq]at e;rw[zng a1 b1 hq];cases p
  .exact e
  exact zhA a2 b2 e
 |_,a::as,_,[],_,_,ha,_,_=>by have:=ha.1;trivial
 |_,[],_,v::vs,_,_,ha,_,_=>by have:=ha.1;trivial
 |_,_,b::bs,_,[],_,_,hb,_=>by have:=hb.1;trivial
 |_,_,[],_,w::ws,_,_,hb,_=>by have:=hb.1;trivial
 | [],[],b::bs,[],w::ws,q,_,_,e=>by cases e
 | [],a::as,[],v::vs,[],q,_,_,e=>by cases e
 | [],a::as,b::bs,v::vs,w::ws,q,_,_,e=>by cases e
 |k::ks,[],[],[],[],q,_,_,e=>by cases e
 |k::ks,[],b::bs,[],w::ws,q,_,_,e=>by cases e
 |k::ks,a::as,[],v::vs,[],q,_,_,e=>by cases e
theorem zaD:∀{ps:List PC} {cs:List Zc} {ds:List DV},zkP ps=some ds->RepPL N cs ps->RepL N.fz N.h cs ds
 | [],[],ds,e,_=>by cases e;exact .nil _ _
 | .d v::ps,c::cs,ds,e,H=>by
  simp only[zkP]at e;rcases hd:zkP ps with _|l
  .grind
  rw[hd]at e;cases e;exact .cons H.1 (zaD hd H.2)
 | [],_::_,_,_,H=>H.elim
 |_::_,[],_,_,H=>H.elim
 | .own _::_,_::_,_,e,_=>by cases e
 | .ptr _ _::_,_::_,_,e,_=>by cases e
 | .ep _ _ _ _::_,_::_,_,e,_=>by cases e
 | .ip _ _ _ _ _ _::_,_::_,_,e,_=>by cases e
 | .vw _ _ _ _::_,_::_,_,e,_=>by cases e
 | .lit _::_,_::_,_,e,_=>by cases e
 | .clo _ _::_,_::_,_,e,_=>by cases e
theorem zcG{v:Zb}{ps:List PC}(H:RepPA N v (.s (.agg ps))):∃cs,v=.s (.agg cs)/\RepPL N cs ps:=by
 obtain⟨w,rfl,hw⟩:=H.inv;cases w with
 |one c=>trivial
 |agg cs=>exact⟨cs,rfl,hw⟩
theorem zyg(I:Zd E N os)(F:∀i,RepPA N (r i) (ρ i)){q:Nat⊕List Nat}{neg:Bool}{a b:Operand} (e:(match q with
  | .inl t=>wd (pv ρ a) fun v=>wd (pv ρ b) fun w=>za (eqD t v w) fun b=>k (pd (.bool (bif neg then !b else b))) os [] []
  | .inr ks=>
   match pv ρ a,pv ρ b with
   |some (.s (.agg xs)),some (.s (.agg ys))=>za (zkP xs) fun xs=>za (zkP ys) fun ys=>za (zn9 ks xs ys) fun b=>k (pd (.bool (bif neg then !b else b))) os [] []
   |_,_=>none)=some x):GoalQ N os r ρ (.eq q neg a b) k x:=by
 cases q with
 |inl t=>
  simp only at e;have hh:=wP F e;clear e;obtain⟨v,va,e,ka,ra⟩:=hh;have hh:=wP F e;clear e;obtain⟨w,vb,e,kb,rb⟩:=hh;have hh:=zh e;clear e;obtain⟨p,hp,e⟩:=hh;obtain⟨ca,rfl,ha⟩:=wa ra;obtain⟨cb,rfl,hb⟩:=wa rb;refine .quiet I (v:=.s (.one (.bool (bif neg then !p else p)))) (fun call=>?_) (yA rfl) e;simp only[runK,ka,kb,zx];show (match eqC t ca cb with|some q=>some (Zb.s (.one (.bool (bif neg then !q else q))),N.h)|none=>none)=_
  grind[zng]
 |inr ks=>
  simp only at e;split at e
  .rename_i xs ys hx hy;obtain⟨va,ka,ra⟩:=x4 F hx;obtain⟨vb,kb,rb⟩:=x4 F hy;have hh:=zh e;clear e;obtain⟨ds,hd,e⟩:=hh;have hh:=zh e;clear e;obtain⟨es,he,e⟩:=hh;have hh:=zh e;clear e;obtain⟨p,hp,e⟩:=hh;obtain⟨ca,rfl,ha⟩:=zcG ra;obtain⟨cb,rfl,hb⟩:=zcG rb;refine .quiet I (v:=.s (.one (.bool (bif neg then !p else p)))) (fun call=>?_) (yA rfl) e;simp only[runK,ka,kb,zx];show (match zni ks ca cb with|some q=>some (Zb.s (.one (.bool (bif neg then !q else q))),N.h)|none=>none)=_;rw[zhA (zaD hd ha) (zaD he hb) hp]
  cases e
theorem zqq(I:Zd E N os)(F:∀i,RepPA N (r i) (ρ i)){a:Operand}{off:Nat} (e:w1 (pv ρ a) (fun c=>
  match c with
  | .ptr j o=>k (pc (.ptr j (o+off))) os [] []
  | .d (.fp xs o)=>k (pd (.fp xs (o+off))) os [] []
  | .ep j st i o=>k (pc (.ep j st i (o+off))) os [] []
  | .ip j f len st i o=>k (pc (.ip j f len st i (o+off))) os [] []
  |_=>none)=some x):GoalQ N os r ρ (.foff a off) k x:=by
 have hh:=uf F e;clear e;obtain⟨c,v,e,ka,ra,pka⟩:=hh;split at e
 .rename_i j o;obtain⟨w,rfl,hj,b,hb,rfl⟩:=zQ ra;exact .quiet I (v:=.s (.one (.ptr b (o+off)))) (fun call=>by simp only[runK,ka,zx];rfl) (yD (p:=.ptr j (o+off)) ⟨hj,b,hb,rfl⟩) e (kN ka pka fun N' H=>by obtain⟨w,hw,a1,b2,a2,a3⟩:=zQ H;cases hw;cases a3;exact yD (p:=.ptr j (o+off)) ⟨a1,b,a2,rfl⟩)
 .obtain⟨w,rfl,hw⟩:=wa ra;obtain⟨b,o,base,cs,rfl,h1,h2,h3,h4⟩:=hw.fp_inv;rename_i xs off';exact .quiet I (v:=.s (.one (.ptr b (base+off'+off)))) (fun call=>by simp only[runK,ka,zx];rfl) (ug (by rw[Yyb];exact .fp_mk h1 h2 h3 h4)) e (kN ka pka fun N' H=>by
   obtain⟨w,hw,hr⟩:=wa H;cases hw;obtain⟨b2,o2,base2,cs2,a1,a2,a3,a4,a5⟩:=hr.fp_inv;have hb2:b=b2/\base=base2:=by grind
   obtain⟨rfl,rfl⟩:=hb2;exact ug (by rw[Yyb];exact .fp_mk a2 a3 a4 a5))
 .rename_i j st i o;obtain⟨w,rfl,hj,b,l,cap,ex,hb,rfl,hi⟩:=zQ ra;exact .quiet I (v:=.s (.one (.ptr b (i*st+o+off)))) (fun call=>by simp only[runK,ka,zx];rfl) (yD (p:=.ep j st i (o+off)) ⟨hj,b,l,cap,ex,hb,by simp[Yyb],hi⟩) e (kN ka pka fun N' H=>by obtain⟨w,hw,a1,b2,l2,cap2,ex2,a2,a3,a4⟩:=zQ H;cases hw;have:=(Zc.ptr.inj a3).1;subst this;exact yD (p:=.ep j st i (o+off)) ⟨a1,b,l2,cap2,ex2,a2,by simp[Yyb],a4⟩)
 .rename_i j f len st i o;obtain⟨w,rfl,hj,b,hb,rfl,hi⟩:=zQ ra;exact .quiet I (v:=.s (.one (.ptr b (f+i*st+o+off)))) (fun call=>by simp only[runK,ka,zx];rfl) (yD (p:=.ip j f len st i (o+off)) ⟨hj,b,hb,by simp[Yyb],hi⟩) e (kN ka pka fun N' H=>by obtain⟨w,hw,a1,b2,a2,a3,a4⟩:=zQ H;cases hw;have:=(Zc.ptr.inj a3).1;subst this;exact yD (p:=.ip j f len st i (o+off)) ⟨a1,b,a2,by simp[Yyb],a4⟩)
 cases e
theorem zme(I:Zd E N os)(F:∀i,RepPA N (r i) (ρ i)){a:Operand}{off:Nat}{n:Option Nat} (e:(match pv ρ a with
  |some (.s (.agg cs))=>za1 n cs off fun v=>k (.s v) os [] []
  |_=>none)=some x):GoalQ N os r ρ (.field a off n) k x:=by
 split at e
 .rename_i cs hx;obtain⟨va,ka,ra⟩:=x4 F hx;obtain⟨ca,rfl,ha⟩:=zcG ra;obtain⟨p,s,e,h1,h2,h3⟩:=zrm N.h ha e;exact .quiet I (v:=.s s) (fun call=>by simp only[runK,ka,zx];exact h1) (.of h2) e (kN ka hx fun N' H=>by obtain⟨cs',hcs,hr⟩:=zcG H;cases hcs;exact .of (h3 N' hr))
 cases e
theorem zee{len:Nat}{i:DV}{n:Nat}(e:j4 len i=some n):n<len/\Nat.ble (Nat.succ n) len=true/\∃t,i=.int t (.ofNat n):=by
 cases i<;>first|cases e|skip
 rename_i t m;cases m with
 |negSucc m=>cases e
 |ofNat m=>
  simp only[j4]at e;cases hb:Nat.ble (Nat.succ m) len
  .grind
  rw[hb]at e;cases e;exact⟨Lz4 hb,hb,t,rfl⟩
theorem zez(I:Zd E N os){st:Nat}{a b:Operand}{v u:Zb}{i:DV}(ka:kv r a=some v)(kb:kv r b=some u)(rb:RepPA N u (pd i))(w:Zc)(d:DV){p:PC}(pka:pv ρ a=some (pc p))(hp:p=.d d\/(∃j,p=.own j)\/∃j s l n,p=.vw j s l n)(hw:Rep N.fz N.h w d)
  (e:(za (uh st d i) fun x=>k (pd (.fp (exp x st 0) 0)) os [] [])=some x) (hv:v=.s (.one w)):GoalQ N os r ρ (.ixs st a b) k x:=by
 have hh:=zh e;clear e;obtain⟨y,hy,e⟩:=hh;cases d<;>first|cases hy|skip
 rename_i st' xs;cases i<;>first|cases hy|skip
 rename_i t n;cases n with
 |negSucc n=>cases hy
 |ofNat n=>
  simp only[uh]at hy;cases hs:Nat.beq st st'
  .grind
  rw[hs]at hy;have:=Lz1 hs;subst this;simp only[Yza]at hy;obtain⟨b',o,off,cap,ex,cs,rfl,h1,h2,h3,h4,h5⟩:=hw.lst_inv;obtain⟨k1,k2⟩:=h5 n y hy;have hi:=(Lz0.1 hy).1;rw[z7 rb rfl]at kb;subst hv;have he:=zi9 y;rw[k1]at he;rw[he]at e;have:=Yzj st (show n+1<=xs.length from hi);rw[Yz2]at this;refine .quiet I (v:=.s (.one (.ptr b' (off+n*st)))) (fun call=>?_) (ug (Rep.fp_mk (off:=0) h1 h2 (cs:=(cs.drop (n*st)).take st) (by grind[zc7]) k2)) e (fun xo hxo N' u' pa' hu' hpa' H=>by
   have htk:trk ρ (.ixs st a b)=(match pv ρ a with|some (.s (.one (.own _)))=>none|some (.s (.one (.vw _ _ _ _)))=>none|_=>some a):=rfl;rw[pka]at htk;rcases hp with rfl|⟨j,rfl⟩|⟨j,s,l,n,rfl⟩
   .rw[htk]at hxo;cases hxo;rw[ka]at hu';cases hu';rw[pka]at hpa';cases hpa';obtain⟨w',hw',hr'⟩:=wa H;cases hw';obtain⟨b2,o2,off2,cap2,ex2,cs2,q1,q2,q3,q4,q5,q6⟩:=hr'.lst_inv;cases q1;obtain⟨g1,g2⟩:=q6 n y hy;exact ug (Rep.fp_mk (off:=0) q2 q3 (cs:=(cs2.drop (n*st)).take st) (by grind[zc7]) g2)
   .grind
   grind)
  simp only[runK,ka,kb,zx];show (bif Nat.ble (Nat.succ n) xs.length then some (Zb.s (.one (.ptr b' (off+n*st))),N.h) else none)=_
  grind[Yze]
theorem zur(I:Zd E N os)(F:∀i,RepPA N (r i) (ρ i)){st:Nat}{a b:Operand}(e:w1 (pv ρ a) (fun c=>wd (pv ρ b) fun i=>zud os st c i k)=some x):GoalQ N os r ρ (.ixs st a b) k x:=by
 have hh:=uf F e;clear e;obtain⟨c,v,e,ka,ra,pka⟩:=hh;have hh:=wP F e;clear e;obtain⟨i,u,e,kb,rb⟩:=hh;cases c<;>first|cases e|skip
 .rename_i d;simp only[zud]at e;obtain⟨w,hv,hw⟩:=wa ra;exact zez I ka kb rb w d pka (.inl rfl) hw e hv
 .rename_i j;simp only[zud]at e;obtain⟨c,rfl,hj,hc⟩:=zQ ra;cases ho:og os j with
  |frz d=>rw[ho]at e;have hO:=I.obj j;rw[ho]at hO;exact zez I ka kb rb c d pka (.inr (.inl ⟨j,rfl⟩)) (by rw[hc];exact hO) e rfl
  |arr st' vo=>
   rw[ho]at e;simp only at e;cases hs:Nat.beq st st'
   .grind
   rw[hs]at e;have:=Lz1 hs;subst this;simp only[Yza]at e;have hh:=zh e;clear e;obtain⟨n,hn,e⟩:=hh;cases i<;>first|cases hn|skip
   rename_i t m;cases m with
   |negSucc m=>cases hn
   |ofNat m=>
    rcases vo with _|xs
    .cases hn
    simp only[yn]at hn;cases hb:Nat.ble (Nat.succ m) xs.length
    .grind
    rw[hb]at hn;cases hn;obtain⟨b',vs,ex,h1,h2,h3,h4,h5⟩:=kZ I ho;rw[z7 rb rfl]at kb;refine .quiet I (v:=.s (.one (.ptr b' (0+n*st)))) (fun call=>?_) (yD (p:=.ep j st n 0) ⟨hj,b',_,_,_,h1,by simp,Lz4 hb⟩) e (fun xo hxo N' u' pa' hu' hpa' H=>by
     have htk:trk ρ (.ixs st a b)=(match pv ρ a with|some (.s (.one (.own _)))=>none|some (.s (.one (.vw _ _ _ _)))=>none|_=>some a):=rfl
     grind)
    simp only[runK,ka,kb,zx,hc,h1];show (bif Nat.ble (Nat.succ n) xs.length then some (Zb.s (.one (.ptr b' (0+n*st))),N.h) else none)=_
    grind
  |hol vo hn ht=>
   rw[ho]at e;simp only at e;cases hs:Nat.beq st 1
   .grind
   rw[hs]at e;have:=Lz1 hs;subst this;simp only[Yza]at e;have hh:=zh e;clear e;obtain⟨n,hn,e⟩:=hh;cases i<;>first|cases hn|skip
   rename_i t m;cases m with
   |negSucc m=>cases hn
   |ofNat m=>
    rcases vo with _|xs
    .cases hn
    simp only[yn]at hn;cases hb:Nat.ble (Nat.succ m) xs.length
    .grind
    rw[hb]at hn;cases hn;have hO:=I.obj j;rw[ho]at hO;obtain⟨b',vs,ex,h1,h2,h3,h4,h5⟩:=hO;rw[z7 rb rfl]at kb;refine .quiet I (v:=.s (.one (.ptr b' (0+n*1)))) (fun call=>?_) (yD (p:=.ep j 1 n 0) ⟨hj,b',_,_,_,h1,by simp,Lz4 hb⟩) e (fun xo hxo N' u' pa' hu' hpa' H=>by
     have htk:trk ρ (.ixs 1 a b)=(match pv ρ a with|some (.s (.one (.own _)))=>none|some (.s (.one (.vw _ _ _ _)))=>none|_=>some a):=rfl
     grind)
    simp only[runK,ka,kb,zx,hc,h1];show (bif Nat.ble (Nat.succ n) xs.length then some (Zb.s (.one (.ptr b' (0+n*1))),N.h) else none)=_
    grind
  |_=>grind
 rename_i j st' lo len;simp only[zud]at e;obtain⟨c,rfl,hc⟩:=zQ ra;cases ho:og os j with
 |frz d=>rw[ho]at e;have hO:=I.obj j;rw[ho]at hO;exact zez I ka kb rb c _ pka (.inr (.inr ⟨j,st',lo,len,rfl⟩)) (zd8 (N:=N) hO hc) e rfl
 |arr st'' vo=>
  rw[ho]at e;simp only at e;cases hs:Nat.beq st st'
  .grind
  rw[hs]at e;have:=Lz1 hs;subst this;simp only[Yza]at e;have hh:=zh e;clear e;obtain⟨n,hn,e⟩:=hh;obtain⟨h1,h2,t,rfl⟩:=zee hn;obtain⟨hj,hc⟩:=hc;rcases hc with⟨_,_,_,rfl⟩|⟨b',l,cap,ex,cap',ex',g1,rfl,g2,g3⟩
  .omega
  rw[z7 rb rfl]at kb;refine .quiet I (v:=.s (.one (.ptr b' (lo*st+n*st)))) (fun call=>?_) (yD (p:=.ep j st (lo+n) 0) ⟨hj,b',_,_,_,g1,by grind,by omega⟩) e (fun xo hxo N' u' pa' hu' hpa' H=>by
   have htk:trk ρ (.ixs st a b)=(match pv ρ a with|some (.s (.one (.own _)))=>none|some (.s (.one (.vw _ _ _ _)))=>none|_=>some a):=rfl
   grind)
  simp only[runK,ka,kb,zx];show (bif Nat.ble (Nat.succ n) len then some (Zb.s (.one (.ptr b' (lo*st+n*st))),N.h) else none)=_
  grind
 |_=>grind
theorem zmc(I:Zd E N os)(F:∀i,RepPA N (r i) (ρ i)){len st:Nat}{a b:Operand} (e:w1 (pv ρ a) (fun c=>wd (pv ρ b) fun i=>
  match c with
  | .ptr j off=>za (j4 len i) fun n=>k (pc (.ip j off len st n 0)) os [] []
  |_=>none)=some x):GoalQ N os r ρ (.ixarr len st a b) k x:=by
 have hh:=uf F e;clear e;obtain⟨c,v,e,ka,ra,pka⟩:=hh;have hh:=wP F e;clear e;obtain⟨i,u,e,kb,rb⟩:=hh;split at e
 .have hh:=zh e;clear e;obtain⟨n,hn,e⟩:=hh;obtain⟨h1,h2,t,rfl⟩:=zee hn;obtain⟨w,rfl,hj,b',hb,rfl⟩:=zQ ra;rw[z7 rb rfl]at kb;rename_i j off;refine .quiet I (v:=.s (.one (.ptr b' (off+n*st)))) (fun call=>?_) (yD (p:=.ip j off len st n 0) ⟨hj,b',hb,by simp,h1⟩) e (fun xo hxo N' u' pa' hu' hpa' H=>by
   obtain rfl:a=xo:=Option.some.inj hxo;rw[ka]at hu';rw[pka]at hpa';cases hu';cases hpa';obtain⟨w2,e2,hj2,b2,hb2,rfl⟩:=zQ H;cases e2;exact yD (p:=.ip j off len st n 0) ⟨hj2,_,hb2,by simp,h1⟩)
  simp only[runK,ka,kb,zx];show (bif Nat.ble (Nat.succ n) len then some (Zb.s (.one (.ptr b' (off+n*st))),N.h) else none)=_
  grind
 cases e
theorem zmd(I:Zd E N os)(F:∀i,RepPA N (r i) (ρ i)){len st:Nat}{n:Option Nat}{a b:Operand} (e:wd (pv ρ b) (fun i=>
  match pv ρ a with
  |some (.s (.agg cs))=>za (j4 len i) fun j=>
   match n with
   |none=>za (ipC cs st len j 1 0) fun l=>match l with | [c]=>k (pc c) os [] []|_=>none
   |some m=>bif Nat.beq m 0 then none else za (ipC cs st len j m 0) fun l=>k (.s (.agg l)) os [] []
  |_=>none)=some x):GoalQ N os r ρ (.ixagg len st n a b) k x:=by
 have hh:=wP F e;clear e;obtain⟨i,u,e,kb,rb⟩:=hh;split at e
 .rename_i ps hx;obtain⟨va,ka,ra⟩:=x4 F hx;obtain⟨cs,rfl,ha⟩:=zcG ra;have hh:=zh e;clear e;obtain⟨j,hj,e⟩:=hh;obtain⟨h1,h2,t,rfl⟩:=zee hj;rw[z7 rb rfl]at kb;have run:∀call,runK r (.ixagg len st n a b) call N.h=CE.part n cs (j*st) N.h:=fun call=>by
   simp only[runK,ka,kb,zx];show (bif Nat.ble (Nat.succ j) len then CE.part n cs (j*st) N.h else none)=_
   grind
  rcases n with _|m
  .simp only at e;have hh:=zh e;clear e;obtain⟨l,hl,e⟩:=hh;obtain⟨q1,q2⟩:=zeB ha hl h1 (by omega);rw[Yzg]at q1 q2;have ql:=(ziW hl h1).1
   match l,e,q2,ql with
   | [p],e,q2,_=>
    simp only at e
    match hc:(List.drop (j*st) cs).take 1,q2 with
    | [c],q2=>
     have hcc:cs[j*st]? = some c:=by
      have:=congrArg List.head? hc
      grind[List.take_one,List.head?_drop]
     refine .quiet I (v:=.s (.one c)) (fun call=>?_) (yD q2.1) e;rw[run];show qZ N.h (uq cs _)=_;rw[xi,hcc];rfl
  simp only at e;cases hm:Nat.beq m 0
  case true=>grind
  rw[hm]at e;simp only[Yzc]at e;have hh:=zh e;clear e;obtain⟨l,hl,e⟩:=hh;obtain⟨q1,q2⟩:=zeB ha hl h1 (fun h=>by simp_all);rw[Yzg]at q1 q2;refine .quiet I (v:=.s (.agg ((cs.drop (j*st)).take m))) (fun call=>?_) (RepPA.of (v:=.agg _) (p:=.agg l) q2) e;rw[run];show zd1 N.h (cut m cs _)=_;rw[zcp cs m _ (by omega)];rfl
 cases e
theorem RepSL.get{fz:BN->Prop}{h:Za}:∀{cs:List SVal} {ds:List DS},RepSL fz h cs ds->∀{i:Nat} {d:DS},ds[i]? = some d->∃c,zo4 cs i=some c/\RepS fz h c d
 | [],[],_,i,d,e=>by simp at e
 |c::cs,d0::ds,H,i,d,e=>by
  cases i with
  |zero=>simp only[Yzf,Option.some.injEq]at e;subst e;exact⟨c,rfl,H.1⟩
  |succ i=>exact RepSL.get H.2 (i:=i) (by simpa using e)
 | [],_::_,H,_,_,_=>H.elim
 |_::_,[],H,_,_,_=>H.elim
theorem zfA(I:Zd E N os)(F:∀i,RepPA N (r i) (ρ i)){a:Operand}{i:Nat} (e:(match pv ρ a with
  |some (.tup l)=>
   match l[i]? with
   |some (.one d)=>k (pd d) os [] []
   |some (.agg ds)=>k (.s (.agg (ds.map .d))) os [] []
   |none=>none
  |some (.tl p l)=>
   match i with
   |0=>k (.s p) os [] []
   |i+1=>
    match l[i]? with
    |some (.one d)=>k (pd d) os [] []
    |some (.agg ds)=>k (.s (.agg (ds.map .d))) os [] []
    |none=>none
  |_=>none)=some x):GoalQ N os r ρ (.extract a i) k x:=by
 split at e
 .rename_i l hx;obtain⟨va,ka,ra⟩:=x4 F hx;cases va with
  |s v=>trivial
  |tup vs=>
   have run:∀c,zo4 vs i=some c->∀call,runK r (.extract a i) call N.h=some (.s c,N.h):=fun c hc call=>by simp only[runK,ka,zx];show (match zo4 vs i with|some v=>some (Zb.s v,N.h)|none=>none)=_;rw[hc]
   split at e
   .rename_i d hd;obtain⟨c,h1,h2⟩:=RepSL.get ra hd;cases c with
    |agg cs=>trivial
    |one c=>exact .quiet I (run _ h1) (ug h2) e (kN ka hx fun N' H=>by obtain⟨c',g1,g2⟩:=RepSL.get (show RepSL N'.fz N'.h vs l from H) hd;rw[h1]at g1;cases g1;trivial)
   .rename_i ds hd;obtain⟨c,h1,h2⟩:=RepSL.get ra hd;cases c with
    |one c=>trivial
    |agg cs=>exact .quiet I (run _ h1) (RepPA.of (v:=.agg _) (p:=.agg _) (RepPL.ofD h2)) e (kN ka hx fun N' H=>by obtain⟨c',g1,g2⟩:=RepSL.get (show RepSL N'.fz N'.h vs l from H) hd;rw[h1]at g1;cases g1;exact RepPA.of (v:=.agg _) (p:=.agg _) (RepPL.ofD g2))
   cases e
 .rename_i p l hx;obtain⟨va,ka,ra⟩:=x4 F hx;cases va with
  |s v=>trivial
  |tup vs=>
   have run:∀c,zo4 vs i=some c->∀call,runK r (.extract a i) call N.h=some (.s c,N.h):=fun c hc call=>by simp only[runK,ka,zx];show (match zo4 vs i with|some v=>some (Zb.s v,N.h)|none=>none)=_;rw[hc]
   cases vs with
   |nil=>trivial
   |cons w vs=>
    split at e
    .exact .quiet I (run w rfl) (RepPA.of ra.1) e (kN ka hx fun N' H=>RepPA.of (show zpZ N' (w::vs) p l from H).1)
    rename_i i;split at e
    .rename_i d hd;obtain⟨c,h1,h2⟩:=RepSL.get ra.2 hd;cases c with
     |agg cs=>trivial
     |one c=>exact .quiet I (run (.one c) h1) (ug h2) e (kN ka hx fun N' H=>by obtain⟨c',g1,g2⟩:=RepSL.get (show zpZ N' (w::vs) p l from H).2 hd;rw[h1]at g1;cases g1;trivial)
    .rename_i ds hd;obtain⟨c,h1,h2⟩:=RepSL.get ra.2 hd;cases c with
     |one c=>trivial
     |agg cs=>exact .quiet I (run (.agg cs) h1) (RepPA.of (v:=.agg _) (p:=.agg _) (RepPL.ofD h2)) e (kN ka hx fun N' H=>by obtain⟨c',g1,g2⟩:=RepSL.get (show zpZ N' (w::vs) p l from H).2 hd;rw[h1]at g1;cases g1;exact RepPA.of (v:=.agg _) (p:=.agg _) (RepPL.ofD g2))
    cases e
 cases e
theorem zlX{w:Zc}{v z:DV}(H:Rep N.fz N.h w v)(e:xl v=some z)(h:Za):∃c,zk1 (.s (.one w)) h=some (.s (.one c),h)/\z.scal=some c:=by
 cases v<;>simp only[xl]at e<;>cases e
 .rw[H.scal rfl];exact⟨_,rfl,rfl⟩
 obtain⟨b,o,off,cap,ex,cs,rfl,_⟩:=H.lst_inv;exact⟨_,rfl,rfl⟩
theorem zqp(I:Zd E N os)(F:∀i,RepPA N (r i) (ρ i)){a:Operand} (e:w1 (pv ρ a) (fun c=>
  match c with
  | .d v=>za (xl v) fun z=>k (pd z) os [] []
  | .own j=>
   match og os j with
   | .arr _ v=>k (pd (.int .i64 (.ofNat (xu v)))) os [] []
   | .frz v=>za (xl v) fun z=>k (pd z) os [] []
   |_=>none
  | .vw _ _ _ len=>k (pd (.int .i64 (.ofNat len))) os [] []
  |_=>none)=some x):GoalQ N os r ρ (.lenL a) k x:=by
 have hh:=uf F e;clear e;obtain⟨c,v,e,ka,ra,pka⟩:=hh;cases c<;>first|cases e|skip
 .rename_i d;simp only at e;have hh:=zh e;clear e;obtain⟨z,hz,e⟩:=hh;obtain⟨w,rfl,hw⟩:=wa ra;obtain⟨c,h1,h2⟩:=zlX hw hz N.h;exact .quiet I (fun call=>by grind[runK,zx]) (yA h2) e
 .rename_i j;simp only at e;obtain⟨c,rfl,hj,hc⟩:=zQ ra;cases ho:og os j with
  |arr st vo=>
   rw[ho]at e;simp only at e;have hO:=I.obj j;rw[ho]at hO;refine .quiet I (fun call=>?_) (yA rfl) e;simp only[runK,ka,zx];rcases vo with _|xs
   .rw[hc,show N.μ j=.nils from hO];rfl
   obtain⟨b,vs,ex,h1,_⟩:=hO;rw[hc,h1];rfl
  |frz d=>rw[ho]at e;simp only at e;have hO:=I.obj j;rw[ho]at hO;have hh:=zh e;clear e;obtain⟨z,hz,e⟩:=hh;obtain⟨c',h1,h2⟩:=zlX (show Rep N.fz N.h (N.μ j) d from hO) hz N.h;exact .quiet I (fun call=>by grind[runK,zx]) (yA h2) e
  |_=>grind
 rename_i j st lo len;simp only at e;obtain⟨c,rfl,hj,hc⟩:=zQ ra;refine .quiet I (fun call=>?_) (yA rfl) e;simp only[runK,ka,zx];rcases hc with⟨_,rfl,_,rfl⟩|⟨b',l,cap,ex,cap',ex',g1,rfl,g2,g3⟩<;>rfl
end
end Go.PE
end
section
namespace Go.PE
open Go Go.CE
def fzN(fz:BN->Prop)(h h':Za):BN->Prop:=fun b=>fz b\/(h.n.toNat<=b.toNat/\b.toNat<h'.n.toNat)
def zqJ(C:Nat->zc)(g:Nat)(args:List DA)(res:DA):Prop:=
 ∀(fz:BN->Prop) (h:Za) (vs:List Zb),HW h->(∀b,fz b->b.toNat<h.n.toNat)->RepAL fz h vs args->
  Ev (fun n=>C n (.inl g) vs h) (fun p=>HW p.2/\Gr h p.2/\RepA (fzN fz h p.2) p.2 p.1 res)
def uW(O:Orc)(C:Nat->zc):Prop:=∀g args res,O g args=some res->zqJ C g args res
theorem jK(vs:List Zc):∀(cs:List Zc) (i:Nat),i+vs.length<=cs.length->putAt vs cs i=some (cs.take i++vs++cs.drop (i+vs.length)):=by
 have ov:∀(vs cs:List Zc),vs.length<=cs.length->over vs cs=some (vs++cs.drop vs.length):=by
  intro vs
  induction vs with
  |nil=>intro cs _;rfl
  |cons v vs ih=>intro cs h;cases cs<;>grind[over,x6]
 intro cs
 induction cs with
 |nil=>intro i h;simp at h;obtain⟨rfl,h2⟩:=h;subst h2;rfl
 |cons c cs ih=>
  intro i h;cases i with
  |zero=>
   show over vs (c::cs)=_
   grind
  |succ i=>
   show x6 c (putAt vs cs i)=_
   grind[x6]
theorem zer:∀(cs:List Zc),j7 cs cs.length=true
 | []=>rfl
 |c::cs=>by show (bif Nat.beq (cs.length+1) 0 then false else j7 cs cs.length)=true;rw[zer cs];rfl
section
variable {β:Type} {C:Nat->zc} {E:En} {lk:Nat->Bool} {N:Nm} {os:List PO} {r:Fr} {ρ:Nat->PA} {k:KT β} {x:β}
theorem zgE(I:Zd E N os)(hlk:∀j,lk j=true->j<os.length)(y:Zf)(o:PO)(c:Zc)(hc:blk c=some N.h.n)
  (ho:∀N',Nx N N'->N'.μ os.length=c->¬N'.fz N.h.n->N'.h.t.get N.h.n=some y->RepO N' os.length o) (hnl:∀m,o≠.lnk m:=by intro m h;cases h):
  ∃N',N'.h=N.h.new y/\N'.μ os.length=c/\N'.n=os.length+1/\Stp E lk N os [] N' (os++[o]):=by
 have G:=Gr.new N.h y;have nx:Nx N ⟨upd N.μ os.length c,os.length+1,N.fz,N.h.new y⟩:=⟨⟨fun _ _ h _=>h,fun b z _ hz=>G.get I.hw hz⟩,by have:=I.len;grind,fun k hk=>by
  have:=I.len;show (if k=os.length then c else N.μ k)=_
  grind⟩
 have muL:upd N.μ os.length c os.length=c:=by show (if os.length=os.length then c else _)=_;simp
 obtain⟨i1,i2,i3⟩:=I.new y o c hc (ho _ nx muL (fun h=>absurd (I.fzlt _ h) (by omega)) (zq _ _ _)) hnl;refine⟨_,rfl,muL,rfl,⟨i1,i2,Bk.gr G,fun j hj=>?_,.app (Nat.le_of_eq I.len)⟩⟩;rw[yI,Yzb (by grind)]
theorem zel(h:Za)(o:Zf)(v:BN->Zc):zcI h o v=some (.s (.one (v h.n)),h.new o):=by rfl
theorem zmj(I:Zd E N os)(hlk:∀j,lk j=true->j<os.length){vs:List Zc}{ps:List PC}(H:RepPL N vs ps){ko:KOp}(run:∀call,runK r ko call N.h=zcI N.h (.cells vs 0) (fun b=>.ptr b 0))
  (e:k (pc (.ptr os.length 0)) (os++[.box ps]) [] []=some x):Goal C E lk N os r ko k x:=by
 obtain⟨N',h1,h2,h3,S⟩:=zgE (lk:=lk) I hlk (.cells vs 0) (.box ps) (.ptr N.h.n 0) rfl fun N' nx hmu hf hg=>⟨_,vs,hmu,hf,hg,H.mono nx⟩;refine⟨_,_,_,_,e,⟨(.s (.one (.ptr N.h.n 0)),N.h.new (.cells vs 0)),⟨N',h1,S.sim (yD (p:=.ptr os.length 0) (c:=.ptr N.h.n 0) ⟨by omega,_,h2,rfl⟩)⟩,0,fun n _=>(run (C n)).trans (zel _ _ _)⟩⟩
theorem zrD(I:Zd E N os)(hlk:∀j,lk j=true->j<os.length){zs:List Zc}(e:za (cDs zs) (fun cs=>k (pc (.ptr os.length 0)) (os++[.box cs]) [] [])=some x):Goal C E lk N os r (.alloc zs) k x:=by obtain⟨ps,h1,e⟩:=zh e;exact zmj I hlk (qX h1) (fun call=>rfl) e
theorem RepPV.cells{v:SVal}{p:PV}(H:RepPV N v p):RepPL N v.cells p.cells:=by
 cases v<;>cases p<;>simp only[RepPV]at H
 .trivial
 exact H
theorem zwX(I:Zd E N os)(F:∀i,RepPA N (r i) (ρ i))(hlk:∀j,lk j=true->j<os.length){a:Operand} (e:(match pv ρ a with
  |some (.s v)=>k (pc (.ptr os.length 0)) (os++[.box v.cells]) [] []
  |_=>none)=some x):Goal C E lk N os r (.box a) k x:=by
 split at e
 .rename_i p hp;obtain⟨v,ka,ra⟩:=x4 F hp;obtain⟨w,rfl,hw⟩:=ra.inv;exact zmj I hlk hw.cells (fun call=>by simp only[runK,ka,zx];rfl) e
 cases e
theorem zbi(F:∀i,RepPA N (r i) (ρ i)):∀{parts:List (Nat×Nat×Operand)} {ps ps':List PC} {cs:List Zc},zfS ρ parts ps=some ps'->RepPL N cs ps->∃l cs',kvp r parts=some l/\zan .nil (cP l) cs=some cs'/\RepPL N cs' ps'
 | [],ps,ps',cs,e,H=>by cases e;exact⟨[],cs,rfl,rfl,H⟩
 |(off,size,a)::rest,ps,ps',cs,e,H=>by
  simp only[zfS]at e;split at e
  .rename_i p hp;obtain⟨v,ka,ra⟩:=x4 F hp;cases hb:(Nat.beq p.cells.length size&&Nat.ble (off+size) ps.length)
   .grind
   rw[hb]at e;simp only[LzC]at hb;have h1:=Lz1 hb.1;have h2:=Lz4 hb.2;simp only[Yza]at e;have hcs:=H.len;obtain⟨w,rfl,hw⟩:=ra.inv;have hw:=hw.cells;have hl:=hw.len;obtain⟨l,cs',k1,k2,k3⟩:=zbi F e (cs:=cs.take off++w.cells++cs.drop (off+size)) (((H.take off).app hw).app (H.drop (off+size)));refine⟨(off,size,.s w)::l,cs',by grind[kvp],?_,k3⟩
   grind[zan,zn,cP,zer,jK]
  cases e
theorem zmf(I:Zd E N os)(F:∀i,RepPA N (r i) (ρ i)){zs:List Zc}{parts:List (Nat×Nat×Operand)}(e:za (cDs zs) (fun cs=>za (zfS ρ parts cs) fun cs=>k (.s (.agg cs)) os [] [])=some x):GoalQ N os r ρ (.build zs parts) k x:=by obtain⟨ps,h1,e⟩:=zh e;obtain⟨ps',h2,e⟩:=zh e;obtain⟨l,cs',k1,k2,k3⟩:=zbi F h2 (qX h1);refine .quiet I (v:=.s (.agg cs')) (fun call=>?_) (RepPA.of (v:=.agg cs') (p:=.agg ps') k3) e;simp only[runK,k1];show zd1 N.h (zan .nil (cP l) zs)=_;rw[k2];rfl
theorem zav(st:Nat):∀(n:Nat) (ds:List DV),(chunks st n ds).length=n
 |0,_=>rfl
 |n+1,ds=>by simp[chunks,zav st n]
theorem zaw(st:Nat):∀(n:Nat) (ds:List DV) (i:Nat) (x:List DV),(chunks st n ds)[i]? = some x->x=(ds.drop (i*st)).take st/\i<n
 |0,_,i,x,e=>by trivial
 |n+1,ds,i,x,e=>by
  cases i with
  |zero=>grind[chunks]
  |succ i=>
   obtain⟨h1,h2⟩:=zaw st n (ds.drop st) i x (by trivial)
   grind[YzE]
theorem zai(I:Zd E N os)(hlk:∀j,lk j=true->j<os.length){st:Nat}{vs:List Zc}{xs:List (List DV)}{ex:Bool}(hl:vs.length=xs.length*st)
  (H:∀(i:Nat) (x:List DV),xs[i]? = some x->x.length=st/\RepL N.fz N.h ((vs.drop (i*st)).take st) x):
  ∃N',N'.h=N.h.new (.cells vs st)/\N'.n=os.length+1/\Stp E lk N os [] N' (os++[.arr st (some xs)])/\RepPA N' (.s (.one (.slc N.h.n 0 xs.length (bif ex then xs.length else 0) ex))) (pc (.own os.length)):=by
 obtain⟨N',h1,h2,h3,S⟩:=zgE (lk:=lk) I hlk (.cells vs st) (.arr st (some xs)) (.slc N.h.n 0 xs.length (bif ex then xs.length else 0) ex) rfl fun N' nx hmu hf hg=>⟨_,vs,ex,hmu,hf,hg,hl,fun i x hx=>⟨(H i x hx).1,(H i x hx).2.mono nx.fg⟩⟩
 exact⟨N',h1,h3,S,yD (p:=.own os.length) ⟨by omega,h2.symm⟩⟩
theorem zo2(I:Zd E N os)(F:∀i,RepPA N (r i) (ρ i))(hlk:∀j,lk j=true->j<os.length){st len:Nat}{zs:List Zc}{parts:List (Nat×Nat×Operand)} (e:za (cDs zs) (fun cs=>za (zfS ρ parts cs) fun cs=>za (frL lk yP os cs) fun p=>
  bif Nat.beq p.2.length (len*st) then k (pc (.own p.1.length)) (p.1++[.arr st (some (chunks st len p.2))]) [] [] else none)=some x):Goal C E lk N os r (.bslice st len zs parts) k x:=by
 obtain⟨ps,h1,e⟩:=zh e;obtain⟨ps',h2,e⟩:=zh e;obtain⟨⟨os1,ds⟩,h3,e⟩:=zh e;obtain⟨l,cs',k1,k2,k3⟩:=zbi F h2 (qX h1);obtain⟨N1,f1,S1,r1⟩:=zi2 I k3 h3;simp only at e;cases hb:Nat.beq ds.length (len*st)
 .grind
 rw[hb]at e;have hd:=Lz1 hb;have hl1:os1.length=os.length:=by rw[<-S1.inv.len,f1.n,I.len]
 have hlc:(chunks st len ds).length=len:=zav st len ds;obtain⟨N2,h4,h5,S2,r2⟩:=zai (lk:=lk) (ex:=true) S1.inv (fun j hj=>by grind) (st:=st) (vs:=cs') (xs:=chunks st len ds) (by rw[r1.1,hd,hlc]) fun i y hy=>by
  obtain⟨q1,q2⟩:=zaw st len ds i y hy;subst q1;refine⟨?_,r1.sub (i*st) st⟩;have:=Yzj st (show i+1<=len from q2)
  grind
 refine⟨_,_,_,_,e,⟨(.s (.one (.slc N.h.n 0 len len true)),N.h.new (.cells cs' st)),⟨N2,by rw[h4,f1.h],?_⟩,0,fun n _=>?_⟩⟩
 .rw[hlc]at r2;rw[f1.h]at r2;exact(S1.trans S2 f1.n).sim r2
 show runK r (.bslice st len zs parts) (C n) N.h=_;simp only[runK,k1];show (match zan .nil (cP l) zs with|some cs=>zcI N.h (.cells cs st) (fun b=>.slc b 0 len len true)|none=>none)=_
 grind[zel]
theorem zlL(I:Zd E N os){j:Nat}(hj:lk j=false){ps qs:List PC}(ho:og os j=.box ps){b:BN}(hb:N.μ j=.ptr b 0){vs ws:List Zc}(_hg:N.h.t.get b=some (.cells vs 0))(hv:RepPL N vs ps)(hw:RepPL N ws qs){off:Nat}(_hl:off+ws.length<=vs.length):
  ∃N',N'.h=N.h.put b (.cells (vs.take off++ws++vs.drop (off+ws.length)) 0)/\Stp E lk N os [j] N' (oset (.box (ps.take off++qs++ps.drop (off+ws.length))) os j):=by
 have hsv:solid (og os j):=by rw[ho];trivial
 have hlv:=hsv.live;have hbk:blk (N.μ j)=some b:=by rw[hb];rfl
 obtain⟨b0,x0,q1,q2,q3⟩:=yZ hlv (I.obj j);rw[hbk]at q1;cases q1;have nx:Nx N ⟨N.μ,N.n,N.fz,N.h.put b (.cells (vs.take off++ws++vs.drop (off+ws.length)) 0)⟩:=⟨⟨fun _ _ h _=>h,fun b' y hf hy=>by grind[xn]⟩,LzB _,fun _ _=>rfl⟩
 obtain⟨i1,i2,i3⟩:=I.put hsv hbk (.cells (vs.take off++ws++vs.drop (off+ws.length)) 0) (.box (ps.take off++qs++ps.drop (off+ws.length)))
  ⟨b,_,hb,q2,wx _ _ _,(((hv.take off).app hw).app (hv.drop (off+ws.length))).mono nx⟩
 exact⟨_,rfl,⟨i1,i2,Bk.put rfl (by rw[I.len];simp_all[wF]) hlv hbk,fun j' hj'=>by rw[zw,Yzb (fun e=>by grind)],.oset (fun _=>by rw[ho];trivial) (fun _=>.inl trivial) (fun _=>by omega)⟩⟩
theorem qd{vs ds:List Zc}{p st i off:Nat}(h:p+ds.length<=vs.length)(hp:p=i*st+off)(hs:off+ds.length<=st)(j:Nat)(hij:j≠i):
  ((vs.take p++ds++vs.drop (p+ds.length)).drop (j*st)).take st=(vs.drop (j*st)).take st:=by
 apply Yya;intro t;rw[YzH,YzH];split
 .rename_i ht;rw[Yzo,Yzo];by_cases hlt:j<i
  .have:=Yzj st (show j+1<=i from hlt);rw[Yz2]at this;rw[Yz0,Lz2 (by simp;omega),YzH,Yzd (by omega)]
  have:=Yzj st (show i+1<=j by omega);rw[Yz2]at this;rw[Lz8 (by simp;omega),Yzo]
  grind
 rfl
theorem zrk(I:Zd E N os){j t i m m0:Nat}{xs:List (List DV)}(hlt:lk t=false)(hoj:og os j=.hol (some xs) i t)(hot:og os t=.lnk m0){b:BN}(hbj:blk (N.μ j)=some b){vs:List Zc}(hg:N.h.t.get b=some (.cells vs 1))(hm:m<N.n):
  ∃N',N'.h=N.h.put b (.cells (vs.take i++[N.μ m]++vs.drop (i+1)) 1)/\Stp E lk N os [j] N' (oset (.lnk m) os t):=by
 have hlv:live (og os j):=by rw[hoj];trivial
 have hO:=I.obj j;rw[hoj]at hO;obtain⟨b',vs',ex,h1,h2,h3,h4,h5,h6,h7,h8⟩:=hO;rw[h1]at hbj;cases hbj;rw[hg]at h3;cases h3;have htl:t<os.length:=wF (by grind);have hjl:j<os.length:=wF (by grind);have hjt:j≠t:=fun e=>by grind
 let X:=vs.take i++[N.μ m]++vs.drop (i+1)
 let N':Nm:=⟨N.μ,N.n,N.fz,N.h.put b (.cells X 1)⟩
 have hXl:X.length=vs.length:=by grind
 have old:∀b' y,N.h.t.get b'=some y->b'≠b->N'.h.t.get b'=some y:=fun b' y hy hne=>by grind[xn]
 have nx:Nx N N':=⟨⟨fun _ _ h _=>h,fun b' y hf hy=>old b' y hy (fun e=>h2 (e▸hf))⟩,LzB _,fun _ _=>rfl⟩;have gt:∀k,k≠t->og (oset (.lnk m) os t) k=og os k:=fun k hk=>by simp_all[zw]
 have lv:∀k,live (og (oset (.lnk m) os t) k)->live (og os k):=fun k hk=>by
  by_cases h:k=t
  .rw[h,zw,Yzd ⟨rfl,htl⟩]at hk;trivial
  grind
 refine⟨N',rfl,⟨⟨HW.put I.hw hg,I.gr.put (I.own j b hlv (by rw[h1];rfl)),I.fzlt,I.fzok,fun b' hb'=>(I.fzex b' hb').imp id fun⟨y,hy⟩=>⟨y,old b' y hy (fun e=>h2 (e▸hb'))⟩,I.len.trans (zX _ os t).symm,
  fun k b' hl hb'=>I.own k b' (lv k hl) hb',fun k k' b' hl hl' hb hb'=>I.inj k k' b' (lv k hl) (lv k' hl') hb hb',fun k=>?_,fun k m' hk=>?_⟩,nx,Bk.put rfl (by rw[I.len];exact hjl) hlv (by rw[h1];rfl),fun j' hj'=>gt j' (fun e=>by grind),.oset (fun h=>h.elim) (fun h=>by rw[hot]at h;trivial) (fun h=>h.elim)⟩⟩
 .by_cases hk:k=t
  .subst hk;rw[zw,Yzd ⟨rfl,htl⟩];refine⟨hm,b,i,X,h7,h2,wx _ _ _,?_⟩
   grind
  rw[gt k hk];by_cases hkj:k=j
  .subst hkj;rw[hoj];refine⟨b,X,ex,h1,h2,wx _ _ _,by omega,h5,h6,h7,fun q x hq hx=>?_⟩;obtain⟨r1,r2⟩:=h8 q x hq hx;refine⟨r1,?_⟩;have:=qd (vs:=vs) (ds:=[N.μ m]) (p:=i) (st:=1) (i:=i) (off:=0) (by simp;omega) (by omega) (by simp) q hq;simp only[List.length_singleton]at this;show RepL _ _ ((X.drop (q*1)).take 1) x;rw[show X=vs.take i++[N.μ m]++vs.drop (i+1) from rfl,this];exact r2.mono nx.fg
  refine (I.obj k).mono nx rfl fun htd b1 hb1=>?_;obtain⟨b2,x2,k1,k2,k3⟩:=xf htd (I.obj k);rw[k1]at hb1;cases hb1;have hne:b1≠b:=fun e=>by
   subst e;rcases htd with hl|⟨m1,hm1⟩
   .exact hkj (I.inj k j b1 hl hlv k1 (by rw[h1];rfl))
   obtain⟨k',v',n',q1,q2⟩:=I.lnk_blk hm1;have:=I.inj k' j b1 (by rw[q1];trivial) hlv (by grind) (by rw[h1];rfl)
   grind
  grind
 by_cases h:k=t
 .grind
 rw[gt k h]at hk;obtain⟨k',v',n',q⟩:=I.lnk k m' hk
 grind
theorem qc{vs ds:List Zc}{p st i off:Nat}(h:p+ds.length<=vs.length)(hp:p=i*st+off)(hs:off+ds.length<=st)(hst:i*st+st<=vs.length):
  ((vs.take p++ds++vs.drop (p+ds.length)).drop (i*st)).take st=((vs.drop (i*st)).take st).take off++ds++((vs.drop (i*st)).take st).drop (off+ds.length):=by
 apply Yya;intro t;subst hp;have e1:(List.take (i*st+off) vs).length=i*st+off:=by simp;omega
 have e2:(((vs.drop (i*st)).take st).take off).length=off:=by simp;omega
 rw[YzH];by_cases ht:t<st
 .rw[Yzd ht,Yzo];by_cases h1:t<off
  .grind
  by_cases h2:t<off+ds.length
  .rw[Yz0,Lz8 (by omega),Lz2 (by omega),Yz0,Lz8 (by omega),Lz2 (by omega)]
   grind
  rw[Lz8 (by simp;omega),Yzo,Lz8 (by simp;omega),Yzo,YzH,Yzd (by simp;omega),Yzo]
  grind
 grind
theorem zrz(I:Zd E N os)(F:∀i,RepPA N (r i) (ρ i)){n:Nat}{a b:Operand} (e:w1 (pv ρ a) (fun c=>
  match pv ρ b with
  |some (.s v)=>zlV lk os n c v k
  |_=>none)=some x):Goal C E lk N os r (.store n a b) k x:=by
 have hh:=uf F e;clear e;obtain⟨c,v,e,ka,ra,pka⟩:=hh;split at e
 case h_2=>cases e
 rename_i p hp;obtain⟨vb,kb,rb⟩:=x4 F hp;obtain⟨w,rfl,hw⟩:=rb.inv;have hw:=hw.cells;unfold zlV at e;cases hn:Nat.beq p.cells.length n
 .grind
 rw[hn]at e;have hn:=Lz1 hn;have hwl:=hw.len;have hls:j7 w.cells n=true:=by grind[zer]
 simp only[Yza]at e;cases c<;>first|cases e|skip
 .rename_i j off;simp only at e;obtain⟨cv,rfl,hjn,bb,hb,rfl⟩:=zQ ra;cases ho:og os j with
  |box ps=>
   rw[ho]at e;simp only at e;cases hlj:lk j
   case true=>grind
   rw[hlj]at e;simp only[Yzc]at e;cases hbd:Nat.ble (off+n) ps.length
   .grind
   rw[hbd]at e;have hbd:=Lz4 hbd;obtain⟨b',cs,h1,h2,h3,h4⟩:=uR I ho;rw[hb]at h1;cases h1;have hcl:=h4.len;obtain⟨N',q1,q2⟩:=zlL I hlj ho hb h3 h4 hw (off:=off) (by omega);rw[show off+w.cells.length=off+n by omega]at q2;refine⟨_,_,_,_,e,⟨(zP,_),⟨N',q1,q2.sim (.bad _)⟩,0,fun m _=>?_⟩⟩;show runK r (.store n a b) (C m) N.h=_;simp only[runK,ka,kb,zx];show storeAt n N.h bb off w.cells (N.h.t.get bb)=_;rw[h3];simp only[storeAt,hls,Yza];rw[jK w.cells cs off (by omega)];rfl
  |_=>grind
 rotate_left
 .rename_i j f0 len st i o;simp only at e;generalize hoff:f0+i*st+o=off at e;obtain⟨cv,rfl,hjn,bb,hb,hcv,_⟩:=zQ ra;rw[hoff]at hcv;subst hcv;cases ho:og os j with
  |box ps=>
   rw[ho]at e;simp only at e;cases hlj:lk j
   case true=>grind
   rw[hlj]at e;simp only[Yzc]at e;cases hbd:Nat.ble (off+n) ps.length
   .grind
   rw[hbd]at e;have hbd:=Lz4 hbd;obtain⟨b',cs,h1,h2,h3,h4⟩:=uR I ho;rw[hb]at h1;cases h1;have hcl:=h4.len;obtain⟨N',q1,q2⟩:=zlL I hlj ho hb h3 h4 hw (off:=off) (by omega);rw[show off+w.cells.length=off+n by omega]at q2;refine⟨_,_,_,_,e,⟨(zP,_),⟨N',q1,q2.sim (.bad _)⟩,0,fun m _=>?_⟩⟩;show runK r (.store n a b) (C m) N.h=_;simp only[runK,ka,kb,zx];show storeAt n N.h bb off w.cells (N.h.t.get bb)=_;rw[h3];simp only[storeAt,hls,Yza];rw[jK w.cells cs off (by omega)];rfl
  |_=>grind
 rename_i j st i off;simp only at e;split at e
 .rename_i vo i' t hoj;cases p with
  |agg ps=>cases e
  |one pc0=>
  obtain⟨m,rfl⟩:∃m,pc0=.own m:=by grind
  simp only at e;cases ht:og os t with
  |lnk m0=>
   rw[ht]at e;simp only at e;cases hlt:lk t
   case true=>grind
   rw[hlt]at e;simp only[Yzc]at e;cases hs:(Nat.beq st 1&&Nat.beq off 0)
   .grind
   rw[hs]at e;rw[LzC]at hs;have e1:=Lz1 hs.1;have e2:=Lz1 hs.2;subst e1 e2;simp only[Yza]at e;cases hi:Nat.beq i i'
   .rw[hi]at e;cases e
   rw[hi]at e;have:=Lz1 hi;subst this;obtain⟨cv,rfl,hjn,bb,l0,cap0,ex0,hb,rfl,hil⟩:=zQ ra;rcases vo with _|xs
   .have:=I.obj j;rw[hoj]at this;trivial
   have hO:=I.obj j;rw[hoj]at hO;obtain⟨b',vs,ex,h1,h2,h3,h4,h5,h6,h7,h8⟩:=hO;rw[hb]at h1;cases h1;cases w with
   |agg ws=>trivial
   |one wc=>
   have hwc:m<N.n/\wc=N.μ m:=hw.1;obtain⟨hm,rfl⟩:=hwc;obtain⟨N',q1,q2⟩:=zrk (lk:=lk) I hlt hoj ht (b:=bb) (by rw[hb];rfl) h3 hm;refine⟨_,_,_,_,e,⟨(zP,_),⟨N',q1,q2.sim (.bad _)⟩,0,fun m' _=>?_⟩⟩;show runK r (.store n a b) (C m') N.h=_;simp only[runK,ka,kb,zx];show storeAt n N.h bb (i*1+0) [N.μ m] (N.h.t.get bb)=_;rw[h3,show i*1+0=i by omega];simp only[storeAt];rw[show (SVal.one (N.μ m)).cells=[N.μ m] from rfl]at hls;simp only[hls,Yza];rw[jK [N.μ m] vs i (by simp;omega)];rfl
  |_=>grind
 cases hlj:lk j
 case true=>grind
 rw[hlj]at e;simp only[Yzc]at e;have hh:=zh e;clear e;obtain⟨⟨os1,ds⟩,hf,e⟩:=hh;obtain⟨N1,f1,S1,r1⟩:=zi2 I hw hf;simp only at e;obtain⟨cv,rfl,hjn,bb,l0,cap0,ex0,hb,rfl,hil⟩:=zQ ra;cases ho:og os1 j with
 |arr st' vo=>
  rw[ho]at e;simp only at e;cases hs:Nat.beq st st'
  .grind
  rw[hs]at e;have:=Lz1 hs;subst this;simp only[Yza]at e;have hh:=zh e;clear e;obtain⟨vo',hvo,e⟩:=hh;rcases vo with _|xs
  .cases hvo
  simp only[uV]at hvo;rcases hy:xs[i]? with _|y
  .grind
  rw[hy]at hvo;simp only at hvo;cases hbd:Nat.ble (off+ds.length) st
  .grind
  rw[hbd]at hvo;cases hvo;have hbd:=Lz4 hbd;obtain⟨b',vs,ex,h1,h2,h3,h4,h5⟩:=kZ S1.inv ho;have hmu:N1.μ j=N.μ j:=by rw[f1.μ]
  rw[hmu,hb]at h1;cases h1;have hi:=(Lz0.1 hy).1;have hil2:=Yzj st (show i+1<=xs.length from hi);rw[Yz2]at hil2;have hwd:w.cells.length=ds.length:=r1.1;have hp2:i*st+off+w.cells.length<=vs.length:=by omega
  have hsv:solid (og os1 j):=by rw[ho];trivial
  have hlv:=hsv.live;have hbk:blk (N1.μ j)=some bb:=by rw[hmu,hb];rfl
  have hjl:j<os1.length:=wF (by grind)
  let X:=vs.take (i*st+off)++w.cells++vs.drop (i*st+off+w.cells.length)
  have fg:FG N1.fz N1.h N1.fz (N1.h.put bb (.cells X st)):=⟨fun _ _ h _=>h,fun b2 z hf2 hz=>by grind[xn]⟩
  obtain⟨i1,i2,i3⟩:=S1.inv.put hsv hbk (.cells X st) (.arr st (some (xs.set i (y.take off++ds++y.drop (off+ds.length)))))
   ⟨bb, X, _, by rw [Yzs]; exact hmu.trans hb, h2, wx _ _ _, by grind, fun t z hz => by
    rw[List.getElem?_set]at hz;by_cases ht:i=t
    .subst ht;rw[Yzd rfl,Yzd hi]at hz;cases hz;obtain⟨g1,g2⟩:=h5 i y hy;refine⟨by grind,?_⟩;show RepL _ _ ((X.drop (i*st)).take st) _;rw[qc hp2 rfl (by omega) (by omega)];rw[hwd];have:=(g2.mono fg).set (r1.mono fg) off
     grind
    rw[Yzb ht]at hz;obtain⟨g1,g2⟩:=h5 t z hz;refine⟨g1,?_⟩;show RepL _ _ ((X.drop (t*st)).take st) _;rw[qd hp2 rfl (by omega) t (fun e=>ht e.symm)];exact g2.mono fg⟩
  have S2:Stp E lk N1 os1 [j] ⟨N1.μ,N1.n,N1.fz,N1.h.put bb (.cells X st)⟩ _:=⟨i1,i2,Bk.put rfl (by rw[S1.inv.len];exact hjl) hlv hbk,fun j' hj'=>by rw[zw,Yzb (fun e=>by grind)],.oset (fun _=>by rw[ho];trivial) (fun _=>.inl trivial) (fun _=>by omega)⟩
  refine⟨_,_,_,_,e,⟨(zP,N.h.put bb (.cells X st)),⟨_,by rw[<-f1.h],(S1.trans S2 f1.n).sim (.bad _)⟩,0,fun m _=>?_⟩⟩;show runK r (.store n a b) (C m) N.h=_;simp only[runK,ka,kb,zx];show storeAt n N.h bb (i*st+off) w.cells (N.h.t.get bb)=_;rw[f1.h]at h3;rw[h3];simp only[storeAt,hls,Yza];rw[jK w.cells vs _ hp2];rfl
 |_=>grind
end
end Go.PE
end
section
namespace Go.PE
open Go Go.CE
section
variable {β:Type} {C:Nat->zc} {E:En} {lk:Nat->Bool} {N:Nm} {os:List PO} {r:Fr} {ρ:Nat->PA} {k:KT β} {x:β}
theorem zrA(I:Zd E N os)(hlk:∀j,lk j=true->j<os.length){st:Nat}(e:k (pc (.own os.length)) (os++[.mp st []]) [] []=some x):Goal C E lk N os r (.mkmap st) k x:=by obtain⟨N',h1,h2,h3,S⟩:=zgE (lk:=lk) I hlk (.map []) (.mp st []) (.map N.h.n) rfl fun N' nx hmu hf hg=>⟨_,[],hmu,hf,hg,rfl,fun i e x he=>by simp at he⟩;refine⟨_,_,_,_,e,⟨(.s (.one (.map N.h.n)),N.h.new (.map [])),⟨N',h1,S.sim (yD (p:=.own os.length) (c:=.map N.h.n) ⟨by omega,h2.symm⟩)⟩,0,fun n _=>?_⟩⟩;rfl
theorem zhD{v:SVal}{p:PV}{d:DS}(H:RepPV N v p)(e:zvl p=some d):RepS N.fz N.h v d:=by
 cases p with
 |one c=>
  cases v with
  |agg cs=>trivial
  |one y=>
   cases c<;>first|(cases e;done)|skip
   cases e;exact H
 |agg cs=>
  cases v with
  |one y=>trivial
  |agg ys=>
   simp only[zvl]at e;rcases h:zkP cs with _|l
   .grind
   rw[h]at e;cases e;exact zaD h H
theorem ztr{z:SVal}{d:DS}(e:zDs z=some d):RepS N.fz N.h z d:=by
 unfold zDs at e;rcases h:pvS z with _|p
 .grind
 rw[h]at e;exact zhD (zlJ h) e
theorem zeO{q:Nat⊕List Nat}{a b:SVal}{v w:DS}{p:Bool}{fz:BN->Prop}{h:Za}(ha:RepS fz h a v)(hb:RepS fz h b w)(e:zgz q v w=some p):eqS q a b=some p:=by
 cases q<;>cases v<;>cases w<;>first|(cases e;done)|skip
 .cases a<;>first|exact ha.elim|skip
  cases b<;>first|exact hb.elim|skip
  exact zng ha hb e
 cases a<;>first|exact ha.elim|skip
 cases b<;>first|exact hb.elim|skip
 exact zhA ha hb e
def RepE(fz:BN->Prop)(h:Za)(st:Nat)(es:List (SVal×SVal))(xs:List (List DV)):Prop:=
 es.length=xs.length/\∀(i:Nat) (e:SVal×SVal) (x:List DV),es[i]? = some e->xs[i]? = some x->RepS fz h e.1 (kD st x)/\RepS fz h e.2 (vD st x)
theorem RepE.inv{fz:BN->Prop}{h:Za}{st:Nat}{e:SVal×SVal}{es:List (SVal×SVal)}{x:List DV}{xs:List (List DV)}(H:RepE fz h st (e::es) (x::xs)):RepS fz h e.1 (kD st x)/\RepS fz h e.2 (vD st x)/\RepE fz h st es xs:=
 ⟨(H.2 0 e x rfl rfl).1,(H.2 0 e x rfl rfl).2,by have:=H.1;grind,fun i e' x' he hx=>H.2 (i+1) e' x' (by trivial) (by trivial)⟩
theorem RepE.cons{fz:BN->Prop}{h:Za}{st:Nat}{e:SVal×SVal}{es:List (SVal×SVal)}{x:List DV}{xs:List (List DV)}(h1:RepS fz h e.1 (kD st x))(h2:RepS fz h e.2 (vD st x))(H:RepE fz h st es xs):RepE fz h st (e::es) (x::xs):=
 ⟨by simp [H.1], fun i e' x' he hx => by
  cases i with
  |zero=>grind
  |succ i=>exact H.2 i e' x' (by trivial) (by trivial)⟩
theorem RepE.nil{fz:BN->Prop}{h:Za}{st:Nat}:RepE fz h st [] []:=⟨rfl,fun i e x he=>by simp at he⟩
theorem RepE.ne{fz:BN->Prop}{h:Za}{st:Nat}{es:List (SVal×SVal)}{xs:List (List DV)}(H:RepE fz h st es xs):(es=[]/\xs=[])\/∃e es' x xs',es=e::es'/\xs=x::xs':=by
 cases es with
 |nil=>cases xs with
  |nil=>simp
  |cons x xs=>have:=H.1;trivial
 |cons e es=>cases xs with
  |nil=>have:=H.1;trivial
  |cons x xs=>simp
def zyW(fz:BN->Prop)(h:Za):Option SVal->Option DS->Prop
 |none,none=>True
 |some v,some d=>RepS fz h v d
 |_,_=>False
theorem zi8{fz:BN->Prop}{h:Za}{q:Nat⊕List Nat}{st:Nat}{key:SVal}{kd:DS}(hk:RepS fz h key kd):∀{xs:List (List DV)} {es:List (SVal×SVal)} {d:Option DS},RepE fz h st es xs->zeI q st kd xs=some d->
  ∃v,js q key es=some v/\zyW fz h v d/\∀y,d=some y->∃x,y=vD st x
 | [],es,d,H,e=>by
  rcases H.ne with⟨rfl,_⟩|⟨_,_,_,_,_,h2⟩
  .cases e;exact⟨none,rfl,trivial,fun y h=>by cases h⟩
  cases h2
 |x::xs,es,d,H,e=>by
  rcases H.ne with⟨_,h2⟩|⟨e0,es',x',xs',rfl,h2⟩
  .cases h2
  cases h2;obtain⟨h1,h2,h3⟩:=H.inv;simp only[zeI]at e;obtain⟨k0,v0⟩:=e0;rcases hq:zgz q kd (kD st x) with _|b
  .grind
  rw[hq]at e;have hq':=zeO hk h1 hq;cases b
  .obtain⟨v,g1,g2⟩:=zi8 hk h3 e
   grind[js]
  cases e;exact⟨some v0,by grind[js],h2,fun y h=>by grind⟩
theorem zlM{fz:BN->Prop}{h:Za}{q:Nat⊕List Nat}{st:Nat}{key val:SVal}{kd:DS}{row:List DV}(hk:RepS fz h key kd)(h1:RepS fz h key (kD st row))(h2:RepS fz h val (vD st row)):∀{xs ys:List (List DV)} {es:List (SVal×SVal)},RepE fz h st es xs->zn7 q st kd row xs=some ys->
  ∃es',zcL q key val es=some es'/\RepE fz h st es' ys
 | [],ys,es,H,e=>by
  rcases H.ne with⟨rfl,_⟩|⟨_,_,_,_,_,h2⟩
  .cases e;exact⟨_,rfl,.cons h1 h2 .nil⟩
  cases h2
 |x::xs,ys,es,H,e=>by
  rcases H.ne with⟨_,h2⟩|⟨e0,es',x',xs',rfl,hh⟩
  .cases h2
  cases hh;obtain⟨g1,g2,g3⟩:=H.inv;simp only[zn7]at e;obtain⟨k0,v0⟩:=e0;rcases hq:zgz q kd (kD st x) with _|b
  .grind
  rw[hq]at e;have hq':=zeO hk g1 hq;cases b
  .simp only at e;rcases hp:zn7 q st kd row xs with _|l
   .grind
   rw[hp]at e;cases e;obtain⟨es2,k1,k2⟩:=zlM hk h1 h2 g3 hp;exact⟨(k0,v0)::es2,by grind[zcL,x6],.cons g1 g2 k2⟩
  cases e;exact⟨(key,val)::es',by grind[zcL],.cons h1 h2 g3⟩
theorem zmk(I:Zd E N os){j st:Nat}{xs:List (List DV)}(ho:og os j=.mp st xs):∃b es,N.μ j=.map b/\¬N.fz b/\N.h.t.get b=some (.map es)/\RepE N.fz N.h st es xs:=by have:=I.obj j;rw[ho]at this;trivial
theorem zhw{a b:Option Nat}(h:zsI a b=true):a=b:=by
 cases a<;>cases b<;>first|rfl|(cases h;done)|skip
 rw[Lz1 h]
theorem zm5(x:List DV):∀n i,(exp x n i).length=n
 |0,_=>rfl
 |n+1,i=>by simp[exp,zm5 x n]
theorem zhV(a b:List DV):∀i,atD (a++b) (a.length+i)=atD b i:=by
 induction a with
 |nil=>simp
 |cons x a ih=>intro i;show atD (x::(a++b)) (a.length+1+i)=_;rw[show a.length+1+i=(a.length+i)+1 by omega];show atD (a++b) (a.length+i)=_;exact ih i
theorem zm6(a b:List DV):∀n i,exp (a++b) n (a.length+i)=exp b n i
 |0,_=>rfl
 |n+1,i=>by
  have:=zm6 a b n (i+1)
  grind[exp,zhV]
theorem zeJ(a b:List DV):exp (a++b) a.length 0=a:=by
 have key:∀(a p b:List DV),exp (p++(a++b)) a.length p.length=a:=by
  intro a
  induction a with
  |nil=>intro p b;rfl
  |cons x a ih=>intro p b;have h:=ih (p++[x]) b;have h0:=zhV p (x::(a++b)) 0;show atD (p++(x::(a++b))) p.length::exp (p++(x::(a++b))) a.length (p.length+1)=_;rw[Yzy]at h0;rw[h0];rw[Yz3,Yz0]at h;exact congrArg _ h
 exact key a [] b
theorem zwP{st:Nat}{kd vd:DS}(h:shK st=zgA kd):kD st (kd.cells++vd.cells)=kd:=by
 unfold kD;rw[h];cases kd with
 |one d=>rfl
 |agg l=>show DS.agg (exp (l++vd.cells) l.length 0)=_;rw[zeJ]
theorem zwO{st:Nat}{kd vd:DS}(h:shK st=zgA kd)(h2:shV st=zgA vd):vD st (kd.cells++vd.cells)=vd:=by
 unfold vD;rw[h,h2];have hk:ztJ (zgA kd)=kd.cells.length:=by cases kd<;>rfl
 rw[hk];cases vd with
 |one d=>show DS.one (atD (kd.cells++[d]) (kd.cells.length+0))=_;rw[zhV];rfl
 |agg l=>
  have:=zm6 kd.cells l l.length 0;have h2:=zeJ l [];rw[List.append_nil]at h2;show DS.agg (exp (kd.cells++l) l.length (kd.cells.length+0))=_
  grind
theorem zwn(st:Nat)(x:List DV):zgA (vD st x)=shV st:=by
 unfold vD;rcases shV st with _|n
 .rfl
 show some (exp x n _).length=_;rw[zm5]
theorem look_ok(_:Zd E N os){z:SVal}{zd:DS}{ok:Bool}{v:Option SVal}{d:Option DS}(hz:RepS N.fz N.h z zd)(hv:zyW N.fz N.h v d)(hs:∀y,d=some y->zgA y=zgA zd)(e:zpj zd ok d os k=some x):
  ∃a,k a os [] []=some x/\RepPA N (bif ok then .tup [v.getD z,.one (.bool v.isSome)] else .s (v.getD z)) a:=by
 have hd:RepS N.fz N.h (v.getD z) (lkD zd d):=by
  cases v<;>cases d<;>first|exact hv.elim|skip
  .exact hz
  exact hv
 have hi:d.isSome=v.isSome:=by cases v<;>cases d<;>first|exact hv.elim|rfl
 have hsh:zgA (lkD zd d)=zgA zd:=by
  rcases d with _|y
  .rfl
  exact hs y rfl
 have hb:RepS N.fz N.h (.one (.bool v.isSome)) (.one (.bool d.isSome)):=by rw[hi];exact Rep.bool _
 generalize hg:lkD zd d=g at hd hsh e;unfold zpj at e;rw[hg]at e;cases zd with
 |one z0=>
  cases g with
  |agg l=>cases hsh
  |one g=>
   cases ok
   case true=>exact⟨_,e,show RepSL N.fz N.h [v.getD z,.one (.bool v.isSome)] [.one g,.one (.bool d.isSome)] from⟨hd,hb,trivial⟩⟩
   refine⟨_,e,?_⟩;show RepPA N (.s (v.getD z)) (pd g);generalize v.getD z=w at hd;cases w with
   |agg cs=>trivial
   |one c=>trivial
 |agg l=>
  cases g with
  |one g=>cases hsh
  |agg m=>
   have hm:m.length=l.length:=by grind[zgA]
   have he:exp m l.length 0=m:=by
    have:=zeJ m []
    grind
   simp only[dsA,he]at e;cases ok
   case true=>exact⟨_,e,show RepSL N.fz N.h [v.getD z,.one (.bool v.isSome)] [.agg m,.one (.bool d.isSome)] from⟨hd,hb,trivial⟩⟩
   refine⟨_,e,?_⟩;show RepPA N (.s (v.getD z)) (.s (.agg (m.map .d)));generalize v.getD z=w at hd;cases w with
   |one c=>trivial
   |agg cs=>exact RepPA.of (v:=.agg cs) (p:=.agg (m.map .d)) (RepPL.ofD hd)
theorem zo1(I:Zd E N os)(F:∀i,RepPA N (r i) (ρ i)){q:Nat⊕List Nat}{z:SVal}{ok:Bool}{a b:Operand} (e:w1 (pv ρ a) (fun c=>
  match pv ρ b with
  |some (.s kp)=>zgZ os q z ok c kp k
  |_=>none)=some x):Goal C E lk N os r (.lookup q z ok a b) k x:=by
 have hh:=uf F e;clear e;obtain⟨c,v,e,ka,ra,pka⟩:=hh;split at e
 case h_2=>cases e
 rename_i p hp;obtain⟨vb,kb,rb⟩:=x4 F hp;obtain⟨w,rfl,hw⟩:=rb.inv;unfold zgZ at e;have hh:=zh e;clear e;obtain⟨kd,hkd,e⟩:=hh;have hh:=zh e;clear e;obtain⟨zd,hzd,e⟩:=hh;have hh:=zh e;clear e;obtain⟨pp,hpp,e⟩:=hh;have hk:=zhD hw hkd;have hz:=ztr (N:=N) hzd;have hself:(eqS q w w).isNone=false:=by grind[zeO]
 cases c<;>first|(cases e;done)|skip
 .rename_i dv;cases dv<;>first|(cases e;done)|skip
  simp only at e;have hv:v=.s (.one .nilm):=z7 ra (c:=.nilm) rfl;subst hv;obtain⟨a',e1,e2⟩:=look_ok I (v:=none) (d:=none) hz trivial (fun y h=>by cases h) e;refine .quiet I (fun call=>?_) e2 e1;simp only[runK,ka,kb,zx];show (bif (eqS q w w).isNone then none else _)=_;rw[hself];rfl
 rename_i j;simp only at e;obtain⟨c,rfl,hj,rfl⟩:=zQ ra;cases ho:og os j with
 |mp st xs=>
  rw[ho]at e;simp only at e;cases hs:zsI (shV st) (zgA zd)
  .grind
  rw[hs]at e;have hh:=zh e;clear e;obtain⟨d,hd,e⟩:=hh;obtain⟨bb,es,g1,g2,g3,g4⟩:=zmk I ho;obtain⟨vv,f1,f2,f3⟩:=zi8 hk g4 hd;obtain⟨a',e1,e2⟩:=look_ok I hz f2 (fun y h=>by obtain⟨x,rfl⟩:=f3 y h;grind[zwn,zhw]) e;refine .quiet I (fun call=>?_) e2 e1;simp only[runK,ka,kb,zx];rw[g1];show (match mapOf N.h (.s (.one (.map bb))),Zb.s w with
   |some es,.s k=>bif (eqS q k k).isNone then none else match js q k es with|some r=>some (bif ok then Zb.tup [r.getD z,.one (.bool r.isSome)] else Zb.s (r.getD z),N.h)|none=>none
   |_,_=>none)=_
  simp only[mapOf,g3,hself,Yzc,f1]
 |_=>grind
theorem zuq(I:Zd E N os)(F:∀i,RepPA N (r i) (ρ i)){a:Operand} (e:w1 (pv ρ a) (fun c=>
  match c with
  | .own j=>
   match og os j with
   | .mp _ xs=>k (pd (.int .i64 (.ofNat xs.length))) os [] []
   |_=>none
  | .d .nilm=>k (pd (.int .i64 (.ofNat 0))) os [] []
  |_=>none)=some x):Goal C E lk N os r (.lenM a) k x:=by
 have hh:=uf F e;clear e;obtain⟨c,v,e,ka,ra,pka⟩:=hh;cases c<;>first|(cases e;done)|skip
 .rename_i dv;cases dv<;>first|(cases e;done)|skip
  have hv:v=.s (.one .nilm):=z7 ra (c:=.nilm) rfl;subst hv;exact .quiet I (fun call=>by simp only[runK,ka,zx];rfl) (yA rfl) e
 rename_i j;simp only at e;obtain⟨c,rfl,hj,rfl⟩:=zQ ra;cases ho:og os j with
 |mp st xs=>rw[ho]at e;simp only at e;obtain⟨bb,es,g1,g2,g3,g4⟩:=zmk I ho;refine .quiet I (v:=.s (.one (.int .i64 (.ofNat xs.length)))) (fun call=>?_) (yA rfl) e;simp only[runK,ka,zx];rw[g1];show (match N.h.t.get bb with|some (.map es)=>some (Zb.s (.one (.int .i64 (.ofNat es.length))),N.h)|_=>none)=_;rw[g3,<-g4.1]
 |_=>grind
theorem zuo(I:Zd E N os)(F:∀i,RepPA N (r i) (ρ i)){q:Nat⊕List Nat}{a b c:Operand} (e:w1 (pv ρ a) (fun m=>
  match pv ρ b,pv ρ c with
  |some (.s kp),some (.s vp)=>zrq lk os q m kp vp k
  |_,_=>none)=some x):Goal C E lk N os r (.mupd q a b c) k x:=by
 have hh:=uf F e;clear e;obtain⟨m,v,e,ka,ra,pka⟩:=hh;split at e
 case h_2=>cases e
 rename_i p vp hp hvp;obtain⟨vb,kb,rb⟩:=x4 F hp;obtain⟨w,rfl,hw⟩:=rb.inv;obtain⟨vc,kc,rc⟩:=x4 F hvp;obtain⟨u,rfl,hu⟩:=rc.inv;unfold zrq at e;have hh:=zh e;clear e;obtain⟨kd,hkd,e⟩:=hh;have hh:=zh e;clear e;obtain⟨⟨os1,vd⟩,hvd,e⟩:=hh;have hh:=zh e;clear e;obtain⟨pp,hpp,e⟩:=hh;have hk:=zhD hw hkd;have hself:(eqS q w w).isNone=false:=by grind[zeO]
 obtain⟨N1,f1,S1,r1⟩:=zfR I hu hvd;have hk1:RepS N1.fz N1.h w kd:=hk.mono S1.nx.fg;cases m<;>first|(cases e;done)|skip
 rename_i j;simp only at e;obtain⟨cm,rfl,hj,rfl⟩:=zQ ra;cases ho:og os1 j with
 |mp st xs=>
  rw[ho]at e;simp only at e;cases hlj:lk j
  case true=>grind
  rw[hlj]at e;simp only[Yzc]at e;cases hs:(zsI (shK st) (zgA kd)&&zsI (shV st) (zgA vd))
  .grind
  rw[hs]at e;rw[LzC]at hs;have s1:=zhw hs.1;have s2:=zhw hs.2;simp only[Yza]at e;have hh:=zh e;clear e;obtain⟨ys,hys,e⟩:=hh;obtain⟨bb,es,g1,g2,g3,g4⟩:=zmk S1.inv ho;obtain⟨es',q1,q2⟩:=zlM hk1 (val:=u) (by grind[zwP]) (by grind[zwO]) g4 hys;have hmu:N1.μ j=N.μ j:=by rw[f1.μ]
  have hlv:live (og os1 j):=by rw[ho];trivial
  have hbk:blk (N1.μ j)=some bb:=by rw[g1];rfl
  have hjl:j<os1.length:=wF (by grind);have fg:FG N1.fz N1.h N1.fz (N1.h.put bb (.map es')):=⟨fun _ _ h _=>h,fun b2 z hf2 hz=>by grind[xn]⟩
  obtain⟨i1,i2,i3⟩:=S1.inv.put (by rw[ho];trivial) hbk (.map es') (.mp st ys)
   ⟨bb,es',g1,g2,wx _ _ _,q2.1,fun i e x he hx=>⟨(q2.2 i e x he hx).1.mono fg,(q2.2 i e x he hx).2.mono fg⟩⟩
  have S2:Stp E lk N1 os1 [j] ⟨N1.μ,N1.n,N1.fz,N1.h.put bb (.map es')⟩ _:=⟨i1,i2,Bk.put rfl (by rw[S1.inv.len];exact hjl) hlv hbk,fun j' hj'=>by rw[zw,Yzb (fun e=>by grind)],.oset (fun _=>by rw[ho];trivial) (fun _=>.inl trivial) (fun _=>by omega)⟩
  refine⟨_,_,_,_,e,⟨(zP,N.h.put bb (.map es')),⟨_,by rw[<-f1.h],(S1.trans S2 f1.n).sim (.bad _)⟩,0,fun n _=>?_⟩⟩;show runK r (.mupd q a b c) (C n) N.h=_;simp only[runK,ka,kb,kc,zx];rw[<-hmu,g1];rw[f1.h]at g3;show (bif (eqS q w w).isNone then none else match N.h.t.get bb with
   |some (.map es)=>match zcL q w u es with|some es'=>some (zP,N.h.put bb (.map es'))|none=>none
   |_=>none)=_
  grind
 |_=>grind
end
end Go.PE
end
section
namespace Go.PE
open Go Go.CE
section
variable {β:Type} {C:Nat->zc} {E:En} {lk:Nat->Bool} {N:Nm} {os:List PO} {r:Fr} {ρ:Nat->PA} {k:KT β} {x:β}
theorem zlN:∀(l:List (BN×Nat)),zlO .nil (cL (l.map fun(p:BN×Nat)=>Zb.s (.one (.ptr p.1 p.2))))=some l
 | []=>rfl
 |p::l=>by show (match (zn (.s (.one (.ptr p.1 p.2))):Opd) .nil with | .s (.one (.ptr b off))=>x6 (b,off) (zlO .nil (cL (l.map fun(p:BN×Nat)=>Zb.s (.one (.ptr p.1 p.2)))))|_=>none)=_;simp only[zn,zlN l,x6]
theorem zeY(F:∀i,RepPA N (r i) (ρ i)):∀{xs:List Operand} {l:List (Nat⊕List DV)},znw ρ xs=some l->∃ps:List (BN×Nat),kvs r xs=some (ps.map fun(p:BN×Nat)=>Zb.s (.one (.ptr p.1 p.2)))/\RepCaps N ps l
 | [],l,e=>by cases e;exact⟨[],rfl,trivial⟩
 |a::xs,l,e=>by
  simp only[znw]at e;split at e
  .rename_i j l' h1 h2;cases e;obtain⟨v,ka,ra⟩:=x4 F h1;obtain⟨ps,k1,k2⟩:=zeY F h2;obtain⟨w,rfl,hj,b,hb,rfl⟩:=zQ ra;exact⟨(b,0)::ps,by grind[kvs],⟨hj,hb,rfl⟩,k2⟩
  .rename_i y l' h1 h2;cases e;obtain⟨v,ka,ra⟩:=x4 F h1;obtain⟨ps,k1,k2⟩:=zeY F h2;obtain⟨w,rfl,hw⟩:=wa ra;have hw':=hw;obtain⟨b,o,base,cs,rfl,_⟩:=hw.fp_inv;exact⟨(b,base+0)::ps,by grind[kvs],hw',k2⟩
  cases e
theorem zqm(I:Zd E N os)(F:∀i,RepPA N (r i) (ρ i)){f:Nat}{caps:List Operand} (e:za (znw ρ caps) (fun l=>
  match l with
  | []=>k (pd (.fn f [])) os [] []
  |x::l=>k (pc (.clo f (x::l))) os [] [])=some x):GoalQ N os r ρ (.mkfn f caps) k x:=by
 have hh:=zh e;clear e;obtain⟨l,hl,e⟩:=hh;obtain⟨ps,k1,k2⟩:=zeY F hl;have run:∀call,runK r (.mkfn f caps) call N.h=some (.s (.one (.fn f ps)),N.h):=fun call=>by simp only[runK,k1];show (match zlO .nil (cL (ps.map fun(p:BN×Nat)=>Zb.s (.one (.ptr p.1 p.2)))) with|some l=>some (Zb.s (.one (.fn f l)),N.h)|none=>none)=_;rw[zlN]
 cases l with
 |nil=>
  cases ps with
  |nil=>exact .quiet I run (ug (.fn_mk (.nil _ _))) e
  |cons p ps=>trivial
 |cons a l=>exact .quiet I run (yD (p:=.clo f (a::l)) ⟨ps,rfl,k2⟩) e
theorem ziL{fz:BN->Prop}{h:Za}:∀{xs:List (List DV)} {cs:List Zc} {ns:List Int},zkb xs=some ns->cs.length=xs.length->(∀(i:Nat) (x:List DV),xs[i]? = some x->RepL fz h ((cs.drop i).take 1) x)->zaK cs=some ns
 | [],cs,ns,e,hl,_=>by cases e;rw[List.length_eq_zero_iff.1 hl];rfl
 |x::xs,cs,ns,e,hl,H=>by
  unfold zkb at e;split at e
  .trivial
  .rename_i n cs' h;cases h;rcases hn:zkb xs with _|l
   .grind
   rw[hn]at e;cases e;cases cs with
   |nil=>simp at hl
   |cons c cs=>
    have h0:=H 0 _ rfl;simp only[List.drop_zero,List.take_succ_cons,List.take_zero]at h0;have:=(h0.inv.1).scal rfl;subst this;have ih:=ziL hn (by simpa using hl) (fun i y hy=>by have:=H (i+1) y (by trivial);trivial)
    grind[x6,zaK]
  cases e
theorem zqC{fz:BN->Prop}{h:Za}{w:Zc}{v z:DV}(H:Rep fz h w v)(e:zgw v=some z):∃c,qv (zn (.s (.one w))) yi .nil h=some (.s (.one c),h)/\z.scal=some c:=by
 unfold zgw at e;split at e
 .cases e;rw[H.scal rfl];exact⟨_,rfl,rfl⟩
 .rename_i xs;rcases hn:zkb xs with _|ns
  .grind
  rw[hn]at e;cases e;obtain⟨b,o,off,cap,ex,cs,rfl,h1,h2,h3,h4,h5⟩:=H.lst_inv;have hns:=ziL (cs:=cs) hn (by grind[zc8]) fun i x hx=>by
   have:=(h5 i x hx).2
   rwa [Nat.mul_one]at this
  refine⟨_,?_,rfl⟩;rw[Nat.mul_one]at h4;show (match h.t.get b with
   |some (.cells cs _)=>zba h (cut xs.length cs off)
   |some (.ro _ f)=>zba h (zcq f xs.length off)
   |some (.tcells cs _ _)=>zba h (cut xs.length cs off)
   |some .void=>zba h (bif Nat.beq xs.length 0 then some [] else none)
   |_=>none)=_
  rw[h2];cases o with
  |cells l st=>show zba h (cut xs.length l off)=_;rw[show cut xs.length l off=some cs from h4];grind[zba]
  |ro y f=>show zba h (zcq f xs.length off)=_;rw[show zcq f xs.length off=some cs from h4];grind[zba]
  |void=>show zba h (bif Nat.beq xs.length 0 then some [] else none)=_;rw[show (bif Nat.beq xs.length 0 then some [] else none)=some cs from h4];grind[zba]
  |_=>cases h4
 cases e
theorem zuu(I:Zd E N os)(F:∀i,RepPA N (r i) (ρ i)){a:Operand} (e:w1 (pv ρ a) (fun c=>
  match c with
  | .d v=>za (zgw v) fun z=>k (pd z) os [] []
  | .own j=>
   match og os j with
   | .arr st v=>za (zgw (mkL st v)) fun z=>k (pd z) os [] [j]
   |_=>none
  |_=>none)=some x):GoalQ N os r ρ (.b2s a) k x:=by
 have hh:=uf F e;clear e;obtain⟨c,v,e,ka,ra,pka⟩:=hh;cases c<;>first|cases e|skip
 .rename_i d;simp only at e;have hh:=zh e;clear e;obtain⟨z,hz,e⟩:=hh;obtain⟨w,rfl,hw⟩:=wa ra;obtain⟨c,h1,h2⟩:=zqC hw hz;refine .quiet I (fun call=>by grind[runK,zx]) (yA h2) e (hm:=fun xo hx=>?_);cases hx;refine⟨_,ka,?_⟩;cases hw with
  |lst cs g1 g2=>
   refine .inr ⟨_,rfl,.inr ⟨rfl,fun N' H=>?_⟩⟩;obtain⟨w',hw',hr'⟩:=wa (H _ _ ka pka);cases hw';obtain⟨b2,o2,off2,cap2,ex2,cs2,q1,q2,q3,_⟩:=hr'.lst_inv
   grind
  |nils=>exact .inl rfl
  |_=>cases hz
 rename_i j;simp only at e;obtain⟨c,rfl,hj,hc⟩:=zQ ra;cases ho:og os j with
 |arr st vo=>
  rw[ho]at e;simp only at e;have hh:=zh e;clear e;obtain⟨z,hz,e⟩:=hh;have hO:=I.obj j;rw[ho]at hO;have:=zhW (fz':=fun _=>True) ⟨fun _ _ _ _=>trivial,fun _ _ _ h=>h⟩ hO (fun _ _ _=>trivial);obtain⟨c',h1,h2⟩:=zqC this hz;refine .quiet I (fun call=>by grind[runK,zx]) (yA h2) e (hm:=fun xo hx=>?_);cases hx;refine⟨_,ka,?_⟩;rcases vo with _|xs
  .exact .inl (by rw[hc,show N.μ j=.nils from hO];rfl)
  obtain⟨b,vs,ex,q1,_⟩:=hO;exact .inr ⟨b,by rw[hc,q1];rfl,.inl ⟨j,rfl,hj,by rw[q1];rfl,by rw[ho];trivial,fun N' H=>(zQ (H _ _ ka pka)).elim fun _ q=>q.2.1⟩⟩
 |_=>grind
theorem znE{t:Tr Zb}{x:Option DV}{o:Option Zb}{d y y' i:Nat}(hx:∀v,x=some v->∃w,o=some w/\RepPA N w (pd v))(hn:x=none->o=none)(e:kX x d y=some i)(hy:y<=y'):bnd t (cO o) d y'=some i:=by
 refine wq hx hn ?_;rcases x with _|v
 .exact e
 cases v<;>first|cases e|skip
 rename_i kk n;cases n with
 |negSucc n=>cases e
 |ofNat n=>grind[kX,Lz4,Yze]
theorem uS{x:Option DV}{d y i:Nat}(e:kX x d y=some i)(hd:d<=y):i<=y:=by
 rcases x with _|v
 .cases e;exact hd
 cases v<;>first|cases e|skip
 rename_i kk n;cases n with
 |negSucc n=>cases e
 |ofNat n=>simp only[kX]at e;cases hb:Nat.ble n y<;>simp_all
theorem zpO{l y n:Nat}(h:(Nat.beq l 0 || !Nat.beq l y)=true)(h1:l<=y)(h2:y<=n):(Nat.beq l 0 || !Nat.beq l n)=true:=by
 cases h0:Nat.beq l 0
 case true=>rfl
 rw[h0]at h;simp only[YzO,Yzr]at h ⊢;rw[Bool.eq_false_iff]at h ⊢;intro e;have:=Lz1 e
 grind
theorem ziv{st off l y cap':Nat}{ex':Bool}{b:BN}{o:Zf}{xs:List (List DV)}{cs:List Zc}(g1:N.fz b)(g2:N.h.t.get b=some o)(g4:rd (xs.length*st) off o=some cs)(g5:∀(i:Nat) (x:List DV),xs[i]? = some x->x.length=st/\RepL N.fz N.h ((cs.drop (i*st)).take st) x)(hly:l<=y)(hy:y<=xs.length)(hcap:ex'=true->y-l<=cap'):
  Rep N.fz N.h (.slc b (off+l*st) (y-l) cap' ex') (.lst st ((xs.drop l).take (y-l))):=by
 have hlen:((xs.drop l).take (y-l)).length=y-l:=by simp;omega
 have ml:l*st<=y*st:=Yzj st hly;have my:y*st<=xs.length*st:=Yzj st hy;have:=Rep.lst_mk (off:=off+l*st) (cap:=cap') (ex:=ex') (xs:=(xs.drop l).take (y-l)) (cs:=(cs.drop (l*st)).take ((y-l)*st)) g1 g2 (by grind)
  (by rw[hlen];exact zc7 g4 (by grind[Nat.mul_sub_right_distrib])) (fun i z hz=>by
   rw[YzH]at hz;split at hz
   .rename_i hi;rw[Yzo]at hz;obtain⟨q1,q2⟩:=g5 _ _ hz;refine⟨q1,?_⟩;have e1:List.take st (List.drop (i*st) (List.take ((y-l)*st) (List.drop (l*st) cs)))=List.take st (List.drop ((l+i)*st) cs):=by
     have:=Yzj st (show i+1<=y-l from hi)
     grind[List.drop_take,YzE,Yyd]
    grind
   cases hz)
 grind
theorem bndD_d{v:DV}{d d' y:Nat}:kX (some v) d y=kX (some v) d' y:=by
 cases v with
 |int k n=>cases n<;>rfl
 |_=>rfl
theorem ve{st off n cap p1 p2:Nat}{ex:Bool}{b:BN}{hi mx:DV}{lo:Option DV}{ol oh om:Option Zb}(hcap:ex=true->n<=cap)(l1:∀v,lo=some v->∃w,ol=some w/\RepPA N w (pd v))(l2:lo=none->ol=none)(h1:∀v,some hi=some v->∃w,oh=some w/\RepPA N w (pd v))(m1:∀v,some mx=some v->∃w,om=some w/\RepPA N w (pd v))
  (e:zqO lo hi mx n=some (p1,p2)) (h:Za):p1+p2<=n/\0<p2/\∃cap',wM st (.s (.one (.slc b off n cap ex))) ol oh om h=some (.s (.one (.slc b (off+p1*st) p2 cap' true)),h)/\p2<=cap':=by
 unfold zqO at e;rcases hm:kX (some mx) 0 n with _|m
 .grind
 rw[hm]at e;simp only at e;rcases hh:kX (some hi) 0 m with _|y
 .grind
 rw[hh]at e;simp only at e;rcases hl:kX lo 0 y with _|l
 .grind
 rw[hl]at e;simp only at e;cases hc:Nat.beq l y
 case true=>grind
 rw[hc]at e;cases e;have hmx:=uS hm (Yzn _);have hy:=uS hh (Yzn _);have hly:=uS hl (Yzn _);have hne:p1≠y:=fun h=>by simp_all
 have hq:Nat.beq m p1=false:=by
  rw[Bool.eq_false_iff]
  grind[Lz1]
 have h2:some hi=none->oh=none:=fun h=>by cases h
 have m2:some mx=none->om=none:=fun h=>by cases h
 refine⟨by omega,by omega,m-p1,?_,by omega⟩;cases ex
 .obtain⟨wm,rfl,_⟩:=m1 mx rfl;obtain⟨wh,rfl,_⟩:=h1 hi rfl;have k1:=wq (t:=.nil) m1 m2 hm;have k2:=wq (t:=.nil) h1 h2 hh;have k3:=wq (t:=.nil) l1 l2 hl;show yT st (cO ol) (some (zn wh)) (some (zn wm)) .nil h b off n cap=_;unfold yT;have k1:bnd .nil (some (zn wm)) 0 n=some m:=k1;have k2:bnd .nil (some (zn wh)) 0 m=some y:=k2
  grind
 show y2 st (cO ol) (cO oh) (cO om) .nil h b off n cap=_;unfold y2;rw[znE (d:=cap) m1 m2 (y:=n) (bndD_d.trans hm) (hcap rfl)];simp only;rw[wq (d:=n) h1 h2 (bndD_d.trans hh)];simp only;rw[wq l1 l2 hl];simp_all[Yze]
theorem zln{st:Nat}{w:Zc}{v z hi mx:DV}{lo:Option DV}{ol oh om:Option Zb}(H:Rep N.fz N.h w v)(l1:∀v,lo=some v->∃w,ol=some w/\RepPA N w (pd v))(l2:lo=none->ol=none)(h1:∀v,some hi=some v->∃w,oh=some w/\RepPA N w (pd v))(m1:∀v,some mx=some v->∃w,om=some w/\RepPA N w (pd v))
  (e:zbH st v lo hi mx=some z):∃c,wM st (.s (.one w)) ol oh om N.h=some (.s (.one c),N.h)/\Rep N.fz N.h c z:=by
 unfold zbH at e;split at e
 .rename_i st' xs;cases hs:Nat.beq st st'
  .grind
  rw[hs]at e;have:=Lz1 hs;subst this;simp only[Yza]at e;rcases hv:zqO lo hi mx xs.length with _|p
  .grind
  obtain⟨p1,p2⟩:=p;rw[hv]at e;cases e;obtain⟨b,o,off,cap,ex,cs,rfl,g1,g2,g3,g4,g5⟩:=H.lst_inv;obtain⟨q0,_,cap',q1,q2⟩:=ve (st:=st) (off:=off) (b:=b) g3 l1 l2 h1 m1 hv N.h
  grind[ziv,Yz5]
 cases e
theorem zox{st:Nat}{w:Zc}{v z:DV}{lo hi:Option DV}{ol oh:Option Zb}(H:Rep N.fz N.h w v)(l1:∀v,lo=some v->∃w,ol=some w/\RepPA N w (pd v))(l2:lo=none->ol=none)(h1:∀v,hi=some v->∃w,oh=some w/\RepPA N w (pd v))(h2:hi=none->oh=none)
  (e:u1 st v lo hi=some z):∃c,wM st (.s (.one w)) ol oh none N.h=some (.s (.one c),N.h)/\Rep N.fz N.h c z:=by
 unfold u1 at e;split at e
 .split at e
  .rename_i a b ha hb;cases e;rw[H.scal rfl];refine⟨.nils,?_,.nils⟩;show xD (cO ol) (cO oh) (cO none) .nil N.h=_;unfold xD;rw[wq h1 h2 ha,wq l1 l2 hb];rfl
  cases e
 .rename_i st' xs;cases hs:Nat.beq st st'
  .grind
  rw[hs]at e;have:=Lz1 hs;subst this;simp only[Yza]at e;rcases hh:kX hi xs.length xs.length with _|y
  .grind
  rw[hh]at e;simp only at e;rcases hl:kX lo 0 y with _|l
  .grind
  rw[hl]at e;simp only at e;cases hc:(Nat.beq l 0 || !Nat.beq l xs.length)
  .grind
  rw[hc]at e;cases e;obtain⟨b,o,off,cap,ex,cs,rfl,g1,g2,g3,g4,g5⟩:=H.lst_inv;have hy:=uS hh (LzB _);have hly:=uS hl (Yzn _);have rep:∀(cap':Nat) (ex':Bool),(ex'=true->y-l<=cap')->Rep N.fz N.h (.slc b (off+l*st) (y-l) cap' ex') (.lst st ((xs.drop l).take (y-l))):=fun cap' ex' hcap=>ziv g1 g2 g4 g5 hly hy hcap;cases ex
  .have run:wM st (.s (.one (.slc b off xs.length cap false))) ol oh none N.h=some (.s (.one (.slc b (off+l*st) (y-l) (cap+l) false)),N.h):=by
    show yT st (cO ol) (cO oh) (cO none) .nil N.h b off xs.length cap=_;unfold yT;show (match bnd .nil (cO oh) xs.length xs.length with
     |some hh=>match bnd .nil (cO ol) 0 hh with
      |some l=>bif Nat.beq l 0 || !Nat.beq l xs.length then some (Zb.s (.one (.slc b (off+l*st) (hh-l) (cap+l) false)),N.h) else none
      |none=>none
     |none=>none)=_
    rw[wq h1 h2 hh];simp only;rw[wq l1 l2 hl]
    grind
   grind
  have hcap:=g3 rfl;have run:wM st (.s (.one (.slc b off xs.length cap true))) ol oh none N.h=some (.s (.one (.slc b (bif Nat.beq cap l then off else off+l*st) (y-l) (cap-l) true)),N.h):=by
   show y2 st (cO ol) (cO oh) (cO none) .nil N.h b off xs.length cap=_;unfold y2;have hm:bnd .nil (cO none) cap cap=some cap:=(id rfl);rw[hm];simp only;rw[znE h1 h2 hh hcap];simp only;rw[wq l1 l2 hl]
   grind[Yze]
  grind[Lz1]
 cases e
theorem zd2(zs:List Zc):∀n,(v8 zs n).length=n*zs.length
 |0=>by simp[v8]
 |n+1=>by rw[v8,Yz3,zd2 zs n,Yz2,Nat.add_comm]
theorem zd3(zs:List Zc):∀(n i:Nat),i<n->((v8 zs n).drop (i*zs.length)).take zs.length=zs
 |0,i,h=>by omega
 |n+1,0,_=>by simp[v8]
 |n+1,i+1,h=>by rw[v8,Yz2,Nat.add_comm,<-YzE];rw[List.drop_left];exact zd3 zs n i (by omega)
theorem zcR{st off len cap l n:Nat}{ex:Bool}{b:BN}{lo hi:Option DV}{ol oh:Option Zb}(hex:ex=true->len<=cap)(l1:∀v,lo=some v->∃w,ol=some w/\RepPA N w (pd v))(l2:lo=none->ol=none)(h1:∀v,hi=some v->∃w,oh=some w/\RepPA N w (pd v))(h2:hi=none->oh=none)
  (e:vwB lo hi len=some (l,n)) (h:Za):l+n<=len/\∃cap' ex',wM st (.s (.one (.slc b off len cap ex))) ol oh none h=some (.s (.one (.slc b (off+l*st) n cap' ex')),h)/\(ex'=true->n<=cap'):=by
 unfold vwB at e;rcases hh:kX hi len len with _|y
 .grind
 rw[hh]at e;simp only at e;rcases hl:kX lo 0 y with _|l0
 .grind
 rw[hl]at e;simp only at e;cases hc:(Nat.beq l0 0 || !Nat.beq l0 y)
 .grind
 rw[hc]at e;cases e;have hy:=uS hh (LzB _);have hly:=uS hl (Yzn _);refine⟨by omega,?_⟩;cases ex
 .refine⟨cap+l,false,?_,fun h=>by cases h⟩;show yT st (cO ol) (cO oh) (cO none) .nil h b off len cap=_;unfold yT;show (match bnd .nil (cO oh) len len with
   |some hh=>match bnd .nil (cO ol) 0 hh with
    |some l=>bif Nat.beq l 0 || !Nat.beq l len then some (Zb.s (.one (.slc b (off+l*st) (hh-l) (cap+l) false)),h) else none
    |none=>none
   |none=>none)=_
  rw[wq h1 h2 hh];simp only;rw[wq l1 l2 hl];simp only[zpO hc hly hy,Yza]
 have hcap:=hex rfl;have run:wM st (.s (.one (.slc b off len cap true))) ol oh none h=some (.s (.one (.slc b (bif Nat.beq cap l then off else off+l*st) (y-l) (cap-l) true)),h):=by
  show y2 st (cO ol) (cO oh) (cO none) .nil h b off len cap=_;unfold y2;have hm:bnd .nil (cO none) cap cap=some cap:=(id rfl);rw[hm];simp only;rw[znE h1 h2 hh hcap];simp only;rw[wq l1 l2 hl]
  grind[Yze]
 refine⟨cap-l,true,run.trans ?_,fun _=>by omega⟩
 grind[Lz1]
theorem zcS{st l n:Nat}{lo hi:Option DV}{ol oh:Option Zb}(l1:∀v,lo=some v->∃w,ol=some w/\RepPA N w (pd v))(l2:lo=none->ol=none)(h1:∀v,hi=some v->∃w,oh=some w/\RepPA N w (pd v))(h2:hi=none->oh=none)
  (e:vwB lo hi 0=some (l,n)) (h:Za):l=0/\n=0/\wM st (.s (.one .nils)) ol oh none h=some (.s (.one .nils),h):=by
 unfold vwB at e;rcases hh:kX hi 0 0 with _|y
 .grind
 have hy:=uS hh (LzB _);obtain rfl:y=0:=by omega
 rw[hh]at e;simp only at e;rcases hl:kX lo 0 0 with _|l0
 .grind
 have hy:=uS hl (LzB _);obtain rfl:l0=0:=by omega
 rw[hl]at e;cases e;refine⟨rfl,rfl,?_⟩;show xD (cO ol) (cO oh) (cO none) .nil h=_;unfold xD;rw[wq h1 h2 hh,wq l1 l2 hl];rfl
theorem zl7(I:Zd E N os)(F:∀i,RepPA N (r i) (ρ i)){st:Nat}{a:Operand}{lo hi mx:Option Operand} (e:(match mx with
  |none=>w1 (pv ρ a) fun c=>za (pvo ρ lo) fun lo=>za (pvo ρ hi) fun hi=>zea os st c lo hi k
  |some m=>w1 (pv ρ a) fun c=>za (pvo ρ lo) fun lo=>za (pvo ρ hi) fun hi=>za (pvo ρ (some m)) fun mx=>zgY os st c lo hi mx k)=some x):GoalQ N os r ρ (.slice st a lo hi mx) k x:=by
 rcases mx with _|m
 .simp only at e;have hh:=uf F e;clear e;obtain⟨c,v,e,ka,ra,pka⟩:=hh;have hq:=zh e;clear e;obtain⟨l,hl,e⟩:=hq;have hq:=zh e;clear e;obtain⟨h,hh,e⟩:=hq;obtain⟨ol,kl,l1,l2⟩:=zbB F hl;obtain⟨oh,kh,h1,h2⟩:=zbB F hh;have run:∀call,runK r (.slice st a lo hi none) call N.h=wM st v ol oh none N.h:=fun call=>by
   show zx (kv r a) (fun x=>match kvo r lo,kvo r hi,(some none:Option (Option Zb)) with|some lo,some hi,some mx=>wM st x lo hi mx N.h|_,_,_=>none)=_;rw[ka,kl,kh];rfl
  have data:∀(w:Zc) (d:DV),v=.s (.one w)->Rep N.fz N.h w d->za (u1 st d l h) (fun z=>k (pd z) os [] [])=some x->GoalQ N os r ρ (.slice st a lo hi none) k x:=by intro w d hv hw e;have hq:=zh e;clear e;obtain⟨z,hz,e⟩:=hq;obtain⟨c',q1,q2⟩:=zox hw l1 l2 h1 h2 hz;exact .quiet I (v:=.s (.one c')) (fun call=>by grind) (ug q2) e
  cases c with
  |d d=>obtain⟨w,hv,hw⟩:=wa ra;exact data w d hv hw e
  |own j=>
   obtain⟨w,hv,hj,hw⟩:=zQ ra;simp only[zea]at e;cases ho:og os j with
   |frz d=>rw[ho]at e;have hO:=I.obj j;rw[ho]at hO;exact data w d hv (by rw[hw];exact hO) e
   |arr st' vo=>
    rw[ho]at e;simp only at e;cases hs:Nat.beq st st'
    .grind
    rw[hs]at e;have:=Lz1 hs;subst this;simp only[Yza]at e;have hq:=zh e;clear e;obtain⟨⟨p1,p2⟩,hp,e⟩:=hq;rcases vo with _|xs
    .have hO:=I.obj j;rw[ho]at hO;have hO:N.μ j=.nils:=hO;obtain⟨rfl,rfl,q⟩:=zcS (st:=st) l1 l2 h1 h2 hp N.h;exact .quiet I (v:=.s (.one .nils)) (fun call=>by grind) (yD (p:=.vw j st 0 0) ⟨hj,.inl ⟨hO,rfl,rfl,rfl⟩⟩) e
    obtain⟨b,vs,ex,g1,_⟩:=kZ I ho;obtain⟨q0,cap',ex',q1,q2⟩:=zcR (st:=st) (off:=0) (b:=b) (cap:=bif ex then xs.length else 0) (ex:=ex) (fun h=>by rw[h];exact LzB _) l1 l2 h1 h2 hp N.h;refine .quiet I (v:=.s (.one (.slc b (p1*st) p2 cap' ex'))) (fun call=>?_) (yD (p:=.vw j st p1 p2) ⟨hj,.inr ⟨b,_,_,_,cap',ex',g1,rfl,q0,q2⟩⟩) e;rw[run,hv,hw,g1];rw[Yzg]at q1;exact q1
   |_=>grind
  |vw j st' lo2 n2=>
   obtain⟨w,hv,hj,hw⟩:=zQ ra;simp only[zea]at e;cases hs:Nat.beq st st'
   .grind
   rw[hs]at e;have:=Lz1 hs;subst this;simp only[Yza]at e;have hq:=zh e;clear e;obtain⟨⟨p1,p2⟩,hp,e⟩:=hq;rcases hw with⟨g1,rfl,rfl,rfl⟩|⟨b,l0,cap,ex,cap',ex',g1,rfl,g2,g3⟩
   .obtain⟨rfl,rfl,q⟩:=zcS (st:=st) l1 l2 h1 h2 hp N.h;exact .quiet I (v:=.s (.one .nils)) (fun call=>by grind) (yD (p:=.vw j st (0+0) 0) ⟨hj,.inl ⟨g1,rfl,rfl,rfl⟩⟩) e
   obtain⟨q0,cap2,ex2,q1,q2⟩:=zcR (st:=st) (off:=lo2*st) (b:=b) (cap:=cap') (ex:=ex') g3 l1 l2 h1 h2 hp N.h;refine .quiet I (v:=.s (.one (.slc b ((lo2+p1)*st) p2 cap2 ex2))) (fun call=>?_) (yD (p:=.vw j st (lo2+p1) p2) ⟨hj,.inr ⟨b,_,_,_,cap2,ex2,g1,rfl,by omega,q2⟩⟩) e
   grind
  |_=>cases e
 simp only at e;have hh:=uf F e;clear e;obtain⟨c,v,e,ka,ra,pka⟩:=hh;have hq:=zh e;clear e;obtain⟨l,hl,e⟩:=hq;have hq:=zh e;clear e;obtain⟨h,hh,e⟩:=hq;have hq:=zh e;clear e;obtain⟨m',hm,e⟩:=hq;obtain⟨ol,kl,l1,l2⟩:=zbB F hl;obtain⟨oh,kh,h1,h2⟩:=zbB F hh;obtain⟨om,km,m1,m2⟩:=zbB F hm;have run:∀call,runK r (.slice st a lo hi (some m)) call N.h=wM st v ol oh om N.h:=fun call=>by show zx (kv r a) (fun x=>match kvo r lo,kvo r hi,kvo r (some m) with|some lo,some hi,some mx=>wM st x lo hi mx N.h|_,_,_=>none)=_;rw[ka,kl,kh,km];rfl
 unfold zgY at e;rcases h with _|hv
 .cases e
 rcases m' with _|mv
 .cases e
 simp only at e;have data:∀(w:Zc) (d:DV),v=.s (.one w)->Rep N.fz N.h w d->za (zbH st d l hv mv) (fun z=>k (pd z) os [] [])=some x->GoalQ N os r ρ (.slice st a lo hi (some m)) k x:=by intro w d hw0 hw e;have hq:=zh e;clear e;obtain⟨z,hz,e⟩:=hq;obtain⟨c',q1,q2⟩:=zln hw l1 l2 h1 m1 hz;exact .quiet I (v:=.s (.one c')) (fun call=>by grind) (ug q2) e
 cases c with
 |d d=>grind[wa]
 |own j=>
  obtain⟨w,hv',hj,hw⟩:=zQ ra;simp only at e;cases ho:og os j with
  |frz d=>rw[ho]at e;have hO:=I.obj j;rw[ho]at hO;exact data w d hv' (by rw[hw];exact hO) e
  |arr st' vo=>
   rw[ho]at e;simp only at e;cases hs:Nat.beq st st'
   .grind
   rw[hs]at e;have:=Lz1 hs;subst this;simp only[Yza]at e;have hq:=zh e;clear e;obtain⟨⟨p1,p2⟩,hp,e⟩:=hq;rcases vo with _|xs
   .exfalso;obtain⟨q0,q,_⟩:=ve (N:=N) (st:=0) (off:=0) (cap:=0) (b:=.z) (ex:=false) (fun h=>by cases h) l1 l2 h1 m1 (show zqO l hv mv 0=some (p1,p2) from hp) N.h;omega
   obtain⟨b,vs,ex,g1,_⟩:=kZ I ho;obtain⟨q0,_,cap',q1,q2⟩:=ve (st:=st) (off:=0) (b:=b) (cap:=bif ex then xs.length else 0) (ex:=ex) (fun h=>by rw[h];exact LzB _) l1 l2 h1 m1 hp N.h;refine .quiet I (v:=.s (.one (.slc b (p1*st) p2 cap' true))) (fun call=>?_) (yD (p:=.vw j st p1 p2) ⟨hj,.inr ⟨b,_,_,_,cap',true,g1,rfl,q0,fun _=>q2⟩⟩) e;rw[run,hv',hw,g1];rw[Yzg]at q1;exact q1
  |_=>grind
 |vw j st' lo2 n2=>
  obtain⟨w,hv',hj,hw⟩:=zQ ra;simp only at e;cases hs:Nat.beq st st'
  .grind
  rw[hs]at e;have:=Lz1 hs;subst this;simp only[Yza]at e;have hq:=zh e;clear e;obtain⟨⟨p1,p2⟩,hp,e⟩:=hq;rcases hw with⟨g1,rfl,rfl,rfl⟩|⟨b,l0,cap,ex,cap',ex',g1,rfl,g2,g3⟩
  .exfalso;obtain⟨q0,q,_⟩:=ve (N:=N) (st:=0) (off:=0) (cap:=0) (b:=.z) (ex:=false) (fun h=>by cases h) l1 l2 h1 m1 hp N.h;omega
  obtain⟨q0,_,cap2,q1,q2⟩:=ve (st:=st) (off:=lo2*st) (b:=b) (cap:=cap') (ex:=ex') g3 l1 l2 h1 m1 hp N.h;refine .quiet I (v:=.s (.one (.slc b ((lo2+p1)*st) p2 cap2 true))) (fun call=>?_) (yD (p:=.vw j st (lo2+p1) p2) ⟨hj,.inr ⟨b,_,_,_,cap2,true,g1,rfl,by omega,fun _=>q2⟩⟩) e
  grind
 |_=>cases e
theorem zrB(I:Zd E N os)(F:∀i,RepPA N (r i) (ρ i)){st:Nat}{zs:List Zc}{a:Operand}(e:w1 (pv ρ a) (fun c=>zl0 lk os st zs c k)=some x):Goal C E lk N os r (.clear st zs a) k x:=by
 have hh:=uf F e;clear e;obtain⟨c,v,e,ka,ra,pka⟩:=hh;cases c<;>first|cases e|skip
 rename_i j st' lo len;simp only[zl0]at e;obtain⟨w,rfl,hj,hw⟩:=zQ ra;cases ho:og os j with
 |arr st'' vo=>
  rw[ho]at e;simp only at e;cases hlj:lk j
  case true=>grind
  rw[hlj]at e;simp only[Yzc]at e;cases hs:(Nat.beq st st'&&Nat.beq st st''&&Nat.beq zs.length st)
  .grind
  rw[hs]at e;simp only[Yza]at e;rw[LzC,LzC]at hs;have t1:=Lz1 hs.1.1;have t2:=Lz1 hs.1.2;have t3:=Lz1 hs.2;subst t1 t2;have hh:=zh e;clear e;obtain⟨ps,hp,e⟩:=hh;have hh:=zh e;clear e;obtain⟨ds,hd,e⟩:=hh;have hz:RepL N.fz N.h zs ds:=zaD hd (qX (N:=N) hp);have run:∀call,runK r (.clear st zs a) call N.h=zp7 st zs (.s (.one w)) N.h:=fun call=>by grind[runK,zx]
  have hjl:j<os.length:=wF (by grind);rcases vo with _|xs
  .have hO:=I.obj j;rw[ho]at hO;have hO:N.μ j=.nils:=hO;rcases hw with⟨g1,rfl,rfl,rfl⟩|⟨b,l0,cap,ex,cap',ex',g1,rfl,g2,g3⟩
   .refine⟨_,_,_,_,e,⟨(zP,N.h),⟨N,rfl,⟨I.turn j _ (fun h=>h) hO (by grind),.refl N,⟨LzB _,fun _ _ _=>rfl⟩,fun j' hj'=>?_,.oset (fun h=>h.elim) (fun h=>by simp) (fun h=>h.elim),.bad _⟩⟩,0,fun n _=>?_⟩⟩
    .rw[zw,Yzb (fun e=>by grind)]
    exact run (C n)
   grind
  obtain⟨b',vs,ex2,k1,k2,k3,k4,k5⟩:=kZ I ho;rcases hw with⟨g1,rfl,rfl,rfl⟩|⟨b,l0,cap,ex,cap',ex',g1,rfl,g2,g3⟩
  .grind
  rw[g1]at k1;cases k1;by_cases hl:len=0
  .subst hl;have hs:oset (.arr st (zwh (some xs) lo 0 ds)) os j=os:=by
    have:PO.arr st (zwh (some xs) lo 0 ds)=og os j:=by simp_all[zwh]
    grind[zbK]
   rw[hs]at e;refine⟨_,_,_,_,e,⟨(zP,N.h),⟨N,rfl,⟨I,.refl N,.same rfl,fun _ _=>rfl,.refl _ _ _,.bad _⟩⟩,0,fun n _=>?_⟩⟩;exact run (C n)
  have hlv:live (og os j):=by rw[ho];trivial
  have hbk:blk (N.μ j)=some b':=by rw[g1];rfl
  have rl:(v8 zs len).length=len*st:=by rw[zd2,t3]
  have m1:(lo+len)*st<=xs.length*st:=Yzj st g2;rw[Yyd]at m1
  let X:=vs.take (lo*st)++v8 zs len++vs.drop (lo*st+(v8 zs len).length)
  have hX:X.length=xs.length*st:=by grind
  have hn:(xs.take lo++List.replicate len ds++xs.drop (lo+len)).length=xs.length:=by simp;omega
  have fg:FG N.fz N.h N.fz (N.h.put b' (.cells X st)):=⟨fun _ _ h _=>h,fun b2 z hf2 hz=>by grind[xn]⟩
  obtain⟨i1,i2,i3⟩:=I.put (by rw[ho];trivial) hbk (.cells X st) (.arr st (some (xs.take lo++List.replicate len ds++xs.drop (lo+len))))
   ⟨b', X, _, by rw [hn]; exact g1, k2, wx _ _ _, by grind, fun t z hzt => by
    have ht:t<xs.length:=by grind
    have mt:=Yzj st (show t+1<=xs.length from ht);rw[Yz2]at mt;by_cases c1:t<lo
    .rw[Yz0,Lz2 (by simp;omega),YzH,Yzd c1]at hzt;obtain⟨q1,q2⟩:=k5 t z hzt;refine⟨q1,?_⟩;have mt2:=Yzj st (show t+1<=lo from c1);rw[Yz2]at mt2;show RepL _ _ ((X.drop (t*st)).take st) _;have:(X.drop (t*st)).take st=(vs.drop (t*st)).take st:=by
      grind[List.drop_take]
     rw[this];exact q2.mono fg
    by_cases c2:t<lo+len
    .rw[Yz0,Lz8 (by simp;omega),Lz2 (by simp;omega),List.getElem?_replicate,Yzd (by simp;omega)]at hzt;cases hzt;refine⟨by rw[<-hz.1,t3],?_⟩;have mt2:=Yzj st (show t-lo+1<=len by omega);rw[Yz2]at mt2;have mt3:t*st=lo*st+(t-lo)*st:=by rw[<-Yyd];grind
     show RepL _ _ ((X.drop (t*st)).take st) _;have:(X.drop (t*st)).take st=zs:=by
      show List.take st (List.drop (t*st) (vs.take (lo*st)++v8 zs len++vs.drop (lo*st+(v8 zs len).length)))=_;have hl0:(vs.take (lo*st)).length=lo*st:=by simp;omega
      rw[Yz0,mt3,<-YzE,List.drop_left' hl0,List.drop_append_of_le_length (by omega),List.take_append_of_le_length (by simp;omega)]
      grind[zd3]
     rw[this];exact hz.mono fg
    have hl0:(xs.take lo++List.replicate len ds).length=lo+len:=by simp;omega
    rw[Lz8 (by omega),hl0,Yzo]at hzt;rw[show lo+len+(t-(lo+len))=t by omega]at hzt;obtain⟨q1,q2⟩:=k5 t z hzt;refine⟨q1,?_⟩;have mt2:=Yzj st (show lo+len<=t by omega);rw[Yyd]at mt2;show RepL _ _ ((X.drop (t*st)).take st) _;have:(X.drop (t*st)).take st=(vs.drop (t*st)).take st:=by
     show List.take st (List.drop (t*st) (vs.take (lo*st)++v8 zs len++vs.drop (lo*st+(v8 zs len).length)))=_;have hl1:(vs.take (lo*st)++v8 zs len).length=lo*st+len*st:=by grind
     rw[show t*st=(lo*st+len*st)+(t*st-(lo*st+len*st)) by omega,<-YzE,List.drop_left' hl1,YzE,rl]
    rw[this];exact q2.mono fg⟩
  refine⟨_,_,_,_,e,⟨(zP,N.h.put b' (.cells X st)),⟨⟨N.μ,N.n,N.fz,N.h.put b' (.cells X st)⟩,rfl,⟨i1,i2,Bk.put rfl (by omega) hlv hbk,fun j' hj'=>?_,.oset (fun _=>by rw[ho];trivial) (fun _=>.inl trivial) (fun _=>by omega),.bad _⟩⟩,0,fun n _=>?_⟩⟩
  .rw[zw,Yzb (fun e=>by grind)]
  refine (run (C n)).trans ?_;show (bif Nat.beq len 0 then some (zP,N.h) else zeV st zs N.h b' (lo*st) len (N.h.t.get b'))=_;have hb0:Nat.beq len 0=false:=by grind[Lz1]
  rw[hb0,k3,Yzc];simp only[zeV];rw[t3,Yzz,Yza,jK (v8 zs len) vs (lo*st) (by omega)];rfl
 |_=>grind
theorem zi6{st:Nat}{vs ws:List Zc}{xs ys:List (List DV)}{fz:BN->Prop}{h:Za}(hl:vs.length=xs.length*st)(hw:ws.length=ys.length*st)
  (H:∀(i:Nat) (x:List DV),xs[i]? = some x->x.length=st/\RepL fz h ((vs.drop (i*st)).take st) x) (K:∀(i:Nat) (x:List DV),ys[i]? = some x->x.length=st/\RepL fz h ((ws.drop (i*st)).take st) x):
  (vs++ws).length=(xs++ys).length*st/\∀(i:Nat) (x:List DV),(xs++ys)[i]? = some x->x.length=st/\RepL fz h (((vs++ws).drop (i*st)).take st) x:=by
 refine⟨by grind,fun i x hx=>?_⟩;by_cases hi:i<xs.length
 .rw[Lz2 hi]at hx;obtain⟨a,b⟩:=H i x hx;refine⟨a,?_⟩;have:=Yzj st (show i+1<=xs.length from hi)
  grind
 grind[Yzj,List.drop_append,List.drop_of_length_le,Nat.mul_sub_right_distrib]
theorem zeR{fz:BN->Prop}{h:Za}{st:Nat}{w:Zc}{v:DV}{xs:List (List DV)}(H:Rep fz h w v)(e:vR st v=some xs):∃cs,zff false st h (.s (.one w))=some (cs,xs.length)/\cs.length=xs.length*st/\
  ∀(i:Nat) (x:List DV),xs[i]? = some x->x.length=st/\RepL fz h ((cs.drop (i*st)).take st) x:=by
 cases v<;>simp only[vR]at e<;>first|cases e|skip
 .rw[H.scal rfl];exact⟨[],rfl,by simp,fun i x hx=>by simp at hx⟩
 rename_i st' ys;cases hs:Nat.beq st st'
 .grind
 rw[hs]at e;cases e;have:=Lz1 hs;subst this;obtain⟨b,o,off,cap,ex,cs,rfl,g1,g2,g3,g4,g5⟩:=H.lst_inv;refine⟨cs,?_,zc8 g4,g5⟩;show (match h.t.get b with
  |some (.cells l _)=>match cut (Nat.mul xs.length st) l off with|some l=>some (l,xs.length)|none=>none
  |some (.ro _ f)=>match zcq f (Nat.mul xs.length st) off with|some l=>some (l,xs.length)|none=>none
  |some (.tcells l _ _)=>match cut (Nat.mul xs.length st) l off with|some l=>some (l,xs.length)|none=>none
  |some .void=>bif Nat.beq (Nat.mul xs.length st) 0 then some ([],xs.length) else none
  |_=>none)=_
 rw[g2];cases o with
 |cells l s=>simp only;rw[show cut (Nat.mul xs.length st) l off=some cs from g4]
 |ro y f=>simp only;rw[show zcq f (Nat.mul xs.length st) off=some cs from g4]
 |void=>obtain⟨k1,k2⟩:=zd4 g4;simp_all
 |_=>cases g4
theorem ztF(I:Zd E N os){st:Nat}{c:PC}{v:Zb}{K:List (List DV)->Option β}(ra:RepPA N v (pc c))(e:zwt os st c K=some x):∃new cs,K new=some x/\zff false st N.h v=some (cs,new.length)/\cs.length=new.length*st/\
  ∀(i:Nat) (x:List DV),new[i]? = some x->x.length=st/\RepL N.fz N.h ((cs.drop (i*st)).take st) x:=by
 obtain⟨w,rfl,hw⟩:=zQ ra;cases c<;>simp only[zwt]at e<;>first|cases e|skip
 .obtain⟨new,hn,e⟩:=zh e;obtain⟨cs,h1,h2,h3⟩:=zeR hw hn
  grind
 rename_i j;obtain⟨hj,rfl⟩:=hw;have hO:=I.obj j;cases ho:og os j with
 |arr st' vo=>
  rw[ho]at e hO;simp only at e;cases hs:Nat.beq st st'
  .grind
  rw[hs]at e;have:=Lz1 hs;subst this;rcases vo with _|xs
  .refine⟨[],[],e,?_,by simp,fun i x hx=>by simp at hx⟩;rw[show N.μ j=.nils from hO];rfl
  have:=hO;obtain⟨b,vs,ex,h1,h2,h3,h4,h5⟩:=this;refine⟨xs,vs,e,?_,h4,h5⟩;have hr:=zhW (fz':=fun _=>True) ⟨fun _ _ _ _=>trivial,fun _ _ _ h=>h⟩ hO (fun _ _ _=>trivial);obtain⟨cs,q1,q2,_⟩:=zeR (st:=st) (xs:=xs) hr (by simp[mkL,vR]);rw[q1];have:cs=vs:=by
   rw[h1]at q1;have:(match N.h.t.get b with
    |some (.cells l _)=>match cut (Nat.mul xs.length st) l 0 with|some l=>some (l,xs.length)|none=>none
    |some (.ro _ f)=>match zcq f (Nat.mul xs.length st) 0 with|some l=>some (l,xs.length)|none=>none
    |some (.tcells l _ _)=>match cut (Nat.mul xs.length st) l 0 with|some l=>some (l,xs.length)|none=>none
    |some .void=>bif Nat.beq (Nat.mul xs.length st) 0 then some ([],xs.length) else none
    |_=>none)=some (cs,xs.length):=q1
   rw[h3]at this;simp only at this;rw[show cut (Nat.mul xs.length st) vs 0=some vs by grind[zeS]]at this
   grind
  rw[this]
 |frz d=>
  rw[ho]at e hO;simp only at e;obtain⟨new,hn,e⟩:=zh e;obtain⟨cs,h1,h2,h3⟩:=zeR (show Rep N.fz N.h (N.μ j) d from hO) hn
  grind
 |_=>grind
theorem Zd.name(I:Zd E N os)(hlk:∀j,lk j=true->j<os.length){j st:Nat}{v:OC}(hj:j<os.length)(hlj:lk j=false)(ho:og os j=.arr st v):
  ∃N',N'.h=N.h/\N'.n=os.length+1/\Stp E lk N os [j] N' (oset .dead os j++[.arr st v])/\RepPA N' (.s (.one (N.μ j))) (pc (.own os.length)):=by
 have hO:=I.obj j;rw[ho]at hO
 let N':Nm:=⟨upd N.μ os.length (N.μ j),os.length+1,N.fz,N.h⟩
 have mu:∀k,k≠os.length->N'.μ k=N.μ k:=fun k hk=>by show (if k=os.length then _ else N.μ k)=_;rw[Yzb hk]
 have muL:N'.μ os.length=N.μ j:=by show (if os.length=os.length then _ else _)=_;simp
 have nx:Nx N N':=⟨.refl _ _,by have:=I.len;grind,fun k hk=>mu k (by have:=I.len;omega)⟩;have hlen:=zX .dead os j;have t:∀i,live (og (oset .dead os j++[.arr st v]) i)->(i=os.length/\live (og os j))\/(i≠os.length/\i≠j/\live (og os i)):=fun i hi=>by
  rw[yI,hlen]at hi;by_cases h1:i=os.length
  .grind
  rw[Yzb h1,zw]at hi;by_cases h2:i=j
  .rw[Yzd ⟨h2,hj⟩]at hi;trivial
  grind
 refine⟨N',rfl,rfl,⟨⟨I.hw,I.gr,I.fzlt,I.fzok,I.fzex,by grind,?_,?_,?_,fun t' m ht=>?_⟩,nx,Bk.same rfl,fun j' hj'=>?_,Ho.trans (w1:=[j]) (w2:=[]) (Ho.oset (o:=.dead) (fun h=>h.elim) (fun _=>.inr (Yzx j)) (fun h=>h.elim)) (.app (by rw[hlen];exact Nat.le_of_eq I.len))⟩,yD (p:=.own os.length) ⟨by grind,muL.symm⟩⟩
 .intro k b hl hb;rcases t k hl with⟨h1,h2⟩|⟨h1,h2,h3⟩
  .rw[h1,muL]at hb;exact I.own j b h2 hb
  rw[mu k h1]at hb;exact I.own k b h3 hb
 .intro k k' b hl hl' hb hb';rcases t k hl with⟨h1,h2⟩|⟨h1,h2,h3⟩<;>rcases t k' hl' with⟨g1,g2⟩|⟨g1,g2,g3⟩
  .rw[h1,g1]
  .rw[h1,muL]at hb;rw[mu k' g1]at hb';exact absurd (I.inj k' j b g3 h2 hb' hb) g2
  .rw[g1,muL]at hb';rw[mu k h1]at hb;exact absurd (I.inj k j b h3 g2 hb hb') h2
  rw[mu k h1]at hb;rw[mu k' g1]at hb';exact I.inj k k' b h3 g3 hb hb'
 .intro k;rw[yI,hlen];by_cases h1:k=os.length
  .rw[Yzd h1,h1];rcases v with _|xs
   .exact muL.trans hO
   obtain⟨b,vs,ex,q1,q2⟩:=hO;exact⟨b,vs,ex,muL.trans q1,q2⟩
  rw[Yzb h1,zw];split
  .trivial
  exact(I.obj k).mono nx (mu k h1) fun hl b hb=>by
   obtain⟨b',x',q1,q2,q3⟩:=xf hl (I.obj k)
   grind
 .rw[yI,hlen]at ht;by_cases h1:t'=os.length
  .grind
  rw[Yzb h1,zw]at ht;split at ht
  .cases ht
  obtain⟨k',v',n',q⟩:=I.lnk t' m ht;have hl:k'<os.length:=wF (by grind);exact⟨k',v',n',by rw[yI,hlen,Yzb (by omega),zw,Yzb (fun e=>by grind)];exact q⟩
 rw[yI,hlen,Yzb (by grind),zw,Yzb (fun e=>by grind)]
noncomputable def zpV(st bytes:Nat)(h:Za)(cs:List Zc)(n:Nat)(v:Zb):Res:=
 match v with
 | .s (.one .nils)=>bif Nat.beq n 0 then some (.s (.one .nils),h) else bif fits bytes n then grown h st n [] cs else none
 | .s (.one (.slc b off len cap ex))=>
  bif Nat.beq n 0 then some (.s (.one (.slc b off len cap ex)),h) else
  bif fits bytes (Nat.add len n) then wC st h cs n b off len cap ex (h.t.get b) else none
 |_=>none
theorem zo3(I:Zd E N os)(F:∀i,RepPA N (r i) (ρ i))(hlk:∀j,lk j=true->j<os.length){st bytes:Nat}{a b:Operand}(e:w1 (pv ρ a) (fun s=>w1 (pv ρ b) fun y=>zg1 lk os st bytes s y k)=some x):Goal C E lk N os r (.append st bytes a b) k x:=by
 have hh:=uf F e;clear e;obtain⟨c,v,e,ka,ra,pka⟩:=hh;have hh:=uf F e;clear e;obtain⟨d,u,e,kb,rb,pkb⟩:=hh;unfold zg1 at e;have hh:=ztF I rb e;clear e;obtain⟨new,cs,e,hsrc,hcl,hcs⟩:=hh;have run:∀call,runK r (.append st bytes a b) call N.h=zpV st bytes N.h cs new.length v:=fun call=>by
  simp only[runK,ka,kb,zx];show (match zff false st N.h u with
   |none=>none
   |some (new,n)=>match v with
    | .s (.one .nils)=>bif Nat.beq n 0 then some (Zb.s (.one .nils),N.h) else bif fits bytes n then grown N.h st n [] new else none
    | .s (.one (.slc b off len cap ex))=>
     bif Nat.beq n 0 then some (Zb.s (.one (.slc b off len cap ex)),N.h) else
     bif fits bytes (Nat.add len n) then wC st N.h new n b off len cap ex (N.h.t.get b) else none
    |_=>none)=_
  rw[hsrc];rfl
 have fresh:∀(os1:List PO) (w1:List Nat) (S1:Stp E lk N os w1 N os1) (hl1:os1.length=os.length),new≠[]->v=Zb.s (.one .nils)->fits bytes new.length=true->
   k (pc (.own os.length)) (os1++[.arr st (zT none new)]) w1 []=some x->Goal C E lk N os r (.append st bytes a b) k x:=by
  intro os1 w1 S1 hl1 hne hv hfit hk;obtain⟨N2,h4,h5,S2,r2⟩:=zai (lk:=lk) (ex:=false) S1.inv (fun j hj=>by grind) hcl hcs;have he:zT none new=some new:=by
   cases new with
   |nil=>trivial
   |cons y l=>rfl
  rw[he]at hk;rw[hl1]at r2;have S:=S1.trans S2 rfl;rw[List.append_nil]at S;refine⟨_,_,_,_,hk,⟨(.s (.one (.slc N.h.n 0 new.length 0 false)),N.h.new (.cells cs st)),⟨N2,h4,S.sim r2⟩,0,fun n _=>?_⟩⟩;show runK r (.append st bytes a b) (C n) N.h=_;rw[run,hv];have:Nat.beq new.length 0=false:=by
   cases new with
   |nil=>trivial
   |cons y l=>rfl
  simp only[zpV,this,Yzc,hfit,Yza];rfl
 cases c with
 |d dv=>
  cases dv<;>simp only[gdN]at e<;>first|(cases e;done)|skip
  cases hfit:fits bytes new.length
  .rw[hfit]at e;cases e
  rw[hfit]at e;have hv:=z7 ra (c:=.nils) rfl;cases hnew:new with
  |nil=>
   subst hnew;obtain⟨N2,h4,h5,S2⟩:∃N',N'.h=N.h/\RepPA N' (.s (.one .nils)) (pc (.own os.length))/\Stp E lk N os [] N' (os++[.arr st none]):=by
    have I0:=I
    let N':Nm:=⟨upd N.μ os.length .nils,os.length+1,N.fz,N.h⟩
    have mu:∀k,k≠os.length->N'.μ k=N.μ k:=fun k hk=>by show (if k=os.length then _ else N.μ k)=_;rw[Yzb hk]
    have muL:N'.μ os.length=.nils:=by show (if os.length=os.length then _ else _)=_;simp
    have nx:Nx N N':=⟨.refl _ _,by have:=I.len;grind,fun k hk=>mu k (by have:=I.len;omega)⟩;have t:∀i,live (og (os++[.arr st none]) i)->i≠os.length/\live (og os i):=fun i hi=>by
     rw[yI]at hi;by_cases h1:i=os.length
     .rw[Yzd h1]at hi;trivial
     grind
    refine⟨N',rfl,yD (p:=.own os.length) ⟨by grind,muL.symm⟩,⟨⟨I.hw,I.gr,I.fzlt,I.fzok,I.fzex,by grind,?_,?_,?_,fun t' m ht=>?_⟩,nx,Bk.same rfl,fun j' hj'=>?_,.app (Nat.le_of_eq I.len)⟩⟩
    .intro k b hl hb;rw[mu k (t k hl).1]at hb;exact I.own k b (t k hl).2 hb
    .intro k k' b hl hl' hb hb';rw[mu k (t k hl).1]at hb;rw[mu k' (t k' hl').1]at hb';exact I.inj k k' b (t k hl).2 (t k' hl').2 hb hb'
    .intro k;rw[yI];by_cases h1:k=os.length
     .rw[Yzd h1,h1];exact muL
     rw[Yzb h1];exact(I.obj k).mono nx (mu k h1) fun hl b hb=>by
      obtain⟨b',x',q1,q2,q3⟩:=xf hl (I.obj k)
      grind
    .rw[yI]at ht;by_cases h1:t'=os.length
     .grind
     rw[Yzb h1]at ht;obtain⟨k',v',n',q⟩:=I.lnk t' m ht;have hl:k'<os.length:=wF (by grind);exact⟨k',v',n',by rw[yI,Yzb (by omega)];exact q⟩
    rw[yI,Yzb (by grind)]
   refine⟨_,_,_,_,e,⟨(.s (.one .nils),N.h),⟨N2,h4,S2.sim h5⟩,0,fun n _=>?_⟩⟩;show runK r (.append st bytes a b) (C n) N.h=_;rw[run,hv];rfl
  |cons y l=>exact fresh os [] (.refl I) rfl (by grind) hv hfit e
 |own j=>
  simp only at e;obtain⟨w,rfl,hj,rfl⟩:=zQ ra;cases ho:og os j with
  |arr st' vo=>
   rw[ho]at e;simp only at e;cases hlj:lk j
   case true=>grind
   rw[hlj]at e;simp only[Yzc]at e;cases hs:Nat.beq st st'
   .grind
   rw[hs]at e;have:=Lz1 hs;subst this;simp only[Yza]at e;cases hfit:fits bytes (xu vo+new.length)
   .rw[hfit]at e;cases e
   rw[hfit]at e;have hjl:j<os.length:=wF (by grind);have hO:=I.obj j;rw[ho]at hO;by_cases hnew:new=[]
   .subst hnew;obtain⟨N2,h4,h5,S2,r2⟩:=Zd.name (lk:=lk) I hlk hjl hlj ho;refine⟨_,_,_,_,e,⟨(.s (.one (N.μ j)),N.h),⟨N2,h4,S2.sim r2⟩,0,fun n _=>?_⟩⟩;show runK r (.append st bytes a b) (C n) N.h=_;rw[run];rcases vo with _|xs
    .rw[show N.μ j=.nils from hO];rfl
    obtain⟨b',vs,ex,h1,_⟩:=hO;rw[h1];rfl
   have hlock:∀j',lk j'=true->og (oset .dead os j) j'=og os j':=fun j' hj'=>by rw[zw,Yzb (fun e=>by grind)]
   rcases vo with _|xs
   .refine fresh (oset .dead os j) [j] ⟨I.turn j .dead (fun e=>e) trivial (by grind),.refl N,Bk.same rfl,hlock,Ho.oset (o:=.dead) (fun h=>h.elim) (fun _=>.inr (Yzx j)) (fun h=>h.elim)⟩ (zX _ _ _) hnew (by rw[show N.μ j=.nils from hO]) (by grind[xu]) e
   obtain⟨b',vs,ex,h1,h2,h3,h4,h5⟩:=hO;have he:zT (some xs) new=some (xs++new):=by
    cases new with
    |nil=>trivial
    |cons y l=>rfl
   have hn0:Nat.beq new.length 0=false:=by
    cases new with
    |nil=>trivial
    |cons y l=>rfl
   have hcut:cut (Nat.mul xs.length st) vs 0=some vs:=by grind[zeS]
   rw[he]at e;cases ex
   .have hlv:live (og os j):=by rw[ho];trivial
    have hbk:blk (N.μ j)=some b':=by rw[h1];rfl
    obtain⟨i1,i2,i3⟩:=I.put (by rw[ho];trivial) hbk .dead .dead trivial;have S1:Stp E lk N os [j] ⟨N.μ,N.n,N.fz,N.h.put b' .dead⟩ (oset .dead os j):=⟨i1,i2,Bk.put rfl (by omega) hlv hbk,hlock,Ho.oset (o:=.dead) (fun h=>h.elim) (fun _=>.inr (Yzx j)) (fun h=>h.elim)⟩;obtain⟨f1,f2⟩:=zi6 (fz:=N.fz) (h:=N.h.put b' .dead) h4 hcl (fun i y hy=>⟨(h5 i y hy).1,(h5 i y hy).2.mono i2.fg⟩) (fun i y hy=>⟨(hcs i y hy).1,(hcs i y hy).2.mono i2.fg⟩);obtain⟨N2,g4,g5,S2,r2⟩:=zai (lk:=lk) (ex:=false) S1.inv (fun j hj=>by grind[zX]) f1 f2;rw[zX]at r2;have S:=S1.trans S2 rfl;refine⟨_,_,_,_,e,⟨(.s (.one (.slc N.h.n 0 (xs++new).length 0 false)),(N.h.put b' .dead).new (.cells (vs++cs) st)),⟨N2,g4,S.sim r2⟩,0,fun n _=>?_⟩⟩;show runK r (.append st bytes a b) (C n) N.h=_;rw[run,h1];simp only[zpV,hn0,Yzc];rw[show fits bytes (Nat.add xs.length new.length)=true from hfit,h3];simp only[Yza,wC,hcut];rw[Yzc,show (Nat.beq st st&&Nat.beq 0 (Nat.mul 0 st))=true by simp,Yza,Yz3];rfl
   have S1:Stp E lk N os [j] N (oset .dead os j):=⟨I.turn j .dead (fun e=>e) trivial (by grind),.refl N,Bk.same rfl,hlock,Ho.oset (o:=.dead) (fun h=>h.elim) (fun _=>.inr (Yzx j)) (fun h=>h.elim)⟩;obtain⟨f1,f2⟩:=zi6 h4 hcl h5 hcs;obtain⟨N2,g4,g5,S2,r2⟩:=zai (lk:=lk) (ex:=false) S1.inv (fun j hj=>by grind[zX]) f1 f2;rw[zX]at r2;have S:=S1.trans S2 rfl;refine⟨_,_,_,_,e,⟨(.s (.one (.slc N.h.n 0 (xs++new).length 0 false)),N.h.new (.cells (vs++cs) st)),⟨N2,g4,S.sim r2⟩,0,fun n _=>?_⟩⟩;show runK r (.append st bytes a b) (C n) N.h=_;rw[run,h1];simp only[zpV,hn0,Yzc];rw[show fits bytes (Nat.add xs.length new.length)=true from hfit,h3];simp only[Yza,wC,hcut];have:Nat.ble (Nat.add xs.length new.length) xs.length=false:=by
    cases hb:Nat.ble (Nat.add xs.length new.length) xs.length
    .rfl
    have:=Lz4 hb
    grind
   rw[this,Yzc,Yz3];rfl
  |_=>grind
 |lit j=>
  simp only at e;obtain⟨w,rfl,hj,b',hb,rfl⟩:=zQ ra;cases ho:og os j with
  |arr st' vo=>
   rw[ho]at e;rcases vo with _|xs
   .cases e
   cases xs with
   |cons _ _=>cases e
   |nil=>
    simp only at e;have hO:=I.obj j;rw[ho]at hO;obtain⟨b2,vs,ex,h1,h2,h3,h4,h5⟩:=hO;cases hs:Nat.beq st st' with
    |false=>grind
    |true=>
    cases new with
    |nil=>grind
    |cons y l=>
    rw[hs]at e;have:=Lz1 hs;subst this;cases hfit:fits bytes (y::l).length with
    |false=>rw[hfit]at e;cases e
    |true=>
    rw[hfit]at e;have e:k (pc (.own os.length)) (os++[.arr st (some (y::l))]) [] []=some x:=e;obtain⟨N2,g4,g5,S2,r2⟩:=zai (lk:=lk) (ex:=false) I hlk hcl hcs;refine⟨_,_,_,_,e,⟨(.s (.one (.slc N.h.n 0 (y::l).length 0 false)),N.h.new (.cells cs st)),⟨N2,g4,S2.sim r2⟩,0,fun n _=>?_⟩⟩;show runK r (.append st bytes a b) (C n) N.h=_;have hbb:b2=b':=by grind
    subst hbb;have hv:vs=[]:=List.length_eq_zero_iff.1 (by grind);subst hv;have hc:cut (Nat.mul 0 st) ([]:List Zc) 0=some []:=by rw[show Nat.mul 0 st=0 from Nat.zero_mul _];rfl
    rw[run];have hf2:fits bytes (Nat.add 0 (y::l).length)=true:=by grind
    have hle:Nat.ble (Nat.add 0 (y::l).length) 0=false:=rfl;show (bif fits bytes (Nat.add 0 (y::l).length) then wC st N.h cs (y::l).length b2 0 0 0 true (N.h.t.get b2) else none)=_;rw[hf2,h3];simp only[Yza,wC,hc,hle,Yzc];rw[show Nat.add 0 (y::l).length=(y::l).length from Yzg _];rfl
  |_=>grind
 |_=>cases e
theorem zjo:∀(p l:List DS) (shs:List (Option Nat)),okT shs l=true->za6 (p++l) shs p.length=l:=by
 have at_:∀(p l:List DS) (d:DS),wX (p++d::l) p.length=d:=by
  intro p l d
  induction p with
  |nil=>rfl
  |cons a p ih=>exact ih
 intro p l shs
 induction shs generalizing p l with
 |nil=>
  intro e;cases l with
  |nil=>rfl
  |cons d l=>cases e
 |cons s shs ih=>
  intro e;cases l with
  |nil=>cases s<;>cases e
  |cons d l=>
   have step:okT shs l=true->za6 (p++d::l) shs (Nat.succ p.length)=l:=fun h=>by
    have:=ih (p++[d]) l h
    grind
   rcases s with _|n
   .cases d with
    |agg ds=>cases e
    |one d=>simp only[za6,at_,dsO];rw[step e]
   cases d with
   |one d=>cases e
   |agg ds=>
    simp only[okT,LzC]at e
    grind[Lz1,za6,dsA,zi9]
theorem zqa{res:Option DA}{K:PA->Option β}(e:b1 res (fun d=>K (pd d))=some x):∃d a,res=some d/\K a=some x/\∀(M:Nm) v,RepA M.fz M.h v d->RepPA M v a:=by
 rcases res with _|d
 .cases e
 cases d with
 |tup l=>cases e
 |s d=>
  cases d with
  |agg l=>cases e
  |one d=>
   refine⟨_,_,rfl,e,fun M v H=>?_⟩;obtain⟨w,rfl,hw⟩:=H.inv;cases w with
   |one c=>trivial
   |agg l=>trivial
theorem zp9{shs:List (Option Nat)}{res:Option DA}{K:PA->Option β}(e:bT shs res (fun l=>K (.tup (za6 l shs 0)))=some x):∃d a,res=some d/\K a=some x/\∀(M:Nm) v,RepA M.fz M.h v d->RepPA M v a:=by
 rcases res with _|d
 .cases e
 cases d with
 |s d=>cases e
 |tup l=>
  simp only[bT]at e;cases ho:okT shs l
  .grind
  rw[ho]at e;refine⟨_,_,rfl,e,fun M v H=>?_⟩;have hc:=zjo [] l shs ho;rw[Yz9]at hc;show RepPA M v (.tup (za6 l shs ([]:List DS).length));rw[hc];cases v with
  |s v=>trivial
  |tup vs=>exact H
theorem zlo{sh:Sh}{res:Option DA}{K:PA->Option β}(e:bSh sh res K=some x):∃d a,res=some d/\K a=some x/\∀(M:Nm) v,RepA M.fz M.h v d->RepPA M v a:=by
 cases sh with
 |one=>exact zqa e
 |sc=>exact zqa e
 |tup shs=>exact zp9 e
 |tsc n=>exact zp9 e
 |agg n=>
  rcases res with _|d
  .cases e
  cases d with
  |tup l=>cases e
  |s d=>
   cases d with
   |one d=>cases e
   |agg l=>
    simp only[bSh,bA]at e;cases hn:Nat.beq l.length n
    .grind
    rw[hn]at e;have hn:=Lz1 hn;refine⟨_,_,rfl,e,fun M v H=>?_⟩;obtain⟨w,rfl,hw⟩:=H.inv;cases w with
    |one c=>trivial
    |agg cs=>rw[<-hn,zi9];exact RepPA.of (v:=.agg cs) (p:=.agg _) (RepPL.ofD hw)
 |no=>
  rcases res with _|d
  .cases e
  exact⟨d,.bad,rfl,e,fun M v _=>.bad v⟩
theorem zie{fz fz':BN->Prop}{h h':Za}{c:Zc}{d:DV}(hs:zoy d=true)(H:Rep fz h c d):Rep fz' h' c d:=by cases d<;>first|(cases hs;done)|(rw[H.scal rfl];constructor)
theorem zfn{fz fz':BN->Prop}{h h':Za}:∀{cs:List SVal} {ds:List DS},zls ds=true->RepSL fz h cs ds->RepSL fz' h' cs ds
 | [],[],_,_=>trivial
 | .one c::cs,.one d::ds,hs,H=>by simp only[zls,LzC]at hs;exact⟨zie hs.1 H.1,zfn hs.2 H.2⟩
 | .agg _::_,.one _::_,_,H=>H.1.elim
 |_,.agg _::_,hs,_=>by cases hs
 | [],_::_,_,H=>H.elim
 |_::_,[],_,H=>H.elim
theorem ztH{sh:Sh}{res:Option DA}{K:PA->Option β}(e:ztp sh res K=some x):∃d a,res=some d/\K a=some x/\∀(fz:BN->Prop) (h:Za) (M:Nm) v,RepA fz h v d->RepPA M v a:=by
 cases sh with
 |sc=>
  rcases res with _|d
  .cases e
  cases d with
  |tup l=>cases e
  |s d=>
   cases d with
   |agg l=>cases e
   |one d=>
    simp only[ztp,b1s]at e;cases hs:zoy d
    .grind
    rw[hs]at e;refine⟨_,_,rfl,e,fun fz h M v H=>?_⟩;obtain⟨w,rfl,hw⟩:=H.inv;cases w with
    |one c=>exact ug (zie hs hw)
    |agg l=>trivial
 |tsc n=>
  rcases res with _|d
  .cases e
  cases d with
  |s d=>cases e
  |tup l=>
   simp only[ztp,bTs]at e;cases ho:(okT (zfB n) l&&zls l)
   .grind
   rw[ho]at e;rw[LzC]at ho;refine⟨_,_,rfl,e,fun fz h M v H=>?_⟩;have hc:=zjo [] l (zfB n) ho.1;rw[Yz9]at hc;show RepPA M v (.tup (za6 l (zfB n) ([]:List DS).length));rw[hc];cases v with
   |s v=>trivial
   |tup vs=>exact zfn ho.2 H
 |_=>cases e
theorem zf9:∀(l:List Zb),(cL l).map (fun x=>x .nil)=l
 | []=>rfl
 |v::l=>by show zn v .nil::(cL l).map (fun x=>x .nil)=_;rw[zf9 l];rfl
theorem zcw{fz:BN->Prop}{h:Za}:∀{ps:List (BN×Nat)} {caps:List (List DV)},RepL fz h (ps.map fun p=>.ptr p.1 p.2) (caps.map fun x=>.fp x 0)->RepAL fz h (ps.map fun(p:BN×Nat)=>Zb.s (.one (.ptr p.1 p.2))) (caps.map fun x=>.s (.one (.fp x 0)))
 | [],[],_=>trivial
 |p::ps,y::caps,H=>⟨H.inv.1,zcw H.inv.2⟩
 | [],_::_,H=>by have:=H.1;trivial
 |_::_,[],H=>by have:=H.1;trivial
theorem zrC{O:Orc}(hO:uW O C){sh:Sh}(I:Zd E N os)(F:∀i,RepPA N (r i) (ρ i)){f:Operand}{args:List Operand}(e:w1 (pv ρ f) (fun c=>za (pvs ρ args) fun as=>za (frA lk os as) fun p=>za (frC lk yP p.1 c) fun q=>bSh sh (zkO O q.2 p.2) fun a=>k a q.1 [] [])=some x):Goal C E lk N os r (.call f args) k x:=by
 have hh:=uf F e;clear e;obtain⟨c,v,e,ka,ra,pka⟩:=hh;obtain⟨as,h1,e⟩:=zh e;obtain⟨⟨os1,ds⟩,h2,e⟩:=zh e;obtain⟨⟨os2,fv⟩,h3,e⟩:=zh e;simp only at h3 e;obtain⟨vs,kvs1,rvs⟩:=zda F h1;obtain⟨w,rfl,hw⟩:=zQ ra;obtain⟨N1,f1,S1,r1⟩:=zi5 I rvs h2;obtain⟨N2,f2,S2,r2⟩:=zce S1.inv (RepPC.mono S1.nx hw) h3;have S12:=S1.trans S2 f1.n;have hh2:N2.h=N.h:=f2.h.trans f1.h;unfold zkO at e;cases fv<;>first|(cases sh<;>cases e)|skip
 rename_i g caps;simp only at e;obtain⟨ps,rfl,hps⟩:=r2.fn_inv;have harg:RepAL N2.fz N2.h (vs++ps.map fun(p:BN×Nat)=>Zb.s (.one (.ptr p.1 p.2))) (ds++caps.map fun x=>.s (.one (.fp x 0))):=RepAL.app (r1.mono S2.nx.fg) (zcw hps);have key:∀res,O g (ds++caps.map fun x=>.s (.one (.fp x 0)))=some res->∀a,(∀(N':Nm) v,RepA N'.fz N'.h v res->RepPA N' v a)->k a os2 [] []=some x->Goal C E lk N os r (.call f args) k x:=by
  intro res hres a ha hk;have ev:=hO g _ res hres N2.fz N2.h _ S12.inv.hw S12.inv.fzlt harg;rw[hh2]at ev;refine⟨a,os2,[],[],hk,?_⟩;have run:∀call,runK r (.call f args) call N.h=call (.inl g) (vs++ps.map fun(p:BN×Nat)=>Zb.s (.one (.ptr p.1 p.2))) N.h:=fun call=>by simp only[runK,ka,kvs1,zx];show call (.inl g) ((cL vs).map (fun x=>x .nil)++ps.map fun(p:BN×Nat)=>Zb.s (.one (.ptr p.1 p.2))) N.h=_;rw[zf9]
  obtain⟨p,⟨q1,q2,q3⟩,M,hM⟩:=ev;refine⟨p,?_,M,fun n hn=>(run (C n)).trans (hM n hn)⟩;have G:Gr N2.h p.2:=by grind
  obtain⟨i1,i2⟩:=S12.inv.grow q1 G;refine⟨_,rfl,⟨i1,S12.nx.trans i2,Bk.gr q2,S12.lock,S12.ho,?_⟩⟩;refine ha _ _ ?_;refine q3.mono ⟨fun b o hb ho=>hb.imp id fun h=>⟨?_,o,ho⟩,fun _ _ _ h=>h⟩
  grind
 grind[zlo]
theorem zup{O:Orc}(hO:uW O C){sh:Sh}(I:Zd E N os)(F:∀i,RepPA N (r i) (ρ i)){f:Operand}{args:List Operand}(e:w1 (pv ρ f) (fun c=>za (pvs ρ args) fun as=>za (frA (fun _=>false) os as) fun p=>za (frC (fun _=>false) yP p.1 c) fun q=>ztp sh (zkO O q.2 p.2) fun a=>k a os [] [])=some x):Goal C E lk N os r (.call f args) k x:=by
 have hh:=uf F e;clear e;obtain⟨c,v,e,ka,ra,pka⟩:=hh;obtain⟨as,h1,e⟩:=zh e;obtain⟨⟨os1,ds⟩,h2,e⟩:=zh e;obtain⟨⟨os2,fv⟩,h3,e⟩:=zh e;simp only at h3 e;obtain⟨vs,kvs1,rvs⟩:=zda F h1;obtain⟨w,rfl,hw⟩:=zQ ra;obtain⟨N1,f1,S1,r1⟩:=zi5 I rvs h2;obtain⟨N2,f2,S2,r2⟩:=zce S1.inv (RepPC.mono S1.nx hw) h3;have S12:=S1.trans S2 f1.n;have hh2:N2.h=N.h:=f2.h.trans f1.h;unfold zkO at e;cases fv<;>first|(cases sh<;>cases e)|skip
 rename_i g caps;simp only at e;obtain⟨ps,rfl,hps⟩:=r2.fn_inv;have harg:RepAL N2.fz N2.h (vs++ps.map fun(p:BN×Nat)=>Zb.s (.one (.ptr p.1 p.2))) (ds++caps.map fun x=>.s (.one (.fp x 0))):=RepAL.app (r1.mono S2.nx.fg) (zcw hps);have key:∀res,O g (ds++caps.map fun x=>.s (.one (.fp x 0)))=some res->∀a,(∀(fz:BN->Prop) (h:Za) (N':Nm) v,RepA fz h v res->RepPA N' v a)->k a os [] []=some x->Goal C E lk N os r (.call f args) k x:=by
  intro res hres a ha hk;have ev:=hO g _ res hres N2.fz N2.h _ S12.inv.hw S12.inv.fzlt harg;rw[hh2]at ev;refine⟨a,os,[],[],hk,?_⟩;have run:∀call,runK r (.call f args) call N.h=call (.inl g) (vs++ps.map fun(p:BN×Nat)=>Zb.s (.one (.ptr p.1 p.2))) N.h:=fun call=>by simp only[runK,ka,kvs1,zx];show call (.inl g) ((cL vs).map (fun x=>x .nil)++ps.map fun(p:BN×Nat)=>Zb.s (.one (.ptr p.1 p.2))) N.h=_;rw[zf9]
  obtain⟨p,⟨q1,q2,q3⟩,M,hM⟩:=ev;refine⟨p,?_,M,fun n hn=>(run (C n)).trans (hM n hn)⟩;obtain⟨i1,i2⟩:=I.grow q1 q2;exact⟨_,rfl,⟨i1,i2,Bk.gr q2,fun _ _=>rfl,.refl _ _ _,ha _ _ _ _ q3⟩⟩
 grind[ztH]
theorem zus{O:Orc}(hO:uW O C){sh:Sh}(I:Zd E N os)(F:∀i,RepPA N (r i) (ρ i)){f:Operand}{args:List Operand}(e:w1 (pv ρ f) (fun c=>za (pvs ρ args) fun as=>bif zwx sh&&(zvQ os c||ztC os as) then za (frA (fun _=>false) os as) (fun p=>za (frC (fun _=>false) yP p.1 c) fun q=>ztp sh (zkO O q.2 p.2) fun a=>k a os [] []) else za (frA lk os as) fun p=>za (frC lk yP p.1 c) fun q=>bSh sh (zkO O q.2 p.2) fun a=>k a q.1 [] [])=some x):Goal C E lk N os r (.call f args) k x:=by
 have hh:=uf F e;obtain⟨c,v,e',ka,ra,pka⟩:=hh;obtain⟨as,h1,e'⟩:=zh e';cases hb:(zwx sh&&(zvQ os c||ztC os as))
 .rw[hb]at e';exact zrC hO I F (f:=f) (args:=args) (sh:=sh) (by rw[pka,h1];exact e')
 rw[hb]at e';exact zup hO I F (f:=f) (args:=args) (sh:=sh) (by rw[pka,h1];exact e')
theorem zma(I:Zd E N os)(F:∀i,RepPA N (r i) (ρ i))(hlk:∀j,lk j=true->j<os.length){st bytes:Nat}{zs:List Zc}{a b:Operand}
  (e:wd (pv ρ a) (fun l=>wd (pv ρ b) fun c=>za (mkN bytes l c) fun n=>za (cDs zs) fun ps=>za (zkP ps) fun ds=>bif Nat.beq zs.length st then k (pc (.own os.length)) (os++[.arr st (some (List.replicate n ds))]) [] [] else none)=some x):Goal C E lk N os r (.mkslice st zs bytes a b) k x:=by
 have hh:=wP F e;clear e;obtain⟨l,w,e,ka,ra⟩:=hh;have hh:=wP F e;clear e;obtain⟨c,w2,e,kb,rb⟩:=hh;have hh:=zh e;clear e;obtain⟨n,hn,e⟩:=hh;have hh:=zh e;clear e;obtain⟨ps,hp,e⟩:=hh;have hh:=zh e;clear e;obtain⟨ds,hd,e⟩:=hh;have hz:RepL N.fz N.h zs ds:=zaD hd (qX (N:=N) hp);cases hst:Nat.beq zs.length st with
 |false=>grind
 |true=>
 rw[hst,Yza]at e;have hst:=Lz1 hst;unfold mkN at hn;split at hn
 .rename_i kl m kc q;cases hb:(Nat.beq m q&&Nat.ble q 1073741824&&Nat.ble (bytes*q) 281474976710656)
  .grind
  rw[hb]at hn;cases hn;rw[LzC,LzC]at hb;obtain⟨⟨h1,h2⟩,h3⟩:=hb;have h1:q=n:=(Lz1 h1).symm;rw[h1]at rb h2 h3;have ew:=z7 ra (c:=.int kl (.ofNat n)) rfl;have ew2:=z7 rb (c:=.int kc (.ofNat n)) rfl;subst ew ew2;subst hst;obtain⟨N2,h4,h5,S2,r2⟩:=zai (lk:=lk) (ex:=true) I hlk (st:=zs.length) (vs:=v8 zs n) (xs:=List.replicate n ds) (by rw[zd2,Yyf]) fun i y hy=>by
   have hi:i<n:=by grind
   rw[List.getElem?_replicate,Yzd hi]at hy;cases hy;exact⟨hz.1.symm,by grind[zd3]⟩
  refine⟨_,_,_,_,e,⟨(.s (.one (.slc N.h.n 0 n n true)),N.h.new (.cells (v8 zs n) zs.length)),⟨N2,h4,?_⟩,0,fun _ _=>?_⟩⟩
  .rw[Yyf]at r2;exact S2.sim r2
  show runK r (.mkslice zs.length zs bytes a b) (C _) N.h=_;simp only[runK,ka,kb,zx];show (bif Nat.ble n n&&Nat.ble n 1073741824&&Nat.ble (bytes*n) 281474976710656 then zcI N.h (.cells (v8 zs n) zs.length) (fun b=>.slc b 0 n n true) else none)=_;rw[Yze (LzB n),h2,h3];rfl
 cases hn
theorem zwW(I:Zd E N os)(F:∀i,RepPA N (r i) (ρ i)){a:Operand}(e:wd (pv ρ a) (fun v=>za (zwR v) fun z=>k (pd z) os [] [])=some x):Goal C E lk N os r (.s2b a) k x:=by
 have hh:=wP F e;clear e;obtain⟨v,w,e,ka,ra⟩:=hh;have hh:=zh e;clear e;obtain⟨z,hz,e⟩:=hh;unfold zwR at hz;split at hz
 .rename_i s;cases hz;have ew:=z7 ra (c:=.str s) rfl;subst ew;have hw:=I.hw.new (.ro none (uq (bytesOf s)));have G:=Gr.new N.h (.ro none (uq (bytesOf s)));obtain⟨i1,i2⟩:=I.grow hw G;have hget:(N.h.new (.ro none (uq (bytesOf s)))).t.get N.h.n=some (.ro none (uq (bytesOf s))):=by grind[Za.new,zq]
  refine⟨_,_,_,_,e,⟨(.s (.one (.slc N.h.n 0 s.size 0 false)),N.h.new (.ro none (uq (bytesOf s)))),⟨_,rfl,⟨i1,i2,Bk.gr G,fun _ _=>rfl,.refl _ _ _,?_⟩⟩,0,fun n _=>?_⟩⟩
  .refine ug ?_;have hl:s.size=(s.data.toList.map fun c=>([.int .u8 (.ofNat c.toNat)]:List DV)).length:=by
    simp
   rw[hl];have hlen:(bytesOf s).length=s.data.toList.length:=by grind[bytesOf]
   refine Rep.lst (o:=.ro none (uq (bytesOf s))) (bytesOf s) (.inr ⟨LzB _,_,hget⟩) hget (fun h=>by cases h) ?_ (fun i y hy=>?_) (fun i y j c d hy hc hd=>?_)
   .refine zhH (by grind) fun j c hj=>?_;simp_all[xi]
   .grind
   rw[Lz6,Yz7]at hy;obtain⟨q,hq,rfl⟩:=hy;cases j with
   |succ j=>simp at hd
   |zero=>simp only[Yzf,Option.some.injEq]at hd;subst hd;rw[Nat.mul_one,Yzy]at hc;unfold bytesOf at hc;rw[Lz6,hq]at hc;cases hc;exact .int _ _
  show runK r (.s2b a) (C n) N.h=_;simp only[runK,ka,zx];rfl
 cases hz
theorem zqh{O:Orc}(hO:uW O C){sh:Sh}(I:Zd E N os)(F:∀i,RepPA N (r i) (ρ i))(hlk:∀j,lk j=true->j<os.length){ko:KOp}(e:pOp O lk sh ρ os ko k=some x):Goal C E lk N os r ko k x:=by
 cases ko with
 |mv a=>exact(zyf I F e).goal I
 |pick c a b=>exact(zqk I F e).goal I
 |alloc zs=>exact zrD I hlk e
 |box a=>exact zwX I F hlk e
 |build zs parts=>exact(zmf I F e).goal I
 |bslice st len zs parts=>exact zo2 I F hlk e
 |load n a=>exact(zqn I F e).goal I
 |store n a b=>exact zrz I F e
 |nilck a=>exact(zl9 I F e).goal I
 |bin op a b=>exact(zut I F e).goal I
 |shift l a b=>exact(zl8 I F e).goal I
 |str op a b=>exact(zul I F e).goal I
 |nilS neg a b=>exact(zql I F e).goal I
 |eq q neg a b=>exact(zyg I F e).goal I
 |not a=>exact(zum I F e).goal I
 |neg a=>exact(zun I F e).goal I
 |conv t a=>exact(zqr I F e).goal I
 |b2s a=>exact(zuu I F e).goal I
 |mkfn f caps=>exact(zqm I F e).goal I
 |slice st a lo hi mx=>exact(zl7 I F e).goal I
 |clear st zs a=>exact zrB I F e
 |sslice a lo hi=>exact(ziI I F e).goal I
 |foff a off=>exact(zqq I F e).goal I
 |field a off n=>exact(zme I F e).goal I
 |ixs st a i=>exact(zur I F e).goal I
 |ixarr len st a i=>exact(zmc I F e).goal I
 |ixagg len st n a i=>exact(zmd I F e).goal I
 |ixstr a i=>exact(zmb I F e).goal I
 |extract a i=>exact(zfA I F e).goal I
 |lenS a=>exact(zqo I F e).goal I
 |lenL a=>exact(zqp I F e).goal I
 |append st bytes s a=>exact zo3 I F hlk e
 |minmax m a xs=>exact(ziJ I F e).goal I
 |mkslice st zs bytes a b=>exact zma I F hlk e
 |s2b a=>exact zwW I F e
 |call f args=>exact zus hO I F e
 |mkmap st=>exact zrA I hlk e
 |lookup q z ok a b=>exact zo1 I F e
 |mupd q a b c=>exact zuo I F e
 |lenM a=>exact zuq I F e
end
end Go.PE
end
section
namespace Go.PE
open Go Go.CE
inductive Pl where
 |slot (i:Nat)
 |cell (k j:Nat)
 |lnk (t:Nat)
 |st (k c:Nat)
def zwe:Pl->Pl->Bool
 | .slot i,.slot j=>Nat.beq i j
 | .cell k i,.cell l j=>Nat.beq k l&&Nat.beq i j
 | .lnk i,.lnk j=>Nat.beq i j
 | .st k i,.st l j=>Nat.beq k l&&Nat.beq i j
 |_,_=>false
theorem zsJ{a b:Pl}(h:zwe a b=true):a=b:=by
 cases a<;>cases b<;>simp only[zwe]at h<;>first|(cases h;done)|skip
 .rw[Lz1 h]
 .simp_all
 .rw[Lz1 h]
 simp_all
def zmU(x:Pl):List Pl->Nat->Option Nat
 | [],_=>none
 |y::l,i=>bif zwe x y then some i else zmU x l (Nat.succ i)
theorem zeC{x:Pl}:∀{l:List Pl} {i p:Nat},zmU x l i=some p->∃q,p=i+q/\l[q]? = some x
 | [],i,p,e=>by cases e
 |y::l,i,p,e=>by
  simp only[zmU]at e;cases hb:zwe x y
  case true=>rw[hb]at e;cases e;exact⟨0,rfl,by grind[zsJ]⟩
  rw[hb]at e;obtain⟨q,h1,h2⟩:=zeC e;exact⟨q+1,by omega,by trivial⟩
structure LA where
 data:List Pl
 own:List (Pl×Nat)
 boxes:List (Nat×Nat)
 arrs:List (Nat×Nat)
 xdata:List Pl
 xown:List (Pl×Nat)
 rdata:List Pl
 rown:List (Pl×Nat)
 frz:List Nat
def q8(la:LA):Zg->List Pl
 | .normal=>la.data
 | .exit _=>la.xdata
 | .ret=>la.rdata
def zkT(la:LA):Zg->List (Pl×Nat)
 | .normal=>la.own
 | .exit _=>la.xown
 | .ret=>la.rown
def zy:List DV->Nat->DV
 | [],_=>.u
 |d::l,i=>bif Nat.beq i 0 then d else zy l (Nat.sub i 1)
def zU:List OC->Nat->OC
 | [],_=>none
 |d::l,i=>bif Nat.beq i 0 then d else zU l (Nat.sub i 1)
theorem zmh:∀(l:List DV) (i:Nat),zy l i=(l[i]?).getD .u
 | [],i=>by simp[zy]
 |d::l,0=>by simp[zy]
 |d::l,i+1=>by have:=zmh l i;trivial
theorem zg5:∀(l:List OC) (i:Nat),zU l i=(l[i]?).getD none
 | [],i=>by simp[zU]
 |d::l,0=>by simp[zU]
 |d::l,i+1=>by have:=zg5 l i;trivial
def zv8(c:Nat):DV->Bool
 | .int .i64 (.ofNat n)=>Nat.beq n c
 |_=>false
def zej:DV->Bool
 | .int .i64 (.negSucc _)=>true
 |_=>false
def zkz(ρ:Nat->PA)(os:List PO):Pl->Option PC
 | .slot i=>match ρ i with | .s (.one c)=>some c|_=>none
 | .cell k j=>match og os k with | .box cs=>cs[j]? |_=>none
 | .lnk t=>match og os t with | .lnk m=>some (.own m)|_=>none
 | .st k c=>match og os k with | .lop _ _ _ _ _ _ s=>bif zv8 c s then some (.d (.int .i64 (.ofNat c))) else none|_=>none
def zfJ(st:Nat):Bool:=Nat.ble 1048576 st
def mkO(st:Nat)(v:OC):PO:=bif zfJ st then .mp st (zL v) else .arr st v
theorem ji{st:Nat}{v:OC}(h:zfJ st=false):mkO st v=.arr st v:=by simp_all[mkO]
theorem zfD{st:Nat}{v:OC}(h:zfJ st=true):mkO st v=.mp st (zL v):=by simp_all[mkO]
def zkS(lk:Nat->Bool)(ρ:Nat->PA):List Pl->List PO->Option (List PO×List DV)
 | [],os=>some (os,[])
 |p::l,os=>
  match zkz ρ os p with
  |some c=>
   match frC lk yP os c with
   |some (os',d)=>
    match zkS lk ρ l os' with
    |some (os'',ds)=>some (os'',d::ds)
    |none=>none
   |none=>none
  |none=>none
def zwu(os:List PO)(st:Nat):PC->Option (OC×Option Nat)
 | .own m=>
  match og os m with
  | .arr st' v=>bif Nat.beq st st' && !zfJ st then some (v,some m) else none
  | .mp st' xs=>bif Nat.beq st st'&&zfJ st then some (some xs,some m) else none
  |_=>none
 | .d .nils=>bif zfJ st then none else some (none,none)
 |_=>none
def zs8(ρ:Nat->PA)(os:List PO):List (Pl×Nat)->Option (List OC×List (Option Nat))
 | []=>some ([],[])
 |(p,st)::l=>
  match zkz ρ os p with
  |some c=>
   match zwu os st c with
   |some (v,m)=>
    match zs8 ρ os l with
    |some (vs,ms)=>some (v::vs,m::ms)
    |none=>none
   |none=>none
  |none=>none
def zp6(os:List PO):List (Nat×Nat)->Option (List OC)
 | []=>some []
 |(k,st)::l=>
  match og os k with
  | .arr st' v=>bif Nat.beq st st' && !zfJ st then(match zp6 os l with|some vs=>some (v::vs)|none=>none) else none
  | .mp st' xs=>bif Nat.beq st st'&&zfJ st then(match zp6 os l with|some vs=>some (some xs::vs)|none=>none) else none
  |_=>none
def jD(os:List PO):List (Nat×Nat)->Bool
 | []=>true
 |(k,n)::l=>(match og os k with | .box cs=>Nat.beq cs.length n|_=>false)&&jD os l
def zdT(okm:Nat->Bool):List (Option Nat)->Bool
 | []=>true
 |none::l=>zdT okm l
 |some m::l=>okm m && !(l.any fun x=>match x with|some m'=>Nat.beq m m'|none=>false)&&zdT okm l
def zaX(D:List Pl):List PO->Nat->Bool
 | [],_=>true
 |o::os,k=>(match o with | .lop _ _ _ _ _ _ s=>zej s||(D.any fun p=>match p with | .st k' c=>Nat.beq k k'&&zv8 c s|_=>false)|_=>true)&&zaX D os (Nat.succ k)
def xR:List Pl->List PO->List PO
 | .st k c::D,os=>xR D (match og os k with | .lop nt ρ ps a b l _=>oset (.lop nt ρ ps a b l (.int .i64 (.ofNat c))) os k|_=>os)
 |_::D,os=>xR D os
 | [],os=>os
def zkB(lk:Nat->Bool):List Nat->List PO->Option (List PO)
 | [],os=>some os
 |k::l,os=>
  match frC lk yP os (match og os k with | .box _=>.ptr k 0|_=>.own k) with
  |some (os',_)=>zkB lk l os'
  |none=>none
def vec(lk:Nat->Bool)(okm:Nat->Bool)(la:LA)(x:Zg)(ρ:Nat->PA)(os:List PO):Option (List PO×List DV×List OC×List (Option Nat)):=
 match zkS lk ρ (q8 la x) os with
 |some (os1,ds)=>
  match zs8 ρ os1 (zkT la x),zp6 os1 la.arrs with
  |some (vs,ms),some ws=>bif (jD os1 la.boxes&&zdT okm ms)&&zaX (q8 la x) os1 0 then some (os1,ds,vs++ws,ms) else none
  |_,_=>none
 |none=>none
def plP(D:List Pl)(Ow:List (Pl×Nat))(L:List DV)(n0:Nat)(p:Pl):Option PC:=
 match zmU p D 0 with
 |some i=>some (.d (zy L i))
 |none=>match zmU p (Ow.map (·.1)) 0 with|some i=>some (.own (n0+i))|none=>none
def hFr(D:List Pl)(Ow:List (Pl×Nat))(W:List Nat)(ρ:Nat->PA)(n0:Nat)(L:List DV):Nat->PA:=fun i=>
 match plP D Ow L n0 (.slot i) with
 |some c=>pc c
 |none=>bif zkm i W then .bad else ρ i
def qJ(D:List Pl)(Ow:List (Pl×Nat))(L:List DV)(n0 k:Nat):Nat->Nat->List PC
 |0,_=>[]
 |n+1,j=>(match plP D Ow L n0 (.cell k j) with|some c=>c|none=>.d .u)::qJ D Ow L n0 k n (Nat.succ j)
def vG(D:List Pl)(Ow:List (Pl×Nat))(L:List DV)(n0:Nat):List (Nat×Nat)->List PO->List PO
 | [],os=>os
 |(k,n)::l,os=>vG D Ow L n0 l (oset (.box (qJ D Ow L n0 k n 0)) os k)
def qL(M:List OC):List (Nat×Nat)->Nat->List PO->List PO
 | [],_,os=>os
 |(k,st)::l,i,os=>qL M l (Nat.succ i) (oset (mkO st (zU M i)) os k)
def zmZ(M:List OC):List (Pl×Nat)->Nat->List PO
 | [],_=>[]
 |(_,st)::l,i=>mkO st (zU M i)::zmZ M l (Nat.succ i)
def zep:List (Pl×Nat)->List Nat
 | []=>[]
 |(.lnk t,_)::l=>t::zep l
 |_::l=>zep l
def zb9(Ow:List (Pl×Nat))(n0:Nat):List Nat->List PO->List PO
 | [],os=>os
 |t::l,os=>zb9 Ow n0 l (oset (match zmU (.lnk t) (Ow.map (·.1)) 0 with|some i=>.lnk (n0+i)|none=>.dead) os t)
def hOs(D:List Pl)(Ow:List (Pl×Nat))(la:LA)(B:List PO)(n0:Nat)(L:List DV)(M:List OC):List PO:=
 zb9 Ow n0 (zep la.own) (qL M la.arrs Ow.length (vG D Ow L n0 la.boxes B))++zmZ M Ow 0
def listed(la:LA)(k:Nat):Bool:=(la.boxes.any fun x=>Nat.beq k x.1)||(la.arrs.any fun x=>Nat.beq k x.1)||((zep la.own).any fun t=>Nat.beq k t)
def kill:List (Option Nat)->List PO->List PO
 | [],os=>os
 |none::l,os=>kill l os
 |some m::l,os=>kill l (oset .dead os m)
section
variable {E:En} {lk:Nat->Bool}
def cvAt(N:Nm)(r:Fr):Pl->Zc->Prop
 | .slot i,c=>r i=.s (.one c)
 | .cell k j,c=>∃b vs,N.μ k=.ptr b 0/\N.h.t.get b=some (.cells vs 0)/\vs[j]? = some c
 | .lnk t,c=>∃b n vs,N.μ t=.ptr b n/\N.h.t.get b=some (.cells vs 1)/\vs[n]? = some c
 | .st _ n,c=>c=.int .i64 (.ofNat n)
theorem cvAt.fz{N N':Nm}(f:Fz N N'){r:Fr}{p:Pl}{c:Zc}(H:cvAt N r p c):cvAt N' r p c:=by
 cases p with
 |slot i=>exact H
 |cell k j=>obtain⟨b,vs,h1,h2,h3⟩:=H;exact⟨b,vs,by rw[f.μ];exact h1,by rw[f.h];exact h2,h3⟩
 |lnk t=>obtain⟨b,n,vs,h1,h2,h3⟩:=H;exact⟨b,n,vs,by rw[f.μ];exact h1,by rw[f.h];exact h2,h3⟩
 |st k n=>exact H
theorem zho{N:Nm}{os:List PO}{r:Fr}{ρ:Nat->PA}(I:Zd E N os)(F:∀i,RepPA N (r i) (ρ i)){p:Pl}{c:PC}(e:zkz ρ os p=some c):∃v,cvAt N r p v/\RepPC N v c:=by
 cases p with
 |slot i=>
  simp only[zkz]at e;split at e
  .rename_i c' h;cases e;have:=F i;rw[h]at this;obtain⟨w,h1,h2⟩:=zQ this;exact⟨w,h1,h2⟩
  cases e
 |cell k j=>
  simp only[zkz]at e;cases ho:og os k with
  |box cs=>rw[ho]at e;obtain⟨b,vs,h1,h2,h3,h4⟩:=uR I ho;have hj:=(Lz0.1 e).1;have hl:=h4.len;obtain⟨v,hv⟩:∃v,vs[j]? = some v:=⟨_,Lz5 (by omega)⟩;exact⟨v,⟨b,vs,h1,h3,hv⟩,h4.get hv e⟩
  |_=>grind
 |lnk t=>
  simp only[zkz]at e;cases ho:og os t with
  |lnk m=>rw[ho]at e;cases e;have hO:=I.obj t;rw[ho]at hO;obtain⟨h0,b,n,vs,h1,h2,h3,h4⟩:=hO;exact⟨N.μ m,⟨b,n,vs,h1,h3,h4⟩,h0,rfl⟩
  |_=>grind
 |st k n=>
  simp only[zkz]at e;split at e
  .rename_i s _;cases hs:zv8 n s
   .grind
   rw[hs]at e;cases e;exact⟨_,rfl,Rep.int _ _⟩
  cases e
theorem zpD{os:List PO}{ρ:Nat->PA}{t:Nat}{c:PC}(e:zkz ρ os (.lnk t)=some c):∃m,og os t=.lnk m:=by grind[zkz]
theorem zi4:∀{l:List Nat} {os os':List PO} {N:Nm},Zd E N os->zkB lk l os=some os'->∃N',Fz N N'/\Stp E lk N os [] N' os'
 | [],os,os',N,I,e=>by cases e;exact⟨N,.refl N,.refl I⟩
 |k::l,os,os',N,I,e=>by
  simp only[zkB]at e;have key:∀p,(∀os1 d,frC lk yP os p=some (os1,d)->∃c,RepPC N c p)->(match frC lk yP os p with|some (os',_)=>zkB lk l os'|none=>none)=some os'->∃N',Fz N N'/\Stp E lk N os [] N' os':=by
   intro p hp e;rcases h:frC lk yP os p with _|q
   .grind
   obtain⟨os1,d⟩:=q;rw[h]at e;obtain⟨c,hc⟩:=hp os1 d h;obtain⟨N1,f1,s1,_⟩:=zce I hc h;obtain⟨N2,f2,s2⟩:=zi4 s1.inv e;exact⟨N2,f1.trans f2,s1.trans s2 f1.n⟩
  have lt:og os k≠.dead->k<N.n:=fun h=>by rw[I.len];exact wF h
  cases ho:og os k with
  |box cs=>rw[ho]at e;obtain⟨b,vs,h1,_⟩:=uR I ho;exact key (.ptr k 0) (fun _ _ _=>⟨.ptr b 0,lt (by grind),b,h1,rfl⟩) e
  |arr st v=>rw[ho]at e;exact key (.own k) (fun _ _ _=>⟨N.μ k,lt (by grind),rfl⟩) e
  |frz v=>rw[ho]at e;exact key (.own k) (fun _ _ _=>⟨N.μ k,lt (by grind),rfl⟩) e
  |mp st xs=>
   rw[ho]at e;refine key (.own k) (fun os1 d h=>?_) e;have:frC lk yP os (.own k)=none:=by
    rw[show yP=99+1 from rfl]
    grind[frC]
   grind
  |fbox ds=>rw[ho]at e;exact key (.own k) (fun _ _ _=>⟨N.μ k,lt (by grind),rfl⟩) e
  |hol v n t=>rw[ho]at e;exact key (.own k) (fun _ _ _=>⟨N.μ k,lt (by grind),rfl⟩) e
  |lnk m=>rw[ho]at e;exact key (.own k) (fun _ _ _=>⟨N.μ k,lt (by grind),rfl⟩) e
  |lop=>rw[ho]at e;exact key (.own k) (fun _ _ _=>⟨N.μ k,lt (by grind),rfl⟩) e
  |dead=>
   rw[ho]at e;refine key (.own k) (fun os1 d h=>?_) e;have:frC lk yP os (.own k)=none:=by
    rw[show yP=99+1 from rfl]
    grind[frC]
   grind
theorem zdN{r:Fr}{ρ:Nat->PA}:∀{D:List Pl} {N:Nm} {os os1:List PO} {ds:List DV},Zd E N os->(∀i,RepPA N (r i) (ρ i))->zkS lk ρ D os=some (os1,ds)->
  ∃N1,Fz N N1/\Stp E lk N os [] N1 os1/\ds.length=D.length/\∀(i:Nat) (p:Pl) (d:DV),D[i]? = some p->ds[i]? = some d->∃c,cvAt N1 r p c/\Rep N1.fz N1.h c d
 | [],N,os,os1,ds,I,F,e=>by cases e;exact⟨N,.refl N,.refl I,rfl,fun i p d h=>by simp at h⟩
 |p::D,N,os,os1,ds,I,F,e=>by
  simp only[zkS]at e;rcases h1:zkz ρ os p with _|c
  .grind
  rw[h1]at e;simp only at e;rcases h2:frC lk yP os c with _|q
  .grind
  obtain⟨o1,d⟩:=q;rw[h2]at e;simp only at e;rcases h3:zkS lk ρ D o1 with _|q
  .grind
  obtain⟨o2,ds2⟩:=q;rw[h3]at e;cases e;obtain⟨v,k1,k2⟩:=zho I F h1;obtain⟨N1,f1,s1,r1⟩:=zce I k2 h2;obtain⟨N2,f2,s2,l2,r2⟩:=zdN s1.inv (fun i=>(F i).mono s1.nx) h3;refine⟨N2,f1.trans f2,s1.trans s2 f1.n,by simp[l2],fun i p' d' hp hd=>?_⟩;cases i with
  |zero=>simp only[Yzf,Option.some.injEq]at hp hd;subst hp;subst hd;exact⟨v,(k1.fz f1).fz f2,r1.mono s2.nx.fg⟩
  |succ i=>grind
theorem zgC{N:Nm}{os:List PO}{r:Fr}{ρ:Nat->PA}(I:Zd E N os)(F:∀i,RepPA N (r i) (ρ i)):∀{Ow:List (Pl×Nat)} {vs:List OC} {ms:List (Option Nat)},zs8 ρ os Ow=some (vs,ms)->
  vs.length=Ow.length/\ms.length=Ow.length/\∀(i:Nat) (p:Pl) (st:Nat),Ow[i]? = some (p,st)->∃v m c,vs[i]? = some v/\ms[i]? = some m/\cvAt N r p c/\((m=none/\v=none/\c=.nils/\zfJ st=false)\/∃q,m=some q/\og os q=mkO st v/\c=N.μ q/\q<N.n)/\(∀t,p=.lnk t->∃m,og os t=.lnk m)
 | [],vs,ms,e=>by cases e<;>grind
 |(p,st)::Ow,vs,ms,e=>by
  simp only[zs8]at e;rcases h1:zkz ρ os p with _|c
  .grind
  rw[h1]at e;simp only at e;rcases h2:zwu os st c with _|q
  .grind
  obtain⟨v,m⟩:=q;rw[h2]at e;simp only at e;rcases h3:zs8 ρ os Ow with _|q
  .grind
  obtain⟨vs2,ms2⟩:=q;rw[h3]at e;cases e;obtain⟨w,k1,k2⟩:=zho I F h1;obtain⟨l1,l2,H⟩:=zgC I F h3;refine⟨by simp[l1],by simp[l2],fun i p' st' hp=>?_⟩;cases i with
  |zero=>
   simp only[Yzf,Option.some.injEq,Prod.mk.injEq]at hp;obtain⟨rfl,rfl⟩:=hp;refine⟨v,m,w,rfl,rfl,k1,?_,fun t ht=>by grind[zpD]⟩;cases c with
   |d dv=>
    cases dv with
    |nils=>
     have h2':(bif zfJ st then none else some ((none:OC),(none:Option Nat)))=some (v,m):=h2;cases hm:zfJ st
     case true=>grind
     rw[hm]at h2';cases h2';exact .inl ⟨rfl,rfl,Rep.scal k2 rfl,rfl⟩
    |_=>cases h2
   |own q=>
    simp only[zwu]at h2;cases ho:og os q with
    |arr st' v'=>
     rw[ho]at h2;simp only at h2;cases hs:(Nat.beq st st' && !zfJ st)
     .grind
     rw[hs]at h2;cases h2;simp only[LzC,Yzr]at hs;have he:=Lz1 hs.1;subst he;exact .inr ⟨q,rfl,by grind[ji],k2.2,k2.1⟩
    |mp st' xs=>
     rw[ho]at h2;simp only at h2;cases hs:(Nat.beq st st'&&zfJ st)
     .grind
     rw[hs]at h2;cases h2;rw[LzC]at hs;have he:=Lz1 hs.1;subst he;exact .inr ⟨q,rfl,by rw[zfD hs.2];exact ho,k2.2,k2.1⟩
    |_=>grind
   |_=>cases h2
  |succ i=>grind
theorem zgD{os:List PO}:∀{l:List (Nat×Nat)} {ws:List OC},zp6 os l=some ws->ws.length=l.length/\∀(i k st:Nat),l[i]? = some (k,st)->∃v,ws[i]? = some v/\og os k=mkO st v
 | [],ws,e=>by cases e<;>grind
 |(k,st)::l,ws,e=>by
  simp only[zp6]at e;have key:∀v,og os k=mkO st v->(match zp6 os l with|some vs=>some (v::vs)|none=>none)=some ws->ws.length=((k,st)::l).length/\∀(i k' st':Nat),((k,st)::l)[i]? = some (k',st')->∃v,ws[i]? = some v/\og os k'=mkO st' v:=by
   intro v ho e;rcases h2:zp6 os l with _|vs
   .grind
   rw[h2]at e;cases e;obtain⟨a,b⟩:=zgD h2
   grind
  cases ho:og os k with
  |arr st' v=>
   rw[ho]at e;simp only at e;cases hs:(Nat.beq st st' && !zfJ st)
   .grind
   rw[hs]at e;simp only[LzC,Yzr]at hs;simp_all[ji]
  |mp st' xs=>
   rw[ho]at e;simp only at e;cases hs:(Nat.beq st st'&&zfJ st)
   .grind
   rw[hs]at e;rw[LzC]at hs;have he:=Lz1 hs.1;subst he;exact key (some xs) (by rw[zfD hs.2];exact ho) e
  |_=>grind
theorem zaA{os:List PO}:∀{l:List (Nat×Nat)},jD os l=true->∀k n,(k,n)∈l->∃cs,og os k=.box cs/\cs.length=n
 |(k0,n0)::l,e,k,n,h=>by
  simp only[jD,LzC]at e;rcases Yzv.1 h with h|h
  .rw[Prod.mk.injEq]at h;obtain⟨h1,h2⟩:=h;subst h1;subst h2;cases ho:og os k<;>simp_all
  exact zaA e.2 k n h
theorem za8{okm:Nat->Bool}:∀{ms:List (Option Nat)},zdT okm ms=true->(∀(i m:Nat),ms[i]? = some (some m)->okm m=true)/\∀(i j m:Nat),ms[i]? = some (some m)->ms[j]? = some (some m)->i=j
 | [],_=>⟨fun i m h=>by simp at h,fun i j m h=>by simp at h⟩
 |none::l,e=>by
  obtain⟨a,b⟩:=za8 (ms:=l) e
  grind
 |some q::l,e=>by
  simp only[zdT,LzC,Yzr]at e;obtain⟨⟨e1,e2⟩,e3⟩:=e;obtain⟨a,b⟩:=za8 (ms:=l) e3;have ne:∀j:Nat,l[j]?≠some (some q):=fun j h=>by
   have:=Lz3 h
   grind[Yzz]
  grind
theorem uo(D:List Pl)(Ow:List (Pl×Nat))(L:List DV)(n0:Nat):∀(l:List (Nat×Nat)) (os:List PO),(vG D Ow L n0 l os).length=os.length
 | [],_=>rfl
 |(k,n)::l,os=>by simp only[vG];rw[uo D Ow L n0 l,zX]
theorem qK(M:List OC):∀(l:List (Nat×Nat)) (i:Nat) (os:List PO),(qL M l i os).length=os.length
 | [],_,_=>rfl
 |(k,st)::l,i,os=>by simp only[qL];rw[qK M l,zX]
theorem qI(Ow:List (Pl×Nat))(n0:Nat):∀(l:List Nat) (os:List PO),(zb9 Ow n0 l os).length=os.length
 | [],_=>rfl
 |t::l,os=>by simp only[zb9];rw[qI Ow n0 l,zX]
theorem zb8(Ow:List (Pl×Nat))(n0:Nat):∀(l:List Nat) (os:List PO) (k:Nat),
  (k∈l/\k<os.length/\og (zb9 Ow n0 l os) k=match zmU (.lnk k) (Ow.map (·.1)) 0 with|some i=>.lnk (n0+i)|none=>.dead)\/((k∈l->¬k<os.length)/\og (zb9 Ow n0 l os) k=og os k)
 | [],os,k=>.inr ⟨fun h=>(by cases h),rfl⟩
 |t::l,os,k=>by
  simp only[zb9];rcases zb8 Ow n0 l (oset (match zmU (.lnk t) (Ow.map (·.1)) 0 with|some i=>.lnk (n0+i)|none=>.dead) os t) k with⟨h1,h2,h3⟩|⟨h1,h2⟩
  .grind[zX]
  rw[zw]at h2;by_cases hk:k=t/\t<os.length
  .grind
  rw[Yzb hk]at h2
  grind[zX]
theorem ziZ(M:List OC):∀(l:List (Pl×Nat)) (i:Nat),(zmZ M l i).length=l.length
 | [],_=>rfl
 |(_,st)::l,i=>by simp[zmZ,ziZ M l]
theorem zi0(M:List OC):∀(l:List (Pl×Nat)) (i j:Nat),(zmZ M l i)[j]? = (l[j]?).map fun x=>mkO x.2 (zU M (i+j))
 | [],i,j=>by simp[zmZ]
 |(p,st)::l,i,0=>by simp[zmZ]
 |(p,st)::l,i,j+1=>by
  have:=zi0 M l (i+1) j
  grind[zmZ]
theorem zal(D:List Pl)(Ow:List (Pl×Nat))(L:List DV)(n0:Nat):∀(l:List (Nat×Nat)) (os:List PO) (k:Nat),
  (∃n,(k,n)∈l/\k<os.length/\og (vG D Ow L n0 l os) k=.box (qJ D Ow L n0 k n 0))\/((∀n,(k,n)∈l->¬k<os.length)/\og (vG D Ow L n0 l os) k=og os k)
 | [],os,k=>.inr ⟨fun n h=>(by cases h),rfl⟩
 |(k0,n)::l,os,k=>by
  simp only[vG];rcases zal D Ow L n0 l (oset (.box (qJ D Ow L n0 k0 n 0)) os k0) k with⟨m,h1,h2,h3⟩|⟨h1,h2⟩
  .grind[zX]
  grind[zw,zX]
theorem zca(M:List OC):∀(l:List (Nat×Nat)) (i:Nat) (os:List PO) (k:Nat),
  (∃j st,l[j]? = some (k,st)/\k<os.length/\og (qL M l i os) k=mkO st (zU M (i+j)))\/((∀st,(k,st)∈l->¬k<os.length)/\og (qL M l i os) k=og os k)
 | [],i,os,k=>.inr ⟨fun n h=>(by cases h),rfl⟩
 |(k0,st)::l,i,os,k=>by
  simp only[qL];rcases zca M l (Nat.succ i) (oset (mkO st (zU M i)) os k0) k with⟨j,s,h1,h2,h3⟩|⟨h1,h2⟩
  .exact .inl ⟨j+1,s,by trivial,by grind[zX],by grind⟩
  rw[zw]at h2;split at h2
  .rename_i hk;rw[hk.1]at h2 ⊢;exact .inl ⟨0,st,rfl,hk.2,h2⟩
  grind[zX]
theorem zdr(D:List Pl)(Ow:List (Pl×Nat))(L:List DV)(n0 k:Nat):∀(n i j:Nat),j<n->(qJ D Ow L n0 k n i)[j]? = some (match plP D Ow L n0 (.cell k (i+j)) with|some c=>c|none=>.d .u)
 |0,i,j,h=>by omega
 |n+1,i,0,_=>rfl
 |n+1,i,j+1,h=>by
  have:=zdr D Ow L n0 k n (i+1) j (by omega)
  grind[qJ]
theorem zdq(D:List Pl)(Ow:List (Pl×Nat))(L:List DV)(n0 k:Nat):∀(n i:Nat),(qJ D Ow L n0 k n i).length=n
 |0,_=>rfl
 |n+1,i=>by simp[qJ,zdq D Ow L n0 k n]
theorem Zd.reidx{N:Nm}{os:List PO}(I:Zd E N os)(os':List PO)(μ':Nat->Zc)(s:Nat->Nat)(hs:∀k,live (og os' k)->live (og os (s k))/\μ' k=N.μ (s k))
  (hi:∀k k',live (og os' k)->live (og os' k')->s k=s k'->k=k') (ho:∀k,RepO ⟨μ',os'.length,N.fz,N.h⟩ k (og os' k)) (hn:∀t m,og os' t=.lnk m->∃k v n,og os' k=.hol v n t):Zd E ⟨μ',os'.length,N.fz,N.h⟩ os':=
 ⟨I.hw, I.gr, I.fzlt, I.fzok, I.fzex, rfl, fun k b hl hb => by
  obtain⟨h1,h2⟩:=hs k hl;rw[show (Nm.mk μ' os'.length N.fz N.h).μ k=N.μ (s k) from h2]at hb;exact I.own _ b h1 hb,fun k k' b hl hl' hb hb'=>by
  obtain⟨h1,h2⟩:=hs k hl;obtain⟨g1,g2⟩:=hs k' hl';rw[show (Nm.mk μ' os'.length N.fz N.h).μ k=N.μ (s k) from h2]at hb;rw[show (Nm.mk μ' os'.length N.fz N.h).μ k'=N.μ (s k') from g2]at hb';exact hi k k' hl hl' (I.inj _ _ b h1 g1 hb hb'),ho,hn⟩
end
end Go.PE
end
section
namespace Go.PE
open Go Go.CE
section
variable {E:En} {lk okm:Nat->Bool}
theorem zg4(a b:List PO)(k:Nat)(h:k<a.length):og (a++b) k=og a k:=by grind[za3]
theorem zoZ(a b:List PO)(k:Nat)(h:a.length<=k):og (a++b) k=(b[k-a.length]?).getD .dead:=by grind[za3]
theorem RepCaps.re{N0 N1 N2:Nm}(hle:N0.n<=N2.n)(hmu:∀k,k<N0.n->N2.μ k=N1.μ k)(hfz:N2.fz=N1.fz)(hh:N2.h=N1.h):∀{ps0 ps:List (BN×Nat)} {caps:List (Nat⊕List DV)},RepCaps N0 ps0 caps->RepCaps N1 ps caps->RepCaps N2 ps caps
 | [],[],[],_,_=>trivial
 |_::_,_::_,.inl k::_,H0,H=>⟨⟨Lz9 H0.1.1 hle,(hmu k H0.1.1).trans H.1.2.1,H.1.2.2⟩,RepCaps.re hle hmu hfz hh H0.2 H.2⟩
 |_::_,_::_,.inr xs::_,H0,H=>⟨by show Rep _ _ _ _;rw[hfz,hh];exact H.1,RepCaps.re hle hmu hfz hh H0.2 H.2⟩
 |_,[],_::_,_,H=>H.elim
 |_,_::_,[],_,H=>H.elim
 | [],_,_::_,H0,_=>H0.elim
 |_::_,_,[],H0,_=>H0.elim
theorem RepPC.re{N0 N1 N2:Nm}(hle:N0.n<=N2.n)(hmu:∀k,k<N0.n->N2.μ k=N1.μ k)(hfz:N2.fz=N1.fz)(hh:N2.h=N1.h){c0 c:Zc}{p:PC}(H0:RepPC N0 c0 p)(H:RepPC N1 c p):RepPC N2 c p:=by
 cases p with
 |d v=>show Rep _ _ _ _;rw[hfz,hh];exact H
 |own k=>exact⟨Lz9 H0.1 hle,H.2.trans (hmu k H0.1).symm⟩
 |ptr k off=>obtain⟨_,b,h2,h3⟩:=H;exact⟨Lz9 H0.1 hle,b,(hmu k H0.1).trans h2,h3⟩
 |ep k st i off=>obtain⟨_,b,l,cap,ex,h2,h3,h4⟩:=H;exact⟨Lz9 H0.1 hle,b,l,cap,ex,(hmu k H0.1).trans h2,h3,h4⟩
 |ip k off len st i o=>obtain⟨_,b,h2,h3,h4⟩:=H;exact⟨Lz9 H0.1 hle,b,(hmu k H0.1).trans h2,h3,h4⟩
 |vw k st lo len=>exact⟨Lz9 H0.1 hle,by rw[hmu k H0.1];exact H.2⟩
 |lit k=>obtain⟨_,b,h2,h3⟩:=H;exact⟨Lz9 H0.1 hle,b,(hmu k H0.1).trans h2,h3⟩
 |clo f caps=>obtain⟨ps,rfl,hc⟩:=H;obtain⟨ps0,_,hc0⟩:=H0;exact⟨ps,rfl,RepCaps.re hle hmu hfz hh hc0 hc⟩
theorem RepPL.re{N0 N1 N2:Nm}(hle:N0.n<=N2.n)(hmu:∀k,k<N0.n->N2.μ k=N1.μ k)(hfz:N2.fz=N1.fz)(hh:N2.h=N1.h):∀{v0 v:List Zc} {ps:List PC},RepPL N0 v0 ps->RepPL N1 v ps->RepPL N2 v ps
 | [],[],[],_,_=>trivial
 |_::_,_::_,_::_,H0,H=>⟨RepPC.re hle hmu hfz hh H0.1 H.1,RepPL.re hle hmu hfz hh H0.2 H.2⟩
 |_,[],_::_,_,H=>H.elim
 |_,_::_,[],_,H=>H.elim
 | [],_,_::_,H0,_=>H0.elim
 |_::_,_,[],H0,_=>H0.elim
theorem RepPA.re{N0 N1 N2:Nm}(hle:N0.n<=N2.n)(hmu:∀k,k<N0.n->N2.μ k=N1.μ k)(hfz:N2.fz=N1.fz)(hh:N2.h=N1.h){v0 v:Zb}{p:PA}(H0:RepPA N0 v0 p)(H:RepPA N1 v p):RepPA N2 v p:=by
 cases p with
 |bad=>trivial
 |undef=>exact H
 |s p=>
  obtain⟨w0,rfl,h0⟩:=H0.inv;obtain⟨w,rfl,h⟩:=H.inv;cases p<;>cases w<;>cases w0<;>simp only[RepPV]at h h0
  .exact RepPC.re hle hmu hfz hh h0 h
  exact RepPL.re hle hmu hfz hh h0 h
 |tup ds=>
  cases v with
  |s v=>exact H
  |tup l=>show RepSL _ _ _ _;rw[hfz,hh];exact H
 |tl p ds=>
  cases v with
  |s v=>exact H
  |tup l=>
   cases l with
   |nil=>exact H
   |cons w l=>
    cases v0 with
    |s v=>trivial
    |tup l0=>
     cases l0 with
     |nil=>trivial
     |cons w0 l0=>
      refine⟨?_,by rw[hfz,hh];exact H.2⟩;have h:=H.1;have h0:=H0.1;cases p<;>cases w<;>cases w0<;>simp only[RepPV]at h h0
      .exact RepPC.re hle hmu hfz hh h0 h
      exact RepPL.re hle hmu hfz hh h0 h
theorem RepO.arr_re{N1 N2:Nm}{k m st:Nat}{v:OC}(hmu:N2.μ k=N1.μ m)(hfz:N2.fz=N1.fz)(hh:N2.h=N1.h)(H:RepO N1 m (.arr st v)):RepO N2 k (.arr st v):=by
 rcases v with _|xs
 .exact hmu.trans H
 obtain⟨b,vs,ex,h1,h2,h3,h4,h5⟩:=H;exact⟨b,vs,ex,hmu.trans h1,by grind,by grind,h4,fun i x hx=>by grind⟩
theorem RepO.mkO_re{N1 N2:Nm}{k m st:Nat}{v:OC}(hmu:N2.μ k=N1.μ m)(hfz:N2.fz=N1.fz)(hh:N2.h=N1.h)(H:RepO N1 m (mkO st v)):RepO N2 k (mkO st v):=by
 cases hm:zfJ st
 .grind[ji,RepO.arr_re]
 rw[zfD hm]at H ⊢;obtain⟨b,es,h1,h2,h3,h4,h5⟩:=H;exact⟨b,es,hmu.trans h1,by grind,by grind,h4,fun i e x he hx=>by grind⟩
theorem zsY{l:List (Nat×Nat)}{k:Nat}(h:(l.any fun x=>Nat.beq k x.1)=false):∀n,(k,n)∉l:=fun n hn=>by grind[Yzz]
theorem zhd{st:Nat}{v:OC}{m:Nat}(h:mkO st v=.lnk m):False:=by grind[zfD,ji]
theorem qB{t:Nat}:∀{l:List (Pl×Nat)},t∈zep l->∃st:Nat,(.lnk t,st)∈l
 | [],h=>by cases h
 |(.lnk t',st)::l,h=>by
  simp only[zep]at h;rcases Yzv.1 h with rfl|h
  .simp
  obtain⟨st,h⟩:=qB h;grind
 |(.slot _,_)::l,h=>by obtain⟨st,h⟩:=qB (l:=l) h;grind
 |(.cell _ _,_)::l,h=>by obtain⟨st,h⟩:=qB (l:=l) h;grind
 |(.st _ _,_)::l,h=>by obtain⟨st,h⟩:=qB (l:=l) h;grind
theorem zsX{l:List Nat}{k:Nat}(h:(l.any fun t=>Nat.beq k t)=false):k∉l:=fun hn=>by grind[Yzz]
theorem jN{la:LA}{k:Nat}(h:listed la k=false):(∀n,(k,n)∉la.boxes)/\(∀n,(k,n)∉la.arrs)/\k∉zep la.own:=by grind[listed,zsY,zsX]
theorem jo{D:List Pl}{Ow:List (Pl×Nat)}{la:LA}{B:List PO}{L:List DV}{M:List OC}{k:Nat}(h:k<B.length)(hl:listed la k=false):og (hOs D Ow la B B.length L M) k=og B k:=by
 unfold hOs;obtain⟨l1,l2,l3⟩:=jN hl
 grind[zg4,qI,qK,uo,zb8,zca,zal]
def simO(o o':PO):Prop:=o'=o\/∃nt ρ ps a b l s s',o=.lop nt ρ ps a b l s/\o'=.lop nt ρ ps a b l s'
theorem simO.nl{o o':PO}(h:simO o o')(hn:∀nt ρ ps a b l s,o≠.lop nt ρ ps a b l s):o'=o:=by rcases h with h|⟨nt,ρ,ps,a,b,l,s,s',h,_⟩<;>grind
set_option maxHeartbeats 1000000 in
theorem zmY{la:LA}{x:Zg}{N0 N:Nm}{B os os1:List PO}{r r0:Fr}{ρ ρ0:Nat->PA}{W:List Nat}{L:List DV}{M:List OC}{ms:List (Option Nat)}
  (I:Zd E N os) (F:∀i,RepPA N (r i) (ρ i)) (e:vec lk okm la x ρ os=some (os1,L,M,ms)) (hn0:N0.n=B.length) (nx0:Nx N0 N) (F0:∀i,RepPA N0 (r0 i) (ρ0 i)) (hW:∀i,i∉W->r i=r0 i)
  (hB:∀k,k<B.length->listed la k=false->og B k=.dead\/(og B k=og os1 k/\∃(N':Nm) (o':PO),N'.n=B.length/\RepO N' k o'/\simO (og B k) o'))
  (hT:∀t,t∈zep la.own->∃m,og B t=.lnk m) (hL:∀t m,og B t=.lnk m->∃k v n,k<B.length/\listed la k=false/\og B k=.hol v n t)
  (hok:∀m,some m∈ms->m<B.length->¬live (og B m)/\listed la m=false):
  ∃N2,N2.h=N.h/\Zd E N2 (hOs (q8 la x) (zkT la x) la B B.length L M)/\
   (∀i,RepPA N2 (r i) (hFr (q8 la x) (zkT la x) W ρ0 B.length L i))/\Nx N0 N2/\FG N.fz N.h N2.fz N2.h:=by
 unfold vec at e;generalize hD:(q8 la x)=D at e ⊢;generalize hOw:(zkT la x)=Ow at e ⊢;rcases h1:zkS lk ρ D os with _|q
 .grind
 obtain⟨o1,ds⟩:=q;rw[h1]at e;simp only at e;rcases h2:zs8 ρ o1 Ow with _|q
 .grind
 obtain⟨vs,ms0⟩:=q;rcases h3:zp6 o1 la.arrs with _|ws
 .grind
 rw[h2,h3]at e;simp only at e;cases h4:((jD o1 la.boxes&&zdT okm ms0)&&zaX D o1 0)
 .grind
 rw[h4]at e;cases e;rw[LzC]at h4
 replace h4:=h4.1
 rw[LzC]at h4;obtain⟨N1,f1,S1,lD,rD⟩:=zdN I F h1;have F1:∀i,RepPA N1 (r i) (ρ i):=fun i=>(F i).mono S1.nx;have I1:=S1.inv;obtain⟨lO,lms,rO⟩:=zgC I1 F1 h2;obtain⟨lA,rA⟩:=zgD h3;have bO:=zaA h4.1;obtain⟨sA,sB⟩:=za8 h4.2
 let os2:=hOs D Ow la B B.length L (vs++ws)
 have hl0:(qL (vs++ws) la.arrs Ow.length (vG D Ow L B.length la.boxes B)).length=B.length:=by rw[qK,uo]
 have hl1:(zb9 Ow B.length (zep la.own) (qL (vs++ws) la.arrs Ow.length (vG D Ow L B.length la.boxes B))).length=B.length:=by rw[qI,hl0]
 have hlen:os2.length=B.length+Ow.length:=(Yz3 (as:=zb9 Ow B.length (zep la.own) (qL (vs++ws) la.arrs Ow.length (vG D Ow L B.length la.boxes B))) (bs:=zmZ (vs++ws) Ow 0)).trans (by rw[hl1,ziZ])
 let μ2:Nat->Zc:=fun k=>if k<B.length then N1.μ k else match ms[k-B.length]? with|some (some m)=>N1.μ m|_=>.nils
 let s:Nat->Nat:=fun k=>if k<B.length then k else match ms[k-B.length]? with|some (some m)=>m|_=>0
 let N2:Nm:=⟨μ2,os2.length,N1.fz,N1.h⟩
 have mulo:∀k,k<B.length->μ2 k=N1.μ k:=fun k hk=>by grind
 have slo:∀k,k<B.length->s k=k:=fun k hk=>by grind
 have muhi:∀q,μ2 (B.length+q)=match ms[q]? with|some (some m)=>N1.μ m|_=>.nils:=fun q=>by grind
 have shi:∀q m,ms[q]? = some (some m)->s (B.length+q)=m:=fun q m hm=>by show (if B.length+q<B.length then _ else _)=_;rw[Yzb (by omega),Yz5,hm]
 have nthO1:∀q v,vs[q]? = some v->zU (vs++ws) q=v:=fun q v hq=>by grind[zg5]
 have nthO2:∀j v,ws[j]? = some v->zU (vs++ws) (Ow.length+j)=v:=fun j v hj=>by grind[zg5]
 have nx2:Nx N0 N2:=⟨nx0.fg.trans S1.nx.fg,by grind,fun k hk=>by
  have hk':k<B.length:=by omega
  show μ2 k=_;rw[mulo k hk',f1.μ];exact nx0.mu k hk⟩
 have place:∀p c,plP D Ow L B.length p=some c->∃v,cvAt N1 r p v/\RepPC N2 v c:=by
  intro p c hp;unfold plP at hp;rcases hd:zmU p D 0 with _|i
  .rw[hd]at hp;simp only at hp;rcases ho:zmU p (Ow.map (·.1)) 0 with _|i
   .grind
   rw[ho]at hp;cases hp;obtain⟨q,rfl,hq⟩:=zeC ho;simp only[Lz6,Yz7]at hq;obtain⟨⟨p',st⟩,hq,rfl⟩:=hq;obtain⟨v,m,c,k1,k2,k3,k4,_⟩:=rO q p' st hq;refine⟨c,k3,?_,?_⟩
   .grind
   grind
  rw[hd]at hp;cases hp;obtain⟨q,rfl,hq⟩:=zeC hd;have hqd:=(Lz0.1 hq).1;obtain⟨d,hdd⟩:∃d,L[q]? = some d:=⟨_,Lz5 (by omega)⟩;obtain⟨v,k1,k2⟩:=rD q p d hq hdd;refine⟨v,k1,?_⟩;show Rep _ _ _ _;rw[Yzg,zmh,hdd];exact k2
 have obj:∀k,(k<B.length/\((∃(j st:Nat) (v:OC),la.arrs[j]? = some (k,st)/\ws[j]? = some v/\og os2 k=mkO st v/\og os1 k=mkO st v)\/
   (∃(n:Nat) (cs:List PC),(k,n)∈la.boxes/\og os2 k=.box (qJ D Ow L B.length k n 0)/\og os1 k=.box cs/\cs.length=n)\/(listed la k=false/\og os2 k=og B k)\/
    (k∈zep la.own/\(og os2 k=.dead\/∃(q st:Nat) (m:Option Nat) (c:Zc),Ow[q]? = some (.lnk k,st)/\ms[q]? = some m/\cvAt N1 r (.lnk k) c/\((m=none/\c=.nils)\/∃q',m=some q'/\c=N1.μ q')/\(∃m',og os1 k=.lnk m')/\og os2 k=.lnk (B.length+q)))))\/
   (∃(q:Nat),k=B.length+q/\((∃(p:Pl) (st:Nat) (v:OC) (m:Option Nat) (c:Zc),Ow[q]? = some (p,st)/\vs[q]? = some v/\ms[q]? = some m/\cvAt N1 r p c/\((m=none/\v=none/\c=.nils/\zfJ st=false)\/∃q',m=some q'/\og os1 q'=mkO st v/\c=N1.μ q'/\q'<N1.n)/\og os2 k=mkO st v)\/og os2 k=.dead)):=by
  intro k;by_cases hk:k<B.length
  .refine .inl ⟨hk,?_⟩;have e1:og os2 k=og (zb9 Ow B.length (zep la.own) (qL (vs++ws) la.arrs Ow.length (vG D Ow L B.length la.boxes B))) k:=zg4 _ _ k (by omega);rcases zb8 Ow B.length (zep la.own) (qL (vs++ws) la.arrs Ow.length (vG D Ow L B.length la.boxes B)) k with⟨z1,_,z3⟩|⟨z1,z2⟩
   .refine .inr (.inr (.inr ⟨z1,?_⟩));rcases hi:zmU (.lnk k) (Ow.map (·.1)) 0 with _|i
    .grind
    rw[hi]at z3;obtain⟨q,rfl,hq⟩:=zeC hi;simp only[Lz6,Yz7]at hq;obtain⟨⟨p',st⟩,hq,rfl⟩:=hq;obtain⟨v,m,c,k1,k2,k3,k4,k5⟩:=rO q _ st hq
    grind
   have hnl:k∉zep la.own:=fun h=>z1 h (by omega);have e0:og os2 k=og (qL (vs++ws) la.arrs Ow.length (vG D Ow L B.length la.boxes B)) k:=e1.trans z2;rcases zca (vs++ws) la.arrs Ow.length (vG D Ow L B.length la.boxes B) k with⟨j,st,a1,a2,a3⟩|⟨a1,a2⟩
   .grind
   grind[zal,listed,Lz1,uo]
  refine .inr ⟨k-B.length,by omega,?_⟩;have e0:og os2 k=((zmZ (vs++ws) Ow 0)[k-B.length]?).getD .dead:=by have:=zoZ (zb9 Ow B.length (zep la.own) (qL (vs++ws) la.arrs Ow.length (vG D Ow L B.length la.boxes B))) (zmZ (vs++ws) Ow 0) k (by omega);rw[hl1]at this;exact this
  rw[zi0]at e0;rcases hq:Ow[k-B.length]? with _|y
  .grind
  obtain⟨p,st⟩:=y;obtain⟨v,m,c,k1,k2,k3,k4,_⟩:=rO _ p st hq
  grind
 have inv:Zd E N2 os2:=by
  refine I1.reidx os2 μ2 s ?_ ?_ ?_ ?_
  .intro k hl;rcases obj k with⟨hk,⟨j,st,v,a1,a2,a3,a4⟩|⟨n,cs,a1,a2,a3,a4⟩|⟨a1,a2⟩|⟨_,a1|⟨q,st,m,c,a1,a2,a3,a4,a5,a6⟩⟩⟩|⟨q,rfl,⟨p,st,v,m,c,a1,a2,a3,a4,a5,a6⟩|a1⟩
   .grind
   .rw[slo k hk,mulo k hk,a3];trivial
   .rw[slo k hk,mulo k hk];rcases hB k hk a1 with h|⟨h,_⟩
    .rw[a2,h]at hl;trivial
    grind
   .rw[a1]at hl;trivial
   .rw[a6]at hl;trivial
   .rcases a5 with⟨rfl,rfl,_,hmp⟩|⟨m',rfl,b1,b2,b3⟩
    .rw[a6,ji hmp]at hl;trivial
    grind
   rw[a1]at hl;trivial
  .have high:∀k,live (og os2 k)->¬k<B.length->∃q m,k=B.length+q/\ms[q]? = some (some m):=fun k hl hk=>by
    rcases obj k with⟨hk',_⟩|⟨q,rfl,⟨p,st,v,m,c,a1,a2,a3,a4,a5,a6⟩|a1⟩
    .omega
    .rcases a5 with⟨rfl,rfl,_,hmp⟩|⟨m',rfl,_⟩
     .rw[a6,ji hmp]at hl;trivial
     grind
    rw[a1]at hl;trivial
   have mixed:∀k k',live (og os2 k)->live (og os2 k')->k<B.length->¬k'<B.length->s k≠s k':=fun k k' hl hl' hk hk' heq=>by
    obtain⟨q,m,rfl,hm⟩:=high k' hl' hk';rw[slo k hk,shi q m hm]at heq;subst heq;obtain⟨g1,g2⟩:=hok k (Lz3 hm) hk;rcases obj k with⟨_,⟨j,st,v,a1,a2,a3,a4⟩|⟨n,cs,a1,a2,a3,a4⟩|⟨a1,a2⟩|⟨a1,_⟩⟩|⟨q',h,_⟩
    .grind[jN]
    .grind[jN]
    .grind
    .grind[jN]
    omega
   intro k k' hl hl' heq;by_cases hk:k<B.length<;>by_cases hk':k'<B.length
   .grind
   .grind
   .grind
   obtain⟨q,m,rfl,hm⟩:=high k hl hk;obtain⟨q',m',rfl,hm'⟩:=high k' hl' hk'
   grind
  .intro k;rcases obj k with⟨hk,⟨j,st,v,a1,a2,a3,a4⟩|⟨n,cs,a1,a2,a3,a4⟩|⟨a1,a2⟩|⟨_,a1|⟨q,st,m,c,a1,a2,a3,a4,⟨m',a5⟩,a6⟩⟩⟩|⟨q,rfl,⟨p,st,v,m,c,a1,a2,a3,a4,a5,a6⟩|a1⟩
   .rw[a3];have:=I1.obj k;rw[a4]at this;exact RepO.mkO_re (N2:=N2) (mulo k hk) rfl rfl this
   .rw[a2];obtain⟨b,us,b1,b2,b3,b4⟩:=uR I1 a3;have hul:=b4.len;refine⟨b,us,(mulo k hk).trans b1,b2,b3,RepPL.of (by grind[zdq]) fun j c p hc hp=>?_⟩;have hj:=(Lz0.1 hc).1;rw[zdr D Ow L B.length k n 0 j (by omega),Yzg]at hp;cases hp;rcases hpl:plP D Ow L B.length (.cell k j) with _|c'
    .exact Rep.u c
    obtain⟨v,w1,w2⟩:=place _ _ hpl;obtain⟨b',us',x1,x2,x3⟩:=w1
    grind
   .rw[a2];rcases hB k hk a1 with h|⟨h,hbx⟩
    .rw[h];trivial
    have:=I1.obj k;rw[<-h]at this;generalize hoB:og B k=ob at this hbx;cases ob with
    |box cs=>obtain⟨N',o',hnn,hR',hs'⟩:=hbx;rw[hs'.nl (by simp)]at hR';obtain⟨_,vs0,_,_,_,hv0⟩:=hR';obtain⟨b,us,b1,b2,b3,b4⟩:=this;exact⟨b,us,(mulo k hk).trans b1,b2,b3,RepPL.re (N0:=N') (N1:=N1) (N2:=N2) (by grind) (fun i hi=>mulo i (by omega)) rfl rfl hv0 b4⟩
    |arr st v=>exact RepO.arr_re (N2:=N2) (mulo k hk) rfl rfl this
    |frz v=>show Rep N1.fz N1.h (μ2 k) v;rw[mulo k hk];exact this
    |fbox ds=>obtain⟨b,b1,b2⟩:=this;exact⟨b,(mulo k hk).trans b1,b2⟩
    |mp st xs=>obtain⟨b,es,h1,h2,h3,h4,h5⟩:=this;exact⟨b,es,(mulo k hk).trans h1,h2,h3,h4,h5⟩
    |hol v n t=>
     rcases v with _|xs
     .exact this
     obtain⟨N',o',hnn,hR',hs'⟩:=hbx;rw[hs'.nl (by simp)]at hR';obtain⟨_,_,_,_,_,_,_,_,ht,_⟩:=hR';obtain⟨b,us,ex,h1,h2,h3,h4,h5,h6,h7,h8⟩:=this;exact⟨b,us,ex,(mulo k hk).trans h1,h2,h3,h4,h5,by grind,(mulo t (by omega)).trans h7,h8⟩
    |lnk m=>obtain⟨N',o',hnn,hR',hs'⟩:=hbx;rw[hs'.nl (by simp)]at hR';obtain⟨hm,_⟩:=hR';obtain⟨h0,b,n,us,h1,h2,h3,h4⟩:=this;exact⟨by grind,b,n,us,(mulo k hk).trans h1,h2,h3,h4.trans (congrArg some (mulo m (by omega)).symm)⟩
    |lop nt ρl ps a b lbl st=>
     obtain⟨N',o',hnn,hR',hs'⟩:=hbx;have hf':∃lt',∀i,RepPA N' (zaF (bn i) lt') (ρl i):=by
      rcases hs' with rfl|⟨_,_,_,_,_,_,_,_,h1,rfl⟩
      .obtain⟨_,_,_,_,lt',_,_,_,_,_,_,_,hf0⟩:=hR';exact⟨lt',hf0⟩
      cases h1;obtain⟨_,_,_,_,lt',_,_,_,_,_,_,_,hf0⟩:=hR';exact⟨lt',hf0⟩
     obtain⟨lt',hf0⟩:=hf';obtain⟨l,S,pend,lf,lt,psA,ld,h1,h2,h3,h4,h5,h6⟩:=this;exact⟨l,S,pend,lf,lt,psA,ld,(mulo k hk).trans h1,h2,h3,h4,h5,fun i=>RepPA.re (N0:=N') (N1:=N1) (N2:=N2) (by grind) (fun i hi=>mulo i (by omega)) rfl rfl (hf0 i) (h6 i)⟩
    |dead=>trivial
   .rw[a1];trivial
   .rw[a6];have:=I1.obj k;rw[a5]at this;obtain⟨_,b,n,us,h1,h2,h3,h4⟩:=this;have hqo:=(Lz0.1 a1).1;obtain⟨b',n',us',g1,g2,g3⟩:=a3;rw[h1]at g1;cases g1;rw[h3]at g2;cases g2;refine⟨by grind,b,n,us,(mulo k hk).trans h1,h2,h3,?_⟩;show us[n]? = some (μ2 (B.length+q));rw[muhi,a2,g3]
    grind
   .rw[a6];rcases a5 with⟨rfl,rfl,_,hmp⟩|⟨m',rfl,b1,b2,b3⟩
    .rw[ji hmp];show μ2 (B.length+q)=.nils
     grind
    have:=I1.obj m';rw[b1]at this;refine RepO.mkO_re (N1:=N1) (N2:=N2) ?_ rfl rfl this
    grind
   rw[a1];trivial
  intro t m ht;have fin:∀m',og B t=.lnk m'->∃k v n,og os2 k=.hol v n t:=fun m' h=>by grind[jo]
  rcases obj t with⟨hk,⟨j,st,v,a1,a2,a3,a4⟩|⟨n,cs,a1,a2,a3,a4⟩|⟨a1,a2⟩|⟨a1,_⟩⟩|⟨q,rfl,⟨p,st,v,m,c,a1,a2,a3,a4,a5,a6⟩|a1⟩
  .grind[zhd]
  .grind
  .grind
  .grind
  .grind[zhd]
  grind
 refine⟨N2,f1.h,inv,fun i=>?_,nx2,S1.nx.fg⟩;unfold hFr;rcases hp:plP D Ow L B.length (.slot i) with _|c
 .simp only;cases hm:zkm i W
  case true=>trivial
  rw[hW i (fun h=>by grind[qy])];exact(F0 i).mono nx2
 obtain⟨v,w1,w2⟩:=place _ _ hp;simp only;rw[show r i=.s (.one v) from w1];trivial
end
end Go.PE
end
