/-
  Lemmas. No condition.
-/
import Derived.Test.YtakbfapnhjkgoaaGreatDoorWm
set_option linter.unusedSimpArgs false
set_option linter.unusedVariables false
section
namespace Go.Proofs.Tryz.Kn
open Go Go.CE Go.PE
section
variable {o:Org} {r:Reg} (F:Fit o r)
include F
theorem zDD(k n:Nat)(d:Zo)(s:Int)(hd:o.divs.els[n]? = some d)(hs:r.stops.els[n]? = some s)(key:Int):∀(l:List Zr) (j:Nat) (v:Sl Zq),d.stops.els.drop j=l→v.els.length+2*l.length≤1000→
  ∃v',zA (zC4 (D (k+4)) (I6 (d.stops.els.length:Int)) (enV d) (enL 1 enU r.stops) [I6 (n:Int),I6 key] (enL 6 enR o.ranks)) [I6 (j:Int)] [ocL zBt v]=some (.exit 2,[],[ocL zBt v'])∧v'.els.length≤v.els.length+2*l.length∧
   ∀y,y∈v'.els↔y∈v.els∨∃(q:Nat) (t:Zr),l[q]? = some t∧bit s (j+q)=true∧y∈ztm o.ranks.els key (zzw t key).draws.els:=by
 have hdm:=Lz3 hd;intro l
 induction l with
 |nil=>grind[zu,zC4,zz,yM,zj,zb,zn]
 |cons t l ih=>
  intro j v h hv;simp only[Yzm]at hv;have h1:=yH h;have htm:t∈d.stops.els:=Lz3 (xa h);obtain⟨hok,hfew⟩:=F.stp d hdm t htm;have hsl:=F.sl d hdm;have ea:zc .add (I6 (j:Int)) (I6 1)=some (I6 ((j+1:Nat):Int)):=yQ;have is:yW 1 (enL 1 enU r.stops) (I6 (n:Int))=some [U64 s]:=by grind[jB]
  have i4:atD (enV d) 4=enL 4 vB d.stops:=rfl;by_cases hb:bit s j=true
  ·obtain⟨w,c,w1,w2⟩:=t96 k o.ranks t hok key (by grind) fun y hy=>F.sml key _ y hy;unfold vB at c;have hwl:w.els.length≤2:=by
    have a1:=kq w1 fun z hz=>(w2 z).1 hz
    grind[ztm]
   obtain⟨v1,a1,a2⟩:=zDK (f:=zBt) v w.els;have ef:fits 16 (v.els.length+w.els.length)=true:=wH (by decide) (by omega);have body:zC4 (D (k+4)) (I6 (d.stops.els.length:Int)) (enV d) (enL 1 enU r.stops) [I6 (n:Int),I6 key] (enL 6 enR o.ranks) [I6 (j:Int)] [ocL zBt v]=some (.normal,[I6 ((j+1:Nat):Int)],[ocL zBt v1]):=by have hb':=hb;unfold bit at hb';simp only[zC4,zz,yM,zj,zb,jX h1,zn,if_true,i4,yc h,is,xE,vh,zvd,zce,zzd,hb',vB,c,zX,zeg,xZ,Yzj,ef,kR,ea,a1]
   obtain⟨v',b1',b2,b3⟩:=ih (j+1) v1 (zP h) (by grind);refine⟨v',by grind[zH],by grind,fun y=>(b3 y).trans ?_⟩;rw[a2,List.mem_append,w2 y]
   constructor
   ·rintro ((h|h)|⟨q,z,q1,q2,q3⟩)
    ·grind
    ·exact .inr ⟨0,t,rfl,hb,h⟩
    ·exact .inr ⟨q+1,z,by grind,by grind,q3⟩
   ·grind
  ·have body:zC4 (D (k+4)) (I6 (d.stops.els.length:Int)) (enV d) (enL 1 enU r.stops) [I6 (n:Int),I6 key] (enL 6 enR o.ranks) [I6 (j:Int)] [ocL zBt v]=some (.normal,[I6 ((j+1:Nat):Int)],[ocL zBt v]):=by
    have hb':=(Bool.not_eq_true _).mp hb;unfold bit at hb';simp only[zC4,zz,yM,zj,zb,jX h1,zn,if_true,i4,yc h,is,xE,zvd,zce,zzd,hb',Yzh,if_false,ea]
   obtain⟨v',b1',b2,b3⟩:=ih (j+1) v (zP h) (by omega);refine⟨v',by grind[zH],by grind,fun y=>(b3 y).trans ?_⟩
   constructor
   ·rintro (h|⟨q,z,q1,q2,q3⟩)
    ·grind
    ·exact .inr ⟨q+1,z,by trivial,by grind,q3⟩
   ·grind
theorem zDF(k:Nat)(S:Sl y1)(hS:∀y∈S.els,inR o y=true)(hl:S.els.length≤27):∀(l:List y1) (i:Nat) (v:Sl Zq),S.els.drop i=l→v.els.length+6*l.length≤900→
  ∃v',zA (zD7 (D (k+4)) (I6 (S.els.length:Int)) (enL 2 zBt S) (enL 5 enV o.divs) (enL 1 enU r.stops) (enL 6 enR o.ranks)) [I6 (i:Int)] [ocL zBt v]=some (.exit 0,[],[ocL zBt v'])∧v'.els.length≤v.els.length+6*l.length∧
   ∀y,y∈v'.els↔y∈v.els∨∃c∈l,zDy o r c.rank.toNat c.num y:=by
 intro l
 induction l with
 |nil=>intro i v h _;refine⟨v,zu ?_,by omega,by simp⟩;simp only[zD7,zz,yM,zj,zb,xY (ya h),zn];rfl
 |cons c l ih=>
  intro i v h hv;simp only[Yzm]at hv;have h1:=yH h;obtain⟨n,d,hn,hd,_,_⟩:=jf.1 (hS c (Lz3 (xa h)));have hnl:=(Lz0.1 hd).1;obtain⟨s,hs⟩:∃s,r.stops.els[n]? = some s:=⟨_,Lz5 (by have:=F.rl;omega)⟩;have hsl:=F.sl d (Lz3 hd);obtain⟨v1,c1,c2,c3⟩:=zDD F k n d s hd hs c.num d.stops.els 0 v rfl (by omega);rw[show (I6 ((0:Nat):Int):DV)=I6 0 from rfl]at c1;have ea:zc .add (I6 (i:Int)) (I6 1)=some (I6 ((i+1:Nat):Int)):=yQ;have ix:yW 2 (enL 2 zBt S) (I6 (i:Int))=some [I6 (n:Int),I6 c.num]:=by rw[←hn];exact yc h .i64
  have ixd:yW 5 (enL 5 enV o.divs) (I6 (n:Int))=some (enV d):=by rw[jB,hd];rfl
  have i4:atD (enV d) 4=enL 4 vB d.stops:=rfl;have body:zD7 (D (k+4)) (I6 (S.els.length:Int)) (enL 2 zBt S) (enL 5 enV o.divs) (enL 1 enU r.stops) (enL 6 enR o.ranks) [I6 (i:Int)] [ocL zBt v]=some (.normal,[I6 ((i+1:Nat):Int)],[ocL zBt v1]):=by simp only[zD7,zz,yM,zj,zb,jX h1,zn,if_true,ix,xE,ixd,i4,zD,c1,yq,Yzp,Yza,ea]
  obtain⟨v',q1,q2,q3⟩:=ih (i+1) v1 (zP h) (by omega);refine⟨v',by rw[zH body,q1],by simp only[Yzm];omega,fun y=>(q3 y).trans ?_⟩;rw[c3 y];have hdr:(∃(q:Nat) (t:Zr),d.stops.els[q]? = some t∧bit s (0+q)=true∧y∈ztm o.ranks.els c.num (zzw t c.num).draws.els)↔zDy o r c.rank.toNat c.num y:=by
   rw[show c.rank.toNat=n by omega]
   constructor
   ·rintro⟨q,t,a,b,e⟩
    exact⟨d,s,q,t,hd,hs,a,by rw[Yzi]at b;exact b,e⟩
   ·rintro⟨d',s',q,t,a1,a2,a,b,e⟩
    rw[hd]at a1;cases a1;rw[hs]at a2;cases a2;exact⟨q,t,a,by rw[Yzi];exact b,e⟩
  rw[hdr];simp only[Yzw,exists_eq_or_imp]
  constructor
  ·rintro ((h|h)|h)
   ·exact .inl h
   ·exact .inr (.inl h)
   ·exact .inr (.inr h)
  ·rintro (h|h|h)
   ·exact .inl (.inl h)
   ·exact .inl (.inr h)
   ·exact .inr h
theorem t82(k:Nat)(S:Sl y1)(hS:∀y∈S.els,inR o y=true)(hl:S.els.length≤27):∃u:Sl Zq,D (k+5) 82 [SA (enO o),SA (yz r),S1 (enL 2 zBt S)]=some (S1 (enL 2 zBt u))∧u.els.length≤1000∧u.els.Pairwise ltP∧∀y,y∈u.els↔∃c∈S.els,zDy o r c.rank.toNat c.num y:=by
 obtain⟨v,c1,c2,c3⟩:=zDF F k S hS hl S.els 0 none rfl (by simp;omega);rw[show (I6 ((0:Nat):Int):DV)=I6 0 from rfl,show ocL zBt (none:Sl Zq)=none from rfl]at c1;have hm:∀y,y∈v.els↔∃c∈S.els,zDy o r c.rank.toNat c.num y:=fun y=>(c3 y).trans (by simp);obtain⟨w,u,f1,f2,f3,f4⟩:=zDc v (by simp at c2;omega) fun p hp=>by obtain⟨c',_,d',s',j,t,_,_,_,_,h⟩:=(hm p).1 hp;exact F.sml _ _ p h
 have hul:u.els.length≤v.els.length:=kq f2 fun z hz=>(f3 z).1 hz;refine⟨u,?_,by simp at c2;omega,f2,fun y=>(f3 y).trans (hm y)⟩;unfold enO yz;rw[D82];unfold P82;simp only[zD,zb,c1,yq,Yzp,Yza,yM,f1,xy,zj,zn,YzD,show zED=jn from rfl];rcases f4 with⟨q1,q2⟩|⟨q1,q2⟩
 ·have:((xR w:Nat):Int)<2:=by omega
  rw[Yzd this,q2]
 ·have:¬((xR w:Nat):Int)<2:=by omega
  rw[Yzb this];rcases q2 with q2|q2
  ·rw[q2];simp only[yq,Yzp,Yza,yM,kK]
  ·rw[q2];rfl
theorem t40(k:Nat)(ho:o.ok)(h0:jS o=0)(hr:yB o r=0)(n:Nat)(key:Int)(hc:inR o ⟨(n:Int),key⟩=true):∃v:Sl Zq,D (k+13) 40 [SA (enO o),SA (yz r),SA [I6 (n:Int),I6 key]]=some (.tup [.one (enL 2 zBt v),.one (I6 0)])∧zFg o r n key v:=by
 obtain⟨S,s1,s2,s3,s4⟩:=t83 F (k+9) ⟨(n:Int),key⟩ hc;obtain⟨u,u1,u2,u3,u4⟩:=t82 F (k+6) S s4 s2;obtain⟨n',d,hn,hd,_,_⟩:=jf.1 hc;have hnl:=(Lz0.1 hd).1;have c72:=t81 (o:=o) (k+10) ⟨(n:Int),key⟩ (by show 0≤(n:Int);omega) (by show (n:Int)<_;have hn:(n:Int)=(n':Int):=hn;omega);rw[hc,Yzd rfl]at c72;have c35:=t27 (k+1) o ho;have c32:=t10 k o ho r;rw[h0]at c35;rw[hr]at c32;have hlen:zY (.lst 3 [yz r])=some (I6 1):=rfl;have ix:yW 3 (.lst 3 [yz r]) (I6 0)=some (yz r):=rfl;have ad:zc .add (I6 0) (I6 1)=some (I6 1):=rfl;have lt0:zc .lss (I6 0) (I6 1)=some (Bo true):=rfl;have atr:[atD (yz r) 0,atD (yz r) 1,atD (yz r) 2]=yz r:=rfl;have er:yz r=[enL 1 enU r.stops,U64 r.cpls,U64 r.off]:=rfl;unfold enO at c72 c35 c32 s1 u1 ⊢;have c71:D (k+11) 80 [SA [St o.name,enL 6 enR o.ranks,enL 5 enV o.divs,enL 5 enC o.cpls],S1 (.lst 3 [yz r])]=some (S1 (I6 0)):=by
  have b0:zEs (D (k+10)) (I6 1) (.lst 3 [yz r]) (St o.name) (enL 6 enR o.ranks) (enL 5 enV o.divs) (enL 5 enC o.cpls) [I6 0] []=some (.normal,[I6 1],[]):=by simp only[zEs,zz,lt0,zb,zn,if_true,ix,atr,c32,zX,zU,Yzu,Yyf,Yzh,if_false,ad]
  have b1:zEs (D (k+10)) (I6 1) (.lst 3 [yz r]) (St o.name) (enL 6 enR o.ranks) (enL 5 enV o.divs) (enL 5 enC o.cpls) [I6 1] []=some (.exit 0,[],[]):=rfl;rw[D80];unfold P80;simp only[c35,zX,zU,Yzu,Yyf,zb,zn,Yzh,if_false,hlen,zH b0,zu b1,yq,Yzp,Yza]
 have c51:D (k+12) 61 [SA [St o.name,enL 6 enR o.ranks,enL 5 enV o.divs,enL 5 enC o.cpls],SA (yz r),SA [I6 (n:Int),I6 key]]=some (S1 (I6 0)):=by rw[er]at c71 ⊢;rw[D61];unfold P61;simp only[c71,zps,zU,Yzu,Yyf,zb,zn,Yzh,if_false,c72,zX]
 have c52:D (k+12) 62 [SA [St o.name,enL 6 enR o.ranks,enL 5 enV o.divs,enL 5 enC o.cpls],SA (yz r),S1 (.lst 2 [[I6 (n:Int),I6 key]])]=some (S1 (enL 2 zBt u)):=by rw[er]at s1 u1 ⊢;rw[D62];unfold P62;simp only[s1,zX,u1]
 refine⟨u,?_,u2,u3,fun y=>(u4 y).trans ?_⟩
 ·rw[er]at c51 c52 ⊢;rw[D40];unfold P40;simp only[c51,zX,zU,Yzu,Yyf,zb,zn,Yzh,if_false,c52]
 ·unfold zDR
  constructor
  ·rintro⟨c,hc,h⟩;exact⟨c,(s3 c).1 hc,h⟩
  ·rintro⟨c,hc,h⟩;exact⟨c,(s3 c).2 hc,h⟩
end
end Go.Proofs.Tryz.Kn
end
section
namespace Go.Proofs.Tryz.Kn
open Go Go.CE Go.PE
def kY(l:List Int)(i:Nat):Int:=(l[i]?).getD 0
theorem t38(k:Nat)(b:Reg)(i:Nat):D (k+1) 38 [SA (yz b),S1 (I6 (i:Int))]=some (S1 (U64 (kY b.stops.els i))):=by
 unfold yz;rw[D38];unfold P38 kY;simp only[zD,zb,zj,zn];by_cases h:i<b.stops.els.length
 ·rw[Yzd (jX h),jB,Lz5 h];rfl
 ·rw[Yzb (by rw[xY (by omega)];simp),List.getElem?_eq_none (by omega)];rfl
def wU(b:List Int):List Int→Nat→Bool
 | [],_=>true
 |s::r,i=>(vu s (kY b i)==0)&&wU b r (i+1)
theorem l18(k:Nat)(a b:Reg)(ha:zgH a):∀(r:List Int) (i:Nat),a.stops.els.drop i=r→
  zA (zpL (D (k+1)) (I6 (a.stops.els.length:Int)) (enL 1 enU a.stops) (enL 1 enU b.stops) (U64 b.cpls) (U64 b.off)) [I6 (i:Int)] []=some (if wU b.stops.els r i=true then(.exit 0,[],[]) else(.ret,[Bo false],[])):=by
 unfold zgH at ha;intro r
 induction r with
 |nil=>intro i h;refine zu ?_;simp only[zpL,zz,zj,zb,xY (ya h),zn];rfl
 |cons x r ih=>
  intro i h;have h1:=yH h;have ea:zc .add (I6 (i:Int)) (I6 1)=some (I6 ((i+1:Nat):Int)):=yQ;have c:=t38 k b i;unfold yz at c;have body:zpL (D (k+1)) (I6 (a.stops.els.length:Int)) (enL 1 enU a.stops) (enL 1 enU b.stops) (U64 b.cpls) (U64 b.off) [I6 (i:Int)] []=some (if vu x (kY b.stops.els i)=0 then(.normal,[I6 ((i+1:Nat):Int)],[]) else(.ret,[Bo false],[])):=by simp only[zpL,zz,zj,zb,jX h1,zn,if_true,yc h,xE,c,zX,jD,zy5,ea];by_cases hz:vu x (kY b.stops.els i)=0<;>simp[hz]
  by_cases hc:vu x (kY b.stops.els i)=0
  ·rw[Yzd hc]at body;rw[zH body,ih (i+1) (zP h)];simp[wU,hc]
  ·rw[Yzb hc]at body;rw[zB body];simp[wU,hc]
def qQ(a b:Reg):Bool:=wU b.stops.els a.stops.els 0&&(vu a.cpls b.cpls==0)&&(vu a.off b.off==0)
theorem t18(k:Nat)(a b:Reg)(ha:zgH a):D (k+2) 18 [SA (yz a),SA (yz b)]=some (S1 (Bo (qQ a b))):=by
 have l:=l18 k a b ha a.stops.els 0 rfl;unfold yz;rw[D18];unfold P18 qQ;simp only[zD,zb];rw[show (I6 0:DV)=I6 ((0:Nat):Int) from rfl,l];cases wU b.stops.els a.stops.els 0 with
 |false=>rfl
 |true=>simp only[if_true,yq,Yzp,Yza,jD,zb,zO,zn,Yye];cases vu a.cpls b.cpls==0<;>rfl
def zDz(l:List Reg):Nat→Option Reg
 |0=>none
 |j+1=>l[j]?
def zEN(o:Org):Option Reg→List Reg→Int
 |_,[]=>0
 |p,r::l=>if yB o r≠0 then yB o r else if p.any (fun q=>!qQ q r)=true then 6 else zEN o (some r) l
def zEn(o:Org)(l:List Reg):Int:=if jS o≠0 then jS o else if 100<l.length then 4 else zEN o none l
theorem l16(k:Nat)(o:Org)(ho:o.ok)(l:Sl Reg)(hl:l.els.length≤9223372036854775807)(hr:∀r∈l.els,zgH r):∀(r:List Reg) (i:Nat),l.els.drop i=r→
  zA (zEc (D (k+10)) (I6 (l.els.length:Int)) (enL 3 yz l) (St o.name) (enL 6 enR o.ranks) (enL 5 enV o.divs) (enL 5 enC o.cpls)) [I6 (i:Int)] []=some (zpT 0 (zEN o (zDz l.els i) r)):=by
 intro r
 induction r with
 |nil=>intro i h;refine zu ?_;simp only[zEc,zz,zj,zb,xY (ya h),zn];rfl
 |cons x r ih=>
  intro i h;have h1:=yH h;have ea:zc .add (I6 (i:Int)) (I6 1)=some (I6 ((i+1:Nat):Int)):=yQ;have c:=t10 k o ho x;simp only[enO,yz]at c;have body:zEc (D (k+10)) (I6 (l.els.length:Int)) (enL 3 yz l) (St o.name) (enL 6 enR o.ranks) (enL 5 enV o.divs) (enL 5 enC o.cpls) [I6 (i:Int)] [] =
    some (if yB o x≠0 then(.ret,[I6 (yB o x)],[]) else if (zDz l.els i).any (fun q=>!qQ q x)=true then(.ret,[I6 6],[]) else(.normal,[I6 ((i+1:Nat):Int)],[])):=by
   simp only[zEc,zz,zj,zb,jX h1,zn,if_true,yc h,yz,xE,vh,c,zX,zU,yE,ea];by_cases hz:yB o x=0
   ·cases i with
    |zero=>simp[hz,zDz]
    |succ j=>
     obtain⟨q,hq⟩:∃q,l.els[j]? = some q:=⟨_,Lz5 (by omega)⟩;have h2:(0:Int)<((j+1:Nat):Int):=by omega
     have es:zc .sub (I6 ((j+1:Nat):Int)) (I6 1)=some (I6 (((j+1:Nat):Int)-1)):=zmK;have e1:((j+1:Nat):Int)-1=(j:Int):=by omega
     rw[e1]at es;have ix:yW 3 (enL 3 yz l) (I6 (j:Int))=some (yz q):=by rw[jB,hq];rfl
     have cw:=t18 (k+8) q x (hr q (Lz3 hq));simp only[yz]at cw;simp only[hz,zDz,hq,Option.any_some,h2,decide_true,if_true,es,zb,ix,yz,vh,xE,cw,zX,yY,Yzu,Yyf,Yzh,if_false,ne_eq,not_true_eq_false,zn];cases qQ q x<;>rfl
   ·simp[hz]
  have hp:zDz l.els (i+1)=some x:=xa h;unfold zEN;by_cases a1:yB o x≠0
  ·rw[Yzd a1]at body ⊢;rw[zB body];unfold zpT;rw[Yzd a1]
  rw[Yzb a1]at body ⊢;by_cases a2:(zDz l.els i).any (fun q=>!qQ q x)=true
  ·rw[Yzd a2]at body ⊢;rw[zB body];rfl
  rw[Yzb a2]at body ⊢;rw[zH body,ih (i+1) (zP h),hp]
theorem t16(k:Nat)(o:Org)(ho:o.ok)(l:Sl Reg)(hl:l.els.length≤9223372036854775807)(hr:∀r∈l.els,zgH r):D (k+11) 16 [SA (enO o),S1 (enL 3 yz l)]=some (S1 (I6 (zEn o l.els))):=by
 have c:=t27 (k+1) o ho;have ll:=l16 k o ho l hl hr l.els 0 rfl;unfold enO at c ⊢;rw[D16];unfold P16 zEn;simp only[c,zX,zU,zb,zn,zD,yE];by_cases h1:jS o=0
 ·by_cases h2:100<l.els.length
  ·have h3:(100:Int)<(l.els.length:Int):=by omega
   simp[h1,h2,h3]
  ·have h3:¬((100:Int)<(l.els.length:Int)):=by omega
   rw[show (I6 0:DV)=I6 ((0:Nat):Int) from rfl,ll,show zDz l.els 0=none from rfl];unfold zpT;by_cases h4:zEN o none l.els=0<;>simp[h1,h2,h3,h4]
 ·simp[h1]
end Go.Proofs.Tryz.Kn
end
section
namespace Go.Proofs.Tryz.Kn
open Go Go.CE Go.PE
open Classical in
noncomputable def zDe(o:Org)(r:Reg)(n:Nat)(key:Int):List Zq:=
 if h:∃l:List Zq,l.Pairwise ltP∧∀y,y∈l↔zDR o r ⟨(n:Int),key⟩ y then Classical.choose h else[]
theorem jh{o:Org}{r:Reg}{n:Nat}{key:Int}{v:Sl Zq}(h:zFg o r n key v):v.els=zDe o r n key:=by have hex:∃l:List Zq,l.Pairwise ltP∧∀y,y∈l↔zDR o r ⟨(n:Int),key⟩ y:=⟨v.els,h.2⟩;unfold zDe;rw[dif_pos hex];have hc:=Classical.choose_spec hex;exact zDj _ _ h.2.1 hc.1 fun y=>(h.2.2 y).trans (hc.2 y).symm
def zDg(f:Nat→Int→Bool)(n:Nat):Nat→Int→Bool
 |0,_=>false
 |m+1,key=>f n key||zDg f n m (key+1)
def zDo(f:Nat→Int→Bool):List Zo→Nat→Bool
 | [],_=>false
 |d::r,n=>zDg f n (d.high-d.low+1).toNat d.low||zDo f r (n+1)
noncomputable def zEe(o:Org)(a b:Reg)(n:Nat)(key:Int):Bool:=(zDe o b n key).any fun p=>!decide (p∈zDe o a n key)
noncomputable def zER(o:Org)(a b:Reg):Bool:=zDo (zEe o a b) o.divs.els 0
theorem zD2{o:Org}{n:Nat}{d:Zo}{key:Int}(hd:o.divs.els[n]? = some d)(h1:d.low≤key)(h2:key≤d.high):inR o ⟨(n:Int),key⟩=true:=jf.2 ⟨n,d,rfl,hd,h1,h2⟩
section
variable {o:Org} (ho:o.ok) (h0:jS o=0) {a b:Reg} (FA:Fit o a) (FB:Fit o b) (ha:yB o a=0) (hb:yB o b=0)
include ho h0 FA FB ha hb
end
section
variable {o:Org} (ho:o.ok) (h0:jS o=0) (hF:∀r:Reg,yB o r=0→Fit o r)
include ho h0 hF
end
end Go.Proofs.Tryz.Kn
end
section
namespace Go.Proofs.Tryz.Kn
open Go Go.CE Go.PE
theorem zzY(s:Sl Int)(hs:s.els.length≤1000):∀(r:List Int) (i:Nat),s.els.drop i=r→
  zA (zrQ (enL 1 enU s) (enL 1 enU s)) [I6 (i:Int)] []=some (.exit 0,[],[]):=by
 intro r
 induction r with
 |nil=>intro i h;refine zu ?_;simp only[zrQ,zz,zD,zj,zb,xY (ya h),zn];rfl
 |cons x r ih=>intro i h;have hlt:=yH h;have ea:zc .add (I6 (i:Int)) (I6 1)=some (I6 ((i+1:Nat):Int)):=yQ;rw[zH (by simp only[zrQ,zz,zD,zj,zb,jX hlt,zn,if_true,yc h,xE,zU,Yzu,Yyf,Yzh,if_false,ea];rfl),ih (i+1) (zP h)]
theorem t13(k:Nat)(r:Reg)(hs:r.stops.els.length≤1000):D (k+1) 13 [SA (yz r),SA (yz r)]=some (S1 (Bo true)):=by have:=zzY r.stops hs r.stops.els 0 rfl;rw[show (I6 ((0:Nat):Int):DV)=I6 0 from rfl]at this;unfold yz;rw[D13];unfold P13;simp only[zD,zb,zU,Yzu,Yyf,zn,Yzh,if_false,this,yq,Yzp,Yza]
end Go.Proofs.Tryz.Kn
end
section
namespace Go.Proofs.Tryz.Kn
open Go Go.CE Go.PE
theorem zEL(p:Pln)(hf:zfP p=true)(r:Reg)(hr:r.stops.els.length=(zmp p).divs.els.length):Fit (zmp p) r:=by have F:=zFt p hf fun _=>0;exact⟨F.dl,F.cl,F.sl,F.rng,F.dst,F.shf,F.stp,F.sml,hr⟩
theorem zDO{o:Org}{r:Reg}(h0:jS o=0)(h:yB o r=0):r.stops.els.length=o.divs.els.length:=by unfold yB at h;rw[Yzb (by simp[h0])]at h;refine Classical.not_not.1 fun hne=>?_;rw[Yzd hne]at h;cases h
theorem zEq{β:Type}(a b:DV)(K:List DS→Option β):bT [none,none] (some (.tup [.one a,.one b])) K=K [.one a,.one b]:=rfl
end Go.Proofs.Tryz.Kn
end
section
namespace Go.Proofs.Tryz.Kn
open Go Go.CE Go.PE
theorem zFq(p:Zq)(l:Sl Zq)(hl:l.els.length≤1000):∀(r:List Zq) (i:Nat),l.els.drop i=r→
  zA (zD9 (enL 2 zBt l) (I6 p.rank) (I6 p.num)) [I6 (i:Int)] []=some (if p∈r then(.ret,[Bo true],[]) else(.exit 0,[],[])):=by
 intro r
 induction r with
 |nil=>intro i h;refine zu ?_;simp only[zD9,zz,zD,zj,zb,xY (ya h),zn];rfl
 |cons x r ih=>
  intro i h;have hlt:=yH h;have ea:zc .add (I6 (i:Int)) (I6 1)=some (I6 ((i+1:Nat):Int)):=yQ;have eq:=jw x p;have body:zD9 (enL 2 zBt l) (I6 p.rank) (I6 p.num) [I6 (i:Int)] []=some (if x=p then(.ret,[Bo true],[]) else(.normal,[I6 ((i+1:Nat):Int)],[])):=by simp only[zD9,zz,zD,zj,zb,jX hlt,zn,if_true,yc h,zBt,xE,vh,eq,ea,YzD];by_cases hc:x=p<;>simp[hc]
  by_cases hc:x=p
  ·rw[Yzd hc]at body;rw[zB body,Yzd (by rw[hc];exact Yzg ..)]
  ·rw[Yzb hc]at body;rw[zH body,ih (i+1) (zP h)];have:p∈x::r↔p∈r:=by
    rw[Yzw];exact⟨fun h=>h.resolve_left fun e=>hc e.symm,.inr⟩
   simp only[this]
theorem t41(k:Nat)(p:Zq)(l:Sl Zq)(hl:l.els.length≤1000):D (k+1) 41 [S1 (enL 2 zBt l),SA [I6 p.rank,I6 p.num]]=some (S1 (Bo (decide (p∈l.els)))):=by have:=zFq p l hl l.els 0 rfl;rw[show (I6 ((0:Nat):Int):DV)=I6 0 from rfl]at this;rw[D41];unfold P41;rw[this];by_cases h:p∈l.els<;>simp[h]
theorem zEW(k:Nat)(v w:Sl Zq)(hv:v.els.length≤1000)(hw:w.els.length≤1000):∀(r:List Zq) (i:Nat),w.els.drop i=r→
  zA (zDv (D (k+1)) (I6 (w.els.length:Int)) [.one (enL 2 zBt w),.one (I6 0)] [.one (enL 2 zBt v),.one (I6 0)]) [I6 (i:Int)] []=some (if (r.any fun x=>!decide (x∈v.els))=true then(.ret,[Bo true],[]) else(.exit 4,[],[])):=by
 intro r
 induction r with
 |nil=>intro i h;refine zu ?_;simp only[zDv,zz,zj,zb,xY (ya h),zn];rfl
 |cons x r ih=>
  intro i h;have hlt:=yH h;have ea:zc .add (I6 (i:Int)) (I6 1)=some (I6 ((i+1:Nat):Int)):=yQ;have c:=t41 k x v hv;have body:zDv (D (k+1)) (I6 (w.els.length:Int)) [.one (enL 2 zBt w),.one (I6 0)] [.one (enL 2 zBt v),.one (I6 0)] [I6 (i:Int)] []=some (if x∈v.els then(.normal,[I6 ((i+1:Nat):Int)],[]) else(.ret,[Bo true],[])):=by simp only[zDv,zz,zj,zb,jX hlt,zn,if_true,zkB,zf3,yc h,zBt,xE,vh,c,zX,yY,ea];by_cases hc:x∈v.els<;>simp[hc]
  by_cases hc:x∈v.els
  ·rw[Yzd hc]at body;rw[zH body,ih (i+1) (zP h)];simp[hc]
  ·rw[Yzb hc]at body;rw[zB body];simp[hc]
section
variable {o:Org} (ho:o.ok) (h0:jS o=0) {a b:Reg} (FA:Fit o a) (FB:Fit o b) (ha:yB o a=0) (hb:yB o b=0)
include ho h0 FA FB ha hb
theorem zFn(k n:Nat)(d:Zo)(hd:o.divs.els[n]? = some d):∀(m:Nat) (key:Int),key+(m:Int)=d.high+1→d.low≤key→
  zA (zEa (D (k+13)) (enL 5 enV o.divs) [I6 (n:Int)] (St o.name) (enL 6 enR o.ranks) (enL 5 enC o.cpls) (enL 1 enU a.stops) (U64 a.cpls) (U64 a.off) (enL 1 enU b.stops) (U64 b.cpls) (U64 b.off)) [I6 key] []=some (if zDg (zEe o a b) n m key=true then(.ret,[Bo true],[]) else(.exit 2,[],[])):=by
 have rng:=FA.rng d (Lz3 hd);have ix:yW 5 (enL 5 enV o.divs) (I6 (n:Int))=some (enV d):=by rw[jB,hd];rfl
 have d3:atD (enV d) 3=I6 d.high:=rfl;intro m
 induction m with
 |zero=>intro key h _;refine zu ?_;simp only[zEa,zz,ix,d3,zcd,zb,decide_eq_false (show ¬key≤d.high by omega),zn];rfl
 |succ m ih=>
  intro key h h1;have hin:=zD2 hd h1 (by omega);obtain⟨v,cv,tv⟩:=t40 FA k ho h0 ha n key hin;obtain⟨w,cw,tw⟩:=t40 FB k ho h0 hb n key hin;have cf:=zEW (k+12) v w tv.1 tw.1 w.els 0 rfl;rw[show (I6 ((0:Nat):Int):DV)=I6 0 from rfl,jh tv,jh tw]at cf;have ea:zc .add (I6 key) (I6 1)=some (I6 (key+1)):=yQ;unfold enO yz at cv cw;have body:zEa (D (k+13)) (enL 5 enV o.divs) [I6 (n:Int)] (St o.name) (enL 6 enR o.ranks) (enL 5 enC o.cpls) (enL 1 enU a.stops) (U64 a.cpls) (U64 a.off) (enL 1 enU b.stops) (U64 b.cpls) (U64 b.off) [I6 key] []=some (if zEe o a b n key=true then(.ret,[Bo true],[]) else(.normal,[I6 (key+1)],[])):=by unfold zEe;rw[←jh tw]at cf ⊢;simp only[zEa,zz,ix,d3,zcd,zb,decide_eq_true (show key≤d.high by omega),zn,if_true,cv,cw,zEq,zkB,zf3,zD,cf,ea];split<;>rfl
  by_cases hc:zEe o a b n key=true
  ·rw[Yzd hc]at body;rw[zB body];simp[zDg,hc]
  ·rw[Yzb hc]at body;rw[zH body,ih (key+1) (by omega) (by omega)];simp[zDg,hc]
theorem zFr(k:Nat):∀(r:List Zo) (i:Nat),o.divs.els.drop i=r→
  zA (zEb (D (k+13)) (enL 5 enV o.divs) (St o.name) (enL 6 enR o.ranks) (enL 5 enC o.cpls) (enL 1 enU a.stops) (U64 a.cpls) (U64 a.off) (enL 1 enU b.stops) (U64 b.cpls) (U64 b.off)) [I6 (i:Int)] []=some (if zDo (zEe o a b) r i=true then(.ret,[Bo true],[]) else(.exit 0,[],[])):=by
 have hdl:=FA.dl;intro r
 induction r with
 |nil=>intro i h;refine zu ?_;simp only[zEb,zz,zD,zj,zb,xY (ya h),zn];rfl
 |cons d r ih=>
  intro i h;have hlt:=yH h;have rng:=FA.rng d (Lz3 (xa h));have ea:zc .add (I6 (i:Int)) (I6 1)=some (I6 ((i+1:Nat):Int)):=yQ;have l9:=zFn ho h0 FA FB ha hb k i d (xa h) (d.high-d.low+1).toNat d.low (by omega) (by omega);have d2:atD (enV d) 2=I6 d.low:=rfl;have body:zEb (D (k+13)) (enL 5 enV o.divs) (St o.name) (enL 6 enR o.ranks) (enL 5 enC o.cpls) (enL 1 enU a.stops) (U64 a.cpls) (U64 a.off) (enL 1 enU b.stops) (U64 b.cpls) (U64 b.off) [I6 (i:Int)] []=some (if zDg (zEe o a b) i (d.high-d.low+1).toNat d.low=true then(.ret,[Bo true],[]) else(.normal,[I6 ((i+1:Nat):Int)],[])):=by
   simp only[zEb,zz,zD,zj,zb,jX hlt,zn,if_true,yc h,d2,l9];split
   ·rfl
   ·simp only[yq,Yzp,Yza,ea,zb]
  by_cases hc:zDg (zEe o a b) i (d.high-d.low+1).toNat d.low=true
  ·rw[Yzd hc]at body;rw[zB body];simp[zDo,hc]
  ·rw[Yzb hc]at body;rw[zH body,ih (i+1) (zP h)];simp[zDo,hc]
theorem t19(k:Nat):D (k+14) 19 [SA (enO o),SA (yz a),SA (yz b)]=some (S1 (Bo (zER o a b))):=by have l2:=zFr ho h0 FA FB ha hb k o.divs.els 0 rfl;rw[show (I6 ((0:Nat):Int):DV)=I6 0 from rfl]at l2;unfold enO yz zER;rw[D19];unfold P19;rw[l2];cases zDo (zEe o a b) o.divs.els 0<;>rfl
end
section
variable {o:Org} (ho:o.ok) (h0:jS o=0) {r:Reg} (F:Fit o r) (hr:yB o r=0) (p:Zq)
include ho h0 F hr
end
section
variable {o:Org} (ho:o.ok) (h0:jS o=0) (hF:∀r:Reg,yB o r=0→Fit o r)
include ho h0 hF
end
end Go.Proofs.Tryz.Kn
end
section
namespace Go.Proofs.Tryz.Kn
open Go Go.CE Go.PE
def orI(a b:Int):Int:=IntKind.wrap .u64 (BitVec.ofInt IntKind.u64.bits a ||| BitVec.ofInt IntKind.u64.bits b).toNat
theorem zbe(a b:Int):zc .or (U64 a) (U64 b)=some (U64 (orI a b)):=by rfl
def sm(x:Int):Prop:=0≤x∧x<8
theorem zEQ:((List.range 256).all fun x=>[0,1,2,3].all fun n=>decide (0≤zvq (x:Int) (ke n))&&decide (zvq (x:Int) (ke n)<8))=true:=by kernel_rfl
theorem zDT{x n:Nat}(hx:x<256)(hn:n≤3):sm (zvq (x:Int) (ke n)):=by
 have h:=YzL.1 (YzL.1 zEQ x (List.mem_range.2 hx)) n (by grind)
 rw[LzC,YzD,YzD]at h;exact h
theorem zEU:((List.range 8).all fun x=>(List.range 8).all fun y=>decide (0≤orI (x:Int) (y:Int))&&decide (orI (x:Int) (y:Int)<8)&&(vu (y:Int) (orI (x:Int) (y:Int))==0)&&[0,1,2,3].all fun n=>!(zh7 (x:Int) n==0&&zh7 (y:Int) n==0)||zh7 (orI (x:Int) (y:Int)) n==0)=true:=by kernel_rfl
theorem zDV{x y:Int}(hx:sm x)(hy:sm y):sm (orI x y)∧vu y (orI x y)=0∧∀n,n≤3→zh7 x n=0→zh7 y n=0→zh7 (orI x y) n=0:=by
 obtain⟨a,rfl⟩:∃a:Nat,x=(a:Int):=⟨x.toNat,by have:=hx.1;omega⟩;obtain⟨b,rfl⟩:∃b:Nat,y=(b:Int):=⟨y.toNat,by have:=hy.1;omega⟩;have h:=YzL.1 (YzL.1 zEU a (List.mem_range.2 (by have:=hx.2;omega))) b (List.mem_range.2 (by have:=hy.2;omega));rw[LzC,LzC,LzC,YzD,YzD,beq_iff_eq]at h;obtain⟨⟨⟨h1,h2⟩,h3⟩,h4⟩:=h;refine⟨⟨h1,h2⟩,h3,fun n hn e1 e2=>?_⟩;have h5:=YzL.1 h4 n (by grind);rw[e1,e2]at h5
 simpa using h5
def orL:List Int→List Int→List Int
 |x::r,y::s=>orI x y::orL r s
 |_,_=>[]
def jr(a r:Reg):Reg:=⟨grow (orL r.stops.els a.stops.els),orI r.cpls a.cpls,orI r.off a.off⟩
theorem zDB:∀(r s:List Int),r.length=s.length→(orL r s).length=r.length
 | [],_,_=>rfl
 |_::_,[],h=>by cases h
 |x::r,y::s,h=>by simp only[Yzm,Nat.add_right_cancel_iff]at h;simp only[orL,Yzm,zDB r s h]
theorem zDC:∀(r s:List Int) (i:Nat) (x y:Int),r[i]? = some x→s[i]? = some y→(orL r s)[i]? = some (orI x y)
 | [],_,_,_,_,h,_=>by cases h
 |_::_,[],_,_,_,_,h=>by cases h
 |a::r,b::s,0,x,y,h,h'=>by cases h;cases h';rfl
 |a::r,b::s,i+1,x,y,h,h'=>zDC r s i x y h h'
theorem zEw:∀(r s:List Int),(∀x∈r,sm x)→(∀x∈s,sm x)→∀x∈orL r s,sm x
 | [],_,_,_,_,h=>by cases h
 |_::_,[],_,_,_,h=>by cases h
 |a::r,b::s,h1,h2,x,h=>by
  rcases Yzw.1 h with rfl|h
  ·exact(zDV (h1 a (Yzg ..)) (h2 b (Yzg ..))).1
  ·exact zEw r s (fun x hx=>h1 x (Yze _ hx)) (fun x hx=>h2 x (Yze _ hx)) x h
theorem zDH:∀(ds:List Zo) (r s:List Int),(∀d∈ds,d.stops.els.length≤3)→(∀x∈r,sm x)→(∀x∈s,sm x)→qG ds r=false→qG ds s=false→qG ds (orL r s)=false
 | [],_,_,_,_,_,_,_=>by simp[qG]
 |_::_,[],_,_,_,_,_,_=>rfl
 |_::_,_::_,[],_,_,_,_,_=>rfl
 |d::ds,x::r,y::s,hd,h1,h2,e1,e2=>by
  rw[qG,Bool.or_eq_false_iff]at e1 e2;have a1:zh7 x d.stops.els.length=0:=by have:=e1.1;simpa using this
  have a2:zh7 y d.stops.els.length=0:=by have:=e2.1;simpa using this
  have a3:=(zDV (h1 x (Yzg ..)) (h2 y (Yzg ..))).2.2 _ (hd d (Yzg ..)) a1 a2;rw[orL,qG,a3,zDH ds r s (fun x hx=>hd x (Yze _ hx)) (fun x hx=>h1 x (Yze _ hx)) (fun x hx=>h2 x (Yze _ hx)) e1.2 e2.2];rfl
theorem zC6(r s:List Int)(hr:∀x∈r,sm x)(hs:∀x∈s,sm x)(hl:r.length=s.length):∀(l:List Int) (i:Nat),s.drop i=l→wU (orL r s) l i=true
 | [],_,_=>rfl
 |y::l,i,h=>by have hi:=yH h;have hy:=xa h;obtain⟨x,hx⟩:∃x,r[i]? = some x:=⟨_,Lz5 (by omega)⟩;have:=(zDV (hr x (Lz3 hx)) (hs y (Lz3 hy))).2.1;rw[wU,zC6 r s hr hs hl l (i+1) (zP h),kY,zDC r s i x y hx hy,Yz2,this];rfl
structure Sm (o:Org) (r:Reg):Prop where
 ok:yB o r=0
 len:r.stops.els.length=o.divs.els.length
 st:∀x∈r.stops.els,sm x
 c:sm r.cpls
 f:sm r.off
structure Small (o:Org):Prop where
 h0:jS o=0
 hd:o.divs.els.length≤3
 hs:∀d∈o.divs.els,d.stops.els.length≤3
 hc:o.cpls.els.length≤3
section
variable {o:Org} (H:Small o)
include H
theorem Sm.or{a r:Reg}(A:Sm o a)(R:Sm o r):Sm o (jr a r)∧qQ a (jr a r)=true:=by
 have he:=R.len.trans A.len.symm;have hl:=zDB _ _ he;have cc:=zDV R.c A.c;have cf:=zDV R.f A.f;have ea:=A.ok;have er:=R.ok;unfold yB at ea er;rw[Yzb (by simp[H.h0]),Yzb (by simp[A.len])]at ea;rw[Yzb (by simp[H.h0]),Yzb (by simp[R.len])]at er;have n3:(3:Int)≠0:=by decide
 have a1:qG o.divs.els a.stops.els=false:=by
  cases h:qG o.divs.els a.stops.els with
  |false=>rfl
  |true=>rw[Yzd h]at ea;exact absurd ea n3
 have r1:qG o.divs.els r.stops.els=false:=by
  cases h:qG o.divs.els r.stops.els with
  |false=>rfl
  |true=>rw[Yzd h]at er;exact absurd er n3
 rw[Yzb (by simp[a1])]at ea;rw[Yzb (by simp[r1])]at er;have a2:zh7 a.cpls o.cpls.els.length=0:=Classical.not_not.1 fun h=>by rw[Yzd h]at ea;exact n3 ea
 have r2:zh7 r.cpls o.cpls.els.length=0:=Classical.not_not.1 fun h=>by rw[Yzd h]at er;exact n3 er
 rw[Yzb (by simp[a2])]at ea;rw[Yzb (by simp[r2])]at er;have a3:zh7 a.off o.divs.els.length=0:=Classical.not_not.1 fun h=>by rw[Yzd h]at ea;exact n3 ea
 have r3:zh7 r.off o.divs.els.length=0:=Classical.not_not.1 fun h=>by rw[Yzd h]at er;exact n3 er
 have els:(jr a r).stops.els=orL r.stops.els a.stops.els:=zK _;refine⟨⟨?_,by rw[els,hl,R.len],by rw[els];exact zEw _ _ R.st A.st,cc.1,cf.1⟩,?_⟩
 ·unfold yB;rw[Yzb (by simp[H.h0]),els,Yzb (by simp[hl,R.len]),zDH _ _ _ H.hs R.st A.st r1 a1];rw[Yzb (by simp),Yzb (by simp[jr,cc.2.2 _ H.hc r2 a2]),Yzb (by simp[jr,cf.2.2 _ H.hd r3 a3])]
 ·unfold qQ;rw[els,zC6 _ _ R.st A.st he a.stops.els 0 rfl];simp[jr,cc.2.1,cf.2.1]
theorem Sm.drawn(b:Nat→Nat)(hb:∀i,b i<256):Sm o (ja o b):=by
 have go:∀(l:List Zo) (i:Nat),(∀d∈l,d.stops.els.length≤3)→∀x∈jg b i l,sm x:=by
  intro l
  induction l with
  |nil=>intro i _ x hx;cases hx
  |cons d l ih=>
   intro i h x hx;rcases Yzw.1 hx with rfl|hx
   ·exact zDT (hb _) (h d (Yzg ..))
   ·exact ih (i+1) (fun y hy=>h y (Yze _ hy)) x hx
 refine⟨zDm H.h0 b hb H.hd H.hs H.hc,?_,?_,zDT (hb 3) H.hc,zDT (hb 4) H.hd⟩
 ·unfold ja;rw[zK,jd]
 ·unfold ja;rw[zK];exact go _ 0 H.hs
end
section
variable {o:Org} (H:Small o)
include H
end
section
variable {o:Org} (ho:o.ok) (h0:jS o=0) (hF:∀r:Reg,yB o r=0→Fit o r)
include ho h0 hF
end
end Go.Proofs.Tryz.Kn
end
noncomputable section
namespace Go.Proofs.Tryz.Kn
open Go Go.CE Go.PE
structure SCt where
 kind:Int
 div:Int
 idx:Int
deriving DecidableEq
def xJ(c:SCt):List DV:=[I6 c.kind,I6 c.div,I6 c.idx]
def xf(s:Int):Nat→Nat→List Nat
 |0,_=>[]
 |n+1,i=>if bit s i=true then i::xf s n (i+1) else xf s n (i+1)
theorem um(s:Int):∀(n i:Nat),(xf s n i).length≤n
 |0,_=>LzB _
 |n+1,i=>by
  have:=um s n (i+1);unfold xf;split
  ·simp only[Yzm];omega
  ·omega
def FB(mk:DV→List DV)(v:DV)(L:List DV)(M:List OC):Option PX:=
 za (zc .lss (zf L 0) (I6 64)) fun v2=>ifB v2
  (za (z7 false v (zf L 0)) fun v3 => za (zc .and v3 (U64 1)) fun v4 => za (zc .eql v4 (U64 1)) fun v5 => ifB v5
   (gd (fits 24 (xR (zt M 0)+1)) (za (zc .add (zf L 0) (I6 1)) fun v6=>some (.normal,[v6],[some (zG (zt M 0)++[mk (zf L 0)])])))
   (za (zc .add (zf L 0) (I6 1)) fun v7=>some (.normal,[v7],[zt M 0])))
  (some (.exit 0,[],[zt M 0]))
theorem lFB{mk:DV→List DV}{f:Nat→SCt}(hmk:∀i:Nat,mk (I6 (i:Int))=xJ (f i))(s:Int):∀(n i:Nat) (acc:List SCt),i+n=64→acc.length+n≤100000→
  zA (FB mk (U64 s)) [I6 (i:Int)] [ocL xJ (grow acc)]=some (.exit 0,[],[ocL xJ (grow (acc++(xf s n i).map f))]):=by
 intro n
 induction n with
 |zero=>intro i acc h _;refine zu ?_;have e:decide ((i:Int)<64)=false:=decide_eq_false (by omega);simp only[FB,zz,yM,zj,zb,e,zn,xf,List.map_nil,Yz5];rfl
 |succ n ih=>
  intro i acc h ha;have e:decide ((i:Int)<64)=true:=decide_eq_true (by omega);have ea:zc .add (I6 (i:Int)) (I6 1)=some (I6 ((i+1:Nat):Int)):=yQ;have ef:fits 24 ((grow acc).els.length+1)=true:=wH (by decide) (by rw[zK];omega);have hp:(some ((grow acc).els.map xJ++[mk (I6 (i:Int))]):OC)=ocL xJ (grow (acc++[f i])):=by rw[hmk,wi,←vJ]
  have body:FB mk (U64 s) [I6 (i:Int)] [ocL xJ (grow acc)]=some (.normal,[I6 ((i+1:Nat):Int)],[ocL xJ (grow (if bit s i=true then acc++[f i] else acc))]):=by
   by_cases hb:bit s i=true
   ·have hb':(zvq (zh7 s i) 1==1)=true:=hb;rw[Yzd hb];simp only[FB,zz,yM,zj,zb,e,zn,if_true,zvd,zce,zzd,Yzd hb',xZ,ef,kR,ea,x9,hp]
   ·have hb':¬(zvq (zh7 s i) 1==1)=true:=hb;rw[Yzb hb];simp only[FB,zz,yM,zj,zb,e,zn,if_true,zvd,zce,zzd,Yzb hb',ea]
  rw[zH body];by_cases hb:bit s i=true
  ·rw[Yzd hb,ih (i+1) (acc++[f i]) (by omega) (by simp only[Yzq,Yzm,YzJ];omega),xf,Yzd hb];simp
  ·rw[Yzb hb,ih (i+1) acc (by omega) (by omega),xf,Yzb hb]
theorem zAo(x L:List DV):zsF x L=FB (fun i=>[I6 1,zf L 0,i]) (atD x 0):=rfl
theorem zAn(v:DV):zhJ v=FB (fun i=>[I6 2,I6 0,i]) v:=rfl
theorem zAm(v:DV):zhI v=FB (fun i=>[I6 3,i,I6 0]) v:=rfl
def vW:List Int→Nat→List SCt
 | [],_=>[]
 |s::r,i=>(xf s 64 0).map (fun j=>⟨1,(i:Int),(j:Int)⟩)++vW r (i+1)
theorem za8:∀(r:List Int) (i:Nat),(vW r i).length≤64*r.length
 | [],_=>LzB _
 |s::r,i=>by have:=za8 r (i+1);have:=um s 64 0;simp only[vW,Yzq,Yzj,Yzm];omega
theorem ztQ(st:Sl Int)(hl:st.els.length≤10):∀(r:List Int) (i:Nat) (acc:List SCt),st.els.drop i=r→acc.length≤64*i→
  zA (zmm (I6 (st.els.length:Int)) (enL 1 enU st)) [I6 (i:Int)] [ocL xJ (grow acc)]=some (.exit 0,[],[ocL xJ (grow (acc++vW r i))]):=by
 intro r
 induction r with
 |nil=>intro i acc h _;refine zu ?_;simp only[zmm,zz,yM,zj,zb,xY (ya h),zn,vW,Yz5];rfl
 |cons x r ih=>intro i acc h ha;have h1:=yH h;have ea:zc .add (I6 (i:Int)) (I6 1)=some (I6 ((i+1:Nat):Int)):=yQ;have c:=lFB (mk:=fun v=>[I6 1,I6 (i:Int),v]) (f:=fun j=>⟨1,(i:Int),(j:Int)⟩) (fun _=>rfl) x 64 0 acc rfl (by omega);rw[show (I6 ((0:Nat):Int):DV)=I6 0 from rfl]at c;have hb:=um x 64 0;rw[zH (by simp only[zmm,zz,yM,zj,zb,jX h1,zn,if_true,yc h,zAo,enU,xE,c,yq,Yzp,Yza,ea];rfl),ih (i+1) _ (zP h) (by simp only[Yzq,Yzj];omega),vW,YzG]
def yn(r:Reg):List SCt:=vW r.stops.els 0++(xf r.cpls 64 0).map (fun j=>⟨2,0,(j:Int)⟩)++(xf r.off 64 0).map (fun j=>⟨3,(j:Int),0⟩)
theorem zos(r:Reg)(hl:r.stops.els.length≤10):zA (zhJ (U64 r.cpls)) [I6 0] [ocL xJ (grow (vW r.stops.els 0))]=some (.exit 0,[],[ocL xJ (grow (vW r.stops.els 0++(xf r.cpls 64 0).map (fun j=>⟨2,0,(j:Int)⟩)))]):=by rw[zAn];have:=za8 r.stops.els 0;exact lFB (fun _=>rfl) r.cpls 64 0 _ rfl (by omega)
theorem zor(r:Reg)(hl:r.stops.els.length≤10):zA (zhI (U64 r.off)) [I6 0] [ocL xJ (grow (vW r.stops.els 0++(xf r.cpls 64 0).map (fun j=>⟨2,0,(j:Int)⟩)))]=some (.exit 0,[],[ocL xJ (grow (yn r))]):=by rw[zAm];have:=za8 r.stops.els 0;have:=um r.cpls 64 0;exact lFB (fun _=>rfl) r.off 64 0 _ rfl (by simp only[Yzq,Yzj];omega)
theorem zuH(a b:SCt):zmq [1,1,1] [I6 a.kind,I6 a.div,I6 a.idx] [I6 b.kind,I6 b.div,I6 b.idx]=some (decide (a=b)):=by
 cases a with|mk r s t=>
 cases b with|mk r' s' t'=>
 simp only[zmq,eqD,xu,Yza,jU];by_cases h1:r=r'
 ·by_cases h2:s=s'
  ·by_cases h3:t=t'
   ·grind
   ·have e3:(t==t')=false:=by grind
    simp[h1,h2,h3,e3]
  ·have e2:(s==s')=false:=by grind
   simp[h1,h2,e2]
 ·have e1:(r==r')=false:=by grind
  simp[h1,e1]
theorem l58(d:SCt)(l:Sl SCt)(hl:l.els.length≤9223372036854775807):∀(r:List SCt) (i:Nat),l.els.drop i=r→
  zA (zpF (I6 (l.els.length:Int)) (enL 3 xJ l) (I6 d.kind) (I6 d.div) (I6 d.idx)) [I6 (i:Int)] []=some (found (xO (fun x=>decide (d=x)) r i)):=by
 intro r
 induction r with
 |nil=>
  intro i h;refine zu ?_
  grind[zpF,zz,zj,zb,xY,ya,zn]
 |cons x r ih=>
  intro i h;have h1:=yH h;have ea:zc .add (I6 (i:Int)) (I6 1)=some (I6 ((i+1:Nat):Int)):=yQ;have eq:=zuH d x;have body:zpF (I6 (l.els.length:Int)) (enL 3 xJ l) (I6 d.kind) (I6 d.div) (I6 d.idx) [I6 (i:Int)] []=some (if d=x then(.ret,[I6 (i:Int)],[]) else(.normal,[I6 ((i+1:Nat):Int)],[])):=by
   simp only[zpF,zz,zj,zb,jX h1,zn,if_true,yc h,xJ,xE,vh,eq,ea]
   grind
  by_cases hc:d=x
  ·rw[Yzd hc]at body;grind[zB,xO,found]
  ·rw[Yzb hc]at body;grind[zH,zP,xO]
theorem zrJ(d:SCt)(l:List SCt):(l.any fun x=>decide (d=x))=decide (d∈l):=by grind
theorem t31(k:Nat)(d:SCt)(l:Sl SCt)(hl:l.els.length≤9223372036854775807):D (k+2) 31 [S1 (enL 3 xJ l),SA [I6 d.kind,I6 d.div,I6 d.idx]]=some (S1 (Bo (decide (d∈l.els)))):=by
 have c:D (k+1) 58 [S1 (enL 3 xJ l),SA [I6 d.kind,I6 d.div,I6 d.idx]]=some (S1 (I6 (match xO (fun x=>decide (d=x)) l.els 0 with|some i=>(i:Int)|none=>-1))):=by rw[D58];unfold P58;have:=l58 d l hl l.els 0 rfl;simp only[zD,zb];rw[show (I6 0:DV)=I6 ((0:Nat):Int) from rfl,this];cases xO (fun x=>decide (d=x)) l.els 0<;>rfl
 rw[D31];unfold P31;rw[c,←zrJ,←wv (fun x=>decide (d=x)) l.els 0];cases xO (fun x=>decide (d=x)) l.els 0<;>simp_all
theorem t30(k:Nat)(d:SCt)(y:Sl SCt)(hy:y.els.length≤1000):D (k+3) 30 [SA [I6 d.kind,I6 d.div,I6 d.idx],S1 (.fp [enL 3 xJ y] 0)]=some (S1 (Bo (decide (d∈y.els)))):=by have c:=t31 k d y (by omega);rw[D30];unfold P30;rw[c];rfl
theorem l57(k:Nat)(y:Sl SCt)(hy:y.els.length≤1000)(l:Sl SCt)(hl:l.els.length≤1000):∀(r:List SCt) (i:Nat),l.els.drop i=r→
  zA (zpG (D (k+3)) (I6 (l.els.length:Int)) (enL 3 xJ l) (.fn 30 [[enL 3 xJ y]])) [I6 (i:Int)] []=some (found (xO (fun x=>decide (x∈y.els)) r i)):=by
 intro r
 induction r with
 |nil=>
  intro i h;refine zu ?_
  grind[zpG,zz,zj,zb,xY,ya,zn]
 |cons x r ih=>
  intro i h;have h1:=yH h;have ea:zc .add (I6 (i:Int)) (I6 1)=some (I6 ((i+1:Nat):Int)):=yQ;have c:zhR (D (k+3)) (.fn 30 [[enL 3 xJ y]]) [SA [I6 x.kind,I6 x.div,I6 x.idx]]=some (S1 (Bo (decide (x∈y.els)))):=t30 k x y hy;have body:zpG (D (k+3)) (I6 (l.els.length:Int)) (enL 3 xJ l) (.fn 30 [[enL 3 xJ y]]) [I6 (i:Int)] []=some (if x∈y.els then(.ret,[I6 (i:Int)],[]) else(.normal,[I6 ((i+1:Nat):Int)],[])):=by
   simp only[zpG,zz,zj,zb,jX h1,zn,if_true,yc h,xJ,xE,vh,c,zX,ea]
   grind
  by_cases hc:x∈y.els
  ·rw[Yzd hc]at body;grind[zB,xO,found]
  ·rw[Yzb hc]at body;grind[zH,zP,xO]
theorem t57(k:Nat)(y:Sl SCt)(hy:y.els.length≤1000)(l:Sl SCt)(hl:l.els.length≤1000):D (k+4) 57 [S1 (enL 3 xJ l),.s (.one (.fn 30 [[enL 3 xJ y]]))]=some (S1 (I6 (match xO (fun x=>decide (x∈y.els)) l.els 0 with|some i=>(i:Int)|none=>-1))):=by have c:=l57 k y hy l hl l.els 0 rfl;rw[show (I6 ((0:Nat):Int):DV)=I6 0 from rfl]at c;rw[D57];unfold P57;simp only[zD,zb,c];cases xO (fun x=>decide (x∈y.els)) l.els 0<;>rfl
theorem t55(k:Nat)(o:Org)(ho:o.ok)(r:Reg):D (k+11) 55 [SA (enO o),SA (yz r)]=some (S1 (I6 (yB o r))):=by
 have c:=t27 (k+1) o ho;have d:=t10 k o ho r;unfold enO at c d ⊢;unfold yz at d ⊢;rw[D55];unfold P55;rw[c,zX,zU,zb,zn,d,zX];by_cases h:jS o=0
 ·rw[Yzb (by simp[h])]
 ·rw[Yzd (by simpa using h)];unfold yB;rw[Yzd h]
end Go.Proofs.Tryz.Kn
end
noncomputable section
namespace Go.Proofs.Tryz.Kn
open Go Go.CE Go.PE
def y9(r:Reg)(c:SCt):Reg:=
 if c.kind=1 then⟨some (r.stops.els.set c.div.toNat (orI ((r.stops.els[c.div.toNat]?).getD 0) ((2^c.idx.toNat:Nat):Int))),r.cpls,r.off⟩
 else if c.kind=2 then⟨some r.stops.els,orI r.cpls ((2^c.idx.toNat:Nat):Int),r.off⟩
 else⟨some r.stops.els,r.cpls,orI r.off ((2^c.div.toNat:Nat):Int)⟩
def okC(n:Nat)(c:SCt):Prop:=(∃d i:Nat,d<n∧i<3∧c=⟨1,(d:Int),(i:Int)⟩)∨(∃i:Nat,i<3∧c=⟨2,0,(i:Int)⟩)∨(∃i:Nat,i<3∧c=⟨3,(i:Int),0⟩)
theorem zpw(r:Reg)(c:SCt):(y9 r c).stops=some (y9 r c).stops.els:=by
 unfold y9;split
 ·rfl
 split<;>rfl
theorem zgl(r:Reg)(c:SCt):(y9 r c).stops.els.length=r.stops.els.length:=by
 unfold y9;split
 ·simp
 split<;>rfl
theorem zhy:∀(l:List SCt) (r:Reg),r.stops=some r.stops.els→(l.foldl y9 r).stops=some (l.foldl y9 r).stops.els
 | [],_,h=>h
 |c::l,r,_=>zhy l (y9 r c) (zpw r c)
theorem zkT:∀(l:List SCt) (r:Reg),(l.foldl y9 r).stops.els.length=r.stops.els.length
 | [],_=>rfl
 |c::l,r=>(zkT l (y9 r c)).trans (zgl r c)
def zfu(m:Nat):Nat→Reg→List SCt→List Reg
 |n,a,[]=>if 0<n then[a] else[]
 |n,a,c::r=>if n+1=m then y9 a c::zfu m 0 (y9 a c) r else zfu m (n+1) (y9 a c) r
theorem zer(m:Nat):∀(r:List SCt) (n:Nat) (a:Reg),n<m→(0<n∨r≠[])→zfu m n a r=(r.take (m-n)).foldl y9 a::zfu m 0 ((r.take (m-n)).foldl y9 a) (r.drop (m-n))
 | [],n,a,_,h=>by have h:0<n:=h.resolve_right fun h=>h rfl;simp[zfu,h]
 |c::r,n,a,hn,_=>by
  show (if n+1=m then y9 a c::zfu m 0 (y9 a c) r else zfu m (n+1) (y9 a c) r)=_;by_cases e:n+1=m
  ·rw[Yzd e,show m-n=1 by omega];rfl
  ·obtain⟨q,hq⟩:∃q,m-n=q+1:=⟨m-n-1,by omega⟩;have hq':m-(n+1)=q:=by omega
   rw[Yzb e,zer m r (n+1) (y9 a c) (by omega) (Or.inl (by omega)),hq,hq'];rfl
def GI(n:Nat)(acc:Nat→Option (List DV))(L:List DV)(M:List OC):Option PX:=
  za (zc .lss (zf L 0) (.int .i64 (.ofNat n))) fun v2=>ifB v2
   (za (jV n (zf L 0)) fun n3=>za (acc n3) fun x4=>za (zc .eql (atD x4 0) (I6 1)) fun v5=>ifB v5
     (za (xe (zt M 0) (atD x4 1)) fun n6=>za (jW (zt M 0) n6) fun x7=>za (z7 true (U64 1) (atD x4 2)) fun v8=>za (zc .or (atD x7 0) v8) fun v9=>za (xe (zt M 0) (atD x4 1)) fun n10=>za (zgo 1 (zt M 0) n10 0 [v9]) fun w11=>za (zc .add (zf L 0) (I6 1)) fun v12=>some (.normal,[v12,zf L 1,zf L 2],[w11]))
     (za (zc .eql (atD x4 0) (I6 2)) fun v13=>ifB v13
       (za (z7 true (U64 1) (atD x4 2)) fun v14=>za (zc .or (zf L 1) v14) fun v15=>za (zc .add (zf L 0) (I6 1)) fun v16=>some (.normal,[v16,v15,zf L 2],[zt M 0]))
       (za (zc .eql (atD x4 0) (I6 3)) fun v17=>ifB v17
         (za (z7 true (U64 1) (atD x4 1)) fun v18=>za (zc .or (zf L 2) v18) fun v19=>za (zc .add (zf L 0) (I6 1)) fun v20=>some (.normal,[v20,zf L 1,v19],[zt M 0]))
         (za (zc .add (zf L 0) (I6 1)) fun v21=>some (.normal,[v21,zf L 1,zf L 2],[zt M 0])))))
   (some (.exit 5,[zf L 1,zf L 2],[zt M 0]))
theorem lGI(nd:Nat)(xs:List SCt)(hl:xs.length≤1000)(hx:∀c∈xs,okC nd c)(acc:Nat→Option (List DV))(hacc:∀i c,xs[i]? = some c→acc i=some (xJ c)):∀(r:List SCt) (i:Nat) (a:Reg),xs.drop i=r→a.stops.els.length=nd→
  zA (GI xs.length acc) [I6 (i:Int),U64 a.cpls,U64 a.off] [ocL enU (some a.stops.els)]=some (.exit 5,[U64 (r.foldl y9 a).cpls,U64 (r.foldl y9 a).off],[ocL enU (some (r.foldl y9 a).stops.els)]):=by
 intro r
 induction r with
 |nil=>intro i a h _;refine zu ?_;simp only[GI,zz,yF,yM,xy,zj,zb,xY (ya h),zn];rfl
 |cons c r ih=>
  intro i a h ha;have h1:=yH h;have hc:=xa h;have ea:zc .add (I6 (i:Int)) (I6 1)=some (I6 ((i+1:Nat):Int)):=yQ;have body:GI xs.length acc [I6 (i:Int),U64 a.cpls,U64 a.off] [ocL enU (some a.stops.els)]=some (.normal,[I6 ((i+1:Nat):Int),U64 (y9 a c).cpls,U64 (y9 a c).off],[ocL enU (some (y9 a c).stops.els)]):=by
   simp only[GI,zz,yF,yM,xy,zj,zb,jX h1,zn,if_true,zjT h1,hacc i c hc,xJ,xE,vh,zO];rcases hx c (Lz3 hc) with⟨d,j,hd,hj,rfl⟩|⟨j,hj,rfl⟩|⟨j,hj,rfl⟩
   ·obtain⟨s,hs⟩:∃s,a.stops.els[d]? = some s:=⟨_,Lz5 (by omega)⟩;have e1:xe (some (a.stops.els.map enU)) (I6 (d:Int))=some d:=jC (by rw[Yzj];omega);have e2:jW (some (a.stops.els.map enU)) d=some [U64 s]:=by
     show ((a.stops.els.map enU)[d]?)=_;rw[Lz6,hs];rfl
    have e3:z7 true (U64 1) (I6 (j:Int))=some (U64 ((2^j:Nat):Int)):=zlv (by omega);have e4:zgo 1 (some (a.stops.els.map enU)) d 0 [U64 (orI s ((2^j:Nat):Int))]=some (some ((a.stops.els.set d (orI s ((2^j:Nat):Int))).map enU)):=zzv hs (Lz4 rfl) rfl;have e5:y9 a ⟨1,(d:Int),(j:Int)⟩=⟨some (a.stops.els.set d (orI s ((2^j:Nat):Int))),a.cpls,a.off⟩:=by unfold y9;rw[Yzd rfl];simp only[YzE,hs,Yz2]
    rw[e5];simp only[Yzu,if_true,zaB,e1,e2,zb,e3,xE,zbe,e4,ea,xw]
   ·have e3:z7 true (U64 1) (I6 (j:Int))=some (U64 ((2^j:Nat):Int)):=zlv (by omega);have e5:y9 a ⟨2,0,(j:Int)⟩=⟨some a.stops.els,orI a.cpls ((2^j:Nat):Int),a.off⟩:=by
     unfold y9;rw[Yzb (by decide:¬(2:Int)=1),Yzd rfl];simp only[YzE]
    rw[e5];simp only[show ((2:Int)==1)=false from rfl,Yzu,Yzh,if_true,if_false,zb,e3,zbe,ea,xw,zn,zaB]
   ·have e3:z7 true (U64 1) (I6 (j:Int))=some (U64 ((2^j:Nat):Int)):=zlv (by omega);have e5:y9 a ⟨3,(j:Int),0⟩=⟨some a.stops.els,a.cpls,orI a.off ((2^j:Nat):Int)⟩:=by
     unfold y9;rw[Yzb (by decide:¬(3:Int)=1),Yzb (by decide:¬(3:Int)=2)];simp only[YzE]
    rw[e5];simp only[show ((3:Int)==1)=false from rfl,show ((3:Int)==2)=false from rfl,Yzu,Yzh,if_true,if_false,zb,e3,zbe,ea,xw,zn,zaB]
  rw[zH body,ih (i+1) (y9 a c) (zP h) ((zgl a c).trans ha)];rfl
theorem zrU{k:IntKind}{i n:Nat}(h:i<n):vwB (some (.int k (i:Int))) none n=some (i,n-i):=by
 show (match (bif Nat.ble i n then some i else none) with|some l=>bif Nat.beq l 0 || !Nat.beq l n then some (l,n-l) else none|none=>none)=_;have e:Nat.beq i n=false:=by
  cases hb:Nat.beq i n with
  |false=>rfl
  |true=>have:=Lz1 hb;omega
 rw[Yzf (by omega)];show (bif Nat.beq i 0 || !Nat.beq i n then some (i,n-i) else none)=_;rw[e,Bool.not_false,Bool.or_true];rfl
theorem zvt{k:IntKind}{i n:Nat}(h:i≤n):vwB none (some (.int k (i:Int))) n=some (0,i):=by show (match (bif Nat.ble i n then some i else none) with|some hh=>(match qP none 0 hh with|some l=>bif Nat.beq l 0 || !Nat.beq l hh then some (l,hh-l) else none|none=>none)|none=>none)=_;rw[Yzf h];rfl
theorem zsL{k k' k2:IntKind}{i e n:Nat}(h:i<e)(h2:e≤n):zmn (some (.int k (i:Int))) (.int k' (e:Int)) (.int k2 (e:Int)) n=some (i,e-i):=by
 show (match (bif Nat.ble e n then some e else none) with|some m=>(match (bif Nat.ble e m then some e else none) with|some hh=>(match (bif Nat.ble i hh then some i else none) with|some l=>bif Nat.beq l hh then none else some (l,hh-l)|none=>none)|none=>none)|none=>none)=_;rw[Yzf h2];show (match (bif Nat.ble e e then some e else none) with|some hh=>(match (bif Nat.ble i hh then some i else none) with|some l=>bif Nat.beq l hh then none else some (l,hh-l)|none=>none)|none=>none)=_;rw[Yzf (LzB e)];show (match (bif Nat.ble i e then some i else none) with|some l=>bif Nat.beq l e then none else some (l,e-l)|none=>none)=_;rw[Yzf (by omega)];show (bif Nat.beq i e then none else some (i,e-i))=_;have e:Nat.beq i e=false:=by
  cases hb:Nat.beq i e with
  |false=>rfl
  |true=>have:=Lz1 hb;omega
 rw[e];rfl
def GK(m:DV)(L:List DV)(M:List OC)(i:Nat)(L':List DV)(M':List OC):Option PX:=
 bif Nat.beq i 5 then(gd (fits 40 (xR (zt M 0)+1)) (za (zc .add (zf L 0) m) fun v=>some (.normal,[v,mkL 1 (zt M' 0),zf L' 0,zf L' 1,zf L 4,zf L 5],[some (zG (zt M 0)++[[mkL 1 (zt M' 0),zf L' 0,zf L' 1]])])))
 else(bif Nat.beq i 4 then(za (zc .add (zf L 0) m) fun v=>some (.normal,[v,mkL 1 (zt M' 0),zf L' 0,zf L' 1,zf L 4,zf L 5],[zt M 0])) else none)
def GO(n:Nat)(acc:Nat×Nat→Nat→Option (List DV))(m:DV)(L:List DV)(M:List OC):Option PX:=
  za (zc .lss (zf L 0) (.int .i64 (.ofNat n))) fun v3=>ifB v3
   (za (vwB (some (zf L 0)) none n) fun p4 => za (wp false m [.int .i64 (.ofNat p4.2)]) fun v5 => za (zc .add (zf L 0) v5) fun v6 => za (zc .add (zf L 0) v5) fun v7 => za (zmn (some (zf L 0)) v6 v7 n) fun p8 =>
    za (zc .eql (I6 (Int.ofNat (xR (zt M 0)))) (I6 100)) fun v9=>ifB v9
     (some (.ret,[I6 0,zf L 1,zf L 2,zf L 3,.nils,I6 4],[zt M 0]))
     (za (zau (zf L 1)) fun q10=>ifB (.bool q10)
       (z6 (zA (GI p8.2 (acc p8)) [I6 0,zf L 2,zf L 3] [none]) (GK m L M) (fun _ _=>none))
       (za (vZ 1 (zf L 1)) fun e11=>gd (fits 8 (xR (some [])+(e11:List (List DV)).length)) (z6 (zA (GI p8.2 (acc p8)) [I6 0,zf L 2,zf L 3] [zdU (some []) e11]) (GK m L M) (fun _ _=>none)))))
   (some (.exit 0,[zf L 1,zf L 2,zf L 3,zf L 4,zf L 5],[zt M 0]))
theorem zwZ(M:List OC)(m:DV):zpA M m=GO (xR (zt M 0)) (fun p i=>jW (zt M 0) (p.1+i)) m:=rfl
theorem zw0(p:Nat×Nat)(m:DV)(M:List OC)(q:Nat×Nat):zsE p m M q=GO p.2 (fun p' i=>jW (zms (zt M 0) q.1 q.2 [I6 0,I6 0,I6 0]) ((p.1+p'.1)+i)) m:=rfl
theorem lGO(nd:Nat)(hnd:nd≤10)(xs:List SCt)(hl:xs.length≤99)(hx:∀c∈xs,okC nd c)(acc:Nat×Nat→Nat→Option (List DV))(hacc:∀p i c,xs[p.1+i]? = some c→acc p i=some (xJ c))(m:Nat)(hm:0<m)(hm2:m≤9223372036854775807)(x y:DV):
  ∀(n i:Nat) (a:Reg) (out:List Reg),xs.length-i≤n→out.length≤i→(i=0∨m≤i)→a.stops.els.length=nd→a.stops=some a.stops.els→
  ∃L',zA (GO xs.length acc (I6 (m:Int))) [I6 (i:Int),enL 1 enU a.stops,U64 a.cpls,U64 a.off,x,y] [ocL yz (grow out)]=some (.exit 0,L',[ocL yz (grow (out++zfu m 0 a (xs.drop i)))]):=by
 intro n
 induction n with
 |zero=>intro i a out h _ _ _ _;refine⟨[enL 1 enU a.stops,U64 a.cpls,U64 a.off,x,y],zu ?_⟩;have hd:xs.drop i=[]:=List.drop_eq_nil_of_le (by omega);simp only[GO,zz,yF,yM,xy,zj,zb,xY (show xs.length≤i by omega),zn,hd,zfu,Nat.lt_irrefl,if_false,Yz5];rfl
 |succ n ih=>
  intro i a out h ho hi ha hs;by_cases hi2:xs.length≤i
  ·refine⟨[enL 1 enU a.stops,U64 a.cpls,U64 a.off,x,y],zu ?_⟩;have hd:xs.drop i=[]:=List.drop_eq_nil_of_le (by omega);simp only[GO,zz,yF,yM,xy,zj,zb,xY hi2,zn,hd,zfu,Nat.lt_irrefl,if_false,Yz5];rfl
  have hlt:i<xs.length:=by omega
  have hne:xs.drop i≠[]:=fun e=>by have:=congrArg List.length e;simp only[List.length_drop,YzJ]at this;omega
  have hc:=zer m (xs.drop i) 0 a hm (Or.inr hne);rw[Nat.sub_zero]at hc;generalize hpt:(xs.drop i).take m=part at hc;have hpl:part.length=min m (xs.length-i):=by rw[←hpt,List.length_take,List.length_drop]
  have hp:∀(j:Nat) (c:SCt),part[j]? = some c→xs[i+j]? = some c:=by
   intro j c hj;rw[←hpt]at hj;have hj2:j<m:=by refine Nat.lt_of_not_le fun hle=>?_;rw[Yzx,Yzb (by omega)]at hj;cases hj
   rw[Yzx,Yzd hj2,Yzs]at hj;exact hj
  have g:=lGI nd part (by omega) (fun c hc=>by rw[←hpt]at hc;exact hx c (List.mem_of_mem_drop (List.mem_of_mem_take hc))) (acc (i,part.length)) (fun j c hj=>hacc (i,part.length) j c (hp j c hj)) part 0 a rfl ha
  rw[show (I6 ((0:Nat):Int):DV)=I6 0 from rfl,zaB,zaB]at g;have e5:wp false (I6 (m:Int)) [I6 ((xs.length-i:Nat):Int)]=some (I6 (part.length:Int)):=by
   rw[ztr,hpl]
   congr 2
   omega
  have e6:zc .add (I6 (i:Int)) (I6 (part.length:Int))=some (I6 ((i+part.length:Nat):Int)):=yQ;have e8:zmn (some (I6 (i:Int))) (I6 ((i+part.length:Nat):Int)) (I6 ((i+part.length:Nat):Int)) xs.length=some (i,part.length):=by rw[zsL (by omega) (by omega),Yya]
  have ea:zc .add (I6 (i:Int)) (I6 (m:Int))=some (I6 ((i+m:Nat):Int)):=yQ;have e9:((((grow out).els.length:Nat):Int)==100)=false:=by
   rw[zK];have:¬(out.length:Int)=100:=by omega
   simpa using this
  have ef:fits 40 ((grow out).els.length+1)=true:=wH (by decide) (by rw[zK];omega);have eg:fits 8 (xR (some [])+(a.stops.els.map enU).length)=true:=wH (by decide) (by simp only[Yzj,xR,YzJ];omega);have hb:(part.foldl y9 a).stops=some (part.foldl y9 a).stops.els:=zhy part a hs;have hq:(some ((grow out).els.map yz++[[enL 1 enU (some (part.foldl y9 a).stops.els),U64 (part.foldl y9 a).cpls,U64 (part.foldl y9 a).off]]):OC)=ocL yz (grow (out++[part.foldl y9 a])):=by rw[←hb,wi,←vJ];rfl
  have hn:a.stops.isNone=false:=by rw[hs];rfl
  have body:GO xs.length acc (I6 (m:Int)) [I6 (i:Int),enL 1 enU a.stops,U64 a.cpls,U64 a.off,x,y] [ocL yz (grow out)]=some (.normal,[I6 ((i+m:Nat):Int),enL 1 enU (part.foldl y9 a).stops,U64 (part.foldl y9 a).cpls,U64 (part.foldl y9 a).off,x,y],[ocL yz (grow (out++[part.foldl y9 a]))]):=by simp only[GO,zz,yF,yM,xy,zj,zb,jX hlt,zn,if_true,zrU hlt,e5,e6,e8,xZ,zO,e9,Yzh,if_false,znz,hn,zeg,eg,kR,zpu,g,yq,GK,Yzp,Yza,ef,ea,zz,yF,yM,x9];rw[←hq,hb];rfl
  obtain⟨L',hL⟩:=ih (i+m) (part.foldl y9 a) (out++[part.foldl y9 a]) (by omega) (by simp only[Yzq,Yzm,YzJ];omega) (Or.inr (by omega)) ((zkT part a).trans ha) hb;refine⟨L',?_⟩;rw[zH body,hL,hc,YzH];simp
theorem zmH{α:Type}{l:List α}{i:Nat}{x:α}(h:i<l.length):(l.set i x).take (i+1)=l.take i++[x]:=by grind[List.take_add_one,List.take_set,List.set_eq_of_length_le]
def vO(y:List SCt)(c:SCt):Bool:=!decide (c∈y)
theorem zwK(k:Nat)(y:Sl SCt)(hy:y.els.length≤1000)(n:Nat)(hn:n≤1000):∀(r:List SCt) (j:Nat) (w kept:List SCt),w.length=n→w.drop j=r→w.take kept.length=kept→kept.length≤j→
  ∃w':List SCt,zA (zdO (D (k+3)) [ocL xJ y]) [I6 (j:Int),I6 (kept.length:Int)] [some (w.map xJ)]=some (.exit 0,[I6 ((kept++r.filter (vO y.els)).length:Int)],[some (w'.map xJ)])∧w'.length=n∧w'.take (kept++r.filter (vO y.els)).length=kept++r.filter (vO y.els):=by
 intro r
 induction r with
 |nil=>intro j w kept hw h ht _;have e:xR (some (w.map xJ))=w.length:=Yzj ..;refine⟨w,zu ?_,hw,by simpa using ht⟩;simp only[zdO,zz,yF,yM,e,xy,zj,zb,xY (ya h),zn,List.filter_nil,Yz5];rfl
 |cons x r ih=>
  intro j w kept hw h ht hk;have h1:=yH h;have hx:=xa h;have e:xR (some (w.map xJ))=w.length:=Yzj ..;have ea:zc .add (I6 (j:Int)) (I6 1)=some (I6 ((j+1:Nat):Int)):=yQ;have eb:zc .add (I6 (kept.length:Int)) (I6 1)=some (I6 ((kept.length+1:Nat):Int)):=yQ;have e1:xe (some (w.map xJ)) (I6 (j:Int))=some j:=jC (by rw[Yzj];exact h1);have e2:jW (some (w.map xJ)) j=some (xJ x):=by show ((w.map xJ)[j]?)=_;rw[Lz6,hx];rfl
  have e3:xe (some (w.map xJ)) (I6 (kept.length:Int))=some kept.length:=jC (by rw[Yzj];omega);obtain⟨z,hz⟩:∃z,w[kept.length]? = some z:=⟨_,Lz5 (by omega)⟩;have e4:zgo 3 (some (w.map xJ)) kept.length 0 [I6 x.kind,I6 x.div,I6 x.idx]=some (some ((w.set kept.length x).map xJ)):=zzv hz (Lz4 rfl) rfl;have c:=t30 k x y hy;by_cases hm:x∈y.els
  ·have body:zdO (D (k+3)) [ocL xJ y] [I6 (j:Int),I6 (kept.length:Int)] [some (w.map xJ)]=some (.normal,[I6 ((j+1:Nat):Int),I6 (kept.length:Int)],[some (w.map xJ)]):=by
    simp only[zdO,zz,yF,yM,e,xy,zj,zb,jX h1,zn,if_true,e1,e2,xJ,xE,vh,kK,c,zuU,yY,hm,decide_true,Yyf,Yzh,if_false,ea]
   obtain⟨w',a1,a2,a3⟩:=ih (j+1) w kept hw (zP h) ht (by omega);have ef:(x::r).filter (vO y.els)=r.filter (vO y.els):=by simp[vO,hm]
   rw[zH body,ef];exact⟨w',a1,a2,a3⟩
  ·have body:zdO (D (k+3)) [ocL xJ y] [I6 (j:Int),I6 (kept.length:Int)] [some (w.map xJ)]=some (.normal,[I6 ((j+1:Nat):Int),I6 ((kept.length+1:Nat):Int)],[some ((w.set kept.length x).map xJ)]):=by
    simp only[zdO,zz,yF,yM,e,xy,zj,zb,jX h1,zn,if_true,e1,e2,xJ,xE,vh,kK,c,zuU,yY,hm,decide_false,Bool.not_false,e3,e4,ea,eb]
   have hl:(kept++[x]).length=kept.length+1:=by simp
   obtain⟨w',a1,a2,a3⟩:=ih (j+1) (w.set kept.length x) (kept++[x]) (by rw[List.length_set];exact hw) (by rw[List.drop_set_of_lt (by omega)];exact zP h) (by rw[hl,zmH (by omega),ht]) (by omega);have ef:(x::r).filter (vO y.els)=x::r.filter (vO y.els):=by simp[vO,hm]
   have ek:kept++x::r.filter (vO y.els)=kept++[x]++r.filter (vO y.els):=by simp
   rw[hl]at a1;rw[zH body,ef,ek];exact⟨w',a1,a2,a3⟩
theorem zdp{α:Type}(p:α→Bool):∀(l:List α) (n i:Nat),xO p l n=some i→n≤i∧∃x,l[i-n]? = some x∧p x=true∧∀y∈l.take (i-n),p y=false
 | [],_,_,h=>by cases h
 |x::l,n,i,h=>by
  unfold xO at h;by_cases hp:p x=true
  ·rw[Yzd hp]at h;cases h;exact⟨LzB _,x,by simp,hp,by simp⟩
  ·rw[Yzb hp]at h;obtain⟨h1,y,h2,h3,h4⟩:=zdp p l (n+1) i h;obtain⟨q,hq⟩:∃q,i-n=q+1:=⟨i-n-1,by omega⟩;rw[show i-(n+1)=q by omega]at h2 h4;rw[hq];refine⟨by omega,y,by simpa using h2,h3,fun z hz=>?_⟩;rw[List.take_succ_cons]at hz;rcases Yzw.1 hz with rfl|hz
   ·simpa using hp
   ·exact h4 z hz
theorem zl3{α:Type}(p:α→Bool)(l:List α)(n:Nat)(h:xO p l n=none):∀y∈l,p y=false:=by
 have:=wv p l n;rw[h]at this;intro y hy;cases hp:p y with
 |false=>rfl
 |true=>rw[List.any_eq_true.2 ⟨y,hy,hp⟩]at this;cases this
theorem zuP{l:List (List DV)}{n m j:Nat}{ds:List DV}(h:j<n)(hl:n≤l.length):jW (zms (some l) n m ds) j=l[j]?:=by show ((l.take n++List.replicate m ds++l.drop (n+m))[j]?)=_;rw[YzG,Lz2 (by rw[List.length_take];omega),Yzx,Yzd h]
theorem zuO{l:List (List DV)}{n:Nat}{ds:List DV}(hl:n≤l.length):xR (zms (some l) n (l.length-n) ds)=l.length:=by show (l.take n++List.replicate (l.length-n) ds++l.drop (n+(l.length-n))).length=_;simp only[Yzq,List.length_take,Yyg,List.length_drop];omega
theorem zmZ{x:Int}{n:Nat}(hn:n≤3)(h:zh7 x n=0):sm x:=by
 unfold zh7 at h;have hm:min n 64=n:=by omega
 rw[hm,Int.fdiv_eq_ediv_of_nonneg _ (by exact Int.le_of_lt (Int.pow_pos (by decide)))]at h;unfold sm;rcases (show n=0∨n=1∨n=2∨n=3 by omega) with rfl|rfl|rfl|rfl
 ·rw[show (2:Int)^0=1 from rfl]at h;omega
 ·rw[show (2:Int)^1=2 from rfl]at h;omega
 ·rw[show (2:Int)^2=4 from rfl]at h;omega
 ·rw[show (2:Int)^3=8 from rfl]at h;omega
theorem zpp:((List.range 8).all fun x=>xf (x:Int) 64 0==[0,1,2].filter (bit (x:Int)))=true:=by kernel_rfl
theorem zjc{x:Int}(h:sm x):xf x 64 0=[0,1,2].filter (bit x):=by
 obtain⟨a,rfl⟩:∃a:Nat,x=(a:Int):=⟨x.toNat,by have:=h.1;omega⟩;have:=YzL.1 zpp a (List.mem_range.2 (by have:=h.2;omega))
 simpa using this
theorem zcj{x:Int}(h:sm x){j:Nat}:j∈xf x 64 0↔j<3∧bit x j=true:=by
 rw[zjc h,List.mem_filter];have:j∈[0,1,2]↔j<3:=by simp only[Yzw,Yzt,or_false];omega
 rw[this]
theorem zdI{x:Int}(h:sm x):(xf x 64 0).length≤3:=by rw[zjc h];exact List.length_filter_le _ _
theorem zcy:∀(r:List Int) (i:Nat),(∀x∈r,sm x)→(vW r i).length≤3*r.length
 | [],_,_=>LzB _
 |s::r,i,h=>by have:=zcy r (i+1) fun x hx=>h x (Yze _ hx);have:=zdI (h s (Yzg ..));simp only[vW,Yzq,Yzj,Yzm];omega
theorem uN:∀(r:List Int) (i:Nat),(∀x∈r,sm x)→∀c:SCt,c∈vW r i↔∃(d j:Nat) (s:Int),r[d]? = some s∧j<3∧bit s j=true∧c=⟨1,((i+d:Nat):Int),(j:Int)⟩
 | [],i,_,c=>by
  constructor
  ·intro h;cases h
  ·rintro⟨d,j,s,h,_⟩;cases h
 |s::r,i,h,c=>by
  rw[vW,List.mem_append,List.mem_map,uN r (i+1) fun x hx=>h x (Yze _ hx)]
  constructor
  ·rintro (⟨j,hj,rfl⟩|⟨d,j,s',h1,h2,h3,rfl⟩)
   ·obtain⟨h1,h2⟩:=(zcj (h s (Yzg ..))).1 hj;exact⟨0,j,s,rfl,h1,h2,rfl⟩
   ·exact⟨d+1,j,s',h1,h2,h3,by rw[show i+1+d=i+(d+1) by omega]⟩
  ·rintro⟨d,j,s',h1,h2,h3,rfl⟩
   cases d with
   |zero=>cases h1;exact Or.inl ⟨j,(zcj (h s (Yzg ..))).2 ⟨h2,h3⟩,rfl⟩
   |succ d=>exact Or.inr ⟨d,j,s',h1,h2,h3,by rw[show i+1+d=i+(d+1) by omega]⟩
structure Tn (n:Nat) (r:Reg):Prop where
 len:r.stops.els.length=n
 st:∀x∈r.stops.els,sm x
 c:sm r.cpls
 f:sm r.off
theorem wg{n:Nat}{r:Reg}(T:Tn n r)(c:SCt):c∈yn r↔(∃(d j:Nat) (s:Int),r.stops.els[d]? = some s∧j<3∧bit s j=true∧c=⟨1,(d:Int),(j:Int)⟩)∨(∃j:Nat,j<3∧bit r.cpls j=true∧c=⟨2,0,(j:Int)⟩)∨(∃j:Nat,j<3∧bit r.off j=true∧c=⟨3,(j:Int),0⟩):=by
 unfold yn;rw[List.mem_append,List.mem_append,uN _ _ T.st,List.mem_map,List.mem_map];simp only[zcj T.c,zcj T.f,Yzi]
 constructor
 ·rintro ((h|⟨j,⟨h1,h2⟩,rfl⟩)|⟨j,⟨h1,h2⟩,rfl⟩)
  ·exact Or.inl h
  ·exact Or.inr (Or.inl ⟨j,h1,h2,rfl⟩)
  ·exact Or.inr (Or.inr ⟨j,h1,h2,rfl⟩)
 ·rintro (h|⟨j,h1,h2,rfl⟩|⟨j,h1,h2,rfl⟩)
  ·exact Or.inl (Or.inl h)
  ·exact Or.inl (Or.inr ⟨j,⟨h1,h2⟩,rfl⟩)
  ·exact Or.inr ⟨j,⟨h1,h2⟩,rfl⟩
theorem ziV{n:Nat}{r:Reg}(T:Tn n r):∀c∈yn r,okC n c:=by
 intro c hc;rcases (wg T c).1 hc with⟨d,j,s,h1,h2,_,rfl⟩|⟨j,h1,_,rfl⟩|⟨j,h1,_,rfl⟩
 ·exact Or.inl ⟨d,j,by rw[←T.len];exact(Lz0.1 h1).1,h2,rfl⟩
 ·exact Or.inr (Or.inl ⟨j,h1,rfl⟩)
 ·exact Or.inr (Or.inr ⟨j,h1,rfl⟩)
theorem zco{n:Nat}{r:Reg}(T:Tn n r)(hn:n≤3):(yn r).length≤15:=by have:=zcy r.stops.els 0 T.st;have:=zdI T.c;have:=zdI T.f;have:=T.len;simp only[yn,Yzq,Yzj];omega
theorem zk2{o:Org}(H:Small o){r:Reg}(h:yB o r=0):Tn o.divs.els.length r:=by
 unfold yB at h;have n3:(3:Int)≠0:=by decide
 rw[Yzb (by simp[H.h0])]at h;have h1:r.stops.els.length=o.divs.els.length:=Classical.not_not.1 fun hne=>by rw[Yzd hne]at h;cases h
 rw[Yzb (by simp[h1])]at h;have h2:qG o.divs.els r.stops.els=false:=by
  cases e:qG o.divs.els r.stops.els with
  |false=>rfl
  |true=>rw[Yzd e]at h;exact absurd h n3
 rw[Yzb (by simp[h2])]at h;have h3:zh7 r.cpls o.cpls.els.length=0:=Classical.not_not.1 fun e=>by rw[Yzd e]at h;exact n3 h
 rw[Yzb (by simp[h3])]at h;have h4:zh7 r.off o.divs.els.length=0:=Classical.not_not.1 fun e=>by rw[Yzd e]at h;exact n3 h
 have go:∀(ds:List Zo) (ss:List Int),ss.length=ds.length→(∀d∈ds,d.stops.els.length≤3)→qG ds ss=false→∀x∈ss,sm x:=by
  intro ds
  induction ds with
  |nil=>intro ss hl _ _ x hx;rw[List.length_eq_zero_iff.1 hl]at hx;cases hx
  |cons d ds ih=>
   intro ss hl hs ho x hx;cases ss with
   |nil=>cases hx
   |cons s ss=>
    rw[qG,Bool.or_eq_false_iff]at ho;rcases Yzw.1 hx with rfl|hx
    ·exact zmZ (hs d (Yzg ..)) (by have:=ho.1;simpa using this)
    ·exact ih ss (Nat.add_right_cancel hl) (fun d hd=>hs d (Yze _ hd)) ho.2 x hx
 exact⟨h1,go _ _ h1 H.hs h2,zmZ H.hc h3,zmZ H.hd h4⟩
def y6(o:Org)(a b:Reg)(m:Int):Int:=if yB o a≠0 then yB o a else if yB o b≠0 then yB o b else if m<1 then 3 else if qQ a b=false then 6 else 0
def zhM(a b:Reg):List SCt:=(yn b).filter (vO (yn a))
def zb3(a b:Reg)(m:Int):List DV:=[enL 1 enU a.stops,U64 a.cpls,U64 a.off,enL 1 enU b.stops,U64 b.cpls,U64 b.off,I6 m]
theorem zCj(k:Nat){o:Org}(ho:o.ok)(a b:Reg):zA (zu2 (D (k+11)) (St o.name) (enL 6 enR o.ranks) (enL 5 enV o.divs) (enL 5 enC o.cpls) (enL 1 enU a.stops) (enL 1 enU b.stops) (U64 a.cpls) (U64 b.cpls) (U64 a.off) (U64 b.off)) [I6 0,.nils,I6 0] []=some (if yB o a≠0 then(.ret,[.nils,I6 (yB o a)],[]) else if yB o b≠0 then(.ret,[.nils,I6 (yB o b)],[]) else(.exit 0,[.nils,I6 0],[])):=by
 have ca:=t10 (k+1) o ho a;have cb:=t10 (k+1) o ho b;unfold enO yz at ca cb;have p0:jV 2 (I6 0)=some 0:=rfl;have p1:jV 2 (I6 1)=some 1:=rfl;have a0:zc .add (I6 0) (I6 1)=some (I6 1):=rfl;have a1:zc .add (I6 1) (I6 1)=some (I6 2):=rfl;have d0:decide ((0:Int)<2)=true:=rfl;have d1:decide ((1:Int)<2)=true:=rfl;have d2:decide ((2:Int)<2)=false:=rfl;have body0:zu2 (D (k+11)) (St o.name) (enL 6 enR o.ranks) (enL 5 enV o.divs) (enL 5 enC o.cpls) (enL 1 enU a.stops) (enL 1 enU b.stops) (U64 a.cpls) (U64 b.cpls) (U64 a.off) (U64 b.off) [I6 0,.nils,I6 0] []=some (if yB o a≠0 then(.ret,[.nils,I6 (yB o a)],[]) else(.normal,[I6 1,.nils,I6 0],[])):=by simp only[zu2,zz,yF,zj,zb,d0,zn,if_true,p0,xE,ca,zX,zU,a0];by_cases h:yB o a=0<;>simp[h]
 have body1:zu2 (D (k+11)) (St o.name) (enL 6 enR o.ranks) (enL 5 enV o.divs) (enL 5 enC o.cpls) (enL 1 enU a.stops) (enL 1 enU b.stops) (U64 a.cpls) (U64 b.cpls) (U64 a.off) (U64 b.off) [I6 1,.nils,I6 0] []=some (if yB o b≠0 then(.ret,[.nils,I6 (yB o b)],[]) else(.normal,[I6 2,.nils,I6 0],[])):=by simp only[zu2,zz,yF,zj,zb,d1,zn,if_true,p1,xE,vh,cb,zX,zU,a1];by_cases h:yB o b=0<;>simp[h]
 by_cases h1:yB o a≠0
 ·rw[Yzd h1]at body0 ⊢;exact zB body0
 rw[Yzb h1]at body0 ⊢;rw[zH body0];by_cases h2:yB o b≠0
 ·rw[Yzd h2]at body1 ⊢;exact zB body1
 rw[Yzb h2]at body1 ⊢;rw[zH body1];refine zu ?_;simp only[zu2,zz,yF,zj,zb,d2,zn];rfl
theorem zAu(v a:DV):zyq v a=zmm v a:=rfl
theorem zAt(v:DV):zyj v=zhJ v:=rfl
theorem zAs(v:DV):zyi v=zhI v:=rfl
theorem zAr(v a:DV):zyh v a=zmm v a:=rfl
theorem zAq(v:DV):zyg v=zhJ v:=rfl
theorem zAp(v:DV):zyf v=zhI v:=rfl
theorem znV{α:Type}{f:α→List DV}{v:Sl α}{i:Nat}{x:α}(h:v.els[i]? = some x):jW (ocL f v) i=some (f x):=by
 cases v with
 |none=>cases h
 |some l=>show ((l.map f)[i]?)=_;rw[Lz6,show l[i]? = some x from h];rfl
theorem t8(k:Nat){o:Org}(ho:o.ok)(H:Small o)(a b:Reg)(la:a.stops.els.length≤10)(lb:b.stops.els.length≤10)(m:Int)(hm:m≤9223372036854775807):
  D (k+12) 8 [SA (enO o),SA (zb3 a b m)]=some (.tup [.one (if y6 o a b m≠0 then .nils else enL 3 yz (grow (zfu m.toNat 0 a (zhM a b)))),.one (I6 (y6 o a b m))]):=by
 have c0:=t27 (k+2) o ho;have l4:=zCj k ho a b;have cw:=t18 (k+9) a b (by unfold zgH;omega);have csa:=t55 k o ho a;have csb:=t55 k o ho b;rw[H.h0]at c0;have n0:(!((0:Int)==0))=false:=rfl;unfold enO at c0 csa csb ⊢;unfold yz at cw csa csb;unfold zb3;rw[D8];unfold P8;rw[c0,zX,zU,n0,zb,zn,Yzb Bool.false_ne_true,l4];clear l4;by_cases h1:yB o a=0
 case neg=>
  have hw:y6 o a b m=yB o a:=by unfold y6;rw[Yzd h1]
  rw[hw,Yzd h1,Yzd h1];rfl
 by_cases h2:yB o b=0
 case neg=>
  have hw:y6 o a b m=yB o b:=by unfold y6;rw[Yzb (by simp[h1]),Yzd h2]
  rw[hw,Yzb (by simp[h1]),Yzd h2,Yzd h2];rfl
 rw[Yzb (by simp[h1]),Yzb (by simp[h2]),yq,Yzp,Yza,zj,zb,zn];by_cases h3:m<1
 ·have hw:y6 o a b m=3:=by unfold y6;rw[Yzb (by simp[h1]),Yzb (by simp[h2]),Yzd h3]
  rw[hw,Yzd (by simpa using h3)];rfl
 rw[Yzb (by simpa using h3),cw,zX,yY,zb,zn];cases h4:qQ a b with
 |false=>
  have hw:y6 o a b m=6:=by unfold y6;rw[Yzb (by simp[h1]),Yzb (by simp[h2]),Yzb h3,Yzd h4]
  rw[hw,Yzd (by rfl)];rfl
 |true=>
 have hw:y6 o a b m=0:=by unfold y6;rw[Yzb (by simp[h1]),Yzb (by simp[h2]),Yzb h3,Yzb (by simp[h4])]
 rw[hw];clear hw;rw[h1]at csa;rw[h2]at csb;obtain⟨m,rfl⟩:∃n:Nat,m=(n:Int):=⟨m.toNat,by omega⟩;rw[Yzb (by simp),Yzb (by simp),YzE];have TA:=zk2 H h1;have TB:=zk2 H h2;have la15:=zco TA H.hd;have lb15:=zco TB H.hd;have s1:=ztQ a.stops la a.stops.els 0 [] rfl (LzB _);have s2:=zos a la;have s3:=zor a la;have r1:=ztQ b.stops lb b.stops.els 0 [] rfl (LzB _);have r2:=zos b lb;have r3:=zor b lb;rw[show (I6 ((0:Nat):Int):DV)=I6 0 from rfl,show ocL xJ (grow ([]:List SCt))=none from rfl,Yz0]at s1 r1;have hd1:=(zcS H.h0).2;have hs:a.stops=some a.stops.els:=by
  have:=TA.len;cases hq:a.stops with
  |none=>rw[hq]at this;have this:(0:Nat)=o.divs.els.length:=this;omega
  |some l=>rfl
 have okB:=ziV TB;have ci:=t57 (k+7) (grow (yn a)) (by rw[zK];omega) (grow (yn b)) (by rw[zK];omega);rw[zK,zK]at ci;have d1:decide ((m:Int)<1)=false:=decide_eq_false h3;simp only[csa,zX,zU,n0,zb,zn,Yzh,if_false,zD,zAu,s1,yq,Yzp,Yza,yM,zAt,s2,zAs,s3,csb,zAr,r1,zAq,r2,zAp,r3,kK,ci,zps,zO,zj,d1,zz,yF];have hK:∀c:SCt,vO (yn a) c=!decide (c∈yn a):=fun _=>rfl;cases hf:xO (fun x=>decide (x∈yn a)) (yn b) 0 with
 |none=>
  have hn:=zl3 _ _ _ hf;have hnew:zhM a b=yn b:=List.filter_eq_self.2 fun c hc=>by have:=hn c hc;rw[hK,this];rfl
  have g:=lGO o.divs.els.length (by have:=H.hd;omega) (yn b) (by omega) okB (fun p i=>jW (ocL xJ (grow (yn b))) (p.1+i)) (fun p i c hc=>znV (by rw[zK];exact hc)) m (by omega) (by omega) .nils (I6 0) (yn b).length 0 a [] (by omega) (LzB _) (Or.inl rfl) TA.len hs;obtain⟨L',g⟩:=g;rw[show (I6 ((0:Nat):Int):DV)=I6 0 from rfl,show ocL yz (grow ([]:List Reg))=none from rfl,Yz0,List.drop_zero]at g;have ge:zpA [ocL xJ (grow (yn b))] (I6 (m:Int))=GO (yn b).length (fun p i=>jW (ocL xJ (grow (yn b))) (p.1+i)) (I6 (m:Int)):=by rw[zwZ,yM,xZ,zK]
  simp only[Yzu,if_true,ge,g,yq,Yzp,Yza,yM,kK,hnew]
 |some i=>
  obtain⟨_,x,hx,hpx,hbef⟩:=zdp _ _ _ _ hf;rw[Nat.sub_zero]at hx hbef;have hi:=(Lz0.1 hx).1;have hik:((yn b).take i).length=i:=by rw[List.length_take];omega
  have e1:(((i:Nat):Int) == -1)=false:=by simp
  have ea:zc .add (I6 (i:Int)) (I6 1)=some (I6 ((i+1:Nat):Int)):=yQ;obtain⟨w,l110,hw,ht⟩:=zwK (k+8) (grow (yn a)) (by rw[zK];omega) (yn b).length (by omega) ((yn b).drop (i+1)) (i+1) (yn b) ((yn b).take i) rfl rfl (by rw[hik]) (by omega);have hsplit:yn b=(yn b).take i++x::(yn b).drop (i+1):=by have h:=List.drop_eq_getElem_cons hi;rw[(Lz0.1 hx).2]at h;rw[←h,List.take_append_drop]
  have hnew:zhM a b=(yn b).take i++((yn b).drop (i+1)).filter (vO (yn a)):=by
   unfold zhM
   conv=>lhs;rw[hsplit]
   have h1:((yn b).take i).filter (vO (yn a))=(yn b).take i:=List.filter_eq_self.2 fun c hc=>by have:=hbef c hc;rw[hK,this];rfl
   have h2:vO (yn a) x=false:=by rw[hK,hpx];rfl
   rw[List.filter_append,h1,List.filter_cons_of_neg (by rw[h2];exact Bool.false_ne_true)]
  rw[hik,zK,←hnew]at l110;rw[zK,←hnew]at ht;have hlt:(zhM a b).length<(yn b).length:=by rw[hnew,Yzq,hik];have h3:=List.length_filter_le (vO (yn a)) ((yn b).drop (i+1));rw[List.length_drop]at h3;omega
  have hne:0<(yn b).length:=by omega
  have hM:ocL xJ (grow (yn b))=some ((yn b).map xJ):=by rw[zfO hne];rfl
  have wl:xR (some (w.map xJ))=(yn b).length:=by show (w.map xJ).length=_;rw[Yzj,hw]
  have v1:=zrU (k:=.i64) hlt;have cl:xR (zms (some (w.map xJ)) (zhM a b).length ((yn b).length-(zhM a b).length) [I6 0,I6 0,I6 0])=(yn b).length:=by
   have h5:(w.map xJ).length=(yn b).length:=by rw[Yzj,hw]
   rw[←h5];exact zuO (by omega)
  have v2:=zvt (k:=.i64) (Nat.le_of_lt hlt);have g:=lGO o.divs.els.length (by have:=H.hd;omega) (zhM a b) (by omega) (fun c hc=>okB c (List.mem_filter.1 hc).1) (fun p i=>jW (zms (some (w.map xJ)) (zhM a b).length ((yn b).length-(zhM a b).length) [I6 0,I6 0,I6 0]) ((0+p.1)+i)) (fun p i c hc=>by
   have h6:=(Lz0.1 hc).1;rw[Yzi,zuP h6 (by rw[Yzj];omega),Lz6];have:w[p.1+i]? = some c:=by rw[←ht,Yzx,Yzd h6]at hc;exact hc
   rw[this];rfl) m (by omega) (by omega) .nils (I6 0) (zhM a b).length 0 a [] (by omega) (LzB _) (Or.inl rfl) TA.len hs
  obtain⟨L',g⟩:=g;rw[show (I6 ((0:Nat):Int):DV)=I6 0 from rfl,show ocL yz (grow ([]:List Reg))=none from rfl,Yz0,List.drop_zero]at g;simp only[e1,Yzh,if_false,ea,zb,hM,l110,yq,Yzp,Yza,zz,yM,wl,v1,cl,v2,zw0,zj,d1,zn];rw[g];simp only[yq,Yzp,Yza,yM,kK]
end Go.Proofs.Tryz.Kn
end
section
namespace Go.Proofs.Tryz.Kn
open Go Go.CE Go.PE
def zqf:List Int→Nat
 | []=>0
 |s::r=>(xf s 64 0).length+zqf r
def uC(r:Reg):Nat:=(xf r.cpls 64 0).length+(xf r.off 64 0).length+zqf r.stops.els
theorem znF:((List.range 8).all fun x=>(List.range 3).all fun i=>decide (0≤orI (x:Int) ((2^i:Nat):Int))&&decide (orI (x:Int) ((2^i:Nat):Int)<8)&&((xf (orI (x:Int) ((2^i:Nat):Int)) 64 0).length==(xf (x:Int) 64 0).length+(bif bit (x:Int) i then 0 else 1))&&(List.range 3).all fun j=>bit (orI (x:Int) ((2^i:Nat):Int)) j==(Nat.beq j i||bit (x:Int) j))=true:=by kernel_rfl
theorem ztv{x:Int}(hx:sm x){i:Nat}(hi:i<3):sm (orI x ((2^i:Nat):Int))∧(xf (orI x ((2^i:Nat):Int)) 64 0).length=(xf x 64 0).length+(bif bit x i then 0 else 1)∧∀j,j<3→(bit (orI x ((2^i:Nat):Int)) j=true↔j=i∨bit x j=true):=by obtain⟨a,rfl⟩:∃a:Nat,x=(a:Int):=⟨x.toNat,by have:=hx.1;omega⟩;have h:=YzL.1 (YzL.1 znF a (List.mem_range.2 (by have:=hx.2;omega))) i (List.mem_range.2 hi);rw[LzC,LzC,LzC,YzD,YzD,beq_iff_eq]at h;obtain⟨⟨⟨h1,h2⟩,h3⟩,h4⟩:=h;refine⟨⟨h1,h2⟩,h3,fun j hj=>?_⟩;have h5:=beq_iff_eq.1 (YzL.1 h4 j (List.mem_range.2 hj));rw[h5,YzF];have:Nat.beq j i=true↔j=i:=⟨Lz1,fun h=>by rw[h];exact Yzp i⟩;rw[this]
theorem zjy:∀(l:List Int) (d:Nat) (s y:Int),l[d]? = some s→zqf (l.set d y)+(xf s 64 0).length=zqf l+(xf y 64 0).length
 | [],_,_,_,h=>by cases h
 |a::l,0,s,y,h=>by cases h;simp only[List.set_cons_zero,zqf];omega
 |a::l,d+1,s,y,h=>by have:=zjy l d s y h;simp only[List.set_cons_succ,zqf];omega
theorem zrY{n:Nat}{r:Reg}(T:Tn n r){c:SCt}(hc:okC n c):Tn n (y9 r c)∧uC (y9 r c)=uC r+(if c∈yn r then 0 else 1)∧∀c',c'∈yn (y9 r c)↔c'=c∨c'∈yn r:=by
 rcases hc with⟨d,i,hd,hi,rfl⟩|⟨i,hi,rfl⟩|⟨i,hi,rfl⟩
 ·obtain⟨s,hs⟩:∃s,r.stops.els[d]? = some s:=⟨_,Lz5 (by rw[T.len];exact hd)⟩;have ss:=T.st s (Lz3 hs);obtain⟨o1,o2,o3⟩:=ztv ss hi;have e:y9 r ⟨1,(d:Int),(i:Int)⟩=⟨some (r.stops.els.set d (orI s ((2^i:Nat):Int))),r.cpls,r.off⟩:=by
   unfold y9;rw[Yzd rfl];simp only[YzE,hs,Yz2]
  rw[e];have T':Tn n ⟨some (r.stops.els.set d (orI s ((2^i:Nat):Int))),r.cpls,r.off⟩:=by
   refine⟨by rw[xw,List.length_set,T.len],fun x hx=>?_,T.c,T.f⟩;rw[xw]at hx;rcases List.mem_or_eq_of_mem_set hx with h|rfl
   ·exact T.st x h
   ·exact o1
  have hget:∀d',(r.stops.els.set d (orI s ((2^i:Nat):Int)))[d']? = if d=d' then some (orI s ((2^i:Nat):Int)) else r.stops.els[d']?:=by
   intro d';rw[List.getElem?_set];by_cases h:d=d'
   ·subst h;rw[Yzd rfl,Yzd rfl,Yzd (Lz0.1 hs).1]
   ·rw[Yzb h,Yzb h]
  have hin:(⟨1,(d:Int),(i:Int)⟩:SCt)∈yn r↔bit s i=true:=by
   rw[wg T]
   constructor
   ·rintro (⟨d',j,s',h1,_,h3,h4⟩|⟨j,_,_,h4⟩|⟨j,_,_,h4⟩)
    ·simp only[SCt.mk.injEq,Yyo,true_and]at h4;obtain⟨rfl,rfl⟩:=h4;rw[hs]at h1;cases h1;exact h3
    ·simp at h4
    ·simp at h4
   ·intro h;exact Or.inl ⟨d,i,s,hs,hi,h,rfl⟩
  refine⟨T',?_,fun c'=>?_⟩
  ·have hsum:=zjy _ _ _ (orI s ((2^i:Nat):Int)) hs;unfold uC;simp only[xw];by_cases hb:bit s i=true
   ·rw[Yzd (hin.2 hb)];rw[hb]at o2;simp only[Yza]at o2;omega
   ·rw[Yzb fun h=>hb (hin.1 h)];rw[Bool.eq_false_iff.2 hb]at o2;simp only[Yzc]at o2;omega
  ·rw[wg T',wg T];simp only[xw,hget]
   constructor
   ·rintro (⟨d',j,s',h1,h2,h3,rfl⟩|h|h)
    ·by_cases hd':d=d'
     ·subst hd';rw[Yzd rfl]at h1;cases h1;rcases (o3 j h2).1 h3 with rfl|h
      ·exact Or.inl rfl
      ·exact Or.inr (Or.inl ⟨d,j,s,hs,h2,h,rfl⟩)
     ·rw[Yzb hd']at h1;exact Or.inr (Or.inl ⟨d',j,s',h1,h2,h3,rfl⟩)
    ·exact Or.inr (Or.inr (Or.inl h))
    ·exact Or.inr (Or.inr (Or.inr h))
   ·rintro (rfl|⟨d',j,s',h1,h2,h3,rfl⟩|h|h)
    ·exact Or.inl ⟨d,i,_,Yzd rfl,hi,(o3 i hi).2 (Or.inl rfl),rfl⟩
    ·by_cases hd':d=d'
     ·subst hd';rw[hs]at h1;cases h1;exact Or.inl ⟨d,j,_,Yzd rfl,h2,(o3 j h2).2 (Or.inr h3),rfl⟩
     ·exact Or.inl ⟨d',j,s',by rw[Yzb hd'];exact h1,h2,h3,rfl⟩
    ·exact Or.inr (Or.inl h)
    ·exact Or.inr (Or.inr h)
 ·obtain⟨o1,o2,o3⟩:=ztv T.c hi;have e:y9 r ⟨2,0,(i:Int)⟩=⟨some r.stops.els,orI r.cpls ((2^i:Nat):Int),r.off⟩:=by
   unfold y9;rw[Yzb (by decide:¬(2:Int)=1),Yzd rfl];simp only[YzE]
  rw[e];have T':Tn n ⟨some r.stops.els,orI r.cpls ((2^i:Nat):Int),r.off⟩:=⟨T.len,T.st,o1,T.f⟩;have hin:(⟨2,0,(i:Int)⟩:SCt)∈yn r↔bit r.cpls i=true:=by
   rw[wg T]
   constructor
   ·rintro (⟨d',j,s',h1,_,h3,h4⟩|⟨j,_,h3,h4⟩|⟨j,_,_,h4⟩)
    ·simp at h4
    ·simp only[SCt.mk.injEq,Yyo,true_and]at h4;rw[h4];exact h3
    ·simp at h4
   ·intro h;exact Or.inr (Or.inl ⟨i,hi,h,rfl⟩)
  refine⟨T',?_,fun c'=>?_⟩
  ·unfold uC;simp only[xw];by_cases hb:bit r.cpls i=true
   ·rw[Yzd (hin.2 hb)];rw[hb]at o2;simp only[Yza]at o2;omega
   ·rw[Yzb fun h=>hb (hin.1 h)];rw[Bool.eq_false_iff.2 hb]at o2;simp only[Yzc]at o2;omega
  ·rw[wg T',wg T];simp only[xw]
   constructor
   ·rintro (h|⟨j,h1,h2,rfl⟩|h)
    ·exact Or.inr (Or.inl h)
    ·rcases (o3 j h1).1 h2 with rfl|h
     ·exact Or.inl rfl
     ·exact Or.inr (Or.inr (Or.inl ⟨j,h1,h,rfl⟩))
    ·exact Or.inr (Or.inr (Or.inr h))
   ·rintro (rfl|h|⟨j,h1,h2,rfl⟩|h)
    ·exact Or.inr (Or.inl ⟨i,hi,(o3 i hi).2 (Or.inl rfl),rfl⟩)
    ·exact Or.inl h
    ·exact Or.inr (Or.inl ⟨j,h1,(o3 j h1).2 (Or.inr h2),rfl⟩)
    ·exact Or.inr (Or.inr h)
 ·obtain⟨o1,o2,o3⟩:=ztv T.f hi;have e:y9 r ⟨3,(i:Int),0⟩=⟨some r.stops.els,r.cpls,orI r.off ((2^i:Nat):Int)⟩:=by
   unfold y9;rw[Yzb (by decide:¬(3:Int)=1),Yzb (by decide:¬(3:Int)=2)];simp only[YzE]
  rw[e];have T':Tn n ⟨some r.stops.els,r.cpls,orI r.off ((2^i:Nat):Int)⟩:=⟨T.len,T.st,T.c,o1⟩;have hin:(⟨3,(i:Int),0⟩:SCt)∈yn r↔bit r.off i=true:=by
   rw[wg T]
   constructor
   ·rintro (⟨d',j,s',h1,_,h3,h4⟩|⟨j,_,h3,h4⟩|⟨j,_,h3,h4⟩)
    ·simp at h4
    ·simp at h4
    ·simp only[SCt.mk.injEq,Yyo,true_and,and_true]at h4;rw[h4];exact h3
   ·intro h;exact Or.inr (Or.inr ⟨i,hi,h,rfl⟩)
  refine⟨T',?_,fun c'=>?_⟩
  ·unfold uC;simp only[xw];by_cases hb:bit r.off i=true
   ·rw[Yzd (hin.2 hb)];rw[hb]at o2;simp only[Yza]at o2;omega
   ·rw[Yzb fun h=>hb (hin.1 h)];rw[Bool.eq_false_iff.2 hb]at o2;simp only[Yzc]at o2;omega
  ·rw[wg T',wg T];simp only[xw]
   constructor
   ·rintro (h|h|⟨j,h1,h2,rfl⟩)
    ·exact Or.inr (Or.inl h)
    ·exact Or.inr (Or.inr (Or.inl h))
    ·rcases (o3 j h1).1 h2 with rfl|h
     ·exact Or.inl rfl
     ·exact Or.inr (Or.inr (Or.inr ⟨j,h1,h,rfl⟩))
   ·rintro (rfl|h|h|⟨j,h1,h2,rfl⟩)
    ·exact Or.inr (Or.inr ⟨i,hi,(o3 i hi).2 (Or.inl rfl),rfl⟩)
    ·exact Or.inl h
    ·exact Or.inr (Or.inl h)
    ·exact Or.inr (Or.inr ⟨j,h1,(o3 j h1).2 (Or.inr h2),rfl⟩)
theorem zbB{x:Int}(h:sm x):(xf x 64 0).Pairwise (·≠·):=by rw[zjc h];exact List.Pairwise.filter _ (by decide)
theorem zc9{l:List Nat}(h:l.Pairwise (·≠·)){f:Nat→SCt}(hf:∀i j,f i=f j→i=j):(l.map f).Pairwise (·≠·):=
 List.pairwise_map.2 (h.imp fun {a b} hab e=>hab (hf a b e))
theorem zcx:∀(r:List Int) (i:Nat),(∀x∈r,sm x)→(vW r i).Pairwise (·≠·)
 | [],_,_=>List.Pairwise.nil
 |s::r,i,h=>by
  refine List.pairwise_append.2 ⟨zc9 (zbB (h s (Yzg ..))) fun a b e=>?_,zcx r (i+1) fun x hx=>h x (Yze _ hx),fun a ha b hb e=>?_⟩
  ·simp only[SCt.mk.injEq,Yyo,true_and]at e;exact e
  ·obtain⟨j,_,rfl⟩:=List.mem_map.1 ha;obtain⟨d,j',s',_,_,_,rfl⟩:=(uN r (i+1) (fun x hx=>h x (Yze _ hx)) b).1 hb;simp only[SCt.mk.injEq,Yyo,true_and]at e;omega
theorem zma{n:Nat}{r:Reg}(T:Tn n r):(yn r).Pairwise (·≠·):=by
 unfold yn;refine List.pairwise_append.2 ⟨List.pairwise_append.2 ⟨zcx _ _ T.st,zc9 (zbB T.c) fun a b e=>?_,fun a ha b hb e=>?_⟩,zc9 (zbB T.f) fun a b e=>?_,fun a ha b hb e=>?_⟩
 ·simp only[SCt.mk.injEq,Yyo,true_and]at e;exact e
 ·obtain⟨d,j',s',_,_,_,rfl⟩:=(uN _ _ T.st a).1 ha;obtain⟨j,_,rfl⟩:=List.mem_map.1 hb;simp at e
 ·simp only[SCt.mk.injEq,Yyo,true_and,and_true]at e;exact e
 ·obtain⟨j,_,rfl⟩:=List.mem_map.1 hb;subst e;rcases List.mem_append.1 ha with h|h
  ·obtain⟨d,j',s',_,_,_,e⟩:=(uN _ _ T.st _).1 h;simp at e
  ·obtain⟨j',_,e⟩:=List.mem_map.1 h;simp at e
section
variable {β:Type}
theorem zeV{x:Option DA}{v:DV}{K:DV→Option β}{R:Option β}(h:x=some (S1 v))(hk:K v=R):b1 x K=R:=by rw[h];exact hk
theorem vF{α:Type}{x:Option α}{v:α}{K:α→Option β}{R:Option β}(h:x=some v)(hk:K v=R):za x K=R:=by rw[h];exact hk
theorem zb8{q:Bool}{a b R:Option β}(h:q=true)(hk:a=R):ifB (.bool q) a b=R:=by rw[h];exact hk
theorem zgu{q:Bool}{a b R:Option β}(h:q=false)(hk:b=R):ifB (.bool q) a b=R:=by rw[h];exact hk
theorem zqi{x:Option DA}{a b:DV}{K:List DS→Option β}{R:Option β}(h:x=some (.tup [.one a,.one b]))(hk:K [.one a,.one b]=R):bT [none,none] x K=R:=by rw[h];exact hk
end
theorem zft(m:Nat)(P:Reg→Prop)(hP:∀a c,P a→P (y9 a c)):∀(r:List SCt) (n:Nat) (a:Reg),P a→(zfu m n a r).length≤r.length+1∧∀x∈zfu m n a r,P x
 | [],n,a,h=>by
  unfold zfu;split
  ·exact⟨LzB _,fun x hx=>by rw[Yz8.1 hx];exact h⟩
  ·exact⟨Yzo _,fun x hx=>by cases hx⟩
 |c::r,n,a,h=>by
  unfold zfu;split
  ·obtain⟨h1,h2⟩:=zft m P hP r 0 (y9 a c) (hP a c h);refine⟨by simp only[Yzm];omega,fun x hx=>?_⟩;rcases Yzw.1 hx with rfl|hx
   ·exact hP a c h
   ·exact h2 x hx
  ·obtain⟨h1,h2⟩:=zft m P hP r (n+1) (y9 a c) (hP a c h);exact⟨by simp only[Yzm];omega,h2⟩
end Go.Proofs.Tryz.Kn
end
section
namespace Go.Proofs.Tryz.Kn
open Go Go.CE Go.PE
def Sub(p q:Reg):Prop:=∀c,c∈yn p→c∈yn q
theorem zDS{x y:Int}(hx:sm x)(hy:sm y):∃a b:Nat,x=(a:Int)∧y=(b:Int)∧a<8∧b<8:=⟨x.toNat,y.toNat,by have:=hx.1;omega,by have:=hy.1;omega,by have:=hx.2;have:=hx.1;omega,by have:=hy.2;have:=hy.1;omega⟩
theorem zEE:((List.range 8).all fun x=>(List.range 8).all fun y=>!((List.range 3).all fun j=>!bit (x:Int) j||bit (y:Int) j)||((vu (x:Int) (y:Int)==0)&&[0,1,2,3].all fun n=>!(zh7 (y:Int) n==0)||zh7 (x:Int) n==0))=true:=by kernel_rfl
theorem jo{x y:Int}(hx:sm x)(hy:sm y)(h:∀j,j<3→bit x j=true→bit y j=true):vu x y=0∧∀n,n≤3→zh7 y n=0→zh7 x n=0:=by
 obtain⟨a,b,rfl,rfl,ha,hb⟩:=zDS hx hy;have q:=YzL.1 (YzL.1 zEE a (List.mem_range.2 ha)) b (List.mem_range.2 hb);have e:((List.range 3).all fun j=>!bit (a:Int) j||bit (b:Int) j)=true:=YzL.2 fun j hj=>by
  have:=h j (List.mem_range.1 hj);cases hb:bit (a:Int) j with
  |false=>rfl
  |true=>rw[this hb];rfl
 rw[e,Yyf,Yz9,LzC,beq_iff_eq]at q;refine⟨q.1,fun n hn hz=>?_⟩;have r:=YzL.1 q.2 n (by simp only[Yzw,Yzt,or_false];omega);rw[hz]at r
 simpa using r
theorem zEX:((List.range 8).all fun x=>(List.range 8).all fun y=>!((List.range 3).all fun j=>bit (x:Int) j==bit (y:Int) j)||Nat.beq x y)=true:=by kernel_rfl
theorem zDh{x y:Int}(hx:sm x)(hy:sm y)(h:∀j,j<3→(bit x j=true↔bit y j=true)):x=y:=by
 obtain⟨a,b,rfl,rfl,ha,hb⟩:=zDS hx hy;have q:=YzL.1 (YzL.1 zEX a (List.mem_range.2 ha)) b (List.mem_range.2 hb);have e:((List.range 3).all fun j=>bit (a:Int) j==bit (b:Int) j)=true:=YzL.2 fun j hj=>by rw[beq_iff_eq,Bool.eq_iff_iff];exact h j (List.mem_range.1 hj)
 rw[e,Yyf,Yz9]at q;rw[Lz1 q]
theorem zEI:((List.range 8).all fun x=>(List.range 8).all fun y=>(List.range 3).all fun j=>bit (orI (x:Int) (y:Int)) j==(bit (x:Int) j||bit (y:Int) j))=true:=by kernel_rfl
theorem zDW{x y:Int}(hx:sm x)(hy:sm y){j:Nat}(hj:j<3):bit (orI x y) j=(bit x j||bit y j):=by obtain⟨a,b,rfl,rfl,ha,hb⟩:=zDS hx hy;exact beq_iff_eq.1 (YzL.1 (YzL.1 (YzL.1 zEI a (List.mem_range.2 ha)) b (List.mem_range.2 hb)) j (List.mem_range.2 hj))
section
variable {n:Nat} {p q:Reg} (P:Tn n p) (Q:Tn n q) (h:Sub p q)
include P Q h
theorem Sub.st{d:Nat}{s s':Int}(h1:p.stops.els[d]? = some s)(h2:q.stops.els[d]? = some s'):∀j,j<3→bit s j=true→bit s' j=true:=by
 intro j hj hb;rcases (wg Q _).1 (h _ ((wg P ⟨1,(d:Int),(j:Int)⟩).2 (Or.inl ⟨d,j,s,h1,hj,hb,rfl⟩))) with⟨d',j',s'',g1,_,g3,g4⟩|⟨j',_,_,g4⟩|⟨j',_,_,g4⟩
 ·simp only[SCt.mk.injEq,Yyo,true_and]at g4;obtain⟨rfl,rfl⟩:=g4;rw[h2]at g1;cases g1;exact g3
 ·simp at g4
 ·simp at g4
theorem Sub.c:∀j,j<3→bit p.cpls j=true→bit q.cpls j=true:=by
 intro j hj hb;rcases (wg Q _).1 (h _ ((wg P ⟨2,0,(j:Int)⟩).2 (Or.inr (Or.inl ⟨j,hj,hb,rfl⟩)))) with⟨d',j',s'',g1,_,g3,g4⟩|⟨j',_,g3,g4⟩|⟨j',_,_,g4⟩
 ·simp at g4
 ·simp only[SCt.mk.injEq,Yyo,true_and]at g4;rw[g4];exact g3
 ·simp at g4
theorem Sub.f:∀j,j<3→bit p.off j=true→bit q.off j=true:=by
 intro j hj hb;rcases (wg Q _).1 (h _ ((wg P ⟨3,(j:Int),0⟩).2 (Or.inr (Or.inr ⟨j,hj,hb,rfl⟩)))) with⟨d',j',s'',g1,_,g3,g4⟩|⟨j',_,_,g4⟩|⟨j',_,g3,g4⟩
 ·simp at g4
 ·simp at g4
 ·simp only[SCt.mk.injEq,Yyo,true_and,and_true]at g4;rw[g4];exact g3
theorem jx:qQ p q=true:=by
 have go:∀(l:List Int) (i:Nat),p.stops.els.drop i=l→wU q.stops.els l i=true:=by
  intro l
  induction l with
  |nil=>intro i _;rfl
  |cons x l ih=>intro i hd;have hx:=xa hd;have hi:=yH hd;obtain⟨y,hy⟩:∃y,q.stops.els[i]? = some y:=⟨_,Lz5 (by rw[Q.len,←P.len];exact hi)⟩;have:=(jo (P.st x (Lz3 hx)) (Q.st y (Lz3 hy)) (Sub.st P Q h hx hy)).1;rw[wU,ih (i+1) (zP hd),kY,hy,Yz2,this];rfl
 unfold qQ;rw[go p.stops.els 0 rfl,(jo P.c Q.c (Sub.c P Q h)).1,(jo P.f Q.f (Sub.f P Q h)).1];rfl
end
theorem sub_eq{n:Nat}{p q:Reg}(P:Tn n p)(Q:Tn n q)(h:Sub p q)(h':Sub q p)(hp:p.stops=some p.stops.els)(hq:q.stops=some q.stops.els):p=q:=by
 have e1:p.stops.els=q.stops.els:=by
  refine Yyj fun i=>?_;by_cases hi:i<n
  ·obtain⟨x,hx⟩:∃x,p.stops.els[i]? = some x:=⟨_,Lz5 (by rw[P.len];exact hi)⟩;obtain⟨y,hy⟩:∃y,q.stops.els[i]? = some y:=⟨_,Lz5 (by rw[Q.len];exact hi)⟩;rw[hx,hy,zDh (P.st x (Lz3 hx)) (Q.st y (Lz3 hy)) fun j hj=>⟨Sub.st P Q h hx hy j hj,Sub.st Q P h' hy hx j hj⟩]
  ·rw[List.getElem?_eq_none (by rw[P.len];omega),List.getElem?_eq_none (by rw[Q.len];omega)]
 have e2:p.cpls=q.cpls:=zDh P.c Q.c fun j hj=>⟨Sub.c P Q h j hj,Sub.c Q P h' j hj⟩;have e3:p.off=q.off:=zDh P.f Q.f fun j hj=>⟨Sub.f P Q h j hj,Sub.f Q P h' j hj⟩;cases p with|mk s c f=>
 cases q with|mk s' c' f'=>
 simp only at hp hq e2 e3 e1;rw[hp,hq,e1,e2,e3]
theorem zDf:∀(ds:List Zo) (ss:List Int),qG ds ss=false↔∀(i:Nat) (d:Zo) (s:Int),ds[i]? = some d→ss[i]? = some s→zh7 s d.stops.els.length=0
 | [],ss=>by refine⟨fun _ i d s h=>(by cases h),fun _=>by simp[qG]⟩
 |_::_,[]=>⟨fun _ i d s _ h=>(by cases h),fun _=>rfl⟩
 |d::ds,s::ss=>by
  rw[qG,Bool.or_eq_false_iff,zDf ds ss]
  constructor
  ·rintro⟨h1,h2⟩ i d' s' hd hs
   cases i with
   |zero=>cases hd;cases hs;simpa using h1
   |succ i=>exact h2 i d' s' hd hs
  ·intro h;exact⟨by have:=h 0 d s rfl rfl;simpa using this,fun i d' s' hd hs=>h (i+1) d' s' hd hs⟩
theorem ju{o:Org}(h0:jS o=0)(r:Reg):yB o r=0↔r.stops.els.length=o.divs.els.length∧qG o.divs.els r.stops.els=false∧zh7 r.cpls o.cpls.els.length=0∧zh7 r.off o.divs.els.length=0:=by
 have n3:(3:Int)≠0:=by decide
 unfold yB;rw[Yzb (by simp[h0])]
 constructor
 ·intro h;have h1:r.stops.els.length=o.divs.els.length:=Classical.not_not.1 fun hne=>by
   rw[Yzd hne]at h;cases h
  rw[Yzb (by simp[h1])]at h;have h2:qG o.divs.els r.stops.els=false:=by
   cases e:qG o.divs.els r.stops.els with
   |false=>rfl
   |true=>rw[Yzd e]at h;exact absurd h n3
  rw[Yzb (by simp[h2])]at h;have h3:zh7 r.cpls o.cpls.els.length=0:=Classical.not_not.1 fun e=>by rw[Yzd e]at h;exact n3 h
  rw[Yzb (by simp[h3])]at h;have h4:zh7 r.off o.divs.els.length=0:=Classical.not_not.1 fun e=>by rw[Yzd e]at h;exact n3 h
  exact⟨h1,h2,h3,h4⟩
 ·rintro⟨h1,h2,h3,h4⟩
  rw[Yzb (by simp[h1]),Yzb (by simp[h2]),Yzb (by simp[h3]),Yzb (by simp[h4])]
theorem zDi{o:Org}(H:Small o){p t:Reg}(P:Tn o.divs.els.length p)(ht:yB o t=0)(h:Sub p t):yB o p=0:=by have T:=zk2 H ht;obtain⟨h1,h2,h3,h4⟩:=(ju H.h0 t).1 ht;refine (ju H.h0 p).2 ⟨P.len,(zDf _ _).2 fun i d s hd hs=>?_,(jo P.c T.c (Sub.c P T h)).2 _ H.hc h3,(jo P.f T.f (Sub.f P T h)).2 _ H.hd h4⟩;obtain⟨y,hy⟩:∃y,t.stops.els[i]? = some y:=⟨_,Lz5 (by rw[T.len];exact(Lz0.1 hd).1)⟩;exact(jo (P.st s (Lz3 hs)) (T.st y (Lz3 hy)) (Sub.st P T h hs hy)).2 _ (H.hs d (Lz3 hd)) ((zDf _ _).1 h2 i d y hd hy)
structure Stg (o:Org) (m:Nat) (t p q:Reg):Prop where
 sub:Sub p q
 top:Sub q t
 tn:Tn o.divs.els.length q
 sz:uC q≤uC p+m
 so:q.stops=some q.stops.els
 le:uC p≤uC q
def Chn(o:Org)(m:Nat)(t:Reg):Reg→List Reg→Prop
 |_,[]=>True
 |p,q::l=>Stg o m t p q∧Chn o m t q l
def kj:Reg→List Reg→Reg
 |p,[]=>p
 |_,q::l=>kj q l
theorem kg{o:Org}(m:Nat)(t:Reg):∀(r:List SCt) (n:Nat) (p a:Reg),n<m→Tn o.divs.els.length p→Tn o.divs.els.length a→Sub p a→uC a=uC p+n→p.stops=some p.stops.els→a.stops=some a.stops.els→r.Pairwise (·≠·)→(∀c∈r,okC o.divs.els.length c)→(∀c∈r,c∉yn a)→(∀c∈r,c∈yn t)→Sub a t→(n=0→a=p)→
  Chn o m t p (zfu m n a r)∧Tn o.divs.els.length (kj p (zfu m n a r))∧(kj p (zfu m n a r)).stops=some (kj p (zfu m n a r)).stops.els∧(∀c,c∈yn (kj p (zfu m n a r))↔c∈yn a∨c∈r)∧uC (kj p (zfu m n a r))=uC a+r.length
 | [],n,p,a,hn,P,A,hs,hz,hp,ha,_,_,_,_,ht,h0=>by
  unfold zfu;by_cases h:0<n
  ·rw[Yzd h];exact⟨⟨⟨hs,ht,A,by omega,ha,by omega⟩,trivial⟩,A,ha,fun c=>by simp[kj],rfl⟩
  ·rw[Yzb h];have:=h0 (by omega);subst this;exact⟨trivial,P,hp,fun c=>by simp[kj],rfl⟩
 |c::r,n,p,a,hn,P,A,hs,hz,hp,ha,hd,hok,hna,hct,ht,_=>by
  obtain⟨A',hz',hm'⟩:=zrY A (hok c (Yzg ..));rw[Yzb (hna c (Yzg ..))]at hz';have hd2:=List.pairwise_cons.1 hd;have hok2:∀c∈r,okC o.divs.els.length c:=fun c hc=>hok c (Yze _ hc);have hna2:∀c'∈r,c'∉yn (y9 a c):=fun c' hc' h=>by
   rcases (hm' c').1 h with rfl|h
   ·exact hd2.1 c' hc' rfl
   ·exact hna c' (Yze _ hc') h
  have hct2:∀c'∈r,c'∈yn t:=fun c' hc'=>hct c' (Yze _ hc');have ht2:Sub (y9 a c) t:=fun c' h=>by
   rcases (hm' c').1 h with rfl|h
   ·exact hct c' (Yzg ..)
   ·exact ht c' h
  have hs2:Sub p (y9 a c):=fun c' h=>(hm' c').2 (Or.inr (hs c' h));have hmem:∀c',(c'∈yn (y9 a c)∨c'∈r)↔(c'∈yn a∨c'∈c::r):=fun c'=>by
   rw[hm',Yzw]
   constructor
   ·rintro ((h|h)|h)
    ·exact Or.inr (Or.inl h)
    ·exact Or.inl h
    ·exact Or.inr (Or.inr h)
   ·rintro (h|h|h)
    ·exact Or.inl (Or.inr h)
    ·exact Or.inl (Or.inl h)
    ·exact Or.inr h
  unfold zfu;by_cases e:n+1=m
  ·rw[Yzd e];obtain⟨k1,k2,k3,k4,k5⟩:=kg m t r 0 (y9 a c) (y9 a c) (by omega) A' A' (fun _ h=>h) rfl (zpw a c) (zpw a c) hd2.2 hok2 hna2 hct2 ht2 fun _=>rfl;refine⟨⟨⟨hs2,ht2,A',by omega,zpw a c,by omega⟩,k1⟩,k2,k3,fun c'=>(k4 c').trans (hmem c'),?_⟩;rw[show kj p (y9 a c::zfu m 0 (y9 a c) r)=kj (y9 a c) (zfu m 0 (y9 a c) r) from rfl,k5,hz',Yzm];omega
  ·rw[Yzb e];obtain⟨k1,k2,k3,k4,k5⟩:=kg m t r (n+1) p (y9 a c) (by omega) P A' hs2 (by omega) hp (zpw a c) hd2.2 hok2 hna2 hct2 ht2 fun h=>by omega
   refine⟨k1,k2,k3,fun c'=>(k4 c').trans (hmem c'),?_⟩;rw[k5,hz',Yzm];omega
theorem kf(m:Nat):∀(r:List SCt) (n:Nat) (a:Reg),n<m→(zfu m n a r).length=(n+r.length+m-1) / m
 | [],n,a,hn=>by
  unfold zfu;by_cases h:0<n
  ·rw[Yzd h,YzJ,show n+0+m-1=(n-1)+m by omega,Nat.add_div_right _ (by omega),Nat.div_eq_of_lt (by omega)];rfl
  ·rw[Yzb h];simp only[YzJ];rw[Nat.div_eq_of_lt (by omega)]
 |c::r,n,a,hn=>by
  unfold zfu;by_cases e:n+1=m
  ·rw[Yzd e,Yzm,kf m r 0 _ (by omega),Yzm,show n+(r.length+1)+m-1=(0+r.length+m-1)+m by omega,Nat.add_div_right _ (by omega)]
  ·rw[Yzb e,kf m r (n+1) _ (by omega),Yzm,show n+(r.length+1)+m-1=n+1+r.length+m-1 by omega]
theorem zDb{o:Org}(H:Small o){m:Nat}{t:Reg}(ht:yB o t=0):∀(l:List Reg) (p:Reg),Tn o.divs.els.length p→Chn o m t p l→∀v:Option Reg,(v=none∨v=some p)→zEN o v l=0
 | [],_,_,_,_,_=>rfl
 |q::l,p,P,⟨S,C⟩,v,hv=>by
  have h1:=zDi H S.tn ht S.top;have h2:(v.any fun x=>!qQ x q)=false:=by
   rcases hv with rfl|rfl
   ·rfl
   ·simp[jx P S.tn S.sub]
  rw[zEN,Yzb (by simp[h1]),Yzb (by simp[h2])];exact zDb H ht l q S.tn C _ (Or.inr rfl)
theorem t39(k:Nat){x:Int}(hx:sm x):D (k+1) 39 [S1 (U64 x)]=some (S1 (I6 ((xf x 64 0).length:Int))):=by
 obtain⟨a,rfl⟩:∃a:Nat,x=(a:Int):=⟨x.toNat,by have:=hx.1;omega⟩;have h8:a<8:=by have:=hx.2;omega
 rw[D39];have go:P39 (D k) (U64 (a:Int))=some (S1 (I6 ((xf (a:Int) 64 0).length:Int))):=by rcases (show a=0∨a=1∨a=2∨a=3∨a=4∨a=5∨a=6∨a=7 by omega) with rfl|rfl|rfl|rfl|rfl|rfl|rfl|rfl<;>rfl
 exact go
theorem zFp(k:Nat)(v:Sl Int)(hl:v.els.length≤10)(hs:∀x∈v.els,sm x):∀(r:List Int) (i acc:Nat),v.els.drop i=r→acc≤128+64*i→
  zA (zEt (D (k+1)) (I6 (v.els.length:Int)) (enL 1 enU v)) [I6 (i:Int),I6 (acc:Int)] []=some (.exit 0,[I6 ((acc+zqf r:Nat):Int)],[]):=by
 intro r
 induction r with
 |nil=>intro i acc h _;refine zu ?_;simp only[zEt,zz,yF,zj,zb,xY (ya h),zn,zqf,YzB];rfl
 |cons s r ih=>intro i acc h ha;have h1:=yH h;have c:=t39 k (hs s (Lz3 (xa h)));have hb:=um s 64 0;have ea:zc .add (I6 (i:Int)) (I6 1)=some (I6 ((i+1:Nat):Int)):=yQ;have eb:zc .add (I6 (acc:Int)) (I6 ((xf s 64 0).length:Int))=some (I6 ((acc+(xf s 64 0).length:Nat):Int)):=yQ;rw[zH (by simp only[zEt,zz,yF,zj,zb,jX h1,zn,if_true,yc h,enU,xE,c,zX,eb,ea];rfl),ih (i+1) _ (zP h) (by omega),zqf,Yyd]
theorem t17(k:Nat){n:Nat}{r:Reg}(T:Tn n r)(hn:n≤10):D (k+2) 17 [SA (yz r)]=some (S1 (I6 (uC r:Int))):=by have c1:=t39 k T.c;have c2:=t39 k T.f;have h1:=um r.cpls 64 0;have h2:=um r.off 64 0;have l:=zFp k r.stops (by rw[T.len];exact hn) T.st r.stops.els 0 ((xf r.cpls 64 0).length+(xf r.off 64 0).length) rfl (by omega);have ea:zc .add (I6 ((xf r.cpls 64 0).length:Int)) (I6 ((xf r.off 64 0).length:Int))=some (I6 (((xf r.cpls 64 0).length+(xf r.off 64 0).length:Nat):Int)):=yQ;rw[show (I6 ((0:Nat):Int):DV)=I6 0 from rfl]at l;unfold yz uC;rw[D17];unfold P17;rw[c1,zX,c2,zX,ea,zb,zD,zb,l];rfl
theorem zFo(k:Nat)(a b:Reg)(u0 v0:DV)(ha:a.stops.els.length≤10)(hab:a.stops.els.length=b.stops.els.length):∀(r s:List Int) (i:Nat) (acc:List Int),a.stops.els.drop i=r→b.stops.els.drop i=s→acc.length=i→
  zA (zEu (D (k+1)) (I6 (a.stops.els.length:Int)) (enL 1 enU a.stops) (U64 a.cpls) (U64 a.off) (enL 1 enU b.stops) (U64 b.cpls) (U64 b.off)) [I6 (i:Int),u0,v0] [ocL enU (grow acc)]=some (.exit 0,[u0,v0],[ocL enU (grow (acc++orL r s))]):=by
 intro r
 induction r with
 |nil=>intro s i acc h _ _;refine zu ?_;simp only[zEu,zz,yF,yM,zj,zb,xY (ya h),zn,orL,Yz5];rfl
 |cons x r ih=>
  intro s i acc h hs hacc;have h1:=yH h;cases s with
  |nil=>have:=ya hs;omega
  |cons y s=>
   have ea:zc .add (I6 (i:Int)) (I6 1)=some (I6 ((i+1:Nat):Int)):=yQ;have ca:=t38 k a i;have cb:=t38 k b i;rw[show kY a.stops.els i=x by rw[kY,xa h];rfl]at ca;rw[show kY b.stops.els i=y by rw[kY,xa hs];rfl]at cb;unfold yz at ca cb;have ef:fits 8 ((grow acc).els.length+1)=true:=wH (by decide) (by rw[zK];omega);have hp:(some ((grow acc).els.map enU++[[U64 (orI x y)]]):OC)=ocL enU (grow (acc++[orI x y])):=by rw[wi,←vJ]
   rw[zH (by simp only[zEu,zz,yF,yM,zj,zb,jX h1,zn,if_true,ca,cb,zX,zbe,xZ,ef,kR,ea,x9,hp];rfl),ih s (i+1) _ (zP h) (zP hs) (by simp[hacc]),orL]
   simp
theorem t15(k:Nat)(a b:Reg)(ha:a.stops.els.length≤10)(hab:a.stops.els.length=b.stops.els.length):D (k+2) 15 [SA (yz a),SA (yz b)]=some (SA (yz (jr b a))):=by
 have l:=zFo k a b (U64 (orI a.cpls b.cpls)) (U64 (orI a.off b.off)) ha hab a.stops.els b.stops.els 0 [] rfl rfl rfl;rw[show (I6 ((0:Nat):Int):DV)=I6 0 from rfl,show ocL enU (grow ([]:List Int))=none from rfl,Yz0]at l;have e:wp true (I6 (a.stops.els.length:Int)) [I6 (b.stops.els.length:Int)]=some (I6 (a.stops.els.length:Int)):=by rw[zv7,←hab,Int.max_self]
 unfold yz jr;rw[D15];unfold P15;simp only[zbe,zb,zD,e,l,yq,Yzp,Yza,yM,zz,yF,kK]
theorem zDY{o:Org}(H:Small o){p q:Reg}(P:Tn o.divs.els.length p)(Q:Tn o.divs.els.length q)(h:Sub p q)(h0:q.off=0):Le o p q:=by
 refine⟨fun i x hx hb=>?_,fun n d hd hb=>?_,fun n d x j t hd hx ht hb=>?_⟩
 ·have h1:=(Lz0.1 hx).1;have h2:=H.hc;exact Sub.c P Q h i (by omega) hb
 ·have h1:=(Lz0.1 hd).1;have h2:=H.hd;rw[h0]at hb;have:n=0∨n=1∨n=2:=by omega
  rcases this with rfl|rfl|rfl<;>cases hb
 ·have h1:=(Lz0.1 hd).1;have h2:=(Lz0.1 ht).1;have h3:=H.hs d (Lz3 hd);obtain⟨y,hy⟩:∃y,q.stops.els[n]? = some y:=⟨_,Lz5 (by rw[Q.len];exact h1)⟩;exact⟨y,hy,Sub.st P Q h hx hy j (by omega) hb⟩
theorem zDn(f:Nat→Int→Bool):∀(l:List Zo) (n:Nat),(∀i d,l[i]? = some d→∀key,d.low≤key→key≤d.high→f (n+i) key=false)→zDo f l n=false
 | [],_,_=>rfl
 |d::l,n,h=>by
  have go:∀(m:Nat) (key:Int),d.low≤key→key+(m:Int)≤d.high+1→zDg f n m key=false:=by
   intro m
   induction m with
   |zero=>intro key _ _;rfl
   |succ m ih=>intro key h1 h2;rw[zDg,show f n key=false from h 0 d rfl key h1 (by omega),ih (key+1) (by omega) (by omega)];rfl
  rw[zDo,zDn f l (n+1) fun i d' hd key h1 h2=>by rw[show n+1+i=n+(i+1) by omega];exact h (i+1) d' hd key h1 h2];by_cases hle:d.low≤d.high+1
  ·rw[go _ d.low (Int.le_refl _) (by omega)];rfl
  ·rw[show (d.high-d.low+1).toNat=0 by omega];rfl
section
variable {o:Org} (ho:o.ok) (h0:jS o=0) (hF:∀r:Reg,yB o r=0→Fit o r)
include ho h0 hF
theorem zD5(H:Small o){p q:Reg}(hp:yB o p=0)(hq:yB o q=0)(h:Sub p q)(hz:q.off=0):zER o q p=false:=by have L:=zDY H (zk2 H hp) (zk2 H hq) h hz;refine zDn _ _ _ fun i d hd key h1 h2=>?_;rw[Yzi];have hin:=zD2 (o:=o) hd h1 h2;obtain⟨v,_,tv⟩:=t40 (hF p hp) 0 ho h0 hp i key hin;obtain⟨w,_,tw⟩:=t40 (hF q hq) 0 ho h0 hq i key hin;unfold zEe;rw[←jh tv,←jh tw,List.any_eq_false];intro y hy;have:=(tw.2.2 y).2 (zFl L _ hin y ((tv.2.2 y).1 hy));simp[this]
theorem zFs(k:Nat)(H:Small o){m:Nat}{t:Reg}(ht:yB o t=0)(hz:t.off=0)(ls:List Reg)(hl:ls.length≤100):∀(r:List Reg) (i:Nat) (p:Reg),ls.drop i=r→yB o p=0→Chn o m t p r→
  zA (zD8 (D (k+14)) [.one (enL 3 yz (grow ls)),.one (I6 0)] (I6 (m:Int)) (enO o)) [I6 (i:Int),enL 1 enU p.stops,U64 p.cpls,U64 p.off] []=some (.exit 0,yz (kj p r),[]):=by
 intro r
 induction r with
 |nil=>intro i p h _ _;refine zu ?_;simp only[zD8,zz,yF,zkB,zf3,zD,zK,zj,zb,xY (ya h),zn];rfl
 |cons q r ih=>
  intro i p h hp C;obtain⟨S,C⟩:=C;have hlt:=yH h;have hx:=xa h;have hq:=zDi H S.tn ht S.top;have P:=zk2 H hp;have hdl:=H.hd;have qz:q.off=0:=by
   have T:=zk2 H ht;refine zDh S.tn.f ⟨Int.le_refl _,by decide⟩ fun j hj=>⟨fun hb=>?_,fun hb=>?_⟩
   ·have:=Sub.f S.tn T S.top j hj hb;rw[hz]at this;exact this
   ·rcases (show j=0∨j=1∨j=2 by omega) with rfl|rfl|rfl<;>cases hb
  have ea:zc .add (I6 (i:Int)) (I6 1)=some (I6 ((i+1:Nat):Int)):=yQ;have cw:=t18 (k+12) p q (by unfold zgH;rw[P.len];omega);have c1:=t17 (k+12) S.tn (by omega);have c2:=t17 (k+12) P (by omega);have ca:=t19 ho h0 (hF q hq) (hF p hp) hq hp k;rw[jx P S.tn S.sub]at cw;rw[zD5 ho h0 hF H hp hq S.sub qz]at ca;have ix:yW 3 (enL 3 yz (grow ls)) (I6 (i:Int))=some (yz q):=by rw[jB,zK,hx];rfl
  have hb1:∀r:Reg,Tn o.divs.els.length r→uC r≤1000:=fun r T=>by
   have h1:=um r.cpls 64 0;have h2:=um r.off 64 0;have:∀l:List Int,zqf l≤64*l.length:=by
    intro l
    induction l with
    |nil=>exact LzB _
    |cons s l ih=>have:=um s 64 0;simp only[zqf,Yzm];omega
   have h3:=this r.stops.els;have:=T.len;unfold uC;omega
  have b1':=hb1 q S.tn;have b2':=hb1 p P;have hsz:=S.sz;have hle:=S.le;have es:zc .sub (I6 (uC q:Int)) (I6 (uC p:Int))=some (I6 ((uC q-uC p:Nat):Int)):=by rw[show ((uC q-uC p:Nat):Int)=(uC q:Int)-(uC p:Int) by omega];exact zmK
  have eg:decide ((m:Int)<((uC q-uC p:Nat):Int))=false:=decide_eq_false (by omega);have ep:yz p=[enL 1 enU p.stops,U64 p.cpls,U64 p.off]:=rfl;rw[ep]at cw c2 ca;have eo:=zEx o;rw[zH (by simp only[zD8,zz,yF,zkB,zf3,zD,zK,zj,zb,jX hlt,zn,if_true,ix,zkR,eo,cw,zX,yY,Yyf,Yzh,if_false,c1,c2,es,yE,eg,ca,ea];rfl)]
  exact ih (i+1) q (zP h) hq C
end
def zFh(b0 b1:Nat→Nat):List DV:=[U8 (b0 0:Int),U8 (b0 1:Int),U8 (b0 2:Int),U8 (b0 3:Int),U8 (b0 4:Int),U8 (b1 0:Int),U8 (b1 1:Int),U8 (b1 2:Int),U8 (b1 3:Int),U8 (b1 4:Int)]
theorem t4(k:Nat)(p:Pln)(hp:p.ok)(b0 b1:Nat→Nat)(hb0:∀i,b0 i<256)(hb1:∀i,b1 i<256)(x:Nat)(hx:x<256):D (k+16) 4 [SA (zf1 p),SA (zFh b0 b1),S1 (U8 (x:Int))]=some (S1 (Bo true)):=by
 have kn:=D5 (k+15);have cf:=t6 (k+14) p hp;unfold zf1 at cf ⊢;unfold zFh;rw[D4];unfold P4;refine zeV kn (vF (yY _) (zgu rfl (zeV cf (vF (yY _) ?_))));cases hf:zfP p with
 |false=>exact zb8 rfl (zeV kn rfl)
 |true=>
  have er:zc .rem (U8 (x:Int)) (U8 9)=some (U8 ((x % 9:Nat):Int)):=zlq (b:=9) (by decide);have h9:x % 9<9:=Yz6 _ (by decide);have ec:xx .i64 (U8 ((x % 9:Nat):Int))=some (I6 ((x % 9:Nat):Int)):=qN;have e1:zc .add (I6 1) (I6 ((x % 9:Nat):Int))=some (I6 ((1+x % 9:Nat):Int)):=by rw[show ((1+x % 9:Nat):Int)=(1:Int)+((x % 9:Nat):Int) by omega];exact yQ
  refine zgu rfl (vF er (vF ec (vF e1 ?_)));generalize hm:1+x % 9=m;have hm1:0<m:=by omega
  have hm9:m≤9:=by omega
  have cm:=t7 (k+8) p hp hf;have ho:=ztK p hf;have h0:=zlL p hp hf;have hFit:∀r:Reg,yB (zmp p) r=0→Fit (zmp p) r:=fun r hr=>zEL p hf r (zDO h0 hr);obtain⟨s1,s2,s3⟩:=zlK p hf;have H:Small (zmp p):=⟨h0,s1,s2,s3⟩;generalize zmp p=o at cm ho h0 hFit s1 s2 s3 H;unfold zf1 at cm;have d0:=t14 (k+14) o b0 hb0 (by omega) (fun d hd=>by have:=s2 d hd;omega) (by omega);have d1:=t14 (k+14) o b1 hb1 (by omega) (fun d hd=>by have:=s2 d hd;omega) (by omega);have R0:=Sm.drawn H b0 hb0;have R1:=Sm.drawn H b1 hb1;have hz:sm 0:=⟨Int.le_refl _,by decide⟩;have cut:∀r:Reg,Sm o r→Sm o ⟨r.stops,r.cpls,0⟩:=fun r R=>by refine⟨(ju h0 _).2 ?_,R.len,R.st,R.c,hz⟩;obtain⟨g1,g2,g3,_⟩:=(ju h0 r).1 R.ok;exact⟨g1,g2,g3,zEg _⟩
  have A:=cut _ R0;have B:=cut _ R1;have hd1:=(zcS h0).2;have sA:(ja o b0).stops=some (ja o b0).stops.els:=by unfold ja;rw[zK,zfO (by rw[jd];exact hd1)]
  generalize ja o b0=r0 at d0 A sA R0;generalize ja o b1=r1 at d1 B R1;rw[cm,zuS];have en0:[atD [U8 (b0 0:Int),U8 (b1 0:Int)] 0,atD [U8 (b0 1:Int),U8 (b1 1:Int)] 0,atD [U8 (b0 2:Int),U8 (b1 2:Int)] 0,atD [U8 (b0 3:Int),U8 (b1 3:Int)] 0,atD [U8 (b0 4:Int),U8 (b1 4:Int)] 0]=enB b0:=rfl;have en1:[atD [U8 (b0 0:Int),U8 (b1 0:Int)] 1,atD [U8 (b0 1:Int),U8 (b1 1:Int)] 1,atD [U8 (b0 2:Int),U8 (b1 2:Int)] 1,atD [U8 (b0 3:Int),U8 (b1 3:Int)] 1,atD [U8 (b0 4:Int),U8 (b1 4:Int)] 1]=enB b1:=rfl;rw[zEx,en0,en1,d0,zje,d1,zje];have hab:=A.len.trans B.len.symm;have hA10:(⟨r0.stops,r0.cpls,0⟩:Reg).stops.els.length≤10:=by rw[A.len];omega
  have cb:=t15 (k+13) ⟨r0.stops,r0.cpls,0⟩ ⟨r1.stops,r1.cpls,0⟩ hA10 hab;have T:=(Sm.or H B A).1;have hoff:orI 0 0=0:=rfl;have htz:(jr ⟨r1.stops,r1.cpls,0⟩ ⟨r0.stops,r0.cpls,0⟩).off=0:=hoff;have hte:(jr ⟨r1.stops,r1.cpls,0⟩ ⟨r0.stops,r0.cpls,0⟩).stops.els=orL r0.stops.els r1.stops.els:=zK _;have hts:(jr ⟨r1.stops,r1.cpls,0⟩ ⟨r0.stops,r0.cpls,0⟩).stops=some (jr ⟨r1.stops,r1.cpls,0⟩ ⟨r0.stops,r0.cpls,0⟩).stops.els:=by rw[hte];show grow (orL r0.stops.els r1.stops.els)=_;rw[zfO (by rw[zDB _ _ hab];have h:r0.stops.els.length=o.divs.els.length:=A.len;show 0<r0.stops.els.length;omega)]
  have tA:Tn o.divs.els.length ⟨r0.stops,r0.cpls,0⟩:=⟨A.len,A.st,A.c,A.f⟩;have hsub:Sub ⟨r0.stops,r0.cpls,0⟩ (jr ⟨r1.stops,r1.cpls,0⟩ ⟨r0.stops,r0.cpls,0⟩):=by
   have tT:Tn o.divs.els.length (jr ⟨r1.stops,r1.cpls,0⟩ ⟨r0.stops,r0.cpls,0⟩):=⟨T.len,T.st,T.c,T.f⟩;intro c hc;rw[wg tT];rcases (wg tA c).1 hc with⟨d,j,s,g1,g2,g3,rfl⟩|⟨j,g1,g2,rfl⟩|⟨j,g1,g2,rfl⟩
   ·simp only at g1;obtain⟨y,hy⟩:∃y,r1.stops.els[d]? = some y:=⟨_,Lz5 (by rw[←show r0.stops.els.length=r1.stops.els.length from hab];exact(Lz0.1 g1).1)⟩;refine Or.inl ⟨d,j,orI s y,by rw[hte];exact zDC _ _ d s y g1 hy,g2,?_,rfl⟩;rw[zDW (A.st s (Lz3 g1)) (B.st y (Lz3 hy)) g2,g3,Bool.true_or]
   ·refine Or.inr (Or.inl ⟨j,g1,?_,rfl⟩);have g2:bit r0.cpls j=true:=g2;show bit (orI r0.cpls r1.cpls) j=true;rw[zDW A.c B.c g1,g2,Bool.true_or]
   ·refine Or.inr (Or.inr ⟨j,g1,?_,rfl⟩);have g2:bit 0 j=true:=g2;rcases (show j=0∨j=1∨j=2 by omega) with rfl|rfl|rfl<;>cases g2
  have eA:yz ⟨r0.stops,r0.cpls,0⟩=[enL 1 enU r0.stops,U64 r0.cpls,U64 0]:=rfl;have eB:yz ⟨r1.stops,r1.cpls,0⟩=[enL 1 enU r1.stops,U64 r1.cpls,U64 0]:=rfl;have e00:atD (yz r0) 0=enL 1 enU r0.stops:=rfl;have e01:atD (yz r0) 1=U64 r0.cpls:=rfl;have e10:atD (yz r1) 0=enL 1 enU r1.stops:=rfl;have e11:atD (yz r1) 1=U64 r1.cpls:=rfl;rw[eA,eB]at cb;rw[e00,e01,e10,e11,cb,zje];generalize hto:jr ⟨r1.stops,r1.cpls,0⟩ ⟨r0.stops,r0.cpls,0⟩=to at T htz hts hsub;generalize ha:(⟨r0.stops,r0.cpls,0⟩:Reg)=a at A hsub eA tA hA10;have aS:a.stops=some a.stops.els:=by rw[←ha];exact sA
  have tT:Tn o.divs.els.length to:=⟨T.len,T.st,T.c,T.f⟩;have hl15:=zco tT s1;have hw:y6 o a to (m:Int)=0:=by unfold y6;rw[Yzb (by simp[A.ok]),Yzb (by simp[T.ok]),Yzb (by omega),Yzb (by simp[jx tA tT hsub])]
  have c8:=t8 (k+3) ho H a to hA10 (by rw[T.len];omega) (m:Int) (by omega);rw[Yzb (by simp[hw]),hw,YzE]at c8;have hnew:∀c∈zhM a to,c∉yn a∧c∈yn to:=fun c hc=>by obtain⟨g1,g2⟩:=List.mem_filter.1 hc;exact⟨by simpa[vO] using g2,g1⟩
  have hcount:=kf m (zhM a to) 0 a hm1;obtain⟨k1,k2,k3,k4,k5⟩:=kg (o:=o) m to (zhM a to) 0 a a hm1 tA tA (fun _ h=>h) rfl aS aS (List.Pairwise.filter _ (zma tT)) (fun c hc=>ziV tT c (hnew c hc).2) (fun c hc=>(hnew c hc).1) (fun c hc=>(hnew c hc).2) hsub fun _=>rfl;have hlen:(zhM a to).length≤15:=Yzn (List.length_filter_le _ _) hl15;have hll:(zfu m 0 a (zhM a to)).length≤100:=by have:=(zft m (fun _=>True) (fun _ _ h=>h) (zhM a to) 0 a trivial).1;omega
  have hlast:kj a (zfu m 0 a (zhM a to))=to:=by
   refine sub_eq k2 tT (fun c hc=>?_) (fun c hc=>?_) k3 hts
   ·rcases (k4 c).1 hc with h|h
    ·exact hsub c h
    ·exact(hnew c h).2
   ·refine (k4 c).2 ?_;by_cases h:c∈yn a
    ·exact Or.inl h
    ·exact Or.inr (List.mem_filter.2 ⟨hc,by simp[vO,h]⟩)
  rw[hlast]at k5;generalize zfu m 0 a (zhM a to)=ls at c8 hcount k1 hll hlast;have c16:=t16 (k+4) o ho (grow ls) (by rw[zK];omega) fun r _=>by
   rw[zK]at *;unfold zgH;have:∀(l:List Reg) (p:Reg),Chn o m to p l→∀r∈l,r.stops.els.length=o.divs.els.length:=by
    intro l
    induction l with
    |nil=>intro _ _ r hr;cases hr
    |cons q l ih=>
     intro p C r hr;rcases Yzw.1 hr with rfl|hr
     ·exact C.1.tn.len
     ·exact ih q C.2 r hr
   have:=this ls a k1 r (by assumption);omega
  have hcr:zEn o (grow ls).els=0:=by rw[zK];unfold zEn;rw[Yzb (by simp[h0]),Yzb (by omega)];exact zDb H T.ok ls a tA k1 none (Or.inl rfl)
  rw[hcr]at c16;have c17:=t17 (k+13) tT (by omega);have c17a:=t17 (k+13) tA (by omega);have l:=zFs ho h0 hFit (k+1) H T.ok htz ls hll ls 0 a rfl A.ok k1;have c13:=t13 (k+14) to (by rw[T.len];omega);have ad:a.off=0:=by rw[←ha]
  have ae:[enL 1 enU r0.stops,U64 r0.cpls,U64 0]=yz a:=eA.symm;have ew:[enL 1 enU r0.stops,U64 r0.cpls,U64 0,atD (yz to) 0,atD (yz to) 1,atD (yz to) 2,I6 (m:Int)]=zb3 a to (m:Int):=by rw[←ha];rfl
  have ls0:zA (zD8 (D (k+15)) [.one (enL 3 yz (grow ls)),.one (I6 0)] (I6 (m:Int)) (enO o)) [I6 0,enL 1 enU r0.stops,U64 r0.cpls,U64 0] []=some (.exit 0,yz to,[]):=by
   rw[hlast]at l;have:[I6 ((0:Nat):Int),enL 1 enU a.stops,U64 a.cpls,U64 a.off]=[I6 0,enL 1 enU r0.stops,U64 r0.cpls,U64 0]:=by rw[←ha];rfl
   rw[this]at l;exact l
  have hsz:uC to=uC a+(zhM a to).length:=k5;have hbs:uC to≤1000:=by
   have h1:=um to.cpls 64 0;have h2:=um to.off 64 0;have:∀l:List Int,zqf l≤64*l.length:=by
    intro l
    induction l with
    |nil=>exact LzB _
    |cons s l ih=>have:=um s 64 0;simp only[zqf,Yzm];omega
   have h3:=this to.stops.els;have:=tT.len;unfold uC;omega
  have q1:zc .sub (I6 (uC to:Int)) (I6 (uC a:Int))=some (I6 (((zhM a to).length:Nat):Int)):=by rw[show (((zhM a to).length:Nat):Int)=(uC to:Int)-(uC a:Int) by omega];exact zmK
  have q2:zc .add (I6 (((zhM a to).length:Nat):Int)) (I6 (m:Int))=some (I6 (((zhM a to).length+m:Nat):Int)):=yQ;have q3:zc .sub (I6 (((zhM a to).length+m:Nat):Int)) (I6 1)=some (I6 (((zhM a to).length+m-1:Nat):Int)):=by rw[show (((zhM a to).length+m-1:Nat):Int)=(((zhM a to).length+m:Nat):Int)-1 by omega];exact zmK
  have hdv:((zhM a to).length+m-1) / m≤1000:=Yzn (Nat.div_le_self _ _) (by omega);have q4:zc .quo (I6 (((zhM a to).length+m-1:Nat):Int)) (I6 (m:Int))=some (I6 ((((zhM a to).length+m-1) / m:Nat):Int)):=zFL (by omega) (by generalize ((zhM a to).length+m-1) / m=z at hdv;rw[wrap64 (by omega) (by omega)])
  rw[Yzi]at hcount;rw[ew];refine zqi c8 (vF (zU ..) (zgu rfl ?_));refine zeV c16 (vF (zU ..) (zgu rfl (vF (zD ..) ?_)));rw[zkR,ae];refine zeV c17 (zeV c17a (vF q1 (vF q2 (vF q3 (vF q4 (vF (zU ..) (zgu (by rw[zK,hcount,Yzu];rfl) ?_)))))));rw[ae]at ls0;rw[ls0,yq,Yzp,Yza];exact zeV c13 rfl
end Go.Proofs.Tryz.Kn
end
