/-
  Lemmas. No condition.
-/
import Derived.Test.YtnmjdoahlkcflaaGreatDoorWl
set_option linter.unusedSimpArgs false
set_option linter.unusedVariables false
section
namespace Go.Proofs.Tryz.Kn
open Go Go.CE Go.PE
section
variable {o:Org} {r:Reg} (F:Fit o r)
include F
theorem zjA(k n:Nat)(d:Zn)(s:Int)(hd:o.divs.els[n]? = some d)(hs:r.stops.els[n]? = some s)(key:Int):∀(l:List Zq) (j:Nat) (v:Sl Zh),d.stops.els.drop j=l→v.els.length+2*l.length≤1000→
  ∃v',zJ (zeB (D (k+4)) (I6 (d.stops.els.length:Int)) (enV d) (enL 1 enU r.stops) [I6 (n:Int),I6 key] (enL 6 enR o.ranks)) [I6 (j:Int)] [ocL y3 v]=some (.exit 2,[],[ocL y3 v'])∧v'.els.length≤v.els.length+2*l.length∧
   ∀y,y∈v'.els↔y∈v.els∨∃(q:Nat) (t:Zq),l[q]? = some t∧bit s (j+q)=true∧y∈vT o.ranks.els key (zbf t key).draws.els:=by
 have hdm:=Lz3 hd;intro l
 induction l with
 |nil=>grind[zr,zeB,zA,yA,zg,zb,zh]
 |cons t l ih=>
  intro j v h hv;simp only[Yzp]at hv;have h1:=yw h;have htm:t∈d.stops.els:=Lz3 (yI h);obtain⟨hok,hfew⟩:=F.stp d hdm t htm;have hsl:=F.sl d hdm;have ea:zc .add (I6 (j:Int)) (I6 1)=some (I6 ((j+1:Nat):Int)):=yN;have is:yT 1 (enL 1 enU r.stops) (I6 (n:Int))=some [U64 s]:=by grind[y9]
  have i4:atD (enV d) 4=enL 4 xE d.stops:=rfl;by_cases hb:bit s j=true
  ·obtain⟨w,c,w1,w2⟩:=t88 k o.ranks t hok key (by grind) fun y hy=>F.sml key _ y hy;unfold xE at c;have hwl:w.els.length≤2:=by
    have a1:=zdM w1 fun z hz=>(w2 z).1 hz
    grind[vT]
   obtain⟨v1,a1,a2⟩:=zl2 (f:=y3) v w.els;have ef:fits 16 (v.els.length+w.els.length)=true:=wx (by decide) (by omega);have body:zeB (D (k+4)) (I6 (d.stops.els.length:Int)) (enV d) (enL 1 enU r.stops) [I6 (n:Int),I6 key] (enL 6 enR o.ranks) [I6 (j:Int)] [ocL y3 v]=some (.normal,[I6 ((j+1:Nat):Int)],[ocL y3 v1]):=by have hb':=hb;unfold bit at hb';simp only[zeB,zA,yA,zg,zb,uV h1,zh,if_true,i4,zR h,is,yM,y5,zus,zbp,zx6,hb',xE,c,zG,ze7,xU,Yzw,ef,wY,ea,a1]
   obtain⟨v',b1',b2,b3⟩:=ih (j+1) v1 (zL h) (by grind);refine⟨v',by grind[zF],by grind,fun y=>(b3 y).trans ?_⟩;rw[a2,Yym,w2 y]
   constructor
   ·rintro ((h|h)|⟨q,z,q1,q2,q3⟩)
    ·grind
    ·exact .inr ⟨0,t,rfl,hb,h⟩
    ·exact .inr ⟨q+1,z,by grind,by grind,q3⟩
   ·grind
  ·have body:zeB (D (k+4)) (I6 (d.stops.els.length:Int)) (enV d) (enL 1 enU r.stops) [I6 (n:Int),I6 key] (enL 6 enR o.ranks) [I6 (j:Int)] [ocL y3 v]=some (.normal,[I6 ((j+1:Nat):Int)],[ocL y3 v]):=by
    have hb':=(Bool.not_eq_true _).mp hb;unfold bit at hb';simp only[zeB,zA,yA,zg,zb,uV h1,zh,if_true,i4,zR h,is,yM,zus,zbp,zx6,hb',Yze,if_false,ea]
   obtain⟨v',b1',b2,b3⟩:=ih (j+1) v (zL h) (by omega);refine⟨v',by grind[zF],by grind,fun y=>(b3 y).trans ?_⟩
   constructor
   ·rintro (h|⟨q,z,q1,q2,q3⟩)
    ·grind
    ·exact .inr ⟨q+1,z,by trivial,by grind,q3⟩
   ·grind
theorem zjC(k:Nat)(S:Sl xI)(hS:∀y∈S.els,inR o y=true)(hl:S.els.length≤27):∀(l:List xI) (i:Nat) (v:Sl Zh),S.els.drop i=l→v.els.length+6*l.length≤900→
  ∃v',zJ (zqL (D (k+4)) (I6 (S.els.length:Int)) (enL 2 y3 S) (enL 5 enV o.divs) (enL 1 enU r.stops) (enL 6 enR o.ranks)) [I6 (i:Int)] [ocL y3 v]=some (.exit 0,[],[ocL y3 v'])∧v'.els.length≤v.els.length+6*l.length∧
   ∀y,y∈v'.els↔y∈v.els∨∃c∈l,ziP o r c.rank.toNat c.num y:=by
 intro l
 induction l with
 |nil=>intro i v h _;refine⟨v,zr ?_,by omega,by simp⟩;simp only[zqL,zA,yA,zg,zb,xG (zY h),zh];rfl
 |cons c l ih=>
  intro i v h hv;simp only[Yzp]at hv;have h1:=yw h;obtain⟨n,d,hn,hd,_,_⟩:=jY.1 (hS c (Lz3 (yI h)));have hnl:=(Lz0.1 hd).1;obtain⟨s,hs⟩:∃s,r.stops.els[n]? = some s:=⟨_,Lz5 (by have:=F.rl;omega)⟩;have hsl:=F.sl d (Lz3 hd);obtain⟨v1,c1,c2,c3⟩:=zjA F k n d s hd hs c.num d.stops.els 0 v rfl (by omega);rw[show (I6 ((0:Nat):Int):DV)=I6 0 from rfl]at c1;have ea:zc .add (I6 (i:Int)) (I6 1)=some (I6 ((i+1:Nat):Int)):=yN;have ix:yT 2 (enL 2 y3 S) (I6 (i:Int))=some [I6 (n:Int),I6 c.num]:=by rw[←hn];exact zR h .i64
  have ixd:yT 5 (enL 5 enV o.divs) (I6 (n:Int))=some (enV d):=by rw[y9,hd];rfl
  have i4:atD (enV d) 4=enL 4 xE d.stops:=rfl;have body:zqL (D (k+4)) (I6 (S.els.length:Int)) (enL 2 y3 S) (enL 5 enV o.divs) (enL 1 enU r.stops) (enL 6 enR o.ranks) [I6 (i:Int)] [ocL y3 v]=some (.normal,[I6 ((i+1:Nat):Int)],[ocL y3 v1]):=by simp only[zqL,zA,yA,zg,zb,uV h1,zh,if_true,ix,yM,ixd,i4,zy,c1,z6,Yzl,Yza,ea]
  obtain⟨v',q1,q2,q3⟩:=ih (i+1) v1 (zL h) (by omega);refine⟨v',by rw[zF body,q1],by simp only[Yzp];omega,fun y=>(q3 y).trans ?_⟩;rw[c3 y];have hdr:(∃(q:Nat) (t:Zq),d.stops.els[q]? = some t∧bit s (0+q)=true∧y∈vT o.ranks.els c.num (zbf t c.num).draws.els)↔ziP o r c.rank.toNat c.num y:=by
   rw[show c.rank.toNat=n by omega]
   constructor
   ·rintro⟨q,t,a,b,e⟩
    exact⟨d,s,q,t,hd,hs,a,by rw[Yzi]at b;exact b,e⟩
   ·rintro⟨d',s',q,t,a1,a2,a,b,e⟩
    rw[hd]at a1;cases a1;rw[hs]at a2;cases a2;exact⟨q,t,a,by rw[Yzi];exact b,e⟩
  rw[hdr];simp only[Yzu,exists_eq_or_imp]
  constructor
  ·rintro ((h|h)|h)
   ·exact .inl h
   ·exact .inr (.inl h)
   ·exact .inr (.inr h)
  ·rintro (h|h|h)
   ·exact .inl (.inl h)
   ·exact .inl (.inr h)
   ·exact .inr h
theorem t73(k:Nat)(S:Sl xI)(hS:∀y∈S.els,inR o y=true)(hl:S.els.length≤27):∃u:Sl Zh,D (k+5) 73 [SA (enO o),SA (zW r),S1 (enL 2 y3 S)]=some (S1 (enL 2 y3 u))∧u.els.length≤1000∧u.els.Pairwise ltP∧∀y,y∈u.els↔∃c∈S.els,ziP o r c.rank.toNat c.num y:=by
 obtain⟨v,c1,c2,c3⟩:=zjC F k S hS hl S.els 0 none rfl (by simp;omega);rw[show (I6 ((0:Nat):Int):DV)=I6 0 from rfl,show ocL y3 (none:Sl Zh)=none from rfl]at c1;have hm:∀y,y∈v.els↔∃c∈S.els,ziP o r c.rank.toNat c.num y:=fun y=>(c3 y).trans (by simp);obtain⟨w,u,f1,f2,f3,f4⟩:=zfS v (by simp at c2;omega) fun p hp=>by obtain⟨c',_,d',s',j,t,_,_,_,_,h⟩:=(hm p).1 hp;exact F.sml _ _ p h
 have hul:u.els.length≤v.els.length:=zdM f2 fun z hz=>(f3 z).1 hz;refine⟨u,?_,by simp at c2;omega,f2,fun y=>(f3 y).trans (hm y)⟩;unfold enO zW;rw[D73];unfold P73;simp only[zy,zb,c1,z6,Yzl,Yza,yA,f1,wV,zg,zh,Yzs,show ztN=zal from rfl];rcases f4 with⟨q1,q2⟩|⟨q1,q2⟩
 ·have:((wD w:Nat):Int)<2:=by omega
  rw[Yzd this,q2]
 ·have:¬((wD w:Nat):Int)<2:=by omega
  rw[Yzb this];rcases q2 with q2|q2
  ·rw[q2];simp only[z6,Yzl,Yza,yA,zb7]
  ·rw[q2];rfl
theorem t29(k:Nat)(ho:o.ok)(h0:x4 o=0)(hr:xj o r=0)(n:Nat)(key:Int)(hc:inR o ⟨(n:Int),key⟩=true):∃v:Sl Zh,D (k+13) 29 [SA (enO o),SA (zW r),SA [I6 (n:Int),I6 key]]=some (.tup [.one (enL 2 y3 v),.one (I6 0)])∧zyR o r n key v:=by
 obtain⟨S,s1,s2,s3,s4⟩:=t74 F (k+9) ⟨(n:Int),key⟩ hc;obtain⟨u,u1,u2,u3,u4⟩:=t73 F (k+6) S s4 s2;obtain⟨n',d,hn,hd,_,_⟩:=jY.1 hc;have hnl:=(Lz0.1 hd).1;have c72:=t72 (o:=o) (k+10) ⟨(n:Int),key⟩ (by show 0≤(n:Int);omega) (by show (n:Int)<_;have hn:(n:Int)=(n':Int):=hn;omega);rw[hc,Yzd rfl]at c72;have c35:=t35 (k+1) o ho;have c32:=t32 k o ho r;rw[h0]at c35;rw[hr]at c32;have hlen:yC (.lst 3 [zW r])=some (I6 1):=rfl;have ix:yT 3 (.lst 3 [zW r]) (I6 0)=some (zW r):=rfl;have ad:zc .add (I6 0) (I6 1)=some (I6 1):=rfl;have lt0:zc .lss (I6 0) (I6 1)=some (Bo true):=rfl;have atr:[atD (zW r) 0,atD (zW r) 1,atD (zW r) 2]=zW r:=rfl;have er:zW r=[enL 1 enU r.stops,U64 r.cpls,U64 r.off]:=rfl;unfold enO at c72 c35 c32 s1 u1 ⊢;have c71:D (k+11) 71 [SA [St o.name,enL 6 enR o.ranks,enL 5 enV o.divs,enL 5 enC o.cpls],S1 (.lst 3 [zW r])]=some (S1 (I6 0)):=by
  have b0:zs2 (D (k+10)) (I6 1) (.lst 3 [zW r]) (St o.name) (enL 6 enR o.ranks) (enL 5 enV o.divs) (enL 5 enC o.cpls) [I6 0] []=some (.normal,[I6 1],[]):=by simp only[zs2,zA,lt0,zb,zh,if_true,ix,atr,c32,zG,zM,Yzx,Yzn,Yze,if_false,ad]
  have b1:zs2 (D (k+10)) (I6 1) (.lst 3 [zW r]) (St o.name) (enL 6 enR o.ranks) (enL 5 enV o.divs) (enL 5 enC o.cpls) [I6 1] []=some (.exit 0,[],[]):=rfl;rw[D71];unfold P71;simp only[c35,zG,zM,Yzx,Yzn,zb,zh,Yze,if_false,hlen,zF b0,zr b1,z6,Yzl,Yza]
 have c51:D (k+12) 51 [SA [St o.name,enL 6 enR o.ranks,enL 5 enV o.divs,enL 5 enC o.cpls],SA (zW r),SA [I6 (n:Int),I6 key]]=some (S1 (I6 0)):=by rw[er]at c71 ⊢;rw[D51];unfold P51;simp only[c71,znw,zM,Yzx,Yzn,zb,zh,Yze,if_false,c72,zG]
 have c52:D (k+12) 52 [SA [St o.name,enL 6 enR o.ranks,enL 5 enV o.divs,enL 5 enC o.cpls],SA (zW r),S1 (.lst 2 [[I6 (n:Int),I6 key]])]=some (S1 (enL 2 y3 u)):=by rw[er]at s1 u1 ⊢;rw[D52];unfold P52;simp only[s1,zG,u1]
 refine⟨u,?_,u2,u3,fun y=>(u4 y).trans ?_⟩
 ·rw[er]at c51 c52 ⊢;rw[D29];unfold P29;simp only[c51,zG,zM,Yzx,Yzn,zb,zh,Yze,if_false,c52]
 ·unfold zs5
  constructor
  ·rintro⟨c,hc,h⟩;exact⟨c,(s3 c).1 hc,h⟩
  ·rintro⟨c,hc,h⟩;exact⟨c,(s3 c).2 hc,h⟩
end
end Go.Proofs.Tryz.Kn
end
section
namespace Go.Proofs.Tryz.Kn
open Go Go.CE Go.PE
def qX(l:List Int)(i:Nat):Int:=(l[i]?).getD 0
theorem t60(k:Nat)(b:Reg)(i:Nat):D (k+1) 60 [SA (zW b),S1 (I6 (i:Int))]=some (S1 (U64 (qX b.stops.els i))):=by
 unfold zW;rw[D60];unfold P60 qX;simp only[zy,zb,zg,zh];by_cases h:i<b.stops.els.length
 ·rw[Yzd (uV h),y9,Lz5 h];rfl
 ·rw[Yzb (by rw[xG (by omega)];simp),List.getElem?_eq_none (by omega)];rfl
def wN(b:List Int):List Int→Nat→Bool
 | [],_=>true
 |s::r,i=>(w8 s (qX b i)==0)&&wN b r (i+1)
theorem l36(k:Nat)(a b:Reg)(ha:zaB a):∀(r:List Int) (i:Nat),a.stops.els.drop i=r→
  zJ (zqT (D (k+1)) (I6 (a.stops.els.length:Int)) (enL 1 enU a.stops) (enL 1 enU b.stops) (U64 b.cpls) (U64 b.off)) [I6 (i:Int)] []=some (if wN b.stops.els r i=true then(.exit 0,[],[]) else(.ret,[Bo false],[])):=by
 unfold zaB at ha;intro r
 induction r with
 |nil=>intro i h;refine zr ?_;simp only[zqT,zA,zg,zb,xG (zY h),zh];rfl
 |cons x r ih=>
  intro i h;have h1:=yw h;have ea:zc .add (I6 (i:Int)) (I6 1)=some (I6 ((i+1:Nat):Int)):=yN;have c:=t60 k b i;unfold zW at c;have body:zqT (D (k+1)) (I6 (a.stops.els.length:Int)) (enL 1 enU a.stops) (enL 1 enU b.stops) (U64 b.cpls) (U64 b.off) [I6 (i:Int)] []=some (if w8 x (qX b.stops.els i)=0 then(.normal,[I6 ((i+1:Nat):Int)],[]) else(.ret,[Bo false],[])):=by simp only[zqT,zA,zg,zb,uV h1,zh,if_true,zR h,yM,c,zG,jW,zzd,ea];by_cases hz:w8 x (qX b.stops.els i)=0<;>simp[hz]
  by_cases hc:w8 x (qX b.stops.els i)=0
  ·rw[Yzd hc]at body;rw[zF body,ih (i+1) (zL h)];simp[wN,hc]
  ·rw[Yzb hc]at body;rw[zx body];simp[wN,hc]
def vP(a b:Reg):Bool:=wN b.stops.els a.stops.els 0&&(w8 a.cpls b.cpls==0)&&(w8 a.off b.off==0)
theorem t36(k:Nat)(a b:Reg)(ha:zaB a):D (k+2) 36 [SA (zW a),SA (zW b)]=some (S1 (Bo (vP a b))):=by
 have l:=l36 k a b ha a.stops.els 0 rfl;unfold zW;rw[D36];unfold P36 vP;simp only[zy,zb];rw[show (I6 0:DV)=I6 ((0:Nat):Int) from rfl,l];cases wN b.stops.els a.stops.els 0 with
 |false=>rfl
 |true=>simp only[if_true,z6,Yzl,Yza,jW,zb,xa,zh,YzF];cases w8 a.cpls b.cpls==0<;>rfl
def zbn(l:List Reg):Nat→Option Reg
 |0=>none
 |j+1=>l[j]?
def zqh(o:Org):Option Reg→List Reg→Int
 |_,[]=>0
 |p,r::l=>if xj o r≠0 then xj o r else if p.any (fun q=>!vP q r)=true then 6 else zqh o (some r) l
def jI(o:Org)(l:List Reg):Int:=if x4 o≠0 then x4 o else if 100<l.length then 4 else zqh o none l
theorem l17(k:Nat)(o:Org)(ho:o.ok)(l:Sl Reg)(hl:l.els.length≤9223372036854775807)(hr:∀r∈l.els,zaB r):∀(r:List Reg) (i:Nat),l.els.drop i=r→
  zJ (zqZ (D (k+10)) (I6 (l.els.length:Int)) (enL 3 zW l) (St o.name) (enL 6 enR o.ranks) (enL 5 enV o.divs) (enL 5 enC o.cpls)) [I6 (i:Int)] []=some (ziS 0 (zqh o (zbn l.els i) r)):=by
 intro r
 induction r with
 |nil=>intro i h;refine zr ?_;simp only[zqZ,zA,zg,zb,xG (zY h),zh];rfl
 |cons x r ih=>
  intro i h;have h1:=yw h;have ea:zc .add (I6 (i:Int)) (I6 1)=some (I6 ((i+1:Nat):Int)):=yN;have c:=t32 k o ho x;simp only[enO,zW]at c;have body:zqZ (D (k+10)) (I6 (l.els.length:Int)) (enL 3 zW l) (St o.name) (enL 6 enR o.ranks) (enL 5 enV o.divs) (enL 5 enC o.cpls) [I6 (i:Int)] [] =
    some (if xj o x≠0 then(.ret,[I6 (xj o x)],[]) else if (zbn l.els i).any (fun q=>!vP q x)=true then(.ret,[I6 6],[]) else(.normal,[I6 ((i+1:Nat):Int)],[])):=by
   simp only[zqZ,zA,zg,zb,uV h1,zh,if_true,zR h,zW,yM,y5,c,zG,zM,ye,ea];by_cases hz:xj o x=0
   ·cases i with
    |zero=>simp[hz,zbn]
    |succ j=>
     obtain⟨q,hq⟩:∃q,l.els[j]? = some q:=⟨_,Lz5 (by omega)⟩;have h2:(0:Int)<((j+1:Nat):Int):=by omega
     have es:zc .sub (I6 ((j+1:Nat):Int)) (I6 1)=some (I6 (((j+1:Nat):Int)-1)):=zfO;have e1:((j+1:Nat):Int)-1=(j:Int):=by omega
     rw[e1]at es;have ix:yT 3 (enL 3 zW l) (I6 (j:Int))=some (zW q):=by rw[y9,hq];rfl
     have cw:=t36 (k+8) q x (hr q (Lz3 hq));simp only[zW]at cw;simp only[hz,zbn,hq,Option.any_some,h2,decide_true,if_true,es,zb,ix,zW,y5,yM,cw,zG,yu,Yzx,Yzn,Yze,if_false,ne_eq,not_true_eq_false,zh];cases vP q x<;>rfl
   ·simp[hz]
  have hp:zbn l.els (i+1)=some x:=yI h;unfold zqh;by_cases a1:xj o x≠0
  ·rw[Yzd a1]at body ⊢;rw[zx body];unfold ziS;rw[Yzd a1]
  rw[Yzb a1]at body ⊢;by_cases a2:(zbn l.els i).any (fun q=>!vP q x)=true
  ·rw[Yzd a2]at body ⊢;rw[zx body];rfl
  rw[Yzb a2]at body ⊢;rw[zF body,ih (i+1) (zL h),hp]
theorem t17(k:Nat)(o:Org)(ho:o.ok)(l:Sl Reg)(hl:l.els.length≤9223372036854775807)(hr:∀r∈l.els,zaB r):D (k+11) 17 [SA (enO o),S1 (enL 3 zW l)]=some (S1 (I6 (jI o l.els))):=by
 have c:=t35 (k+1) o ho;have ll:=l17 k o ho l hl hr l.els 0 rfl;unfold enO at c ⊢;rw[D17];unfold P17 jI;simp only[c,zG,zM,zb,zh,zy,ye];by_cases h1:x4 o=0
 ·by_cases h2:100<l.els.length
  ·have h3:(100:Int)<(l.els.length:Int):=by omega
   simp[h1,h2,h3]
  ·have h3:¬((100:Int)<(l.els.length:Int)):=by omega
   rw[show (I6 0:DV)=I6 ((0:Nat):Int) from rfl,ll,show zbn l.els 0=none from rfl];unfold ziS;by_cases h4:zqh o none l.els=0<;>simp[h1,h2,h3,h4]
 ·simp[h1]
def wo(n:Nat):Reg:=⟨some (List.replicate n 0),0,0⟩
theorem zvO(n:Nat):zW (wo n)=[.lst 1 (List.replicate n [U64 0]),U64 0,U64 0]:=by unfold zW wo;rw[zc9,List.map_replicate]
theorem zuN{k:IntKind}{b n:Nat}(hb:b≤4096)(h:n≤1000000):mkN b (.int k (n:Int)) (.int k (n:Int))=some n:=by show (bif Nat.beq n n&&Nat.ble n 1073741824&&Nat.ble (b*n) 281474976710656 then some n else none)=_;have h2:b*n≤4096*1000000:=Nat.mul_le_mul hb h;rw[Yzl,Yzh (by omega),Yzh (by omega)];rfl
theorem t26(k:Nat)(o:Org)(ho:o.ok)(h:x4 o=0):D (k+10) 26 [SA (enO o)]=some (.tup [.agg (zW (wo o.divs.els.length)),.one (I6 0)]):=by have c:=t35 k o ho;have hd:=zjn h;rw[zvO];unfold enO at c ⊢;rw[D26];unfold P26;have m:mkN 8 (I6 (o.divs.els.length:Int)) (I6 (o.divs.els.length:Int))=some o.divs.els.length:=zuN (by decide) (by omega);simp only[c,h,zG,zM,zb,zh,zy,m];rfl
theorem t54(k:Nat)(b:Reg)(i:Nat):D (k+1) 54 [SA (zW b),S1 (I6 (i:Int))]=some (S1 (U64 (qX b.stops.els i))):=by
 unfold zW;rw[D54];unfold P54 qX;simp only[zy,zb,zg,zh];by_cases h:i<b.stops.els.length
 ·rw[Yzd (uV h),y9,Lz5 h];rfl
 ·rw[Yzb (by rw[xG (by omega)];simp),List.getElem?_eq_none (by omega)];rfl
theorem zAf(k:Nat)(a b:Reg)(ha:zaB a):∀(r:List Int) (i:Nat),a.stops.els.drop i=r→
  zJ (zqV (D (k+1)) (enL 1 enU a.stops) (enL 1 enU b.stops) (U64 b.cpls) (U64 b.off)) [I6 (i:Int)] []=some (if wN b.stops.els r i=true then(.exit 0,[],[]) else(.ret,[Bo false],[])):=by
 unfold zaB at ha;intro r
 induction r with
 |nil=>intro i h;refine zr ?_;simp only[zqV,zA,zy,zg,zb,xG (zY h),zh];rfl
 |cons x r ih=>
  intro i h;have h1:=yw h;have ea:zc .add (I6 (i:Int)) (I6 1)=some (I6 ((i+1:Nat):Int)):=yN;have c:=t54 k b i;unfold zW at c;have body:zqV (D (k+1)) (enL 1 enU a.stops) (enL 1 enU b.stops) (U64 b.cpls) (U64 b.off) [I6 (i:Int)] []=some (if w8 x (qX b.stops.els i)=0 then(.normal,[I6 ((i+1:Nat):Int)],[]) else(.ret,[Bo false],[])):=by simp only[zqV,zA,zy,zg,zb,uV h1,zh,if_true,zR h,yM,c,zG,jW,zzd,ea];by_cases hz:w8 x (qX b.stops.els i)=0<;>simp[hz]
  by_cases hc:w8 x (qX b.stops.els i)=0
  ·rw[Yzd hc]at body;rw[zF body,ih (i+1) (zL h)];simp[wN,hc]
  ·rw[Yzb hc]at body;rw[zx body];simp[wN,hc]
theorem t33(k:Nat)(a b:Reg)(ha:zaB a):D (k+2) 33 [SA (zW a),SA (zW b)]=some (S1 (Bo (vP a b))):=by
 have l:=zAf k a b ha a.stops.els 0 rfl;unfold zW;rw[D33];unfold P33 vP;rw[show (I6 0:DV)=I6 ((0:Nat):Int) from rfl,l];cases wN b.stops.els a.stops.els 0 with
 |false=>rfl
 |true=>simp only[if_true,z6,Yzl,Yza,jW,zb,xa,zh,YzF];cases w8 a.cpls b.cpls==0<;>rfl
theorem zAb(k:Nat)(o:Org)(ho:o.ok)(l:Sl Reg)(hl:l.els.length≤1000)(hr:∀r∈l.els,zaB r):∀(r:List Reg) (i:Nat),l.els.drop i=r→
  zJ (zq0 (D (k+10)) (enL 3 zW l) (St o.name) (enL 6 enR o.ranks) (enL 5 enV o.divs) (enL 5 enC o.cpls)) [I6 (i:Int)] []=some (ziS 0 (zqh o (zbn l.els i) r)):=by
 intro r
 induction r with
 |nil=>intro i h;refine zr ?_;simp only[zq0,zA,zy,zg,zb,xG (zY h),zh];rfl
 |cons x r ih=>
  intro i h;have h1:=yw h;have ea:zc .add (I6 (i:Int)) (I6 1)=some (I6 ((i+1:Nat):Int)):=yN;have c:=t32 k o ho x;simp only[enO,zW]at c;have body:zq0 (D (k+10)) (enL 3 zW l) (St o.name) (enL 6 enR o.ranks) (enL 5 enV o.divs) (enL 5 enC o.cpls) [I6 (i:Int)] [] =
    some (if xj o x≠0 then(.ret,[I6 (xj o x)],[]) else if (zbn l.els i).any (fun q=>!vP q x)=true then(.ret,[I6 6],[]) else(.normal,[I6 ((i+1:Nat):Int)],[])):=by
   simp only[zq0,zA,zy,zg,zb,uV h1,zh,if_true,zR h,zW,yM,y5,c,zG,zM,ye,ea];by_cases hz:xj o x=0
   ·cases i with
    |zero=>simp[hz,zbn]
    |succ j=>
     obtain⟨q,hq⟩:∃q,l.els[j]? = some q:=⟨_,Lz5 (by omega)⟩;have h2:(0:Int)<((j+1:Nat):Int):=by omega
     have es:zc .sub (I6 ((j+1:Nat):Int)) (I6 1)=some (I6 (((j+1:Nat):Int)-1)):=zfO;have e1:((j+1:Nat):Int)-1=(j:Int):=by omega
     rw[e1]at es;have ix:yT 3 (enL 3 zW l) (I6 (j:Int))=some (zW q):=by rw[y9,hq];rfl
     have cw:=t33 (k+8) q x (hr q (Lz3 hq));simp only[zW]at cw;simp only[hz,zbn,hq,Option.any_some,h2,decide_true,if_true,es,zb,ix,zW,y5,yM,cw,zG,yu,Yzx,Yzn,Yze,if_false,ne_eq,not_true_eq_false,zh];cases vP q x<;>rfl
   ·simp[hz]
  have hp:zbn l.els (i+1)=some x:=yI h;unfold zqh;by_cases a1:xj o x≠0
  ·rw[Yzd a1]at body ⊢;rw[zx body];unfold ziS;rw[Yzd a1]
  rw[Yzb a1]at body ⊢;by_cases a2:(zbn l.els i).any (fun q=>!vP q x)=true
  ·rw[Yzd a2]at body ⊢;rw[zx body];rfl
  rw[Yzb a2]at body ⊢;rw[zF body,ih (i+1) (zL h),hp]
theorem t15(k:Nat)(o:Org)(ho:o.ok)(h0:x4 o=0)(l:Sl Reg)(hl:l.els.length≤1000)(hr:∀r∈l.els,zaB r):D (k+11) 15 [SA (enO o),S1 (enL 3 zW l)]=some (S1 (I6 (jI o l.els))):=by
 have ll:=zAb k o ho l hl hr l.els 0 rfl;unfold enO;rw[D15];unfold P15 jI;rw[Yzb (by simp[h0])];simp only[zb,zh,zy,ye];by_cases h2:100<l.els.length
 ·have h3:(100:Int)<(l.els.length:Int):=by omega
  simp[h2,h3]
 ·have h3:¬((100:Int)<(l.els.length:Int)):=by omega
  rw[show (I6 0:DV)=I6 ((0:Nat):Int) from rfl,ll,show zbn l.els 0=none from rfl];unfold ziS;by_cases h4:zqh o none l.els=0<;>simp[h2,h3,h4]
theorem zih(o:Org):∀(l:List Reg) (p:Option Reg),zqh o p l=0→∀r∈l,xj o r=0
 | [],_,_,_,h=>by cases h
 |x::l,p,h,r,hr=>by
  unfold zqh at h;split at h
  ·contradiction
  ·rename_i h1;split at h
   ·cases h
   ·rcases Yzu.1 hr with rfl|hr
    ·exact Classical.not_not.1 h1
    ·exact zih o l _ h r hr
end Go.Proofs.Tryz.Kn
end
section
namespace Go.Proofs.Tryz.Kn
open Go Go.CE Go.PE
open Classical in
noncomputable def zf8(o:Org)(r:Reg)(n:Nat)(key:Int):List Zh:=
 if h:∃l:List Zh,l.Pairwise ltP∧∀y,y∈l↔zs5 o r ⟨(n:Int),key⟩ y then Classical.choose h else[]
theorem ze6{o:Org}{r:Reg}{n:Nat}{key:Int}{v:Sl Zh}(h:zyR o r n key v):v.els=zf8 o r n key:=by have hex:∃l:List Zh,l.Pairwise ltP∧∀y,y∈l↔zs5 o r ⟨(n:Int),key⟩ y:=⟨v.els,h.2⟩;unfold zf8;rw[dif_pos hex];have hc:=Classical.choose_spec hex;exact zhk _ _ h.2.1 hc.1 fun y=>(h.2.2 y).trans (hc.2 y).symm
def zjF(f:Nat→Int→Bool)(n:Nat):Nat→Int→Bool
 |0,_=>false
 |m+1,key=>f n key||zjF f n m (key+1)
def znm(f:Nat→Int→Bool):List Zn→Nat→Bool
 | [],_=>false
 |d::r,n=>zjF f n (d.high-d.low+1).toNat d.low||znm f r (n+1)
noncomputable def zsW(o:Org)(a b:Reg)(n:Nat)(key:Int):Bool:=(zf8 o b n key).any fun p=>!decide (p∈zf8 o a n key)
noncomputable def zkn(o:Org)(a b:Reg):Bool:=znm (zsW o a b) o.divs.els 0
theorem zvu{o:Org}{n:Nat}{d:Zn}{key:Int}(hd:o.divs.els[n]? = some d)(h1:d.low≤key)(h2:key≤d.high):inR o ⟨(n:Int),key⟩=true:=jY.2 ⟨n,d,rfl,hd,h1,h2⟩
theorem t49(k:Nat)(p:Zh)(y:Sl Zh)(hy:y.els.length≤1000):D (k+3) 49 [SA [I6 p.rank,I6 p.num],S1 (.fp [enL 2 y3 y] 0)]=some (S1 (Bo (!decide (p∈y.els)))):=by grind[t30,D49,P49,zG,yu,zb]
theorem l70(k:Nat)(y:Sl Zh)(hy:y.els.length≤1000)(l:Sl Zh)(hl:l.els.length≤1000):∀(r:List Zh) (i:Nat),l.els.drop i=r→
  zJ (zqM (D (k+3)) (I6 (l.els.length:Int)) (enL 2 y3 l) (.fn 49 [[enL 2 y3 y]])) [I6 (i:Int)] []=some (found (xy (fun x=>!decide (x∈y.els)) r i)):=by
 intro r
 induction r with
 |nil=>
  intro i h;refine zr ?_
  grind[zqM,zA,zg,zb,xG,zY,zh]
 |cons x r ih=>
  intro i h;have h1:=yw h;have ea:zc .add (I6 (i:Int)) (I6 1)=some (I6 ((i+1:Nat):Int)):=yN;have c:zhj (D (k+3)) (.fn 49 [[enL 2 y3 y]]) [SA [I6 x.rank,I6 x.num]]=some (S1 (Bo (!decide (x∈y.els)))):=t49 k x y hy;have body:zqM (D (k+3)) (I6 (l.els.length:Int)) (enL 2 y3 l) (.fn 49 [[enL 2 y3 y]]) [I6 (i:Int)] []=some (if x∈y.els then(.normal,[I6 ((i+1:Nat):Int)],[]) else(.ret,[I6 (i:Int)],[])):=by
   simp only[zqM,zA,zg,zb,uV h1,zh,if_true,zR h,y3,yM,y5,c,zG,ea]
   grind
  by_cases hc:x∈y.els
  ·rw[Yzd hc]at body;grind[zF,zL,xy]
  ·rw[Yzb hc]at body;grind[zx,xy,found]
theorem t48(k:Nat)(y:Sl Zh)(hy:y.els.length≤1000)(l:Sl Zh)(hl:l.els.length≤1000):D (k+5) 48 [S1 (enL 2 y3 l),S1 (.fn 49 [[enL 2 y3 y]])]=some (S1 (Bo (l.els.any fun x=>!decide (x∈y.els)))):=by
 have c:=l70 k y hy l hl l.els 0 rfl;have hs:=wi (fun x=>!decide (x∈y.els)) l.els 0;rw[D48];unfold P48;rw[D70];unfold P70;rw[show (I6 ((0:Nat):Int):DV)=I6 0 from rfl]at c;simp only[zy,zb,c];rw[←hs];cases hf:xy (fun x=>!decide (x∈y.els)) l.els 0 with
 |none=>rfl
 |some j=>simp only[found,zpt,zA,zG,x7,zb,Option.isSome_some];rw[decide_eq_true (by omega)]
section
variable {o:Org} (ho:o.ok) (h0:x4 o=0) {a b:Reg} (FA:Fit o a) (FB:Fit o b) (ha:xj o a=0) (hb:xj o b=0)
include ho h0 FA FB ha hb
theorem zz9(k n:Nat)(d:Zn)(hd:o.divs.els[n]? = some d)(c0:DV):∀(m:Nat) (key:Int),key+(m:Int)=d.high+1→d.low≤key→
  zJ (zqX (D (k+13)) (enV d) (St o.name) (enL 6 enR o.ranks) (enL 5 enV o.divs) (enL 5 enC o.cpls) (enL 1 enU a.stops) (U64 a.cpls) (U64 a.off) [I6 (n:Int),c0] (enL 1 enU b.stops) (U64 b.cpls) (U64 b.off)) [I6 key,Bo false] []=some (if zjF (zsW o a b) n m key=true then(.ret,[I6 0,Bo true],[]) else(.exit 2,[Bo false],[])):=by
 have rng:=FA.rng d (Lz3 hd);intro m
 induction m with
 |zero=>intro key h _;refine zr ?_;simp only[zqX,zA,xq,enV,yM,y5,zao,zb,decide_eq_false (show ¬key≤d.high by omega),zh];rfl
 |succ m ih=>
  intro key h h1;have hin:=zvu hd h1 (by omega);obtain⟨v,cv,tv⟩:=t29 FA k ho h0 ha n key hin;obtain⟨w,cw,tw⟩:=t29 FB k ho h0 hb n key hin;have cf:=t48 (k+8) v tv.1 w tw.1;rw[ze6 tv,ze6 tw]at cf;have ea:zc .add (I6 key) (I6 1)=some (I6 (key+1)):=yN;unfold enO zW at cv cw;have body:zqX (D (k+13)) (enV d) (St o.name) (enL 6 enR o.ranks) (enL 5 enV o.divs) (enL 5 enC o.cpls) (enL 1 enU a.stops) (U64 a.cpls) (U64 a.off) [I6 (n:Int),c0] (enL 1 enU b.stops) (U64 b.cpls) (U64 b.off) [I6 key,Bo false] []=some (if zsW o a b n key=true then(.ret,[I6 0,Bo true],[]) else(.normal,[I6 (key+1),Bo false],[])):=by unfold zsW;simp only[zqX,zA,xq,enV,yM,y5,zao,zb,decide_eq_true (show key≤d.high by omega),zh,if_true,cv,cw,bT2,qZ,uB,cf,zyo,ea];split<;>rfl
  by_cases hc:zsW o a b n key=true
  ·rw[Yzd hc]at body;rw[zx body];simp[zjF,hc]
  ·rw[Yzb hc]at body;rw[zF body,ih (key+1) (by omega) (by omega)];simp[zjF,hc]
theorem zAd(k:Nat):∀(r:List Zn) (i:Nat),o.divs.els.drop i=r→
  zJ (zqY (D (k+13)) (I6 (o.divs.els.length:Int)) (enL 5 enV o.divs) (St o.name) (enL 6 enR o.ranks) (enL 5 enC o.cpls) (enL 1 enU a.stops) (U64 a.cpls) (U64 a.off) (enL 1 enU b.stops) (U64 b.cpls) (U64 b.off)) [I6 (i:Int),Bo false] []=some (if znm (zsW o a b) r i=true then(.ret,[I6 0,Bo true],[]) else(.exit 0,[Bo false],[])):=by
 have hdl:=FA.dl;intro r
 induction r with
 |nil=>intro i h;refine zr ?_;simp only[zqY,zA,xq,zg,zb,xG (zY h),zh];rfl
 |cons d r ih=>
  intro i h;have hlt:=yw h;have rng:=FA.rng d (Lz3 (yI h));have ea:zc .add (I6 (i:Int)) (I6 1)=some (I6 ((i+1:Nat):Int)):=yN;have l9:=zz9 ho h0 FA FB ha hb k i d (yI h) (Bo false) (d.high-d.low+1).toNat d.low (by omega) (by omega);have d2:atD (enV d) 2=I6 d.low:=rfl;have body:zqY (D (k+13)) (I6 (o.divs.els.length:Int)) (enL 5 enV o.divs) (St o.name) (enL 6 enR o.ranks) (enL 5 enC o.cpls) (enL 1 enU a.stops) (U64 a.cpls) (U64 a.off) (enL 1 enU b.stops) (U64 b.cpls) (U64 b.off) [I6 (i:Int),Bo false] []=some (if zjF (zsW o a b) i (d.high-d.low+1).toNat d.low=true then(.ret,[I6 0,Bo true],[]) else(.normal,[I6 ((i+1:Nat):Int),Bo false],[])):=by
   simp only[zqY,zA,xq,zg,zb,uV hlt,zh,if_true,zR h,d2,l9];split
   ·rfl
   ·simp only[z6,Yzl,Yza,ea,zb,zA]
  by_cases hc:zjF (zsW o a b) i (d.high-d.low+1).toNat d.low=true
  ·rw[Yzd hc]at body;rw[zx body];simp[znm,hc]
  ·rw[Yzb hc]at body;rw[zF body,ih (i+1) (zL h)];simp[znm,hc]
theorem t27(k:Nat):D (k+14) 27 [SA (enO o),SA (zW a),SA (zW b)]=some (S1 (Bo (zkn o a b))):=by have l3:=zAd ho h0 FA FB ha hb k o.divs.els 0 rfl;rw[show (I6 ((0:Nat):Int):DV)=I6 0 from rfl]at l3;unfold enO zW zkn;rw[D27];unfold P27;simp only[zy,zb,l3];cases znm (zsW o a b) o.divs.els 0<;>rfl
end
noncomputable def kQ(o:Org):Reg→List Reg→Nat→List Nat
 |_,[],_=>[]
 |a,b::l,i=>if zkn o a b=true then kQ o b l (i+1) else i::kQ o b l (i+1)
def enG(n:Nat):List DV:=[I6 (n:Int)]
section
variable {o:Org} (ho:o.ok) (h0:x4 o=0) (hF:∀r:Reg,xj o r=0→Fit o r)
include ho h0 hF
theorem zCB(k:Nat)(l:Sl Reg)(hl:l.els.length≤100)(hr:∀r∈l.els,xj o r=0):∀(r:List Reg) (i:Nat) (a:Reg) (acc:List Nat),l.els.drop i=r→acc.length≤i→xj o a=0→
  ∃z:Reg,zJ (zyI (D (k+14)) (I6 (l.els.length:Int)) (enL 3 zW l) (St o.name) (enL 6 enR o.ranks) (enL 5 enV o.divs) (enL 5 enC o.cpls)) [I6 (i:Int),enL 1 enU a.stops,U64 a.cpls,U64 a.off] [ocL enG (grow acc)]=some (.exit 0,[enL 1 enU z.stops,U64 z.cpls,U64 z.off],[ocL enG (grow (acc++kQ o a r i))]):=by
 intro r
 induction r with
 |nil=>intro i a acc h _ _;refine⟨a,zr ?_⟩;simp only[zyI,zA,xq,yA,zg,zb,xG (zY h),zh,kQ,List.append_nil];rfl
 |cons b r ih=>
  intro i a acc h hacc ha;have hlt:=yw h;have hb:=hr b (Lz3 (yI h));have ca:=t27 ho h0 (hF a ha) (hF b hb) ha hb k;have ea:zc .add (I6 (i:Int)) (I6 1)=some (I6 ((i+1:Nat):Int)):=yN;have ef:fits 8 ((grow acc).els.length+1)=true:=wx (by decide) (by rw[yk];omega);have hp:(some ((grow acc).els.map enG++[[I6 (i:Int)]]):OC)=ocL enG (grow (acc++[i])):=by rw[wv,←vI];rfl
  unfold enO zW at ca;have body:zyI (D (k+14)) (I6 (l.els.length:Int)) (enL 3 zW l) (St o.name) (enL 6 enR o.ranks) (enL 5 enV o.divs) (enL 5 enC o.cpls) [I6 (i:Int),enL 1 enU a.stops,U64 a.cpls,U64 a.off] [ocL enG (grow acc)]=some (.normal,[I6 ((i+1:Nat):Int),enL 1 enU b.stops,U64 b.cpls,U64 b.off],[ocL enG (grow (if zkn o a b=true then acc else acc++[i]))]):=by simp only[zyI,zA,xq,yA,zg,zb,uV hlt,zh,if_true,zR h,zW,yM,y5,ca,zG,yu,xU,ef,wY,ea,xg,hp];cases zkn o a b<;>rfl
  obtain⟨z,hz⟩:=ih (i+1) b (if zkn o a b=true then acc else acc++[i]) (zL h) (by split;omega;simp only[YzJ,Yzp,Yyc];omega) hb;refine⟨z,?_⟩;rw[zF body,hz];by_cases hq:zkn o a b=true
  ·simp[kQ,hq]
  ·simp[kQ,hq]
theorem t9(k:Nat)(hd:o.divs.els.length≤3)(l:Sl Reg)(hl:l.els.length≤100)(hz:xj o (wo o.divs.els.length)=0)(hc:jI o l.els=0):D (k+15) 9 [SA (enO o),S1 (enL 3 zW l)]=some (.tup [.one (enL 1 enG (grow (kQ o (wo o.divs.els.length) l.els 0))),.one (I6 0)]):=by
 have hcg:zqh o none l.els=0:=by unfold jI at hc;rw[Yzb (by simp[h0]),Yzb (by omega)]at hc;exact hc
 have hr:=zih o l.els none hcg;have c17:=t17 (k+3) o ho l (by omega) fun r h=>by have:=(hF r (hr r h)).rl;unfold zaB;omega
 have c26:=t26 (k+4) o ho h0;obtain⟨z,l7⟩:=zCB ho h0 hF k l hl hr l.els 0 (wo o.divs.els.length) [] rfl (LzB _) hz;rw[show (I6 ((0:Nat):Int):DV)=I6 0 from rfl,show ocL enG (grow ([]:List Nat))=none from rfl,Yyh]at l7;have er:zW (wo o.divs.els.length)=[enL 1 enU (wo o.divs.els.length).stops,U64 (wo o.divs.els.length).cpls,U64 (wo o.divs.els.length).off]:=rfl;have zvY:∀{β:Type} (a b c v:DV) (K:List DS→Option β),bT [some 3,none] (some (.tup [.agg [a,b,c],.one v])) K=K [.agg [a,b,c],.one v]:=fun _ _ _ _ _=>rfl;rw[hc]at c17;rw[er]at c26;unfold enO at c17 c26 ⊢;rw[D9];unfold P9;simp only[c17,zG,zM,Yzx,Yzn,zb,zh,Yze,if_false,c26,zvY,qZ,zef,uB,za2,yM,y5,zy,l7,z6,Yzl,Yza,yA,zb7]
end
end Go.Proofs.Tryz.Kn
end
section
namespace Go.Proofs.Tryz.Kn
open Go Go.CE Go.PE
theorem t34(k:Nat)(s:Sl Int)(hs:s.els.length≤1000):D (k+1) 34 [S1 (enL 1 enU s)]=some (S1 (enL 1 enU s)):=by
 rw[D34];unfold P34;cases s with
 |none=>rfl
 |some l=>rw[vN]at hs;have ef:fits 8 (wD (some [])+(l.map enU).length)=true:=wx (by decide) (by simp[wD];omega);simp only[zoE,zb,Option.isNone_some,zh,Yze,if_false,ze7,vN,ef,wY,zqF];rfl
theorem zAa(s:Sl Int)(hs:s.els.length≤1000):∀(r:List Int) (i:Nat),s.els.drop i=r→
  zJ (zs3 (enL 1 enU s) (enL 1 enU s)) [I6 (i:Int)] []=some (.exit 0,[],[]):=by
 intro r
 induction r with
 |nil=>intro i h;refine zr ?_;simp only[zs3,zA,zy,zg,zb,xG (zY h),zh];rfl
 |cons x r ih=>intro i h;have hlt:=yw h;have ea:zc .add (I6 (i:Int)) (I6 1)=some (I6 ((i+1:Nat):Int)):=yN;rw[zF (by simp only[zs3,zA,zy,zg,zb,uV hlt,zh,if_true,zR h,yM,zM,Yzx,Yzn,Yze,if_false,ea];rfl),ih (i+1) (zL h)]
theorem t18(k:Nat)(r:Reg)(hs:r.stops.els.length≤1000):D (k+1) 18 [SA (zW r),SA (zW r)]=some (S1 (Bo true)):=by have:=zAa r.stops hs r.stops.els 0 rfl;rw[show (I6 ((0:Nat):Int):DV)=I6 0 from rfl]at this;unfold zW;rw[D18];unfold P18;simp only[zy,zb,zM,Yzx,Yzn,zh,Yze,if_false,this,z6,Yzl,Yza]
def zo3:Reg:=⟨none,0,0⟩
theorem zvP:zW zo3=[.nils,U64 0,U64 0]:=rfl
theorem t16(k:Nat)(o:Org)(ho:o.ok)(l:Sl Reg)(hl:l.els.length≤100)(hs:∀r∈l.els,r.stops.els.length≤1000)(n:Int):
  D (k+12) 16 [SA (enO o),S1 (enL 3 zW l),S1 (I6 n)]=some (.tup (if jI o l.els≠0 then[.agg (zW zo3),.one (I6 (jI o l.els))] else if n<0∨(l.els.length:Int)≤n then[.agg (zW zo3),.one (I6 3)] else[.agg (zW ((l.els[n.toNat]?).getD zo3)),.one (I6 0)])):=by
 have c17:=t17 k o ho l (by omega) fun r h=>by have:=hs r h;unfold zaB;omega
 unfold enO at c17 ⊢;rw[D16];unfold P16;simp only[c17,zG,zM,zb,zh];by_cases h1:jI o l.els=0
 ·rw[Yzb (by simp[h1]),Yzb (by simp[h1])];simp only[zg,zb,zh,Yzs,zy,x7];by_cases h2:n<0
  ·rw[Yzd h2,Yzd (Or.inl h2)];rfl
  by_cases h3:(l.els.length:Int)≤n
  ·rw[Yzb h2,Yzd h3,Yzd (Or.inr h3)];rfl
  rw[Yzb h2,Yzb h3,Yzb (by omega:¬(n<0∨(l.els.length:Int)≤n))];obtain⟨j,hj⟩:∃j:Nat,n=(j:Int):=⟨_,(Int.toNat_of_nonneg (by omega)).symm⟩;subst hj;obtain⟨r,hr⟩:∃r,l.els[j]? = some r:=⟨_,Lz5 (by omega)⟩;have ix:yT 3 (enL 3 zW l) (I6 (j:Int))=some (zW r):=by rw[y9,hr];rfl
  have cc:=t34 (k+10) r.stops (hs r (Lz3 hr));rw[Yye,hr];simp only[ix,zb,zW,yM,y5,cc,zG,Yz8]
 ·rw[Yzd (by simpa using h1),Yzd h1];rfl
def bare(o:Org):Org:=⟨⟨#[]⟩,o.ranks,o.divs,o.cpls⟩
theorem zhb{o:Org}(h:o.ok):(bare o).ok:=⟨h.rl,h.ranks,h.dl,h.divs,h.cl⟩
theorem zhc(o:Org):x4 (bare o)=8:=by unfold x4;rw[Yzd (show isName (bare o).name=false from rfl)]
theorem zqC(o:Org)(l:List Reg):jI (bare o) l=8:=by unfold jI;rw[zhc,Yzd (by decide)]
theorem zwD(k:Nat)(o:Org)(ho:o.ok):D (k+10) 26 [SA (enO (bare o))]=some (.tup [.agg [.nils,U64 0,U64 0],.one (I6 8)]):=by have c:=t35 k (bare o) (zhb ho);rw[zhc]at c;unfold enO at c ⊢;rw[D26];unfold P26;simp only[c,zG,zM,zb,zh];rfl
theorem zvY{β:Type}(a b c v:DV)(K:List DS→Option β):bT [some 3,none] (some (.tup [.agg [a,b,c],.one v])) K=K [.agg [a,b,c],.one v]:=rfl
theorem zwF(k:Nat)(o:Org)(ho:o.ok):D (k+12) 19 [SA (enO (bare o))]=some (.tup [.agg [.nils,U64 0,U64 0],.one (I6 8)]):=by
 have c:=zwD k o ho;have e8:(!((8:Int)==0))=true:=by decide
 unfold enO at c ⊢;rw[D19];unfold P19;rw[D37];unfold P37;simp only[c,zvY,qZ,zef,uB,za2,zM,e8,zb,zh,if_true,yM,y5]
theorem zwG(k:Nat)(o:Org)(ho:o.ok)(l:Sl Reg)(hl:l.els.length≤100)(hs:∀r∈l.els,zaB r)(x y:DV):D (k+12) 10 [SA (enO (bare o)),S1 (enL 3 zW l),SA [x,y]]=some (.tup [.one (I6 0),.one (Bo false),.one (I6 8)]):=by
 have c:=t17 k (bare o) (zhb ho) l (by omega) hs;have e8:(!((8:Int)==0))=true:=by decide
 rw[zqC]at c;unfold enO at c ⊢;rw[D10];unfold P10;simp only[c,zG,zM,e8,zb,zh,if_true]
theorem zwE(k:Nat)(o:Org)(ho:o.ok):D (k+11) 20 [SA (enO (bare o)),SA [.nils,U64 0,U64 0,.nils,U64 0,U64 0,I6 0]]=some (.tup [.one (I6 0),.one (I6 8)]):=by
 have c:=t35 k (bare o) (zhb ho);have e8:(!((8:Int)==0))=true:=by decide
 have hb:D (k+10) 22 [SA (enO (bare o)),SA [.nils,U64 0,U64 0,.nils,U64 0,U64 0,I6 0]]=some (.tup [.one .nils,.one (I6 8)]):=by rw[zhc]at c;unfold enO at c ⊢;rw[D22];unfold P22;rw[c,zG,zM,e8,zb,zh,Yzd rfl]
 unfold enO at hb ⊢;rw[D20];unfold P20;rw[hb];rfl
end Go.Proofs.Tryz.Kn
end
section
namespace Go.Proofs.Tryz.Kn
open Go Go.CE Go.PE
theorem zhL:∀(ds:List Zn) (n:Nat),zcA ds (List.replicate n 0)=false
 | [],0=>rfl
 | [],_+1=>rfl
 |_::_,0=>rfl
 |d::ds,n+1=>by rw[List.replicate_succ,zcA,zkE,zhL ds n];rfl
theorem zjf{o:Org}(h:x4 o=0):xj o (wo o.divs.els.length)=0:=by unfold xj wo;simp only[vN,Yz9,zhL,zkE];rw[Yzb (by rw[h];simp)];simp
theorem zvH(p:Pln)(hf:zea p=true)(r:Reg)(hr:r.stops.els.length=(zeE p).divs.els.length):Fit (zeE p) r:=by have F:=zAB p hf fun _=>0;exact⟨F.dl,F.cl,F.sl,F.rng,F.dst,F.shf,F.stp,F.sml,hr⟩
theorem zmD{o:Org}{r:Reg}(h0:x4 o=0)(h:xj o r=0):r.stops.els.length=o.divs.els.length:=by unfold xj at h;rw[Yzb (by simp[h0])]at h;refine Classical.not_not.1 fun hne=>?_;rw[Yzd hne]at h;cases h
theorem zAi(l:Sl Reg)(hl:l.els.length≤6):∀(r:List Reg) (i:Nat),l.els.drop i=r→
  zJ (zqS (enL 3 zW l)) [I6 (i:Int)] []=some (if (r.any fun x=>decide (10<x.stops.els.length))=true then(.ret,[Bo true],[]) else(.exit 0,[],[])):=by
 intro r
 induction r with
 |nil=>intro i h;refine zr ?_;simp only[zqS,zA,zy,zg,zb,xG (zY h),zh];rfl
 |cons x r ih=>
  intro i h;have hlt:=yw h;have ea:zc .add (I6 (i:Int)) (I6 1)=some (I6 ((i+1:Nat):Int)):=yN;have body:zqS (enL 3 zW l) [I6 (i:Int)] []=some (if 10<x.stops.els.length then(.ret,[Bo true],[]) else(.normal,[I6 ((i+1:Nat):Int)],[])):=by
   simp only[zqS,zA,zy,zg,zb,uV hlt,zh,if_true,zR h,zW,yM,ye,ea,Yzs];by_cases hc:10<x.stops.els.length
   ·have:(10:Int)<(x.stops.els.length:Int):=by omega
    simp[hc,this]
   ·have:¬(10:Int)<(x.stops.els.length:Int):=by omega
    simp[hc,this]
  by_cases hc:10<x.stops.els.length
  ·rw[Yzd hc]at body;rw[zx body];simp[hc]
  ·rw[Yzb hc]at body;rw[zF body,ih (i+1) (zL h)];simp[hc]
theorem zzx(k:Nat)(o:Org)(ho:o.ok)(l:Sl Reg)(hl:l.els.length≤100)(hs:∀r∈l.els,zaB r)(hE:jI o l.els≠0):D (k+12) 9 [SA (enO o),S1 (enL 3 zW l)]=some (.tup [.one .nils,.one (I6 (jI o l.els))]):=by
 have c:=t17 k o ho l (by omega) hs;have e8:(!(jI o l.els==0))=true:=by simpa using hE
 unfold enO at c ⊢;rw[D9];unfold P9;simp only[c,zG,zM,e8,zb,zh,if_true]
theorem zde{β:Type}(a b:DV)(K:List DS→Option β):bT [none,none] (some (.tup [.one a,.one b])) K=K [.one a,.one b]:=rfl
theorem zdd{β:Type}(a b c:DV)(K:List DS→Option β):bT [none,none,none] (some (.tup [.one a,.one b,.one c])) K=K [.one a,.one b,.one c]:=rfl
theorem t4(k:Nat)(p:Pln)(hp:p.ok)(l:Sl Reg)(n:Int):D (k+16) 4 [SA (zgT p),S1 (enL 3 zW l),S1 (I6 n)]=some (S1 (Bo true)):=by
 have kn:=D5 (k+15);have cf:=t6 (k+14) p hp;unfold zgT at cf ⊢;rw[D4];unfold P4;rw[kn,zG,yu,zb,zh,Yzb (by simp),cf,zG,yu,zb,zh];cases hf:zea p with
 |false=>rfl
 |true=>
  rw[Yzb (by simp),zy,zb,ye,zb,zh];by_cases hl:(6:Int)<(l.els.length:Int)
  ·rw[Yzd (by simpa using hl)];rfl
  rw[Yzb (by simpa using hl)];have l11:=zAi l (by omega) l.els 0 rfl;rw[show (I6 ((0:Nat):Int):DV)=I6 0 from rfl]at l11;rw[l11];by_cases hany:(l.els.any fun x=>decide (10<x.stops.els.length))=true
  ·rw[Yzd hany];rfl
  rw[Yzb hany];have hs:∀r∈l.els,r.stops.els.length≤10:=by intro r hr;refine Nat.le_of_not_lt fun h=>hany (List.any_eq_true.2 ⟨r,hr,by simpa using h⟩)
  have hk:∀r∈l.els,zaB r:=fun r hr=>by have:=hs r hr;unfold zaB;omega
  have cm:=t7 (k+8) p hp hf;have ho:=zuO p hf;have h0:=zmZ p hp hf;have hFit:∀r:Reg,xj (zeE p) r=0→Fit (zeE p) r:=fun r hr=>zvH p hf r (zmD h0 hr);have hdl:=(zfg p hf).1;generalize zeE p=o at cm ho h0 hFit hdl;unfold zgT at cm;have c15:=t15 (k+4) o ho h0 l (by omega) hk;have c16:=t16 (k+3) o ho l (by omega) (fun r hr=>by have:=hs r hr;omega) n;have c17:=t17 (k+4) o ho l (by omega) hk;have c19:=zwF (k+3) o ho;have c20:=zwE (k+4) o ho;have c10:=zwG (k+3) o ho l (by omega) hk (I6 (-1)) (I6 0);have c17b:=t17 (k+4) (bare o) (zhb ho) l (by omega) hk;rw[zqC]at c17b;have c18:=t18 (k+14) zo3 (by decide);have c9:∃q:DV,(jI o l.els≠0→q=.nils)∧D (k+15) 9 [SA (enO o),S1 (enL 3 zW l)]=some (.tup [.one q,.one (I6 (jI o l.els))]):=by
   by_cases hE:jI o l.els=0
   ·have hz:xj o (wo o.divs.els.length)=0:=zjf h0;refine⟨enL 1 enG (grow (kQ o (wo o.divs.els.length) l.els 0)),fun h=>absurd hE h,?_⟩;rw[hE];exact t9 ho h0 hFit k hdl l (by omega) hz hE
   ·exact⟨.nils,fun _=>rfl,zzx (k+3) o ho l (by omega) hk hE⟩
  obtain⟨q,hq,c9⟩:=c9;have e0:atD (enO o) 0=St o.name:=rfl;have eo:enO o=[St o.name,enL 6 enR o.ranks,enL 5 enV o.divs,enL 5 enC o.cpls]:=rfl;have e1:atD (enO o) 1=enL 6 enR o.ranks:=rfl;have e2:atD (enO o) 2=enL 5 enV o.divs:=rfl;have e3:atD (enO o) 3=enL 5 enC o.cpls:=rfl;have eb:enO (bare o)=[.str ⟨#[]⟩,enL 6 enR o.ranks,enL 5 enV o.divs,enL 5 enC o.cpls]:=rfl;rw[eb]at c19 c20 c10 c17b;rw[eo]at c15 c16 c17 c9;rw[zvP]at c18;have n3:(!((3:Int)==0))=true:=by decide
  have n8:(!((8:Int)==0))=true:=by decide
  have z3:((3:Int)==0)=false:=by decide
  rw[z6,Yzl,Yza,cm,zv0];by_cases hE:jI o l.els=0
  ·rw[hE]at c9 c15 c17;by_cases hn:n<0∨(l.els.length:Int)≤n
   ·rw[Yzb (by simp[hE]),Yzd hn,zvP]at c16;by_cases hn0:n<0
    ·simp only[e0,e1,e2,e3,c15,zG,c16,zvY,c17,zM,Yzx,Yzn,zb,zh,Yze,if_false,xa,if_true,zg,decide_eq_true hn0,qZ,zef,uB,za2,yM,y5,c18,yu,z3,c9,zde,c19,c20,c10,zdd,c17b];rfl
    ·have hn1:(l.els.length:Int)≤n:=by omega
     simp only[e0,e1,e2,e3,c15,zG,c16,zvY,c17,zM,Yzx,Yzn,zb,zh,Yze,if_false,xa,if_true,zg,decide_eq_false hn0,x7,decide_eq_true hn1,qZ,zef,uB,za2,yM,y5,c18,yu,z3,c9,zde,c19,c20,c10,zdd,c17b];rfl
   ·obtain⟨j,hj⟩:∃j:Nat,n=(j:Int):=⟨_,(Int.toNat_of_nonneg (by omega)).symm⟩;subst hj;obtain⟨r,hr⟩:∃r,l.els[j]? = some r:=⟨_,Lz5 (by omega)⟩;rw[Yzb (by simp[hE]),Yzb hn,Yye,hr,Yz8]at c16;have ix:yT 3 (enL 3 zW l) (I6 (j:Int))=some (zW r):=by rw[y9,hr];rfl
    have cs:=t18 (k+14) r (by have:=hs r (Lz3 hr);omega);have er:zW r=[enL 1 enU r.stops,U64 r.cpls,U64 r.off]:=rfl;rw[er]at c16 ix cs;have hn0:decide ((j:Int)<0)=false:=decide_eq_false (by omega);have hn1:decide ((l.els.length:Int)≤(j:Int))=false:=decide_eq_false (by omega);simp only[e0,e1,e2,e3,c15,zG,c16,zvY,c17,zM,Yzx,Yzn,zb,zh,Yze,if_false,xa,if_true,zg,hn0,x7,hn1,qZ,zef,uB,za2,yM,y5,c18,yu,ix,cs,c9,zde,c19,c20,c10,zdd,c17b];rfl
  ·have hq':=hq hE;subst hq';rw[Yzd hE,zvP]at c16;have hb:(jI o l.els==0)=false:=by simpa using hE
   generalize jI o l.els=E at *;simp only[e0,e1,e2,e3,c15,zG,c16,zvY,c17,zM,Yzx,Yzn,zb,zh,Yze,if_false,xa,hb,Bool.not_false,if_true,qZ,zef,uB,za2,yM,y5,c18,yu,c9,zde,zoH,c19,c20,c10,zdd,c17b]
end Go.Proofs.Tryz.Kn
end
