/-
  Lemmas. No condition.
-/
import Derived.Test.YtfmceamccfhfcaaGreatDoorWm
set_option linter.unusedSimpArgs false
set_option linter.unusedVariables false
section
namespace Go.Proofs.Tryz.Kn
open Go Go.CE Go.PE
theorem l37(a b:Sl Ze)(hl:a.els.length≤1000)(hab:a.els.length=b.els.length):∀(r s:List Ze) (i:Nat),a.els.drop i=r→b.els.drop i=s→
  zB (zqZ (I6 (a.els.length:Int)) (enL 2 zX a) (enL 2 zX b)) [I6 (i:Int)] []=some (if r=s then(.exit 0,[],[]) else(.ret,[Bo false],[])):=by
 intro r
 induction r with
 |nil=>
  intro s i h g;have h1:=zH h;have:s=[]:=by rw[←g,List.drop_eq_nil_iff];omega
  rw[this,Yze rfl];refine zl ?_;simp only[zqZ,zi,zc,zb,yK h1,zg];rfl
 |cons x r ih=>
  intro s i h g;have h1:=zZ h;cases s with
  |nil=>have:=zH g;omega
  |cons y s=>
   have ea:zf .add (I6 (i:Int)) (I6 1)=some (I6 ((i+1:Nat):Int)):=yf;have eq:=zaH x y;have body:zqZ (I6 (a.els.length:Int)) (enL 2 zX a) (enL 2 zX b) [I6 (i:Int)] []=some (if x=y then(.normal,[I6 ((i+1:Nat):Int)],[]) else(.ret,[Bo false],[])):=by simp only[zqZ,zi,zc,zb,x4 h1,zg,if_true,zO h,zO g,zX,yE,xc,eq,ea];by_cases hz:x=y<;>simp[hz]
   by_cases hc:x=y
   ·rw[Yze hc]at body;rw[zx body,ih s (i+1) (zw h) (zw g)];simp[hc]
   ·rw[Yzb hc]at body;rw[zG body];simp[hc]
theorem t37(k:Nat)(a b:Sl Ze)(hl:a.els.length≤1000):D (k+1) 37 [S1 (enL 2 zX a),S1 (enL 2 zX b)]=some (S1 (Bo (decide (a.els=b.els)))):=by
 rw[D37];unfold P37;simp only[zA,zb,yg,zg];by_cases h:a.els.length=b.els.length
 ·have l:=l37 a b hl h a.els b.els 0 rfl rfl;have e:((a.els.length:Int)==(b.els.length:Int))=true:=by simp[h]
  rw[e];simp only[Yzw,Yzc,if_false];rw[show (I6 0:DV)=I6 ((0:Nat):Int) from rfl,l];by_cases hc:a.els=b.els
  ·rw[Yze hc,decide_eq_true hc];rfl
  ·rw[Yzb hc,decide_eq_false hc];rfl
 ·have e:((a.els.length:Int)==(b.els.length:Int))=false:=by simp;omega
  have:a.els≠b.els:=fun e=>h (by rw[e]);rw[e,decide_eq_false this];simp
def zEv(x y:Sl Ze):Bool:=!(x.els.any fun p=>!decide (p∈y.els))
theorem zEx{x y:Sl Ze}:zEv x y=true↔∀p∈x.els,p∈y.els:=by unfold zEv;rw[YzN,Yyt];simp
theorem t42(k:Nat)(p:Ze)(y:Sl Ze)(hy:y.els.length≤1000):D (k+3) 42 [SA [I6 p.rank,I6 p.num],S1 (.fp [enL 2 zX y] 0)]=some (S1 (Bo (!decide (p∈y.els)))):=by have c:=t43 k p y (by omega);rw[D42];unfold P42;simp only[c,zR,yI,zb]
theorem l65(k:Nat)(y:Sl Ze)(hy:y.els.length≤1000)(l:Sl Ze)(hl:l.els.length≤1000):∀(r:List Ze) (i:Nat),l.els.drop i=r→
  zB (zEt (D (k+3)) (I6 (l.els.length:Int)) (enL 2 zX l) (.fn 42 [[enL 2 zX y]])) [I6 (i:Int)] []=some (found (y3 (fun x=>!decide (x∈y.els)) r i)):=by
 intro r
 induction r with
 |nil=>intro i h;refine zl ?_;simp only[zEt,zi,zc,zb,yK (zH h),zg];rfl
 |cons x r ih=>
  intro i h;have h1:=zZ h;have ea:zf .add (I6 (i:Int)) (I6 1)=some (I6 ((i+1:Nat):Int)):=yf;have c:zeW (D (k+3)) (.fn 42 [[enL 2 zX y]]) [SA [I6 x.rank,I6 x.num]]=some (S1 (Bo (!decide (x∈y.els)))):=t42 k x y hy;have body:zEt (D (k+3)) (I6 (l.els.length:Int)) (enL 2 zX l) (.fn 42 [[enL 2 zX y]]) [I6 (i:Int)] []=some (if x∈y.els then(.normal,[I6 ((i+1:Nat):Int)],[]) else(.ret,[I6 (i:Int)],[])):=by simp only[zEt,zi,zc,zb,x4 h1,zg,if_true,zO h,zX,yE,xc,c,zR,ea];by_cases hz:x∈y.els<;>simp[hz]
  by_cases hc:x∈y.els
  ·rw[Yze hc]at body;rw[zx body,ih (i+1) (zw h)];simp[y3,hc]
  ·rw[Yzb hc]at body;rw[zG body];simp[y3,hc,found]
theorem t41(k:Nat)(y:Sl Ze)(hy:y.els.length≤1000)(l:Sl Ze)(hl:l.els.length≤1000):D (k+5) 41 [S1 (enL 2 zX l),S1 (.fn 42 [[enL 2 zX y]])]=some (S1 (Bo (l.els.any fun x=>!decide (x∈y.els)))):=by
 have c:=l65 k y hy l hl l.els 0 rfl;rw[D41];unfold P41;rw[D65];unfold P65;simp only[zA,zb];rw[show (I6 0:DV)=I6 ((0:Nat):Int) from rfl,c,←vC (fun x=>!decide (x∈y.els)) l.els 0];cases y3 (fun x=>!decide (x∈y.els)) l.els 0 with
 |none=>rfl
 |some i=>
  have:(0:Int)≤(i:Int):=by omega
  simp[found,this]
theorem t40(k:Nat)(x y:Sl Ze)(hx:x.els.length≤1000)(hy:y.els.length≤1000):D (k+6) 40 [S1 (enL 2 zX x),S1 (enL 2 zX y)]=some (S1 (Bo (zEv x y))):=by have c:=t41 k y hy x hx;rw[D40];unfold P40;simp only[c,b1s,zdO,Yza,yI,zb];rfl
def zlC(H:Sl Ze→Sl Ze→Bool):Nat→List (Sl Ze)→List (Sl Ze)→Option Nat
 |i,x::a,y::b=>if H x y=true then zlC H (i+1) a b else some i
 |_,_,_=>none
def zeV(H:Sl Ze→Sl Ze→Bool):Nat→List (List (Sl Ze))→List (List (Sl Ze))→Option (Nat×Nat)
 |n,x::a,y::b=>match zlC H 0 x y with
  |some i=>some (n,i)
  |none=>zeV H (n+1) a b
 |_,_,_=>none
theorem zow{A:List (List (Sl Ze))}{n:Nat}{x:List (Sl Ze)}(h:A[n]? = some x):yy 1 (.lst 1 (A.map yl)) (I6 (n:Int))=some [enL 1 y9 (grow x)]:=by refine (yb (f:=yl) (st:=1) .i64 (some A) n).trans ?_;rw[yn,h];rfl
theorem zxJ(A:List (List (Sl Ze))):yV (.lst 1 (A.map yl))=some (I6 (A.length:Int)):=zA (f:=yl) (st:=1) (some A)
structure Twin (o:Org) (A B:List (List (Sl Ze))):Prop where
 al:A.length=o.divs.els.length
 bl:B.length=o.divs.els.length
 row:∀(n:Nat) (d:Zj) (x y:List (Sl Ze)),o.divs.els[n]? = some d→A[n]? = some x→B[n]? = some y→x.length=y.length∧x.length≤9∧(∀v∈x,v.els.length≤1000)∧(∀v∈y,v.els.length≤1000)
section
variable {o:Org} {A B:List (List (Sl Ze))} (W:Twin o A B) (hdl:o.divs.els.length≤3) (hrng:∀d∈o.divs.els,0≤d.low∧d.low≤127) {f:DV} {H:Sl Ze→Sl Ze→Bool} {k:Nat}
 (hf:∀x y:Sl Ze,x.els.length≤1000→y.els.length≤1000→zeW (D k) f [S1 (enL 2 zX x),S1 (enL 2 zX y)]=some (S1 (Bo (H x y))))
include W hrng hf in
theorem zpj(n:Nat)(d:Zj)(x y:List (Sl Ze))(hd:o.divs.els[n]? = some d)(hx:A[n]? = some x)(hy:B[n]? = some y)(c0 c1:DV):∀(r s:List (Sl Ze)) (i:Nat),x.drop i=r→y.drop i=s→
  zB (zib (D k) (I6 (x.length:Int)) (.lst 1 (A.map yl)) [I6 (n:Int),c0,c1] (.lst 1 (B.map yl)) f (enL 5 enV o.divs)) [I6 (i:Int),c0,c1] []=some (match zlC H i r s with
   |none=>(.exit 2,[c0,c1],[])
   |some j=>(.ret,[Bo false,I6 (n:Int),I6 (d.low+(j:Int))],[])):=by
 obtain⟨w1,w2,w3,w4⟩:=W.row n d x y hd hx hy;obtain⟨r1,r2⟩:=hrng d (Lz3 hd);have iv:yy 5 (enL 5 enV o.divs) (I6 (n:Int))=some (enV d):=by rw[yb,hd];rfl
 have a2:atD (enV d) 2=I6 d.low:=rfl;have ja:=zow hx;have jb:=zow hy;intro r
 induction r with
 |nil=>intro s i h g;have h1:=zH h;unfold zlC;refine zl ?_;simp only[zib,zi,yU,zc,zb,yK h1,zg];rfl
 |cons v r ih=>
  intro s i h g;have h1:=zZ h;cases s with
  |nil=>have:=zH g;omega
  |cons w s=>
   have hv:=w3 v (Lz3 (zJ h));have hw:=w4 w (Lz3 (zJ g));have ea:zf .add (I6 (i:Int)) (I6 1)=some (I6 ((i+1:Nat):Int)):=yf;have el:zf .add (I6 d.low) (I6 (i:Int))=some (I6 (d.low+(i:Int))):=yf;have ia:yy 1 (enL 1 y9 (grow x)) (I6 (i:Int))=some [enL 2 zX v]:=by rw[yb,zn,zJ h];rfl
   have ib:yy 1 (enL 1 y9 (grow y)) (I6 (i:Int))=some [enL 2 zX w]:=by rw[yb,zn,zJ g];rfl
   have body:zib (D k) (I6 (x.length:Int)) (.lst 1 (A.map yl)) [I6 (n:Int),c0,c1] (.lst 1 (B.map yl)) f (enL 5 enV o.divs) [I6 (i:Int),c0,c1] []=some (if H v w=true then(.normal,[I6 ((i+1:Nat):Int),c0,c1],[]) else(.ret,[Bo false,I6 (n:Int),I6 (d.low+(i:Int))],[])):=by simp only[zib,zi,yU,zc,zb,x4 h1,zg,if_true,ja,jb,yE,ia,ib,hf v w hv hw,zR,yI,iv,a2,el,ea];cases H v w<;>rfl
   unfold zlC;by_cases hc:H v w=true
   ·rw[Yze hc]at body ⊢;rw[zx body,ih s (i+1) (zw h) (zw g)]
   ·rw[Yzb hc]at body ⊢;rw[zG body]
include W hdl hrng hf in
theorem zmG:∀(a b:List (List (Sl Ze))) (n:Nat),A.drop n=a→B.drop n=b→
  zB (znj (D k) (I6 (A.length:Int)) (.lst 1 (A.map yl)) (.lst 1 (B.map yl)) f (enL 5 enV o.divs)) [I6 (n:Int),I6 0,I6 0] []=some (match zeV H n a b with
   |none=>(.exit 0,[I6 0,I6 0],[])
   |some (m,j)=>(.ret,[Bo false,I6 (m:Int),I6 (zfI o m+(j:Int))],[])):=by
 have wa:=W.al;have wb:=W.bl;intro a
 induction a with
 |nil=>intro b n h g;have h1:=zH h;unfold zeV;refine zl ?_;simp only[znj,zi,yU,zc,zb,yK h1,zg];rfl
 |cons x a ih=>
  intro b n h g;have h1:=zZ h;cases b with
  |nil=>have:=zH g;omega
  |cons y b=>
   obtain⟨d,hd⟩:∃d,o.divs.els[n]? = some d:=⟨_,Lz5 (by omega)⟩;have ea:zf .add (I6 (n:Int)) (I6 1)=some (I6 ((n+1:Nat):Int)):=yf;have hl:zfI o n=d.low:=by unfold zfI;rw[hd]
   have lp:=zpj W hrng hf n d x y hd (zJ h) (zJ g) (I6 0) (I6 0) x y 0 rfl rfl;have ja:=zow (zJ h);have pl:yV (enL 1 y9 (grow x))=some (I6 (x.length:Int)):=by rw[zA,zn]
   unfold zeV;cases hr:zlC H 0 x y with
   |some j=>rw[hr]at lp;refine zG ?_;simp only[znj,zi,yU,zc,zb,x4 h1,zg,if_true,ja,yE,pl];rw[show (I6 0:DV)=I6 ((0:Nat):Int) from rfl]at lp ⊢;rw[lp];simp only[uj,zi,yU,hl]
   |none=>
    rw[hr]at lp;have body:znj (D k) (I6 (A.length:Int)) (.lst 1 (A.map yl)) (.lst 1 (B.map yl)) f (enL 5 enV o.divs) [I6 (n:Int),I6 0,I6 0] []=some (.normal,[I6 ((n+1:Nat):Int),I6 0,I6 0],[]):=by simp only[znj,zi,yU,zc,zb,x4 h1,zg,if_true,ja,yE,pl];rw[show (I6 0:DV)=I6 ((0:Nat):Int) from rfl]at lp ⊢;rw[lp];simp only[zt,Yzj,Yza,ea,zb,zi,yU]
    rw[zx body,ih b (n+1) (zw h) (zw g)]
def spot(o:Org):Option (Nat×Nat)→y5
 |none=>⟨0,0⟩
 |some (m,j)=>⟨(m:Int),zfI o m+(j:Int)⟩
include W hdl hrng hf in
theorem t36:D (k+1) 36 [SA (enO o),S1 (.lst 1 (A.map yl)),S1 (.lst 1 (B.map yl)),S1 f]=some (.tup [.agg [I6 (spot o (zeV H 0 A B)).rank,I6 (spot o (zeV H 0 A B)).num],.one (Bo (zeV H 0 A B).isNone)]):=by
 have l:=zmG W hdl hrng hf A B 0 rfl rfl;have pl:=zxJ A;unfold enO;rw[D36];unfold P36;simp only[pl,zb];rw[show (I6 0:DV)=I6 ((0:Nat):Int) from rfl]at l ⊢;rw[l];cases zeV H 0 A B with
 |none=>rfl
 |some x=>rfl
end
theorem zhQ{H:Sl Ze→Sl Ze→Bool}:∀{a b:List (Sl Ze)} (i:Nat),a.length=b.length→(zlC H i a b=none↔∀(j:Nat) (x y:Sl Ze),a[j]? = some x→b[j]? = some y→H x y=true)
 | [],[],i,_=>by simp[zlC]
 |x::a,y::b,i,h=>by
  have ih:=zhQ (H:=H) (a:=a) (b:=b) (i+1) (by simpa using h);unfold zlC;by_cases hc:H x y=true
  ·rw[Yze hc,ih]
   constructor
   ·intro g j x' y' h1 h2;cases j with
    |zero=>simp only[Yzi,Option.some.injEq]at h1 h2;rw[←h1,←h2];exact hc
    |succ j=>exact g j x' y' (by simpa using h1) (by simpa using h2)
   ·exact fun g j x' y' h1 h2=>g (j+1) x' y' (by simpa using h1) (by simpa using h2)
  ·rw[Yzb hc];exact⟨fun g=>(by cases g),fun g=>absurd (g 0 x y rfl rfl) hc⟩
theorem zhO{H:Sl Ze→Sl Ze→Bool}:∀{A B:List (List (Sl Ze))} (n:Nat),A.length=B.length→(∀(m:Nat) (a b:List (Sl Ze)),A[m]? = some a→B[m]? = some b→a.length=b.length)→
  (zeV H n A B=none↔∀(m:Nat) (a b:List (Sl Ze)),A[m]? = some a→B[m]? = some b→∀(j:Nat) (x y:Sl Ze),a[j]? = some x→b[j]? = some y→H x y=true)
 | [],[],n,_,_=>by simp[zeV]
 |a::A,b::B,n,h,g=>by
  have ih:=zhO (H:=H) (A:=A) (B:=B) (n+1) (by simpa using h) fun m x y h1 h2=>g (m+1) x y (by simpa using h1) (by simpa using h2);have ir:=zhQ (H:=H) (a:=a) (b:=b) 0 (g 0 a b rfl rfl);unfold zeV;cases hr:zlC H 0 a b with
  |none=>
   rw[hr]at ir;simp only[ih]
   constructor
   ·intro q m x y h1 h2;cases m with
    |zero=>simp only[Yzi,Option.some.injEq]at h1 h2;rw[←h1,←h2];exact ir.1 rfl
    |succ m=>exact q m x y (by simpa using h1) (by simpa using h2)
   ·exact fun q m x y h1 h2=>q (m+1) x y (by simpa using h1) (by simpa using h2)
  |some i=>
   rw[hr]at ir
   constructor
   ·intro q;cases q
   ·intro q;have:=ir.2 (q 0 a b rfl rfl);cases this
section
variable {o:Org} {r s:Reg} {A B:List (List (Sl Ze))}
theorem zBU(F:Fit o r)(ha:A.length=o.divs.els.length)(hb:B.length=o.divs.els.length)(HA:Rows o (wp o r) A)(HB:Rows o (wp o s) B):Twin o A B:=
 ⟨ha, hb, fun n d x y hd hx hy => by
  obtain⟨q1,q2⟩:=HA.row n d x hd hx;obtain⟨p1,p2⟩:=HB.row n d y hd hy;have:=F.rng d (Lz3 hd);refine⟨by omega,by omega,fun v hv=>?_,fun v hv=>?_⟩
  ·obtain⟨i,hi⟩:=Yz8 hv;exact(q2 i v hi).1
  ·obtain⟨i,hi⟩:=Yz8 hv;exact(p2 i v hi).1⟩
theorem zhS(F:Fit o r)(ha:A.length=o.divs.els.length)(hb:B.length=o.divs.els.length)(HA:Rows o (wp o r) A)(HB:Rows o (wp o s) B){H:Sl Ze→Sl Ze→Bool}{Q:y5→Prop}
  (hq:∀(n:Nat) (key:Int) (x y:Sl Ze),wp o r n key x→wp o s n key y→(H x y=true↔Q ⟨(n:Int),key⟩)):zeV H 0 A B=none↔∀c,inR o c=true→Q c:=by
 have W:=zBU F ha hb HA HB;rw[zhO 0 (by omega) fun m x y h1 h2=>by obtain⟨d,hd⟩:∃d,o.divs.els[m]? = some d:=⟨_,Lz5 (by have:=(Lz0.1 h1).1;omega)⟩;exact(W.row m d x y hd h1 h2).1]
 constructor
 ·intro h c hc;obtain⟨n,d,e1,e2,e3,e4⟩:=xR.1 hc;have hn:=(Lz0.1 e2).1;obtain⟨a,hA⟩:∃a,A[n]? = some a:=⟨_,Lz5 (by omega)⟩;obtain⟨b,hB⟩:∃b,B[n]? = some b:=⟨_,Lz5 (by omega)⟩;obtain⟨q1,q2⟩:=HA.row n d a e2 hA;obtain⟨p1,p2⟩:=HB.row n d b e2 hB;obtain⟨j,hj⟩:∃j:Nat,c.num=d.low+(j:Int):=⟨(c.num-d.low).toNat,by omega⟩;obtain⟨x,hx⟩:∃x,a[j]? = some x:=⟨_,Lz5 (by omega)⟩;obtain⟨y,hy⟩:∃y,b[j]? = some y:=⟨_,Lz5 (by omega)⟩;have:=(hq n _ x y (q2 j x hx) (p2 j y hy)).1 (h n a b hA hB j x y hx hy);rw[←hj,←e1]at this;exact this
 ·intro h n a b hA hB j x y hx hy;obtain⟨d,hd⟩:∃d,o.divs.els[n]? = some d:=⟨_,Lz5 (by have:=(Lz0.1 hA).1;omega)⟩;obtain⟨q1,q2⟩:=HA.row n d a hd hA;obtain⟨p1,p2⟩:=HB.row n d b hd hB;have hj:=(Lz0.1 hx).1;refine (hq n _ x y (q2 j x hx) (p2 j y hy)).2 (h _ (xR.2 ⟨n,d,rfl,hd,?_,?_⟩))
  ·show d.low≤d.low+(j:Int);omega
  ·show d.low+(j:Int)≤d.high;omega
theorem zcz{n:Nat}{key:Int}{x y:Sl Ze}(hx:wp o r n key x)(hy:wp o s n key y):x.els=y.els↔∀z,zdY o r ⟨(n:Int),key⟩ z↔zdY o s ⟨(n:Int),key⟩ z:=by
 constructor
 ·intro h z;rw[←hx.2.2 z,←hy.2.2 z,h]
 ·exact fun h=>zgD _ _ hx.2.1 hy.2.1 fun z=>by rw[hx.2.2 z,hy.2.2 z,h z]
theorem zEu{n:Nat}{key:Int}{x y:Sl Ze}(hx:wp o r n key x)(hy:wp o s n key y):zEv x y=true↔∀z,zdY o r ⟨(n:Int),key⟩ z→zdY o s ⟨(n:Int),key⟩ z:=by
 rw[zEx]
 constructor
 ·exact fun h z hz=>(hy.2.2 z).1 (h z ((hx.2.2 z).2 hz))
 ·exact fun h z hz=>(hy.2.2 z).2 (h z ((hx.2.2 z).1 hz))
end
def Alike(o:Org)(r s:Reg):Prop:=∀c,inR o c=true→∀z,zdY o r c z↔zdY o s c z
def In(o:Org)(r s:Reg):Prop:=∀c,inR o c=true→∀z,zdY o r c z→zdY o s c z
section
variable {o:Org} (ho:o.ok) (h0:vM o=0) {r s:Reg} (F:Fit o r) (G:Fit o s) (hr:jC o r=0) (hs:jC o s=0)
include h0 hr hs in
theorem zEB:zls o [r,s]=0:=by unfold zls;rw[Yzb (by rw[h0];simp),zaY,Yzb (by rw[hr];simp),zaY,Yzb (by rw[hs];simp)];rfl
include ho h0 F G hr hs in
theorem x12(k:Nat):∃(c:y5) (b:Bool),D (k+12) 12 [SA (enO o),SA (ym r),SA (ym s)]=some (.tup [.agg [I6 c.rank,I6 c.num],.one (Bo b),.one (I6 0)])∧(b=true↔Alike o r s)∧∃A B,A.length=o.divs.els.length∧B.length=o.divs.els.length∧Rows o (wp o r) A∧Rows o (wp o s) B∧c=spot o (zeV (fun x y=>decide (x.els=y.els)) 0 A B)∧b=(zeV (fun x y=>decide (x.els=y.els)) 0 A B).isNone:=by
 obtain⟨A,a1,a2,a3⟩:=t29 F (k+6);obtain⟨B,b1',b2,b3⟩:=t29 G (k+6);have W:=zBU F a2 b2 a3 b3;have c:=t36 W F.dl (fun d hd=>by have:=F.rng d hd;omega) (f:=.fn 37 []) (H:=fun x y=>decide (x.els=y.els)) (k:=k+10) fun x y hx _=>t37 (k+9) x y hx;refine⟨spot o (zeV (fun x y=>decide (x.els=y.els)) 0 A B),(zeV (fun x y=>decide (x.els=y.els)) 0 A B).isNone,?_,?_,A,B,a2,b2,a3,b3,rfl,rfl⟩
 ·have cc:=t28 k o ho (some [r,s]) (by simp);rw[yn,zEB h0 hr hs]at cc;unfold enO ym at a1 b1' ⊢;unfold enO at cc c;rw[D12];unfold P12;rw[show DV.lst 3 [[enL 1 enU r.stops,U64 r.cpls,U64 r.off],[enL 1 enU s.stops,U64 s.cpls,U64 s.off]]=enL 3 ym (some [r,s]) from rfl,cc];simp only[zgx,yg,zb,YzD,Yzw,zg,Yzc,if_false,a1,b1',zR,c];rfl
 ·rw[Option.isNone_iff_eq_none,zhS F a2 b2 a3 b3 (Q:=fun c=>∀z,zdY o r c z↔zdY o s c z) fun n key x y hx hy=>by rw[decide_eq_true_iff];exact zcz hx hy];rfl
include ho h0 F G hr hs in
theorem x18(k:Nat):∃(c:y5) (b:Bool),D (k+12) 18 [SA (enO o),SA (ym r),SA (ym s)]=some (.tup [.agg [I6 c.rank,I6 c.num],.one (Bo b),.one (I6 0)])∧(b=true↔In o r s)∧∃A B,A.length=o.divs.els.length∧B.length=o.divs.els.length∧Rows o (wp o r) A∧Rows o (wp o s) B∧c=spot o (zeV zEv 0 A B)∧b=(zeV zEv 0 A B).isNone:=by
 obtain⟨A,a1,a2,a3⟩:=t29 F (k+6);obtain⟨B,b1',b2,b3⟩:=t29 G (k+6);have W:=zBU F a2 b2 a3 b3;have c:=t36 W F.dl (fun d hd=>by have:=F.rng d hd;omega) (f:=.fn 40 []) (H:=zEv) (k:=k+10) fun x y hx hy=>t40 (k+4) x y hx hy;refine⟨spot o (zeV zEv 0 A B),(zeV zEv 0 A B).isNone,?_,?_,A,B,a2,b2,a3,b3,rfl,rfl⟩
 ·have cc:=t28 k o ho (some [r,s]) (by simp);rw[yn,zEB h0 hr hs]at cc;unfold enO ym at a1 b1' ⊢;unfold enO at cc c;rw[D18];unfold P18;rw[show DV.lst 3 [[enL 1 enU r.stops,U64 r.cpls,U64 r.off],[enL 1 enU s.stops,U64 s.cpls,U64 s.off]]=enL 3 ym (some [r,s]) from rfl,cc];simp only[zgx,yg,zb,YzD,Yzw,zg,Yzc,if_false,a1,b1',zR,c];rfl
 ·rw[Option.isNone_iff_eq_none,zhS F a2 b2 a3 b3 (Q:=fun c=>∀z,zdY o r c z→zdY o s c z) fun n key x y hx hy=>zEu hx hy];rfl
end
end Go.Proofs.Tryz.Kn
end
section
namespace Go.Proofs.Tryz.Kn
open Go Go.CE Go.PE
structure Le (o:Org) (r s:Reg):Prop where
 c:∀(i:Nat) (x:Cpl),o.cpls.els[i]? = some x→bit r.cpls i=true→bit s.cpls i=true
 f:∀(n:Nat) (d:Zj),o.divs.els[n]? = some d→bit s.off n=true→bit r.off n=true
 t:∀(n:Nat) (d:Zj) (x:Int) (j:Nat) (t:Zr),o.divs.els[n]? = some d→r.stops.els[n]? = some x→d.stops.els[j]? = some t→bit x j=true→∃y,s.stops.els[n]? = some y∧bit y j=true
section
variable {o:Org} {r s:Reg} (L:Le o r s)
include L
end
theorem qH{rs:List Zk}{low high:Int}:∀{l:List Pul} {i:Nat} {s:Zr},s∈wn rs low high i l→∃j x,s=vz rs low high j x
 | [],_,_,h=>by cases h
 |x::l,i,s,h=>by
  rcases YzA.1 h with rfl|h
  ·exact⟨i,x,rfl⟩
  ·exact qH h
theorem zrS(rs:List Zk)(low high:Int)(i:Nat)(x:Pul)(key:Int):(uO (vz rs low high i x) key).draws.els.length≤2:=by
 have hall:∀n sh m sh2 a kd,∀g∈yZ low high n sh m sh2 a kd,g.draws.els.length≤2:=by
  intro n sh m sh2 a kd;unfold yZ;split
  ·simp
  ·split<;>simp
  ·split<;>simp
  ·simp
  ·simp
 unfold uO;cases hf:(vz rs low high i x).segs.els.find? (xK key) with
 |none=>simp[zcr]
 |some g=>exact hall _ _ _ _ _ _ g (List.mem_of_find?_eq_some hf)
theorem uS{rs:List Zk}:∀{l:List Boa} {i:Nat} {d:Zj},d∈vA rs i l→∃j b,b∈l∧d=zdT rs j b
 | [],_,_,h=>by cases h
 |b::l,i,d,h=>by
  rcases YzA.1 h with rfl|h
  ·exact⟨i,b,Yzh ..,rfl⟩
  ·obtain⟨j,c,h1,h2⟩:=uS h;exact⟨j,c,Yzf _ h1,h2⟩
theorem za8{n:Nat}:∀{l:List Lnk} {i:Nat} {c:Cpl},c∈ke n i l→∃j b,c=qm n j b
 | [],_,_,h=>by cases h
 |b::l,i,d,h=>by
  rcases YzA.1 h with rfl|h
  ·exact⟨i,b,rfl⟩
  ·exact za8 h
theorem zet:∀(l:List RPl) (i:Nat),∀r∈wz i l,r.wind.els.length≤25
 | [],_,_,h=>by cases h
 |x::l,i,r,h=>by
  rcases YzA.1 h with rfl|h
  ·show (jI x (1+x.pipes % 25)).length≤25;rw[qZ];omega
  ·exact zet l _ r h
theorem zl3{rs:List Zk}(hl:rs.length≤60)(hw:∀r∈rs,r.wind.els.length≤25){key:Int}{ds:List Zp}{y:Ze}(h:y∈wM rs key ds):q9 y:=by
 unfold wM at h;obtain⟨d,_,hd⟩:=List.mem_filterMap.1 h;unfold qp at hd;split at hd
 ·cases hd
 ·rename_i h0;split at hd
  ·cases hd
  ·rename_i r hr;split at hd
   ·rename_i hn;cases hd;have h1:=(Lz0.1 hr).1;have h2:=hw r (Lz3 hr);unfold q9;simp only;omega
   ·cases hd
theorem zA7(p:Pln)(hf:zdh p=true)(b:Nat→Nat):Fit (za7 p) (qc (za7 p) b):=by
 obtain⟨f1,f2,f3,f4,f5,f6⟩:=uW hf;obtain⟨s1,s2,s3⟩:=zeu p hf;have hdv:(za7 p).divs.els=vA (wz 0 p.ranks.els) 0 p.divs.els:=by unfold za7;simp only[zn]
 have hcp:(za7 p).cpls.els=ke p.divs.els.length 0 p.cpls.els:=by unfold za7;simp only[zn]
 refine⟨s1,s3,s2,fun d hd=>?_,fun x hx=>?_,fun x hx=>?_,fun d hd s hs=>?_,fun key ds y hy=>?_,?_⟩
 ·rw[hdv]at hd;obtain⟨j,b,_,rfl⟩:=uS hd;have q1:=zc3 b;have q2:=zat b;show 0≤zdM b∧zdM b≤ki b∧ki b≤zdM b+8∧ki b≤127;omega
 ·rw[hcp]at hx;obtain⟨j,l,rfl⟩:=za8 hx;rw[hdv,wU];have:=YzO l.dst (show p.divs.els.length > 0 by omega);show (0:Int)≤((l.dst % p.divs.els.length:Nat):Int)∧((l.dst % p.divs.els.length:Nat):Int)<_;omega
 ·rw[hcp]at hx;obtain⟨j,l,rfl⟩:=za8 hx;have q1:(l.shift.tmod 25).natAbs<25:=by
   rw[Int.natAbs_tmod];exact YzO _ (by decide)
  show -1000≤(if _ then 12 else l.shift.tmod 25)∧(if _ then 12 else l.shift.tmod 25)≤1000;split<;>omega
 ·rw[hdv]at hd;obtain⟨j,b,_,rfl⟩:=uS hd;have hs:s∈(grow (wn (wz 0 p.ranks.els) (zdM b) (ki b) 0 b.stops.els)).els:=hs;rw[zn]at hs;refine⟨qG _ _ _ _ _ s hs,fun key=>?_⟩;obtain⟨i,x,rfl⟩:=qH hs;exact zrS ..
 ·have hrk:(za7 p).ranks.els=wz 0 p.ranks.els:=by unfold za7;simp only[zn]
  rw[hrk]at hy;exact zl3 (by rw[uR];omega) (zet _ _) hy
 ·unfold qc;simp only[zn,jv]
theorem zEA{β:Type}(a b c d:DV)(K:List DS→Option β):bT [some 2,none,none] (some (.tup [.agg [a,b],.one c,.one d])) K=K [.agg [a,b],.one c,.one d]:=rfl
end Go.Proofs.Tryz.Kn
end
section
namespace Go.Proofs.Tryz.Kn
open Go Go.CE Go.PE
def zeQ(k:Int×Int):List DV:=[U64 k.1,U64 k.2]
def zoC(key:Int):Int×Int:=(((2^key.toNat:Nat):Int),0)
theorem t64(k:Nat)(key:Int)(h0:0≤key)(h1:key≤60):D (k+1) 64 [S1 (I6 key)]=some (SA (zeQ (zoC key))):=by
 obtain⟨n,rfl⟩:∃n:Nat,key=(n:Int):=⟨key.toNat,by omega⟩;have e1:yi .u64 (I6 (n:Int))=some (U64 (n:Int)):=jx (by omega);have e2:yj true (U64 1) (U64 (n:Int))=some (U64 ((2^n:Nat):Int)):=zdS (by omega);have h:¬(64:Int)≤(n:Int):=by omega
 rw[D64];unfold P64;simp only[xQ,zb,zg,Yzn,h,if_false,e1,e2];rfl
theorem zws:((List.range 61).all fun a=>(List.range 61).all fun b=>bit ((2^a:Nat):Int) b==(a==b))=true:=by kernel_rfl
theorem zwr{a b:Nat}(ha:a≤60)(hb:b≤60):bit ((2^a:Nat):Int) b=(a==b):=by
 have:=Yz3.1 (Yz3.1 zws a (List.mem_range.2 (by omega))) b (List.mem_range.2 (by omega))
 simpa using this
theorem zs9(b:Nat):bit 0 b=false:=by unfold bit;rw[zrD];rfl
structure Zt (o:Org) (r:Reg):Prop extends Fit o r where
 hi:∀d∈o.divs.els,d.high≤60
 seg:∀d∈o.divs.els,∀s∈d.stops.els,s.segs.els.length≤2∧(∀g∈s.segs.els,g.draws.els.length≤2∧∀x∈g.draws.els,0≤x.rank∧x.rank<(o.ranks.els.length:Int))∧∀key,∀g∈s.segs.els,xK key g=true→g=uO s key
section
variable {o:Org} {r:Reg} (F:Zt o r)
include F
def jG(o:Org)(c:y5):List (Int×Int):=(List.replicate o.divs.els.length (0,0)).set c.rank.toNat (zoC c.num)
theorem t39(k:Nat)(c:y5)(hc:inR o c=true):D (k+2) 39 [SA (enO o),SA [I6 c.rank,I6 c.num]]=some (S1 (enL 2 zeQ (some (jG o c)))):=by
 obtain⟨n,d,hn,hd,h1,h2⟩:=xR.1 hc;have hnl:=(Lz0.1 hd).1;have hr:=F.rng d (Lz3 hd);have hh:=F.hi d (Lz3 hd);have hdl:=F.dl;have e:=t64 k c.num (by omega) (by omega);have em:mkN 16 (I6 (o.divs.els.length:Int)) (I6 (o.divs.els.length:Int))=some o.divs.els.length:=by show (bif Nat.beq o.divs.els.length o.divs.els.length&&Nat.ble o.divs.els.length 1073741824&&Nat.ble (16*o.divs.els.length) 281474976710656 then some o.divs.els.length else none)=some o.divs.els.length;rw[Yzj,Yzl (show o.divs.els.length≤1073741824 by omega),Yzl (show 16*o.divs.els.length≤281474976710656 by omega)];rfl
 have hrep:List.replicate o.divs.els.length [U64 0,U64 0]=(List.replicate o.divs.els.length ((0,0):Int×Int)).map zeQ:=by rw[List.map_replicate];rfl
 have i1:y2 (some ((List.replicate o.divs.els.length ((0,0):Int×Int)).map zeQ)) (I6 c.rank)=some n:=by rw[hn];exact wv (by simp;omega)
 have gz:(List.replicate o.divs.els.length ((0,0):Int×Int))[n]? = some (0,0):=by rw[List.getElem?_replicate,Yze hnl]
 have st:zgR 2 (some ((List.replicate o.divs.els.length ((0,0):Int×Int)).map zeQ)) n 0 (zeQ (zoC c.num))=some (some ((jG o c).map zeQ)):=by unfold jG;rw[hn,Yzp];exact zzF gz (Lz4 rfl) rfl
 unfold enO;rw[D39];unfold P39;simp only[zA,zb,em,e];rw[zwv (show (zeQ (zoC c.num)).length=2 from rfl)];simp only[hrep,i1,zb];rw[show[atD (zeQ (zoC c.num)) 0,atD (zeQ (zoC c.num)) 1]=zeQ (zoC c.num) from rfl,st];rfl
omit F in
theorem zqA(c:y5)(hc:inR o c=true){n:Nat}(hn:n<o.divs.els.length):(jG o c)[n]? = some (if (n:Int)=c.rank then zoC c.num else(0,0)):=by
 obtain⟨m,d,hm,hd,_,_⟩:=xR.1 hc;unfold jG;rw[hm,Yzp];by_cases h:n=m
 ·subst h;rw[Yze rfl,List.getElem?_set_self (by simp;omega)]
 ·rw[Yzb (by omega),List.getElem?_set_ne (fun e=>h e.symm),List.getElem?_replicate,Yze hn]
theorem zqs(c:y5)(hc:inR o c=true){n:Nat}{d:Zj}(hd:o.divs.els[n]? = some d){key:Nat}(h2:(key:Int)≤d.high):bit (if (n:Int)=c.rank then zoC c.num else(0,0)).1 key=decide ((n:Int)=c.rank∧(key:Int)=c.num):=by
 obtain⟨m,d',hm,hd',g1,g2⟩:=xR.1 hc;have hr:=F.rng d' (Lz3 hd');have hh:=F.hi d (Lz3 hd);have hh':=F.hi d' (Lz3 hd');by_cases h:(n:Int)=c.rank
 ·rw[Yze h];show bit ((2^c.num.toNat:Nat):Int) key=_;rw[zwr (by omega) (by omega)];by_cases e:c.num.toNat=key
  ·rw[decide_eq_true (show (n:Int)=c.rank∧(key:Int)=c.num from⟨h,by omega⟩)];simpa using e
  ·rw[decide_eq_false (fun hh=>e (by omega))];simpa using e
 ·rw[Yzb h,decide_eq_false (fun hh=>h hh.1)];exact zs9 key
theorem zsv(c:y5)(hc:inR o c=true)(n:Nat)(d:Zj)(hd:o.divs.els[n]? = some d):∀(m:Nat) (key:Nat) (acc:List y5),(key:Int)+(m:Int)=d.high+1→acc.length+m≤1000→
  zB (zqK (enV d) (enL 2 zeQ (some (jG o c))) [I6 (n:Int)]) [I6 (key:Int)] [ocL zX (grow acc)]=some (.exit 2,[],[ocL zX (grow (if (n:Int)=c.rank∧(key:Int)≤c.num then acc++[c] else acc))]):=by
 have hnl:=(Lz0.1 hd).1;obtain⟨_,d',hm',hd',_,g2⟩:=xR.1 hc;have hh:=F.hi d (Lz3 hd);have a3:atD (enV d) 3=I6 d.high:=rfl;have ik:yy 2 (enL 2 zeQ (some (jG o c))) (I6 (n:Int))=some (zeQ (if (n:Int)=c.rank then zoC c.num else(0,0))):=by rw[yb,yn,zqA c hc hnl];rfl
 intro m
 induction m with
 |zero=>
  intro key acc hk _;have h1:decide ((key:Int)≤d.high)=false:=decide_eq_false (by omega);have h2:¬((n:Int)=c.rank∧(key:Int)≤c.num):=fun h=>by rw[←h.1]at hm';have:n=_:=Int.ofNat.inj hm';subst this;rw[hd]at hd';cases hd';omega
  rw[Yzb h2];refine zl ?_;simp only[zqK,zi,zp,a3,xE,zb,h1,zg,Yzc,if_false]
 |succ m ih=>
  intro key acc hk ha;have h1:decide ((key:Int)≤d.high)=true:=decide_eq_true (by omega);have h64:¬(64:Int)≤(key:Int):=by omega
  have ea:zf .add (I6 (key:Int)) (I6 1)=some (I6 ((key+1:Nat):Int)):=yf;have er:zf .rem (I6 (key:Int)) (I6 64)=some (I6 ((key % 64:Nat):Int)):=ziV (b:=64) (by decide);rw[Nat.mod_eq_of_lt (by omega)]at er;have ec:yi .u64 (I6 (key:Int))=some (U64 (key:Int)):=jx (by omega);have ef:fits 16 ((grow acc).els.length+1)=true:=yM (by decide) (by rw[zn];omega);have hb:=zqs F c hc hd (key:=key) (by omega);have eb:zf .eql (U64 (zb5 (zd6 (if (n:Int)=c.rank then zoC c.num else(0,0)).1 key) 1)) (U64 1)=some (Bo (decide ((n:Int)=c.rank∧(key:Int)=c.num))):=by rw[zdW,←hb];rfl
  have hp:(some ((grow acc).els.map zX++[[I6 (n:Int),I6 (key:Int)]]):OC)=ocL zX (grow (acc++[⟨(n:Int),(key:Int)⟩])):=by rw[yw,←y0];rfl
  have body:zqK (enV d) (enL 2 zeQ (some (jG o c))) [I6 (n:Int)] [I6 (key:Int)] [ocL zX (grow acc)]=some (.normal,[I6 ((key+1:Nat):Int)],[ocL zX (grow (if (n:Int)=c.rank∧(key:Int)=c.num then acc++[⟨(n:Int),(key:Int)⟩] else acc))]):=by simp only[zqK,zi,zp,a3,xE,zb,h1,zg,if_true,ik,xQ,Yzn,h64,if_false,er,ec,zeQ,yE,zcb,yT,eb,zY,zU,ef,yF,ea,hp];by_cases hq:(n:Int)=c.rank∧(key:Int)=c.num<;>simp[hq]
  rw[zx body,ih (key+1) _ (by omega) (by split<;>(try simp only[Yzk,Yzg,Yzx])<;>omega)];by_cases hq:(n:Int)=c.rank∧(key:Int)=c.num
  ·rw[Yze hq,Yzb (by omega),Yze (by omega),show (⟨(n:Int),(key:Int)⟩:y5)=c from Ze.eq hq.1 hq.2]
  ·rw[Yzb hq];by_cases h2:(n:Int)=c.rank∧(key:Int)≤c.num
   ·rw[Yze h2,Yze (by omega)]
   ·rw[Yzb h2,Yzb (by omega)]
theorem zsw(c:y5)(hc:inR o c=true):∀(l:List Zj) (n:Nat) (acc:List y5),o.divs.els.drop n=l→acc.length≤100*n→
  zB (zqL (I6 (o.divs.els.length:Int)) (enL 5 enV o.divs) (enL 2 zeQ (some (jG o c)))) [I6 (n:Int)] [ocL zX (grow acc)]=some (.exit 0,[],[ocL zX (grow (if (n:Int)≤c.rank then acc++[c] else acc))]):=by
 obtain⟨m,d',hm',hd',g1,g2⟩:=xR.1 hc;have hml:=(Lz0.1 hd').1;have hdl:=F.dl;intro l
 induction l with
 |nil=>intro n acc h _;have:=zH h;rw[Yzb (by omega)];refine zl ?_;simp only[zqL,zi,zp,zc,zb,yK (zH h),zg,Yzc,if_false]
 |cons d l ih=>
  intro n acc h ha;have h1:=zZ h;have hd:=zJ h;have hr:=F.rng d (Lz3 hd);obtain⟨lo,hlo⟩:∃lo:Nat,d.low=(lo:Int):=⟨d.low.toNat,by omega⟩;have lk:=zsv F c hc n d hd (d.high-d.low+1).toNat lo acc (by omega) (by omega);have iv:yy 5 (enL 5 enV o.divs) (I6 (n:Int))=some (enV d):=by rw[yb,hd];rfl
  have a2:atD (enV d) 2=I6 (lo:Int):=by rw[←hlo];rfl
  have ea:zf .add (I6 (n:Int)) (I6 1)=some (I6 ((n+1:Nat):Int)):=yf;have hcond:((n:Int)=c.rank∧(lo:Int)≤c.num)↔(n:Int)=c.rank:=⟨fun hh=>hh.1,fun hh=>⟨hh,by
   have:n=m:=by omega
   subst this;rw[hd]at hd';cases hd';omega⟩⟩
  have body:zqL (I6 (o.divs.els.length:Int)) (enL 5 enV o.divs) (enL 2 zeQ (some (jG o c))) [I6 (n:Int)] [ocL zX (grow acc)]=some (.normal,[I6 ((n+1:Nat):Int)],[ocL zX (grow (if (n:Int)=c.rank then acc++[c] else acc))]):=by simp only[zqL,zi,zp,zc,zb,x4 h1,zg,if_true,iv,a2,lk,zt,Yzj,Yza,ea,hcond]
  rw[zx body,ih (n+1) _ (zw h) (by split<;>(try simp only[Yzk,Yzg,Yzx])<;>omega)];by_cases hq:(n:Int)=c.rank
  ·rw[Yze hq,Yzb (by omega),Yze (by omega)]
  ·rw[Yzb hq];by_cases h2:(n:Int)≤c.rank
   ·rw[Yze h2,Yze (by omega)]
   ·rw[Yzb h2,Yzb (by omega)]
theorem t85(k:Nat)(c:y5)(hc:inR o c=true):D (k+1) 85 [SA (enO o),S1 (enL 2 zeQ (some (jG o c)))]=some (S1 (enL 2 zX (some [c]))):=by obtain⟨m,d',hm',_⟩:=xR.1 hc;have l:=zsw F c hc o.divs.els 0 [] rfl (by simp);rw[Yze (by omega)]at l;unfold enO;rw[D85];unfold P85;simp only[zA,zb];rw[show (I6 0:DV)=I6 ((0:Nat):Int) from rfl,show (none:OC)=ocL zX (grow []) from rfl,l];simp only[zt,Yzj,Yza,zp,yX];rfl
omit F in
theorem t118(k:Nat)(c:y5):D (k+1) 118 [SA (enO o),SA [I6 c.rank,I6 c.num]]=some (S1 (Bo (inR o c))):=by
 unfold enO;rw[zEi];unfold zBF;simp only[xQ,zb,zg,Yzn,zA,zc,xE];cases hn:c.rank with
 |negSucc n=>
  rw[Yzb (by omega)];have:inR o c=false:=by unfold inR;rw[hn]
  rw[this]
 |ofNat n=>
  rw[show Int.ofNat n=(n:Int) from rfl]at hn ⊢;rw[Yze (by omega)];by_cases h:n<o.divs.els.length
  ·obtain⟨d,hd⟩:∃d,o.divs.els[n]? = some d:=⟨_,Lz5 h⟩;have iv:yy 5 (enL 5 enV o.divs) (I6 (n:Int))=some (enV d):=by rw[yb,hd];rfl
   have:inR o c=(decide (d.low≤c.num)&&decide (c.num≤d.high)):=by unfold inR;rw[hn];show (match o.divs.els[n]? with|some d=>_|none=>false)=_;rw[hd]
   rw[Yze (by omega),this];simp only[iv,zb,enV,yE,xc,xQ,zg,Yzn,xE];by_cases h1:d.low≤c.num<;>simp[h1]
  ·have:inR o c=false:=by
    unfold inR;rw[hn];show (match o.divs.els[n]? with|some d=>_|none=>false)=_;rw[List.getElem?_eq_none (by omega)]
   rw[Yzb (by omega),this]
end
end Go.Proofs.Tryz.Kn
end
section
namespace Go.Proofs.Tryz.Kn
open Go Go.CE Go.PE
section
variable {o:Org} {r:Reg} (F:Zt o r)
include F
theorem znb{G:List DV→List OC→Option PX}{thr:Bool}(k:Nat)(c:y5)(hc:-100000≤c.num∧c.num≤100000)(q:List y5)(hq:q.length≤1000)(i:Nat)(x:Cpl)(hx:o.cpls.els[i]? = some x)
  (hG:G=if thr=true then zh4 (D (k+2)) (I6 (o.cpls.els.length:Int)) (enL 5 enC o.cpls) [I6 c.rank,I6 c.num] (U64 r.cpls) (St o.name) (enL 6 enR o.ranks) (enL 5 enV o.divs) else zh6 (D (k+2)) (I6 (o.cpls.els.length:Int)) (enL 5 enC o.cpls) [I6 c.rank,I6 c.num] (U64 r.cpls) (St o.name) (enL 6 enR o.ranks) (enL 5 enV o.divs)):
  G [I6 (i:Int)] [ocL zX (grow q)]=some (.normal,[I6 ((i+1:Nat):Int)],[ocL zX (grow (if goes o r c thr i x=true then push q (dest c x) else q))]):=by
 have hi:=(Lz0.1 hx).1;have hm:=Lz3 hx;have hcl:=F.cl;have ea:zf .add (I6 (i:Int)) (I6 1)=some (I6 ((i+1:Nat):Int)):=yf;have ix:yy 5 (enL 5 enC o.cpls) (I6 (i:Int))=some (enC x):=by rw[yb,hx];rfl
 obtain⟨s1,s2⟩:=F.shf x hm;have ek:zf .add (I6 c.num) (I6 x.shift)=some (I6 (c.num+x.shift)):=yf;have ec:yi .u64 (I6 (i:Int))=some (U64 (i:Int)):=jx (by omega);have ct:=t80 k (dest c x) (grow q) (by rw[zn];omega);rw[zn]at ct;have ci:=t118 (o:=o) (k+1) (dest c x);have ef:fits 16 ((grow q).els.length+1)=true:=yM (by decide) (by rw[zn];omega);have hdest:(dest c x).rank=x.dst∧(dest c x).num=c.num+x.shift:=⟨rfl,rfl⟩;rw[hdest.1,hdest.2]at ct ci;unfold enO at ci;have hp:(some ((grow q).els.map zX++[[I6 x.dst,I6 (c.num+x.shift)]]):OC)=ocL zX (grow (q++[dest c x])):=by rw[yw,←y0];rfl
 have eb:zf .eql (U64 (zb5 (zd6 r.cpls i) 1)) (U64 1)=some (Bo (bit r.cpls i)):=by rw[zdW];rfl
 unfold goes;cases thr with
 |false=>
  rw[hG];simp only[Yzc,if_false,zh6,zi,zp,zc,zb,x4 hi,zg,if_true,ix,enC,yE,xc,ek,ec,zcb,yT,eb,Bool.not_false,Bool.true_or,Yyi,xF];cases bit r.cpls i with
  |false=>simp[ea]
  |true=>
   cases hs:(x.src==c.rank) with
   |false=>simp[ea]
   |true=>
    simp only[if_true,yI,Bool.not_false,zb,zg,Yz1,ci,zR];cases ht:x.thr<;>(cases hin:inR o (dest c x) with
    |false=>simp[ea]
    |true=>simp only[if_true,Yzc,if_false,yX,ct,b1s,zdO,Yza,yI,zb,zg,zY,zU,ef,yF,ea,hp,push];by_cases h3:dest c x∈q<;>simp[h3])
 |true=>
  rw[hG];simp only[if_true,zh4,zi,zp,zc,zb,x4 hi,zg,ix,enC,yE,xc,ek,ec,zcb,yT,eb,Yzw,Yz7,xF];cases bit r.cpls i with
  |false=>simp[ea]
  |true=>
   cases hs:(x.src==c.rank) with
   |false=>simp[ea]
   |true=>
    simp only[if_true,yI,Yzw,zb,zg,Yz1,ci,zR];cases ht:x.thr with
    |false=>simp[ea]
    |true=>
     cases hin:inR o (dest c x) with
     |false=>simp[ea]
     |true=>simp only[if_true,Yzc,if_false,yX,ct,b1s,zdO,Yza,yI,zb,zg,zY,zU,ef,yF,ea,hp,push,Yyw];by_cases h3:dest c x∈q<;>simp[h3]
theorem zey{G:List DV→List OC→Option PX}{thr:Bool}(k:Nat)(c:y5)(hc:-100000≤c.num∧c.num≤100000)
  (hG:G=if thr=true then zh4 (D (k+2)) (I6 (o.cpls.els.length:Int)) (enL 5 enC o.cpls) [I6 c.rank,I6 c.num] (U64 r.cpls) (St o.name) (enL 6 enR o.ranks) (enL 5 enV o.divs) else zh6 (D (k+2)) (I6 (o.cpls.els.length:Int)) (enL 5 enC o.cpls) [I6 c.rank,I6 c.num] (U64 r.cpls) (St o.name) (enL 6 enR o.ranks) (enL 5 enV o.divs)):
  ∀(l:List Cpl) (i:Nat) (q:List y5),o.cpls.els.drop i=l→q.length+l.length≤1000→zB G [I6 (i:Int)] [ocL zX (grow q)]=some (.exit 0,[],[ocL zX (grow (wD o r c thr i l q))]):=by
 intro l
 induction l with
 |nil=>
  intro i q h _;refine zl ?_;rw[hG];cases thr
  ·simp only[Yzc,if_false,zh6,zi,zp,zc,zb,yK (zH h),zg];rfl
  ·simp only[if_true,zh4,zi,zp,zc,zb,yK (zH h),zg];rfl
 |cons x l ih=>
  intro i q h hq;simp only[Yzg]at hq;rw[zx (znb F k c hc q (by omega) i x (zJ h) hG)];refine ih (i+1) _ (zw h) ?_;split
  ·have:=zfo q (dest c x);omega
  ·omega
theorem zjf(k:Nat)(c:y5):∀(f i:Nat) (q:List y5),Que o r c q i→i≤q.length→i+f=28→
    ∃q',zB (zh5 (D (k+2)) (enL 5 enC o.cpls) (U64 r.cpls) (St o.name) (enL 6 enR o.ranks) (enL 5 enV o.divs)) [I6 (i:Int)] [ocL zX (grow q)]=some (.exit 2,[],[ocL zX (grow q')])∧Que o r c q' q'.length:=by
  intro f
  induction f with
  |zero=>intro i q H hi hf;have:=vE F.toFit H.nd fun y hy=>(H.re y hy).inR;omega
  |succ f ih=>
    intro i q H hi hf;have hlen:=vE F.toFit H.nd fun y hy=>(H.re y hy).inR;by_cases hlt:i<q.length
    · obtain⟨y,hy⟩:∃y,q[i]? = some y:=⟨_,Lz5 hlt⟩
      have hym:=H.re y (Lz3 hy);have hcl:=F.cl;have ls:=zey F (thr:=true) k y (zfX F.toFit hym.inR) rfl o.cpls.els 0 q rfl (by omega);rw[Yze rfl]at ls;have ea:zf .add (I6 (i:Int)) (I6 1)=some (I6 ((i+1:Nat):Int)):=yf;have hg:(grow q).els.length=q.length:=by rw[zn]
      have i1:y2 (ocL zX (grow q)) (I6 (i:Int))=some i:=by
        cases q with
        |nil=>simp at hlt
        |cons a q=>exact wv (by simpa using hlt)
      have i2:vZ (ocL zX (grow q)) i=some (zX y):=by
        cases q with
        |nil=>simp at hlt
        |cons a q=>show ((a::q).map zX)[i]? = _;rw[Lz6,hy];rfl
      have body:zh5 (D (k+2)) (enL 5 enC o.cpls) (U64 r.cpls) (St o.name) (enL 6 enR o.ranks) (enL 5 enV o.divs) [I6 (i:Int)] [ocL zX (grow q)]=some (.normal,[I6 ((i+1:Nat):Int)],[ocL zX (grow (wD o r y true 0 o.cpls.els q))]):=by simp only[zh5,zi,zp,zY,hg,xj,zc,zb,x4 hlt,zg,if_true,i1,i2,zX,zA];rw[show (I6 0:DV)=I6 ((0:Nat):Int) from rfl,ls];simp only[zt,Yzj,Yza,ea,zb,zp]
      have HQ:Que o r c (wD o r y true 0 o.cpls.els q) (i+1):=by
       refine⟨ve o r y true _ _ _ H.nd,fun z hz=>?_,fun j x h1 h2=>(xf o r y true _ _ _).2 (.inl (H.fst j x h1 h2)),fun m z hm hz j x h1 h2=>?_⟩
       · rcases (xf o r y true _ _ _).1 hz with hz|⟨j,x,h1,h2,h3⟩
         · exact H.re z hz
         · rw[Yzm]at h2
           rw[h3];exact .more y j x hym h1 h2
       · by_cases hmi:m=i
         · subst hmi
           have:=wR o r y true o.cpls.els 0 q hy;rw[hz]at this;cases this;exact(xf o r _ true _ _ _).2 (.inr ⟨j,x,h1,by rw[Yzm];exact h2,rfl⟩)
         · have hmi:m<i:=by omega
           obtain⟨w,hw⟩:∃w,q[m]? = some w:=⟨_,Lz5 (by omega)⟩;have:=wR o r y true o.cpls.els 0 q hw;rw[hz]at this;cases this;exact(xf o r y true _ _ _).2 (.inl (H.cls m _ hmi hw j x h1 h2))
      obtain⟨q',h1,h2⟩:=ih (i+1) (wD o r y true 0 o.cpls.els q) HQ
        (by have:=wR o r y true o.cpls.els 0 q hy;have:=(Lz0.1 this).1;omega) (by omega)
      exact⟨q',by rw[zx body,h1],h2⟩
    · have hi:i=q.length:=by omega
      subst hi;refine⟨q,zl ?_,H⟩;have hg:(grow q).els.length=q.length:=by rw[zn]
      have:=yK (LzB q.length);simp only[zh5,zi,zp,zY,hg,xj,zc,zb,this,zg,Yzc,if_false]
theorem zl4{y:y5}(h:inR o y=true):q9 y:=by obtain⟨n,d,e1,e2,e3,e4⟩:=xR.1 h;have:=(Lz0.1 e2).1;have:=F.dl;have:=F.rng d (Lz3 e2);unfold q9;omega
theorem t61(k:Nat)(c:y5)(hc:inR o c=true):∃S:Sl y5,D (k+3) 61 [SA (enO o),SA (ym r),S1 (enL 2 zeQ (some (jG o c)))]=some (S1 (enL 2 zX S))∧S.els.length≤27∧(∀y,y∈S.els↔zeY o r c y)∧(∀y∈S.els,inR o y=true):=by
 obtain⟨n,d,hn,hd,_,_⟩:=xR.1 hc;have hnl:=(Lz0.1 hd).1;have hcl:=F.cl;have hdl:=F.dl;have cp:=t85 F (k+1) c hc;have l1:=zey F (thr:=false) k c (zfX F.toFit hc) rfl o.cpls.els 0 [] rfl (by simp;omega);simp only[Yzc,if_false]at l1;have hq0:Que o r c (wD o r c false 0 o.cpls.els []) 0:=⟨ve o r c false _ _ _ List.nodup_nil,fun y hy=>by
   rcases (xf o r c false _ _ _).1 hy with hy|⟨j,x,h1,h2,h3⟩
   ·cases hy
   ·rw[Yzm]at h2;rw[h3];exact .one j x h1 h2,fun j x h1 h2=>(xf o r c false _ _ _).2 (.inr ⟨j,x,h1,by rw[Yzm];exact h2,rfl⟩),fun m y hm=>by omega⟩
 obtain⟨q,h1,h2⟩:=zjf F k c 28 0 _ hq0 (Yzu _) rfl;have hall:=zog h2;have hlen:=vE F.toFit h2.nd fun y hy=>(h2.re y hy).inR;have ct:=t80 k c (grow q) (by rw[zn];omega);rw[zn]at ct;have ef:fits 16 ((grow q).els.length+1)=true:=yM (by decide) (by rw[zn];omega);have hp:(some ((grow q).els.map zX++[[I6 c.rank,I6 c.num]]):OC)=ocL zX (grow (q++[c])):=by rw[yw,←y0];rfl
 have hb:zf .eql (U64 (zb5 (zd6 r.off n) 1)) (U64 0)=some (Bo (!bit r.off n)):=by rw[zdW,zqr]
 have ec:yi .u64 (I6 c.rank)=some (U64 (n:Int)):=by rw[hn];exact jx (by omega)
 have e01:zf .add (I6 ((0:Nat):Int)) (I6 1)=some (I6 ((1:Nat):Int)):=rfl;have ix:yy 2 (enL 2 zX (some [c])) (I6 ((0:Nat):Int))=some [I6 c.rank,I6 c.num]:=rfl;have pl:yV (enL 2 zX (some [c]))=some (I6 ((1:Nat):Int)):=rfl;have f4:zB (zqQ (D (k+2)) (I6 ((1:Nat):Int)) (enL 2 zX (some [c])) (enL 5 enC o.cpls) (U64 r.cpls) (St o.name) (enL 6 enR o.ranks) (enL 5 enV o.divs)) [I6 ((0:Nat):Int)] [none]=some (.exit 0,[],[ocL zX (grow (wD o r c false 0 o.cpls.els []))]):=by
  have b0:zqQ (D (k+2)) (I6 ((1:Nat):Int)) (enL 2 zX (some [c])) (enL 5 enC o.cpls) (U64 r.cpls) (St o.name) (enL 6 enR o.ranks) (enL 5 enV o.divs) [I6 ((0:Nat):Int)] [none]=some (.normal,[I6 ((1:Nat):Int)],[ocL zX (grow (wD o r c false 0 o.cpls.els []))]):=by simp only[zqQ,zi,zp,zc,zb,x4 (show 0<1 by omega),zg,if_true,ix,zA];rw[show (none:OC)=ocL zX (grow []) from rfl,show (I6 0:DV)=I6 ((0:Nat):Int) from rfl,l1];simp only[zt,Yzj,Yza,e01,zb,zp]
  rw[zx b0];refine zl ?_;simp only[zqQ,zi,zp,zc,zb,yK (LzB 1),zg,Yzc,if_false]
 have f82:zB (zh3 (D (k+2)) (I6 ((1:Nat):Int)) (enL 2 zX (some [c])) (U64 r.off)) [I6 ((0:Nat):Int)] [ocL zX (grow q)]=some (.exit 0,[],[ocL zX (grow (if bit r.off n=true then q else push q c))]):=by
  have b0:zh3 (D (k+2)) (I6 ((1:Nat):Int)) (enL 2 zX (some [c])) (U64 r.off) [I6 ((0:Nat):Int)] [ocL zX (grow q)]=some (.normal,[I6 ((1:Nat):Int)],[ocL zX (grow (if bit r.off n=true then q else push q c))]):=by
   simp only[zh3,zi,zp,zc,zb,x4 (show 0<1 by omega),zg,if_true,ix,yE,xc,ec,zcb,yT,hb,e01];cases hbb:bit r.off n with
   |true=>simp
   |false=>simp only[Bool.not_false,if_true,yX,ct,b1s,zdO,Yza,yI,zb,zg,zY,zU,ef,yF,hp,Yzc,if_false,push];by_cases h3:c∈q<;>simp[h3]
  rw[zx b0];refine zl ?_;simp only[zh3,zi,zp,zc,zb,yK (LzB 1),zg,Yzc,if_false]
 have hin:∀y∈(if bit r.off n=true then q else push q c),inR o y=true:=fun y hy=>by
  split at hy
  ·exact(h2.re y hy).inR
  ·rcases jj.1 hy with h|h
   ·exact(h2.re y h).inR
   ·rw[h];exact hc
 have hl27:(if bit r.off n=true then q else push q c).length≤27:=by
  refine vE F.toFit ?_ hin;split
  ·exact h2.nd
  ·exact zaZ h2.nd
 have hmem:∀y,y∈(if bit r.off n=true then q else push q c)↔zeY o r c y:=fun y=>by
  unfold zeY;rw[hn,Yzp];cases hbb:bit r.off n with
  |true=>simp[hall]
  |false=>simp[jj,hall]
 generalize (if bit r.off n=true then q else push q c)=Q at f82 hin hl27 hmem;have hs:∃S:Sl y5,∃w,znK 2 (ocL zX (grow Q))=some w∧mkL 2 w=enL 2 zX S∧S.els.length=Q.length∧∀y,y∈S.els↔y∈Q:=by
  cases Q with
  |nil=>exact⟨none,none,rfl,rfl,rfl,fun y=>by simp⟩
  |cons a Q=>exact⟨some (je (a::Q)),ocP (je (a::Q)),zts (l:=a::Q) (by simp at hl27 ⊢;omega) fun p hp=>zl4 F (hin p hp),yX _,by rw[yn];exact(zaW _).length_eq,fun y=>by rw[yn];exact(zaW _).mem_iff⟩
 obtain⟨S,w,g1,g2,gl,g3⟩:=hs;refine⟨S,?_,?_,fun y=>(g3 y).trans (hmem y),fun y hy=>hin y ((g3 y).1 hy)⟩
 ·unfold enO at cp ⊢;unfold ym;rw[D61];unfold P61;simp only[cp,zR,pl,zb];rw[show (I6 0:DV)=I6 ((0:Nat):Int) from rfl,f4];simp only[zt,Yzj,Yza,zp];rw[h1];simp only[zt,Yzj,Yza,zp];rw[f82];simp only[zt,Yzj,Yza,zp,g1,zb,g2]
 ·rw[gl];exact hl27
end
end Go.Proofs.Tryz.Kn
end
section
namespace Go.Proofs.Tryz.Kn
open Go Go.CE Go.PE
section
variable {o:Org} {r:Reg} (F:Zt o r)
theorem zvo(key:Int)(x14:List DV)(ds:Sl Zp)(hx:atD x14 2=enL 2 enD ds)(hrk:∀d∈ds.els,0≤d.rank∧d.rank<(o.ranks.els.length:Int)):∀(l:List Zp) (i:Nat) (v:Sl Ze),ds.els.drop i=l→v.els.length+l.length≤1000→i+l.length≤1000→
  ∃v',zB (zh1 (I6 (ds.els.length:Int)) x14 (I6 key) (enL 6 enR o.ranks)) [I6 (i:Int)] [ocL zX v]=some (.exit 4,[],[ocL zX v'])∧v'.els=v.els++l.filterMap (qp o.ranks.els key):=by
 intro l
 induction l with
 |nil=>intro i v h _ _;refine⟨v,zl ?_,by simp⟩;simp only[zh1,zi,zp,zc,zb,yK (zH h),zg];rfl
 |cons d l ih=>
  intro i v h hv hi;simp only[Yzg]at hv hi;have h1:=zZ h;obtain⟨r0,r1⟩:=hrk d (Lz3 (zJ h));obtain⟨n,hn⟩:∃n:Nat,d.rank=(n:Int):=⟨d.rank.toNat,by omega⟩;obtain⟨k,hk⟩:∃k,o.ranks.els[n]? = some k:=⟨_,Lz5 (by omega)⟩;have ea:zf .add (I6 (i:Int)) (I6 1)=some (I6 ((i+1:Nat):Int)):=yf;have iv:yy 6 (enL 6 enR o.ranks) (I6 d.rank)=some (enR k):=by rw[hn,yb,hk];rfl
  have a4:atD (enR k) 4=I6 k.first:=rfl
  have a5:atD (enR k) 5=enL 1 enW k.wind:=rfl;have e1:zf .add (I6 key) (I6 d.shift)=some (I6 (wI .i64 (key+d.shift))):=rfl;have e2:zf .sub (I6 (wI .i64 (key+d.shift))) (I6 k.first)=some (I6 (numOf k d key)):=rfl;have ef:fits 16 (v.els.length+1)=true:=yM (by decide) (by omega);have hpo:qp o.ranks.els key d=if 0≤numOf k d key∧numOf k d key<(k.wind.els.length:Int) then some ⟨d.rank,numOf k d key⟩ else none:=by unfold qp;rw[Yzb (by omega),hn,Yzp,hk]
  obtain⟨v1,b1',b2⟩:=zco (f:=zX) v [⟨d.rank,numOf k d key⟩];have b1':(some (v.els.map zX++[[I6 d.rank,I6 (numOf k d key)]]):OC)=ocL zX v1:=by rw[←b1'];show _=some (zM (ocL zX v)++_);rw[zU];rfl
  have body:zh1 (I6 (ds.els.length:Int)) x14 (I6 key) (enL 6 enR o.ranks) [I6 (i:Int)] [ocL zX v]=some (.normal,[I6 ((i+1:Nat):Int)],[ocL zX (if 0≤numOf k d key∧numOf k d key<(k.wind.els.length:Int) then v1 else v)]):=by
   simp only[zh1,zi,zp,hx,zc,zb,x4 h1,zg,if_true,zO h,enD,yE,xc,e1,iv,a4,e2,xQ,Yzn,a5,zA,zY,zU,ef,yF,ea,b1'];by_cases q1:0≤numOf k d key
   ·by_cases q2:numOf k d key<(k.wind.els.length:Int)<;>simp[q1,q2]
   ·simp[q1]
  obtain⟨v',g1,g2⟩:=ih (i+1) (if 0≤numOf k d key∧numOf k d key<(k.wind.els.length:Int) then v1 else v) (zw h) (by split<;>(try rw[b2])<;>(try simp only[Yzk,Yzg,Yzx])<;>omega) (by omega);refine⟨v',by rw[zx body,g1],?_⟩;rw[g2,Yyg,hpo];by_cases hq:0≤numOf k d key∧numOf k d key<(k.wind.els.length:Int)
  ·rw[Yze hq,Yze hq,b2];simp
  ·rw[Yzb hq,Yzb hq]
include F
theorem zvm(n:Nat)(d:Zj)(s:Int)(j:Nat)(t:Zr)(hd:o.divs.els[n]? = some d)(hs:r.stops.els[n]? = some s)(ht:d.stops.els[j]? = some t)(key:Int):∀(l:List Seg) (i:Nat) (v:Sl Ze),t.segs.els.drop i=l→v.els.length+2*l.length≤1000→
  ∃v',zB (zh2 (I6 (t.segs.els.length:Int)) (xe t) (enL 1 enU r.stops) (I6 (n:Int)) [I6 (j:Int)] (I6 key) (enL 6 enR o.ranks)) [I6 (i:Int)] [ocL zX v]=some (.exit 2,[],[ocL zX v'])∧v'.els.length≤v.els.length+2*l.length∧
   ∀y,y∈v'.els↔y∈v.els∨(bit s j=true∧∃g∈l,xK key g=true∧y∈wM o.ranks.els key g.draws.els):=by
 have hdm:=Lz3 hd;have htm:=Lz3 ht;have hsl:=F.sl d hdm;have hjl:=(Lz0.1 ht).1;obtain⟨q1,q2,_⟩:=F.seg d hdm t htm;intro l
 induction l with
 |nil=>intro i v h _;refine⟨v,zl ?_,by simp,fun y=>by simp⟩;simp only[zh2,zi,zp,zc,zb,yK (zH h),zg];rfl
 |cons g l ih=>
  intro i v h hv;simp only[Yzg]at hv;have h1:=zZ h;have hgm:=Lz3 (zJ h);obtain⟨p1,p2⟩:=q2 g hgm;have ea:zf .add (I6 (i:Int)) (I6 1)=some (I6 ((i+1:Nat):Int)):=yf;have ec:yi .u64 (I6 (j:Int))=some (U64 (j:Int)):=jx (by omega);have is:yy 1 (enL 1 enU r.stops) (I6 (n:Int))=some [U64 s]:=by rw[yb,hs];rfl
  have i3:atD (xe t) 3=enL 3 enS t.segs:=rfl;have a0:atD (enS g) 0=I6 g.lo:=rfl;have a1:atD (enS g) 1=I6 g.hi:=rfl;have a2:atD (enS g) 2=enL 2 enD g.draws:=rfl;have ix:yy 3 (enL 3 enS t.segs) (I6 (i:Int))=some (enS g):=by rw[yb,zJ h];rfl
  obtain⟨v1,c1,c2⟩:=zvo (o:=o) key (enS g) g.draws a2 p2 g.draws.els 0 v rfl (by omega) (by omega);have hcov:xK key g=(decide (g.lo≤key)&&decide (key≤g.hi)):=rfl;have body:zh2 (I6 (t.segs.els.length:Int)) (xe t) (enL 1 enU r.stops) (I6 (n:Int)) [I6 (j:Int)] (I6 key) (enL 6 enR o.ranks) [I6 (i:Int)] [ocL zX v]=some (.normal,[I6 ((i+1:Nat):Int)],[ocL zX (if bit s j=true∧xK key g=true then v1 else v)]):=by
   simp only[zh2,zi,zp,zc,zb,x4 h1,zg,if_true,i3,ix,is,ec,yE,zcb,yT,zdW,zqr,a0,a1,a2,zA,yP,Yzn];cases hb:bit s j with
   |false=>simp[ea]
   |true=>
    simp only[Yzw,Yzc,if_false,hcov,LzC,Yzn,true_and];by_cases k1:key<g.lo
    ·rw[Yze k1,Yzb (by omega)];simp[ea]
    ·rw[Yzb k1];by_cases k2:g.hi<key
     ·rw[Yze k2,Yzb (by omega)];simp[ea]
     ·rw[Yzb k2,Yze (by omega)];rw[show (I6 0:DV)=I6 ((0:Nat):Int) from rfl,c1];simp only[zt,Yzj,Yza,ea,zb,zp]
  have hlen:(if bit s j=true∧xK key g=true then v1 else v).els.length≤v.els.length+2:=by
   split
   ·rw[c2,Yzk];have:=List.length_filterMap_le (qp o.ranks.els key) g.draws.els;omega
   ·omega
  obtain⟨v',g1,g2,g3⟩:=ih (i+1) (if bit s j=true∧xK key g=true then v1 else v) (zw h) (by omega);refine⟨v',by rw[zx body,g1],by rw[Yzg];omega,fun y=>(g3 y).trans ?_⟩;by_cases hq:bit s j=true∧xK key g=true
  ·rw[Yze hq,c2,YzI]
   constructor
   ·rintro ((h|h)|⟨h,z,hz,h'⟩)
    ·exact .inl h
    ·exact .inr ⟨hq.1,g,Yzh ..,hq.2,h⟩
    ·exact .inr ⟨h,z,Yzf _ hz,h'⟩
   ·rintro (h|⟨h,z,hz,h',h''⟩)
    ·exact .inl (.inl h)
    ·rcases YzA.1 hz with e|hz
     ·rw[e]at h'';exact .inl (.inr h'')
     ·exact .inr ⟨h,z,hz,h',h''⟩
  ·rw[Yzb hq]
   constructor
   ·rintro (h|⟨h,z,hz,h'⟩)
    ·exact .inl h
    ·exact .inr ⟨h,z,Yzf _ hz,h'⟩
   ·rintro (h|⟨h,z,hz,h',h''⟩)
    ·exact .inl h
    ·rcases YzA.1 hz with e|hz
     ·rw[e]at h';exact absurd ⟨h,h'⟩ hq
     ·exact .inr ⟨h,z,hz,h',h''⟩
theorem zst(n:Nat)(d:Zj)(s:Int)(hd:o.divs.els[n]? = some d)(hs:r.stops.els[n]? = some s)(key:Int):∀(l:List Zr) (j:Nat) (v:Sl Ze),d.stops.els.drop j=l→v.els.length+4*l.length≤1000→
  ∃v',zB (zqP (I6 (d.stops.els.length:Int)) (enV d) (enL 1 enU r.stops) (I6 (n:Int)) (I6 key) (enL 6 enR o.ranks)) [I6 (j:Int)] [ocL zX v]=some (.exit 0,[],[ocL zX v'])∧v'.els.length≤v.els.length+4*l.length∧
   ∀y,y∈v'.els↔y∈v.els∨∃(q:Nat) (t:Zr),l[q]? = some t∧bit s (j+q)=true∧∃g∈t.segs.els,xK key g=true∧y∈wM o.ranks.els key g.draws.els:=by
 have hdm:=Lz3 hd;intro l
 induction l with
 |nil=>intro j v h _;refine⟨v,zl ?_,by simp,fun y=>by simp⟩;simp only[zqP,zi,zp,zc,zb,yK (zH h),zg];rfl
 |cons t l ih=>
  intro j v h hv;simp only[Yzg]at hv;have h1:=zZ h;have htm:=Lz3 (zJ h);obtain⟨q1,_⟩:=F.seg d hdm t htm;have ea:zf .add (I6 (j:Int)) (I6 1)=some (I6 ((j+1:Nat):Int)):=by have:=F.sl d hdm;exact yf
  have i4:atD (enV d) 4=enL 4 xe d.stops:=rfl;have ix:yy 4 (enL 4 xe d.stops) (I6 (j:Int))=some (xe t):=by rw[yb,zJ h];rfl
  have i3:atD (xe t) 3=enL 3 enS t.segs:=rfl;obtain⟨v1,c1,c2,c3⟩:=zvm F n d s j t hd hs (zJ h) key t.segs.els 0 v rfl (by omega);have body:zqP (I6 (d.stops.els.length:Int)) (enV d) (enL 1 enU r.stops) (I6 (n:Int)) (I6 key) (enL 6 enR o.ranks) [I6 (j:Int)] [ocL zX v]=some (.normal,[I6 ((j+1:Nat):Int)],[ocL zX v1]):=by simp only[zqP,zi,zp,zc,zb,x4 h1,zg,if_true,i4,ix,i3,zA];rw[show (I6 0:DV)=I6 ((0:Nat):Int) from rfl,c1];simp only[zt,Yzj,Yza,ea,zb,zp]
  obtain⟨v',g1,g2,g3⟩:=ih (j+1) v1 (zw h) (by omega);refine⟨v',by rw[zx body,g1],by rw[Yzg];omega,fun y=>(g3 y).trans ?_⟩;rw[c3 y]
  constructor
  ·rintro ((h|⟨h,h'⟩)|⟨q,z,hz,h',h''⟩)
   ·exact .inl h
   ·exact .inr ⟨0,t,rfl,h,h'⟩
   ·exact .inr ⟨q+1,z,by simpa using hz,by rw[show j+(q+1)=j+1+q by omega];exact h',h''⟩
  ·rintro (h|⟨q,z,hz,h',h''⟩)
   ·exact .inl (.inl h)
   ·cases q with
    |zero=>simp only[Yzi,Option.some.injEq]at hz;subst hz;exact .inl (.inr ⟨h',h''⟩)
    |succ q=>exact .inr ⟨q,z,by simpa using hz,by rw[show j+1+q=j+(q+1) by omega];exact h',h''⟩
theorem t62(k:Nat)(c:y5)(hc:inR o c=true):∃v:Sl Ze,D (k+1) 62 [SA (enO o),SA (ym r),SA [I6 c.rank,I6 c.num]]=some (S1 (enL 2 zX v))∧v.els.length≤12∧∀y,y∈v.els↔zdJ o r c.rank.toNat c.num y:=by
 obtain⟨n,d,hn,hd,_,_⟩:=xR.1 hc;have hnl:=(Lz0.1 hd).1;have hdm:=Lz3 hd;have hrl:=F.rl;have hsl:=F.sl d hdm;obtain⟨s,hs⟩:∃s,r.stops.els[n]? = some s:=⟨_,Lz5 (by omega)⟩;obtain⟨v,c1,c2,c3⟩:=zst F n d s hd hs c.num d.stops.els 0 none rfl (by simp;omega);have hm:∀y,y∈v.els↔zdJ o r c.rank.toNat c.num y:=fun y=>(c3 y).trans (by
  rw[hn,Yzp];simp only[qb,Yzs,false_or,Yzm]
  constructor
  ·rintro⟨q,t,h1,h2,g,hg,h3,h4⟩
   have:=(F.seg d hdm t (Lz3 h1)).2.2 c.num g hg h3;exact⟨d,s,q,t,hd,hs,h1,h2,by rw[←this];exact h4⟩
  ·rintro⟨d',s',q,t,e1,e2,h1,h2,h4⟩
   rw[hd]at e1;cases e1;rw[hs]at e2;cases e2;refine⟨q,t,h1,h2,uO t c.num,?_,?_,h4⟩
   ·unfold uO at h4 ⊢;cases hf:t.segs.els.find? (xK c.num) with
    |none=>rw[hf]at h4;simp[wM,zcr]at h4
    |some g=>exact List.mem_of_find?_eq_some hf
   ·unfold uO at h4 ⊢;cases hf:t.segs.els.find? (xK c.num) with
    |none=>rw[hf]at h4;simp[wM,zcr]at h4
    |some g=>exact List.find?_some hf)
 obtain⟨w,u,f1,f2,f3,f4⟩:=zb8 v (by simp at c2;omega) fun p hp=>by obtain⟨d',s',j,t,_,_,_,_,h⟩:=(hm p).1 hp;exact F.sml _ _ p h
 have hul:u.els.length≤v.els.length:=j8 f2 fun z hz=>(f3 z).1 hz;refine⟨u,?_,by simp at c2;omega,fun y=>(f3 y).trans (hm y)⟩;have iv:yy 5 (enL 5 enV o.divs) (I6 c.rank)=some (enV d):=by rw[hn,yb,hd];rfl
 have i4:atD (enV d) 4=enL 4 xe d.stops:=rfl;unfold enO ym;rw[D62];unfold P62;simp only[iv,zb,i4,zA];rw[hn,show (I6 0:DV)=I6 ((0:Nat):Int) from rfl,show (none:OC)=ocL zX none from rfl,c1];simp only[zt,Yzj,Yza,zp,f1,zb,xj,zc,zg,Yzn,show zud=jH from rfl];rcases f4 with⟨q1,q2⟩|⟨q1,q2⟩
 ·have:((xt w:Nat):Int)<2:=by omega
  rw[Yze this,q2]
 ·have:¬((xt w:Nat):Int)<2:=by omega
  rw[Yzb this];rcases q2 with q2|q2
  ·rw[q2];simp only[zt,Yzj,Yza,zp,yX]
  ·rw[q2];simp only[uj,zi]
theorem zsu(k:Nat)(S:Sl y5)(hS:∀y∈S.els,inR o y=true)(hl:S.els.length≤27):∀(l:List y5) (i:Nat) (v:Sl Ze),S.els.drop i=l→v.els.length+12*l.length≤1000→
  ∃v',zB (zqY (D (k+1)) (I6 (S.els.length:Int)) (enL 2 zX S) (St o.name) (enL 6 enR o.ranks) (enL 5 enV o.divs) (enL 5 enC o.cpls) (enL 1 enU r.stops) (U64 r.cpls) (U64 r.off)) [I6 (i:Int)] [ocL zX v]=some (.exit 0,[],[ocL zX v'])∧v'.els.length≤v.els.length+12*l.length∧
   ∀y,y∈v'.els↔y∈v.els∨∃c∈l,zdJ o r c.rank.toNat c.num y:=by
 intro l
 induction l with
 |nil=>intro i v h _;refine⟨v,zl ?_,by simp,fun y=>by simp⟩;simp only[zqY,zi,zp,zc,zb,yK (zH h),zg];rfl
 |cons c l ih=>
  intro i v h hv;simp only[Yzg]at hv;have h1:=zZ h;obtain⟨w,c1,c2,c3⟩:=t62 F k c (hS c (Lz3 (zJ h)));unfold enO ym at c1;have ea:zf .add (I6 (i:Int)) (I6 1)=some (I6 ((i+1:Nat):Int)):=yf;obtain⟨v1,b1',b2⟩:=zco (f:=zX) v w.els;have ef:fits 16 (v.els.length+w.els.length)=true:=yM (by decide) (by omega);have ix:yy 2 (enL 2 zX S) (I6 (i:Int))=some [I6 c.rank,I6 c.num]:=zO h .i64;have body:zqY (D (k+1)) (I6 (S.els.length:Int)) (enL 2 zX S) (St o.name) (enL 6 enR o.ranks) (enL 5 enV o.divs) (enL 5 enC o.cpls) (enL 1 enU r.stops) (U64 r.cpls) (U64 r.off) [I6 (i:Int)] [ocL zX v]=some (.normal,[I6 ((i+1:Nat):Int)],[ocL zX v1]):=by simp only[zqY,zi,zp,zc,zb,x4 h1,zg,if_true,ix,yE,xc,c1,zR,vX,zY,Yzq,ef,yF,ea,b1']
  obtain⟨v',q1,q2,q3⟩:=ih (i+1) v1 (zw h) (by rw[b2,Yzk];omega);refine⟨v',by rw[zx body,q1],by rw[b2,Yzk]at q2;simp only[Yzg];omega,fun y=>(q3 y).trans ?_⟩;rw[b2,YzI,c3 y]
  constructor
  ·rintro ((h|h)|⟨z,hz,h⟩)
   ·exact .inl h
   ·exact .inr ⟨c,Yzh ..,h⟩
   ·exact .inr ⟨z,Yzf _ hz,h⟩
  ·rintro (h|⟨z,hz,hdz⟩)
   ·exact .inl (.inl h)
   ·rcases YzA.1 hz with e|hz
    ·rw[e]at hdz;exact .inl (.inr hdz)
    ·exact .inr ⟨z,hz,hdz⟩
theorem t17(k:Nat)(n:Nat)(key:Int)(hc:inR o ⟨(n:Int),key⟩=true):∃v:Sl Ze,D (k+6) 17 [SA (enO o),SA (ym r),SA [I6 (n:Int),I6 key]]=some (S1 (enL 2 zX v))∧wp o r n key v:=by
 have ca:=t39 F (k+3) ⟨(n:Int),key⟩ hc;obtain⟨S,s1,s2,s3,s4⟩:=t61 F (k+1) ⟨(n:Int),key⟩ hc;obtain⟨v,c1,c2,c3⟩:=zsu F (k+3) S s4 s2 S.els 0 none rfl (by simp;omega);have hm:∀y,y∈v.els↔zdY o r ⟨(n:Int),key⟩ y:=fun y=>(c3 y).trans (by
  simp only[qb,Yzs,false_or]
  constructor
  ·rintro⟨c,hc,h⟩;exact⟨c,(s3 c).1 hc,h⟩
  ·rintro⟨c,hc,h⟩;exact⟨c,(s3 c).2 hc,h⟩)
 obtain⟨w,u,f1,f2,f3,f4⟩:=zb8 v (by simp at c2;omega) fun p hp=>by obtain⟨c',_,d',s',j,t,_,_,_,_,h⟩:=(hm p).1 hp;exact F.sml _ _ p h
 have hul:u.els.length≤v.els.length:=j8 f2 fun z hz=>(f3 z).1 hz;refine⟨u,?_,by simp at c2;omega,f2,fun y=>(f3 y).trans (hm y)⟩;unfold enO at ca s1;unfold ym at s1;unfold enO ym;rw[D17];unfold P17;simp only[ca,zR];rw[D38];unfold P38;simp only[s1,zR,zA,zb];rw[show (I6 0:DV)=I6 ((0:Nat):Int) from rfl,show (none:OC)=ocL zX none from rfl,c1];simp only[zt,Yzj,Yza,zp,f1,zb,xj,zc,zg,Yzn,show zue=jH from rfl];rcases f4 with⟨q1,q2⟩|⟨q1,q2⟩
 ·have:((xt w:Nat):Int)<2:=by omega
  rw[Yze this,q2];rfl
 ·have:¬((xt w:Nat):Int)<2:=by omega
  rw[Yzb this];rcases q2 with q2|q2
  ·rw[q2];simp only[zt,Yzj,Yza,zp,yX];rfl
  ·rw[q2];simp only[uj,zi];rfl
end
end Go.Proofs.Tryz.Kn
end
section
namespace Go.Proofs.Tryz.Kn
open Go Go.CE Go.PE
def zxg(n m:Int)(g:Seg):Prop:=g.draws.els.length≤2∧∀x∈g.draws.els,x.rank=n∨x.rank=m
theorem zmi(low high n sh m sh2 a:Int)(kd:Nat):(∃g,yZ low high n sh m sh2 a kd=[g]∧zxg n m g)∨(∃g h,yZ low high n sh m sh2 a kd=[g,h]∧zxg n m g∧zxg n m h∧g.hi<h.lo):=by
 unfold yZ zxg;split
 ·exact .inl ⟨_,rfl,by simp,by simp⟩
 ·split
  ·exact .inr ⟨_,_,rfl,⟨by simp,by simp⟩,⟨by simp,by simp⟩,by show a-1<a;omega⟩
  ·exact .inl ⟨_,rfl,by simp,by simp⟩
 ·split
  ·exact .inr ⟨_,_,rfl,⟨by simp,by simp⟩,⟨by simp,by simp⟩,by show a-1<a;omega⟩
  ·exact .inl ⟨_,rfl,by simp,by simp⟩
 ·exact .inl ⟨_,rfl,by simp,by simp⟩
 ·exact .inl ⟨_,rfl,by simp,by simp⟩
theorem zrR(rs:List Zk)(hl:0<rs.length)(low high:Int)(i:Nat)(x:Pul):(vz rs low high i x).segs.els.length≤2∧(∀g∈(vz rs low high i x).segs.els,g.draws.els.length≤2∧∀y∈g.draws.els,0≤y.rank∧y.rank<(rs.length:Int))∧∀key,∀g∈(vz rs low high i x).segs.els,xK key g=true→g=uO (vz rs low high i x) key:=by
 have hn:=YzO x.rank hl;have hm:=YzO (x.rank % rs.length+1) hl;have hr:∀g,zxg ((x.rank % rs.length:Nat):Int) (((x.rank % rs.length+1) % rs.length:Nat):Int) g→g.draws.els.length≤2∧∀y∈g.draws.els,0≤y.rank∧y.rank<(rs.length:Int):=fun g h=>⟨h.1,fun y hy=>by rcases h.2 y hy with e|e<;>rw[e]<;>omega⟩
 unfold uO;show (yZ _ _ _ _ _ _ _ _).length≤2∧(∀g∈yZ _ _ _ _ _ _ _ _,_)∧∀key,∀g∈yZ _ _ _ _ _ _ _ _,xK key g=true→g=((yZ _ _ _ _ _ _ _ _).find? (xK key)).getD zcr;rcases zmi low high ((x.rank % rs.length:Nat):Int) (shf (fB x.feet) (rkF (zef rs (x.rank % rs.length)))) (((x.rank % rs.length+1) % rs.length:Nat):Int)
  (shf (fB x.feet) (rkF (zef rs ((x.rank % rs.length+1) % rs.length)))) (low+((x.at_:Int).tmod (high-low+1))) (x.kind % 6) with⟨g,e,h⟩|⟨g,h,e,hg,hh,hlt⟩
 ·rw[e];refine⟨by simp,fun z hz=>?_,fun key z hz hc=>?_⟩
  ·rw[YzF]at hz;rw[hz];exact hr g h
  ·rw[YzF]at hz;subst hz;rw[Yyp hc];rfl
 ·rw[e];refine⟨by simp,fun z hz=>?_,fun key z hz hc=>?_⟩
  ·simp only[YzA,Yzs,or_false]at hz;rcases hz with rfl|rfl
   ·exact hr _ hg
   ·exact hr _ hh
  ·simp only[YzA,Yzs,or_false]at hz;rcases hz with rfl|rfl
   ·rw[Yyp hc];rfl
   ·have:xK key g=false:=by
     unfold xK at hc ⊢;simp only[LzC,Yzn]at hc;rw[decide_eq_false (show ¬key≤g.hi by omega),Bool.and_false]
    rw[List.find?_cons_of_neg (by rw[this];simp),Yyp hc];rfl
theorem zyv(p:Pln)(hf:zdh p=true)(b:Nat→Nat):Zt (za7 p) (qc (za7 p) b):=by
 obtain⟨f1,f2,f3,f4,f5,f6⟩:=uW hf;have hdv:(za7 p).divs.els=vA (wz 0 p.ranks.els) 0 p.divs.els:=by unfold za7;simp only[zn]
 have hrk:(za7 p).ranks.els=wz 0 p.ranks.els:=by unfold za7;simp only[zn]
 refine⟨zA7 p hf b,fun d hd=>?_,fun d hd s hs=>?_⟩
 ·rw[hdv]at hd;obtain⟨j,b,_,rfl⟩:=uS hd;have q1:=zc3 b;have q2:=zat b;show ki b≤60;omega
 ·rw[hdv]at hd;obtain⟨j,b,_,rfl⟩:=uS hd;have hs:s∈(grow (wn (wz 0 p.ranks.els) (zdM b) (ki b) 0 b.stops.els)).els:=hs;rw[zn]at hs;obtain⟨i,x,rfl⟩:=qH hs;rw[hrk];exact zrR _ (by rw[uR];omega) _ _ _ _
section
variable {o:Org} {r:Reg} (F:Zt o r) {T:List (List (Sl Ze))} (hT:T.length=o.divs.els.length) (H:Rows o (wp o r) T)
include F H
end
end Go.Proofs.Tryz.Kn
end
section
namespace Go.Proofs.Tryz.Kn
open Go Go.CE Go.PE
def zmc(n:Nat)(low:Int):Nat→Nat→List y5
 |_,0=>[]
 |i,m+1=>⟨(n:Int),low+(i:Int)⟩::zmc n low (i+1) m
def zbw:Nat→List Zj→List y5
 |_,[]=>[]
 |n,d::l=>zmc n d.low 0 (d.high-d.low+1).toNat++zbw (n+1) l
def zjU(o:Org):List y5:=zbw 0 o.divs.els
noncomputable def zta(Q:y5→Prop)(c:y5):Bool:=!@decide (Q c) (Classical.propDecidable _)
theorem zt6{Q:y5→Prop}{c:y5}(h:Q c):zta Q c=false:=by unfold zta;rw[@decide_eq_true _ (Classical.propDecidable _) h];rfl
theorem zt5{Q:y5→Prop}{c:y5}(h:¬Q c):zta Q c=true:=by unfold zta;rw[@decide_eq_false _ (Classical.propDecidable _) h];rfl
noncomputable def fbQ(o:Org)(Q:y5→Prop):Option y5:=(zjU o).find? (zta Q)
def zxM:Option y5→y5
 |none=>⟨0,0⟩
 |some c=>c
theorem zhR{H:Sl Ze→Sl Ze→Bool}{Q:y5→Prop}(n:Nat)(low:Int):∀(x y:List (Sl Ze)) (i:Nat),x.length=y.length→(∀(j:Nat) (u v:Sl Ze),x[j]? = some u→y[j]? = some v→(H u v=true↔Q ⟨(n:Int),low+((i+j:Nat):Int)⟩))→
  (zlC H i x y).map (fun j:Nat=>(⟨(n:Int),low+(j:Int)⟩:y5))=(zmc n low i x.length).find? (zta Q)
 | [],[],i,_,_=>rfl
 |u::x,v::y,i,hl,h=>by
  have h0:=h 0 u v rfl rfl;rw[YzH]at h0;have ih:=zhR (H:=H) (Q:=Q) n low x y (i+1) (by simpa using hl) fun j a b h1 h2=>by
   have:=h (j+1) a b (by simpa using h1) (by simpa using h2)
   rwa [show i+(j+1)=i+1+j by omega]at this
  rw[Yzg,zmc];unfold zlC;by_cases hc:H u v=true
  ·rw[Yze hc,List.find?_cons_of_neg (by rw[zt6 (h0.1 hc)];simp),ih]
  ·rw[Yzb hc,Yyp (zt5 fun q=>hc (h0.2 q))];rfl
section
variable {o:Org} {r s:Reg}
theorem zhP{A B:List (List (Sl Ze))}(F:Fit o r)(HA:Rows o (wp o r) A)(HB:Rows o (wp o s) B){H:Sl Ze→Sl Ze→Bool}{Q:y5→Prop}
  (hq:∀(n:Nat) (key:Int) (x y:Sl Ze),wp o r n key x→wp o s n key y→(H x y=true↔Q ⟨(n:Int),key⟩)):∀(l:List Zj) (a b:List (List (Sl Ze))) (n:Nat),o.divs.els.drop n=l→A.drop n=a→B.drop n=b→a.length=l.length→b.length=l.length→
  (zeV H n a b).map (fun p=>spot o (some p))=(zbw n l).find? (zta Q)
 | [],a,b,n,_,_,_,ha,hb=>by have ha:a=[]:=List.eq_nil_of_length_eq_zero ha;subst ha;unfold zeV zbw;rfl
 |d::l,[],b,n,_,_,_,ha,_=>by simp at ha
 |d::l,x::a,[],n,_,_,_,_,hb=>by simp at hb
 |d::l,x::a,y::b,n,hd,hA,hB,ha,hb=>by
  have g:=zJ hd;obtain⟨q1,q2⟩:=HA.row n d x g (zJ hA);obtain⟨p1,p2⟩:=HB.row n d y g (zJ hB);have hr:=F.rng d (Lz3 g);have ih:=zhP F HA HB hq l a b (n+1) (zw hd) (zw hA) (zw hB) (by simpa using ha) (by simpa using hb);have ir:=zhR (H:=H) (Q:=Q) n d.low x y 0 (by omega) fun j u v h1 h2=>by
   have:=hq n _ u v (q2 j u h1) (p2 j v h2)
   rwa [show (0+j:Nat)=j by omega]
  have hx:x.length=(d.high-d.low+1).toNat:=by omega
  have hlow:zfI o n=d.low:=by unfold zfI;rw[g]
  unfold zbw;rw[List.find?_append,←hx,←ir,←ih,show zeV H n (x::a) (y::b)=(match zlC H 0 x y with|some i=>some (n,i)|none=>zeV H (n+1) a b) from rfl];cases zlC H 0 x y with
  |some j=>simp[spot,hlow]
  |none=>rfl
theorem zuB{A B:List (List (Sl Ze))}(F:Fit o r)(ha:A.length=o.divs.els.length)(hb:B.length=o.divs.els.length)(HA:Rows o (wp o r) A)(HB:Rows o (wp o s) B){H:Sl Ze→Sl Ze→Bool}{Q:y5→Prop}
  (hq:∀(n:Nat) (key:Int) (x y:Sl Ze),wp o r n key x→wp o s n key y→(H x y=true↔Q ⟨(n:Int),key⟩)):spot o (zeV H 0 A B)=zxM (fbQ o Q)∧(zeV H 0 A B).isNone=(fbQ o Q).isNone:=by
 have h:=zhP F HA HB hq o.divs.els A B 0 rfl rfl rfl ha hb;unfold fbQ zjU;rw[←h];cases zeV H 0 A B with
 |none=>exact⟨rfl,rfl⟩
 |some p=>exact⟨rfl,rfl⟩
end
section
variable {o:Org} {r s:Reg} (F:Zt o r) (G:Zt o s)
include F in
theorem zvp(n:Nat)(d:Zj)(hd:o.divs.els[n]? = some d):∀(m i:Nat) (acc:List y5),d.low+(i:Int)+(m:Int)=d.high+1→acc.length+m≤1000→
  zB (zqW (enV d) [I6 (n:Int)]) [I6 (d.low+(i:Int))] [ocL zX (grow acc)]=some (.exit 2,[],[ocL zX (grow (acc++zmc n d.low i m))]):=by
 have hr:=F.rng d (Lz3 hd);have a3:atD (enV d) 3=I6 d.high:=rfl;intro m
 induction m with
 |zero=>intro i acc hk _;have h1:decide (d.low+(i:Int)≤d.high)=false:=decide_eq_false (by omega);refine zl ?_;simp only[zqW,zi,zp,a3,xE,zb,h1,zg,Yzc,if_false,zmc,YzE]
 |succ m ih=>
  intro i acc hk ha;have h1:decide (d.low+(i:Int)≤d.high)=true:=decide_eq_true (by omega);have ea:zf .add (I6 (d.low+(i:Int))) (I6 1)=some (I6 (d.low+((i+1:Nat):Int))):=by rw[show d.low+((i+1:Nat):Int)=d.low+(i:Int)+1 by omega];exact yf
  have ef:fits 16 ((grow acc).els.length+1)=true:=yM (by decide) (by rw[zn];omega);have hp:(some ((grow acc).els.map zX++[[I6 (n:Int),I6 (d.low+(i:Int))]]):OC)=ocL zX (grow (acc++[⟨(n:Int),d.low+(i:Int)⟩])):=by rw[yw,←y0];rfl
  have body:zqW (enV d) [I6 (n:Int)] [I6 (d.low+(i:Int))] [ocL zX (grow acc)]=some (.normal,[I6 (d.low+((i+1:Nat):Int))],[ocL zX (grow (acc++[⟨(n:Int),d.low+(i:Int)⟩]))]):=by simp only[zqW,zi,zp,a3,xE,zb,h1,zg,if_true,zY,zU,ef,yF,ea,hp]
  rw[zx body,ih (i+1) _ (by omega) (by simp only[Yzk,Yzg,Yzx];omega),zmc];simp
include F in
theorem zvq:∀(l:List Zj) (n:Nat) (acc:List y5),o.divs.els.drop n=l→acc.length≤100*n→
  zB (zqX (I6 (o.divs.els.length:Int)) (enL 5 enV o.divs)) [I6 (n:Int)] [ocL zX (grow acc)]=some (.exit 0,[],[ocL zX (grow (acc++zbw n l))]):=by
 have hdl:=F.dl;have rlen:∀(n:Nat) (low:Int) (m i:Nat),(zmc n low i m).length=m:=by
  intro n low m
  induction m with
  |zero=>intro i;rfl
  |succ m ih=>intro i;rw[zmc,Yzg,ih]
 intro l
 induction l with
 |nil=>intro n acc h _;refine zl ?_;simp only[zqX,zi,zp,zc,zb,yK (zH h),zg,Yzc,if_false,zbw,YzE]
 |cons d l ih=>
  intro n acc h ha;have h1:=zZ h;have hd:=zJ h;have hr:=F.rng d (Lz3 hd);have lk:=zvp F n d hd (d.high-d.low+1).toNat 0 acc (by omega) (by omega);rw[show d.low+((0:Nat):Int)=d.low by omega]at lk;have iv:yy 5 (enL 5 enV o.divs) (I6 (n:Int))=some (enV d):=by rw[yb,hd];rfl
  have a2:atD (enV d) 2=I6 d.low:=rfl;have ea:zf .add (I6 (n:Int)) (I6 1)=some (I6 ((n+1:Nat):Int)):=yf;have body:zqX (I6 (o.divs.els.length:Int)) (enL 5 enV o.divs) [I6 (n:Int)] [ocL zX (grow acc)]=some (.normal,[I6 ((n+1:Nat):Int)],[ocL zX (grow (acc++zmc n d.low 0 (d.high-d.low+1).toNat))]):=by simp only[zqX,zi,zp,zc,zb,x4 h1,zg,if_true,iv,a2,lk,zt,Yzj,Yza,ea]
  rw[zx body,ih (n+1) _ (zw h) (by rw[Yzk,rlen];omega),zbw];simp
include F in
theorem t44(k:Nat):D (k+1) 44 [SA (enO o)]=some (S1 (enL 2 zX (grow (zjU o)))):=by have l:=zvq F o.divs.els 0 [] rfl (by simp);unfold enO;rw[D44];unfold P44;simp only[zA,zb];rw[show (I6 0:DV)=I6 ((0:Nat):Int) from rfl,show (none:OC)=ocL zX (grow []) from rfl,l];simp only[zt,Yzj,Yza,zp,yX,YzK];rfl
theorem zjT:∀(l:List Zj) (n:Nat),o.divs.els.drop n=l→∀c∈zbw n l,∃m:Nat,c.rank=(m:Int)∧inR o c=true
 | [],_,_,c,h=>by cases h
 |d::l,n,hd,c,h=>by
  unfold zbw at h;rcases YzI.1 h with h|h
  ·have hrow:∀(m i:Nat),∀c∈zmc n d.low i m,∃j:Nat,i≤j∧j<i+m∧c=⟨(n:Int),d.low+(j:Int)⟩:=by
    intro m
    induction m with
    |zero=>intro i c h;cases h
    |succ m ih=>
     intro i c h;rcases YzA.1 h with rfl|h
     ·exact⟨i,LzB _,by omega,rfl⟩
     ·obtain⟨j,h1,h2,h3⟩:=ih (i+1) c h;exact⟨j,by omega,by omega,h3⟩
   obtain⟨j,_,h2,rfl⟩:=hrow _ _ c h;exact⟨n,rfl,xR.2 ⟨n,d,rfl,zJ hd,by show d.low≤d.low+(j:Int);omega,by show d.low+(j:Int)≤d.high;omega⟩⟩
  ·exact zjT l (n+1) (zw hd) c h
include F G in
theorem zEy(k:Nat)(L:Sl y5)(hL:L.els.length≤1000)(hin:∀c∈L.els,∃m:Nat,c.rank=(m:Int)∧inR o c=true){f:DV}{H:Sl Ze→Sl Ze→Bool}{Q:y5→Prop}
  (hf:∀x y:Sl Ze,x.els.length≤1000→y.els.length≤1000→zeW (D (k+6)) f [S1 (enL 2 zX x),S1 (enL 2 zX y)]=some (S1 (Bo (H x y))))
  (hq:∀(n:Nat) (key:Int) (x y:Sl Ze),wp o r n key x→wp o s n key y→(H x y=true↔Q ⟨(n:Int),key⟩)):∀(l:List y5) (i:Nat),L.els.drop i=l→
  zB (zEw (D (k+6)) (I6 (L.els.length:Int)) (enL 2 zX L) (St o.name) (enL 6 enR o.ranks) (enL 5 enV o.divs) (enL 5 enC o.cpls) (enL 1 enU r.stops) (U64 r.cpls) (U64 r.off) (enL 1 enU s.stops) (U64 s.cpls) (U64 s.off) f) [I6 (i:Int),I6 0,I6 0] []=some (match l.find? (zta Q) with
   |none=>(.exit 0,[I6 0,I6 0],[])
   |some c=>(.ret,[Bo false,I6 c.rank,I6 c.num],[])):=by
 intro l
 induction l with
 |nil=>intro i h;refine zl ?_;simp only[zEw,zi,yU,zc,zb,yK (zH h),zg];rfl
 |cons c l ih=>
  intro i h;have h1:=zZ h;obtain⟨m,hm,hc⟩:=hin c (Lz3 (zJ h));have hcc:c=⟨(m:Int),c.num⟩:=Ze.eq hm rfl;rw[hcc]at hc;obtain⟨u,u1,u2⟩:=t17 F k m c.num hc;obtain⟨v,v1,v2⟩:=t17 G k m c.num hc;rw[←hm]at u1 v1;have hq:=hq m c.num u v u2 v2;rw[←hcc]at hq;have ha:=hf u v u2.1 v2.1;unfold enO ym at u1 v1;have ea:zf .add (I6 (i:Int)) (I6 1)=some (I6 ((i+1:Nat):Int)):=yf;have ix:yy 2 (enL 2 zX L) (I6 (i:Int))=some [I6 c.rank,I6 c.num]:=zO h .i64;have body:zEw (D (k+6)) (I6 (L.els.length:Int)) (enL 2 zX L) (St o.name) (enL 6 enR o.ranks) (enL 5 enV o.divs) (enL 5 enC o.cpls) (enL 1 enU r.stops) (U64 r.cpls) (U64 r.off) (enL 1 enU s.stops) (U64 s.cpls) (U64 s.off) f [I6 (i:Int),I6 0,I6 0] []=some (if H u v=true then(.normal,[I6 ((i+1:Nat):Int),I6 0,I6 0],[]) else(.ret,[Bo false,I6 c.rank,I6 c.num],[])):=by simp only[zEw,zi,yU,zc,zb,x4 h1,zg,if_true,ix,yE,xc,u1,v1,zR,ha,yI,ea];cases H u v<;>rfl
  by_cases hH:H u v=true
  ·rw[Yze hH]at body;rw[zx body,ih (i+1) (zw h),List.find?_cons_of_neg (by rw[zt6 (hq.1 hH)];simp)]
  ·rw[Yzb hH]at body;rw[zG body,Yyp (zt5 fun q=>hH (hq.2 q))]
include F G in
theorem t19(k:Nat){f:DV}{H:Sl Ze→Sl Ze→Bool}{Q:y5→Prop}
  (hf:∀x y:Sl Ze,x.els.length≤1000→y.els.length≤1000→zeW (D (k+6)) f [S1 (enL 2 zX x),S1 (enL 2 zX y)]=some (S1 (Bo (H x y))))
  (hq:∀(n:Nat) (key:Int) (x y:Sl Ze),wp o r n key x→wp o s n key y→(H x y=true↔Q ⟨(n:Int),key⟩)):
  D (k+7) 19 [SA (enO o),SA (ym r),SA (ym s),S1 f]=some (.tup [.agg [I6 (zxM (fbQ o Q)).rank,I6 (zxM (fbQ o Q)).num],.one (Bo (fbQ o Q).isNone)]):=by
 have ca:=t44 F (k+5);have hall:=zjT (o:=o) o.divs.els 0 rfl;have hlen:(zjU o).length≤1000:=by
  have rlen:∀(n:Nat) (low:Int) (m i:Nat),(zmc n low i m).length=m:=by
   intro n low m
   induction m with
   |zero=>intro i;rfl
   |succ m ih=>intro i;rw[zmc,Yzg,ih]
  have hg:∀(l:List Zj) (n:Nat),(∀d∈l,d∈o.divs.els)→(zbw n l).length≤9*l.length:=by
   intro l
   induction l with
   |nil=>intro n _;simp[zbw]
   |cons d l ih=>intro n h;have:=F.rng d (h d (Yzh ..));have:=ih (n+1) fun x hx=>h x (Yzf _ hx);rw[zbw,Yzk,rlen,Yzg];omega
  have:=hg o.divs.els 0 fun _ h=>h;have:=F.dl;unfold zjU;omega
 have l:=zEy F G k (grow (zjU o)) (by rw[zn];exact hlen) (by rw[zn];exact hall) hf hq (grow (zjU o)).els 0 rfl;unfold enO at ca;unfold enO ym;rw[D19];unfold P19;simp only[ca,zR,zA,zb];rw[zn]at l ⊢;rw[show (I6 0:DV)=I6 ((0:Nat):Int) from rfl]at l ⊢;rw[l];unfold fbQ;cases (zjU o).find? (zta Q) with
 |none=>rfl
 |some c=>rfl
end
theorem t20(k:Nat)(x y:Sl Ze)(hx:x.els.length≤1000)(hy:y.els.length≤1000):D (k+6) 20 [S1 (enL 2 zX x),S1 (enL 2 zX y)]=some (S1 (Bo (zEv x y))):=by
 have c11 (p:Ze):D (k+3) 45 [SA [I6 p.rank,I6 p.num],S1 (.fp [enL 2 zX y] 0)]=some (S1 (Bo (!decide (p∈y.els)))):=by have c:=t43 k p y (by omega);rw[D45];unfold P45;simp only[c,zR,yI,zb]
 have li:∀(r:List Ze) (i:Nat),x.els.drop i=r→
   zB (zEt (D (k+3)) (I6 (x.els.length:Int)) (enL 2 zX x) (.fn 45 [[enL 2 zX y]])) [I6 (i:Int)] []=some (found (y3 (fun z=>!decide (z∈y.els)) r i)):=by
  intro r
  induction r with
  |nil=>intro i h;refine zl ?_;simp only[zEt,zi,zc,zb,yK (zH h),zg];rfl
  |cons z r ih=>
   intro i h;have h1:=zZ h;have ea:zf .add (I6 (i:Int)) (I6 1)=some (I6 ((i+1:Nat):Int)):=yf;have c:zeW (D (k+3)) (.fn 45 [[enL 2 zX y]]) [SA [I6 z.rank,I6 z.num]]=some (S1 (Bo (!decide (z∈y.els)))):=c11 z;have body:zEt (D (k+3)) (I6 (x.els.length:Int)) (enL 2 zX x) (.fn 45 [[enL 2 zX y]]) [I6 (i:Int)] []=some (if z∈y.els then(.normal,[I6 ((i+1:Nat):Int)],[]) else(.ret,[I6 (i:Int)],[])):=by simp only[zEt,zi,zc,zb,x4 h1,zg,if_true,zO h,zX,yE,xc,c,zR,ea];by_cases hz:z∈y.els<;>simp[hz]
   by_cases hc:z∈y.els
   ·rw[Yze hc]at body;rw[zx body,ih (i+1) (zw h)];simp[y3,hc]
   ·rw[Yzb hc]at body;rw[zG body];simp[y3,hc,found]
 have cf:D (k+5) 41 [S1 (enL 2 zX x),S1 (.fn 45 [[enL 2 zX y]])]=some (S1 (Bo (x.els.any fun z=>!decide (z∈y.els)))):=by
  have c:=li x.els 0 rfl;rw[D41];unfold P41;rw[D65];unfold P65;simp only[zA,zb];rw[show (I6 0:DV)=I6 ((0:Nat):Int) from rfl,c,←vC (fun z=>!decide (z∈y.els)) x.els 0];cases y3 (fun z=>!decide (z∈y.els)) x.els 0 with
  |none=>rfl
  |some i=>
   have:(0:Int)≤(i:Int):=by omega
   simp[found,this]
 rw[D20];unfold P20;simp only[cf,b1s,zdO,Yza,yI,zb];rfl
theorem zEE{β:Type}(a b c:DV)(K:List DS→Option β):bT [some 2,none] (some (.tup [.agg [a,b],.one c])) K=K [.agg [a,b],.one c]:=rfl
theorem t5(k:Nat)(p:Pln)(hp:p.ok)(b1 b2:Nat→Nat)(hb1:∀i,b1 i<256)(hb2:∀i,b2 i<256):D (k+14) 5 [SA (zgf p),SA (enB b1),SA (enB b2)]=some (S1 (Bo true)):=by
 have kn:=D7 (k+13);have cf:=t8 (k+12) p hp;unfold zgf at cf ⊢;unfold enB;rw[D5];unfold P5;simp only[kn,zR,yI,zb,zg,Yzw,Yzc,if_false,cf];cases hf:zdh p with
 |false=>rfl
 |true=>
  have cm:=t9 (k+6) p hp hf;have ho:=zvh p hf;have h0:=zmz p hp hf;obtain⟨s1,s2,s3⟩:=zeu p hf;have F:=zyv p hf b1;have G:=zyv p hf b2;generalize za7 p=o at cm ho h0 s1 s2 s3 F G;have s2':∀d∈o.divs.els,d.stops.els.length≤60:=fun d hd=>by have:=s2 d hd;omega
  unfold zgf at cm;have d1:=t10 (k+12) o b1 hb1 (by omega) s2' (by omega);have d2:=t10 (k+12) o b2 hb2 (by omega) s2' (by omega);have e1:=zEq h0 b1 hb1 s1 s2 s3;have e2:=zEq h0 b2 hb2 s1 s2 s3;unfold enB at d1 d2;generalize qc o b1=r at d1 e1 F;generalize qc o b2=s at d2 e2 G;obtain⟨c1,q1,g1,_,A,B,hxA1,hxA2,hxA3,hxA4,hxA5,hxA6⟩:=x12 ho h0 F.toFit G.toFit e1 e2 (k+1);obtain⟨c2,q2,g2,_,A',B',hyA1,hyA2,hyA3,hyA4,hyA5,hyA6⟩:=x18 ho h0 F.toFit G.toFit e1 e2 (k+1);have hq1:∀(n:Nat) (key:Int) (x y:Sl Ze),wp o r n key x→wp o s n key y→(decide (x.els=y.els)=true↔(fun c=>∀z,zdY o r c z↔zdY o s c z) ⟨(n:Int),key⟩):=fun n key x y hx hy=>by rw[decide_eq_true_iff];exact zcz hx hy
  have hq2:∀(n:Nat) (key:Int) (x y:Sl Ze),wp o r n key x→wp o s n key y→(zEv x y=true↔(fun c=>∀z,zdY o r c z→zdY o s c z) ⟨(n:Int),key⟩):=fun n key x y hx hy=>zEu hx hy;obtain⟨u1,u2⟩:=zuB F.toFit hxA1 hxA2 hxA3 hxA4 (H:=fun x y=>decide (x.els=y.els)) (Q:=fun c=>∀z,zdY o r c z↔zdY o s c z) hq1;obtain⟨v1,v2⟩:=zuB F.toFit hyA1 hyA2 hyA3 hyA4 (H:=zEv) (Q:=fun c=>∀z,zdY o r c z→zdY o s c z) hq2;rw[←hxA5]at u1;rw[←hxA6]at u2;rw[←hyA5]at v1;rw[←hyA6]at v2;have f1:=t19 F G (k+6) (f:=.fn 16 []) (H:=fun x y=>decide (x.els=y.els)) (Q:=fun c=>∀z,zdY o r c z↔zdY o s c z) (fun x y hx _=>by show D (k+12) 16 [S1 (enL 2 zX x),S1 (enL 2 zX y)]=_;have c:=t37 (k+10) x y hx;rw[D16];unfold P16;rw[c];rfl) hq1
  have f2:=t19 F G (k+6) (f:=.fn 20 []) (H:=zEv) (Q:=fun c=>∀z,zdY o r c z→zdY o s c z) (fun x y hx hy=>t20 (k+6) x y hx hy) hq2;rw[←u1,←u2]at f1;rw[←v1,←v2]at f2;have ed (c:y5):zb1 [1,1] [I6 c.rank,I6 c.num] [I6 c.rank,I6 c.num]=some true:=by rw[zaH c c];simp
  have eb (b:Bool):eqD 0 (Bo b) (Bo b)=some true:=by cases b<;>rfl
  simp only[Yzw,Yzc,if_false,cm,zww,zt9,d1,d2,zqx,zqy,g1,g2,zEA,f1,f2,zEE,zeR,ztX,zbi,zp4,xF,YzD,zb,zg,if_true,eb,yE,xc,ed]
end Go.Proofs.Tryz.Kn
end
