/-
  Lemmas. No condition.
-/
import Derived.Test.YtfmceamccfhfcaaGreatDoorWm
set_option linter.unusedSimpArgs false
set_option linter.unusedVariables false
section
namespace Go.Proofs.Tryz.Kn
open Go Go.CE Go.PE
theorem zco{α:Type}{f:α→List DV}(v:Sl α)(l:List α):∃v':Sl α,zbU (ocL f v) (l.map f)=ocL f v'∧v'.els=v.els++l:=by
 cases l with
 |nil=>exact⟨v,rfl,by simp⟩
 |cons y l=>exact⟨some (v.els++y::l),by show some (zM (ocL f v)++_)=_;rw[zU,zr4,Yya];rfl,rfl⟩
theorem zx5{n:Nat}(h:n≤1000):mkN 24 (I6 (n:Int)) (I6 (n:Int))=some n:=by show (bif Nat.beq n n&&Nat.ble n 1073741824&&Nat.ble (24*n) 281474976710656 then some n else none)=some n;rw[Yzj,Yzl (show n≤1073741824 by omega),Yzl (show 24*n≤281474976710656 by omega)];rfl
def y9(v:Sl Ze):List DV:=[enL 2 zX v]
def yl(row:List (Sl Ze)):List DV:=[enL 1 y9 (grow row)]
def zdJ(o:Org)(r:Reg)(n:Nat)(key:Int)(y:Ze):Prop:=
 ∃(d:Zj) (s:Int) (j:Nat) (t:Zr),o.divs.els[n]? = some d∧r.stops.els[n]? = some s∧d.stops.els[j]? = some t∧bit s j=true∧y∈wM o.ranks.els key (uO t key).draws.els
def zjZ(o:Org)(r:Reg)(n:Nat)(key:Int)(v:Sl Ze):Prop:=v.els.length≤6∧∀y,y∈v.els↔zdJ o r n key y
def zdY(o:Org)(r:Reg)(c:y5)(y:Ze):Prop:=∃c',zeY o r c c'∧zdJ o r c'.rank.toNat c'.num y
def wp(o:Org)(r:Reg)(n:Nat)(key:Int)(v:Sl Ze):Prop:=v.els.length≤1000∧v.els.Pairwise ltP∧∀y,y∈v.els↔zdY o r ⟨(n:Int),key⟩ y
structure Rows (o:Org) (C:Nat→Int→Sl Ze→Prop) (T:List (List (Sl Ze))):Prop where
 row:∀(n:Nat) (d:Zj) (row:List (Sl Ze)),o.divs.els[n]? = some d→T[n]? = some row→(row.length:Int)=d.high-d.low+1∧∀(i:Nat) (v:Sl Ze),row[i]? = some v→C n (d.low+(i:Int)) v
section
variable {o:Org} {r:Reg} (F:Fit o r)
include F
theorem zmE(k n:Nat)(d:Zj)(s:Int)(hd:o.divs.els[n]? = some d)(hs:r.stops.els[n]? = some s)(key:Int):∀(l:List Zr) (j:Nat) (v:Sl Ze),d.stops.els.drop j=l→v.els.length+2*l.length≤1000→
  ∃v',zB (zdI (D (k+4)) (I6 (d.stops.els.length:Int)) (enV d) (enL 1 enU r.stops) [I6 (n:Int)] (enL 6 enR o.ranks) [I6 key]) [I6 (j:Int)] [ocL zX v]=some (.exit 4,[],[ocL zX v'])∧v'.els.length≤v.els.length+2*l.length∧
   ∀y,y∈v'.els↔y∈v.els∨∃(q:Nat) (t:Zr),l[q]? = some t∧bit s (j+q)=true∧y∈wM o.ranks.els key (uO t key).draws.els:=by
 have hdm:=Lz3 hd;intro l
 induction l with
 |nil=>intro j v h _;refine⟨v,zl ?_,by simp,fun y=>by simp⟩;simp only[zdI,zi,zp,zc,zb,yK (zH h),zg];rfl
 |cons t l ih=>
  intro j v h hv;simp only[Yzg]at hv;have h1:=zZ h;have htm:t∈d.stops.els:=Lz3 (zJ h);obtain⟨hok,hfew⟩:=F.stp d hdm t htm;have hsl:=F.sl d hdm;have ea:zf .add (I6 (j:Int)) (I6 1)=some (I6 ((j+1:Nat):Int)):=yf;have is:yy 1 (enL 1 enU r.stops) (I6 (n:Int))=some [U64 s]:=by rw[yb,hs];rfl
  have i4:atD (enV d) 4=enL 4 xe d.stops:=rfl;by_cases hb:bit s j=true
  ·obtain⟨w,c,w1,w2⟩:=t56 k o.ranks t hok key (by have:=hfew key;omega) fun y hy=>F.sml key _ y hy;unfold xe at c;have hwl:w.els.length≤2:=by
    have a1:=j8 w1 fun z hz=>(w2 z).1 hz;have a2:=List.length_filterMap_le (qp o.ranks.els key) (uO t key).draws.els;have a3:=hfew key;unfold wM at a1;omega
   obtain⟨v1,a1,a2⟩:=zco (f:=zX) v w.els;have ef:fits 16 (v.els.length+w.els.length)=true:=yM (by decide) (by omega);have body:zdI (D (k+4)) (I6 (d.stops.els.length:Int)) (enV d) (enL 1 enU r.stops) [I6 (n:Int)] (enL 6 enR o.ranks) [I6 key] [I6 (j:Int)] [ocL zX v]=some (.normal,[I6 ((j+1:Nat):Int)],[ocL zX v1]):=by have hb':=hb;unfold bit at hb';simp only[zdI,zi,zp,zc,zb,x4 h1,zg,if_true,i4,zO h,is,yE,xc,zcb,yT,zdW,hb',xe,c,zR,vX,zY,Yzq,ef,yF,ea,a1]
   obtain⟨v',b1',b2,b3⟩:=ih (j+1) v1 (zw h) (by rw[a2,Yzk];omega);refine⟨v',by rw[zx body,b1'],by rw[a2,Yzk]at b2;simp only[Yzg];omega,fun y=>(b3 y).trans ?_⟩;rw[a2,YzI,w2 y]
   constructor
   ·rintro ((h|h)|⟨q,z,q1,q2,q3⟩)
    ·exact .inl h
    ·exact .inr ⟨0,t,rfl,hb,h⟩
    ·exact .inr ⟨q+1,z,by simpa using q1,by rw[show j+(q+1)=j+1+q by omega];exact q2,q3⟩
   ·rintro (h|⟨q,z,q1,q2,q3⟩)
    ·exact .inl (.inl h)
    ·cases q with
     |zero=>simp only[Yzi,Option.some.injEq]at q1;subst q1;exact .inl (.inr q3)
     |succ q=>exact .inr ⟨q,z,by simpa using q1,by rw[show j+1+q=j+(q+1) by omega];exact q2,q3⟩
  ·have body:zdI (D (k+4)) (I6 (d.stops.els.length:Int)) (enV d) (enL 1 enU r.stops) [I6 (n:Int)] (enL 6 enR o.ranks) [I6 key] [I6 (j:Int)] [ocL zX v]=some (.normal,[I6 ((j+1:Nat):Int)],[ocL zX v]):=by
    have hb':=(Yyo _).mp hb;unfold bit at hb';simp only[zdI,zi,zp,zc,zb,x4 h1,zg,if_true,i4,zO h,is,yE,zcb,yT,zdW,hb',Yzc,if_false,ea]
   obtain⟨v',b1',b2,b3⟩:=ih (j+1) v (zw h) (by omega);refine⟨v',by rw[zx body,b1'],by simp only[Yzg];omega,fun y=>(b3 y).trans ?_⟩
   constructor
   ·rintro (h|⟨q,z,q1,q2,q3⟩)
    ·exact .inl h
    ·exact .inr ⟨q+1,z,by simpa using q1,by rw[show j+(q+1)=j+1+q by omega];exact q2,q3⟩
   ·rintro (h|⟨q,z,q1,q2,q3⟩)
    ·exact .inl h
    ·cases q with
     |zero=>exact absurd q2 hb
     |succ q=>exact .inr ⟨q,z,by simpa using q1,by rw[show j+1+q=j+(q+1) by omega];exact q2,q3⟩
omit F in
theorem zfw{xs:List (List DV)}{n:Nat}(h:n<xs.length):y2 (some xs) (I6 (n:Int))=some n:=wv h
omit F in
theorem ztR{row:List (Sl Ze)}(h:row.length≤1000):fits 24 ((grow row).els.length+1)=true:=yM (by decide) (by rw[zn];omega)
omit F in
theorem zaN(row:List (Sl Ze))(v:Sl Ze):(some ((grow row).els.map y9++[[enL 2 zX v]]):OC)=ocL y9 (grow (row++[v])):=by rw[yw,←y0];rfl
theorem zpk(k n:Nat)(d:Zj)(s:Int)(hd:o.divs.els[n]? = some d)(hs:r.stops.els[n]? = some s)(xs:List (List DV))(hx:n<xs.length):∀(m:Nat) (key:Int) (row:List (Sl Ze)),key+(m:Int)=d.high+1→d.low≤key→row.length+m≤1000→
  ∃row',zB (zii (D (k+4)) (enV d) (enL 1 enU r.stops) [I6 (n:Int)] (enL 6 enR o.ranks) [some xs] n) [I6 key] [ocL y9 (grow row)]=some (.exit 2,[],[ocL y9 (grow (row++row'))])∧row'.length=m∧∀(i:Nat) (v:Sl Ze),row'[i]? = some v→zjZ o r n (key+(i:Int)) v:=by
 have hdm:=Lz3 hd;have hr:=F.rng d hdm;have a2:atD (enV d) 3=I6 d.high:=rfl;have a4:atD (enV d) 4=enL 4 xe d.stops:=rfl;intro m
 induction m with
 |zero=>intro key row hk _ _;have h1:decide (key≤d.high)=false:=decide_eq_false (by omega);refine⟨[],zl ?_,rfl,fun i v h=>by simp at h⟩;simp only[zii,zi,zp,a2,xE,zb,h1,zg,Yzc,if_false,YzE]
 |succ m ih=>
  intro key row hk hlo hl;have h1:decide (key≤d.high)=true:=decide_eq_true (by omega);have hsl:=F.sl d hdm;obtain⟨v,c1,c2,c3⟩:=zmE F k n d s hd hs key d.stops.els 0 none rfl (by simp;omega);have ea:zf .add (I6 key) (I6 1)=some (I6 (key+1)):=yf;have hc:zjZ o r n key v:=⟨by simp at c2;omega,fun y=>(c3 y).trans (by
   simp only[qb,Yzs,false_or,Yzm]
   constructor
   ·rintro⟨q,t,q1,q2,q3⟩;exact⟨d,s,q,t,hd,hs,q1,q2,q3⟩
   ·rintro⟨d',s',q,t,e1,e2,q1,q2,q3⟩
    rw[hd]at e1;cases e1;rw[hs]at e2;cases e2;exact⟨q,t,q1,q2,q3⟩)⟩
  have body:zii (D (k+4)) (enV d) (enL 1 enU r.stops) [I6 (n:Int)] (enL 6 enR o.ranks) [some xs] n [I6 key] [ocL y9 (grow row)]=some (.normal,[I6 (key+1)],[ocL y9 (grow (row++[v]))]):=by simp only[zii,zi,zp,a2,a4,xE,zb,h1,zg,if_true,zA];rw[show (I6 0:DV)=I6 ((0:Nat):Int) from rfl,show (none:OC)=ocL zX none from rfl,c1];simp only[zt,Yzj,Yza,zp,zfw hx,zb,yF,zY,ztR (show row.length≤1000 by omega),ea,zU,yX,zaN]
  obtain⟨row',q1,q2,q3⟩:=ih (key+1) (row++[v]) (by omega) (by omega) (by simp;omega);refine⟨v::row',by rw[zx body,q1];simp,by simp[q2],fun i w h=>?_⟩;cases i with
  |zero=>
   simp only[Yzi,Option.some.injEq]at h;subst h
   simpa using hc
  |succ i=>
   have:=q3 i w (by simpa using h)
   rwa [show key+1+(i:Int)=key+((i+1:Nat):Int) by omega]at this
omit F in
theorem znS(T:List (List (Sl Ze)))(m:Nat)(row:List (Sl Ze)):(T.map yl++List.replicate (m+1) [DV.nils]).set T.length [enL 1 y9 (grow row)]=(T++[row]).map yl++List.replicate m [DV.nils]:=by rw[List.set_append_right _ _ (by simp),Yzq,Nat.sub_self,List.replicate_succ,List.set_cons_zero,Yya];simp[yl]
omit F in
theorem zoQ(T:List (List (Sl Ze)))(m:Nat):(T.map yl++List.replicate (m+1) [DV.nils])[T.length]? = some [DV.nils]:=by rw[Lz8 (by simp),Yzq,Nat.sub_self,List.replicate_succ];rfl
omit F in
theorem Rows.snoc{C:Nat→Int→Sl Ze→Prop}{T:List (List (Sl Ze))}{d:Zj}{row:List (Sl Ze)}(H:Rows o C T)(hd:o.divs.els[T.length]? = some d)(hl:(row.length:Int)=d.high-d.low+1)(hc:∀(i:Nat) (v:Sl Ze),row[i]? = some v→C T.length (d.low+(i:Int)) v):Rows o C (T++[row]):=
 ⟨fun n d' row' hd' hr => by
  by_cases h:n<T.length
  ·rw[Lz2 h]at hr;exact H.row n d' row' hd' hr
  ·have hn:n=T.length:=by
    have:=(Lz0.1 hr).1;simp at this;omega
   subst hn;rw[Yz5]at hr;cases hr;rw[hd]at hd';cases hd';exact⟨hl,hc⟩⟩
theorem zmH(k:Nat):∀(l:List Zj) (T:List (List (Sl Ze))),o.divs.els.drop T.length=l→Rows o (zjZ o r) T→
  ∃T',zB (zq1 (D (k+4)) (I6 (o.divs.els.length:Int)) (enL 5 enV o.divs) (enL 1 enU r.stops) (enL 6 enR o.ranks)) [I6 (T.length:Int)] [some (T.map yl++List.replicate l.length [.nils])]=some (.exit 0,[],[some (T'.map yl)])∧T'.length=T.length+l.length∧Rows o (zjZ o r) T':=by
 intro l
 induction l with
 |nil=>intro T h H;refine⟨T,zl ?_,by simp,H⟩;simp only[zq1,zi,zp,zc,zb,yK (zH h),zg,Yzc,if_false,Yzx,List.replicate_zero,YzE]
 |cons d l ih=>
  intro T h H;have h1:=zZ h;have hdl:=F.dl;have hd:=zJ h;have hr:=F.rng d (Lz3 hd);have hrl:=F.rl;obtain⟨s,hs⟩:∃s,r.stops.els[T.length]? = some s:=⟨_,Lz5 (by omega)⟩;have hx:T.length<(T.map yl++List.replicate (l.length+1) [DV.nils]).length:=by simp
  obtain⟨row,c1,c2,c3⟩:=zpk F k T.length d s hd hs _ hx (d.high-d.low+1).toNat d.low [] (by omega) (Int.le_refl _) (by simp;omega);have ea:zf .add (I6 (T.length:Int)) (I6 1)=some (I6 ((T.length+1:Nat):Int)):=yf;have iv:yy 5 (enL 5 enV o.divs) (I6 (T.length:Int))=some (enV d):=by rw[yb,hd];rfl
  have a2:atD (enV d) 2=I6 d.low:=rfl;have body:zq1 (D (k+4)) (I6 (o.divs.els.length:Int)) (enL 5 enV o.divs) (enL 1 enU r.stops) (enL 6 enR o.ranks) [I6 (T.length:Int)] [some (T.map yl++List.replicate (l.length+1) [.nils])]=some (.normal,[I6 (((T++[row]).length:Nat):Int)],[some ((T++[row]).map yl++List.replicate l.length [.nils])]):=by simp only[zq1,zi,zp,zc,zb,x4 h1,zg,if_true,iv,zfw hx];rw[show vZ (some (T.map yl++List.replicate (l.length+1) [DV.nils])) T.length=some [DV.nils] from zoQ T l.length];simp only[zb,yE,gdN,a2];rw[show (none:OC)=ocL y9 (grow []) from rfl,c1];simp only[zt,zp,yX,YzK,zxe,zb,Yzj,Yza,ea,znS,Yzk,Yyr]
  obtain⟨T',q1,q2,q3⟩:=ih (T++[row]) (by rw[Yzk,Yyr];exact zw h) (H.snoc hd (by rw[c2];omega) c3);refine⟨T',by rw[Yzg,zx body,q1],by simp at q2 ⊢;omega,q3⟩
theorem zmI(T:List (List (Sl Ze)))(hT:T.length=o.divs.els.length)(H:Rows o (zjZ o r) T)(S:List y5)(hS:∀y∈S,inR o y=true)(hl:S.length≤27):∀(l:List y5) (i:Nat) (v:Sl Ze),S.drop i=l→v.els.length+6*l.length≤1000→
  ∃v',zB (zif (I6 (S.length:Int)) (enL 2 zX (grow S)) [some (T.map yl)] (enL 5 enV o.divs)) [I6 (i:Int)] [ocL zX v]=some (.exit 10,[],[ocL zX v'])∧v'.els.length≤v.els.length+6*l.length∧
   ∀y,y∈v'.els↔y∈v.els∨∃c∈l,zdJ o r c.rank.toNat c.num y:=by
 intro l
 induction l with
 |nil=>intro i v h _;refine⟨v,zl ?_,by simp,fun y=>by simp⟩;simp only[zif,zi,zp,zc,zb,yK (zH h),zg];rfl
 |cons c l ih=>
  intro i v h hv;simp only[Yzg]at hv;have h1:=zZ h;have hdl:=F.dl;obtain⟨n,d,e1,e2,e3,e4⟩:=xR.1 (hS c (Lz3 (zJ h)));have hn:=(Lz0.1 e2).1;have hr:=F.rng d (Lz3 e2);obtain⟨row,hrow⟩:∃row,T[n]? = some row:=⟨_,Lz5 (by omega)⟩;obtain⟨g1,g2⟩:=H.row n d row e2 hrow;obtain⟨j,hj⟩:∃j:Nat,c.num-d.low=(j:Int):=⟨(c.num-d.low).toNat,by omega⟩;obtain⟨w,hw⟩:∃w,row[j]? = some w:=⟨_,Lz5 (by omega)⟩;obtain⟨w1,w2⟩:=g2 j w hw;have ea:zf .add (I6 (i:Int)) (I6 1)=some (I6 ((i+1:Nat):Int)):=yf;have es:zf .sub (I6 c.num) (I6 d.low)=some (I6 (j:Int)):=by rw[←hj];exact zbW
  have hdr:(grow S).els.drop i=c::l:=by rw[zn];exact h
  have ix:yy 2 (enL 2 zX (grow S)) (I6 (i:Int))=some [I6 c.rank,I6 c.num]:=zO hdr .i64;have i1:y2 (some (T.map yl)) (I6 c.rank)=some n:=by rw[e1];exact wv (by simp;omega)
  have i2:vZ (some (T.map yl)) n=some [enL 1 y9 (grow row)]:=by show (T.map yl)[n]? = _;rw[Lz6,hrow];rfl
  have iv:yy 5 (enL 5 enV o.divs) (I6 c.rank)=some (enV d):=by rw[e1,yb,e2];rfl
  have a2:atD (enV d) 2=I6 d.low:=rfl;have ic:yy 1 (enL 1 y9 (grow row)) (I6 (j:Int))=some [enL 2 zX w]:=by rw[yb,zn,hw];rfl
  obtain⟨v1,b1',b2⟩:=zco (f:=zX) v w.els;have ef:fits 16 (v.els.length+w.els.length)=true:=yM (by decide) (by omega);have body:zif (I6 (S.length:Int)) (enL 2 zX (grow S)) [some (T.map yl)] (enL 5 enV o.divs) [I6 (i:Int)] [ocL zX v]=some (.normal,[I6 ((i+1:Nat):Int)],[ocL zX v1]):=by simp only[zif,zi,zp,zc,zb,x4 h1,zg,if_true,ix,yE,xc,i1,i2,iv,a2,es,ic,vX,zY,Yzq,ef,yF,ea,b1']
  obtain⟨v',q1,q2,q3⟩:=ih (i+1) v1 (zw h) (by rw[b2,Yzk];omega);refine⟨v',by rw[zx body,q1],by rw[b2,Yzk]at q2;simp only[Yzg];omega,fun y=>(q3 y).trans ?_⟩;have hwy:y∈w.els↔zdJ o r c.rank.toNat c.num y:=by rw[w2 y,e1,Yzp,show d.low+(j:Int)=c.num by omega]
  rw[b2,YzI,hwy]
  constructor
  ·rintro ((h|h)|⟨z,hz,h⟩)
   ·exact .inl h
   ·exact .inr ⟨c,Yzh ..,h⟩
   ·exact .inr ⟨z,Yzf _ hz,h⟩
  ·rintro (h|⟨z,hz,hdz⟩)
   ·exact .inl (.inl h)
   ·rcases YzA.1 hz with e|hz
    ·rw[e]at hdz;exact .inl (.inr hdz)
    ·exact .inr ⟨z,hz,hdz⟩
theorem zmJ(k n:Nat)(d:Zj)(hd:o.divs.els[n]? = some d)(T:List (List (Sl Ze)))(hT:T.length=o.divs.els.length)(H:Rows o (zjZ o r) T)(xs:List (List DV))(hx:n<xs.length):∀(m:Nat) (key:Int) (row:List (Sl Ze)),key+(m:Int)=d.high+1→d.low≤key→row.length+m≤1000→
  ∃row',zB (zig (D (k+3)) (enV d) (St o.name) (enL 6 enR o.ranks) (enL 5 enV o.divs) (enL 5 enC o.cpls) (enL 1 enU r.stops) (U64 r.cpls) (U64 r.off) [I6 (n:Int)] [some (T.map yl)] [some xs] n) [I6 key] [ocL y9 (grow row)]=some (.exit 8,[],[ocL y9 (grow (row++row'))])∧row'.length=m∧∀(i:Nat) (v:Sl Ze),row'[i]? = some v→wp o r n (key+(i:Int)) v:=by
 have hdm:=Lz3 hd;have hr:=F.rng d hdm;have a3:atD (enV d) 3=I6 d.high:=rfl;intro m
 induction m with
 |zero=>intro key row hk _ _;have h1:decide (key≤d.high)=false:=decide_eq_false (by omega);refine⟨[],zl ?_,rfl,fun i v h=>by simp at h⟩;simp only[zig,zi,zp,a3,xE,zb,h1,zg,Yzc,if_false,YzE]
 |succ m ih=>
  intro key row hk hlo hl;have h1:decide (key≤d.high)=true:=decide_eq_true (by omega);have hin:inR o ⟨(n:Int),key⟩=true:=xR.2 ⟨n,d,rfl,hd,hlo,by show key≤d.high;omega⟩;obtain⟨S,s1,s2,s3,s4⟩:=t57 F k ⟨(n:Int),key⟩ hin;have hSl:=vE F s2 s4;obtain⟨v,c1,c2,c3⟩:=zmI F T hT H S s4 hSl S 0 none rfl (by simp;omega);have ea:zf .add (I6 key) (I6 1)=some (I6 (key+1)):=yf;obtain⟨w,u,f1,f2,f3,f4⟩:=zb8 v (by simp at c2;omega) fun p hp=>by
   rcases (c3 p).1 hp with h|⟨c',_,d',s',j,t,_,_,_,_,h⟩
   ·rw[qb]at h;cases h
   ·exact F.sml _ _ p h
  have hul:u.els.length≤v.els.length:=j8 f2 fun z hz=>(f3 z).1 hz;simp at c2;have hc:wp o r n key u:=⟨by omega,f2,fun y=>(f3 y).trans ((c3 y).trans (by
   simp only[qb,Yzs,false_or]
   constructor
   ·rintro⟨c,hc,h⟩;exact⟨c,(s3 c).1 hc,h⟩
   ·rintro⟨c,hc,h⟩;exact⟨c,(s3 c).2 hc,h⟩))⟩
  unfold enO ym at s1;have hgS:(grow S).els.length=S.length:=by rw[zn]
  have body:zig (D (k+3)) (enV d) (St o.name) (enL 6 enR o.ranks) (enL 5 enV o.divs) (enL 5 enC o.cpls) (enL 1 enU r.stops) (U64 r.cpls) (U64 r.off) [I6 (n:Int)] [some (T.map yl)] [some xs] n [I6 key] [ocL y9 (grow row)]=some (.normal,[I6 (key+1)],[ocL y9 (grow (row++[u]))]):=by
   simp only[zig,zi,zp,a3,xE,zb,h1,zg,if_true,s1,zR,zA,hgS];rw[show (I6 0:DV)=I6 ((0:Nat):Int) from rfl,show (none:OC)=ocL zX none from rfl,c1];simp only[zt,Yzj,Yza,zp,f1,zb,zfw hx,yF,xj,zc,zg,Yzn,zY,ztR (show row.length≤1000 by omega),ea,zU,show zuf=jH from rfl];rcases f4 with⟨g1,g2⟩|⟨g1,g2⟩
   ·have:((xt w:Nat):Int)<2:=by omega
    rw[Yze this,g2,zaN]
   ·have:¬((xt w:Nat):Int)<2:=by omega
    rw[Yzb this];rcases g2 with g2|g2
    ·rw[g2];simp only[zt,Yzj,Yza,zp,yX,zaN]
    ·rw[g2];simp only[uj,zi,zaN]
  obtain⟨row',q1,q2,q3⟩:=ih (key+1) (row++[u]) (by omega) (by omega) (by simp;omega);refine⟨u::row',by rw[zx body,q1];simp,by simp[q2],fun i w h=>?_⟩;cases i with
  |zero=>
   simp only[Yzi,Option.some.injEq]at h;subst h
   simpa using hc
  |succ i=>
   have:=q3 i w (by simpa using h)
   rwa [show key+1+(i:Int)=key+((i+1:Nat):Int) by omega]at this
theorem zmD(k:Nat)(U:List (List (Sl Ze)))(hU:U.length=o.divs.els.length)(HU:Rows o (zjZ o r) U):∀(l:List Zj) (T:List (List (Sl Ze))),o.divs.els.drop T.length=l→Rows o (wp o r) T→
  ∃T',zB (zih (D (k+3)) (I6 (o.divs.els.length:Int)) (enL 5 enV o.divs) (St o.name) (enL 6 enR o.ranks) (enL 5 enC o.cpls) (enL 1 enU r.stops) (U64 r.cpls) (U64 r.off) [some (U.map yl)]) [I6 (T.length:Int)] [some (T.map yl++List.replicate l.length [.nils])]=some (.exit 6,[],[some (T'.map yl)])∧T'.length=T.length+l.length∧Rows o (wp o r) T':=by
 intro l
 induction l with
 |nil=>intro T h H;refine⟨T,zl ?_,by simp,H⟩;simp only[zih,zi,zp,zc,zb,yK (zH h),zg,Yzc,if_false,Yzx,List.replicate_zero,YzE]
 |cons d l ih=>
  intro T h H;have h1:=zZ h;have hdl:=F.dl;have hd:=zJ h;have hr:=F.rng d (Lz3 hd);have hx:T.length<(T.map yl++List.replicate (l.length+1) [DV.nils]).length:=by simp
  obtain⟨row,c1,c2,c3⟩:=zmJ F k T.length d hd U hU HU _ hx (d.high-d.low+1).toNat d.low [] (by omega) (Int.le_refl _) (by simp;omega);have ea:zf .add (I6 (T.length:Int)) (I6 1)=some (I6 ((T.length+1:Nat):Int)):=yf;have iv:yy 5 (enL 5 enV o.divs) (I6 (T.length:Int))=some (enV d):=by rw[yb,hd];rfl
  have a2:atD (enV d) 2=I6 d.low:=rfl;have body:zih (D (k+3)) (I6 (o.divs.els.length:Int)) (enL 5 enV o.divs) (St o.name) (enL 6 enR o.ranks) (enL 5 enC o.cpls) (enL 1 enU r.stops) (U64 r.cpls) (U64 r.off) [some (U.map yl)] [I6 (T.length:Int)] [some (T.map yl++List.replicate (l.length+1) [.nils])]=some (.normal,[I6 (((T++[row]).length:Nat):Int)],[some ((T++[row]).map yl++List.replicate l.length [.nils])]):=by simp only[zih,zi,zp,zc,zb,x4 h1,zg,if_true,iv,zfw hx];rw[show vZ (some (T.map yl++List.replicate (l.length+1) [DV.nils])) T.length=some [DV.nils] from zoQ T l.length];simp only[zb,yE,gdN,a2];rw[show (none:OC)=ocL y9 (grow []) from rfl,c1];simp only[zt,zp,yX,YzK,zxe,zb,Yzj,Yza,ea,znS,Yzk,Yyr]
  obtain⟨T',q1,q2,q3⟩:=ih (T++[row]) (by rw[Yzk,Yyr];exact zw h) (H.snoc hd (by rw[c2];omega) c3);refine⟨T',by rw[Yzg,zx body,q1],by simp at q2 ⊢;omega,q3⟩
theorem t29(k:Nat):∃T:List (List (Sl Ze)),D (k+5) 29 [SA (enO o),SA (ym r)]=some (S1 (.lst 1 (T.map yl)))∧T.length=o.divs.els.length∧Rows o (wp o r) T:=by have hdl:=F.dl;obtain⟨U,u1,u2,u3⟩:=zmH F k o.divs.els [] rfl ⟨fun n d row _ h=>by simp at h⟩;obtain⟨T,t1,t2,t3⟩:=zmD F (k+1) U (by simpa using u2) u3 o.divs.els [] rfl ⟨fun n d row _ h=>by simp at h⟩;refine⟨T,?_,by simpa using t2,t3⟩;simp only[Yzx,List.map_nil,YzK]at u1 t1;unfold enO ym;rw[D29];unfold P29;simp only[zA,zb,zx5 (show o.divs.els.length≤1000 by omega)];rw[show (I6 0:DV)=I6 ((0:Nat):Int) from rfl,u1];simp only[zt,Yzj,Yza];rw[t1];simp only[zt,Yzj,Yza,zp,ut]
end
end Go.Proofs.Tryz.Kn
end
section
namespace Go.Proofs.Tryz.Kn
open Go Go.CE Go.PE
theorem l37(a b:Sl Ze)(hl:a.els.length≤1000)(hab:a.els.length=b.els.length):∀(r s:List Ze) (i:Nat),a.els.drop i=r→b.els.drop i=s→
  zB (zqZ (I6 (a.els.length:Int)) (enL 2 zX a) (enL 2 zX b)) [I6 (i:Int)] []=some (if r=s then(.exit 0,[],[]) else(.ret,[Bo false],[])):=by
 intro r
 induction r with
 |nil=>
  intro s i h g;have h1:=zH h;have:s=[]:=by rw[←g,List.drop_eq_nil_iff];omega
  rw[this,Yze rfl];refine zl ?_;simp only[zqZ,zi,zc,zb,yK h1,zg];rfl
 |cons x r ih=>
  intro s i h g;have h1:=zZ h;cases s with
  |nil=>have:=zH g;omega
  |cons y s=>
   have ea:zf .add (I6 (i:Int)) (I6 1)=some (I6 ((i+1:Nat):Int)):=yf;have eq:=zaH x y;have body:zqZ (I6 (a.els.length:Int)) (enL 2 zX a) (enL 2 zX b) [I6 (i:Int)] []=some (if x=y then(.normal,[I6 ((i+1:Nat):Int)],[]) else(.ret,[Bo false],[])):=by simp only[zqZ,zi,zc,zb,x4 h1,zg,if_true,zO h,zO g,zX,yE,xc,eq,ea];by_cases hz:x=y<;>simp[hz]
   by_cases hc:x=y
   ·rw[Yze hc]at body;rw[zx body,ih s (i+1) (zw h) (zw g)];simp[hc]
   ·rw[Yzb hc]at body;rw[zG body];simp[hc]
theorem t37(k:Nat)(a b:Sl Ze)(hl:a.els.length≤1000):D (k+1) 37 [S1 (enL 2 zX a),S1 (enL 2 zX b)]=some (S1 (Bo (decide (a.els=b.els)))):=by
 rw[D37];unfold P37;simp only[zA,zb,yg,zg];by_cases h:a.els.length=b.els.length
 ·have l:=l37 a b hl h a.els b.els 0 rfl rfl;have e:((a.els.length:Int)==(b.els.length:Int))=true:=by simp[h]
  rw[e];simp only[Yzw,Yzc,if_false];rw[show (I6 0:DV)=I6 ((0:Nat):Int) from rfl,l];by_cases hc:a.els=b.els
  ·rw[Yze hc,decide_eq_true hc];rfl
  ·rw[Yzb hc,decide_eq_false hc];rfl
 ·have e:((a.els.length:Int)==(b.els.length:Int))=false:=by simp;omega
  have:a.els≠b.els:=fun e=>h (by rw[e]);rw[e,decide_eq_false this];simp
def zlC(H:Sl Ze→Sl Ze→Bool):Nat→List (Sl Ze)→List (Sl Ze)→Option Nat
 |i,x::a,y::b=>if H x y=true then zlC H (i+1) a b else some i
 |_,_,_=>none
def zeV(H:Sl Ze→Sl Ze→Bool):Nat→List (List (Sl Ze))→List (List (Sl Ze))→Option (Nat×Nat)
 |n,x::a,y::b=>match zlC H 0 x y with
  |some i=>some (n,i)
  |none=>zeV H (n+1) a b
 |_,_,_=>none
theorem zow{A:List (List (Sl Ze))}{n:Nat}{x:List (Sl Ze)}(h:A[n]? = some x):yy 1 (.lst 1 (A.map yl)) (I6 (n:Int))=some [enL 1 y9 (grow x)]:=by refine (yb (f:=yl) (st:=1) .i64 (some A) n).trans ?_;rw[yn,h];rfl
theorem zxJ(A:List (List (Sl Ze))):yV (.lst 1 (A.map yl))=some (I6 (A.length:Int)):=zA (f:=yl) (st:=1) (some A)
structure Twin (o:Org) (A B:List (List (Sl Ze))):Prop where
 al:A.length=o.divs.els.length
 bl:B.length=o.divs.els.length
 row:∀(n:Nat) (d:Zj) (x y:List (Sl Ze)),o.divs.els[n]? = some d→A[n]? = some x→B[n]? = some y→x.length=y.length∧x.length≤9∧(∀v∈x,v.els.length≤1000)∧(∀v∈y,v.els.length≤1000)
section
variable {o:Org} {A B:List (List (Sl Ze))} (W:Twin o A B) (hdl:o.divs.els.length≤3) (hrng:∀d∈o.divs.els,0≤d.low∧d.low≤127) {f:DV} {H:Sl Ze→Sl Ze→Bool} {k:Nat}
 (hf:∀x y:Sl Ze,x.els.length≤1000→y.els.length≤1000→zeW (D k) f [S1 (enL 2 zX x),S1 (enL 2 zX y)]=some (S1 (Bo (H x y))))
include W hrng hf in
theorem zpj(n:Nat)(d:Zj)(x y:List (Sl Ze))(hd:o.divs.els[n]? = some d)(hx:A[n]? = some x)(hy:B[n]? = some y)(c0 c1:DV):∀(r s:List (Sl Ze)) (i:Nat),x.drop i=r→y.drop i=s→
  zB (zib (D k) (I6 (x.length:Int)) (.lst 1 (A.map yl)) [I6 (n:Int),c0,c1] (.lst 1 (B.map yl)) f (enL 5 enV o.divs)) [I6 (i:Int),c0,c1] []=some (match zlC H i r s with
   |none=>(.exit 2,[c0,c1],[])
   |some j=>(.ret,[Bo false,I6 (n:Int),I6 (d.low+(j:Int))],[])):=by
 obtain⟨w1,w2,w3,w4⟩:=W.row n d x y hd hx hy;obtain⟨r1,r2⟩:=hrng d (Lz3 hd);have iv:yy 5 (enL 5 enV o.divs) (I6 (n:Int))=some (enV d):=by rw[yb,hd];rfl
 have a2:atD (enV d) 2=I6 d.low:=rfl;have ja:=zow hx;have jb:=zow hy;intro r
 induction r with
 |nil=>intro s i h g;have h1:=zH h;unfold zlC;refine zl ?_;simp only[zib,zi,yU,zc,zb,yK h1,zg];rfl
 |cons v r ih=>
  intro s i h g;have h1:=zZ h;cases s with
  |nil=>have:=zH g;omega
  |cons w s=>
   have hv:=w3 v (Lz3 (zJ h));have hw:=w4 w (Lz3 (zJ g));have ea:zf .add (I6 (i:Int)) (I6 1)=some (I6 ((i+1:Nat):Int)):=yf;have el:zf .add (I6 d.low) (I6 (i:Int))=some (I6 (d.low+(i:Int))):=yf;have ia:yy 1 (enL 1 y9 (grow x)) (I6 (i:Int))=some [enL 2 zX v]:=by rw[yb,zn,zJ h];rfl
   have ib:yy 1 (enL 1 y9 (grow y)) (I6 (i:Int))=some [enL 2 zX w]:=by rw[yb,zn,zJ g];rfl
   have body:zib (D k) (I6 (x.length:Int)) (.lst 1 (A.map yl)) [I6 (n:Int),c0,c1] (.lst 1 (B.map yl)) f (enL 5 enV o.divs) [I6 (i:Int),c0,c1] []=some (if H v w=true then(.normal,[I6 ((i+1:Nat):Int),c0,c1],[]) else(.ret,[Bo false,I6 (n:Int),I6 (d.low+(i:Int))],[])):=by simp only[zib,zi,yU,zc,zb,x4 h1,zg,if_true,ja,jb,yE,ia,ib,hf v w hv hw,zR,yI,iv,a2,el,ea];cases H v w<;>rfl
   unfold zlC;by_cases hc:H v w=true
   ·rw[Yze hc]at body ⊢;rw[zx body,ih s (i+1) (zw h) (zw g)]
   ·rw[Yzb hc]at body ⊢;rw[zG body]
include W hdl hrng hf in
theorem zmG:∀(a b:List (List (Sl Ze))) (n:Nat),A.drop n=a→B.drop n=b→
  zB (znj (D k) (I6 (A.length:Int)) (.lst 1 (A.map yl)) (.lst 1 (B.map yl)) f (enL 5 enV o.divs)) [I6 (n:Int),I6 0,I6 0] []=some (match zeV H n a b with
   |none=>(.exit 0,[I6 0,I6 0],[])
   |some (m,j)=>(.ret,[Bo false,I6 (m:Int),I6 (zfI o m+(j:Int))],[])):=by
 have wa:=W.al;have wb:=W.bl;intro a
 induction a with
 |nil=>intro b n h g;have h1:=zH h;unfold zeV;refine zl ?_;simp only[znj,zi,yU,zc,zb,yK h1,zg];rfl
 |cons x a ih=>
  intro b n h g;have h1:=zZ h;cases b with
  |nil=>have:=zH g;omega
  |cons y b=>
   obtain⟨d,hd⟩:∃d,o.divs.els[n]? = some d:=⟨_,Lz5 (by omega)⟩;have ea:zf .add (I6 (n:Int)) (I6 1)=some (I6 ((n+1:Nat):Int)):=yf;have hl:zfI o n=d.low:=by unfold zfI;rw[hd]
   have lp:=zpj W hrng hf n d x y hd (zJ h) (zJ g) (I6 0) (I6 0) x y 0 rfl rfl;have ja:=zow (zJ h);have pl:yV (enL 1 y9 (grow x))=some (I6 (x.length:Int)):=by rw[zA,zn]
   unfold zeV;cases hr:zlC H 0 x y with
   |some j=>rw[hr]at lp;refine zG ?_;simp only[znj,zi,yU,zc,zb,x4 h1,zg,if_true,ja,yE,pl];rw[show (I6 0:DV)=I6 ((0:Nat):Int) from rfl]at lp ⊢;rw[lp];simp only[uj,zi,yU,hl]
   |none=>
    rw[hr]at lp;have body:znj (D k) (I6 (A.length:Int)) (.lst 1 (A.map yl)) (.lst 1 (B.map yl)) f (enL 5 enV o.divs) [I6 (n:Int),I6 0,I6 0] []=some (.normal,[I6 ((n+1:Nat):Int),I6 0,I6 0],[]):=by simp only[znj,zi,yU,zc,zb,x4 h1,zg,if_true,ja,yE,pl];rw[show (I6 0:DV)=I6 ((0:Nat):Int) from rfl]at lp ⊢;rw[lp];simp only[zt,Yzj,Yza,ea,zb,zi,yU]
    rw[zx body,ih b (n+1) (zw h) (zw g)]
def spot(o:Org):Option (Nat×Nat)→y5
 |none=>⟨0,0⟩
 |some (m,j)=>⟨(m:Int),zfI o m+(j:Int)⟩
include W hdl hrng hf in
theorem t36:D (k+1) 36 [SA (enO o),S1 (.lst 1 (A.map yl)),S1 (.lst 1 (B.map yl)),S1 f]=some (.tup [.agg [I6 (spot o (zeV H 0 A B)).rank,I6 (spot o (zeV H 0 A B)).num],.one (Bo (zeV H 0 A B).isNone)]):=by
 have l:=zmG W hdl hrng hf A B 0 rfl rfl;have pl:=zxJ A;unfold enO;rw[D36];unfold P36;simp only[pl,zb];rw[show (I6 0:DV)=I6 ((0:Nat):Int) from rfl]at l ⊢;rw[l];cases zeV H 0 A B with
 |none=>rfl
 |some x=>rfl
end
theorem zhQ{H:Sl Ze→Sl Ze→Bool}:∀{a b:List (Sl Ze)} (i:Nat),a.length=b.length→(zlC H i a b=none↔∀(j:Nat) (x y:Sl Ze),a[j]? = some x→b[j]? = some y→H x y=true)
 | [],[],i,_=>by simp[zlC]
 |x::a,y::b,i,h=>by
  have ih:=zhQ (H:=H) (a:=a) (b:=b) (i+1) (by simpa using h);unfold zlC;by_cases hc:H x y=true
  ·rw[Yze hc,ih]
   constructor
   ·intro g j x' y' h1 h2;cases j with
    |zero=>simp only[Yzi,Option.some.injEq]at h1 h2;rw[←h1,←h2];exact hc
    |succ j=>exact g j x' y' (by simpa using h1) (by simpa using h2)
   ·exact fun g j x' y' h1 h2=>g (j+1) x' y' (by simpa using h1) (by simpa using h2)
  ·rw[Yzb hc];exact⟨fun g=>(by cases g),fun g=>absurd (g 0 x y rfl rfl) hc⟩
theorem zhO{H:Sl Ze→Sl Ze→Bool}:∀{A B:List (List (Sl Ze))} (n:Nat),A.length=B.length→(∀(m:Nat) (a b:List (Sl Ze)),A[m]? = some a→B[m]? = some b→a.length=b.length)→
  (zeV H n A B=none↔∀(m:Nat) (a b:List (Sl Ze)),A[m]? = some a→B[m]? = some b→∀(j:Nat) (x y:Sl Ze),a[j]? = some x→b[j]? = some y→H x y=true)
 | [],[],n,_,_=>by simp[zeV]
 |a::A,b::B,n,h,g=>by
  have ih:=zhO (H:=H) (A:=A) (B:=B) (n+1) (by simpa using h) fun m x y h1 h2=>g (m+1) x y (by simpa using h1) (by simpa using h2);have ir:=zhQ (H:=H) (a:=a) (b:=b) 0 (g 0 a b rfl rfl);unfold zeV;cases hr:zlC H 0 a b with
  |none=>
   rw[hr]at ir;simp only[ih]
   constructor
   ·intro q m x y h1 h2;cases m with
    |zero=>simp only[Yzi,Option.some.injEq]at h1 h2;rw[←h1,←h2];exact ir.1 rfl
    |succ m=>exact q m x y (by simpa using h1) (by simpa using h2)
   ·exact fun q m x y h1 h2=>q (m+1) x y (by simpa using h1) (by simpa using h2)
  |some i=>
   rw[hr]at ir
   constructor
   ·intro q;cases q
   ·intro q;have:=ir.2 (q 0 a b rfl rfl);cases this
section
variable {o:Org} {r s:Reg} {A B:List (List (Sl Ze))}
theorem zBU(F:Fit o r)(ha:A.length=o.divs.els.length)(hb:B.length=o.divs.els.length)(HA:Rows o (wp o r) A)(HB:Rows o (wp o s) B):Twin o A B:=
 ⟨ha, hb, fun n d x y hd hx hy => by
  obtain⟨q1,q2⟩:=HA.row n d x hd hx;obtain⟨p1,p2⟩:=HB.row n d y hd hy;have:=F.rng d (Lz3 hd);refine⟨by omega,by omega,fun v hv=>?_,fun v hv=>?_⟩
  ·obtain⟨i,hi⟩:=Yz8 hv;exact(q2 i v hi).1
  ·obtain⟨i,hi⟩:=Yz8 hv;exact(p2 i v hi).1⟩
theorem zhS(F:Fit o r)(ha:A.length=o.divs.els.length)(hb:B.length=o.divs.els.length)(HA:Rows o (wp o r) A)(HB:Rows o (wp o s) B){H:Sl Ze→Sl Ze→Bool}{Q:y5→Prop}
  (hq:∀(n:Nat) (key:Int) (x y:Sl Ze),wp o r n key x→wp o s n key y→(H x y=true↔Q ⟨(n:Int),key⟩)):zeV H 0 A B=none↔∀c,inR o c=true→Q c:=by
 have W:=zBU F ha hb HA HB;rw[zhO 0 (by omega) fun m x y h1 h2=>by obtain⟨d,hd⟩:∃d,o.divs.els[m]? = some d:=⟨_,Lz5 (by have:=(Lz0.1 h1).1;omega)⟩;exact(W.row m d x y hd h1 h2).1]
 constructor
 ·intro h c hc;obtain⟨n,d,e1,e2,e3,e4⟩:=xR.1 hc;have hn:=(Lz0.1 e2).1;obtain⟨a,hA⟩:∃a,A[n]? = some a:=⟨_,Lz5 (by omega)⟩;obtain⟨b,hB⟩:∃b,B[n]? = some b:=⟨_,Lz5 (by omega)⟩;obtain⟨q1,q2⟩:=HA.row n d a e2 hA;obtain⟨p1,p2⟩:=HB.row n d b e2 hB;obtain⟨j,hj⟩:∃j:Nat,c.num=d.low+(j:Int):=⟨(c.num-d.low).toNat,by omega⟩;obtain⟨x,hx⟩:∃x,a[j]? = some x:=⟨_,Lz5 (by omega)⟩;obtain⟨y,hy⟩:∃y,b[j]? = some y:=⟨_,Lz5 (by omega)⟩;have:=(hq n _ x y (q2 j x hx) (p2 j y hy)).1 (h n a b hA hB j x y hx hy);rw[←hj,←e1]at this;exact this
 ·intro h n a b hA hB j x y hx hy;obtain⟨d,hd⟩:∃d,o.divs.els[n]? = some d:=⟨_,Lz5 (by have:=(Lz0.1 hA).1;omega)⟩;obtain⟨q1,q2⟩:=HA.row n d a hd hA;obtain⟨p1,p2⟩:=HB.row n d b hd hB;have hj:=(Lz0.1 hx).1;refine (hq n _ x y (q2 j x hx) (p2 j y hy)).2 (h _ (xR.2 ⟨n,d,rfl,hd,?_,?_⟩))
  ·show d.low≤d.low+(j:Int);omega
  ·show d.low+(j:Int)≤d.high;omega
theorem zcz{n:Nat}{key:Int}{x y:Sl Ze}(hx:wp o r n key x)(hy:wp o s n key y):x.els=y.els↔∀z,zdY o r ⟨(n:Int),key⟩ z↔zdY o s ⟨(n:Int),key⟩ z:=by
 constructor
 ·intro h z;rw[←hx.2.2 z,←hy.2.2 z,h]
 ·exact fun h=>zgD _ _ hx.2.1 hy.2.1 fun z=>by rw[hx.2.2 z,hy.2.2 z,h z]
end
def Alike(o:Org)(r s:Reg):Prop:=∀c,inR o c=true→∀z,zdY o r c z↔zdY o s c z
section
variable {o:Org} (ho:o.ok) (h0:vM o=0) {r s:Reg} (F:Fit o r) (G:Fit o s) (hr:jC o r=0) (hs:jC o s=0)
include h0 hr in
theorem zCk:zls o [r]=0:=by unfold zls;rw[Yzb (by rw[h0];simp),zaY,Yzb (by rw[hr];simp)];rfl
end
end Go.Proofs.Tryz.Kn
end
section
namespace Go.Proofs.Tryz.Kn
open Go Go.CE Go.PE
structure Le (o:Org) (r s:Reg):Prop where
 c:∀(i:Nat) (x:Cpl),o.cpls.els[i]? = some x→bit r.cpls i=true→bit s.cpls i=true
 f:∀(n:Nat) (d:Zj),o.divs.els[n]? = some d→bit s.off n=true→bit r.off n=true
 t:∀(n:Nat) (d:Zj) (x:Int) (j:Nat) (t:Zr),o.divs.els[n]? = some d→r.stops.els[n]? = some x→d.stops.els[j]? = some t→bit x j=true→∃y,s.stops.els[n]? = some y∧bit y j=true
section
variable {o:Org} {r s:Reg} (L:Le o r s)
include L
end
theorem zdm(b:Nat→Nat):∀(l:List Zj) (i n:Nat) (d:Zj),l[n]? = some d→(vJ b i l)[n]? = some (zb5 (b ((i+n) % 3):Int) (zsp d))
 | [],_,_,_,h=>by simp at h
 |e::l,i,n,d,h=>by
  cases n with
  |zero=>simp only[Yzi,Option.some.injEq]at h;subst h;rfl
  |succ n=>have:=zdm b l (i+1) n d (by simpa using h);rw[vJ,Yzt,this,show i+1+n=i+(n+1) by omega]
theorem qH{rs:List Zk}{low high:Int}:∀{l:List Pul} {i:Nat} {s:Zr},s∈wn rs low high i l→∃j x,s=vz rs low high j x
 | [],_,_,h=>by cases h
 |x::l,i,s,h=>by
  rcases YzA.1 h with rfl|h
  ·exact⟨i,x,rfl⟩
  ·exact qH h
theorem zrS(rs:List Zk)(low high:Int)(i:Nat)(x:Pul)(key:Int):(uO (vz rs low high i x) key).draws.els.length≤2:=by
 have hall:∀n sh m sh2 a kd,∀g∈yZ low high n sh m sh2 a kd,g.draws.els.length≤2:=by
  intro n sh m sh2 a kd;unfold yZ;split
  ·simp
  ·split<;>simp
  ·split<;>simp
  ·simp
  ·simp
 unfold uO;cases hf:(vz rs low high i x).segs.els.find? (xK key) with
 |none=>simp[zcr]
 |some g=>exact hall _ _ _ _ _ _ g (List.mem_of_find?_eq_some hf)
theorem uS{rs:List Zk}:∀{l:List Boa} {i:Nat} {d:Zj},d∈vA rs i l→∃j b,b∈l∧d=zdT rs j b
 | [],_,_,h=>by cases h
 |b::l,i,d,h=>by
  rcases YzA.1 h with rfl|h
  ·exact⟨i,b,Yzh ..,rfl⟩
  ·obtain⟨j,c,h1,h2⟩:=uS h;exact⟨j,c,Yzf _ h1,h2⟩
theorem za8{n:Nat}:∀{l:List Lnk} {i:Nat} {c:Cpl},c∈ke n i l→∃j b,c=qm n j b
 | [],_,_,h=>by cases h
 |b::l,i,d,h=>by
  rcases YzA.1 h with rfl|h
  ·exact⟨i,b,rfl⟩
  ·exact za8 h
theorem zet:∀(l:List RPl) (i:Nat),∀r∈wz i l,r.wind.els.length≤25
 | [],_,_,h=>by cases h
 |x::l,i,r,h=>by
  rcases YzA.1 h with rfl|h
  ·show (jI x (1+x.pipes % 25)).length≤25;rw[qZ];omega
  ·exact zet l _ r h
theorem zl3{rs:List Zk}(hl:rs.length≤60)(hw:∀r∈rs,r.wind.els.length≤25){key:Int}{ds:List Zp}{y:Ze}(h:y∈wM rs key ds):q9 y:=by
 unfold wM at h;obtain⟨d,_,hd⟩:=List.mem_filterMap.1 h;unfold qp at hd;split at hd
 ·cases hd
 ·rename_i h0;split at hd
  ·cases hd
  ·rename_i r hr;split at hd
   ·rename_i hn;cases hd;have h1:=(Lz0.1 hr).1;have h2:=hw r (Lz3 hr);unfold q9;simp only;omega
   ·cases hd
theorem zA7(p:Pln)(hf:zdh p=true)(b:Nat→Nat):Fit (za7 p) (qc (za7 p) b):=by
 obtain⟨f1,f2,f3,f4,f5,f6⟩:=uW hf;obtain⟨s1,s2,s3⟩:=zeu p hf;have hdv:(za7 p).divs.els=vA (wz 0 p.ranks.els) 0 p.divs.els:=by unfold za7;simp only[zn]
 have hcp:(za7 p).cpls.els=ke p.divs.els.length 0 p.cpls.els:=by unfold za7;simp only[zn]
 refine⟨s1,s3,s2,fun d hd=>?_,fun x hx=>?_,fun x hx=>?_,fun d hd s hs=>?_,fun key ds y hy=>?_,?_⟩
 ·rw[hdv]at hd;obtain⟨j,b,_,rfl⟩:=uS hd;have q1:=zc3 b;have q2:=zat b;show 0≤zdM b∧zdM b≤ki b∧ki b≤zdM b+8∧ki b≤127;omega
 ·rw[hcp]at hx;obtain⟨j,l,rfl⟩:=za8 hx;rw[hdv,wU];have:=YzO l.dst (show p.divs.els.length > 0 by omega);show (0:Int)≤((l.dst % p.divs.els.length:Nat):Int)∧((l.dst % p.divs.els.length:Nat):Int)<_;omega
 ·rw[hcp]at hx;obtain⟨j,l,rfl⟩:=za8 hx;have q1:(l.shift.tmod 25).natAbs<25:=by
   rw[Int.natAbs_tmod];exact YzO _ (by decide)
  show -1000≤(if _ then 12 else l.shift.tmod 25)∧(if _ then 12 else l.shift.tmod 25)≤1000;split<;>omega
 ·rw[hdv]at hd;obtain⟨j,b,_,rfl⟩:=uS hd;have hs:s∈(grow (wn (wz 0 p.ranks.els) (zdM b) (ki b) 0 b.stops.els)).els:=hs;rw[zn]at hs;refine⟨qG _ _ _ _ _ s hs,fun key=>?_⟩;obtain⟨i,x,rfl⟩:=qH hs;exact zrS ..
 ·have hrk:(za7 p).ranks.els=wz 0 p.ranks.els:=by unfold za7;simp only[zn]
  rw[hrk]at hy;exact zl3 (by rw[uR];omega) (zet _ _) hy
 ·unfold qc;simp only[zn,jv]
theorem zfY{a b:Bool}{P:Prop}(h:a=true↔P)(g:b=true↔P):a=b:=by cases a<;>cases b<;>simp_all
end Go.Proofs.Tryz.Kn
end
section
namespace Go.Proofs.Tryz.Kn
open Go Go.CE Go.PE
structure Ctl where
 kind:Int
 div:Int
 idx:Int
deriving DecidableEq
def zL(c:Ctl):List DV:=[I6 c.kind,I6 c.div,I6 c.idx]
theorem zsZ(a b:Ctl):zb1 [1,1,1] [I6 a.kind,I6 a.div,I6 a.idx] [I6 b.kind,I6 b.div,I6 b.idx]=some (decide (a=b)):=by
 cases a with|mk r s t=>
 cases b with|mk r' s' t'=>
 simp only[zb1,eqD,xw,Yza,jE];by_cases h1:r=r'
 ·by_cases h2:s=s'
  ·by_cases h3:t=t'
   ·simp[h1,h2,h3]
   ·have e3:(t==t')=false:=by simpa using h3
    simp[h1,h2,h3,e3]
  ·have e2:(s==s')=false:=by simpa using h2
   simp[h1,h2,e2]
 ·have e1:(r==r')=false:=by simpa using h1
  simp[h1,e1]
theorem l25(l:Sl Int)(hl:l.els.length≤1000000):∀(r:List Int) (i:Nat),l.els.drop i=r→
  zB (zq3 (I6 (l.els.length:Int)) (enL 1 enU l) (enL 1 enU l)) [I6 (i:Int)] []=some (.exit 0,[],[]):=by
 intro r
 induction r with
 |nil=>intro i h;refine zl ?_;simp only[zq3,zi,zc,zb,yK (zH h),zg];rfl
 |cons x r ih=>
  intro i h;have h1:=zZ h;have ea:zf .add (I6 (i:Int)) (I6 1)=some (I6 ((i+1:Nat):Int)):=yf;have body:zq3 (I6 (l.els.length:Int)) (enL 1 enU l) (enL 1 enU l) [I6 (i:Int)] []=some (.normal,[I6 ((i+1:Nat):Int)],[]):=by simp only[zq3,zi,zc,zb,x4 h1,zg,if_true,zO h,yE,zAC,YzD,Yzw,ea];simp
  rw[zx body,ih (i+1) (zw h)]
theorem t25(k:Nat)(l:Sl Int)(hl:l.els.length≤1000000):D (k+1) 25 [S1 (enL 1 enU l),S1 (enL 1 enU l)]=some (S1 (Bo true)):=by have:=l25 l hl l.els 0 rfl;rw[D25];unfold P25;simp only[zA,zb,yg,YzD,Yzw,zg];rw[show (I6 0:DV)=I6 ((0:Nat):Int) from rfl,this];rfl
theorem t14(k:Nat)(r:Reg)(hr:r.stops.els.length≤1000000):D (k+2) 14 [SA (ym r),SA (ym r)]=some (S1 (Bo true)):=by have c:=t25 k r.stops hr;unfold ym;rw[D14];unfold P14;simp only[c,zR,zg,if_true,xF,zb,YzD]
def wW(a k d:Int):Nat→Nat→List Ctl
 |_,0=>[]
 |i,m+1=>(if bit a i=true then[⟨k,d,(i:Int)⟩] else[])++wW a k d (i+1) m
theorem vG(a k d:Int):∀(m i:Nat),(wW a k d i m).length≤m
 |0,_=>LzB _
 |m+1,i=>by
  have:=vG a k d m (i+1);rw[wW,Yzk];split
  ·simp only[Yzg,Yzx];omega
  ·simp only[Yzx];omega
theorem zaR{a k d:Int}:∀{m i:Nat} {c:Ctl},c∈wW a k d i m→c.kind=k∧c.div=d∧∃j:Nat,c.idx=(j:Int)∧j<i+m
 |0,_,_,h=>by cases h
 |m+1,i,c,h=>by
  rw[wW,YzI]at h;rcases h with h|h
  ·split at h
   ·rw[YzF]at h;subst h;exact⟨rfl,rfl,i,rfl,by omega⟩
   ·cases h
  ·obtain⟨h1,h2,j,h3,h4⟩:=zaR h;exact⟨h1,h2,j,h3,by omega⟩
theorem zeA{F:List DV→List OC→Option PX}{a k d:Int}{n e:Nat}
  (hs:∀(i:Nat) (acc:List Ctl),i<n→acc.length≤1000000→F [I6 (i:Int)] [ocL zL (grow acc)]=some (.normal,[I6 ((i+1:Nat):Int)],[ocL zL (grow (if bit a i=true then acc++[⟨k,d,(i:Int)⟩] else acc))]))
  (he:∀acc:List Ctl,F [I6 (n:Int)] [ocL zL (grow acc)]=some (.exit e,[],[ocL zL (grow acc)])):
  ∀(m i:Nat) (acc:List Ctl),i+m=n→acc.length+m≤1000000→zB F [I6 (i:Int)] [ocL zL (grow acc)]=some (.exit e,[],[ocL zL (grow (acc++wW a k d i m))]):=by
 intro m
 induction m with
 |zero=>
  intro i acc hi _;have hi:i=n:=by omega
  subst hi;rw[zl (he acc)];simp[wW]
 |succ m ih=>intro i acc hi ha;rw[zx (hs i acc (by omega) (by omega)),ih (i+1) _ (by omega) (by split<;>(try simp only[Yzk,Yzg,Yzx])<;>omega),wW];split<;>simp
def wP:List Zj→List Int→Nat→List Ctl
 |d::ds,s::ss,i=>wW s 1 (i:Int) 0 d.stops.els.length++wP ds ss (i+1)
 |_,_,_=>[]
def qe(o:Org)(r:Reg):List Ctl:=wP o.divs.els r.stops.els 0++wW r.cpls 2 0 0 o.cpls.els.length++wW r.off 3 0 0 o.divs.els.length
theorem b31(st:Sl Int)(s:Int)(i0:Nat)(h':st.els[i0]? = some s)(n:Nat)(hn:n≤1000)(m i:Nat)(acc:List Ctl)(hi:i+m=n)(ha:acc.length+m≤1000000):
  zB (zie (I6 (n:Int)) (enL 1 enU st) [I6 (i0:Int)]) [I6 (i:Int)] [ocL zL (grow acc)]=some (.exit 2,[],[ocL zL (grow (acc++wW s 1 (i0:Int) i m))]):=by
 have ix:yy 1 (enL 1 enU st) (I6 (i0:Int))=some [U64 s]:=by rw[yb,h'];rfl
 refine zeA (fun i acc hi ha=>?_) (fun acc=>?_) m i acc hi ha
 ·have ea:zf .add (I6 (i:Int)) (I6 1)=some (I6 ((i+1:Nat):Int)):=yf;have ef:fits 24 ((grow acc).els.length+1)=true:=yM (by decide) (by rw[zn];omega);by_cases hb:bit s i=true
  ·rw[Yze hb,yw,←y0 (f:=zL)];unfold bit at hb;simp only[zie,zi,zp,zc,zb,x4 hi,zg,if_true,ix,yE,zcb,yT,zdW,hb,zY,zU,ef,yF,ea,zL]
  ·rw[Yzb hb];unfold bit at hb;have hb:=(Yyo _).mp hb;simp only[zie,zi,zp,zc,zb,x4 hi,zg,if_true,ix,yE,zcb,yT,zdW,hb,Yzc,if_false,ea]
 ·have:=yK (LzB n);simp only[zie,zi,zp,zc,zb,this,zg,Yzc,if_false]
theorem c31(a:Int)(n:Nat)(hn:n≤1000)(m i:Nat)(acc:List Ctl)(hi:i+m=n)(ha:acc.length+m≤1000000):
  zB (zid (I6 (n:Int)) (U64 a)) [I6 (i:Int)] [ocL zL (grow acc)]=some (.exit 4,[],[ocL zL (grow (acc++wW a 2 0 i m))]):=by
 refine zeA (fun i acc hi ha=>?_) (fun acc=>?_) m i acc hi ha
 ·have ea:zf .add (I6 (i:Int)) (I6 1)=some (I6 ((i+1:Nat):Int)):=yf;have ef:fits 24 ((grow acc).els.length+1)=true:=yM (by decide) (by rw[zn];omega);by_cases hb:bit a i=true
  ·rw[Yze hb,yw,←y0 (f:=zL)];unfold bit at hb;simp only[zid,zi,zp,zc,zb,x4 hi,zg,if_true,zcb,yT,zdW,hb,zY,zU,ef,yF,ea,zL]
  ·rw[Yzb hb];unfold bit at hb;have hb:=(Yyo _).mp hb;simp only[zid,zi,zp,zc,zb,x4 hi,zg,if_true,zcb,yT,zdW,hb,Yzc,if_false,ea]
 ·have:=yK (LzB n);simp only[zid,zi,zp,zc,zb,this,zg,Yzc,if_false]
theorem f31(a:Int)(n:Nat)(hn:n≤1000)(m i:Nat)(acc:List Ctl)(hi:i+m=n)(ha:acc.length+m≤1000000):
  zB (zic (I6 (n:Int)) (U64 a)) [I6 (i:Int)] [ocL zL (grow acc)]=some (.exit 6,[],[ocL zL (grow (acc++wW a 3 0 i m))]):=by
 refine zeA (fun i acc hi ha=>?_) (fun acc=>?_) m i acc hi ha
 ·have ea:zf .add (I6 (i:Int)) (I6 1)=some (I6 ((i+1:Nat):Int)):=yf;have ef:fits 24 ((grow acc).els.length+1)=true:=yM (by decide) (by rw[zn];omega);by_cases hb:bit a i=true
  ·rw[Yze hb,yw,←y0 (f:=zL)];unfold bit at hb;simp only[zic,zi,zp,zc,zb,x4 hi,zg,if_true,zcb,yT,zdW,hb,zY,zU,ef,yF,ea,zL]
  ·rw[Yzb hb];unfold bit at hb;have hb:=(Yyo _).mp hb;simp only[zic,zi,zp,zc,zb,x4 hi,zg,if_true,zcb,yT,zdW,hb,Yzc,if_false,ea]
 ·have:=yK (LzB n);simp only[zic,zi,zp,zc,zb,this,zg,Yzc,if_false]
theorem l31(dv:Sl Zj)(hd:dv.els.length≤1000)(hs:∀d∈dv.els,d.stops.els.length≤60)(st:Sl Int):∀(ds:List Zj) (ss:List Int) (i:Nat) (acc:List Ctl),dv.els.drop i=ds→st.els.drop i=ss→ss.length=ds.length→i≤1000→acc.length≤100*i→
  ∃acc':List Ctl,acc'.length≤100000∧acc'=acc++wP ds ss i∧zB (zq0 (I6 (dv.els.length:Int)) (enL 5 enV dv) (enL 1 enU st)) [I6 (i:Int)] [ocL zL (grow acc)]=some (.exit 0,[],[ocL zL (grow acc')]):=by
 intro ds
 induction ds with
 |nil=>intro ss i acc h h' hl hi ha;refine⟨acc,by omega,by simp[wP],zl ?_⟩;simp only[zq0,zi,zp,zc,zb,yK (zH h),zg,Yzc,if_false]
 |cons d ds ih=>
  intro ss i acc h h' hl hi ha;have h1:=zZ h;cases ss with
  |nil=>simp at hl
  |cons s ss=>
   have hdm:=hs d (Lz3 (zJ h));have ea:zf .add (I6 (i:Int)) (I6 1)=some (I6 ((i+1:Nat):Int)):=yf;have inn:=b31 st s i (zJ h') d.stops.els.length (by omega) d.stops.els.length 0 acc (by omega) (by omega);have len:=vG s 1 (i:Int) d.stops.els.length 0;have body:zq0 (I6 (dv.els.length:Int)) (enL 5 enV dv) (enL 1 enU st) [I6 (i:Int)] [ocL zL (grow acc)]=some (.normal,[I6 ((i+1:Nat):Int)],[ocL zL (grow (acc++wW s 1 (i:Int) 0 d.stops.els.length))]):=by simp only[zq0,zi,zp,zc,zb,x4 h1,zg,if_true,zO h,enV,yE,xc,zA];rw[show (I6 0:DV)=I6 ((0:Nat):Int) from rfl,inn];simp only[zt,Yzj,Yza,ea,zb,zp]
   obtain⟨acc',q1,q2,q3⟩:=ih ss (i+1) (acc++wW s 1 (i:Int) 0 d.stops.els.length) (zw h) (zw h') (by simpa using hl) (by omega) (by rw[Yzk];omega);exact⟨acc',q1,by rw[q2,wP,YzC],by rw[zx body,q3]⟩
theorem t31(k:Nat)(o:Org)(r:Reg)(hd:o.divs.els.length≤1000)(hs:∀d∈o.divs.els,d.stops.els.length≤60)(hc:o.cpls.els.length≤1000)(hl:r.stops.els.length=o.divs.els.length):
  D (k+1) 31 [SA (enO o),SA (ym r)]=some (S1 (enL 3 zL (grow (qe o r)))):=by
 obtain⟨acc,q1,q2,q3⟩:=l31 o.divs hd hs r.stops o.divs.els r.stops.els 0 [] rfl rfl hl (by omega) (by simp);have c:=c31 r.cpls o.cpls.els.length hc o.cpls.els.length 0 acc (by omega) (by omega);have lc:=vG r.cpls 2 0 o.cpls.els.length 0;have f:=f31 r.off o.divs.els.length hd o.divs.els.length 0 (acc++wW r.cpls 2 0 0 o.cpls.els.length) (by omega) (by rw[Yzk];omega);unfold enO ym;rw[D31];unfold P31;simp only[zA,zb];rw[show (I6 0:DV)=I6 ((0:Nat):Int) from rfl,show ([none]:List OC)=[ocL zL (grow ([]:List Ctl))] from rfl,q3];simp only[zt,Yzj,Yza,zp];rw[c];simp only[zt,Yzj,Yza,zp];rw[f];simp only[zt,Yzj,Yza,zp,yX];rw[q2,YzK];rfl
def zwm(c:Ctl)(n:Nat):Prop:=
 (c.kind=1∧∃i j:Nat,c.div=(i:Int)∧c.idx=(j:Int)∧i<n∧j≤60)∨(c.kind=2∧∃j:Nat,c.idx=(j:Int)∧j≤60)∨(c.kind=3∧∃j:Nat,c.idx=(j:Int)∧j≤60)
theorem zd3:∀(ds:List Zj) (ss:List Int) (i:Nat),(∀d∈ds,d.stops.els.length≤60)→∀c∈wP ds ss i,c.kind=1∧∃a j:Nat,c.div=(a:Int)∧c.idx=(j:Int)∧a<i+ss.length∧j≤60
 | [],_,_,_,_,h=>by cases h
 |_::_,[],_,_,_,h=>by cases h
 |d::ds,s::ss,i,hs,c,h=>by
  rw[wP,YzI]at h;rcases h with h|h
  ·obtain⟨h1,h2,j,h3,h4⟩:=zaR h;have:=hs d (Yzh ..);exact⟨h1,i,j,h2,h3,by simp only[Yzg];omega,by omega⟩
  ·obtain⟨h1,a,j,h2,h3,h4,h5⟩:=zd3 ds ss (i+1) (fun x hx=>hs x (Yzf _ hx)) c h;exact⟨h1,a,j,h2,h3,by simp only[Yzg];omega,h5⟩
theorem zdr{o:Org}{r:Reg}(hd:o.divs.els.length≤60)(hs:∀d∈o.divs.els,d.stops.els.length≤60)(hc:o.cpls.els.length≤60):∀c∈qe o r,zwm c r.stops.els.length:=by
 intro c h;unfold qe at h;rw[YzI,YzI]at h;rcases h with (h|h)|h
 ·obtain⟨h1,a,j,h2,h3,h4,h5⟩:=zd3 _ _ _ hs c h;exact .inl ⟨h1,a,j,h2,h3,by omega,h5⟩
 ·obtain⟨h1,_,j,h3,h4⟩:=zaR h;exact .inr (.inl ⟨h1,j,h3,by omega⟩)
 ·obtain⟨h1,_,j,h3,h4⟩:=zaR h;exact .inr (.inr ⟨h1,j,h3,by omega⟩)
def pw(c:Ctl):Int:=((2^c.idx.toNat:Nat):Int)
def xN(l:List Int)(cp off:Int)(c:Ctl):Reg:=
 if c.kind=1 then⟨some (l.set c.div.toNat (wX ((l[c.div.toNat]?).getD 0) (pw c))),cp,off⟩ else if c.kind=2 then⟨some l,wX cp (pw c),off⟩ else⟨some l,cp,wX off (pw c)⟩
theorem t35(k:Nat)(l:List Int)(cp off:Int)(h2:l.length≤1000)(c:Ctl)(hc:zwm c l.length):D (k+1) 35 [SA (ym ⟨some l,cp,off⟩),SA (zL c)]=some (SA (ym (xN l cp off c))):=by
 have ef:fits 8 (xt (some [])+(l.map enU).length)=true:=yM (by decide) (by simp;omega);obtain⟨kd,dv,ix⟩:=c;unfold ym zL;rw[D35];unfold P35;simp only[zcK,Option.isNone_some,zb,zg,Yzc,if_false,vX,yn,ef,yF,xF,zdG];rcases hc with⟨h1,i,j,h3,h4,h5,h6⟩|⟨h1,j,h4,h6⟩|⟨h1,j,h4,h6⟩
 ·simp only at h1 h3 h4;subst h1 h3 h4;obtain⟨s,hs⟩:∃s,l[i]? = some s:=⟨_,Lz5 h5⟩;have e1:y2 (some (l.map enU)) (I6 (i:Int))=some i:=wv (by rw[Yzq];exact h5);have e2:vZ (some (l.map enU)) i=some [U64 s]:=by rw[zan,hs];rfl
  have e3:yj true (U64 1) (I6 (j:Int))=some (U64 ((2^j:Nat):Int)):=zdS (by omega);have e4:zgR 1 (some (l.map enU)) i 0 [U64 (wX s ((2^j:Nat):Int))]=some (some ((l.set i (wX s ((2^j:Nat):Int))).map enU)):=zzF hs (Lz4 rfl) rfl;simp only[YzD,if_true,e1,zb,e2,yE,e3,wS,e4,xN,pw,Yzp,hs,Yyb,ut,w7]
 ·simp only at h1 h4;subst h1 h4;have e3:yj true (U64 1) (I6 (j:Int))=some (U64 ((2^j:Nat):Int)):=zdS (by omega);have q:((2:Int)==1)=false:=rfl;have q2:¬((2:Int)=1):=by decide
  simp only[q,Yzc,if_false,YzD,if_true,zb,e3,wS,xN,q2,pw,Yzp,ut,w7]
 ·simp only at h1 h4;subst h1 h4;have e3:yj true (U64 1) (I6 (j:Int))=some (U64 ((2^j:Nat):Int)):=zdS (by omega);have q:((3:Int)==1)=false:=rfl;have q':((3:Int)==2)=false:=rfl;have q2:¬((3:Int)=1):=by decide
  have q3:¬((3:Int)=2):=by decide
  simp only[q,q',Yzc,if_false,YzD,if_true,zb,e3,wS,xN,q2,q3,pw,Yzp,ut,w7]
end Go.Proofs.Tryz.Kn
end
section
namespace Go.Proofs.Tryz.Kn
open Go Go.CE Go.PE
def wOk(w:Int)(n:Nat):Prop:=n≤3∧∃m:Nat,w=(m:Int)∧m<2^n
theorem zAF{n:Nat}(h:n≤3):n∈[0,1,2,3]:=by
 have:n=0∨n=1∨n=2∨n=3:=by omega
 rcases this with rfl|rfl|rfl|rfl<;>simp
theorem zwY:([0,1,2,3].all fun n=>(List.range (2^n)).all fun m=>zd6 (m:Int) n==0&&((List.range n).all fun j=>!bit (m:Int) j||((List.range m).any fun m'=>wX (m:Int) ((2^j:Nat):Int)==(m':Int))))=true:=by kernel_rfl
theorem zso:([0,1,2,3].all fun n=>(List.range 256).all fun x=>(List.range (2^n)).any fun m=>zb5 (x:Int) (qI n)==(m:Int))=true:=by kernel_rfl
theorem ziD{w:Int}{n:Nat}(h:wOk w n):zd6 w n=0:=by
 obtain⟨hn,m,rfl,hm⟩:=h;have:=Yz3.1 (Yz3.1 zwY n (zAF hn)) m (List.mem_range.2 hm);rw[LzC]at this
 simpa using this.1
theorem zct{w:Int}{n j:Nat}(h:wOk w n)(hj:j<n)(hb:bit w j=true):wOk (wX w ((2^j:Nat):Int)) n∧0≤wX w ((2^j:Nat):Int)∧wX w ((2^j:Nat):Int)<w:=by
 obtain⟨hn,m,rfl,hm⟩:=h;have q:=Yz3.1 (Yz3.1 zwY n (zAF hn)) m (List.mem_range.2 hm);rw[LzC]at q;have q:=Yz3.1 q.2 j (List.mem_range.2 hj);rw[hb,Yzw,Yz7,List.any_eq_true]at q;obtain⟨m',h1,h2⟩:=q;have h1:=List.mem_range.1 h1;have h2:wX (m:Int) ((2^j:Nat):Int)=(m':Int):=by simpa using h2
 rw[h2];exact⟨⟨hn,m',rfl,by omega⟩,by omega,by omega⟩
theorem ze6{x n:Nat}(hx:x<256)(hn:n≤3):wOk (zb5 (x:Int) (qI n)) n:=by have q:=Yz3.1 (Yz3.1 zso n (zAF hn)) x (List.mem_range.2 hx);rw[List.any_eq_true]at q;obtain⟨m,h1,h2⟩:=q;exact⟨hn,m,by simpa using h2,List.mem_range.1 h1⟩
structure Few (o:Org) (l:List Int) (cp off:Int):Prop where
 len:l.length=o.divs.els.length
 st:∀(n:Nat) (d:Zj) (s:Int),o.divs.els[n]? = some d→l[n]? = some s→wOk s d.stops.els.length
 cp:wOk cp o.cpls.els.length
 off:wOk off o.divs.els.length
theorem zek:∀(ds:List Zj) (ss:List Int),(∀(n:Nat) (d:Zj) (s:Int),ds[n]? = some d→ss[n]? = some s→wOk s d.stops.els.length)→qr ds ss=false
 | [],_,_=>by unfold qr;rfl
 |_::_,[],_=>by unfold qr;rfl
 |d::ds,s::ss,h=>by rw[qr,ziD (h 0 d s rfl rfl),zek ds ss fun n d s h1 h2=>h (n+1) d s (by simpa using h1) (by simpa using h2)];rfl
theorem zpM{o:Org}(h0:vM o=0){l:List Int}{cp off:Int}(F:Few o l cp off):jC o ⟨some l,cp,off⟩=0:=by unfold jC;simp only[yn,F.len,zek _ _ F.st,ziD F.cp,ziD F.off];rw[Yzb (by rw[h0];simp)];simp
def znA:List Int→Int
 | []=>0
 |s::l=>s+znA l
theorem zkd:∀(l:List Int) (i:Nat) (s s':Int),l[i]? = some s→znA (l.set i s')=znA l-s+s'
 | [],_,_,_,h=>by simp at h
 |x::l,0,s,s',h=>by simp only[Yzi,Option.some.injEq]at h;subst h;rw[List.set_cons_zero,znA,znA];omega
 |x::l,i+1,s,s',h=>by rw[List.set_cons_succ,znA,znA,zkd l i s s' (by simpa using h)];omega
def zdl(l:List Int)(cp off:Int):Int:=znA l+cp+off
theorem zaS{a k d:Int}:∀{m i:Nat} {c:Ctl},c∈wW a k d i m→c.kind=k∧c.div=d∧∃j:Nat,c.idx=(j:Int)∧j<i+m∧bit a j=true
 |0,_,_,h=>by cases h
 |m+1,i,c,h=>by
  rw[wW,YzI]at h;rcases h with h|h
  ·split at h
   ·rename_i hb;rw[YzF]at h;subst h;exact⟨rfl,rfl,i,rfl,by omega,hb⟩
   ·cases h
  ·obtain⟨h1,h2,j,h3,h4,h5⟩:=zaS h;exact⟨h1,h2,j,h3,by omega,h5⟩
theorem zd4:∀{ds:List Zj} {ss:List Int} {i:Nat} {c:Ctl},c∈wP ds ss i→c.kind=1∧∃(a:Nat) (d:Zj) (s:Int) (j:Nat),c.div=((i+a:Nat):Int)∧ds[a]? = some d∧ss[a]? = some s∧c.idx=(j:Int)∧j<d.stops.els.length∧bit s j=true
 | [],_,_,_,h=>by unfold wP at h;cases h
 |_::_,[],_,_,h=>by unfold wP at h;cases h
 |d::ds,s::ss,i,c,h=>by
  rw[wP,YzI]at h;rcases h with h|h
  ·obtain⟨h1,h2,j,h3,h4,h5⟩:=zaS h;exact⟨h1,0,d,s,j,h2,rfl,rfl,h3,by omega,h5⟩
  ·obtain⟨h1,a,d',s',j,h2,h3,h4,h5,h6,h7⟩:=zd4 h;exact⟨h1,a+1,d',s',j,by rw[h2,show i+1+a=i+(a+1) by omega],by simpa using h3,by simpa using h4,h5,h6,h7⟩
theorem zla{o:Org}{l:List Int}{cp off:Int}(F:Few o l cp off){c:Ctl}(hc:c∈qe o ⟨some l,cp,off⟩):∃l' cp' off',xN l cp off c=⟨some l',cp',off'⟩∧Few o l' cp' off'∧zdl l' cp' off'<zdl l cp off:=by
 unfold qe at hc;rw[YzI,YzI]at hc;unfold xN zdl;rcases hc with (hc|hc)|hc
 ·obtain⟨h1,a,d,s,j,h2,h3,h4,h5,h6,h7⟩:=zd4 hc;rw[Yzm]at h2;simp only[yn]at h4;obtain⟨q1,q2,q3⟩:=zct (F.st a d s h3 h4) h6 h7;rw[Yze h1,h2,Yzp,h4,Yyb,pw,h5,Yzp];refine⟨_,_,_,rfl,⟨by rw[List.length_set];exact F.len,fun n d' s' g1 g2=>?_,F.cp,F.off⟩,?_⟩
  ·by_cases hn:a=n
   ·subst hn;rw[h3]at g1;cases g1;rw[List.getElem?_set_self (Lz0.1 h4).1]at g2;cases g2;exact q1
   ·rw[List.getElem?_set_ne hn]at g2;exact F.st n d' s' g1 g2
  ·rw[zkd l a s _ h4];omega
 ·obtain⟨h1,h2,j,h5,h6,h7⟩:=zaS hc;obtain⟨q1,q2,q3⟩:=zct F.cp (by omega) h7;rw[Yzb (by rw[h1];decide),Yze h1,pw,h5,Yzp];exact⟨_,_,_,rfl,⟨F.len,F.st,q1,F.off⟩,by omega⟩
 ·obtain⟨h1,h2,j,h5,h6,h7⟩:=zaS hc;obtain⟨q1,q2,q3⟩:=zct F.off (by omega) h7;rw[Yzb (by rw[h1];decide),Yzb (by rw[h1];decide),pw,h5,Yzp];exact⟨_,_,_,rfl,⟨F.len,F.st,F.cp,q1⟩,by omega⟩
theorem znz{o:Org}{l:List Int}{cp off:Int}(F:Few o l cp off):0≤zdl l cp off:=by
 have h:∀(ss:List Int),(∀s∈ss,0≤s)→0≤znA ss:=by
  intro ss
  induction ss with
  |nil=>intro _;simp[znA]
  |cons s ss ih=>intro H;have:=H s (Yzh ..);have:=ih fun x hx=>H x (Yzf _ hx);rw[znA];omega
 have h1:=h l fun s hs=>by obtain⟨n,hn⟩:=Yz8 hs;have hl:=F.len;have:=(Lz0.1 hn).1;obtain⟨_,m,rfl,_⟩:=F.st n _ s (Lz5 (by omega)) hn;omega
 obtain⟨_,m,h2,_⟩:=F.cp;obtain⟨_,m',h3,_⟩:=F.off;unfold zdl;omega
section
variable {o:Org} (ho:o.ok) (h0:vM o=0) (hsm:∀d∈o.divs.els,d.stops.els.length≤60) (hcl:o.cpls.els.length≤60) (FF:∀(l:List Int) (cp off:Int),l.length=o.divs.els.length→Fit o ⟨some l,cp,off⟩)
noncomputable def wt(o:Org)(r s:Reg):Bool:=@decide (Alike o r s) (Classical.propDecidable _)
theorem likeB_iff{r s:Reg}:wt o r s=true↔Alike o r s:=by unfold wt;exact @decide_eq_true_iff _ (Classical.propDecidable _)
theorem alike_refl(r:Reg):Alike o r r:=fun _ _ _=>Iff.rfl
theorem znf{r s:Reg}(h:Alike o r s):Alike o s r:=fun c hc z=>(h c hc z).symm
theorem qX{r s t:Reg}(h:Alike o r s)(g:Alike o s t):Alike o r t:=fun c hc z=>(h c hc z).trans (g c hc z)
theorem t34(k:Nat){A B:List (List (Sl Ze))}{r s:Reg}(F:Fit o r)(a2:A.length=o.divs.els.length)(b2:B.length=o.divs.els.length)(a3:Rows o (wp o r) A)(b3:Rows o (wp o s) B):
  D (k+3) 34 [SA (enO o),S1 (.lst 1 (A.map yl)),S1 (.lst 1 (B.map yl))]=some (S1 (Bo (wt o r s))):=by
 have W:=zBU F a2 b2 a3 b3;have c:=t36 W F.dl (fun d hd=>by have:=F.rng d hd;omega) (f:=.fn 37 []) (H:=fun x y=>decide (x.els=y.els)) (k:=k+1) fun x y hx _=>t37 k x y hx;have e:(zeV (fun x y=>decide (x.els=y.els)) 0 A B).isNone=wt o r s:=zfY (P:=Alike o r s) (by rw[Option.isNone_iff_eq_none,zhS F a2 b2 a3 b3 (Q:=fun c=>∀z,zdY o r c z↔zdY o s c z) fun n key x y hx hy=>by rw[decide_eq_true_iff];exact zcz hx hy];rfl) likeB_iff
 rw[e]at c;unfold enO at c ⊢;rw[D34];unfold P34;rw[c];rfl
include hsm hcl FF in
theorem t33(k:Nat){A:List (List (Sl Ze))}{r:Reg}{l:List Int}{cp off:Int}(F:Fit o r)(W:Few o l cp off)(a2:A.length=o.divs.els.length)(a3:Rows o (wp o r) A){c:Ctl}(hc:c∈qe o ⟨some l,cp,off⟩):
  zeW (D (k+7)) (.fn 33 [enO o,[.lst 1 (A.map yl)],ym ⟨some l,cp,off⟩]) [SA (zL c)]=some (S1 (Bo (wt o r (xN l cp off c)))):=by
 have hl:=W.len;have hdl:=F.dl;obtain⟨l',cp',off',e,W',_⟩:=zla W hc;have F':Fit o (xN l cp off c):=by rw[e];exact FF _ _ _ W'.len
 obtain⟨B,b1',b2,b3⟩:=t29 F' (k+1);have cs:=t34 (k+3) F a2 b2 a3 b3;have cw:=t35 (k+5) l cp off (by omega) c (by have:=zdr (r:=⟨some l,cp,off⟩) (by omega) hsm hcl c hc;exact this)
 show D (k+7) 33 [SA (zL c),S1 (.fp (enO o) 0),S1 (.fp [.lst 1 (A.map yl)] 0),S1 (.fp (ym ⟨some l,cp,off⟩) 0)]=_;rw[e]at cw b1' cs ⊢;unfold enO ym zL at *;rw[D33];unfold P33;simp only[cw,bA,yE,xc,b1',zR,cs];rfl
include hsm hcl FF in
theorem l32(k:Nat){A:List (List (Sl Ze))}{r:Reg}{l:List Int}{cp off:Int}(F:Fit o r)(W:Few o l cp off)(a2:A.length=o.divs.els.length)(a3:Rows o (wp o r) A)(q:List Ctl)(hq:q.length≤1000000)(hin:∀c∈q,c∈qe o ⟨some l,cp,off⟩):∀(x:List Ctl) (i:Nat),q.drop i=x→
  zB (zgz (D (k+7)) (I6 (q.length:Int)) (enL 3 zL (grow q)) (.fn 33 [enO o,[.lst 1 (A.map yl)],ym ⟨some l,cp,off⟩])) [I6 (i:Int)] []=some (found (y3 (fun c=>wt o r (xN l cp off c)) x i)):=by
 intro x
 induction x with
 |nil=>intro i h;refine zl ?_;simp only[zgz,zi,zc,zb,yK (zH h),zg];rfl
 |cons c x ih=>
  intro i h;have h1:=zZ h;have ea:zf .add (I6 (i:Int)) (I6 1)=some (I6 ((i+1:Nat):Int)):=yf;have cc:=t33 hsm hcl FF k F W a2 a3 (hin c (Lz3 (zJ h)));unfold zL at cc;have ix:yy 3 (enL 3 zL (grow q)) (I6 (i:Int))=some (zL c):=by rw[yb,zn,zJ h];rfl
  have body:zgz (D (k+7)) (I6 (q.length:Int)) (enL 3 zL (grow q)) (.fn 33 [enO o,[.lst 1 (A.map yl)],ym ⟨some l,cp,off⟩]) [I6 (i:Int)] []=some (if wt o r (xN l cp off c)=true then(.ret,[I6 (i:Int)],[]) else(.normal,[I6 ((i+1:Nat):Int)],[])):=by simp only[zgz,zi,zc,zb,x4 h1,zg,if_true,ix,zL,yE,xc,cc,zR,ea];cases wt o r (xN l cp off c)<;>rfl
  unfold y3;by_cases hc:wt o r (xN l cp off c)=true
  ·rw[Yze hc]at body ⊢;rw[zG body];rfl
  ·rw[Yzb hc]at body ⊢;rw[zx body,ih (i+1) (zw h)]
theorem zcl{l:List Int}{cp off:Int}(h:l.length≤3)(hsm:∀d∈o.divs.els,d.stops.els.length≤60)(hdl:o.divs.els.length≤60)(hcl:o.cpls.els.length≤60):(qe o ⟨some l,cp,off⟩).length≤1000000:=by
 have a1:∀(ds:List Zj) (ss:List Int) (i:Nat),(∀d∈ds,d.stops.els.length≤60)→(wP ds ss i).length≤60*ds.length:=by
  intro ds
  induction ds with
  |nil=>intro ss i _;cases ss<;>simp[wP]
  |cons d ds ih=>
   intro ss i h;cases ss with
   |nil=>simp[wP]
   |cons s ss=>have q1:=ih ss (i+1) fun x hx=>h x (Yzf _ hx);have q2:=vG s 1 (i:Int) d.stops.els.length 0;have q3:=h d (Yzh ..);rw[wP,Yzk,Yzg];omega
 have q1:=a1 o.divs.els l 0 hsm;have q2:=vG cp 2 0 o.cpls.els.length 0;have q3:=vG off 3 0 o.divs.els.length 0;unfold qe;rw[Yzk,Yzk];simp only[yn];omega
theorem zeK{α:Type}(p:α→Bool):∀(l:List α) (i:Nat),(y3 p l i=none→∀x∈l,p x=false)∧∀j,y3 p l i=some j→∃x,i≤j∧l[j-i]? = some x∧p x=true
 | [],i=>⟨fun _ x hx=>(by cases hx),fun j h=>by unfold y3 at h;cases h⟩
 |x::l,i=>by
  obtain⟨h1,h2⟩:=zeK p l (i+1);unfold y3;by_cases hc:p x=true
  ·rw[Yze hc];refine⟨fun h=>(by cases h),fun j h=>?_⟩;cases h;exact⟨x,LzB _,by simp,hc⟩
  ·rw[Yzb hc];refine⟨fun h y hy=>?_,fun j h=>?_⟩
   ·rcases YzA.1 hy with rfl|hy
    ·simpa using hc
    ·exact h1 h y hy
   ·obtain⟨y,q1,q2,q3⟩:=h2 j h;exact⟨y,by omega,by rw[show j-i=(j-(i+1))+1 by omega];simpa using q2,q3⟩
def stO(l:List Int)(cp off:Int):List DV:=[.nils,U64 0,U64 0,enL 1 enU (some l),U64 cp,U64 off]
def zCi(l:List Int)(cp off:Int):PX:=(.ret,[I6 0,enL 1 enU (some l),U64 cp,U64 off,enL 1 enU (some l),U64 cp,U64 off],[])
include hsm hcl FF in
theorem zgW(k:Nat){A:List (List (Sl Ze))}{r:Reg}{l:List Int}{cp off:Int}(F:Fit o r)(W:Few o l cp off)(a2:A.length=o.divs.els.length)(a3:Rows o (wp o r) A):
  zlL (D (k+8)) (St o.name) (enL 6 enR o.ranks) (enL 5 enV o.divs) (enL 5 enC o.cpls) (.lst 1 (A.map yl)) (stO l cp off) []=match y3 (fun c=>wt o r (xN l cp off c)) (qe o ⟨some l,cp,off⟩) 0 with
   |none=>some (zCi l cp off)
   |some j=>match (qe o ⟨some l,cp,off⟩)[j]? with
    |some c=>some (.normal,.nils::U64 0::U64 0::ym (xN l cp off c),[])
    |none=>none:=by
 have hl:=W.len;have hdl:=F.dl;have cc:=t31 (k+7) o ⟨some l,cp,off⟩ (by omega) hsm (by omega) hl;have hlen:=zcl (o:=o) (l:=l) (cp:=cp) (off:=off) (by omega) hsm (by omega) hcl;have li:=l32 hsm hcl FF k F W a2 a3 (qe o ⟨some l,cp,off⟩) hlen (fun _ h=>h) (qe o ⟨some l,cp,off⟩) 0 rfl;have fs:=zeK (fun c=>wt o r (xN l cp off c)) (qe o ⟨some l,cp,off⟩) 0;have cf:D (k+8) 32 [S1 (enL 3 zL (grow (qe o ⟨some l,cp,off⟩))),S1 (.fn 33 [enO o,[.lst 1 (A.map yl)],ym ⟨some l,cp,off⟩])]=some (S1 (I6 (match y3 (fun c=>wt o r (xN l cp off c)) (qe o ⟨some l,cp,off⟩) 0 with|some i=>(i:Int)|none=>-1))):=by rw[D32];unfold P32;simp only[zA,zn,zb];rw[show (I6 0:DV)=I6 ((0:Nat):Int) from rfl,li];cases y3 (fun c=>wt o r (xN l cp off c)) (qe o ⟨some l,cp,off⟩) 0<;>rfl
 have cw (c:Ctl) (hc:c∈qe o ⟨some l,cp,off⟩):=t35 (k+7) l cp off (by omega) c (zdr (r:=⟨some l,cp,off⟩) (by omega) hsm hcl c hc);unfold enO ym at cc cf;simp only[zlL,stO,zi,yU,cc,zR,cf,zgx,zc,zb,zg];cases hf:y3 (fun c=>wt o r (xN l cp off c)) (qe o ⟨some l,cp,off⟩) 0 with
 |none=>
  have:((-1:Int)<0):=by decide
  simp only[this,decide_true,if_true];rfl
 |some j=>
  obtain⟨c,_,g2,_⟩:=fs.2 j hf;rw[Yyq]at g2;have hn:¬((j:Int)<0):=by omega
  have ix:yy 3 (enL 3 zL (grow (qe o ⟨some l,cp,off⟩))) (I6 (j:Int))=some (zL c):=by rw[yb,zn,g2];rfl
  have cw:=cw c (Lz3 g2);unfold ym at cw;simp only[Yzn,hn,if_false,ix,zb,g2];rw[show[atD (zL c) 0,atD (zL c) 1,atD (zL c) 2]=zL c from rfl,cw];rfl
include hsm hcl FF in
theorem l13(k:Nat){A:List (List (Sl Ze))}{r:Reg}{l:List Int}{cp off:Int}(F:Fit o r)(W:Few o l cp off)(a2:A.length=o.divs.els.length)(a3:Rows o (wp o r) A)(q:List Ctl)(hq:q.length≤1000000)(hin:∀c∈q,c∈qe o ⟨some l,cp,off⟩):∀(x:List Ctl) (i:Nat) (acc:List Ctl),q.drop i=x→acc.length≤i→
  zB (zq6 (D (k+6)) (I6 (q.length:Int)) (enL 3 zL (grow q)) (enL 1 enU (some l)) (U64 cp) (U64 off) (St o.name) (enL 6 enR o.ranks) (enL 5 enV o.divs) (enL 5 enC o.cpls) (.lst 1 (A.map yl))) [I6 (i:Int)] [ocL zL (grow acc)]=some (.exit 0,[],[ocL zL (grow (acc++x.filter fun c=>wt o r (xN l cp off c)))]):=by
 intro x
 induction x with
 |nil=>intro i acc h _;refine zl ?_;simp only[zq6,zi,zp,zc,zb,yK (zH h),zg,List.filter_nil,YzE];rfl
 |cons c x ih=>
  intro i acc h ha;have h1:=zZ h;have ea:zf .add (I6 (i:Int)) (I6 1)=some (I6 ((i+1:Nat):Int)):=yf;have hl:=W.len;have hdl:=F.dl;have hc:=hin c (Lz3 (zJ h));obtain⟨l',cp',off',e,W',_⟩:=zla W hc;have F':Fit o (xN l cp off c):=by rw[e];exact FF _ _ _ W'.len
  obtain⟨B,b1',b2,b3⟩:=t29 F' (k+1);have cs:=t34 (k+3) F a2 b2 a3 b3;have cw:=t35 (k+5) l cp off (by omega) c (zdr (r:=⟨some l,cp,off⟩) (by omega) hsm hcl c hc);have ix:yy 3 (enL 3 zL (grow q)) (I6 (i:Int))=some (zL c):=by rw[yb,zn,zJ h];rfl
  have ef:fits 24 ((grow acc).els.length+1)=true:=yM (by decide) (by rw[zn];omega);have hp:(some ((grow acc).els.map zL++[zL c]):OC)=ocL zL (grow (acc++[c])):=by rw[yw,←y0]
  have body:zq6 (D (k+6)) (I6 (q.length:Int)) (enL 3 zL (grow q)) (enL 1 enU (some l)) (U64 cp) (U64 off) (St o.name) (enL 6 enR o.ranks) (enL 5 enV o.divs) (enL 5 enC o.cpls) (.lst 1 (A.map yl)) [I6 (i:Int)] [ocL zL (grow acc)] =
    some (.normal,[I6 ((i+1:Nat):Int)],[ocL zL (grow (if wt o r (xN l cp off c)=true then acc++[c] else acc))]):=by
   have at3:[atD (zL c) 0,atD (zL c) 1,atD (zL c) 2]=zL c:=rfl;unfold enO at b1' cs;rw[e]at cw b1' cs ⊢;have cw':D (k+6) 35 [SA [enL 1 enU (some l),U64 cp,U64 off],SA (zL c)]=some (SA (ym ⟨some l',cp',off'⟩)):=cw;simp only[zq6,zi,zp,zc,zb,x4 h1,zg,if_true,ix,at3,cw',zqx,zqy,b1',zR,cs,zY,zU,ef,yF,ea,hp];cases wt o r ⟨some l',cp',off'⟩<;>rfl
  rw[zx body,ih (i+1) _ (zw h) (by split<;>(try simp only[Yzk,Yzg,Yzx])<;>omega)];by_cases hb:wt o r (xN l cp off c)=true
  ·rw[Yze hb,List.filter_cons_of_pos (p:=fun c=>wt o r (xN l cp off c)) hb];simp
  ·rw[Yzb hb,List.filter_cons_of_neg (p:=fun c=>wt o r (xN l cp off c)) hb]
include ho h0 hsm hcl FF in
theorem t13(k:Nat){l:List Int}{cp off:Int}(W:Few o l cp off):D (k+12) 13 [SA (enO o),SA (ym ⟨some l,cp,off⟩)]=some (.tup [.one (enL 3 zL (grow ((qe o ⟨some l,cp,off⟩).filter fun c=>wt o ⟨some l,cp,off⟩ (xN l cp off c)))),.one (I6 0)]):=by have F:=FF l cp off W.len;have hl:=W.len;have hdl:=F.dl;obtain⟨A,a1,a2,a3⟩:=t29 F (k+6);have cc:=t28 k o ho (some [⟨some l,cp,off⟩]) (by simp);rw[yn,zCk h0 (zpM h0 W)]at cc;have ct:=t31 (k+10) o ⟨some l,cp,off⟩ (by omega) hsm (by omega) hl;have hlen:=zcl (o:=o) (l:=l) (cp:=cp) (off:=off) (by omega) hsm (by omega) hcl;have lr:=l13 hsm hcl FF (k+5) F W a2 a3 (qe o ⟨some l,cp,off⟩) hlen (fun _ h=>h) (qe o ⟨some l,cp,off⟩) 0 [] rfl (LzB _);unfold enO ym at a1 ct ⊢;unfold enO at cc;rw[D13];unfold P13;rw[show DV.lst 3 [[enL 1 enU (some l),U64 cp,U64 off]]=enL 3 ym (some [⟨some l,cp,off⟩]) from rfl,cc];simp only[zgx,yg,zb,YzD,Yzw,zg,Yzc,if_false,a1,zR,ct,zA,zn];rw[show (I6 0:DV)=I6 ((0:Nat):Int) from rfl,show (none:OC)=ocL zL (grow []) from rfl,lr];simp only[zt,Yzj,Yza,zp,yX,YzK]
end
theorem zpN{o:Org}(hd:o.divs.els.length≤3)(hs:∀d∈o.divs.els,d.stops.els.length≤3)(hc:o.cpls.els.length≤3)(b:Nat→Nat)(hb:∀i,b i<256):Few o (vJ b 0 o.divs.els) (zb5 (b 3:Int) (qI o.cpls.els.length)) (zb5 (b 4:Int) (qI o.divs.els.length)):=
 ⟨jv .., fun n d s h1 h2 => by rw[zdm b _ 0 n d h1]at h2;cases h2;exact ze6 (hb _) (hs d (Lz3 h1)),ze6 (hb 3) hc,ze6 (hb 4) hd⟩
theorem zy5{β:Type}(r:Reg)(d:DV)(K:List DS→Option β):bT [some 3,none] (some (.tup [.agg (ym r),.one d])) K=K [.agg (ym r),.one d]:=rfl
end Go.Proofs.Tryz.Kn
end
section
namespace Go.Proofs.Tryz.Kn
open Go Go.CE Go.PE
def zeQ(k:Int×Int):List DV:=[U64 k.1,U64 k.2]
def zoC(key:Int):Int×Int:=(((2^key.toNat:Nat):Int),0)
theorem t64(k:Nat)(key:Int)(h0:0≤key)(h1:key≤60):D (k+1) 64 [S1 (I6 key)]=some (SA (zeQ (zoC key))):=by
 obtain⟨n,rfl⟩:∃n:Nat,key=(n:Int):=⟨key.toNat,by omega⟩;have e1:yi .u64 (I6 (n:Int))=some (U64 (n:Int)):=jx (by omega);have e2:yj true (U64 1) (U64 (n:Int))=some (U64 ((2^n:Nat):Int)):=zdS (by omega);have h:¬(64:Int)≤(n:Int):=by omega
 rw[D64];unfold P64;simp only[xQ,zb,zg,Yzn,h,if_false,e1,e2];rfl
theorem zws:((List.range 61).all fun a=>(List.range 61).all fun b=>bit ((2^a:Nat):Int) b==(a==b))=true:=by kernel_rfl
theorem zwr{a b:Nat}(ha:a≤60)(hb:b≤60):bit ((2^a:Nat):Int) b=(a==b):=by
 have:=Yz3.1 (Yz3.1 zws a (List.mem_range.2 (by omega))) b (List.mem_range.2 (by omega))
 simpa using this
theorem zs9(b:Nat):bit 0 b=false:=by unfold bit;rw[zrD];rfl
structure Zt (o:Org) (r:Reg):Prop extends Fit o r where
 hi:∀d∈o.divs.els,d.high≤60
 seg:∀d∈o.divs.els,∀s∈d.stops.els,s.segs.els.length≤2∧(∀g∈s.segs.els,g.draws.els.length≤2∧∀x∈g.draws.els,0≤x.rank∧x.rank<(o.ranks.els.length:Int))∧∀key,∀g∈s.segs.els,xK key g=true→g=uO s key
section
variable {o:Org} {r:Reg} (F:Zt o r)
include F
def jG(o:Org)(c:y5):List (Int×Int):=(List.replicate o.divs.els.length (0,0)).set c.rank.toNat (zoC c.num)
theorem t39(k:Nat)(c:y5)(hc:inR o c=true):D (k+2) 39 [SA (enO o),SA [I6 c.rank,I6 c.num]]=some (S1 (enL 2 zeQ (some (jG o c)))):=by
 obtain⟨n,d,hn,hd,h1,h2⟩:=xR.1 hc;have hnl:=(Lz0.1 hd).1;have hr:=F.rng d (Lz3 hd);have hh:=F.hi d (Lz3 hd);have hdl:=F.dl;have e:=t64 k c.num (by omega) (by omega);have em:mkN 16 (I6 (o.divs.els.length:Int)) (I6 (o.divs.els.length:Int))=some o.divs.els.length:=by show (bif Nat.beq o.divs.els.length o.divs.els.length&&Nat.ble o.divs.els.length 1073741824&&Nat.ble (16*o.divs.els.length) 281474976710656 then some o.divs.els.length else none)=some o.divs.els.length;rw[Yzj,Yzl (show o.divs.els.length≤1073741824 by omega),Yzl (show 16*o.divs.els.length≤281474976710656 by omega)];rfl
 have hrep:List.replicate o.divs.els.length [U64 0,U64 0]=(List.replicate o.divs.els.length ((0,0):Int×Int)).map zeQ:=by rw[List.map_replicate];rfl
 have i1:y2 (some ((List.replicate o.divs.els.length ((0,0):Int×Int)).map zeQ)) (I6 c.rank)=some n:=by rw[hn];exact wv (by simp;omega)
 have gz:(List.replicate o.divs.els.length ((0,0):Int×Int))[n]? = some (0,0):=by rw[List.getElem?_replicate,Yze hnl]
 have st:zgR 2 (some ((List.replicate o.divs.els.length ((0,0):Int×Int)).map zeQ)) n 0 (zeQ (zoC c.num))=some (some ((jG o c).map zeQ)):=by unfold jG;rw[hn,Yzp];exact zzF gz (Lz4 rfl) rfl
 unfold enO;rw[D39];unfold P39;simp only[zA,zb,em,e];rw[zwv (show (zeQ (zoC c.num)).length=2 from rfl)];simp only[hrep,i1,zb];rw[show[atD (zeQ (zoC c.num)) 0,atD (zeQ (zoC c.num)) 1]=zeQ (zoC c.num) from rfl,st];rfl
omit F in
theorem zqA(c:y5)(hc:inR o c=true){n:Nat}(hn:n<o.divs.els.length):(jG o c)[n]? = some (if (n:Int)=c.rank then zoC c.num else(0,0)):=by
 obtain⟨m,d,hm,hd,_,_⟩:=xR.1 hc;unfold jG;rw[hm,Yzp];by_cases h:n=m
 ·subst h;rw[Yze rfl,List.getElem?_set_self (by simp;omega)]
 ·rw[Yzb (by omega),List.getElem?_set_ne (fun e=>h e.symm),List.getElem?_replicate,Yze hn]
theorem zqs(c:y5)(hc:inR o c=true){n:Nat}{d:Zj}(hd:o.divs.els[n]? = some d){key:Nat}(h2:(key:Int)≤d.high):bit (if (n:Int)=c.rank then zoC c.num else(0,0)).1 key=decide ((n:Int)=c.rank∧(key:Int)=c.num):=by
 obtain⟨m,d',hm,hd',g1,g2⟩:=xR.1 hc;have hr:=F.rng d' (Lz3 hd');have hh:=F.hi d (Lz3 hd);have hh':=F.hi d' (Lz3 hd');by_cases h:(n:Int)=c.rank
 ·rw[Yze h];show bit ((2^c.num.toNat:Nat):Int) key=_;rw[zwr (by omega) (by omega)];by_cases e:c.num.toNat=key
  ·rw[decide_eq_true (show (n:Int)=c.rank∧(key:Int)=c.num from⟨h,by omega⟩)];simpa using e
  ·rw[decide_eq_false (fun hh=>e (by omega))];simpa using e
 ·rw[Yzb h,decide_eq_false (fun hh=>h hh.1)];exact zs9 key
theorem zsv(c:y5)(hc:inR o c=true)(n:Nat)(d:Zj)(hd:o.divs.els[n]? = some d):∀(m:Nat) (key:Nat) (acc:List y5),(key:Int)+(m:Int)=d.high+1→acc.length+m≤1000→
  zB (zqK (enV d) (enL 2 zeQ (some (jG o c))) [I6 (n:Int)]) [I6 (key:Int)] [ocL zX (grow acc)]=some (.exit 2,[],[ocL zX (grow (if (n:Int)=c.rank∧(key:Int)≤c.num then acc++[c] else acc))]):=by
 have hnl:=(Lz0.1 hd).1;obtain⟨_,d',hm',hd',_,g2⟩:=xR.1 hc;have hh:=F.hi d (Lz3 hd);have a3:atD (enV d) 3=I6 d.high:=rfl;have ik:yy 2 (enL 2 zeQ (some (jG o c))) (I6 (n:Int))=some (zeQ (if (n:Int)=c.rank then zoC c.num else(0,0))):=by rw[yb,yn,zqA c hc hnl];rfl
 intro m
 induction m with
 |zero=>
  intro key acc hk _;have h1:decide ((key:Int)≤d.high)=false:=decide_eq_false (by omega);have h2:¬((n:Int)=c.rank∧(key:Int)≤c.num):=fun h=>by rw[←h.1]at hm';have:n=_:=Int.ofNat.inj hm';subst this;rw[hd]at hd';cases hd';omega
  rw[Yzb h2];refine zl ?_;simp only[zqK,zi,zp,a3,xE,zb,h1,zg,Yzc,if_false]
 |succ m ih=>
  intro key acc hk ha;have h1:decide ((key:Int)≤d.high)=true:=decide_eq_true (by omega);have h64:¬(64:Int)≤(key:Int):=by omega
  have ea:zf .add (I6 (key:Int)) (I6 1)=some (I6 ((key+1:Nat):Int)):=yf;have er:zf .rem (I6 (key:Int)) (I6 64)=some (I6 ((key % 64:Nat):Int)):=ziV (b:=64) (by decide);rw[Nat.mod_eq_of_lt (by omega)]at er;have ec:yi .u64 (I6 (key:Int))=some (U64 (key:Int)):=jx (by omega);have ef:fits 16 ((grow acc).els.length+1)=true:=yM (by decide) (by rw[zn];omega);have hb:=zqs F c hc hd (key:=key) (by omega);have eb:zf .eql (U64 (zb5 (zd6 (if (n:Int)=c.rank then zoC c.num else(0,0)).1 key) 1)) (U64 1)=some (Bo (decide ((n:Int)=c.rank∧(key:Int)=c.num))):=by rw[zdW,←hb];rfl
  have hp:(some ((grow acc).els.map zX++[[I6 (n:Int),I6 (key:Int)]]):OC)=ocL zX (grow (acc++[⟨(n:Int),(key:Int)⟩])):=by rw[yw,←y0];rfl
  have body:zqK (enV d) (enL 2 zeQ (some (jG o c))) [I6 (n:Int)] [I6 (key:Int)] [ocL zX (grow acc)]=some (.normal,[I6 ((key+1:Nat):Int)],[ocL zX (grow (if (n:Int)=c.rank∧(key:Int)=c.num then acc++[⟨(n:Int),(key:Int)⟩] else acc))]):=by simp only[zqK,zi,zp,a3,xE,zb,h1,zg,if_true,ik,xQ,Yzn,h64,if_false,er,ec,zeQ,yE,zcb,yT,eb,zY,zU,ef,yF,ea,hp];by_cases hq:(n:Int)=c.rank∧(key:Int)=c.num<;>simp[hq]
  rw[zx body,ih (key+1) _ (by omega) (by split<;>(try simp only[Yzk,Yzg,Yzx])<;>omega)];by_cases hq:(n:Int)=c.rank∧(key:Int)=c.num
  ·rw[Yze hq,Yzb (by omega),Yze (by omega),show (⟨(n:Int),(key:Int)⟩:y5)=c from Ze.eq hq.1 hq.2]
  ·rw[Yzb hq];by_cases h2:(n:Int)=c.rank∧(key:Int)≤c.num
   ·rw[Yze h2,Yze (by omega)]
   ·rw[Yzb h2,Yzb (by omega)]
theorem zsw(c:y5)(hc:inR o c=true):∀(l:List Zj) (n:Nat) (acc:List y5),o.divs.els.drop n=l→acc.length≤100*n→
  zB (zqL (I6 (o.divs.els.length:Int)) (enL 5 enV o.divs) (enL 2 zeQ (some (jG o c)))) [I6 (n:Int)] [ocL zX (grow acc)]=some (.exit 0,[],[ocL zX (grow (if (n:Int)≤c.rank then acc++[c] else acc))]):=by
 obtain⟨m,d',hm',hd',g1,g2⟩:=xR.1 hc;have hml:=(Lz0.1 hd').1;have hdl:=F.dl;intro l
 induction l with
 |nil=>intro n acc h _;have:=zH h;rw[Yzb (by omega)];refine zl ?_;simp only[zqL,zi,zp,zc,zb,yK (zH h),zg,Yzc,if_false]
 |cons d l ih=>
  intro n acc h ha;have h1:=zZ h;have hd:=zJ h;have hr:=F.rng d (Lz3 hd);obtain⟨lo,hlo⟩:∃lo:Nat,d.low=(lo:Int):=⟨d.low.toNat,by omega⟩;have lk:=zsv F c hc n d hd (d.high-d.low+1).toNat lo acc (by omega) (by omega);have iv:yy 5 (enL 5 enV o.divs) (I6 (n:Int))=some (enV d):=by rw[yb,hd];rfl
  have a2:atD (enV d) 2=I6 (lo:Int):=by rw[←hlo];rfl
  have ea:zf .add (I6 (n:Int)) (I6 1)=some (I6 ((n+1:Nat):Int)):=yf;have hcond:((n:Int)=c.rank∧(lo:Int)≤c.num)↔(n:Int)=c.rank:=⟨fun hh=>hh.1,fun hh=>⟨hh,by
   have:n=m:=by omega
   subst this;rw[hd]at hd';cases hd';omega⟩⟩
  have body:zqL (I6 (o.divs.els.length:Int)) (enL 5 enV o.divs) (enL 2 zeQ (some (jG o c))) [I6 (n:Int)] [ocL zX (grow acc)]=some (.normal,[I6 ((n+1:Nat):Int)],[ocL zX (grow (if (n:Int)=c.rank then acc++[c] else acc))]):=by simp only[zqL,zi,zp,zc,zb,x4 h1,zg,if_true,iv,a2,lk,zt,Yzj,Yza,ea,hcond]
  rw[zx body,ih (n+1) _ (zw h) (by split<;>(try simp only[Yzk,Yzg,Yzx])<;>omega)];by_cases hq:(n:Int)=c.rank
  ·rw[Yze hq,Yzb (by omega),Yze (by omega)]
  ·rw[Yzb hq];by_cases h2:(n:Int)≤c.rank
   ·rw[Yze h2,Yze (by omega)]
   ·rw[Yzb h2,Yzb (by omega)]
theorem t85(k:Nat)(c:y5)(hc:inR o c=true):D (k+1) 85 [SA (enO o),S1 (enL 2 zeQ (some (jG o c)))]=some (S1 (enL 2 zX (some [c]))):=by obtain⟨m,d',hm',_⟩:=xR.1 hc;have l:=zsw F c hc o.divs.els 0 [] rfl (by simp);rw[Yze (by omega)]at l;unfold enO;rw[D85];unfold P85;simp only[zA,zb];rw[show (I6 0:DV)=I6 ((0:Nat):Int) from rfl,show (none:OC)=ocL zX (grow []) from rfl,l];simp only[zt,Yzj,Yza,zp,yX];rfl
omit F in
theorem t118(k:Nat)(c:y5):D (k+1) 118 [SA (enO o),SA [I6 c.rank,I6 c.num]]=some (S1 (Bo (inR o c))):=by
 unfold enO;rw[zEi];unfold zBF;simp only[xQ,zb,zg,Yzn,zA,zc,xE];cases hn:c.rank with
 |negSucc n=>
  rw[Yzb (by omega)];have:inR o c=false:=by unfold inR;rw[hn]
  rw[this]
 |ofNat n=>
  rw[show Int.ofNat n=(n:Int) from rfl]at hn ⊢;rw[Yze (by omega)];by_cases h:n<o.divs.els.length
  ·obtain⟨d,hd⟩:∃d,o.divs.els[n]? = some d:=⟨_,Lz5 h⟩;have iv:yy 5 (enL 5 enV o.divs) (I6 (n:Int))=some (enV d):=by rw[yb,hd];rfl
   have:inR o c=(decide (d.low≤c.num)&&decide (c.num≤d.high)):=by unfold inR;rw[hn];show (match o.divs.els[n]? with|some d=>_|none=>false)=_;rw[hd]
   rw[Yze (by omega),this];simp only[iv,zb,enV,yE,xc,xQ,zg,Yzn,xE];by_cases h1:d.low≤c.num<;>simp[h1]
  ·have:inR o c=false:=by
    unfold inR;rw[hn];show (match o.divs.els[n]? with|some d=>_|none=>false)=_;rw[List.getElem?_eq_none (by omega)]
   rw[Yzb (by omega),this]
end
end Go.Proofs.Tryz.Kn
end
section
namespace Go.Proofs.Tryz.Kn
open Go Go.CE Go.PE
section
variable {o:Org} {r:Reg} (F:Zt o r)
include F
theorem znb{G:List DV→List OC→Option PX}{thr:Bool}(k:Nat)(c:y5)(hc:-100000≤c.num∧c.num≤100000)(q:List y5)(hq:q.length≤1000)(i:Nat)(x:Cpl)(hx:o.cpls.els[i]? = some x)
  (hG:G=if thr=true then zh4 (D (k+2)) (I6 (o.cpls.els.length:Int)) (enL 5 enC o.cpls) [I6 c.rank,I6 c.num] (U64 r.cpls) (St o.name) (enL 6 enR o.ranks) (enL 5 enV o.divs) else zh6 (D (k+2)) (I6 (o.cpls.els.length:Int)) (enL 5 enC o.cpls) [I6 c.rank,I6 c.num] (U64 r.cpls) (St o.name) (enL 6 enR o.ranks) (enL 5 enV o.divs)):
  G [I6 (i:Int)] [ocL zX (grow q)]=some (.normal,[I6 ((i+1:Nat):Int)],[ocL zX (grow (if goes o r c thr i x=true then push q (dest c x) else q))]):=by
 have hi:=(Lz0.1 hx).1;have hm:=Lz3 hx;have hcl:=F.cl;have ea:zf .add (I6 (i:Int)) (I6 1)=some (I6 ((i+1:Nat):Int)):=yf;have ix:yy 5 (enL 5 enC o.cpls) (I6 (i:Int))=some (enC x):=by rw[yb,hx];rfl
 obtain⟨s1,s2⟩:=F.shf x hm;have ek:zf .add (I6 c.num) (I6 x.shift)=some (I6 (c.num+x.shift)):=yf;have ec:yi .u64 (I6 (i:Int))=some (U64 (i:Int)):=jx (by omega);have ct:=t80 k (dest c x) (grow q) (by rw[zn];omega);rw[zn]at ct;have ci:=t118 (o:=o) (k+1) (dest c x);have ef:fits 16 ((grow q).els.length+1)=true:=yM (by decide) (by rw[zn];omega);have hdest:(dest c x).rank=x.dst∧(dest c x).num=c.num+x.shift:=⟨rfl,rfl⟩;rw[hdest.1,hdest.2]at ct ci;unfold enO at ci;have hp:(some ((grow q).els.map zX++[[I6 x.dst,I6 (c.num+x.shift)]]):OC)=ocL zX (grow (q++[dest c x])):=by rw[yw,←y0];rfl
 have eb:zf .eql (U64 (zb5 (zd6 r.cpls i) 1)) (U64 1)=some (Bo (bit r.cpls i)):=by rw[zdW];rfl
 unfold goes;cases thr with
 |false=>
  rw[hG];simp only[Yzc,if_false,zh6,zi,zp,zc,zb,x4 hi,zg,if_true,ix,enC,yE,xc,ek,ec,zcb,yT,eb,Bool.not_false,Bool.true_or,Yyi,xF];cases bit r.cpls i with
  |false=>simp[ea]
  |true=>
   cases hs:(x.src==c.rank) with
   |false=>simp[ea]
   |true=>
    simp only[if_true,yI,Bool.not_false,zb,zg,Yz1,ci,zR];cases ht:x.thr<;>(cases hin:inR o (dest c x) with
    |false=>simp[ea]
    |true=>simp only[if_true,Yzc,if_false,yX,ct,b1s,zdO,Yza,yI,zb,zg,zY,zU,ef,yF,ea,hp,push];by_cases h3:dest c x∈q<;>simp[h3])
 |true=>
  rw[hG];simp only[if_true,zh4,zi,zp,zc,zb,x4 hi,zg,ix,enC,yE,xc,ek,ec,zcb,yT,eb,Yzw,Yz7,xF];cases bit r.cpls i with
  |false=>simp[ea]
  |true=>
   cases hs:(x.src==c.rank) with
   |false=>simp[ea]
   |true=>
    simp only[if_true,yI,Yzw,zb,zg,Yz1,ci,zR];cases ht:x.thr with
    |false=>simp[ea]
    |true=>
     cases hin:inR o (dest c x) with
     |false=>simp[ea]
     |true=>simp only[if_true,Yzc,if_false,yX,ct,b1s,zdO,Yza,yI,zb,zg,zY,zU,ef,yF,ea,hp,push,Yyw];by_cases h3:dest c x∈q<;>simp[h3]
theorem zey{G:List DV→List OC→Option PX}{thr:Bool}(k:Nat)(c:y5)(hc:-100000≤c.num∧c.num≤100000)
  (hG:G=if thr=true then zh4 (D (k+2)) (I6 (o.cpls.els.length:Int)) (enL 5 enC o.cpls) [I6 c.rank,I6 c.num] (U64 r.cpls) (St o.name) (enL 6 enR o.ranks) (enL 5 enV o.divs) else zh6 (D (k+2)) (I6 (o.cpls.els.length:Int)) (enL 5 enC o.cpls) [I6 c.rank,I6 c.num] (U64 r.cpls) (St o.name) (enL 6 enR o.ranks) (enL 5 enV o.divs)):
  ∀(l:List Cpl) (i:Nat) (q:List y5),o.cpls.els.drop i=l→q.length+l.length≤1000→zB G [I6 (i:Int)] [ocL zX (grow q)]=some (.exit 0,[],[ocL zX (grow (wD o r c thr i l q))]):=by
 intro l
 induction l with
 |nil=>
  intro i q h _;refine zl ?_;rw[hG];cases thr
  ·simp only[Yzc,if_false,zh6,zi,zp,zc,zb,yK (zH h),zg];rfl
  ·simp only[if_true,zh4,zi,zp,zc,zb,yK (zH h),zg];rfl
 |cons x l ih=>
  intro i q h hq;simp only[Yzg]at hq;rw[zx (znb F k c hc q (by omega) i x (zJ h) hG)];refine ih (i+1) _ (zw h) ?_;split
  ·have:=zfo q (dest c x);omega
  ·omega
theorem zjf(k:Nat)(c:y5):∀(f i:Nat) (q:List y5),Que o r c q i→i≤q.length→i+f=28→
    ∃q',zB (zh5 (D (k+2)) (enL 5 enC o.cpls) (U64 r.cpls) (St o.name) (enL 6 enR o.ranks) (enL 5 enV o.divs)) [I6 (i:Int)] [ocL zX (grow q)]=some (.exit 2,[],[ocL zX (grow q')])∧Que o r c q' q'.length:=by
  intro f
  induction f with
  |zero=>intro i q H hi hf;have:=vE F.toFit H.nd fun y hy=>(H.re y hy).inR;omega
  |succ f ih=>
    intro i q H hi hf;have hlen:=vE F.toFit H.nd fun y hy=>(H.re y hy).inR;by_cases hlt:i<q.length
    · obtain⟨y,hy⟩:∃y,q[i]? = some y:=⟨_,Lz5 hlt⟩
      have hym:=H.re y (Lz3 hy);have hcl:=F.cl;have ls:=zey F (thr:=true) k y (zfX F.toFit hym.inR) rfl o.cpls.els 0 q rfl (by omega);rw[Yze rfl]at ls;have ea:zf .add (I6 (i:Int)) (I6 1)=some (I6 ((i+1:Nat):Int)):=yf;have hg:(grow q).els.length=q.length:=by rw[zn]
      have i1:y2 (ocL zX (grow q)) (I6 (i:Int))=some i:=by
        cases q with
        |nil=>simp at hlt
        |cons a q=>exact wv (by simpa using hlt)
      have i2:vZ (ocL zX (grow q)) i=some (zX y):=by
        cases q with
        |nil=>simp at hlt
        |cons a q=>show ((a::q).map zX)[i]? = _;rw[Lz6,hy];rfl
      have body:zh5 (D (k+2)) (enL 5 enC o.cpls) (U64 r.cpls) (St o.name) (enL 6 enR o.ranks) (enL 5 enV o.divs) [I6 (i:Int)] [ocL zX (grow q)]=some (.normal,[I6 ((i+1:Nat):Int)],[ocL zX (grow (wD o r y true 0 o.cpls.els q))]):=by simp only[zh5,zi,zp,zY,hg,xj,zc,zb,x4 hlt,zg,if_true,i1,i2,zX,zA];rw[show (I6 0:DV)=I6 ((0:Nat):Int) from rfl,ls];simp only[zt,Yzj,Yza,ea,zb,zp]
      have HQ:Que o r c (wD o r y true 0 o.cpls.els q) (i+1):=by
       refine⟨ve o r y true _ _ _ H.nd,fun z hz=>?_,fun j x h1 h2=>(xf o r y true _ _ _).2 (.inl (H.fst j x h1 h2)),fun m z hm hz j x h1 h2=>?_⟩
       · rcases (xf o r y true _ _ _).1 hz with hz|⟨j,x,h1,h2,h3⟩
         · exact H.re z hz
         · rw[Yzm]at h2
           rw[h3];exact .more y j x hym h1 h2
       · by_cases hmi:m=i
         · subst hmi
           have:=wR o r y true o.cpls.els 0 q hy;rw[hz]at this;cases this;exact(xf o r _ true _ _ _).2 (.inr ⟨j,x,h1,by rw[Yzm];exact h2,rfl⟩)
         · have hmi:m<i:=by omega
           obtain⟨w,hw⟩:∃w,q[m]? = some w:=⟨_,Lz5 (by omega)⟩;have:=wR o r y true o.cpls.els 0 q hw;rw[hz]at this;cases this;exact(xf o r y true _ _ _).2 (.inl (H.cls m _ hmi hw j x h1 h2))
      obtain⟨q',h1,h2⟩:=ih (i+1) (wD o r y true 0 o.cpls.els q) HQ
        (by have:=wR o r y true o.cpls.els 0 q hy;have:=(Lz0.1 this).1;omega) (by omega)
      exact⟨q',by rw[zx body,h1],h2⟩
    · have hi:i=q.length:=by omega
      subst hi;refine⟨q,zl ?_,H⟩;have hg:(grow q).els.length=q.length:=by rw[zn]
      have:=yK (LzB q.length);simp only[zh5,zi,zp,zY,hg,xj,zc,zb,this,zg,Yzc,if_false]
theorem zl4{y:y5}(h:inR o y=true):q9 y:=by obtain⟨n,d,e1,e2,e3,e4⟩:=xR.1 h;have:=(Lz0.1 e2).1;have:=F.dl;have:=F.rng d (Lz3 e2);unfold q9;omega
theorem t61(k:Nat)(c:y5)(hc:inR o c=true):∃S:Sl y5,D (k+3) 61 [SA (enO o),SA (ym r),S1 (enL 2 zeQ (some (jG o c)))]=some (S1 (enL 2 zX S))∧S.els.length≤27∧(∀y,y∈S.els↔zeY o r c y)∧(∀y∈S.els,inR o y=true):=by
 obtain⟨n,d,hn,hd,_,_⟩:=xR.1 hc;have hnl:=(Lz0.1 hd).1;have hcl:=F.cl;have hdl:=F.dl;have cp:=t85 F (k+1) c hc;have l1:=zey F (thr:=false) k c (zfX F.toFit hc) rfl o.cpls.els 0 [] rfl (by simp;omega);simp only[Yzc,if_false]at l1;have hq0:Que o r c (wD o r c false 0 o.cpls.els []) 0:=⟨ve o r c false _ _ _ List.nodup_nil,fun y hy=>by
   rcases (xf o r c false _ _ _).1 hy with hy|⟨j,x,h1,h2,h3⟩
   ·cases hy
   ·rw[Yzm]at h2;rw[h3];exact .one j x h1 h2,fun j x h1 h2=>(xf o r c false _ _ _).2 (.inr ⟨j,x,h1,by rw[Yzm];exact h2,rfl⟩),fun m y hm=>by omega⟩
 obtain⟨q,h1,h2⟩:=zjf F k c 28 0 _ hq0 (Yzu _) rfl;have hall:=zog h2;have hlen:=vE F.toFit h2.nd fun y hy=>(h2.re y hy).inR;have ct:=t80 k c (grow q) (by rw[zn];omega);rw[zn]at ct;have ef:fits 16 ((grow q).els.length+1)=true:=yM (by decide) (by rw[zn];omega);have hp:(some ((grow q).els.map zX++[[I6 c.rank,I6 c.num]]):OC)=ocL zX (grow (q++[c])):=by rw[yw,←y0];rfl
 have hb:zf .eql (U64 (zb5 (zd6 r.off n) 1)) (U64 0)=some (Bo (!bit r.off n)):=by rw[zdW,zqr]
 have ec:yi .u64 (I6 c.rank)=some (U64 (n:Int)):=by rw[hn];exact jx (by omega)
 have e01:zf .add (I6 ((0:Nat):Int)) (I6 1)=some (I6 ((1:Nat):Int)):=rfl;have ix:yy 2 (enL 2 zX (some [c])) (I6 ((0:Nat):Int))=some [I6 c.rank,I6 c.num]:=rfl;have pl:yV (enL 2 zX (some [c]))=some (I6 ((1:Nat):Int)):=rfl;have f4:zB (zqQ (D (k+2)) (I6 ((1:Nat):Int)) (enL 2 zX (some [c])) (enL 5 enC o.cpls) (U64 r.cpls) (St o.name) (enL 6 enR o.ranks) (enL 5 enV o.divs)) [I6 ((0:Nat):Int)] [none]=some (.exit 0,[],[ocL zX (grow (wD o r c false 0 o.cpls.els []))]):=by
  have b0:zqQ (D (k+2)) (I6 ((1:Nat):Int)) (enL 2 zX (some [c])) (enL 5 enC o.cpls) (U64 r.cpls) (St o.name) (enL 6 enR o.ranks) (enL 5 enV o.divs) [I6 ((0:Nat):Int)] [none]=some (.normal,[I6 ((1:Nat):Int)],[ocL zX (grow (wD o r c false 0 o.cpls.els []))]):=by simp only[zqQ,zi,zp,zc,zb,x4 (show 0<1 by omega),zg,if_true,ix,zA];rw[show (none:OC)=ocL zX (grow []) from rfl,show (I6 0:DV)=I6 ((0:Nat):Int) from rfl,l1];simp only[zt,Yzj,Yza,e01,zb,zp]
  rw[zx b0];refine zl ?_;simp only[zqQ,zi,zp,zc,zb,yK (LzB 1),zg,Yzc,if_false]
 have f82:zB (zh3 (D (k+2)) (I6 ((1:Nat):Int)) (enL 2 zX (some [c])) (U64 r.off)) [I6 ((0:Nat):Int)] [ocL zX (grow q)]=some (.exit 0,[],[ocL zX (grow (if bit r.off n=true then q else push q c))]):=by
  have b0:zh3 (D (k+2)) (I6 ((1:Nat):Int)) (enL 2 zX (some [c])) (U64 r.off) [I6 ((0:Nat):Int)] [ocL zX (grow q)]=some (.normal,[I6 ((1:Nat):Int)],[ocL zX (grow (if bit r.off n=true then q else push q c))]):=by
   simp only[zh3,zi,zp,zc,zb,x4 (show 0<1 by omega),zg,if_true,ix,yE,xc,ec,zcb,yT,hb,e01];cases hbb:bit r.off n with
   |true=>simp
   |false=>simp only[Bool.not_false,if_true,yX,ct,b1s,zdO,Yza,yI,zb,zg,zY,zU,ef,yF,hp,Yzc,if_false,push];by_cases h3:c∈q<;>simp[h3]
  rw[zx b0];refine zl ?_;simp only[zh3,zi,zp,zc,zb,yK (LzB 1),zg,Yzc,if_false]
 have hin:∀y∈(if bit r.off n=true then q else push q c),inR o y=true:=fun y hy=>by
  split at hy
  ·exact(h2.re y hy).inR
  ·rcases jj.1 hy with h|h
   ·exact(h2.re y h).inR
   ·rw[h];exact hc
 have hl27:(if bit r.off n=true then q else push q c).length≤27:=by
  refine vE F.toFit ?_ hin;split
  ·exact h2.nd
  ·exact zaZ h2.nd
 have hmem:∀y,y∈(if bit r.off n=true then q else push q c)↔zeY o r c y:=fun y=>by
  unfold zeY;rw[hn,Yzp];cases hbb:bit r.off n with
  |true=>simp[hall]
  |false=>simp[jj,hall]
 generalize (if bit r.off n=true then q else push q c)=Q at f82 hin hl27 hmem;have hs:∃S:Sl y5,∃w,znK 2 (ocL zX (grow Q))=some w∧mkL 2 w=enL 2 zX S∧S.els.length=Q.length∧∀y,y∈S.els↔y∈Q:=by
  cases Q with
  |nil=>exact⟨none,none,rfl,rfl,rfl,fun y=>by simp⟩
  |cons a Q=>exact⟨some (je (a::Q)),ocP (je (a::Q)),zts (l:=a::Q) (by simp at hl27 ⊢;omega) fun p hp=>zl4 F (hin p hp),yX _,by rw[yn];exact(zaW _).length_eq,fun y=>by rw[yn];exact(zaW _).mem_iff⟩
 obtain⟨S,w,g1,g2,gl,g3⟩:=hs;refine⟨S,?_,?_,fun y=>(g3 y).trans (hmem y),fun y hy=>hin y ((g3 y).1 hy)⟩
 ·unfold enO at cp ⊢;unfold ym;rw[D61];unfold P61;simp only[cp,zR,pl,zb];rw[show (I6 0:DV)=I6 ((0:Nat):Int) from rfl,f4];simp only[zt,Yzj,Yza,zp];rw[h1];simp only[zt,Yzj,Yza,zp];rw[f82];simp only[zt,Yzj,Yza,zp,g1,zb,g2]
 ·rw[gl];exact hl27
end
end Go.Proofs.Tryz.Kn
end
section
namespace Go.Proofs.Tryz.Kn
open Go Go.CE Go.PE
section
variable {o:Org} {r:Reg} (F:Zt o r)
theorem zvo(key:Int)(x14:List DV)(ds:Sl Zp)(hx:atD x14 2=enL 2 enD ds)(hrk:∀d∈ds.els,0≤d.rank∧d.rank<(o.ranks.els.length:Int)):∀(l:List Zp) (i:Nat) (v:Sl Ze),ds.els.drop i=l→v.els.length+l.length≤1000→i+l.length≤1000→
  ∃v',zB (zh1 (I6 (ds.els.length:Int)) x14 (I6 key) (enL 6 enR o.ranks)) [I6 (i:Int)] [ocL zX v]=some (.exit 4,[],[ocL zX v'])∧v'.els=v.els++l.filterMap (qp o.ranks.els key):=by
 intro l
 induction l with
 |nil=>intro i v h _ _;refine⟨v,zl ?_,by simp⟩;simp only[zh1,zi,zp,zc,zb,yK (zH h),zg];rfl
 |cons d l ih=>
  intro i v h hv hi;simp only[Yzg]at hv hi;have h1:=zZ h;obtain⟨r0,r1⟩:=hrk d (Lz3 (zJ h));obtain⟨n,hn⟩:∃n:Nat,d.rank=(n:Int):=⟨d.rank.toNat,by omega⟩;obtain⟨k,hk⟩:∃k,o.ranks.els[n]? = some k:=⟨_,Lz5 (by omega)⟩;have ea:zf .add (I6 (i:Int)) (I6 1)=some (I6 ((i+1:Nat):Int)):=yf;have iv:yy 6 (enL 6 enR o.ranks) (I6 d.rank)=some (enR k):=by rw[hn,yb,hk];rfl
  have a4:atD (enR k) 4=I6 k.first:=rfl
  have a5:atD (enR k) 5=enL 1 enW k.wind:=rfl;have e1:zf .add (I6 key) (I6 d.shift)=some (I6 (wI .i64 (key+d.shift))):=rfl;have e2:zf .sub (I6 (wI .i64 (key+d.shift))) (I6 k.first)=some (I6 (numOf k d key)):=rfl;have ef:fits 16 (v.els.length+1)=true:=yM (by decide) (by omega);have hpo:qp o.ranks.els key d=if 0≤numOf k d key∧numOf k d key<(k.wind.els.length:Int) then some ⟨d.rank,numOf k d key⟩ else none:=by unfold qp;rw[Yzb (by omega),hn,Yzp,hk]
  obtain⟨v1,b1',b2⟩:=zco (f:=zX) v [⟨d.rank,numOf k d key⟩];have b1':(some (v.els.map zX++[[I6 d.rank,I6 (numOf k d key)]]):OC)=ocL zX v1:=by rw[←b1'];show _=some (zM (ocL zX v)++_);rw[zU];rfl
  have body:zh1 (I6 (ds.els.length:Int)) x14 (I6 key) (enL 6 enR o.ranks) [I6 (i:Int)] [ocL zX v]=some (.normal,[I6 ((i+1:Nat):Int)],[ocL zX (if 0≤numOf k d key∧numOf k d key<(k.wind.els.length:Int) then v1 else v)]):=by
   simp only[zh1,zi,zp,hx,zc,zb,x4 h1,zg,if_true,zO h,enD,yE,xc,e1,iv,a4,e2,xQ,Yzn,a5,zA,zY,zU,ef,yF,ea,b1'];by_cases q1:0≤numOf k d key
   ·by_cases q2:numOf k d key<(k.wind.els.length:Int)<;>simp[q1,q2]
   ·simp[q1]
  obtain⟨v',g1,g2⟩:=ih (i+1) (if 0≤numOf k d key∧numOf k d key<(k.wind.els.length:Int) then v1 else v) (zw h) (by split<;>(try rw[b2])<;>(try simp only[Yzk,Yzg,Yzx])<;>omega) (by omega);refine⟨v',by rw[zx body,g1],?_⟩;rw[g2,Yyg,hpo];by_cases hq:0≤numOf k d key∧numOf k d key<(k.wind.els.length:Int)
  ·rw[Yze hq,Yze hq,b2];simp
  ·rw[Yzb hq,Yzb hq]
include F
theorem zvm(n:Nat)(d:Zj)(s:Int)(j:Nat)(t:Zr)(hd:o.divs.els[n]? = some d)(hs:r.stops.els[n]? = some s)(ht:d.stops.els[j]? = some t)(key:Int):∀(l:List Seg) (i:Nat) (v:Sl Ze),t.segs.els.drop i=l→v.els.length+2*l.length≤1000→
  ∃v',zB (zh2 (I6 (t.segs.els.length:Int)) (xe t) (enL 1 enU r.stops) (I6 (n:Int)) [I6 (j:Int)] (I6 key) (enL 6 enR o.ranks)) [I6 (i:Int)] [ocL zX v]=some (.exit 2,[],[ocL zX v'])∧v'.els.length≤v.els.length+2*l.length∧
   ∀y,y∈v'.els↔y∈v.els∨(bit s j=true∧∃g∈l,xK key g=true∧y∈wM o.ranks.els key g.draws.els):=by
 have hdm:=Lz3 hd;have htm:=Lz3 ht;have hsl:=F.sl d hdm;have hjl:=(Lz0.1 ht).1;obtain⟨q1,q2,_⟩:=F.seg d hdm t htm;intro l
 induction l with
 |nil=>intro i v h _;refine⟨v,zl ?_,by simp,fun y=>by simp⟩;simp only[zh2,zi,zp,zc,zb,yK (zH h),zg];rfl
 |cons g l ih=>
  intro i v h hv;simp only[Yzg]at hv;have h1:=zZ h;have hgm:=Lz3 (zJ h);obtain⟨p1,p2⟩:=q2 g hgm;have ea:zf .add (I6 (i:Int)) (I6 1)=some (I6 ((i+1:Nat):Int)):=yf;have ec:yi .u64 (I6 (j:Int))=some (U64 (j:Int)):=jx (by omega);have is:yy 1 (enL 1 enU r.stops) (I6 (n:Int))=some [U64 s]:=by rw[yb,hs];rfl
  have i3:atD (xe t) 3=enL 3 enS t.segs:=rfl;have a0:atD (enS g) 0=I6 g.lo:=rfl;have a1:atD (enS g) 1=I6 g.hi:=rfl;have a2:atD (enS g) 2=enL 2 enD g.draws:=rfl;have ix:yy 3 (enL 3 enS t.segs) (I6 (i:Int))=some (enS g):=by rw[yb,zJ h];rfl
  obtain⟨v1,c1,c2⟩:=zvo (o:=o) key (enS g) g.draws a2 p2 g.draws.els 0 v rfl (by omega) (by omega);have hcov:xK key g=(decide (g.lo≤key)&&decide (key≤g.hi)):=rfl;have body:zh2 (I6 (t.segs.els.length:Int)) (xe t) (enL 1 enU r.stops) (I6 (n:Int)) [I6 (j:Int)] (I6 key) (enL 6 enR o.ranks) [I6 (i:Int)] [ocL zX v]=some (.normal,[I6 ((i+1:Nat):Int)],[ocL zX (if bit s j=true∧xK key g=true then v1 else v)]):=by
   simp only[zh2,zi,zp,zc,zb,x4 h1,zg,if_true,i3,ix,is,ec,yE,zcb,yT,zdW,zqr,a0,a1,a2,zA,yP,Yzn];cases hb:bit s j with
   |false=>simp[ea]
   |true=>
    simp only[Yzw,Yzc,if_false,hcov,LzC,Yzn,true_and];by_cases k1:key<g.lo
    ·rw[Yze k1,Yzb (by omega)];simp[ea]
    ·rw[Yzb k1];by_cases k2:g.hi<key
     ·rw[Yze k2,Yzb (by omega)];simp[ea]
     ·rw[Yzb k2,Yze (by omega)];rw[show (I6 0:DV)=I6 ((0:Nat):Int) from rfl,c1];simp only[zt,Yzj,Yza,ea,zb,zp]
  have hlen:(if bit s j=true∧xK key g=true then v1 else v).els.length≤v.els.length+2:=by
   split
   ·rw[c2,Yzk];have:=List.length_filterMap_le (qp o.ranks.els key) g.draws.els;omega
   ·omega
  obtain⟨v',g1,g2,g3⟩:=ih (i+1) (if bit s j=true∧xK key g=true then v1 else v) (zw h) (by omega);refine⟨v',by rw[zx body,g1],by rw[Yzg];omega,fun y=>(g3 y).trans ?_⟩;by_cases hq:bit s j=true∧xK key g=true
  ·rw[Yze hq,c2,YzI]
   constructor
   ·rintro ((h|h)|⟨h,z,hz,h'⟩)
    ·exact .inl h
    ·exact .inr ⟨hq.1,g,Yzh ..,hq.2,h⟩
    ·exact .inr ⟨h,z,Yzf _ hz,h'⟩
   ·rintro (h|⟨h,z,hz,h',h''⟩)
    ·exact .inl (.inl h)
    ·rcases YzA.1 hz with e|hz
     ·rw[e]at h'';exact .inl (.inr h'')
     ·exact .inr ⟨h,z,hz,h',h''⟩
  ·rw[Yzb hq]
   constructor
   ·rintro (h|⟨h,z,hz,h'⟩)
    ·exact .inl h
    ·exact .inr ⟨h,z,Yzf _ hz,h'⟩
   ·rintro (h|⟨h,z,hz,h',h''⟩)
    ·exact .inl h
    ·rcases YzA.1 hz with e|hz
     ·rw[e]at h';exact absurd ⟨h,h'⟩ hq
     ·exact .inr ⟨h,z,hz,h',h''⟩
theorem zst(n:Nat)(d:Zj)(s:Int)(hd:o.divs.els[n]? = some d)(hs:r.stops.els[n]? = some s)(key:Int):∀(l:List Zr) (j:Nat) (v:Sl Ze),d.stops.els.drop j=l→v.els.length+4*l.length≤1000→
  ∃v',zB (zqP (I6 (d.stops.els.length:Int)) (enV d) (enL 1 enU r.stops) (I6 (n:Int)) (I6 key) (enL 6 enR o.ranks)) [I6 (j:Int)] [ocL zX v]=some (.exit 0,[],[ocL zX v'])∧v'.els.length≤v.els.length+4*l.length∧
   ∀y,y∈v'.els↔y∈v.els∨∃(q:Nat) (t:Zr),l[q]? = some t∧bit s (j+q)=true∧∃g∈t.segs.els,xK key g=true∧y∈wM o.ranks.els key g.draws.els:=by
 have hdm:=Lz3 hd;intro l
 induction l with
 |nil=>intro j v h _;refine⟨v,zl ?_,by simp,fun y=>by simp⟩;simp only[zqP,zi,zp,zc,zb,yK (zH h),zg];rfl
 |cons t l ih=>
  intro j v h hv;simp only[Yzg]at hv;have h1:=zZ h;have htm:=Lz3 (zJ h);obtain⟨q1,_⟩:=F.seg d hdm t htm;have ea:zf .add (I6 (j:Int)) (I6 1)=some (I6 ((j+1:Nat):Int)):=by have:=F.sl d hdm;exact yf
  have i4:atD (enV d) 4=enL 4 xe d.stops:=rfl;have ix:yy 4 (enL 4 xe d.stops) (I6 (j:Int))=some (xe t):=by rw[yb,zJ h];rfl
  have i3:atD (xe t) 3=enL 3 enS t.segs:=rfl;obtain⟨v1,c1,c2,c3⟩:=zvm F n d s j t hd hs (zJ h) key t.segs.els 0 v rfl (by omega);have body:zqP (I6 (d.stops.els.length:Int)) (enV d) (enL 1 enU r.stops) (I6 (n:Int)) (I6 key) (enL 6 enR o.ranks) [I6 (j:Int)] [ocL zX v]=some (.normal,[I6 ((j+1:Nat):Int)],[ocL zX v1]):=by simp only[zqP,zi,zp,zc,zb,x4 h1,zg,if_true,i4,ix,i3,zA];rw[show (I6 0:DV)=I6 ((0:Nat):Int) from rfl,c1];simp only[zt,Yzj,Yza,ea,zb,zp]
  obtain⟨v',g1,g2,g3⟩:=ih (j+1) v1 (zw h) (by omega);refine⟨v',by rw[zx body,g1],by rw[Yzg];omega,fun y=>(g3 y).trans ?_⟩;rw[c3 y]
  constructor
  ·rintro ((h|⟨h,h'⟩)|⟨q,z,hz,h',h''⟩)
   ·exact .inl h
   ·exact .inr ⟨0,t,rfl,h,h'⟩
   ·exact .inr ⟨q+1,z,by simpa using hz,by rw[show j+(q+1)=j+1+q by omega];exact h',h''⟩
  ·rintro (h|⟨q,z,hz,h',h''⟩)
   ·exact .inl (.inl h)
   ·cases q with
    |zero=>simp only[Yzi,Option.some.injEq]at hz;subst hz;exact .inl (.inr ⟨h',h''⟩)
    |succ q=>exact .inr ⟨q,z,by simpa using hz,by rw[show j+1+q=j+(q+1) by omega];exact h',h''⟩
theorem t62(k:Nat)(c:y5)(hc:inR o c=true):∃v:Sl Ze,D (k+1) 62 [SA (enO o),SA (ym r),SA [I6 c.rank,I6 c.num]]=some (S1 (enL 2 zX v))∧v.els.length≤12∧∀y,y∈v.els↔zdJ o r c.rank.toNat c.num y:=by
 obtain⟨n,d,hn,hd,_,_⟩:=xR.1 hc;have hnl:=(Lz0.1 hd).1;have hdm:=Lz3 hd;have hrl:=F.rl;have hsl:=F.sl d hdm;obtain⟨s,hs⟩:∃s,r.stops.els[n]? = some s:=⟨_,Lz5 (by omega)⟩;obtain⟨v,c1,c2,c3⟩:=zst F n d s hd hs c.num d.stops.els 0 none rfl (by simp;omega);have hm:∀y,y∈v.els↔zdJ o r c.rank.toNat c.num y:=fun y=>(c3 y).trans (by
  rw[hn,Yzp];simp only[qb,Yzs,false_or,Yzm]
  constructor
  ·rintro⟨q,t,h1,h2,g,hg,h3,h4⟩
   have:=(F.seg d hdm t (Lz3 h1)).2.2 c.num g hg h3;exact⟨d,s,q,t,hd,hs,h1,h2,by rw[←this];exact h4⟩
  ·rintro⟨d',s',q,t,e1,e2,h1,h2,h4⟩
   rw[hd]at e1;cases e1;rw[hs]at e2;cases e2;refine⟨q,t,h1,h2,uO t c.num,?_,?_,h4⟩
   ·unfold uO at h4 ⊢;cases hf:t.segs.els.find? (xK c.num) with
    |none=>rw[hf]at h4;simp[wM,zcr]at h4
    |some g=>exact List.mem_of_find?_eq_some hf
   ·unfold uO at h4 ⊢;cases hf:t.segs.els.find? (xK c.num) with
    |none=>rw[hf]at h4;simp[wM,zcr]at h4
    |some g=>exact List.find?_some hf)
 obtain⟨w,u,f1,f2,f3,f4⟩:=zb8 v (by simp at c2;omega) fun p hp=>by obtain⟨d',s',j,t,_,_,_,_,h⟩:=(hm p).1 hp;exact F.sml _ _ p h
 have hul:u.els.length≤v.els.length:=j8 f2 fun z hz=>(f3 z).1 hz;refine⟨u,?_,by simp at c2;omega,fun y=>(f3 y).trans (hm y)⟩;have iv:yy 5 (enL 5 enV o.divs) (I6 c.rank)=some (enV d):=by rw[hn,yb,hd];rfl
 have i4:atD (enV d) 4=enL 4 xe d.stops:=rfl;unfold enO ym;rw[D62];unfold P62;simp only[iv,zb,i4,zA];rw[hn,show (I6 0:DV)=I6 ((0:Nat):Int) from rfl,show (none:OC)=ocL zX none from rfl,c1];simp only[zt,Yzj,Yza,zp,f1,zb,xj,zc,zg,Yzn,show zud=jH from rfl];rcases f4 with⟨q1,q2⟩|⟨q1,q2⟩
 ·have:((xt w:Nat):Int)<2:=by omega
  rw[Yze this,q2]
 ·have:¬((xt w:Nat):Int)<2:=by omega
  rw[Yzb this];rcases q2 with q2|q2
  ·rw[q2];simp only[zt,Yzj,Yza,zp,yX]
  ·rw[q2];simp only[uj,zi]
theorem zsu(k:Nat)(S:Sl y5)(hS:∀y∈S.els,inR o y=true)(hl:S.els.length≤27):∀(l:List y5) (i:Nat) (v:Sl Ze),S.els.drop i=l→v.els.length+12*l.length≤1000→
  ∃v',zB (zqY (D (k+1)) (I6 (S.els.length:Int)) (enL 2 zX S) (St o.name) (enL 6 enR o.ranks) (enL 5 enV o.divs) (enL 5 enC o.cpls) (enL 1 enU r.stops) (U64 r.cpls) (U64 r.off)) [I6 (i:Int)] [ocL zX v]=some (.exit 0,[],[ocL zX v'])∧v'.els.length≤v.els.length+12*l.length∧
   ∀y,y∈v'.els↔y∈v.els∨∃c∈l,zdJ o r c.rank.toNat c.num y:=by
 intro l
 induction l with
 |nil=>intro i v h _;refine⟨v,zl ?_,by simp,fun y=>by simp⟩;simp only[zqY,zi,zp,zc,zb,yK (zH h),zg];rfl
 |cons c l ih=>
  intro i v h hv;simp only[Yzg]at hv;have h1:=zZ h;obtain⟨w,c1,c2,c3⟩:=t62 F k c (hS c (Lz3 (zJ h)));unfold enO ym at c1;have ea:zf .add (I6 (i:Int)) (I6 1)=some (I6 ((i+1:Nat):Int)):=yf;obtain⟨v1,b1',b2⟩:=zco (f:=zX) v w.els;have ef:fits 16 (v.els.length+w.els.length)=true:=yM (by decide) (by omega);have ix:yy 2 (enL 2 zX S) (I6 (i:Int))=some [I6 c.rank,I6 c.num]:=zO h .i64;have body:zqY (D (k+1)) (I6 (S.els.length:Int)) (enL 2 zX S) (St o.name) (enL 6 enR o.ranks) (enL 5 enV o.divs) (enL 5 enC o.cpls) (enL 1 enU r.stops) (U64 r.cpls) (U64 r.off) [I6 (i:Int)] [ocL zX v]=some (.normal,[I6 ((i+1:Nat):Int)],[ocL zX v1]):=by simp only[zqY,zi,zp,zc,zb,x4 h1,zg,if_true,ix,yE,xc,c1,zR,vX,zY,Yzq,ef,yF,ea,b1']
  obtain⟨v',q1,q2,q3⟩:=ih (i+1) v1 (zw h) (by rw[b2,Yzk];omega);refine⟨v',by rw[zx body,q1],by rw[b2,Yzk]at q2;simp only[Yzg];omega,fun y=>(q3 y).trans ?_⟩;rw[b2,YzI,c3 y]
  constructor
  ·rintro ((h|h)|⟨z,hz,h⟩)
   ·exact .inl h
   ·exact .inr ⟨c,Yzh ..,h⟩
   ·exact .inr ⟨z,Yzf _ hz,h⟩
  ·rintro (h|⟨z,hz,hdz⟩)
   ·exact .inl (.inl h)
   ·rcases YzA.1 hz with e|hz
    ·rw[e]at hdz;exact .inl (.inr hdz)
    ·exact .inr ⟨z,hz,hdz⟩
theorem t17(k:Nat)(n:Nat)(key:Int)(hc:inR o ⟨(n:Int),key⟩=true):∃v:Sl Ze,D (k+6) 17 [SA (enO o),SA (ym r),SA [I6 (n:Int),I6 key]]=some (S1 (enL 2 zX v))∧wp o r n key v:=by
 have ca:=t39 F (k+3) ⟨(n:Int),key⟩ hc;obtain⟨S,s1,s2,s3,s4⟩:=t61 F (k+1) ⟨(n:Int),key⟩ hc;obtain⟨v,c1,c2,c3⟩:=zsu F (k+3) S s4 s2 S.els 0 none rfl (by simp;omega);have hm:∀y,y∈v.els↔zdY o r ⟨(n:Int),key⟩ y:=fun y=>(c3 y).trans (by
  simp only[qb,Yzs,false_or]
  constructor
  ·rintro⟨c,hc,h⟩;exact⟨c,(s3 c).1 hc,h⟩
  ·rintro⟨c,hc,h⟩;exact⟨c,(s3 c).2 hc,h⟩)
 obtain⟨w,u,f1,f2,f3,f4⟩:=zb8 v (by simp at c2;omega) fun p hp=>by obtain⟨c',_,d',s',j,t,_,_,_,_,h⟩:=(hm p).1 hp;exact F.sml _ _ p h
 have hul:u.els.length≤v.els.length:=j8 f2 fun z hz=>(f3 z).1 hz;refine⟨u,?_,by simp at c2;omega,f2,fun y=>(f3 y).trans (hm y)⟩;unfold enO at ca s1;unfold ym at s1;unfold enO ym;rw[D17];unfold P17;simp only[ca,zR];rw[D38];unfold P38;simp only[s1,zR,zA,zb];rw[show (I6 0:DV)=I6 ((0:Nat):Int) from rfl,show (none:OC)=ocL zX none from rfl,c1];simp only[zt,Yzj,Yza,zp,f1,zb,xj,zc,zg,Yzn,show zue=jH from rfl];rcases f4 with⟨q1,q2⟩|⟨q1,q2⟩
 ·have:((xt w:Nat):Int)<2:=by omega
  rw[Yze this,q2];rfl
 ·have:¬((xt w:Nat):Int)<2:=by omega
  rw[Yzb this];rcases q2 with q2|q2
  ·rw[q2];simp only[zt,Yzj,Yza,zp,yX];rfl
  ·rw[q2];simp only[uj,zi];rfl
end
end Go.Proofs.Tryz.Kn
end
section
namespace Go.Proofs.Tryz.Kn
open Go Go.CE Go.PE
def zxg(n m:Int)(g:Seg):Prop:=g.draws.els.length≤2∧∀x∈g.draws.els,x.rank=n∨x.rank=m
theorem zmi(low high n sh m sh2 a:Int)(kd:Nat):(∃g,yZ low high n sh m sh2 a kd=[g]∧zxg n m g)∨(∃g h,yZ low high n sh m sh2 a kd=[g,h]∧zxg n m g∧zxg n m h∧g.hi<h.lo):=by
 unfold yZ zxg;split
 ·exact .inl ⟨_,rfl,by simp,by simp⟩
 ·split
  ·exact .inr ⟨_,_,rfl,⟨by simp,by simp⟩,⟨by simp,by simp⟩,by show a-1<a;omega⟩
  ·exact .inl ⟨_,rfl,by simp,by simp⟩
 ·split
  ·exact .inr ⟨_,_,rfl,⟨by simp,by simp⟩,⟨by simp,by simp⟩,by show a-1<a;omega⟩
  ·exact .inl ⟨_,rfl,by simp,by simp⟩
 ·exact .inl ⟨_,rfl,by simp,by simp⟩
 ·exact .inl ⟨_,rfl,by simp,by simp⟩
theorem zrR(rs:List Zk)(hl:0<rs.length)(low high:Int)(i:Nat)(x:Pul):(vz rs low high i x).segs.els.length≤2∧(∀g∈(vz rs low high i x).segs.els,g.draws.els.length≤2∧∀y∈g.draws.els,0≤y.rank∧y.rank<(rs.length:Int))∧∀key,∀g∈(vz rs low high i x).segs.els,xK key g=true→g=uO (vz rs low high i x) key:=by
 have hn:=YzO x.rank hl;have hm:=YzO (x.rank % rs.length+1) hl;have hr:∀g,zxg ((x.rank % rs.length:Nat):Int) (((x.rank % rs.length+1) % rs.length:Nat):Int) g→g.draws.els.length≤2∧∀y∈g.draws.els,0≤y.rank∧y.rank<(rs.length:Int):=fun g h=>⟨h.1,fun y hy=>by rcases h.2 y hy with e|e<;>rw[e]<;>omega⟩
 unfold uO;show (yZ _ _ _ _ _ _ _ _).length≤2∧(∀g∈yZ _ _ _ _ _ _ _ _,_)∧∀key,∀g∈yZ _ _ _ _ _ _ _ _,xK key g=true→g=((yZ _ _ _ _ _ _ _ _).find? (xK key)).getD zcr;rcases zmi low high ((x.rank % rs.length:Nat):Int) (shf (fB x.feet) (rkF (zef rs (x.rank % rs.length)))) (((x.rank % rs.length+1) % rs.length:Nat):Int)
  (shf (fB x.feet) (rkF (zef rs ((x.rank % rs.length+1) % rs.length)))) (low+((x.at_:Int).tmod (high-low+1))) (x.kind % 6) with⟨g,e,h⟩|⟨g,h,e,hg,hh,hlt⟩
 ·rw[e];refine⟨by simp,fun z hz=>?_,fun key z hz hc=>?_⟩
  ·rw[YzF]at hz;rw[hz];exact hr g h
  ·rw[YzF]at hz;subst hz;rw[Yyp hc];rfl
 ·rw[e];refine⟨by simp,fun z hz=>?_,fun key z hz hc=>?_⟩
  ·simp only[YzA,Yzs,or_false]at hz;rcases hz with rfl|rfl
   ·exact hr _ hg
   ·exact hr _ hh
  ·simp only[YzA,Yzs,or_false]at hz;rcases hz with rfl|rfl
   ·rw[Yyp hc];rfl
   ·have:xK key g=false:=by
     unfold xK at hc ⊢;simp only[LzC,Yzn]at hc;rw[decide_eq_false (show ¬key≤g.hi by omega),Bool.and_false]
    rw[List.find?_cons_of_neg (by rw[this];simp),Yyp hc];rfl
theorem zyv(p:Pln)(hf:zdh p=true)(b:Nat→Nat):Zt (za7 p) (qc (za7 p) b):=by
 obtain⟨f1,f2,f3,f4,f5,f6⟩:=uW hf;have hdv:(za7 p).divs.els=vA (wz 0 p.ranks.els) 0 p.divs.els:=by unfold za7;simp only[zn]
 have hrk:(za7 p).ranks.els=wz 0 p.ranks.els:=by unfold za7;simp only[zn]
 refine⟨zA7 p hf b,fun d hd=>?_,fun d hd s hs=>?_⟩
 ·rw[hdv]at hd;obtain⟨j,b,_,rfl⟩:=uS hd;have q1:=zc3 b;have q2:=zat b;show ki b≤60;omega
 ·rw[hdv]at hd;obtain⟨j,b,_,rfl⟩:=uS hd;have hs:s∈(grow (wn (wz 0 p.ranks.els) (zdM b) (ki b) 0 b.stops.els)).els:=hs;rw[zn]at hs;obtain⟨i,x,rfl⟩:=qH hs;rw[hrk];exact zrR _ (by rw[uR];omega) _ _ _ _
section
variable {o:Org} {r:Reg} (F:Zt o r) {T:List (List (Sl Ze))} (hT:T.length=o.divs.els.length) (H:Rows o (wp o r) T)
include F H
end
end Go.Proofs.Tryz.Kn
end
section
namespace Go.Proofs.Tryz.Kn
open Go Go.CE Go.PE
def zmc(n:Nat)(low:Int):Nat→Nat→List y5
 |_,0=>[]
 |i,m+1=>⟨(n:Int),low+(i:Int)⟩::zmc n low (i+1) m
def zbw:Nat→List Zj→List y5
 |_,[]=>[]
 |n,d::l=>zmc n d.low 0 (d.high-d.low+1).toNat++zbw (n+1) l
def zjU(o:Org):List y5:=zbw 0 o.divs.els
noncomputable def zta(Q:y5→Prop)(c:y5):Bool:=!@decide (Q c) (Classical.propDecidable _)
theorem zt6{Q:y5→Prop}{c:y5}(h:Q c):zta Q c=false:=by unfold zta;rw[@decide_eq_true _ (Classical.propDecidable _) h];rfl
theorem zt5{Q:y5→Prop}{c:y5}(h:¬Q c):zta Q c=true:=by unfold zta;rw[@decide_eq_false _ (Classical.propDecidable _) h];rfl
noncomputable def fbQ(o:Org)(Q:y5→Prop):Option y5:=(zjU o).find? (zta Q)
def zxM:Option y5→y5
 |none=>⟨0,0⟩
 |some c=>c
theorem zhR{H:Sl Ze→Sl Ze→Bool}{Q:y5→Prop}(n:Nat)(low:Int):∀(x y:List (Sl Ze)) (i:Nat),x.length=y.length→(∀(j:Nat) (u v:Sl Ze),x[j]? = some u→y[j]? = some v→(H u v=true↔Q ⟨(n:Int),low+((i+j:Nat):Int)⟩))→
  (zlC H i x y).map (fun j:Nat=>(⟨(n:Int),low+(j:Int)⟩:y5))=(zmc n low i x.length).find? (zta Q)
 | [],[],i,_,_=>rfl
 |u::x,v::y,i,hl,h=>by
  have h0:=h 0 u v rfl rfl;rw[YzH]at h0;have ih:=zhR (H:=H) (Q:=Q) n low x y (i+1) (by simpa using hl) fun j a b h1 h2=>by
   have:=h (j+1) a b (by simpa using h1) (by simpa using h2)
   rwa [show i+(j+1)=i+1+j by omega]at this
  rw[Yzg,zmc];unfold zlC;by_cases hc:H u v=true
  ·rw[Yze hc,List.find?_cons_of_neg (by rw[zt6 (h0.1 hc)];simp),ih]
  ·rw[Yzb hc,Yyp (zt5 fun q=>hc (h0.2 q))];rfl
section
variable {o:Org} {r s:Reg}
theorem zhP{A B:List (List (Sl Ze))}(F:Fit o r)(HA:Rows o (wp o r) A)(HB:Rows o (wp o s) B){H:Sl Ze→Sl Ze→Bool}{Q:y5→Prop}
  (hq:∀(n:Nat) (key:Int) (x y:Sl Ze),wp o r n key x→wp o s n key y→(H x y=true↔Q ⟨(n:Int),key⟩)):∀(l:List Zj) (a b:List (List (Sl Ze))) (n:Nat),o.divs.els.drop n=l→A.drop n=a→B.drop n=b→a.length=l.length→b.length=l.length→
  (zeV H n a b).map (fun p=>spot o (some p))=(zbw n l).find? (zta Q)
 | [],a,b,n,_,_,_,ha,hb=>by have ha:a=[]:=List.eq_nil_of_length_eq_zero ha;subst ha;unfold zeV zbw;rfl
 |d::l,[],b,n,_,_,_,ha,_=>by simp at ha
 |d::l,x::a,[],n,_,_,_,_,hb=>by simp at hb
 |d::l,x::a,y::b,n,hd,hA,hB,ha,hb=>by
  have g:=zJ hd;obtain⟨q1,q2⟩:=HA.row n d x g (zJ hA);obtain⟨p1,p2⟩:=HB.row n d y g (zJ hB);have hr:=F.rng d (Lz3 g);have ih:=zhP F HA HB hq l a b (n+1) (zw hd) (zw hA) (zw hB) (by simpa using ha) (by simpa using hb);have ir:=zhR (H:=H) (Q:=Q) n d.low x y 0 (by omega) fun j u v h1 h2=>by
   have:=hq n _ u v (q2 j u h1) (p2 j v h2)
   rwa [show (0+j:Nat)=j by omega]
  have hx:x.length=(d.high-d.low+1).toNat:=by omega
  have hlow:zfI o n=d.low:=by unfold zfI;rw[g]
  unfold zbw;rw[List.find?_append,←hx,←ir,←ih,show zeV H n (x::a) (y::b)=(match zlC H 0 x y with|some i=>some (n,i)|none=>zeV H (n+1) a b) from rfl];cases zlC H 0 x y with
  |some j=>simp[spot,hlow]
  |none=>rfl
theorem zuB{A B:List (List (Sl Ze))}(F:Fit o r)(ha:A.length=o.divs.els.length)(hb:B.length=o.divs.els.length)(HA:Rows o (wp o r) A)(HB:Rows o (wp o s) B){H:Sl Ze→Sl Ze→Bool}{Q:y5→Prop}
  (hq:∀(n:Nat) (key:Int) (x y:Sl Ze),wp o r n key x→wp o s n key y→(H x y=true↔Q ⟨(n:Int),key⟩)):spot o (zeV H 0 A B)=zxM (fbQ o Q)∧(zeV H 0 A B).isNone=(fbQ o Q).isNone:=by
 have h:=zhP F HA HB hq o.divs.els A B 0 rfl rfl rfl ha hb;unfold fbQ zjU;rw[←h];cases zeV H 0 A B with
 |none=>exact⟨rfl,rfl⟩
 |some p=>exact⟨rfl,rfl⟩
end
section
variable {o:Org} {r s:Reg} (F:Zt o r) (G:Zt o s)
include F in
theorem zvp(n:Nat)(d:Zj)(hd:o.divs.els[n]? = some d):∀(m i:Nat) (acc:List y5),d.low+(i:Int)+(m:Int)=d.high+1→acc.length+m≤1000→
  zB (zqW (enV d) [I6 (n:Int)]) [I6 (d.low+(i:Int))] [ocL zX (grow acc)]=some (.exit 2,[],[ocL zX (grow (acc++zmc n d.low i m))]):=by
 have hr:=F.rng d (Lz3 hd);have a3:atD (enV d) 3=I6 d.high:=rfl;intro m
 induction m with
 |zero=>intro i acc hk _;have h1:decide (d.low+(i:Int)≤d.high)=false:=decide_eq_false (by omega);refine zl ?_;simp only[zqW,zi,zp,a3,xE,zb,h1,zg,Yzc,if_false,zmc,YzE]
 |succ m ih=>
  intro i acc hk ha;have h1:decide (d.low+(i:Int)≤d.high)=true:=decide_eq_true (by omega);have ea:zf .add (I6 (d.low+(i:Int))) (I6 1)=some (I6 (d.low+((i+1:Nat):Int))):=by rw[show d.low+((i+1:Nat):Int)=d.low+(i:Int)+1 by omega];exact yf
  have ef:fits 16 ((grow acc).els.length+1)=true:=yM (by decide) (by rw[zn];omega);have hp:(some ((grow acc).els.map zX++[[I6 (n:Int),I6 (d.low+(i:Int))]]):OC)=ocL zX (grow (acc++[⟨(n:Int),d.low+(i:Int)⟩])):=by rw[yw,←y0];rfl
  have body:zqW (enV d) [I6 (n:Int)] [I6 (d.low+(i:Int))] [ocL zX (grow acc)]=some (.normal,[I6 (d.low+((i+1:Nat):Int))],[ocL zX (grow (acc++[⟨(n:Int),d.low+(i:Int)⟩]))]):=by simp only[zqW,zi,zp,a3,xE,zb,h1,zg,if_true,zY,zU,ef,yF,ea,hp]
  rw[zx body,ih (i+1) _ (by omega) (by simp only[Yzk,Yzg,Yzx];omega),zmc];simp
include F in
theorem zvq:∀(l:List Zj) (n:Nat) (acc:List y5),o.divs.els.drop n=l→acc.length≤100*n→
  zB (zqX (I6 (o.divs.els.length:Int)) (enL 5 enV o.divs)) [I6 (n:Int)] [ocL zX (grow acc)]=some (.exit 0,[],[ocL zX (grow (acc++zbw n l))]):=by
 have hdl:=F.dl;have rlen:∀(n:Nat) (low:Int) (m i:Nat),(zmc n low i m).length=m:=by
  intro n low m
  induction m with
  |zero=>intro i;rfl
  |succ m ih=>intro i;rw[zmc,Yzg,ih]
 intro l
 induction l with
 |nil=>intro n acc h _;refine zl ?_;simp only[zqX,zi,zp,zc,zb,yK (zH h),zg,Yzc,if_false,zbw,YzE]
 |cons d l ih=>
  intro n acc h ha;have h1:=zZ h;have hd:=zJ h;have hr:=F.rng d (Lz3 hd);have lk:=zvp F n d hd (d.high-d.low+1).toNat 0 acc (by omega) (by omega);rw[show d.low+((0:Nat):Int)=d.low by omega]at lk;have iv:yy 5 (enL 5 enV o.divs) (I6 (n:Int))=some (enV d):=by rw[yb,hd];rfl
  have a2:atD (enV d) 2=I6 d.low:=rfl;have ea:zf .add (I6 (n:Int)) (I6 1)=some (I6 ((n+1:Nat):Int)):=yf;have body:zqX (I6 (o.divs.els.length:Int)) (enL 5 enV o.divs) [I6 (n:Int)] [ocL zX (grow acc)]=some (.normal,[I6 ((n+1:Nat):Int)],[ocL zX (grow (acc++zmc n d.low 0 (d.high-d.low+1).toNat))]):=by simp only[zqX,zi,zp,zc,zb,x4 h1,zg,if_true,iv,a2,lk,zt,Yzj,Yza,ea]
  rw[zx body,ih (n+1) _ (zw h) (by rw[Yzk,rlen];omega),zbw];simp
include F in
theorem t44(k:Nat):D (k+1) 44 [SA (enO o)]=some (S1 (enL 2 zX (grow (zjU o)))):=by have l:=zvq F o.divs.els 0 [] rfl (by simp);unfold enO;rw[D44];unfold P44;simp only[zA,zb];rw[show (I6 0:DV)=I6 ((0:Nat):Int) from rfl,show (none:OC)=ocL zX (grow []) from rfl,l];simp only[zt,Yzj,Yza,zp,yX,YzK];rfl
theorem zjT:∀(l:List Zj) (n:Nat),o.divs.els.drop n=l→∀c∈zbw n l,∃m:Nat,c.rank=(m:Int)∧inR o c=true
 | [],_,_,c,h=>by cases h
 |d::l,n,hd,c,h=>by
  unfold zbw at h;rcases YzI.1 h with h|h
  ·have hrow:∀(m i:Nat),∀c∈zmc n d.low i m,∃j:Nat,i≤j∧j<i+m∧c=⟨(n:Int),d.low+(j:Int)⟩:=by
    intro m
    induction m with
    |zero=>intro i c h;cases h
    |succ m ih=>
     intro i c h;rcases YzA.1 h with rfl|h
     ·exact⟨i,LzB _,by omega,rfl⟩
     ·obtain⟨j,h1,h2,h3⟩:=ih (i+1) c h;exact⟨j,by omega,by omega,h3⟩
   obtain⟨j,_,h2,rfl⟩:=hrow _ _ c h;exact⟨n,rfl,xR.2 ⟨n,d,rfl,zJ hd,by show d.low≤d.low+(j:Int);omega,by show d.low+(j:Int)≤d.high;omega⟩⟩
  ·exact zjT l (n+1) (zw hd) c h
end
end Go.Proofs.Tryz.Kn
end
section
namespace Go.Proofs.Tryz.Kn
open Go Go.CE Go.PE
theorem l23(a b:Sl Ctl)(he:a.els=b.els)(hl:a.els.length≤1000000):∀(r:List Ctl) (i:Nat),a.els.drop i=r→
  zB (zq4 (I6 (a.els.length:Int)) (enL 3 zL a) (enL 3 zL b)) [I6 (i:Int)] []=some (.exit 0,[],[]):=by
 intro r
 induction r with
 |nil=>intro i h;refine zl ?_;simp only[zq4,zi,zc,zb,yK (zH h),zg];rfl
 |cons x r ih=>
  intro i h;have h1:=zZ h;have h':=h;rw[he]at h';have ea:zf .add (I6 (i:Int)) (I6 1)=some (I6 ((i+1:Nat):Int)):=yf;have eq:=zsZ x x;have body:zq4 (I6 (a.els.length:Int)) (enL 3 zL a) (enL 3 zL b) [I6 (i:Int)] []=some (.normal,[I6 ((i+1:Nat):Int)],[]):=by simp only[zq4,zi,zc,zb,x4 h1,zg,if_true,zO h,zO h',zL,yE,xc,eq,ea];simp
  rw[zx body,ih (i+1) (zw h)]
theorem t23(k:Nat)(a b:Sl Ctl)(he:a.els=b.els)(hl:a.els.length≤1000000):D (k+1) 23 [S1 (enL 3 zL a),S1 (enL 3 zL b)]=some (S1 (Bo true)):=by have:=l23 a b he hl a.els 0 rfl;rw[D23];unfold P23;simp only[zA,←he,zb,yg,YzD,Yzw,zg];rw[show (I6 0:DV)=I6 ((0:Nat):Int) from rfl,this];rfl
theorem t22(k:Nat)(l:List Int)(cp off:Int)(h2:l.length≤1000)(c:Ctl)(hc:zwm c l.length):D (k+1) 22 [SA (ym ⟨some l,cp,off⟩),SA (zL c)]=some (SA (ym (xN l cp off c))):=by
 have ef:fits 8 (xt (some [])+(l.map enU).length)=true:=yM (by decide) (by simp;omega);obtain⟨kd,dv,ix⟩:=c;unfold ym zL;rw[D22];unfold P22;simp only[zcK,Option.isNone_some,zb,zg,Yzc,if_false,vX,yn,ef,yF,xF,zdG];rcases hc with⟨h1,i,j,h3,h4,h5,h6⟩|⟨h1,j,h4,h6⟩|⟨h1,j,h4,h6⟩
 ·simp only at h1 h3 h4;subst h1 h3 h4;obtain⟨s,hs⟩:∃s,l[i]? = some s:=⟨_,Lz5 h5⟩;have e1:y2 (some (l.map enU)) (I6 (i:Int))=some i:=wv (by rw[Yzq];exact h5);have e2:vZ (some (l.map enU)) i=some [U64 s]:=by rw[zan,hs];rfl
  have ec:yi .u64 (I6 (j:Int))=some (U64 (j:Int)):=jx (by omega);have e3:yj true (U64 1) (U64 (j:Int))=some (U64 ((2^j:Nat):Int)):=zdS (by omega);have e4:zgR 1 (some (l.map enU)) i 0 [U64 (wX s ((2^j:Nat):Int))]=some (some ((l.set i (wX s ((2^j:Nat):Int))).map enU)):=zzF hs (Lz4 rfl) rfl;simp only[YzD,if_true,e1,zb,e2,yE,ec,e3,wS,e4,xN,pw,Yzp,hs,Yyb,ut,w7]
 ·simp only at h1 h4;subst h1 h4;have ec:yi .u64 (I6 (j:Int))=some (U64 (j:Int)):=jx (by omega);have e3:yj true (U64 1) (U64 (j:Int))=some (U64 ((2^j:Nat):Int)):=zdS (by omega);have q:((2:Int)==1)=false:=rfl;have q2:¬((2:Int)=1):=by decide
  simp only[q,Yzc,if_false,YzD,if_true,zb,ec,e3,wS,xN,q2,pw,Yzp,ut,w7]
 ·simp only at h1 h4;subst h1 h4;have ec:yi .u64 (I6 (j:Int))=some (U64 (j:Int)):=jx (by omega);have e3:yj true (U64 1) (U64 (j:Int))=some (U64 ((2^j:Nat):Int)):=zdS (by omega);have q:((3:Int)==1)=false:=rfl;have q':((3:Int)==2)=false:=rfl;have q2:¬((3:Int)=1):=by decide
  have q3:¬((3:Int)=2):=by decide
  simp only[q,q',Yzc,if_false,YzD,if_true,zb,ec,e3,wS,xN,q2,q3,pw,Yzp,ut,w7]
theorem b21(s:Int)(i0:Nat)(n:Nat)(hn:n≤1000)(m i:Nat)(acc:List Ctl)(hi:i+m=n)(ha:acc.length+m≤1000000):
  zB (zin (I6 (n:Int)) [U64 s] [I6 (i0:Int)]) [I6 (i:Int)] [ocL zL (grow acc)]=some (.exit 0,[],[ocL zL (grow (acc++wW s 1 (i0:Int) i m))]):=by
 refine zeA (fun i acc hi ha=>?_) (fun acc=>?_) m i acc hi ha
 ·have ea:zf .add (I6 (i:Int)) (I6 1)=some (I6 ((i+1:Nat):Int)):=yf;have ef:fits 24 ((grow acc).els.length+1)=true:=yM (by decide) (by rw[zn];omega);have ec:yi .u64 (I6 (i:Int))=some (U64 (i:Int)):=jx (by omega);by_cases hb:bit s i=true
  ·rw[Yze hb,yw,←y0 (f:=zL)];unfold bit at hb;simp only[zin,zi,zp,zc,zb,x4 hi,zg,if_true,ec,yE,zcb,yT,zdW,hb,zY,zU,ef,yF,ea,zL]
  ·rw[Yzb hb];unfold bit at hb;have hb:=(Yyo _).mp hb;simp only[zin,zi,zp,zc,zb,x4 hi,zg,if_true,ec,yE,zcb,yT,zdW,hb,Yzc,if_false,ea]
 ·have:=yK (LzB n);simp only[zin,zi,zp,zc,zb,this,zg,Yzc,if_false]
theorem c21(a:Int)(n:Nat)(hn:n≤1000)(m i:Nat)(acc:List Ctl)(hi:i+m=n)(ha:acc.length+m≤1000000):
  zB (zim (I6 (n:Int)) (U64 a)) [I6 (i:Int)] [ocL zL (grow acc)]=some (.exit 0,[],[ocL zL (grow (acc++wW a 2 0 i m))]):=by
 refine zeA (fun i acc hi ha=>?_) (fun acc=>?_) m i acc hi ha
 ·have ea:zf .add (I6 (i:Int)) (I6 1)=some (I6 ((i+1:Nat):Int)):=yf;have ef:fits 24 ((grow acc).els.length+1)=true:=yM (by decide) (by rw[zn];omega);have ec:yi .u64 (I6 (i:Int))=some (U64 (i:Int)):=jx (by omega);by_cases hb:bit a i=true
  ·rw[Yze hb,yw,←y0 (f:=zL)];unfold bit at hb;simp only[zim,zi,zp,zc,zb,x4 hi,zg,if_true,ec,zcb,yT,zdW,hb,zY,zU,ef,yF,ea,zL]
  ·rw[Yzb hb];unfold bit at hb;have hb:=(Yyo _).mp hb;simp only[zim,zi,zp,zc,zb,x4 hi,zg,if_true,ec,zcb,yT,zdW,hb,Yzc,if_false,ea]
 ·have:=yK (LzB n);simp only[zim,zi,zp,zc,zb,this,zg,Yzc,if_false]
theorem f21(a:Int)(n:Nat)(hn:n≤1000)(m i:Nat)(acc:List Ctl)(hi:i+m=n)(ha:acc.length+m≤1000000):
  zB (zil (I6 (n:Int)) (U64 a)) [I6 (i:Int)] [ocL zL (grow acc)]=some (.exit 0,[],[ocL zL (grow (acc++wW a 3 0 i m))]):=by
 refine zeA (fun i acc hi ha=>?_) (fun acc=>?_) m i acc hi ha
 ·have ea:zf .add (I6 (i:Int)) (I6 1)=some (I6 ((i+1:Nat):Int)):=yf;have ef:fits 24 ((grow acc).els.length+1)=true:=yM (by decide) (by rw[zn];omega);have ec:yi .u64 (I6 (i:Int))=some (U64 (i:Int)):=jx (by omega);by_cases hb:bit a i=true
  ·rw[Yze hb,yw,←y0 (f:=zL)];unfold bit at hb;simp only[zil,zi,zp,zc,zb,x4 hi,zg,if_true,ec,zcb,yT,zdW,hb,zY,zU,ef,yF,ea,zL]
  ·rw[Yzb hb];unfold bit at hb;have hb:=(Yyo _).mp hb;simp only[zil,zi,zp,zc,zb,x4 hi,zg,if_true,ec,zcb,yT,zdW,hb,Yzc,if_false,ea]
 ·have:=yK (LzB n);simp only[zil,zi,zp,zc,zb,this,zg,Yzc,if_false]
theorem l21(dv:Sl Zj)(hd:dv.els.length≤1000)(hs:∀d∈dv.els,d.stops.els.length≤60)(st:Sl Int):∀(ds:List Zj) (ss:List Int) (i:Nat) (acc:List Ctl),dv.els.drop i=ds→st.els.drop i=ss→ss.length=ds.length→i≤1000→acc.length≤100*i→
  ∃acc':List Ctl,acc'.length≤100000∧acc'=acc++wP ds ss i∧zB (zio (I6 (dv.els.length:Int)) (enL 5 enV dv) (enL 1 enU st)) [I6 (i:Int)] [ocL zL (grow acc)]=some (.exit 0,[],[ocL zL (grow acc')]):=by
 intro ds
 induction ds with
 |nil=>intro ss i acc h h' hl hi ha;refine⟨acc,by omega,by simp[wP],zl ?_⟩;simp only[zio,zi,zp,zc,zb,yK (zH h),zg,Yzc,if_false]
 |cons d ds ih=>
  intro ss i acc h h' hl hi ha;have h1:=zZ h;cases ss with
  |nil=>simp at hl
  |cons s ss=>
   have hdm:=hs d (Lz3 (zJ h));have ea:zf .add (I6 (i:Int)) (I6 1)=some (I6 ((i+1:Nat):Int)):=yf;have inn:=b21 s i d.stops.els.length (by omega) d.stops.els.length 0 acc (by omega) (by omega);have len:=vG s 1 (i:Int) d.stops.els.length 0;have body:zio (I6 (dv.els.length:Int)) (enL 5 enV dv) (enL 1 enU st) [I6 (i:Int)] [ocL zL (grow acc)]=some (.normal,[I6 ((i+1:Nat):Int)],[ocL zL (grow (acc++wW s 1 (i:Int) 0 d.stops.els.length))]):=by simp only[zio,zi,zp,zc,zb,x4 h1,zg,if_true,zO h,zO h',enV,yE,xc,zA];rw[show (I6 0:DV)=I6 ((0:Nat):Int) from rfl,inn];simp only[zt,Yzj,Yza,ea,zb,zp]
   obtain⟨acc',q1,q2,q3⟩:=ih ss (i+1) (acc++wW s 1 (i:Int) 0 d.stops.els.length) (zw h) (zw h') (by simpa using hl) (by omega) (by rw[Yzk];omega);exact⟨acc',q1,by rw[q2,wP,YzC],by rw[zx body,q3]⟩
section
variable {o:Org} {r s:Reg}
theorem zqB(F:Fit o r):(zjU o).length≤1000:=by
 have rlen:∀(n:Nat) (low:Int) (m i:Nat),(zmc n low i m).length=m:=by
  intro n low m
  induction m with
  |zero=>intro i;rfl
  |succ m ih=>intro i;rw[zmc,Yzg,ih]
 have hg:∀(l:List Zj) (n:Nat),(∀d∈l,d∈o.divs.els)→(zbw n l).length≤9*l.length:=by
  intro l
  induction l with
  |nil=>intro n _;simp[zbw]
  |cons d l ih=>intro n h;have:=F.rng d (h d (Yzh ..));have:=ih (n+1) fun x hx=>h x (Yzf _ hx);rw[zbw,Yzk,rlen,Yzg];omega
 have:=hg o.divs.els 0 fun _ h=>h;have:=F.dl;unfold zjU;omega
def zl9(o:Org)(r s:Reg)(c:y5):Prop:=∀z,zdY o r c z↔zdY o s c z
theorem zwb(F:Fit o r)(G:Fit o s)(k:Nat):(fbQ o (zl9 o r s)).isNone=wt o r s:=by
 obtain⟨A,_,a2,a3⟩:=t29 F k;obtain⟨B,_,b2,b3⟩:=t29 G k;have hq:∀(n:Nat) (key:Int) (x y:Sl Ze),wp o r n key x→wp o s n key y→(decide (x.els=y.els)=true↔zl9 o r s ⟨(n:Int),key⟩):=fun n key x y hx hy=>by rw[decide_eq_true_iff];exact zcz hx hy
 rw[←(zuB F a2 b2 a3 b3 (H:=fun x y=>decide (x.els=y.els)) hq).2];exact zfY (P:=Alike o r s) (by rw[Option.isNone_iff_eq_none,zhS F a2 b2 a3 b3 (Q:=zl9 o r s) hq];rfl) likeB_iff
def zwE(o:Org)(r:Reg)(l:List y5)(w:List (Sl Ze)):Prop:=w.length=l.length∧∀(j:Nat) (c:y5) (v:Sl Ze),l[j]? = some c→w[j]? = some v→wp o r c.rank.toNat c.num v
theorem zsx(F:Zt o r)(k:Nat)(L:Sl y5)(hL:L.els.length≤1000)(hin:∀c∈L.els,∃m:Nat,c.rank=(m:Int)∧inR o c=true):∀(l:List y5) (i:Nat) (acc:List (Sl Ze)),L.els.drop i=l→acc.length≤i→
  ∃w,zwE o r l w∧zB (zq5 (D (k+6)) (I6 (L.els.length:Int)) (enL 2 zX L) (St o.name) (enL 6 enR o.ranks) (enL 5 enV o.divs) (enL 5 enC o.cpls) (enL 1 enU r.stops) (U64 r.cpls) (U64 r.off)) [I6 (i:Int)] [ocL y9 (grow acc)]=some (.exit 0,[],[ocL y9 (grow (acc++w))]):=by
 intro l
 induction l with
 |nil=>intro i acc h _;refine⟨[],⟨rfl,fun j c v h=>by simp at h⟩,zl ?_⟩;simp only[zq5,zi,zp,zc,zb,yK (zH h),zg,YzE];rfl
 |cons c l ih=>
  intro i acc h ha;have h1:=zZ h;obtain⟨m,hm,hc⟩:=hin c (Lz3 (zJ h));have hcc:c=⟨(m:Int),c.num⟩:=Ze.eq hm rfl;rw[hcc]at hc;obtain⟨u,u1,u2⟩:=t17 F k m c.num hc;rw[←hm]at u1;unfold enO ym at u1;have ea:zf .add (I6 (i:Int)) (I6 1)=some (I6 ((i+1:Nat):Int)):=yf;have ix:yy 2 (enL 2 zX L) (I6 (i:Int))=some [I6 c.rank,I6 c.num]:=zO h .i64;have ef:fits 24 ((grow acc).els.length+1)=true:=yM (by decide) (by rw[zn];omega);have hp:(some ((grow acc).els.map y9++[[enL 2 zX u]]):OC)=ocL y9 (grow (acc++[u])):=by rw[yw,←y0];rfl
  have body:zq5 (D (k+6)) (I6 (L.els.length:Int)) (enL 2 zX L) (St o.name) (enL 6 enR o.ranks) (enL 5 enV o.divs) (enL 5 enC o.cpls) (enL 1 enU r.stops) (U64 r.cpls) (U64 r.off) [I6 (i:Int)] [ocL y9 (grow acc)]=some (.normal,[I6 ((i+1:Nat):Int)],[ocL y9 (grow (acc++[u]))]):=by simp only[zq5,zi,zp,zc,zb,x4 h1,zg,if_true,ix,yE,xc,u1,zR,zY,zU,ef,yF,ea,hp]
  obtain⟨w,⟨w1,w2⟩,w3⟩:=ih (i+1) (acc++[u]) (zw h) (by simp only[Yzk,Yzg,Yzx];omega);refine⟨u::w,⟨by simp[w1],fun j c' v hj hv=>?_⟩,by rw[zx body,w3,YzC];rfl⟩;cases j with
  |zero=>simp only[Yzi,Option.some.injEq]at hj hv;subst hj hv;rw[hm];exact u2
  |succ j=>exact w2 j c' v (by simpa using hj) (by simpa using hv)
end
section
variable {o:Org} (ho:o.ok) (h0:vM o=0) (hsm:∀d∈o.divs.els,d.stops.els.length≤60) (hcl:o.cpls.els.length≤60) (FL:∀(l:List Int) (cp off:Int),l.length=o.divs.els.length→Zt o ⟨some l,cp,off⟩)
theorem zvn{r s:Reg}(G:Zt o s)(k:Nat)(L:Sl y5)(hL:L.els.length≤1000)(hin:∀c∈L.els,∃m:Nat,c.rank=(m:Int)∧inR o c=true){w:List (Sl Ze)}(W:zwE o r L.els w):∀(l:List y5) (i:Nat),L.els.drop i=l→
  zB (zqV (D (k+6)) (I6 (L.els.length:Int)) (enL 2 zX L) (enL 1 y9 (grow w)) (St o.name) (enL 6 enR o.ranks) (enL 5 enV o.divs) (enL 5 enC o.cpls) (ym s)) [I6 (i:Int)] []=some (match l.find? (zta (zl9 o r s)) with
   |none=>(.exit 0,[],[])
   |some _=>(.ret,[Bo true],[])):=by
 intro l
 induction l with
 |nil=>intro i h;refine zl ?_;simp only[zqV,zi,zc,zb,yK (zH h),zg];rfl
 |cons c l ih=>
  intro i h;have h1:=zZ h;have hg:=zJ h;obtain⟨m,hm,hc⟩:=hin c (Lz3 hg);have hcc:c=⟨(m:Int),c.num⟩:=Ze.eq hm rfl;obtain⟨v,hv⟩:∃v,w[i]? = some v:=⟨_,Lz5 (by have:=W.1;omega)⟩;have hcell:=W.2 i c v hg hv;rw[hm,Yzp]at hcell;rw[hcc]at hc;obtain⟨u,u1,u2⟩:=t17 G k m c.num hc;rw[←hm]at u1;have cs:D (k+6) 16 [S1 (enL 2 zX v),S1 (enL 2 zX u)]=some (S1 (Bo (decide (v.els=u.els)))):=by have c:=t37 (k+4) v u hcell.1;rw[D16];unfold P16;rw[c];rfl
  have hq:decide (v.els=u.els)=true↔zl9 o r s c:=by rw[decide_eq_true_iff,zcz hcell u2,←hcc];rfl
  unfold enO at u1;have ea:zf .add (I6 (i:Int)) (I6 1)=some (I6 ((i+1:Nat):Int)):=yf;have ix:yy 2 (enL 2 zX L) (I6 (i:Int))=some [I6 c.rank,I6 c.num]:=zO h .i64;have iw:yy 1 (enL 1 y9 (grow w)) (I6 (i:Int))=some [enL 2 zX v]:=by rw[yb,zn,hv];rfl
  have body:zqV (D (k+6)) (I6 (L.els.length:Int)) (enL 2 zX L) (enL 1 y9 (grow w)) (St o.name) (enL 6 enR o.ranks) (enL 5 enV o.divs) (enL 5 enC o.cpls) (ym s) [I6 (i:Int)] []=some (if decide (v.els=u.els)=true then(.normal,[I6 ((i+1:Nat):Int)],[]) else(.ret,[Bo true],[])):=by simp only[zqV,zi,zc,zb,x4 h1,zg,if_true,ix,iw,zqy,yE,xc,u1,zR,cs,yI,ea];cases decide (v.els=u.els)<;>rfl
  by_cases hH:decide (v.els=u.els)=true
  ·rw[Yze hH]at body;rw[zx body,ih (i+1) (zw h),List.find?_cons_of_neg (by rw[zt6 (hq.1 hH)];simp)]
  ·rw[Yzb hH]at body;rw[zG body,Yyp (zt5 fun q=>hH (hq.2 q))]
include hsm hcl FL in
theorem t48(k:Nat){l:List Int}{cp off:Int}(W:Few o l cp off){w:List (Sl Ze)}(hw:zwE o ⟨some l,cp,off⟩ (zjU o) w){c:Ctl}(hc:c∈qe o ⟨some l,cp,off⟩):
  D (k+7) 48 [SA (zL c),S1 (.fp (ym ⟨some l,cp,off⟩) 0),S1 (.fp [enL 2 zX (grow (zjU o))] 0),S1 (.fp [enL 1 y9 (grow w)] 0),S1 (.fp (enO o) 0)]=some (S1 (Bo (!wt o ⟨some l,cp,off⟩ (xN l cp off c)))):=by
 have hl:=W.len;have F:=FL l cp off W.len;have hdl:=F.dl;obtain⟨l',cp',off',e,W',_⟩:=zla W hc;have G:Zt o (xN l cp off c):=by rw[e];exact FL _ _ _ W'.len
 have cw:=t22 (k+5) l cp off (by omega) c (zdr (r:=⟨some l,cp,off⟩) (by omega) hsm hcl c hc);have hlen:=zqB F.toFit;have lp:=zvn (r:=⟨some l,cp,off⟩) G k (grow (zjU o)) (by rw[zn];exact hlen) (by rw[zn];exact zjT (o:=o) o.divs.els 0 rfl) (by rw[zn];exact hw) (zjU o) 0 (by rw[zn];rfl);have hn:=zwb F.toFit G.toFit k;unfold fbQ at hn;unfold zL at cw ⊢;unfold enO ym at *;rw[D48];unfold P48;rw[e]at cw lp hn ⊢;simp only at lp;simp only[cw,bA,zA,zb];rw[zn]at lp ⊢;rw[show (I6 0:DV)=I6 ((0:Nat):Int) from rfl];rw[←hn];rw[lp];cases (zjU o).find? (zta (zl9 o ⟨some l,cp,off⟩ ⟨some l',cp',off'⟩))<;>rfl
theorem zuw(k:Nat){f:DV}{p:Ctl→Bool}(q:List Ctl)(hq:q.length≤1000000)(hf:∀c∈q,zeW (D k) f [SA (zL c)]=some (S1 (Bo (p c)))):D (k+1) 32 [S1 (enL 3 zL (grow q)),S1 f]=some (S1 (I6 (match y3 p q 0 with|some i=>(i:Int)|none=>-1))):=by
 have li:∀(x:List Ctl) (i:Nat),q.drop i=x→zB (zgz (D k) (I6 (q.length:Int)) (enL 3 zL (grow q)) f) [I6 (i:Int)] []=some (found (y3 p x i)):=by
  intro x
  induction x with
  |nil=>intro i h;refine zl ?_;simp only[zgz,zi,zc,zb,yK (zH h),zg];rfl
  |cons c x ih=>
   intro i h;have h1:=zZ h;have ea:zf .add (I6 (i:Int)) (I6 1)=some (I6 ((i+1:Nat):Int)):=yf;have cc:=hf c (Lz3 (zJ h));unfold zL at cc;have ix:yy 3 (enL 3 zL (grow q)) (I6 (i:Int))=some (zL c):=by rw[yb,zn,zJ h];rfl
   have body:zgz (D k) (I6 (q.length:Int)) (enL 3 zL (grow q)) f [I6 (i:Int)] []=some (if p c=true then(.ret,[I6 (i:Int)],[]) else(.normal,[I6 ((i+1:Nat):Int)],[])):=by simp only[zgz,zi,zc,zb,x4 h1,zg,if_true,ix,zL,yE,xc,cc,zR,ea];cases p c<;>rfl
   unfold y3;by_cases hc:p c=true
   ·rw[Yze hc]at body ⊢;rw[zG body];rfl
   ·rw[Yzb hc]at body ⊢;rw[zx body,ih (i+1) (zw h)]
 rw[D32];unfold P32;simp only[zA,zn,zb];rw[show (I6 0:DV)=I6 ((0:Nat):Int) from rfl,li q 0 rfl];cases y3 p q 0<;>rfl
theorem znx{l:List Ctl}{i:Nat}{x:Ctl}(h:i<l.length):(l.set i x).take (i+1)=l.take i++[x]:=by rw[Yyf,List.getElem?_set_self h,List.take_set,List.set_eq_of_length_le (by simp;omega)];rfl
theorem zsy(k:Nat){p:Ctl→Bool}{a b c v:DV}{M:List OC}{n r d e:DV}(q:List Ctl)(hq:q.length≤1000000)
  (hf:∀x∈q,D k 48 [SA (zL x),S1 (.fp [a,b,c] 0),S1 (.fp [v] 0),S1 (.fp [mkL 1 (zq M 0)] 0),S1 (.fp [n,r,d,e] 0)]=some (S1 (Bo (!p x)))):∀(x:List Ctl) (j:Nat) (acc w:List Ctl),q.drop j=x→acc.length<j→w.length=q.length→w.take acc.length=acc→(∀i,j≤i→w[i]? = q[i]?)→
  ∃w':List Ctl,w'.length=q.length∧w'.take (acc++x.filter p).length=acc++x.filter p∧zB (zik (D k) a b c v M n r d e) [I6 (j:Int),I6 (acc.length:Int)] [ocL zL (some w)]=some (.exit 0,[I6 ((acc++x.filter p).length:Int)],[ocL zL (some w')]):=by
 intro x
 induction x with
 |nil=>intro j acc w h hj hw ht _;have h1:=zH h;refine⟨w,hw,by simpa using ht,zl ?_⟩;simp only[zik,zi,yU,zp,zY,yn,xj,zc,zb,yK (show w.length≤j by omega),zg,List.filter_nil,YzE];rfl
 |cons y x ih=>
  intro j acc w h hj hw ht he;have h1:=zZ h;have hg:=zJ h;have hy:=hf y (Lz3 hg);unfold zL at hy;have hwj:w[j]? = some y:=by rw[he j (LzB _),hg]
  have i1:y2 (ocL zL (some w)) (I6 (j:Int))=some j:=wv (by rw[Yzq];omega);have n1:vZ (ocL zL (some w)) j=some (zL y):=by show vZ (some (w.map zL)) j=_;rw[zan,hwj];rfl
  have i2:y2 (ocL zL (some w)) (I6 (acc.length:Int))=some acc.length:=wv (by rw[Yzq];omega);obtain⟨z,hz⟩:∃z,w[acc.length]? = some z:=⟨_,Lz5 (by omega)⟩;have st:zgR 3 (ocL zL (some w)) acc.length 0 [I6 y.kind,I6 y.div,I6 y.idx]=some (ocL zL (some (w.set acc.length y))):=zzF (f:=zL) hz (Lz4 rfl) rfl;have ea:zf .add (I6 (j:Int)) (I6 1)=some (I6 ((j+1:Nat):Int)):=yf;have eb:zf .add (I6 (acc.length:Int)) (I6 1)=some (I6 ((acc.length+1:Nat):Int)):=yf;have body:zik (D k) a b c v M n r d e [I6 (j:Int),I6 (acc.length:Int)] [ocL zL (some w)]=some (if p y=true then(.normal,[I6 ((j+1:Nat):Int),I6 ((acc.length+1:Nat):Int)],[ocL zL (some (w.set acc.length y))]) else(.normal,[I6 ((j+1:Nat):Int),I6 (acc.length:Int)],[ocL zL (some w)])):=by simp only[zik,zi,yU,zp,zY,yn,xj,zc,zb,x4 (show j<w.length by omega),zg,if_true,i1,n1,zL,yE,xc,hy,zy6,yI,i2,st,ea,eb];cases p y<;>rfl
  by_cases hp:p y=true
  ·rw[Yze hp]at body;rw[List.filter_cons_of_pos hp,zx body];have hl:(acc++[y]).length=acc.length+1:=by simp
   obtain⟨w',g1,g2,g3⟩:=ih (j+1) (acc++[y]) (w.set acc.length y) (zw h) (by omega) (by simpa using hw) (by rw[hl,znx (by omega),ht]) fun i hi=>by rw[List.getElem?_set,Yzb (by omega)];exact he i (by omega)
   rw[hl]at g3;rw[YzC]at g2 g3;exact⟨w',g1,g2,g3⟩
  ·rw[Yzb hp]at body;rw[List.filter_cons_of_neg hp,zx body];exact ih (j+1) acc w (zw h) (by omega) hw ht fun i hi=>he i (by omega)
theorem zbM{α:Type}(p:α→Bool):∀(l:List α) (i:Nat),(y3 (fun x=>!p x) l i=none→l.filter p=l)∧∀j,y3 (fun x=>!p x) l i=some j→i≤j∧j-i<l.length∧l.filter p=l.take (j-i)++(l.drop (j-i+1)).filter p
 | [],i=>⟨fun _=>rfl,fun j h=>by unfold y3 at h;cases h⟩
 |x::l,i=>by
  obtain⟨h1,h2⟩:=zbM p l (i+1);unfold y3;by_cases hc:p x=true
  ·rw[Yzb (by simp[hc]),List.filter_cons_of_pos hc];refine⟨fun h=>by rw[h1 h],fun j h=>?_⟩;obtain⟨q1,q2,q3⟩:=h2 j h;refine⟨by omega,by simp only[Yzg];omega,?_⟩;rw[q3,show j-i=(j-(i+1))+1 by omega];rfl
  ·rw[Yze (by simp[hc]),List.filter_cons_of_neg hc];refine⟨fun h=>(by cases h),fun j h=>?_⟩;cases h;rw[Nat.sub_self];exact⟨LzB _,by simp,rfl⟩
include hsm hcl FL in
theorem t21(k:Nat){l:List Int}{cp off:Int}(W:Few o l cp off):∃v:Sl Ctl,v.els=(qe o ⟨some l,cp,off⟩).filter (fun c=>wt o ⟨some l,cp,off⟩ (xN l cp off c))∧D (k+9) 21 [SA (enO o),SA (ym ⟨some l,cp,off⟩)]=some (S1 (enL 3 zL v)):=by
 have hl:=W.len;have F:=FL l cp off W.len;have hdl:=F.dl;have ca:=t44 F (k+7);have hlen:=zqB F.toFit;obtain⟨w,hw,l1⟩:=zsx F (k+2) (grow (zjU o)) (by rw[zn];exact hlen) (by rw[zn];exact zjT (o:=o) o.divs.els 0 rfl) (zjU o) 0 [] (by rw[zn];rfl) (LzB _);obtain⟨acc,q1,q2,q3⟩:=l21 o.divs (by omega) hsm (some l) o.divs.els l 0 [] rfl rfl hl (by omega) (by simp);have c:=c21 cp o.cpls.els.length (by omega) o.cpls.els.length 0 acc (by omega) (by omega);have lc:=vG cp 2 0 o.cpls.els.length 0;have f:=f21 off o.divs.els.length (by omega) o.divs.els.length 0 (acc++wW cp 2 0 0 o.cpls.els.length) (by omega) (by rw[Yzk];omega);have hct:acc++wW cp 2 0 0 o.cpls.els.length++wW off 3 0 0 o.divs.els.length=qe o ⟨some l,cp,off⟩:=by rw[q2];rfl
 rw[hct]at f;have hcn:=zcl (o:=o) (l:=l) (cp:=cp) (off:=off) (by omega) hsm (by omega) hcl;obtain⟨p,hp⟩:∃p:Ctl→Bool,p=fun c=>wt o ⟨some l,cp,off⟩ (xN l cp off c):=⟨_,rfl⟩;have h0 (k:Nat) (c:Ctl) (hc:c∈qe o ⟨some l,cp,off⟩):D (k+7) 48 [SA (zL c),S1 (.fp (ym ⟨some l,cp,off⟩) 0),S1 (.fp [enL 2 zX (grow (zjU o))] 0),S1 (.fp [enL 1 y9 (grow w)] 0),S1 (.fp (enO o) 0)]=some (S1 (Bo (!p c))):=by rw[hp];exact t48 hsm hcl FL k W hw hc
 have h1:=h0 k;have h2:=h0 (k+1);clear h0;rw[←hp];clear hp;generalize qe o ⟨some l,cp,off⟩=Q at *;have ci:=zuw (k+7) (f:=.fn 48 [ym ⟨some l,cp,off⟩,[enL 2 zX (grow (zjU o))],[enL 1 y9 (grow w)],enO o]) (p:=fun c=>!p c) Q hcn h1;obtain⟨f1,f2⟩:=zbM p Q 0;unfold enO at ca;unfold enO ym at *;rw[D21];unfold P21;simp only[ca,zR,zA,zb];rw[zn]at l1 ⊢;have z1:([none]:List OC)=[ocL y9 (grow ([]:List (Sl Ze)))]:=rfl;have z2:([none]:List OC)=[ocL zL (grow ([]:List Ctl))]:=rfl;rw[show (I6 0:DV)=I6 ((0:Nat):Int) from rfl];cases hfi:y3 (fun c=>!p c) Q 0 with
 |none=>refine⟨grow Q,by rw[zn,f1 hfi],?_⟩;rw[hfi]at ci;rw[z1,l1];simp only[zt,Yzj,Yza,zp,YzK,yX];rw[←z1,z2,q3];simp only[zt,Yzj,Yza,zp];rw[c];simp only[zt,Yzj,Yza,zp];rw[f];simp only[zt,Yzj,Yza,zp,yX,ci,zgx,xF,zb,YzD,zg,if_true]
 |some j=>
  obtain⟨_,g1,g2⟩:=f2 j hfi;rw[Yyq]at g1 g2;rw[hfi]at ci;have hQg:grow Q=some Q:=zf5 (by omega);have htl:(Q.take j).length=j:=by rw[List.length_take];omega
  have h3:∀x∈Q,D (k+8) 48 [SA (zL x),S1 (.fp [enL 1 enU (some l),U64 cp,U64 off] 0),S1 (.fp [enL 2 zX (grow (zjU o))] 0),S1 (.fp [mkL 1 (zq [ocL y9 (grow w)] 0)] 0),S1 (.fp [St o.name,enL 6 enR o.ranks,enL 5 enV o.divs,enL 5 enC o.cpls] 0)]=some (S1 (Bo (!p x))):=fun x hx=>by rw[zp,yX];exact h2 x hx
  obtain⟨w',w1,w2,w3⟩:=zsy (k+8) (p:=p) (M:=[ocL y9 (grow w)]) Q hcn h3 (Q.drop (j+1)) (j+1) (Q.take j) Q rfl (by omega) rfl (by rw[htl]) fun _ _=>rfl;rw[htl,←g2]at w3;rw[←g2]at w2;have hfl:(Q.filter p).length<Q.length:=by rw[g2,Yzk,htl];have:=List.length_filter_le p (Q.drop (j+1));rw[List.length_drop]at this;omega
  refine⟨some (Q.filter p),rfl,?_⟩;have ea:zf .add (I6 (j:Int)) (I6 1)=some (I6 ((j+1:Nat):Int)):=yf;have hne:((j:Int) == -1)=false:=by exact beq_eq_false_iff_ne.2 (by omega)
  generalize hm:(Q.filter p).length=m at *;have vw:vwB (some (I6 (m:Int))) none Q.length=some (m,Q.length-m):=by
   unfold vwB;rw[zlA];simp only[zwq (show m≤Q.length by omega)];have:(Nat.beq m Q.length)=false:=by
    cases hq:Nat.beq m Q.length with
    |false=>rfl
    |true=>have:=Lz1 hq;omega
   rw[this];simp
  have hcl':ziB (ocL zL (some w')) m (Q.length-m) [I6 ((0:Nat):Int),I6 ((0:Nat):Int),I6 ((0:Nat):Int)]=some ((w'.map zL).take m++List.replicate (Q.length-m) [I6 ((0:Nat):Int),I6 ((0:Nat):Int),I6 ((0:Nat):Int)]++(w'.map zL).drop (m+(Q.length-m))):=rfl;have hcn':((w'.map zL).take m++List.replicate (Q.length-m) [I6 ((0:Nat):Int),I6 ((0:Nat):Int),I6 ((0:Nat):Int)]++(w'.map zL).drop (m+(Q.length-m))).length=Q.length:=by simp;omega
  have vt:vwB none (some (I6 (m:Int))) Q.length=some (0,m-0):=by unfold vwB;rw[zwq (show m≤Q.length by omega)];rfl
  rw[z1,l1];simp only[zt,Yzj,Yza,zp,YzK,yX];rw[←z1,z2,q3];simp only[zt,Yzj,Yza,zp];rw[c];simp only[zt,Yzj,Yza,zp];rw[f];simp only[zt,Yzj,Yza,zp,yX,ci,zgx,xF,zb,hne,zg,Yzc,if_false,ea];rw[hQg,w3];simp only[zt,Yzj,Yza,zi,zp,zY,yn,w1,vw,zb,hcl',zhl,hcn',vt];show some (S1 (zcI 3 0 (m-0) (.lst 3 _)))=_;rw[Yyq];show some (S1 (DV.lst 3 ((List.drop 0 _).take m)))=_;rw[List.drop_zero,YzC,List.take_append_of_le_length (by simp;omega),List.take_take,Nat.min_self,←List.map_take,w2];rfl
include hsm hcl FL in
theorem zpl(k:Nat){A:List (List (Sl Ze))}{r:Reg}(F:Fit o r)(a2:A.length=o.divs.els.length)(a3:Rows o (wp o r) A):∀(m:Nat) (l:List Int) (cp off:Int),Few o l cp off→zdl l cp off<(m:Int)→Alike o r ⟨some l,cp,off⟩→∀v:Sl Ctl,v.els=(qe o ⟨some l,cp,off⟩).filter (fun c=>wt o ⟨some l,cp,off⟩ (xN l cp off c))→
  ∃l' cp' off',zB (zlL (D (k+8)) (St o.name) (enL 6 enR o.ranks) (enL 5 enV o.divs) (enL 5 enC o.cpls) (.lst 1 (A.map yl))) (stO l cp off) []=some (zCi l' cp' off')∧Few o l' cp' off'∧
   zB (zjY (D (k+9)) (enO o)) [enL 3 zL v,enL 1 enU (some l),U64 cp,U64 off] []=some (.exit 0,[enL 1 enU (some l'),U64 cp',U64 off'],[]):=by
 intro m
 induction m with
 |zero=>intro l cp off W hm;have:=znz W;omega
 |succ m ih=>
  intro l cp off W hm ha v hv;have hl:=W.len;have hdl:=F.dl;have hr:=zgW hsm hcl (fun l cp off h=>(FL l cp off h).toFit) k F W a2 a3;have hp:(fun c=>wt o r (xN l cp off c))=fun c=>wt o ⟨some l,cp,off⟩ (xN l cp off c):=funext fun c=>zfY likeB_iff (likeB_iff.trans ⟨fun h=>qX ha h,fun h=>qX (znf ha) h⟩);rw[hp]at hr;rcases zbe (fun c=>wt o ⟨some l,cp,off⟩ (xN l cp off c)) (qe o ⟨some l,cp,off⟩) 0 with⟨e1,e2⟩|⟨j,c,e1,e2,e3⟩
  ·rw[e1]at hr;rw[List.filter_eq_nil_iff.2 (List.find?_eq_none.1 e2)]at hv;refine⟨l,cp,off,zG hr,W,zl ?_⟩;simp only[zjY,zi,yU,zA,hv,zb,yP,zg];rfl
  ·rw[Yzm]at e1;rw[e1]at hr;simp only[e2]at hr;have hc:=Lz3 e2;have hk:=List.find?_some e3;obtain⟨l',cp',off',e,W',hlt⟩:=zla W hc;rw[e]at hr;simp only[e]at hk;obtain⟨v1,hv1,d1⟩:=t21 hsm hcl FL k W';have cw:=t22 (k+8) l cp off (by omega) c (zdr (r:=⟨some l,cp,off⟩) (by omega) hsm hcl c hc);rw[e]at cw;obtain⟨l2,cp2,off2,q1,q2,q3⟩:=ih l' cp' off' W' (by omega) (qX ha (likeB_iff.1 hk)) v1 hv1;have hh:=List.head?_filter (p:=fun c=>wt o ⟨some l,cp,off⟩ (xN l cp off c)) (l:=qe o ⟨some l,cp,off⟩);rw[e3,←hv]at hh;obtain⟨rest,hrest⟩:=List.head?_eq_some_iff.1 hh;have ix:yy 3 (enL 3 zL v) (I6 0)=some (zL c):=by
    have:=yb (st:=3) (f:=zL) .i64 v 0;rw[hrest]at this;exact this
   have at3:[atD (zL c) 0,atD (zL c) 1,atD (zL c) 2]=zL c:=rfl;have hpos:decide ((0:Int)<((c::rest).length:Int))=true:=decide_eq_true (by simp only[Yzg];omega);unfold ym at cw d1;have body:zjY (D (k+9)) (enO o) [enL 3 zL v,enL 1 enU (some l),U64 cp,U64 off] []=some (.normal,[enL 3 zL v1,enL 1 enU (some l'),U64 cp',U64 off'],[]):=by simp only[zjY,zi,yU,zA,hrest,zb,yP,hpos,zg,if_true,ix,at3,cw,bA,zt9,yE,xc,d1,zR];rfl
   refine⟨l2,cp2,off2,?_,q2,by rw[zx body,q3]⟩;rw[zx hr];exact q1
include ho h0 hsm hcl FL in
theorem x11(k:Nat){l:List Int}{cp off:Int}(W:Few o l cp off)(v:Sl Ctl)(hv:v.els=(qe o ⟨some l,cp,off⟩).filter (fun c=>wt o ⟨some l,cp,off⟩ (xN l cp off c))):∃l' cp' off',D (k+12) 11 [SA (enO o),SA (ym ⟨some l,cp,off⟩)]=some (.tup [.agg (ym ⟨some l',cp',off'⟩),.one (I6 0)])∧Few o l' cp' off'∧
   zB (zjY (D (k+12)) (enO o)) [enL 3 zL v,enL 1 enU (some l),U64 cp,U64 off] []=some (.exit 0,[enL 1 enU (some l'),U64 cp',U64 off'],[]):=by
 have F:=(FL l cp off W.len).toFit;have hl:=W.len;have hdl:=F.dl;obtain⟨A,a1,a2,a3⟩:=t29 F (k+6);obtain⟨l',cp',off',q1,q2,q3⟩:=zpl hsm hcl FL (k+3) F a2 a3 ((zdl l cp off).toNat+1) l cp off W (by have:=znz W;omega) (alike_refl _) v hv;have ef:fits 8 (xt (some [])+(l.map enU).length)=true:=yM (by decide) (by simp;omega);have cc:=t28 k o ho (some [⟨some l,cp,off⟩]) (by simp);rw[yn,zCk h0 (zpM h0 W)]at cc;refine⟨l',cp',off',?_,q2,q3⟩;unfold enO ym at a1 ⊢;unfold enO at cc;rw[D11];unfold P11;rw[show DV.lst 3 [[enL 1 enU (some l),U64 cp,U64 off]]=enL 3 ym (some [⟨some l,cp,off⟩]) from rfl,cc];simp only[zgx,yg,zb,YzD,Yzw,zg,Yzc,if_false,a1,zR,zcK,Option.isNone_some,vX,yn,ef,yF,zdG,ut];rw[show[DV.nils,U64 0,U64 0,DV.lst 1 (l.map enU),U64 cp,U64 off]=stO l cp off from rfl,q1];rfl
end
theorem t6(k:Nat)(p:Pln)(hp:p.ok)(b:Nat→Nat)(hb:∀i,b i<256):D (k+14) 6 [SA (zgf p),SA (enB b)]=some (S1 (Bo true)):=by
 have kn:=D7 (k+13);have cf:=t8 (k+12) p hp;unfold zgf at cf ⊢;unfold enB;rw[D6];unfold P6;simp only[kn,zR,yI,zb,zg,Yzw,Yzc,if_false,cf];cases hf:zdh p with
 |false=>rfl
 |true=>
  have cm:=t9 (k+6) p hp hf;have ho:=zvh p hf;have h0:=zmz p hp hf;obtain⟨s1,s2,s3⟩:=zeu p hf;have FL:∀(l:List Int) (cp off:Int),l.length=(za7 p).divs.els.length→Zt (za7 p) ⟨some l,cp,off⟩:=fun l cp off hl=>by have F:=zyv p hf b;exact⟨⟨F.dl,F.cl,F.sl,F.rng,F.dst,F.shf,F.stp,F.sml,hl⟩,F.hi,F.seg⟩
  generalize za7 p=o at cm ho h0 s1 s2 s3 FL;have s2':∀d∈o.divs.els,d.stops.els.length≤60:=fun d hd=>by have:=s2 d hd;omega
  obtain⟨_,hd0⟩:=zi4 h0;unfold zgf at cm;have d1:=t10 (k+12) o b hb (by omega) s2' (by omega);have W:=zpN s1 s2 s3 b hb;unfold enB at d1;have hr:qc o b=⟨some (vJ b 0 o.divs.els),zb5 (b 3:Int) (qI o.cpls.els.length),zb5 (b 4:Int) (qI o.divs.els.length)⟩:=by unfold qc;rw[zf5 (by have:=jv b o.divs.els 0;omega)]
  rw[hr]at d1;generalize vJ b 0 o.divs.els=l at d1 W;generalize zb5 (b 3:Int) (qI o.cpls.els.length)=cp at d1 W;generalize zb5 (b 4:Int) (qI o.divs.els.length)=off at d1 W;have hcn:=zcl (o:=o) (l:=l) (cp:=cp) (off:=off) (by have:=W.len;omega) s2' (by omega) (by omega);have hrd:=t13 ho h0 s2' (by omega) (fun l cp off h=>(FL l cp off h).toFit) (k+1) W;obtain⟨v,v1,v2⟩:=t21 s2' (by omega) FL (k+4) W;obtain⟨l',cp',off',n1,W1,n2⟩:=x11 ho h0 s2' (by omega) FL (k+1) W v v1;have hl1:=W1.len;have ce:=t14 (k+11) ⟨some l',cp',off'⟩ (by simp only[yn];omega);have cq:=t23 (k+12) (grow ((qe o ⟨some l,cp,off⟩).filter fun c=>wt o ⟨some l,cp,off⟩ (xN l cp off c))) v (by rw[zn,v1]) (by rw[zn];exact Yzr (List.length_filter_le ..) hcn);have ar:[atD (ym ⟨some l,cp,off⟩) 0,atD (ym ⟨some l,cp,off⟩) 1,atD (ym ⟨some l,cp,off⟩) 2]=ym ⟨some l,cp,off⟩:=rfl;simp only[Yzw,Yzc,if_false,cm,zww,zt9,d1,zqx,ar,hrd,bT2,n1,zy5,v2,zR];have n2:zB (zjY (D (k+13)) (enO o)) (enL 3 zL v::ym ⟨some l,cp,off⟩) []=some (.exit 0,ym ⟨some l',cp',off'⟩,[]):=n2;have nr:[zh (ym ⟨some l',cp',off'⟩) 0,zh (ym ⟨some l',cp',off'⟩) 1,zh (ym ⟨some l',cp',off'⟩) 2]=ym ⟨some l',cp',off'⟩:=rfl;rw[n2];simp only[zt,Yzj,Yza,zeR,ztX,zbi,zp4,xF,YzD,zb,zg,if_true,cq,zR,nr,zqy,ce]
end Go.Proofs.Tryz.Kn
end
