/-
  Lemmas. No condition.
-/
import Derived.Test.YtfmceamccfhfcaaGreatDoorWm
set_option linter.unusedSimpArgs false
set_option linter.unusedVariables false
section
namespace Go.Proofs.Tryz.Kn
open Go Go.CE Go.PE
structure Le (o:Org) (r s:Reg):Prop where
 c:∀(i:Nat) (x:Cpl),o.cpls.els[i]? = some x→bit r.cpls i=true→bit s.cpls i=true
 f:∀(n:Nat) (d:Zj),o.divs.els[n]? = some d→bit s.off n=true→bit r.off n=true
 t:∀(n:Nat) (d:Zj) (x:Int) (j:Nat) (t:Zr),o.divs.els[n]? = some d→r.stops.els[n]? = some x→d.stops.els[j]? = some t→bit x j=true→∃y,s.stops.els[n]? = some y∧bit y j=true
section
variable {o:Org} {r s:Reg} (L:Le o r s)
include L
end
theorem zdm(b:Nat→Nat):∀(l:List Zj) (i n:Nat) (d:Zj),l[n]? = some d→(vJ b i l)[n]? = some (zb5 (b ((i+n) % 3):Int) (zsp d))
 | [],_,_,_,h=>by simp at h
 |e::l,i,n,d,h=>by
  cases n with
  |zero=>simp only[Yzi,Option.some.injEq]at h;subst h;rfl
  |succ n=>have:=zdm b l (i+1) n d (by simpa using h);rw[vJ,Yzt,this,show i+1+n=i+(n+1) by omega]
theorem qH{rs:List Zk}{low high:Int}:∀{l:List Pul} {i:Nat} {s:Zr},s∈wn rs low high i l→∃j x,s=vz rs low high j x
 | [],_,_,h=>by cases h
 |x::l,i,s,h=>by
  rcases YzA.1 h with rfl|h
  ·exact⟨i,x,rfl⟩
  ·exact qH h
theorem zrS(rs:List Zk)(low high:Int)(i:Nat)(x:Pul)(key:Int):(uO (vz rs low high i x) key).draws.els.length≤2:=by
 have hall:∀n sh m sh2 a kd,∀g∈yZ low high n sh m sh2 a kd,g.draws.els.length≤2:=by
  intro n sh m sh2 a kd;unfold yZ;split
  ·simp
  ·split<;>simp
  ·split<;>simp
  ·simp
  ·simp
 unfold uO;cases hf:(vz rs low high i x).segs.els.find? (xK key) with
 |none=>simp[zcr]
 |some g=>exact hall _ _ _ _ _ _ g (List.mem_of_find?_eq_some hf)
theorem uS{rs:List Zk}:∀{l:List Boa} {i:Nat} {d:Zj},d∈vA rs i l→∃j b,b∈l∧d=zdT rs j b
 | [],_,_,h=>by cases h
 |b::l,i,d,h=>by
  rcases YzA.1 h with rfl|h
  ·exact⟨i,b,Yzh ..,rfl⟩
  ·obtain⟨j,c,h1,h2⟩:=uS h;exact⟨j,c,Yzf _ h1,h2⟩
theorem za8{n:Nat}:∀{l:List Lnk} {i:Nat} {c:Cpl},c∈ke n i l→∃j b,c=qm n j b
 | [],_,_,h=>by cases h
 |b::l,i,d,h=>by
  rcases YzA.1 h with rfl|h
  ·exact⟨i,b,rfl⟩
  ·exact za8 h
theorem zet:∀(l:List RPl) (i:Nat),∀r∈wz i l,r.wind.els.length≤25
 | [],_,_,h=>by cases h
 |x::l,i,r,h=>by
  rcases YzA.1 h with rfl|h
  ·show (jI x (1+x.pipes % 25)).length≤25;rw[qZ];omega
  ·exact zet l _ r h
theorem zl3{rs:List Zk}(hl:rs.length≤60)(hw:∀r∈rs,r.wind.els.length≤25){key:Int}{ds:List Zp}{y:Ze}(h:y∈wM rs key ds):q9 y:=by
 unfold wM at h;obtain⟨d,_,hd⟩:=List.mem_filterMap.1 h;unfold qp at hd;split at hd
 ·cases hd
 ·rename_i h0;split at hd
  ·cases hd
  ·rename_i r hr;split at hd
   ·rename_i hn;cases hd;have h1:=(Lz0.1 hr).1;have h2:=hw r (Lz3 hr);unfold q9;simp only;omega
   ·cases hd
theorem zA7(p:Pln)(hf:zdh p=true)(b:Nat→Nat):Fit (za7 p) (qc (za7 p) b):=by
 obtain⟨f1,f2,f3,f4,f5,f6⟩:=uW hf;obtain⟨s1,s2,s3⟩:=zeu p hf;have hdv:(za7 p).divs.els=vA (wz 0 p.ranks.els) 0 p.divs.els:=by unfold za7;simp only[zn]
 have hcp:(za7 p).cpls.els=ke p.divs.els.length 0 p.cpls.els:=by unfold za7;simp only[zn]
 refine⟨s1,s3,s2,fun d hd=>?_,fun x hx=>?_,fun x hx=>?_,fun d hd s hs=>?_,fun key ds y hy=>?_,?_⟩
 ·rw[hdv]at hd;obtain⟨j,b,_,rfl⟩:=uS hd;have q1:=zc3 b;have q2:=zat b;show 0≤zdM b∧zdM b≤ki b∧ki b≤zdM b+8∧ki b≤127;omega
 ·rw[hcp]at hx;obtain⟨j,l,rfl⟩:=za8 hx;rw[hdv,wU];have:=YzO l.dst (show p.divs.els.length > 0 by omega);show (0:Int)≤((l.dst % p.divs.els.length:Nat):Int)∧((l.dst % p.divs.els.length:Nat):Int)<_;omega
 ·rw[hcp]at hx;obtain⟨j,l,rfl⟩:=za8 hx;have q1:(l.shift.tmod 25).natAbs<25:=by
   rw[Int.natAbs_tmod];exact YzO _ (by decide)
  show -1000≤(if _ then 12 else l.shift.tmod 25)∧(if _ then 12 else l.shift.tmod 25)≤1000;split<;>omega
 ·rw[hdv]at hd;obtain⟨j,b,_,rfl⟩:=uS hd;have hs:s∈(grow (wn (wz 0 p.ranks.els) (zdM b) (ki b) 0 b.stops.els)).els:=hs;rw[zn]at hs;refine⟨qG _ _ _ _ _ s hs,fun key=>?_⟩;obtain⟨i,x,rfl⟩:=qH hs;exact zrS ..
 ·have hrk:(za7 p).ranks.els=wz 0 p.ranks.els:=by unfold za7;simp only[zn]
  rw[hrk]at hy;exact zl3 (by rw[uR];omega) (zet _ _) hy
 ·unfold qc;simp only[zn,jv]
theorem zEs{β:Type}(a b c d:DV)(K:List DS→Option β):bT [some 2,none,none] (some (.tup [.agg [a,b],.one c,.one d])) K=K [.agg [a,b],.one c,.one d]:=rfl
theorem zfY{a b:Bool}{P:Prop}(h:a=true↔P)(g:b=true↔P):a=b:=by cases a<;>cases b<;>simp_all
end Go.Proofs.Tryz.Kn
end
section
namespace Go.Proofs.Tryz.Kn
open Go Go.CE Go.PE
structure Ctl where
 kind:Int
 div:Int
 idx:Int
deriving DecidableEq
def zL(c:Ctl):List DV:=[I6 c.kind,I6 c.div,I6 c.idx]
theorem l25(l:Sl Int)(hl:l.els.length≤1000000):∀(r:List Int) (i:Nat),l.els.drop i=r→
  zB (zq3 (I6 (l.els.length:Int)) (enL 1 enU l) (enL 1 enU l)) [I6 (i:Int)] []=some (.exit 0,[],[]):=by
 intro r
 induction r with
 |nil=>intro i h;refine zl ?_;simp only[zq3,zi,zc,zb,yK (zH h),zg];rfl
 |cons x r ih=>
  intro i h;have h1:=zZ h;have ea:zf .add (I6 (i:Int)) (I6 1)=some (I6 ((i+1:Nat):Int)):=yf;have body:zq3 (I6 (l.els.length:Int)) (enL 1 enU l) (enL 1 enU l) [I6 (i:Int)] []=some (.normal,[I6 ((i+1:Nat):Int)],[]):=by simp only[zq3,zi,zc,zb,x4 h1,zg,if_true,zO h,yE,zAC,YzD,Yzw,ea];simp
  rw[zx body,ih (i+1) (zw h)]
theorem t25(k:Nat)(l:Sl Int)(hl:l.els.length≤1000000):D (k+1) 25 [S1 (enL 1 enU l),S1 (enL 1 enU l)]=some (S1 (Bo true)):=by have:=l25 l hl l.els 0 rfl;rw[D25];unfold P25;simp only[zA,zb,yg,YzD,Yzw,zg];rw[show (I6 0:DV)=I6 ((0:Nat):Int) from rfl,this];rfl
theorem t14(k:Nat)(r:Reg)(hr:r.stops.els.length≤1000000):D (k+2) 14 [SA (ym r),SA (ym r)]=some (S1 (Bo true)):=by have c:=t25 k r.stops hr;unfold ym;rw[D14];unfold P14;simp only[c,zR,zg,if_true,xF,zb,YzD]
def wW(a k d:Int):Nat→Nat→List Ctl
 |_,0=>[]
 |i,m+1=>(if bit a i=true then[⟨k,d,(i:Int)⟩] else[])++wW a k d (i+1) m
theorem vG(a k d:Int):∀(m i:Nat),(wW a k d i m).length≤m
 |0,_=>LzB _
 |m+1,i=>by
  have:=vG a k d m (i+1);rw[wW,Yzk];split
  ·simp only[Yzg,Yzx];omega
  ·simp only[Yzx];omega
theorem zaR{a k d:Int}:∀{m i:Nat} {c:Ctl},c∈wW a k d i m→c.kind=k∧c.div=d∧∃j:Nat,c.idx=(j:Int)∧j<i+m
 |0,_,_,h=>by cases h
 |m+1,i,c,h=>by
  rw[wW,YzI]at h;rcases h with h|h
  ·split at h
   ·rw[YzF]at h;subst h;exact⟨rfl,rfl,i,rfl,by omega⟩
   ·cases h
  ·obtain⟨h1,h2,j,h3,h4⟩:=zaR h;exact⟨h1,h2,j,h3,by omega⟩
theorem zeA{F:List DV→List OC→Option PX}{a k d:Int}{n e:Nat}
  (hs:∀(i:Nat) (acc:List Ctl),i<n→acc.length≤1000000→F [I6 (i:Int)] [ocL zL (grow acc)]=some (.normal,[I6 ((i+1:Nat):Int)],[ocL zL (grow (if bit a i=true then acc++[⟨k,d,(i:Int)⟩] else acc))]))
  (he:∀acc:List Ctl,F [I6 (n:Int)] [ocL zL (grow acc)]=some (.exit e,[],[ocL zL (grow acc)])):
  ∀(m i:Nat) (acc:List Ctl),i+m=n→acc.length+m≤1000000→zB F [I6 (i:Int)] [ocL zL (grow acc)]=some (.exit e,[],[ocL zL (grow (acc++wW a k d i m))]):=by
 intro m
 induction m with
 |zero=>
  intro i acc hi _;have hi:i=n:=by omega
  subst hi;rw[zl (he acc)];simp[wW]
 |succ m ih=>intro i acc hi ha;rw[zx (hs i acc (by omega) (by omega)),ih (i+1) _ (by omega) (by split<;>(try simp only[Yzk,Yzg,Yzx])<;>omega),wW];split<;>simp
def wP:List Zj→List Int→Nat→List Ctl
 |d::ds,s::ss,i=>wW s 1 (i:Int) 0 d.stops.els.length++wP ds ss (i+1)
 |_,_,_=>[]
def qe(o:Org)(r:Reg):List Ctl:=wP o.divs.els r.stops.els 0++wW r.cpls 2 0 0 o.cpls.els.length++wW r.off 3 0 0 o.divs.els.length
theorem b31(st:Sl Int)(s:Int)(i0:Nat)(h':st.els[i0]? = some s)(n:Nat)(hn:n≤1000)(m i:Nat)(acc:List Ctl)(hi:i+m=n)(ha:acc.length+m≤1000000):
  zB (zie (I6 (n:Int)) (enL 1 enU st) [I6 (i0:Int)]) [I6 (i:Int)] [ocL zL (grow acc)]=some (.exit 2,[],[ocL zL (grow (acc++wW s 1 (i0:Int) i m))]):=by
 have ix:yy 1 (enL 1 enU st) (I6 (i0:Int))=some [U64 s]:=by rw[yb,h'];rfl
 refine zeA (fun i acc hi ha=>?_) (fun acc=>?_) m i acc hi ha
 ·have ea:zf .add (I6 (i:Int)) (I6 1)=some (I6 ((i+1:Nat):Int)):=yf;have ef:fits 24 ((grow acc).els.length+1)=true:=yM (by decide) (by rw[zn];omega);by_cases hb:bit s i=true
  ·rw[Yze hb,yw,←y0 (f:=zL)];unfold bit at hb;simp only[zie,zi,zp,zc,zb,x4 hi,zg,if_true,ix,yE,zcb,yT,zdW,hb,zY,zU,ef,yF,ea,zL]
  ·rw[Yzb hb];unfold bit at hb;have hb:=(Yyo _).mp hb;simp only[zie,zi,zp,zc,zb,x4 hi,zg,if_true,ix,yE,zcb,yT,zdW,hb,Yzc,if_false,ea]
 ·have:=yK (LzB n);simp only[zie,zi,zp,zc,zb,this,zg,Yzc,if_false]
theorem c31(a:Int)(n:Nat)(hn:n≤1000)(m i:Nat)(acc:List Ctl)(hi:i+m=n)(ha:acc.length+m≤1000000):
  zB (zid (I6 (n:Int)) (U64 a)) [I6 (i:Int)] [ocL zL (grow acc)]=some (.exit 4,[],[ocL zL (grow (acc++wW a 2 0 i m))]):=by
 refine zeA (fun i acc hi ha=>?_) (fun acc=>?_) m i acc hi ha
 ·have ea:zf .add (I6 (i:Int)) (I6 1)=some (I6 ((i+1:Nat):Int)):=yf;have ef:fits 24 ((grow acc).els.length+1)=true:=yM (by decide) (by rw[zn];omega);by_cases hb:bit a i=true
  ·rw[Yze hb,yw,←y0 (f:=zL)];unfold bit at hb;simp only[zid,zi,zp,zc,zb,x4 hi,zg,if_true,zcb,yT,zdW,hb,zY,zU,ef,yF,ea,zL]
  ·rw[Yzb hb];unfold bit at hb;have hb:=(Yyo _).mp hb;simp only[zid,zi,zp,zc,zb,x4 hi,zg,if_true,zcb,yT,zdW,hb,Yzc,if_false,ea]
 ·have:=yK (LzB n);simp only[zid,zi,zp,zc,zb,this,zg,Yzc,if_false]
theorem f31(a:Int)(n:Nat)(hn:n≤1000)(m i:Nat)(acc:List Ctl)(hi:i+m=n)(ha:acc.length+m≤1000000):
  zB (zic (I6 (n:Int)) (U64 a)) [I6 (i:Int)] [ocL zL (grow acc)]=some (.exit 6,[],[ocL zL (grow (acc++wW a 3 0 i m))]):=by
 refine zeA (fun i acc hi ha=>?_) (fun acc=>?_) m i acc hi ha
 ·have ea:zf .add (I6 (i:Int)) (I6 1)=some (I6 ((i+1:Nat):Int)):=yf;have ef:fits 24 ((grow acc).els.length+1)=true:=yM (by decide) (by rw[zn];omega);by_cases hb:bit a i=true
  ·rw[Yze hb,yw,←y0 (f:=zL)];unfold bit at hb;simp only[zic,zi,zp,zc,zb,x4 hi,zg,if_true,zcb,yT,zdW,hb,zY,zU,ef,yF,ea,zL]
  ·rw[Yzb hb];unfold bit at hb;have hb:=(Yyo _).mp hb;simp only[zic,zi,zp,zc,zb,x4 hi,zg,if_true,zcb,yT,zdW,hb,Yzc,if_false,ea]
 ·have:=yK (LzB n);simp only[zic,zi,zp,zc,zb,this,zg,Yzc,if_false]
theorem l31(dv:Sl Zj)(hd:dv.els.length≤1000)(hs:∀d∈dv.els,d.stops.els.length≤60)(st:Sl Int):∀(ds:List Zj) (ss:List Int) (i:Nat) (acc:List Ctl),dv.els.drop i=ds→st.els.drop i=ss→ss.length=ds.length→i≤1000→acc.length≤100*i→
  ∃acc':List Ctl,acc'.length≤100000∧acc'=acc++wP ds ss i∧zB (zq0 (I6 (dv.els.length:Int)) (enL 5 enV dv) (enL 1 enU st)) [I6 (i:Int)] [ocL zL (grow acc)]=some (.exit 0,[],[ocL zL (grow acc')]):=by
 intro ds
 induction ds with
 |nil=>intro ss i acc h h' hl hi ha;refine⟨acc,by omega,by simp[wP],zl ?_⟩;simp only[zq0,zi,zp,zc,zb,yK (zH h),zg,Yzc,if_false]
 |cons d ds ih=>
  intro ss i acc h h' hl hi ha;have h1:=zZ h;cases ss with
  |nil=>simp at hl
  |cons s ss=>
   have hdm:=hs d (Lz3 (zJ h));have ea:zf .add (I6 (i:Int)) (I6 1)=some (I6 ((i+1:Nat):Int)):=yf;have inn:=b31 st s i (zJ h') d.stops.els.length (by omega) d.stops.els.length 0 acc (by omega) (by omega);have len:=vG s 1 (i:Int) d.stops.els.length 0;have body:zq0 (I6 (dv.els.length:Int)) (enL 5 enV dv) (enL 1 enU st) [I6 (i:Int)] [ocL zL (grow acc)]=some (.normal,[I6 ((i+1:Nat):Int)],[ocL zL (grow (acc++wW s 1 (i:Int) 0 d.stops.els.length))]):=by simp only[zq0,zi,zp,zc,zb,x4 h1,zg,if_true,zO h,enV,yE,xc,zA];rw[show (I6 0:DV)=I6 ((0:Nat):Int) from rfl,inn];simp only[zt,Yzj,Yza,ea,zb,zp]
   obtain⟨acc',q1,q2,q3⟩:=ih ss (i+1) (acc++wW s 1 (i:Int) 0 d.stops.els.length) (zw h) (zw h') (by simpa using hl) (by omega) (by rw[Yzk];omega);exact⟨acc',q1,by rw[q2,wP,YzC],by rw[zx body,q3]⟩
theorem t31(k:Nat)(o:Org)(r:Reg)(hd:o.divs.els.length≤1000)(hs:∀d∈o.divs.els,d.stops.els.length≤60)(hc:o.cpls.els.length≤1000)(hl:r.stops.els.length=o.divs.els.length):
  D (k+1) 31 [SA (enO o),SA (ym r)]=some (S1 (enL 3 zL (grow (qe o r)))):=by
 obtain⟨acc,q1,q2,q3⟩:=l31 o.divs hd hs r.stops o.divs.els r.stops.els 0 [] rfl rfl hl (by omega) (by simp);have c:=c31 r.cpls o.cpls.els.length hc o.cpls.els.length 0 acc (by omega) (by omega);have lc:=vG r.cpls 2 0 o.cpls.els.length 0;have f:=f31 r.off o.divs.els.length hd o.divs.els.length 0 (acc++wW r.cpls 2 0 0 o.cpls.els.length) (by omega) (by rw[Yzk];omega);unfold enO ym;rw[D31];unfold P31;simp only[zA,zb];rw[show (I6 0:DV)=I6 ((0:Nat):Int) from rfl,show ([none]:List OC)=[ocL zL (grow ([]:List Ctl))] from rfl,q3];simp only[zt,Yzj,Yza,zp];rw[c];simp only[zt,Yzj,Yza,zp];rw[f];simp only[zt,Yzj,Yza,zp,yX];rw[q2,YzK];rfl
def zwm(c:Ctl)(n:Nat):Prop:=
 (c.kind=1∧∃i j:Nat,c.div=(i:Int)∧c.idx=(j:Int)∧i<n∧j≤60)∨(c.kind=2∧∃j:Nat,c.idx=(j:Int)∧j≤60)∨(c.kind=3∧∃j:Nat,c.idx=(j:Int)∧j≤60)
theorem zd3:∀(ds:List Zj) (ss:List Int) (i:Nat),(∀d∈ds,d.stops.els.length≤60)→∀c∈wP ds ss i,c.kind=1∧∃a j:Nat,c.div=(a:Int)∧c.idx=(j:Int)∧a<i+ss.length∧j≤60
 | [],_,_,_,_,h=>by cases h
 |_::_,[],_,_,_,h=>by cases h
 |d::ds,s::ss,i,hs,c,h=>by
  rw[wP,YzI]at h;rcases h with h|h
  ·obtain⟨h1,h2,j,h3,h4⟩:=zaR h;have:=hs d (Yzh ..);exact⟨h1,i,j,h2,h3,by simp only[Yzg];omega,by omega⟩
  ·obtain⟨h1,a,j,h2,h3,h4,h5⟩:=zd3 ds ss (i+1) (fun x hx=>hs x (Yzf _ hx)) c h;exact⟨h1,a,j,h2,h3,by simp only[Yzg];omega,h5⟩
theorem zdr{o:Org}{r:Reg}(hd:o.divs.els.length≤60)(hs:∀d∈o.divs.els,d.stops.els.length≤60)(hc:o.cpls.els.length≤60):∀c∈qe o r,zwm c r.stops.els.length:=by
 intro c h;unfold qe at h;rw[YzI,YzI]at h;rcases h with (h|h)|h
 ·obtain⟨h1,a,j,h2,h3,h4,h5⟩:=zd3 _ _ _ hs c h;exact .inl ⟨h1,a,j,h2,h3,by omega,h5⟩
 ·obtain⟨h1,_,j,h3,h4⟩:=zaR h;exact .inr (.inl ⟨h1,j,h3,by omega⟩)
 ·obtain⟨h1,_,j,h3,h4⟩:=zaR h;exact .inr (.inr ⟨h1,j,h3,by omega⟩)
def pw(c:Ctl):Int:=((2^c.idx.toNat:Nat):Int)
def xN(l:List Int)(cp off:Int)(c:Ctl):Reg:=
 if c.kind=1 then⟨some (l.set c.div.toNat (wX ((l[c.div.toNat]?).getD 0) (pw c))),cp,off⟩ else if c.kind=2 then⟨some l,wX cp (pw c),off⟩ else⟨some l,cp,wX off (pw c)⟩
theorem t35(k:Nat)(l:List Int)(cp off:Int)(h2:l.length≤1000)(c:Ctl)(hc:zwm c l.length):D (k+1) 35 [SA (ym ⟨some l,cp,off⟩),SA (zL c)]=some (SA (ym (xN l cp off c))):=by
 have ef:fits 8 (xt (some [])+(l.map enU).length)=true:=yM (by decide) (by simp;omega);obtain⟨kd,dv,ix⟩:=c;unfold ym zL;rw[D35];unfold P35;simp only[zcK,Option.isNone_some,zb,zg,Yzc,if_false,vX,yn,ef,yF,xF,zdG];rcases hc with⟨h1,i,j,h3,h4,h5,h6⟩|⟨h1,j,h4,h6⟩|⟨h1,j,h4,h6⟩
 ·simp only at h1 h3 h4;subst h1 h3 h4;obtain⟨s,hs⟩:∃s,l[i]? = some s:=⟨_,Lz5 h5⟩;have e1:y2 (some (l.map enU)) (I6 (i:Int))=some i:=wv (by rw[Yzq];exact h5);have e2:vZ (some (l.map enU)) i=some [U64 s]:=by rw[zan,hs];rfl
  have e3:yj true (U64 1) (I6 (j:Int))=some (U64 ((2^j:Nat):Int)):=zdS (by omega);have e4:zgR 1 (some (l.map enU)) i 0 [U64 (wX s ((2^j:Nat):Int))]=some (some ((l.set i (wX s ((2^j:Nat):Int))).map enU)):=zzF hs (Lz4 rfl) rfl;simp only[YzD,if_true,e1,zb,e2,yE,e3,wS,e4,xN,pw,Yzp,hs,Yyb,ut,w7]
 ·simp only at h1 h4;subst h1 h4;have e3:yj true (U64 1) (I6 (j:Int))=some (U64 ((2^j:Nat):Int)):=zdS (by omega);have q:((2:Int)==1)=false:=rfl;have q2:¬((2:Int)=1):=by decide
  simp only[q,Yzc,if_false,YzD,if_true,zb,e3,wS,xN,q2,pw,Yzp,ut,w7]
 ·simp only at h1 h4;subst h1 h4;have e3:yj true (U64 1) (I6 (j:Int))=some (U64 ((2^j:Nat):Int)):=zdS (by omega);have q:((3:Int)==1)=false:=rfl;have q':((3:Int)==2)=false:=rfl;have q2:¬((3:Int)=1):=by decide
  have q3:¬((3:Int)=2):=by decide
  simp only[q,q',Yzc,if_false,YzD,if_true,zb,e3,wS,xN,q2,q3,pw,Yzp,ut,w7]
end Go.Proofs.Tryz.Kn
end
section
namespace Go.Proofs.Tryz.Kn
open Go Go.CE Go.PE
def wOk(w:Int)(n:Nat):Prop:=n≤3∧∃m:Nat,w=(m:Int)∧m<2^n
theorem zAF{n:Nat}(h:n≤3):n∈[0,1,2,3]:=by
 have:n=0∨n=1∨n=2∨n=3:=by omega
 rcases this with rfl|rfl|rfl|rfl<;>simp
theorem zwY:([0,1,2,3].all fun n=>(List.range (2^n)).all fun m=>zd6 (m:Int) n==0&&((List.range n).all fun j=>!bit (m:Int) j||((List.range m).any fun m'=>wX (m:Int) ((2^j:Nat):Int)==(m':Int))))=true:=by kernel_rfl
theorem zso:([0,1,2,3].all fun n=>(List.range 256).all fun x=>(List.range (2^n)).any fun m=>zb5 (x:Int) (qI n)==(m:Int))=true:=by kernel_rfl
theorem ziD{w:Int}{n:Nat}(h:wOk w n):zd6 w n=0:=by
 obtain⟨hn,m,rfl,hm⟩:=h;have:=Yz3.1 (Yz3.1 zwY n (zAF hn)) m (List.mem_range.2 hm);rw[LzC]at this
 simpa using this.1
theorem zct{w:Int}{n j:Nat}(h:wOk w n)(hj:j<n)(hb:bit w j=true):wOk (wX w ((2^j:Nat):Int)) n∧0≤wX w ((2^j:Nat):Int)∧wX w ((2^j:Nat):Int)<w:=by
 obtain⟨hn,m,rfl,hm⟩:=h;have q:=Yz3.1 (Yz3.1 zwY n (zAF hn)) m (List.mem_range.2 hm);rw[LzC]at q;have q:=Yz3.1 q.2 j (List.mem_range.2 hj);rw[hb,Yzw,Yz7,List.any_eq_true]at q;obtain⟨m',h1,h2⟩:=q;have h1:=List.mem_range.1 h1;have h2:wX (m:Int) ((2^j:Nat):Int)=(m':Int):=by simpa using h2
 rw[h2];exact⟨⟨hn,m',rfl,by omega⟩,by omega,by omega⟩
theorem ze6{x n:Nat}(hx:x<256)(hn:n≤3):wOk (zb5 (x:Int) (qI n)) n:=by have q:=Yz3.1 (Yz3.1 zso n (zAF hn)) x (List.mem_range.2 hx);rw[List.any_eq_true]at q;obtain⟨m,h1,h2⟩:=q;exact⟨hn,m,by simpa using h2,List.mem_range.1 h1⟩
structure Few (o:Org) (l:List Int) (cp off:Int):Prop where
 len:l.length=o.divs.els.length
 st:∀(n:Nat) (d:Zj) (s:Int),o.divs.els[n]? = some d→l[n]? = some s→wOk s d.stops.els.length
 cp:wOk cp o.cpls.els.length
 off:wOk off o.divs.els.length
theorem zek:∀(ds:List Zj) (ss:List Int),(∀(n:Nat) (d:Zj) (s:Int),ds[n]? = some d→ss[n]? = some s→wOk s d.stops.els.length)→qr ds ss=false
 | [],_,_=>by unfold qr;rfl
 |_::_,[],_=>by unfold qr;rfl
 |d::ds,s::ss,h=>by rw[qr,ziD (h 0 d s rfl rfl),zek ds ss fun n d s h1 h2=>h (n+1) d s (by simpa using h1) (by simpa using h2)];rfl
theorem zpM{o:Org}(h0:vM o=0){l:List Int}{cp off:Int}(F:Few o l cp off):jC o ⟨some l,cp,off⟩=0:=by unfold jC;simp only[yn,F.len,zek _ _ F.st,ziD F.cp,ziD F.off];rw[Yzb (by rw[h0];simp)];simp
def znA:List Int→Int
 | []=>0
 |s::l=>s+znA l
theorem zkd:∀(l:List Int) (i:Nat) (s s':Int),l[i]? = some s→znA (l.set i s')=znA l-s+s'
 | [],_,_,_,h=>by simp at h
 |x::l,0,s,s',h=>by simp only[Yzi,Option.some.injEq]at h;subst h;rw[List.set_cons_zero,znA,znA];omega
 |x::l,i+1,s,s',h=>by rw[List.set_cons_succ,znA,znA,zkd l i s s' (by simpa using h)];omega
def zdl(l:List Int)(cp off:Int):Int:=znA l+cp+off
theorem zaS{a k d:Int}:∀{m i:Nat} {c:Ctl},c∈wW a k d i m→c.kind=k∧c.div=d∧∃j:Nat,c.idx=(j:Int)∧j<i+m∧bit a j=true
 |0,_,_,h=>by cases h
 |m+1,i,c,h=>by
  rw[wW,YzI]at h;rcases h with h|h
  ·split at h
   ·rename_i hb;rw[YzF]at h;subst h;exact⟨rfl,rfl,i,rfl,by omega,hb⟩
   ·cases h
  ·obtain⟨h1,h2,j,h3,h4,h5⟩:=zaS h;exact⟨h1,h2,j,h3,by omega,h5⟩
theorem zd4:∀{ds:List Zj} {ss:List Int} {i:Nat} {c:Ctl},c∈wP ds ss i→c.kind=1∧∃(a:Nat) (d:Zj) (s:Int) (j:Nat),c.div=((i+a:Nat):Int)∧ds[a]? = some d∧ss[a]? = some s∧c.idx=(j:Int)∧j<d.stops.els.length∧bit s j=true
 | [],_,_,_,h=>by unfold wP at h;cases h
 |_::_,[],_,_,h=>by unfold wP at h;cases h
 |d::ds,s::ss,i,c,h=>by
  rw[wP,YzI]at h;rcases h with h|h
  ·obtain⟨h1,h2,j,h3,h4,h5⟩:=zaS h;exact⟨h1,0,d,s,j,h2,rfl,rfl,h3,by omega,h5⟩
  ·obtain⟨h1,a,d',s',j,h2,h3,h4,h5,h6,h7⟩:=zd4 h;exact⟨h1,a+1,d',s',j,by rw[h2,show i+1+a=i+(a+1) by omega],by simpa using h3,by simpa using h4,h5,h6,h7⟩
theorem zla{o:Org}{l:List Int}{cp off:Int}(F:Few o l cp off){c:Ctl}(hc:c∈qe o ⟨some l,cp,off⟩):∃l' cp' off',xN l cp off c=⟨some l',cp',off'⟩∧Few o l' cp' off'∧zdl l' cp' off'<zdl l cp off:=by
 unfold qe at hc;rw[YzI,YzI]at hc;unfold xN zdl;rcases hc with (hc|hc)|hc
 ·obtain⟨h1,a,d,s,j,h2,h3,h4,h5,h6,h7⟩:=zd4 hc;rw[Yzm]at h2;simp only[yn]at h4;obtain⟨q1,q2,q3⟩:=zct (F.st a d s h3 h4) h6 h7;rw[Yze h1,h2,Yzp,h4,Yyb,pw,h5,Yzp];refine⟨_,_,_,rfl,⟨by rw[List.length_set];exact F.len,fun n d' s' g1 g2=>?_,F.cp,F.off⟩,?_⟩
  ·by_cases hn:a=n
   ·subst hn;rw[h3]at g1;cases g1;rw[List.getElem?_set_self (Lz0.1 h4).1]at g2;cases g2;exact q1
   ·rw[List.getElem?_set_ne hn]at g2;exact F.st n d' s' g1 g2
  ·rw[zkd l a s _ h4];omega
 ·obtain⟨h1,h2,j,h5,h6,h7⟩:=zaS hc;obtain⟨q1,q2,q3⟩:=zct F.cp (by omega) h7;rw[Yzb (by rw[h1];decide),Yze h1,pw,h5,Yzp];exact⟨_,_,_,rfl,⟨F.len,F.st,q1,F.off⟩,by omega⟩
 ·obtain⟨h1,h2,j,h5,h6,h7⟩:=zaS hc;obtain⟨q1,q2,q3⟩:=zct F.off (by omega) h7;rw[Yzb (by rw[h1];decide),Yzb (by rw[h1];decide),pw,h5,Yzp];exact⟨_,_,_,rfl,⟨F.len,F.st,F.cp,q1⟩,by omega⟩
theorem znz{o:Org}{l:List Int}{cp off:Int}(F:Few o l cp off):0≤zdl l cp off:=by
 have h:∀(ss:List Int),(∀s∈ss,0≤s)→0≤znA ss:=by
  intro ss
  induction ss with
  |nil=>intro _;simp[znA]
  |cons s ss ih=>intro H;have:=H s (Yzh ..);have:=ih fun x hx=>H x (Yzf _ hx);rw[znA];omega
 have h1:=h l fun s hs=>by obtain⟨n,hn⟩:=Yz8 hs;have hl:=F.len;have:=(Lz0.1 hn).1;obtain⟨_,m,rfl,_⟩:=F.st n _ s (Lz5 (by omega)) hn;omega
 obtain⟨_,m,h2,_⟩:=F.cp;obtain⟨_,m',h3,_⟩:=F.off;unfold zdl;omega
section
variable {o:Org} (ho:o.ok) (h0:vM o=0) (hsm:∀d∈o.divs.els,d.stops.els.length≤60) (hcl:o.cpls.els.length≤60) (FF:∀(l:List Int) (cp off:Int),l.length=o.divs.els.length→Fit o ⟨some l,cp,off⟩)
noncomputable def wt(o:Org)(r s:Reg):Bool:=@decide (Alike o r s) (Classical.propDecidable _)
theorem zEq{r s:Reg}:wt o r s=true↔Alike o r s:=by unfold wt;exact @decide_eq_true_iff _ (Classical.propDecidable _)
theorem alike_refl(r:Reg):Alike o r r:=fun _ _ _=>Iff.rfl
theorem qX{r s t:Reg}(h:Alike o r s)(g:Alike o s t):Alike o r t:=fun c hc z=>(h c hc z).trans (g c hc z)
theorem t34(k:Nat){A B:List (List (Sl Ze))}{r s:Reg}(F:Fit o r)(a2:A.length=o.divs.els.length)(b2:B.length=o.divs.els.length)(a3:Rows o (wp o r) A)(b3:Rows o (wp o s) B):
  D (k+3) 34 [SA (enO o),S1 (.lst 1 (A.map yl)),S1 (.lst 1 (B.map yl))]=some (S1 (Bo (wt o r s))):=by
 have W:=zBU F a2 b2 a3 b3;have c:=t36 W F.dl (fun d hd=>by have:=F.rng d hd;omega) (f:=.fn 37 []) (H:=fun x y=>decide (x.els=y.els)) (k:=k+1) fun x y hx _=>t37 k x y hx;have e:(zeV (fun x y=>decide (x.els=y.els)) 0 A B).isNone=wt o r s:=zfY (P:=Alike o r s) (by rw[Option.isNone_iff_eq_none,zhS F a2 b2 a3 b3 (Q:=fun c=>∀z,zdY o r c z↔zdY o s c z) fun n key x y hx hy=>by rw[decide_eq_true_iff];exact zcz hx hy];rfl) zEq
 rw[e]at c;unfold enO at c ⊢;rw[D34];unfold P34;rw[c];rfl
include hsm hcl FF in
theorem t33(k:Nat){A:List (List (Sl Ze))}{r:Reg}{l:List Int}{cp off:Int}(F:Fit o r)(W:Few o l cp off)(a2:A.length=o.divs.els.length)(a3:Rows o (wp o r) A){c:Ctl}(hc:c∈qe o ⟨some l,cp,off⟩):
  zeW (D (k+7)) (.fn 33 [enO o,[.lst 1 (A.map yl)],ym ⟨some l,cp,off⟩]) [SA (zL c)]=some (S1 (Bo (wt o r (xN l cp off c)))):=by
 have hl:=W.len;have hdl:=F.dl;obtain⟨l',cp',off',e,W',_⟩:=zla W hc;have F':Fit o (xN l cp off c):=by rw[e];exact FF _ _ _ W'.len
 obtain⟨B,b1',b2,b3⟩:=t29 F' (k+1);have cs:=t34 (k+3) F a2 b2 a3 b3;have cw:=t35 (k+5) l cp off (by omega) c (by have:=zdr (r:=⟨some l,cp,off⟩) (by omega) hsm hcl c hc;exact this)
 show D (k+7) 33 [SA (zL c),S1 (.fp (enO o) 0),S1 (.fp [.lst 1 (A.map yl)] 0),S1 (.fp (ym ⟨some l,cp,off⟩) 0)]=_;rw[e]at cw b1' cs ⊢;unfold enO ym zL at *;rw[D33];unfold P33;simp only[cw,bA,yE,xc,b1',zR,cs];rfl
include hsm hcl FF in
theorem l32(k:Nat){A:List (List (Sl Ze))}{r:Reg}{l:List Int}{cp off:Int}(F:Fit o r)(W:Few o l cp off)(a2:A.length=o.divs.els.length)(a3:Rows o (wp o r) A)(q:List Ctl)(hq:q.length≤1000000)(hin:∀c∈q,c∈qe o ⟨some l,cp,off⟩):∀(x:List Ctl) (i:Nat),q.drop i=x→
  zB (zgz (D (k+7)) (I6 (q.length:Int)) (enL 3 zL (grow q)) (.fn 33 [enO o,[.lst 1 (A.map yl)],ym ⟨some l,cp,off⟩])) [I6 (i:Int)] []=some (found (y3 (fun c=>wt o r (xN l cp off c)) x i)):=by
 intro x
 induction x with
 |nil=>intro i h;refine zl ?_;simp only[zgz,zi,zc,zb,yK (zH h),zg];rfl
 |cons c x ih=>
  intro i h;have h1:=zZ h;have ea:zf .add (I6 (i:Int)) (I6 1)=some (I6 ((i+1:Nat):Int)):=yf;have cc:=t33 hsm hcl FF k F W a2 a3 (hin c (Lz3 (zJ h)));unfold zL at cc;have ix:yy 3 (enL 3 zL (grow q)) (I6 (i:Int))=some (zL c):=by rw[yb,zn,zJ h];rfl
  have body:zgz (D (k+7)) (I6 (q.length:Int)) (enL 3 zL (grow q)) (.fn 33 [enO o,[.lst 1 (A.map yl)],ym ⟨some l,cp,off⟩]) [I6 (i:Int)] []=some (if wt o r (xN l cp off c)=true then(.ret,[I6 (i:Int)],[]) else(.normal,[I6 ((i+1:Nat):Int)],[])):=by simp only[zgz,zi,zc,zb,x4 h1,zg,if_true,ix,zL,yE,xc,cc,zR,ea];cases wt o r (xN l cp off c)<;>rfl
  unfold y3;by_cases hc:wt o r (xN l cp off c)=true
  ·rw[Yze hc]at body ⊢;rw[zG body];rfl
  ·rw[Yzb hc]at body ⊢;rw[zx body,ih (i+1) (zw h)]
theorem zcl{l:List Int}{cp off:Int}(h:l.length≤3)(hsm:∀d∈o.divs.els,d.stops.els.length≤60)(hdl:o.divs.els.length≤60)(hcl:o.cpls.els.length≤60):(qe o ⟨some l,cp,off⟩).length≤1000000:=by
 have a1:∀(ds:List Zj) (ss:List Int) (i:Nat),(∀d∈ds,d.stops.els.length≤60)→(wP ds ss i).length≤60*ds.length:=by
  intro ds
  induction ds with
  |nil=>intro ss i _;cases ss<;>simp[wP]
  |cons d ds ih=>
   intro ss i h;cases ss with
   |nil=>simp[wP]
   |cons s ss=>have q1:=ih ss (i+1) fun x hx=>h x (Yzf _ hx);have q2:=vG s 1 (i:Int) d.stops.els.length 0;have q3:=h d (Yzh ..);rw[wP,Yzk,Yzg];omega
 have q1:=a1 o.divs.els l 0 hsm;have q2:=vG cp 2 0 o.cpls.els.length 0;have q3:=vG off 3 0 o.divs.els.length 0;unfold qe;rw[Yzk,Yzk];simp only[yn];omega
theorem zeK{α:Type}(p:α→Bool):∀(l:List α) (i:Nat),(y3 p l i=none→∀x∈l,p x=false)∧∀j,y3 p l i=some j→∃x,i≤j∧l[j-i]? = some x∧p x=true
 | [],i=>⟨fun _ x hx=>(by cases hx),fun j h=>by unfold y3 at h;cases h⟩
 |x::l,i=>by
  obtain⟨h1,h2⟩:=zeK p l (i+1);unfold y3;by_cases hc:p x=true
  ·rw[Yze hc];refine⟨fun h=>(by cases h),fun j h=>?_⟩;cases h;exact⟨x,LzB _,by simp,hc⟩
  ·rw[Yzb hc];refine⟨fun h y hy=>?_,fun j h=>?_⟩
   ·rcases YzA.1 hy with rfl|hy
    ·simpa using hc
    ·exact h1 h y hy
   ·obtain⟨y,q1,q2,q3⟩:=h2 j h;exact⟨y,by omega,by rw[show j-i=(j-(i+1))+1 by omega];simpa using q2,q3⟩
def stO(l:List Int)(cp off:Int):List DV:=[.nils,U64 0,U64 0,enL 1 enU (some l),U64 cp,U64 off]
def zCi(l:List Int)(cp off:Int):PX:=(.ret,[I6 0,enL 1 enU (some l),U64 cp,U64 off,enL 1 enU (some l),U64 cp,U64 off],[])
include hsm hcl FF in
theorem zgW(k:Nat){A:List (List (Sl Ze))}{r:Reg}{l:List Int}{cp off:Int}(F:Fit o r)(W:Few o l cp off)(a2:A.length=o.divs.els.length)(a3:Rows o (wp o r) A):
  zlL (D (k+8)) (St o.name) (enL 6 enR o.ranks) (enL 5 enV o.divs) (enL 5 enC o.cpls) (.lst 1 (A.map yl)) (stO l cp off) []=match y3 (fun c=>wt o r (xN l cp off c)) (qe o ⟨some l,cp,off⟩) 0 with
   |none=>some (zCi l cp off)
   |some j=>match (qe o ⟨some l,cp,off⟩)[j]? with
    |some c=>some (.normal,.nils::U64 0::U64 0::ym (xN l cp off c),[])
    |none=>none:=by
 have hl:=W.len;have hdl:=F.dl;have cc:=t31 (k+7) o ⟨some l,cp,off⟩ (by omega) hsm (by omega) hl;have hlen:=zcl (o:=o) (l:=l) (cp:=cp) (off:=off) (by omega) hsm (by omega) hcl;have li:=l32 hsm hcl FF k F W a2 a3 (qe o ⟨some l,cp,off⟩) hlen (fun _ h=>h) (qe o ⟨some l,cp,off⟩) 0 rfl;have fs:=zeK (fun c=>wt o r (xN l cp off c)) (qe o ⟨some l,cp,off⟩) 0;have cf:D (k+8) 32 [S1 (enL 3 zL (grow (qe o ⟨some l,cp,off⟩))),S1 (.fn 33 [enO o,[.lst 1 (A.map yl)],ym ⟨some l,cp,off⟩])]=some (S1 (I6 (match y3 (fun c=>wt o r (xN l cp off c)) (qe o ⟨some l,cp,off⟩) 0 with|some i=>(i:Int)|none=>-1))):=by rw[D32];unfold P32;simp only[zA,zn,zb];rw[show (I6 0:DV)=I6 ((0:Nat):Int) from rfl,li];cases y3 (fun c=>wt o r (xN l cp off c)) (qe o ⟨some l,cp,off⟩) 0<;>rfl
 have cw (c:Ctl) (hc:c∈qe o ⟨some l,cp,off⟩):=t35 (k+7) l cp off (by omega) c (zdr (r:=⟨some l,cp,off⟩) (by omega) hsm hcl c hc);unfold enO ym at cc cf;simp only[zlL,stO,zi,yU,cc,zR,cf,zgx,zc,zb,zg];cases hf:y3 (fun c=>wt o r (xN l cp off c)) (qe o ⟨some l,cp,off⟩) 0 with
 |none=>
  have:((-1:Int)<0):=by decide
  simp only[this,decide_true,if_true];rfl
 |some j=>
  obtain⟨c,_,g2,_⟩:=fs.2 j hf;rw[Yyq]at g2;have hn:¬((j:Int)<0):=by omega
  have ix:yy 3 (enL 3 zL (grow (qe o ⟨some l,cp,off⟩))) (I6 (j:Int))=some (zL c):=by rw[yb,zn,g2];rfl
  have cw:=cw c (Lz3 g2);unfold ym at cw;simp only[Yzn,hn,if_false,ix,zb,g2];rw[show[atD (zL c) 0,atD (zL c) 1,atD (zL c) 2]=zL c from rfl,cw];rfl
include hsm hcl FF in
theorem zEr(k:Nat){A:List (List (Sl Ze))}{r:Reg}(F:Fit o r)(a2:A.length=o.divs.els.length)(a3:Rows o (wp o r) A):∀(m:Nat) (l:List Int) (cp off:Int),Few o l cp off→zdl l cp off≤(m:Int)→Alike o r ⟨some l,cp,off⟩→
  ∃l' cp' off',zB (zlL (D (k+8)) (St o.name) (enL 6 enR o.ranks) (enL 5 enV o.divs) (enL 5 enC o.cpls) (.lst 1 (A.map yl))) (stO l cp off) []=some (zCi l' cp' off')∧Few o l' cp' off'∧Alike o r ⟨some l',cp',off'⟩∧∀c∈qe o ⟨some l',cp',off'⟩,wt o r (xN l' cp' off' c)=false:=by
 intro m
 induction m with
 |zero=>
  intro l cp off W hm ha;have hr:=zgW hsm hcl FF k F W a2 a3;have fs:=zeK (fun c=>wt o r (xN l cp off c)) (qe o ⟨some l,cp,off⟩) 0;cases hf:y3 (fun c=>wt o r (xN l cp off c)) (qe o ⟨some l,cp,off⟩) 0 with
  |none=>rw[hf]at hr;exact⟨l,cp,off,zG hr,W,ha,fs.1 hf⟩
  |some j=>obtain⟨c,_,g2,_⟩:=fs.2 j hf;obtain⟨l',cp',off',_,W',hlt⟩:=zla W (Lz3 g2);have:=znz W';omega
 |succ m ih=>
  intro l cp off W hm ha;have hr:=zgW hsm hcl FF k F W a2 a3;have fs:=zeK (fun c=>wt o r (xN l cp off c)) (qe o ⟨some l,cp,off⟩) 0;cases hf:y3 (fun c=>wt o r (xN l cp off c)) (qe o ⟨some l,cp,off⟩) 0 with
  |none=>rw[hf]at hr;exact⟨l,cp,off,zG hr,W,ha,fs.1 hf⟩
  |some j=>obtain⟨c,_,g2,g3⟩:=fs.2 j hf;rw[Yyq]at g2;obtain⟨l',cp',off',e,W',hlt⟩:=zla W (Lz3 g2);rw[hf]at hr;simp only[g2,e]at hr g3;obtain⟨l2,cp2,off2,q1,q2⟩:=ih l' cp' off' W' (by omega) (zEq.1 g3);exact⟨l2,cp2,off2,by rw[zx hr];exact q1,q2⟩
include ho h0 hsm hcl FF in
theorem t11(k:Nat){l:List Int}{cp off:Int}(W:Few o l cp off):∃l' cp' off',D (k+12) 11 [SA (enO o),SA (ym ⟨some l,cp,off⟩)]=some (.tup [.agg (ym ⟨some l',cp',off'⟩),.one (I6 0)])∧Few o l' cp' off'∧Alike o ⟨some l,cp,off⟩ ⟨some l',cp',off'⟩∧(∀c∈qe o ⟨some l',cp',off'⟩,wt o ⟨some l,cp,off⟩ (xN l' cp' off' c)=false)∧
  ((∀c∈qe o ⟨some l,cp,off⟩,wt o ⟨some l,cp,off⟩ (xN l cp off c)=false)→l'=l∧cp'=cp∧off'=off):=by
 have F:=FF l cp off W.len;have hl:=W.len;have hdl:=F.dl;obtain⟨A,a1,a2,a3⟩:=t29 F (k+6);obtain⟨l',cp',off',q1,q2,q3,q4⟩:=zEr hsm hcl FF (k+3) F a2 a3 (zdl l cp off).toNat l cp off W (by have:=znz W;omega) (alike_refl _);have ef:fits 8 (xt (some [])+(l.map enU).length)=true:=yM (by decide) (by simp;omega);have cc:=t28 k o ho (some [⟨some l,cp,off⟩]) (by simp);rw[yn,zCk h0 (zpM h0 W)]at cc;refine⟨l',cp',off',?_,q2,q3,q4,fun hn=>?_⟩
 ·unfold enO ym at a1 ⊢;unfold enO at cc;rw[D11];unfold P11;rw[show DV.lst 3 [[enL 1 enU (some l),U64 cp,U64 off]]=enL 3 ym (some [⟨some l,cp,off⟩]) from rfl,cc];simp only[zgx,yg,zb,YzD,Yzw,zg,Yzc,if_false,a1,zR,zcK,Option.isNone_some,vX,yn,ef,yF,zdG,ut];rw[show[DV.nils,U64 0,U64 0,DV.lst 1 (l.map enU),U64 cp,U64 off]=stO l cp off from rfl,q1];rfl
 ·have hr:=zgW hsm hcl FF (k+3) F W a2 a3;have fs:=zeK (fun c=>wt o ⟨some l,cp,off⟩ (xN l cp off c)) (qe o ⟨some l,cp,off⟩) 0;cases hf:y3 (fun c=>wt o ⟨some l,cp,off⟩ (xN l cp off c)) (qe o ⟨some l,cp,off⟩) 0 with
  |none=>
   rw[hf]at hr;have:=(zG hr).symm.trans q1;unfold zCi at this;simp only[Option.some.injEq,Prod.mk.injEq,List.cons.injEq,DV.int.injEq,true_and,and_true]at this;obtain⟨e1,e2,e3,_⟩:=this;have e1:l.map enU=l'.map enU:=by rw[w7,w7]at e1;exact(DV.lst.inj e1).2
   refine⟨?_,e2.symm,e3.symm⟩;have hinj:∀(a b:List Int),a.map enU=b.map enU→a=b:=by
    intro a
    induction a with
    |nil=>intro b h;cases b with
     |nil=>rfl
     |cons _ _=>simp at h
    |cons x a ih=>intro b h;cases b with
     |nil=>simp at h
     |cons y b=>simp only[Yzy,List.cons.injEq]at h;obtain⟨h1,h2⟩:=h;rw[ih b h2];simp at h1;rw[h1]
   exact(hinj _ _ e1).symm
  |some j=>obtain⟨c,_,g2,g3⟩:=fs.2 j hf;rw[Yyq]at g2;have:=hn c (Lz3 g2);rw[this]at g3;cases g3
include hsm hcl FF in
theorem l13(k:Nat){A:List (List (Sl Ze))}{r:Reg}{l:List Int}{cp off:Int}(F:Fit o r)(W:Few o l cp off)(a2:A.length=o.divs.els.length)(a3:Rows o (wp o r) A)(q:List Ctl)(hq:q.length≤1000000)(hin:∀c∈q,c∈qe o ⟨some l,cp,off⟩):∀(x:List Ctl) (i:Nat) (acc:List Ctl),q.drop i=x→acc.length≤i→
  zB (zq6 (D (k+6)) (I6 (q.length:Int)) (enL 3 zL (grow q)) (enL 1 enU (some l)) (U64 cp) (U64 off) (St o.name) (enL 6 enR o.ranks) (enL 5 enV o.divs) (enL 5 enC o.cpls) (.lst 1 (A.map yl))) [I6 (i:Int)] [ocL zL (grow acc)]=some (.exit 0,[],[ocL zL (grow (acc++x.filter fun c=>wt o r (xN l cp off c)))]):=by
 intro x
 induction x with
 |nil=>intro i acc h _;refine zl ?_;simp only[zq6,zi,zp,zc,zb,yK (zH h),zg,List.filter_nil,YzE];rfl
 |cons c x ih=>
  intro i acc h ha;have h1:=zZ h;have ea:zf .add (I6 (i:Int)) (I6 1)=some (I6 ((i+1:Nat):Int)):=yf;have hl:=W.len;have hdl:=F.dl;have hc:=hin c (Lz3 (zJ h));obtain⟨l',cp',off',e,W',_⟩:=zla W hc;have F':Fit o (xN l cp off c):=by rw[e];exact FF _ _ _ W'.len
  obtain⟨B,b1',b2,b3⟩:=t29 F' (k+1);have cs:=t34 (k+3) F a2 b2 a3 b3;have cw:=t35 (k+5) l cp off (by omega) c (zdr (r:=⟨some l,cp,off⟩) (by omega) hsm hcl c hc);have ix:yy 3 (enL 3 zL (grow q)) (I6 (i:Int))=some (zL c):=by rw[yb,zn,zJ h];rfl
  have ef:fits 24 ((grow acc).els.length+1)=true:=yM (by decide) (by rw[zn];omega);have hp:(some ((grow acc).els.map zL++[zL c]):OC)=ocL zL (grow (acc++[c])):=by rw[yw,←y0]
  have body:zq6 (D (k+6)) (I6 (q.length:Int)) (enL 3 zL (grow q)) (enL 1 enU (some l)) (U64 cp) (U64 off) (St o.name) (enL 6 enR o.ranks) (enL 5 enV o.divs) (enL 5 enC o.cpls) (.lst 1 (A.map yl)) [I6 (i:Int)] [ocL zL (grow acc)] =
    some (.normal,[I6 ((i+1:Nat):Int)],[ocL zL (grow (if wt o r (xN l cp off c)=true then acc++[c] else acc))]):=by
   have at3:[atD (zL c) 0,atD (zL c) 1,atD (zL c) 2]=zL c:=rfl;unfold enO at b1' cs;rw[e]at cw b1' cs ⊢;have cw':D (k+6) 35 [SA [enL 1 enU (some l),U64 cp,U64 off],SA (zL c)]=some (SA (ym ⟨some l',cp',off'⟩)):=cw;simp only[zq6,zi,zp,zc,zb,x4 h1,zg,if_true,ix,at3,cw',zqx,zqy,b1',zR,cs,zY,zU,ef,yF,ea,hp];cases wt o r ⟨some l',cp',off'⟩<;>rfl
  rw[zx body,ih (i+1) _ (zw h) (by split<;>(try simp only[Yzk,Yzg,Yzx])<;>omega)];by_cases hb:wt o r (xN l cp off c)=true
  ·rw[Yze hb,List.filter_cons_of_pos (p:=fun c=>wt o r (xN l cp off c)) hb];simp
  ·rw[Yzb hb,List.filter_cons_of_neg (p:=fun c=>wt o r (xN l cp off c)) hb]
include ho h0 hsm hcl FF in
theorem t13(k:Nat){l:List Int}{cp off:Int}(W:Few o l cp off):D (k+12) 13 [SA (enO o),SA (ym ⟨some l,cp,off⟩)]=some (.tup [.one (enL 3 zL (grow ((qe o ⟨some l,cp,off⟩).filter fun c=>wt o ⟨some l,cp,off⟩ (xN l cp off c)))),.one (I6 0)]):=by have F:=FF l cp off W.len;have hl:=W.len;have hdl:=F.dl;obtain⟨A,a1,a2,a3⟩:=t29 F (k+6);have cc:=t28 k o ho (some [⟨some l,cp,off⟩]) (by simp);rw[yn,zCk h0 (zpM h0 W)]at cc;have ct:=t31 (k+10) o ⟨some l,cp,off⟩ (by omega) hsm (by omega) hl;have hlen:=zcl (o:=o) (l:=l) (cp:=cp) (off:=off) (by omega) hsm (by omega) hcl;have lr:=l13 hsm hcl FF (k+5) F W a2 a3 (qe o ⟨some l,cp,off⟩) hlen (fun _ h=>h) (qe o ⟨some l,cp,off⟩) 0 [] rfl (LzB _);unfold enO ym at a1 ct ⊢;unfold enO at cc;rw[D13];unfold P13;rw[show DV.lst 3 [[enL 1 enU (some l),U64 cp,U64 off]]=enL 3 ym (some [⟨some l,cp,off⟩]) from rfl,cc];simp only[zgx,yg,zb,YzD,Yzw,zg,Yzc,if_false,a1,zR,ct,zA,zn];rw[show (I6 0:DV)=I6 ((0:Nat):Int) from rfl,show (none:OC)=ocL zL (grow []) from rfl,lr];simp only[zt,Yzj,Yza,zp,yX,YzK]
end
theorem zpN{o:Org}(hd:o.divs.els.length≤3)(hs:∀d∈o.divs.els,d.stops.els.length≤3)(hc:o.cpls.els.length≤3)(b:Nat→Nat)(hb:∀i,b i<256):Few o (vJ b 0 o.divs.els) (zb5 (b 3:Int) (qI o.cpls.els.length)) (zb5 (b 4:Int) (qI o.divs.els.length)):=
 ⟨jv .., fun n d s h1 h2 => by rw[zdm b _ 0 n d h1]at h2;cases h2;exact ze6 (hb _) (hs d (Lz3 h1)),ze6 (hb 3) hc,ze6 (hb 4) hd⟩
theorem zy5{β:Type}(r:Reg)(d:DV)(K:List DS→Option β):bT [some 3,none] (some (.tup [.agg (ym r),.one d])) K=K [.agg (ym r),.one d]:=rfl
theorem t3(k:Nat)(p:Pln)(hp:p.ok)(b:Nat→Nat)(hb:∀i,b i<256):D (k+14) 3 [SA (zgf p),SA (enB b)]=some (S1 (Bo true)):=by
 have kn:=D7 (k+13);have cf:=t8 (k+12) p hp;unfold zgf at cf ⊢;unfold enB;rw[D3];unfold P3;simp only[kn,zR,yI,zb,zg,Yzw,Yzc,if_false,cf];cases hf:zdh p with
 |false=>rfl
 |true=>
  have cm:=t9 (k+6) p hp hf;have ho:=zvh p hf;have h0:=zmz p hp hf;obtain⟨s1,s2,s3⟩:=zeu p hf;have FF:∀(l:List Int) (cp off:Int),l.length=(za7 p).divs.els.length→Fit (za7 p) ⟨some l,cp,off⟩:=fun l cp off hl=>by have F:=zA7 p hf b;exact⟨F.dl,F.cl,F.sl,F.rng,F.dst,F.shf,F.stp,F.sml,hl⟩
  generalize za7 p=o at cm ho h0 s1 s2 s3 FF;have s2':∀d∈o.divs.els,d.stops.els.length≤60:=fun d hd=>by have:=s2 d hd;omega
  obtain⟨_,hd0⟩:=zi4 h0;unfold zgf at cm;have d1:=t10 (k+12) o b hb (by omega) s2' (by omega);have W:=zpN s1 s2 s3 b hb;unfold enB at d1;have hr:qc o b=⟨some (vJ b 0 o.divs.els),zb5 (b 3:Int) (qI o.cpls.els.length),zb5 (b 4:Int) (qI o.divs.els.length)⟩:=by unfold qc;rw[zf5 (by have:=jv b o.divs.els 0;omega)]
  rw[hr]at d1;generalize vJ b 0 o.divs.els=l at d1 W;generalize zb5 (b 3:Int) (qI o.cpls.els.length)=cp at d1 W;generalize zb5 (b 4:Int) (qI o.divs.els.length)=off at d1 W;obtain⟨l1,cp1,off1,n1,W1,A1,N1,_⟩:=t11 ho h0 s2' (by omega) FF (k+1) W;have N1':∀c∈qe o ⟨some l1,cp1,off1⟩,wt o ⟨some l1,cp1,off1⟩ (xN l1 cp1 off1 c)=false:=fun c hc=>by
   have:=N1 c hc;cases hq:wt o ⟨some l1,cp1,off1⟩ (xN l1 cp1 off1 c) with
   |false=>rfl
   |true=>rw[zEq.2 (qX A1 (zEq.1 hq))]at this;cases this
  obtain⟨l2,cp2,off2,n2,W2,_,_,e2⟩:=t11 ho h0 s2' (by omega) FF (k+1) W1;obtain⟨rfl,rfl,rfl⟩:=e2 N1';have F0:=FF l cp off W.len;have F1:=FF l2 cp2 off2 W1.len;obtain⟨c1,q1,g1,i1⟩:=t12 ho h0 F0 F1 (zpM h0 W) (zpM h0 W1) (k+1);have q1t:q1=true:=i1.2 A1;have hrd:=t13 ho h0 s2' (by omega) FF (k+1) W1;have hnil:((qe o ⟨some l2,cp2,off2⟩).filter fun c=>wt o ⟨some l2,cp2,off2⟩ (xN l2 cp2 off2 c))=[]:=by rw[List.filter_eq_nil_iff];intro c hc;rw[N1' c hc];simp
  rw[hnil]at hrd;rw[q1t]at g1;have hl2:=W1.len;have ce:=t14 (k+11) ⟨some l2,cp2,off2⟩ (by simp only[yn];omega);have lz:yV (enL 3 zL (grow []))=some (I6 0):=rfl;simp only[Yzw,Yzc,if_false,cm,zww,zt9,d1,zqx,zqy,n1,zy5,zeR,ztX,zbi,zp4,yg,xF,YzD,zb,zg,g1,zEs,hrd,bT2,n2,if_true,lz,ce,zR]
end Go.Proofs.Tryz.Kn
end
section
namespace Go.Proofs.Tryz.Kn
open Go Go.CE Go.PE
structure Zt (o:Org) (r:Reg):Prop extends Fit o r where
 hi:∀d∈o.divs.els,d.high≤60
 seg:∀d∈o.divs.els,∀s∈d.stops.els,s.segs.els.length≤2∧(∀g∈s.segs.els,g.draws.els.length≤2∧∀x∈g.draws.els,0≤x.rank∧x.rank<(o.ranks.els.length:Int))∧∀key,∀g∈s.segs.els,xK key g=true→g=uO s key
section
variable {o:Org} {r:Reg} (F:Zt o r)
include F
end
end Go.Proofs.Tryz.Kn
end
