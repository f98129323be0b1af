/-
  Lemmas. No condition.
-/
import Derived.Test.YtfmceamccfhfcaaGreatDoorWm
set_option linter.unusedSimpArgs false
set_option linter.unusedVariables false
section
namespace Go.Proofs.Tryz.Kn
open Go Go.CE Go.PE
def zeQ(k:Int×Int):List DV:=[U64 k.1,U64 k.2]
def zoC(key:Int):Int×Int:=(((2^key.toNat:Nat):Int),0)
theorem t64(k:Nat)(key:Int)(h0:0≤key)(h1:key≤60):D (k+1) 64 [S1 (I6 key)]=some (SA (zeQ (zoC key))):=by
 obtain⟨n,rfl⟩:∃n:Nat,key=(n:Int):=⟨key.toNat,by omega⟩;have e1:yi .u64 (I6 (n:Int))=some (U64 (n:Int)):=jx (by omega);have e2:yj true (U64 1) (U64 (n:Int))=some (U64 ((2^n:Nat):Int)):=zdS (by omega);have h:¬(64:Int)≤(n:Int):=by omega
 rw[D64];unfold P64;simp only[xQ,zb,zg,Yzn,h,if_false,e1,e2];rfl
theorem zws:((List.range 61).all fun a=>(List.range 61).all fun b=>bit ((2^a:Nat):Int) b==(a==b))=true:=by kernel_rfl
theorem zwr{a b:Nat}(ha:a≤60)(hb:b≤60):bit ((2^a:Nat):Int) b=(a==b):=by
 have:=Yz3.1 (Yz3.1 zws a (List.mem_range.2 (by omega))) b (List.mem_range.2 (by omega))
 simpa using this
theorem zs9(b:Nat):bit 0 b=false:=by unfold bit;rw[zrD];rfl
structure Zt (o:Org) (r:Reg):Prop extends Fit o r where
 hi:∀d∈o.divs.els,d.high≤60
 seg:∀d∈o.divs.els,∀s∈d.stops.els,s.segs.els.length≤2∧(∀g∈s.segs.els,g.draws.els.length≤2∧∀x∈g.draws.els,0≤x.rank∧x.rank<(o.ranks.els.length:Int))∧∀key,∀g∈s.segs.els,xK key g=true→g=uO s key
section
variable {o:Org} {r:Reg} (F:Zt o r)
include F
def jG(o:Org)(c:y5):List (Int×Int):=(List.replicate o.divs.els.length (0,0)).set c.rank.toNat (zoC c.num)
theorem t39(k:Nat)(c:y5)(hc:inR o c=true):D (k+2) 39 [SA (enO o),SA [I6 c.rank,I6 c.num]]=some (S1 (enL 2 zeQ (some (jG o c)))):=by
 obtain⟨n,d,hn,hd,h1,h2⟩:=xR.1 hc;have hnl:=(Lz0.1 hd).1;have hr:=F.rng d (Lz3 hd);have hh:=F.hi d (Lz3 hd);have hdl:=F.dl;have e:=t64 k c.num (by omega) (by omega);have em:mkN 16 (I6 (o.divs.els.length:Int)) (I6 (o.divs.els.length:Int))=some o.divs.els.length:=by show (bif Nat.beq o.divs.els.length o.divs.els.length&&Nat.ble o.divs.els.length 1073741824&&Nat.ble (16*o.divs.els.length) 281474976710656 then some o.divs.els.length else none)=some o.divs.els.length;rw[Yzj,Yzl (show o.divs.els.length≤1073741824 by omega),Yzl (show 16*o.divs.els.length≤281474976710656 by omega)];rfl
 have hrep:List.replicate o.divs.els.length [U64 0,U64 0]=(List.replicate o.divs.els.length ((0,0):Int×Int)).map zeQ:=by rw[List.map_replicate];rfl
 have i1:y2 (some ((List.replicate o.divs.els.length ((0,0):Int×Int)).map zeQ)) (I6 c.rank)=some n:=by rw[hn];exact wv (by simp;omega)
 have gz:(List.replicate o.divs.els.length ((0,0):Int×Int))[n]? = some (0,0):=by rw[List.getElem?_replicate,Yze hnl]
 have st:zgR 2 (some ((List.replicate o.divs.els.length ((0,0):Int×Int)).map zeQ)) n 0 (zeQ (zoC c.num))=some (some ((jG o c).map zeQ)):=by unfold jG;rw[hn,Yzp];exact zzF gz (Lz4 rfl) rfl
 unfold enO;rw[D39];unfold P39;simp only[zA,zb,em,e];rw[zwv (show (zeQ (zoC c.num)).length=2 from rfl)];simp only[hrep,i1,zb];rw[show[atD (zeQ (zoC c.num)) 0,atD (zeQ (zoC c.num)) 1]=zeQ (zoC c.num) from rfl,st];rfl
omit F in
theorem zqA(c:y5)(hc:inR o c=true){n:Nat}(hn:n<o.divs.els.length):(jG o c)[n]? = some (if (n:Int)=c.rank then zoC c.num else(0,0)):=by
 obtain⟨m,d,hm,hd,_,_⟩:=xR.1 hc;unfold jG;rw[hm,Yzp];by_cases h:n=m
 ·subst h;rw[Yze rfl,List.getElem?_set_self (by simp;omega)]
 ·rw[Yzb (by omega),List.getElem?_set_ne (fun e=>h e.symm),List.getElem?_replicate,Yze hn]
theorem zqs(c:y5)(hc:inR o c=true){n:Nat}{d:Zj}(hd:o.divs.els[n]? = some d){key:Nat}(h2:(key:Int)≤d.high):bit (if (n:Int)=c.rank then zoC c.num else(0,0)).1 key=decide ((n:Int)=c.rank∧(key:Int)=c.num):=by
 obtain⟨m,d',hm,hd',g1,g2⟩:=xR.1 hc;have hr:=F.rng d' (Lz3 hd');have hh:=F.hi d (Lz3 hd);have hh':=F.hi d' (Lz3 hd');by_cases h:(n:Int)=c.rank
 ·rw[Yze h];show bit ((2^c.num.toNat:Nat):Int) key=_;rw[zwr (by omega) (by omega)];by_cases e:c.num.toNat=key
  ·rw[decide_eq_true (show (n:Int)=c.rank∧(key:Int)=c.num from⟨h,by omega⟩)];simpa using e
  ·rw[decide_eq_false (fun hh=>e (by omega))];simpa using e
 ·rw[Yzb h,decide_eq_false (fun hh=>h hh.1)];exact zs9 key
theorem zsv(c:y5)(hc:inR o c=true)(n:Nat)(d:Zj)(hd:o.divs.els[n]? = some d):∀(m:Nat) (key:Nat) (acc:List y5),(key:Int)+(m:Int)=d.high+1→acc.length+m≤1000→
  zB (zqK (enV d) (enL 2 zeQ (some (jG o c))) [I6 (n:Int)]) [I6 (key:Int)] [ocL zX (grow acc)]=some (.exit 2,[],[ocL zX (grow (if (n:Int)=c.rank∧(key:Int)≤c.num then acc++[c] else acc))]):=by
 have hnl:=(Lz0.1 hd).1;obtain⟨_,d',hm',hd',_,g2⟩:=xR.1 hc;have hh:=F.hi d (Lz3 hd);have a3:atD (enV d) 3=I6 d.high:=rfl;have ik:yy 2 (enL 2 zeQ (some (jG o c))) (I6 (n:Int))=some (zeQ (if (n:Int)=c.rank then zoC c.num else(0,0))):=by rw[yb,yn,zqA c hc hnl];rfl
 intro m
 induction m with
 |zero=>
  intro key acc hk _;have h1:decide ((key:Int)≤d.high)=false:=decide_eq_false (by omega);have h2:¬((n:Int)=c.rank∧(key:Int)≤c.num):=fun h=>by rw[←h.1]at hm';have:n=_:=Int.ofNat.inj hm';subst this;rw[hd]at hd';cases hd';omega
  rw[Yzb h2];refine zl ?_;simp only[zqK,zi,zp,a3,xE,zb,h1,zg,Yzc,if_false]
 |succ m ih=>
  intro key acc hk ha;have h1:decide ((key:Int)≤d.high)=true:=decide_eq_true (by omega);have h64:¬(64:Int)≤(key:Int):=by omega
  have ea:zf .add (I6 (key:Int)) (I6 1)=some (I6 ((key+1:Nat):Int)):=yf;have er:zf .rem (I6 (key:Int)) (I6 64)=some (I6 ((key % 64:Nat):Int)):=ziV (b:=64) (by decide);rw[Nat.mod_eq_of_lt (by omega)]at er;have ec:yi .u64 (I6 (key:Int))=some (U64 (key:Int)):=jx (by omega);have ef:fits 16 ((grow acc).els.length+1)=true:=yM (by decide) (by rw[zn];omega);have hb:=zqs F c hc hd (key:=key) (by omega);have eb:zf .eql (U64 (zb5 (zd6 (if (n:Int)=c.rank then zoC c.num else(0,0)).1 key) 1)) (U64 1)=some (Bo (decide ((n:Int)=c.rank∧(key:Int)=c.num))):=by rw[zdW,←hb];rfl
  have hp:(some ((grow acc).els.map zX++[[I6 (n:Int),I6 (key:Int)]]):OC)=ocL zX (grow (acc++[⟨(n:Int),(key:Int)⟩])):=by rw[yw,←y0];rfl
  have body:zqK (enV d) (enL 2 zeQ (some (jG o c))) [I6 (n:Int)] [I6 (key:Int)] [ocL zX (grow acc)]=some (.normal,[I6 ((key+1:Nat):Int)],[ocL zX (grow (if (n:Int)=c.rank∧(key:Int)=c.num then acc++[⟨(n:Int),(key:Int)⟩] else acc))]):=by simp only[zqK,zi,zp,a3,xE,zb,h1,zg,if_true,ik,xQ,Yzn,h64,if_false,er,ec,zeQ,yE,zcb,yT,eb,zY,zU,ef,yF,ea,hp];by_cases hq:(n:Int)=c.rank∧(key:Int)=c.num<;>simp[hq]
  rw[zx body,ih (key+1) _ (by omega) (by split<;>(try simp only[Yzk,Yzg,Yzx])<;>omega)];by_cases hq:(n:Int)=c.rank∧(key:Int)=c.num
  ·rw[Yze hq,Yzb (by omega),Yze (by omega),show (⟨(n:Int),(key:Int)⟩:y5)=c from Ze.eq hq.1 hq.2]
  ·rw[Yzb hq];by_cases h2:(n:Int)=c.rank∧(key:Int)≤c.num
   ·rw[Yze h2,Yze (by omega)]
   ·rw[Yzb h2,Yzb (by omega)]
theorem zsw(c:y5)(hc:inR o c=true):∀(l:List Zj) (n:Nat) (acc:List y5),o.divs.els.drop n=l→acc.length≤100*n→
  zB (zqL (I6 (o.divs.els.length:Int)) (enL 5 enV o.divs) (enL 2 zeQ (some (jG o c)))) [I6 (n:Int)] [ocL zX (grow acc)]=some (.exit 0,[],[ocL zX (grow (if (n:Int)≤c.rank then acc++[c] else acc))]):=by
 obtain⟨m,d',hm',hd',g1,g2⟩:=xR.1 hc;have hml:=(Lz0.1 hd').1;have hdl:=F.dl;intro l
 induction l with
 |nil=>intro n acc h _;have:=zH h;rw[Yzb (by omega)];refine zl ?_;simp only[zqL,zi,zp,zc,zb,yK (zH h),zg,Yzc,if_false]
 |cons d l ih=>
  intro n acc h ha;have h1:=zZ h;have hd:=zJ h;have hr:=F.rng d (Lz3 hd);obtain⟨lo,hlo⟩:∃lo:Nat,d.low=(lo:Int):=⟨d.low.toNat,by omega⟩;have lk:=zsv F c hc n d hd (d.high-d.low+1).toNat lo acc (by omega) (by omega);have iv:yy 5 (enL 5 enV o.divs) (I6 (n:Int))=some (enV d):=by rw[yb,hd];rfl
  have a2:atD (enV d) 2=I6 (lo:Int):=by rw[←hlo];rfl
  have ea:zf .add (I6 (n:Int)) (I6 1)=some (I6 ((n+1:Nat):Int)):=yf;have hcond:((n:Int)=c.rank∧(lo:Int)≤c.num)↔(n:Int)=c.rank:=⟨fun hh=>hh.1,fun hh=>⟨hh,by
   have:n=m:=by omega
   subst this;rw[hd]at hd';cases hd';omega⟩⟩
  have body:zqL (I6 (o.divs.els.length:Int)) (enL 5 enV o.divs) (enL 2 zeQ (some (jG o c))) [I6 (n:Int)] [ocL zX (grow acc)]=some (.normal,[I6 ((n+1:Nat):Int)],[ocL zX (grow (if (n:Int)=c.rank then acc++[c] else acc))]):=by simp only[zqL,zi,zp,zc,zb,x4 h1,zg,if_true,iv,a2,lk,zt,Yzj,Yza,ea,hcond]
  rw[zx body,ih (n+1) _ (zw h) (by split<;>(try simp only[Yzk,Yzg,Yzx])<;>omega)];by_cases hq:(n:Int)=c.rank
  ·rw[Yze hq,Yzb (by omega),Yze (by omega)]
  ·rw[Yzb hq];by_cases h2:(n:Int)≤c.rank
   ·rw[Yze h2,Yze (by omega)]
   ·rw[Yzb h2,Yzb (by omega)]
theorem t85(k:Nat)(c:y5)(hc:inR o c=true):D (k+1) 85 [SA (enO o),S1 (enL 2 zeQ (some (jG o c)))]=some (S1 (enL 2 zX (some [c]))):=by obtain⟨m,d',hm',_⟩:=xR.1 hc;have l:=zsw F c hc o.divs.els 0 [] rfl (by simp);rw[Yze (by omega)]at l;unfold enO;rw[D85];unfold P85;simp only[zA,zb];rw[show (I6 0:DV)=I6 ((0:Nat):Int) from rfl,show (none:OC)=ocL zX (grow []) from rfl,l];simp only[zt,Yzj,Yza,zp,yX];rfl
omit F in
theorem t118(k:Nat)(c:y5):D (k+1) 118 [SA (enO o),SA [I6 c.rank,I6 c.num]]=some (S1 (Bo (inR o c))):=by
 unfold enO;rw[zEi];unfold zBF;simp only[xQ,zb,zg,Yzn,zA,zc,xE];cases hn:c.rank with
 |negSucc n=>
  rw[Yzb (by omega)];have:inR o c=false:=by unfold inR;rw[hn]
  rw[this]
 |ofNat n=>
  rw[show Int.ofNat n=(n:Int) from rfl]at hn ⊢;rw[Yze (by omega)];by_cases h:n<o.divs.els.length
  ·obtain⟨d,hd⟩:∃d,o.divs.els[n]? = some d:=⟨_,Lz5 h⟩;have iv:yy 5 (enL 5 enV o.divs) (I6 (n:Int))=some (enV d):=by rw[yb,hd];rfl
   have:inR o c=(decide (d.low≤c.num)&&decide (c.num≤d.high)):=by unfold inR;rw[hn];show (match o.divs.els[n]? with|some d=>_|none=>false)=_;rw[hd]
   rw[Yze (by omega),this];simp only[iv,zb,enV,yE,xc,xQ,zg,Yzn,xE];by_cases h1:d.low≤c.num<;>simp[h1]
  ·have:inR o c=false:=by
    unfold inR;rw[hn];show (match o.divs.els[n]? with|some d=>_|none=>false)=_;rw[List.getElem?_eq_none (by omega)]
   rw[Yzb (by omega),this]
end
end Go.Proofs.Tryz.Kn
end
section
namespace Go.Proofs.Tryz.Kn
open Go Go.CE Go.PE
section
variable {o:Org} {r:Reg} (F:Zt o r)
include F
theorem znb{G:List DV→List OC→Option PX}{thr:Bool}(k:Nat)(c:y5)(hc:-100000≤c.num∧c.num≤100000)(q:List y5)(hq:q.length≤1000)(i:Nat)(x:Cpl)(hx:o.cpls.els[i]? = some x)
  (hG:G=if thr=true then zh4 (D (k+2)) (I6 (o.cpls.els.length:Int)) (enL 5 enC o.cpls) [I6 c.rank,I6 c.num] (U64 r.cpls) (St o.name) (enL 6 enR o.ranks) (enL 5 enV o.divs) else zh6 (D (k+2)) (I6 (o.cpls.els.length:Int)) (enL 5 enC o.cpls) [I6 c.rank,I6 c.num] (U64 r.cpls) (St o.name) (enL 6 enR o.ranks) (enL 5 enV o.divs)):
  G [I6 (i:Int)] [ocL zX (grow q)]=some (.normal,[I6 ((i+1:Nat):Int)],[ocL zX (grow (if goes o r c thr i x=true then push q (dest c x) else q))]):=by
 have hi:=(Lz0.1 hx).1;have hm:=Lz3 hx;have hcl:=F.cl;have ea:zf .add (I6 (i:Int)) (I6 1)=some (I6 ((i+1:Nat):Int)):=yf;have ix:yy 5 (enL 5 enC o.cpls) (I6 (i:Int))=some (enC x):=by rw[yb,hx];rfl
 obtain⟨s1,s2⟩:=F.shf x hm;have ek:zf .add (I6 c.num) (I6 x.shift)=some (I6 (c.num+x.shift)):=yf;have ec:yi .u64 (I6 (i:Int))=some (U64 (i:Int)):=jx (by omega);have ct:=t80 k (dest c x) (grow q) (by rw[zn];omega);rw[zn]at ct;have ci:=t118 (o:=o) (k+1) (dest c x);have ef:fits 16 ((grow q).els.length+1)=true:=yM (by decide) (by rw[zn];omega);have hdest:(dest c x).rank=x.dst∧(dest c x).num=c.num+x.shift:=⟨rfl,rfl⟩;rw[hdest.1,hdest.2]at ct ci;unfold enO at ci;have hp:(some ((grow q).els.map zX++[[I6 x.dst,I6 (c.num+x.shift)]]):OC)=ocL zX (grow (q++[dest c x])):=by rw[yw,←y0];rfl
 have eb:zf .eql (U64 (zb5 (zd6 r.cpls i) 1)) (U64 1)=some (Bo (bit r.cpls i)):=by rw[zdW];rfl
 unfold goes;cases thr with
 |false=>
  rw[hG];simp only[Yzc,if_false,zh6,zi,zp,zc,zb,x4 hi,zg,if_true,ix,enC,yE,xc,ek,ec,zcb,yT,eb,Bool.not_false,Bool.true_or,Yyi,xF];cases bit r.cpls i with
  |false=>simp[ea]
  |true=>
   cases hs:(x.src==c.rank) with
   |false=>simp[ea]
   |true=>
    simp only[if_true,yI,Bool.not_false,zb,zg,Yz1,ci,zR];cases ht:x.thr<;>(cases hin:inR o (dest c x) with
    |false=>simp[ea]
    |true=>simp only[if_true,Yzc,if_false,yX,ct,b1s,zdO,Yza,yI,zb,zg,zY,zU,ef,yF,ea,hp,push];by_cases h3:dest c x∈q<;>simp[h3])
 |true=>
  rw[hG];simp only[if_true,zh4,zi,zp,zc,zb,x4 hi,zg,ix,enC,yE,xc,ek,ec,zcb,yT,eb,Yzw,Yz7,xF];cases bit r.cpls i with
  |false=>simp[ea]
  |true=>
   cases hs:(x.src==c.rank) with
   |false=>simp[ea]
   |true=>
    simp only[if_true,yI,Yzw,zb,zg,Yz1,ci,zR];cases ht:x.thr with
    |false=>simp[ea]
    |true=>
     cases hin:inR o (dest c x) with
     |false=>simp[ea]
     |true=>simp only[if_true,Yzc,if_false,yX,ct,b1s,zdO,Yza,yI,zb,zg,zY,zU,ef,yF,ea,hp,push,Yyw];by_cases h3:dest c x∈q<;>simp[h3]
theorem zey{G:List DV→List OC→Option PX}{thr:Bool}(k:Nat)(c:y5)(hc:-100000≤c.num∧c.num≤100000)
  (hG:G=if thr=true then zh4 (D (k+2)) (I6 (o.cpls.els.length:Int)) (enL 5 enC o.cpls) [I6 c.rank,I6 c.num] (U64 r.cpls) (St o.name) (enL 6 enR o.ranks) (enL 5 enV o.divs) else zh6 (D (k+2)) (I6 (o.cpls.els.length:Int)) (enL 5 enC o.cpls) [I6 c.rank,I6 c.num] (U64 r.cpls) (St o.name) (enL 6 enR o.ranks) (enL 5 enV o.divs)):
  ∀(l:List Cpl) (i:Nat) (q:List y5),o.cpls.els.drop i=l→q.length+l.length≤1000→zB G [I6 (i:Int)] [ocL zX (grow q)]=some (.exit 0,[],[ocL zX (grow (wD o r c thr i l q))]):=by
 intro l
 induction l with
 |nil=>
  intro i q h _;refine zl ?_;rw[hG];cases thr
  ·simp only[Yzc,if_false,zh6,zi,zp,zc,zb,yK (zH h),zg];rfl
  ·simp only[if_true,zh4,zi,zp,zc,zb,yK (zH h),zg];rfl
 |cons x l ih=>
  intro i q h hq;simp only[Yzg]at hq;rw[zx (znb F k c hc q (by omega) i x (zJ h) hG)];refine ih (i+1) _ (zw h) ?_;split
  ·have:=zfo q (dest c x);omega
  ·omega
theorem zjf(k:Nat)(c:y5):∀(f i:Nat) (q:List y5),Que o r c q i→i≤q.length→i+f=28→
    ∃q',zB (zh5 (D (k+2)) (enL 5 enC o.cpls) (U64 r.cpls) (St o.name) (enL 6 enR o.ranks) (enL 5 enV o.divs)) [I6 (i:Int)] [ocL zX (grow q)]=some (.exit 2,[],[ocL zX (grow q')])∧Que o r c q' q'.length:=by
  intro f
  induction f with
  |zero=>intro i q H hi hf;have:=vE F.toFit H.nd fun y hy=>(H.re y hy).inR;omega
  |succ f ih=>
    intro i q H hi hf;have hlen:=vE F.toFit H.nd fun y hy=>(H.re y hy).inR;by_cases hlt:i<q.length
    · obtain⟨y,hy⟩:∃y,q[i]? = some y:=⟨_,Lz5 hlt⟩
      have hym:=H.re y (Lz3 hy);have hcl:=F.cl;have ls:=zey F (thr:=true) k y (zfX F.toFit hym.inR) rfl o.cpls.els 0 q rfl (by omega);rw[Yze rfl]at ls;have ea:zf .add (I6 (i:Int)) (I6 1)=some (I6 ((i+1:Nat):Int)):=yf;have hg:(grow q).els.length=q.length:=by rw[zn]
      have i1:y2 (ocL zX (grow q)) (I6 (i:Int))=some i:=by
        cases q with
        |nil=>simp at hlt
        |cons a q=>exact wv (by simpa using hlt)
      have i2:vZ (ocL zX (grow q)) i=some (zX y):=by
        cases q with
        |nil=>simp at hlt
        |cons a q=>show ((a::q).map zX)[i]? = _;rw[Lz6,hy];rfl
      have body:zh5 (D (k+2)) (enL 5 enC o.cpls) (U64 r.cpls) (St o.name) (enL 6 enR o.ranks) (enL 5 enV o.divs) [I6 (i:Int)] [ocL zX (grow q)]=some (.normal,[I6 ((i+1:Nat):Int)],[ocL zX (grow (wD o r y true 0 o.cpls.els q))]):=by simp only[zh5,zi,zp,zY,hg,xj,zc,zb,x4 hlt,zg,if_true,i1,i2,zX,zA];rw[show (I6 0:DV)=I6 ((0:Nat):Int) from rfl,ls];simp only[zt,Yzj,Yza,ea,zb,zp]
      have HQ:Que o r c (wD o r y true 0 o.cpls.els q) (i+1):=by
       refine⟨ve o r y true _ _ _ H.nd,fun z hz=>?_,fun j x h1 h2=>(xf o r y true _ _ _).2 (.inl (H.fst j x h1 h2)),fun m z hm hz j x h1 h2=>?_⟩
       · rcases (xf o r y true _ _ _).1 hz with hz|⟨j,x,h1,h2,h3⟩
         · exact H.re z hz
         · rw[Yzm]at h2
           rw[h3];exact .more y j x hym h1 h2
       · by_cases hmi:m=i
         · subst hmi
           have:=wR o r y true o.cpls.els 0 q hy;rw[hz]at this;cases this;exact(xf o r _ true _ _ _).2 (.inr ⟨j,x,h1,by rw[Yzm];exact h2,rfl⟩)
         · have hmi:m<i:=by omega
           obtain⟨w,hw⟩:∃w,q[m]? = some w:=⟨_,Lz5 (by omega)⟩;have:=wR o r y true o.cpls.els 0 q hw;rw[hz]at this;cases this;exact(xf o r y true _ _ _).2 (.inl (H.cls m _ hmi hw j x h1 h2))
      obtain⟨q',h1,h2⟩:=ih (i+1) (wD o r y true 0 o.cpls.els q) HQ
        (by have:=wR o r y true o.cpls.els 0 q hy;have:=(Lz0.1 this).1;omega) (by omega)
      exact⟨q',by rw[zx body,h1],h2⟩
    · have hi:i=q.length:=by omega
      subst hi;refine⟨q,zl ?_,H⟩;have hg:(grow q).els.length=q.length:=by rw[zn]
      have:=yK (LzB q.length);simp only[zh5,zi,zp,zY,hg,xj,zc,zb,this,zg,Yzc,if_false]
theorem zl4{y:y5}(h:inR o y=true):q9 y:=by obtain⟨n,d,e1,e2,e3,e4⟩:=xR.1 h;have:=(Lz0.1 e2).1;have:=F.dl;have:=F.rng d (Lz3 e2);unfold q9;omega
theorem t61(k:Nat)(c:y5)(hc:inR o c=true):∃S:Sl y5,D (k+3) 61 [SA (enO o),SA (ym r),S1 (enL 2 zeQ (some (jG o c)))]=some (S1 (enL 2 zX S))∧S.els.length≤27∧(∀y,y∈S.els↔zeY o r c y)∧(∀y∈S.els,inR o y=true):=by
 obtain⟨n,d,hn,hd,_,_⟩:=xR.1 hc;have hnl:=(Lz0.1 hd).1;have hcl:=F.cl;have hdl:=F.dl;have cp:=t85 F (k+1) c hc;have l1:=zey F (thr:=false) k c (zfX F.toFit hc) rfl o.cpls.els 0 [] rfl (by simp;omega);simp only[Yzc,if_false]at l1;have hq0:Que o r c (wD o r c false 0 o.cpls.els []) 0:=⟨ve o r c false _ _ _ List.nodup_nil,fun y hy=>by
   rcases (xf o r c false _ _ _).1 hy with hy|⟨j,x,h1,h2,h3⟩
   ·cases hy
   ·rw[Yzm]at h2;rw[h3];exact .one j x h1 h2,fun j x h1 h2=>(xf o r c false _ _ _).2 (.inr ⟨j,x,h1,by rw[Yzm];exact h2,rfl⟩),fun m y hm=>by omega⟩
 obtain⟨q,h1,h2⟩:=zjf F k c 28 0 _ hq0 (Yzu _) rfl;have hall:=zog h2;have hlen:=vE F.toFit h2.nd fun y hy=>(h2.re y hy).inR;have ct:=t80 k c (grow q) (by rw[zn];omega);rw[zn]at ct;have ef:fits 16 ((grow q).els.length+1)=true:=yM (by decide) (by rw[zn];omega);have hp:(some ((grow q).els.map zX++[[I6 c.rank,I6 c.num]]):OC)=ocL zX (grow (q++[c])):=by rw[yw,←y0];rfl
 have hb:zf .eql (U64 (zb5 (zd6 r.off n) 1)) (U64 0)=some (Bo (!bit r.off n)):=by rw[zdW,zqr]
 have ec:yi .u64 (I6 c.rank)=some (U64 (n:Int)):=by rw[hn];exact jx (by omega)
 have e01:zf .add (I6 ((0:Nat):Int)) (I6 1)=some (I6 ((1:Nat):Int)):=rfl;have ix:yy 2 (enL 2 zX (some [c])) (I6 ((0:Nat):Int))=some [I6 c.rank,I6 c.num]:=rfl;have pl:yV (enL 2 zX (some [c]))=some (I6 ((1:Nat):Int)):=rfl;have f4:zB (zqQ (D (k+2)) (I6 ((1:Nat):Int)) (enL 2 zX (some [c])) (enL 5 enC o.cpls) (U64 r.cpls) (St o.name) (enL 6 enR o.ranks) (enL 5 enV o.divs)) [I6 ((0:Nat):Int)] [none]=some (.exit 0,[],[ocL zX (grow (wD o r c false 0 o.cpls.els []))]):=by
  have b0:zqQ (D (k+2)) (I6 ((1:Nat):Int)) (enL 2 zX (some [c])) (enL 5 enC o.cpls) (U64 r.cpls) (St o.name) (enL 6 enR o.ranks) (enL 5 enV o.divs) [I6 ((0:Nat):Int)] [none]=some (.normal,[I6 ((1:Nat):Int)],[ocL zX (grow (wD o r c false 0 o.cpls.els []))]):=by simp only[zqQ,zi,zp,zc,zb,x4 (show 0<1 by omega),zg,if_true,ix,zA];rw[show (none:OC)=ocL zX (grow []) from rfl,show (I6 0:DV)=I6 ((0:Nat):Int) from rfl,l1];simp only[zt,Yzj,Yza,e01,zb,zp]
  rw[zx b0];refine zl ?_;simp only[zqQ,zi,zp,zc,zb,yK (LzB 1),zg,Yzc,if_false]
 have f82:zB (zh3 (D (k+2)) (I6 ((1:Nat):Int)) (enL 2 zX (some [c])) (U64 r.off)) [I6 ((0:Nat):Int)] [ocL zX (grow q)]=some (.exit 0,[],[ocL zX (grow (if bit r.off n=true then q else push q c))]):=by
  have b0:zh3 (D (k+2)) (I6 ((1:Nat):Int)) (enL 2 zX (some [c])) (U64 r.off) [I6 ((0:Nat):Int)] [ocL zX (grow q)]=some (.normal,[I6 ((1:Nat):Int)],[ocL zX (grow (if bit r.off n=true then q else push q c))]):=by
   simp only[zh3,zi,zp,zc,zb,x4 (show 0<1 by omega),zg,if_true,ix,yE,xc,ec,zcb,yT,hb,e01];cases hbb:bit r.off n with
   |true=>simp
   |false=>simp only[Bool.not_false,if_true,yX,ct,b1s,zdO,Yza,yI,zb,zg,zY,zU,ef,yF,hp,Yzc,if_false,push];by_cases h3:c∈q<;>simp[h3]
  rw[zx b0];refine zl ?_;simp only[zh3,zi,zp,zc,zb,yK (LzB 1),zg,Yzc,if_false]
 have hin:∀y∈(if bit r.off n=true then q else push q c),inR o y=true:=fun y hy=>by
  split at hy
  ·exact(h2.re y hy).inR
  ·rcases jj.1 hy with h|h
   ·exact(h2.re y h).inR
   ·rw[h];exact hc
 have hl27:(if bit r.off n=true then q else push q c).length≤27:=by
  refine vE F.toFit ?_ hin;split
  ·exact h2.nd
  ·exact zaZ h2.nd
 have hmem:∀y,y∈(if bit r.off n=true then q else push q c)↔zeY o r c y:=fun y=>by
  unfold zeY;rw[hn,Yzp];cases hbb:bit r.off n with
  |true=>simp[hall]
  |false=>simp[jj,hall]
 generalize (if bit r.off n=true then q else push q c)=Q at f82 hin hl27 hmem;have hs:∃S:Sl y5,∃w,znK 2 (ocL zX (grow Q))=some w∧mkL 2 w=enL 2 zX S∧S.els.length=Q.length∧∀y,y∈S.els↔y∈Q:=by
  cases Q with
  |nil=>exact⟨none,none,rfl,rfl,rfl,fun y=>by simp⟩
  |cons a Q=>exact⟨some (je (a::Q)),ocP (je (a::Q)),zts (l:=a::Q) (by simp at hl27 ⊢;omega) fun p hp=>zl4 F (hin p hp),yX _,by rw[yn];exact(zaW _).length_eq,fun y=>by rw[yn];exact(zaW _).mem_iff⟩
 obtain⟨S,w,g1,g2,gl,g3⟩:=hs;refine⟨S,?_,?_,fun y=>(g3 y).trans (hmem y),fun y hy=>hin y ((g3 y).1 hy)⟩
 ·unfold enO at cp ⊢;unfold ym;rw[D61];unfold P61;simp only[cp,zR,pl,zb];rw[show (I6 0:DV)=I6 ((0:Nat):Int) from rfl,f4];simp only[zt,Yzj,Yza,zp];rw[h1];simp only[zt,Yzj,Yza,zp];rw[f82];simp only[zt,Yzj,Yza,zp,g1,zb,g2]
 ·rw[gl];exact hl27
end
end Go.Proofs.Tryz.Kn
end
section
namespace Go.Proofs.Tryz.Kn
open Go Go.CE Go.PE
section
variable {o:Org} {r:Reg} (F:Zt o r)
theorem zvo(key:Int)(x14:List DV)(ds:Sl Zp)(hx:atD x14 2=enL 2 enD ds)(hrk:∀d∈ds.els,0≤d.rank∧d.rank<(o.ranks.els.length:Int)):∀(l:List Zp) (i:Nat) (v:Sl Ze),ds.els.drop i=l→v.els.length+l.length≤1000→i+l.length≤1000→
  ∃v',zB (zh1 (I6 (ds.els.length:Int)) x14 (I6 key) (enL 6 enR o.ranks)) [I6 (i:Int)] [ocL zX v]=some (.exit 4,[],[ocL zX v'])∧v'.els=v.els++l.filterMap (qp o.ranks.els key):=by
 intro l
 induction l with
 |nil=>intro i v h _ _;refine⟨v,zl ?_,by simp⟩;simp only[zh1,zi,zp,zc,zb,yK (zH h),zg];rfl
 |cons d l ih=>
  intro i v h hv hi;simp only[Yzg]at hv hi;have h1:=zZ h;obtain⟨r0,r1⟩:=hrk d (Lz3 (zJ h));obtain⟨n,hn⟩:∃n:Nat,d.rank=(n:Int):=⟨d.rank.toNat,by omega⟩;obtain⟨k,hk⟩:∃k,o.ranks.els[n]? = some k:=⟨_,Lz5 (by omega)⟩;have ea:zf .add (I6 (i:Int)) (I6 1)=some (I6 ((i+1:Nat):Int)):=yf;have iv:yy 6 (enL 6 enR o.ranks) (I6 d.rank)=some (enR k):=by rw[hn,yb,hk];rfl
  have a4:atD (enR k) 4=I6 k.first:=rfl
  have a5:atD (enR k) 5=enL 1 enW k.wind:=rfl;have e1:zf .add (I6 key) (I6 d.shift)=some (I6 (wI .i64 (key+d.shift))):=rfl;have e2:zf .sub (I6 (wI .i64 (key+d.shift))) (I6 k.first)=some (I6 (numOf k d key)):=rfl;have ef:fits 16 (v.els.length+1)=true:=yM (by decide) (by omega);have hpo:qp o.ranks.els key d=if 0≤numOf k d key∧numOf k d key<(k.wind.els.length:Int) then some ⟨d.rank,numOf k d key⟩ else none:=by unfold qp;rw[Yzb (by omega),hn,Yzp,hk]
  obtain⟨v1,b1',b2⟩:=zco (f:=zX) v [⟨d.rank,numOf k d key⟩];have b1':(some (v.els.map zX++[[I6 d.rank,I6 (numOf k d key)]]):OC)=ocL zX v1:=by rw[←b1'];show _=some (zM (ocL zX v)++_);rw[zU];rfl
  have body:zh1 (I6 (ds.els.length:Int)) x14 (I6 key) (enL 6 enR o.ranks) [I6 (i:Int)] [ocL zX v]=some (.normal,[I6 ((i+1:Nat):Int)],[ocL zX (if 0≤numOf k d key∧numOf k d key<(k.wind.els.length:Int) then v1 else v)]):=by
   simp only[zh1,zi,zp,hx,zc,zb,x4 h1,zg,if_true,zO h,enD,yE,xc,e1,iv,a4,e2,xQ,Yzn,a5,zA,zY,zU,ef,yF,ea,b1'];by_cases q1:0≤numOf k d key
   ·by_cases q2:numOf k d key<(k.wind.els.length:Int)<;>simp[q1,q2]
   ·simp[q1]
  obtain⟨v',g1,g2⟩:=ih (i+1) (if 0≤numOf k d key∧numOf k d key<(k.wind.els.length:Int) then v1 else v) (zw h) (by split<;>(try rw[b2])<;>(try simp only[Yzk,Yzg,Yzx])<;>omega) (by omega);refine⟨v',by rw[zx body,g1],?_⟩;rw[g2,Yyg,hpo];by_cases hq:0≤numOf k d key∧numOf k d key<(k.wind.els.length:Int)
  ·rw[Yze hq,Yze hq,b2];simp
  ·rw[Yzb hq,Yzb hq]
include F
theorem zvm(n:Nat)(d:Zj)(s:Int)(j:Nat)(t:Zr)(hd:o.divs.els[n]? = some d)(hs:r.stops.els[n]? = some s)(ht:d.stops.els[j]? = some t)(key:Int):∀(l:List Seg) (i:Nat) (v:Sl Ze),t.segs.els.drop i=l→v.els.length+2*l.length≤1000→
  ∃v',zB (zh2 (I6 (t.segs.els.length:Int)) (xe t) (enL 1 enU r.stops) (I6 (n:Int)) [I6 (j:Int)] (I6 key) (enL 6 enR o.ranks)) [I6 (i:Int)] [ocL zX v]=some (.exit 2,[],[ocL zX v'])∧v'.els.length≤v.els.length+2*l.length∧
   ∀y,y∈v'.els↔y∈v.els∨(bit s j=true∧∃g∈l,xK key g=true∧y∈wM o.ranks.els key g.draws.els):=by
 have hdm:=Lz3 hd;have htm:=Lz3 ht;have hsl:=F.sl d hdm;have hjl:=(Lz0.1 ht).1;obtain⟨q1,q2,_⟩:=F.seg d hdm t htm;intro l
 induction l with
 |nil=>intro i v h _;refine⟨v,zl ?_,by simp,fun y=>by simp⟩;simp only[zh2,zi,zp,zc,zb,yK (zH h),zg];rfl
 |cons g l ih=>
  intro i v h hv;simp only[Yzg]at hv;have h1:=zZ h;have hgm:=Lz3 (zJ h);obtain⟨p1,p2⟩:=q2 g hgm;have ea:zf .add (I6 (i:Int)) (I6 1)=some (I6 ((i+1:Nat):Int)):=yf;have ec:yi .u64 (I6 (j:Int))=some (U64 (j:Int)):=jx (by omega);have is:yy 1 (enL 1 enU r.stops) (I6 (n:Int))=some [U64 s]:=by rw[yb,hs];rfl
  have i3:atD (xe t) 3=enL 3 enS t.segs:=rfl;have a0:atD (enS g) 0=I6 g.lo:=rfl;have a1:atD (enS g) 1=I6 g.hi:=rfl;have a2:atD (enS g) 2=enL 2 enD g.draws:=rfl;have ix:yy 3 (enL 3 enS t.segs) (I6 (i:Int))=some (enS g):=by rw[yb,zJ h];rfl
  obtain⟨v1,c1,c2⟩:=zvo (o:=o) key (enS g) g.draws a2 p2 g.draws.els 0 v rfl (by omega) (by omega);have hcov:xK key g=(decide (g.lo≤key)&&decide (key≤g.hi)):=rfl;have body:zh2 (I6 (t.segs.els.length:Int)) (xe t) (enL 1 enU r.stops) (I6 (n:Int)) [I6 (j:Int)] (I6 key) (enL 6 enR o.ranks) [I6 (i:Int)] [ocL zX v]=some (.normal,[I6 ((i+1:Nat):Int)],[ocL zX (if bit s j=true∧xK key g=true then v1 else v)]):=by
   simp only[zh2,zi,zp,zc,zb,x4 h1,zg,if_true,i3,ix,is,ec,yE,zcb,yT,zdW,zqr,a0,a1,a2,zA,yP,Yzn];cases hb:bit s j with
   |false=>simp[ea]
   |true=>
    simp only[Yzw,Yzc,if_false,hcov,LzC,Yzn,true_and];by_cases k1:key<g.lo
    ·rw[Yze k1,Yzb (by omega)];simp[ea]
    ·rw[Yzb k1];by_cases k2:g.hi<key
     ·rw[Yze k2,Yzb (by omega)];simp[ea]
     ·rw[Yzb k2,Yze (by omega)];rw[show (I6 0:DV)=I6 ((0:Nat):Int) from rfl,c1];simp only[zt,Yzj,Yza,ea,zb,zp]
  have hlen:(if bit s j=true∧xK key g=true then v1 else v).els.length≤v.els.length+2:=by
   split
   ·rw[c2,Yzk];have:=List.length_filterMap_le (qp o.ranks.els key) g.draws.els;omega
   ·omega
  obtain⟨v',g1,g2,g3⟩:=ih (i+1) (if bit s j=true∧xK key g=true then v1 else v) (zw h) (by omega);refine⟨v',by rw[zx body,g1],by rw[Yzg];omega,fun y=>(g3 y).trans ?_⟩;by_cases hq:bit s j=true∧xK key g=true
  ·rw[Yze hq,c2,YzI]
   constructor
   ·rintro ((h|h)|⟨h,z,hz,h'⟩)
    ·exact .inl h
    ·exact .inr ⟨hq.1,g,Yzh ..,hq.2,h⟩
    ·exact .inr ⟨h,z,Yzf _ hz,h'⟩
   ·rintro (h|⟨h,z,hz,h',h''⟩)
    ·exact .inl (.inl h)
    ·rcases YzA.1 hz with e|hz
     ·rw[e]at h'';exact .inl (.inr h'')
     ·exact .inr ⟨h,z,hz,h',h''⟩
  ·rw[Yzb hq]
   constructor
   ·rintro (h|⟨h,z,hz,h'⟩)
    ·exact .inl h
    ·exact .inr ⟨h,z,Yzf _ hz,h'⟩
   ·rintro (h|⟨h,z,hz,h',h''⟩)
    ·exact .inl h
    ·rcases YzA.1 hz with e|hz
     ·rw[e]at h';exact absurd ⟨h,h'⟩ hq
     ·exact .inr ⟨h,z,hz,h',h''⟩
theorem zst(n:Nat)(d:Zj)(s:Int)(hd:o.divs.els[n]? = some d)(hs:r.stops.els[n]? = some s)(key:Int):∀(l:List Zr) (j:Nat) (v:Sl Ze),d.stops.els.drop j=l→v.els.length+4*l.length≤1000→
  ∃v',zB (zqP (I6 (d.stops.els.length:Int)) (enV d) (enL 1 enU r.stops) (I6 (n:Int)) (I6 key) (enL 6 enR o.ranks)) [I6 (j:Int)] [ocL zX v]=some (.exit 0,[],[ocL zX v'])∧v'.els.length≤v.els.length+4*l.length∧
   ∀y,y∈v'.els↔y∈v.els∨∃(q:Nat) (t:Zr),l[q]? = some t∧bit s (j+q)=true∧∃g∈t.segs.els,xK key g=true∧y∈wM o.ranks.els key g.draws.els:=by
 have hdm:=Lz3 hd;intro l
 induction l with
 |nil=>intro j v h _;refine⟨v,zl ?_,by simp,fun y=>by simp⟩;simp only[zqP,zi,zp,zc,zb,yK (zH h),zg];rfl
 |cons t l ih=>
  intro j v h hv;simp only[Yzg]at hv;have h1:=zZ h;have htm:=Lz3 (zJ h);obtain⟨q1,_⟩:=F.seg d hdm t htm;have ea:zf .add (I6 (j:Int)) (I6 1)=some (I6 ((j+1:Nat):Int)):=by have:=F.sl d hdm;exact yf
  have i4:atD (enV d) 4=enL 4 xe d.stops:=rfl;have ix:yy 4 (enL 4 xe d.stops) (I6 (j:Int))=some (xe t):=by rw[yb,zJ h];rfl
  have i3:atD (xe t) 3=enL 3 enS t.segs:=rfl;obtain⟨v1,c1,c2,c3⟩:=zvm F n d s j t hd hs (zJ h) key t.segs.els 0 v rfl (by omega);have body:zqP (I6 (d.stops.els.length:Int)) (enV d) (enL 1 enU r.stops) (I6 (n:Int)) (I6 key) (enL 6 enR o.ranks) [I6 (j:Int)] [ocL zX v]=some (.normal,[I6 ((j+1:Nat):Int)],[ocL zX v1]):=by simp only[zqP,zi,zp,zc,zb,x4 h1,zg,if_true,i4,ix,i3,zA];rw[show (I6 0:DV)=I6 ((0:Nat):Int) from rfl,c1];simp only[zt,Yzj,Yza,ea,zb,zp]
  obtain⟨v',g1,g2,g3⟩:=ih (j+1) v1 (zw h) (by omega);refine⟨v',by rw[zx body,g1],by rw[Yzg];omega,fun y=>(g3 y).trans ?_⟩;rw[c3 y]
  constructor
  ·rintro ((h|⟨h,h'⟩)|⟨q,z,hz,h',h''⟩)
   ·exact .inl h
   ·exact .inr ⟨0,t,rfl,h,h'⟩
   ·exact .inr ⟨q+1,z,by simpa using hz,by rw[show j+(q+1)=j+1+q by omega];exact h',h''⟩
  ·rintro (h|⟨q,z,hz,h',h''⟩)
   ·exact .inl (.inl h)
   ·cases q with
    |zero=>simp only[Yzi,Option.some.injEq]at hz;subst hz;exact .inl (.inr ⟨h',h''⟩)
    |succ q=>exact .inr ⟨q,z,by simpa using hz,by rw[show j+1+q=j+(q+1) by omega];exact h',h''⟩
theorem t62(k:Nat)(c:y5)(hc:inR o c=true):∃v:Sl Ze,D (k+1) 62 [SA (enO o),SA (ym r),SA [I6 c.rank,I6 c.num]]=some (S1 (enL 2 zX v))∧v.els.length≤12∧∀y,y∈v.els↔zdJ o r c.rank.toNat c.num y:=by
 obtain⟨n,d,hn,hd,_,_⟩:=xR.1 hc;have hnl:=(Lz0.1 hd).1;have hdm:=Lz3 hd;have hrl:=F.rl;have hsl:=F.sl d hdm;obtain⟨s,hs⟩:∃s,r.stops.els[n]? = some s:=⟨_,Lz5 (by omega)⟩;obtain⟨v,c1,c2,c3⟩:=zst F n d s hd hs c.num d.stops.els 0 none rfl (by simp;omega);have hm:∀y,y∈v.els↔zdJ o r c.rank.toNat c.num y:=fun y=>(c3 y).trans (by
  rw[hn,Yzp];simp only[qb,Yzs,false_or,Yzm]
  constructor
  ·rintro⟨q,t,h1,h2,g,hg,h3,h4⟩
   have:=(F.seg d hdm t (Lz3 h1)).2.2 c.num g hg h3;exact⟨d,s,q,t,hd,hs,h1,h2,by rw[←this];exact h4⟩
  ·rintro⟨d',s',q,t,e1,e2,h1,h2,h4⟩
   rw[hd]at e1;cases e1;rw[hs]at e2;cases e2;refine⟨q,t,h1,h2,uO t c.num,?_,?_,h4⟩
   ·unfold uO at h4 ⊢;cases hf:t.segs.els.find? (xK c.num) with
    |none=>rw[hf]at h4;simp[wM,zcr]at h4
    |some g=>exact List.mem_of_find?_eq_some hf
   ·unfold uO at h4 ⊢;cases hf:t.segs.els.find? (xK c.num) with
    |none=>rw[hf]at h4;simp[wM,zcr]at h4
    |some g=>exact List.find?_some hf)
 obtain⟨w,u,f1,f2,f3,f4⟩:=zb8 v (by simp at c2;omega) fun p hp=>by obtain⟨d',s',j,t,_,_,_,_,h⟩:=(hm p).1 hp;exact F.sml _ _ p h
 have hul:u.els.length≤v.els.length:=j8 f2 fun z hz=>(f3 z).1 hz;refine⟨u,?_,by simp at c2;omega,fun y=>(f3 y).trans (hm y)⟩;have iv:yy 5 (enL 5 enV o.divs) (I6 c.rank)=some (enV d):=by rw[hn,yb,hd];rfl
 have i4:atD (enV d) 4=enL 4 xe d.stops:=rfl;unfold enO ym;rw[D62];unfold P62;simp only[iv,zb,i4,zA];rw[hn,show (I6 0:DV)=I6 ((0:Nat):Int) from rfl,show (none:OC)=ocL zX none from rfl,c1];simp only[zt,Yzj,Yza,zp,f1,zb,xj,zc,zg,Yzn,show zud=jH from rfl];rcases f4 with⟨q1,q2⟩|⟨q1,q2⟩
 ·have:((xt w:Nat):Int)<2:=by omega
  rw[Yze this,q2]
 ·have:¬((xt w:Nat):Int)<2:=by omega
  rw[Yzb this];rcases q2 with q2|q2
  ·rw[q2];simp only[zt,Yzj,Yza,zp,yX]
  ·rw[q2];simp only[uj,zi]
theorem zsu(k:Nat)(S:Sl y5)(hS:∀y∈S.els,inR o y=true)(hl:S.els.length≤27):∀(l:List y5) (i:Nat) (v:Sl Ze),S.els.drop i=l→v.els.length+12*l.length≤1000→
  ∃v',zB (zqY (D (k+1)) (I6 (S.els.length:Int)) (enL 2 zX S) (St o.name) (enL 6 enR o.ranks) (enL 5 enV o.divs) (enL 5 enC o.cpls) (enL 1 enU r.stops) (U64 r.cpls) (U64 r.off)) [I6 (i:Int)] [ocL zX v]=some (.exit 0,[],[ocL zX v'])∧v'.els.length≤v.els.length+12*l.length∧
   ∀y,y∈v'.els↔y∈v.els∨∃c∈l,zdJ o r c.rank.toNat c.num y:=by
 intro l
 induction l with
 |nil=>intro i v h _;refine⟨v,zl ?_,by simp,fun y=>by simp⟩;simp only[zqY,zi,zp,zc,zb,yK (zH h),zg];rfl
 |cons c l ih=>
  intro i v h hv;simp only[Yzg]at hv;have h1:=zZ h;obtain⟨w,c1,c2,c3⟩:=t62 F k c (hS c (Lz3 (zJ h)));unfold enO ym at c1;have ea:zf .add (I6 (i:Int)) (I6 1)=some (I6 ((i+1:Nat):Int)):=yf;obtain⟨v1,b1',b2⟩:=zco (f:=zX) v w.els;have ef:fits 16 (v.els.length+w.els.length)=true:=yM (by decide) (by omega);have ix:yy 2 (enL 2 zX S) (I6 (i:Int))=some [I6 c.rank,I6 c.num]:=zO h .i64;have body:zqY (D (k+1)) (I6 (S.els.length:Int)) (enL 2 zX S) (St o.name) (enL 6 enR o.ranks) (enL 5 enV o.divs) (enL 5 enC o.cpls) (enL 1 enU r.stops) (U64 r.cpls) (U64 r.off) [I6 (i:Int)] [ocL zX v]=some (.normal,[I6 ((i+1:Nat):Int)],[ocL zX v1]):=by simp only[zqY,zi,zp,zc,zb,x4 h1,zg,if_true,ix,yE,xc,c1,zR,vX,zY,Yzq,ef,yF,ea,b1']
  obtain⟨v',q1,q2,q3⟩:=ih (i+1) v1 (zw h) (by rw[b2,Yzk];omega);refine⟨v',by rw[zx body,q1],by rw[b2,Yzk]at q2;simp only[Yzg];omega,fun y=>(q3 y).trans ?_⟩;rw[b2,YzI,c3 y]
  constructor
  ·rintro ((h|h)|⟨z,hz,h⟩)
   ·exact .inl h
   ·exact .inr ⟨c,Yzh ..,h⟩
   ·exact .inr ⟨z,Yzf _ hz,h⟩
  ·rintro (h|⟨z,hz,hdz⟩)
   ·exact .inl (.inl h)
   ·rcases YzA.1 hz with e|hz
    ·rw[e]at hdz;exact .inl (.inr hdz)
    ·exact .inr ⟨z,hz,hdz⟩
theorem t17(k:Nat)(n:Nat)(key:Int)(hc:inR o ⟨(n:Int),key⟩=true):∃v:Sl Ze,D (k+6) 17 [SA (enO o),SA (ym r),SA [I6 (n:Int),I6 key]]=some (S1 (enL 2 zX v))∧wp o r n key v:=by
 have ca:=t39 F (k+3) ⟨(n:Int),key⟩ hc;obtain⟨S,s1,s2,s3,s4⟩:=t61 F (k+1) ⟨(n:Int),key⟩ hc;obtain⟨v,c1,c2,c3⟩:=zsu F (k+3) S s4 s2 S.els 0 none rfl (by simp;omega);have hm:∀y,y∈v.els↔zdY o r ⟨(n:Int),key⟩ y:=fun y=>(c3 y).trans (by
  simp only[qb,Yzs,false_or]
  constructor
  ·rintro⟨c,hc,h⟩;exact⟨c,(s3 c).1 hc,h⟩
  ·rintro⟨c,hc,h⟩;exact⟨c,(s3 c).2 hc,h⟩)
 obtain⟨w,u,f1,f2,f3,f4⟩:=zb8 v (by simp at c2;omega) fun p hp=>by obtain⟨c',_,d',s',j,t,_,_,_,_,h⟩:=(hm p).1 hp;exact F.sml _ _ p h
 have hul:u.els.length≤v.els.length:=j8 f2 fun z hz=>(f3 z).1 hz;refine⟨u,?_,by simp at c2;omega,f2,fun y=>(f3 y).trans (hm y)⟩;unfold enO at ca s1;unfold ym at s1;unfold enO ym;rw[D17];unfold P17;simp only[ca,zR];rw[D38];unfold P38;simp only[s1,zR,zA,zb];rw[show (I6 0:DV)=I6 ((0:Nat):Int) from rfl,show (none:OC)=ocL zX none from rfl,c1];simp only[zt,Yzj,Yza,zp,f1,zb,xj,zc,zg,Yzn,show zue=jH from rfl];rcases f4 with⟨q1,q2⟩|⟨q1,q2⟩
 ·have:((xt w:Nat):Int)<2:=by omega
  rw[Yze this,q2];rfl
 ·have:¬((xt w:Nat):Int)<2:=by omega
  rw[Yzb this];rcases q2 with q2|q2
  ·rw[q2];simp only[zt,Yzj,Yza,zp,yX];rfl
  ·rw[q2];simp only[uj,zi];rfl
end
end Go.Proofs.Tryz.Kn
end
section
namespace Go.Proofs.Tryz.Kn
open Go Go.CE Go.PE
def zxg(n m:Int)(g:Seg):Prop:=g.draws.els.length≤2∧∀x∈g.draws.els,x.rank=n∨x.rank=m
theorem zmi(low high n sh m sh2 a:Int)(kd:Nat):(∃g,yZ low high n sh m sh2 a kd=[g]∧zxg n m g)∨(∃g h,yZ low high n sh m sh2 a kd=[g,h]∧zxg n m g∧zxg n m h∧g.hi<h.lo):=by
 unfold yZ zxg;split
 ·exact .inl ⟨_,rfl,by simp,by simp⟩
 ·split
  ·exact .inr ⟨_,_,rfl,⟨by simp,by simp⟩,⟨by simp,by simp⟩,by show a-1<a;omega⟩
  ·exact .inl ⟨_,rfl,by simp,by simp⟩
 ·split
  ·exact .inr ⟨_,_,rfl,⟨by simp,by simp⟩,⟨by simp,by simp⟩,by show a-1<a;omega⟩
  ·exact .inl ⟨_,rfl,by simp,by simp⟩
 ·exact .inl ⟨_,rfl,by simp,by simp⟩
 ·exact .inl ⟨_,rfl,by simp,by simp⟩
theorem zrR(rs:List Zk)(hl:0<rs.length)(low high:Int)(i:Nat)(x:Pul):(vz rs low high i x).segs.els.length≤2∧(∀g∈(vz rs low high i x).segs.els,g.draws.els.length≤2∧∀y∈g.draws.els,0≤y.rank∧y.rank<(rs.length:Int))∧∀key,∀g∈(vz rs low high i x).segs.els,xK key g=true→g=uO (vz rs low high i x) key:=by
 have hn:=YzO x.rank hl;have hm:=YzO (x.rank % rs.length+1) hl;have hr:∀g,zxg ((x.rank % rs.length:Nat):Int) (((x.rank % rs.length+1) % rs.length:Nat):Int) g→g.draws.els.length≤2∧∀y∈g.draws.els,0≤y.rank∧y.rank<(rs.length:Int):=fun g h=>⟨h.1,fun y hy=>by rcases h.2 y hy with e|e<;>rw[e]<;>omega⟩
 unfold uO;show (yZ _ _ _ _ _ _ _ _).length≤2∧(∀g∈yZ _ _ _ _ _ _ _ _,_)∧∀key,∀g∈yZ _ _ _ _ _ _ _ _,xK key g=true→g=((yZ _ _ _ _ _ _ _ _).find? (xK key)).getD zcr;rcases zmi low high ((x.rank % rs.length:Nat):Int) (shf (fB x.feet) (rkF (zef rs (x.rank % rs.length)))) (((x.rank % rs.length+1) % rs.length:Nat):Int)
  (shf (fB x.feet) (rkF (zef rs ((x.rank % rs.length+1) % rs.length)))) (low+((x.at_:Int).tmod (high-low+1))) (x.kind % 6) with⟨g,e,h⟩|⟨g,h,e,hg,hh,hlt⟩
 ·rw[e];refine⟨by simp,fun z hz=>?_,fun key z hz hc=>?_⟩
  ·rw[YzF]at hz;rw[hz];exact hr g h
  ·rw[YzF]at hz;subst hz;rw[Yyp hc];rfl
 ·rw[e];refine⟨by simp,fun z hz=>?_,fun key z hz hc=>?_⟩
  ·simp only[YzA,Yzs,or_false]at hz;rcases hz with rfl|rfl
   ·exact hr _ hg
   ·exact hr _ hh
  ·simp only[YzA,Yzs,or_false]at hz;rcases hz with rfl|rfl
   ·rw[Yyp hc];rfl
   ·have:xK key g=false:=by
     unfold xK at hc ⊢;simp only[LzC,Yzn]at hc;rw[decide_eq_false (show ¬key≤g.hi by omega),Bool.and_false]
    rw[List.find?_cons_of_neg (by rw[this];simp),Yyp hc];rfl
theorem zyv(p:Pln)(hf:zdh p=true)(b:Nat→Nat):Zt (za7 p) (qc (za7 p) b):=by
 obtain⟨f1,f2,f3,f4,f5,f6⟩:=uW hf;have hdv:(za7 p).divs.els=vA (wz 0 p.ranks.els) 0 p.divs.els:=by unfold za7;simp only[zn]
 have hrk:(za7 p).ranks.els=wz 0 p.ranks.els:=by unfold za7;simp only[zn]
 refine⟨zA7 p hf b,fun d hd=>?_,fun d hd s hs=>?_⟩
 ·rw[hdv]at hd;obtain⟨j,b,_,rfl⟩:=uS hd;have q1:=zc3 b;have q2:=zat b;show ki b≤60;omega
 ·rw[hdv]at hd;obtain⟨j,b,_,rfl⟩:=uS hd;have hs:s∈(grow (wn (wz 0 p.ranks.els) (zdM b) (ki b) 0 b.stops.els)).els:=hs;rw[zn]at hs;obtain⟨i,x,rfl⟩:=qH hs;rw[hrk];exact zrR _ (by rw[uR];omega) _ _ _ _
section
variable {o:Org} {r:Reg} (F:Zt o r) {T:List (List (Sl Ze))} (hT:T.length=o.divs.els.length) (H:Rows o (wp o r) T)
include F H
theorem zEt(k n:Nat)(d:Zj)(row:List (Sl Ze))(hd:o.divs.els[n]? = some d)(hrow:T[n]? = some row):∀(l:List (Sl Ze)) (i:Nat),row.drop i=l→
  zB (zEp (D (k+6)) (I6 (row.length:Int)) [.one (.lst 1 (T.map yl)),.one (I6 0)] [I6 (n:Int)] (enV d) (enO o) (ym r)) [I6 (i:Int)] []=some (.exit 2,[],[]):=by
 obtain⟨g1,g2⟩:=H.row n d row hd hrow;have hr:=F.rng d (Lz3 hd);have ir:=zow hrow;have a2:atD (enV d) 2=I6 d.low:=rfl;intro l
 induction l with
 |nil=>intro i h;refine zl ?_;simp only[zEp,zi,zc,zb,yK (zH h),zg];rfl
 |cons v l ih=>
  intro i h;have h1:=zZ h;have hv:=g2 i v (zJ h);have ea:zf .add (I6 (i:Int)) (I6 1)=some (I6 ((i+1:Nat):Int)):=yf;have el:zf .add (I6 d.low) (I6 (i:Int))=some (I6 (d.low+(i:Int))):=yf;have ia:yy 1 (enL 1 y9 (grow row)) (I6 (i:Int))=some [enL 2 zX v]:=by rw[yb,zn,zJ h];rfl
  obtain⟨u,u1,u2⟩:=t17 F k n (d.low+(i:Int)) (xR.2 ⟨n,d,rfl,hd,by show d.low≤d.low+(i:Int);omega,by show d.low+(i:Int)≤d.high;omega⟩);have he:v.els=u.els:=(zcz hv u2).2 fun z=>Iff.rfl;have cs:D (k+6) 16 [S1 (enL 2 zX v),S1 (enL 2 zX u)]=some (S1 (Bo true)):=by have c:=t37 (k+4) v u hv.1;rw[D16];unfold P16;rw[c,decide_eq_true he];rfl
  have body:zEp (D (k+6)) (I6 (row.length:Int)) [.one (.lst 1 (T.map yl)),.one (I6 0)] [I6 (n:Int)] (enV d) (enO o) (ym r) [I6 (i:Int)] []=some (.normal,[I6 ((i+1:Nat):Int)],[]):=by simp only[zEp,zi,zc,zb,x4 h1,zg,if_true,zeR,zbi,ir,yE,ia,a2,el,zt9,zqy,u1,zR,cs,yI,Yzw,Yzc,if_false,ea]
  rw[zx body,ih (i+1) (zw h)]
include hT in
theorem zEs(k:Nat):∀(l:List Zj) (n:Nat),o.divs.els.drop n=l→
  zB (zEq (D (k+6)) (I6 (o.divs.els.length:Int)) (enO o) [.one (.lst 1 (T.map yl)),.one (I6 0)] (ym r)) [I6 (n:Int)] []=some (.exit 0,[],[]):=by
 have hdl:=F.dl;intro l
 induction l with
 |nil=>intro n h;refine zl ?_;simp only[zEq,zi,zc,zb,yK (zH h),zg];rfl
 |cons d l ih=>
  intro n h;have h1:=zZ h;have hd:=zJ h;have hr:=F.rng d (Lz3 hd);obtain⟨row,hrow⟩:∃row,T[n]? = some row:=⟨_,Lz5 (by omega)⟩;obtain⟨g1,_⟩:=H.row n d row hd hrow;have lt:=zEt F H k n d row hd hrow row 0 rfl;have ir:=zow hrow;have ea:zf .add (I6 (n:Int)) (I6 1)=some (I6 ((n+1:Nat):Int)):=yf;have iv:yy 5 (enL 5 enV o.divs) (I6 (n:Int))=some (enV d):=by rw[yb,hd];rfl
  have ao:atD (enO o) 2=enL 5 enV o.divs:=rfl;have a2:atD (enV d) 2=I6 d.low:=rfl;have a3:atD (enV d) 3=I6 d.high:=rfl;have e1:zf .sub (I6 d.high) (I6 d.low)=some (I6 (d.high-d.low)):=zbW;have e2:zf .add (I6 (d.high-d.low)) (I6 1)=some (I6 (row.length:Int)):=by rw[g1];exact yf
  have body:zEq (D (k+6)) (I6 (o.divs.els.length:Int)) (enO o) [.one (.lst 1 (T.map yl)),.one (I6 0)] (ym r) [I6 (n:Int)] []=some (.normal,[I6 ((n+1:Nat):Int)],[]):=by simp only[zEq,zi,zc,zb,x4 h1,zg,if_true,ao,iv,zeR,zbi,ir,yE,zA,zn,a2,a3,e1,e2,yg,YzD,Yzw,Yzc,if_false];rw[show (I6 0:DV)=I6 ((0:Nat):Int) from rfl]at lt ⊢;rw[lt];simp only[zt,Yzj,Yza,ea,zb]
  rw[zx body,ih (n+1) (zw h)]
end
theorem t4(k:Nat)(p:Pln)(hp:p.ok)(b:Nat→Nat)(hb:∀i,b i<256):D (k+14) 4 [SA (zgf p),SA (enB b)]=some (S1 (Bo true)):=by
 have kn:=D7 (k+13);have cf:=t8 (k+12) p hp;unfold zgf at cf ⊢;unfold enB;rw[D4];unfold P4;simp only[kn,zR,yI,zb,zg,Yzw,Yzc,if_false,cf];cases hf:zdh p with
 |false=>rfl
 |true=>
  have cm:=t9 (k+6) p hp hf;have ho:=zvh p hf;have h0:=zmz p hp hf;obtain⟨s1,s2,s3⟩:=zeu p hf;have F:=zyv p hf b;generalize za7 p=o at cm ho h0 s1 s2 s3 F;have s2':∀d∈o.divs.els,d.stops.els.length≤60:=fun d hd=>by have:=s2 d hd;omega
  unfold zgf at cm;have d1:=t10 (k+12) o b hb (by omega) s2' (by omega);have e1:=zEo h0 b hb s1 s2 s3;unfold enB at d1;generalize qc o b=r at d1 e1 F;obtain⟨T,a1,a2,a3⟩:=t15 ho h0 F.toFit e1 (k+1);have l:=zEs F a2 a3 (k+7) o.divs.els 0 rfl;have ao:atD (enO o) 2=enL 5 enV o.divs:=rfl;have pl:=zxJ T;rw[show (I6 ((0:Nat):Int):DV)=I6 0 from rfl]at l;simp only[Yzw,Yzc,if_false,cm,zww,zt9,d1,zqx,zqy,a1,bT2,zeR,ztX,zbi,yg,YzD,zb,zg,pl];simp only[ao,zA,zb,yg,a2,YzD,Yzw,zg,Yzc,if_false,l,zt,Yzj,Yza]
end Go.Proofs.Tryz.Kn
end
