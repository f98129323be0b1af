/-
  Lemmas. No condition.
-/
import Derived.Test.YtnmjdoahlkcflaaGreatDoorWl
set_option linter.unusedSimpArgs false
set_option linter.unusedVariables false
section
namespace Go.Proofs.Tryz.Kn
open Go Go.CE Go.PE
theorem qk(p:Zh)(l:Sl Zh)(hl:l.els.length≤1000):∀(r:List Zh) (i:Nat),l.els.drop i=r→
  zJ (jd (enL 2 y3 l) (I6 p.rank) (I6 p.num)) [I6 (i:Int)] []=some (if p∈r then(.ret,[Bo true],[]) else(.exit 0,[],[])):=by
 intro r
 induction r with
 |nil=>intro i h;refine zr ?_;simp only[jd,zA,zy,zg,zb,xG (zY h),zh];rfl
 |cons x r ih=>
  intro i h;have hlt:=yw h;have ea:zc .add (I6 (i:Int)) (I6 1)=some (I6 ((i+1:Nat):Int)):=yN;have eq:=zbL x p;have body:jd (enL 2 y3 l) (I6 p.rank) (I6 p.num) [I6 (i:Int)] []=some (if x=p then(.ret,[Bo true],[]) else(.normal,[I6 ((i+1:Nat):Int)],[])):=by simp only[jd,zA,zy,zg,zb,uV hlt,zh,if_true,zR h,y3,yM,y5,eq,ea,Yzs];by_cases hc:x=p<;>simp[hc]
  by_cases hc:x=p
  ·rw[Yzd hc]at body;rw[zx body,Yzd (by rw[hc];exact Yzg ..)]
  ·rw[Yzb hc]at body;rw[zF body,ih (i+1) (zL h)];have:p∈x::r↔p∈r:=by
    rw[Yzu];exact⟨fun h=>h.resolve_left fun e=>hc e.symm,.inr⟩
   simp only[this]
theorem t31(k:Nat)(p:Zh)(l:Sl Zh)(hl:l.els.length≤1000):D (k+1) 31 [S1 (enL 2 y3 l),SA [I6 p.rank,I6 p.num]]=some (S1 (Bo (decide (p∈l.els)))):=by have:=qk p l hl l.els 0 rfl;rw[show (I6 ((0:Nat):Int):DV)=I6 0 from rfl]at this;rw[D31];unfold P31;rw[this];by_cases h:p∈l.els<;>simp[h]
theorem kg(k:Nat)(v w:Sl Zh)(hv:v.els.length≤1000)(hw:w.els.length≤1000):∀(r:List Zh) (i:Nat),w.els.drop i=r→
  zJ (un (D (k+1)) (I6 (w.els.length:Int)) [.one (enL 2 y3 w),.one (I6 0)] [.one (enL 2 y3 v),.one (I6 0)]) [I6 (i:Int)] []=some (if (r.any fun x=>!decide (x∈v.els))=true then(.ret,[Bo true],[]) else(.exit 4,[],[])):=by
 intro r
 induction r with
 |nil=>intro i h;refine zr ?_;simp only[un,zA,zg,zb,xG (zY h),zh];rfl
 |cons x r ih=>
  intro i h;have hlt:=yw h;have ea:zc .add (I6 (i:Int)) (I6 1)=some (I6 ((i+1:Nat):Int)):=yN;have c:=t31 k x v hv;have body:un (D (k+1)) (I6 (w.els.length:Int)) [.one (enL 2 y3 w),.one (I6 0)] [.one (enL 2 y3 v),.one (I6 0)] [I6 (i:Int)] []=some (if x∈v.els then(.normal,[I6 ((i+1:Nat):Int)],[]) else(.ret,[Bo true],[])):=by simp only[un,zA,zg,zb,uV hlt,zh,if_true,qZ,uB,zR h,y3,yM,y5,c,zG,yu,ea];by_cases hc:x∈v.els<;>simp[hc]
  by_cases hc:x∈v.els
  ·rw[Yzd hc]at body;rw[zF body,ih (i+1) (zL h)];simp[hc]
  ·rw[Yzb hc]at body;rw[zx body];simp[hc]
section
variable {o:Org} (ho:o.ok) (h0:x4 o=0) {a b:Reg} (FA:Fit o a) (FB:Fit o b) (ha:xj o a=0) (hb:xj o b=0)
include ho h0 FA FB ha hb
theorem qe(k n:Nat)(d:Zn)(hd:o.divs.els[n]? = some d):∀(m:Nat) (key:Int),key+(m:Int)=d.high+1→d.low≤key→
  zJ (jg (D (k+13)) (enL 5 enV o.divs) [I6 (n:Int)] (St o.name) (enL 6 enR o.ranks) (enL 5 enC o.cpls) (enL 1 enU a.stops) (U64 a.cpls) (U64 a.off) (enL 1 enU b.stops) (U64 b.cpls) (U64 b.off)) [I6 key] []=some (if zjF (zsW o a b) n m key=true then(.ret,[Bo true],[]) else(.exit 2,[],[])):=by
 have rng:=FA.rng d (Lz3 hd);have ix:yT 5 (enL 5 enV o.divs) (I6 (n:Int))=some (enV d):=by rw[y9,hd];rfl
 have d3:atD (enV d) 3=I6 d.high:=rfl;intro m
 induction m with
 |zero=>intro key h _;refine zr ?_;simp only[jg,zA,ix,d3,zao,zb,decide_eq_false (show ¬key≤d.high by omega),zh];rfl
 |succ m ih=>
  intro key h h1;have hin:=zvu hd h1 (by omega);obtain⟨v,cv,tv⟩:=t29 FA k ho h0 ha n key hin;obtain⟨w,cw,tw⟩:=t29 FB k ho h0 hb n key hin;have cf:=kg (k+12) v w tv.1 tw.1 w.els 0 rfl;rw[show (I6 ((0:Nat):Int):DV)=I6 0 from rfl,ze6 tv,ze6 tw]at cf;have ea:zc .add (I6 key) (I6 1)=some (I6 (key+1)):=yN;unfold enO zW at cv cw;have body:jg (D (k+13)) (enL 5 enV o.divs) [I6 (n:Int)] (St o.name) (enL 6 enR o.ranks) (enL 5 enC o.cpls) (enL 1 enU a.stops) (U64 a.cpls) (U64 a.off) (enL 1 enU b.stops) (U64 b.cpls) (U64 b.off) [I6 key] []=some (if zsW o a b n key=true then(.ret,[Bo true],[]) else(.normal,[I6 (key+1)],[])):=by unfold zsW;rw[←ze6 tw]at cf ⊢;simp only[jg,zA,ix,d3,zao,zb,decide_eq_true (show key≤d.high by omega),zh,if_true,cv,cw,zde,qZ,uB,zy,cf,ea];split<;>rfl
  by_cases hc:zsW o a b n key=true
  ·rw[Yzd hc]at body;rw[zx body];simp[zjF,hc]
  ·rw[Yzb hc]at body;rw[zF body,ih (key+1) (by omega) (by omega)];simp[zjF,hc]
theorem qn(k:Nat):∀(r:List Zn) (i:Nat),o.divs.els.drop i=r→
  zJ (jh (D (k+13)) (enL 5 enV o.divs) (St o.name) (enL 6 enR o.ranks) (enL 5 enC o.cpls) (enL 1 enU a.stops) (U64 a.cpls) (U64 a.off) (enL 1 enU b.stops) (U64 b.cpls) (U64 b.off)) [I6 (i:Int)] []=some (if znm (zsW o a b) r i=true then(.ret,[Bo true],[]) else(.exit 0,[],[])):=by
 have hdl:=FA.dl;intro r
 induction r with
 |nil=>intro i h;refine zr ?_;simp only[jh,zA,zy,zg,zb,xG (zY h),zh];rfl
 |cons d r ih=>
  intro i h;have hlt:=yw h;have rng:=FA.rng d (Lz3 (yI h));have ea:zc .add (I6 (i:Int)) (I6 1)=some (I6 ((i+1:Nat):Int)):=yN;have l9:=qe ho h0 FA FB ha hb k i d (yI h) (d.high-d.low+1).toNat d.low (by omega) (by omega);have d2:atD (enV d) 2=I6 d.low:=rfl;have body:jh (D (k+13)) (enL 5 enV o.divs) (St o.name) (enL 6 enR o.ranks) (enL 5 enC o.cpls) (enL 1 enU a.stops) (U64 a.cpls) (U64 a.off) (enL 1 enU b.stops) (U64 b.cpls) (U64 b.off) [I6 (i:Int)] []=some (if zjF (zsW o a b) i (d.high-d.low+1).toNat d.low=true then(.ret,[Bo true],[]) else(.normal,[I6 ((i+1:Nat):Int)],[])):=by
   simp only[jh,zA,zy,zg,zb,uV hlt,zh,if_true,zR h,d2,l9];split
   ·rfl
   ·simp only[z6,Yzl,Yza,ea,zb]
  by_cases hc:zjF (zsW o a b) i (d.high-d.low+1).toNat d.low=true
  ·rw[Yzd hc]at body;rw[zx body];simp[znm,hc]
  ·rw[Yzb hc]at body;rw[zF body,ih (i+1) (zL h)];simp[znm,hc]
theorem t12(k:Nat):D (k+14) 12 [SA (enO o),SA (zW a),SA (zW b)]=some (S1 (Bo (zkn o a b))):=by have l2:=qn ho h0 FA FB ha hb k o.divs.els 0 rfl;rw[show (I6 ((0:Nat):Int):DV)=I6 0 from rfl]at l2;unfold enO zW zkn;rw[D12];unfold P12;rw[l2];cases znm (zsW o a b) o.divs.els 0<;>rfl
end
noncomputable def vg(o:Org)(r:Reg)(p:Zh)(n:Nat)(key:Int):Bool:=decide (p∈zf8 o r n key)
noncomputable def vh(o:Org)(r:Reg)(p:Zh):Bool:=znm (vg o r p) o.divs.els 0
section
variable {o:Org} (ho:o.ok) (h0:x4 o=0) {r:Reg} (F:Fit o r) (hr:xj o r=0) (p:Zh)
include ho h0 F hr
theorem qd(k n:Nat)(d:Zn)(hd:o.divs.els[n]? = some d):∀(m:Nat) (key:Int),key+(m:Int)=d.high+1→d.low≤key→
  zJ (je (D (k+13)) (enL 5 enV o.divs) [I6 (n:Int)] (St o.name) (enL 6 enR o.ranks) (enL 5 enC o.cpls) (enL 1 enU r.stops) (U64 r.cpls) (U64 r.off) (I6 p.rank) (I6 p.num)) [I6 key] []=some (if zjF (vg o r p) n m key=true then(.ret,[Bo true],[]) else(.exit 2,[],[])):=by
 have rng:=F.rng d (Lz3 hd);have ix:yT 5 (enL 5 enV o.divs) (I6 (n:Int))=some (enV d):=by rw[y9,hd];rfl
 have d3:atD (enV d) 3=I6 d.high:=rfl;intro m
 induction m with
 |zero=>intro key h _;refine zr ?_;simp only[je,zA,ix,d3,zao,zb,decide_eq_false (show ¬key≤d.high by omega),zh];rfl
 |succ m ih=>
  intro key h h1;have hin:=zvu hd h1 (by omega);obtain⟨v,cv,tv⟩:=t29 F k ho h0 hr n key hin;have cf:=t31 (k+12) p v tv.1;rw[ze6 tv]at cf;have ea:zc .add (I6 key) (I6 1)=some (I6 (key+1)):=yN;unfold enO zW at cv;have body:je (D (k+13)) (enL 5 enV o.divs) [I6 (n:Int)] (St o.name) (enL 6 enR o.ranks) (enL 5 enC o.cpls) (enL 1 enU r.stops) (U64 r.cpls) (U64 r.off) (I6 p.rank) (I6 p.num) [I6 key] []=some (if vg o r p n key=true then(.ret,[Bo true],[]) else(.normal,[I6 (key+1)],[])):=by unfold vg;simp only[je,zA,ix,d3,zao,zb,decide_eq_true (show key≤d.high by omega),zh,if_true,cv,zde,qZ,uB,cf,zG,ea];split<;>rfl
  by_cases hc:vg o r p n key=true
  ·rw[Yzd hc]at body;rw[zx body];simp[zjF,hc]
  ·rw[Yzb hc]at body;rw[zF body,ih (key+1) (by omega) (by omega)];simp[zjF,hc]
theorem qm(k:Nat):∀(l:List Zn) (i:Nat),o.divs.els.drop i=l→
  zJ (jf (D (k+13)) (enL 5 enV o.divs) (St o.name) (enL 6 enR o.ranks) (enL 5 enC o.cpls) (enL 1 enU r.stops) (U64 r.cpls) (U64 r.off) (I6 p.rank) (I6 p.num)) [I6 (i:Int)] []=some (if znm (vg o r p) l i=true then(.ret,[Bo true],[]) else(.exit 0,[],[])):=by
 have hdl:=F.dl;intro l
 induction l with
 |nil=>intro i h;refine zr ?_;simp only[jf,zA,zy,zg,zb,xG (zY h),zh];rfl
 |cons d l ih=>
  intro i h;have hlt:=yw h;have rng:=F.rng d (Lz3 (yI h));have ea:zc .add (I6 (i:Int)) (I6 1)=some (I6 ((i+1:Nat):Int)):=yN;have l9:=qd ho h0 F hr p k i d (yI h) (d.high-d.low+1).toNat d.low (by omega) (by omega);have d2:atD (enV d) 2=I6 d.low:=rfl;have body:jf (D (k+13)) (enL 5 enV o.divs) (St o.name) (enL 6 enR o.ranks) (enL 5 enC o.cpls) (enL 1 enU r.stops) (U64 r.cpls) (U64 r.off) (I6 p.rank) (I6 p.num) [I6 (i:Int)] []=some (if zjF (vg o r p) i (d.high-d.low+1).toNat d.low=true then(.ret,[Bo true],[]) else(.normal,[I6 ((i+1:Nat):Int)],[])):=by
   simp only[jf,zA,zy,zg,zb,uV hlt,zh,if_true,zR h,d2,l9];split
   ·rfl
   ·simp only[z6,Yzl,Yza,ea,zb]
  by_cases hc:zjF (vg o r p) i (d.high-d.low+1).toNat d.low=true
  ·rw[Yzd hc]at body;rw[zx body];simp[znm,hc]
  ·rw[Yzb hc]at body;rw[zF body,ih (i+1) (zL h)];simp[znm,hc]
theorem t13(k:Nat):D (k+14) 13 [SA (enO o),SA (zW r),SA [I6 p.rank,I6 p.num]]=some (S1 (Bo (vh o r p))):=by have l2:=qm ho h0 F hr p k o.divs.els 0 rfl;rw[show (I6 ((0:Nat):Int):DV)=I6 0 from rfl]at l2;unfold enO zW vh;rw[D13];unfold P13;rw[l2];cases znm (vg o r p) o.divs.els 0<;>rfl
theorem ke(k n:Nat)(d:Zn)(hd:o.divs.els[n]? = some d)(j:Nat)(u1 u2 u3 w1 w2 w3:DV):∀(m:Nat) (key:Int),key+(m:Int)=d.high+1→d.low≤key→
  zJ (zyN (D (k+13)) (enV d) (St o.name) (enL 6 enR o.ranks) (enL 5 enV o.divs) (enL 5 enC o.cpls) (zW r) [I6 (n:Int),w1,w2,w3] (I6 p.rank) (I6 p.num) [I6 (j:Int),u1,u2,u3]) [I6 key,I6 0,Bo false,I6 0] []=some (if zjF (vg o r p) n m key=true then(.ret,[I6 0,I6 (j:Int),Bo true,I6 0],[]) else(.exit 2,[I6 0,Bo false,I6 0],[])):=by
 have rng:=F.rng d (Lz3 hd);have d3:atD (enV d) 3=I6 d.high:=rfl;intro m
 induction m with
 |zero=>intro key h _;refine zr ?_;simp only[zyN,zA,xq,d3,zao,zb,decide_eq_false (show ¬key≤d.high by omega),zh];rfl
 |succ m ih=>
  intro key h h1;have hin:=zvu hd h1 (by omega);obtain⟨v,cv,tv⟩:=t29 F k ho h0 hr n key hin;have cf:=t30 (k+11) p v (by have:=tv.1;omega);rw[ze6 tv]at cf;have ea:zc .add (I6 key) (I6 1)=some (I6 (key+1)):=yN;rw[←kq r]at cv;unfold enO at cv;have body:zyN (D (k+13)) (enV d) (St o.name) (enL 6 enR o.ranks) (enL 5 enV o.divs) (enL 5 enC o.cpls) (zW r) [I6 (n:Int),w1,w2,w3] (I6 p.rank) (I6 p.num) [I6 (j:Int),u1,u2,u3] [I6 key,I6 0,Bo false,I6 0] []=some (if vg o r p n key=true then(.ret,[I6 0,I6 (j:Int),Bo true,I6 0],[]) else(.normal,[I6 (key+1),I6 0,Bo false,I6 0],[])):=by unfold vg;simp only[zyN,zA,xq,d3,zao,zb,decide_eq_true (show key≤d.high by omega),zh,if_true,cv,zde,qZ,uB,cf,zG,ea];split<;>rfl
  by_cases hc:vg o r p n key=true
  ·rw[Yzd hc]at body;rw[zx body];simp[zjF,hc]
  ·rw[Yzb hc]at body;rw[zF body,ih (key+1) (by omega) (by omega)];simp[zjF,hc]
theorem kf(k j:Nat)(u1 u2 u3:DV):∀(l:List Zn) (i:Nat),o.divs.els.drop i=l→
  zJ (zyO (D (k+13)) (I6 (o.divs.els.length:Int)) (enL 5 enV o.divs) (St o.name) (enL 6 enR o.ranks) (enL 5 enC o.cpls) (zW r) (I6 p.rank) (I6 p.num) [I6 (j:Int),u1,u2,u3]) [I6 (i:Int),I6 0,Bo false,I6 0] []=some (if znm (vg o r p) l i=true then(.ret,[I6 0,I6 (j:Int),Bo true,I6 0],[]) else(.exit 0,[I6 0,Bo false,I6 0],[])):=by
 have hdl:=F.dl;intro l
 induction l with
 |nil=>intro i h;refine zr ?_;simp only[zyO,zA,xq,zg,zb,xG (zY h),zh];rfl
 |cons d l ih=>
  intro i h;have hlt:=yw h;have rng:=F.rng d (Lz3 (yI h));have ea:zc .add (I6 (i:Int)) (I6 1)=some (I6 ((i+1:Nat):Int)):=yN;have l9:=ke ho h0 F hr p k i d (yI h) j u1 u2 u3 (I6 0) (Bo false) (I6 0) (d.high-d.low+1).toNat d.low (by omega) (by omega);have d2:atD (enV d) 2=I6 d.low:=rfl;have body:zyO (D (k+13)) (I6 (o.divs.els.length:Int)) (enL 5 enV o.divs) (St o.name) (enL 6 enR o.ranks) (enL 5 enC o.cpls) (zW r) (I6 p.rank) (I6 p.num) [I6 (j:Int),u1,u2,u3] [I6 (i:Int),I6 0,Bo false,I6 0] []=some (if zjF (vg o r p) i (d.high-d.low+1).toNat d.low=true then(.ret,[I6 0,I6 (j:Int),Bo true,I6 0],[]) else(.normal,[I6 ((i+1:Nat):Int),I6 0,Bo false,I6 0],[])):=by
   simp only[zyO,zA,xq,zg,zb,uV hlt,zh,if_true,zR h,d2,l9];split
   ·rfl
   ·simp only[z6,Yzl,Yza,ea,zb,zA,xq]
  by_cases hc:zjF (vg o r p) i (d.high-d.low+1).toNat d.low=true
  ·rw[Yzd hc]at body;rw[zx body];simp[znm,hc]
  ·rw[Yzb hc]at body;rw[zF body,ih (i+1) (zL h)];simp[znm,hc]
end
noncomputable def vu(o:Org)(p:Zh):List Reg→Nat→Option Nat
 | [],_=>none
 |r::l,i=>if vh o r p=true then some i else vu o p l (i+1)
def uz(o:Org)(p:Zh):Bool:=decide (0≤p.rank)&&match o.ranks.els[p.rank.toNat]? with
 |some r=>decide (0≤p.num)&&decide (p.num<(r.wind.els.length:Int))
 |none=>false
section
variable {o:Org} (ho:o.ok) (h0:x4 o=0) (hF:∀r:Reg,xj o r=0→Fit o r)
include ho h0 hF
theorem kj(p:Zh)(k:Nat)(l:Sl Reg)(hl:l.els.length≤100)(hr:∀r∈l.els,xj o r=0):∀(r:List Reg) (i:Nat),l.els.drop i=r→
  zJ (zyP (D (k+13)) (I6 (l.els.length:Int)) (enL 3 zW l) (enL 5 enV o.divs) (St o.name) (enL 6 enR o.ranks) (enL 5 enC o.cpls) (I6 p.rank) (I6 p.num)) [I6 (i:Int),I6 0,Bo false,I6 0] []=some (match vu o p r i with|some j=>(.ret,[I6 (j:Int),Bo true,I6 0],[])|none=>(.exit 0,[I6 0,Bo false,I6 0],[])):=by
 intro r
 induction r with
 |nil=>intro i h;refine zr ?_;simp only[zyP,zA,xq,zg,zb,xG (zY h),zh];rfl
 |cons x r ih=>
  intro i h;have hlt:=yw h;have hx:=hr x (Lz3 (yI h));have ea:zc .add (I6 (i:Int)) (I6 1)=some (I6 ((i+1:Nat):Int)):=yN;have l19:=kf ho h0 (hF x hx) hx p k i (I6 0) (Bo false) (I6 0) o.divs.els 0 rfl;rw[show (I6 ((0:Nat):Int):DV)=I6 0 from rfl]at l19;have body:zyP (D (k+13)) (I6 (l.els.length:Int)) (enL 3 zW l) (enL 5 enV o.divs) (St o.name) (enL 6 enR o.ranks) (enL 5 enC o.cpls) (I6 p.rank) (I6 p.num) [I6 (i:Int),I6 0,Bo false,I6 0] []=some (if vh o x p=true then(.ret,[I6 (i:Int),Bo true,I6 0],[]) else(.normal,[I6 ((i+1:Nat):Int),I6 0,Bo false,I6 0],[])):=by
   unfold vh;simp only[zyP,zA,xq,zg,zb,uV hlt,zh,if_true,zR h,zy,l19];split
   ·rfl
   ·simp only[z6,Yzl,Yza,ea,zb,zA,xq]
  by_cases hc:vh o x p=true
  ·rw[Yzd hc]at body;rw[zx body];simp[vu,hc]
  ·rw[Yzb hc]at body;rw[zF body,ih (i+1) (zL h)];simp[vu,hc]
theorem t10(k:Nat)(p:Zh)(l:Sl Reg)(hl:l.els.length≤100)(hc:jI o l.els=0):D (k+14) 10 [SA (enO o),S1 (enL 3 zW l),SA [I6 p.rank,I6 p.num]]=some (.tup (if uz o p=true then(match vu o p l.els 0 with|some j=>[.one (I6 (j:Int)),.one (Bo true),.one (I6 0)]|none=>[.one (I6 0),.one (Bo false),.one (I6 0)]) else[.one (I6 0),.one (Bo false),.one (I6 10)])):=by
 have hcg:zqh o none l.els=0:=by unfold jI at hc;rw[Yzb (by simp[h0]),Yzb (by omega)]at hc;exact hc
 have hr:=zih o l.els none hcg;have c17:=t17 (k+2) o ho l (by omega) fun r h=>by have:=(hF r (hr r h)).rl;unfold zaB;have:=(hF r (hr r h)).dl;omega
 have l12:=kj ho h0 hF p k l hl hr l.els 0 rfl;rw[show (I6 ((0:Nat):Int):DV)=I6 0 from rfl]at l12;rw[hc]at c17;unfold enO at c17 ⊢;unfold uz;rw[D10];unfold P10;simp only[c17,zG,zM,Yzx,Yzn,zb,zh,Yze,if_false,zg,Yzs,zy,x7];by_cases h1:p.rank<0
 ·rw[Yzd h1];simp[decide_eq_false (show ¬0≤p.rank by omega)]
 obtain⟨n,hn⟩:∃n:Nat,p.rank=(n:Int):=⟨p.rank.toNat,by omega⟩;rw[Yzb h1,hn,Yye];by_cases h2:(o.ranks.els.length:Int)≤(n:Int)
 ·rw[Yzd h2,List.getElem?_eq_none (by omega)];simp
 obtain⟨rk,hrk⟩:∃rk,o.ranks.els[n]? = some rk:=⟨_,Lz5 (by omega)⟩;have ix:yT 6 (enL 6 enR o.ranks) (I6 (n:Int))=some (enR rk):=by rw[y9,hrk];rfl
 rw[Yzb h2,hrk];by_cases h3:p.num<0
 ·rw[Yzd h3];simp[decide_eq_false (show ¬0≤p.num by omega)]
 rw[Yzb h3];have d5:atD (enR rk) 5=enL 1 enW rk.wind:=rfl;simp only[ix,zb,d5,zy,zh,Yzs,x7];by_cases h4:(rk.wind.els.length:Int)≤p.num
 ·rw[Yzd h4];simp[decide_eq_false (show ¬p.num<(rk.wind.els.length:Int) by omega)]
 rw[Yzb h4];rw[hn]at l12;simp only[l12];rw[Yzd (by simp;omega)];cases vu o p l.els 0<;>rfl
end
theorem qg(l:Sl Nat)(hl:l.els.length≤1000):∀(r:List Nat) (i:Nat),l.els.drop i=r→
  zJ (jn (enL 1 enG l) (enL 1 enG l)) [I6 (i:Int)] []=some (.exit 0,[],[]):=by
 intro r
 induction r with
 |nil=>intro i h;refine zr ?_;simp only[jn,zA,zy,zg,zb,xG (zY h),zh];rfl
 |cons x r ih=>intro i h;have hlt:=yw h;have ea:zc .add (I6 (i:Int)) (I6 1)=some (I6 ((i+1:Nat):Int)):=yN;rw[zF (by simp only[jn,zA,zy,zg,zb,uV hlt,zh,if_true,zR h,enG,yM,zM,Yzx,Yzn,Yze,if_false,ea];rfl),ih (i+1) (zL h)]
theorem t14(k:Nat)(l:Sl Nat)(hl:l.els.length≤1000):D (k+1) 14 [S1 (enL 1 enG l),S1 (enL 1 enG l)]=some (S1 (Bo true)):=by have:=qg l hl l.els 0 rfl;rw[show (I6 ((0:Nat):Int):DV)=I6 0 from rfl]at this;rw[D14];unfold P14;simp only[zy,zb,zM,Yzx,Yzn,zh,Yze,if_false,this,z6,Yzl,Yza]
end Go.Proofs.Tryz.Kn
end
section
namespace Go.Proofs.Tryz.Kn
open Go Go.CE Go.PE
def orI(a b:Int):Int:=IntKind.wrap .u64 (BitVec.ofInt IntKind.u64.bits a ||| BitVec.ofInt IntKind.u64.bits b).toNat
theorem uw(a b:Int):zc .or (U64 a) (U64 b)=some (U64 (orI a b)):=by rfl
def sm(x:Int):Prop:=0≤x∧x<8
theorem jw:((List.range 256).all fun x=>[0,1,2,3].all fun n=>decide (0≤zq8 (x:Int) (zuR n))&&decide (zq8 (x:Int) (zuR n)<8))=true:=by kernel_rfl
theorem uv{x n:Nat}(hx:x<256)(hn:n≤3):sm (zq8 (x:Int) (zuR n)):=by
 have h:=YzM.1 (YzM.1 jw x (List.mem_range.2 hx)) n (by grind)
 rw[LzC,Yzs,Yzs]at h;exact h
theorem and_zero:([0,1,2,3].all fun n=>zq8 ((0:Nat):Int) (zuR n)==0)=true:=by kernel_rfl
theorem qo{n:Nat}(hn:n≤3):zq8 ((0:Nat):Int) (zuR n)=0:=by
 have h:=YzM.1 and_zero n (by grind)
 simpa using h
theorem jy:((List.range 8).all fun x=>(List.range 8).all fun y=>decide (0≤orI (x:Int) (y:Int))&&decide (orI (x:Int) (y:Int)<8)&&(w8 (y:Int) (orI (x:Int) (y:Int))==0)&&[0,1,2,3].all fun n=>!(zn5 (x:Int) n==0&&zn5 (y:Int) n==0)||zn5 (orI (x:Int) (y:Int)) n==0)=true:=by kernel_rfl
theorem ux{x y:Int}(hx:sm x)(hy:sm y):sm (orI x y)∧w8 y (orI x y)=0∧∀n,n≤3→zn5 x n=0→zn5 y n=0→zn5 (orI x y) n=0:=by
 obtain⟨a,rfl⟩:∃a:Nat,x=(a:Int):=⟨x.toNat,by have:=hx.1;omega⟩;obtain⟨b,rfl⟩:∃b:Nat,y=(b:Int):=⟨y.toNat,by have:=hy.1;omega⟩;have h:=YzM.1 (YzM.1 jy a (List.mem_range.2 (by have:=hx.2;omega))) b (List.mem_range.2 (by have:=hy.2;omega));rw[LzC,LzC,LzC,Yzs,Yzs,beq_iff_eq]at h;obtain⟨⟨⟨h1,h2⟩,h3⟩,h4⟩:=h;refine⟨⟨h1,h2⟩,h3,fun n hn e1 e2=>?_⟩;have h5:=YzM.1 h4 n (by grind);rw[e1,e2]at h5
 simpa using h5
def orL:List Int→List Int→List Int
 |x::r,y::s=>orI x y::orL r s
 |_,_=>[]
def vn(a r:Reg):Reg:=⟨grow (orL r.stops.els a.stops.els),orI r.cpls a.cpls,orI r.off a.off⟩
theorem uq:∀(r s:List Int),r.length=s.length→(orL r s).length=r.length
 | [],_,_=>rfl
 |_::_,[],h=>by cases h
 |x::r,y::s,h=>by simp only[Yzp,Nat.add_right_cancel_iff]at h;simp only[orL,Yzp,uq r s h]
theorem uy:∀(r s:List Int) (i:Nat) (x y:Int),r[i]? = some x→s[i]? = some y→(orL r s)[i]? = some (orI x y)
 | [],_,_,_,_,h,_=>by cases h
 |_::_,[],_,_,_,_,h=>by cases h
 |a::r,b::s,0,x,y,h,h'=>by cases h;cases h';rfl
 |a::r,b::s,i+1,x,y,h,h'=>uy r s i x y h h'
theorem jo:∀(r s:List Int),(∀x∈r,sm x)→(∀x∈s,sm x)→∀x∈orL r s,sm x
 | [],_,_,_,_,h=>by cases h
 |_::_,[],_,_,_,h=>by cases h
 |a::r,b::s,h1,h2,x,h=>by
  rcases Yzu.1 h with rfl|h
  ·exact(ux (h1 a (Yzg ..)) (h2 b (Yzg ..))).1
  ·exact jo r s (fun x hx=>h1 x (Yzf _ hx)) (fun x hx=>h2 x (Yzf _ hx)) x h
theorem ut:∀(ds:List Zn) (r s:List Int),(∀d∈ds,d.stops.els.length≤3)→(∀x∈r,sm x)→(∀x∈s,sm x)→zcA ds r=false→zcA ds s=false→zcA ds (orL r s)=false
 | [],_,_,_,_,_,_,_=>by simp[zcA]
 |_::_,[],_,_,_,_,_,_=>rfl
 |_::_,_::_,[],_,_,_,_,_=>rfl
 |d::ds,x::r,y::s,hd,h1,h2,e1,e2=>by
  rw[zcA,Bool.or_eq_false_iff]at e1 e2;have a1:zn5 x d.stops.els.length=0:=by have:=e1.1;simpa using this
  have a2:zn5 y d.stops.els.length=0:=by have:=e2.1;simpa using this
  have a3:=(ux (h1 x (Yzg ..)) (h2 y (Yzg ..))).2.2 _ (hd d (Yzg ..)) a1 a2;rw[orL,zcA,a3,ut ds r s (fun x hx=>hd x (Yzf _ hx)) (fun x hx=>h1 x (Yzf _ hx)) (fun x hx=>h2 x (Yzf _ hx)) e1.2 e2.2];rfl
theorem uj(r s:List Int)(hr:∀x∈r,sm x)(hs:∀x∈s,sm x)(hl:r.length=s.length):∀(l:List Int) (i:Nat),s.drop i=l→wN (orL r s) l i=true
 | [],_,_=>rfl
 |y::l,i,h=>by have hi:=yw h;have hy:=yI h;obtain⟨x,hx⟩:∃x,r[i]? = some x:=⟨_,Lz5 (by omega)⟩;have:=(ux (hr x (Lz3 hx)) (hs y (Lz3 hy))).2.1;rw[wN,uj r s hr hs hl l (i+1) (zL h),qX,uy r s i x y hx hy,Yz8,this];rfl
structure Sm (o:Org) (r:Reg):Prop where
 ok:xj o r=0
 len:r.stops.els.length=o.divs.els.length
 st:∀x∈r.stops.els,sm x
 c:sm r.cpls
 f:sm r.off
structure Small (o:Org):Prop where
 h0:x4 o=0
 hd:o.divs.els.length≤3
 hs:∀d∈o.divs.els,d.stops.els.length≤3
 hc:o.cpls.els.length≤3
section
variable {o:Org} (H:Small o)
include H
theorem Sm.or{a r:Reg}(A:Sm o a)(R:Sm o r):Sm o (vn a r)∧vP a (vn a r)=true:=by
 have he:=R.len.trans A.len.symm;have hl:=uq _ _ he;have cc:=ux R.c A.c;have cf:=ux R.f A.f;have ea:=A.ok;have er:=R.ok;unfold xj at ea er;rw[Yzb (by simp[H.h0]),Yzb (by simp[A.len])]at ea;rw[Yzb (by simp[H.h0]),Yzb (by simp[R.len])]at er;have n3:(3:Int)≠0:=by decide
 have a1:zcA o.divs.els a.stops.els=false:=by
  cases h:zcA o.divs.els a.stops.els with
  |false=>rfl
  |true=>rw[Yzd h]at ea;exact absurd ea n3
 have r1:zcA o.divs.els r.stops.els=false:=by
  cases h:zcA o.divs.els r.stops.els with
  |false=>rfl
  |true=>rw[Yzd h]at er;exact absurd er n3
 rw[Yzb (by simp[a1])]at ea;rw[Yzb (by simp[r1])]at er;have a2:zn5 a.cpls o.cpls.els.length=0:=Classical.not_not.1 fun h=>by rw[Yzd h]at ea;exact n3 ea
 have r2:zn5 r.cpls o.cpls.els.length=0:=Classical.not_not.1 fun h=>by rw[Yzd h]at er;exact n3 er
 rw[Yzb (by simp[a2])]at ea;rw[Yzb (by simp[r2])]at er;have a3:zn5 a.off o.divs.els.length=0:=Classical.not_not.1 fun h=>by rw[Yzd h]at ea;exact n3 ea
 have r3:zn5 r.off o.divs.els.length=0:=Classical.not_not.1 fun h=>by rw[Yzd h]at er;exact n3 er
 have els:(vn a r).stops.els=orL r.stops.els a.stops.els:=yk _;refine⟨⟨?_,by rw[els,hl,R.len],by rw[els];exact jo _ _ R.st A.st,cc.1,cf.1⟩,?_⟩
 ·unfold xj;rw[Yzb (by simp[H.h0]),els,Yzb (by simp[hl,R.len]),ut _ _ _ H.hs R.st A.st r1 a1];rw[Yzb (by simp),Yzb (by simp[vn,cc.2.2 _ H.hc r2 a2]),Yzb (by simp[vn,cf.2.2 _ H.hd r3 a3])]
 ·unfold vP;rw[els,uj _ _ R.st A.st he a.stops.els 0 rfl];simp[vn,cc.2.1,cf.2.1]
theorem Sm.drawn(b:Nat→Nat)(hb:∀i,b i<256):Sm o (zlM o b):=by
 have go:∀(l:List Zn) (i:Nat),(∀d∈l,d.stops.els.length≤3)→∀x∈zgV b i l,sm x:=by
  intro l
  induction l with
  |nil=>intro i _ x hx;cases hx
  |cons d l ih=>
   intro i h x hx;rcases Yzu.1 hx with rfl|hx
   ·exact uv (hb _) (h d (Yzg ..))
   ·exact ih (i+1) (fun y hy=>h y (Yzf _ hy)) x hx
 refine⟨um H.h0 b hb H.hd H.hs H.hc,?_,?_,uv (hb 3) H.hc,uv (hb 4) H.hd⟩
 ·unfold zlM;rw[yk,zeg]
 ·unfold zlM;rw[yk];exact go _ 0 H.hs
end
def vq(o:Org):Reg→List (Nat→Nat)→List Reg
 |_,[]=>[]
 |a,b::l=>vn a (zlM o b)::vq o (vn a (zlM o b)) l
theorem ue(o:Org):∀(l:List (Nat→Nat)) (a:Reg),(vq o a l).length=l.length
 | [],_=>rfl
 |b::l,a=>by simp[vq,ue o l]
theorem uk{o:Org}(H:Small o):∀(l:List (Nat→Nat)),(∀b∈l,∀i,b i<256)→∀(a:Reg) (p:Option Reg),Sm o a→(∀q,p=some q→q=a)→zqh o p (vq o a l)=0
 | [],_,_,_,_,_=>rfl
 |b::l,hb,a,p,A,hp=>by
  obtain⟨h1,h2⟩:=Sm.or H A (Sm.drawn H b (hb b (Yzg ..)));have h3:(p.any fun q=>!vP q (vn a (zlM o b)))=false:=by
   cases p with
   |none=>rfl
   |some q=>rw[hp q rfl];simp[h2]
  rw[vq,zqh,Yzb (by simp[h1.ok]),Yzb (by simp[h3])];exact uk H l (fun x hx=>hb x (Yzf _ hx)) _ _ h1 fun q hq=>(Option.some.inj hq).symm
def ve:Nat→Nat:=fun _=>0
theorem uc:∀i,ve i<256:=fun _=>Nat.lt_of_sub_pos (by show 0<256-0;decide)
theorem uu{o:Org}(H:Small o):zlM o ve=wo o.divs.els.length:=by
 have go:∀(l:List Zn) (i:Nat),(∀d∈l,d.stops.els.length≤3)→zgV ve i l=List.replicate l.length 0:=by
  intro l
  induction l with
  |nil=>intro i _;rfl
  |cons d l ih=>intro i h;rw[zgV,ih (i+1) fun x hx=>h x (Yzf _ hx),show zz3 d=zuR d.stops.els.length from rfl,show ((ve (i % 3):Nat):Int)=((0:Nat):Int) from rfl,qo (h d (Yzg ..))];rfl
 have h1:=(zjn H.h0).2;unfold zlM wo;rw[go _ 0 H.hs,show ((ve 3:Nat):Int)=((0:Nat):Int) from rfl,show ((ve 4:Nat):Int)=((0:Nat):Int) from rfl,qo H.hc,qo H.hd,zpU (by rw[Yz9];exact h1)]
theorem qf(a:Reg)(n:DV)(ha:a.stops.els.length≤1000):∀(r s acc:List Int),a.stops.els.drop acc.length=s→r.length=s.length→
  zJ (ja [n,enL 1 enU a.stops,U64 a.cpls,U64 a.off]) [I6 (acc.length:Int)] [some ((acc++r).map enU)]=some (.exit 2,[],[some ((acc++orL r s).map enU)]):=by
 intro r
 induction r with
 |nil=>
  intro s acc h hs;refine zr ?_;have e:wD (some ((acc++([]:List Int)).map enU))=acc.length:=by simp[wD]
  simp only[ja,zA,yA,e,wV,zg,zb,xG (LzB acc.length),zh,orL];rfl
 |cons x r ih=>
  intro s acc h hs;cases s with
  |nil=>cases hs
  |cons y s=>
   simp only[Yzp,Nat.add_right_cancel_iff]at hs;have hlt:=yw h;have ea:zc .add (I6 (acc.length:Int)) (I6 1)=some (I6 ((acc.length+1:Nat):Int)):=yN;have e:wD (some ((acc++x::r).map enU))=acc.length+(r.length+1):=by simp[wD]
   have hx:(acc++x::r)[acc.length]? = some x:=by simp
   have e1:wC (some ((acc++x::r).map enU)) (I6 (acc.length:Int))=some acc.length:=zc1 (by grind);have e2:zbW (some ((acc++x::r).map enU)) acc.length=some [U64 x]:=by show (((acc++x::r).map enU)[acc.length]?)=_;rw[Lz6,hx];rfl
   have e4:zwe 1 (some ((acc++x::r).map enU)) acc.length 0 [U64 (orI x y)]=some (some (((acc++x::r).set acc.length (orI x y)).map enU)):=qv hx (Lz4 rfl) rfl;have e5:(acc++x::r).set acc.length (orI x y)=(acc++[orI x y])++r:=by simp
   have hlt2:decide ((acc.length:Int)<((acc.length+(r.length+1):Nat):Int))=true:=decide_eq_true (by omega);have body:ja [n,enL 1 enU a.stops,U64 a.cpls,U64 a.off] [I6 (acc.length:Int)] [some ((acc++x::r).map enU)]=some (.normal,[I6 ((acc.length+1:Nat):Int)],[some (((acc++[orI x y])++r).map enU)]):=by simp only[ja,zA,xq,yA,e,wV,zg,zb,hlt2,zh,if_true,e1,e2,zR h,enU,yM,uw,e4,e5,ea]
   rw[zF body];have hl:(acc++[orI x y]).length=acc.length+1:=by simp
   have:=ih s (acc++[orI x y]) (by rw[hl];exact zL h) hs;rw[hl]at this;rw[this,orL];simp
section
variable {o:Org} (H:Small o)
include H
theorem qj(bs:Sl (Nat→Nat))(hl:bs.els.length≤5)(hb:∀b∈bs.els,∀i,b i<256):∀(r:List (Nat→Nat)) (i:Nat) (a:Reg) (acc:List Reg),bs.els.drop i=r→acc.length=i→Sm o a→
  ∃z:Reg,zJ (jb (enL 5 enB bs) (enL 5 enC o.cpls) (enL 5 enV o.divs)) [I6 (i:Int),enL 1 enU a.stops,U64 a.cpls,U64 a.off] [ocL zW (grow acc)]=some (.exit 0,[enL 1 enU z.stops,U64 z.cpls,U64 z.off],[ocL zW (grow (acc++vq o a r))]):=by
 have hd:=H.hd;have hc:=H.hc
 intro r
 induction r with
 |nil=>intro i a acc h _ _;refine⟨a,zr ?_⟩;simp only[jb,zA,xq,yA,zy,zg,zb,xG (zY h),zh,vq,List.append_nil];rfl
 |cons b r ih=>
  intro i a acc h hacc A;have hlt:=yw h;have hbb:=hb b (Lz3 (yI h));have R:=Sm.drawn H b hbb;have ea:zc .add (I6 (i:Int)) (I6 1)=some (I6 ((i+1:Nat):Int)):=yN;have h3:=hbb 3;have h4:=hbb 4
  have e3:xn .u64 (U8 (b 3:Int))=some (U64 (b 3:Int)):=zye (by omega);have e4:xn .u64 (U8 (b 4:Int))=some (U64 (b 4:Int)):=zye (by omega);have f3:xn .u64 (I6 (o.cpls.els.length:Int))=some (U64 (o.cpls.els.length:Int)):=zye (by omega);have f4:xn .u64 (I6 (o.divs.els.length:Int))=some (U64 (o.divs.els.length:Int)):=zye (by omega);have s3:kI true (U64 1) (U64 (o.cpls.els.length:Int))=some (U64 ((2^o.cpls.els.length:Nat):Int)):=uo (by omega);have s4:kI true (U64 1) (U64 (o.divs.els.length:Int))=some (U64 ((2^o.divs.els.length:Nat):Int)):=uo (by omega);have g3:zc .sub (U64 ((2^o.cpls.els.length:Nat):Int)) (U64 1)=some (U64 (zuR o.cpls.els.length)):=jq (by omega);have g4:zc .sub (U64 ((2^o.divs.els.length:Nat):Int)) (U64 1)=some (U64 (zuR o.divs.els.length)):=jq (by omega);have l:=l11 b hbb o.divs (by omega) (fun d hd=>by have:=H.hs d hd;omega) (U64 (zq8 (b 3:Int) (zuR o.cpls.els.length))) (U64 (zq8 (b 4:Int) (zuR o.divs.els.length))) o.divs.els 0 [] rfl rfl;have hne:0<(zgV b 0 o.divs.els).length:=by rw[zeg];exact(zjn H.h0).2
  rw[show ocL enU (grow ([]:List Int))=none from rfl,Yyh,zpU hne,show (I6 ((0:Nat):Int):DV)=I6 0 from rfl]at l;have lF:qa (enL 5 enV o.divs) (enB b)=ug (enL 5 enV o.divs) (U8 (b 0:Int)) (U8 (b 1:Int)) (U8 (b 2:Int)) (U8 (b 3:Int)) (U8 (b 4:Int)):=rfl;rw[←lF]at l;have hle:(zlM o b).stops.els=zgV b 0 o.divs.els:=yk _;have m:=qf a (I6 (i:Int)) (by rw[A.len];omega) (zgV b 0 o.divs.els) a.stops.els [] rfl (by rw[←hle,R.len,A.len]);rw[show (I6 ((([]:List Int).length:Nat):Int):DV)=I6 0 from rfl,Yyh,Yyh]at m;have ho:0<(orL (zgV b 0 o.divs.els) a.stops.els).length:=by rw[uq _ _ (by rw[←hle,R.len,A.len])];exact hne
  have en:∀l:List Int,(some (l.map enU):OC)=ocL enU (some l):=fun _=>rfl;have hr5:decide ((i:Int)<5)=true:=decide_eq_true (by omega);have ef:fits 40 ((grow acc).els.length+1)=true:=wx (by decide) (by rw[yk];omega);have hp:(some ((grow acc).els.map zW++[zW (vn a (zlM o b))]):OC)=ocL zW (grow (acc++[vn a (zlM o b)])):=by rw[wv,←vI]
  have at3:atD (enB b) 3=U8 (b 3:Int):=rfl;have at4:atD (enB b) 4=U8 (b 4:Int):=rfl;have er:[enL 1 enU (some (orL (zgV b 0 o.divs.els) a.stops.els)),U64 (orI (zq8 (b 3:Int) (zuR o.cpls.els.length)) a.cpls),U64 (orI (zq8 (b 4:Int) (zuR o.divs.els.length)) a.off)]=zW (vn a (zlM o b)):=by unfold vn;rw[hle,zpU ho];rfl
  have body:jb (enL 5 enB bs) (enL 5 enC o.cpls) (enL 5 enV o.divs) [I6 (i:Int),enL 1 enU a.stops,U64 a.cpls,U64 a.off] [ocL zW (grow acc)]=some (.normal,I6 ((i+1:Nat):Int)::zW (vn a (zlM o b)),[ocL zW (grow (acc++[vn a (zlM o b)]))]):=by simp only[jb,zA,xq,yA,zy,zg,zb,uV hlt,hr5,zh,if_true,zR h,yM,y5,at3,at4,e3,e4,f3,f4,s3,s4,g3,g4,zbp,l,z6,Yzl,Yza,zrW,m];simp only[uw,zb,xU,ef,wY,ea,xg,en,zb7,er,hp]
  obtain⟨z,hz⟩:=ih (i+1) (vn a (zlM o b)) (acc++[vn a (zlM o b)]) (zL h) (by simp[hacc]) (Sm.or H A R).1;refine⟨z,?_⟩;rw[zF body,show (I6 ((i+1:Nat):Int)::zW (vn a (zlM o b)))=[I6 ((i+1:Nat):Int),enL 1 enU (vn a (zlM o b)).stops,U64 (vn a (zlM o b)).cpls,U64 (vn a (zlM o b)).off] from rfl,hz,vq];simp
theorem t8(k:Nat)(bs:Sl (Nat→Nat))(hl:bs.els.length≤5)(hb:∀b∈bs.els,∀i,b i<256):D (k+1) 8 [SA (enO o),S1 (enL 5 enB bs)]=some (S1 (enL 3 zW (grow (vq o (zlM o ve) bs.els)))):=by
 have hd:=H.hd;have hc:=H.hc
 have e3:xn .u64 (U8 0)=some (U64 0):=rfl;have f3:xn .u64 (I6 (o.cpls.els.length:Int))=some (U64 (o.cpls.els.length:Int)):=zye (by omega);have f4:xn .u64 (I6 (o.divs.els.length:Int))=some (U64 (o.divs.els.length:Int)):=zye (by omega);have s3:kI true (U64 1) (U64 (o.cpls.els.length:Int))=some (U64 ((2^o.cpls.els.length:Nat):Int)):=uo (by omega);have s4:kI true (U64 1) (U64 (o.divs.els.length:Int))=some (U64 ((2^o.divs.els.length:Nat):Int)):=uo (by omega);have g3:zc .sub (U64 ((2^o.cpls.els.length:Nat):Int)) (U64 1)=some (U64 (zuR o.cpls.els.length)):=jq (by omega);have g4:zc .sub (U64 ((2^o.divs.els.length:Nat):Int)) (U64 1)=some (U64 (zuR o.divs.els.length)):=jq (by omega);have l:=l11 ve uc o.divs (by omega) (fun d hd=>by have:=H.hs d hd;omega) (U64 (zq8 0 (zuR o.cpls.els.length))) (U64 (zq8 0 (zuR o.divs.els.length))) o.divs.els 0 [] rfl rfl;rw[show ocL enU (grow ([]:List Int))=none from rfl,Yyh,show (I6 ((0:Nat):Int):DV)=I6 0 from rfl]at l;have lF:qb (enL 5 enV o.divs)=ug (enL 5 enV o.divs) (U8 (ve 0:Int)) (U8 (ve 1:Int)) (U8 (ve 2:Int)) (U8 (ve 3:Int)) (U8 (ve 4:Int)):=rfl;rw[←lF]at l;obtain⟨z,m⟩:=qj H bs hl hb bs.els 0 (zlM o ve) [] rfl rfl (Sm.drawn H ve uc);rw[show (I6 ((0:Nat):Int):DV)=I6 0 from rfl,Yyh,show ocL zW (grow ([]:List Reg))=none from rfl]at m;have e1:(zlM o ve).cpls=zq8 0 (zuR o.cpls.els.length):=rfl;have e2:(zlM o ve).off=zq8 0 (zuR o.divs.els.length):=rfl;have e4:(zlM o ve).stops=grow (zgV ve 0 o.divs.els):=rfl;rw[e1,e2,e4]at m;unfold enO;rw[D8];unfold P8;simp only[zb,yM,y5,e3,zy,f3,f4,s3,s4,g3,g4,zbp,l,z6,Yzl,Yza,yA,zA,xq,zb7,m]
end
noncomputable def uf(o:Org)(p:Zh)(f:Int)(r:List Reg)(i:Nat):Int:=if f<0 then(match vu o p r i with|some j=>(j:Int)|none=>f) else f
section
variable {o:Org} (ho:o.ok) (h0:x4 o=0) (hF:∀r:Reg,xj o r=0→Fit o r)
include ho h0 hF
theorem qh(p:Zh)(k:Nat)(l:Sl Reg)(hl:l.els.length≤100)(hr:∀r∈l.els,xj o r=0):∀(r:List Reg) (i:Nat) (a:Reg) (f:Int) (acc:List Nat),l.els.drop i=r→acc.length≤i→xj o a=0→
  ∃z:Reg,zJ (jc (D (k+14)) (enL 3 zW l) (enO o) (I6 p.rank) (I6 p.num)) [I6 (i:Int),I6 f,enL 1 enU a.stops,U64 a.cpls,U64 a.off] [ocL enG (grow acc)]=some (.exit 0,[I6 (uf o p f r i),enL 1 enU z.stops,U64 z.cpls,U64 z.off],[ocL enG (grow (acc++kQ o a r i))]):=by
 intro r
 induction r with
 |nil=>
  intro i a f acc h _ _;refine⟨a,zr ?_⟩;have:uf o p f [] i=f:=by unfold uf vu;split<;>rfl
  simp only[jc,zA,xq,yA,zy,zg,zb,xG (zY h),zh,kQ,List.append_nil,this];rfl
 |cons b r ih=>
  intro i a f acc h hacc ha;have hlt:=yw h;have hb:=hr b (Lz3 (yI h));have ca:D (k+14) 12 [SA (enO o),SA [enL 1 enU a.stops,U64 a.cpls,U64 a.off],SA (zW b)]=some (S1 (Bo (zkn o a b))):=t12 ho h0 (hF a ha) (hF b hb) ha hb k;have cs:=t13 ho h0 (hF b hb) hb p k;have ea:zc .add (I6 (i:Int)) (I6 1)=some (I6 ((i+1:Nat):Int)):=yN;have ef:fits 8 ((grow acc).els.length+1)=true:=wx (by decide) (by rw[yk];omega);have hp:(some ((grow acc).els.map enG++[[I6 (i:Int)]]):OC)=ocL enG (grow (acc++[i])):=by rw[wv,←vI];rfl
  have b0:atD (zW b) 0=enL 1 enU b.stops:=rfl;have b1':atD (zW b) 1=U64 b.cpls:=rfl;have b2:atD (zW b) 2=U64 b.off:=rfl;have eb:[enL 1 enU b.stops,U64 b.cpls,U64 b.off]=zW b:=rfl;rw[←eb]at ca cs
  let f':Int:=if f<0∧vh o b p=true then(i:Int) else f
  have body:jc (D (k+14)) (enL 3 zW l) (enO o) (I6 p.rank) (I6 p.num) [I6 (i:Int),I6 f,enL 1 enU a.stops,U64 a.cpls,U64 a.off] [ocL enG (grow acc)]=some (.normal,[I6 ((i+1:Nat):Int),I6 f',enL 1 enU b.stops,U64 b.cpls,U64 b.off],[ocL enG (grow (if zkn o a b=true then acc else acc++[i]))]):=by
   simp only[jc,zA,xq,yA,zy,zg,zb,uV hlt,zh,if_true,zR h,ky,ca,zG,yu,xU,ef,wY,ea,xg,hp,cs,b0,b1',b2];by_cases h1:zkn o a b=true
   ·by_cases h2:f<0
    ·by_cases h3:vh o b p=true
     ·simp[h1,h2,h3,f']
     ·simp[h1,h2,h3,f']
    ·simp[h1,h2,f']
   ·by_cases h2:f<0
    ·by_cases h3:vh o b p=true
     ·simp[h1,h2,h3,f']
     ·simp[h1,h2,h3,f']
    ·simp[h1,h2,f']
  obtain⟨z,hz⟩:=ih (i+1) b f' (if zkn o a b=true then acc else acc++[i]) (zL h) (by split;omega;simp only[YzJ,Yzp,Yyc];omega) hb;refine⟨z,?_⟩;have hff:uf o p f' r (i+1)=uf o p f (b::r) i:=by
   have hc:vu o p (b::r) i=if vh o b p=true then some i else vu o p r (i+1):=rfl
   unfold uf;rw[hc];by_cases h2:f<0
   ·by_cases h3:vh o b p=true
    ·have:f'=(i:Int):=Yzd ⟨h2,h3⟩;rw[this,Yzb (by omega),Yzd h2,Yzd h3]
    ·have:f'=f:=Yzb fun h=>h3 h.2;rw[this,Yzd h2,Yzd h2,Yzb h3]
   ·have:f'=f:=Yzb fun h=>h2 h.1;rw[this,Yzb h2,Yzb h2]
  rw[zF body,hz,hff];by_cases hq:zkn o a b=true
  ·simp[kQ,hq]
  ·simp[kQ,hq]
end
theorem ud(o:Org):∀(l:List Reg) (a:Reg) (i:Nat),(kQ o a l i).length≤l.length
 | [],_,_=>LzB _
 |b::l,a,i=>by have:=ud o l b (i+1);unfold kQ;split<;>simp only[Yzp]<;>omega
theorem t3(k:Nat)(p:Pln)(hp:p.ok)(bs:Sl (Nat→Nat))(hb:∀b∈bs.els,∀i,b i<256)(q:Zh):D (k+16) 3 [SA (zgT p),S1 (enL 5 enB bs),SA [I6 q.rank,I6 q.num]]=some (S1 (Bo true)):=by
 have kn:=D5 (k+15);have cf:=t6 (k+14) p hp;unfold zgT at cf ⊢;rw[D3];unfold P3;rw[kn,zG,yu,zb,zh,Yzb (by simp),cf,zG,yu,zb,zh];cases hf:zea p with
 |false=>rfl
 |true=>
  rw[Yzb (by simp),zy,zb,ye,zb,zh];by_cases hl:(5:Int)<(bs.els.length:Int)
  ·rw[Yzd (by simpa using hl)];rfl
  rw[Yzb (by simpa using hl)];have hl:bs.els.length≤5:=by omega
  have cm:=t7 (k+8) p hp hf;have ho:=zuO p hf;have h0:=zmZ p hp hf;have hFit:∀r:Reg,xj (zeE p) r=0→Fit (zeE p) r:=fun r hr=>zvH p hf r (zmD h0 hr);obtain⟨s1,s2,s3⟩:=zfg p hf;have H:Small (zeE p):=⟨h0,s1,s2,s3⟩;generalize zeE p=o at cm ho h0 hFit s1 s2 s3 H;unfold zgT at cm;have c8:=t8 H (k+14) bs hl hb;have hz:=uu H;have hzr:xj o (wo o.divs.els.length)=0:=zjf h0;rw[hz]at c8;have Z:Sm o (wo o.divs.els.length):=by rw[←hz];exact Sm.drawn H ve uc
  have hg:=uk H bs.els hb (wo o.divs.els.length) none Z fun q hq=>by cases hq
  have hgl:=ue o bs.els (wo o.divs.els.length);generalize hls:vq o (wo o.divs.els.length) bs.els=ls at c8 hg hgl;have hle:(grow ls).els=ls:=yk ls;have hcr:jI o (grow ls).els=0:=by unfold jI;rw[Yzb (by simp[h0]),hle,Yzb (by omega)];exact hg
  have hreg:=zih o ls none hg;have c9:=t9 ho h0 hFit k s1 (grow ls) (by rw[hle];omega) hzr hcr;have c10:=t10 ho h0 hFit (k+1) q (grow ls) (by rw[hle];omega) hcr;rw[hle]at c9 c10;obtain⟨z,l44⟩:=qh ho h0 hFit q (k+1) (grow ls) (by rw[hle];omega) (by rw[hle];exact hreg) ls 0 (zlM o ve) (-1) [] (by rw[hle];rfl) (LzB _) (by rw[hz];exact hzr);have c14:=t14 (k+14) (grow (kQ o (wo o.divs.els.length) ls 0)) (by rw[yk];have:=ud o ls (wo o.divs.els.length) 0;omega);rw[show (I6 ((0:Nat):Int):DV)=I6 0 from rfl,show ocL enG (grow ([]:List Nat))=none from rfl,Yyh,show kQ o (zlM o ve) ls 0=kQ o (wo o.divs.els.length) ls 0 by rw[hz]]at l44;have e3:xn .u64 (U8 0)=some (U64 0):=rfl;have f3:xn .u64 (I6 (o.cpls.els.length:Int))=some (U64 (o.cpls.els.length:Int)):=zye (by omega);have f4:xn .u64 (I6 (o.divs.els.length:Int))=some (U64 (o.divs.els.length:Int)):=zye (by omega);have t3:kI true (U64 1) (U64 (o.cpls.els.length:Int))=some (U64 ((2^o.cpls.els.length:Nat):Int)):=uo (by omega);have t4:kI true (U64 1) (U64 (o.divs.els.length:Int))=some (U64 ((2^o.divs.els.length:Nat):Int)):=uo (by omega);have g3:zc .sub (U64 ((2^o.cpls.els.length:Nat):Int)) (U64 1)=some (U64 (zuR o.cpls.els.length)):=jq (by omega);have g4:zc .sub (U64 ((2^o.divs.els.length:Nat):Int)) (U64 1)=some (U64 (zuR o.divs.els.length)):=jq (by omega);have l27:=l11 ve uc o.divs (by omega) (fun d hd=>by have:=s2 d hd;omega) (U64 (zq8 0 (zuR o.cpls.els.length))) (U64 (zq8 0 (zuR o.divs.els.length))) o.divs.els 0 [] rfl rfl;rw[show ocL enU (grow ([]:List Int))=none from rfl,Yyh,show (I6 ((0:Nat):Int):DV)=I6 0 from rfl]at l27;have lF:qc (enO o)=ug (enL 5 enV o.divs) (U8 (ve 0:Int)) (U8 (ve 1:Int)) (U8 (ve 2:Int)) (U8 (ve 3:Int)) (U8 (ve 4:Int)):=rfl;rw[←lF]at l27;have z1:(zlM o ve).cpls=zq8 0 (zuR o.cpls.els.length):=rfl;have z2:(zlM o ve).off=zq8 0 (zuR o.divs.els.length):=rfl;have z4:(zlM o ve).stops=grow (zgV ve 0 o.divs.els):=rfl;rw[z1,z2,z4]at l44;have o0:atD (enO o) 0=St o.name:=rfl;have o1:atD (enO o) 1=enL 6 enR o.ranks:=rfl;have o2:atD (enO o) 2=enL 5 enV o.divs:=rfl;have o3:atD (enO o) 3=enL 5 enC o.cpls:=rfl;have m1:(DV.int .i64 (.negSucc 0))=I6 (-1):=rfl;have b3:∀{β:Type} (a b c:DV) (K:List DS→Option β),bT [none,none,none] (some (.tup [.one a,.one b,.one c])) K=K [.one a,.one b,.one c]:=fun _ _ _ _=>rfl;have eo:enO o=[St o.name,enL 6 enR o.ranks,enL 5 enV o.divs,enL 5 enC o.cpls]:=rfl;rw[eo]at c8 c9 c10;rw[cm,zv0];simp only[o0,c8,zG,c9,zde,zb,yM,y5,e3,o1,o2,o3,zy,f3,f4,t3,t4,g3,g4,zbp];rw[c10];unfold uf at l44;rw[Yzd (by decide)]at l44;unfold uz;by_cases h1:q.rank<0
  ·rw[decide_eq_false (show ¬0≤q.rank by omega),Bool.false_and,Yzb (by simp),b3];simp only[l27,z6,Yzl,Yza,yA,zA,xq,zb7,l44,qZ,zef,uB,zM,Yzx,Yzn,zb,zh,Yze,if_false,c14,zyo,yu,zg,decide_eq_true h1,if_true,xa,Bool.not_false]
  obtain⟨n,hn⟩:∃n:Nat,q.rank=(n:Int):=⟨q.rank.toNat,by omega⟩;have d1:decide (q.rank<0)=false:=decide_eq_false h1;rw[decide_eq_true (show 0≤q.rank by omega),YzF];by_cases h2:(o.ranks.els.length:Int)≤q.rank
  ·rw[List.getElem?_eq_none (by omega),Yzb (by simp),b3];simp only[l27,z6,Yzl,Yza,yA,zA,xq,zb7,l44,qZ,zef,uB,zM,Yzx,Yzn,zb,zh,Yze,if_false,c14,zyo,yu,zg,d1,x7,decide_eq_true h2,if_true,xa,Bool.not_false]
  obtain⟨rk,hrk⟩:∃rk,o.ranks.els[n]? = some rk:=⟨_,Lz5 (by omega)⟩;have ix:yT 6 (enL 6 enR o.ranks) (I6 q.rank)=some (enR rk):=by rw[hn,y9,hrk];rfl
  have d2:decide ((o.ranks.els.length:Int)≤q.rank)=false:=decide_eq_false h2;have d5:atD (enR rk) 5=enL 1 enW rk.wind:=rfl;rw[hn,Yye,hrk,←hn];by_cases h3:q.num<0
  ·simp only[decide_eq_false (show ¬0≤q.num by omega),Bool.false_and,Yze,if_false,b3];simp only[l27,z6,Yzl,Yza,yA,zA,xq,zb7,l44,qZ,zef,uB,zM,Yzx,Yzn,zb,zh,Yze,if_false,c14,zyo,yu,zg,d1,x7,d2,decide_eq_true h3,if_true,xa,Bool.not_false]
  have d3:decide (q.num<0)=false:=decide_eq_false h3;by_cases h4:(rk.wind.els.length:Int)≤q.num
  ·simp only[decide_eq_false (show ¬q.num<(rk.wind.els.length:Int) by omega),Bool.and_false,Yze,if_false,b3];simp only[l27,z6,Yzl,Yza,yA,zA,xq,zb7,l44,qZ,zef,uB,zM,Yzx,Yzn,zb,zh,Yze,if_false,c14,zyo,yu,zg,d1,x7,d2,d3,ix,d5,zy,decide_eq_true h4,if_true,xa,Bool.not_false]
  have d4:decide ((rk.wind.els.length:Int)≤q.num)=false:=decide_eq_false h4;rw[Yzd (by simp;omega)];cases hj:vu o q ls 0 with
  |none=>rw[hj]at l44;simp only[b3];simp only[l27,z6,Yzl,Yza,yA,zA,xq,zb7,l44,qZ,zef,uB,zM,Yzx,Yzn,zb,zh,Yze,if_false,c14,zyo,yu,zg,d1,x7,d2,d3,ix,d5,zy,d4,decide_eq_true (show (-1:Int)<0 by decide),if_true,xa,Bool.not_false]
  |some j=>rw[hj]at l44;simp only[b3];simp only[l27,z6,Yzl,Yza,yA,zA,xq,zb7,l44,qZ,zef,uB,zM,Yzx,Yzn,zb,zh,Yze,if_false,c14,zyo,yu,zg,d1,x7,d2,d3,ix,d5,zy,d4,decide_eq_false (show ¬(j:Int)<0 by omega),if_true,xa]
end Go.Proofs.Tryz.Kn
end
