/-
  Lemmas. No condition.
-/
import Derived.Test.YtkgdjnaidkhniaaGreatDoorWl
set_option linter.unusedSimpArgs false
set_option linter.unusedVariables false
section
namespace Go.Proofs.Tryz.Kn
open Go Go.CE Go.PE
theorem zux:([82,83,68,67].all fun c=>[0,1,2,3,4,5,6,7,8,9].all fun i=>isName (pre c i))=true:=by kernel_rfl
theorem zbR{c:UInt8}(hc:c∈([82,83,68,67]:List UInt8)){i:Nat}(h:i<10):isName (pre c i)=true:=by
 have:=YzJ.1 (YzJ.1 zux c hc) i;refine this ?_;have:i=0\/i=1\/i=2\/i=3\/i=4\/i=5\/i=6\/i=7\/i=8\/i=9:=by omega
 simp_all
theorem zxB:([82,83,68,67].all fun c=>[0,1,2].all fun i=>[0,1,2].all fun j=>Nat.beq i j || !eqB (pre c i) (pre c j))=true:=by kernel_rfl
theorem ziZ{c:UInt8}(hc:c∈([82,83,68,67]:List UInt8)){i j:Nat}(hi:i<3)(hj:j<3)(h:i≠j):eqB (pre c i) (pre c j)=false:=by
 have hm:∀n<3,n∈([0,1,2]:List Nat):=by trivial
 have:=YzJ.1 (YzJ.1 (YzJ.1 zxB c hc) i (hm i hi)) j (hm j hj);simp_all
theorem zlT(n:Nat):isName (zoB n)=true:=by unfold zoB;split<;>rfl
theorem zoy(r:RPl)(hr:r.ok)(n:Nat):(zaX r n).any ve=false:=by
 rw[List.any_eq_false];intro x hx;unfold zaX at hx;obtain⟨k,_,rfl⟩:=List.mem_map.1 hx
 grind[zvF,ve]
theorem zrL(i:Nat)(r:RPl)(hr:r.ok):xe (zuJ i r)=0:=by
 have h1:=zbR (c:=82) (by simp) (show i % 10<10 by omega);have h2:=zBv _ (zwg r.feet);have h3:=zoy r hr (1+r.pipes % 25);have h4:=ze3 r (1+r.pipes % 25);have:=hr.f1;have:=hr.f2
 have h5:decide (-256<=r.first)=true:=decide_eq_true (by omega);have h6:decide (r.first<=256)=true:=decide_eq_true (by omega);have h7:¬(1+r.pipes % 25=0):=by omega
 have h8:¬(128<1+r.pipes % 25):=by omega
 unfold xe zuJ;simp only[h1,zlT,h2,h5,h6,yW,h4,h3,h7,h8,Yyo,Yzp,if_false,Bool.and_self,ne_eq,not_true_eq_false]
theorem zlr(l:List Zm)(h:∀r∈l,xe r=0):ub l=0:=by induction l<;>simp_all[ub]
theorem znz:∀(l:List RPl) (i:Nat),(∀r∈l,r.ok)->∀x∈uh i l,xe x=0
 | [],_,_,_,h=>by cases h
 |r::l,i,H,x,h=>by
  rcases Yya.1 h with rfl|h
  .grind[zrL]
  .exact znz l _ (fun r hr=>H r (Yze _ hr)) x h
theorem znA:∀(l:List RPl) (i:Nat),i+l.length<=3->(∀r∈l,r.ok)->zaZ (uh i l) ((List.range i).map (pre 82))=0
 | [],_,_,_=>rfl
 |r::l,i,hl,H=>by
  simp only[Yzh]at hl;have h1:=zrL i r (H r (Yzf ..));have hi:i % 10=i:=by omega
  have h2:((List.range i).map (pre 82)).any (eqB (zuJ i r).name)=false:=by
   rw[List.any_eq_false];intro s hs;obtain⟨j,hj,rfl⟩:=List.mem_map.1 hs;have hj:=List.mem_range.1 hj;have:=ziZ (c:=82) (by simp) (show i<3 by omega) (show j<3 by omega) (by omega);show ¬eqB (pre 82 (i % 10)) (pre 82 j)=true
   grind
  unfold uh zaZ;rw[Yza (by omega),Yza (by grind)];have:(List.range i).map (pre 82)++[(zuJ i r).name]=(List.range (i+1)).map (pre 82):=by
   rw[List.range_succ,Yye];show _++[pre 82 (i % 10)]=_
   grind
  rw[this];exact znA l (i+1) (by omega) fun r hr=>H r (Yze _ hr)
theorem zem:∀(l:List RPl) (i:Nat),∀r∈uh i l,zg3 r
 | [],_,_,h=>by cases h
 |x::l,i,r,h=>by
  rcases Yya.1 h with rfl|h
  .show (zaX x (1+x.pipes % 25)).length<=_
   grind[ze3]
  .exact zem l _ r h
theorem zcz(n:Nat)(d:Zr)(h1:0<=d.rank)(h2:d.rank<(n:Int))(h3:-127<=d.shift)(h4:d.shift<=127):xn n [d]=0:=by simp_all[xn,zcA,Yza]
theorem zmh(n:Nat)(d e:Zr)(h1:0<=d.rank)(h2:d.rank<(n:Int))(h3:-127<=d.shift)(h4:d.shift<=127)(g1:0<=e.rank)(g2:e.rank<(n:Int))(g3:-127<=e.shift)(g4:e.shift<=127)(hne:e≠d):xn n [d,e]=0:=by simp_all[xn,zcA,Yza]
theorem zwW(x:Place)(hlow:0<=x.low)(hlh:x.low<=x.high)(n m:Int)(sh sh2 at_:Int)(h1:0<=n)(h2:n<(x.ranks.els.length:Int))(h3:0<=m)(h4:m<(x.ranks.els.length:Int))(s1:-100<=sh)(s2:sh<=100)(s3:-100<=sh2)(s4:sh2<=100)(a1:x.low<=at_)(a2:at_<=x.high)(kd:Nat):
  (wg x.low x.high n sh m sh2 at_ kd).length≠0/\(wg x.low x.high n sh m sh2 at_ kd).length<=12/\zao x (wg x.low x.high n sh m sh2 at_ kd) none=0:=by
 have d1:=zcz x.ranks.els.length ⟨n,sh⟩ h1 h2 (by grind) (by grind);have d2:=zcz x.ranks.els.length ⟨m,sh2⟩ h3 h4 (by grind) (by grind);have d3:=zcz x.ranks.els.length ⟨n,sh-12⟩ h1 h2 (by grind) (by grind);have d4:=zmh x.ranks.els.length ⟨n,sh⟩ ⟨n,sh+7⟩ h1 h2 (by grind) (by grind) h1 h2 (by grind) (by grind) (fun h=>by grind);have one:∀(lo hi:Int) (ds:List Zr) (p:Option Int) (r:List Seg),x.low<=lo->lo<=hi->hi<=x.high->leO lo p=false->xn x.ranks.els.length ds=0->zao x (⟨lo,hi,some ds⟩::r) p=zao x r (some hi):=by grind[zao]
 unfold wg;split
 .refine⟨by simp,by simp,?_⟩;rw[one _ _ _ _ _ (by omega) (by omega) (by omega) rfl d4];rfl
 .by_cases hb:x.low<at_
  .rw[Yzc hb];refine⟨by simp,by simp,?_⟩;rw[one _ _ _ _ _ (by omega) (by omega) (by omega) rfl d1,one _ _ _ _ _ (by omega) (by omega) (by omega) (by grind[leO]) d2];rfl
  .rw[Yza hb];refine⟨by simp,by simp,?_⟩;rw[one _ _ _ _ _ (by omega) (by omega) (by omega) rfl d2];rfl
 .by_cases hb:x.low<at_
  .rw[Yzc hb];refine⟨by simp,by simp,?_⟩;rw[one _ _ _ _ _ (by omega) (by omega) (by omega) rfl d1,one _ _ _ _ _ (by omega) (by omega) (by omega) (by grind[leO]) d3];rfl
  .rw[Yza hb];refine⟨by simp,by simp,?_⟩;rw[one _ _ _ _ _ (by omega) (by omega) (by omega) rfl d3];rfl
 .refine⟨by simp,by simp,?_⟩;rw[one _ _ _ _ _ (by omega) (by omega) (by omega) rfl d1];rfl
 .refine⟨by simp,by simp,?_⟩;rw[one _ _ _ _ _ (by omega) (by omega) (by omega) rfl d1];rfl
theorem zrI(rs:List Zm)(hl:0<rs.length)(hl3:rs.length<=60)(hr:∀r∈rs,xe r=0)(hf:∀r∈rs,rkF r∈feetA)(low high:Int)(h0:0<=low)(h1:low<=high)(h2:high<=127)(i:Nat)(hi:i<10)(x:Pul):ji ⟨some rs,low,high⟩ (zb8 rs low high i x)=0:=by
 have p1:zat ⟨some rs,low,high⟩=0:=by unfold zat;rw[Yza (by grind),Yza (by rw[show Sl.els (Place.mk (some rs) low high).ranks=rs from rfl,zlr rs hr];simp)];simp_all[right,Yza]
 have hn:x.rank % rs.length<rs.length:=Yzn _ hl;have hm:(x.rank % rs.length+1) % rs.length<rs.length:=Yzn _ hl;have b1:=zqp (fB x.feet) (rkF (zjq rs (x.rank % rs.length))) (zhv _) (hf _ (zcN hn));have b2:=zqp (fB x.feet) (rkF (zjq rs ((x.rank % rs.length+1) % rs.length))) (zhv _) (hf _ (zcN hm));have hq:0<=(x.at_:Int).tmod (high-low+1)/\(x.at_:Int).tmod (high-low+1)<high-low+1:=⟨Int.tmod_nonneg _ (by omega),Int.tmod_lt_of_pos _ (by omega)⟩;obtain⟨s1,s2,s3⟩:=zwW ⟨some rs,low,high⟩ h0 h1 ((x.rank % rs.length:Nat):Int) (((x.rank % rs.length+1) % rs.length:Nat):Int) (shf (fB x.feet) (rkF (zjq rs (x.rank % rs.length)))) (shf (fB x.feet) (rkF (zjq rs ((x.rank % rs.length+1) % rs.length)))) (low+((x.at_:Int).tmod (high-low+1)))
  (by omega) (by grind) (by omega) (by grind) b1.1 b1.2 b2.1 b2.2 (by grind) (by grind) (x.kind % 6)
 simp_all[ji,zb8,zbR,zBu,zhv]
theorem zhf(rs:List Zm)(hl:0<rs.length)(hl3:rs.length<=60)(hr:∀r∈rs,xe r=0)(hf:∀r∈rs,rkF r∈feetA)(low high:Int)(h0:0<=low)(h1:low<=high)(h2:high<=127):
  ∀(l:List Pul) (i:Nat),i+l.length<=3->zcj ⟨some rs,low,high⟩ (vz rs low high i l) ((List.range i).map (pre 83))=0
 | [],_,_=>rfl
 |x::l,i,h=>by
  simp only[Yzh]at h;have e1:=zrI rs hl hl3 hr hf low high h0 h1 h2 i (by omega) x;have e2:((List.range i).map (pre 83)).any (eqB (zb8 rs low high i x).name)=false:=by
   rw[List.any_eq_false];intro s hs;obtain⟨j,hj,rfl⟩:=List.mem_map.1 hs;have hj:=List.mem_range.1 hj;have:=ziZ (c:=83) (by simp) (show i<3 by omega) (show j<3 by omega) (by omega);show ¬eqB (pre 83 i) (pre 83 j)=true
   grind
  unfold vz zcj;rw[Yza (by omega),Yza (by grind)];have:(List.range i).map (pre 83)++[(zb8 rs low high i x).name]=(List.range (i+1)).map (pre 83):=by rw[List.range_succ,Yye];rfl
  rw[this];exact zhf rs hl hl3 hr hf low high h0 h1 h2 l (i+1) (by omega)
theorem zau(rs:List Zm)(low high:Int):∀(l:List Pul) (i:Nat),(vz rs low high i l).length=l.length
 | [],_=>rfl
 |_::l,i=>by simp[vz,zau rs low high l]
theorem zqG(b:Boa):right (zfM b) (zbi b)=0:=by
 have:=zlP b;have:=ziO b
 grind[right]
theorem zuH(rs:List Zm)(hl:0<rs.length)(hl3:rs.length<=60)(hr:∀r∈rs,xe r=0)(hf:∀r∈rs,rkF r∈feetA)(i:Nat)(b:Boa)(hb:b.stops.els.length<=3):zce (some rs) (zj3 rs i b)=0:=by
 have:=zlP b;have:=ziO b
 unfold zce zj3;simp only[zN,zau,zqG];rw[Yza (by simp),Yza (by omega)]
 grind[zhf]
theorem zj1(rs:List Zm)(hl:0<rs.length)(hl3:rs.length<=60)(hr:∀r∈rs,xe r=0)(hf:∀r∈rs,rkF r∈feetA):
  ∀(l:List Boa) (i:Nat),i+l.length<=3->(∀b∈l,b.stops.els.length<=3)->zdm (some rs) (vW rs i l) ((List.range i).map (pre 68))=0
 | [],_,_,_=>rfl
 |x::l,i,h,H=>by
  simp only[Yzh]at h;have e1:=zuH rs hl hl3 hr hf i x (H x (Yzf ..));have e2:((List.range i).map (pre 68)).any (eqB (zj3 rs i x).name)=false:=by
   rw[List.any_eq_false];intro s hs;obtain⟨j,hj,rfl⟩:=List.mem_map.1 hs;have hj:=List.mem_range.1 hj;have:=ziZ (c:=68) (by simp) (show i<3 by omega) (show j<3 by omega) (by omega);show ¬eqB (pre 68 i) (pre 68 j)=true
   grind
  have e3:isName (zj3 rs i x).name=true:=zbR (c:=68) (by simp) (by omega);unfold vW zdm;rw[Yza (by grind),Yza (by grind),Yza (by omega)];have:(List.range i).map (pre 68)++[(zj3 rs i x).name]=(List.range (i+1)).map (pre 68):=by rw[List.range_succ,Yye];rfl
  rw[this];exact zj1 rs hl hl3 hr hf l (i+1) (by omega) fun b hb=>H b (Yze _ hb)
theorem vA(rs:List Zm):∀(l:List Boa) (i:Nat),(vW rs i l).length=l.length
 | [],_=>rfl
 |_::l,i=>by simp[vW,vA rs l]
theorem zfJ(rs:List Zm):∀(l:List Boa) (i:Nat),((vW rs i l).map keyOf).any (fun k=>right k.1 k.2 != 0)=false
 | [],_=>rfl
 |b::l,i=>by
  simp only[vW,Yzw,List.any_cons,zfJ rs l]
  grind[keyOf,zj3,zqG]
theorem zj4(n:Nat)(hn:0<n):∀(l:List Lnk) (i:Nat) (p:List Cpl),i+l.length<=3->(∀c∈l,c.ok)->p.map Cpl.name=(List.range i).map (pre 67)->zmn n p (zc1 n i l)=0
 | [],_,_,_,_,_=>rfl
 |x::l,i,p,h,H,hp=>by
  simp only[Yzh]at h;have e2:p.any (fun y=>eqB y.name (zcq n i x).name)=false:=by
   rw[List.any_eq_false];intro y hy;have:y.name∈(List.range i).map (pre 67):=by grind
   obtain⟨j,hj,e⟩:=List.mem_map.1 this;have hj:=List.mem_range.1 hj;have:=ziZ (c:=67) (by simp) (show j<3 by omega) (show i<3 by omega) (by omega);rw[<-e];show ¬eqB (pre 67 j) (pre 67 i)=true
   grind
  have e3:isName (zcq n i x).name=true:=zbR (c:=67) (by simp) (by omega);have a1:x.src % n<n:=Yzn _ hn;have a2:x.dst % n<n:=Yzn _ hn;have hs:-25<x.shift.tmod 25/\x.shift.tmod 25<25:=by grind
  have q:∀a:Bool,True:=fun _=>trivial;have f0:¬(zcq n i x).src<0:=by show ¬((x.src % n:Nat):Int)<0;omega
  have f1:¬(n:Int)<=(zcq n i x).src:=by show ¬(n:Int)<=((x.src % n:Nat):Int);omega
  have f2:¬(zcq n i x).dst<0:=by show ¬((x.dst % n:Nat):Int)<0;omega
  have f3:¬(n:Int)<=(zcq n i x).dst:=by show ¬(n:Int)<=((x.dst % n:Nat):Int);omega
  have f4:-127<=(zcq n i x).shift/\(zcq n i x).shift<=127/\¬((zcq n i x).src=(zcq n i x).dst/\(zcq n i x).shift=0):=by grind[zcq]
  unfold zc1 zmn;rw[Yza (by grind),Yza (by grind),Yza f0,Yza f1,Yza f2,Yza f3,Yza (by omega),Yza (by omega),Yza f4.2.2];refine zj4 n hn l (i+1) _ (by omega) (fun c hc=>H c (Yze _ hc)) ?_;rw[Yye,hp,List.range_succ,Yye];rfl
theorem zbL(n:Nat):∀(l:List Lnk) (i:Nat),(zc1 n i l).length=l.length
 | [],_=>rfl
 |_::l,i=>by simp[zc1,zbL n l]
theorem zhj(p:Pln)(hp:p.ok)(hf:zeG p=true):za1 (zaW p)=0:=by obtain⟨f1,f2,f3,f4,f5,f6⟩:=q8 hf;have hlen:(uh 0 p.ranks.els).length=p.ranks.els.length:=zc0 _ _;have hg:grow (uh 0 p.ranks.els)=some (uh 0 p.ranks.els):=zsp (by omega);have r1:=znA p.ranks.els 0 (by omega) hp.ranks;have d1:=zj1 (uh 0 p.ranks.els) (by omega) (by omega) (znz _ _ hp.ranks) (zdI _ _) p.divs.els 0 (by omega) f6;have c1:=zj4 p.divs.els.length (by omega) p.cpls.els 0 [] (by omega) hp.cpls rfl;have k1:=zfJ (uh 0 p.ranks.els) p.divs.els 0;simp only[List.range_zero,List.map_nil]at r1 d1;unfold za1 zaW;simp only[zN,hg,yW,hlen,vA];rw[Yza (by trivial),Yza (by omega),Yza (by omega),Yza (by omega),Yza (by omega),Yza (by omega)];unfold zof;rw[Yza (by grind[vA]),Yza (by grind[zbL]),Yza (by grind),Yzm,vA];exact c1
theorem zfI(rs:List Zm)(low high:Int):∀(l:List Pul) (i:Nat),∀s∈vz rs low high i l,s.ok
 | [],_,_,h=>by cases h
 |x::l,i,s,h=>by
  rcases Yya.1 h with rfl|h
  .have hall:∀n sh m sh2 a kd,(wg low high n sh m sh2 a kd).length<=2/\∀g∈wg low high n sh m sh2 a kd,g.draws.els.length<=2:=by
    intro n sh m sh2 a kd;unfold wg
    grind
   obtain⟨q1,q2⟩:=hall ((x.rank % rs.length:Nat):Int) (shf (fB x.feet) (rkF (zjq rs (x.rank % rs.length)))) (((x.rank % rs.length+1) % rs.length:Nat):Int)
    (shf (fB x.feet) (rkF (zjq rs ((x.rank % rs.length+1) % rs.length)))) (low+((x.at_:Int).tmod (high-low+1))) (x.kind % 6)
   refine⟨?_,fun g hg=>?_⟩
   .show (wg _ _ _ _ _ _ _ _).length<=_;omega
   .have:=q2 g hg;show g.draws.els.length<=_;omega
  .exact zfI rs low high l _ s h
theorem zxF(p:Pln)(hf:zeG p=true):(zaW p).ok:=by
 obtain⟨f1,f2,f3,f4,f5,f6⟩:=q8 hf;have hd:∀(rs:List Zm) (l:List Boa) (i:Nat),(∀b∈l,b.stops.els.length<=3)->∀d∈vW rs i l,d.ok:=by
  intro rs l
  induction l with
  |nil=>intro i _ d h;cases h
  |cons b l ih=>
   intro i H d h;rcases Yya.1 h with rfl|h
   .have:=H b (Yzf ..);refine⟨?_,fun s hs=>?_⟩
    .show (grow (vz rs (zfM b) (zbi b) 0 b.stops.els)).els.length<=_
     grind[zN,zau]
    .have hs:s∈(grow (vz rs (zfM b) (zbi b) 0 b.stops.els)).els:=hs
     grind[zN,zfI]
   .grind
 unfold zaW;refine⟨?_,fun r hr=>?_,?_,fun d h=>?_,?_⟩<;>grind[zN,zc0,zem,vA,zbL]
end Go.Proofs.Tryz.Kn
end
section
namespace Go.Proofs.Tryz.Kn
open Go Go.CE Go.PE
def zvu(a b:Int):Int:=IntKind.wrap .u64 (BitVec.ofInt IntKind.u64.bits a &&& BitVec.ofInt IntKind.u64.bits b).toNat
theorem zij(a b:Int):zc .and (U64 a) (U64 b)=some (U64 (zvu a b)):=by rfl
def zvL(a:Int)(n:Nat):Int:=Int.fdiv a (2^(min n 64))
theorem zE6{k:IntKind}(a:Int)(n:Nat):zq false (U64 a) (.int k (n:Int))=some (U64 (zvL a n)):=by rfl
theorem zmL{m:Nat}(h:m<=4611686018427387904):xV .u64 (m:Int)=(m:Int):=by grind[zjs]
theorem zo3{k:IntKind}{n:Nat}(h:n<=62):zq true (U64 1) (.int k (n:Int))=some (U64 ((2^n:Nat):Int)):=by
 have h0:ltI (n:Int) 0=false:=by rfl
 show oD (ziV .u64 1 (n:Int))=_;unfold ziV;rw[h0,Yzd];have hm:min (n:Int).toNat IntKind.u64.bits=n:=by rw[YzO];show min n 64=n;omega
 rw[hm];have hp:(2^n:Nat)<=2^62:=Nat.pow_le_pow_right (by decide) h;have e:Int.mul 1 (2^n)=((2^n:Nat):Int):=by simp
 rw[e,zmL (Yzl hp (by decide))];rfl
theorem zCS{n:Nat}(h:n<=62):zc .sub (U64 ((2^n:Nat):Int)) (U64 1)=some (U64 ((2^n-1:Nat):Int)):=by
 have hp:(2^n:Nat)<=2^62:=Nat.pow_le_pow_right (by decide) h
 grind[zii,zmL]
theorem zFd(a b:Int):zc .neq (U64 a) (U64 b)=some (Bo (!(a==b))):=z7 _ _ _
abbrev enU(n:Int):List DV:=[U64 n]
structure Reg where
 stops:Sl Int
 cpls:Int
 off:Int
def zY(r:Reg):List DV:=[enL 1 enU r.stops,U64 r.cpls,U64 r.off]
def zej:List Zo->List Int->Bool
 |d::ds,s::ss=>!(zvL s d.stops.els.length==0)||zej ds ss
 |_,_=>false
def wI(o:Org)(r:Reg):Int:=
 if za1 o≠0 then za1 o else if r.stops.els.length≠o.divs.els.length then 5 else if zej o.divs.els r.stops.els=true then 3
 else if zvL r.cpls o.cpls.els.length≠0 then 3 else if zvL r.off o.divs.els.length≠0 then 3 else 0
theorem l24(dv:Sl Zo)(hd:dv.els.length<=9223372036854775807)(st:Sl Int)(hl:st.els.length=dv.els.length):∀(ds:List Zo) (ss:List Int) (i:Nat),dv.els.drop i=ds->st.els.drop i=ss->
  zS (ztq (I6 (dv.els.length:Int)) (enL 5 enV dv) (enL 1 enU st)) [I6 (i:Int)] []=some (if zej ds ss=true then(.ret,[I6 3],[]) else(.exit 0,[],[])):=by
 intro ds
 induction ds with
 |nil=>
  intro ss i h _;refine zr ?_
  grind[ztq,zA,zi,zb,wq,z6,zm]
 |cons d ds ih=>
  intro ss i h h';have h1:=yn h;cases ss with
  |nil=>have:=z6 h';omega
  |cons s ss=>
   have ea:zc .add (I6 (i:Int)) (I6 1)=some (I6 ((i+1:Nat):Int)):=yG;have body:ztq (I6 (dv.els.length:Int)) (enL 5 enV dv) (enL 1 enU st) [I6 (i:Int)] []=some (if zvL s d.stops.els.length=0 then(.normal,[I6 ((i+1:Nat):Int)],[]) else(.ret,[I6 3],[])):=by
    simp only[ztq,zA,zi,zb,zbN h1,zm,if_true,zX h,zX h',enV,y4,ww,zg,zE6,zFd,ea]
    grind
   by_cases hc:zvL s d.stops.els.length=0
   .rw[Yzc hc]at body;rw[zE body,ih ss (i+1) (zJ h) (zJ h')];grind[zej]
   .rw[Yza hc]at body;grind[zz,zej]
theorem t24(k:Nat)(o:Org)(ho:o.ok)(r:Reg):D (k+10) 24 [SA (enO o),SA (zY r)]=some (S1 (I6 (wI o r))):=by
 have c:=t44 k o ho;unfold enO at c ⊢;unfold zY;rw[D24];unfold P24 wI;simp only[c,zR,z7,zb,zm,zg];by_cases h1:za1 o=0
 .by_cases h2:r.stops.els.length=o.divs.els.length
  .have e:(!((r.stops.els.length:Int)==(o.divs.els.length:Int)))=false:=by simp[h2]
   have l:=l24 o.divs ho.dl r.stops h2 o.divs.els r.stops.els 0 rfl rfl;simp only[h1,h2,Yyh,Yyo,Yzp,if_false,ne_eq,not_true_eq_false];rw[show (I6 0:DV)=I6 ((0:Nat):Int) from rfl,l];cases zej o.divs.els r.stops.els with
   |true=>rfl
   |false=>
    simp only[Yzp,if_false,yi,Yzq,Yzb,zE6,zb,zFd,zm]
    grind
  .grind
 grind
def zgI(n:Nat):Int:=((2^n-1:Nat):Int)
def zuK(d:Zo):Int:=zgI d.stops.els.length
def enB(b:Nat->Nat):List DV:=[U8 (b 0:Int),U8 (b 1:Int),U8 (b 2:Int),U8 (b 3:Int),U8 (b 4:Int)]
def vT(b:Nat->Nat):Nat->List Zo->List Int
 |_,[]=>[]
 |i,d::r=>zvu (b (i % 3):Int) (zuK d)::vT b (i+1) r
def wo(o:Org)(b:Nat->Nat):Reg:=⟨grow (vT b 0 o.divs.els),zvu (b 3:Int) (zgI o.cpls.els.length),zvu (b 4:Int) (zgI o.divs.els.length)⟩
theorem l14(b:Nat->Nat)(hb:∀i,b i<256)(dv:Sl Zo)(hl:dv.els.length<=1000)(hs:∀d∈dv.els,d.stops.els.length<=60)(c0 c1:DV):∀(r:List Zo) (i:Nat) (acc:List Int),dv.els.drop i=r->acc.length=i->
  zS (zkT (enL 5 enV dv) (U8 (b 0:Int)) (U8 (b 1:Int)) (U8 (b 2:Int)) (U8 (b 3:Int)) (U8 (b 4:Int))) [I6 (i:Int),c0,c1] [ocL enU (grow acc)]=some (.exit 0,[c0,c1],[ocL enU (grow (acc++vT b i r))]):=by
 intro r
 induction r with
 |nil=>grind[zr,zkT,zA,yJ,yU,zg,zi,zb,wq,z6,zm,vT]
 |cons d r ih=>
  intro i acc h ha;have h1:=yn h;have hd:=hs d (Lz3 (ye h));have ea:zc .add (I6 (i:Int)) (I6 1)=some (I6 ((i+1:Nat):Int)):=yG;have e1:zc .rem (I6 (i:Int)) (I6 3)=some (I6 ((i % 3:Nat):Int)):=zgG (b:=3) (by decide);have h3:i % 3<3:=Yzn _ (by decide);have e2:uc 5 (I6 ((i % 3:Nat):Int))=some (i % 3):=uP (by omega);have e3:atD [U8 (b 0:Int),U8 (b 1:Int),U8 (b 2:Int),U8 (b 3:Int),U8 (b 4:Int)] (i % 3)=U8 (b (i % 3):Int):=by
   have:i % 3=0\/i % 3=1\/i % 3=2:=by omega
   rcases this with h|h|h<;>rw[h]<;>rfl
  have hbb:=hb (i % 3);have e4:zx .u64 (U8 (b (i % 3):Int))=some (U64 (b (i % 3):Int)):=zi7 (by omega);have e5:zx .u64 (I6 (d.stops.els.length:Int))=some (U64 (d.stops.els.length:Int)):=zi7 (by omega);have sh:zq true (U64 1) (U64 (d.stops.els.length:Int))=some (U64 ((2^d.stops.els.length:Nat):Int)):=zo3 (by omega);have sb:zc .sub (U64 ((2^d.stops.els.length:Nat):Int)) (U64 1)=some (U64 (zuK d)):=zCS (by omega);have ef:fits 8 ((grow acc).els.length+1)=true:=xf (by decide) (by grind[zN]);have body:zkT (enL 5 enV dv) (U8 (b 0:Int)) (U8 (b 1:Int)) (U8 (b 2:Int)) (U8 (b 3:Int)) (U8 (b 4:Int)) [I6 (i:Int),c0,c1] [ocL enU (grow acc)]=some (.normal,[I6 ((i+1:Nat):Int),c0,c1],[ocL enU (grow (acc++[zvu (b (i % 3):Int) (zuK d)]))]):=by rw[xx,<-wj (f:=enU)];simp only[zkT,zA,yJ,yU,zg,zi,zb,zbN h1,zm,if_true,e1,e2,e3,e4,zX h,enV,y4,ww,e5,sh,sb,zij,xQ,Yzh,Yzv,ef,xM,ea,xg]
  rw[zE body,ih (i+1) _ (zJ h) (by simp[ha])];simp[vT]
theorem t14(k:Nat)(o:Org)(b:Nat->Nat)(hb:∀i,b i<256)(hd:o.divs.els.length<=60)(hs:∀d∈o.divs.els,d.stops.els.length<=60)(hc:o.cpls.els.length<=60):D (k+1) 14 [SA (enO o),SA (enB b)]=some (SA (zY (wo o b))):=by
 have h3:=hb 3;have h4:=hb 4
 have e3:zx .u64 (U8 (b 3:Int))=some (U64 (b 3:Int)):=zi7 (by omega);have e4:zx .u64 (U8 (b 4:Int))=some (U64 (b 4:Int)):=zi7 (by omega);have f3:zx .u64 (I6 (o.cpls.els.length:Int))=some (U64 (o.cpls.els.length:Int)):=zi7 (by omega);have f4:zx .u64 (I6 (o.divs.els.length:Int))=some (U64 (o.divs.els.length:Int)):=zi7 (by omega);have s3:zq true (U64 1) (U64 (o.cpls.els.length:Int))=some (U64 ((2^o.cpls.els.length:Nat):Int)):=zo3 (by omega);have s4:zq true (U64 1) (U64 (o.divs.els.length:Int))=some (U64 ((2^o.divs.els.length:Nat):Int)):=zo3 (by omega);have g3:zc .sub (U64 ((2^o.cpls.els.length:Nat):Int)) (U64 1)=some (U64 (zgI o.cpls.els.length)):=zCS (by omega);have g4:zc .sub (U64 ((2^o.divs.els.length:Nat):Int)) (U64 1)=some (U64 (zgI o.divs.els.length)):=zCS (by omega);have l:=l14 b hb o.divs (by omega) hs (U64 (zvu (b 3:Int) (zgI o.cpls.els.length))) (U64 (zvu (b 4:Int) (zgI o.divs.els.length))) o.divs.els 0 [] rfl rfl;rw[show ocL enU (grow ([]:List Int))=none from rfl,YzM]at l;unfold enO enB;rw[D14];unfold P14;simp only[zb,y4,ww,e3,e4,zg,f3,f4,s3,s4,g3,g4,zij];rw[show (I6 0:DV)=I6 ((0:Nat):Int) from rfl,l];simp only[yi,Yzq,Yzb,yU,zA,yJ,zbf];rfl
theorem zen(rs:List Zm):∀(l:List Boa) (i:Nat),(∀b∈l,b.stops.els.length<=3)->∀d∈vW rs i l,d.stops.els.length<=3
 | [],_,_,_,h=>by cases h
 |b::l,i,H,d,h=>by
  rcases Yya.1 h with rfl|h
  .have:=H b (Yzf ..);show (grow (vz rs (zfM b) (zbi b) 0 b.stops.els)).els.length<=3
   grind[zN,zau]
  .exact zen rs l (i+1) (fun x hx=>H x (Yze _ hx)) d h
theorem kO(p:Pln)(hf:zeG p=true):(zaW p).divs.els.length<=3/\(∀d∈(zaW p).divs.els,d.stops.els.length<=3)/\(zaW p).cpls.els.length<=3:=by grind[q8,zaW,zN,vA,zen,zbL]
theorem ztb{β:Type}(r:Reg)(K:List DV->Option β):bA 3 (some (SA (zY r))) K=K (zY r):=rfl
theorem x6(l:List (List DV)):zP (some []) l=some l:=by cases l<;>rfl
theorem jw{α:Type}{f:α->List DV}{st off:Nat}{l:List α}{i:Nat}{x x':α}{ds:List DV}(hx:l[i]? = some x)(hle:off+ds.length<=st)(h:(f x).take off++ds++(f x).drop (off+ds.length)=f x'):
  zaR st (some (l.map f)) i off ds=some (some ((l.set i x').map f)):=by
 simp_all[zaR,Yzg]
end Go.Proofs.Tryz.Kn
end
section
namespace Go.Proofs.Tryz.Kn
open Go Go.CE Go.PE
theorem zwS:((List.range 256).all fun x=>[0,1,2,3].all fun n=>zvL (zvu (x:Int) (zgI n)) n==0)=true:=by kernel_rfl
theorem zjD{x n:Nat}(hx:x<256)(hn:n<=3):zvL (zvu (x:Int) (zgI n)) n=0:=by
 have h:=YzJ.1 (YzJ.1 zwS x (List.mem_range.2 hx)) n (by grind)
 grind
theorem zaE(b:Nat->Nat):∀(l:List Zo) (i:Nat),(vT b i l).length=l.length
 | [],_=>rfl
 |d::l,i=>by simp[vT,zaE b l (i+1)]
theorem zg8(b:Nat->Nat)(hb:∀i,b i<256):∀(l:List Zo) (i:Nat),(∀d∈l,d.stops.els.length<=3)->zej l (vT b i l)=false
 | [],_,_=>rfl
 |d::l,i,h=>by rw[vT,zej,show zuK d=zgI d.stops.els.length from rfl,zjD (hb _) (h d (Yzf ..)),zg8 b hb l (i+1) fun x hx=>h x (Yze _ hx)];rfl
theorem zee{o:Org}(h:za1 o=0)(b:Nat->Nat)(hb:∀i,b i<256)(hd:o.divs.els.length<=3)(hs:∀d∈o.divs.els,d.stops.els.length<=3)(hc:o.cpls.els.length<=3):wI o (wo o b)=0:=by simp_all[wI,wo,zN,zaE,zg8,zjD]
end Go.Proofs.Tryz.Kn
end
section
namespace Go.Proofs.Tryz.Kn
open Go Go.CE Go.PE
structure Snd where
 st:Nat
 lng:Nat
 dv:Nat
 key:Nat
structure Snd.ok (s:Snd):Prop where
 h1:s.st<256
 h2:s.lng<256
 h3:s.dv<256
 h4:s.key<256
def zl9(s:Snd):List DV:=[U8 (s.st:Int),U8 (s.lng:Int),U8 (s.dv:Int),U8 (s.key:Int)]
structure Mrk where
 bar:Nat
 bits:Nat->Nat
structure Mrk.ok (m:Mrk):Prop where
 h1:m.bar<256
 h2:∀i,m.bits i<256
def zmd(m:Mrk):List DV:=[U8 (m.bar:Int),U8 (m.bits 0:Int),U8 (m.bits 1:Int),U8 (m.bits 2:Int),U8 (m.bits 3:Int),U8 (m.bits 4:Int)]
def zi3(n:Nat):List DV:=[U8 (n:Int)]
structure PPl where
 org:Pln
 bars:Sl Nat
 notes:Sl Snd
 marks:Sl Mrk
structure PPl.ok (p:PPl):Prop where
 org:p.org.ok
 bl:p.bars.els.length<=9223372036854775807
 nl:p.notes.els.length<=9223372036854775807
 ml:p.marks.els.length<=9223372036854775807
 bars:∀n∈p.bars.els,n<256
 notes:∀s∈p.notes.els,s.ok
 marks:∀m∈p.marks.els,m.ok
def zmc(p:PPl):List DV:=[enL 9 zga p.org.ranks,enL 4 uM p.org.divs,enL 4 zkp p.org.cpls,enL 1 zi3 p.bars,enL 4 zl9 p.notes,enL 6 zmd p.marks]
def zet(p:PPl):Bool:=zeG p.org&&decide (0<p.bars.els.length)&&decide (p.bars.els.length<=4)&&decide (p.notes.els.length<=8)&&decide (p.marks.els.length<=3)
theorem t31(k:Nat)(p:PPl)(hp:p.ok):D (k+2) 31 [SA (zmc p)]=some (S1 (Bo (zet p))):=by
 have cf:=t56 k p.org hp.org;unfold zmb at cf;unfold zmc;rw[D31];unfold P31 zet;simp only[cf,zR,zm,zg,zW,wV,zb];cases zeG p.org with
 |false=>rfl
 |true=>
  by_cases h1:0<p.bars.els.length
  .by_cases h2:p.bars.els.length<=4
   .by_cases h3:p.notes.els.length<=8
    .have e1:(0:Int)<(p.bars.els.length:Int):=by omega
     have e2:(p.bars.els.length:Int)<=4:=by omega
     have e3:(p.notes.els.length:Int)<=8:=by omega
     by_cases h4:p.marks.els.length<=3<;>grind
    .grind
   .grind
  .grind
structure Stg where
 bar:Int
 reg:Reg
def zaC(s:Stg):List DV:=[I6 s.bar,enL 1 enU s.reg.stops,U64 s.reg.cpls,U64 s.reg.off]
structure Pce where
 bars:Sl Int
 notes:Sl Zh
 sets:Sl Stg
def zko(x:Pce):List DV:=[enL 1 enW x.bars,enL 4 x7 x.notes,enL 4 zaC x.sets]
def wN:Int->List Nat->List Int
 |_,[]=>[]
 |t,n::l=>(t+1+((n % 6:Nat):Int))::wN (t+1+((n % 6:Nat):Int)) l
theorem uJ:∀(l:List Nat) (t:Int),(wN t l).length=l.length
 | [],_=>rfl
 |n::l,t=>by rw[wN,Yzh,Yzh,uJ l]
theorem zor:∀(l:List Nat) (t:Int) (x:Int),x∈wN t l->t<x/\x<=t+6*(l.length:Int)
 | [],_,_,h=>by cases h
 |n::l,t,x,h=>by
  have hn:n % 6<6:=Yzn _ (by decide);rcases Yya.1 h with rfl|h
  .grind
  .have:=zor l _ x h
   grind
def zdK(t:Int):List Int->Int
 | []=>t
 |x::l=>zdK x l
theorem zfQ:∀(l:List Int) (t:Int),(t::l)[l.length]? = some (zdK t l)
 | [],_=>rfl
 |x::l,t=>by rw[Yzh,Yzt];exact zfQ l x
theorem zj9:∀(l:List Int) (t:Int),zdK t l=t\/zdK t l∈l
 | [],_=>.inl rfl
 |x::l,t=>by rcases zj9 l x with h|h<;>grind[zdK]
theorem zrr{α:Type}{f:α->List DV}{v:Sl α}{i:Nat}{x:α}(h:v.els[i]? = some x):xY (ocL f v) i=some (f x):=by cases v<;>grind[zuq,zcY]
theorem znj{α:Type}{f:α->List DV}{v:Sl α}{k:IntKind}{i:Nat}(h:i<v.els.length):zO (ocL f v) (.int k (i:Int))=some i:=by
 cases v with
 |none=>cases h
 |some l=>exact zcU (by grind)
theorem zDM(l:Sl Nat)(hl:l.els.length<=1000)(hb:∀n∈l.els,n<256)(m1 m2:OC):∀(r:List Nat) (i:Nat) (acc:List Int) (t:Int),l.els.drop i=r->acc.length=i+1->acc[i]? = some t->0<=t->t<=6*(i:Int)->
  zS (zto (I6 (l.els.length:Int)) (enL 1 zi3 l)) [I6 (i:Int)] [ocL enW (some acc),m1,m2]=some (.exit 0,[],[ocL enW (some (acc++wN t r)),m1,m2]):=by
 intro r
 induction r with
 |nil=>grind[zr,zto,zA,yU,uC,zi,zb,wq,z6,zm,wN]
 |cons n r ih=>
  intro i acc t h ha ht h0 h1;have hlt:=yn h;have hn:=hb n (Lz3 (ye h));have hm:n % 6<6:=Yzn _ (by decide);have ea:zc .add (I6 (i:Int)) (I6 1)=some (I6 ((i+1:Nat):Int)):=yG;have e1:zO (ocL enW (some acc)) (I6 (i:Int))=some i:=znj (by grind);have e2:xY (ocL enW (some acc)) i=some (enW t):=zrr ht;have e3:zc .add (I6 t) (I6 1)=some (I6 (t+1)):=yG;have e4:zc .rem (U8 (n:Int)) (U8 6)=some (U8 ((n % 6:Nat):Int)):=zgG (b:=6) (by decide);have e5:zx .i64 (U8 ((n % 6:Nat):Int))=some (I6 ((n % 6:Nat):Int)):=vN;have e6:zc .add (I6 (t+1)) (I6 ((n % 6:Nat):Int))=some (I6 (t+1+((n % 6:Nat):Int))):=yG;have ef:fits 8 (acc.length+1)=true:=xf (by decide) (by omega);have body:zto (I6 (l.els.length:Int)) (enL 1 zi3 l) [I6 (i:Int)] [ocL enW (some acc),m1,m2]=some (.normal,[I6 ((i+1:Nat):Int)],[ocL enW (some (acc++[t+1+((n % 6:Nat):Int)])),m1,m2]):=by have:=wj (f:=enW) (some acc) (t+1+((n % 6:Nat):Int));rw[yW]at this;rw[<-this];simp only[zto,zA,yU,uC,zi,zb,zbN hlt,zm,if_true,zX h,zi3,e1,e2,enW,y4,e3,e4,e5,e6,xQ,ef,xM,ea,xg,yW]
  rw[zE body,ih (i+1) (acc++[t+1+((n % 6:Nat):Int)]) (t+1+((n % 6:Nat):Int)) (zJ h) (by grind) (by grind) (by omega) (by omega)]
  grind[wN]
end Go.Proofs.Tryz.Kn
end
section
namespace Go.Proofs.Tryz.Kn
open Go Go.CE Go.PE
def ovl(m n:Zh):Bool:=decide (m.div=n.div)&&decide (m.key=n.key)&&decide (m.st<n.fin)&&decide (n.st<m.fin)
theorem t60(k:Nat)(m n:Zh):D (k+1) 60 [SA (x7 m),SA (x7 n)]=some (S1 (Bo (ovl m n))):=by
 unfold x7;rw[D60];unfold P60 ovl
 grind[xO,zi,zb,zm]
theorem t59(k:Nat)(m n:Zh):D (k+2) 59 [SA (x7 m),S1 (.fp (x7 n) 0)]=some (S1 (Bo (ovl m n))):=by have c:=t60 k m n;simp_all[x7,D59,P59]
theorem zDN(k:Nat)(f:DV)(p:Zh->Bool)(l:Sl Zh)(hl:l.els.length<=9223372036854775806)(hf:∀x∈l.els,zjr (D k) f [SA (x7 x)]=some (S1 (Bo (p x)))):∀(r:List Zh) (i:Nat),l.els.drop i=r->
  zS (zjo (D k) (I6 (l.els.length:Int)) (enL 4 x7 l) f) [I6 (i:Int)] []=some (zv8 (zpc p r i)):=by
 intro r
 induction r with
 |nil=>
  intro i h;refine zr ?_
  grind[zjo,zA,zi,zb,wq,z6,zm]
 |cons x r ih=>
  intro i h;have hlt:=yn h;have ea:zc .add (I6 (i:Int)) (I6 1)=some (I6 ((i+1:Nat):Int)):=yG;have cx:=hf x (Lz3 (ye h));have body:zjo (D k) (I6 (l.els.length:Int)) (enL 4 x7 l) f [I6 (i:Int)] []=some (if p x then(.ret,[I6 (i:Int)],[]) else(.normal,[I6 ((i+1:Nat):Int)],[])):=by
   have en:SA [atD (x7 x) 0,atD (x7 x) 1,atD (x7 x) 2,atD (x7 x) 3]=SA (x7 x):=rfl;simp only[zjo,zA,zi,zb,zbN hlt,zm,if_true,zX h,en,cx,zR,ea]
   grind
  unfold zpc;cases hx:p x with
  |true=>rw[hx,Yzc rfl]at body;rw[zz body,Yzc rfl];rfl
  |false=>rw[hx,Yza (by decide)]at body;rw[zE body,ih (i+1) (zJ h),Yza (by decide)]
theorem t58(k:Nat)(f:DV)(p:Zh->Bool)(l:Sl Zh)(hl:l.els.length<=9223372036854775806)(hf:∀x∈l.els,zjr (D k) f [SA (x7 x)]=some (S1 (Bo (p x)))):D (k+2) 58 [S1 (enL 4 x7 l),S1 f]=some (S1 (Bo (l.els.any p))):=by
 have e:D (k+1) 84 [S1 (enL 4 x7 l),S1 f]=some (S1 (I6 (match zpc p l.els 0 with|some i=>(i:Int)|none=>-1))):=by have:=zDN k f p l hl hf l.els 0 rfl;rw[show (I6 ((0:Nat):Int):DV)=I6 0 from rfl]at this;rw[D84];unfold P84;rw[zg,zb,this];cases zpc p l.els 0<;>rfl
 rw[D58];unfold P58;rw[e,zR,xD,zb,<-zfG p l.els 0];cases zpc p l.els 0<;>simp_all
def wX(ds:List Zo)(E:Nat)(s:Snd):Zh:=match ds[s.dv % ds.length]? with
 |none=>⟨0,0,0,0⟩
 |some d=>⟨((s.st % E:Nat):Int),min (E:Int) (((s.st % E:Nat):Int)+1+((s.lng % 8:Nat):Int)),((s.dv % ds.length:Nat):Int),d.low+((s.key % (d.high-d.low+1).toNat:Nat):Int)⟩
def uD(ds:List Zo)(E:Nat):List Zh->List Snd->List Zh
 |acc,[]=>acc
 |acc,s::r=>if acc.any (fun m=>ovl m (wX ds E s)) then uD ds E acc r else uD ds E (acc++[wX ds E s]) r
def zAe(d:Zo):Prop:=0<=d.low/\d.low<=d.high/\d.high<=1000
theorem zhg(rs:List Zm):∀(l:List Boa) (i:Nat),∀d∈vW rs i l,zAe d
 | [],_,_,h=>by cases h
 |b::l,i,d,h=>by
  rcases Yya.1 h with rfl|h
  .show 0<=zfM b/\zfM b<=zbi b/\zbi b<=1000
   grind[zbi,zfM]
  .exact zhg rs l (i+1) d h
theorem znB(p:Pln):∀d∈(zaW p).divs.els,zAe d:=by grind[zaW,zN,zhg]
theorem zA3(k:Nat)(o:Org)(h1:0<o.divs.els.length)(h2:o.divs.els.length<=1000)(hr:∀d∈o.divs.els,zAe d)(E:Nat)(hE:0<E)(hE2:E<=1000)(l:Sl Snd)(hl:l.els.length<=1000)(hs:∀s∈l.els,s.ok)(m0 m2:OC):∀(r:List Snd) (i:Nat) (acc:List Zh),l.els.drop i=r->acc.length<=i->
  zS (zkR (D (k+4)) (I6 (l.els.length:Int)) (enL 4 zl9 l) (enO o) (enW (E:Int))) [I6 (i:Int)] [m0,ocL x7 (grow acc),m2]=some (.exit 2,[],[m0,ocL x7 (grow (uD o.divs.els E acc r)),m2]):=by
 intro r
 induction r with
 |nil=>grind[zr,zkR,zA,yU,uC,zi,zb,wq,z6,zm,uD]
 |cons s r ih=>
  intro i acc h ha;have hlt:=yn h;have ok:=hs s (Lz3 (ye h));obtain⟨d,hd⟩:∃d,o.divs.els[s.dv % o.divs.els.length]? = some d:=⟨_,Lz5 (Yzn _ h1)⟩;obtain⟨r0,r1,r2⟩:=hr d (Lz3 hd);obtain⟨s1,s2,s3,s4⟩:=ok;obtain⟨W,hW,hW0⟩:∃W:Nat,d.high-d.low+1=(W:Int)/\0<W:=⟨(d.high-d.low+1).toNat,by omega,by omega⟩;have hWm:s.key % W<W:=Yzn _ hW0;have hEm:s.st % E<E:=Yzn _ hE;have hL:s.lng % 8<8:=Yzn _ (by decide);have ea:zc .add (I6 (i:Int)) (I6 1)=some (I6 ((i+1:Nat):Int)):=yG;have e1:zx .i64 (U8 (s.dv:Int))=some (I6 (s.dv:Int)):=vN;have e2:zc .rem (I6 (s.dv:Int)) (I6 (o.divs.els.length:Int))=some (I6 ((s.dv % o.divs.els.length:Nat):Int)):=zgG (by omega);have e3:yb 5 (enL 5 enV o.divs) (I6 ((s.dv % o.divs.els.length:Nat):Int))=some (enV d):=by rw[xC,hd];rfl
  have e4:zx .i64 (U8 (s.st:Int))=some (I6 (s.st:Int)):=vN;have e5:zc .rem (I6 (s.st:Int)) (I6 (E:Int))=some (I6 ((s.st % E:Nat):Int)):=zgG (by omega);have e6:zx .i64 (U8 (s.key:Int))=some (I6 (s.key:Int)):=vN;have e7:zc .sub (I6 d.high) (I6 d.low)=some (I6 (d.high-d.low)):=zci;have e8:zc .add (I6 (d.high-d.low)) (I6 1)=some (I6 (W:Int)):=by grind[yG]
  have e9:zc .rem (I6 (s.key:Int)) (I6 (W:Int))=some (I6 ((s.key % W:Nat):Int)):=zgG (by omega);have e10:zc .add (I6 d.low) (I6 ((s.key % W:Nat):Int))=some (I6 (d.low+((s.key % W:Nat):Int))):=yG;have e11:zc .add (I6 ((s.st % E:Nat):Int)) (I6 1)=some (I6 (((s.st % E:Nat):Int)+1)):=yG;have e12:zc .rem (U8 (s.lng:Int)) (U8 8)=some (U8 ((s.lng % 8:Nat):Int)):=zgG (b:=8) (by decide);have e13:zx .i64 (U8 ((s.lng % 8:Nat):Int))=some (I6 ((s.lng % 8:Nat):Int)):=vN;have e14:zc .add (I6 (((s.st % E:Nat):Int)+1)) (I6 ((s.lng % 8:Nat):Int))=some (I6 (((s.st % E:Nat):Int)+1+((s.lng % 8:Nat):Int))):=yG;have nt:x7 (wX o.divs.els E s)=[I6 ((s.st % E:Nat):Int),I6 (min (E:Int) (((s.st % E:Nat):Int)+1+((s.lng % 8:Nat):Int))),I6 ((s.dv % o.divs.els.length:Nat):Int),I6 (d.low+((s.key % W:Nat):Int))]:=by grind[wX,x7]
  have ha2:(grow acc).els.length<=9223372036854775806:=by grind[zN]
  have cl:=t58 (k+2) (.fn 59 [x7 (wX o.divs.els E s)]) (fun m=>ovl m (wX o.divs.els E s)) (grow acc) ha2 (fun m _=>(zwp ..).trans (t59 k m (wX o.divs.els E s)));rw[zN,nt]at cl;have ef:fits 32 ((grow acc).els.length+1)=true:=xf (by decide) (by grind[zN]);have body:zkR (D (k+4)) (I6 (l.els.length:Int)) (enL 4 zl9 l) (enO o) (enW (E:Int)) [I6 (i:Int)] [m0,ocL x7 (grow acc),m2]=some (.normal,[I6 ((i+1:Nat):Int)],[m0,ocL x7 (grow (if acc.any (fun m=>ovl m (wX o.divs.els E s)) then acc else acc++[wX o.divs.els E s])),m2]):=by
   simp only[zkR,zA,yU,uC,zi,zb,zbN hlt,zm,if_true,zX h,zl9,enO,enW,enV,y4,ww,zg,e1,e2,e3,e4,e5,e6,e7,e8,e9,e10,e11,e12,e13,e14,zxi,zbf,cl,zBQ,xI,xQ,ef,xM,ea,xg];cases acc.any (fun m=>ovl m (wX o.divs.els E s)) with
   |true=>rfl
   |false=>
    simp only[Bool.not_false,if_true,Yzp,if_false]
    grind[wj,xx]
  rw[zE body,uD];by_cases hc:acc.any (fun m=>ovl m (wX o.divs.els E s))=true
  .rw[Yzc hc,Yzc hc,ih (i+1) acc (zJ h) (by omega)]
  .rw[Yza hc,Yza hc,ih (i+1) _ (zJ h) (by grind)]
def zeD(o:Org)(nb:Nat):Int->List Stg->List Mrk->List Stg
 |_,acc,[]=>acc
 |last,acc,m::r=>if last<((m.bar % nb:Nat):Int) then zeD o nb ((m.bar % nb:Nat):Int) (acc++[⟨((m.bar % nb:Nat):Int),wo o m.bits⟩]) r else zeD o nb last acc r
theorem zA0(k:Nat)(o:Org)(hd:o.divs.els.length<=60)(hs:∀d∈o.divs.els,d.stops.els.length<=60)(hc:o.cpls.els.length<=60)(bs:Sl Nat)(hb0:0<bs.els.length)(hb:bs.els.length<=1000)(l:Sl Mrk)(hl:l.els.length<=1000)(hm:∀m∈l.els,m.ok)(m0 m1:OC):
  ∀(r:List Mrk) (i:Nat) (last:Int) (acc:List Stg),l.els.drop i=r->acc.length<=i->
  zS (zkQ (D (k+1)) (I6 (l.els.length:Int)) (enL 6 zmd l) (enL 1 zi3 bs) (enO o)) [I6 (i:Int),I6 last] [m0,m1,ocL zaC (grow acc)]=some (.exit 4,[],[m0,m1,ocL zaC (grow (zeD o bs.els.length last acc r))]):=by
 intro r
 induction r with
 |nil=>grind[zr,zkQ,zA,yU,uC,zi,zb,wq,z6,zm,zeD]
 |cons m r ih=>
  intro i last acc h ha;have hlt:=yn h;obtain⟨k1,k2⟩:=hm m (Lz3 (ye h));have ea:zc .add (I6 (i:Int)) (I6 1)=some (I6 ((i+1:Nat):Int)):=yG;have e1:zx .i64 (U8 (m.bar:Int))=some (I6 (m.bar:Int)):=vN;have e2:zc .rem (I6 (m.bar:Int)) (I6 (bs.els.length:Int))=some (I6 ((m.bar % bs.els.length:Nat):Int)):=zgG (by omega);have dr:=t14 k o m.bits k2 hd hs hc;unfold enB enO at dr;have ef:fits 48 ((grow acc).els.length+1)=true:=xf (by decide) (by grind[zN]);have body:zkQ (D (k+1)) (I6 (l.els.length:Int)) (enL 6 zmd l) (enL 1 zi3 bs) (enO o) [I6 (i:Int),I6 last] [m0,m1,ocL zaC (grow acc)]=some (if last<((m.bar % bs.els.length:Nat):Int) then(.normal,[I6 ((i+1:Nat):Int),I6 ((m.bar % bs.els.length:Nat):Int)],[m0,m1,ocL zaC (grow (acc++[⟨((m.bar % bs.els.length:Nat):Int),wo o m.bits⟩]))]) else(.normal,[I6 ((i+1:Nat):Int),I6 last],[m0,m1,ocL zaC (grow acc)])):=by
   rw[xx,<-wj (f:=zaC)];simp only[zkQ,zA,yJ,yU,uC,zi,zW,zb,zbN hlt,zm,if_true,zX h,zmd,enO,y4,ww,zg,e1,e2,dr,ztb,xQ,ef,xM,ea,xg,Yzo];by_cases hg:last<((m.bar % bs.els.length:Nat):Int)
   .simp only[hg,if_true];rfl
   .grind
  by_cases hg:last<((m.bar % bs.els.length:Nat):Int)
  .rw[Yzc hg]at body;rw[zE body,ih (i+1) _ _ (zJ h) (by grind),zeD,Yzc hg]
  .rw[Yza hg]at body;rw[zE body,ih (i+1) _ _ (zJ h) (by omega),zeD,Yza hg]
def zpU(p:PPl):Nat:=(zdK 0 (wN 0 p.bars.els)).toNat
def zuI(p:PPl):Pce:=⟨some (0::wN 0 p.bars.els),grow (uD (zaW p.org).divs.els (zpU p) [] p.notes.els),grow (zeD (zaW p.org) p.bars.els.length (-1) [] p.marks.els)⟩
structure Zu (p:PPl):Prop where
 org:zeG p.org=true
 b0:0<p.bars.els.length
 b4:p.bars.els.length<=4
 n8:p.notes.els.length<=8
 m3:p.marks.els.length<=3
theorem zaA{p:PPl}(h:zet p=true):Zu p:=by unfold zet at h;simp only[LzC,Yzo]at h;exact⟨h.1.1.1.1,h.1.1.1.2,h.1.1.2,h.1.2,h.2⟩
theorem zbM(p:Pln)(hf:zeG p=true):0<(zaW p).divs.els.length:=by
 obtain⟨f1,f2,f3,f4,f5,f6⟩:=q8 hf
 grind[zaW,zN,vA]
theorem zn9(p:PPl)(h:Zu p):(zpU p:Int)=zdK 0 (wN 0 p.bars.els)/\0<zpU p/\zpU p<=24:=by
 have h4:=h.b4;have h0:=h.b0;have:∀x∈wN 0 p.bars.els,0<x/\x<=24:=fun x hx=>by have:=zor _ _ x hx;omega
 have hl:zdK 0 (wN 0 p.bars.els)∈wN 0 p.bars.els:=by cases hb:wN 0 p.bars.els<;>grind[uJ,zdK,zj9]
 grind[zpU]
theorem zyR{β:Type}(o:Org)(K:List DV->Option β):bA 4 (some (SA (enO o))) K=K (enO o):=rfl
theorem jK(o:Org):[atD (enO o) 0,atD (enO o) 1,atD (enO o) 2,atD (enO o) 3]=enO o:=rfl
theorem t32(k:Nat)(p:PPl)(hp:p.ok)(hf:zet p=true):D (k+8) 32 [SA (zmc p)]=some (.tup [.agg (enO (zaW p.org)),.agg (zko (zuI p))]):=by
 have F:=zaA hf;obtain⟨E1,E2,E3⟩:=zn9 p F;obtain⟨s1,s2,s3⟩:=kO p.org F.org;have mk:=t57 k p.org hp.org F.org;unfold zmb at mk;have b4:=F.b4;have n8:=F.n8;have m3:=F.m3;have b0:=F.b0
 have l4:=zDM p.bars (by omega) hp.bars none none p.bars.els 0 [0] 0 rfl rfl rfl (by decide) (by decide);have l22:=zA3 (k+3) (zaW p.org) (zbM p.org F.org) (by omega) (znB p.org) (zpU p) E2 (by omega) p.notes (by omega) hp.notes (ocL enW (some (0::wN 0 p.bars.els))) none p.notes.els 0 [] rfl (LzB _);have l50:=zA0 (k+6) (zaW p.org) (by omega) (fun d hd=>Yzl (s2 d hd) (by decide)) (by omega) p.bars b0 (by omega) p.marks (by omega) hp.marks (ocL enW (some (0::wN 0 p.bars.els))) (ocL x7 (grow (uD (zaW p.org).divs.els (zpU p) [] p.notes.els))) p.marks.els 0 (-1) [] rfl (LzB _);rw[show ocL x7 (grow ([]:List Zh))=none from rfl]at l22;rw[show ocL zaC (grow ([]:List Stg))=none from rfl]at l50;rw[show ocL enW (some [(0:Int)])=some [[I6 0]] from rfl]at l4;rw[show (I6 ((0:Nat):Int):DV)=I6 0 from rfl]at l4 l22 l50;have bl:(wN 0 p.bars.els).length=p.bars.els.length:=uJ _ _;have sb:zc .sub (I6 (Int.ofNat ((wN 0 p.bars.els).length+1))) (I6 1)=some (I6 (p.bars.els.length:Int)):=by
  rw[bl];have h:zc .sub (I6 ((p.bars.els.length+1:Nat):Int)) (I6 1)=some (I6 (((p.bars.els.length+1:Nat):Int)-1)):=zci
  grind
 have i1:zO (ocL enW (some (0::wN 0 p.bars.els))) (I6 (p.bars.els.length:Int))=some p.bars.els.length:=znj (by grind);have i2:xY (ocL enW (some (0::wN 0 p.bars.els))) p.bars.els.length=some (enW (zpU p:Int)):=by grind[zrr,zfQ]
 unfold zmc;rw[D32];unfold P32;rw[mk,zyR,zg,zb,l4];simp only[yi,Yzq,Yzb,yU,uC,List.cons_append,YzM,xQ,yW,Yzh,sb,zb,i1,i2,zg,l22,l50,zbf];rfl
end Go.Proofs.Tryz.Kn
end
section
namespace Go.Proofs.Tryz.Kn
open Go Go.CE Go.PE
def zdt:Option Int->List Int->Int
 |_,[]=>0
 |p,t::r=>if t<0 then 3 else if 100000<t then 3 else if leO t p then 6 else zdt (some t) r
def zaJ(l:List Int):Int:=if l.length<2 then 5 else if 201<l.length then 4 else zdt none l
def zls(l:List Int):Nat->Option Int
 |0=>none
 |j+1=>l[j]?
theorem zDJ(l:Sl Int)(hl:l.els.length<=1000):∀(r:List Int) (i:Nat),l.els.drop i=r->
  zS (ztk (I6 (l.els.length:Int)) (enL 1 enW l)) [I6 (i:Int)] []=some (zhz 1 (zdt (zls l.els i) r)):=by
 intro r
 induction r with
 |nil=>
  intro i h;refine zr ?_
  grind[ztk,zA,zi,zb,wq,z6,zm]
 |cons t r ih=>
  intro i h;have hlt:=yn h;have ea:zc .add (I6 (i:Int)) (I6 1)=some (I6 ((i+1:Nat):Int)):=yG;have hp:zls l.els (i+1)=some t:=ye h;have body:ztk (I6 (l.els.length:Int)) (enL 1 enW l) [I6 (i:Int)] []=some (if t<0 then(.ret,[I6 3],[]) else if 100000<t then(.ret,[I6 3],[]) else if leO t (zls l.els i) then(.ret,[I6 6],[]) else(.normal,[I6 ((i+1:Nat):Int)],[])):=by
   simp only[ztk,zA,zi,zb,zbN hlt,zm,if_true,zX h,enW,y4,zW,Yzo];by_cases h1:t<0
   .grind
   by_cases h2:100000<t
   .grind
   simp only[h1,h2,if_false];cases i with
   |zero=>rfl
   |succ j=>
    have hj:(0:Int)<((j+1:Nat):Int):=by omega
    have sb:zc .sub (I6 ((j+1:Nat):Int)) (I6 1)=some (I6 (j:Int)):=by
     have h:zc .sub (I6 ((j+1:Nat):Int)) (I6 1)=some (I6 (((j+1:Nat):Int)-1)):=zci
     grind
    obtain⟨y,hy⟩:∃y,l.els[j]? = some y:=⟨_,Lz5 (by omega)⟩;have ix:yb 1 (enL 1 enW l) (I6 (j:Int))=some (enW y):=by grind[xC]
    simp only[hj,if_true,sb,zb,ix,enW,y4,wV,zm,zls,hy,leO,ea]
    grind
  unfold zdt;by_cases h1:t<0
  .rw[Yzc h1]at body ⊢;rw[zz body];rfl
  rw[Yza h1]at body ⊢;by_cases h2:100000<t
  .rw[Yzc h2]at body ⊢;rw[zz body];rfl
  rw[Yza h2]at body ⊢;by_cases h3:leO t (zls l.els i)=true
  .rw[Yzc h3]at body ⊢;rw[zz body];rfl
  .rw[Yza h3]at body ⊢
   grind[zE,zJ]
theorem t45(k:Nat)(l:Sl Int)(hl:l.els.length<=9223372036854775807):D (k+1) 45 [S1 (enL 1 enW l)]=some (S1 (I6 (zaJ l.els))):=by
 rw[D45];unfold P45 zaJ;simp only[zg,zb,zi,zW,zm,Yzo];by_cases h1:l.els.length<2
 .grind
 have h1':¬(l.els.length:Int)<2:=by omega
 by_cases h2:201<l.els.length
 .grind
 have h2':¬(201:Int)<(l.els.length:Int):=by omega
 simp only[h1,h1',h2,h2',if_false];have:=zDJ l (by omega) l.els 0 rfl;rw[show (I6 ((0:Nat):Int):DV)=I6 0 from rfl]at this;rw[this,show zls l.els 0=none from rfl];unfold zhz;by_cases he:zdt none l.els=0<;>simp_all
theorem zsQ(l:Sl Zo):ztA 5 ztB (enL 5 enV l)=some (l.els.map keyOf):=by
 cases l with
 |none=>rfl
 |some l=>
  show zpV ztB (l.map enV)=_;rw[yW]
  induction l with
  |nil=>rfl
  |cons d l ih=>rw[Yzw];unfold zpV;rw[ih];rfl
theorem zmk(l:Sl Zh):ztA 4 zgL (enL 4 x7 l)=some l.els:=by
 cases l with
 |none=>rfl
 |some l=>exact zhA l
def zbm(l:List Int):Int:=(l[0]?).getD 0
def zdL(l:List Int):Int:=(l[l.length-1]?).getD 0
theorem zsR(l:Sl Int)(h0:0<l.els.length)(h1:l.els.length<=1000000):zml (enL 1 enW l)=some (zbm l.els,zdL l.els):=by
 cases l with
 |none=>cases h0
 |some l=>have h0:0<l.length:=h0;have h1:l.length<=1000000:=h1;obtain⟨a,ha⟩:∃a,l[0]? = some a:=⟨_,Lz5 h0⟩;obtain⟨b,hb⟩:∃b,l[l.length-1]? = some b:=⟨_,Lz5 (by omega)⟩;show (bif Nat.beq 1 1&&Nat.ble (l.map enW).length 1000000 then(match ztC (l.map enW)[0]?,ztC (l.map enW)[(l.map enW).length-1]? with|some a,some b=>some (a,b)|_,_=>none) else none)=_;rw[Yzm,Yzg h1,Lz6,Lz6,ha,hb];unfold zbm zdL;rw[yW,ha,hb];rfl
def zbK(o:Org)(x:Pce):Int:=if 1000<x.notes.els.length then 4 else zaS (o.divs.els.map keyOf) (zbm x.bars.els) (zdL x.bars.els) [] x.notes.els
theorem t46(k:Nat)(o:Org)(x:Pce)(h0:0<x.bars.els.length)(h1:x.bars.els.length<=1000000):D k 46 [SA (enO o),SA (zko x)]=some (S1 (I6 (zbK o x))):=
 zdn ((zHD _).trans (zAL (zsQ o.divs) (zmk x.notes) (zsR x.bars h0 h1)))
def gtO(a:Int):Option Int->Bool
 |some t=>decide (a<t)
 |none=>false
def j9(o:Org)(nb:Int):Option Int->List Stg->Int
 |_,[]=>0
 |p,s::r=>if s.bar<0 then 3 else if nb-1<=s.bar then 3 else if p=some s.bar then 9 else if gtO s.bar p then 6 else if wI o s.reg≠0 then wI o s.reg else j9 o nb (some s.bar) r
def zh8(l:List Stg):Nat->Option Int
 |0=>none
 |j+1=>(l[j]?).map Stg.bar
theorem zA6(k:Nat)(o:Org)(ho:o.ok)(x:Pce)(hb:x.bars.els.length<=1000000)(hl:x.sets.els.length<=1000):∀(r:List Stg) (i:Nat),x.sets.els.drop i=r->
  zS (zkS (D (k+10)) (I6 (x.sets.els.length:Int)) (enL 4 zaC x.sets) (enL 1 enW x.bars) (St o.name) (enL 6 enR o.ranks) (enL 5 enV o.divs) (enL 5 enC o.cpls)) [I6 (i:Int)] []=some (zhz 0 (j9 o (x.bars.els.length:Int) (zh8 x.sets.els i) r)):=by
 intro r
 induction r with
 |nil=>
  intro i h;refine zr ?_
  grind[zkS,zA,zi,zb,wq,z6,zm]
 |cons s r ih=>
  intro i h;have hlt:=yn h;have ea:zc .add (I6 (i:Int)) (I6 1)=some (I6 ((i+1:Nat):Int)):=yG;have hp:zh8 x.sets.els (i+1)=some s.bar:=by show (x.sets.els[i]?).map Stg.bar=_;rw[ye h];rfl
  have rc:=t24 k o ho s.reg;unfold enO zY at rc;have e1:zc .sub (I6 (x.bars.els.length:Int)) (I6 1)=some (I6 ((x.bars.els.length:Int)-1)):=zci;have body:zkS (D (k+10)) (I6 (x.sets.els.length:Int)) (enL 4 zaC x.sets) (enL 1 enW x.bars) (St o.name) (enL 6 enR o.ranks) (enL 5 enV o.divs) (enL 5 enC o.cpls) [I6 (i:Int)] []=some (if s.bar<0 then(.ret,[I6 3],[]) else if (x.bars.els.length:Int)-1<=s.bar then(.ret,[I6 3],[]) else if zh8 x.sets.els i=some s.bar then(.ret,[I6 9],[]) else if gtO s.bar (zh8 x.sets.els i) then(.ret,[I6 6],[]) else if wI o s.reg≠0 then(.ret,[I6 (wI o s.reg)],[]) else(.normal,[I6 ((i+1:Nat):Int)],[])):=by
   simp only[zkS,zA,zi,zb,zbN hlt,zm,if_true,zX h,zaC,y4,ww,zg,e1,xD,Yzo];by_cases h1:s.bar<0
   .grind
   by_cases h2:(x.bars.els.length:Int)-1<=s.bar
   .grind
   simp only[h1,h2,if_false,zW,zb,zm,Yzo];cases i with
   |zero=>
    have:¬(0:Int)<((0:Nat):Int):=by decide
    simp only[this,if_false,rc,zR,z7,zb,zm,ea,zh8,gtO,Yzp]
    grind
   |succ j=>
    have hj:(0:Int)<((j+1:Nat):Int):=by omega
    have sb:zc .sub (I6 ((j+1:Nat):Int)) (I6 1)=some (I6 (j:Int)):=by
     have h:zc .sub (I6 ((j+1:Nat):Int)) (I6 1)=some (I6 (((j+1:Nat):Int)-1)):=zci
     grind
    obtain⟨y,hy⟩:∃y,x.sets.els[j]? = some y:=⟨_,Lz5 (by omega)⟩;have ix:yb 4 (enL 4 zaC x.sets) (I6 (j:Int))=some (zaC y):=by grind[xC]
    simp only[hj,if_true,sb,zb,ix,zaC,y4,xO,zi,zm,zh8,hy,YzG,gtO,rc,zR,z7,ea]
    grind
  unfold j9;by_cases h1:s.bar<0
  .rw[Yzc h1]at body ⊢;rw[zz body];rfl
  rw[Yza h1]at body ⊢;by_cases h2:(x.bars.els.length:Int)-1<=s.bar
  .rw[Yzc h2]at body ⊢;rw[zz body];rfl
  rw[Yza h2]at body ⊢;by_cases h3:zh8 x.sets.els i=some s.bar
  .rw[Yzc h3]at body ⊢;rw[zz body];rfl
  rw[Yza h3]at body ⊢;by_cases h4:gtO s.bar (zh8 x.sets.els i)=true
  .rw[Yzc h4]at body ⊢;rw[zz body];rfl
  rw[Yza h4]at body ⊢;by_cases h5:wI o s.reg≠0
  .rw[Yzc h5]at body ⊢;rw[zz body];simp_all[zhz]
  .rw[Yza h5]at body ⊢
   grind[zE,zJ]
def zcT(o:Org)(x:Pce):Int:=if za1 o≠0 then za1 o else if zaJ x.bars.els≠0 then zaJ x.bars.els else if zbK o x≠0 then zbK o x else if 100<x.sets.els.length then 4 else j9 o (x.bars.els.length:Int) none x.sets.els
theorem zmE{l:List Int}(h:zaJ l=0):2<=l.length/\l.length<=201:=by unfold zaJ at h;omega
theorem t22(k:Nat)(o:Org)(ho:o.ok)(x:Pce)(hb:x.bars.els.length<=9223372036854775807):D (k+11) 22 [SA (enO o),SA (zko x)]=some (S1 (I6 (zcT o x))):=by
 have oc:=t44 (k+1) o ho;have bc:=t45 (k+9) x.bars hb;have nc:=fun h0 h1=>t46 (k+10) o x h0 h1;unfold enO at oc;unfold enO zko at nc ⊢;rw[D22];unfold P22 zcT;simp only[oc,zR,z7,zb,zm,bc,zg,zW,Yzo];by_cases h1:za1 o=0
 .by_cases h2:zaJ x.bars.els=0
  .obtain⟨l1,l2⟩:=zmE h2;rw[nc (by omega) (by omega)];simp only[h1,h2,zR,z7,zb,zm];by_cases h3:zbK o x=0
   .by_cases h4:100<x.sets.els.length
    .grind
    .have:¬(100:Int)<(x.sets.els.length:Int):=by omega
     have l11:=zA6 k o ho x (by omega) (by omega) x.sets.els 0 rfl;rw[show (I6 ((0:Nat):Int):DV)=I6 0 from rfl,show zh8 x.sets.els 0=none from rfl]at l11;simp only[h3,h4,this,l11];unfold zhz;by_cases h5:j9 o (x.bars.els.length:Int) none x.sets.els=0<;>simp[h5]
   grind
  .grind
 grind
end Go.Proofs.Tryz.Kn
end
section
namespace Go.Proofs.Tryz.Kn
open Go Go.CE Go.PE
theorem zkE:∀(l:List Nat) (t:Int) (p:Option Int),0<=t->t+6*(l.length:Int)<=100000->leO t p=false->zdt p (t::wN t l)=0
 | [],t,p,h0,h1,hp=>by simp_all[wN,zdt,Yza]
 |n::l,t,p,h0,h1,hp=>by have hn:n % 6<6:=Yzn _ (by decide);rw[Yzh]at h1;unfold wN zdt;rw[Yza (by omega),Yza (by omega),Yza (by grind)];exact zkE l _ _ (by omega) (by omega) (by show decide _=false;grind)
theorem zBO(p:PPl)(h:Zu p):zaJ (0::wN 0 p.bars.els)=0:=by
 have h0:=h.b0;have h4:=h.b4
 have hl:(0::wN 0 p.bars.els).length=p.bars.els.length+1:=by rw[Yzh,uJ]
 unfold zaJ;rw[hl,Yza (by omega),Yza (by omega)];exact zkE _ _ _ (by decide) (by omega) rfl
theorem zhb(ks:List (Int×Int))(f l:Int):∀(q p:List Zh) (n:Zh),zaS ks f l p q=0->zaS ks f l p (q++[n])=zb1 ks f l (p++q) n
 | [],p,n,_=>by
  rw[YzM,YzP];unfold zaS;by_cases h:zb1 ks f l p n=0
  .rw[Yzc h,h];rfl
  omega
 |m::q,p,n,hq=>by
  unfold zaS at hq;by_cases h:zb1 ks f l p m=0
  .rw[Yzc h]at hq;have:=zhb ks f l q (p++[m]) n hq;simp_all[zaS]
  .omega
theorem zru{ds:List Zo}(h0:0<ds.length)(hr:∀d∈ds,zAe d){E:Nat}(hE:0<E)(s:Snd){acc:List Zh}(ha:acc.any (fun m=>ovl m (wX ds E s))=false):zb1 (ds.map keyOf) 0 (E:Int) acc (wX ds E s)=0:=by
 have hi:s.dv % ds.length<ds.length:=Yzn _ h0;obtain⟨d,hd⟩:∃d,ds[s.dv % ds.length]? = some d:=⟨_,Lz5 hi⟩;obtain⟨r0,r1,r2⟩:=hr d (Lz3 hd);obtain⟨W,hW,hW0⟩:∃W:Nat,(d.high-d.low+1).toNat=W/\d.high-d.low+1=(W:Int):=⟨_,rfl,by omega⟩;have e:wX ds E s=⟨((s.st % E:Nat):Int),min (E:Int) (((s.st % E:Nat):Int)+1+((s.lng % 8:Nat):Int)),((s.dv % ds.length:Nat):Int),d.low+((s.key % W:Nat):Int)⟩:=by grind[wX]
 have hk:s.key % W<W:=Yzn _ (by omega);have hs:s.st % E<E:=Yzn _ hE;rw[e]at ha ⊢;generalize s.dv % ds.length=j at *;generalize s.st % E=t at *;generalize s.key % W=y at *;generalize s.lng % 8=z at *;unfold zb1
 dsimp only
 have gk:(ds.map keyOf)[((j:Nat):Int).toNat]? = some (d.low,d.high):=by rw[YzO,Lz6,hd];rfl
 rw[Yza (by grind),gk]
 dsimp only
 rw[Yza (by omega),Yza (by omega),Yza (by omega),Yza];intro hc;obtain⟨m,hm,ho⟩:=List.any_eq_true.1 hc;obtain⟨hm1,hm2⟩:=List.mem_filter.1 hm;have:=List.any_eq_false.1 ha m hm1;simp_all[ovN,ovl]
theorem zfE{ds:List Zo}(h0:0<ds.length)(hr:∀d∈ds,zAe d){E:Nat}(hE:0<E):∀(r:List Snd) (acc:List Zh),zaS (ds.map keyOf) 0 (E:Int) [] acc=0->zaS (ds.map keyOf) 0 (E:Int) [] (uD ds E acc r)=0
 | [],_,h=>h
 |s::r,acc,h=>by
  unfold uD;cases hc:acc.any (fun m=>ovl m (wX ds E s)) with
  |true=>exact zfE h0 hr hE r acc h
  |false=>
   refine zfE h0 hr hE r _ ?_
   grind[zhb,zru]
theorem zbJ(ds:List Zo)(E:Nat):∀(r:List Snd) (acc:List Zh),(uD ds E acc r).length<=acc.length+r.length
 | [],_=>LzB _
 |s::r,acc=>by
  unfold uD;split
  .have:=zbJ ds E r acc
   grind
  .have:=zbJ ds E r (acc++[wX ds E s])
   grind
theorem zpt(t:Int)(l:List Int):zdL (t::l)=zdK t l:=by grind[zdL,zfQ]
theorem zxz(p:PPl)(h:Zu p):zbK (zaW p.org) (zuI p)=0:=by obtain⟨E1,E2,E3⟩:=zn9 p h;have n8:=h.n8;have hl:=zbJ (zaW p.org).divs.els (zpU p) p.notes.els [];have e1:(zuI p).notes.els=uD (zaW p.org).divs.els (zpU p) [] p.notes.els:=zN _;have e2:(zuI p).bars.els=0::wN 0 p.bars.els:=rfl;unfold zbK;rw[e1,e2,Yza (by grind),zpt,<-E1];exact zfE (zbM p.org h.org) (znB p.org) E2 p.notes.els [] rfl
theorem zfc(o:Org)(nb:Int):∀(q:List Stg) (p:Option Int) (s:Stg),j9 o nb p q=0->j9 o nb p (q++[s])=j9 o nb (match q.getLast? with|some y=>some y.bar|none=>p) [s]
 | [],_,_,_=>rfl
 |y::q,p,s,h=>by
  rw[List.cons_append];unfold j9 at h ⊢;by_cases h1:y.bar<0
  .omega
  rw[Yza h1]at h ⊢;by_cases h2:nb-1<=y.bar
  .omega
  rw[Yza h2]at h ⊢;by_cases h3:p=some y.bar
  .grind
  rw[Yza h3]at h ⊢;by_cases h4:gtO y.bar p=true
  .grind
  rw[Yza h4]at h ⊢;by_cases h5:wI o y.reg≠0
  .omega
  rw[Yza h5]at h ⊢;rw[zfc o nb q (some y.bar) s h];cases q with
  |nil=>rfl
  |cons z q=>rfl
theorem zhY(o:Org)(nb:Nat)(hnb:0<nb)(hr:∀b,(∀i,b i<256)->wI o (wo o b)=0):∀(r:List Mrk) (last:Int) (acc:List Stg),(∀m∈r,m.ok)->j9 o ((nb:Int)+1) none acc=0->(∀y,acc.getLast? = some y->y.bar=last)->(acc=[]->last=-1)->
  j9 o ((nb:Int)+1) none (zeD o nb last acc r)=0
 | [],_,_,_,h,_,_=>h
 |m::r,last,acc,hm,h,hl,hn=>by
  have hb:m.bar % nb<nb:=Yzn _ hnb;unfold zeD;by_cases hc:last<((m.bar % nb:Nat):Int)
  .rw[Yzc hc];refine zhY o nb hnb hr r _ _ (fun x hx=>hm x (Yze _ hx)) ?_ (fun y hy=>?_) (fun h=>?_)
   .rw[zfc _ _ _ _ _ h];unfold j9
    dsimp only
    rw[Yza (by omega),Yza (by omega),Yza,Yza,Yza (by rw[hr _ (hm m (Yzf ..)).h2];simp)]
    .rfl
    .cases hq:acc.getLast? with
     |none=>simp[gtO]
     |some y=>
      have:=hl y hq;show ¬decide (((m.bar % nb:Nat):Int)<y.bar)=true
      grind
    .grind
   .grind
   simp_all
  .rw[Yza hc];exact zhY o nb hnb hr r last acc (fun x hx=>hm x (Yze _ hx)) h hl hn
theorem zfb(o:Org)(nb:Nat):∀(r:List Mrk) (last:Int) (acc:List Stg),(zeD o nb last acc r).length<=acc.length+r.length
 | [],_,_=>LzB _
 |m::r,last,acc=>by
  unfold zeD;split
  .have:=zfb o nb r ((m.bar % nb:Nat):Int) (acc++[⟨((m.bar % nb:Nat):Int),wo o m.bits⟩])
   grind
  .have:=zfb o nb r last acc
   grind
theorem zhi(p:PPl)(hp:p.ok)(h:Zu p):zcT (zaW p.org) (zuI p)=0:=by
 have h0:=zhj p.org hp.org h.org;obtain⟨s1,s2,s3⟩:=kO p.org h.org;have e1:(zuI p).bars.els=0::wN 0 p.bars.els:=rfl;have e2:(zuI p).sets.els=zeD (zaW p.org) p.bars.els.length (-1) [] p.marks.els:=zN _;have hl:=zfb (zaW p.org) p.bars.els.length p.marks.els (-1) [];have m3:=h.m3;have hlen:((0::wN 0 p.bars.els).length:Int)=(p.bars.els.length:Int)+1:=by grind[uJ]
 unfold zcT;rw[h0,Yza (by simp),e1,zBO p h,Yza (by simp),zxz p h,Yza (by simp),e2,Yza (by grind),hlen];exact zhY _ _ h.b0 (fun b hb=>zee h0 b hb s1 s2 s3) _ _ _ hp.marks rfl (fun y hy=>by cases hy) (fun _=>rfl)
end Go.Proofs.Tryz.Kn
end
section
namespace Go.Proofs.Tryz.Kn
open Go Go.CE Go.PE
structure CPl where
 pc:PPl
 mems:Sl (Nat->Nat)
 h0:Nat
 h1:Nat
 hp:Nat
 k0:Nat
 k1:Nat
 k2:Nat
 k3:Nat
structure CPl.ok (p:CPl):Prop where
 pc:p.pc.ok
 ml:p.mems.els.length<=9223372036854775807
 mb:∀b∈p.mems.els,∀i,b i<256
 h0:p.h0<256
 h1:p.h1<256
 hp:p.hp<256
 k0:p.k0<256
 k1:p.k1<256
 k2:p.k2<256
 k3:p.k3<256
def zi2(p:CPl):List DV:=[enL 9 zga p.pc.org.ranks,enL 4 uM p.pc.org.divs,enL 4 zkp p.pc.org.cpls,enL 1 zi3 p.pc.bars,enL 4 zl9 p.pc.notes,enL 6 zmd p.pc.marks,enL 5 enB p.mems,U8 (p.h0:Int),U8 (p.h1:Int),U8 (p.hp:Int),U8 (p.k0:Int),U8 (p.k1:Int),U8 (p.k2:Int),U8 (p.k3:Int)]
def zjv(l:List Boa):Nat:=(l.map fun b=>b.stops.els.length).sum
def zcb(p:CPl):Bool:=zet p.pc&&decide (p.mems.els.length<=3)&&decide (p.pc.org.divs.els.length+p.pc.org.cpls.els.length+zjv p.pc.org.divs.els<=7)
theorem zGA(l:Sl Boa)(hl:l.els.length<=1000)(hs:∀b∈l.els,b.stops.els.length<=3):∀(r:List Boa) (i n:Nat),l.els.drop i=r->n<=4*i+10000->
  zS (zB7 (enL 4 uM l)) [I6 (i:Int),I6 (n:Int)] []=some (.exit 0,[I6 ((n+zjv r:Nat):Int)],[]):=by
 intro r
 induction r with
 |nil=>intro i n h _;refine zr ?_;simp only[zB7,zA,yJ,zg,zi,zb,wq (z6 h),zm];rfl
 |cons b r ih=>
  intro i n h hn;have hlt:=yn h;have hb:=hs b (Lz3 (ye h));have ea:zc .add (I6 (i:Int)) (I6 1)=some (I6 ((i+1:Nat):Int)):=yG;have eb:zc .add (I6 (n:Int)) (I6 (b.stops.els.length:Int))=some (I6 ((n+b.stops.els.length:Nat):Int)):=yG;have body:zB7 (enL 4 uM l) [I6 (i:Int),I6 (n:Int)] []=some (.normal,[I6 ((i+1:Nat):Int),I6 ((n+b.stops.els.length:Nat):Int)],[]):=by simp only[zB7,zA,yJ,zg,zi,zb,zbN hlt,zm,if_true,zX h,uM,y4,ww,ea,eb]
  rw[zE body,ih (i+1) _ (zJ h) (by omega)]
  grind[zjv]
theorem t8(k:Nat)(p:CPl)(hp:p.ok):D (k+3) 8 [SA (zi2 p)]=some (S1 (Bo (zcb p))):=by
 have cf:=t31 k p.pc hp.pc;unfold zmc at cf;unfold zi2;rw[D8];unfold P8 zcb;rw[cf,zR,xI,zb,zm];cases hf:zet p.pc with
 |false=>rfl
 |true=>
  obtain⟨f1,f2,f3,f4,f5,f6⟩:=q8 (zaA hf).org;rw[Yza (by simp),zg,zb,zW,zb,zm];by_cases h1:p.mems.els.length<=3
  .have h1':¬(3:Int)<(p.mems.els.length:Int):=by omega
   have l9:=zGA p.pc.org.divs (by omega) f6 p.pc.org.divs.els 0 (p.pc.org.divs.els.length+p.pc.org.cpls.els.length) rfl (by omega);rw[show (I6 ((0:Nat):Int):DV)=I6 0 from rfl]at l9;have ea:zc .add (I6 (p.pc.org.divs.els.length:Int)) (I6 (p.pc.org.cpls.els.length:Int))=some (I6 ((p.pc.org.divs.els.length+p.pc.org.cpls.els.length:Nat):Int)):=yG;rw[Yza (by grind)];have ed:decide (((p.pc.org.divs.els.length+p.pc.org.cpls.els.length+zjv p.pc.org.divs.els:Nat):Int)<=7)=decide (p.pc.org.divs.els.length+p.pc.org.cpls.els.length+zjv p.pc.org.divs.els<=7):=decide_eq_decide.2 (by omega);simp_all
  .grind
structure Prb where
 o:Org
 x:Pce
 hn:Int
 hs:Int
 fn:Int
 fs:Int
 mems:Sl Reg
 hp:Int
 k0:Int
 k1:Int
 k2:Int
 k3:Int
def yE(q:Prb):List DV:=[St q.o.name,enL 6 enR q.o.ranks,enL 5 enV q.o.divs,enL 5 enC q.o.cpls,enL 1 enW q.x.bars,enL 4 x7 q.x.notes,enL 4 zaC q.x.sets,I6 q.hn,I6 q.hs,I6 q.fn,I6 q.fs,enL 3 zY q.mems,I6 q.hp,I6 q.k0,I6 q.k1,I6 q.k2,I6 q.k3]
def zaM(p:CPl):Prb:=⟨zaW p.pc.org,zuI p.pc,((p.h0 % 4:Nat):Int),((p.h1 % 8:Nat):Int),1,5,grow (p.mems.els.map (wo (zaW p.pc.org))),((p.hp % 3:Nat):Int),((p.k0 % 8:Nat):Int),((p.k1 % 8:Nat):Int),((p.k2 % 8:Nat):Int),((p.k3 % 8:Nat):Int)⟩
theorem zDS(k:Nat)(o:Org)(x:List DV)(hd:o.divs.els.length<=60)(hs:∀d∈o.divs.els,d.stops.els.length<=60)(hc:o.cpls.els.length<=60)(l:Sl (Nat->Nat))(hl:l.els.length<=1000)(hb:∀b∈l.els,∀i,b i<256)(c0 c1 c2 c3 c4 c5 c6 c7 c8 c9 c10 c11 c12 c13 c14 c15:DV):
  ∀(r:List (Nat->Nat)) (i:Nat) (acc:List Reg),l.els.drop i=r->acc.length=i->
  zS (ztf (D (k+1)) (enL 5 enB l) [.agg (enO o),.agg x]) [I6 (i:Int),c0,c1,c2,c3,c4,c5,c6,c7,c8,c9,c10,c11,c12,c13,c14,c15] [ocL zY (grow acc)]=some (.exit 0,[c0,c1,c2,c3,c4,c5,c6,c7,c8,c9,c10,c11,c12,c13,c14,c15],[ocL zY (grow (acc++r.map (wo o)))]):=by
 intro r
 induction r with
 |nil=>intro i acc h ha;refine zr ?_;simp only[ztf,zA,yJ,yU,zg,zi,zb,wq (z6 h),zm,List.map_nil,YzP];rfl
 |cons b r ih=>
  intro i acc h ha;have hlt:=yn h;have hbb:=hb b (Lz3 (ye h));have ea:zc .add (I6 (i:Int)) (I6 1)=some (I6 ((i+1:Nat):Int)):=yG;have dr:=t14 k o b hbb hd hs hc;have ef:fits 40 ((grow acc).els.length+1)=true:=xf (by decide) (by grind[zN]);have e0:[atD (dsA (yR [.agg (enO o),.agg x] 0)) 0,atD (dsA (yR [.agg (enO o),.agg x] 0)) 1,atD (dsA (yR [.agg (enO o),.agg x] 0)) 2,atD (dsA (yR [.agg (enO o),.agg x] 0)) 3]=enO o:=rfl;have e1:[atD (enB b) 0,atD (enB b) 1,atD (enB b) 2,atD (enB b) 3,atD (enB b) 4]=enB b:=rfl;have e2:∀r:Reg,[atD (zY r) 0,atD (zY r) 1,atD (zY r) 2]=zY r:=fun r=>rfl;have body:ztf (D (k+1)) (enL 5 enB l) [.agg (enO o),.agg x] [I6 (i:Int),c0,c1,c2,c3,c4,c5,c6,c7,c8,c9,c10,c11,c12,c13,c14,c15] [ocL zY (grow acc)]=some (.normal,[I6 ((i+1:Nat):Int),c0,c1,c2,c3,c4,c5,c6,c7,c8,c9,c10,c11,c12,c13,c14,c15],[ocL zY (grow (acc++[wo o b]))]):=by rw[xx,<-wj (f:=zY)];simp only[ztf,zA,yJ,yU,zg,zi,zb,zbN hlt,zm,if_true,zX h,e0,e1,e2,dr,ztb,xQ,ef,xM,ea,xg]
  rw[zE body,ih (i+1) _ (zJ h) (by grind)];simp
theorem zEx{β:Type}(o:Org)(x:Pce)(K:List DS->Option β):bT [some 4,some 3] (some (.tup [.agg (enO o),.agg (zko x)])) K=K [.agg (enO o),.agg (zko x)]:=rfl
theorem zde{p:CPl}(h:zcb p=true):zet p.pc=true/\p.mems.els.length<=3/\p.pc.org.divs.els.length+p.pc.org.cpls.els.length+zjv p.pc.org.divs.els<=7:=by simp_all[zcb]
theorem t9(k:Nat)(p:CPl)(hp:p.ok)(hf:zcb p=true):D (k+9) 9 [SA (zi2 p)]=some (SA (yE (zaM p))):=by obtain⟨h45,hm,_⟩:=zde hf;obtain⟨s1,s2,s3⟩:=kO p.pc.org (zaA h45).org;have mk:=t32 k p.pc hp.pc h45;unfold zmc at mk;obtain⟨hpc,hml,hmb,h0,h1,h2,k0,k1,k2,k3⟩:=hp;have rm:∀(a b:Nat),b≠0->zc .rem (U8 (a:Int)) (U8 (b:Int))=some (U8 ((a % b:Nat):Int)):=fun a b hb=>zgG hb;have cv:∀(a:Nat),a<256->zx .i64 (U8 (a:Int))=some (I6 (a:Int)):=fun a ha=>vN;have m4:∀a:Nat,a % 4<256:=fun a=>Nat.lt_trans (Yzn _ (by decide)) (by decide);have m8:∀a:Nat,a % 8<256:=fun a=>Nat.lt_trans (Yzn _ (by decide)) (by decide);have m3:∀a:Nat,a % 3<256:=fun a=>Nat.lt_trans (Yzn _ (by decide)) (by decide);have r4:=fun a=>rm a 4 (by decide);have r8:=fun a=>rm a 8 (by decide);have r3:=fun a=>rm a 3 (by decide);rw[show (U8 ((4:Nat):Int):DV)=U8 4 from rfl]at r4;rw[show (U8 ((8:Nat):Int):DV)=U8 8 from rfl]at r8;rw[show (U8 ((3:Nat):Int):DV)=U8 3 from rfl]at r3;unfold zi2;rw[D9];unfold P9;rw[mk,zEx];simp only[y4,ww,r4,r8,r3,zb,cv _ (m4 _),cv _ (m8 _),cv _ (m3 _)];rw[show (I6 0:DV)=I6 ((0:Nat):Int) from rfl,show (none:OC)=ocL zY (grow []) from rfl];rw[zDS (k+7) (zaW p.pc.org) (zko (zuI p.pc)) (by omega) (fun d hd=>Yzl (s2 d hd) (by decide)) (by omega) p.mems (by omega) hmb _ _ _ _ _ _ _ _ _ _ _ _ _ _ _ _ p.mems.els 0 [] rfl rfl];simp only[yi,Yzq,Yzb,zA,yJ,yU,zbf,YzM];rfl
end Go.Proofs.Tryz.Kn
end
section
namespace Go.Proofs.Tryz.Kn
open Go Go.CE Go.PE
def ud(m n:Int):Bool:=decide (n<0)||decide (m<n)
theorem i0:(I6 0:DV)=I6 ((0:Nat):Int):=rfl
theorem zBN(F:DV->DV->List DV->List OC->Option PX)(m:Int)(id:Nat)(a c:Int)
  (h0:F (I6 a) (I6 c) [I6 0] []=some (if ud m a then(.ret,[I6 3],[]) else(.normal,[I6 1],[])))
  (h1:F (I6 a) (I6 c) [I6 1] []=some (if ud m c then(.ret,[I6 3],[]) else(.normal,[I6 2],[])))
  (h2:F (I6 a) (I6 c) [I6 2] []=some (.exit id,[],[])):
  zS (F (I6 a) (I6 c)) [I6 0] []=some (zhz id (if ud m a||ud m c then 3 else 0)):=by
 cases ha:ud m a with
 |true=>rw[ha,Yzc rfl]at h0;rw[zz h0];rfl
 |false=>
  rw[ha,Yza (by decide)]at h0;rw[zE h0];cases hc:ud m c with
  |true=>rw[hc,Yzc rfl]at h1;rw[zz h1];rfl
  |false=>rw[hc,Yza (by decide)]at h1;rw[zE h1,zr h2];rfl
def zan(hn hs fn fs:Int):Int:=if ud 10 hn||ud 10 fn then 3 else if ud 127 hs||ud 127 fs then 3 else 0
theorem qe:uc 2 (I6 0)=some 0:=uP (i:=0) (by decide)
theorem qd:uc 2 (I6 1)=some 1:=uP (i:=1) (by decide)
theorem a01:zc .add (I6 0) (I6 1)=some (I6 1):=yG
theorem a11:zc .add (I6 1) (I6 1)=some (I6 2):=yG
theorem a21:zc .add (I6 2) (I6 1)=some (I6 3):=yG
theorem a31:zc .add (I6 3) (I6 1)=some (I6 4):=yG
theorem t23(k:Nat)(hn hs fn fs:Int):D (k+1) 23 [SA [I6 hn,I6 hs,I6 fn,I6 fs]]=some (S1 (I6 (zan hn hs fn fs))):=by
  have l1:=zBN (fun a c=>ztr a c) 10 0 hn fn
    (by simp only [ztr, zA, zi, zb, qe, y4, zW, zm, a01, ud]
        grind)
    (by simp only [ztr, zA, zi, zb, qd, y4, ww, zW, zm, a11, ud]
        grind)
    (by rfl)
  have l2:=zBN (fun a c=>zhG a c) 127 2 hs fs
    (by simp only [zhG, zA, zi, zb, qe, y4, zW, zm, a01, ud]
        grind)
    (by simp only [zhG, zA, zi, zb, qd, y4, ww, zW, zm, a11, ud]
        grind)
    (by rfl)
  rw[D23];unfold P23 zan;rw[l1];cases h1:(ud 10 hn||ud 10 fn) with
  |true=>rfl
  |false=>show yP (zS (zhG (I6 hs) (I6 fs)) [I6 0] []) _ _=_;rw[l2];cases h2:(ud 127 hs||ud 127 fs)<;>rfl
def zb9(o:Org):List Reg->Int
 | []=>0
 |r::l=>if wI o r≠0 then wI o r else zb9 o l
theorem zDG(k:Nat)(o:Org)(ho:o.ok)(l:Sl Reg)(hl:l.els.length<=1000):∀(r:List Reg) (i:Nat),l.els.drop i=r->
  zS (ztp (D (k+10)) (I6 (l.els.length:Int)) (enL 3 zY l) (St o.name) (enL 6 enR o.ranks) (enL 5 enV o.divs) (enL 5 enC o.cpls)) [I6 (i:Int)] []=some (zhz 0 (zb9 o r)):=by
 intro r
 induction r with
 |nil=>
  intro i h;refine zr ?_
  grind[ztp,zA,zi,zb,wq,z6,zm]
 |cons x r ih=>
  intro i h;have hlt:=yn h;have ea:zc .add (I6 (i:Int)) (I6 1)=some (I6 ((i+1:Nat):Int)):=yG;have rc:=t24 k o ho x;unfold enO zY at rc;have body:ztp (D (k+10)) (I6 (l.els.length:Int)) (enL 3 zY l) (St o.name) (enL 6 enR o.ranks) (enL 5 enV o.divs) (enL 5 enC o.cpls) [I6 (i:Int)] []=some (if wI o x≠0 then(.ret,[I6 (wI o x)],[]) else(.normal,[I6 ((i+1:Nat):Int)],[])):=by
   simp only[ztp,zA,zi,zb,zbN hlt,zm,if_true,zX h,zY,y4,ww,rc,zR,z7,ea]
   grind
  unfold zb9;by_cases h5:wI o x≠0
  .rw[Yzc h5]at body ⊢;rw[zz body];simp_all[zhz]
  .rw[Yza h5]at body ⊢;rw[zE body,ih (i+1) (zJ h)]
theorem q0:uc 4 (I6 0)=some 0:=uP (i:=0) (by decide)
theorem q1:uc 4 (I6 1)=some 1:=uP (i:=1) (by decide)
theorem q2:uc 4 (I6 2)=some 2:=uP (i:=2) (by decide)
theorem q3:uc 4 (I6 3)=some 3:=uP (i:=3) (by decide)
theorem zA4(a b c d:Int):zS (zaO (I6 a) (I6 b) (I6 c) (I6 d)) [I6 0] []=some (zhz 2 (if ud 1000 a||ud 1000 b||ud 1000 c||ud 1000 d then 3 else 0)):=by
 have h0:zaO (I6 a) (I6 b) (I6 c) (I6 d) [I6 0] []=some (if ud 1000 a then(.ret,[I6 3],[]) else(.normal,[I6 1],[])):=by
  simp only[zaO,zA,zi,zb,q0,y4,zW,zm,a01,ud]
  grind
 have h1:zaO (I6 a) (I6 b) (I6 c) (I6 d) [I6 1] []=some (if ud 1000 b then(.ret,[I6 3],[]) else(.normal,[I6 2],[])):=by
  simp only[zaO,zA,zi,zb,q1,y4,ww,zW,zm,a11,ud]
  grind
 have h2:zaO (I6 a) (I6 b) (I6 c) (I6 d) [I6 2] []=some (if ud 1000 c then(.ret,[I6 3],[]) else(.normal,[I6 3],[])):=by
  simp only[zaO,zA,zi,zb,q2,y4,ww,zW,zm,a21,ud]
  grind
 have h3:zaO (I6 a) (I6 b) (I6 c) (I6 d) [I6 3] []=some (if ud 1000 d then(.ret,[I6 3],[]) else(.normal,[I6 4],[])):=by
  simp only[zaO,zA,zi,zb,q3,y4,ww,zW,zm,a31,ud]
  grind
 have h4:zaO (I6 a) (I6 b) (I6 c) (I6 d) [I6 4] []=some (.exit 2,[],[]):=by rfl
 cases ha:ud 1000 a with
 |true=>rw[ha,Yzc rfl]at h0;rw[zz h0];rfl
 |false=>
  rw[ha,Yza (by decide)]at h0;rw[zE h0];cases hb:ud 1000 b with
  |true=>rw[hb,Yzc rfl]at h1;rw[zz h1];rfl
  |false=>
   rw[hb,Yza (by decide)]at h1;rw[zE h1];cases hc:ud 1000 c with
   |true=>rw[hc,Yzc rfl]at h2;rw[zz h2];rfl
   |false=>
    rw[hc,Yza (by decide)]at h2;rw[zE h2];cases hd:ud 1000 d with
    |true=>rw[hd,Yzc rfl]at h3;rw[zz h3];rfl
    |false=>rw[hd,Yza (by decide)]at h3;rw[zE h3,zr h4];rfl
def zmu(q:Prb):Int:=if zcT q.o q.x≠0 then zcT q.o q.x else if zan q.hn q.hs q.fn q.fs≠0 then zan q.hn q.hs q.fn q.fs else if 40<q.mems.els.length then 4 else if zb9 q.o q.mems.els≠0 then zb9 q.o q.mems.els else if ud 20 q.hp then 3 else if ud 1000 q.k0||ud 1000 q.k1||ud 1000 q.k2||ud 1000 q.k3 then 3 else 0
structure Prb.ok (q:Prb):Prop where
 o:q.o.ok
 bl:q.x.bars.els.length<=9223372036854775807
theorem t25(k:Nat)(q:Prb)(hq:q.ok):D (k+12) 25 [SA (yE q)]=some (S1 (I6 (zmu q))):=by
 have pc:=t22 k q.o hq.o q.x hq.bl;have sc:=t23 (k+10) q.hn q.hs q.fn q.fs;unfold enO zko at pc;unfold yE;rw[D25];unfold P25 zmu;simp only[pc,sc,zR,z7,zW,zi,zb,zm,zg,Yzo];by_cases h1:zcT q.o q.x=0
 .by_cases h2:zan q.hn q.hs q.fn q.fs=0
  .by_cases h3:40<q.mems.els.length
   .grind
   .have:¬(40:Int)<(q.mems.els.length:Int):=by omega
    have l9:=zDG (k+1) q.o hq.o q.mems (by omega) q.mems.els 0 rfl;rw[<-i0]at l9;have l21:=zA4 q.k0 q.k1 q.k2 q.k3;simp only[h1,h2,h3,this,l9,l21];unfold zhz;by_cases h4:zb9 q.o q.mems.els=0
    .unfold ud;by_cases h5:q.hp<0
     .simp_all
     by_cases h6:20<q.hp
     .simp_all
     simp only[h4,h5,h6];generalize (decide (q.k0<0)||decide (1000<q.k0)||(decide (q.k1<0)||decide (1000<q.k1))||(decide (q.k2<0)||decide (1000<q.k2))||(decide (q.k3<0)||decide (1000<q.k3)))=z;cases z<;>simp
    simp_all
  .grind
 grind
theorem zj5(o:Org):∀l:List Reg,(∀r∈l,wI o r=0)->zb9 o l=0
 | [],_=>rfl
 |r::l,h=>by unfold zb9;rw[Yza (by grind)];exact zj5 o l fun x hx=>h x (Yze _ hx)
theorem zco{m n:Int}(h0:0<=n)(h1:n<=m):ud m n=false:=by grind[ud]
theorem zxE(p:CPl)(hf:zcb p=true):(zaM p).ok:=by obtain⟨h45,hm,_⟩:=zde hf;have h:=zaA h45;have b4:=h.b4;exact⟨zxF _ h.org,by show (0::wN 0 p.pc.bars.els).length<=_;grind[uJ]⟩
theorem zhh(p:CPl)(hp:p.ok)(hf:zcb p=true):zmu (zaM p)=0:=by
 obtain⟨h45,hm,_⟩:=zde hf;have h:=zaA h45;have h0:=zhj p.pc.org hp.pc.org h.org;obtain⟨s1,s2,s3⟩:=kO p.pc.org h.org;have em:(zaM p).mems.els=p.mems.els.map (wo (zaW p.pc.org)):=zN _;have m0:p.h0 % 4<4:=Yzn _ (by decide);have m1:p.h1 % 8<8:=Yzn _ (by decide);have m2:p.hp % 3<3:=Yzn _ (by decide);have n0:p.k0 % 8<8:=Yzn _ (by decide);have n1:p.k1 % 8<8:=Yzn _ (by decide);have n2:p.k2 % 8<8:=Yzn _ (by decide);have n3:p.k3 % 8<8:=Yzn _ (by decide);have e1:zcT (zaM p).o (zaM p).x=0:=zhi p.pc hp.pc h;have e2:zan (zaM p).hn (zaM p).hs (zaM p).fn (zaM p).fs=0:=by grind[zan,zaM,zco]
 have e3:zb9 (zaM p).o (zaM p).mems.els=0:=by rw[em];refine zj5 _ _ fun r hr=>?_;obtain⟨b,hb,rfl⟩:=List.mem_map.1 hr;exact zee h0 b (hp.mb b hb) s1 s2 s3
 unfold zmu;rw[e1,Yza (by simp),e2,Yza (by simp),em,Yzm,Yza (by omega),<-em,e3,Yza (by simp),
  show ud 20 (zaM p).hp=false from zco (by show (0:Int)<=((p.hp % 3:Nat):Int);omega) (by show ((p.hp % 3:Nat):Int)<=20;omega),
  show ud 1000 (zaM p).k0=false from zco (by show (0:Int)<=((p.k0 % 8:Nat):Int);omega) (by show ((p.k0 % 8:Nat):Int)<=1000;omega),
  show ud 1000 (zaM p).k1=false from zco (by show (0:Int)<=((p.k1 % 8:Nat):Int);omega) (by show ((p.k1 % 8:Nat):Int)<=1000;omega),
  show ud 1000 (zaM p).k2=false from zco (by show (0:Int)<=((p.k2 % 8:Nat):Int);omega) (by show ((p.k2 % 8:Nat):Int)<=1000;omega),
  show ud 1000 (zaM p).k3=false from zco (by show (0:Int)<=((p.k3 % 8:Nat):Int);omega) (by show ((p.k3 % 8:Nat):Int)<=1000;omega)]
 rfl
end Go.Proofs.Tryz.Kn
end
section
namespace Go.Proofs.Tryz.Kn
open Go Go.CE Go.PE
def okN(o:Org)(n:Zh):Prop:=0<=n.div/\n.div<(o.divs.els.length:Int)/\0<=n.key/\n.key<=55
structure Prb.fine (q:Prb):Prop where
 nl:q.x.notes.els.length<=1000
 nt:∀n∈q.x.notes.els,okN q.o n
 sp:zan q.hn q.hs q.fn q.fs=0
 b0:0<q.x.bars.els.length
 b1:q.x.bars.els.length<=1000000
theorem zFr{β:Type}(a b:DV)(K:List DS->Option β):bT [none,none] (some (.tup [.one a,.one b])) K=K [.one a,.one b]:=rfl
theorem zpa{o:Org}(h0:0<o.divs.els.length)(hr:∀d∈o.divs.els,0<=d.low/\d.low<=d.high/\d.high<=55)(E:Nat)(s:Snd):okN o (wX o.divs.els E s):=by
 have hi:s.dv % o.divs.els.length<o.divs.els.length:=Yzn _ h0;obtain⟨d,hd⟩:∃d,o.divs.els[s.dv % o.divs.els.length]? = some d:=⟨_,Lz5 hi⟩;obtain⟨r0,r1,r2⟩:=hr d (Lz3 hd);have hk:s.key % (d.high-d.low+1).toNat<(d.high-d.low+1).toNat:=Yzn _ (by omega)
 grind[okN,wX]
theorem zdF{o:Org}(h0:0<o.divs.els.length)(hr:∀d∈o.divs.els,0<=d.low/\d.low<=d.high/\d.high<=55)(E:Nat):∀(r:List Snd) (acc:List Zh),(∀n∈acc,okN o n)->∀n∈uD o.divs.els E acc r,okN o n
 | [],_,h=>h
 |s::r,acc,h=>by
  unfold uD;split
  .exact zdF h0 hr E r acc h
  .refine zdF h0 hr E r _ fun n hn=>?_
   grind[zpa]
theorem zj2(rs:List Zm):∀(l:List Boa) (i:Nat),∀d∈vW rs i l,0<=d.low/\d.low<=d.high/\d.high<=55
 | [],_,_,h=>by cases h
 |b::l,i,d,h=>by
  rcases Yya.1 h with rfl|h
  .show 0<=zfM b/\zfM b<=zbi b/\zbi b<=55
   grind[zbi,zfM]
  .exact zj2 rs l (i+1) d h
theorem zxG(p:Pln):∀d∈(zaW p).divs.els,0<=d.low/\d.low<=d.high/\d.high<=55:=by unfold zaW;rw[zN];exact zj2 _ _ _
theorem zrK(p:CPl)(hp:p.ok)(hf:zcb p=true):(zaM p).fine:=by
 obtain⟨h45,hm,_⟩:=zde hf;have h:=zaA h45;have b4:=h.b4;have n8:=h.n8
 have hl:=zbJ (zaW p.pc.org).divs.els (zpU p.pc) p.pc.notes.els [];have e1:(zaM p).x.notes.els=uD (zaW p.pc.org).divs.els (zpU p.pc) [] p.pc.notes.els:=zN _;have e2:(zaM p).x.bars.els.length=p.pc.bars.els.length+1:=by show (0::wN 0 p.pc.bars.els).length=_;rw[Yzh,uJ]
 have c0:=zhh p hp hf;refine⟨by grind,?_,?_,by omega,by omega⟩
 .rw[e1];exact zdF (o:=zaW p.pc.org) (zbM p.pc.org h.org) (zxG p.pc.org) _ _ _ fun n hn=>by cases hn
 .refine Classical.byContradiction fun hne=>?_;unfold zmu at c0;omega
theorem zHi{β:Type}(q:Prb)(K:List DV->Option β):bA 17 (some (SA (yE q))) K=K (yE q):=rfl
theorem qf{β:Type}(a b c:DV)(K:List DS->Option β):bT [none,none,none] (some (.tup [.one a,.one b,.one c])) K=K [.one a,.one b,.one c]:=rfl
end Go.Proofs.Tryz.Kn
end
section
namespace Go.Proofs.Tryz.Kn
open Go Go.CE Go.PE
section
variable {β:Type} {x y:Int} {k:DV->Option β} {a b:Option β}
theorem vM(h:x=y):za (zc .eql (I6 x) (I6 y)) k=k (Bo true):=by rw[xO,zb,h,Yyh]
theorem yL(h:¬x=y):za (zc .eql (I6 x) (I6 y)) k=k (Bo false):=by rw[xO,zb,show (x==y)=false from beq_eq_false_iff_ne.2 h]
theorem zaT(h:x<y):za (zc .lss (I6 x) (I6 y)) k=k (Bo true):=by rw[zi,zb,decide_eq_true h]
theorem uE(h:¬x<y):za (zc .lss (I6 x) (I6 y)) k=k (Bo false):=by rw[zi,zb,decide_eq_false h]
theorem zsn(h:x > y):za (zc .gtr (I6 x) (I6 y)) k=k (Bo true):=by rw[zW,zb,decide_eq_true h]
theorem zgK(h:¬x > y):za (zc .gtr (I6 x) (I6 y)) k=k (Bo false):=by rw[zW,zb,decide_eq_false h]
theorem yl:ifB (Bo true) a b=a:=rfl
theorem zK:ifB (Bo false) a b=b:=rfl
theorem zin:za (zbG (Bo true)) k=k (Bo false):=rfl
end
end Go.Proofs.Tryz.Kn
end
section
namespace Go.Proofs.Tryz.Kn
open Go Go.CE Go.PE
theorem kK{β:Type}(v:DV)(K:List DS->Option β):bT [some 3,none] (some (.tup [.agg [.nils,U64 0,U64 0],.one v])) K=K [.agg [.nils,U64 0,U64 0],.one v]:=rfl
end Go.Proofs.Tryz.Kn
end
section
namespace Go.Proofs.Tryz.Kn
open Go Go.CE Go.PE
theorem kV(ns:List Zh)(h0:0<ns.length)(kd a:Nat)(ha:a<256)(w:Int)(X Z:DV):∃ns':List Zh,ns'.length=ns.length/\wt (U8 (a:Int)) (ns.map x7) (U8 (kd:Int)) (.int .i8 w) X Z=some (SA [X,.lst 4 (ns'.map x7),Z]):=by
 have e1:zx .i64 (U8 (a:Int))=some (I6 (a:Int)):=vN;have hi:a % ns.length<ns.length:=Yzn _ h0;have e2:zc .rem (I6 (a:Int)) (I6 (ns.length:Int))=some (I6 ((a % ns.length:Nat):Int)):=zgG (Nat.ne_of_gt h0);have e3:zO (some (ns.map x7)) (I6 ((a % ns.length:Nat):Int))=some (a % ns.length):=zcU (by rw[Yzm];exact hi);obtain⟨n,hn⟩:∃n,ns[a % ns.length]? = some n:=⟨_,Lz5 hi⟩;have e4:xY (some (ns.map x7)) (a % ns.length)=some (x7 n):=by rw[zcY,hn];rfl
 obtain⟨v,ev⟩:∃v,zx .i64 (.int .i8 w)=some (I6 v):=⟨_,rfl⟩;have e5:zc .rem (U8 (kd:Int)) (U8 12)=some (U8 ((kd % 12:Nat):Int)):=zgG (b:=12) (by decide);obtain⟨y0,f0⟩:∃y,zc .add (I6 n.st) (I6 v)=some (I6 y):=⟨_,rfl⟩;obtain⟨y1,f1⟩:∃y,zc .add (I6 n.fin) (I6 v)=some (I6 y):=⟨_,rfl⟩;obtain⟨y2,f2⟩:∃y,zc .add (I6 n.div) (I6 v)=some (I6 y):=⟨_,rfl⟩;obtain⟨y3,f3⟩:∃y,zc .add (I6 n.key) (I6 v)=some (I6 y):=⟨_,rfl⟩;have g0:zc .add (atD (x7 n) 0) (I6 v)=some (I6 y0):=f0;have g1:zc .add (atD (x7 n) 1) (I6 v)=some (I6 y1):=f1;have g2:zc .add (atD (x7 n) 2) (I6 v)=some (I6 y2):=f2;have g3:zc .add (atD (x7 n) 3) (I6 v)=some (I6 y3):=f3;have s0:=jw (f:=x7) (st:=4) (off:=0) (ds:=[I6 y0]) (x':=⟨y0,n.fin,n.div,n.key⟩) hn (by simp) rfl;have s1:=jw (f:=x7) (st:=4) (off:=1) (ds:=[I6 y1]) (x':=⟨n.st,y1,n.div,n.key⟩) hn (by simp) rfl;have s2:=jw (f:=x7) (st:=4) (off:=2) (ds:=[I6 y2]) (x':=⟨n.st,n.fin,y2,n.key⟩) hn (by simp) rfl;have s3:=jw (f:=x7) (st:=4) (off:=3) (ds:=[I6 y3]) (x':=⟨n.st,n.fin,n.div,y3⟩) hn (by simp) rfl;unfold wt;simp only[e1,zb,x6,k8,Yzm,zAw,e2,e3,e5,xO,zm,e4,ev,g0,g1,g2,g3,s0,s1,s2,s3];split
 .exact⟨_,List.length_set ..,rfl⟩
 split
 .exact⟨_,List.length_set ..,rfl⟩
 split
 .exact⟨_,List.length_set ..,rfl⟩
 split
 .exact⟨_,List.length_set ..,rfl⟩
 exact⟨ns,rfl,rfl⟩
theorem jz(ns:List Zh)(hl:ns.length<=1000)(kd a:Nat)(ha:a<256)(w:Int)(X Z:DV):∃ns':List Zh,ns'.length=ns.length/\
  (za (zc .eql (I6 (Int.ofNat (xH (zP (some []) (ns.map x7))))) (I6 0)) fun v=>ifB v (some (SA [X,mkL 4 (zP (some []) (ns.map x7)),Z])) (wt (U8 (a:Int)) (ns.map x7) (U8 (kd:Int)) (.int .i8 w) X Z))=some (SA [X,.lst 4 (ns'.map x7),Z]):=by
 rw[x6,xO,zb,zm];cases ns with
 |nil=>exact⟨[],rfl,rfl⟩
 |cons n r=>obtain⟨ns',h1,h2⟩:=kV (n::r) (Nat.succ_pos _) kd a ha w X Z;refine⟨ns',h1,?_⟩;rw[Yza,h2];simp only[k8,Yzm,Yzh,zAw];exact fun h=>absurd (of_decide_eq_true h) (by omega)
theorem kf(a1_1 a1_0 a1_2 X Z:DV):(za (zV .nils) fun v=>za (zc .eql v (I6 0)) fun z=>ifB z (some (SA [X,.nils,Z])) (wy a1_1 a1_0 a1_2 X Z))=some (SA [X,.nils,Z]):=rfl
theorem jZ(ss:List Stg)(h0:0<ss.length)(kd a:Nat)(ha:a<256)(w:Int)(K:DV->Option DA):∃ss':List Stg,ss'.length=ss.length/\
  (za (zx .i64 (U8 (a : Int))) fun v1 => za (zc .rem v1 (I6 (Int.ofNat (xH (zP (some []) (ss.map zaC)))))) fun v2 => za (zO (zP (some []) (ss.map zaC)) v2) fun n => za (zc .rem (U8 (kd : Int)) (U8 12)) fun v3 => za (zc .eql v3 (U8 6)) fun v4 =>
   ifB v4 (za (xY (zP (some []) (ss.map zaC)) n) fun x=>za (zx .i64 (.int .i8 w)) fun v=>za (zc .add (atD x 0) v) fun v5=>za (zaR 4 (zP (some []) (ss.map zaC)) n 0 [v5]) fun q=>K (mkL 4 q))
    (za (zc .eql v3 (U8 7)) fun v6 => ifB v6 (za (xY (zP (some []) (ss.map zaC)) n) fun x => za (zc .rem (U8 (a : Int)) (U8 64)) fun v7 => za (zq true (U64 1) v7) fun v8 => za (zc .or (atD x 2) v8) fun v9 => za (zaR 4 (zP (some []) (ss.map zaC)) n 2 [v9]) fun q => K (mkL 4 q))
     (K (mkL 4 (zP (some []) (ss.map zaC))))))=K (.lst 4 (ss'.map zaC)):=by
 have e1:zx .i64 (U8 (a:Int))=some (I6 (a:Int)):=vN;have hi:a % ss.length<ss.length:=Yzn _ h0;have e2:zc .rem (I6 (a:Int)) (I6 (ss.length:Int))=some (I6 ((a % ss.length:Nat):Int)):=zgG (Nat.ne_of_gt h0);have e3:zO (some (ss.map zaC)) (I6 ((a % ss.length:Nat):Int))=some (a % ss.length):=zcU (by rw[Yzm];exact hi);obtain⟨n,hn⟩:∃n,ss[a % ss.length]? = some n:=⟨_,Lz5 hi⟩;have e4:xY (some (ss.map zaC)) (a % ss.length)=some (zaC n):=by rw[zcY,hn];rfl
 obtain⟨v,ev⟩:∃v,zx .i64 (.int .i8 w)=some (I6 v):=⟨_,rfl⟩;have e5:zc .rem (U8 (kd:Int)) (U8 12)=some (U8 ((kd % 12:Nat):Int)):=zgG (b:=12) (by decide);have e6:zc .rem (U8 (a:Int)) (U8 64)=some (U8 ((a % 64:Nat):Int)):=zgG (b:=64) (by decide);obtain⟨z,ez⟩:∃z,zq true (U64 1) (U8 ((a % 64:Nat):Int))=some (U64 z):=⟨_,rfl⟩;obtain⟨y0,f0⟩:∃y,zc .add (I6 n.bar) (I6 v)=some (I6 y):=⟨_,rfl⟩;obtain⟨y2,f2⟩:∃y,zc .or (U64 n.reg.cpls) (U64 z)=some (U64 y):=⟨_,rfl⟩;have g0:zc .add (atD (zaC n) 0) (I6 v)=some (I6 y0):=f0;have g2:zc .or (atD (zaC n) 2) (U64 z)=some (U64 y2):=f2;have s0:=jw (f:=zaC) (st:=4) (off:=0) (ds:=[I6 y0]) (x':=⟨y0,n.reg⟩) hn (by simp) rfl;have s2:=jw (f:=zaC) (st:=4) (off:=2) (ds:=[U64 y2]) (x':=⟨n.bar,n.reg.stops,y2,n.reg.off⟩) hn (by simp) rfl;simp only[e1,zb,x6,k8,Yzm,zAw,e2,e3,e5,xO,zm,e4,ev,g0,g2,s0,s2,e6,ez];split
 .exact⟨_,List.length_set ..,rfl⟩
 split
 .exact⟨_,List.length_set ..,rfl⟩
 exact⟨ss,rfl,rfl⟩
theorem kX(ss:List Stg)(h0:0<ss.length)(ns:List Zh)(hl:ns.length<=1000)(kd a:Nat)(ha:a<256)(w:Int)(X:DV):∃(ss':List Stg) (ns':List Zh),ss'.length=ss.length/\ns'.length=ns.length/\
  jd (U8 (a:Int)) (ss.map zaC) (U8 (kd:Int)) (.int .i8 w) (ns.map x7) X=some (SA [X,.lst 4 (ns'.map x7),.lst 4 (ss'.map zaC)]):=by
 obtain⟨ss',h1,h2⟩:=jZ ss h0 kd a ha w fun Z=>za (zc .eql (I6 (Int.ofNat (xH (zP (some []) (ns.map x7))))) (I6 0)) fun v=>ifB v (some (SA [X,mkL 4 (zP (some []) (ns.map x7)),Z])) (wt (U8 (a:Int)) (ns.map x7) (U8 (kd:Int)) (.int .i8 w) X Z);obtain⟨ns',h3,h4⟩:=jz ns hl kd a ha w X (.lst 4 (ss'.map zaC));exact⟨ss',ns',h1,h3,h2.trans h4⟩
theorem kW(ss:List Stg)(h0:0<ss.length)(kd a:Nat)(ha:a<256)(w:Int)(X:DV):∃ss':List Stg,ss'.length=ss.length/\
  jc (U8 (a:Int)) (ss.map zaC) (U8 (kd:Int)) (.int .i8 w) X=some (SA [X,.nils,.lst 4 (ss'.map zaC)]):=by
 obtain⟨ss',h1,h2⟩:=jZ ss h0 kd a ha w fun Z=>za (zV .nils) fun v=>za (zc .eql v (I6 0)) fun z=>ifB z (some (SA [X,.nils,Z])) (wy (U8 (a:Int)) (U8 (kd:Int)) (.int .i8 w) X Z);exact⟨ss',h1,h2⟩
def Good(r:Option DA):Prop:=∃x':Pce,x'.bars.els.length<=1001/\r=some (SA (zko x'))
theorem kH(a:Nat)(ha:a<256)(L0 L1:DV):∀(m:Nat) (l:List Int),0<l.length->l.length<=200+a % 4->200+a % 4-l.length=m->
  ∃l':List Int,l'.length<=203/\zS (u1 (U8 (a:Int))) [L0,L1] [some (l.map enW)]=some (.exit 1,[L0,L1],[some (l'.map enW)]):=by
 have e1:zc .rem (U8 (a:Int)) (U8 4)=some (U8 ((a % 4:Nat):Int)):=zgG (b:=4) (by decide);have h4:a % 4<4:=Yzn _ (by decide);have e2:zx .i64 (U8 ((a % 4:Nat):Int))=some (I6 ((a % 4:Nat):Int)):=vN;have e3:zc .add (I6 200) (I6 ((a % 4:Nat):Int))=some (I6 ((200+a % 4:Nat):Int)):=by rw[show ((200+a % 4:Nat):Int)=200+((a % 4:Nat):Int) by omega];exact yG
 intro m
 induction m with
 |zero=>intro l h0 h1 h2;refine⟨l,by omega,zr ?_⟩;have:decide ((l.length:Int)<((200+a % 4:Nat):Int))=false:=wq (by omega);simp only[u1,e1,e2,e3,zb,yU,zA,yJ,k8,Yzm,zAw,zi,this,zm];rfl
 |succ m ih=>
  intro l h0 h1 h2;have hlt:decide ((l.length:Int)<((200+a % 4:Nat):Int))=true:=zbN (by omega);have es:zc .sub (I6 (l.length:Int)) (I6 1)=some (I6 ((l.length-1:Nat):Int)):=by rw[show ((l.length-1:Nat):Int)=(l.length:Int)-1 by omega];exact zci
  have ix:zO (some (l.map enW)) (I6 ((l.length-1:Nat):Int))=some (l.length-1):=zcU (by rw[Yzm];omega);obtain⟨x,hx⟩:∃x,l[l.length-1]? = some x:=⟨_,Lz5 (by omega)⟩;have nx:xY (some (l.map enW)) (l.length-1)=some (enW x):=by rw[zcY,hx];rfl
  obtain⟨y,hy⟩:∃y,zc .add (I6 x) (I6 1)=some (I6 y):=⟨_,rfl⟩;have hy':zc .add (atD (enW x) 0) (I6 1)=some (I6 y):=hy;have ef:fits 8 (l.length+1)=true:=xf (by decide) (by omega);have body:u1 (U8 (a:Int)) [L0,L1] [some (l.map enW)]=some (.normal,[L0,L1],[some ((l++[y]).map enW)]):=by simp only[u1,e1,e2,e3,zb,yU,zA,yJ,k8,Yzm,zAw,zi,hlt,zm,if_true,es,ix,nx,hy',ef,xM,zcy];rw[Yye];rfl
  obtain⟨l',g1,g2⟩:=ih (l++[y]) (by simp) (by simp;omega) (by simp;omega);exact⟨l',g1,by rw[zE body,g2]⟩
theorem jH(bs:List Int)(h0:0<bs.length)(hl:bs.length<=200)(kd a:Nat)(ha:a<256)(w:Int)(R:DV->Option DA)(Q:Option DA)(L0 L1:DV)
  (hR:∀bs':List Int,bs'.length<=1001->Good (R (.lst 1 (bs'.map enW)))) (hQ:kd % 12=5->Good Q)
  (h3:∀bs':List Int,bs'.length<=1001->kd % 12=3->Good (u5 [L0,L1] (U8 (a:Int)) (U8 (kd:Int)) (.int .i8 w) (.lst 1 (bs'.map enW)))):
  Good (za (zx .i64 (U8 (a:Int))) fun v1=>za (zc .rem v1 (I6 (Int.ofNat (xH (zP (some []) (bs.map enW)))))) fun v2=>za (zc .rem (U8 (kd:Int)) (U8 12)) fun v3=>za (zc .eql v3 (U8 1)) fun v4=>
   ifB v4 (za (zO (zP (some []) (bs.map enW)) v2) fun n=>za (xY (zP (some []) (bs.map enW)) n) fun x=>za (zx .i64 (.int .i8 w)) fun v=>za (zc .add (atD x 0) v) fun v5=>za (zO (zP (some []) (bs.map enW)) v2) fun n2=>za (zaR 1 (zP (some []) (bs.map enW)) n2 0 [v5]) fun q=>R (mkL 1 q))
   (za (zc .eql v3 (U8 2)) fun v6=>ifB v6 (za (vwB none (some v2) (xH (zP (some []) (bs.map enW)))) fun p=>R (zud 1 p.1 p.2 (mkL 1 (zP (some []) (bs.map enW)))))
   (za (zc .eql v3 (U8 3)) fun v7=>ifB v7 (yP (zS (u1 (U8 (a:Int))) [L0,L1] [zP (some []) (bs.map enW)]) (fun i L M=>bif Nat.beq i 1 then u5 L (U8 (a:Int)) (U8 (kd:Int)) (.int .i8 w) (mkL 1 (yf M 0)) else(bif Nat.beq i 0 then u5 L (U8 (a:Int)) (U8 (kd:Int)) (.int .i8 w) (mkL 1 (yf M 0)) else none)) (fun _ _=>none))
   (za (zc .eql v3 (U8 4)) fun v8=>ifB v8 (za (zc .rem (U8 (a:Int)) (U8 5)) fun v9=>za (zx .i64 v9) fun v=>za (zc .add (I6 99998) v) fun v10=>gd (fits 8 (xH (zP (some []) (bs.map enW))+1)) (R (.lst 1 (z5 (zP (some []) (bs.map enW))++[[v10]]))))
   (za (zc .eql v3 (U8 5)) fun v11=>ifB v11 Q (R (mkL 1 (zP (some []) (bs.map enW))))))))):=by
 have e1:zx .i64 (U8 (a:Int))=some (I6 (a:Int)):=vN;have hi:a % bs.length<bs.length:=Yzn _ h0;have e2:zc .rem (I6 (a:Int)) (I6 (bs.length:Int))=some (I6 ((a % bs.length:Nat):Int)):=zgG (Nat.ne_of_gt h0);have e3:zO (some (bs.map enW)) (I6 ((a % bs.length:Nat):Int))=some (a % bs.length):=zcU (by rw[Yzm];exact hi);obtain⟨n,hn⟩:∃n,bs[a % bs.length]? = some n:=⟨_,Lz5 hi⟩;have e4:xY (some (bs.map enW)) (a % bs.length)=some (enW n):=by rw[zcY,hn];rfl
 obtain⟨v,ev⟩:∃v,zx .i64 (.int .i8 w)=some (I6 v):=⟨_,rfl⟩;have e5:zc .rem (U8 (kd:Int)) (U8 12)=some (U8 ((kd % 12:Nat):Int)):=zgG (b:=12) (by decide);have e6:zc .rem (U8 (a:Int)) (U8 5)=some (U8 ((a % 5:Nat):Int)):=zgG (b:=5) (by decide);have e7:zx .i64 (U8 ((a % 5:Nat):Int))=some (I6 ((a % 5:Nat):Int)):=vN;obtain⟨z,ez⟩:∃z,zc .add (I6 99998) (I6 ((a % 5:Nat):Int))=some (I6 z):=⟨_,rfl⟩;obtain⟨y,f0⟩:∃y,zc .add (I6 n) (I6 v)=some (I6 y):=⟨_,rfl⟩;have g0:zc .add (atD (enW n) 0) (I6 v)=some (I6 y):=f0;have s0:=jw (f:=enW) (st:=1) (off:=0) (ds:=[I6 y]) (x':=y) hn (by simp) rfl;have ef:fits 8 (bs.length+1)=true:=xf (by decide) (by omega);obtain⟨l',g1,g2⟩:=kH a ha L0 L1 _ bs h0 (by omega) rfl;have e8:vwB none (some (I6 ((a % bs.length:Nat):Int))) bs.length=some (0,a % bs.length):=by have hb:Nat.ble (a % bs.length) bs.length=true:=Yzg (Nat.le_of_lt hi);show vwB none (some (.int .i64 (.ofNat (a % bs.length)))) bs.length=_;simp only[vwB,zcD,hb,Yzb];rfl
 simp only[e1,zb,x6,k8,Yzm,zAw,e2,e3,e5,xO,zm,e4,ev,g0,s0,e6,e7,ez,ef,xM,g2,yi,e8,zcy];split
 .exact hR (bs.set _ y) (by rw[List.length_set];omega)
 split
 .have:=hR (bs.take (a % bs.length)) (by rw[List.length_take];omega);rw[List.map_take]at this;exact this
 split
 .rename_i h;exact h3 l' (by omega) (by have:=of_decide_eq_true h;omega)
 split
 .have:=hR (bs++[z]) (by simp;omega);rw[Yye]at this;exact this
 split
 .rename_i h;exact hQ (by have:=of_decide_eq_true h;omega)
 exact hR bs (by omega)
theorem kS(ss:List Stg)(ns:List Zh)(hn:ns.length<=1000)(kd a:Nat)(ha:a<256)(w:Int)(bs':List Int)(hb:bs'.length<=1001):
  Good ((fun X=>za (zc .gtr (I6 (Int.ofNat (xH (zP (some []) (ss.map zaC))))) (I6 0)) fun v=>ifB v (jd (U8 (a:Int)) (ss.map zaC) (U8 (kd:Int)) (.int .i8 w) (ns.map x7) X)
   (za (zc .eql (I6 (Int.ofNat (xH (zP (some []) (ns.map x7))))) (I6 0)) fun v=>ifB v (some (SA [X,mkL 4 (zP (some []) (ns.map x7)),mkL 4 (zP (some []) (ss.map zaC))])) (wt (U8 (a:Int)) (ns.map x7) (U8 (kd:Int)) (.int .i8 w) X (mkL 4 (zP (some []) (ss.map zaC)))))) (.lst 1 (bs'.map enW))):=by
 dsimp only
 rw[zW,zb,zm];by_cases h:0<ss.length
 .obtain⟨ss',ns',_,_,h3⟩:=kX ss h ns hn kd a ha w (.lst 1 (bs'.map enW));rw[Yzc (by rw[x6,k8,Yzm];exact decide_eq_true (by simp only[zAw];omega)),h3];exact⟨⟨some bs',some ns',some ss'⟩,hb,rfl⟩
 rw[Yza (by rw[x6,k8,Yzm];simp only[zAw,Yzo];omega)];obtain⟨ns',_,h2⟩:=jz ns hn kd a ha w (.lst 1 (bs'.map enW)) (mkL 4 (zP (some []) (ss.map zaC)));refine⟨⟨some bs',some ns',some ss⟩,hb,h2.trans ?_⟩;rw[x6];rfl
theorem ky(ss:List Stg)(kd a:Nat)(ha:a<256)(w:Int)(bs':List Int)(hb:bs'.length<=1001):
  Good ((fun X=>za (zc .gtr (I6 (Int.ofNat (xH (zP (some []) (ss.map zaC))))) (I6 0)) fun v=>ifB v (jc (U8 (a:Int)) (ss.map zaC) (U8 (kd:Int)) (.int .i8 w) X)
   (za (zV .nils) fun v=>za (zc .eql v (I6 0)) fun z=>ifB z (some (SA [X,.nils,mkL 4 (zP (some []) (ss.map zaC))])) (wy (U8 (a:Int)) (U8 (kd:Int)) (.int .i8 w) X (mkL 4 (zP (some []) (ss.map zaC)))))) (.lst 1 (bs'.map enW))):=by
 dsimp only
 rw[zW,zb,zm];by_cases h:0<ss.length
 .obtain⟨ss',_,h3⟩:=kW ss h kd a ha w (.lst 1 (bs'.map enW));rw[Yzc (by rw[x6,k8,Yzm];exact decide_eq_true (by simp only[zAw];omega)),h3];exact⟨⟨some bs',none,some ss'⟩,hb,rfl⟩
 rw[Yza (by rw[x6,k8,Yzm];simp only[zAw,Yzo];omega),kf,x6];exact⟨⟨some bs',none,some ss⟩,hb,rfl⟩
theorem kj(ns:List Zh)(hn:ns.length<=1000)(kd a:Nat)(ha:a<256)(w:Int)(bs':List Int)(hb:bs'.length<=1001):
  Good ((fun X=>za (zV .nils) fun v=>za (zc .gtr v (I6 0)) fun z=>ifB z (jp (U8 (a:Int)) (U8 (kd:Int)) (.int .i8 w) (ns.map x7) X)
   (za (zc .eql (I6 (Int.ofNat (xH (zP (some []) (ns.map x7))))) (I6 0)) fun v=>ifB v (some (SA [X,mkL 4 (zP (some []) (ns.map x7)),.nils])) (wt (U8 (a:Int)) (ns.map x7) (U8 (kd:Int)) (.int .i8 w) X .nils))) (.lst 1 (bs'.map enW))):=by
 obtain⟨ns',_,h2⟩:=jz ns hn kd a ha w (.lst 1 (bs'.map enW)) .nils;exact⟨⟨some bs',some ns',none⟩,hb,h2⟩
theorem kg(a1_1 a1_0 a1_2:DV)(bs':List Int)(hb:bs'.length<=1001):
  Good ((fun X=>za (zV .nils) fun v=>za (zc .gtr v (I6 0)) fun z=>ifB z (jo a1_1 a1_0 a1_2 X) (za (zV .nils) fun v=>za (zc .eql v (I6 0)) fun z=>ifB z (some (SA [X,.nils,.nils])) (wy a1_1 a1_0 a1_2 X .nils))) (.lst 1 (bs'.map enW))):=⟨⟨some bs',none,none⟩,hb,rfl⟩
theorem kY(nt:Sl Zh)(st:Sl Stg)(hn:nt.els.length<=1000)(hs:st.els.length<=1000)(kd a:Nat)(ha:a<256)(w:Int)(hk:kd % 12=3)(bs':List Int)(hb:bs'.length<=1001):
  Good (u5 [enL 4 x7 nt,enL 4 zaC st] (U8 (a:Int)) (U8 (kd:Int)) (.int .i8 w) (.lst 1 (bs'.map enW))):=by
 have e1:zx .i64 (U8 (a:Int))=some (I6 (a:Int)):=vN;have e5:zc .rem (U8 (kd:Int)) (U8 12)=some (U8 ((kd % 12:Nat):Int)):=zgG (b:=12) (by decide);have d6:∀c:Int,c≠3->(((kd % 12:Nat):Int)==c)=false:=fun c hc=>beq_eq_false_iff_ne.2 (by omega);have h6:jv [enL 4 x7 nt,enL 4 zaC st] (.lst 1 (bs'.map enW)) (U8 (a:Int)) (U8 (kd:Int)) (.int .i8 w)=some (SA [.lst 1 (bs'.map enW),enL 4 x7 nt,enL 4 zaC st]):=by
  unfold jv;simp only[zA,yJ,zg,zb,xO,zm];by_cases h:nt.els.length=0
  .rw[Yzc (by simp[h])]
  have hl:0<nt.els.length:=by omega
  have e2:zc .rem (I6 (a:Int)) (I6 (nt.els.length:Int))=some (I6 ((a % nt.els.length:Nat):Int)):=zgG h;obtain⟨n,hn⟩:∃n,nt.els[a % nt.els.length]? = some n:=⟨_,Lz5 (Yzn _ hl)⟩;have ix:yb 4 (enL 4 x7 nt) (I6 ((a % nt.els.length:Nat):Int))=some (x7 n):=by rw[xC,hn];rfl
  rw[Yza (by simpa using h)];simp only[e1,e2,ix,zb,e5,xO,zm,d6 8 (by decide),d6 9 (by decide),d6 10 (by decide),d6 11 (by decide),Yzp,if_false]
 refine⟨⟨some bs',nt,st⟩,hb,?_⟩;refine Eq.trans ?_ h6;unfold u5;simp only[zA,yJ,zg,zb,zW,zm];by_cases h:st.els.length=0
 .rw[Yza (by simp[h])]
 have hl:0<st.els.length:=by omega
 have e2:zc .rem (I6 (a:Int)) (I6 (st.els.length:Int))=some (I6 ((a % st.els.length:Nat):Int)):=zgG h;obtain⟨n,hn⟩:∃n,st.els[a % st.els.length]? = some n:=⟨_,Lz5 (Yzn _ hl)⟩;have ix:yb 4 (enL 4 zaC st) (I6 ((a % st.els.length:Nat):Int))=some (zaC n):=by rw[xC,hn];rfl
 rw[Yzc (by simpa using hl)];simp only[e1,e2,ix,zb,e5,xO,zm,d6 6 (by decide),d6 7 (by decide),Yzp,if_false]
def nst(b:Int)(n:Nat):Stg:=⟨b,⟨some (List.replicate n 0),0,0⟩⟩
theorem jq(ss:List Stg)(b:Int)(n:Nat):ss.map zaC++[[I6 b,.lst 1 (List.replicate n [U64 0]),U64 0,U64 0]]=(ss++[nst b n]).map zaC:=by rw[Yye];show _=_++[[I6 b,.lst 1 ((List.replicate n (0:Int)).map enU),U64 0,U64 0]];rw[List.map_replicate]
theorem mk5(a:Nat):∃n,mkN 8 (U8 ((a % 5:Nat):Int)) (U8 ((a % 5:Nat):Int))=some n:=by
 have:a % 5=0\/a % 5=1\/a % 5=2\/a % 5=3\/a % 5=4:=by omega
 rcases this with h|h|h|h|h<;>rw[h]<;>exact⟨_,rfl⟩
theorem kR(T:List (List DV))(hT:0<T.length)(kd a:Nat)(ha:a<256)(hk:kd % 12=5)(A6 A7:Nat->Option DA)(E:Option DA):
  (za (zc .gtr (I6 (Int.ofNat (xH (some T)))) (I6 0)) fun v=>ifB v (za (zx .i64 (U8 (a:Int))) fun v1=>za (zc .rem v1 (I6 (Int.ofNat (xH (some T))))) fun v2=>za (zO (some T) v2) fun n=>za (zc .rem (U8 (kd:Int)) (U8 12)) fun v3=>za (zc .eql v3 (U8 6)) fun v4=>ifB v4 (A6 n) (za (zc .eql v3 (U8 7)) fun v5=>ifB v5 (A7 n) E)) E)=E:=by
 have e1:zx .i64 (U8 (a:Int))=some (I6 (a:Int)):=vN;have e2:zc .rem (I6 (a:Int)) (I6 (T.length:Int))=some (I6 ((a % T.length:Nat):Int)):=zgG (Nat.ne_of_gt hT);have e3:zO (some T) (I6 ((a % T.length:Nat):Int))=some (a % T.length):=zcU (Yzn _ hT);have e5:zc .rem (U8 (kd:Int)) (U8 12)=some (U8 ((kd % 12:Nat):Int)):=zgG (b:=12) (by decide);have d6:∀c:Int,c≠5->(((kd % 12:Nat):Int)==c)=false:=fun c hc=>beq_eq_false_iff_ne.2 (by omega);simp only[k8,zAw,zW,zb,zm,e1,e2,e3,e5,xO,d6 6 (by decide),d6 7 (by decide),Yzp,if_false,ite_self]
theorem kz(O:Orc)(bs:List Int)(h0:0<bs.length)(hl:bs.length<=200)(nt:Sl Zh)(hn:nt.els.length<=1000)(st:Sl Stg)(hs:st.els.length<=1000)(kd a:Nat)(ha:a<256)(w:Int):
  Good (P21 O (bs.map enW) (enL 4 x7 nt) (enL 4 zaC st) (U8 (kd:Int)) (U8 (a:Int)) (.int .i8 w)):=by
 have ef:fits 8 (xH (some [])+(bs.map enW).length)=true:=xf (by decide) (by rw[Yzm];simp;omega);obtain⟨b,eb⟩:∃b,zx .i64 (.int .i8 w)=some (I6 b):=⟨_,rfl⟩;have e6:zc .rem (U8 (a:Int)) (U8 5)=some (U8 ((a % 5:Nat):Int)):=zgG (b:=5) (by decide);obtain⟨n,en⟩:=mk5 a;unfold P21;rw[show yq 1 (DV.lst 1 (bs.map enW))=some (bs.map enW) from rfl,zb,ef,xM];have x3:=fun bs' hb hk=>kY nt st hn hs kd a ha w hk bs' hb;have eB:mkL 1 (zP (some []) (bs.map enW))=.lst 1 (bs.map enW):=by rw[x6];rfl
 rcases nt with _|ns<;>rcases st with _|ss
 .exact jH bs h0 hl kd a ha w (fun X=>za (zV .nils) fun v=>za (zc .gtr v (I6 0)) fun z=>ifB z (jo (U8 (a:Int)) (U8 (kd:Int)) (.int .i8 w) X) (za (zV .nils) fun v=>za (zc .eql v (I6 0)) fun z=>ifB z (some (SA [X,.nils,.nils])) (wy (U8 (a:Int)) (U8 (kd:Int)) (.int .i8 w) X .nils))) _ .nils .nils
   (fun bs' hb=>kg _ _ _ bs' hb) (fun hk=>by rw[eb,zb,e6,zb,en,zb,show fits 48 1=true from rfl,xM,kR _ (by simp) kd a ha hk];refine⟨⟨some bs,none,some ([]++[nst b n])⟩,by show bs.length<=_;omega,?_⟩;unfold zko;rw[eB];show some (SA [_,_,.lst 4 (([]:List Stg).map zaC++[[I6 b,.lst 1 (List.replicate n [U64 0]),U64 0,U64 0]])])=_;rw[jq];rfl) x3
 .have e4:fits 48 (xH (some [])+(ss.map zaC).length)=true:=xf (by decide) (by rw[Yzm];show 0+ss.length<=_;have:ss.length<=1000:=hs;omega);have eS:mkL 4 (zP (some []) (ss.map zaC))=.lst 4 (ss.map zaC):=by rw[x6];rfl
  have e7:fits 48 (xH (zP (some []) (ss.map zaC))+1)=true:=by rw[x6,k8,Yzm];exact xf (by decide) (by have:ss.length<=1000:=hs;omega)
  show Good (gd (fits 48 (xH (some [])+(ss.map zaC).length)) _);rw[e4,xM];refine jH bs h0 hl kd a ha w (fun X=>za (zc .gtr (I6 (Int.ofNat (xH (zP (some []) (ss.map zaC))))) (I6 0)) fun v=>ifB v (jc (U8 (a:Int)) (ss.map zaC) (U8 (kd:Int)) (.int .i8 w) X)
   (za (zV .nils) fun v=>za (zc .eql v (I6 0)) fun z=>ifB z (some (SA [X,.nils,mkL 4 (zP (some []) (ss.map zaC))])) (wy (U8 (a:Int)) (U8 (kd:Int)) (.int .i8 w) X (mkL 4 (zP (some []) (ss.map zaC)))))) _ .nils (mkL 4 (zP (some []) (ss.map zaC)))
   (fun bs' hb=>ky ss kd a ha w bs' hb) (fun hk=>?_) (fun bs' hb hk=>by rw[eS];exact x3 bs' hb hk)
  rw[eb,zb,e6,zb,en,zb,e7,xM,kR _ (by simp) kd a ha hk];refine⟨⟨some bs,none,some (ss++[nst b n])⟩,by show bs.length<=_;omega,?_⟩;show some (SA [mkL 1 (zP (some []) (bs.map enW)),.nils,.lst 4 (z5 (zP (some []) (ss.map zaC))++[[I6 b,.lst 1 (List.replicate n [U64 0]),U64 0,U64 0]])])=_;rw[eB,x6,zcy,jq];rfl
 .have hn':ns.length<=1000:=hn;have e4:fits 32 (xH (some [])+(ns.map x7).length)=true:=xf (by decide) (by rw[Yzm];show 0+ns.length<=_;omega);have eN:mkL 4 (zP (some []) (ns.map x7))=.lst 4 (ns.map x7):=by rw[x6];rfl
  show Good (gd (fits 32 (xH (some [])+(ns.map x7).length)) _);rw[e4,xM];refine jH bs h0 hl kd a ha w (fun X=>za (zV .nils) fun v=>za (zc .gtr v (I6 0)) fun z=>ifB z (jp (U8 (a:Int)) (U8 (kd:Int)) (.int .i8 w) (ns.map x7) X)
   (za (zc .eql (I6 (Int.ofNat (xH (zP (some []) (ns.map x7))))) (I6 0)) fun v=>ifB v (some (SA [X,mkL 4 (zP (some []) (ns.map x7)),.nils])) (wt (U8 (a:Int)) (ns.map x7) (U8 (kd:Int)) (.int .i8 w) X .nils))) _ (mkL 4 (zP (some []) (ns.map x7))) .nils
   (fun bs' hb=>kj ns hn' kd a ha w bs' hb) (fun hk=>?_) (fun bs' hb hk=>by rw[eN];exact x3 bs' hb hk)
  rw[eb,zb,e6,zb,en,zb,show fits 48 1=true from rfl,xM,kR _ (by simp) kd a ha hk];obtain⟨ns',_,h2⟩:=jz ns hn' kd a ha w (mkL 1 (zP (some []) (bs.map enW))) (.lst 4 (([]:List Stg).map zaC++[[I6 b,.lst 1 (List.replicate n [U64 0]),U64 0,U64 0]]));refine⟨⟨some bs,some ns',some ([]++[nst b n])⟩,by show bs.length<=_;omega,h2.trans ?_⟩;rw[eB,jq];rfl
 have hn':ns.length<=1000:=hn;have hs':ss.length<=1000:=hs;have e4:fits 32 (xH (some [])+(ns.map x7).length)=true:=xf (by decide) (by rw[Yzm];show 0+ns.length<=_;omega);have e5:fits 48 (xH (some [])+(ss.map zaC).length)=true:=xf (by decide) (by rw[Yzm];show 0+ss.length<=_;omega);have e7:fits 48 (xH (zP (some []) (ss.map zaC))+1)=true:=by rw[x6,k8,Yzm];exact xf (by decide) (by omega)
 have eN:mkL 4 (zP (some []) (ns.map x7))=.lst 4 (ns.map x7):=by rw[x6];rfl
 have eS:mkL 4 (zP (some []) (ss.map zaC))=.lst 4 (ss.map zaC):=by rw[x6];rfl
 show Good (gd (fits 32 (xH (some [])+(ns.map x7).length)) (gd (fits 48 (xH (some [])+(ss.map zaC).length)) _));rw[e4,xM,e5,xM];refine jH bs h0 hl kd a ha w (fun X=>za (zc .gtr (I6 (Int.ofNat (xH (zP (some []) (ss.map zaC))))) (I6 0)) fun v=>ifB v (jd (U8 (a:Int)) (ss.map zaC) (U8 (kd:Int)) (.int .i8 w) (ns.map x7) X)
   (za (zc .eql (I6 (Int.ofNat (xH (zP (some []) (ns.map x7))))) (I6 0)) fun v=>ifB v (some (SA [X,mkL 4 (zP (some []) (ns.map x7)),mkL 4 (zP (some []) (ss.map zaC))])) (wt (U8 (a:Int)) (ns.map x7) (U8 (kd:Int)) (.int .i8 w) X (mkL 4 (zP (some []) (ss.map zaC)))))) _ (mkL 4 (zP (some []) (ns.map x7))) (mkL 4 (zP (some []) (ss.map zaC)))
   (fun bs' hb=>kS ss ns hn' kd a ha w bs' hb) (fun hk=>?_) (fun bs' hb hk=>by rw[eN,eS];exact x3 bs' hb hk)
 rw[eb,zb,e6,zb,en,zb,e7,xM,kR _ (by simp) kd a ha hk];obtain⟨ns',_,h2⟩:=jz ns hn' kd a ha w (mkL 1 (zP (some []) (bs.map enW))) (.lst 4 (z5 (zP (some []) (ss.map zaC))++[[I6 b,.lst 1 (List.replicate n [U64 0]),U64 0,U64 0]]));refine⟨⟨some bs,some ns',some (ss++[nst b n])⟩,by show bs.length<=_;omega,h2.trans ?_⟩;rw[eB,x6,zcy,jq];rfl
theorem t21(k:Nat)(x:Pce)(h0:0<x.bars.els.length)(hl:x.bars.els.length<=200)(hn:x.notes.els.length<=1000)(hs:x.sets.els.length<=1000)(kd a:Nat)(ha:a<256)(w:Int):
  Good (D (k+1) 21 [SA (zko x),SA [U8 (kd:Int),U8 (a:Int),.int .i8 w]]):=by
 obtain⟨b,nt,st⟩:=x;rcases b with _|bs
 .exact absurd h0 (Nat.lt_irrefl 0)
 have:=kz (D k) bs h0 hl nt hn st hs kd a ha w;rw[<-D21]at this;exact this
end Go.Proofs.Tryz.Kn
end
section
namespace Go.Proofs.Tryz.Kn
open Go Go.CE Go.PE
theorem pick(l:List (List DV))(h:0<l.length)(a:Nat):∃x∈l,∀{β:Type} (K:List DV->Option β),za (zO (some l) (U8 ((a % l.length:Nat):Int))) (fun n=>za (xY (some l) n) K)=K x:=by have hi:a % l.length<l.length:=Yzn _ h;refine⟨l[a % l.length],List.getElem_mem hi,fun K=>?_⟩;rw[zcU hi,zb];show za (l[a % l.length]?) K=_;rw[Lz5 hi];rfl
theorem u4{nm:ByteArray}{rs:List Zm}{dv:Sl Zo}{cp:List Cpl}(h1:rs.length<=1000)(h2:∀r∈rs,zg3 r)(h3:dv.els.length<=1000)(h4:∀d∈dv.els,d.ok)(h5:cp.length<=1000):Org.ok ⟨nm,some rs,dv,some cp⟩:=
 ⟨by show rs.length<=_;omega,h2,by show dv.els.length<=_;omega,h4,by show cp.length<=_;omega⟩
theorem jb{α:Type}{q:α->Prop}{l:List α}{i:Nat}{x:α}(h:∀a∈l,q a)(hx:q x):∀a∈l.set i x,q a:=fun _ ha=>(List.mem_or_eq_of_mem_set ha).elim (h _) (fun e=>e▸hx)
theorem jj(n:Nat)(hn:n<=100):∃v w:Int,zc .quo (I6 (n:Int)) (I6 10)=some (I6 ((n / 10:Nat):Int))/\zc .add (I6 48) (I6 ((n / 10:Nat):Int))=some (I6 v)/\zx .u8 (I6 v)=some (U8 v)/\
  zc .rem (I6 (n:Int)) (I6 10)=some (I6 ((n % 10:Nat):Int))/\zc .add (I6 48) (I6 ((n % 10:Nat):Int))=some (I6 w)/\zx .u8 (I6 w)=some (U8 w):=by
 have h1:n % 10<10:=Yzn _ (by decide);have h2:n / 10<=10:=by omega
 have c:∀v:Int,0<=v->v<=255->zx .u8 (I6 v)=some (U8 v):=fun v a b=>by show some (DV.int .u8 (xV .u8 v))=_;rw[ztF];congr 2;omega
 exact⟨48+((n / 10:Nat):Int),48+((n % 10:Nat):Int),qm (b:=10) (by decide) (wrap64 (by omega) (by omega)),yG,c _ (by omega) (by omega),zgG (b:=10) (by decide),yG,c _ (by omega) (by omega)⟩
theorem jt(c:UInt8)(v w:Int){β:Type}(K:DV->Option β):za (zra (.lst 1 [[U8 v],[U8 w]])) (fun s=>za (zq3 .add (.str ⟨#[c]⟩) s) K)=K (St (⟨#[c]⟩++zfk [v,w] ByteArray.empty)):=rfl
theorem jJ(c:UInt8)(v:Int){β:Type}(K:DV->Option β):za (zra (.lst 1 [[U8 v]])) (fun s=>za (zq3 .add (.str ⟨#[c]⟩) s) K)=K (St (⟨#[c]⟩++zfk [v] ByteArray.empty)):=rfl
theorem kF(a:Nat)(nm:DV)(m1 m2:OC):∀(m:Nat) (l:List Zm),0<l.length->l.length<=60+a % 2->60+a % 2-l.length=m->(∀r∈l,zg3 r)->
  ∃l':List Zm,l'.length<=61/\(∀r∈l',zg3 r)/\zS (js (U8 (a:Int))) [nm] [some (l.map enR),m1,m2]=some (.exit 1,[nm],[some (l'.map enR),m1,m2]):=by
 have e1:zc .rem (U8 (a:Int)) (U8 2)=some (U8 ((a % 2:Nat):Int)):=zgG (b:=2) (by decide);have ha:a % 2<2:=Yzn _ (by decide);have e2:zx .i64 (U8 ((a % 2:Nat):Int))=some (I6 ((a % 2:Nat):Int)):=vN;have e3:zc .add (I6 60) (I6 ((a % 2:Nat):Int))=some (I6 ((60+a % 2:Nat):Int)):=by rw[show ((60+a % 2:Nat):Int)=60+((a % 2:Nat):Int) by omega];exact yG
 intro m
 induction m with
 |zero=>intro l h0 h1 h2 h3;refine⟨l,by omega,h3,zr ?_⟩;have:decide ((l.length:Int)<((60+a % 2:Nat):Int))=false:=wq (by omega);simp only[js,e1,e2,e3,zb,yU,uC,zA,k8,Yzm,zAw,zi,this,zm];rfl
 |succ m ih=>
  intro l h0 h1 h2 h3;have hlt:decide ((l.length:Int)<((60+a % 2:Nat):Int))=true:=zbN (by omega);obtain⟨x,hx⟩:∃x,l[0]? = some x:=⟨_,Lz5 h0⟩;obtain⟨v,w,q1,q2,q3,q4,q5,q6⟩:=jj l.length (by omega);have ix:zO (some (l.map enR)) (I6 0)=some 0:=by rw[show (I6 0:DV)=I6 ((0:Nat):Int) from rfl];exact zcU (by rw[Yzm];exact h0)
  have nx:xY (some (l.map enR)) 0=some (enR x):=by rw[zcY,hx];rfl
  have ef:fits 80 (l.length+1)=true:=xf (by decide) (by omega)
  let y:Zm:=⟨⟨#[88]⟩++zfk [v,w] ByteArray.empty,x.tone,x.num,x.den,x.first,x.wind⟩
  have hy:zg3 y:=h3 x (Lz3 hx);have body:js (U8 (a:Int)) [nm] [some (l.map enR),m1,m2]=some (.normal,[nm],[some ((l++[y]).map enR),m1,m2]):=by simp only[js,e1,e2,e3,zb,yU,uC,zA,k8,Yzm,zAw,zi,hlt,zm,if_true,ix,nx,q1,q2,q3,q4,q5,q6,jt,ef,xM,zcy];rw[Yye];rfl
  obtain⟨l',g1,g2,g3⟩:=ih (l++[y]) (by simp) (by simp;omega) (by simp;omega) (fun r hr=>by
   rcases List.mem_append.1 hr with hr|hr
   .exact h3 r hr
   .rw[Yz6.1 hr];exact hy)
  exact⟨l',g1,g2,by rw[zE body,g3]⟩
theorem kE(a:Nat)(nm:DV)(m1 m2:OC):∀(m:Nat) (l:List Zo),l.length<=8+a % 2->8+a % 2-l.length=m->(∀r∈l,r.ok)->
  ∃l':List Zo,l <+: l'/\l'.length<=9/\(∀r∈l',r.ok)/\zS (jr (U8 (a:Int))) [nm] [m1,some (l.map enV),m2]=some (.exit 3,[nm],[m1,some (l'.map enV),m2]):=by
 have e1:zc .rem (U8 (a:Int)) (U8 2)=some (U8 ((a % 2:Nat):Int)):=zgG (b:=2) (by decide);have ha:a % 2<2:=Yzn _ (by decide);have e2:zx .i64 (U8 ((a % 2:Nat):Int))=some (I6 ((a % 2:Nat):Int)):=vN;have e3:zc .add (I6 8) (I6 ((a % 2:Nat):Int))=some (I6 ((8+a % 2:Nat):Int)):=by rw[show ((8+a % 2:Nat):Int)=8+((a % 2:Nat):Int) by omega];exact yG
 intro m
 induction m with
 |zero=>intro l h1 h2 h3;refine⟨l,List.prefix_refl l,by omega,h3,zr ?_⟩;have:decide ((l.length:Int)<((8+a % 2:Nat):Int))=false:=wq (by omega);simp only[jr,e1,e2,e3,zb,yU,uC,zA,k8,Yzm,zAw,zi,this,zm];rfl
 |succ m ih=>
  intro l h1 h2 h3;have hlt:decide ((l.length:Int)<((8+a % 2:Nat):Int))=true:=zbN (by omega);have q2:zc .add (I6 48) (I6 (l.length:Int))=some (I6 (48+(l.length:Int))):=yG;have q3:zx .u8 (I6 (48+(l.length:Int)))=some (U8 (48+(l.length:Int))):=by show some (DV.int .u8 (xV .u8 (48+(l.length:Int))))=_;rw[ztF];congr 2;omega
  have ef:fits 64 (l.length+1)=true:=xf (by decide) (by omega)
  let y:Zo:=⟨⟨#[69]⟩++zfk [48+(l.length:Int)] ByteArray.empty,false,0,0,none⟩
  have hy:y.ok:=⟨by show (0:Nat)<=_;omega,fun s hs=>by cases hs⟩;have body:jr (U8 (a:Int)) [nm] [m1,some (l.map enV),m2]=some (.normal,[nm],[m1,some ((l++[y]).map enV),m2]):=by simp only[jr,e1,e2,e3,zb,yU,uC,zA,k8,Yzm,zAw,zi,hlt,zm,if_true,q2,q3,jJ,ef,xM,zcy];rw[Yye];rfl
  obtain⟨l',g0,g1,g2,g3⟩:=ih (l++[y]) (by simp;omega) (by simp;omega) (fun r hr=>by
   rcases List.mem_append.1 hr with hr|hr
   .exact h3 r hr
   .rw[Yz6.1 hr];exact hy)
  exact⟨l',(List.prefix_append l [y]).trans g0,g1,g2,by rw[zE body,g3]⟩
theorem jT(a:Nat)(c0 c1 c2 c3:DV):∀(m:Nat) (l:List Zt),0<l.length->l.length<=60+a % 2->60+a % 2-l.length=m->(∀r∈l,r.ok)->
  ∃l':List Zt,l'.length<=61/\(∀r∈l',r.ok)/\zS (jf (U8 (a:Int))) [c0,c1,c2,c3] [some (l.map vY)]=some (.exit 5,[c0,c1,c2,c3],[some (l'.map vY)]):=by
 have e1:zc .rem (U8 (a:Int)) (U8 2)=some (U8 ((a % 2:Nat):Int)):=zgG (b:=2) (by decide);have ha:a % 2<2:=Yzn _ (by decide);have e2:zx .i64 (U8 ((a % 2:Nat):Int))=some (I6 ((a % 2:Nat):Int)):=vN;have e3:zc .add (I6 60) (I6 ((a % 2:Nat):Int))=some (I6 ((60+a % 2:Nat):Int)):=by rw[show ((60+a % 2:Nat):Int)=60+((a % 2:Nat):Int) by omega];exact yG
 intro m
 induction m with
 |zero=>intro l h0 h1 h2 h3;refine⟨l,by omega,h3,zr ?_⟩;have:decide ((l.length:Int)<((60+a % 2:Nat):Int))=false:=wq (by omega);simp only[jf,e1,e2,e3,zb,yU,zA,yJ,k8,Yzm,zAw,zi,this,zm];rfl
 |succ m ih=>
  intro l h0 h1 h2 h3;have hlt:decide ((l.length:Int)<((60+a % 2:Nat):Int))=true:=zbN (by omega);obtain⟨x,hx⟩:∃x,l[0]? = some x:=⟨_,Lz5 h0⟩;obtain⟨v,w,q1,q2,q3,q4,q5,q6⟩:=jj l.length (by omega);have ix:zO (some (l.map vY)) (I6 0)=some 0:=by rw[show (I6 0:DV)=I6 ((0:Nat):Int) from rfl];exact zcU (by rw[Yzm];exact h0)
  have nx:xY (some (l.map vY)) 0=some (vY x):=by rw[zcY,hx];rfl
  have ef:fits 56 (l.length+1)=true:=xf (by decide) (by omega)
  let y:Zt:=⟨⟨#[89]⟩++zfk [v,w] ByteArray.empty,x.num,x.den,x.segs⟩
  have hy:y.ok:=⟨(h3 x (Lz3 hx)).len,(h3 x (Lz3 hx)).segs⟩;have body:jf (U8 (a:Int)) [c0,c1,c2,c3] [some (l.map vY)]=some (.normal,[c0,c1,c2,c3],[some ((l++[y]).map vY)]):=by simp only[jf,e1,e2,e3,zb,yU,zA,yJ,k8,Yzm,zAw,zi,hlt,zm,if_true,ix,nx,q1,q2,q3,q4,q5,q6,jt,ef,xM,zcy];rw[Yye];rfl
  obtain⟨l',g1,g2,g3⟩:=ih (l++[y]) (by simp) (by simp;omega) (by simp;omega) (fun r hr=>by
   rcases List.mem_append.1 hr with hr|hr
   .exact h3 r hr
   .rw[Yz6.1 hr];exact hy)
  exact⟨l',g1,g2,by rw[zE body,g3]⟩
set_option maxHeartbeats 4000000 in
theorem t20(k:Nat)(o:Org)(ho:o.ok)(hr0:0<o.ranks.els.length)(hr3:o.ranks.els.length<=3)(hd0:0<o.divs.els.length)(hd3:o.divs.els.length<=3)(hc3:o.cpls.els.length<=3)(hs3:∀d∈o.divs.els,d.stops.els.length<=3)(kd a:Nat)(ha:a<256):
  ∃o2:Org,o2.ok/\D (k+1) 20 [SA (enO o),SA [U8 (kd:Int),U8 (a:Int)]]=some (SA (enO o2)):=by
 obtain⟨nm,rk,dd,cc⟩:=o;have hrk:=ho.ranks;have hdk:=ho.divs;simp only at hr0 hr3 hd0 hd3 hc3 hs3 hrk hdk;generalize hrs:rk.els=rs at hr0 hr3 hrk;generalize hdv:dd.els=dv at hd0 hd3 hs3 hdk;generalize hcp:cc.els=cp at hc3;unfold enO;rw[D20];unfold P20;have g1:fits 80 (0+rs.length)=true:=xf (by decide) (by omega);have g2:fits 64 (0+dv.length)=true:=xf (by decide) (by omega);have g3:fits 48 (0+cp.length)=true:=xf (by decide) (by omega);have e1:zx .i64 (U8 (a:Int))=some (I6 (a:Int)):=vN;have e2:zc .rem (I6 (a:Int)) (I6 (rs.length:Int))=some (I6 ((a % rs.length:Nat):Int)):=zgG (by omega);have e3:zc .rem (I6 (a:Int)) (I6 (dv.length:Int))=some (I6 ((a % dv.length:Nat):Int)):=zgG (by omega);have hj:a % rs.length<rs.length:=Yzn _ hr0;have hi:a % dv.length<dv.length:=Yzn _ hd0;generalize a % rs.length=j at e2 hj;generalize a % dv.length=i at e3 hi;obtain⟨r,hr⟩:∃r,rs[j]? = some r:=⟨_,Lz5 hj⟩;obtain⟨d,hd⟩:∃d,dv[i]? = some d:=⟨_,Lz5 hi⟩;have hrm:=hrk r (Lz3 hr);have hdm:=hdk d (Lz3 hd);have hsm:=hs3 d (Lz3 hd);have ixd:zO (some (dv.map enV)) (I6 (i:Int))=some i:=zcU (by rw[Yzm];exact hi);have ixr:zO (some (rs.map enR)) (I6 (j:Int))=some j:=zcU (by rw[Yzm];exact hj);have nxd:xY (some (dv.map enV)) i=some (enV d):=by rw[zcY,hd];rfl
 have lt:decide ((i:Int)<(dv.length:Int))=true:=zbN hi;have q4:atD (enV d) 4=enL 4 vY d.stops:=rfl;have g4:fits 56 (0+d.stops.els.length)=true:=xf (by decide) (by omega);have m4:zc .rem (U8 (a:Int)) (U8 4)=some (U8 ((a % 4:Nat):Int)):=zgG (b:=4) (by decide);have m3:zc .rem (U8 (a:Int)) (U8 3)=some (U8 ((a % 3:Nat):Int)):=zgG (b:=3) (by decide);have std:∀d':Zo,zaR 5 (some (dv.map enV)) i 0 (enV d')=some (some ((dv.set i d').map enV)):=fun d'=>jw hd (Lz4 rfl) rfl;have d0:zaR 5 (some (dv.map enV)) i 0 [atD (enV d) 0,atD (enV d) 1,atD (enV d) 2,atD (enV d) 3,mkL 4 (some (d.stops.els.map vY))]=some (some ((dv.set i ⟨d.name,d.pedal,d.low,d.high,some d.stops.els⟩).map enV)):=std ⟨d.name,d.pedal,d.low,d.high,some d.stops.els⟩;have okd:∀(nm':ByteArray) (lo hi':Int),Zo.ok ⟨nm',d.pedal,lo,hi',some d.stops.els⟩:=fun _ _ _=>⟨by show d.stops.els.length<=_;omega,hdm.stops⟩;have dvok:∀d':Zo,d'.ok->∀x∈dv.set i d',x.ok:=fun d' h=>jb hdk h;have em:zc .rem (U8 (kd:Int)) (U8 16)=some (U8 ((kd % 16:Nat):Int)):=zgG (b:=16) (by decide);have hk:kd % 16<16:=Yzn _ (by decide);generalize kd % 16=q at em hk;simp only[ul,hrs,hdv,hcp,zb,k8,Yzv,Yzm,g1,g2,g3,xM,x6,e1,zAw,e2,e3,ixd,nxd,q4,g4,em,xO,zm,zi,lt,if_true,d0];have hq:q=0\/q=1\/q=2\/q=3\/q=4\/q=5\/q=6\/q=7\/q=8\/q=9\/q=10\/q=11\/q=12\/q=13\/q=14\/q=15:=by omega
 have dflt:∃o2:Org,o2.ok/\(some (SA [St nm,mkL 6 (some (rs.map enR)),mkL 5 (some ((dv.set i ⟨d.name,d.pedal,d.low,d.high,some d.stops.els⟩).map enV)),mkL 5 (some (cp.map enC))]):Option DA)=some (SA (enO o2)):=
  ⟨⟨nm,some rs,some (dv.set i ⟨d.name,d.pedal,d.low,d.high,some d.stops.els⟩),some cp⟩,u4 (by omega) hrk (by rw[yW,List.length_set];omega) (dvok _ (okd _ _ _)) (by omega),rfl⟩
 rcases hq with h|h|h|h|h|h|h|h|h|h|h|h|h|h|h|h<;>subst h
 .exact dflt
 ·
  obtain⟨x,hx,pk⟩:=pick [[St ⟨#[]⟩],[St ⟨#[55]⟩],[St ⟨#[97,32,98]⟩],[St ⟨#[70,105,110,101]⟩]] (by decide) a;obtain⟨s,rfl⟩:∃s,x=[St s]:=by simp only[Yya,Yyc,or_false]at hx;rcases hx with rfl|rfl|rfl|rfl<;>exact⟨_,rfl⟩
  have pk':∀{β:Type} (K:List DV->Option β),za (zO (some [[(.str ⟨#[]⟩)],[(.str ⟨#[55]⟩)],[(.str ⟨#[97,32,98]⟩)],[(.str ⟨#[70,105,110,101]⟩)]]) (U8 ((a % 4:Nat):Int))) (fun n=>za (xY (some [[(.str ⟨#[]⟩)],[(.str ⟨#[55]⟩)],[(.str ⟨#[97,32,98]⟩)],[(.str ⟨#[70,105,110,101]⟩)]]) n) K)=K [St s]:=pk;refine⟨⟨s,some rs,some (dv.set i ⟨d.name,d.pedal,d.low,d.high,some d.stops.els⟩),some cp⟩,u4 (by omega) hrk (by rw[yW,List.length_set];omega) (dvok _ (okd _ _ _)) (by omega),?_⟩;rw[Yzc (by rfl)];simp only[m4,zb,pk',y4];rfl
 ·
  have sr:zaR 6 (some (rs.map enR)) j 5 [.nils]=some (some ((rs.set j ⟨r.name,r.tone,r.num,r.den,r.first,none⟩).map enR)):=jw hr (Lz4 rfl) rfl;refine⟨⟨nm,some (rs.set j ⟨r.name,r.tone,r.num,r.den,r.first,none⟩),some (dv.set i ⟨d.name,d.pedal,d.low,d.high,some d.stops.els⟩),some cp⟩,u4 (by rw[List.length_set];omega) (jb hrk (by show (0:Nat)<=_;omega)) (by rw[yW,List.length_set];omega) (dvok _ (okd _ _ _)) (by omega),?_⟩;rw[Yza (by decide),Yzc (by rfl)];simp only[ixr,zb,sr];rfl
 ·
  obtain⟨x,hx,pk⟩:=pick [[St ⟨#[]⟩],[St ⟨#[82,48]⟩],[St ⟨#[82,57]⟩]] (by decide) a;obtain⟨s,rfl⟩:∃s,x=[St s]:=by simp only[Yya,Yyc,or_false]at hx;rcases hx with rfl|rfl|rfl<;>exact⟨_,rfl⟩
  have pk':∀{β:Type} (K:List DV->Option β),za (zO (some [[(.str ⟨#[]⟩)],[(.str ⟨#[82,48]⟩)],[(.str ⟨#[82,57]⟩)]]) (U8 ((a % 3:Nat):Int))) (fun n=>za (xY (some [[(.str ⟨#[]⟩)],[(.str ⟨#[82,48]⟩)],[(.str ⟨#[82,57]⟩)]]) n) K)=K [St s]:=pk;have sr:zaR 6 (some (rs.map enR)) j 0 [St s]=some (some ((rs.set j ⟨s,r.tone,r.num,r.den,r.first,r.wind⟩).map enR)):=jw hr (Lz4 rfl) rfl;refine⟨⟨nm,some (rs.set j ⟨s,r.tone,r.num,r.den,r.first,r.wind⟩),some (dv.set i ⟨d.name,d.pedal,d.low,d.high,some d.stops.els⟩),some cp⟩,u4 (by rw[List.length_set];omega) (jb hrk hrm) (by rw[yW,List.length_set];omega) (dvok _ (okd _ _ _)) (by omega),?_⟩;rw[Yza (by decide),Yza (by decide),Yzc (by rfl)];simp only[m3,zb,pk',ixr,y4,sr];rfl
 ·
  obtain⟨l',h1,h2,h3⟩:=kF a (St nm) (some (dv.map enV)) (some (cp.map enC)) (60+a % 2-rs.length) rs hr0 (by omega) rfl hrk;refine⟨⟨nm,some l',some (dv.set i ⟨d.name,d.pedal,d.low,d.high,some d.stops.els⟩),some cp⟩,u4 (by omega) h2 (by rw[yW,List.length_set];omega) (dvok _ (okd _ _ _)) (by omega),?_⟩;rw[Yza (by decide),Yza (by decide),Yza (by decide),Yzc (by rfl),h3];simp only[yi,Yzq,Yzb,yU,uC,zA,k8,Yzm,lt,ixd,zb,d0,if_true];rfl
 ·
  refine⟨⟨nm,some rs,none,some cp⟩,u4 (by omega) hrk (by show (0:Nat)<=_;omega) (fun x hx=>by cases hx) (by omega),?_⟩;have hneg:decide ((i:Int)<0)=false:=decide_eq_false (by omega);rw[Yza (by decide),Yza (by decide),Yza (by decide),Yza (by decide),Yzc (by rfl)];simp only[zAp,zb,zi,zm,hneg];rfl
 ·
  obtain⟨l',hp,h1,h2,h3⟩:=kE a (St nm) (some (rs.map enR)) (some (cp.map enC)) (8+a % 2-dv.length) dv (by omega) rfl hdk;have hi':i<l'.length:=Lz9 hi hp.length_le;have hd':l'[i]? = some d:=by obtain⟨t,rfl⟩:=hp;rw[Lz2 hi];exact hd
  have lt':decide ((i:Int)<(l'.length:Int))=true:=zbN hi';have ixd':zO (some (l'.map enV)) (I6 (i:Int))=some i:=zcU (by rw[Yzm];exact hi');have d0':zaR 5 (some (l'.map enV)) i 0 [atD (enV d) 0,atD (enV d) 1,atD (enV d) 2,atD (enV d) 3,mkL 4 (some (d.stops.els.map vY))]=some (some ((l'.set i ⟨d.name,d.pedal,d.low,d.high,some d.stops.els⟩).map enV)):=jw (x':=⟨d.name,d.pedal,d.low,d.high,some d.stops.els⟩) hd' (Lz4 rfl) rfl;refine⟨⟨nm,some rs,some (l'.set i ⟨d.name,d.pedal,d.low,d.high,some d.stops.els⟩),some cp⟩,u4 (by omega) hrk (by rw[yW,List.length_set];omega) (jb h2 (okd _ _ _)) (by omega),?_⟩;rw[Yza (by decide),Yza (by decide),Yza (by decide),Yza (by decide),Yza (by decide),Yzc (by rfl),h3];simp only[yi,Yzq,Yzb,yU,uC,zA,k8,Yzm,lt',ixd',zb,d0',if_true];rfl
 ·
  obtain⟨x,hx,pk⟩:=pick [[St ⟨#[]⟩],[St ⟨#[68,48]⟩],[St ⟨#[68,49]⟩],[St ⟨#[83,111,108,111]⟩]] (by decide) a;obtain⟨s,rfl⟩:∃s,x=[St s]:=by simp only[Yya,Yyc,or_false]at hx;rcases hx with rfl|rfl|rfl|rfl<;>exact⟨_,rfl⟩
  have pk':∀{β:Type} (K:List DV->Option β),za (zO (some [[(.str ⟨#[]⟩)],[(.str ⟨#[68,48]⟩)],[(.str ⟨#[68,49]⟩)],[(.str ⟨#[83,111,108,111]⟩)]]) (U8 ((a % 4:Nat):Int))) (fun n=>za (xY (some [[(.str ⟨#[]⟩)],[(.str ⟨#[68,48]⟩)],[(.str ⟨#[68,49]⟩)],[(.str ⟨#[83,111,108,111]⟩)]]) n) K)=K [St s]:=pk;have dn:zaR 5 (some (dv.map enV)) i 0 [St s,atD (enV d) 1,atD (enV d) 2,atD (enV d) 3,mkL 4 (some (d.stops.els.map vY))]=some (some ((dv.set i ⟨s,d.pedal,d.low,d.high,some d.stops.els⟩).map enV)):=std ⟨s,d.pedal,d.low,d.high,some d.stops.els⟩;refine⟨⟨nm,some rs,some (dv.set i ⟨s,d.pedal,d.low,d.high,some d.stops.els⟩),some cp⟩,u4 (by omega) hrk (by rw[yW,List.length_set];omega) (dvok _ (okd _ _ _)) (by omega),?_⟩;rw[Yza (by decide),Yza (by decide),Yza (by decide),Yza (by decide),Yza (by decide),Yza (by decide),Yzc (by rfl)];simp only[m4,zb,pk',y4,dn];rfl
 ·
  obtain⟨x,hx,pk⟩:=pick [[I6 (-1),I6 40],[I6 50,I6 40],[I6 0,I6 128],[I6 0,I6 127]] (by decide) a;obtain⟨lo,hi2,rfl⟩:∃lo hi2,x=[I6 lo,I6 hi2]:=by simp only[Yya,Yyc,or_false]at hx;rcases hx with rfl|rfl|rfl|rfl<;>exact⟨_,_,rfl⟩
  have pk':∀{β:Type} (K:List DV->Option β),za (zO (some [[(I6 (-1)),(I6 40)],[(I6 50),(I6 40)],[(I6 0),(I6 128)],[(I6 0),(I6 127)]]) (U8 ((a % 4:Nat):Int))) (fun n=>za (xY (some [[(I6 (-1)),(I6 40)],[(I6 50),(I6 40)],[(I6 0),(I6 128)],[(I6 0),(I6 127)]]) n) K)=K [I6 lo,I6 hi2]:=pk;have dn:zaR 5 (some (dv.map enV)) i 0 [atD (enV d) 0,atD (enV d) 1,I6 lo,I6 hi2,mkL 4 (some (d.stops.els.map vY))]=some (some ((dv.set i ⟨d.name,d.pedal,lo,hi2,some d.stops.els⟩).map enV)):=std ⟨d.name,d.pedal,lo,hi2,some d.stops.els⟩;refine⟨⟨nm,some rs,some (dv.set i ⟨d.name,d.pedal,lo,hi2,some d.stops.els⟩),some cp⟩,u4 (by omega) hrk (by rw[yW,List.length_set];omega) (dvok _ (okd _ _ _)) (by omega),?_⟩;rw[Yza (by decide),Yza (by decide),Yza (by decide),Yza (by decide),Yza (by decide),Yza (by decide),Yza (by decide),Yzc (by rfl)];simp only[m4,zb,pk',y4,ww,dn];rfl
 ·
  rw[Yza (by decide),Yza (by decide),Yza (by decide),Yza (by decide),Yza (by decide),Yza (by decide),Yza (by decide),Yza (by decide),Yzc (by rfl)];simp only[zW,zb,zm];by_cases h0:0<d.stops.els.length
  .have h0':(0:Int)<(d.stops.els.length:Int):=by omega
   obtain⟨s,hs⟩:∃s,d.stops.els[0]? = some s:=⟨_,Lz5 h0⟩;have ixs:zO (some (d.stops.els.map vY)) (I6 0)=some 0:=by rw[show (I6 0:DV)=I6 ((0:Nat):Int) from rfl];exact zcU (by rw[Yzm];exact h0)
   have nxs:xY (some (d.stops.els.map vY)) 0=some (vY s):=by rw[zcY,hs];rfl
   obtain⟨x,hx,pk⟩:=pick [[St ⟨#[]⟩],[St ⟨#[83,49]⟩],[St ⟨#[84]⟩],[St ⟨#[83,50]⟩]] (by decide) a;obtain⟨t,rfl⟩:∃t,x=[St t]:=by simp only[Yya,Yyc,or_false]at hx;rcases hx with rfl|rfl|rfl|rfl<;>exact⟨_,rfl⟩
   have pk':∀{β:Type} (K:List DV->Option β),za (zO (some [[(.str ⟨#[]⟩)],[(.str ⟨#[83,49]⟩)],[(.str ⟨#[84]⟩)],[(.str ⟨#[83,50]⟩)]]) (U8 ((a % 4:Nat):Int))) (fun n=>za (xY (some [[(.str ⟨#[]⟩)],[(.str ⟨#[83,49]⟩)],[(.str ⟨#[84]⟩)],[(.str ⟨#[83,50]⟩)]]) n) K)=K [St t]:=pk;have ss:zaR 4 (some (d.stops.els.map vY)) 0 0 [St t,atD (vY s) 1,atD (vY s) 2,atD (vY s) 3]=some (some ((d.stops.els.set 0 ⟨t,s.num,s.den,s.segs⟩).map vY)):=jw (x':=⟨t,s.num,s.den,s.segs⟩) hs (Lz4 rfl) rfl;have dn:zaR 5 (some (dv.map enV)) i 0 [atD (enV d) 0,atD (enV d) 1,atD (enV d) 2,atD (enV d) 3,mkL 4 (some ((d.stops.els.set 0 ⟨t,s.num,s.den,s.segs⟩).map vY))]=some (some ((dv.set i ⟨d.name,d.pedal,d.low,d.high,some (d.stops.els.set 0 ⟨t,s.num,s.den,s.segs⟩)⟩).map enV)):=std ⟨d.name,d.pedal,d.low,d.high,some (d.stops.els.set 0 ⟨t,s.num,s.den,s.segs⟩)⟩;have hsok:=hdm.stops s (Lz3 hs);refine⟨⟨nm,some rs,some (dv.set i ⟨d.name,d.pedal,d.low,d.high,some (d.stops.els.set 0 ⟨t,s.num,s.den,s.segs⟩)⟩),some cp⟩,u4 (by omega) hrk (by rw[yW,List.length_set];omega) (dvok _ ⟨by show (List.set _ _ _).length<=_;rw[List.length_set];omega,jb hdm.stops ⟨hsok.len,hsok.segs⟩⟩) (by omega),?_⟩;rw[Yzc (by simpa using h0')];simp only[ixs,zb,nxs,m4,pk',y4,ss,dn];rfl
  .have h0':¬((0:Int)<(d.stops.els.length:Int)):=by omega
   rw[Yza (by simpa using h0')];exact dflt
 ·
  rw[Yza (by decide),Yza (by decide),Yza (by decide),Yza (by decide),Yza (by decide),Yza (by decide),Yza (by decide),Yza (by decide),Yza (by decide),Yzc (by rfl)];simp only[zW,zb,zm];by_cases h0:0<d.stops.els.length
  .have h0':(0:Int)<(d.stops.els.length:Int):=by omega
   obtain⟨l',h1,h2,h3⟩:=jT a (atD (enV d) 0) (atD (enV d) 1) (atD (enV d) 2) (atD (enV d) 3) (60+a % 2-d.stops.els.length) d.stops.els h0 (by omega) rfl hdm.stops;have dn:zaR 5 (some (dv.map enV)) i 0 [atD (enV d) 0,atD (enV d) 1,atD (enV d) 2,atD (enV d) 3,mkL 4 (some (l'.map vY))]=some (some ((dv.set i ⟨d.name,d.pedal,d.low,d.high,some l'⟩).map enV)):=std ⟨d.name,d.pedal,d.low,d.high,some l'⟩;refine⟨⟨nm,some rs,some (dv.set i ⟨d.name,d.pedal,d.low,d.high,some l'⟩),some cp⟩,u4 (by omega) hrk (by rw[yW,List.length_set];omega) (dvok _ ⟨by show l'.length<=_;omega,h2⟩) (by omega),?_⟩;rw[Yzc (by simpa using h0'),h3];simp only[yi,Yzq,Yzb,yU,zA,yJ,ixd,zb,dn];rfl
  .have h0':¬((0:Int)<(d.stops.els.length:Int)):=by omega
   rw[Yza (by simpa using h0')];exact dflt
 ·
  have vb:vwB none (some (I6 (j:Int))) rs.length=some (0,j):=by unfold vwB;rw[zEv (by omega)];rfl
  refine⟨⟨nm,some (rs.take j),some (dv.set i ⟨d.name,d.pedal,d.low,d.high,some d.stops.els⟩),some cp⟩,u4 (by rw[List.length_take];omega) (fun x hx=>hrk x (List.mem_of_mem_take hx)) (by rw[yW,List.length_set];omega) (dvok _ (okd _ _ _)) (by omega),?_⟩;rw[Yza (by decide),Yza (by decide),Yza (by decide),Yza (by decide),Yza (by decide),Yza (by decide),Yza (by decide),Yza (by decide),Yza (by decide),Yza (by decide),Yzc (by rfl)];simp only[vb,zb];have pt:zud 6 0 j (mkL 6 (some (rs.map enR)))=enL 6 enR (some (rs.take j)):=by show (bif Nat.beq 6 6 then DV.lst 6 (((rs.map enR).drop 0).take j) else .u)=_;rw[List.drop_zero,<-List.map_take];rfl
  rw[pt];rfl
 ·
  have m5:zc .rem (U8 (a:Int)) (U8 5)=some (U8 ((a % 5:Nat):Int)):=zgG (b:=5) (by decide);have h5:a % 5<5:=Yzn _ (by decide);have c5:zx .i64 (U8 ((a % 5:Nat):Int))=some (I6 ((a % 5:Nat):Int)):=vN;have ef:fits 48 (cp.length+1)=true:=xf (by decide) (by omega);refine⟨⟨nm,some rs,some (dv.set i ⟨d.name,d.pedal,d.low,d.high,some d.stops.els⟩),some (cp++[⟨⟨#[67,57]⟩,((a % 5:Nat):Int),0,1,false⟩])⟩,u4 (by omega) hrk (by rw[yW,List.length_set];omega) (dvok _ (okd _ _ _)) (by simp;omega),?_⟩;rw[Yza (by decide),Yza (by decide),Yza (by decide),Yza (by decide),Yza (by decide),Yza (by decide),Yza (by decide),Yza (by decide),Yza (by decide),Yza (by decide),Yza (by decide),Yzc (by rfl)];simp only[m5,c5,zb,ef,xM,zcy];rw[zi1,zi1,zi1,Yye];rfl
 ·
  obtain⟨x,hx,pk⟩:=pick [[St ⟨#[]⟩],[St ⟨#[67,48]⟩],[St ⟨#[68,48]⟩]] (by decide) a;obtain⟨s,rfl⟩:∃s,x=[St s]:=by simp only[Yya,Yyc,or_false]at hx;rcases hx with rfl|rfl|rfl<;>exact⟨_,rfl⟩
  have pk':∀{β:Type} (K:List DV->Option β),za (zO (some [[(.str ⟨#[]⟩)],[(.str ⟨#[67,48]⟩)],[(.str ⟨#[68,48]⟩)]]) (U8 ((a % 3:Nat):Int))) (fun n=>za (xY (some [[(.str ⟨#[]⟩)],[(.str ⟨#[67,48]⟩)],[(.str ⟨#[68,48]⟩)]]) n) K)=K [St s]:=pk;have ef:fits 48 (cp.length+1)=true:=xf (by decide) (by omega);refine⟨⟨nm,some rs,some (dv.set i ⟨d.name,d.pedal,d.low,d.high,some d.stops.els⟩),some (cp++[⟨s,0,0,1,false⟩])⟩,u4 (by omega) hrk (by rw[yW,List.length_set];omega) (dvok _ (okd _ _ _)) (by simp;omega),?_⟩;rw[Yza (by decide),Yza (by decide),Yza (by decide),Yza (by decide),Yza (by decide),Yza (by decide),Yza (by decide),Yza (by decide),Yza (by decide),Yza (by decide),Yza (by decide),Yza (by decide),Yzc (by rfl)];simp only[m3,pk',zb,ef,xM,zcy,y4];rw[zi1,zi1,zi1,Yye];rfl
 .exact dflt
 .exact dflt
end Go.Proofs.Tryz.Kn
end
section
namespace Go.Proofs.Tryz.Kn
open Go Go.CE Go.PE
theorem qv(k:Nat)(q:Prb)(hq:q.ok)(h:zmu q≠0)(t:DV):D (k+13) 10 [SA (yE q),S1 t]=some (.tup [.one (.bool false),.one (.bool false),.one (I6 (zmu q))]):=by have c:=t25 k q hq;unfold yE at c ⊢;rw[D10];unfold P10;rw[c,zR,z7,zb,zm,Yzc (by simpa using h)]
theorem qu(k:Nat)(q:Prb)(hq:q.ok)(h:zmu q≠0)(a b c d e f g i:DV):D (k+13) 15 [SA (yE q),SA [a,b,c],SA [d,e,f,g,i]]=some (.tup [.agg [.nils,U64 0,U64 0],.one (I6 (zmu q))]):=by have c:=t25 k q hq;unfold yE at c ⊢;rw[D15];unfold P15;rw[c,zR,z7,zb,zm,Yzc (by simpa using h)]
theorem qt(k:Nat)(q:Prb)(hq:q.ok)(h:zmu q≠0)(l t:DV):D (k+13) 18 [SA (yE q),S1 l,S1 t]=some (.tup [.agg [.nils,U64 0,U64 0],.one (I6 (zmu q))]):=by have c:=t25 k q hq;unfold yE at c ⊢;rw[D18];unfold P18;rw[c,zR,z7,zb,zm,Yzc (by simpa using h)]
theorem qr(k:Nat)(q:Prb)(hq:q.ok)(h:zmu q≠0)(l:DV):D (k+13) 26 [SA (yE q),S1 l]=some (.tup [.one (.bool false),.one (I6 (zmu q))]):=by have c:=t25 k q hq;unfold yE at c ⊢;rw[D26];unfold P26;rw[c,zR,z7,zb,zm,Yzc (by simpa using h)]
theorem qq(k:Nat)(q:Prb)(hq:q.ok)(h:zmu q≠0)(l:DV):D (k+13) 27 [SA (yE q),S1 l]=some (.tup [.one (I6 0),.one (.bool false),.one (I6 (zmu q))]):=by have c:=t25 k q hq;unfold yE at c ⊢;rw[D27];unfold P27;rw[c,zR,z7,zb,zm,Yzc (by simpa using h)]
theorem qp(k:Nat)(q:Prb)(hq:q.ok)(h:zmu q≠0)(l:DV):D (k+13) 28 [SA (yE q),S1 l]=some (.tup [.agg [.nils,I6 0],.one (I6 (zmu q))]):=by have c:=t25 k q hq;unfold yE at c ⊢;rw[D28];unfold P28;rw[c,zR,z7,zb,zm,Yzc (by simpa using h)]
theorem qo(k:Nat)(q:Prb)(hq:q.ok)(h:zmu q≠0)(l a b:DV):D (k+13) 29 [SA (yE q),S1 l,SA [a,b]]=some (S1 (I6 (zmu q))):=by have c:=t25 k q hq;unfold yE at c ⊢;rw[D29];unfold P29;rw[c,zR,z7,zb,zm,Yzc (by simpa using h)]
end Go.Proofs.Tryz.Kn
end
section
namespace Go.Proofs.Tryz.Kn
open Go Go.CE Go.PE
theorem kU(l:Sl Reg)(hl:l.els.length<=3):∀(r:List Reg) (i:Nat),l.els.drop i=r->
  zS (jF (enL 3 zY l)) [I6 (i:Int)] []=some (if r.any fun x=>decide (10<x.stops.els.length) then(.ret,[Bo true],[]) else(.exit 0,[],[])):=by
 intro r
 induction r with
 |nil=>intro i h;refine zr ?_;simp only[jF,zA,zg,zi,zb,wq (z6 h),zm];rfl
 |cons x r ih=>
  intro i h;have hlt:=yn h;have ea:zc .add (I6 (i:Int)) (I6 1)=some (I6 ((i+1:Nat):Int)):=yG;have body:jF (enL 3 zY l) [I6 (i:Int)] []=some (if (10:Int)<(x.stops.els.length:Int) then(.ret,[Bo true],[]) else(.normal,[I6 ((i+1:Nat):Int)],[])):=by
   simp only[jF,zA,zg,zi,zb,zbN hlt,zm,if_true,zX h,zY,y4,ww,zW,ea]
   grind
  by_cases h1:(10:Int)<(x.stops.els.length:Int)
  .rw[Yzc h1]at body;rw[zz body,List.any_cons,show decide (10<x.stops.els.length)=true from decide_eq_true (by omega)];rfl
  .rw[Yza h1]at body;rw[zE body,ih (i+1) (zJ h),List.any_cons,show decide (10<x.stops.els.length)=false from decide_eq_false (by omega),Yz8]
theorem jx(O:Orc)(l:Sl Reg)(g:List DV)(i:Nat)(e:Int)(h:e≠0\/l.els.length<=i):
  zS (je O (enL 3 zY l) g) [I6 (i:Int),I6 e] []=some (.exit 2,[I6 e],[]):=by
 refine zr ?_;simp only[je,zA,yJ,zg,zi,xO,zb,zm]
 grind
theorem kG(k:Nat)(o:Org)(ho:o.ok)(l:Sl Reg)(hl:l.els.length<=3):∀(r:List Reg) (i:Nat),l.els.drop i=r->
  zS (je (D (k+10)) (enL 3 zY l) (enO o)) [I6 (i:Int),I6 0] []=some (.exit 2,[I6 (zb9 o r)],[]):=by
 intro r
 induction r with
 |nil=>intro i h;exact jx _ _ _ i 0 (.inr (z6 h))
 |cons x r ih=>
  intro i h;have hlt:=yn h;have ea:zc .add (I6 (i:Int)) (I6 1)=some (I6 ((i+1:Nat):Int)):=yG;have rc:=t24 k o ho x;unfold zY at rc;have body:je (D (k+10)) (enL 3 zY l) (enO o) [I6 (i:Int),I6 0] []=some (.normal,[I6 ((i+1:Nat):Int),I6 (wI o x)],[]):=by simp only[je,zA,yJ,zg,zi,xO,zb,zbN hlt,zm,if_true,zX h,zY,y4,ww,jK,rc,zR,ea,Yyh]
  rw[zE body];unfold zb9;by_cases h5:wI o x=0
  .rw[h5,Yza (by simp),ih (i+1) (zJ h)]
  .rw[Yzc h5,jx _ _ _ _ _ (.inl h5)]
theorem ju(a b c d:Int)(n:Int)(i:Nat)(e:Int)(h:[a,b,c,d][i]? = some n):
  u6 (I6 a) (I6 b) (I6 c) (I6 d) [I6 (i:Int),I6 e] []=some (.normal,[I6 ((i+1:Nat):Int),I6 (if e=0 then if ud 1000 n then 3 else 0 else e)],[]):=by
 have hi:i<4:=(Lz0.1 h).1;have ea:zc .add (I6 (i:Int)) (I6 1)=some (I6 ((i+1:Nat):Int)):=yG;have ix:zO (some [[I6 a],[I6 b],[I6 c],[I6 d]]) (I6 (i:Int))=some i:=by show uc 4 (I6 (i:Int))=some i;exact uP hi
 have nx:xY (some [[I6 a],[I6 b],[I6 c],[I6 d]]) i=some [I6 n]:=by show[[I6 a],[I6 b],[I6 c],[I6 d]][i]? = _;have e1:[[I6 a],[I6 b],[I6 c],[I6 d]]=[a,b,c,d].map fun z=>[I6 z]:=rfl;rw[e1,Lz6,h];rfl
 have l4:(I6 (Int.ofNat (xH (some [[I6 a],[I6 b],[I6 c],[I6 d]]))):DV)=I6 4:=rfl;have lt:decide ((i:Int)<4)=true:=decide_eq_true (by omega);simp only[u6,zA,yJ,l4,zi,zb,lt,zm,if_true,ix,nx,xO,y4,zW,ea];unfold ud
 grind
theorem jn(a b c d:Int)(e:Int):
  zS (u6 (I6 a) (I6 b) (I6 c) (I6 d)) [I6 0,I6 e] []=some (.exit 4,[I6 (if e=0 then if ud 1000 a||ud 1000 b||ud 1000 c||ud 1000 d then 3 else 0 else e)],[]):=by
 rw[i0,zE (ju a b c d a 0 e rfl),zE (ju a b c d b 1 _ rfl),zE (ju a b c d c 2 _ rfl),zE (ju a b c d d 3 _ rfl)];refine zr ?_;have h:∀z:DV,u6 (I6 a) (I6 b) (I6 c) (I6 d) [I6 ((4:Nat):Int),z] []=some (.exit 4,[z],[]):=fun _=>rfl;rw[h]
 grind
theorem jR(q:Prb)(hq:q.ok)(h1:zcT q.o q.x=0)(h2:zan q.hn q.hs q.fn q.fs=0)(l:Sl Reg)(hl:40<l.els.length):zmu { q with mems:=l }=4:=by unfold zmu;simp_all
theorem qn(k:Nat)(q0 q:Prb)(h0:q0.ok)(c0:zmu q0=0)(hq:q.ok):
  jg (D (k+15)) (enO q.o) (zko q.x) (I6 q.hn) (I6 q.hs) (I6 q.fn) (I6 q.fs) (enL 3 zY q.mems) (I6 q.hp) (I6 q.k0) (I6 q.k1) (I6 q.k2) (I6 q.k3) [I6 (zmu q)] (yE q0)=some (S1 (Bo true)):=by
 have ee:∀e:Int,zc .eql (I6 e) (I6 e)=some (Bo true):=fun e=>by rw[xO,Yyh]
 have en:∀e:Int,zc .neq (I6 e) (I6 e)=some (Bo false):=fun e=>by rw[z7];simp
 have e0:[atD (enO q.o) 0,atD (enO q.o) 1,atD (enO q.o) 2,atD (enO q.o) 3,atD (zko q.x) 0,atD (zko q.x) 1,atD (zko q.x) 2,I6 q.hn,I6 q.hs,I6 q.fn,I6 q.fs,enL 3 zY q.mems,I6 q.hp,I6 q.k0,I6 q.k1,I6 q.k2,I6 q.k3]=yE q:=rfl;have cc:=t25 (k+3) q hq;unfold jg;rw[e0,cc,zR,zA,en,zb,zK];by_cases h:zmu q=0
 .rw[vM h,yl];have p1:zcT q0.o q0.x=0:=Classical.byContradiction fun hn=>by
   unfold zmu at c0;rw[Yzc hn]at c0;exact hn c0
  have p2:zan q0.hn q0.hs q0.fn q0.fs=0:=Classical.byContradiction fun hn=>by unfold zmu at c0;rw[Yza (by simp[p1]),Yzc hn]at c0;exact hn c0
  have c4:=jR q0 h0 p1 p2 (some (List.replicate 41 ⟨none,0,0⟩)) (by decide);have cm:=t25 (k+3) { q0 with mems:=some (List.replicate 41 ⟨none,0,0⟩) } ⟨h0.o,h0.bl⟩;have mn:mkN 40 (I6 41) (I6 41)=some 41:=by rfl
  have e1:[atD (yE q0) 0,atD (yE q0) 1,atD (yE q0) 2,atD (yE q0) 3,atD (yE q0) 4,atD (yE q0) 5,atD (yE q0) 6,atD (yE q0) 7,atD (yE q0) 8,atD (yE q0) 9,atD (yE q0) 10,.lst 3 (List.replicate 41 [.nils,U64 0,U64 0]),atD (yE q0) 12,atD (yE q0) 13,atD (yE q0) 14,atD (yE q0) 15,atD (yE q0) 16]=yE { q0 with mems:=some (List.replicate 41 ⟨none,0,0⟩) }:=rfl;rw[mn,zb,e1,cm,c4];rfl
 .have c1:=qv (k+2) q hq h (I6 0);have c2:=qu (k+2) q hq h .nils (U64 0) (U64 0) (I6 0) (I6 0) (I6 0) (I6 0) (I6 0);have c3:=qt (k+2) q hq h .nils (I6 0);have c4:=qr (k+2) q hq h .nils;have c5:=qq (k+2) q hq h .nils;have c6:=qp (k+2) q hq h .nils;have c7:=qo (k+2) q hq h .nils .nils (I6 0);have b3:∀{β:Type} (r:List DV) (hr:r.length=3) (v:DV) (K:List DS->Option β),bT [some 3,none] (some (.tup [.agg r,.one v])) K=K [.agg r,.one v]:=fun r hr v K=>by
   obtain⟨a,b,c,rfl⟩:∃a b c,r=[a,b,c]:=by rcases r with _|⟨a,_|⟨b,_|⟨c,_|_⟩⟩⟩<;>simp_all
   rfl
  have b2:∀{β:Type} (a b v:DV) (K:List DS->Option β),bT [some 2,none] (some (.tup [.agg [a,b],.one v])) K=K [.agg [a,b],.one v]:=fun a b v K=>rfl;rw[yL h,zK,c1,qf,c2,kK,c3,kK,c4,zFr,c5,qf,c6,b2];generalize hg:zmu q=e at *;show (za (zc .eql (I6 e) (I6 e)) fun v76=>ifB v76 (za (zc .eql (I6 e) (I6 e)) fun v77=>ifB v77 (za (zc .eql (I6 e) (I6 e)) fun v78=>ifB v78 (za (zc .eql (I6 e) (I6 e)) fun v79=>ifB v79 (za (zc .eql (I6 e) (I6 e)) fun v80=>ifB v80 (za (zc .eql (I6 e) (I6 e)) fun v81=>ifB v81 (b1 (D (k+15) 29 [SA (yE q),.s (.one .nils),SA [.nils,I6 0]]) fun v82=>za (zc .eql v82 (I6 e)) fun v83=>some (S1 v83)) (some (S1 (.bool false)))) (some (S1 (.bool false)))) (some (S1 (.bool false)))) (some (S1 (.bool false)))) (some (S1 (.bool false)))) (some (S1 (.bool false))))=_;rw[ee,zb,yl,zb,yl,zb,yl,zb,yl,zb,yl,zb,yl,c7,zR,ee,zb]
theorem jk(p:Pln)(hf:zeG p=true):0<(zaW p).ranks.els.length/\(zaW p).ranks.els.length<=3:=by
 obtain⟨f1,f2,_⟩:=q8 hf;have:(zaW p).ranks.els.length=p.ranks.els.length:=by show (grow (uh 0 p.ranks.els)).els.length=_;rw[zN,zc0]
 omega
theorem jC(p:PPl)(h:Zu p):(zuI p).bars.els.length<=200:=by have:=h.b4;show (0::wN 0 p.bars.els).length<=200;rw[Yzh,uJ];omega
theorem jB(p:PPl)(h:Zu p):(zuI p).sets.els.length<=1000:=by have e2:(zuI p).sets.els=zeD (zaW p.org) p.bars.els.length (-1) [] p.marks.els:=zN _;have hl:=zfb (zaW p.org) p.bars.els.length p.marks.els (-1) [];have:=h.m3;rw[e2];exact Yzl hl (by simp;omega)
structure PrA where
 z:List DV
 hn:Int
 hs:Int
 fn:Int
 fs:Int
 mems:Sl Reg
 hp:Int
 k0:Int
 k1:Int
 k2:Int
 k3:Int
structure PrA.ok (q:PrA):Prop where
 z:∃a b c d e f g,q.z=[a,b,c,d,e,f,g]
 m:q.mems.els.length<=9223372036854775807
def jV(q:PrA):List DV:=q.z++[I6 q.hn,I6 q.hs,I6 q.fn,I6 q.fs,enL 3 zY q.mems,I6 q.hp,I6 q.k0,I6 q.k1,I6 q.k2,I6 q.k3]
theorem t6(k:Nat)(p:CPl)(hp:p.ok)(s0 s1 s2 s3:Nat)(h1:s1<256)(h3:s3<256)(w:Int)(q:PrA)(hq:q.ok):D (k+16) 6 [SA (zi2 p),SA [U8 (s0:Int),U8 (s1:Int),U8 (s2:Int),U8 (s3:Int),.int .i8 w],SA (jV q)]=some (S1 (Bo true)):=by
 obtain⟨z,hn,hs,fn,fs,l,hpp,k0,k1,k2,k3⟩:=q;obtain⟨⟨z0,z1,z2,z3,z4,z5,z6,rfl⟩,hm⟩:=hq;have kn:=D7 (k+15);have cf:=t8 (k+12) p hp;unfold zi2 at cf ⊢;show D (k+16) 6 [_,_,SA [z0,z1,z2,z3,z4,z5,z6,I6 hn,I6 hs,I6 fn,I6 fs,enL 3 zY l,I6 hpp,I6 k0,I6 k1,I6 k2,I6 k3]]=_;rw[D6];unfold P6;rw[kn,zR,zin,zK,cf,zR,xI,zb,zm];cases hf:zcb p with
 |false=>rfl
 |true=>
  have mk:=t9 (k+6) p hp hf;unfold zi2 at mk;obtain⟨h45,_,_⟩:=zde hf;have hft:=zaA h45;have F:=zrK p hp hf;obtain⟨m1,m2,m3⟩:=kO p.pc.org hft.org;rw[Yza (by simp),zg,zb,zW,zb,zm];by_cases hl:l.els.length<=3
  .have hl':¬(3:Int)<(l.els.length:Int):=by omega
   have l11:=kU l hl l.els 0 rfl;rw[<-i0]at l11;rw[Yza (by simpa using hl'),l11];cases hany:l.els.any fun x=>decide (10<x.stops.els.length) with
   |true=>rfl
   |false=>
    have hr:=q8 hft.org;obtain⟨o2,ho2,ch⟩:=t20 (k+14) (zaW p.pc.org) (zxF _ hft.org) (jk _ hft.org).1 (jk _ hft.org).2 (zbM _ hft.org) m1 m3 m2 s0 s1 h1;obtain⟨x2,hx2,ch2⟩:=t21 (k+14) (zuI p.pc) F.b0 (jC p.pc hft) F.nl (jB p.pc hft) s2 s3 h3 w;rw[Yza (by simp),yi,Yzq,Yzb,mk,zHi];have g1:[atD (yE (zaM p)) 0,atD (yE (zaM p)) 1,atD (yE (zaM p)) 2,atD (yE (zaM p)) 3]=enO (zaW p.pc.org):=rfl;have g2:[atD (yE (zaM p)) 4,atD (yE (zaM p)) 5,atD (yE (zaM p)) 6]=zko (zuI p.pc):=rfl;have g3:[atD (zko x2) 0,atD (zko x2) 1,atD (zko x2) 2]=zko x2:=rfl;have bp:∀{β:Type} (K:List DV->Option β),bA 3 (some (SA (zko x2))) K=K (zko x2):=fun K=>rfl;have pc:=t22 (k+4) o2 ho2 x2 (Yzl hx2 (by decide));have sc:=t23 (k+14) hn hs fn fs;have q2:(⟨o2,x2,hn,hs,fn,fs,l,hpp,k0,k1,k2,k3⟩:Prb).ok:=⟨ho2,Yzl hx2 (by decide)⟩;have H:=qn k (zaM p) ⟨o2,x2,hn,hs,fn,fs,l,hpp,k0,k1,k2,k3⟩ (zxE p hf) (zhh p hp hf) q2;have l2:=kG (k+5) o2 ho2 l hl l.els 0 rfl;have x2':=fun e h=>jx (D (k+15)) l (enO o2) 0 e (.inl h);rw[<-i0]at l2 x2';rw[g1,ch,zyR,g2,ch2,bp,jK,g3,pc,zR];unfold zmu at H;simp only at H;have h40:¬40<l.els.length:=by omega
    by_cases e1:zcT o2 x2=0
    .rw[vM e1,yl,sc,zR];by_cases e2:zan hn hs fn fs=0
     .rw[e2,l2,yi,Yzq,Yzb,zA];rw[Yza (by simp[e1]),Yza (by simp[e2]),Yza h40]at H;by_cases e3:zb9 o2 l.els=0
      .rw[Yza (by simp[e3])]at H;rw[vM e3,yl];by_cases e4:hpp<0
       .rw[Yzc (by simp[ud,e4])]at H;rw[zaT e4,yl,jn,yi,Yzq,Yzb];exact H
       rw[uE e4,zK];by_cases e5:hpp > 20
       .rw[Yzc (by simp[ud,e5])]at H;rw[zsn e5,yl,jn,yi,Yzq,Yzb];exact H
       rw[Yza (by simp only[ud];grind)]at H;rw[zgK e5,zK,e3,jn,yi,Yzq,Yzb];exact H
      .rw[Yzc e3]at H;rw[yL e3,zK,jn,Yza e3,yi,Yzq,Yzb];exact H
     .rw[Yza (by simp[e1]),Yzc e2]at H;rw[x2' _ e2,yi,Yzq,Yzb,zA,yL e2,zK,jn,Yza e2,yi,Yzq,Yzb];exact H
    .rw[Yzc e1]at H;rw[yL e1,zK,x2' _ e1,yi,Yzq,Yzb,zA,yL e1,zK,jn,Yza e1,yi,Yzq,Yzb];exact H
  .rw[Yzc (by simp only[Yzo];omega)];rfl
end Go.Proofs.Tryz.Kn
end
