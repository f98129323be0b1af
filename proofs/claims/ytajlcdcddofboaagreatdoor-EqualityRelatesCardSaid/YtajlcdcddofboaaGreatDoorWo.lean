/-
  Lemmas. No condition.
-/
import Derived.Test.YtajlcdcddofboaaGreatDoorWm
import Derived.Test.YtajlcdcddofboaaGreatDoorVe
import Derived.Test.YtajlcdcddofboaaGreatDoorUl
import Derived.Test.YtajlcdcddofboaaGreatDoorUn
noncomputable section
namespace Go.Proofs.Tryz.Kn
open Go Go.CE Go.PE
def zst:List CE.Sum:=[kSum29]
theorem zpD:∀s∈zst,u6 Tryz.prog s:=by
 intro s hs;simp only[zst,YzO,YzK,or_false]at hs;rcases hs with rfl
 ·exact znb
def bSums:List CE.Sum:=zst++shSums
theorem zp6:∀s∈bSums,u6 Tryz.prog s:=zp0 zpD zlE
def bIds:List Nat:=[9,114,115,116,117]
theorem zn0:bSums.all (fun s=>bIds.any (Nat.beq s.g))=true:=by kernel_rfl
theorem zcM{g:Nat}(h:bIds.any (Nat.beq g)=false):∀s∈bSums,Nat.beq g s.g=false:=by
 intro s hs;have h1:=Yz1.1 zn0 s hs;cases hb:Nat.beq g s.g with
 |false=>rfl
 |true=>
  rw[←Lz1 hb,h]at h1;cases h1
theorem zk9{g:Nat}(h:bIds.any (Nat.beq g)=false):bSums.all (fun s=>!Nat.beq g s.g)=true:=
 Yz1.2 fun s hs=>by rw[zcM h s hs];rfl
def B:Orc:=zyS bIds bSums
theorem zvj{g:Nat}(h:bIds.any (Nat.beq g)=false)(args:List DA):B g args=none:=by
 unfold B zyS;rw[h];rfl
def D(k:Nat):Orc:=deep prog bSums B anT zw5 zxN redI 4 k
theorem dF{k g:Nat}{args:List DA}{x:Option DA}(h:bIds.any (Nat.beq g)=false)(hr:(redI.s g).isNone=true)(e:zyb prog (D k) zw5 (inl prog (D k) zw5 (zxN g) redI 4) (anT g) g args=x):D (k+1) g args=x:=(uy (zvj h _) (zk9 h) hr).trans e
theorem zoG:∀g,zw5 g=true→∀s∈bSums,Nat.beq g s.g=false:=by
 intro g hg;refine zcM ?_;unfold zw5 at hg;split at hg
 ·rfl
 ·rfl
 ·rfl
 ·rfl
 ·rfl
 ·rfl
 ·cases hg
theorem zrb:∀g,zw5 g=true→Nat.ble zx8 g=false:=by
 intro g hg;unfold zw5 at hg;split at hg
 ·rfl
 ·rfl
 ·rfl
 ·rfl
 ·rfl
 ·rfl
 ·cases hg
theorem zCb(k:Nat):u7 (D k) (fun n=>z6 (zX prog) (cFs (xm prog)) bSums redI.s n):=ze3 ztJ zoG zrb (zre (by kernel_rfl)) k
theorem zrg:∀g t,redI.s g=some t→zid prog g t:=by
 intro g t e;unfold redI at e;simp only at e;split at e
 ·cases e;exact Kc.srtP_ok
 ·cases e
theorem D9(k:Nat):D k 9 []=some (S1 (.bool true)):=zgh (by kernel_rfl)
theorem D10(k:Nat)(a b c:DV):D (k+1) 10 [SA [a,b,c]]=P10 (D k) a b c:=dF rfl rfl (p10 ..)
theorem D11(k:Nat)(a b c:DV):D (k+1) 11 [SA [a,b,c]]=P11 (D k) a b c:=dF rfl rfl (p11 ..)
theorem D12(k:Nat)(a b c d f h j m r:DV):D (k+1) 12 [SA [a,b,c,d],SA [f,h,j,m,r]]=P12 (D k) a b c d f h j m r:=dF rfl rfl (p12 ..)
theorem D30(k:Nat)(a b c d:DV):D (k+1) 30 [SA [a,b,c,d]]=P30 (D k) a b c d:=dF rfl rfl (p30 ..)
theorem D31(k:Nat)(a b c d f h j:DV):D (k+1) 31 [SA [a,b,c,d],SA [f,h,j]]=P31 (D k) a b c d f h j:=dF rfl rfl (p31 ..)
theorem D36(k:Nat)(a b c d f h j m r a1:DV):D (k+1) 36 [SA [a,b,c,d,f,h,j,m,r],S1 a1]=P36 (D k) a b c d f h j m r a1:=dF rfl rfl (p36 ..)
theorem D37(k:Nat)(a0 a b c d f h a3:DV):D (k+1) 37 [S1 a0,SA [a,b],SA [c,d,f,h],S1 a3]=P37 (D k) a0 a b c d f h a3:=dF rfl rfl (p37 ..)
theorem D59(k:Nat)(a0:DV):D (k+1) 59 [S1 a0]=P59 (D k) a0:=dF rfl rfl (p59 ..)
theorem D60(k:Nat)(a b c d f h:DV):D (k+1) 60 [SA [a,b,c,d,f,h]]=P60 (D k) a b c d f h:=dF rfl rfl (p60 ..)
theorem D62(k:Nat)(a b c d f h j m r:DV):D (k+1) 62 [SA [a,b,c,d],SA [f,h,j,m,r]]=P62 (D k) a b c d f h j m r:=dF rfl rfl (p62 ..)
theorem D63(k:Nat)(a0 a1:DV):D (k+1) 63 [S1 a0,S1 a1]=P63 (D k) a0 a1:=dF rfl rfl (p63 ..)
theorem D68(k:Nat)(a0:DV):D (k+1) 68 [S1 a0]=P68 (D k) a0:=dF rfl rfl (p68 ..)
theorem D69(k:Nat)(a0:DV):D (k+1) 69 [S1 a0]=P69 (D k) a0:=dF rfl rfl (p69 ..)
theorem D70(k:Nat)(a b c d:DV):D (k+1) 70 [SA [a,b],SA [c,d]]=P70 (D k) a b c d:=dF rfl rfl (p70 ..)
theorem D83(k:Nat)(a0:DV):D (k+1) 83 [S1 a0]=P83 (D k) a0:=dF rfl rfl (p83 ..)
theorem D84(k:Nat)(a b:DV):D (k+1) 84 [SA [a,b]]=P84 (D k) a b:=dF rfl rfl (p84 ..)
theorem D85(k:Nat)(a0:DV):D (k+1) 85 [S1 a0]=P85 (D k) a0:=dF rfl rfl (p85 ..)
theorem D86(k:Nat)(a0:DV):D (k+1) 86 [S1 a0]=P86 (D k) a0:=dF rfl rfl (p86 ..)
theorem D87(k:Nat)(a b:DV):D (k+1) 87 [SA [a,b]]=P87 (D k) a b:=dF rfl rfl (p87 ..)
theorem D88(k:Nat)(a b c d f h j:DV):D (k+1) 88 [SA [a,b,c],SA [d,f,h,j]]=P88 (D k) a b c d f h j:=dF rfl rfl (p88 ..)
theorem D89(k:Nat)(a0 a1:DV):D (k+1) 89 [S1 a0,S1 a1]=P89 (D k) a0 a1:=dF rfl rfl (p89 ..)
theorem D90(k:Nat)(a b c d f h j m r s:DV):D (k+1) 90 [SA [a,b,c,d,f],S1 (.fp [h,j,m,r,s] 0)]=P90 (D k) a b c d f h j m r s:=dF rfl rfl (p90 ..)
theorem D92(k:Nat)(a b c d:DV):D (k+1) 92 [SA [a,b],SA [c,d]]=P92 (D k) a b c d:=dF rfl rfl (p92 ..)
theorem D93(k:Nat)(a b c d:DV):D (k+1) 93 [SA [a,b],SA [c,d]]=P93 (D k) a b c d:=dF rfl rfl (p93 ..)
theorem zCp(k:Nat)(a b:DV):D (k+1) 107 [SA [a,b]]=zz7 (D k) a b:=dF rfl rfl (zBm ..)
theorem zCo(k:Nat)(a0 a1:DV):D (k+1) 108 [S1 a0,S1 a1]=zz6 (D k) a0 a1:=dF rfl rfl (zBl ..)
theorem zCn(k:Nat)(a0:DV):D (k+1) 109 [S1 a0]=zz5 (D k) a0:=dF rfl rfl (zyI ..)
theorem zCm(k:Nat)(a b c:DV):D (k+1) 110 [SA [a,b,c]]=zz4 (D k) a b c:=dF rfl rfl (zzs ..)
theorem zCl(k:Nat)(a b c a1:DV):D (k+1) 111 [SA [a,b,c],S1 a1]=zz3 (D k) a b c a1:=dF rfl rfl (zBk ..)
theorem zCk(k:Nat)(a0 a1:DV):D (k+1) 112 [S1 a0,S1 a1]=zz2 (D k) a0 a1:=dF rfl rfl (zBj ..)
theorem zCg(k:Nat)(a0 a1:DV):D (k+1) 136 [S1 a0,S1 a1]=zzW (D k) a0 a1:=dF rfl rfl (zBd ..)
theorem zCf(k:Nat)(a0:DV):D (k+1) 137 [S1 a0]=zzV (D k) a0:=dF rfl rfl (zBc ..)
theorem zCe(k:Nat)(a0 a1:DV):D (k+1) 138 [S1 a0,S1 a1]=zzU (D k) a0 a1:=dF rfl rfl (zBb ..)
theorem zCd(k:Nat)(a0 a b:DV):D (k+1) 139 [S1 a0,SA [a,b]]=zzT (D k) a0 a b:=dF rfl rfl (zBa ..)
theorem zCc(k:Nat)(a0 a b:DV):D (k+1) 164 [S1 a0,SA [a,b]]=zzS (D k) a0 a b:=dF rfl rfl (zA9 ..)
theorem D7(k:Nat)(a b c d f h j m r s w y z:DV):D (k+1) 7 [SA [a,b,c],SA [d,f,h,j,m],SA [r,s,w,y,z]]=P7 (D k) a b c d f h j m r s w y z:=dF rfl rfl (p7 ..)
theorem D14(k:Nat)(a b c d f h j m r s:DV):D (k+1) 14 [SA [a,b,c,d],SA [f,h,j],SA [m,r,s]]=P14 (D k) a b c d f h j m r s:=dF rfl rfl (p14 ..)
theorem D17(k:Nat)(a b c d f h j:DV):D (k+1) 17 [SA [a,b,c,d],SA [f,h,j]]=P17 (D k) a b c d f h j:=dF rfl rfl (p17 ..)
theorem D18(k:Nat)(a0 a1:DV):D (k+1) 18 [S1 a0,S1 a1]=P18 (D k) a0 a1:=dF rfl rfl (p18 ..)
theorem D20(k:Nat)(a b c d f h j m r s:DV):D (k+1) 20 [SA [a,b,c,d],SA [f,h,j],SA [m,r,s]]=P20 (D k) a b c d f h j m r s:=dF rfl rfl (p20 ..)
theorem D26(k:Nat)(a0 a1 a2:DV):D (k+1) 26 [S1 a0,S1 a1,S1 a2]=P26 (D k) a0 a1 a2:=dF rfl rfl (p26 ..)
theorem D27(k:Nat)(a0 a1:DV):D (k+1) 27 [S1 a0,S1 a1]=P27 (D k) a0 a1:=dF rfl rfl (p27 ..)
theorem D28(k:Nat)(a0 a1 a2:DV):D (k+1) 28 [S1 a0,S1 a1,S1 a2]=P28 (D k) a0 a1 a2:=dF rfl rfl (p28 ..)
theorem D38(k:Nat)(a b c d a1:DV):D (k+1) 38 [SA [a,b,c,d],S1 a1]=P38 (D k) a b c d a1:=dF rfl rfl (p38 ..)
theorem D46(k:Nat)(a b c d a1 a2 a3:DV):D (k+1) 46 [SA [a,b,c,d],S1 a1,S1 a2,S1 a3]=P46 (D k) a b c d a1 a2 a3:=dF rfl rfl (p46 ..)
theorem D47(k:Nat)(a0 a1:DV):D (k+1) 47 [S1 a0,S1 a1]=P47 (D k) a0 a1:=dF rfl rfl (p47 ..)
theorem D50(k:Nat)(a0 a1:DV):D (k+1) 50 [S1 a0,S1 a1]=P50 (D k) a0 a1:=dF rfl rfl (p50 ..)
theorem D51(k:Nat)(a0 a1:DV):D (k+1) 51 [S1 a0,S1 a1]=P51 (D k) a0 a1:=dF rfl rfl (p51 ..)
theorem D52(k:Nat)(a b c:DV):D (k+1) 52 [SA [a,b],S1 (.fp [c] 0)]=P52 (D k) a b c:=dF rfl rfl (p52 ..)
theorem D53(k:Nat)(a0 a b:DV):D (k+1) 53 [S1 a0,SA [a,b]]=P53 (D k) a0 a b:=dF rfl rfl (p53 ..)
theorem D71(k:Nat)(a0 a b c d a2:DV):D (k+1) 71 [S1 a0,SA [a,b,c,d],S1 a2]=P71 (D k) a0 a b c d a2:=dF rfl rfl (p71 ..)
theorem D72(k:Nat)(a b c d f h j m r:DV):D (k+1) 72 [SA [a,b,c,d],SA [f,h,j],SA [m,r]]=P72 (D k) a b c d f h j m r:=dF rfl rfl (p72 ..)
theorem D80(k:Nat)(a0 a1:DV):D (k+1) 80 [S1 a0,S1 a1]=P80 (D k) a0 a1:=dF rfl rfl (p80 ..)
theorem D81(k:Nat)(a0 a b:DV):D (k+1) 81 [S1 a0,SA [a,b]]=P81 (D k) a0 a b:=dF rfl rfl (p81 ..)
theorem D94(k:Nat)(a b c d a1:DV):D (k+1) 94 [SA [a,b,c,d],S1 a1]=P94 (D k) a b c d a1:=dF rfl rfl (p94 ..)
theorem D95(k:Nat)(a0 a b a2:DV):D (k+1) 95 [S1 a0,SA [a,b],S1 a2]=P95 (D k) a0 a b a2:=dF rfl rfl (p95 ..)
theorem D98(k:Nat)(a0 a b:DV):D (k+1) 98 [S1 a0,SA [a,b]]=P98 (D k) a0 a b:=dF rfl rfl (p98 ..)
theorem zCj(k:Nat)(a0 a1:DV):D (k+1) 118 [S1 a0,S1 a1]=zz1 (D k) a0 a1:=dF rfl rfl (zBi ..)
theorem zCi(k:Nat)(a b c d:DV):D (k+1) 119 [SA [a,b,c],S1 (.fp [d] 0)]=zz0 (D k) a b c d:=dF rfl rfl (zBh ..)
theorem zCh(k:Nat)(a0 a b:DV):D (k+1) 121 [S1 a0,SA [a,b]]=zzY (D k) a0 a b:=dF rfl rfl (zBf ..)
theorem D39(k:Nat)(a b c d f h j:DV):D (k+1) 39 [SA [a,b,c,d],SA [f,h,j]]=P39 (D k) a b c d f h j:=dF rfl rfl (p39 ..)
end Go.Proofs.Tryz.Kn
end
section
namespace Go.Proofs.Tryz.Kn
open Go Go.CE Go.PE
theorem zjP:∀(l:List UInt8) (i:Nat),zh7 l i=(l[i]?).map fun c=>U8 (c.toNat:Int)
 | [],i=>by simp[zh7]
 |c::l,0=>rfl
 |c::l,i+1=>by
  show zh7 l i=_;rw[zjP l i];simp
theorem zfM(s:ByteArray)(k:IntKind)(i:Nat):zaY (.str s) (.int k (i:Int))=(s.data.toList[i]?).map fun c=>U8 (c.toNat:Int):=zjP _ _
theorem zd8(s:ByteArray):s.size=s.data.toList.length:=(YyP (xs:=s.data)).symm
theorem zoZ(a b:ByteArray):zx2 .eql (.str a) (.str b)=some (.bool (a.data.toList==b.data.toList)):=rfl
def zay(n:Int):Bool:=(decide (65≤n)&&decide (n≤90))||(decide (97≤n)&&decide (n≤122))
theorem t83(k:Nat)(n:Int):D (k+1) 83 [S1 (U8 n)]=some (S1 (Bo (zay n))):=by
 rw[D83];unfold P83 zay;by_cases h1:65≤n<;>by_cases h2:n≤90<;>by_cases h3:97≤n<;>by_cases h4:n≤122<;>simp[h1,h2,h3,h4]
def zk6(n:Int):Bool:=zay n||(decide (48≤n)&&decide (n≤57))||decide (n=95)
def isName(s:ByteArray):Bool:=
 match s.data.toList with
 | []=>false
 |c::l=>decide (l.length≤31)&&zay (c.toNat:Int)&&l.all fun c=>zk6 (c.toNat:Int)
theorem l59(k:Nat)(s:ByteArray)(hs:s.data.toList.length≤1000):∀(r:List UInt8) (i:Nat),s.data.toList.drop i=r→
  zL (zod (D (k+1)) (.str s)) [I6 (i:Int)] []=some (if r.all (fun c=>zk6 (c.toNat:Int)) then(.exit 0,[],[]) else(.ret,[Bo false],[])):=by
 intro r
 induction r with
 |nil=>
  intro i h;refine zr ?_;have:=zN h;simp only[zod,zt,zbX,zb,zi,zd8,xh this,zl];rfl
 |cons c r ih=>
  intro i h;have h1:=yq h;have h2:(i:Int)<(s.data.toList.length:Int):=by omega
  have ea:zwJ .add (I6 (i:Int)) (I6 1)=some (I6 ((i+1:Nat):Int)):=yJ;have ix:zaY (.str s) (I6 (i:Int))=some (U8 (c.toNat:Int)):=by rw[zfM,zU h];rfl
  have body:zod (D (k+1)) (.str s) [I6 (i:Int)] []=some (if zk6 (c.toNat:Int) then(.normal,[I6 ((i+1:Nat):Int)],[]) else(.ret,[Bo false],[])):=by
   simp only[zod,zt,zbX,zb,zi,zl,zd8,zwZ h1,if_true,ix,t83,zW,yI,ea,ya,yH];unfold zk6;cases zay (c.toNat:Int) with
   |true=>simp
   |false=>
    by_cases h3:(c.toNat:Int)<48
    ·by_cases h4:(c.toNat:Int)=95
     ·omega
     ·have:¬(48≤(c.toNat:Int)):=by omega
      simp[h3,h4,this]
    ·by_cases h5:57<(c.toNat:Int)
     ·have h6:¬((c.toNat:Int)≤57):=by omega
      by_cases h4:(c.toNat:Int)=95<;>simp[h3,h4,h5,h6]
     ·have h6:(c.toNat:Int)≤57:=by omega
      have h7:48≤(c.toNat:Int):=by omega
      simp[h3,h5,h6,h7]
  cases hc:zk6 (c.toNat:Int) with
  |true=>
   rw[hc]at body;rw[zD body,ih (i+1) (zA h)];simp[hc]
  |false=>
   rw[hc]at body;rw[zy body];simp[hc]
theorem t59(k:Nat)(s:ByteArray):D (k+2) 59 [S1 (St s)]=some (S1 (Bo (isName s))):=by
 rw[D59];unfold P59 isName;simp only[zoZ,zb,zl,zbX,yH,zd8];cases hl:s.data.toList with
 |nil=>rfl
 |cons c l=>
  have ix:zaY (.str s) (I6 0)=some (U8 (c.toNat:Int)):=by
   have:=zfM s .i64 0;rw[hl]at this;exact this
  simp only[ix,zb,t83,zW,yI,zl];rw[show ((c::l:List UInt8)==(ByteArray.mk #[]).data.toList)=false from rfl];by_cases h1:l.length≤31
  ·have h2:¬(32<((c::l).length:Int)):=by simp only[Yzk];omega
   simp only[h2,h1,decide_true,decide_false,Yye,Yzh,if_false];cases zay (c.toNat:Int) with
   |false=>rfl
   |true=>
    have:=l59 k s (by rw[hl,Yzk];omega) l 1 (by rw[hl];rfl);simp only[YzG,Yzh,if_false,Yye];rw[show (I6 1:DV)=I6 ((1:Nat):Int) from rfl,this];cases l.all fun c=>zk6 (c.toNat:Int)<;>rfl
  ·have h2:32<((c::l).length:Int):=by simp only[Yzk];omega
   simp only[h1,h2,decide_true,decide_false,Bool.false_and,if_true];rfl
def right(a b:Int):Int:=if a<0 then 3 else if 127<b then 3 else if b<a then 23 else 0
theorem t87(k:Nat)(a b:Int):D (k+1) 87 [SA [I6 a,I6 b]]=some (S1 (I6 (right a b))):=by
 rw[D87];unfold P87 right;by_cases h1:a<0<;>by_cases h2:127<b<;>by_cases h3:b<a<;>simp[h1,h2,h3]
theorem zBy(_O:Orc):∀(b a:Nat),zL (zj0) [U64 (b:Int),U64 (a:Int)] []=some (.exit 0,[U64 ((Nat.gcd b a:Nat):Int)],[]):=by
 intro b
 induction b using Nat.strongRecOn with
 |ind b ih=>
  intro a;by_cases hb:0<b
  ·have hz:(b:Int)≠0:=by omega
   have h0:(0:Int)<(b:Int):=by omega
   rw[zD (L':=[U64 ((a % b:Nat):Int),U64 (b:Int)]) (M':=[]) (by simp only[zj0,zt,yD,yH,zb,zl,zbr _ _ _ hz,h0,decide_true,if_true];rfl),ih (a % b) (Yz2 _ hb) b,←Nat.gcd_rec]
  ·have:b=0:=by omega
   subst this;exact zr (by simp[zj0])
theorem t136(k:Nat)(a b:Nat):D (k+1) 136 [S1 (U64 (a:Int)),S1 (U64 (b:Int))]=some (S1 (U64 ((Nat.gcd b a:Nat):Int))):=by
 rw[zCg];unfold zzW;rw[zBy B];rfl
theorem zgi{k:IntKind}{n:Nat}(h:n≤18446744073709551615):yQ .u64 (.int k (n:Int))=some (U64 (n:Int)):=by
 show some (DV.int .u64 (bif Nat.ble n 18446744073709551615 then .ofNat n else IntKind.wrap .u64 (.ofNat n)))=_;rw[Yzm h];rfl
theorem t137(k:Nat){a:Int}(h1:-1000000≤a)(h2:a≤1000000):D (k+1) 137 [S1 (I6 a)]=some (S1 (U64 (a.natAbs:Int))):=by
 rw[zCf];unfold zzV;by_cases h:a<0
 ·obtain⟨n,rfl⟩:∃n:Nat,a=-(n:Int):=⟨a.natAbs,by omega⟩;have e1:yQ .u64 (I6 (-(n:Int)))=some (U64 (18446744073709551616-(n:Int))):=by
   show some (DV.int .u64 (wv .u64 (-(n:Int))))=_;rw[zq0];congr 2;omega
  have e2:wv .u64 (-(18446744073709551616-(n:Int)))=(n:Int):=by rw[zq0];omega
  simp only[zi,zb,zl,h,decide_true,if_true,e1,zo0,e2];simp
 ·obtain⟨n,rfl⟩:∃n:Nat,a=(n:Int):=⟨a.natAbs,by omega⟩;simp only[zi,zb,zl,h,decide_false,Yzh,if_false,zgi (show n≤18446744073709551615 by omega)];simp
def zcs(n d:Int):Int:=if d≤0 then 2 else if 1000000<d then 2 else if n < -1000000 then 2 else if 1000000<n then 2 else bif Nat.gcd d.toNat n.natAbs==1 then 0 else 2
theorem t107(k:Nat)(n d:Int):D (k+2) 107 [SA [I6 n,I6 d]]=some (S1 (I6 (zcs n d))):=by
 rw[zCp];unfold zz7 zcs;simp only[wF,yH,zi,zb,zl,Yzn];by_cases h1:d≤0
 ·simp only[h1,if_true]
 by_cases h2:1000000<d
 ·simp only[h1,h2,if_true,if_false]
 by_cases h3:n < -1000000
 ·simp only[h1,h2,h3,if_true,if_false]
 by_cases h4:1000000<n
 ·simp only[h1,h2,h3,h4,if_true,if_false]
 obtain⟨m,rfl⟩:∃m:Nat,d=(m:Int):=⟨d.toNat,by omega⟩;simp only[h1,h2,h3,h4,if_false];rw[t137 k (by omega) (by omega)];simp only[zW,zgi (show m≤18446744073709551615 by omega),zb,t136,ya,zl,Yyi];generalize Nat.gcd m n.natAbs=q;by_cases h5:q=1
 ·rw[h5];rfl
 ·have:¬((q:Int)=1):=by omega
  have h6:(q==1)=false:=by simpa using h5
  simp[this,h6]
def wS(n d:Int):Int:=if zcs n d≠0 then 2 else if n≤0 then 3 else if 128*d<n then 3 else if 128<d then 4 else 0
theorem t84(k:Nat)(n d:Int):D (k+3) 84 [SA [I6 n,I6 d]]=some (S1 (I6 (wS n d))):=by
 rw[D84];unfold P84 wS;rw[t107];simp only[zW,ya,zb,zl];by_cases h:zcs n d=0
 ·have hd:0<d∧d≤1000000:=by
   unfold zcs at h;split at h
   ·cases h
   split at h
   ·cases h
   omega
  simp only[h,wF,zb,zl,zhp (show (-9223372036854775808:Int)≤128*d by omega) (show 128*d≤9223372036854775807 by omega),yH,Yzn];by_cases h1:n≤0
  ·simp[h1]
  by_cases h2:128*d<n
  ·simp[h1,h2]
  by_cases h3:128<d<;>simp[h1,h2,h3]
 ·simp[h]
theorem t85(k:Nat)(n:Int):D (k+1) 85 [S1 (I6 n)]=some (S1 (Bo (decide (-256≤n)&&decide (n≤256)))):=by
 rw[D85];unfold P85;by_cases h1:-256≤n<;>by_cases h2:n≤256<;>simp[h1,h2]
def xS(n:Int):Bool:=decide (n<0)||decide (1000000<n)
theorem t109(k:Nat)(n:Int):D (k+1) 109 [S1 (I6 n)]=some (S1 (Bo (xS n))):=by
 rw[zCn];unfold zz5 xS;by_cases h1:n<0<;>by_cases h2:1000000<n<;>simp[h1,h2]
theorem zu2(O:Orc)(g:Nat)(ds:List DA):zxi O (.fn g []) ds=O g ds:=by simp[zxi]
def xc{α:Type}(p:α→Bool):List α→Nat→Option Nat
 | [],_=>none
 |x::l,i=>if p x then some i else xc p l (i+1)
theorem xH{α:Type}(p:α→Bool):∀(l:List α) (i:Nat),(xc p l i).isSome=l.any p
 | [],_=>rfl
 |x::l,i=>by
  simp only[xc,List.any_cons];cases h:p x
  ·simp[xH p l (i+1)]
  ·simp
def found:Option Nat→PX
 |some i=>(.ret,[I6 (i:Int)],[])
 |none=>(.exit 0,[],[])
abbrev enW(n:Int):List DV:=[I6 n]
theorem zBx(k:Nat)(w:Sl Int)(hw:w.els.length≤9223372036854775807):∀(r:List Int) (i:Nat),w.els.drop i=r→
  zL (zgN (D (k+1)) (I6 (w.els.length:Int)) (enL 1 enW w) (.fn 109 [])) [I6 (i:Int)] []=some (found (xc xS r i)):=by
 intro r
 induction r with
 |nil=>
  intro i h;refine zr ?_;simp only[zgN,zt,zi,zb,xh (zN h),zl];rfl
 |cons x r ih=>
  intro i h;have h1:=yq h;have ea:zwJ .add (I6 (i:Int)) (I6 1)=some (I6 ((i+1:Nat):Int)):=yJ;have body:zgN (D (k+1)) (I6 (w.els.length:Int)) (enL 1 enW w) (.fn 109 []) [I6 (i:Int)] []=some (if xS x then(.ret,[I6 (i:Int)],[]) else(.normal,[I6 ((i+1:Nat):Int)],[])):=by
   simp only[zgN,zt,zi,zb,zwZ h1,zl,if_true,zV h,y3,zu2,t109,zW,ea];cases xS x<;>rfl
  cases hc:xS x with
  |true=>rw[hc]at body;rw[zy body];simp[xc,hc,found]
  |false=>rw[hc]at body;rw[zD body,ih (i+1) (zA h)];simp[xc,hc]
theorem t138(k:Nat)(w:Sl Int)(hw:w.els.length≤9223372036854775807):D (k+2) 138 [S1 (enL 1 enW w),S1 (.fn 109 [])]=some (S1 (I6 (match xc xS w.els 0 with|some i=>(i:Int)|none=>-1))):=by
 rw[zCe];unfold zzU;have:=zBx k w hw w.els 0 rfl;simp only[zF,zb];rw[show (I6 0:DV)=I6 ((0:Nat):Int) from rfl,this];cases xc xS w.els 0<;>rfl
theorem t108(k:Nat)(w:Sl Int)(hw:w.els.length≤9223372036854775807):D (k+3) 108 [S1 (enL 1 enW w),S1 (.fn 109 [])]=some (S1 (Bo (w.els.any xS))):=by
 rw[zCo];unfold zz6;rw[t138 k w hw,←xH xS w.els 0];cases xc xS w.els 0 with
 |none=>rfl
 |some i=>
  have:(0:Int)≤(i:Int):=by omega
  simp[this]
theorem t86(k:Nat)(w:Sl Int)(hw:w.els.length≤9223372036854775807):D (k+4) 86 [S1 (enL 1 enW w)]=some (S1 (I6 (if w.els.any xS then 3 else 0))):=by
 rw[D86];unfold P86;rw[t108 k w hw];cases w.els.any xS<;>rfl
structure Zj where
 name:ByteArray
 tone:ByteArray
 num:Int
 den:Int
 first:Int
 wind:Sl Int
def enR(r:Zj):List DV:=[St r.name,St r.tone,I6 r.num,I6 r.den,I6 r.first,enL 1 enW r.wind]
def yX(r:Zj):Int:=
 if !isName r.name then 8 else if !isName r.tone then 8 else if wS r.num r.den≠0 then wS r.num r.den
 else if !(decide (-256≤r.first)&&decide (r.first≤256)) then 3 else if r.wind.els.length=0 then 13 else if 128<r.wind.els.length then 4 else if r.wind.els.any xS then 3 else 0
theorem t60(k:Nat)(r:Zj)(hw:r.wind.els.length≤9223372036854775807):D (k+5) 60 [SA (enR r)]=some (S1 (I6 (yX r))):=by
 unfold enR;rw[D60];unfold P60 yX;simp only[t59,zW,yI,zb,zl];cases isName r.name with
 |false=>rfl
 |true=>
  cases isName r.tone with
  |false=>rfl
  |true=>
   simp only[t84,t85,t86 k r.wind hw,zW,yI,zb,zl,ya,zF,wZ,yH,YzG,Yzh,if_false];by_cases h1:wS r.num r.den=0
   ·simp only[h1];cases (decide (-256≤r.first)&&decide (r.first≤256)) with
    |false=>rfl
    |true=>
     by_cases h2:r.wind.els.length=0
     ·simp[h2]
     ·have h3:¬((r.wind.els.length:Int)=0):=by omega
      by_cases h4:128<r.wind.els.length
      ·have h5:(128:Int)<(r.wind.els.length:Int):=by omega
       simp[h2,h4,h5]
      ·have h5:¬((128:Int)<(r.wind.els.length:Int)):=by omega
       simp[h2,h4,h5]
   ·simp[h1]
def wY:List Zj→Int
 | []=>0
 |r::l=>if yX r≠0 then yX r else wY l
def zdh(r:Zj):Prop:=r.wind.els.length≤9223372036854775807
def zxT(id:Nat)(e:Int):PX:=if e≠0 then(.ret,[I6 e],[]) else(.exit id,[],[])
theorem zBC(k:Nat)(l:Sl Zj)(hl:l.els.length≤9223372036854775807)(hr:∀r∈l.els,zdh r):∀(r:List Zj) (i:Nat),l.els.drop i=r→
  zL (zgV (D (k+5)) (I6 (l.els.length:Int)) (enL 6 enR l)) [I6 (i:Int)] []=some (zxT 0 (wY r)):=by
 intro r
 induction r with
 |nil=>
  intro i h;refine zr ?_;simp only[zgV,zt,zi,zb,xh (zN h),zl];rfl
 |cons x r ih=>
  intro i h;have h1:=yq h;have ea:zwJ .add (I6 (i:Int)) (I6 1)=some (I6 ((i+1:Nat):Int)):=yJ;have hx:zdh x:=hr x (Lz3 (zU h));have c:D (k+5) 60 [SA [atD (enR x) 0,atD (enR x) 1,atD (enR x) 2,atD (enR x) 3,atD (enR x) 4,atD (enR x) 5]]=some (S1 (I6 (yX x))):=t60 k x hx;have body:zgV (D (k+5)) (I6 (l.els.length:Int)) (enL 6 enR l) [I6 (i:Int)] []=some (if yX x≠0 then(.ret,[I6 (yX x)],[]) else(.normal,[I6 ((i+1:Nat):Int)],[])):=by
   simp only[zgV,zt,zi,zb,zwZ h1,zl,if_true,zV h,c,zW,ya,ea];by_cases hz:yX x=0<;>simp[hz]
  by_cases hc:yX x=0
  ·rw[Yzb (by simpa using hc)]at body;rw[zD body,ih (i+1) (zA h)];simp[wY,hc]
  ·rw[Yzd hc]at body;rw[zy body];simp[wY,hc,zxT]
structure Place where
 ranks:Sl Zj
 low:Int
 high:Int
def enP(x:Place):List DV:=[enL 6 enR x.ranks,I6 x.low,I6 x.high]
structure Place.ok (x:Place):Prop where
 len:x.ranks.els.length≤9223372036854775807
 ranks:∀r∈x.ranks.els,zdh r
def uJ(x:Place):Int:=if 60<x.ranks.els.length then 4 else if wY x.ranks.els≠0 then wY x.ranks.els else right x.low x.high
theorem t110(k:Nat)(x:Place)(hx:x.ok):D (k+6) 110 [SA (enP x)]=some (S1 (I6 (uJ x))):=by
 unfold enP;rw[zCm];unfold zz4 uJ;have:=zBC k x.ranks hx.len hx.ranks x.ranks.els 0 rfl;simp only[zF,zb,yH,zl];rw[show (I6 0:DV)=I6 ((0:Nat):Int) from rfl,this];by_cases h1:60<x.ranks.els.length
 ·have h2:(60:Int)<(x.ranks.els.length:Int):=by omega
  simp[h1,h2]
 ·have h2:¬((60:Int)<(x.ranks.els.length:Int)):=by omega
  simp only[h1,h2,decide_false,Yzh,if_false];unfold zxT;by_cases h3:wY x.ranks.els=0
  ·simp[h3,t87]
  ·simp[h3]
structure Zq where
 rank:Int
 shift:Int
deriving DecidableEq
def enD(d:Zq):List DV:=[I6 d.rank,I6 d.shift]
theorem znC(a b:Zq):zxx [1,1] [I6 a.rank,I6 a.shift] [I6 b.rank,I6 b.shift]=some (decide (a=b)):=by
 cases a with|mk r s=>
 cases b with|mk r' s'=>
 simp only[zxx,eqD,xl,Yza,jO];by_cases h1:r=r'
 ·by_cases h2:s=s'
  ·simp[h1,h2]
  ·have e2:(s==s')=false:=by simpa using h2
   simp[h1,h2,e2]
 ·have e1:(r==r')=false:=by simpa using h1
  simp[h1,e1]
theorem zBw(d:Zq)(l:Sl Zq)(hl:l.els.length≤9223372036854775807):∀(r:List Zq) (i:Nat),l.els.drop i=r→
  zL (zgM (I6 (l.els.length:Int)) (enL 2 enD l) (I6 d.rank) (I6 d.shift)) [I6 (i:Int)] []=some (found (xc (fun x=>decide (d=x)) r i)):=by
 intro r
 induction r with
 |nil=>
  intro i h;refine zr ?_;simp only[zgM,zt,zi,zb,xh (zN h),zl];rfl
 |cons x r ih=>
  intro i h;have h1:=yq h;have ea:zwJ .add (I6 (i:Int)) (I6 1)=some (I6 ((i+1:Nat):Int)):=yJ;have eq:=znC d x;have body:zgM (I6 (l.els.length:Int)) (enL 2 enD l) (I6 d.rank) (I6 d.shift) [I6 (i:Int)] []=some (if d=x then(.ret,[I6 (i:Int)],[]) else(.normal,[I6 ((i+1:Nat):Int)],[])):=by
   simp only[zgM,zt,zi,zb,zwZ h1,zl,if_true,zV h,enD,y3,xJ,eq,ea];by_cases hz:d=x<;>simp[hz]
  by_cases hc:d=x
  ·rw[Yzd hc]at body;rw[zy body];simp[xc,hc,found]
  ·rw[Yzb hc]at body;rw[zD body,ih (i+1) (zA h)];simp[xc,hc]
theorem t164(k:Nat)(d:Zq)(l:Sl Zq)(hl:l.els.length≤9223372036854775807):D (k+1) 164 [S1 (enL 2 enD l),SA (enD d)]=some (S1 (I6 (match xc (fun x=>decide (d=x)) l.els 0 with|some i=>(i:Int)|none=>-1))):=by
 unfold enD;rw[zCc];unfold zzS;have:=zBw d l hl l.els 0 rfl;unfold enD at this;simp only[zF,zb];rw[show (I6 0:DV)=I6 ((0:Nat):Int) from rfl,this];cases xc (fun x=>decide (d=x)) l.els 0<;>rfl
theorem t139(k:Nat)(d:Zq)(l:Sl Zq)(hl:l.els.length≤9223372036854775807):D (k+2) 139 [S1 (enL 2 enD l),SA (enD d)]=some (S1 (Bo (l.els.any fun x=>decide (d=x)))):=by
 have:=t164 k d l hl;unfold enD at this ⊢;rw[zCd];unfold zzT;rw[this,←xH (fun x=>decide (d=x)) l.els 0];cases xc (fun x=>decide (d=x)) l.els 0 with
 |none=>rfl
 |some i=>
  have:(0:Int)≤(i:Int):=by omega
  simp[this]
end Go.Proofs.Tryz.Kn
end
section
namespace Go.Proofs.Tryz.Kn
open Go Go.CE Go.PE
theorem zwz(y:Nat):zxb none 0 y=some 0:=rfl
theorem zwA{k:IntKind}{i d y:Nat}(h:i≤y):zxb (some (.int k (i:Int))) d y=some i:=by
 show (bif Nat.ble i y then some i else none)=_;rw[Yzm h];rfl
theorem zbW{α:Type}{st i:Nat}{f:α→List DV}{l:List α}{k:IntKind}(h:i≤l.length):
  jk st (enL st f (some l)) none (some (.int k (i:Int)))=some (enL st f (some (l.take i))):=by
 unfold jk;rw[zbz];simp only[Yzu,Yza,Yzj,zwA h,zwz];rw[Bool.true_or,Yza,YyM,Nat.sub_zero,←List.map_take];rfl
def uf(n:Nat):List Zq→List Zq→Int
 |_,[]=>0
 |p,d::r=>if d.rank<0 then 10 else if (n:Int)≤d.rank then 10 else if d.shift < -127 then 3 else if 127<d.shift then 3 else if p.any (fun x=>decide (d=x)) then 9 else uf n (p++[d]) r
def y8(n:Nat)(l:List Zq):Int:=if 8<l.length then 4 else uf n [] l
theorem zBB(k:Nat)(rs:Sl Zj)(l:List Zq)(hl:l.length≤9223372036854775807):∀(r:List Zq) (i:Nat),l.drop i=r→
  zL (zgU (D (k+2)) (I6 (l.length:Int)) (enL 2 enD (some l)) (enL 6 enR rs)) [I6 (i:Int)] []=some (zxT 0 (uf rs.els.length (l.take i) r)):=by
 intro r
 induction r with
 |nil=>
  intro i h;refine zr ?_;simp only[zgU,zt,zi,zb,xh (zN h),zl];rfl
 |cons x r ih=>
  intro i h;have h1:=yq h;have ea:zwJ .add (I6 (i:Int)) (I6 1)=some (I6 ((i+1:Nat):Int)):=yJ;have ix:zwP 2 (enL 2 enD (some l)) (I6 (i:Int))=some (enD x):=zV (v:=some l) h _;have sl:jk 2 (enL 2 enD (some l)) none (some (I6 (i:Int)))=some (enL 2 enD (some (l.take i))):=zbW (by omega);have c:=t139 k x (some (l.take i)) (by simp only[Sl.els,Yyg,List.length_take];omega);simp only[enD]at c;have body:zgU (D (k+2)) (I6 (l.length:Int)) (enL 2 enD (some l)) (enL 6 enR rs) [I6 (i:Int)] [] =
    some (if x.rank<0 then(.ret,[I6 10],[]) else if (rs.els.length:Int)≤x.rank then(.ret,[I6 10],[]) else if x.shift < -127 then(.ret,[I6 3],[]) else if 127<x.shift then(.ret,[I6 3],[]) else if (l.take i).any (fun y=>decide (x=y)) then(.ret,[I6 9],[]) else(.normal,[I6 ((i+1:Nat):Int)],[])):=by
   simp only[zgU,zt,zi,zb,zwZ h1,zl,if_true,ix,enD,y3,xJ,zF,wG,yH,sl,c,zW,ea,Yzn,Sl.els,Yyg]
   repeat (split<;>try rfl)
  have hn:l.take (i+1)=l.take i++[x]:=by rw[Yyy,zU h];rfl
  unfold uf;by_cases a1:x.rank<0
  ·rw[Yzd a1]at body ⊢;rw[zy body];rfl
  rw[Yzb a1]at body ⊢;by_cases a2:(rs.els.length:Int)≤x.rank
  ·rw[Yzd a2]at body ⊢;rw[zy body];rfl
  rw[Yzb a2]at body ⊢;by_cases a3:x.shift < -127
  ·rw[Yzd a3]at body ⊢;rw[zy body];rfl
  rw[Yzb a3]at body ⊢;by_cases a4:127<x.shift
  ·rw[Yzd a4]at body ⊢;rw[zy body];rfl
  rw[Yzb a4]at body ⊢;by_cases a5:(l.take i).any (fun y=>decide (x=y))=true
  ·rw[Yzd a5]at body ⊢;rw[zy body];rfl
  rw[Yzb a5]at body ⊢;rw[zD body,ih (i+1) (zA h),hn]
theorem t111(k:Nat)(x:Place)(l:Sl Zq)(hl:l.els.length≤9223372036854775807):D (k+3) 111 [SA (enP x),S1 (enL 2 enD l)]=some (S1 (I6 (y8 x.ranks.els.length l.els))):=by
 unfold enP;rw[zCl];unfold zz3 y8;simp only[zF,zb,yH,zl];by_cases h1:8<l.els.length
 ·have h2:(8:Int)<(l.els.length:Int):=by omega
  simp[h1,h2]
 ·have h2:¬((8:Int)<(l.els.length:Int)):=by omega
  simp only[h1,h2,decide_false,Yzh,if_false];cases l with
  |none=>rw[zr (id:=0) (L':=[]) (M':=[]) (by rfl)];rfl
  |some l=>
   have:=zBB k x.ranks l hl l 0 rfl;rw[show (I6 0:DV)=I6 ((0:Nat):Int) from rfl,show Sl.els (some l:Sl Zq)=l from rfl,this,List.take_zero];unfold zxT;by_cases h3:uf x.ranks.els.length [] l=0
   ·simp[h3]
   ·simp[h3]
structure Seg where
 lo:Int
 hi:Int
 draws:Sl Zq
def enS(g:Seg):List DV:=[I6 g.lo,I6 g.hi,enL 2 enD g.draws]
def zts(g:Seg):Prop:=g.draws.els.length≤9223372036854775807
structure Zr where
 name:ByteArray
 num:Int
 den:Int
 segs:Sl Seg
def xz(s:Zr):List DV:=[St s.name,I6 s.num,I6 s.den,enL 3 enS s.segs]
structure Zr.ok (s:Zr):Prop where
 len:s.segs.els.length≤9223372036854775807
 segs:∀g∈s.segs.els,zts g
def leO(a:Int):Option Int→Bool
 |some t=>decide (a≤t)
 |none=>false
def zaX(l:List Seg):Nat→Option Int
 |0=>none
 |j+1=>(l[j]?).map Seg.hi
def uF(x:Place):List Seg→Option Int→Int
 | [],_=>0
 |g::r,p=>
  if min g.lo g.hi<x.low then 23 else if x.high<max g.lo g.hi then 23 else if g.hi<g.lo then 6
  else if leO g.lo p then 6
  else if y8 x.ranks.els.length g.draws.els≠0 then y8 x.ranks.els.length g.draws.els else uF x r (some g.hi)
theorem l88(k:Nat)(x:Place)(l:Sl Seg)(hl:l.els.length≤9223372036854775807)(hs:∀g∈l.els,zts g):∀(r:List Seg) (i:Nat),l.els.drop i=r→
  zL (zgA (D (k+3)) (I6 (l.els.length:Int)) (enL 3 enS l) (I6 x.low) (I6 x.high) (enL 6 enR x.ranks)) [I6 (i:Int)] []=some (zxT 1 (uF x r (zaX l.els i))):=by
 intro r
 induction r with
 |nil=>
  intro i h;refine zr ?_;simp only[zgA,zt,zi,zb,xh (zN h),zl];rfl
 |cons g r ih=>
  intro i h;have h1:=yq h;have ea:zwJ .add (I6 (i:Int)) (I6 1)=some (I6 ((i+1:Nat):Int)):=yJ;have c:=t111 k x g.draws (hs g (Lz3 (zU h)));simp only[enP]at c;have body:zgA (D (k+3)) (I6 (l.els.length:Int)) (enL 3 enS l) (I6 x.low) (I6 x.high) (enL 6 enR x.ranks) [I6 (i:Int)] [] =
    some (if min g.lo g.hi<x.low then(.ret,[I6 23],[]) else if x.high<max g.lo g.hi then(.ret,[I6 23],[]) else if g.hi<g.lo then(.ret,[I6 6],[])
     else if leO g.lo (zaX l.els i)=true then(.ret,[I6 6],[]) else if y8 x.ranks.els.length g.draws.els≠0 then(.ret,[I6 (y8 x.ranks.els.length g.draws.els)],[]) else(.normal,[I6 ((i+1:Nat):Int)],[])):=by
   simp only[zgA,zt,zi,zb,zwZ h1,zl,if_true,zV h,enS,y3,xJ,ztN,ztO,yH,c,zW,ea,Yzn,ya];have tail:(if (!(y8 x.ranks.els.length g.draws.els==0))=true then some ((.ret,[I6 (y8 x.ranks.els.length g.draws.els)],[]):PX) else some (.normal,[I6 ((i+1:Nat):Int)],[])) =
     some (if y8 x.ranks.els.length g.draws.els≠0 then(.ret,[I6 (y8 x.ranks.els.length g.draws.els)],[]) else(.normal,[I6 ((i+1:Nat):Int)],[])):=by
    by_cases hz:y8 x.ranks.els.length g.draws.els=0<;>simp[hz]
   rw[tail];cases i with
   |zero=>
    have:¬((0:Int)<((0:Nat):Int)):=by omega
    simp only[this,if_false,Yzh,zaX,leO]
    repeat (split<;>try rfl)
   |succ j=>
    obtain⟨q,hq⟩:∃q,l.els[j]? = some q:=⟨_,Lz5 (by omega)⟩;have h2:(0:Int)<((j+1:Nat):Int):=by omega
    have es:zwJ .sub (I6 ((j+1:Nat):Int)) (I6 1)=some (I6 (((j+1:Nat):Int)-1)):=zfj;have e1:((j+1:Nat):Int)-1=(j:Int):=by omega
    rw[e1]at es;have ix:zwP 3 (enL 3 enS l) (I6 (j:Int))=some (enS q):=by rw[yA,hq];rfl
    simp only[zaX,hq,Yzv,leO,h2,if_true,es,zb,ix,enS,xJ,y3,wF,zl,Yzn]
    repeat (split<;>try rfl)
  have hp:zaX l.els (i+1)=some g.hi:=by simp only[zaX,zU h,Yzv]
  unfold uF;by_cases a1:min g.lo g.hi<x.low
  ·rw[Yzd a1]at body ⊢;rw[zy body];rfl
  rw[Yzb a1]at body ⊢;by_cases a2:x.high<max g.lo g.hi
  ·rw[Yzd a2]at body ⊢;rw[zy body];rfl
  rw[Yzb a2]at body ⊢;by_cases a3:g.hi<g.lo
  ·rw[Yzd a3]at body ⊢;rw[zy body];rfl
  rw[Yzb a3]at body ⊢;by_cases a4:leO g.lo (zaX l.els i)=true
  ·rw[Yzd a4]at body ⊢;rw[zy body];rfl
  rw[Yzb a4]at body ⊢;by_cases a5:y8 x.ranks.els.length g.draws.els≠0
  ·rw[Yzd a5]at body ⊢;rw[zy body];unfold zxT;rw[Yzd a5]
  rw[Yzb a5]at body ⊢;rw[zD body,ih (i+1) (zA h),hp]
def ua(x:Place)(s:Zr):Int:=
 if uJ x≠0 then uJ x else if !isName s.name then 8 else if wS s.num s.den≠0 then wS s.num s.den
 else if s.segs.els.length=0 then 13 else if 12<s.segs.els.length then 4 else uF x s.segs.els none
theorem t88(k:Nat)(x:Place)(s:Zr)(hx:x.ok)(hs:s.ok):D (k+7) 88 [SA (enP x),SA (xz s)]=some (S1 (I6 (ua x s))):=by
 have c1:=t110 k x hx;have l:=l88 (k+3) x s.segs hs.len hs.segs s.segs.els 0 rfl;unfold enP at c1 ⊢;unfold xz;rw[D88];unfold P88 ua;simp only[c1,t59,t84,zW,ya,zb,zl,yI,zF,wZ,yH];by_cases h1:uJ x=0
 ·simp only[h1];cases isName s.name with
  |false=>rfl
  |true=>
   by_cases h2:wS s.num s.den=0
   ·simp only[h2];by_cases h3:s.segs.els.length=0
    ·simp[h3]
    ·have h4:¬((s.segs.els.length:Int)=0):=by omega
     by_cases h5:12<s.segs.els.length
     ·have h6:(12:Int)<(s.segs.els.length:Int):=by omega
      simp[h3,h5,h6]
     ·have h6:¬((12:Int)<(s.segs.els.length:Int)):=by omega
      rw[show (I6 0:DV)=I6 ((0:Nat):Int) from rfl,l,show zaX s.segs.els 0=none from rfl];unfold zxT;by_cases h7:uF x s.segs.els none=0
      ·simp[h3,h5,h6,h7]
      ·simp[h3,h5,h6,h7]
   ·simp[h2]
 ·simp[h1]
end Go.Proofs.Tryz.Kn
end
section
namespace Go.Proofs.Tryz.Kn
open Go Go.CE Go.PE
def enF(p:Int×Int):List DV:=[I6 p.1,I6 p.2]
def feetA:List (Int×Int):=[(8,1),(4,1),(16,1),(2,1),(8,3),(8,5),(4,3),(1,1),(32,1),(16,3),(16,5),(32,3),(8,7),(2,3),(1,2),(64,1)]
def feetB:List (Int×Int):=[(8,1),(4,1),(16,1),(8,3),(2,1),(8,5)]
def fA(n:Nat):Int×Int:=(feetA[n % 16]?).getD (8,1)
def fB(n:Nat):Int×Int:=(feetB[n % 6]?).getD (8,1)
theorem zqK(n:Nat):feetA[n % 16]? = some (fA n):=by
 unfold fA;rw[Lz5 (show n % 16<feetA.length by rw[show feetA.length=16 from rfl];exact Yz2 _ (by omega))];rfl
theorem zqI(n:Nat):feetB[n % 6]? = some (fB n):=by
 unfold fB;rw[Lz5 (show n % 6<feetB.length by rw[show feetB.length=6 from rfl];exact Yz2 _ (by omega))];rfl
theorem zqJ(n:Nat):fA n∈feetA:=Lz3 (zqK n)
theorem zdL(n:Nat):fB n∈feetB:=Lz3 (zqI n)
theorem zuw:∀p∈feetA,wS p.1 p.2=0:=by
 have:(feetA.all fun p=>wS p.1 p.2==0)=true:=by kernel_rfl
 intro p hp
 simpa using Yz1.1 this p hp
theorem zuv:∀p∈feetB,wS p.1 p.2=0:=by
 have:(feetB.all fun p=>wS p.1 p.2==0)=true:=by kernel_rfl
 intro p hp
 simpa using Yz1.1 this p hp
theorem zB5:(shSums.all fun s=>match wh s.g s.args ⟨.z,.nil⟩ bSums with|some v=>eqA v s.res|none=>false)=true:=by kernel_rfl
theorem zwI{s:CE.Sum}(hs:s∈shSums){xs:List DA}{d:DA}(hg:([114,115,116,117]:List Nat).any (Nat.beq s.g)=true)(ha:avs xs=some s.args)(hd:ofA s.res=some d):B s.g xs=some d:=by
 have h:=Yz1.1 zB5 s hs;split at h
 ·rename_i v hv;have:=zjy h;subst this;unfold B zyS;have:(bIds.any (Nat.beq s.g))=true:=by
   simp only[bIds,List.any_cons,List.any_nil,Bool.or_false,YzL]at hg ⊢;rcases hg with h|h|h|h<;>simp[h]
  rw[this,Yza,ha];simp only[hv,hd]
 ·cases h
theorem zom(k:Nat){s:CE.Sum}(hs:s∈shSums){xs:List DA}{d:DA}(hg:([114,115,116,117]:List Nat).any (Nat.beq s.g)=true)(ha:avs xs=some s.args)(hd:ofA s.res=some d):D k s.g xs=some d:=zgh (zwI hs hg ha hd)
theorem zrV{n:Nat}(h:n∈pows):zw9 n∈shSums:=by unfold shSums;exact Yzx _ (Yzx _ (Yzx _ (List.mem_map_of_mem h)))
theorem mem_of{n:Nat}(h:n∈pows):ofS n∈shSums:=by unfold shSums;exact Yzx _ (Yzx _ (YzF _ (List.mem_map_of_mem h)))
theorem zmP{x:Nat×Nat}(h:x∈dens){s:CE.Sum}(hs:s∈xw x):s∈shSums:=by unfold shSums;exact Yzx _ (YzF _ (List.mem_flatMap.2 ⟨x,h,hs⟩))
theorem zrW{x:Nat×Nat×Nat}(h:x∈prs){s:CE.Sum}(hs:s∈yw x):s∈shSums:=by unfold shSums;exact YzF _ (List.mem_flatMap.2 ⟨x,h,hs⟩)
theorem zAE(k:Nat){n:Nat}(h:n∈pows):D k 115 [S1 (I6 (n:Int))]=some (S1 (St (dec n))):=zom k (mem_of h) rfl rfl rfl
theorem zAF(k:Nat){n:Nat}(h:n∈pows):D k 114 [S1 (St (dec n)),S1 (I6 24)]=some (.tup [.one (St (dec (n^24))),.one (I6 0)]):=zom k (zrV h) rfl rfl rfl
theorem zww(k:Nat){x:Nat×Nat}(h:x∈dens):D k 116 [S1 (St (dec (x.1^24))),S1 (.str ⟨#[50]⟩)]=some (S1 (St (dec (lim x.1 0)))):=by
 have e:x.1^24*2=lim x.1 0:=by unfold lim;omega
 rw[←e];exact zom k (zmP h (Yzi ..)) rfl rfl rfl
theorem zwu(k:Nat){x:Nat×Nat}(h:x∈dens){j:Nat}(hj:j<x.2):D k 116 [S1 (St (dec (lim x.1 j))),S1 (.str ⟨#[52]⟩)]=some (S1 (St (dec (lim x.1 (j+1))))):=by
 have e:lim x.1 j*4=lim x.1 (j+1):=by
  show 2*x.1^24*4^j*4=2*x.1^24*4^(j+1);rw[Nat.mul_assoc (2*x.1^24),←Nat.pow_succ]
 rw[←e];exact zom k (zmP h (Yzf _ (List.mem_map.2 ⟨j,List.mem_range.2 hj,rfl⟩))) rfl rfl rfl
theorem zAD(k:Nat){x:Nat×Nat×Nat}(h:x∈prs){j:Nat}(hj:j≤x.2.2):D k 117 [S1 (St (dec (x.1^24))),S1 (St (dec (lim x.2.1 j)))]=some (S1 (I6 (zyO (x.1^24) (lim x.2.1 j)))):=
 zom k (zrW h (List.mem_map.2 ⟨j,List.mem_range.2 (by omega),rfl⟩)) rfl rfl rfl
def upN:Nat→Nat→Nat→Int→Nat×Int
 |0,num,_,n=>(num,n)
 |f+1,num,den,n=>if num<den then upN f (num*2) den (n-12) else(num,n)
def dnN:Nat→Nat→Nat→Int→Nat×Int
 |0,_,den,n=>(den,n)
 |f+1,num,den,n=>if 2*den≤num then dnN f num (den*2) (n+12) else(den,n)
theorem zBr(den:Nat)(hd:den≤1000000):∀(f num:Nat) (n:Int),den≤(upN f num den n).1→-1000000≤n-12*(f:Int)→n≤1000000→
  zL (zlb (I6 (den:Int))) [I6 (num:Int),I6 n] []=some (.exit 0,[I6 ((upN f num den n).1:Int),I6 (upN f num den n).2],[]):=by
 intro f
 induction f with
 |zero=>
  intro num n h _ _;have h:den≤num:=h;have:decide ((num:Int)<(den:Int))=false:=xh h;refine zr ?_;simp only[zlb,zt,yD,zi,zb,this,zl,upN];rfl
 |succ f ih=>
  intro num n h h2 h3;unfold upN at h ⊢;by_cases hc:num<den
  ·rw[Yzd hc]at h ⊢;have h1:decide ((num:Int)<(den:Int))=true:=zwZ hc;have e1:zwJ .mul (I6 (num:Int)) (I6 2)=some (I6 ((num*2:Nat):Int)):=by
    rw[show ((num*2:Nat):Int)=(num:Int)*2 by omega];exact zhp (by omega) (by omega)
   have e2:zwJ .sub (I6 n) (I6 12)=some (I6 (n-12)):=zfj;have body:zlb (I6 (den:Int)) [I6 (num:Int),I6 n] []=some (.normal,[I6 ((num*2:Nat):Int),I6 (n-12)],[]):=by
    simp only[zlb,zt,yD,zi,zb,h1,zl,if_true,e1,e2]
   rw[zD body];exact ih _ _ h (by omega) (by omega)
  ·rw[Yzb hc];have:decide ((num:Int)<(den:Int))=false:=xh (by omega);refine zr ?_;simp only[zlb,zt,yD,zi,zb,this,zl];rfl
theorem zBu(a:DV)(num:Nat)(hd:num≤1000000):∀(f den:Nat) (n:Int),num<2*(dnN f num den n).1→n+12*(f:Int)≤1000000→-1000000≤n→0<den→den≤1000000→
  zL (zdX [I6 (num:Int),a]) [I6 (den:Int),I6 n] []=some (.exit 2,[I6 ((dnN f num den n).1:Int),I6 (dnN f num den n).2],[]):=by
 intro f
 induction f with
 |zero=>
  intro den n h _ _ _ h5;have h:num<2*den:=h;have e1:zwJ .mul (I6 2) (I6 (den:Int))=some (I6 ((2*den:Nat):Int)):=by
   rw[show ((2*den:Nat):Int)=2*(den:Int) by omega];exact zhp (by omega) (by omega)
  have:decide (((2*den:Nat):Int)≤(num:Int))=false:=decide_eq_false (by omega);refine zr ?_;simp only[zdX,zt,yD,e1,wG,zb,this,zl,dnN];rfl
 |succ f ih=>
  intro den n h h2 h3 h4 h5;unfold dnN at h ⊢;have e1:zwJ .mul (I6 2) (I6 (den:Int))=some (I6 ((2*den:Nat):Int)):=by
   rw[show ((2*den:Nat):Int)=2*(den:Int) by omega];exact zhp (by omega) (by omega)
  by_cases hc:2*den≤num
  ·rw[Yzd hc]at h ⊢;have h1:decide (((2*den:Nat):Int)≤(num:Int))=true:=decide_eq_true (by omega);have e3:zwJ .mul (I6 (den:Int)) (I6 2)=some (I6 ((den*2:Nat):Int)):=by
    rw[show ((den*2:Nat):Int)=(den:Int)*2 by omega];exact zhp (by omega) (by omega)
   have e2:zwJ .add (I6 n) (I6 12)=some (I6 (n+12)):=yJ;have body:zdX [I6 (num:Int),a] [I6 (den:Int),I6 n] []=some (.normal,[I6 ((den*2:Nat):Int),I6 (n+12)],[]):=by
    simp only[zdX,zt,yD,e1,wG,zb,h1,zl,if_true,e3,e2]
   rw[zD body];exact ih _ _ h (by omega) (by omega) (by omega) (by omega)
  ·rw[Yzb hc];have:decide (((2*den:Nat):Int)≤(num:Int))=false:=decide_eq_false (by omega);refine zr ?_;simp only[zdX,zt,yD,e1,wG,zb,this,zl];rfl
theorem zry:(prs.all fun x=>(List.range x.2.2).all (fun j=>Nat.ble (Nat.succ (lim x.2.1 j)) (x.1^24))&&Nat.ble (x.1^24) (lim x.2.1 x.2.2))=true:=by kernel_rfl
theorem zl6:(prs.all fun x=>dens.any (fun y=>Nat.beq y.1 x.2.1&&Nat.ble x.2.2 y.2)&&pows.any (Nat.beq x.1)&&pows.any (Nat.beq x.2.1))=true:=by kernel_rfl
theorem zfg{n:Nat}{l:List Nat}(h:l.any (Nat.beq n)=true):n∈l:=by
 obtain⟨y,hy,e⟩:=List.any_eq_true.1 h;rw[Lz1 e];exact hy
theorem zBv(k:Nat)(x:Nat×Nat×Nat)(hx:x∈prs)(n:Int)(h1:-1000000≤n)(h2:n≤1000000)(hm:x.2.2≤100):∀(r j:Nat),j+r=x.2.2→
  zL (zgz (D k) [.one (St (dec (x.1^24))),.one (I6 0)]) [St (dec (lim x.2.1 j)),I6 (n+(j:Int))] []=some (.exit 4,[I6 (n+(x.2.2:Int))],[]):=by
 have hc:=Yz1.1 zry x hx;have hdn:=Yz1.1 zl6 x hx;simp only[LzC]at hc hdn;obtain⟨y,hy,ey⟩:=List.any_eq_true.1 hdn.1.1;simp only[LzC]at ey;have ey1:y.1=x.2.1:=Lz1 ey.1;have ey2:=Lz4 ey.2;intro r
 induction r with
 |zero=>
  intro j hj;have hj:j=x.2.2:=by omega
  subst hj;have c:=zAD k hx (LzB _);have hle:=Lz4 hc.2;have hs:decide ((0:Int)<zyO (x.1^24) (lim x.2.1 x.2.2))=false:=by
   unfold zyO;rw[show Nat.ble (Nat.succ (lim x.2.1 x.2.2)) (x.1^24)=false from by cases hb:Nat.ble (Nat.succ (lim x.2.1 x.2.2)) (x.1^24) with|false=>rfl|true=>have:=Lz4 hb;omega];cases Nat.ble (Nat.succ (x.1^24)) (lim x.2.1 x.2.2)<;>rfl
  refine zr ?_;simp only[zgz,zt,yD,zdP,zaF,c,zW,yH,zb,hs,zl];rfl
 |succ r ih=>
  intro j hj;have c:=zAD k hx (show j≤x.2.2 by omega);have m:=zwu k hy (show j<y.2 by omega);rw[ey1]at m;have hlt:=Lz4 (Yz1.1 hc.1 j (List.mem_range.2 (by omega)));have hs:decide ((0:Int)<zyO (x.1^24) (lim x.2.1 j))=true:=by
   unfold zyO;rw[Yzm hlt];rfl
  have ea:zwJ .add (I6 (n+(j:Int))) (I6 1)=some (I6 (n+((j+1:Nat):Int))):=by
   rw[show n+((j+1:Nat):Int)=n+(j:Int)+1 by omega];exact yJ
  have body:zgz (D k) [.one (St (dec (x.1^24))),.one (I6 0)] [St (dec (lim x.2.1 j)),I6 (n+(j:Int))] []=some (.normal,[St (dec (lim x.2.1 (j+1))),I6 (n+((j+1:Nat):Int))],[]):=by
   simp only[zgz,zt,yD,zdP,zaF,c,zW,yH,zb,hs,zl,if_true,ea,m]
  rw[zD body];exact ih (j+1) (by omega)
def zyr(f g:Int×Int):Nat:=(g.1*f.2).toNat
def zxU(f g:Int×Int):Nat:=(g.2*f.1).toNat
def shU(f g:Int×Int):Nat×Int:=upN 20 (zyr f g) (zxU f g) 0
def shD(f g:Int×Int):Nat×Int:=dnN 20 (shU f g).1 (zxU f g) (shU f g).2
def shM(f g:Int×Int):Nat:=((prs.find? fun x=>Nat.beq x.1 (shU f g).1&&Nat.beq x.2.1 (shD f g).1).map fun x=>x.2.2).getD 0
def shf(f g:Int×Int):Int:=(shD f g).2+(shM f g:Int)
def ztq(f g:Int×Int):Bool:=
 decide (0≤g.1*f.2)&&decide (0<g.2*f.1)&&Nat.ble (zxU f g) (shU f g).1&&Nat.ble (Nat.succ (shU f g).1) (2*(shD f g).1)&&(prs.any fun x=>Nat.beq x.1 (shU f g).1&&Nat.beq x.2.1 (shD f g).1&&Nat.beq x.2.2 (shM f g))
 && Nat.ble (zxU f g) 1000000&&Nat.ble (zyr f g) 1000000&&Nat.ble (shU f g).1 1000000&&Nat.ble (shM f g) 100&&decide (-1000≤(shU f g).2)&&decide ((shU f g).2≤1000)&&decide (-1000≤(shD f g).2)&&decide ((shD f g).2≤1000)&&decide (-100≤shf f g)&&decide (shf f g≤100)
theorem zto:(feetB.all fun f=>feetA.all fun g=>ztq f g)=true:=by kernel_rfl
structure Zw (f g:Int×Int):Prop where
 a:0≤g.1*f.2
 b:0<g.2*f.1
 c:zxU f g≤(shU f g).1
 d:(shU f g).1<2*(shD f g).1
 e:∃x∈prs,x.1=(shU f g).1∧x.2.1=(shD f g).1∧x.2.2=shM f g
 f1:zxU f g≤1000000
 f2:zyr f g≤1000000
 f3:(shU f g).1≤1000000
 f4:shM f g≤100
 g1:-1000≤(shU f g).2
 g2:(shU f g).2≤1000
 g3:-1000≤(shD f g).2
 g4:(shD f g).2≤1000
 h1:-100≤shf f g
 h2:shf f g≤100
theorem zlD{f g:Int×Int}(hf:f∈feetB)(hg:g∈feetA):Zw f g:=by
 have h:=Yz1.1 (Yz1.1 zto f hf) g hg;unfold ztq at h;simp only[LzC,Yzn]at h;obtain⟨⟨⟨⟨⟨⟨⟨⟨⟨⟨⟨⟨⟨⟨a,b⟩,c⟩,d⟩,e⟩,f1⟩,f2⟩,f3⟩,f4⟩,g1⟩,g2⟩,g3⟩,g4⟩,h1⟩,h2⟩:=h;obtain⟨x,hx,hq⟩:=List.any_eq_true.1 e;simp only[LzC]at hq;exact⟨a,b,Lz4 c,Lz4 d,⟨x,hx,Lz1 hq.1.1,Lz1 hq.1.2,Lz1 hq.2⟩,Lz4 f1,Lz4 f2,Lz4 f3,Lz4 f4,g1,g2,g3,g4,h1,h2⟩
theorem zlC(f g:Int×Int)(hf:f∈feetB)(hg:g∈feetA):-100≤shf f g∧shf f g≤100:=⟨(zlD hf hg).h1,(zlD hf hg).h2⟩
theorem t93(k:Nat)(f g:Int×Int)(hf:f∈feetB)(hg:g∈feetA):D (k+1) 93 [SA (enF f),SA (enF g)]=some (S1 (I6 (shf f g))):=by
 have H:=zlD hf hg;obtain⟨x,hx,x1,x2,x3⟩:=H.e;have a1:g.1*f.2=((zyr f g:Nat):Int):=by unfold zyr;have:=H.a;omega
 have a2:g.2*f.1=((zxU f g:Nat):Int):=by unfold zxU;have:=H.b;omega
 have hb:=H.b;rw[a2]at hb;have b1:=H.f1;have b2:=H.f2;have b3:=H.f3;have b4:=H.f4;have c1:=H.g1;have c2:=H.g2;have c3:=H.g3;have c4:=H.g4
 have m1:zwJ .mul (I6 g.1) (I6 f.2)=some (I6 ((zyr f g:Nat):Int)):=by rw[←a1];exact zhp (by omega) (by omega)
 have m2:zwJ .mul (I6 g.2) (I6 f.1)=some (I6 ((zxU f g:Nat):Int)):=by rw[←a2];exact zhp (by omega) (by omega)
 have lu:=zBr (zxU f g) b1 20 (zyr f g) 0 H.c (by omega) (by omega);have ld:=zBu (I6 (shU f g).2) (shU f g).1 b3 20 (zxU f g) (shU f g).2 H.d (by omega) (by omega) (by omega) b1;have lc:=zBv k x hx (shD f g).2 (by omega) (by omega) (by omega) x.2.2 0 (by omega);have hdn:=Yz1.1 zl6 x hx;simp only[LzC]at hdn;obtain⟨y,hy,ey⟩:=List.any_eq_true.1 hdn.1.1;simp only[LzC]at ey;have ey1:y.1=x.2.1:=Lz1 ey.1;have o1:=zAE k (zfg hdn.1.2);have p1:=zAF k (zfg hdn.1.2);have o2:=zAE k (zfg hdn.2);have p2:=zAF k (zfg hdn.2);have u0:=zww k hy;rw[ey1]at u0;rw[x1]at o1 p1 lc;rw[x2]at o2 p2 u0 lc;rw[x3]at lc;rw[show (shD f g).2+((0:Nat):Int)=(shD f g).2 by omega]at lc;have hU:upN 20 (zyr f g) (zxU f g) 0=shU f g:=rfl;have hD:dnN 20 (shU f g).1 (zxU f g) (shU f g).2=shD f g:=rfl;rw[hU]at lu;rw[hD]at ld;unfold enF;rw[D93];unfold P93;have bt:∀{β:Type} (a b:DV) (K:List DS→Option β),bT [none,none] (some (.tup [.one a,.one b])) K=K [.one a,.one b]:=fun _ _ _=>rfl;simp only[m1,m2,zb];rw[lu];simp only[z8,Yzu,Yza,zt,yD];rw[ld];simp only[z8,Yzu,Yza,zt,yD,o1,o2,zW,p1,p2,bt,zdP,zaF,u0];rw[lc];rfl
theorem t92(k:Nat)(f g:Int×Int)(hf:f∈feetB)(hg:g∈feetA):D (k+4) 92 [SA (enF f),SA (enF g)]=some (S1 (I6 0)):=by
 have c1:=t84 k f.1 f.2;have c2:=t84 k g.1 g.2;rw[zuv f hf]at c1;rw[zuw g hg]at c2;unfold enF;rw[D92];unfold P92;simp only[c1,c2,zW,ya,zb,zl];rfl
theorem t70(k:Nat)(f g:Int×Int)(hf:f∈feetB)(hg:g∈feetA):D (k+5) 70 [SA (enF f),SA (enF g)]=some (.tup [.one (I6 (shf f g)),.one (I6 0)]):=by
 have c1:=t92 k f g hf hg;have c2:=t93 (k+3) f g hf hg;unfold enF at c1 c2 ⊢;rw[D70];unfold P70;simp only[c1,c2,zW,ya,zb,zl];rfl
end Go.Proofs.Tryz.Kn
end
section
namespace Go.Proofs.Tryz.Kn
open Go Go.CE Go.PE
def eqB(a b:ByteArray):Bool:=a.data.toList==b.data.toList
def enN(s:ByteArray):List DV:=[St s,Bo true]
theorem znE(a b:ByteArray):zxD (.inl 2) (.one (St a)) (.one (St b))=some (eqB a b):=rfl
theorem km(s:ByteArray):∀ns:List ByteArray,zeR (.inl 2) 1048576 (.one (St s)) (ns.map enN)=some (if ns.any (eqB s)=true then some (.one (Bo true)) else none)
 | []=>rfl
 |n::ns=>by
  have e:zxD (.inl 2) (.one (St s)) (kD 1048576 (enN n))=some (eqB s n):=rfl;have v:vD 1048576 (enN n)=.one (Bo true):=rfl;rw[Yzp,zeR,e,v,km s ns,List.any_cons];by_cases hq:eqB s n=true
  ·rw[hq];rfl
  ·rw[show eqB s n=false by simpa using hq];rfl
theorem qD(s:ByteArray):∀ns:List ByteArray,ns.any (eqB s)=false→zya (.inl 2) 1048576 (.one (St s)) [St s,Bo true] (ns.map enN)=some ((ns++[s]).map enN)
 | [],_=>rfl
 |n::ns,h=>by
  simp only[List.any_cons,Yz4]at h;have e:zxD (.inl 2) (.one (St s)) (kD 1048576 (enN n))=some (eqB s n):=rfl;simp only[Yzp,zya,e,h.1,qD s ns h.2];rfl
theorem zr0(b:Bool):dsO (lkD (.one (Bo false)) (if b=true then some (DS.one (Bo true)) else none))=Bo b:=by cases b<;>rfl
structure Cpl where
 name:ByteArray
 src:Int
 dst:Int
 shift:Int
 thr:Bool
def enC(c:Cpl):List DV:=[St c.name,I6 c.src,I6 c.dst,I6 c.shift,Bo c.thr]
def enK(k:Int×Int):List DV:=[I6 k.1,I6 k.2]
theorem t90(k:Nat)(x c:Cpl):D (k+1) 90 [SA (enC x),S1 (.fp (enC c) 0)]=some (S1 (Bo (eqB x.name c.name))):=by
 unfold enC;rw[D90];rfl
theorem zBA(k:Nat)(c:Cpl)(l:Sl Cpl)(hl:l.els.length≤9223372036854775807):∀(r:List Cpl) (i:Nat),l.els.drop i=r→
  zL (zgT (D (k+1)) (I6 (l.els.length:Int)) (enL 5 enC l) (.fn 90 [enC c])) [I6 (i:Int)] []=some (found (xc (fun x=>eqB x.name c.name) r i)):=by
 intro r
 induction r with
 |nil=>
  intro i h;refine zr ?_;simp only[zgT,zt,zi,zb,xh (zN h),zl];rfl
 |cons x r ih=>
  intro i h;have h1:=yq h;have ea:zwJ .add (I6 (i:Int)) (I6 1)=some (I6 ((i+1:Nat):Int)):=yJ;have cx:zxi (D (k+1)) (.fn 90 [enC c]) [SA [atD (enC x) 0,atD (enC x) 1,atD (enC x) 2,atD (enC x) 3,atD (enC x) 4]]=some (S1 (Bo (eqB x.name c.name))):=t90 k x c;have body:zgT (D (k+1)) (I6 (l.els.length:Int)) (enL 5 enC l) (.fn 90 [enC c]) [I6 (i:Int)] []=some (if eqB x.name c.name then(.ret,[I6 (i:Int)],[]) else(.normal,[I6 ((i+1:Nat):Int)],[])):=by
   simp only[zgT,zt,zi,zb,zwZ h1,zl,if_true,zV h,cx,zW,ea];cases eqB x.name c.name<;>rfl
  cases hc:eqB x.name c.name with
  |true=>rw[hc]at body;rw[zy body];simp[xc,hc,found]
  |false=>rw[hc]at body;rw[zD body,ih (i+1) (zA h)];simp[xc,hc]
theorem t89(k:Nat)(c:Cpl)(l:Sl Cpl)(hl:l.els.length≤9223372036854775807):D (k+3) 89 [S1 (enL 5 enC l),S1 (.fn 90 [enC c])]=some (S1 (Bo (l.els.any fun x=>eqB x.name c.name))):=by
 have e:D (k+2) 112 [S1 (enL 5 enC l),S1 (.fn 90 [enC c])]=some (S1 (I6 (match xc (fun x=>eqB x.name c.name) l.els 0 with|some i=>(i:Int)|none=>-1))):=by
  rw[zCk];unfold zz2;have:=zBA k c l hl l.els 0 rfl;simp only[zF,zb];rw[show (I6 0:DV)=I6 ((0:Nat):Int) from rfl,this];cases xc (fun x=>eqB x.name c.name) l.els 0<;>rfl
 rw[D89];unfold P89;rw[e,←xH (fun x=>eqB x.name c.name) l.els 0];cases xc (fun x=>eqB x.name c.name) l.els 0 with
 |none=>rfl
 |some i=>
  have:(0:Int)≤(i:Int):=by omega
  simp[this]
def zhX(n:Nat):List Cpl→List Cpl→Int
 |_,[]=>0
 |p,c::r=>
  if isName c.name=false then 8 else if p.any (fun x=>eqB x.name c.name)=true then 9 else if c.src<0 then 10 else if (n:Int)≤c.src then 10 else if c.dst<0 then 10 else if (n:Int)≤c.dst then 10
  else if c.shift < -127 then 3 else if 127<c.shift then 3 else if c.src=c.dst∧c.shift=0 then 7 else zhX n (p++[c]) r
def zjF(ks:List (Int×Int))(l:List Cpl):Int:=
 if 8<ks.length then 4 else if 40<l.length then 4 else if ks.any (fun k=>right k.1 k.2 != 0)=true then 23 else zhX ks.length [] l
theorem l63(k:Nat)(ks:Sl (Int×Int))(l:List Cpl)(hl:l.length≤9223372036854775807):∀(r:List Cpl) (i:Nat),l.drop i=r→
  zL (zgE (D (k+3)) (I6 (l.length:Int)) (enL 5 enC (some l)) (enL 2 enK ks)) [I6 (i:Int)] []=some (zxT 2 (zhX ks.els.length (l.take i) r)):=by
 intro r
 induction r with
 |nil=>
  intro i h;refine zr ?_;simp only[zgE,zt,zi,zb,xh (zN h),zl];rfl
 |cons x r ih=>
  intro i h;have h1:=yq h;have ea:zwJ .add (I6 (i:Int)) (I6 1)=some (I6 ((i+1:Nat):Int)):=yJ;have ix:zwP 5 (enL 5 enC (some l)) (I6 (i:Int))=some (enC x):=zV (v:=some l) h _;have sl:jk 5 (enL 5 enC (some l)) none (some (I6 (i:Int)))=some (enL 5 enC (some (l.take i))):=zbW (by omega);have c:=t89 k x (some (l.take i)) (by simp only[Sl.els,Yyg,List.length_take];omega);have cn:=t59 (k+1) x.name;simp only[enC,yC]at c;have body:zgE (D (k+3)) (I6 (l.length:Int)) (enL 5 enC (some l)) (enL 2 enK ks) [I6 (i:Int)] [] =
    some (if isName x.name=false then(.ret,[I6 8],[]) else if (l.take i).any (fun y=>eqB y.name x.name)=true then(.ret,[I6 9],[]) else if x.src<0 then(.ret,[I6 10],[]) else if (ks.els.length:Int)≤x.src then(.ret,[I6 10],[])
     else if x.dst<0 then(.ret,[I6 10],[]) else if (ks.els.length:Int)≤x.dst then(.ret,[I6 10],[]) else if x.shift < -127 then(.ret,[I6 3],[]) else if 127<x.shift then(.ret,[I6 3],[])
     else if x.src=x.dst∧x.shift=0 then(.ret,[I6 7],[]) else(.normal,[I6 ((i+1:Nat):Int)],[])):=by
   simp only[zgE,zt,zi,zb,zwZ h1,zl,if_true,ix,enC,y3,xJ,zF,wG,yH,wZ,sl,c,cn,zW,zwF,yI,ea,Yzn];cases isName x.name with
   |false=>simp
   |true=>
    simp only[YzG,Yzh,if_false,Bool.true_eq_false]
    repeat' (split<;>try rfl)
    all_goals (first|rfl|simp_all)
  have hn:l.take (i+1)=l.take i++[x]:=by rw[Yyy,zU h];rfl
  unfold zhX;by_cases a0:isName x.name=false
  ·rw[Yzd a0]at body ⊢;rw[zy body];rfl
  rw[Yzb a0]at body ⊢;by_cases a1:(l.take i).any (fun y=>eqB y.name x.name)=true
  ·rw[Yzd a1]at body ⊢;rw[zy body];rfl
  rw[Yzb a1]at body ⊢;by_cases a2:x.src<0
  ·rw[Yzd a2]at body ⊢;rw[zy body];rfl
  rw[Yzb a2]at body ⊢;by_cases a3:(ks.els.length:Int)≤x.src
  ·rw[Yzd a3]at body ⊢;rw[zy body];rfl
  rw[Yzb a3]at body ⊢;by_cases a4:x.dst<0
  ·rw[Yzd a4]at body ⊢;rw[zy body];rfl
  rw[Yzb a4]at body ⊢;by_cases a5:(ks.els.length:Int)≤x.dst
  ·rw[Yzd a5]at body ⊢;rw[zy body];rfl
  rw[Yzb a5]at body ⊢;by_cases a6:x.shift < -127
  ·rw[Yzd a6]at body ⊢;rw[zy body];rfl
  rw[Yzb a6]at body ⊢;by_cases a7:127<x.shift
  ·rw[Yzd a7]at body ⊢;rw[zy body];rfl
  rw[Yzb a7]at body ⊢;by_cases a8:x.src=x.dst∧x.shift=0
  ·rw[Yzd a8]at body ⊢;rw[zy body];rfl
  rw[Yzb a8]at body ⊢;rw[zD body,ih (i+1) (zA h),hn]
theorem zBs(k:Nat)(ks:Sl (Int×Int))(hl:ks.els.length≤9223372036854775807):∀(r:List (Int×Int)) (i:Nat),ks.els.drop i=r→
  zL (zob (D (k+1)) (I6 (ks.els.length:Int)) (enL 2 enK ks)) [I6 (i:Int)] []=some (if r.any (fun k=>right k.1 k.2 != 0)=true then(.ret,[I6 23],[]) else(.exit 0,[],[])):=by
 intro r
 induction r with
 |nil=>
  intro i h;refine zr ?_;simp only[zob,zt,zi,zb,xh (zN h),zl];rfl
 |cons x r ih=>
  intro i h;have h1:=yq h;have ea:zwJ .add (I6 (i:Int)) (I6 1)=some (I6 ((i+1:Nat):Int)):=yJ;have c:=t87 k x.1 x.2;have body:zob (D (k+1)) (I6 (ks.els.length:Int)) (enL 2 enK ks) [I6 (i:Int)] []=some (if right x.1 x.2=0 then(.normal,[I6 ((i+1:Nat):Int)],[]) else(.ret,[I6 23],[])):=by
   simp only[zob,zt,zi,zb,zwZ h1,zl,if_true,zV h,enK,y3,xJ,c,zW,ya,ea];by_cases hz:right x.1 x.2=0<;>simp[hz]
  by_cases hc:right x.1 x.2=0
  ·rw[Yzd hc]at body;rw[zD body,ih (i+1) (zA h),List.any_cons,hc];rfl
  ·rw[Yzb hc]at body;rw[zy body,Yzd (by simp[hc])]
theorem t63(k:Nat)(ks:Sl (Int×Int))(l:Sl Cpl)(hk:ks.els.length≤9223372036854775807)(hl:l.els.length≤9223372036854775807):D (k+4) 63 [S1 (enL 2 enK ks),S1 (enL 5 enC l)]=some (S1 (I6 (zjF ks.els l.els))):=by
 rw[D63];unfold P63 zjF;have ck:=zBs (k+2) ks hk ks.els 0 rfl;simp only[zF,zb,yH,zl];rw[show (I6 0:DV)=I6 ((0:Nat):Int) from rfl,ck];by_cases h1:8<ks.els.length
 ·have h2:(8:Int)<(ks.els.length:Int):=by omega
  simp[h1,h2]
 have h2:¬((8:Int)<(ks.els.length:Int)):=by omega
 by_cases h3:40<l.els.length
 ·have h4:(40:Int)<(l.els.length:Int):=by omega
  simp[h1,h2,h3,h4]
 have h4:¬((40:Int)<(l.els.length:Int)):=by omega
 simp only[h1,h2,h3,h4,decide_false,Yzh,if_false];by_cases h5:ks.els.any (fun k=>right k.1 k.2 != 0)=true
 ·rw[Yzd h5,Yzd h5];rfl
 rw[Yzb h5,Yzb h5];simp only[z8,Yzu,Yza];cases l with
 |none=>rw[zr (id:=2) (L':=[]) (M':=[]) (by rfl)];rfl
 |some l=>
  have:=l63 k ks l hl l 0 rfl;rw[show Sl.els (some l:Sl Cpl)=l from rfl,this,List.take_zero];unfold zxT;by_cases h6:zhX ks.els.length [] l=0<;>simp[h6]
structure Zn where
 name:ByteArray
 pedal:Bool
 low:Int
 high:Int
 stops:Sl Zr
def enV(d:Zn):List DV:=[St d.name,Bo d.pedal,I6 d.low,I6 d.high,enL 4 xz d.stops]
structure Zn.ok (d:Zn):Prop where
 len:d.stops.els.length≤9223372036854775807
 stops:∀s∈d.stops.els,s.ok
structure Org where
 name:ByteArray
 ranks:Sl Zj
 divs:Sl Zn
 cpls:Sl Cpl
def enO(o:Org):List DV:=[St o.name,enL 6 enR o.ranks,enL 5 enV o.divs,enL 5 enC o.cpls]
structure Org.ok (o:Org):Prop where
 rl:o.ranks.els.length≤9223372036854775807
 ranks:∀r∈o.ranks.els,zdh r
 dl:o.divs.els.length≤9223372036854775807
 divs:∀d∈o.divs.els,d.ok
 cl:o.cpls.els.length≤9223372036854775807
def kU(x:Place):List Zr→List ByteArray→Int
 | [],_=>0
 |s::r,ns=>if ua x s≠0 then ua x s else if ns.any (eqB s.name)=true then 9 else kU x r (ns++[s.name])
def zkk(id:Nat)(e:Int)(m:List OC):PX:=if e≠0 then(.ret,[I6 e],m) else(.exit id,[],m)
theorem l62(k:Nat)(x:Place)(hx:x.ok)(l:Sl Zr)(hl:l.els.length≤9223372036854775807)(hs:∀s∈l.els,s.ok):∀(r:List Zr) (i:Nat) (ns:List ByteArray),l.els.drop i=r→
  ∃m,zL (zoc (D (k+7)) (I6 (l.els.length:Int)) (enL 4 xz l) (enL 6 enR x.ranks) (I6 x.low) (I6 x.high)) [I6 (i:Int)] [some (ns.map enN)]=some (zkk 0 (kU x r ns) m):=by
 intro r
 induction r with
 |nil=>
  intro i ns h;refine⟨[some (ns.map enN)],zr ?_⟩;simp only[zoc,zt,zi,zb,xh (zN h),zl];rfl
 |cons s r ih=>
  intro i ns h;have h1:=yq h;have ea:zwJ .add (I6 (i:Int)) (I6 1)=some (I6 ((i+1:Nat):Int)):=yJ;have c:=t88 k x s hx (hs s (Lz3 (zU h)));simp only[enP,xz]at c;have body:∃m,zoc (D (k+7)) (I6 (l.els.length:Int)) (enL 4 xz l) (enL 6 enR x.ranks) (I6 x.low) (I6 x.high) [I6 (i:Int)] [some (ns.map enN)] =
    some (if ua x s≠0 then(.ret,[I6 (ua x s)],m) else if ns.any (eqB s.name)=true then(.ret,[I6 9],m) else(.normal,[I6 ((i+1:Nat):Int)],[some ((ns++[s.name]).map enN)])):=by
   refine⟨[some (ns.map enN)],?_⟩;simp only[zoc,zt,zZ,zi,zb,zwZ h1,zl,if_true,zV h,xz,y3,xJ,c,zW,ya,qh,znE,km,zr0,ea];by_cases hz:ua x s=0
   ·cases hb:ns.any (eqB s.name) with
    |true=>simp[hz]
    |false=>simp[hz,qD s.name ns hb]
   ·simp[hz]
  obtain⟨m,body⟩:=body;unfold kU;by_cases a1:ua x s≠0
  ·rw[Yzd a1]at body ⊢;exact⟨m,by rw[zy body];unfold zkk;rw[Yzd a1]⟩
  rw[Yzb a1]at body ⊢;by_cases a2:ns.any (eqB s.name)=true
  ·rw[Yzd a2]at body ⊢;exact⟨m,by rw[zy body];rfl⟩
  rw[Yzb a2]at body ⊢;rw[zD body];exact ih (i+1) _ (zA h)
def kO(rs:Sl Zj)(d:Zn):Int:=if right d.low d.high≠0 then right d.low d.high else if 60<d.stops.els.length then 4 else kU ⟨rs,d.low,d.high⟩ d.stops.els []
theorem t62(k:Nat)(o:Org)(ho:o.ok)(d:Zn)(hd:d.ok):D (k+8) 62 [SA (enO o),SA (enV d)]=some (S1 (I6 (kO o.ranks d))):=by
 have hx:Place.ok ⟨o.ranks,d.low,d.high⟩:=⟨ho.rl,ho.ranks⟩;obtain⟨m,l⟩:=l62 k ⟨o.ranks,d.low,d.high⟩ hx d.stops hd.len hd.stops d.stops.els 0 [] rfl;have c:=t87 (k+6) d.low d.high;unfold enO enV;rw[D62];unfold P62 kO;simp only[c,zW,ya,zb,zl,zF,yH];by_cases h1:right d.low d.high=0
 ·by_cases h2:60<d.stops.els.length
  ·have h3:(60:Int)<(d.stops.els.length:Int):=by omega
   simp[h1,h2,h3]
  ·have h3:¬((60:Int)<(d.stops.els.length:Int)):=by omega
   simp only[Yyf]at l;rw[show (I6 0:DV)=I6 ((0:Nat):Int) from rfl,l];unfold zkk;by_cases h4:kU ⟨o.ranks,d.low,d.high⟩ d.stops.els []=0<;>simp[h1,h2,h3,h4]
 ·simp[h1]
def jj:List Zj→List ByteArray→Int
 | [],_=>0
 |x::r,ns=>if yX x≠0 then yX x else if ns.any (eqB x.name)=true then 9 else jj r (ns++[x.name])
theorem l30(k:Nat)(l:Sl Zj)(hl:l.els.length≤9223372036854775807)(hs:∀s∈l.els,zdh s):∀(r:List Zj) (i:Nat) (ns:List ByteArray),l.els.drop i=r→
  ∃m,zL (zoi (D (k+5)) (I6 (l.els.length:Int)) (enL 6 enR l)) [I6 (i:Int)] [some (ns.map enN)]=some (zkk 1 (jj r ns) m):=by
 intro r
 induction r with
 |nil=>
  intro i ns h;refine⟨[some (ns.map enN)],zr ?_⟩;simp only[zoi,zt,zi,zb,xh (zN h),zl];rfl
 |cons s r ih=>
  intro i ns h;have h1:=yq h;have ea:zwJ .add (I6 (i:Int)) (I6 1)=some (I6 ((i+1:Nat):Int)):=yJ;have c:=t60 k s (hs s (Lz3 (zU h)));simp only[enR]at c;have body:∃m,zoi (D (k+5)) (I6 (l.els.length:Int)) (enL 6 enR l) [I6 (i:Int)] [some (ns.map enN)] =
    some (if yX s≠0 then(.ret,[I6 (yX s)],m) else if ns.any (eqB s.name)=true then(.ret,[I6 9],m) else(.normal,[I6 ((i+1:Nat):Int)],[some ((ns++[s.name]).map enN)])):=by
   refine⟨[some (ns.map enN)],?_⟩;simp only[zoi,zt,zZ,zi,zb,zwZ h1,zl,if_true,zV h,enR,y3,xJ,c,zW,ya,qh,znE,km,zr0,ea];by_cases hz:yX s=0
   ·cases hb:ns.any (eqB s.name) with
    |true=>simp[hz]
    |false=>simp[hz,qD s.name ns hb]
   ·simp[hz]
  obtain⟨m,body⟩:=body;unfold jj;by_cases a1:yX s≠0
  ·rw[Yzd a1]at body ⊢;exact⟨m,by rw[zy body];unfold zkk;rw[Yzd a1]⟩
  rw[Yzb a1]at body ⊢;by_cases a2:ns.any (eqB s.name)=true
  ·rw[Yzd a2]at body ⊢;exact⟨m,by rw[zy body];rfl⟩
  rw[Yzb a2]at body ⊢;rw[zD body];exact ih (i+1) _ (zA h)
def zad(rs:Sl Zj):List Zn→List ByteArray→Int
 | [],_=>0
 |d::r,ns=>if isName d.name=false then 8 else if ns.any (eqB d.name)=true then 9 else if kO rs d≠0 then kO rs d else zad rs r (ns++[d.name])
def keyOf(d:Zn):Int×Int:=(d.low,d.high)
def grow{α:Type}(l:List α):Sl α:=match l with | []=>none|_=>some l
theorem zG{α:Type}(l:List α):(grow l).els=l:=by cases l<;>rfl
theorem xG{α:Type}(l:List α)(x:α):grow (l++[x])=some ((grow l).els++[x]):=by rw[zG];cases l<;>rfl
theorem zvZ(k:Nat)(o:Org)(ho:o.ok)(hle:o.divs.els.length≤8):∀(r:List Zn) (i:Nat) (ns:List ByteArray),o.divs.els.drop i=r→
  ∃m,zL (zgL (D (k+8)) (I6 (o.divs.els.length:Int)) (enL 5 enV o.divs) (St o.name) (enL 6 enR o.ranks) (enL 5 enC o.cpls)) [I6 (i:Int)] [ocL enK (grow ((o.divs.els.take i).map keyOf)),some (ns.map enN)] =
   some (if zad o.ranks r ns≠0 then(.ret,[I6 (zad o.ranks r ns)],m) else(.exit 4,[],[ocL enK (grow (o.divs.els.map keyOf)),m.headD none])):=by
 intro r
 induction r with
 |nil=>
  intro i ns h;refine⟨[some (ns.map enN)],zr ?_⟩;have:o.divs.els.take i=o.divs.els:=Yyu (zN h);simp only[zgL,zt,zi,zb,xh (zN h),zl,this];rfl
 |cons d r ih=>
  intro i ns h;have h1:=yq h;have ea:zwJ .add (I6 (i:Int)) (I6 1)=some (I6 ((i+1:Nat):Int)):=yJ;have c:=t62 k o ho d (ho.divs d (Lz3 (zU h)));have cn:=t59 (k+6) d.name;simp only[enO,enV]at c;have hn:o.divs.els.take (i+1)=o.divs.els.take i++[d]:=by rw[Yyy,zU h];rfl
  have hlen:((grow ((o.divs.els.take i).map keyOf)).els).length=i:=by rw[zG];simp;omega
  have ef:fits 16 ((grow ((o.divs.els.take i).map keyOf)).els.length+1)=true:=wg (by decide) (by omega);have body:∃m,zgL (D (k+8)) (I6 (o.divs.els.length:Int)) (enL 5 enV o.divs) (St o.name) (enL 6 enR o.ranks) (enL 5 enC o.cpls) [I6 (i:Int)] [ocL enK (grow ((o.divs.els.take i).map keyOf)),some (ns.map enN)] =
    some (if isName d.name=false then(.ret,[I6 8],m) else if ns.any (eqB d.name)=true then(.ret,[I6 9],m) else if kO o.ranks d≠0 then(.ret,[I6 (kO o.ranks d)],m)
     else(.normal,[I6 ((i+1:Nat):Int)],[ocL enK (grow ((o.divs.els.take (i+1)).map keyOf)),some ((ns++[d.name]).map enN)])):=by
   rw[hn,YzH,Yzp,Yyf,xG];simp only[zgL,zt,zZ,za1,zi,zb,zwZ h1,zl,if_true,zV h,enV,y3,xJ,c,cn,zW,yI,ya,qh,znE,km,zr0,ea,y5,Yzk,Yz7,ef,we,yO];cases isName d.name with
   |false=>exact⟨[some (ns.map enN)],rfl⟩
   |true=>
    cases hb:ns.any (eqB d.name) with
    |true=>exact⟨[some (ns.map enN)],rfl⟩
    |false=>
     refine⟨[some ((ns++[d.name]).map enN)],?_⟩;have ee:=wJ (f:=enK) (grow ((o.divs.els.take i).map keyOf)) (keyOf d);rw[←ee];simp only[qD d.name ns hb,zb];by_cases hz:kO o.ranks d=0
     ·simp[hz];rfl
     ·simp[hz]
  obtain⟨m,body⟩:=body;unfold zad;by_cases a0:isName d.name=false
  ·simp only[Yzd a0]at body ⊢;exact⟨m,by rw[zy body];rfl⟩
  simp only[Yzb a0]at body ⊢;by_cases a1:ns.any (eqB d.name)=true
  ·simp only[Yzd a1]at body ⊢;exact⟨m,by rw[zy body];rfl⟩
  simp only[Yzb a1]at body ⊢;by_cases a2:kO o.ranks d≠0
  ·simp only[Yzd a2]at body ⊢;exact⟨m,by rw[zy body]⟩
  simp only[Yzb a2]at body ⊢;rw[zD body];exact ih (i+1) _ (zA h)
def uX(o:Org):Int:=
 if isName o.name=false then 8 else if 60<o.ranks.els.length then 4 else if jj o.ranks.els []≠0 then jj o.ranks.els [] else if o.divs.els.length=0 then 13 else if 8<o.divs.els.length then 4
 else if zad o.ranks o.divs.els []≠0 then zad o.ranks o.divs.els [] else zjF (o.divs.els.map keyOf) o.cpls.els
theorem t30(k:Nat)(o:Org)(ho:o.ok):D (k+9) 30 [SA (enO o)]=some (S1 (I6 (uX o))):=by
 obtain⟨m,l⟩:=l30 (k+3) o.ranks ho.rl ho.ranks o.ranks.els 0 [] rfl;have cn:=t59 (k+6) o.name;unfold enO;rw[D30];unfold P30 uX;simp only[cn,zW,yI,ya,zb,zl,zF,yH,wZ];cases isName o.name with
 |false=>rfl
 |true=>
  by_cases h1:60<o.ranks.els.length
  ·have h2:(60:Int)<(o.ranks.els.length:Int):=by omega
   simp[h1,h2]
  have h2:¬((60:Int)<(o.ranks.els.length:Int)):=by omega
  simp only[Yyf]at l;simp only[h1,h2,decide_false,YzG,Yzh,if_false,Bool.true_eq_false];rw[show (I6 0:DV)=I6 ((0:Nat):Int) from rfl,l];unfold zkk;by_cases h3:jj o.ranks.els []≠0
  ·simp only[Yzd h3,jD,zt]
  simp only[Yzb h3,z8,Yzu,Yza];by_cases h4:o.divs.els.length=0
  ·simp[h4]
  have h5:¬((o.divs.els.length:Int)=((0:Nat):Int)):=by omega
  by_cases h6:8<o.divs.els.length
  ·have h7:(8:Int)<(o.divs.els.length:Int):=by omega
   have h8:¬((o.divs.els.length:Int)=0):=by omega
   simp[h4,h6,h7,h8]
  have h7:¬((8:Int)<(o.divs.els.length:Int)):=by omega
  obtain⟨m2,l2⟩:=zvZ k o ho (by omega) o.divs.els 0 [] rfl;simp only[List.take_zero,Yyf]at l2;rw[show ocL enK (grow ([]:List (Int×Int)))=none from rfl]at l2;have h9:((o.divs.els.length:Int)==0)=false:=by simpa using h4
  simp only[h4,h6,h7,h9,decide_false,Yzh,if_false];rw[l2];by_cases h8:zad o.ranks o.divs.els []≠0
  ·simp only[Yzd h8,jD,zt]
  have cc:=t63 (k+4) (grow (o.divs.els.map keyOf)) o.cpls (by rw[zG];simp;omega) ho.cl;rw[zG]at cc;simp only[Yzb h8,z8,zZ,wB,Yzu,Yza,cc,zh9]
end Go.Proofs.Tryz.Kn
end
section
namespace Go.Proofs.Tryz.Kn
open Go Go.CE Go.PE
structure RPl where
 tone:Nat
 feet:Nat
 first:Int
 pipes:Nat
 w0:Nat
 w1:Nat
 w2:Nat
 w3:Nat
 w4:Nat
structure RPl.ok (r:RPl):Prop where
 tone:r.tone<256
 feet:r.feet<256
 f1:-128≤r.first
 f2:r.first≤127
 pipes:r.pipes<256
 w0:r.w0<256
 w1:r.w1<256
 w2:r.w2<256
 w3:r.w3<256
 w4:r.w4<256
def zeZ(r:RPl):List DV:=[U8 (r.tone:Int),U8 (r.feet:Int),.int .i8 r.first,U8 (r.pipes:Int),U8 (r.w0:Int),U8 (r.w1:Int),U8 (r.w2:Int),U8 (r.w3:Int),U8 (r.w4:Int)]
structure Pul where
 rank:Nat
 feet:Nat
 kind:Nat
 at_:Nat
structure Pul.ok (x:Pul):Prop where
 rank:x.rank<256
 feet:x.feet<256
 kind:x.kind<256
 at_:x.at_<256
def zhS(x:Pul):List DV:=[U8 (x.rank:Int),U8 (x.feet:Int),U8 (x.kind:Int),U8 (x.at_:Int)]
structure Boa where
 low:Nat
 keys:Nat
 pedal:Bool
 stops:Sl Pul
structure Boa.ok (b:Boa):Prop where
 low:b.low<256
 keys:b.keys<256
 len:b.stops.els.length≤9223372036854775807
 stops:∀x∈b.stops.els,x.ok
def jR(b:Boa):List DV:=[U8 (b.low:Int),U8 (b.keys:Int),Bo b.pedal,enL 4 zhS b.stops]
structure Lnk where
 src:Nat
 dst:Nat
 shift:Int
 thr:Bool
structure Lnk.ok (l:Lnk):Prop where
 src:l.src<256
 dst:l.dst<256
 s1:-128≤l.shift
 s2:l.shift≤127
def zk1(l:Lnk):List DV:=[U8 (l.src:Int),U8 (l.dst:Int),.int .i8 l.shift,Bo l.thr]
structure Pln where
 ranks:Sl RPl
 divs:Sl Boa
 cpls:Sl Lnk
structure Pln.ok (p:Pln):Prop where
 rl:p.ranks.els.length≤9223372036854775807
 ranks:∀x∈p.ranks.els,x.ok
 dl:p.divs.els.length≤9223372036854775807
 divs:∀x∈p.divs.els,x.ok
 cl:p.cpls.els.length≤9223372036854775807
 cpls:∀x∈p.cpls.els,x.ok
def ze0(p:Pln):List DV:=[enL 9 zeZ p.ranks,enL 4 jR p.divs,enL 4 zk1 p.cpls]
def zkZ(l:List Boa):Bool:=l.all fun b=>decide (b.stops.els.length≤3)
def zcZ(p:Pln):Bool:=decide (1≤p.ranks.els.length)&&decide (p.ranks.els.length≤3)&&decide (1≤p.divs.els.length)&&decide (p.divs.els.length≤3)&&decide (p.cpls.els.length≤3)&&zkZ p.divs.els
theorem l10(l:Sl Boa)(hl:l.els.length≤9223372036854775807):∀(r:List Boa) (i:Nat),l.els.drop i=r→
  zL (zgW (enL 4 jR l)) [I6 (i:Int)] []=some (if zkZ r then(.exit 0,[],[]) else(.ret,[Bo false],[])):=by
 intro r
 induction r with
 |nil=>
  intro i h;refine zr ?_;simp only[zgW,zt,zF,zi,zb,xh (zN h),zl];rfl
 |cons x r ih=>
  intro i h;have h1:=yq h;have ea:zwJ .add (I6 (i:Int)) (I6 1)=some (I6 ((i+1:Nat):Int)):=yJ;have body:zgW (enL 4 jR l) [I6 (i:Int)] []=some (if x.stops.els.length≤3 then(.normal,[I6 ((i+1:Nat):Int)],[]) else(.ret,[Bo false],[])):=by
   simp only[zgW,zt,zF,zi,zb,zwZ h1,zl,if_true,zV h,jR,y3,xJ,yH,ea];by_cases hz:x.stops.els.length≤3
   ·have:¬((3:Int)<(x.stops.els.length:Int)):=by omega
    simp[hz,this]
   ·have:(3:Int)<(x.stops.els.length:Int):=by omega
    simp[hz,this]
  by_cases hc:x.stops.els.length≤3
  ·rw[Yzd hc]at body;rw[zD body,ih (i+1) (zA h)];simp[zkZ,hc]
  ·rw[Yzb hc]at body;rw[zy body];simp[zkZ,hc]
theorem t10(k:Nat)(p:Pln)(hp:p.ok):D (k+1) 10 [SA (ze0 p)]=some (S1 (Bo (zcZ p))):=by
 have l:=l10 p.divs hp.dl p.divs.els 0 rfl;unfold ze0;rw[D10];unfold P10 zcZ;simp only[zF,zb,zi,yH,zl,Yzn];rw[show (I6 0:DV)=I6 ((0:Nat):Int) from rfl,l];by_cases h1:1≤p.ranks.els.length
 ·have g1:¬((p.ranks.els.length:Int)<1):=by omega
  by_cases h2:p.ranks.els.length≤3
  ·have g2:¬((3:Int)<(p.ranks.els.length:Int)):=by omega
   by_cases h3:1≤p.divs.els.length
   ·have g3:¬((p.divs.els.length:Int)<1):=by omega
    by_cases h4:p.divs.els.length≤3
    ·have g4:¬((3:Int)<(p.divs.els.length:Int)):=by omega
     by_cases h5:p.cpls.els.length≤3
     ·have g5:¬((3:Int)<(p.cpls.els.length:Int)):=by omega
      simp only[Yzb g1,Yzb g2,Yzb g3,Yzb g4,Yzb g5,decide_eq_true h1,decide_eq_true h2,decide_eq_true h3,decide_eq_true h4,decide_eq_true h5,Yye];cases zkZ p.divs.els<;>rfl
     ·have g5:(3:Int)<(p.cpls.els.length:Int):=by omega
      simp[g1,g2,g3,g4,g5,h5]
    ·have g4:(3:Int)<(p.divs.els.length:Int):=by omega
     simp[g1,g2,g3,g4,h4]
   ·have g3:(p.divs.els.length:Int)<1:=by omega
    simp[g1,g2,g3,h3]
  ·have g2:(3:Int)<(p.ranks.els.length:Int):=by omega
   simp[g1,g2,h2]
 ·have g1:(p.ranks.els.length:Int)<1:=by omega
  simp[g1,h1]
theorem ziY{α:Type}(f:α→List DV)(l:List α)(i:Nat):zw7 (some (l.map f)) i=(l[i]?).map f:=by
 show (l.map f)[i]? = _;rw[Lz6]
theorem t68(k:Nat)(n:Nat):D (k+1) 68 [S1 (U8 (n:Int))]=some (SA (enF (fA n))):=by
 rw[D68];unfold P68;have e:zwJ .rem (U8 (n:Int)) (U8 16)=some (U8 ((n % 16:Nat):Int)):=zxI (b:=16) (by decide);have i:xA (some (feetA.map enF)) (U8 ((n % 16:Nat):Int))=some (n % 16):=j5 (by rw[Yzj];exact Yz2 _ (by decide));have j:zw7 (some (feetA.map enF)) (n % 16)=some (enF (fA n)):=by rw[ziY,zqK];rfl
 rw[e,zb];refine (congrArg (za · _) i).trans ?_;rw[zb];refine (congrArg (za · _) j).trans ?_;rfl
theorem t69(k:Nat)(n:Nat):D (k+1) 69 [S1 (U8 (n:Int))]=some (SA (enF (fB n))):=by
 rw[D69];unfold P69;have e:zwJ .rem (U8 (n:Int)) (U8 6)=some (U8 ((n % 6:Nat):Int)):=zxI (b:=6) (by decide);have i:xA (some (feetB.map enF)) (U8 ((n % 6:Nat):Int))=some (n % 6):=j5 (by rw[Yzj];exact Yz2 _ (by decide));have j:zw7 (some (feetB.map enF)) (n % 6)=some (enF (fB n)):=by rw[ziY,zqI];rfl
 rw[e,zb];refine (congrArg (za · _) i).trans ?_;rw[zb];refine (congrArg (za · _) j).trans ?_;rfl
def pre(c:UInt8)(i:Nat):ByteArray:=⟨#[c]⟩++zbR [48+(i:Int)] ByteArray.empty
theorem zej(c:UInt8)(i:Nat):zx2 .add (.str ⟨#[c]⟩) (.str (zbR [48+(i:Int)] ByteArray.empty))=some (St (pre c i)):=rfl
theorem zbs(i:Nat):zx3 (.lst 1 [[U8 (48+(i:Int))]])=some (St (zbR [48+(i:Int)] ByteArray.empty)):=rfl
def zj3:Nat→ByteArray
 |0=>⟨#[79,112,101,110]⟩
 |1=>⟨#[70,108,117,116,101]⟩
 |_=>⟨#[82,101,101,100]⟩
def wAt(r:RPl):Nat→Nat
 |0=>r.w0
 |1=>r.w1
 |2=>r.w2
 |3=>r.w3
 |_=>r.w4
def jc(r:RPl)(n:Nat):List Int:=(List.range n).map fun k=>((wAt r (k % 5):Nat):Int)
theorem zc0(r:RPl)(n:Nat):jc r (n+1)=jc r n++[((wAt r (n % 5):Nat):Int)]:=by unfold jc;rw[List.range_succ,YzH];rfl
theorem zbE(r:RPl)(n:Nat):(jc r n).length=n:=by simp[jc]
theorem zqf{r:RPl}(h:r.ok)(i:Nat):wAt r i<256:=by
 unfold wAt;split
 ·exact h.w0
 ·exact h.w1
 ·exact h.w2
 ·exact h.w3
 ·exact h.w4
def zyh(i:Nat)(r:RPl):Zj:=⟨pre 82 (i % 10),zj3 (r.tone % 3),(fA r.feet).1,(fA r.feet).2,r.first,some (jc r (1+r.pipes % 25))⟩
theorem l36(r:RPl)(hr:r.ok)(c0 c1 c2 c3 c4:DV):∀(m j:Nat),j+m=1+r.pipes % 25→
  zL (zgK (U8 (r.pipes:Int)) (U8 (r.w0:Int)) (U8 (r.w1:Int)) (U8 (r.w2:Int)) (U8 (r.w3:Int)) (U8 (r.w4:Int))) [I6 (j:Int),c0,c1,c2,c3,c4] [ocL enW (grow (jc r j))] =
   some (.exit 0,[c0,c1,c2,c3,c4],[ocL enW (grow (jc r (1+r.pipes % 25)))]):=by
 have e1:zwJ .rem (U8 (r.pipes:Int)) (U8 25)=some (U8 ((r.pipes % 25:Nat):Int)):=zxI (b:=25) (by decide);have hm:r.pipes % 25<25:=Yz2 _ (by omega);have e2:yQ .i64 (U8 ((r.pipes % 25:Nat):Int))=some (I6 ((r.pipes % 25:Nat):Int)):=kP;have e3:zwJ .add (I6 1) (I6 ((r.pipes % 25:Nat):Int))=some (I6 ((1+r.pipes % 25:Nat):Int)):=by
  rw[show ((1+r.pipes % 25:Nat):Int)=1+((r.pipes % 25:Nat):Int) by omega];exact yJ
 intro m
 induction m with
 |zero=>
  intro j hj;refine zr ?_;have hj':j=1+r.pipes % 25:=by omega
  subst hj';have:decide (((1+r.pipes % 25:Nat):Int)<((1+r.pipes % 25:Nat):Int))=false:=xh (by omega);simp only[zgK,e1,e2,e3,zb,zt,yD,zi,this,zl];rfl
 |succ m ih=>
  intro j hj;have hlt:decide ((j:Int)<((1+r.pipes % 25:Nat):Int))=true:=zwZ (by omega);have ea:zwJ .add (I6 (j:Int)) (I6 1)=some (I6 ((j+1:Nat):Int)):=yJ;have eb:zwJ .rem (I6 (j:Int)) (I6 5)=some (I6 ((j % 5:Nat):Int)):=zxI (b:=5) (by decide);have h5:j % 5<5:=Yz2 _ (by omega);have en:ul 5 (I6 ((j % 5:Nat):Int))=some (j % 5):=zbq h5;have hw:=zqf hr (j % 5);have ew:atD [U8 (r.w0:Int),U8 (r.w1:Int),U8 (r.w2:Int),U8 (r.w3:Int),U8 (r.w4:Int)] (j % 5)=U8 ((wAt r (j % 5):Nat):Int):=by
   have:j % 5=0∨j % 5=1∨j % 5=2∨j % 5=3∨j % 5=4:=by omega
   rcases this with h|h|h|h|h<;>rw[h]<;>rfl
  have ec:yQ .i64 (U8 ((wAt r (j % 5):Nat):Int))=some (I6 ((wAt r (j % 5):Nat):Int)):=kP;have ef:fits 8 ((grow (jc r j)).els.length+1)=true:=wg (by decide) (by rw[zG,zbE];omega);have body:zgK (U8 (r.pipes:Int)) (U8 (r.w0:Int)) (U8 (r.w1:Int)) (U8 (r.w2:Int)) (U8 (r.w3:Int)) (U8 (r.w4:Int)) [I6 (j:Int),c0,c1,c2,c3,c4] [ocL enW (grow (jc r j))] =
    some (.normal,[I6 ((j+1:Nat):Int),c0,c1,c2,c3,c4],[ocL enW (grow (jc r (j+1)))]):=by
   rw[zc0,xG];simp only[zgK,e1,e2,e3,zb,zt,yD,zi,hlt,zl,if_true,eb,en,ew,ec,zZ,y5,Yzk,Yz7,ef,we,ea,yO];rw[wJ (f:=enW)]
  rw[zD body,ih (j+1) (by omega)]
theorem t36(k:Nat)(i:Nat)(hi:i<10)(r:RPl)(hr:r.ok):D (k+2) 36 [SA (zeZ r),S1 (I6 (i:Int))]=some (SA (enR (zyh i r))):=by
 unfold zeZ;rw[D36];unfold P36;have e1:zwJ .rem (I6 (i:Int)) (I6 10)=some (I6 ((i % 10:Nat):Int)):=zxI (b:=10) (by decide);have h10:i % 10<10:=Yz2 _ (by decide);have e2:zwJ .add (I6 48) (I6 ((i % 10:Nat):Int))=some (I6 (48+((i % 10:Nat):Int))):=yJ;have e3:yQ .u8 (I6 (48+((i % 10:Nat):Int)))=some (U8 (48+((i % 10:Nat):Int))):=by
  show some (DV.int .u8 (wv .u8 (48+((i % 10:Nat):Int))))=_;rw[zoq];congr 2;omega
 have e4:zwJ .rem (U8 (r.tone:Int)) (U8 3)=some (U8 ((r.tone % 3:Nat):Int)):=zxI (b:=3) (by decide);have e5:yQ .i64 (.int .i8 r.first)=some (I6 r.first):=by
  have:=hr.f1;have:=hr.f2
  exact kP
 have l:=l36 r hr (St (pre 82 (i % 10))) (St (zj3 (r.tone % 3))) (I6 (fA r.feet).1) (I6 (fA r.feet).2) (I6 r.first) (1+r.pipes % 25) 0 (by omega);rw[show ocL enW (grow (jc r 0))=none from rfl]at l;have hg:grow (jc r (1+r.pipes % 25))=some (jc r (1+r.pipes % 25)):=by
  rw[show 1+r.pipes % 25=r.pipes % 25+1 by omega,zc0,xG,zG]
 rw[hg]at l;have h3:r.tone % 3=0∨r.tone % 3=1∨r.tone % 3=2:=by omega
 have et:za (xA (some [[(.str ⟨#[79,112,101,110]⟩)],[(.str ⟨#[70,108,117,116,101]⟩)],[(.str ⟨#[82,101,101,100]⟩)]]) (U8 ((r.tone % 3:Nat):Int))) (fun n6=>zw7 (some [[(.str ⟨#[79,112,101,110]⟩)],[(.str ⟨#[70,108,117,116,101]⟩)],[(.str ⟨#[82,101,101,100]⟩)]]) n6)=some [St (zj3 (r.tone % 3))]:=by
  rcases h3 with h|h|h<;>rw[h]<;>rfl
 have eu:∀{β:Type} (K:List DV→Option β),za (xA (some [[(.str ⟨#[79,112,101,110]⟩)],[(.str ⟨#[70,108,117,116,101]⟩)],[(.str ⟨#[82,101,101,100]⟩)]]) (U8 ((r.tone % 3:Nat):Int))) (fun n6=>za (zw7 (some [[(.str ⟨#[79,112,101,110]⟩)],[(.str ⟨#[70,108,117,116,101]⟩)],[(.str ⟨#[82,101,101,100]⟩)]]) n6) K)=K [St (zj3 (r.tone % 3))]:=by
  intro β K;rcases h3 with h|h|h<;>rw[h]<;>rfl
 have c:=t68 k r.feet;simp only[e1,e2,e3,e4,zb,zbs,zej];rw[eu];rw[c];unfold enF;rw[zuX (show[I6 (fA r.feet).1,I6 (fA r.feet).2].length=2 from rfl)];simp only[e5,zb,y3,xJ];rw[show (I6 0:DV)=I6 ((0:Nat):Int) from rfl,l];rfl
end Go.Proofs.Tryz.Kn
end
section
namespace Go.Proofs.Tryz.Kn
open Go Go.CE Go.PE
theorem bT2{β:Type}(a b:DV)(K:List DS→Option β):bT [none,none] (some (.tup [.one a,.one b])) K=K [.one a,.one b]:=rfl
def zxw(rs:List Zj)(i:Nat):Zj:=(rs[i]?).getD ⟨ByteArray.empty,ByteArray.empty,8,1,0,none⟩
theorem zeb{rs:List Zj}{i:Nat}(h:i<rs.length):rs[i]? = some (zxw rs i):=by
 unfold zxw;rw[Lz5 h];rfl
theorem qz{rs:List Zj}{i:Nat}(h:i<rs.length):zxw rs i∈rs:=Lz3 (zeb h)
def xk(low high:Int)(n:Int)(sh:Int)(m:Int)(sh2:Int)(at_:Int):Nat→List Seg
 |2=>[⟨low,high,some [⟨n,sh⟩,⟨n,sh+7⟩]⟩]
 |3=>if low<at_ then[⟨low,at_-1,some [⟨n,sh⟩]⟩,⟨at_,high,some [⟨m,sh2⟩]⟩] else[⟨at_,high,some [⟨m,sh2⟩]⟩]
 |4=>if low<at_ then[⟨low,at_-1,some [⟨n,sh⟩]⟩,⟨at_,high,some [⟨n,sh-12⟩]⟩] else[⟨at_,high,some [⟨n,sh-12⟩]⟩]
 |5=>[⟨at_,high,some [⟨n,sh⟩]⟩]
 |_=>[⟨low,high,some [⟨n,sh⟩]⟩]
def rkF(r:Zj):Int×Int:=(r.num,r.den)
def uo(rs:List Zj)(low high:Int)(i:Nat)(x:Pul):Zr:=
 ⟨pre 83 i, (fB x.feet).1, (fB x.feet).2, some (xk low high ((x.rank % rs.length : Nat) : Int) (shf (fB x.feet) (rkF (zxw rs (x.rank % rs.length)))) (((x.rank % rs.length + 1) % rs.length : Nat) : Int)
  (shf (fB x.feet) (rkF (zxw rs ((x.rank % rs.length+1) % rs.length)))) (low+((x.at_:Int).tmod (high-low+1))) (x.kind % 6))⟩
theorem t37(k:Nat)(rs:List Zj)(hl:0<rs.length)(hl3:rs.length≤1000)(hf:∀r∈rs,rkF r∈feetA)(low high:Int)(h0:0≤low)(h1:low≤high)(h2:high≤1000)(x:Pul)(hx:x.ok)(i:Nat)(hi:i<10):
  D (k+6) 37 [S1 (enL 6 enR (some rs)),SA [I6 low,I6 high],SA (zhS x),S1 (I6 (i:Int))]=some (SA (xz (uo rs low high i x))):=by
 unfold zhS;rw[D37];unfold P37 uo;have hn:x.rank % rs.length<rs.length:=Yz2 _ hl;have hm:(x.rank % rs.length+1) % rs.length<rs.length:=Yz2 _ hl;generalize hN:x.rank % rs.length=n at hn hm;generalize hM:(n+1) % rs.length=m at hm;have e0:yQ .i64 (U8 (x.rank:Int))=some (I6 (x.rank:Int)):=by have:=hx.rank;exact kP
 have e1:zwJ .rem (I6 (x.rank:Int)) (I6 (rs.length:Int))=some (I6 (n:Int)):=by rw[←hN];exact zxI (by omega)
 have e2:zwJ .add (I6 48) (I6 (i:Int))=some (I6 (48+(i:Int))):=yJ;have e3:yQ .u8 (I6 (48+(i:Int)))=some (U8 (48+(i:Int))):=by
  show some (DV.int .u8 (wv .u8 (48+(i:Int))))=_;rw[zoq];congr 2;omega
 have c1:=t69 (k+4) x.feet;have ix:zwP 6 (enL 6 enR (some rs)) (I6 (n:Int))=some (enR (zxw rs n)):=by rw[yA,yC,zeb hn];rfl
 have ix2:zwP 6 (enL 6 enR (some rs)) (I6 (m:Int))=some (enR (zxw rs m)):=by rw[yA,yC,zeb hm];rfl
 have s1:=t70 k (fB x.feet) (rkF (zxw rs n)) (zdL _) (hf _ (qz hn));have s2:=t70 k (fB x.feet) (rkF (zxw rs m)) (zdL _) (hf _ (qz hm));have b1:=zlC (fB x.feet) (rkF (zxw rs n)) (zdL _) (hf _ (qz hn));generalize shf (fB x.feet) (rkF (zxw rs n))=sh at s1 b1 ⊢;generalize shf (fB x.feet) (rkF (zxw rs m))=sh2 at s2 ⊢;unfold rkF enF at s1 s2;unfold enF at c1;generalize (fB x.feet).1=u at c1 s1 s2 ⊢;generalize (fB x.feet).2=v at c1 s1 s2 ⊢;simp only at s1 s2;have e4:yQ .i64 (U8 (x.at_:Int))=some (I6 (x.at_:Int)):=by have:=hx.at_;exact kP
 have e5:zwJ .sub (I6 high) (I6 low)=some (I6 (high-low)):=zfj;have e6:zwJ .add (I6 (high-low)) (I6 1)=some (I6 (high-low+1)):=yJ;have e7:zwJ .rem (I6 (x.at_:Int)) (I6 (high-low+1))=some (I6 ((x.at_:Int).tmod (high-low+1))):=zbr _ _ _ (by omega);have hq:0≤(x.at_:Int).tmod (high-low+1)∧(x.at_:Int).tmod (high-low+1)<high-low+1:=⟨Int.tmod_nonneg _ (by omega),Int.tmod_lt_of_pos _ (by omega)⟩;generalize (x.at_:Int).tmod (high-low+1)=q at e7 hq ⊢;have e8:zwJ .add (I6 low) (I6 q)=some (I6 (low+q)):=yJ;have e9:zwJ .rem (U8 (x.kind:Int)) (U8 6)=some (U8 ((x.kind % 6:Nat):Int)):=zxI (b:=6) (by decide);have e10:zwJ .add (I6 sh) (I6 7)=some (I6 (sh+7)):=yJ;have e11:zwJ .sub (I6 sh) (I6 12)=some (I6 (sh-12)):=zfj;have e12:zwJ .add (I6 (n:Int)) (I6 1)=some (I6 ((n+1:Nat):Int)):=yJ;have e13:zwJ .rem (I6 ((n+1:Nat):Int)) (I6 (rs.length:Int))=some (I6 (m:Int)):=by rw[←hM];exact zxI (by omega)
 have e14:zwJ .sub (I6 (low+q)) (I6 1)=some (I6 (low+q-1)):=zfj;have f1:fits 40 1=true:=by decide
 have f2:fits 40 2=true:=by decide
 have hk:x.kind % 6<6:=Yz2 _ (by decide);generalize x.kind % 6=kd at e9 hk ⊢;have b2:∀{β:Type} (a b:DV) (K:List DV→Option β),bA 2 (some (SA [a,b])) K=K [a,b]:=fun _ _ _=>rfl;simp only[e0,zb,zF,yC,e1,e2,e3,zbs,zej,c1,b2,y3,xJ,ix,enR,s1,bT2,zdP,zaF,e4,e5,e6,e7,e8,e9,wZ,yH,zl,e10,e11,e12,e13,ix2,s2,e14];have hkd:kd=0∨kd=1∨kd=2∨kd=3∨kd=4∨kd=5:=by omega
 rcases hkd with h|h|h|h|h|h<;>subst h
 ·rfl
 ·rfl
 ·rfl
 ·by_cases hb:low<low+q
  ·simp only[xk,Yzd hb,decide_eq_true hb];simp[f1,f2];rfl
  ·simp only[xk,Yzb hb,decide_eq_false hb];simp[f1];rfl
 ·by_cases hb:low<low+q
  ·simp only[xk,Yzd hb,decide_eq_true hb];simp[f1,f2];rfl
  ·simp only[xk,Yzb hb,decide_eq_false hb];simp[f1];rfl
 ·rfl
def wO:Nat→List RPl→List Zj
 |_,[]=>[]
 |i,r::l=>zyh i r::wO (i+1) l
def xZ(rs:List Zj)(low high:Int):Nat→List Pul→List Zr
 |_,[]=>[]
 |i,x::l=>uo rs low high i x::xZ rs low high (i+1) l
def zxo(b:Boa):Int:=36+((b.low % 12:Nat):Int)
def k8(b:Boa):Int:=zxo b+((b.keys % 9:Nat):Int)
def zcW(rs:List Zj)(i:Nat)(b:Boa):Zn:=⟨pre 68 i,b.pedal,zxo b,k8 b,grow (xZ rs (zxo b) (k8 b) 0 b.stops.els)⟩
def wV(rs:List Zj):Nat→List Boa→List Zn
 |_,[]=>[]
 |i,b::l=>zcW rs i b::wV rs (i+1) l
def kF(n:Nat)(i:Nat)(l:Lnk):Cpl:=
 ⟨pre 67 i,((l.src % n:Nat):Int),((l.dst % n:Nat):Int),if ((l.src % n:Nat):Int)=((l.dst % n:Nat):Int)∧l.shift.tmod 25=0 then 12 else l.shift.tmod 25,l.thr⟩
def jB(n:Nat):Nat→List Lnk→List Cpl
 |_,[]=>[]
 |i,c::l=>kF n i c::jB n (i+1) l
def zdm:ByteArray:=⟨#[79,114,103,97,110]⟩
def zxz(p:Pln):Org:=⟨zdm,grow (wO 0 p.ranks.els),grow (wV (wO 0 p.ranks.els) 0 p.divs.els),grow (jB p.divs.els.length 0 p.cpls.els)⟩
theorem qK:∀(l:List RPl) (i:Nat),(wO i l).length=l.length
 | [],_=>rfl
 |_::l,i=>by simp[wO,qK l]
theorem zav:∀(l:List RPl) (i:Nat),∀r∈wO i l,rkF r∈feetA
 | [],_,_,h=>by cases h
 |x::l,i,r,h=>by
  rcases YzO.1 h with rfl|h
  ·exact zqJ x.feet
  ·exact zav l _ r h
theorem zv0(k:Nat)(l:Sl RPl)(hl:l.els.length≤3)(hr:∀x∈l.els,x.ok)(nm:DV):∀(r:List RPl) (i:Nat) (acc:List Zj),l.els.drop i=r→acc.length=i→
  zL (zol (D (k+2)) (enL 9 zeZ l)) [I6 (i:Int),nm] [ocL enR (grow acc),none,none]=some (.exit 0,[nm],[ocL enR (grow (acc++wO i r)),none,none]):=by
 intro r
 induction r with
 |nil=>
  intro i acc h _;refine zr ?_;simp only[zol,zt,yD,zZ,za1,zF,zi,zb,xh (zN h),zl,wO,YzD];rfl
 |cons x r ih=>
  intro i acc h ha;have h1:=yq h;have ea:zwJ .add (I6 (i:Int)) (I6 1)=some (I6 ((i+1:Nat):Int)):=yJ;have c:=t36 k i (by omega) x (hr x (Lz3 (zU h)));have ef:fits 80 ((grow acc).els.length+1)=true:=wg (by decide) (by rw[zG];omega);have b6:∀{β:Type} (K:List DV→Option β),bA 6 (some (SA (enR (zyh i x)))) K=K (enR (zyh i x)):=fun _=>rfl;have body:zol (D (k+2)) (enL 9 zeZ l) [I6 (i:Int),nm] [ocL enR (grow acc),none,none]=some (.normal,[I6 ((i+1:Nat):Int),nm],[ocL enR (grow (acc++[zyh i x])),none,none]):=by
   rw[xG];unfold zeZ at c;simp only[zol,zt,yD,zZ,za1,zF,zi,zb,zwZ h1,zl,if_true,zV h,zeZ,y3,xJ,c,b6,y5,Yzk,Yz7,ef,we,ea,yO];rw[←wJ (f:=enR)];rfl
  rw[zD body,ih (i+1) _ (zA h) (by simp[ha])];simp[wO]
theorem zug(k:Nat)(rs:List Zj)(hl:0<rs.length)(hl3:rs.length≤1000)(hf:∀r∈rs,rkF r∈feetA)(b:Boa)(hb:b.ok)(h3:b.stops.els.length≤3)(low high:Int)(h0:0≤low)(h1:low≤high)(h2:high≤1000)(d0 d1 c0 c1:DV):
  ∀(r:List Pul) (i:Nat) (acc:List Zr),b.stops.els.drop i=r→acc.length=i→
  zL (zgQ (D (k+6)) (jR b) [d0,d1,enL 6 enR (some rs)]) [I6 (i:Int),c0,c1,I6 low,I6 high] [ocL xz (grow acc)]=some (.exit 4,[c0,c1,I6 low,I6 high],[ocL xz (grow (acc++xZ rs low high i r))]):=by
 intro r
 induction r with
 |nil=>
  intro i acc h _;refine zr ?_;simp only[zgQ,jR,y3,xJ,zt,yD,zZ,zF,zi,zb,xh (zN h),zl,xZ,YzD];rfl
 |cons x r ih=>
  intro i acc h ha;have hlt:=yq h;have ea:zwJ .add (I6 (i:Int)) (I6 1)=some (I6 ((i+1:Nat):Int)):=yJ;have c:=t37 k rs hl hl3 hf low high h0 h1 h2 x (hb.stops x (Lz3 (zU h))) i (by omega);have ef:fits 56 ((grow acc).els.length+1)=true:=wg (by decide) (by rw[zG];omega);have b4:∀{β:Type} (K:List DV→Option β),bA 4 (some (SA (xz (uo rs low high i x)))) K=K (xz (uo rs low high i x)):=fun _=>rfl;have body:zgQ (D (k+6)) (jR b) [d0,d1,enL 6 enR (some rs)] [I6 (i:Int),c0,c1,I6 low,I6 high] [ocL xz (grow acc)]=some (.normal,[I6 ((i+1:Nat):Int),c0,c1,I6 low,I6 high],[ocL xz (grow (acc++[uo rs low high i x]))]):=by
   rw[xG];unfold zhS at c;simp only[zgQ,jR,zt,yD,zZ,zF,zi,zb,zwZ hlt,zl,if_true,y3,xJ,zV h,zhS,c,b4,y5,Yzk,Yz7,ef,we,ea,yO];rw[←wJ (f:=xz)];rfl
  rw[zD body,ih (i+1) _ (zA h) (by simp[ha])];simp[xZ]
theorem zeB(b:Boa):36≤zxo b∧zxo b≤47:=by unfold zxo;omega
theorem zbw(b:Boa):zxo b≤k8 b∧k8 b≤zxo b+8:=by unfold k8;omega
theorem zuh(k:Nat)(rs:List Zj)(hl:0<rs.length)(hl3:rs.length≤1000)(hf:∀r∈rs,rkF r∈feetA)(l:Sl Boa)(hll:l.els.length≤3)(hb:∀b∈l.els,b.ok)(h3:∀b∈l.els,b.stops.els.length≤3)(nm:DV):
  ∀(r:List Boa) (i:Nat) (acc:List Zn),l.els.drop i=r→acc.length=i→
  zL (zgR (D (k+6)) (enL 4 jR l)) [I6 (i:Int),nm,enL 6 enR (some rs)] [ocL enV (grow acc),none]=some (.exit 2,[nm,enL 6 enR (some rs)],[ocL enV (grow (acc++wV rs i r)),none]):=by
 intro r
 induction r with
 |nil=>
  intro i acc h _;refine zr ?_;simp only[zgR,zt,yD,zZ,za1,zF,zi,zb,xh (zN h),zl,wV,YzD];rfl
 |cons b r ih=>
  intro i acc h ha;have hlt:=yq h;have hmem:=Lz3 (zU h);have ea:zwJ .add (I6 (i:Int)) (I6 1)=some (I6 ((i+1:Nat):Int)):=yJ;have hlow:=zeB b;have hhigh:=zbw b;have e1:zwJ .rem (U8 (b.low:Int)) (U8 12)=some (U8 ((b.low % 12:Nat):Int)):=zxI (b:=12) (by decide);have e2:yQ .i64 (U8 ((b.low % 12:Nat):Int))=some (I6 ((b.low % 12:Nat):Int)):=kP;have e3:zwJ .add (I6 36) (I6 ((b.low % 12:Nat):Int))=some (I6 (zxo b)):=yJ;have e4:zwJ .add (I6 48) (I6 (i:Int))=some (I6 (48+(i:Int))):=yJ;have e5:yQ .u8 (I6 (48+(i:Int)))=some (U8 (48+(i:Int))):=by
   show some (DV.int .u8 (wv .u8 (48+(i:Int))))=_;rw[zoq];congr 2;omega
  have e6:zwJ .rem (U8 (b.keys:Int)) (U8 9)=some (U8 ((b.keys % 9:Nat):Int)):=zxI (b:=9) (by decide);have e7:yQ .i64 (U8 ((b.keys % 9:Nat):Int))=some (I6 ((b.keys % 9:Nat):Int)):=kP;have e8:zwJ .add (I6 (zxo b)) (I6 ((b.keys % 9:Nat):Int))=some (I6 (k8 b)):=by
   have:zwJ .add (I6 (zxo b)) (I6 ((b.keys % 9:Nat):Int))=some (I6 (zxo b+((b.keys % 9:Nat):Int))):=yJ;exact this
  have ll:=zug k rs hl hl3 hf b (hb b hmem) (h3 b hmem) (zxo b) (k8 b) (by omega) (by omega) (by omega) (I6 (i:Int)) nm (St (pre 68 i)) (Bo b.pedal) b.stops.els 0 [] rfl rfl;rw[show ocL xz (grow ([]:List Zr))=none from rfl,show (I6 ((0:Nat):Int):DV)=I6 0 from rfl,YzI]at ll;have ef:fits 64 ((grow acc).els.length+1)=true:=wg (by decide) (by rw[zG];omega);have body:zgR (D (k+6)) (enL 4 jR l) [I6 (i:Int),nm,enL 6 enR (some rs)] [ocL enV (grow acc),none]=some (.normal,[I6 ((i+1:Nat):Int),nm,enL 6 enR (some rs)],[ocL enV (grow (acc++[zcW rs i b])),none]):=by
   rw[xG];have ix:zwP 4 (enL 4 jR l) (I6 (i:Int))=some (jR b):=zV h _;have q0:atD (jR b) 0=U8 (b.low:Int):=rfl;have q1:atD (jR b) 1=U8 (b.keys:Int):=rfl;have q2:atD (jR b) 2=Bo b.pedal:=rfl;simp only[zgR,zt,yD,zZ,za1,zF,zi,zb,zwZ hlt,zl,if_true,ix,q0,q1,q2,e1,e2,e3,e4,e5,zbs,zej,e6,e7,e8,ll,z8,Yzu,Yza,y5,Yzk,Yz7,ef,we,ea,yO,wB];rw[←wJ (f:=enV)];rfl
  rw[zD body,ih (i+1) _ (zA h) (by simp[ha])];simp[wV]
theorem zuf(n:Nat)(hn:0<n)(hn3:n≤1000)(l:Sl Lnk)(hll:l.els.length≤3)(hb:∀b∈l.els,b.ok)(nm rk:DV)(dv:OC):
  ∀(r:List Lnk) (i:Nat) (acc:List Cpl),l.els.drop i=r→acc.length=i→
  zL (zgP (enL 4 zk1 l) (I6 (n:Int))) [I6 (i:Int),nm,rk] [dv,ocL enC (grow acc)]=some (.exit 6,[nm,rk],[dv,ocL enC (grow (acc++jB n i r))]):=by
 intro r
 induction r with
 |nil=>
  intro i acc h _;refine zr ?_;simp only[zgP,zt,yD,zZ,za1,zF,zi,zb,xh (zN h),zl,jB,YzD];rfl
 |cons b r ih=>
  intro i acc h ha;have hlt:=yq h;have hbb:=hb b (Lz3 (zU h));have ea:zwJ .add (I6 (i:Int)) (I6 1)=some (I6 ((i+1:Nat):Int)):=yJ;have e4:zwJ .add (I6 48) (I6 (i:Int))=some (I6 (48+(i:Int))):=yJ;have e5:yQ .u8 (I6 (48+(i:Int)))=some (U8 (48+(i:Int))):=by
   show some (DV.int .u8 (wv .u8 (48+(i:Int))))=_;rw[zoq];congr 2;omega
  have g1:yQ .i64 (U8 (b.src:Int))=some (I6 (b.src:Int)):=by have:=hbb.src;exact kP
  have g2:zwJ .rem (I6 (b.src:Int)) (I6 (n:Int))=some (I6 ((b.src % n:Nat):Int)):=zxI (by omega);have g3:yQ .i64 (U8 (b.dst:Int))=some (I6 (b.dst:Int)):=by have:=hbb.dst;exact kP
  have g4:zwJ .rem (I6 (b.dst:Int)) (I6 (n:Int))=some (I6 ((b.dst % n:Nat):Int)):=zxI (by omega);have g5:yQ .i64 (.int .i8 b.shift)=some (I6 b.shift):=by have:=hbb.s1;have:=hbb.s2;exact kP
  have g6:zwJ .rem (I6 b.shift) (I6 25)=some (I6 (b.shift.tmod 25)):=zbr _ _ _ (by decide);have ef:fits 48 ((grow acc).els.length+1)=true:=wg (by decide) (by rw[zG];omega);have body:zgP (enL 4 zk1 l) (I6 (n:Int)) [I6 (i:Int),nm,rk] [dv,ocL enC (grow acc)]=some (.normal,[I6 ((i+1:Nat):Int),nm,rk],[dv,ocL enC (grow (acc++[kF n i b]))]):=by
   rw[xG,←wJ (f:=enC)];simp only[zgP,zt,yD,zZ,za1,zF,zi,zb,zwZ hlt,zl,if_true,zV h,zk1,y3,xJ,e4,e5,zbs,zej,g1,g2,g3,g4,g5,g6,wZ,y5,Yzk,Yz7,ef,we,ea,yO];unfold kF enC;by_cases h1:((b.src % n:Nat):Int)=((b.dst % n:Nat):Int)
   ·by_cases h2:b.shift.tmod 25=0
    ·rw[Yzd (by simpa using h1),Yzd (by simpa using h2),Yzd ⟨h1,h2⟩]
    ·rw[Yzd (by simpa using h1),Yzb (by simpa using h2),Yzb (fun hh=>h2 hh.2)]
   ·rw[Yzb (by simpa using h1),Yzb (fun hh=>h1 hh.1)]
  rw[zD body,ih (i+1) _ (zA h) (by simp[ha])];simp[jB]
theorem jJ{p:Pln}(h:zcZ p=true):1≤p.ranks.els.length∧p.ranks.els.length≤3∧1≤p.divs.els.length∧p.divs.els.length≤3∧p.cpls.els.length≤3∧∀b∈p.divs.els,b.stops.els.length≤3:=by
 unfold zcZ zkZ at h;simp only[LzC,Yzn,Yz1]at h;obtain⟨⟨⟨⟨⟨a,b⟩,c⟩,d⟩,e⟩,f⟩:=h;exact⟨a,b,c,d,e,f⟩
theorem znn{α:Type}{l:List α}(h:0<l.length):grow l=some l:=by cases l with|nil=>simp at h|cons _ _=>rfl
theorem t11(k:Nat)(p:Pln)(hp:p.ok)(hf:zcZ p=true):D (k+7) 11 [SA (ze0 p)]=some (SA (enO (zxz p))):=by
 obtain⟨f1,f2,f3,f4,f5,f6⟩:=jJ hf;have hlen:(wO 0 p.ranks.els).length=p.ranks.els.length:=qK _ _;have l2:=zv0 (k+4) p.ranks f2 hp.ranks (St zdm) p.ranks.els 0 [] rfl rfl;have l12:=zuh k (wO 0 p.ranks.els) (by omega) (by omega) (zav _ _) p.divs f4 hp.divs f6 (St zdm) p.divs.els 0 [] rfl rfl;have l43:=zuf p.divs.els.length (by omega) (by omega) p.cpls f5 hp.cpls (St zdm) (enL 6 enR (some (wO 0 p.ranks.els))) (ocL enV (grow (wV (wO 0 p.ranks.els) 0 p.divs.els))) p.cpls.els 0 [] rfl rfl;rw[show ocL enR (grow ([]:List Zj))=none from rfl,show (I6 ((0:Nat):Int):DV)=I6 0 from rfl,YzI]at l2;rw[show ocL enV (grow ([]:List Zn))=none from rfl,show (I6 ((0:Nat):Int):DV)=I6 0 from rfl,YzI]at l12;rw[show ocL enC (grow ([]:List Cpl))=none from rfl,show (I6 ((0:Nat):Int):DV)=I6 0 from rfl,YzI]at l43;have hg:grow (wO 0 p.ranks.els)=some (wO 0 p.ranks.els):=znn (by omega);unfold ze0;rw[D11];unfold P11 zxz enO;unfold zdm at l2 l12 l43;rw[hg]at l2 ⊢;simp only[l2,z8,Yzu,Yza,zt,yD,zZ,za1,wB,l12,zF,zb,l43];rfl
end Go.Proofs.Tryz.Kn
end
section
namespace Go.Proofs.Tryz.Kn
open Go Go.CE Go.PE
theorem zph:([82,83,68,67].all fun c=>[0,1,2,3,4,5,6,7,8,9].all fun i=>isName (pre c i))=true:=by kernel_rfl
theorem ki{c:UInt8}(hc:c∈([82,83,68,67]:List UInt8)){i:Nat}(h:i<10):isName (pre c i)=true:=by
 have:=Yz1.1 (Yz1.1 zph c hc) i;refine this ?_;have:i=0∨i=1∨i=2∨i=3∨i=4∨i=5∨i=6∨i=7∨i=8∨i=9:=by omega
 rcases this with rfl|rfl|rfl|rfl|rfl|rfl|rfl|rfl|rfl|rfl<;>simp
theorem zrS:([82,83,68,67].all fun c=>[0,1,2].all fun i=>[0,1,2].all fun j=>Nat.beq i j || !eqB (pre c i) (pre c j))=true:=by kernel_rfl
theorem zeY{c:UInt8}(hc:c∈([82,83,68,67]:List UInt8)){i j:Nat}(hi:i<3)(hj:j<3)(h:i≠j):eqB (pre c i) (pre c j)=false:=by
 have hm:∀n<3,n∈([0,1,2]:List Nat):=by
  intro n hn;have:n=0∨n=1∨n=2:=by omega
  rcases this with rfl|rfl|rfl<;>simp
 have:=Yz1.1 (Yz1.1 (Yz1.1 zrS c hc) i (hm i hi)) j (hm j hj);rw[YzL]at this;rcases this with e|e
 ·exact absurd (Lz1 e) h
 ·simpa using e
theorem zhB(n:Nat):isName (zj3 n)=true:=by
 unfold zj3;split<;>rfl
theorem zj2(r:RPl)(hr:r.ok)(n:Nat):(jc r n).any xS=false:=by
 rw[Yyz];intro x hx;unfold jc at hx;obtain⟨k,_,rfl⟩:=List.mem_map.1 hx;have:=zqf hr (k % 5);unfold xS;simp only[YzL,Yzn];omega
theorem zmN(i:Nat)(r:RPl)(hr:r.ok):yX (zyh i r)=0:=by
 have h1:=ki (c:=82) (by simp) (show i % 10<10 by omega);have h2:=zuw _ (zqJ r.feet);have h3:=zj2 r hr (1+r.pipes % 25);have h4:=zbE r (1+r.pipes % 25);have:=hr.f1;have:=hr.f2
 have h5:decide (-256≤r.first)=true:=decide_eq_true (by omega);have h6:decide (r.first≤256)=true:=decide_eq_true (by omega);have h7:¬(1+r.pipes % 25=0):=by omega
 have h8:¬(128<1+r.pipes % 25):=by omega
 unfold yX zyh;simp only[h1,zhB,h2,h5,h6,yC,h4,h3,h7,h8,YzG,Yzh,if_false,YyA,ne_eq,not_true_eq_false]
theorem zhe(l:List Zj)(h:∀r∈l,yX r=0):wY l=0:=by
 induction l with
 |nil=>rfl
 |cons x l ih=>unfold wY;rw[Yzb (by simpa using h x (Yzi ..))];exact ih fun r hr=>h r (Yzf _ hr)
theorem zi5:∀(l:List RPl) (i:Nat),(∀r∈l,r.ok)→∀x∈wO i l,yX x=0
 | [],_,_,_,h=>by cases h
 |r::l,i,H,x,h=>by
  rcases YzO.1 h with rfl|h
  ·exact zmN i r (H r (Yzi ..))
  ·exact zi5 l _ (fun r hr=>H r (Yzf _ hr)) x h
theorem zi6:∀(l:List RPl) (i:Nat),i+l.length≤3→(∀r∈l,r.ok)→jj (wO i l) ((List.range i).map (pre 82))=0
 | [],_,_,_=>rfl
 |r::l,i,hl,H=>by
  simp only[Yzk]at hl;have h1:=zmN i r (H r (Yzi ..));have hi:i % 10=i:=by omega
  have h2:((List.range i).map (pre 82)).any (eqB (zyh i r).name)=false:=by
   rw[Yyz];intro s hs;obtain⟨j,hj,rfl⟩:=List.mem_map.1 hs;have hj:=List.mem_range.1 hj;have:=zeY (c:=82) (by simp) (show i<3 by omega) (show j<3 by omega) (by omega);show ¬eqB (pre 82 (i % 10)) (pre 82 j)=true;rw[hi,this];simp
  unfold wO jj;rw[Yzb (by simpa using h1),Yzb (by rw[h2];simp)];have:(List.range i).map (pre 82)++[(zyh i r).name]=(List.range (i+1)).map (pre 82):=by
   rw[List.range_succ,YzH];show _++[pre 82 (i % 10)]=_;rw[hi];rfl
  rw[this];exact zi6 l (i+1) (by omega) fun r hr=>H r (Yzf _ hr)
theorem za3:∀(l:List RPl) (i:Nat),∀r∈wO i l,zdh r
 | [],_,_,h=>by cases h
 |x::l,i,r,h=>by
  rcases YzO.1 h with rfl|h
  ·show (jc x (1+x.pipes % 25)).length≤_;rw[zbE];omega
  ·exact za3 l _ r h
theorem qi(n:Nat)(d:Zq)(h1:0≤d.rank)(h2:d.rank<(n:Int))(h3:-127≤d.shift)(h4:d.shift≤127):y8 n [d]=0:=by
 unfold y8 uf uf;rw[Yzb (by simp),Yzb (by omega),Yzb (by omega),Yzb (by omega),Yzb (by omega),Yzb (by simp)]
theorem zhU(n:Nat)(d e:Zq)(h1:0≤d.rank)(h2:d.rank<(n:Int))(h3:-127≤d.shift)(h4:d.shift≤127)(g1:0≤e.rank)(g2:e.rank<(n:Int))(g3:-127≤e.shift)(g4:e.shift≤127)(hne:e≠d):y8 n [d,e]=0:=by
 unfold y8 uf uf uf;rw[Yzb (by simp),Yzb (by omega),Yzb (by omega),Yzb (by omega),Yzb (by omega),Yzb (by simp),Yzb (by omega),Yzb (by omega),Yzb (by omega),Yzb (by omega),Yzb (by simpa using hne)]
theorem zrj(x:Place)(hlow:0≤x.low)(hlh:x.low≤x.high)(n m:Int)(sh sh2 at_:Int)(h1:0≤n)(h2:n<(x.ranks.els.length:Int))(h3:0≤m)(h4:m<(x.ranks.els.length:Int))(s1:-100≤sh)(s2:sh≤100)(s3:-100≤sh2)(s4:sh2≤100)(a1:x.low≤at_)(a2:at_≤x.high)(kd:Nat):
  (xk x.low x.high n sh m sh2 at_ kd).length≠0∧(xk x.low x.high n sh m sh2 at_ kd).length≤12∧uF x (xk x.low x.high n sh m sh2 at_ kd) none=0:=by
 have d1:=qi x.ranks.els.length ⟨n,sh⟩ h1 h2 (by show -127≤sh;omega) (by show sh≤127;omega);have d2:=qi x.ranks.els.length ⟨m,sh2⟩ h3 h4 (by show -127≤sh2;omega) (by show sh2≤127;omega);have d3:=qi x.ranks.els.length ⟨n,sh-12⟩ h1 h2 (by show -127≤sh-12;omega) (by show sh-12≤127;omega);have d4:=zhU x.ranks.els.length ⟨n,sh⟩ ⟨n,sh+7⟩ h1 h2 (by show -127≤sh;omega) (by show sh≤127;omega) h1 h2 (by show -127≤sh+7;omega) (by show sh+7≤127;omega) (fun h=>by have:=congrArg Zq.shift h;simp only at this;omega);have one:∀(lo hi:Int) (ds:List Zq) (p:Option Int) (r:List Seg),x.low≤lo→lo≤hi→hi≤x.high→leO lo p=false→y8 x.ranks.els.length ds=0→uF x (⟨lo,hi,some ds⟩::r) p=uF x r (some hi):=by
  intro lo hi ds p r e1 e2 e3 e4 e5;rw[uF];simp only[yC,e4,e5];rw[Yzb (by omega),Yzb (by omega),Yzb (by omega),Yzb (by simp),Yzb (by simp)]
 unfold xk;split
 ·refine⟨by simp,by simp,?_⟩;rw[one _ _ _ _ _ (by omega) (by omega) (by omega) rfl d4];rfl
 ·by_cases hb:x.low<at_
  ·rw[Yzd hb];refine⟨by simp,by simp,?_⟩;rw[one _ _ _ _ _ (by omega) (by omega) (by omega) rfl d1,one _ _ _ _ _ (by omega) (by omega) (by omega) (by simp only[leO];exact decide_eq_false (by omega)) d2];rfl
  ·rw[Yzb hb];refine⟨by simp,by simp,?_⟩;rw[one _ _ _ _ _ (by omega) (by omega) (by omega) rfl d2];rfl
 ·by_cases hb:x.low<at_
  ·rw[Yzd hb];refine⟨by simp,by simp,?_⟩;rw[one _ _ _ _ _ (by omega) (by omega) (by omega) rfl d1,one _ _ _ _ _ (by omega) (by omega) (by omega) (by simp only[leO];exact decide_eq_false (by omega)) d3];rfl
  ·rw[Yzb hb];refine⟨by simp,by simp,?_⟩;rw[one _ _ _ _ _ (by omega) (by omega) (by omega) rfl d3];rfl
 ·refine⟨by simp,by simp,?_⟩;rw[one _ _ _ _ _ (by omega) (by omega) (by omega) rfl d1];rfl
 ·refine⟨by simp,by simp,?_⟩;rw[one _ _ _ _ _ (by omega) (by omega) (by omega) rfl d1];rfl
theorem zmL(rs:List Zj)(hl:0<rs.length)(hl3:rs.length≤60)(hr:∀r∈rs,yX r=0)(hf:∀r∈rs,rkF r∈feetA)(low high:Int)(h0:0≤low)(h1:low≤high)(h2:high≤127)(i:Nat)(hi:i<10)(x:Pul):ua ⟨some rs,low,high⟩ (uo rs low high i x)=0:=by
 have p1:uJ ⟨some rs,low,high⟩=0:=by
  unfold uJ;rw[Yzb (by simp only[yC];omega),Yzb (by rw[show Sl.els (Place.mk (some rs) low high).ranks=rs from rfl,zhe rs hr];simp)];show right low high=0;unfold right;rw[Yzb (by omega),Yzb (by omega),Yzb (by omega)]
 have hn:x.rank % rs.length<rs.length:=Yz2 _ hl;have hm:(x.rank % rs.length+1) % rs.length<rs.length:=Yz2 _ hl;have b1:=zlC (fB x.feet) (rkF (zxw rs (x.rank % rs.length))) (zdL _) (hf _ (qz hn));have b2:=zlC (fB x.feet) (rkF (zxw rs ((x.rank % rs.length+1) % rs.length))) (zdL _) (hf _ (qz hm));have hq:0≤(x.at_:Int).tmod (high-low+1)∧(x.at_:Int).tmod (high-low+1)<high-low+1:=⟨Int.tmod_nonneg _ (by omega),Int.tmod_lt_of_pos _ (by omega)⟩;obtain⟨s1,s2,s3⟩:=zrj ⟨some rs,low,high⟩ h0 h1 ((x.rank % rs.length:Nat):Int) (((x.rank % rs.length+1) % rs.length:Nat):Int) (shf (fB x.feet) (rkF (zxw rs (x.rank % rs.length)))) (shf (fB x.feet) (rkF (zxw rs ((x.rank % rs.length+1) % rs.length)))) (low+((x.at_:Int).tmod (high-low+1)))
  (by omega) (by simp only[yC];omega) (by omega) (by simp only[yC];omega) b1.1 b1.2 b2.1 b2.2 (by show low≤_;omega) (by show _≤high;omega) (x.kind % 6)
 unfold ua uo;rw[Yzb (by rw[p1];simp),Yzb (by rw[show isName _=true from ki (c:=83) (by simp) hi];simp),Yzb (by simpa using zuv _ (zdL x.feet)),Yzb (by simpa using s1),Yzb (by simp only[yC];exact Nat.not_lt.2 s2)];exact s3
theorem zdu(rs:List Zj)(hl:0<rs.length)(hl3:rs.length≤60)(hr:∀r∈rs,yX r=0)(hf:∀r∈rs,rkF r∈feetA)(low high:Int)(h0:0≤low)(h1:low≤high)(h2:high≤127):
  ∀(l:List Pul) (i:Nat),i+l.length≤3→kU ⟨some rs,low,high⟩ (xZ rs low high i l) ((List.range i).map (pre 83))=0
 | [],_,_=>rfl
 |x::l,i,h=>by
  simp only[Yzk]at h;have e1:=zmL rs hl hl3 hr hf low high h0 h1 h2 i (by omega) x;have e2:((List.range i).map (pre 83)).any (eqB (uo rs low high i x).name)=false:=by
   rw[Yyz];intro s hs;obtain⟨j,hj,rfl⟩:=List.mem_map.1 hs;have hj:=List.mem_range.1 hj;have:=zeY (c:=83) (by simp) (show i<3 by omega) (show j<3 by omega) (by omega);show ¬eqB (pre 83 i) (pre 83 j)=true;rw[this];simp
  unfold xZ kU;rw[Yzb (by simpa using e1),Yzb (by rw[e2];simp)];have:(List.range i).map (pre 83)++[(uo rs low high i x).name]=(List.range (i+1)).map (pre 83):=by
   rw[List.range_succ,YzH];rfl
  rw[this];exact zdu rs hl hl3 hr hf low high h0 h1 h2 l (i+1) (by omega)
theorem uM(rs:List Zj)(low high:Int):∀(l:List Pul) (i:Nat),(xZ rs low high i l).length=l.length
 | [],_=>rfl
 |_::l,i=>by simp[xZ,uM rs low high l]
theorem zlU(b:Boa):right (zxo b) (k8 b)=0:=by
 have:=zeB b;have:=zbw b
 unfold right;rw[Yzb (by omega),Yzb (by omega),Yzb (by omega)]
theorem zps(rs:List Zj)(hl:0<rs.length)(hl3:rs.length≤60)(hr:∀r∈rs,yX r=0)(hf:∀r∈rs,rkF r∈feetA)(i:Nat)(b:Boa)(hb:b.stops.els.length≤3):kO (some rs) (zcW rs i b)=0:=by
 have:=zeB b;have:=zbw b
 unfold kO zcW;simp only[zG,uM,zlU];rw[Yzb (by simp),Yzb (by omega)];exact zdu rs hl hl3 hr hf _ _ (by omega) (by omega) (by omega) _ 0 (by omega)
theorem zfX(rs:List Zj)(hl:0<rs.length)(hl3:rs.length≤60)(hr:∀r∈rs,yX r=0)(hf:∀r∈rs,rkF r∈feetA):
  ∀(l:List Boa) (i:Nat),i+l.length≤3→(∀b∈l,b.stops.els.length≤3)→zad (some rs) (wV rs i l) ((List.range i).map (pre 68))=0
 | [],_,_,_=>rfl
 |x::l,i,h,H=>by
  simp only[Yzk]at h;have e1:=zps rs hl hl3 hr hf i x (H x (Yzi ..));have e2:((List.range i).map (pre 68)).any (eqB (zcW rs i x).name)=false:=by
   rw[Yyz];intro s hs;obtain⟨j,hj,rfl⟩:=List.mem_map.1 hs;have hj:=List.mem_range.1 hj;have:=zeY (c:=68) (by simp) (show i<3 by omega) (show j<3 by omega) (by omega);show ¬eqB (pre 68 i) (pre 68 j)=true;rw[this];simp
  have e3:isName (zcW rs i x).name=true:=ki (c:=68) (by simp) (by omega);unfold wV zad;rw[Yzb (by rw[e3];simp),Yzb (by rw[e2];simp),Yzb (by simpa using e1)];have:(List.range i).map (pre 68)++[(zcW rs i x).name]=(List.range (i+1)).map (pre 68):=by
   rw[List.range_succ,YzH];rfl
  rw[this];exact zfX rs hl hl3 hr hf l (i+1) (by omega) fun b hb=>H b (Yzf _ hb)
theorem wC(rs:List Zj):∀(l:List Boa) (i:Nat),(wV rs i l).length=l.length
 | [],_=>rfl
 |_::l,i=>by simp[wV,wC rs l]
theorem zcd(rs:List Zj):∀(l:List Boa) (i:Nat),((wV rs i l).map keyOf).any (fun k=>right k.1 k.2 != 0)=false
 | [],_=>rfl
 |b::l,i=>by
  simp only[wV,Yzp,List.any_cons,zcd rs l];have:right (keyOf (zcW rs i b)).1 (keyOf (zcW rs i b)).2=0:=zlU b;rw[this];rfl
theorem zfY(n:Nat)(hn:0<n):∀(l:List Lnk) (i:Nat) (p:List Cpl),i+l.length≤3→(∀c∈l,c.ok)→p.map Cpl.name=(List.range i).map (pre 67)→zhX n p (jB n i l)=0
 | [],_,_,_,_,_=>rfl
 |x::l,i,p,h,H,hp=>by
  simp only[Yzk]at h;have e2:p.any (fun y=>eqB y.name (kF n i x).name)=false:=by
   rw[Yyz];intro y hy;have:y.name∈(List.range i).map (pre 67):=by rw[←hp];exact List.mem_map_of_mem hy
   obtain⟨j,hj,e⟩:=List.mem_map.1 this;have hj:=List.mem_range.1 hj;have:=zeY (c:=67) (by simp) (show j<3 by omega) (show i<3 by omega) (by omega);rw[←e];show ¬eqB (pre 67 j) (pre 67 i)=true;rw[this];simp
  have e3:isName (kF n i x).name=true:=ki (c:=67) (by simp) (by omega);have a1:x.src % n<n:=Yz2 _ hn;have a2:x.dst % n<n:=Yz2 _ hn;have hs:-25<x.shift.tmod 25∧x.shift.tmod 25<25:=by
   have:=Int.lt_tmod_of_pos x.shift (show (0:Int)<25 by decide);have:=Int.tmod_lt_of_pos x.shift (show (0:Int)<25 by decide);omega
  have q:∀a:Bool,True:=fun _=>trivial;have f0:¬(kF n i x).src<0:=by show ¬((x.src % n:Nat):Int)<0;omega
  have f1:¬(n:Int)≤(kF n i x).src:=by show ¬(n:Int)≤((x.src % n:Nat):Int);omega
  have f2:¬(kF n i x).dst<0:=by show ¬((x.dst % n:Nat):Int)<0;omega
  have f3:¬(n:Int)≤(kF n i x).dst:=by show ¬(n:Int)≤((x.dst % n:Nat):Int);omega
  have f4:-127≤(kF n i x).shift∧(kF n i x).shift≤127∧¬((kF n i x).src=(kF n i x).dst∧(kF n i x).shift=0):=by
   unfold kF;simp only;split
   ·rename_i hh;exact⟨by omega,by omega,fun h=>by omega⟩
   ·rename_i hh;exact⟨by omega,by omega,fun h=>hh h⟩
  unfold jB zhX;rw[Yzb (by rw[e3];simp),Yzb (by rw[e2];simp),Yzb f0,Yzb f1,Yzb f2,Yzb f3,Yzb (by omega),Yzb (by omega),Yzb f4.2.2];refine zfY n hn l (i+1) _ (by omega) (fun c hc=>H c (Yzf _ hc)) ?_;rw[YzH,hp,List.range_succ,YzH];rfl
theorem j8(n:Nat):∀(l:List Lnk) (i:Nat),(jB n i l).length=l.length
 | [],_=>rfl
 |_::l,i=>by simp[jB,j8 n l]
theorem zkF(p:Pln)(hp:p.ok)(hf:zcZ p=true):uX (zxz p)=0:=by
 obtain⟨f1,f2,f3,f4,f5,f6⟩:=jJ hf;have hlen:(wO 0 p.ranks.els).length=p.ranks.els.length:=qK _ _;have hg:grow (wO 0 p.ranks.els)=some (wO 0 p.ranks.els):=znn (by omega);have r1:=zi6 p.ranks.els 0 (by omega) hp.ranks;have d1:=zfX (wO 0 p.ranks.els) (by omega) (by omega) (zi5 _ _ hp.ranks) (zav _ _) p.divs.els 0 (by omega) f6;have c1:=zfY p.divs.els.length (by omega) p.cpls.els 0 [] (by omega) hp.cpls rfl;have k1:=zcd (wO 0 p.ranks.els) p.divs.els 0;simp only[List.range_zero,Yyf]at r1 d1;unfold uX zxz;simp only[zG,hg,yC,hlen,wC];rw[Yzb (by rw[show isName zdm=true from rfl];simp),Yzb (by omega),Yzb (by rw[r1];simp),Yzb (by omega),Yzb (by omega),Yzb (by rw[d1];simp)];unfold zjF;rw[Yzb (by rw[Yzj,wC];omega),Yzb (by rw[j8];omega),Yzb (by rw[k1];simp),Yzj,wC];exact c1
theorem k7(rs:List Zj)(low high:Int):∀(l:List Pul) (i:Nat),∀s∈xZ rs low high i l,s.ok
 | [],_,_,h=>by cases h
 |x::l,i,s,h=>by
  rcases YzO.1 h with rfl|h
  ·have hall:∀n sh m sh2 a kd,(xk low high n sh m sh2 a kd).length≤2∧∀g∈xk low high n sh m sh2 a kd,g.draws.els.length≤2:=by
    intro n sh m sh2 a kd;unfold xk;split
    ·simp
    ·split<;>simp
    ·split<;>simp
    ·simp
    ·simp
   obtain⟨q1,q2⟩:=hall ((x.rank % rs.length:Nat):Int) (shf (fB x.feet) (rkF (zxw rs (x.rank % rs.length)))) (((x.rank % rs.length+1) % rs.length:Nat):Int)
    (shf (fB x.feet) (rkF (zxw rs ((x.rank % rs.length+1) % rs.length)))) (low+((x.at_:Int).tmod (high-low+1))) (x.kind % 6)
   refine⟨?_,fun g hg=>?_⟩
   ·show (xk _ _ _ _ _ _ _ _).length≤_;omega
   ·have:=q2 g hg;show g.draws.els.length≤_;omega
  ·exact k7 rs low high l _ s h
theorem zrU(p:Pln)(hf:zcZ p=true):(zxz p).ok:=by
 obtain⟨f1,f2,f3,f4,f5,f6⟩:=jJ hf;have hd:∀(rs:List Zj) (l:List Boa) (i:Nat),(∀b∈l,b.stops.els.length≤3)→∀d∈wV rs i l,d.ok:=by
  intro rs l
  induction l with
  |nil=>intro i _ d h;cases h
  |cons b l ih=>
   intro i H d h;rcases YzO.1 h with rfl|h
   ·have:=H b (Yzi ..);refine⟨?_,fun s hs=>?_⟩
    ·show (grow (xZ rs (zxo b) (k8 b) 0 b.stops.els)).els.length≤_;rw[zG,uM];omega
    ·have hs:s∈(grow (xZ rs (zxo b) (k8 b) 0 b.stops.els)).els:=hs;rw[zG]at hs;exact k7 rs _ _ _ _ s hs
   ·exact ih (i+1) (fun b hb=>H b (Yzf _ hb)) d h
 unfold zxz;refine⟨?_,fun r hr=>?_,?_,fun d h=>?_,?_⟩
 ·simp only[zG,qK];omega
 ·simp only[zG]at hr;exact za3 _ _ r hr
 ·simp only[zG,wC];omega
 ·simp only[zG]at h;exact hd _ _ _ f6 d h
 ·simp only[zG,j8];omega
end Go.Proofs.Tryz.Kn
end
section
namespace Go.Proofs.Tryz.Kn
open Go Go.CE Go.PE
def zxl(a b:Int):Int:=IntKind.wrap .u64 (BitVec.ofInt IntKind.u64.bits a &&& BitVec.ofInt IntKind.u64.bits b).toNat
theorem uL(a b:Int):zwJ .and (U64 a) (U64 b)=some (U64 (zxl a b)):=by
 simp only[zwJ,xl,Yza,ur,zuB,oD];rfl
def zxG(a:Int)(n:Nat):Int:=Int.fdiv a (2^(min n 64))
theorem zyA{k:IntKind}(a:Int)(n:Nat):wy false (U64 a) (.int k (n:Int))=some (U64 (zxG a n)):=by
 have h:ltI (n:Int) 0=false:=by rw[jC];exact decide_eq_false (by omega)
 show oD (zeT .u64 a (n:Int))=_;unfold zeT;rw[h,Yzc];rfl
theorem zih{m:Nat}(h:m≤4611686018427387904):wv .u64 (m:Int)=(m:Int):=by rw[zq0];omega
theorem zrA{k:IntKind}{n:Nat}(h:n≤62):wy true (U64 1) (.int k (n:Int))=some (U64 ((2^n:Nat):Int)):=by
 have h0:ltI (n:Int) 0=false:=by rw[jC];exact decide_eq_false (by omega)
 show oD (zeU .u64 1 (n:Int))=_;unfold zeU;rw[h0,Yzc];have hm:min (n:Int).toNat IntKind.u64.bits=n:=by
  rw[Yyi];show min n 64=n;omega
 rw[hm];have hp:(2^n:Nat)≤2^62:=Nat.pow_le_pow_right (by decide) h;have e:Int.mul 1 (2^n)=((2^n:Nat):Int):=by
  show (1:Int)*2^n=_;rw[Int.one_mul];simp
 rw[e,zih (YzA hp (by decide))];rfl
theorem zzE{n:Nat}(h:n≤62):zwJ .sub (U64 ((2^n:Nat):Int)) (U64 1)=some (U64 ((2^n-1:Nat):Int)):=by
 have hp:(2^n:Nat)≤2^62:=Nat.pow_le_pow_right (by decide) h;have h1:1≤(2^n:Nat):=Nat.one_le_two_pow;have h2:(2:Nat)^62=4611686018427387904:=by decide
 have e:((2^n:Nat):Int)-1=((2^n-1:Nat):Int):=by
  generalize (2^n:Nat)=m at h1;omega
 rw[zeu,e,zih (by omega)]
theorem zAs(a b:Int):zwJ .neq (U64 a) (U64 b)=some (Bo (!(a==b))):=ya _ _ _
abbrev enU(n:Int):List DV:=[U64 n]
structure Reg where
 stops:Sl Int
 cpls:Int
 off:Int
def wn(r:Reg):List DV:=[enL 1 enU r.stops,U64 r.cpls,U64 r.off]
def zaZ:List Zn→List Int→Bool
 |d::ds,s::ss=>!(zxG s d.stops.els.length==0)||zaZ ds ss
 |_,_=>false
def uW(o:Org)(r:Reg):Int:=
 if uX o≠0 then uX o else if r.stops.els.length≠o.divs.els.length then 5 else if zaZ o.divs.els r.stops.els=true then 3
 else if zxG r.cpls o.cpls.els.length≠0 then 3 else if zxG r.off o.divs.els.length≠0 then 3 else 0
theorem l31(dv:Sl Zn)(hd:dv.els.length≤9223372036854775807)(st:Sl Int)(hl:st.els.length=dv.els.length):∀(ds:List Zn) (ss:List Int) (i:Nat),dv.els.drop i=ds→st.els.drop i=ss→
  zL (zoh (I6 (dv.els.length:Int)) (enL 5 enV dv) (enL 1 enU st)) [I6 (i:Int)] []=some (if zaZ ds ss=true then(.ret,[I6 3],[]) else(.exit 0,[],[])):=by
 intro ds
 induction ds with
 |nil=>
  intro ss i h _;refine zr ?_;simp only[zoh,zt,zi,zb,xh (zN h),zl];rfl
 |cons d ds ih=>
  intro ss i h h';have h1:=yq h;cases ss with
  |nil=>have:=zN h';omega
  |cons s ss=>
   have ea:zwJ .add (I6 (i:Int)) (I6 1)=some (I6 ((i+1:Nat):Int)):=yJ;have body:zoh (I6 (dv.els.length:Int)) (enL 5 enV dv) (enL 1 enU st) [I6 (i:Int)] []=some (if zxG s d.stops.els.length=0 then(.normal,[I6 ((i+1:Nat):Int)],[]) else(.ret,[I6 3],[])):=by
    simp only[zoh,zt,zi,zb,zwZ h1,zl,if_true,zV h,zV h',enV,y3,xJ,zF,zyA,zAs,ea];by_cases hz:zxG s d.stops.els.length=0<;>simp[hz]
   by_cases hc:zxG s d.stops.els.length=0
   ·rw[Yzd hc]at body;rw[zD body,ih ss (i+1) (zA h) (zA h')];simp[zaZ,hc]
   ·rw[Yzb hc]at body;rw[zy body];simp[zaZ,hc]
theorem t31(k:Nat)(o:Org)(ho:o.ok)(r:Reg):D (k+10) 31 [SA (enO o),SA (wn r)]=some (S1 (I6 (uW o r))):=by
 have c:=t30 k o ho;unfold enO at c ⊢;unfold wn;rw[D31];unfold P31 uW;simp only[c,zW,ya,zb,zl,zF];by_cases h1:uX o=0
 ·by_cases h2:r.stops.els.length=o.divs.els.length
  ·have e:(!((r.stops.els.length:Int)==(o.divs.els.length:Int)))=false:=by simp[h2]
   have l:=l31 o.divs ho.dl r.stops h2 o.divs.els r.stops.els 0 rfl rfl;simp only[h1,h2,Yyr,YzG,Yzh,if_false,ne_eq,not_true_eq_false];rw[show (I6 0:DV)=I6 ((0:Nat):Int) from rfl,l];cases zaZ o.divs.els r.stops.els with
   |true=>rfl
   |false=>
    simp only[Yzh,if_false,z8,Yzu,Yza,zyA,zb,zAs,zl];by_cases h3:zxG r.cpls o.cpls.els.length=0
    ·by_cases h4:zxG r.off o.divs.els.length=0<;>simp[h3,h4]
    ·simp[h3]
  ·have e:(!((r.stops.els.length:Int)==(o.divs.els.length:Int)))=true:=by
    have:¬((r.stops.els.length:Int)=(o.divs.els.length:Int)):=by omega
    simp[this]
   simp[h1,h2,e]
 ·simp[h1]
theorem zsY{β:Type}(o:Org)(K:List DV→Option β):bA 4 (some (SA (enO o))) K=K (enO o):=rfl
theorem zu0(o:Org):[atD (enO o) 0,atD (enO o) 1,atD (enO o) 2,atD (enO o) 3]=enO o:=rfl
theorem zuZ(r:Reg):[atD (wn r) 0,atD (wn r) 1,atD (wn r) 2]=wn r:=rfl
def kG(n:Nat):Int:=((2^n-1:Nat):Int)
def zmQ(d:Zn):Int:=kG d.stops.els.length
def enB(b:Nat→Nat):List DV:=[U8 (b 0:Int),U8 (b 1:Int),U8 (b 2:Int),U8 (b 3:Int),U8 (b 4:Int)]
def vK(b:Nat→Nat):Nat→List Zn→List Int
 |_,[]=>[]
 |i,d::r=>zxl (b (i % 3):Int) (zmQ d)::vK b (i+1) r
def xW(o:Org)(b:Nat→Nat):Reg:=⟨grow (vK b 0 o.divs.els),zxl (b 3:Int) (kG o.cpls.els.length),zxl (b 4:Int) (kG o.divs.els.length)⟩
theorem l12(b:Nat→Nat)(hb:∀i,b i<256)(dv:Sl Zn)(hl:dv.els.length≤1000)(hs:∀d∈dv.els,d.stops.els.length≤60)(c0 c1:DV):∀(r:List Zn) (i:Nat) (acc:List Int),dv.els.drop i=r→acc.length=i→
  zL (zgO (enL 5 enV dv) (U8 (b 0:Int)) (U8 (b 1:Int)) (U8 (b 2:Int)) (U8 (b 3:Int)) (U8 (b 4:Int))) [I6 (i:Int),c0,c1] [ocL enU (grow acc)]=some (.exit 0,[c0,c1],[ocL enU (grow (acc++vK b i r))]):=by
 intro r
 induction r with
 |nil=>
  intro i acc h _;refine zr ?_;simp only[zgO,zt,yD,zZ,zF,zi,zb,xh (zN h),zl,vK,YzD];rfl
 |cons d r ih=>
  intro i acc h ha;have h1:=yq h;have hd:=hs d (Lz3 (zU h));have ea:zwJ .add (I6 (i:Int)) (I6 1)=some (I6 ((i+1:Nat):Int)):=yJ;have e1:zwJ .rem (I6 (i:Int)) (I6 3)=some (I6 ((i % 3:Nat):Int)):=zxI (b:=3) (by decide);have h3:i % 3<3:=Yz2 _ (by decide);have e2:ul 5 (I6 ((i % 3:Nat):Int))=some (i % 3):=zbq (by omega);have e3:atD [U8 (b 0:Int),U8 (b 1:Int),U8 (b 2:Int),U8 (b 3:Int),U8 (b 4:Int)] (i % 3)=U8 (b (i % 3):Int):=by
   have:i % 3=0∨i % 3=1∨i % 3=2:=by omega
   rcases this with h|h|h<;>rw[h]<;>rfl
  have hbb:=hb (i % 3);have e4:yQ .u64 (U8 (b (i % 3):Int))=some (U64 (b (i % 3):Int)):=zgi (by omega);have e5:yQ .u64 (I6 (d.stops.els.length:Int))=some (U64 (d.stops.els.length:Int)):=zgi (by omega);have sh:wy true (U64 1) (U64 (d.stops.els.length:Int))=some (U64 ((2^d.stops.els.length:Nat):Int)):=zrA (by omega);have sb:zwJ .sub (U64 ((2^d.stops.els.length:Nat):Int)) (U64 1)=some (U64 (zmQ d)):=zzE (by omega);have ef:fits 8 ((grow acc).els.length+1)=true:=wg (by decide) (by rw[zG];omega);have body:zgO (enL 5 enV dv) (U8 (b 0:Int)) (U8 (b 1:Int)) (U8 (b 2:Int)) (U8 (b 3:Int)) (U8 (b 4:Int)) [I6 (i:Int),c0,c1] [ocL enU (grow acc)]=some (.normal,[I6 ((i+1:Nat):Int),c0,c1],[ocL enU (grow (acc++[zxl (b (i % 3):Int) (zmQ d)]))]):=by
   rw[xG,←wJ (f:=enU)];simp only[zgO,zt,yD,zZ,zF,zi,zb,zwZ h1,zl,if_true,e1,e2,e3,e4,zV h,enV,y3,xJ,e5,sh,sb,uL,y5,Yzk,Yz7,ef,we,ea,yO]
  rw[zD body,ih (i+1) _ (zA h) (by simp[ha])];simp[vK]
theorem t12(k:Nat)(o:Org)(b:Nat→Nat)(hb:∀i,b i<256)(hd:o.divs.els.length≤60)(hs:∀d∈o.divs.els,d.stops.els.length≤60)(hc:o.cpls.els.length≤60):D (k+1) 12 [SA (enO o),SA (enB b)]=some (SA (wn (xW o b))):=by
 have h3:=hb 3;have h4:=hb 4
 have e3:yQ .u64 (U8 (b 3:Int))=some (U64 (b 3:Int)):=zgi (by omega);have e4:yQ .u64 (U8 (b 4:Int))=some (U64 (b 4:Int)):=zgi (by omega);have f3:yQ .u64 (I6 (o.cpls.els.length:Int))=some (U64 (o.cpls.els.length:Int)):=zgi (by omega);have f4:yQ .u64 (I6 (o.divs.els.length:Int))=some (U64 (o.divs.els.length:Int)):=zgi (by omega);have s3:wy true (U64 1) (U64 (o.cpls.els.length:Int))=some (U64 ((2^o.cpls.els.length:Nat):Int)):=zrA (by omega);have s4:wy true (U64 1) (U64 (o.divs.els.length:Int))=some (U64 ((2^o.divs.els.length:Nat):Int)):=zrA (by omega);have g3:zwJ .sub (U64 ((2^o.cpls.els.length:Nat):Int)) (U64 1)=some (U64 (kG o.cpls.els.length)):=zzE (by omega);have g4:zwJ .sub (U64 ((2^o.divs.els.length:Nat):Int)) (U64 1)=some (U64 (kG o.divs.els.length)):=zzE (by omega);have l:=l12 b hb o.divs (by omega) hs (U64 (zxl (b 3:Int) (kG o.cpls.els.length))) (U64 (zxl (b 4:Int) (kG o.divs.els.length))) o.divs.els 0 [] rfl rfl;rw[show ocL enU (grow ([]:List Int))=none from rfl,YzI]at l;unfold enO enB;rw[D12];unfold P12;simp only[zb,y3,xJ,e3,e4,zF,f3,f4,s3,s4,g3,g4,uL];rw[show (I6 0:DV)=I6 ((0:Nat):Int) from rfl,l];simp only[z8,Yzu,Yza,zZ,zt,yD,wB];rfl
theorem za4(rs:List Zj):∀(l:List Boa) (i:Nat),(∀b∈l,b.stops.els.length≤3)→∀d∈wV rs i l,d.stops.els.length≤3
 | [],_,_,_,h=>by cases h
 |b::l,i,H,d,h=>by
  rcases YzO.1 h with rfl|h
  ·have:=H b (Yzi ..);show (grow (xZ rs (zxo b) (k8 b) 0 b.stops.els)).els.length≤3;rw[zG,uM];exact this
  ·exact za4 rs l (i+1) (fun x hx=>H x (Yzf _ hx)) d h
theorem zdv(p:Pln)(hf:zcZ p=true):(zxz p).divs.els.length≤3∧(∀d∈(zxz p).divs.els,d.stops.els.length≤3)∧(zxz p).cpls.els.length≤3:=by
 obtain⟨f1,f2,f3,f4,f5,f6⟩:=jJ hf;unfold zxz;refine⟨?_,?_,?_⟩
 ·simp only[zG,wC];exact f4
 ·simp only[zG];exact za4 _ _ _ f6
 ·simp only[zG,j8];exact f5
theorem zsZ{β:Type}(r:Reg)(K:List DV→Option β):bA 3 (some (SA (wn r))) K=K (wn r):=rfl
end Go.Proofs.Tryz.Kn
end
section
namespace Go.Proofs.Tryz.Kn
open Go Go.CE Go.PE
def bit(a:Int)(i:Nat):Bool:=zxl (zxG a i) 1==1
theorem zy6(a b:Int):zwJ .eql (U64 a) (U64 b)=some (Bo (a==b)):=wZ _ _ _
def ji(o:Org):List Reg→Int
 | []=>0
 |r::l=>if uW o r≠0 then uW o r else ji o l
theorem l38(k:Nat)(o:Org)(ho:o.ok)(l:Sl Reg)(hl:l.els.length≤9223372036854775807):∀(r:List Reg) (i:Nat),l.els.drop i=r→
  zL (zog (D (k+10)) (I6 (l.els.length:Int)) (enL 3 wn l) (St o.name) (enL 6 enR o.ranks) (enL 5 enV o.divs) (enL 5 enC o.cpls)) [I6 (i:Int)] []=some (zxT 0 (ji o r)):=by
 intro r
 induction r with
 |nil=>
  intro i h;refine zr ?_;simp only[zog,zt,zi,zb,xh (zN h),zl];rfl
 |cons x r ih=>
  intro i h;have h1:=yq h;have ea:zwJ .add (I6 (i:Int)) (I6 1)=some (I6 ((i+1:Nat):Int)):=yJ;have c:=t31 k o ho x;simp only[enO,wn]at c;have body:zog (D (k+10)) (I6 (l.els.length:Int)) (enL 3 wn l) (St o.name) (enL 6 enR o.ranks) (enL 5 enV o.divs) (enL 5 enC o.cpls) [I6 (i:Int)] [] =
    some (if uW o x≠0 then(.ret,[I6 (uW o x)],[]) else(.normal,[I6 ((i+1:Nat):Int)],[])):=by
   simp only[zog,zt,zi,zb,zwZ h1,zl,if_true,zV h,wn,y3,xJ,c,zW,ya,ea];by_cases hz:uW o x=0<;>simp[hz]
  unfold ji;by_cases a1:uW o x≠0
  ·rw[Yzd a1]at body ⊢;rw[zy body];unfold zxT;rw[Yzd a1]
  rw[Yzb a1]at body ⊢;rw[zD body,ih (i+1) (zA h)]
def zdQ(o:Org)(l:List Reg):Int:=if uX o≠0 then uX o else ji o l
theorem t38(k:Nat)(o:Org)(ho:o.ok)(l:Sl Reg)(hl:l.els.length≤9223372036854775807):D (k+11) 38 [SA (enO o),S1 (enL 3 wn l)]=some (S1 (I6 (zdQ o l.els))):=by
 have c:=t30 (k+1) o ho;have ll:=l38 k o ho l hl l.els 0 rfl;unfold enO at c ⊢;rw[D38];unfold P38 zdQ;simp only[c,zW,ya,zb,zl,zF];by_cases h1:uX o=0
 ·rw[show (I6 0:DV)=I6 ((0:Nat):Int) from rfl,ll];unfold zxT;by_cases h4:ji o l.els=0<;>simp[h1,h4]
 ·simp[h1]
theorem zri:((List.range 256).all fun x=>[0,1,2,3].all fun n=>zxG (zxl (x:Int) (kG n)) n==0)=true:=by kernel_rfl
theorem zbL{x n:Nat}(hx:x<256)(hn:n≤3):zxG (zxl (x:Int) (kG n)) n=0:=by
 have h:=Yz1.1 (Yz1.1 zri x (List.mem_range.2 hx)) n (by
  have:n=0∨n=1∨n=2∨n=3:=by omega
  rcases this with rfl|rfl|rfl|rfl<;>simp)
 simpa using h
theorem qj(b:Nat→Nat):∀(l:List Zn) (i:Nat),(vK b i l).length=l.length
 | [],_=>rfl
 |d::l,i=>by simp[vK,qj b l (i+1)]
theorem zdl(b:Nat→Nat)(hb:∀i,b i<256):∀(l:List Zn) (i:Nat),(∀d∈l,d.stops.els.length≤3)→zaZ l (vK b i l)=false
 | [],_,_=>rfl
 |d::l,i,h=>by
  rw[vK,zaZ,show zmQ d=kG d.stops.els.length from rfl,zbL (hb _) (h d (Yzi ..)),zdl b hb l (i+1) fun x hx=>h x (Yzf _ hx)];rfl
theorem vQ{o:Org}(h:uX o=0)(b:Nat→Nat)(hb:∀i,b i<256)(hd:o.divs.els.length≤3)(hs:∀d∈o.divs.els,d.stops.els.length≤3)(hc:o.cpls.els.length≤3):uW o (xW o b)=0:=by
 unfold uW xW;simp only[zG,qj,zdl b hb _ 0 hs,zbL (hb 3) hc,zbL (hb 4) hd];rw[Yzb (by rw[h];simp)];simp
end Go.Proofs.Tryz.Kn
end
section
namespace Go.Proofs.Tryz.Kn
open Go Go.CE Go.PE
structure Zg where
 rank:Int
 num:Int
deriving DecidableEq
def ltP(a b:Zg):Prop:=a.rank<b.rank∨(a.rank=b.rank∧a.num<b.num)
def leP(a b:Zg):Prop:=a.rank<b.rank∨(a.rank=b.rank∧a.num≤b.num)
instance (a b:Zg):Decidable (ltP a b):=by unfold ltP;infer_instance
theorem Zg.eq{a b:Zg}(h1:a.rank=b.rank)(h2:a.num=b.num):a=b:=by cases a;cases b;simp_all
theorem zvV{a b:Zg}(h:ltP a b):leP a b:=by unfold ltP at h;unfold leP;omega
theorem zm3{a b c:Zg}(h:leP a b)(g:leP b c):leP a c:=by unfold leP at *;omega
theorem zmW{a b c:Zg}(h:ltP a b)(g:ltP b c):ltP a c:=by unfold ltP at *;omega
theorem lt_irrefl{a:Zg}:¬ltP a a:=by unfold ltP;omega
theorem zvX{a b:Zg}(h:leP a b)(g:a≠b):ltP a b:=by
 unfold leP at h;unfold ltP;rcases h with h|⟨h1,h2⟩
 ·exact .inl h
 ·refine .inr ⟨h1,?_⟩;have:a.num≠b.num:=fun e=>g (Zg.eq h1 e);omega
theorem zvY{a b c:Zg}(h:leP a b)(g:ltP b c):ltP a c:=by unfold leP at h;unfold ltP at *;omega
theorem zfk:∀(l m:List Zg),l.Pairwise ltP→m.Pairwise ltP→(∀y,y∈l↔y∈m)→l=m
 | [],[],_,_,_=>rfl
 | [],y::m,_,_,h=>by have:=(h y).2 (Yzi ..);cases this
 |x::l,[],_,_,h=>by have:=(h x).1 (Yzi ..);cases this
 |x::l,y::m,h1,h2,h=>by
  have a1:=List.pairwise_cons.1 h1;have a2:=List.pairwise_cons.1 h2;have hxy:x=y:=by
   rcases YzO.1 ((h x).1 (Yzi ..)) with e|hx
   ·exact e
   ·rcases YzO.1 ((h y).2 (Yzi ..)) with e|hy
    ·exact e.symm
    ·exact absurd (zmW (a1.1 y hy) (a2.1 x hx)) lt_irrefl
  subst hxy;rw[zfk l m a1.2 a2.2 fun z=>?_]
  constructor
  ·intro hz;rcases YzO.1 ((h z).1 (Yzf _ hz)) with e|hz'
   ·exact absurd (e▸a1.1 z hz) lt_irrefl
   ·exact hz'
  ·intro hz;rcases YzO.1 ((h z).2 (Yzf _ hz)) with e|hz'
   ·exact absurd (e▸a2.1 z hz) lt_irrefl
   ·exact hz'
def Kept(l acc:List Zg)(m:Nat):Prop:=acc.Pairwise ltP∧∀y,y∈acc↔y∈l.take m
theorem Kept.same{l acc:List Zg}{m:Nat}(H:Kept l acc (m+1)){x:Zg}(h0:l[m]? = some x)(h1:l[m+1]? = some x):Kept l acc (m+2):=by
 refine⟨H.1,fun y=>(H.2 y).trans ?_⟩;rw[show l.take (m+2)=l.take (m+1)++[x] by rw[Yyy (i:=m+1),h1];rfl,Yys,YzB]
 constructor
 ·exact .inl
 ·rintro (h|rfl)
  ·exact h
  ·exact Lz3 (i:=m) (by rw[Yzo,Yzd (by omega)];exact h0)
theorem Kept.next{l acc:List Zg}{m:Nat}(hs:l.Pairwise leP)(H:Kept l acc (m+1)){x z:Zg}(h0:l[m]? = some z)(h1:l[m+1]? = some x)(hne:x≠z):Kept l (acc++[x]) (m+2):=by
 have hzx:ltP z x:=by
  refine zvX ?_ (fun e=>hne e.symm);obtain⟨i0,e0⟩:=Lz0.1 h0;obtain⟨i1,e1⟩:=Lz0.1 h1;have:=(List.pairwise_iff_getElem.1 hs) m (m+1) i0 i1 (by omega)
  rwa [e0,e1]at this
 refine⟨List.pairwise_append.2 ⟨H.1,List.pairwise_singleton ..,fun a ha b hb=>?_⟩,fun y=>?_⟩
 ·obtain rfl:=YzB.1 hb;have ha':=(H.2 a).1 ha;obtain⟨i,hi⟩:=List.mem_iff_getElem?.1 ha';rw[Yzo]at hi;split at hi
  ·rename_i hi2;by_cases him:i=m
   ·subst him;rw[h0]at hi;cases hi;exact hzx
   ·obtain⟨i0,e0⟩:=Lz0.1 h0;obtain⟨i1,e1⟩:=Lz0.1 hi;have:=(List.pairwise_iff_getElem.1 hs) i m i1 i0 (by omega);rw[e0,e1]at this;exact zvY this hzx
  ·cases hi
 ·rw[show l.take (m+2)=l.take (m+1)++[x] by rw[Yyy (i:=m+1),h1];rfl,Yys,Yys,H.2]
def zwN(p:Zg):List DV:=[I6 p.rank,I6 p.num]
abbrev ocP(l:List Zg):OC:=ocL zwN (some l)
theorem zdz(l:List Zg):zwW (ocP l)=l.length:=by simp
theorem zhk{l:List Zg}{i:Nat}(h:i<l.length):xA (ocP l) (I6 (i:Int))=some i:=j5 (by simpa using h)
theorem zdo{l:List Zg}{i:Nat}{x:Zg}(h:l[i]? = some x):zw7 (ocP l) i=some (zwN x):=by
 show (l.map zwN)[i]? = _;rw[Lz6,h];rfl
theorem ztr{l:List Zg}{i:Nat}(h:i<l.length)(x:Zg):zyT 2 (ocP l) i 0 [I6 x.rank,I6 x.num]=some (ocP (l.set i x)):=by
 have:(l.map zwN)[i]? = some (zwN l[i]):=by rw[Lz6,Lz5 h];rfl
 show (match (l.map zwN)[i]? with
  |some y=>bif Nat.ble (0 + [I6 x.rank,I6 x.num].length) 2 then some (some ((l.map zwN).set i (y.take 0++[I6 x.rank,I6 x.num]++y.drop (0 + [I6 x.rank,I6 x.num].length)))) else none
  |none=>none)=_
 rw[this];show some (some ((l.map zwN).set i (zwN x)))=some (some ((l.set i x).map zwN));rw[List.map_set]
theorem zab(a b:Zg):zxx [1,1] [I6 a.rank,I6 a.num] [I6 b.rank,I6 b.num]=some (decide (a=b)):=by
 cases a with|mk r s=>
 cases b with|mk r' s'=>
 simp only[zxx,eqD,xl,Yza,jO];by_cases h1:r=r'
 ·by_cases h2:s=s'
  ·simp[h1,h2]
  ·have e2:(s==s')=false:=by simpa using h2
   simp[h1,h2,e2]
 ·have e1:(r==r')=false:=by simpa using h1
  simp[h1,e1]
theorem take_set{l:List Zg}{i:Nat}{x:Zg}(h:i<l.length):(l.set i x).take (i+1)=l.take i++[x]:=by
 rw[Yyy,List.getElem?_set_self h,List.take_set,List.set_eq_of_length_le (by simp;omega)];rfl
theorem zzO(l:List Zg)(n k:Nat)(hn:l.length=n)(hs:l.Pairwise leP)(hn2:n≤1000)(hk:1≤k)(hkn:k<n):∀(m k2:Nat) (w acc:List Zg),k2+m=n-k→1≤k2→acc.length≤k+k2-1→w.length=n→w.take acc.length=acc→
  (∀i,k+k2-1≤i→w[i]? = l[i]?)→Kept l acc (k+k2)→∃w' acc',zL (zgD (k,n-k)) [I6 (k2:Int),I6 (acc.length:Int)] [ocP w]=some (.exit 2,[I6 (acc'.length:Int)],[ocP w'])∧w'.length=n∧w'.take acc'.length=acc'∧acc'.length<n∧Kept l acc' n
 |0,k2,w,acc,h1,h2,h3,h4,h5,_,h7=>by
  refine⟨w,acc,zr ?_,h4,h5,by omega,by rwa [show n=k+k2 by omega]⟩;simp only[zgD,zt,yD,zZ,wq,zi,zb,xh (show n-k≤k2 by omega),zl];rfl
 |m+1,k2,w,acc,h1,h2,h3,h4,h5,h6,h7=>by
  obtain⟨x,hx⟩:∃x,l[k+k2]? = some x:=⟨_,Lz5 (by omega)⟩;obtain⟨z,hz⟩:∃z,l[k+k2-1]? = some z:=⟨_,Lz5 (by omega)⟩;have e1:k+(k2-1)=k+k2-1:=by omega
  have hwx:w[k+k2]? = some x:=by rw[h6 _ (by omega),hx]
  have hwz:w[k+(k2-1)]? = some z:=by rw[e1,h6 _ (by omega),hz]
  have i1:ul (n-k) (I6 (k2:Int))=some k2:=zbq (by omega);have es:zwJ .sub (I6 (k2:Int)) (I6 1)=some (I6 ((k2-1:Nat):Int)):=by
   rw[show ((k2-1:Nat):Int)=(k2:Int)-1 by omega];exact zfj
  have i2:ul (n-k) (I6 ((k2-1:Nat):Int))=some (k2-1):=zbq (by omega);have ea:zwJ .add (I6 (k2:Int)) (I6 1)=some (I6 ((k2+1:Nat):Int)):=yJ;have eb:zwJ .add (I6 (acc.length:Int)) (I6 1)=some (I6 ((acc.length+1:Nat):Int)):=yJ;have i3:xA (ocP w) (I6 (acc.length:Int))=some acc.length:=zhk (by omega);have st:=ztr (l:=w) (i:=acc.length) (by omega) x;have eq:=zab x z;have body:zgD (k,n-k) [I6 (k2:Int),I6 (acc.length:Int)] [ocP w]=some (if x=z then(.normal,[I6 ((k2+1:Nat):Int),I6 (acc.length:Int)],[ocP w]) else(.normal,[I6 ((k2+1:Nat):Int),I6 ((acc.length+1:Nat):Int)],[ocP (w.set acc.length x)])):=by
   simp only[zgD,zt,yD,zZ,wq,zi,zb,zwZ (show k2<n-k by omega),zl,if_true,i1,zdo hwx,es,i2,zdo hwz,zwN,y3,xJ,eq,i3,st,ea,eb];by_cases hc:x=z<;>simp[hc]
  have hm:l[k+k2-1+1]? = some x:=by rw[show k+k2-1+1=k+k2 by omega];exact hx
  rw[show k+k2=(k+k2-1)+1 by omega]at h7;by_cases hc:x=z
  ·rw[Yzd hc]at body;subst hc;have:=h7.same hz hm;rw[zD body];exact zzO l n k hn hs hn2 hk hkn m (k2+1) w acc (by omega) (by omega) (by omega) h4 h5 (fun i hi=>h6 i (by omega)) (by rwa [show k+k2-1+2=k+(k2+1) by omega]at this)
  ·rw[Yzb hc]at body;have:=h7.next hs hz hm hc
   have hl:(acc++[x]).length=acc.length+1:=by simp
   rw[zD body,←hl];refine zzO l n k hn hs hn2 hk hkn m (k2+1) (w.set acc.length x) (acc++[x]) (by omega) (by omega) (by omega) (by simpa using h4) ?_ (fun i hi=>?_) (by rwa [show k+k2-1+2=k+(k2+1) by omega]at this)
   ·rw[hl,take_set (by omega),h5]
   ·rw[List.getElem?_set,Yzb (by omega)];exact h6 i (by omega)
theorem zp3(y d:Nat):zxb none d y=some d:=rfl
theorem zAv(l:List Zg)(n:Nat)(hn:l.length=n)(hs:l.Pairwise leP)(hn2:n≤1000):∀(m k:Nat),k+m=n→1≤k→Kept l (l.take k) k→
  ∃acc,(zL kR [I6 (k:Int)] [ocP l]=some (.exit 0,[],[ocP acc])∨zL kR [I6 (k:Int)] [ocP l]=some (.ret,[.lst 2 (acc.map zwN)],[]))∧Kept l acc n
 |0,k,h1,h2,h3=>by
  refine⟨l,.inl (zr ?_),?_⟩
  ·simp only[kR,zt,zZ,zdz,wq,zi,zb,xh (show l.length≤k by omega),zl];rfl
  ·rw[show n=k by omega]
   rwa [Yyu (by omega)]at h3
 |m+1,k,h1,h2,h3=>by
  obtain⟨x,hx⟩:∃x,l[k]? = some x:=⟨_,Lz5 (by omega)⟩;obtain⟨z,hz⟩:∃z,l[k-1]? = some z:=⟨_,Lz5 (by omega)⟩;have i1:xA (ocP l) (I6 (k:Int))=some k:=zhk (by omega);have es:zwJ .sub (I6 (k:Int)) (I6 1)=some (I6 ((k-1:Nat):Int)):=by
   rw[show ((k-1:Nat):Int)=(k:Int)-1 by omega];exact zfj
  have i2:xA (ocP l) (I6 ((k-1:Nat):Int))=some (k-1):=zhk (by omega);have ea:zwJ .add (I6 (k:Int)) (I6 1)=some (I6 ((k+1:Nat):Int)):=yJ;have eq:=zab x z;have hb:∀i y:Nat,i≤y→zxb (some (I6 (i:Int))) 0 y=some i:=fun i y h=>by
   show (bif Nat.ble i y then some i else none)=_;rw[Yzm h];rfl
  have hb2:∀i y:Nat,i≤y→zxb (some (I6 (i:Int))) y y=some i:=fun i y h=>by
   show (bif Nat.ble i y then some i else none)=_;rw[Yzm h];rfl
  have vw:∀i:Nat,i<n→vwB (some (I6 (i:Int))) none n=some (i,n-i):=fun i h=>by
   unfold vwB;rw[zp3];simp only[hb i n (by omega)];have:(Nat.beq i n)=false:=by
    cases hq:Nat.beq i n with
    |false=>rfl
    |true=>have:=Lz1 hq;omega
   rw[this];simp
  have vt:∀i:Nat,i≤n→vwB none (some (I6 (i:Int))) n=some (0,i-0):=fun i h=>by
   unfold vwB;rw[hb2 i n h];rfl
  by_cases hc:x=z
  ·subst hc;have h7:Kept l (l.take k) (k+1):=by
    have h3':=h3;rw[show k=(k-1)+1 by omega]at h3';have:=h3'.same hz (by rw[show k-1+1=k by omega];exact hx)
    rwa [show k-1+1=k by omega,show k-1+2=k+1 by omega]at this
   have hlen:(l.take k).length=k:=by simp;omega
   obtain⟨w',acc',c1,c2,c3,c4,c5⟩:=zzO l n k hn hs hn2 h2 (by omega) (n-k-1) 1 l (l.take k) (by omega) (by omega) (by omega) hn (by rw[hlen]) (fun _ _=>rfl) h7;rw[hlen]at c1;refine⟨acc',.inr (zy ?_),c5⟩;have hcl:zyk (ocP w') acc'.length (n-acc'.length) [I6 0,I6 0]=some ((w'.map zwN).take acc'.length++List.replicate (n-acc'.length) [I6 0,I6 0]++(w'.map zwN).drop (acc'.length+(n-acc'.length))):=rfl;have hcn:((w'.map zwN).take acc'.length++List.replicate (n-acc'.length) [I6 0,I6 0]++(w'.map zwN).drop (acc'.length+(n-acc'.length))).length=n:=by simp;omega
   simp only[kR,zt,zZ,zdz,wq,zi,zb,zl,if_true,i1,zdo hx,es,i2,zdo hz,zwN,y3,xJ,eq,decide_true,hn,vw k (by omega)];rw[show (I6 1:DV)=I6 ((1:Nat):Int) from rfl,c1];simp only[z8,zt,zZ,zdz,c2,vw acc'.length c4,zb,hcl,zmZ,hcn,vt acc'.length (by omega)];rw[zwZ (show k<n by omega),Yzd rfl];show some ((Zh.ret,[zhg 2 0 (acc'.length-0) (.lst 2 _)],[]):PX)=_;rw[Nat.sub_zero];show some ((Zh.ret,[DV.lst 2 ((List.drop 0 _).take acc'.length)],[]):PX)=_;rw[YyM,Yzs,Yyq (by simp;omega),List.take_take,Nat.min_self,←List.map_take,c3]
  ·have hne:decide (x=z)=false:=decide_eq_false hc;have body:kR [I6 (k:Int)] [ocP l]=some (.normal,[I6 ((k+1:Nat):Int)],[ocP l]):=by
    simp only[kR,zt,zZ,zdz,wq,zi,zb,zwZ (show k<l.length by omega),zl,if_true,i1,zdo hx,es,i2,zdo hz,zwN,y3,xJ,eq,hne,Yzh,if_false,ea]
   rw[zD body];refine zAv l n hn hs hn2 m (k+1) (by omega) (by omega) ?_;have h3':=h3;rw[show k=(k-1)+1 by omega]at h3';have:=h3'.next hs hz (by rw[show k-1+1=k by omega];exact hx) hc
   rw[show k-1+1=k by omega,show k-1+2=k+1 by omega]at this
   rwa [show l.take (k+1)=l.take k++[x] by rw[Yyy,hx];rfl]
def zle:Seg:=⟨0,0,none⟩
def uZ(key:Int)(g:Seg):Bool:=decide (g.lo≤key)&&decide (key≤g.hi)
def zan(s:Zr)(key:Int):Seg:=(s.segs.els.find? (uZ key)).getD zle
theorem zdJ{α:Type}(p:α→Bool):∀(l:List α) (i:Nat),(xc p l i=none∧l.find? p=none)∨∃j g,xc p l i=some (i+j)∧l[j]? = some g∧l.find? p=some g
 | [],_=>.inl ⟨rfl,rfl⟩
 |x::l,i=>by
  unfold xc;cases h:p x with
  |true=>exact .inr ⟨0,x,by simp,rfl,by simp[h]⟩
  |false=>
   rcases zdJ p l (i+1) with⟨a,b⟩|⟨j,g,a,b,c⟩
   ·exact .inl ⟨by simpa using a,by simp[h,b]⟩
   ·exact .inr ⟨j+1,g,by simp only[Yzh,if_false,a];congr 1;omega,by simpa using b,by simp[h,c]⟩
theorem t119(k:Nat)(g:Seg)(key:Int):D (k+1) 119 [SA (enS g),S1 (.fp [I6 key] 0)]=some (S1 (Bo (uZ key g))):=by
 unfold enS;rw[zCi];unfold zz0 uZ;by_cases h1:g.lo≤key<;>by_cases h2:key≤g.hi<;>simp[h1,h2]
theorem zBz(k:Nat)(l:Sl Seg)(key:Int)(hl:l.els.length≤9223372036854775807):∀(r:List Seg) (i:Nat),l.els.drop i=r→
  zL (zgS (D (k+1)) (I6 (l.els.length:Int)) (enL 3 enS l) (.fn 119 [[I6 key]])) [I6 (i:Int)] []=some (found (xc (uZ key) r i)):=by
 intro r
 induction r with
 |nil=>
  intro i h;refine zr ?_;simp only[zgS,zt,zi,zb,xh (zN h),zl];rfl
 |cons g r ih=>
  intro i h;have h1:=yq h;have ea:zwJ .add (I6 (i:Int)) (I6 1)=some (I6 ((i+1:Nat):Int)):=yJ;have c:zxi (D (k+1)) (.fn 119 [[I6 key]]) [SA [atD (enS g) 0,atD (enS g) 1,atD (enS g) 2]]=some (S1 (Bo (uZ key g))):=t119 k g key;have body:zgS (D (k+1)) (I6 (l.els.length:Int)) (enL 3 enS l) (.fn 119 [[I6 key]]) [I6 (i:Int)] []=some (if uZ key g then(.ret,[I6 (i:Int)],[]) else(.normal,[I6 ((i+1:Nat):Int)],[])):=by
   simp only[zgS,zt,zi,zb,zwZ h1,zl,if_true,zV h,c,zW,ea];cases uZ key g<;>rfl
  cases hc:uZ key g with
  |true=>rw[hc]at body;rw[zy body];simp[xc,hc,found]
  |false=>rw[hc]at body;rw[zD body,ih (i+1) (zA h)];simp[xc,hc]
theorem t118(k:Nat)(l:Sl Seg)(key:Int)(hl:l.els.length≤9223372036854775807):D (k+2) 118 [S1 (enL 3 enS l),S1 (.fn 119 [[I6 key]])]=some (S1 (I6 (match xc (uZ key) l.els 0 with|some i=>(i:Int)|none=>-1))):=by
 rw[zCj];unfold zz1;have:=zBz k l key hl l.els 0 rfl;simp only[zF,zb];rw[show (I6 0:DV)=I6 ((0:Nat):Int) from rfl,this];cases xc (uZ key) l.els 0<;>rfl
theorem t94(k:Nat)(s:Zr)(hs:s.ok)(key:Int):D (k+3) 94 [SA (xz s),S1 (I6 key)]=some (SA (enS (zan s key))):=by
 have c:=t118 k s.segs key hs.len;unfold xz;rw[D94];unfold P94 zan;rw[c];rcases zdJ (uZ key) s.segs.els 0 with⟨a,b⟩|⟨j,g,a,b,d⟩
 ·rw[a,b];rfl
 ·rw[a,d];have h0:¬(((0+j:Nat):Int)<0):=by omega
  have ix:zwP 3 (enL 3 enS s.segs) (I6 ((0+j:Nat):Int))=some (enS g):=by rw[Yze,yA,b];rfl
  simp only[zh9,zi,h0,decide_false,zb,zl,Yzh,if_false,ix];rfl
def numOf(r:Zj)(d:Zq)(key:Int):Int:=wv .i64 (wv .i64 (key+d.shift)-r.first)
def zfI(rs:List Zj)(key:Int)(d:Zq):Option Zg:=
 if d.rank<0 then none else
 match rs[d.rank.toNat]? with
 |none=>none
 |some r=>if 0≤numOf r d key∧numOf r d key<(r.wind.els.length:Int) then some ⟨d.rank,numOf r d key⟩ else none
theorem t95(k:Nat)(rs:Sl Zj)(key:Int)(d:Zq):∃q b,D (k+1) 95 [S1 (enL 6 enR rs),SA [I6 d.rank,I6 d.shift],S1 (I6 key)]=some (.tup [.agg (zwN q),.one (Bo b)])∧zfI rs.els key d=if b then some q else none:=by
 rw[D95];unfold P95 zfI;simp only[zi,zb,zl,zF,wG,Yzn];by_cases h1:d.rank<0
 ·rw[Yzd h1,Yzd h1];exact⟨⟨0,0⟩,false,rfl,rfl⟩
 rw[Yzb h1,Yzb h1];obtain⟨m,hm⟩:∃m:Nat,d.rank=(m:Int):=⟨d.rank.toNat,by omega⟩;rw[hm];by_cases h2:(rs.els.length:Int)≤(m:Int)
 ·rw[Yzd h2,Yyi,Yyb (by omega)];exact⟨⟨0,0⟩,false,rfl,rfl⟩
 rw[Yzb h2,Yyi];obtain⟨r,hr⟩:∃r,rs.els[m]? = some r:=⟨_,Lz5 (by omega)⟩;have ix:zwP 6 (enL 6 enR rs) (I6 (m:Int))=some (enR r):=by rw[yA,hr];rfl
 rw[hr];simp only[ziQ,ix,zb,enR,xJ,y3,zeu,wG,zl,zF,zi];show ∃q b,(if decide (0≤numOf r d key)=true then some (DA.tup [.agg [I6 (m:Int),I6 (numOf r d key)],.one (Bo (decide (numOf r d key<(r.wind.els.length:Int))))]) else some (DA.tup [.agg [I6 (m:Int),I6 (numOf r d key)],.one (Bo false)]))=_∧_;by_cases h3:0≤numOf r d key
 ·by_cases h4:numOf r d key<(r.wind.els.length:Int)
  ·exact⟨⟨m,numOf r d key⟩,true,by simp[h3,h4,zwN],by simp[h3,h4]⟩
  ·exact⟨⟨m,numOf r d key⟩,false,by simp[h3,h4,zwN],by simp[h4]⟩
 ·exact⟨⟨m,numOf r d key⟩,false,by simp[h3,zwN],by simp[h3]⟩
theorem zBt(k:Nat)(rs:Sl Zj)(key:Int)(ds:Sl Zq)(g0:List DV)(hg:atD g0 2=enL 2 enD ds):∀(r:List Zq) (i:Nat) (v:Sl Zg),ds.els.drop i=r→v.els.length+r.length≤1000→i+r.length≤1000→
  ∃v':Sl Zg,zL (zoa (D (k+1)) (I6 (ds.els.length:Int)) g0 (enL 6 enR rs) (I6 key)) [I6 (i:Int)] [ocL zwN v]=some (.exit 0,[],[ocL zwN v'])∧v'.els=v.els++r.filterMap (zfI rs.els key):=by
 intro r
 induction r with
 |nil=>
  intro i v h _ _;refine⟨v,zr ?_,by simp⟩;simp only[zoa,zt,zZ,zi,zb,xh (zN h),zl];rfl
 |cons d r ih=>
  intro i v h hv hi;have h1:=yq h;simp only[Yzk]at hv hi;have ea:zwJ .add (I6 (i:Int)) (I6 1)=some (I6 ((i+1:Nat):Int)):=yJ;obtain⟨q,b,c,hp⟩:=t95 k rs key d;have ix:zwP 2 (enL 2 enD ds) (I6 (i:Int))=some (enD d):=zV h _;have ef:fits 16 (v.els.length+1)=true:=wg (by decide) (by omega);have body:zoa (D (k+1)) (I6 (ds.els.length:Int)) g0 (enL 6 enR rs) (I6 key) [I6 (i:Int)] [ocL zwN v]=some (.normal,[I6 ((i+1:Nat):Int)],[ocL zwN (if b then some (v.els++[q]) else v)]):=by
   simp only[zoa,zt,zZ,zi,zb,zwZ h1,zl,if_true,hg,ix,enD,y3,xJ,c];rw[zwC (by rfl)];simp only[zdP,zqO,zaF,zsQ,zwN,y3,xJ,y5,ef,we,ea,zb,yO,zl];cases b with
   |true=>simp only[if_true];rw[←wJ];rfl
   |false=>rfl
  rw[zD body];cases b with
  |true=>
   obtain⟨v',e1,e2⟩:=ih (i+1) (some (v.els++[q])) (zA h) (by simp;omega) (by omega);refine⟨v',e1,?_⟩;rw[e2,Yz9,hp];simp
  |false=>
   obtain⟨v',e1,e2⟩:=ih (i+1) v (zA h) (by omega) (by omega);refine⟨v',e1,?_⟩;rw[e2,Yz9,hp];simp
def zaq(rs:List Zj)(key:Int)(ds:List Zq):List Zg:=ds.filterMap (zfI rs key)
theorem zpA{l acc:List Zg}{n:Nat}(hn:l.length=n)(H:Kept l acc n):acc.Pairwise ltP∧∀y,y∈acc↔y∈l:=⟨H.1,fun y=>by rw[H.2,Yyu (by omega)]⟩
theorem zb9:∀{l m:List Zg},l.Pairwise ltP→(∀z∈l,z∈m)→l.length≤m.length
 | [],m,_,_=>YzC _
 |x::l,m,h,H=>by
  have h':=List.pairwise_cons.1 h;obtain⟨a,b,rfl⟩:=List.append_of_mem (H x (Yzi ..));have:=zb9 (l:=l) (m:=a++b) h'.2 fun z hz=>by
   have hm:=H z (Yzf _ hz);rcases Yys.1 hm with hm|hm
   ·exact Yzx _ hm
   ·rcases YzO.1 hm with rfl|hm
    ·exact absurd (h'.1 z hz) lt_irrefl
    ·exact YzF _ hm
  simp only[Yzz,Yzk]at this ⊢;omega
def zyp(p:Zg):List Int:=[p.rank,p.num]
def leB(a b:Zg):Bool:=leZ (zyp a) (zyp b)
theorem zaz{a b:Zg}:leB a b=true↔leP a b:=by
 unfold leB leZ zyp leP;simp only[ltZ];by_cases h1:b.rank<a.rank
 ·simp[h1];omega
 ·by_cases h2:a.rank<b.rank
  ·simp[h1,h2]
  ·by_cases h3:b.num<a.num
   ·simp[h1,h2,h3]
   ·have:a.rank=b.rank:=by omega
    simp[h3,this];omega
theorem zlT:∀l:List Zg,zhc 2 (l.map zwN)=some (l.map zyp)
 | []=>rfl
 |p::l=>by
  have e:zsD (zwN p)=some (zyp p):=rfl;simp only[Yzp,zhc,e,zlT l];rfl
def jf(l:List Zg):List Zg:=l.mergeSort leB
theorem zkg(l:List Zg):(jf l).Perm l:=List.mergeSort_perm l leB
theorem zfs(l:List Zg):(jf l).Pairwise leP:=by
 have h:=List.pairwise_mergeSort (le:=leB) (fun a b c h1 h2=>zaz.2 (zm3 (zaz.1 h1) (zaz.1 h2))) (fun a b=>by
  cases h:leB a b with
  |true=>rfl
  |false=>
   rw[Yym];refine zaz.2 (zvV ?_);have:¬leP a b:=fun hh=>by rw[zaz.2 hh]at h;cases h
   unfold leP at this;unfold ltP;omega) l
 exact h.imp fun h=>zaz.1 h
theorem ztl{l:List Zg}(h:l.length≤100000):zyx 2 (ocP l)=some (ocP (jf l)):=by
 have e:ocP l=some (l.map zwN):=rfl;rw[e];unfold zyx;simp only[zlT];have hb:Nat.ble ((l.map zyp).length+1) 4611686018427387904=true:=Yzm (by rw[Yzj];omega);rw[hb,Yza];have:(kV (l.map zyp)).map enZ=(jf l).map zwN:=by
  unfold kV jf;rw[←List.map_mergeSort (r:=leB) (f:=zyp) (fun a _ b _=>rfl),YyD];rfl
 rw[this];rfl
theorem ziu(v:Sl Zg)(hl:v.els.length≤1000):∃(w:OC) (r:Sl Zg),zyx 2 (ocL zwN v)=some w∧r.els.Pairwise ltP∧(∀y,y∈r.els↔y∈v.els)∧
  ((zwW w<2∧mkL 2 w=enL 2 zwN r)∨(¬zwW w<2∧(zL kR [I6 1] [w]=some (.exit 0,[],[ocL zwN r])∨zL kR [I6 1] [w]=some (.ret,[enL 2 zwN r],[])))):=by
 cases v with
 |none=>exact⟨none,none,rfl,.nil,fun y=>Iff.rfl,.inl ⟨by decide,rfl⟩⟩
 |some q=>
  rw[yC]at hl;have hp:=zkg q;have hs:=zfs q;have hlen:(jf q).length=q.length:=hp.length_eq;have e:=ztl (l:=q) (by omega);by_cases h2:(jf q).length<2
  ·refine⟨ocP (jf q),some (jf q),e,?_,fun y=>hp.mem_iff,.inl ⟨by rw[zdz];exact h2,wB _⟩⟩;rw[yC];generalize jf q=l at h2;cases l with
   |nil=>exact .nil
   |cons x l=>cases l with
    |nil=>exact List.pairwise_singleton ..
    |cons y l=>simp only[Yzk]at h2;omega
  ·have k1:Kept (jf q) ((jf q).take 1) 1:=⟨by
    generalize jf q=l;cases l with
    |nil=>exact .nil
    |cons x l=>exact List.pairwise_singleton ..,fun y=>Iff.rfl⟩
   obtain⟨acc,ha,hk⟩:=zAv (jf q) (jf q).length rfl hs (by omega) ((jf q).length-1) 1 (by omega) (by omega) k1;have hk':=zpA rfl hk;refine⟨ocP (jf q),some acc,e,hk'.1,fun y=>(hk'.2 y).trans hp.mem_iff,.inr ⟨by rw[zdz];exact h2,?_⟩⟩;rcases ha with ha|ha
   ·exact .inl ha
   ·exact .inr ha
theorem t71(k:Nat)(rs:Sl Zj)(s:Zr)(hs:s.ok)(key:Int)(hd:(zan s key).draws.els.length≤900):
  ∃v:Sl Zg,D (k+4) 71 [S1 (enL 6 enR rs),SA (xz s),S1 (I6 key)]=some (S1 (enL 2 zwN v))∧v.els.Pairwise ltP∧∀y,y∈v.els↔y∈zaq rs.els key (zan s key).draws.els:=by
 have c:=t94 k s hs key;unfold xz at c ⊢;rw[D71];unfold P71;rw[c];generalize hg:(zan s key).draws=ds at hd ⊢;have hg2:atD (enS (zan s key)) 2=enL 2 enD ds:=by rw[←hg];rfl
 rw[zuX (show (enS (zan s key)).length=3 from rfl)];simp only[hg2,zF,zb];obtain⟨v,e1,e2⟩:=zBt (k+2) rs key ds _ hg2 ds.els 0 none rfl (by simp;omega) (by omega);rw[show (I6 0:DV)=I6 ((0:Nat):Int) from rfl,show (none:OC)=ocL zwN none from rfl,e1];have hl:v.els.length≤900:=by
  rw[e2];simp only[ze1,YzI];exact YzA (List.length_filterMap_le _ _) hd
 have hmem:∀y,y∈v.els↔y∈zaq rs.els key ds.els:=fun y=>by rw[e2];simp[zaq]
 obtain⟨w,r,f1,f2,f3,f4⟩:=ziu v (by omega);refine⟨r,?_,f2,fun y=>(f3 y).trans (hmem y)⟩;simp only[z8,zZ,Yzu,Yza,f1,zb,wq,zi,zl,Yzn];rcases f4 with⟨q1,q2⟩|⟨q1,q2⟩
 ·have:((zwW w:Nat):Int)<2:=by omega
  rw[Yzd this,q2]
 ·have:¬((zwW w:Nat):Int)<2:=by omega
  rw[Yzb this];rcases q2 with q2|q2
  ·rw[q2];simp only[z8,Yzu,Yza,zZ,wB]
  ·rw[q2];simp only[jD,zt]
end Go.Proofs.Tryz.Kn
end
section
namespace Go.Proofs.Tryz.Kn
open Go Go.CE Go.PE
abbrev zwT:=Zg
theorem l81(d:Zg)(l:Sl Zg)(hl:l.els.length≤9223372036854775807):∀(r:List Zg) (i:Nat),l.els.drop i=r→
  zL (zlc (I6 (l.els.length:Int)) (enL 2 zwN l) (I6 d.rank) (I6 d.num)) [I6 (i:Int)] []=some (found (xc (fun x=>decide (d=x)) r i)):=by
 intro r
 induction r with
 |nil=>
  intro i h;refine zr ?_;simp only[zlc,zt,zi,zb,xh (zN h),zl];rfl
 |cons x r ih=>
  intro i h;have h1:=yq h;have ea:zwJ .add (I6 (i:Int)) (I6 1)=some (I6 ((i+1:Nat):Int)):=yJ;have eq:=zab d x;have body:zlc (I6 (l.els.length:Int)) (enL 2 zwN l) (I6 d.rank) (I6 d.num) [I6 (i:Int)] []=some (if d=x then(.ret,[I6 (i:Int)],[]) else(.normal,[I6 ((i+1:Nat):Int)],[])):=by
   simp only[zlc,zt,zi,zb,zwZ h1,zl,if_true,zV h,zwN,y3,xJ,eq,ea];by_cases hz:d=x<;>simp[hz]
  by_cases hc:d=x
  ·rw[Yzd hc]at body;rw[zy body];simp[xc,hc,found]
  ·rw[Yzb hc]at body;rw[zD body,ih (i+1) (zA h)];simp[xc,hc]
theorem t81(k:Nat)(d:Zg)(l:Sl Zg)(hl:l.els.length≤9223372036854775807):D (k+1) 81 [S1 (enL 2 zwN l),SA [I6 d.rank,I6 d.num]]=some (S1 (I6 (match xc (fun x=>decide (d=x)) l.els 0 with|some i=>(i:Int)|none=>-1))):=by
 rw[D81];unfold P81;have:=l81 d l hl l.els 0 rfl;simp only[zF,zb];rw[show (I6 0:DV)=I6 ((0:Nat):Int) from rfl,this];cases xc (fun x=>decide (d=x)) l.els 0<;>rfl
theorem zjS(d:Zg)(l:List Zg):(l.any fun x=>decide (d=x))=decide (d∈l):=by
 by_cases h:d∈l
 ·rw[decide_eq_true h,List.any_eq_true];exact⟨d,h,by simp⟩
 ·rw[decide_eq_false h,Yyz];exact fun x hx=>by simpa using fun e:d=x=>h (e▸hx)
theorem t53(k:Nat)(d:Zg)(l:Sl Zg)(hl:l.els.length≤9223372036854775807):D (k+2) 53 [S1 (enL 2 zwN l),SA [I6 d.rank,I6 d.num]]=some (S1 (Bo (decide (d∈l.els)))):=by
 have:=t81 k d l hl;rw[D53];unfold P53;rw[this,←zjS,←xH (fun x=>decide (d=x)) l.els 0];cases xc (fun x=>decide (d=x)) l.els 0 with
 |none=>rfl
 |some i=>
  have:(0:Int)≤(i:Int):=by omega
  simp[this]
theorem t121(k:Nat)(d:zwT)(l:Sl zwT)(hl:l.els.length≤9223372036854775807):D (k+1) 121 [S1 (enL 2 zwN l),SA [I6 d.rank,I6 d.num]]=some (S1 (I6 (match xc (fun x=>decide (d=x)) l.els 0 with|some i=>(i:Int)|none=>-1))):=by
 rw[zCh];unfold zzY;have:=l81 d l hl l.els 0 rfl;simp only[zF,zb];rw[show (I6 0:DV)=I6 ((0:Nat):Int) from rfl,show zqX=zlc from rfl,this];cases xc (fun x=>decide (d=x)) l.els 0<;>rfl
theorem t98(k:Nat)(d:zwT)(l:Sl zwT)(hl:l.els.length≤9223372036854775807):D (k+2) 98 [S1 (enL 2 zwN l),SA [I6 d.rank,I6 d.num]]=some (S1 (Bo (decide (d∈l.els)))):=by
 have:=t121 k d l hl;rw[D98];unfold P98;rw[this,←zjS,←xH (fun x=>decide (d=x)) l.els 0];cases xc (fun x=>decide (d=x)) l.els 0 with
 |none=>rfl
 |some i=>
  have:(0:Int)≤(i:Int):=by omega
  simp[this]
theorem zCa(a:Int):zxl a 1=0∨zxl a 1=1:=by
 unfold zxl;have h:(BitVec.ofInt IntKind.u64.bits a &&& BitVec.ofInt IntKind.u64.bits 1).toNat=(BitVec.ofInt IntKind.u64.bits a).toNat % 2:=by
  rw[BitVec.toNat_and,show (BitVec.ofInt IntKind.u64.bits 1).toNat=1 from rfl,Nat.and_one_is_mod]
 rw[h];have:(BitVec.ofInt IntKind.u64.bits a).toNat % 2=0∨(BitVec.ofInt IntKind.u64.bits a).toNat % 2=1:=by omega
 rcases this with e|e<;>rw[e]
 ·exact .inl rfl
 ·exact .inr rfl
theorem zsV(a:Int)(i:Nat):(zxl (zxG a i) 1==0)=!bit a i:=by
 unfold bit;rcases zCa (zxG a i) with e|e<;>rw[e]<;>rfl
structure Fit (o:Org) (r:Reg):Prop where
 dl:o.divs.els.length≤3
 cl:o.cpls.els.length≤3
 sl:∀d∈o.divs.els,d.stops.els.length≤3
 rng:∀d∈o.divs.els,0≤d.low∧d.low≤d.high∧d.high≤d.low+8∧d.high≤127
 dst:∀x∈o.cpls.els,0≤x.dst∧x.dst<(o.divs.els.length:Int)
 shf:∀x∈o.cpls.els,-1000≤x.shift∧x.shift≤1000
 stp:∀d∈o.divs.els,∀s∈d.stops.els,s.ok∧∀key,(zan s key).draws.els.length≤2
 rl:r.stops.els.length=o.divs.els.length
def inR(o:Org)(c:zwT):Bool:=
 match c.rank with
 | .ofNat n=>(match o.divs.els[n]? with|some d=>decide (d.low≤c.num)&&decide (c.num≤d.high)|none=>false)
 |_=>false
theorem ud{o:Org}{c:zwT}:inR o c=true↔∃(n:Nat) (d:Zn),c.rank=(n:Int)∧o.divs.els[n]? = some d∧d.low≤c.num∧c.num≤d.high:=by
 unfold inR
 constructor
 ·intro h;split at h
  ·rename_i n hn;split at h
   ·rename_i d hd;simp only[LzC,Yzn]at h;exact⟨n,d,hn,hd,h.1,h.2⟩
   ·cases h
  ·cases h
 ·rintro⟨n,d,h1,h2,h3,h4⟩
  rw[h1];show (match o.divs.els[n]? with|some d=>decide (d.low≤c.num)&&decide (c.num≤d.high)|none=>false)=true;rw[h2];simp[h3,h4]
def dest(c:zwT)(x:Cpl):zwT:=⟨x.dst,c.num+x.shift⟩
def goes(o:Org)(r:Reg)(c:zwT)(thr:Bool)(i:Nat)(x:Cpl):Bool:=bit r.cpls i&&(x.src==c.rank)&&(!thr||x.thr)&&inR o (dest c x)
def push(q:List zwT)(c:zwT):List zwT:=if c∈q then q else q++[c]
def uj(o:Org)(r:Reg)(c:zwT)(thr:Bool):Nat→List Cpl→List zwT→List zwT
 |_,[],q=>q
 |i,x::l,q=>uj o r c thr (i+1) l (if goes o r c thr i x=true then push q (dest c x) else q)
theorem ziI(q:List zwT)(c:zwT):(push q c).length≤q.length+1:=by
 unfold push;split<;>simp
theorem qE{q:List zwT}{c y:zwT}:y∈push q c↔y∈q∨y=c:=by
 unfold push;split
 ·rename_i h;exact⟨.inl,fun h'=>h'.elim id fun e=>e▸h⟩
 ·simp
theorem zdi{q:List zwT}{c:zwT}(h:q.Nodup):(push q c).Nodup:=by
 unfold push;split
 ·exact h
 ·rename_i hq;refine List.nodup_append.2 ⟨h,by simp,fun a ha b hb=>?_⟩;rw[YzB]at hb;subst hb;exact fun e=>hq (e▸ha)
theorem zoX{q:List zwT}{c:zwT}{j:Nat}{y:zwT}(h:q[j]? = some y):(push q c)[j]? = some y:=by
 unfold push;split
 ·exact h
 ·rw[Lz2 (Lz0.1 h).1];exact h
theorem zkd(o:Org)(r:Reg)(c:zwT)(thr:Bool):∀(l:List Cpl) (i:Nat) (q:List zwT),(uj o r c thr i l q).length≤q.length+l.length
 | [],_,q=>LzB _
 |x::l,i,q=>by
  have:=zkd o r c thr l (i+1) (if goes o r c thr i x=true then push q (dest c x) else q);have h2:(if goes o r c thr i x=true then push q (dest c x) else q).length≤q.length+1:=by
   split
   ·exact ziI _ _
   ·omega
  simp only[uj,Yzk];omega
theorem je(o:Org)(r:Reg)(c:zwT)(thr:Bool):∀(l:List Cpl) (i:Nat) (q:List zwT),q.Nodup→(uj o r c thr i l q).Nodup
 | [],_,_,h=>h
 |x::l,i,q,h=>by
  refine je o r c thr l (i+1) _ ?_;split
  ·exact zdi h
  ·exact h
theorem jZ(o:Org)(r:Reg)(c:zwT)(thr:Bool){j:Nat}{y:zwT}:∀(l:List Cpl) (i:Nat) (q:List zwT),q[j]? = some y→(uj o r c thr i l q)[j]? = some y
 | [],_,_,h=>h
 |x::l,i,q,h=>by
  refine jZ o r c thr l (i+1) _ ?_;split
  ·exact zoX h
  ·exact h
theorem wz(o:Org)(r:Reg)(c:zwT)(thr:Bool){y:zwT}:∀(l:List Cpl) (i:Nat) (q:List zwT),y∈uj o r c thr i l q↔y∈q∨∃(j:Nat) (x:Cpl),l[j]? = some x∧goes o r c thr (i+j) x=true∧y=dest c x
 | [],i,q=>by simp[uj]
 |x::l,i,q=>by
  rw[uj,wz o r c thr l (i+1)]
  constructor
  ·rintro (h|⟨j,z,h1,h2,h3⟩)
   ·split at h
    ·rename_i hg;rcases qE.1 h with h|h
     ·exact .inl h
     ·exact .inr ⟨0,x,rfl,hg,h⟩
    ·exact .inl h
   ·exact .inr ⟨j+1,z,by simpa using h1,by rw[show i+(j+1)=i+1+j by omega];exact h2,h3⟩
  ·rintro (h|⟨j,z,h1,h2,h3⟩)
   ·refine .inl ?_;split
    ·exact qE.2 (.inl h)
    ·exact h
   ·cases j with
    |zero=>
     simp only[Yzg,Option.some.injEq]at h1;subst h1;rw[Yzw]at h2;refine .inl ?_;rw[Yzd h2];exact qE.2 (.inr h3)
    |succ j=>exact .inr ⟨j,z,by simpa using h1,by rw[show i+1+j=i+(j+1) by omega];exact h2,h3⟩
section
variable {o:Org} {r:Reg} (F:Fit o r)
include F
theorem znX{G:List DV→List OC→Option PX}{thr:Bool}(k:Nat)(c:zwT)(hc:-100000≤c.num∧c.num≤100000)(q:List zwT)(hq:q.length≤1000)(i:Nat)(x:Cpl)(hx:o.cpls.els[i]? = some x)
  (hG:G=if thr=true then zgB (D (k+2)) (I6 (o.cpls.els.length:Int)) (enL 5 enC o.cpls) (U64 r.cpls) [I6 c.rank,I6 c.num] (enL 5 enV o.divs) else zn9 (D (k+2)) (I6 (o.cpls.els.length:Int)) (enL 5 enC o.cpls) (U64 r.cpls) (I6 c.rank) (I6 c.num) (enL 5 enV o.divs)):
  G [I6 (i:Int)] [ocL zwN (grow q)]=some (.normal,[I6 ((i+1:Nat):Int)],[ocL zwN (grow (if goes o r c thr i x=true then push q (dest c x) else q))]):=by
 have hi:=(Lz0.1 hx).1;have hm:=Lz3 hx;have hcl:=F.cl;have ea:zwJ .add (I6 (i:Int)) (I6 1)=some (I6 ((i+1:Nat):Int)):=yJ;have ix:zwP 5 (enL 5 enC o.cpls) (I6 (i:Int))=some (enC x):=by rw[yA,hx];rfl
 obtain⟨d1,d2⟩:=F.dst x hm;obtain⟨s1,s2⟩:=F.shf x hm;obtain⟨n,hn⟩:∃n:Nat,x.dst=(n:Int):=⟨x.dst.toNat,by omega⟩;obtain⟨d,hd⟩:∃d,o.divs.els[n]? = some d:=⟨_,Lz5 (by omega)⟩;have iv:zwP 5 (enL 5 enV o.divs) (I6 x.dst)=some (enV d):=by rw[hn,yA,hd];rfl
 have ek:zwJ .add (I6 c.num) (I6 x.shift)=some (I6 (c.num+x.shift)):=yJ;have ct:=t98 k (dest c x) (grow q) (by rw[zG];omega);rw[zG]at ct;have ef:fits 16 ((grow q).els.length+1)=true:=wg (by decide) (by rw[zG];omega);have hin:inR o (dest c x)=(decide (d.low≤c.num+x.shift)&&decide (c.num+x.shift≤d.high)):=by
  unfold inR dest;rw[hn];show (match o.divs.els[n]? with|some d=>_|none=>false)=_;rw[hd]
 have hdest:(dest c x).rank=x.dst∧(dest c x).num=c.num+x.shift:=⟨rfl,rfl⟩;rw[hdest.1,hdest.2]at ct;have hp:(some ((grow q).els.map zwN++[[I6 x.dst,I6 (c.num+x.shift)]]):OC)=ocL zwN (grow (q++[dest c x])):=by rw[xG,←wJ];rfl
 unfold goes;rw[hin];cases thr with
 |false=>
  rw[hG];simp only[Yzh,if_false,zn9,zt,zZ,zi,zb,zwZ hi,zl,if_true,ix,zyA,uL,zy6,zsV,enC,y3,xJ,Bool.not_false,Bool.true_or,YyH];cases hb:bit r.cpls i with
  |false=>simp[ea]
  |true=>
   simp only[YzG,Yzh,if_false,ya,zb,zl,Yye];cases hs:(x.src==c.rank) with
   |false=>simp[ea]
   |true=>
    simp only[YzG,Yzh,if_false,ek,zb,iv,enV,y3,xJ,wG,zl,Yzn,Yye];by_cases h1:d.low≤c.num+x.shift
    ·by_cases h2:c.num+x.shift≤d.high
     ·simp only[h1,h2,if_true,wF,zb,zl,decide_true,wB,ct,b1s,zfA,Yza,yI,y5,yO,ef,we,ea,hp,push,YyA];by_cases h3:dest c x∈q<;>simp[h3]
     ·simp[h1,h2,ea]
    ·simp[h1,ea]
 |true=>
  rw[hG];simp only[if_true,zgB,zt,zZ,zi,zb,zwZ hi,zl,ix,zyA,uL,zy6,zsV,enC,y3,xJ,YzG,Yym];cases hb:bit r.cpls i with
  |false=>simp[ea]
  |true=>
   simp only[YzG,Yzh,if_false,ya,zb,zl,Yye];cases hs:(x.src==c.rank) with
   |false=>simp[ea]
   |true=>
    simp only[YzG,Yzh,if_false,yI,zb,zl,Yye];cases ht:x.thr with
    |false=>simp[ea]
    |true=>
     simp only[YzG,Yzh,if_false,ek,zb,iv,enV,y3,xJ,wG,zl,Yzn,Yye];by_cases h1:d.low≤c.num+x.shift
     ·by_cases h2:c.num+x.shift≤d.high
      ·simp only[h1,h2,if_true,wF,zb,zl,decide_true,wB,ct,b1s,zfA,Yza,yI,y5,yO,ef,we,ea,hp,push,YyA];by_cases h3:dest c x∈q<;>simp[h3]
      ·simp[h1,h2,ea]
     ·simp[h1,ea]
theorem zf1{G:List DV→List OC→Option PX}{thr:Bool}(k:Nat)(c:zwT)(hc:-100000≤c.num∧c.num≤100000)
  (hG:G=if thr=true then zgB (D (k+2)) (I6 (o.cpls.els.length:Int)) (enL 5 enC o.cpls) (U64 r.cpls) [I6 c.rank,I6 c.num] (enL 5 enV o.divs) else zn9 (D (k+2)) (I6 (o.cpls.els.length:Int)) (enL 5 enC o.cpls) (U64 r.cpls) (I6 c.rank) (I6 c.num) (enL 5 enV o.divs)):
  ∀(l:List Cpl) (i:Nat) (q:List zwT),o.cpls.els.drop i=l→q.length+l.length≤1000→zL G [I6 (i:Int)] [ocL zwN (grow q)]=some (.exit 0,[],[ocL zwN (grow (uj o r c thr i l q))]):=by
 intro l
 induction l with
 |nil=>
  intro i q h _;refine zr ?_;rw[hG];cases thr
  ·simp only[Yzh,if_false,zn9,zt,zZ,zi,zb,xh (zN h),zl];rfl
  ·simp only[if_true,zgB,zt,zZ,zi,zb,xh (zN h),zl];rfl
 |cons x l ih=>
  intro i q h hq;simp only[Yzk]at hq;rw[zD (znX F k c hc q (by omega) i x (zU h) hG)];refine ih (i+1) _ (zA h) ?_;split
  ·have:=ziI q (dest c x);omega
  ·omega
omit F in
theorem zjl{c:zwT}{thr:Bool}{i:Nat}{x:Cpl}(h:goes o r c thr i x=true):inR o (dest c x)=true:=by
 unfold goes at h;rw[LzC]at h;exact h.2
inductive Reach (o:Org) (r:Reg) (c:zwT):zwT→Prop
 |one (i:Nat) (x:Cpl):o.cpls.els[i]? = some x→goes o r c false i x=true→Reach o r c (dest c x)
 |more (y:zwT) (i:Nat) (x:Cpl):Reach o r c y→o.cpls.els[i]? = some x→goes o r y true i x=true→Reach o r c (dest y x)
omit F in
theorem Reach.inR{c y:zwT}(h:Reach o r c y):inR o y=true:=by
 cases h with
 |one i x _ h=>exact zjl h
 |more z i x _ _ h=>exact zjl h
def zhx(o:Org)(n:Nat):Int:=match o.divs.els[n]? with|some d=>d.low|none=>0
def code(o:Org)(c:zwT):Nat:=c.rank.toNat*9+(c.num-zhx o c.rank.toNat).toNat
theorem zsT{c:zwT}(h:inR o c=true):code o c<27:=by
 obtain⟨n,d,h1,h2,h3,h4⟩:=ud.1 h;have hn:=(Lz0.1 h2).1;have:=F.dl;have:=F.rng d (Lz3 h2);unfold code zhx;rw[h1,Yyi,h2];simp only;omega
theorem zpY{a b:zwT}(ha:inR o a=true)(hb:inR o b=true)(h:code o a=code o b):a=b:=by
 obtain⟨n,d,h1,h2,h3,h4⟩:=ud.1 ha;obtain⟨m,e,g1,g2,g3,g4⟩:=ud.1 hb;have r1:=F.rng d (Lz3 h2);have r2:=F.rng e (Lz3 g2);unfold code zhx at h;rw[h1,g1,Yyi,Yyi,h2,g2]at h;simp only at h;have hnm:n=m:=by omega
 subst hnm;rw[h2]at g2;cases g2;cases a with|mk ar an=>
 cases b with|mk br bn=>
 simp only at *;rw[h1,g1]
 congr 1
 omega
omit F in
theorem zi0:∀{l m:List Nat},l.Nodup→(∀z∈l,z∈m)→l.length≤m.length
 | [],m,_,_=>YzC _
 |x::l,m,h,H=>by
  have h':=List.nodup_cons.1 h;obtain⟨a,b,rfl⟩:=List.append_of_mem (H x (Yzi ..));have:=zi0 (l:=l) (m:=a++b) h'.2 fun z hz=>by
   have hm:=H z (Yzf _ hz);rcases Yys.1 hm with hm|hm
   ·exact Yzx _ hm
   ·rcases YzO.1 hm with rfl|hm
    ·exact absurd hz h'.1
    ·exact YzF _ hm
  simp only[Yzz,Yzk]at this ⊢;omega
theorem q9{q:List zwT}(hd:q.Nodup)(h:∀y∈q,inR o y=true):q.length≤27:=by
 have h1:(q.map (code o)).Nodup:=by
  induction q with
  |nil=>simp
  |cons y q ih=>
   have hc:=List.nodup_cons.1 hd;rw[Yzp,List.nodup_cons];refine⟨fun hm=>?_,ih hc.2 fun z hz=>h z (Yzf _ hz)⟩;obtain⟨z,hz,e⟩:=List.mem_map.1 hm;have:=zpY F (h z (Yzf _ hz)) (h y (Yzi ..)) e;subst this;exact hc.1 hz
 have:=zi0 h1 (m:=List.range 27) fun z hz=>by
  obtain⟨y,hy,rfl⟩:=List.mem_map.1 hz;exact List.mem_range.2 (zsT F (h y hy))
 simpa using this
theorem znh{c:zwT}(h:inR o c=true):-100000≤c.num∧c.num≤100000:=by
 obtain⟨n,d,h1,h2,h3,h4⟩:=ud.1 h;have:=F.rng d (Lz3 h2);omega
structure Que (o:Org) (r:Reg) (c:zwT) (q:List zwT) (i:Nat):Prop where
 nd:q.Nodup
 re:∀y∈q,Reach o r c y
 fst:∀(j:Nat) (x:Cpl),o.cpls.els[j]? = some x→goes o r c false j x=true→dest c x∈q
 cls:∀(m:Nat) (y:zwT),m<i→q[m]? = some y→∀(j:Nat) (x:Cpl),o.cpls.els[j]? = some x→goes o r y true j x=true→dest y x∈q
omit F in
theorem zrw{c:zwT}{q:List zwT}(H:Que o r c q q.length):∀y,y∈q↔Reach o r c y:=by
 refine fun y=>⟨H.re y,fun h=>?_⟩
 induction h with
 |one i x h1 h2=>exact H.fst i x h1 h2
 |more z i x _ h1 h2 ih=>
  obtain⟨m,hm⟩:=Yyk ih;exact H.cls m z (Lz0.1 hm).1 hm i x h1 h2
theorem zkJ(k:Nat)(c:zwT):∀(f i:Nat) (q:List zwT),Que o r c q i→i≤q.length→i+f=28→
    ∃q',zL (zgC (D (k+2)) (enL 5 enC o.cpls) (U64 r.cpls) (enL 5 enV o.divs)) [I6 (i:Int)] [ocL zwN (grow q)]=some (.exit 0,[],[ocL zwN (grow q')])∧Que o r c q' q'.length:=by
  intro f
  induction f with
  |zero=>
    intro i q H hi hf;have:=q9 F H.nd fun y hy=>(H.re y hy).inR;omega
  |succ f ih=>
    intro i q H hi hf;have hlen:=q9 F H.nd fun y hy=>(H.re y hy).inR;by_cases hlt:i<q.length
    · obtain⟨y,hy⟩:∃y,q[i]? = some y:=⟨_,Lz5 hlt⟩
      have hym:=H.re y (Lz3 hy);have hcl:=F.cl;have ls:=zf1 F (thr:=true) k y (znh F hym.inR) rfl o.cpls.els 0 q rfl (by omega);rw[Yzd rfl]at ls;have ea:zwJ .add (I6 (i:Int)) (I6 1)=some (I6 ((i+1:Nat):Int)):=yJ;have hg:(grow q).els.length=q.length:=by rw[zG]
      have i1:xA (ocL zwN (grow q)) (I6 (i:Int))=some i:=by
        cases q with
        |nil=>simp at hlt
        |cons a q=>exact j5 (by simpa using hlt)
      have i2:zw7 (ocL zwN (grow q)) i=some (zwN y):=by
        cases q with
        |nil=>simp at hlt
        |cons a q=>
          show ((a::q).map zwN)[i]? = _;rw[Lz6,hy];rfl
      have body:zgC (D (k+2)) (enL 5 enC o.cpls) (U64 r.cpls) (enL 5 enV o.divs) [I6 (i:Int)] [ocL zwN (grow q)]=some (.normal,[I6 ((i+1:Nat):Int)],[ocL zwN (grow (uj o r y true 0 o.cpls.els q))]):=by
        simp only[zgC,zt,zZ,y5,hg,wq,zi,zb,zwZ hlt,zl,if_true,i1,i2,zwN,zF];rw[show (I6 0:DV)=I6 ((0:Nat):Int) from rfl,ls];simp only[z8,Yzu,Yza,ea,zb,zZ]
      have HQ:Que o r c (uj o r y true 0 o.cpls.els q) (i+1):=by
       refine⟨je o r y true _ _ _ H.nd,fun z hz=>?_,fun j x h1 h2=>(wz o r y true _ _ _).2 (.inl (H.fst j x h1 h2)),fun m z hm hz j x h1 h2=>?_⟩
       · rcases (wz o r y true _ _ _).1 hz with hz|⟨j,x,h1,h2,h3⟩
         · exact H.re z hz
         · rw[Yze]at h2
           rw[h3];exact .more y j x hym h1 h2
       · by_cases hmi:m=i
         · subst hmi
           have:=jZ o r y true o.cpls.els 0 q hy;rw[hz]at this;cases this;exact(wz o r _ true _ _ _).2 (.inr ⟨j,x,h1,by rw[Yze];exact h2,rfl⟩)
         · have hmi:m<i:=by omega
           obtain⟨w,hw⟩:∃w,q[m]? = some w:=⟨_,Lz5 (by omega)⟩;have:=jZ o r y true o.cpls.els 0 q hw;rw[hz]at this;cases this;exact(wz o r y true _ _ _).2 (.inl (H.cls m _ hmi hw j x h1 h2))
      obtain⟨q',h1,h2⟩:=ih (i+1) (uj o r y true 0 o.cpls.els q) HQ
        (by have:=jZ o r y true o.cpls.els 0 q hy;have:=(Lz0.1 this).1;omega) (by omega)
      exact⟨q',by rw[zD body,h1],h2⟩
    · have hi:i=q.length:=by omega
      subst hi;refine⟨q,zr ?_,H⟩;have hg:(grow q).els.length=q.length:=by rw[zG]
      have:=xh (LzB q.length);simp only[zgC,zt,zZ,y5,hg,wq,zi,zb,this,zl,Yzh,if_false]
def zn3(o:Org)(r:Reg)(c y:zwT):Prop:=Reach o r c y∨(bit r.off c.rank.toNat=false∧y=c)
theorem t72(k:Nat)(c:zwT)(hc:inR o c=true):∃S:List zwT,D (k+3) 72 [SA (enO o),SA (wn r),SA [I6 c.rank,I6 c.num]]=some (S1 (enL 2 zwN (grow S)))∧S.Nodup∧(∀y,y∈S↔zn3 o r c y)∧(∀y∈S,inR o y=true):=by
 obtain⟨n,d,hn,hd,_,_⟩:=ud.1 hc;have hnl:=(Lz0.1 hd).1;have hcl:=F.cl;have l1:=zf1 F (thr:=false) k c (znh F hc) rfl o.cpls.els 0 [] rfl (by simp;omega);simp only[Yzh,if_false]at l1;have hq0:Que o r c (uj o r c false 0 o.cpls.els []) 0:=⟨je o r c false _ _ _ List.nodup_nil,fun y hy=>by
   rcases (wz o r c false _ _ _).1 hy with hy|⟨j,x,h1,h2,h3⟩
   ·cases hy
   ·rw[Yze]at h2;rw[h3];exact .one j x h1 h2,fun j x h1 h2=>(wz o r c false _ _ _).2 (.inr ⟨j,x,h1,by rw[Yze];exact h2,rfl⟩),fun m y hm=>by omega⟩
 obtain⟨q,h1,h2⟩:=zkJ F k c 28 0 _ hq0 (YzC _) rfl;have hall:=zrw h2;have hlen:=q9 F h2.nd fun y hy=>(h2.re y hy).inR;have ct:=t98 k c (grow q) (by rw[zG];omega);rw[zG]at ct;have ef:fits 16 ((grow q).els.length+1)=true:=wg (by decide) (by rw[zG];omega);have hp:(DV.lst 2 ((grow q).els.map zwN++[[I6 c.rank,I6 c.num]]))=enL 2 zwN (grow (q++[c])):=by rw[xG,zbz,YzH];rfl
 have hb:zwJ .eql (U64 (zxl (zxG r.off n) 1)) (U64 0)=some (Bo (!bit r.off n)):=by rw[zy6,zsV]
 refine⟨if bit r.off n=true then q else push q c,?_,?_,?_,?_⟩
 ·unfold enO wn;rw[D72];unfold P72;simp only[zF,zb];rw[show (I6 0:DV)=I6 ((0:Nat):Int) from rfl,show (none:OC)=ocL zwN (grow []) from rfl,l1];simp only[z8,Yzu,Yza,zZ,h1];rw[hn,zyA];simp only[zb,uL];rw[hb];simp only[zb,zl];rw[←hn];cases hbb:bit r.off n with
  |true=>simp
  |false=>
   simp only[Bool.not_false,if_true,wB,ct,b1s,zfA,Yza,yI,zb,zl,y5,yO,ef,we,hp,Yzh,if_false,push];by_cases h3:c∈q<;>simp[h3]
 ·split
  ·exact h2.nd
  ·exact zdi h2.nd
 ·intro y;unfold zn3;rw[hn,Yyi];cases hbb:bit r.off n with
  |true=>simp[hall]
  |false=>simp[qE,hall]
 ·intro y hy;split at hy
  ·exact(h2.re y hy).inR
  ·rcases qE.1 hy with h|h
   ·exact(h2.re y h).inR
   ·rw[h];exact hc
end
end Go.Proofs.Tryz.Kn
end
section
namespace Go.Proofs.Tryz.Kn
open Go Go.CE Go.PE
theorem zjR{α:Type}{f:α→List DV}(v:Sl α)(l:List α):∃v':Sl α,zyf (ocL f v) (l.map f)=ocL f v'∧v'.els=v.els++l:=by
 cases l with
 |nil=>exact⟨v,rfl,by simp⟩
 |cons y l=>exact⟨some (v.els++y::l),by
   show some (zQ (ocL f v)++_)=_;rw[yO,zpa,YzH];rfl,rfl⟩
theorem zt5{n:Nat}(h:n≤1000):mkN 24 (I6 (n:Int)) (I6 (n:Int))=some n:=by
 show (bif Nat.beq n n&&Nat.ble n 1073741824&&Nat.ble (24*n) 281474976710656 then some n else none)=some n;rw[Yzu,Yzm (show n≤1073741824 by omega),Yzm (show 24*n≤281474976710656 by omega)];rfl
def yN(v:Sl Zg):List DV:=[enL 2 zwN v]
def zM(row:List (Sl Zg)):List DV:=[enL 1 yN (grow row)]
def zj1(o:Org)(r:Reg)(n:Nat)(key:Int)(y:Zg):Prop:=
 ∃(d:Zn) (s:Int) (j:Nat) (t:Zr),o.divs.els[n]? = some d∧r.stops.els[n]? = some s∧d.stops.els[j]? = some t∧bit s j=true∧y∈zaq o.ranks.els key (zan t key).draws.els
def zif(o:Org)(r:Reg)(n:Nat)(key:Int)(v:Sl Zg):Prop:=v.els.length≤6∧∀y,y∈v.els↔zj1 o r n key y
def qt(o:Org)(r:Reg)(c:zwT)(y:Zg):Prop:=∃c',zn3 o r c c'∧zj1 o r c'.rank.toNat c'.num y
def kI(o:Org)(r:Reg)(n:Nat)(key:Int)(v:Sl Zg):Prop:=v.els.length≤1000∧v.els.Pairwise ltP∧∀y,y∈v.els↔qt o r ⟨(n:Int),key⟩ y
structure Rows (o:Org) (C:Nat→Int→Sl Zg→Prop) (T:List (List (Sl Zg))):Prop where
 row:∀(n:Nat) (d:Zn) (row:List (Sl Zg)),o.divs.els[n]? = some d→T[n]? = some row→(row.length:Int)=d.high-d.low+1∧∀(i:Nat) (v:Sl Zg),row[i]? = some v→C n (d.low+(i:Int)) v
section
variable {o:Org} {r:Reg} (F:Fit o r)
include F
theorem zkI(k n:Nat)(d:Zn)(s:Int)(hd:o.divs.els[n]? = some d)(hs:r.stops.els[n]? = some s)(key:Int):∀(l:List Zr) (j:Nat) (v:Sl Zg),d.stops.els.drop j=l→v.els.length+2*l.length≤1000→
  ∃v',zL (zcQ (D (k+4)) (I6 (d.stops.els.length:Int)) (enV d) (enL 1 enU r.stops) [I6 (n:Int)] (enL 6 enR o.ranks) [I6 key]) [I6 (j:Int)] [ocL zwN v]=some (.exit 4,[],[ocL zwN v'])∧v'.els.length≤v.els.length+2*l.length∧
   ∀y,y∈v'.els↔y∈v.els∨∃(q:Nat) (t:Zr),l[q]? = some t∧bit s (j+q)=true∧y∈zaq o.ranks.els key (zan t key).draws.els:=by
 have hdm:=Lz3 hd;intro l
 induction l with
 |nil=>
  intro j v h _;refine⟨v,zr ?_,by simp,fun y=>by simp⟩;simp only[zcQ,zt,zZ,zi,zb,xh (zN h),zl];rfl
 |cons t l ih=>
  intro j v h hv;simp only[Yzk]at hv;have h1:=yq h;have htm:t∈d.stops.els:=Lz3 (zU h);obtain⟨hok,hfew⟩:=F.stp d hdm t htm;have hsl:=F.sl d hdm;have ea:zwJ .add (I6 (j:Int)) (I6 1)=some (I6 ((j+1:Nat):Int)):=yJ;have is:zwP 1 (enL 1 enU r.stops) (I6 (n:Int))=some [U64 s]:=by rw[yA,hs];rfl
  have i4:atD (enV d) 4=enL 4 xz d.stops:=rfl;by_cases hb:bit s j=true
  ·obtain⟨w,c,w1,w2⟩:=t71 k o.ranks t hok key (by have:=hfew key;omega);unfold xz at c;have hwl:w.els.length≤2:=by
    have a1:=zb9 w1 fun z hz=>(w2 z).1 hz;have a2:=List.length_filterMap_le (zfI o.ranks.els key) (zan t key).draws.els;have a3:=hfew key;unfold zaq at a1;omega
   obtain⟨v1,a1,a2⟩:=zjR (f:=zwN) v w.els;have ef:fits 16 (v.els.length+w.els.length)=true:=wg (by decide) (by omega);have body:zcQ (D (k+4)) (I6 (d.stops.els.length:Int)) (enV d) (enL 1 enU r.stops) [I6 (n:Int)] (enL 6 enR o.ranks) [I6 key] [I6 (j:Int)] [ocL zwN v]=some (.normal,[I6 ((j+1:Nat):Int)],[ocL zwN v1]):=by
    have hb':=hb;unfold bit at hb';simp only[zcQ,zt,zZ,zi,zb,zwZ h1,zl,if_true,i4,zV h,is,y3,xJ,zyA,uL,zy6,hb',xz,c,zW,zdk,y5,Yzj,ef,we,ea,a1]
   obtain⟨v',b1',b2,b3⟩:=ih (j+1) v1 (zA h) (by rw[a2,Yzz];omega);refine⟨v',by rw[zD body,b1'],by rw[a2,Yzz]at b2;simp only[Yzk];omega,fun y=>(b3 y).trans ?_⟩;rw[a2,Yys,w2 y]
   constructor
   ·rintro ((h|h)|⟨q,z,q1,q2,q3⟩)
    ·exact .inl h
    ·exact .inr ⟨0,t,rfl,hb,h⟩
    ·exact .inr ⟨q+1,z,by simpa using q1,by rw[show j+(q+1)=j+1+q by omega];exact q2,q3⟩
   ·rintro (h|⟨q,z,q1,q2,q3⟩)
    ·exact .inl (.inl h)
    ·cases q with
     |zero=>
      simp only[Yzg,Option.some.injEq]at q1;subst q1;exact .inl (.inr q3)
     |succ q=>exact .inr ⟨q,z,by simpa using q1,by rw[show j+1+q=j+(q+1) by omega];exact q2,q3⟩
  ·have body:zcQ (D (k+4)) (I6 (d.stops.els.length:Int)) (enV d) (enL 1 enU r.stops) [I6 (n:Int)] (enL 6 enR o.ranks) [I6 key] [I6 (j:Int)] [ocL zwN v]=some (.normal,[I6 ((j+1:Nat):Int)],[ocL zwN v]):=by
    have hb':=(Bool.not_eq_true _).mp hb;unfold bit at hb';simp only[zcQ,zt,zZ,zi,zb,zwZ h1,zl,if_true,i4,zV h,is,y3,zyA,uL,zy6,hb',Yzh,if_false,ea]
   obtain⟨v',b1',b2,b3⟩:=ih (j+1) v (zA h) (by omega);refine⟨v',by rw[zD body,b1'],by simp only[Yzk];omega,fun y=>(b3 y).trans ?_⟩
   constructor
   ·rintro (h|⟨q,z,q1,q2,q3⟩)
    ·exact .inl h
    ·exact .inr ⟨q+1,z,by simpa using q1,by rw[show j+(q+1)=j+1+q by omega];exact q2,q3⟩
   ·rintro (h|⟨q,z,q1,q2,q3⟩)
    ·exact .inl h
    ·cases q with
     |zero=>exact absurd q2 hb
     |succ q=>exact .inr ⟨q,z,by simpa using q1,by rw[show j+1+q=j+(q+1) by omega];exact q2,q3⟩
omit F in
theorem zeq{xs:List (List DV)}{n:Nat}(h:n<xs.length):xA (some xs) (I6 (n:Int))=some n:=j5 h
omit F in
theorem zqH{row:List (Sl Zg)}(h:row.length≤1000):fits 24 ((grow row).els.length+1)=true:=wg (by decide) (by rw[zG];omega)
omit F in
theorem zag(row:List (Sl Zg))(v:Sl Zg):(some ((grow row).els.map yN++[[enL 2 zwN v]]):OC)=ocL yN (grow (row++[v])):=by rw[xG,←wJ];rfl
theorem zmY(k n:Nat)(d:Zn)(s:Int)(hd:o.divs.els[n]? = some d)(hs:r.stops.els[n]? = some s)(xs:List (List DV))(hx:n<xs.length):∀(m:Nat) (key:Int) (row:List (Sl Zg)),key+(m:Int)=d.high+1→d.low≤key→row.length+m≤1000→
  ∃row',zL (zgJ (D (k+4)) (enV d) (enL 1 enU r.stops) [I6 (n:Int)] (enL 6 enR o.ranks) [some xs] n) [I6 key] [ocL yN (grow row)]=some (.exit 2,[],[ocL yN (grow (row++row'))])∧row'.length=m∧∀(i:Nat) (v:Sl Zg),row'[i]? = some v→zif o r n (key+(i:Int)) v:=by
 have hdm:=Lz3 hd;have hr:=F.rng d hdm;have a2:atD (enV d) 3=I6 d.high:=rfl;have a4:atD (enV d) 4=enL 4 xz d.stops:=rfl;intro m
 induction m with
 |zero=>
  intro key row hk _ _;have h1:decide (key≤d.high)=false:=decide_eq_false (by omega);refine⟨[],zr ?_,rfl,fun i v h=>by simp at h⟩;simp only[zgJ,zt,zZ,a2,wF,zb,h1,zl,Yzh,if_false,YzD]
 |succ m ih=>
  intro key row hk hlo hl;have h1:decide (key≤d.high)=true:=decide_eq_true (by omega);have hsl:=F.sl d hdm;obtain⟨v,c1,c2,c3⟩:=zkI F k n d s hd hs key d.stops.els 0 none rfl (by simp;omega);have ea:zwJ .add (I6 key) (I6 1)=some (I6 (key+1)):=yJ;have hc:zif o r n key v:=⟨by simp at c2;omega,fun y=>(c3 y).trans (by
   simp only[ze1,YzK,false_or,Yze]
   constructor
   ·rintro⟨q,t,q1,q2,q3⟩;exact⟨d,s,q,t,hd,hs,q1,q2,q3⟩
   ·rintro⟨d',s',q,t,e1,e2,q1,q2,q3⟩
    rw[hd]at e1;cases e1;rw[hs]at e2;cases e2;exact⟨q,t,q1,q2,q3⟩)⟩
  have body:zgJ (D (k+4)) (enV d) (enL 1 enU r.stops) [I6 (n:Int)] (enL 6 enR o.ranks) [some xs] n [I6 key] [ocL yN (grow row)]=some (.normal,[I6 (key+1)],[ocL yN (grow (row++[v]))]):=by
   simp only[zgJ,zt,zZ,a2,a4,wF,zb,h1,zl,if_true,zF];rw[show (I6 0:DV)=I6 ((0:Nat):Int) from rfl,show (none:OC)=ocL zwN none from rfl,c1];simp only[z8,Yzu,Yza,zZ,zeq hx,zb,we,y5,zqH (show row.length≤1000 by omega),ea,yO,wB,zag]
  obtain⟨row',q1,q2,q3⟩:=ih (key+1) (row++[v]) (by omega) (by omega) (by simp;omega);refine⟨v::row',by rw[zD body,q1];simp,by simp[q2],fun i w h=>?_⟩;cases i with
  |zero=>
   simp only[Yzg,Option.some.injEq]at h;subst h
   simpa using hc
  |succ i=>
   have:=q3 i w (by simpa using h)
   rwa [show key+1+(i:Int)=key+((i+1:Nat):Int) by omega]at this
omit F in
theorem zlF(T:List (List (Sl Zg)))(m:Nat)(row:List (Sl Zg)):(T.map zM++List.replicate (m+1) [DV.nils]).set T.length [enL 1 yN (grow row)]=(T++[row]).map zM++List.replicate m [DV.nils]:=by
 rw[List.set_append_right _ _ (by simp),Yzj,Nat.sub_self,List.replicate_succ,List.set_cons_zero,YzH];simp[zM]
omit F in
theorem zmv(T:List (List (Sl Zg)))(m:Nat):(T.map zM++List.replicate (m+1) [DV.nils])[T.length]? = some [DV.nils]:=by
 rw[Lz8 (by simp),Yzj,Nat.sub_self,List.replicate_succ];rfl
omit F in
theorem Rows.snoc{C:Nat→Int→Sl Zg→Prop}{T:List (List (Sl Zg))}{d:Zn}{row:List (Sl Zg)}(H:Rows o C T)(hd:o.divs.els[T.length]? = some d)(hl:(row.length:Int)=d.high-d.low+1)(hc:∀(i:Nat) (v:Sl Zg),row[i]? = some v→C T.length (d.low+(i:Int)) v):Rows o C (T++[row]):=
 ⟨fun n d' row' hd' hr => by
  by_cases h:n<T.length
  ·rw[Lz2 h]at hr;exact H.row n d' row' hd' hr
  ·have hn:n=T.length:=by
    have:=(Lz0.1 hr).1;simp at this;omega
   subst hn;rw[YzM]at hr;cases hr;rw[hd]at hd';cases hd';exact⟨hl,hc⟩⟩
theorem zkL(k:Nat):∀(l:List Zn) (T:List (List (Sl Zg))),o.divs.els.drop T.length=l→Rows o (zif o r) T→
  ∃T',zL (zof (D (k+4)) (I6 (o.divs.els.length:Int)) (enL 5 enV o.divs) (enL 1 enU r.stops) (enL 6 enR o.ranks)) [I6 (T.length:Int)] [some (T.map zM++List.replicate l.length [.nils])]=some (.exit 0,[],[some (T'.map zM)])∧T'.length=T.length+l.length∧Rows o (zif o r) T':=by
 intro l
 induction l with
 |nil=>
  intro T h H;refine⟨T,zr ?_,by simp,H⟩;simp only[zof,zt,zZ,zi,zb,xh (zN h),zl,Yzh,if_false,Yz7,List.replicate_zero,YzD]
 |cons d l ih=>
  intro T h H;have h1:=yq h;have hdl:=F.dl;have hd:=zU h;have hr:=F.rng d (Lz3 hd);have hrl:=F.rl;obtain⟨s,hs⟩:∃s,r.stops.els[T.length]? = some s:=⟨_,Lz5 (by omega)⟩;have hx:T.length<(T.map zM++List.replicate (l.length+1) [DV.nils]).length:=by simp
  obtain⟨row,c1,c2,c3⟩:=zmY F k T.length d s hd hs _ hx (d.high-d.low+1).toNat d.low [] (by omega) (Int.le_refl _) (by simp;omega);have ea:zwJ .add (I6 (T.length:Int)) (I6 1)=some (I6 ((T.length+1:Nat):Int)):=yJ;have iv:zwP 5 (enL 5 enV o.divs) (I6 (T.length:Int))=some (enV d):=by rw[yA,hd];rfl
  have a2:atD (enV d) 2=I6 d.low:=rfl;have body:zof (D (k+4)) (I6 (o.divs.els.length:Int)) (enL 5 enV o.divs) (enL 1 enU r.stops) (enL 6 enR o.ranks) [I6 (T.length:Int)] [some (T.map zM++List.replicate (l.length+1) [.nils])]=some (.normal,[I6 (((T++[row]).length:Nat):Int)],[some ((T++[row]).map zM++List.replicate l.length [.nils])]):=by
   simp only[zof,zt,zZ,zi,zb,zwZ h1,zl,if_true,iv,zeq hx];rw[show zw7 (some (T.map zM++List.replicate (l.length+1) [DV.nils])) T.length=some [DV.nils] from zmv T l.length];simp only[zb,y3,gdN,a2];rw[show (none:OC)=ocL yN (grow []) from rfl,c1];simp only[z8,zZ,wB,YzI,zyU,zb,Yzu,Yza,ea,zlF,Yzz,YyF]
  obtain⟨T',q1,q2,q3⟩:=ih (T++[row]) (by rw[Yzz,YyF];exact zA h) (H.snoc hd (by rw[c2];omega) c3);refine⟨T',by rw[Yzk,zD body,q1],by simp at q2 ⊢;omega,q3⟩
theorem zkM(T:List (List (Sl Zg)))(hT:T.length=o.divs.els.length)(H:Rows o (zif o r) T)(S:List zwT)(hS:∀y∈S,inR o y=true)(hl:S.length≤27):∀(l:List zwT) (i:Nat) (v:Sl Zg),S.drop i=l→v.els.length+6*l.length≤1000→
  ∃v',zL (zgG (I6 (S.length:Int)) (enL 2 zwN (grow S)) [some (T.map zM)] (enL 5 enV o.divs)) [I6 (i:Int)] [ocL zwN v]=some (.exit 10,[],[ocL zwN v'])∧v'.els.length≤v.els.length+6*l.length∧
   ∀y,y∈v'.els↔y∈v.els∨∃c∈l,zj1 o r c.rank.toNat c.num y:=by
 intro l
 induction l with
 |nil=>
  intro i v h _;refine⟨v,zr ?_,by simp,fun y=>by simp⟩;simp only[zgG,zt,zZ,zi,zb,xh (zN h),zl];rfl
 |cons c l ih=>
  intro i v h hv;simp only[Yzk]at hv;have h1:=yq h;have hdl:=F.dl;obtain⟨n,d,e1,e2,e3,e4⟩:=ud.1 (hS c (Lz3 (zU h)));have hn:=(Lz0.1 e2).1;have hr:=F.rng d (Lz3 e2);obtain⟨row,hrow⟩:∃row,T[n]? = some row:=⟨_,Lz5 (by omega)⟩;obtain⟨g1,g2⟩:=H.row n d row e2 hrow;obtain⟨j,hj⟩:∃j:Nat,c.num-d.low=(j:Int):=⟨(c.num-d.low).toNat,by omega⟩;obtain⟨w,hw⟩:∃w,row[j]? = some w:=⟨_,Lz5 (by omega)⟩;obtain⟨w1,w2⟩:=g2 j w hw;have ea:zwJ .add (I6 (i:Int)) (I6 1)=some (I6 ((i+1:Nat):Int)):=yJ;have es:zwJ .sub (I6 c.num) (I6 d.low)=some (I6 (j:Int)):=by rw[←hj];exact zfj
  have hdr:(grow S).els.drop i=c::l:=by rw[zG];exact h
  have ix:zwP 2 (enL 2 zwN (grow S)) (I6 (i:Int))=some [I6 c.rank,I6 c.num]:=zV hdr .i64;have i1:xA (some (T.map zM)) (I6 c.rank)=some n:=by rw[e1];exact j5 (by simp;omega)
  have i2:zw7 (some (T.map zM)) n=some [enL 1 yN (grow row)]:=by
   show (T.map zM)[n]? = _;rw[Lz6,hrow];rfl
  have iv:zwP 5 (enL 5 enV o.divs) (I6 c.rank)=some (enV d):=by rw[e1,yA,e2];rfl
  have a2:atD (enV d) 2=I6 d.low:=rfl;have ic:zwP 1 (enL 1 yN (grow row)) (I6 (j:Int))=some [enL 2 zwN w]:=by rw[yA,zG,hw];rfl
  obtain⟨v1,b1',b2⟩:=zjR (f:=zwN) v w.els;have ef:fits 16 (v.els.length+w.els.length)=true:=wg (by decide) (by omega);have body:zgG (I6 (S.length:Int)) (enL 2 zwN (grow S)) [some (T.map zM)] (enL 5 enV o.divs) [I6 (i:Int)] [ocL zwN v]=some (.normal,[I6 ((i+1:Nat):Int)],[ocL zwN v1]):=by
   simp only[zgG,zt,zZ,zi,zb,zwZ h1,zl,if_true,ix,y3,xJ,i1,i2,iv,a2,es,ic,zdk,y5,Yzj,ef,we,ea,b1']
  obtain⟨v',q1,q2,q3⟩:=ih (i+1) v1 (zA h) (by rw[b2,Yzz];omega);refine⟨v',by rw[zD body,q1],by rw[b2,Yzz]at q2;simp only[Yzk];omega,fun y=>(q3 y).trans ?_⟩;have hwy:y∈w.els↔zj1 o r c.rank.toNat c.num y:=by
   rw[w2 y,e1,Yyi,show d.low+(j:Int)=c.num by omega]
  rw[b2,Yys,hwy]
  constructor
  ·rintro ((h|h)|⟨z,hz,h⟩)
   ·exact .inl h
   ·exact .inr ⟨c,Yzi ..,h⟩
   ·exact .inr ⟨z,Yzf _ hz,h⟩
  ·rintro (h|⟨z,hz,hdz⟩)
   ·exact .inl (.inl h)
   ·rcases YzO.1 hz with e|hz
    ·rw[e]at hdz;exact .inl (.inr hdz)
    ·exact .inr ⟨z,hz,hdz⟩
theorem zkN(k n:Nat)(d:Zn)(hd:o.divs.els[n]? = some d)(T:List (List (Sl Zg)))(hT:T.length=o.divs.els.length)(H:Rows o (zif o r) T)(xs:List (List DV))(hx:n<xs.length):∀(m:Nat) (key:Int) (row:List (Sl Zg)),key+(m:Int)=d.high+1→d.low≤key→row.length+m≤1000→
  ∃row',zL (zgH (D (k+3)) (enV d) (St o.name) (enL 6 enR o.ranks) (enL 5 enV o.divs) (enL 5 enC o.cpls) (enL 1 enU r.stops) (U64 r.cpls) (U64 r.off) [I6 (n:Int)] [some (T.map zM)] [some xs] n) [I6 key] [ocL yN (grow row)]=some (.exit 8,[],[ocL yN (grow (row++row'))])∧row'.length=m∧∀(i:Nat) (v:Sl Zg),row'[i]? = some v→kI o r n (key+(i:Int)) v:=by
 have hdm:=Lz3 hd;have hr:=F.rng d hdm;have a3:atD (enV d) 3=I6 d.high:=rfl;intro m
 induction m with
 |zero=>
  intro key row hk _ _;have h1:decide (key≤d.high)=false:=decide_eq_false (by omega);refine⟨[],zr ?_,rfl,fun i v h=>by simp at h⟩;simp only[zgH,zt,zZ,a3,wF,zb,h1,zl,Yzh,if_false,YzD]
 |succ m ih=>
  intro key row hk hlo hl;have h1:decide (key≤d.high)=true:=decide_eq_true (by omega);have hin:inR o ⟨(n:Int),key⟩=true:=ud.2 ⟨n,d,rfl,hd,hlo,by show key≤d.high;omega⟩;obtain⟨S,s1,s2,s3,s4⟩:=t72 F k ⟨(n:Int),key⟩ hin;have hSl:=q9 F s2 s4;obtain⟨v,c1,c2,c3⟩:=zkM F T hT H S s4 hSl S 0 none rfl (by simp;omega);have ea:zwJ .add (I6 key) (I6 1)=some (I6 (key+1)):=yJ;obtain⟨w,u,f1,f2,f3,f4⟩:=ziu v (by simp at c2;omega);have hul:u.els.length≤v.els.length:=zb9 f2 fun z hz=>(f3 z).1 hz;simp at c2;have hc:kI o r n key u:=⟨by omega,f2,fun y=>(f3 y).trans ((c3 y).trans (by
   simp only[ze1,YzK,false_or]
   constructor
   ·rintro⟨c,hc,h⟩;exact⟨c,(s3 c).1 hc,h⟩
   ·rintro⟨c,hc,h⟩;exact⟨c,(s3 c).2 hc,h⟩))⟩
  unfold enO wn at s1;have hgS:(grow S).els.length=S.length:=by rw[zG]
  have body:zgH (D (k+3)) (enV d) (St o.name) (enL 6 enR o.ranks) (enL 5 enV o.divs) (enL 5 enC o.cpls) (enL 1 enU r.stops) (U64 r.cpls) (U64 r.off) [I6 (n:Int)] [some (T.map zM)] [some xs] n [I6 key] [ocL yN (grow row)]=some (.normal,[I6 (key+1)],[ocL yN (grow (row++[u]))]):=by
   simp only[zgH,zt,zZ,a3,wF,zb,h1,zl,if_true,s1,zW,zF,hgS];rw[show (I6 0:DV)=I6 ((0:Nat):Int) from rfl,show (none:OC)=ocL zwN none from rfl,c1];simp only[z8,Yzu,Yza,zZ,f1,zb,zeq hx,we,wq,zi,zl,Yzn,y5,zqH (show row.length≤1000 by omega),ea,yO,show zqW=kR from rfl];rcases f4 with⟨g1,g2⟩|⟨g1,g2⟩
   ·have:((zwW w:Nat):Int)<2:=by omega
    rw[Yzd this,g2,zag]
   ·have:¬((zwW w:Nat):Int)<2:=by omega
    rw[Yzb this];rcases g2 with g2|g2
    ·rw[g2];simp only[z8,Yzu,Yza,zZ,wB,zag]
    ·rw[g2];simp only[jD,zt,zag]
  obtain⟨row',q1,q2,q3⟩:=ih (key+1) (row++[u]) (by omega) (by omega) (by simp;omega);refine⟨u::row',by rw[zD body,q1];simp,by simp[q2],fun i w h=>?_⟩;cases i with
  |zero=>
   simp only[Yzg,Option.some.injEq]at h;subst h
   simpa using hc
  |succ i=>
   have:=q3 i w (by simpa using h)
   rwa [show key+1+(i:Int)=key+((i+1:Nat):Int) by omega]at this
theorem zkH(k:Nat)(U:List (List (Sl Zg)))(hU:U.length=o.divs.els.length)(HU:Rows o (zif o r) U):∀(l:List Zn) (T:List (List (Sl Zg))),o.divs.els.drop T.length=l→Rows o (kI o r) T→
  ∃T',zL (zgI (D (k+3)) (I6 (o.divs.els.length:Int)) (enL 5 enV o.divs) (St o.name) (enL 6 enR o.ranks) (enL 5 enC o.cpls) (enL 1 enU r.stops) (U64 r.cpls) (U64 r.off) [some (U.map zM)]) [I6 (T.length:Int)] [some (T.map zM++List.replicate l.length [.nils])]=some (.exit 6,[],[some (T'.map zM)])∧T'.length=T.length+l.length∧Rows o (kI o r) T':=by
 intro l
 induction l with
 |nil=>
  intro T h H;refine⟨T,zr ?_,by simp,H⟩;simp only[zgI,zt,zZ,zi,zb,xh (zN h),zl,Yzh,if_false,Yz7,List.replicate_zero,YzD]
 |cons d l ih=>
  intro T h H;have h1:=yq h;have hdl:=F.dl;have hd:=zU h;have hr:=F.rng d (Lz3 hd);have hx:T.length<(T.map zM++List.replicate (l.length+1) [DV.nils]).length:=by simp
  obtain⟨row,c1,c2,c3⟩:=zkN F k T.length d hd U hU HU _ hx (d.high-d.low+1).toNat d.low [] (by omega) (Int.le_refl _) (by simp;omega);have ea:zwJ .add (I6 (T.length:Int)) (I6 1)=some (I6 ((T.length+1:Nat):Int)):=yJ;have iv:zwP 5 (enL 5 enV o.divs) (I6 (T.length:Int))=some (enV d):=by rw[yA,hd];rfl
  have a2:atD (enV d) 2=I6 d.low:=rfl;have body:zgI (D (k+3)) (I6 (o.divs.els.length:Int)) (enL 5 enV o.divs) (St o.name) (enL 6 enR o.ranks) (enL 5 enC o.cpls) (enL 1 enU r.stops) (U64 r.cpls) (U64 r.off) [some (U.map zM)] [I6 (T.length:Int)] [some (T.map zM++List.replicate (l.length+1) [.nils])]=some (.normal,[I6 (((T++[row]).length:Nat):Int)],[some ((T++[row]).map zM++List.replicate l.length [.nils])]):=by
   simp only[zgI,zt,zZ,zi,zb,zwZ h1,zl,if_true,iv,zeq hx];rw[show zw7 (some (T.map zM++List.replicate (l.length+1) [DV.nils])) T.length=some [DV.nils] from zmv T l.length];simp only[zb,y3,gdN,a2];rw[show (none:OC)=ocL yN (grow []) from rfl,c1];simp only[z8,zZ,wB,YzI,zyU,zb,Yzu,Yza,ea,zlF,Yzz,YyF]
  obtain⟨T',q1,q2,q3⟩:=ih (T++[row]) (by rw[Yzz,YyF];exact zA h) (H.snoc hd (by rw[c2];omega) c3);refine⟨T',by rw[Yzk,zD body,q1],by simp at q2 ⊢;omega,q3⟩
theorem t39(k:Nat):∃T:List (List (Sl Zg)),D (k+5) 39 [SA (enO o),SA (wn r)]=some (S1 (.lst 1 (T.map zM)))∧T.length=o.divs.els.length∧Rows o (kI o r) T:=by
 have hdl:=F.dl;obtain⟨U,u1,u2,u3⟩:=zkL F k o.divs.els [] rfl ⟨fun n d row _ h=>by simp at h⟩;obtain⟨T,t1,t2,t3⟩:=zkH F (k+1) U (by simpa using u2) u3 o.divs.els [] rfl ⟨fun n d row _ h=>by simp at h⟩;refine⟨T,?_,by simpa using t2,t3⟩;simp only[Yz7,Yyf,YzI]at u1 t1;unfold enO wn;rw[D39];unfold P39;simp only[zF,zb,zt5 (show o.divs.els.length≤1000 by omega)];rw[show (I6 0:DV)=I6 ((0:Nat):Int) from rfl,u1];simp only[z8,Yzu,Yza];rw[t1];simp only[z8,Yzu,Yza,zZ,zpr]
end
end Go.Proofs.Tryz.Kn
end
section
namespace Go.Proofs.Tryz.Kn
open Go Go.CE Go.PE
theorem l47(a b:Sl Zg)(hl:a.els.length≤1000)(hab:a.els.length=b.els.length):∀(r s:List Zg) (i:Nat),a.els.drop i=r→b.els.drop i=s→
  zL (zoe (I6 (a.els.length:Int)) (enL 2 zwN a) (enL 2 zwN b)) [I6 (i:Int)] []=some (if r=s then(.exit 0,[],[]) else(.ret,[Bo false],[])):=by
 intro r
 induction r with
 |nil=>
  intro s i h g;have h1:=zN h;have:s=[]:=by rw[←g,List.drop_eq_nil_iff];omega
  rw[this,Yzd rfl];refine zr ?_;simp only[zoe,zt,zi,zb,xh h1,zl];rfl
 |cons x r ih=>
  intro s i h g;have h1:=yq h;cases s with
  |nil=>have:=zN g;omega
  |cons y s=>
   have ea:zwJ .add (I6 (i:Int)) (I6 1)=some (I6 ((i+1:Nat):Int)):=yJ;have eq:=zab x y;have body:zoe (I6 (a.els.length:Int)) (enL 2 zwN a) (enL 2 zwN b) [I6 (i:Int)] []=some (if x=y then(.normal,[I6 ((i+1:Nat):Int)],[]) else(.ret,[Bo false],[])):=by
    simp only[zoe,zt,zi,zb,zwZ h1,zl,if_true,zV h,zV g,zwN,y3,xJ,eq,ea];by_cases hz:x=y<;>simp[hz]
   by_cases hc:x=y
   ·rw[Yzd hc]at body;rw[zD body,ih s (i+1) (zA h) (zA g)];simp[hc]
   ·rw[Yzb hc]at body;rw[zy body];simp[hc]
theorem t47(k:Nat)(a b:Sl Zg)(hl:a.els.length≤1000):D (k+1) 47 [S1 (enL 2 zwN a),S1 (enL 2 zwN b)]=some (S1 (Bo (decide (a.els=b.els)))):=by
 rw[D47];unfold P47;simp only[zF,zb,ya,zl];by_cases h:a.els.length=b.els.length
 ·have l:=l47 a b hl h a.els b.els 0 rfl rfl;have e:((a.els.length:Int)==(b.els.length:Int))=true:=by simp[h]
  rw[e];simp only[YzG,Yzh,if_false];rw[show (I6 0:DV)=I6 ((0:Nat):Int) from rfl,l];by_cases hc:a.els=b.els
  ·rw[Yzd hc,decide_eq_true hc];rfl
  ·rw[Yzb hc,decide_eq_false hc];rfl
 ·have e:((a.els.length:Int)==(b.els.length:Int))=false:=by simp;omega
  have:a.els≠b.els:=fun e=>h (by rw[e]);rw[e,decide_eq_false this];simp
def zyw(x y:Sl Zg):Bool:=!(x.els.any fun p=>!decide (p∈y.els))
theorem zoI{x y:Sl Zg}:zyw x y=true↔∀p∈x.els,p∈y.els:=by
 unfold zyw;rw[YzN,Yyz];simp
theorem t52(k:Nat)(p:Zg)(y:Sl Zg)(hy:y.els.length≤1000):D (k+3) 52 [SA [I6 p.rank,I6 p.num],S1 (.fp [enL 2 zwN y] 0)]=some (S1 (Bo (!decide (p∈y.els)))):=by
 have c:=t53 k p y (by omega);rw[D52];unfold P52;simp only[c,zW,yI,zb]
theorem l80(k:Nat)(y:Sl Zg)(hy:y.els.length≤1000)(l:Sl Zg)(hl:l.els.length≤1000):∀(r:List Zg) (i:Nat),l.els.drop i=r→
  zL (zn8 (D (k+3)) (I6 (l.els.length:Int)) (enL 2 zwN l) (.fn 52 [[enL 2 zwN y]])) [I6 (i:Int)] []=some (found (xc (fun x=>!decide (x∈y.els)) r i)):=by
 intro r
 induction r with
 |nil=>
  intro i h;refine zr ?_;simp only[zn8,zt,zi,zb,xh (zN h),zl];rfl
 |cons x r ih=>
  intro i h;have h1:=yq h;have ea:zwJ .add (I6 (i:Int)) (I6 1)=some (I6 ((i+1:Nat):Int)):=yJ;have c:zxi (D (k+3)) (.fn 52 [[enL 2 zwN y]]) [SA [I6 x.rank,I6 x.num]]=some (S1 (Bo (!decide (x∈y.els)))):=t52 k x y hy;have body:zn8 (D (k+3)) (I6 (l.els.length:Int)) (enL 2 zwN l) (.fn 52 [[enL 2 zwN y]]) [I6 (i:Int)] []=some (if x∈y.els then(.normal,[I6 ((i+1:Nat):Int)],[]) else(.ret,[I6 (i:Int)],[])):=by
   simp only[zn8,zt,zi,zb,zwZ h1,zl,if_true,zV h,zwN,y3,xJ,c,zW,ea];by_cases hz:x∈y.els<;>simp[hz]
  by_cases hc:x∈y.els
  ·rw[Yzd hc]at body;rw[zD body,ih (i+1) (zA h)];simp[xc,hc]
  ·rw[Yzb hc]at body;rw[zy body];simp[xc,hc,found]
theorem t51(k:Nat)(y:Sl Zg)(hy:y.els.length≤1000)(l:Sl Zg)(hl:l.els.length≤1000):D (k+5) 51 [S1 (enL 2 zwN l),S1 (.fn 52 [[enL 2 zwN y]])]=some (S1 (Bo (l.els.any fun x=>!decide (x∈y.els)))):=by
 have c:=l80 k y hy l hl l.els 0 rfl;rw[D51];unfold P51;rw[D80];unfold P80;simp only[zF,zb];rw[show (I6 0:DV)=I6 ((0:Nat):Int) from rfl,c,←xH (fun x=>!decide (x∈y.els)) l.els 0];cases xc (fun x=>!decide (x∈y.els)) l.els 0 with
 |none=>rfl
 |some i=>
  have:(0:Int)≤(i:Int):=by omega
  simp[found,this]
theorem t50(k:Nat)(x y:Sl Zg)(hx:x.els.length≤1000)(hy:y.els.length≤1000):D (k+6) 50 [S1 (enL 2 zwN x),S1 (enL 2 zwN y)]=some (S1 (Bo (zyw x y))):=by
 have c:=t51 k y hy x hx;rw[D50];unfold P50;simp only[c,b1s,zfA,Yza,yI,zb];rfl
def zxv(H:Sl Zg→Sl Zg→Bool):Nat→List (Sl Zg)→List (Sl Zg)→Option Nat
 |i,x::a,y::b=>if H x y=true then zxv H (i+1) a b else some i
 |_,_,_=>none
def zxk(H:Sl Zg→Sl Zg→Bool):Nat→List (List (Sl Zg))→List (List (Sl Zg))→Option (Nat×Nat)
 |n,x::a,y::b=>match zxv H 0 x y with
  |some i=>some (n,i)
  |none=>zxk H (n+1) a b
 |_,_,_=>none
theorem zxy{A:List (List (Sl Zg))}{n:Nat}{x:List (Sl Zg)}(h:A[n]? = some x):zwP 1 (.lst 1 (A.map zM)) (I6 (n:Int))=some [enL 1 yN (grow x)]:=by
 refine (yA (f:=zM) (st:=1) .i64 (some A) n).trans ?_;rw[yC,h];rfl
theorem zyq(A:List (List (Sl Zg))):zwO (.lst 1 (A.map zM))=some (I6 (A.length:Int)):=zF (f:=zM) (st:=1) (some A)
structure Twin (o:Org) (A B:List (List (Sl Zg))):Prop where
 al:A.length=o.divs.els.length
 bl:B.length=o.divs.els.length
 row:∀(n:Nat) (d:Zn) (x y:List (Sl Zg)),o.divs.els[n]? = some d→A[n]? = some x→B[n]? = some y→x.length=y.length∧x.length≤9∧(∀v∈x,v.els.length≤1000)∧(∀v∈y,v.els.length≤1000)
section
variable {o:Org} {A B:List (List (Sl Zg))} (W:Twin o A B) (hdl:o.divs.els.length≤3) (hrng:∀d∈o.divs.els,0≤d.low∧d.low≤127) {f:DV} {H:Sl Zg→Sl Zg→Bool} {k:Nat}
 (hf:∀x y:Sl Zg,x.els.length≤1000→y.els.length≤1000→zxi (D k) f [S1 (enL 2 zwN x),S1 (enL 2 zwN y)]=some (S1 (Bo (H x y))))
include W hrng hf in
theorem zmX(n:Nat)(d:Zn)(x y:List (Sl Zg))(hd:o.divs.els[n]? = some d)(hx:A[n]? = some x)(hy:B[n]? = some y)(c0 c1:DV):∀(r s:List (Sl Zg)) (i:Nat),x.drop i=r→y.drop i=s→
  zL (zgF (D k) (I6 (x.length:Int)) (.lst 1 (A.map zM)) [I6 (n:Int),c0,c1] (.lst 1 (B.map zM)) f (enL 5 enV o.divs)) [I6 (i:Int),c0,c1] []=some (match zxv H i r s with
   |none=>(.exit 2,[c0,c1],[])
   |some j=>(.ret,[Bo false,I6 (n:Int),I6 (d.low+(j:Int))],[])):=by
 obtain⟨w1,w2,w3,w4⟩:=W.row n d x y hd hx hy;obtain⟨r1,r2⟩:=hrng d (Lz3 hd);have iv:zwP 5 (enL 5 enV o.divs) (I6 (n:Int))=some (enV d):=by rw[yA,hd];rfl
 have a2:atD (enV d) 2=I6 d.low:=rfl;have ja:=zxy hx;have jb:=zxy hy;intro r
 induction r with
 |nil=>
  intro s i h g;have h1:=zN h;unfold zxv;refine zr ?_;simp only[zgF,zt,yD,zi,zb,xh h1,zl];rfl
 |cons v r ih=>
  intro s i h g;have h1:=yq h;cases s with
  |nil=>have:=zN g;omega
  |cons w s=>
   have hv:=w3 v (Lz3 (zU h));have hw:=w4 w (Lz3 (zU g));have ea:zwJ .add (I6 (i:Int)) (I6 1)=some (I6 ((i+1:Nat):Int)):=yJ;have el:zwJ .add (I6 d.low) (I6 (i:Int))=some (I6 (d.low+(i:Int))):=yJ;have ia:zwP 1 (enL 1 yN (grow x)) (I6 (i:Int))=some [enL 2 zwN v]:=by rw[yA,zG,zU h];rfl
   have ib:zwP 1 (enL 1 yN (grow y)) (I6 (i:Int))=some [enL 2 zwN w]:=by rw[yA,zG,zU g];rfl
   have body:zgF (D k) (I6 (x.length:Int)) (.lst 1 (A.map zM)) [I6 (n:Int),c0,c1] (.lst 1 (B.map zM)) f (enL 5 enV o.divs) [I6 (i:Int),c0,c1] []=some (if H v w=true then(.normal,[I6 ((i+1:Nat):Int),c0,c1],[]) else(.ret,[Bo false,I6 (n:Int),I6 (d.low+(i:Int))],[])):=by
    simp only[zgF,zt,yD,zi,zb,zwZ h1,zl,if_true,ja,jb,y3,ia,ib,hf v w hv hw,zW,yI,iv,a2,el,ea];cases H v w<;>rfl
   unfold zxv;by_cases hc:H v w=true
   ·rw[Yzd hc]at body ⊢;rw[zD body,ih s (i+1) (zA h) (zA g)]
   ·rw[Yzb hc]at body ⊢;rw[zy body]
include W hdl hrng hf in
theorem zkK:∀(a b:List (List (Sl Zg))) (n:Nat),A.drop n=a→B.drop n=b→
  zL (zld (D k) (I6 (A.length:Int)) (.lst 1 (A.map zM)) (.lst 1 (B.map zM)) f (enL 5 enV o.divs)) [I6 (n:Int),I6 0,I6 0] []=some (match zxk H n a b with
   |none=>(.exit 0,[I6 0,I6 0],[])
   |some (m,j)=>(.ret,[Bo false,I6 (m:Int),I6 (zhx o m+(j:Int))],[])):=by
 have wa:=W.al;have wb:=W.bl;intro a
 induction a with
 |nil=>
  intro b n h g;have h1:=zN h;unfold zxk;refine zr ?_;simp only[zld,zt,yD,zi,zb,xh h1,zl];rfl
 |cons x a ih=>
  intro b n h g;have h1:=yq h;cases b with
  |nil=>have:=zN g;omega
  |cons y b=>
   obtain⟨d,hd⟩:∃d,o.divs.els[n]? = some d:=⟨_,Lz5 (by omega)⟩;have ea:zwJ .add (I6 (n:Int)) (I6 1)=some (I6 ((n+1:Nat):Int)):=yJ;have hl:zhx o n=d.low:=by unfold zhx;rw[hd]
   have lp:=zmX W hrng hf n d x y hd (zU h) (zU g) (I6 0) (I6 0) x y 0 rfl rfl;have ja:=zxy (zU h);have pl:zwO (enL 1 yN (grow x))=some (I6 (x.length:Int)):=by rw[zF,zG]
   unfold zxk;cases hr:zxv H 0 x y with
   |some j=>
    rw[hr]at lp;refine zy ?_;simp only[zld,zt,yD,zi,zb,zwZ h1,zl,if_true,ja,y3,pl];rw[show (I6 0:DV)=I6 ((0:Nat):Int) from rfl]at lp ⊢;rw[lp];simp only[jD,zt,yD,hl]
   |none=>
    rw[hr]at lp;have body:zld (D k) (I6 (A.length:Int)) (.lst 1 (A.map zM)) (.lst 1 (B.map zM)) f (enL 5 enV o.divs) [I6 (n:Int),I6 0,I6 0] []=some (.normal,[I6 ((n+1:Nat):Int),I6 0,I6 0],[]):=by
     simp only[zld,zt,yD,zi,zb,zwZ h1,zl,if_true,ja,y3,pl];rw[show (I6 0:DV)=I6 ((0:Nat):Int) from rfl]at lp ⊢;rw[lp];simp only[z8,Yzu,Yza,ea,zb,zt,yD]
    rw[zD body,ih b (n+1) (zA h) (zA g)]
def spot(o:Org):Option (Nat×Nat)→zwT
 |none=>⟨0,0⟩
 |some (m,j)=>⟨(m:Int),zhx o m+(j:Int)⟩
include W hdl hrng hf in
theorem t46:D (k+1) 46 [SA (enO o),S1 (.lst 1 (A.map zM)),S1 (.lst 1 (B.map zM)),S1 f]=some (.tup [.agg [I6 (spot o (zxk H 0 A B)).rank,I6 (spot o (zxk H 0 A B)).num],.one (Bo (zxk H 0 A B).isNone)]):=by
 have l:=zkK W hdl hrng hf A B 0 rfl rfl;have pl:=zyq A;unfold enO;rw[D46];unfold P46;simp only[pl,zb];rw[show (I6 0:DV)=I6 ((0:Nat):Int) from rfl]at l ⊢;rw[l];cases zxk H 0 A B with
 |none=>rfl
 |some x=>rfl
end
theorem zgv{H:Sl Zg→Sl Zg→Bool}:∀{a b:List (Sl Zg)} (i:Nat),a.length=b.length→(zxv H i a b=none↔∀(j:Nat) (x y:Sl Zg),a[j]? = some x→b[j]? = some y→H x y=true)
 | [],[],i,_=>by simp[zxv]
 |x::a,y::b,i,h=>by
  have ih:=zgv (H:=H) (a:=a) (b:=b) (i+1) (by simpa using h);unfold zxv;by_cases hc:H x y=true
  ·rw[Yzd hc,ih]
   constructor
   ·intro g j x' y' h1 h2;cases j with
    |zero=>simp only[Yzg,Option.some.injEq]at h1 h2;rw[←h1,←h2];exact hc
    |succ j=>exact g j x' y' (by simpa using h1) (by simpa using h2)
   ·exact fun g j x' y' h1 h2=>g (j+1) x' y' (by simpa using h1) (by simpa using h2)
  ·rw[Yzb hc];exact⟨fun g=>(by cases g),fun g=>absurd (g 0 x y rfl rfl) hc⟩
theorem zgu{H:Sl Zg→Sl Zg→Bool}:∀{A B:List (List (Sl Zg))} (n:Nat),A.length=B.length→(∀(m:Nat) (a b:List (Sl Zg)),A[m]? = some a→B[m]? = some b→a.length=b.length)→
  (zxk H n A B=none↔∀(m:Nat) (a b:List (Sl Zg)),A[m]? = some a→B[m]? = some b→∀(j:Nat) (x y:Sl Zg),a[j]? = some x→b[j]? = some y→H x y=true)
 | [],[],n,_,_=>by simp[zxk]
 |a::A,b::B,n,h,g=>by
  have ih:=zgu (H:=H) (A:=A) (B:=B) (n+1) (by simpa using h) fun m x y h1 h2=>g (m+1) x y (by simpa using h1) (by simpa using h2);have ir:=zgv (H:=H) (a:=a) (b:=b) 0 (g 0 a b rfl rfl);unfold zxk;cases hr:zxv H 0 a b with
  |none=>
   rw[hr]at ir;simp only[ih]
   constructor
   ·intro q m x y h1 h2;cases m with
    |zero=>simp only[Yzg,Option.some.injEq]at h1 h2;rw[←h1,←h2];exact ir.1 rfl
    |succ m=>exact q m x y (by simpa using h1) (by simpa using h2)
   ·exact fun q m x y h1 h2=>q (m+1) x y (by simpa using h1) (by simpa using h2)
  |some i=>
   rw[hr]at ir
   constructor
   ·intro q;cases q
   ·intro q;have:=ir.2 (q 0 a b rfl rfl);cases this
section
variable {o:Org} {r s:Reg} {A B:List (List (Sl Zg))}
theorem zzl(F:Fit o r)(ha:A.length=o.divs.els.length)(hb:B.length=o.divs.els.length)(HA:Rows o (kI o r) A)(HB:Rows o (kI o s) B):Twin o A B:=
 ⟨ha, hb, fun n d x y hd hx hy => by
  obtain⟨q1,q2⟩:=HA.row n d x hd hx;obtain⟨p1,p2⟩:=HB.row n d y hd hy;have:=F.rng d (Lz3 hd);refine⟨by omega,by omega,fun v hv=>?_,fun v hv=>?_⟩
  ·obtain⟨i,hi⟩:=Yyk hv;exact(q2 i v hi).1
  ·obtain⟨i,hi⟩:=Yyk hv;exact(p2 i v hi).1⟩
theorem zcO(F:Fit o r)(ha:A.length=o.divs.els.length)(hb:B.length=o.divs.els.length)(HA:Rows o (kI o r) A)(HB:Rows o (kI o s) B){H:Sl Zg→Sl Zg→Bool}{Q:zwT→Prop}
  (hq:∀(n:Nat) (key:Int) (x y:Sl Zg),kI o r n key x→kI o s n key y→(H x y=true↔Q ⟨(n:Int),key⟩)):zxk H 0 A B=none↔∀c,inR o c=true→Q c:=by
 have W:=zzl F ha hb HA HB;rw[zgu 0 (by omega) fun m x y h1 h2=>by
  obtain⟨d,hd⟩:∃d,o.divs.els[m]? = some d:=⟨_,Lz5 (by have:=(Lz0.1 h1).1;omega)⟩;exact(W.row m d x y hd h1 h2).1]
 constructor
 ·intro h c hc;obtain⟨n,d,e1,e2,e3,e4⟩:=ud.1 hc;have hn:=(Lz0.1 e2).1;obtain⟨a,hA⟩:∃a,A[n]? = some a:=⟨_,Lz5 (by omega)⟩;obtain⟨b,hB⟩:∃b,B[n]? = some b:=⟨_,Lz5 (by omega)⟩;obtain⟨q1,q2⟩:=HA.row n d a e2 hA;obtain⟨p1,p2⟩:=HB.row n d b e2 hB;obtain⟨j,hj⟩:∃j:Nat,c.num=d.low+(j:Int):=⟨(c.num-d.low).toNat,by omega⟩;obtain⟨x,hx⟩:∃x,a[j]? = some x:=⟨_,Lz5 (by omega)⟩;obtain⟨y,hy⟩:∃y,b[j]? = some y:=⟨_,Lz5 (by omega)⟩;have:=(hq n _ x y (q2 j x hx) (p2 j y hy)).1 (h n a b hA hB j x y hx hy);rw[←hj,←e1]at this;exact this
 ·intro h n a b hA hB j x y hx hy;obtain⟨d,hd⟩:∃d,o.divs.els[n]? = some d:=⟨_,Lz5 (by have:=(Lz0.1 hA).1;omega)⟩;obtain⟨q1,q2⟩:=HA.row n d a hd hA;obtain⟨p1,p2⟩:=HB.row n d b hd hB;have hj:=(Lz0.1 hx).1;refine (hq n _ x y (q2 j x hx) (p2 j y hy)).2 (h _ (ud.2 ⟨n,d,rfl,hd,?_,?_⟩))
  ·show d.low≤d.low+(j:Int);omega
  ·show d.low+(j:Int)≤d.high;omega
theorem zfB{n:Nat}{key:Int}{x y:Sl Zg}(hx:kI o r n key x)(hy:kI o s n key y):x.els=y.els↔∀z,qt o r ⟨(n:Int),key⟩ z↔qt o s ⟨(n:Int),key⟩ z:=by
 constructor
 ·intro h z;rw[←hx.2.2 z,←hy.2.2 z,h]
 ·exact fun h=>zfk _ _ hx.2.1 hy.2.1 fun z=>by rw[hx.2.2 z,hy.2.2 z,h z]
theorem zoH{n:Nat}{key:Int}{x y:Sl Zg}(hx:kI o r n key x)(hy:kI o s n key y):zyw x y=true↔∀z,qt o r ⟨(n:Int),key⟩ z→qt o s ⟨(n:Int),key⟩ z:=by
 rw[zoI]
 constructor
 ·exact fun h z hz=>(hy.2.2 z).1 (h z ((hx.2.2 z).2 hz))
 ·exact fun h z hz=>(hy.2.2 z).2 (h z ((hx.2.2 z).1 hz))
end
def Alike(o:Org)(r s:Reg):Prop:=∀c,inR o c=true→∀z,qt o r c z↔qt o s c z
def In(o:Org)(r s:Reg):Prop:=∀c,inR o c=true→∀z,qt o r c z→qt o s c z
theorem zp9{o:Org}{r s:Reg}:Alike o r s↔In o r s∧In o s r:=
 ⟨fun h=>⟨fun c hc z=>(h c hc z).1,fun c hc z=>(h c hc z).2⟩,fun h c hc z=>⟨h.1 c hc z,h.2 c hc z⟩⟩
section
variable {o:Org} (ho:o.ok) (h0:uX o=0) {r s:Reg} (F:Fit o r) (G:Fit o s) (hr:uW o r=0) (hs:uW o s=0)
include h0 hr in
theorem zB9:zdQ o [r]=0:=by
 unfold zdQ;rw[Yzb (by rw[h0];simp),ji,Yzb (by rw[hr];simp)];rfl
include h0 hr hs in
theorem zAH:zdQ o [r,s]=0:=by
 unfold zdQ;rw[Yzb (by rw[h0];simp),ji,Yzb (by rw[hr];simp),ji,Yzb (by rw[hs];simp)];rfl
include ho h0 F hr in
theorem t17(k:Nat):∃T:List (List (Sl Zg)),D (k+12) 17 [SA (enO o),SA (wn r)]=some (.tup [.one (.lst 1 (T.map zM)),.one (I6 0)])∧T.length=o.divs.els.length∧Rows o (kI o r) T:=by
 obtain⟨T,t1,t2,t3⟩:=t39 F (k+6);refine⟨T,?_,t2,t3⟩;have cc:=t38 k o ho (some [r]) (by simp);rw[yC,zB9 h0 hr]at cc;unfold enO wn at t1 ⊢;unfold enO at cc;rw[D17];unfold P17;rw[show DV.lst 3 [[enL 1 enU r.stops,U64 r.cpls,U64 r.off]]=enL 3 wn (some [r]) from rfl,cc];simp only[zh9,ya,zb,Yyr,YzG,zl,Yzh,if_false,t1,zW]
include ho h0 F G hr hs in
theorem t14(k:Nat):∃(c:zwT) (b:Bool),D (k+12) 14 [SA (enO o),SA (wn r),SA (wn s)]=some (.tup [.agg [I6 c.rank,I6 c.num],.one (Bo b),.one (I6 0)])∧(b=true↔Alike o r s):=by
 obtain⟨A,a1,a2,a3⟩:=t39 F (k+6);obtain⟨B,b1',b2,b3⟩:=t39 G (k+6);have W:=zzl F a2 b2 a3 b3;have c:=t46 W F.dl (fun d hd=>by have:=F.rng d hd;omega) (f:=.fn 47 []) (H:=fun x y=>decide (x.els=y.els)) (k:=k+10) fun x y hx _=>t47 (k+9) x y hx;refine⟨spot o (zxk (fun x y=>decide (x.els=y.els)) 0 A B),(zxk (fun x y=>decide (x.els=y.els)) 0 A B).isNone,?_,?_⟩
 ·have cc:=t38 k o ho (some [r,s]) (by simp);rw[yC,zAH h0 hr hs]at cc;unfold enO wn at a1 b1' ⊢;unfold enO at cc c;rw[D14];unfold P14;rw[show DV.lst 3 [[enL 1 enU r.stops,U64 r.cpls,U64 r.off],[enL 1 enU s.stops,U64 s.cpls,U64 s.off]]=enL 3 wn (some [r,s]) from rfl,cc];simp only[zh9,ya,zb,Yyr,YzG,zl,Yzh,if_false,a1,b1',zW,c];rfl
 ·rw[Option.isNone_iff_eq_none,zcO F a2 b2 a3 b3 (Q:=fun c=>∀z,qt o r c z↔qt o s c z) fun n key x y hx hy=>by rw[decide_eq_true_iff];exact zfB hx hy];rfl
include ho h0 F G hr hs in
theorem t20(k:Nat):∃(c:zwT) (b:Bool),D (k+12) 20 [SA (enO o),SA (wn r),SA (wn s)]=some (.tup [.agg [I6 c.rank,I6 c.num],.one (Bo b),.one (I6 0)])∧(b=true↔In o r s):=by
 obtain⟨A,a1,a2,a3⟩:=t39 F (k+6);obtain⟨B,b1',b2,b3⟩:=t39 G (k+6);have W:=zzl F a2 b2 a3 b3;have c:=t46 W F.dl (fun d hd=>by have:=F.rng d hd;omega) (f:=.fn 50 []) (H:=zyw) (k:=k+10) fun x y hx hy=>t50 (k+4) x y hx hy;refine⟨spot o (zxk zyw 0 A B),(zxk zyw 0 A B).isNone,?_,?_⟩
 ·have cc:=t38 k o ho (some [r,s]) (by simp);rw[yC,zAH h0 hr hs]at cc;unfold enO wn at a1 b1' ⊢;unfold enO at cc c;rw[D20];unfold P20;rw[show DV.lst 3 [[enL 1 enU r.stops,U64 r.cpls,U64 r.off],[enL 1 enU s.stops,U64 s.cpls,U64 s.off]]=enL 3 wn (some [r,s]) from rfl,cc];simp only[zh9,ya,zb,Yyr,YzG,zl,Yzh,if_false,a1,b1',zW,c];rfl
 ·rw[Option.isNone_iff_eq_none,zcO F a2 b2 a3 b3 (Q:=fun c=>∀z,qt o r c z→qt o s c z) fun n key x y hx hy=>zoH hx hy];rfl
end
end Go.Proofs.Tryz.Kn
end
section
namespace Go.Proofs.Tryz.Kn
open Go Go.CE Go.PE
section
variable {A B:List (List (Sl Zg))}
theorem l28(k:Nat)(x y:List (Sl Zg))(hx:x.length≤1000)(hxy:x.length=y.length)(hv:∀v∈x,v.els.length≤1000):∀(r s:List (Sl Zg)) (i:Nat),x.drop i=r→y.drop i=s→
  zL (zoj (D (k+2)) (I6 (x.length:Int)) (enL 1 yN (grow x)) (enL 1 yN (grow y)) (.fn 18 [])) [I6 (i:Int)] []=some (match zxv (fun x y=>decide (x.els=y.els)) i r s with
   |none=>(.exit 0,[],[])
   |some _=>(.ret,[Bo false],[])):=by
 intro r
 induction r with
 |nil=>
  intro s i h g;have h1:=zN h;unfold zxv;refine zr ?_;simp only[zoj,zt,yD,zi,zb,xh h1,zl];rfl
 |cons v r ih=>
  intro s i h g;have h1:=yq h;cases s with
  |nil=>have:=zN g;omega
  |cons w s=>
   have hv:=hv v (Lz3 (zU h));have ea:zwJ .add (I6 (i:Int)) (I6 1)=some (I6 ((i+1:Nat):Int)):=yJ;have ia:zwP 1 (enL 1 yN (grow x)) (I6 (i:Int))=some [enL 2 zwN v]:=by rw[yA,zG,zU h];rfl
   have ib:zwP 1 (enL 1 yN (grow y)) (I6 (i:Int))=some [enL 2 zwN w]:=by rw[yA,zG,zU g];rfl
   have c:zxi (D (k+2)) (.fn 18 []) [S1 (enL 2 zwN v),S1 (enL 2 zwN w)]=some (S1 (Bo (decide (v.els=w.els)))):=by
    have c:=t47 k v w hv;show D (k+2) 18 [S1 (enL 2 zwN v),S1 (enL 2 zwN w)]=_;rw[D18];unfold P18;rw[c];rfl
   have body:zoj (D (k+2)) (I6 (x.length:Int)) (enL 1 yN (grow x)) (enL 1 yN (grow y)) (.fn 18 []) [I6 (i:Int)] []=some (if v.els=w.els then(.normal,[I6 ((i+1:Nat):Int)],[]) else(.ret,[Bo false],[])):=by
    simp only[zoj,zt,yD,zi,zb,zwZ h1,zl,if_true,ia,ib,y3,c,zW,yI,ea];by_cases hz:v.els=w.els<;>simp[hz]
   unfold zxv;by_cases hc:v.els=w.els
   ·rw[Yzd hc]at body;rw[zD body,ih s (i+1) (zA h) (zA g),Yzd (decide_eq_true hc)]
   ·rw[Yzb hc]at body;rw[zy body,Yzb (by simpa using hc)]
theorem t27(k:Nat)(x y:List (Sl Zg))(hx:x.length≤1000)(hxy:x.length=y.length)(hv:∀v∈x,v.els.length≤1000):D (k+4) 27 [S1 (enL 1 yN (grow x)),S1 (enL 1 yN (grow y))]=some (S1 (Bo (zxv (fun x y=>decide (x.els=y.els)) 0 x y).isNone)):=by
 have l:=l28 k x y hx hxy hv x y 0 rfl rfl;have e:((x.length:Int)==(y.length:Int))=true:=by simp[hxy]
 rw[D27];unfold P27;rw[D28];unfold P28;simp only[zF,zG,zb,ya,e,YzG,zl,Yzh,if_false];rw[show (I6 0:DV)=I6 ((0:Nat):Int) from rfl,l];cases zxv (fun x y=>decide (x.els=y.els)) 0 x y<;>rfl
theorem l26(k:Nat){o:Org}(W:Twin o A B)(hdl:o.divs.els.length≤3):∀(a b:List (List (Sl Zg))) (n:Nat),A.drop n=a→B.drop n=b→
  zL (zok (D (k+4)) (I6 (A.length:Int)) (.lst 1 (A.map zM)) (.lst 1 (B.map zM)) (.fn 27 [])) [I6 (n:Int)] []=some (match zxk (fun x y=>decide (x.els=y.els)) n a b with
   |none=>(.exit 0,[],[])
   |some _=>(.ret,[Bo false],[])):=by
 have wa:=W.al;have wb:=W.bl;intro a
 induction a with
 |nil=>
  intro b n h g;have h1:=zN h;unfold zxk;refine zr ?_;simp only[zok,zt,yD,zi,zb,xh h1,zl];rfl
 |cons x a ih=>
  intro b n h g;have h1:=yq h;cases b with
  |nil=>have:=zN g;omega
  |cons y b=>
   obtain⟨d,hd⟩:∃d,o.divs.els[n]? = some d:=⟨_,Lz5 (by omega)⟩;obtain⟨w1,w2,w3,w4⟩:=W.row n d x y hd (zU h) (zU g);have ea:zwJ .add (I6 (n:Int)) (I6 1)=some (I6 ((n+1:Nat):Int)):=yJ;have c:zxi (D (k+4)) (.fn 27 []) [S1 (enL 1 yN (grow x)),S1 (enL 1 yN (grow y))]=some (S1 (Bo (zxv (fun x y=>decide (x.els=y.els)) 0 x y).isNone)):=t27 k x y (by omega) w1 w3;have ja:=zxy (zU h);have jb:=zxy (zU g);have body:zok (D (k+4)) (I6 (A.length:Int)) (.lst 1 (A.map zM)) (.lst 1 (B.map zM)) (.fn 27 []) [I6 (n:Int)] []=some (if (zxv (fun x y=>decide (x.els=y.els)) 0 x y).isNone=true then(.normal,[I6 ((n+1:Nat):Int)],[]) else(.ret,[Bo false],[])):=by
    simp only[zok,zt,yD,zi,zb,zwZ h1,zl,if_true,ja,jb,y3,c,zW,yI,ea];cases (zxv (fun x y=>decide (x.els=y.els)) 0 x y).isNone<;>rfl
   unfold zxk;cases hr:zxv (fun x y=>decide (x.els=y.els)) 0 x y with
   |some j=>
    rw[hr]at body;simp only[Option.isNone_some,Yzh,if_false]at body;rw[zy body]
   |none=>
    rw[hr]at body;simp only[Option.isNone_none,if_true]at body;rw[zD body,ih b (n+1) (zA h) (zA g)]
theorem t26(k:Nat){o:Org}(W:Twin o A B)(hdl:o.divs.els.length≤3):D (k+5) 26 [S1 (.lst 1 (A.map zM)),S1 (.lst 1 (B.map zM)),S1 (.fn 27 [])]=some (S1 (Bo (zxk (fun x y=>decide (x.els=y.els)) 0 A B).isNone)):=by
 have l:=l26 k W hdl A B 0 rfl rfl;have pl:=zyq;have e:((A.length:Int)==(B.length:Int))=true:=by rw[W.al,W.bl];simp
 rw[D26];unfold P26;simp only[pl,zb,ya,e,YzG,zl,Yzh,if_false];rw[show (I6 0:DV)=I6 ((0:Nat):Int) from rfl,l];cases zxk (fun x y=>decide (x.els=y.els)) 0 A B<;>rfl
end
structure Le (o:Org) (r s:Reg):Prop where
 c:∀(i:Nat) (x:Cpl),o.cpls.els[i]? = some x→bit r.cpls i=true→bit s.cpls i=true
 f:∀(n:Nat) (d:Zn),o.divs.els[n]? = some d→bit s.off n=true→bit r.off n=true
 t:∀(n:Nat) (d:Zn) (x:Int) (j:Nat) (t:Zr),o.divs.els[n]? = some d→r.stops.els[n]? = some x→d.stops.els[j]? = some t→bit x j=true→∃y,s.stops.els[n]? = some y∧bit y j=true
section
variable {o:Org} {r s:Reg} (L:Le o r s)
include L
theorem zm2{c:zwT}{thr:Bool}{i:Nat}{x:Cpl}(hx:o.cpls.els[i]? = some x)(h:goes o r c thr i x=true):goes o s c thr i x=true:=by
 unfold goes at h ⊢;simp only[LzC]at h ⊢;exact⟨⟨⟨L.c i x hx h.1.1.1,h.1.1.2⟩,h.1.2⟩,h.2⟩
theorem zpz{c y:zwT}(h:Reach o r c y):Reach o s c y:=by
 induction h with
 |one i x h1 h2=>exact .one i x h1 (zm2 L h1 h2)
 |more z i x _ h1 h2 ih=>exact .more z i x ih h1 (zm2 L h1 h2)
theorem zud:In o r s:=by
 intro c hc z hz;obtain⟨c',h1,d,x,j,t,e1,e2,e3,e4,e5⟩:=hz;obtain⟨y,g1,g2⟩:=L.t _ d x j t e1 e2 e3 e4;refine⟨c',?_,d,y,j,t,e1,g1,e3,g2,e5⟩;rcases h1 with h1|⟨h1,h2⟩
 ·exact .inl (zpz L h1)
 ·refine .inr ⟨?_,h2⟩;obtain⟨n,d,q1,q2,_,_⟩:=ud.1 hc;rw[q1,Yyi]at h1 ⊢;cases hb:bit s.off n with
  |false=>rfl
  |true=>rw[L.f n d q2 hb]at h1;cases h1
end
theorem zp4:((List.range 256).all fun x=>[0,1,2,3].all fun n=>[0,1,2].all fun i=>!bit (zxl (x:Int) (kG n)) i||bit (zxl 255 (kG n)) i)=true:=by kernel_rfl
theorem zp5{x n i:Nat}(hx:x<256)(hn:n≤3)(hi:i<3)(h:bit (zxl (x:Int) (kG n)) i=true):bit (zxl 255 (kG n)) i=true:=by
 have q:=Yz1.1 (Yz1.1 (Yz1.1 zp4 x (List.mem_range.2 hx)) n (by
  have:n=0∨n=1∨n=2∨n=3:=by omega
  rcases this with rfl|rfl|rfl|rfl<;>simp)) i (by
  have:i=0∨i=1∨i=2:=by omega
  rcases this with rfl|rfl|rfl<;>simp)
 rw[h]at q
 simpa using q
theorem qk(b:Nat→Nat):∀(l:List Zn) (i n:Nat) (d:Zn),l[n]? = some d→(vK b i l)[n]? = some (zxl (b ((i+n) % 3):Int) (zmQ d))
 | [],_,_,_,h=>by simp at h
 |e::l,i,n,d,h=>by
  cases n with
  |zero=>
   simp only[Yzg,Option.some.injEq]at h;subst h;rfl
  |succ n=>
   have:=qk b l (i+1) n d (by simpa using h);rw[vK,Yzl,this,show i+1+n=i+(n+1) by omega]
theorem zjb{o:Org}(hd:o.divs.els.length≤3)(hs:∀d∈o.divs.els,d.stops.els.length≤3)(hc:o.cpls.els.length≤3)(b b':Nat→Nat)(hb:∀i,b i<256)(hb':∀i,b' i<256)(h1:∀i,i<4→b' i=b i∨b' i=255)(h2:b 4=b' 4∨b 4=255):Le o (xW o b) (xW o b'):=by
 have all {x y n i:Nat} (hx:x<256) (h:y=x∨y=255) (hn:n≤3) (hi:i<3) (q:bit (zxl (x:Int) (kG n)) i=true):bit (zxl (y:Int) (kG n)) i=true:=by
  rcases h with rfl|rfl
  ·exact q
  ·exact zp5 hx hn hi q
 unfold xW;refine⟨fun i x hx h=>?_,fun n d hd' h=>?_,fun n d x j t hd' hx ht h=>?_⟩
 ·have:=(Lz0.1 hx).1;exact all (hb 3) (h1 3 (by omega)) hc (by omega) h
 ·have:=(Lz0.1 hd').1;exact all (hb' 4) h2 hd (by omega) h
 ·simp only[zG]at hx ⊢;rw[qk b _ 0 n d hd']at hx;cases hx;have:=(Lz0.1 ht).1;have h3:=hs d (Lz3 hd');have hm:(0+n) % 3<3:=Yz2 _ (by omega);exact⟨_,qk b' _ 0 n d hd',all (hb _) (h1 _ (by omega)) h3 (by omega) h⟩
theorem zcf{rs:List Zj}{low high:Int}:∀{l:List Pul} {i:Nat} {s:Zr},s∈xZ rs low high i l→∃j x,s=uo rs low high j x
 | [],_,_,h=>by cases h
 |x::l,i,s,h=>by
  rcases YzO.1 h with rfl|h
  ·exact⟨i,x,rfl⟩
  ·exact zcf h
theorem zoY(rs:List Zj)(low high:Int)(i:Nat)(x:Pul)(key:Int):(zan (uo rs low high i x) key).draws.els.length≤2:=by
 have hall:∀n sh m sh2 a kd,∀g∈xk low high n sh m sh2 a kd,g.draws.els.length≤2:=by
  intro n sh m sh2 a kd;unfold xk;split
  ·simp
  ·split<;>simp
  ·split<;>simp
  ·simp
  ·simp
 unfold zan;cases hf:(uo rs low high i x).segs.els.find? (uZ key) with
 |none=>simp[zle]
 |some g=>exact hall _ _ _ _ _ _ g (List.mem_of_find?_eq_some hf)
theorem zaw{rs:List Zj}:∀{l:List Boa} {i:Nat} {d:Zn},d∈wV rs i l→∃j b,b∈l∧d=zcW rs j b
 | [],_,_,h=>by cases h
 |b::l,i,d,h=>by
  rcases YzO.1 h with rfl|h
  ·exact⟨i,b,Yzi ..,rfl⟩
  ·obtain⟨j,c,h1,h2⟩:=zaw h;exact⟨j,c,Yzf _ h1,h2⟩
theorem zax{n:Nat}:∀{l:List Lnk} {i:Nat} {c:Cpl},c∈jB n i l→∃j b,c=kF n j b
 | [],_,_,h=>by cases h
 |b::l,i,d,h=>by
  rcases YzO.1 h with rfl|h
  ·exact⟨i,b,rfl⟩
  ·exact zax h
theorem zwh(p:Pln)(hf:zcZ p=true)(b:Nat→Nat):Fit (zxz p) (xW (zxz p) b):=by
 obtain⟨f1,f2,f3,f4,f5,f6⟩:=jJ hf;obtain⟨s1,s2,s3⟩:=zdv p hf;have hdv:(zxz p).divs.els=wV (wO 0 p.ranks.els) 0 p.divs.els:=by unfold zxz;simp only[zG]
 have hcp:(zxz p).cpls.els=jB p.divs.els.length 0 p.cpls.els:=by unfold zxz;simp only[zG]
 refine⟨s1,s3,s2,fun d hd=>?_,fun x hx=>?_,fun x hx=>?_,fun d hd s hs=>?_,?_⟩
 ·rw[hdv]at hd;obtain⟨j,b,_,rfl⟩:=zaw hd;have q1:=zeB b;have q2:=zbw b;show 0≤zxo b∧zxo b≤k8 b∧k8 b≤zxo b+8∧k8 b≤127;omega
 ·rw[hcp]at hx;obtain⟨j,l,rfl⟩:=zax hx;rw[hdv,wC];have:=Yz2 l.dst (show p.divs.els.length > 0 by omega);show (0:Int)≤((l.dst % p.divs.els.length:Nat):Int)∧((l.dst % p.divs.els.length:Nat):Int)<_;omega
 ·rw[hcp]at hx;obtain⟨j,l,rfl⟩:=zax hx;have q1:(l.shift.tmod 25).natAbs<25:=by
   rw[Int.natAbs_tmod];exact Yz2 _ (by decide)
  show -1000≤(if _ then 12 else l.shift.tmod 25)∧(if _ then 12 else l.shift.tmod 25)≤1000;split<;>omega
 ·rw[hdv]at hd;obtain⟨j,b,_,rfl⟩:=zaw hd;have hs:s∈(grow (xZ (wO 0 p.ranks.els) (zxo b) (k8 b) 0 b.stops.els)).els:=hs;rw[zG]at hs;refine⟨k7 _ _ _ _ _ s hs,fun key=>?_⟩;obtain⟨i,x,rfl⟩:=zcf hs;exact zoY ..
 ·unfold xW;simp only[zG,qj]
theorem zwD{β:Type}(a b c d:DV)(K:List DS→Option β):bT [some 2,none,none] (some (.tup [.agg [a,b],.one c,.one d])) K=K [.agg [a,b],.one c,.one d]:=rfl
theorem zjg{a b:Bool}{P:Prop}(h:a=true↔P)(g:b=true↔P):a=b:=by
 cases a<;>cases b<;>simp_all
theorem t7(k:Nat)(p:Pln)(hp:p.ok)(b1 b2:Nat→Nat)(hb1:∀i,b1 i<256)(hb2:∀i,b2 i<256):D (k+14) 7 [SA (ze0 p),SA (enB b1),SA (enB b2)]=some (S1 (Bo true)):=by
 have kn:=D9 (k+13);have cf:=t10 (k+12) p hp;unfold ze0 at cf ⊢;unfold enB;rw[D7];unfold P7;simp only[kn,zW,yI,zb,zl,YzG,Yzh,if_false,cf];cases hf:zcZ p with
 |false=>rfl
 |true=>
  have cm:=t11 (k+6) p hp hf;have ho:=zrU p hf;have h0:=zkF p hp hf;obtain⟨s1,s2,s3⟩:=zdv p hf;have FF:=zwh p hf;generalize zxz p=o at cm ho h0 s1 s2 s3 FF;have s2':∀d∈o.divs.els,d.stops.els.length≤60:=fun d hd=>by have:=s2 d hd;omega
  unfold ze0 at cm;have b3:∀i,(fun i=>if i=4 then 255 else b1 i) i<256:=fun i=>by
   show (if i=4 then 255 else b1 i)<256;have:=hb1 i;split<;>omega
  have b4:∀i,(fun i=>if i<4 then 255 else b1 i) i<256:=fun i=>by
   show (if i<4 then 255 else b1 i)<256;have:=hb1 i;split<;>omega
  have d1:=t12 (k+12) o b1 hb1 (by omega) s2' (by omega);have d2:=t12 (k+12) o b2 hb2 (by omega) s2' (by omega);have d3:=t12 (k+12) o (fun i=>if i=4 then 255 else b1 i) b3 (by omega) s2' (by omega);have d4:=t12 (k+12) o (fun i=>if i<4 then 255 else b1 i) b4 (by omega) s2' (by omega);have e1:=vQ h0 b1 hb1 s1 s2 s3;have e2:=vQ h0 b2 hb2 s1 s2 s3;have e3:=vQ h0 (fun i=>if i=4 then 255 else b1 i) b3 s1 s2 s3;have e4:=vQ h0 (fun i=>if i<4 then 255 else b1 i) b4 s1 s2 s3;have L1:=zud (zjb s1 s2 s3 (fun i=>if i=4 then 255 else b1 i) b1 b3 hb1 (fun i hi=>.inl (by show b1 i=if i=4 then 255 else b1 i;rw[Yzb (by omega)])) (.inr rfl));have L2:=zud (zjb s1 s2 s3 b1 (fun i=>if i<4 then 255 else b1 i) hb1 b4 (fun i hi=>.inr (by show (if i<4 then 255 else b1 i)=255;rw[Yzd hi])) (.inl rfl));have F1:=FF b1;have F2:=FF b2;have F3:=FF (fun i=>if i=4 then 255 else b1 i);have F4:=FF (fun i=>if i<4 then 255 else b1 i);unfold enB at d1 d2 d3 d4;simp only[show ((255:Nat):Int)=255 from rfl,show ¬(0:Nat)=4 by decide,show ¬(1:Nat)=4 by decide,show ¬(2:Nat)=4 by decide,show ¬(3:Nat)=4 by decide,show (0:Nat)<4 by decide,show (1:Nat)<4 by decide,show (2:Nat)<4 by decide,show (3:Nat)<4 by decide,show ¬(4:Nat)<4 by decide,if_true,if_false]at d3 d4;generalize xW o b1=r at d1 e1 L1 L2 F1;generalize xW o b2=s at d2 e2 F2;generalize xW o (fun i=>if i=4 then 255 else b1 i)=u at d3 e3 L1 F3;generalize xW o (fun i=>if i<4 then 255 else b1 i)=v at d4 e4 L2 F4;obtain⟨c1,q1,g1,i1⟩:=t14 ho h0 F1 F2 e1 e2 (k+1);obtain⟨c2,q2,g2,i2⟩:=t20 ho h0 F1 F2 e1 e2 (k+1);obtain⟨c3,q3,g3,i3⟩:=t20 ho h0 F2 F1 e2 e1 (k+1);obtain⟨A,a1,a2,a3⟩:=t17 ho h0 F1 e1 (k+1);obtain⟨B,b1',b2',b3'⟩:=t17 ho h0 F2 e2 (k+1);obtain⟨c4,q4,g4,i4⟩:=t20 ho h0 F3 F1 e3 e1 (k+1);obtain⟨c5,q5,g5,i5⟩:=t20 ho h0 F1 F4 e1 e4 (k+1);have W:=zzl F1 a2 b2' a3 b3';have ct:=t26 (k+8) W s1;have it:(zxk (fun x y=>decide (x.els=y.els)) 0 A B).isNone=true↔Alike o r s:=by
   rw[Option.isNone_iff_eq_none,zcO F1 a2 b2' a3 b3' (Q:=fun c=>∀z,qt o r c z↔qt o s c z) fun n key x y hx hy=>by rw[decide_eq_true_iff];exact zfB hx hy];rfl
  have j1:=zjg it i1;rw[j1]at ct;have q4t:q4=true:=i4.2 L1;have q5t:q5=true:=i5.2 L2;rw[q4t]at g4;rw[q5t]at g5;have j2:q1=(q2&&q3):=zjg i1 (by rw[LzC,i2,i3,zp9]);have at4:atD [U8 (b1 0:Int),U8 (b1 1:Int),U8 (b1 2:Int),U8 (b1 3:Int),U8 (b1 4:Int)] 4=U8 (b1 4:Int):=rfl;simp only[YzG,Yzh,if_false,cm,zsY,zu0,d1,d2,zsZ,zuZ,g1,g2,g3,zwD,a1,b1',bT2,zdP,zqO,zaF,ct,zW,d3,at4,d4,g4,g5,wZ,Yyr,zb,zl,if_true];subst j2;cases q2<;>cases q3<;>rfl
end Go.Proofs.Tryz.Kn
end
