/-
  Lemmas. No condition.
-/
import Derived.Test.YtnmjdoahlkcflaaGreatDoorVd
import Derived.Test.YtnmjdoahlkcflaaGreatDoorZj
import Derived.Test.YtnmjdoahlkcflaaGreatDoorZk
import Derived.Test.YtnmjdoahlkcflaaGreatDoorProg
set_option linter.unusedSimpArgs false
set_option linter.unusedVariables false
noncomputable section
namespace Go.Proofs.Tryz.Kc
open Go Go.CE Go.PE
abbrev prog:Program:=Tryz.prog
def kG:Nat→Bool:=fun g=>match g with|_=>false
abbrev redI:Red:=zxx
def an0:Nat→Option LA:=fun _=>none
def zyy:Nat→List PA→Nat→Nat→Option LA:=fun _ _ _ _=>none
abbrev pF(O:Orc)(an:Nat→Option LA)(g:Nat)(args:List DA):Option DA:=zmL prog O kG (inl prog O kG zyy redI 1) an g args
def zAS(_O:Orc)(a:DV):Option DA:=za (zc .neq a a) fun b=>some (S1 b)
theorem zCf(O:Orc)(a0:DV):pF O an0 148 [S1 a0]=zAS O a0:=by kernel_rfl
def zA0(O:Orc)(a b:DV):Option DA:=b1 (O 148 [S1 a]) fun d=>b1 (O 148 [S1 b]) fun c=>ifB d (ifB c (some (S1 (I6 0))) (some (S1 (I6 (-1))))) (ifB c (some (S1 (I6 1))) (za (zc .lss a b) fun e=>ifB e (some (S1 (I6 (-1)))) (za (zc .gtr a b) fun f=>ifB f (some (S1 (I6 1))) (some (S1 (I6 0))))))
theorem zCn(O:Orc)(a0 a1:DV):pF O an0 118 [S1 a0,S1 a1]=zA0 O a0 a1:=by kernel_rfl
def zyD:Nat→Option LA:=fun i=>match i with|0=>some ⟨[.slot 8],[],[],[],[],[],[.slot 2],[],[]⟩|_=>none
def zfG(c d:DV)(a:List DV)(_h:List OC):Option PX:=za (zc .lss (zj a 0) c) fun e=>ifB e (za (yT 1 d (zj a 0)) fun b=>za (zc .neq (atD b 0) (I6 0)) fun f=>ifB f (some (.ret,[atD b 0],[])) (za (zc .add (zj a 0) (I6 1)) fun g=>some (.normal,[g],[]))) (some (.exit 0,[],[]))
def zA1(_O:Orc)(a:DV):Option DA:=za (yC a) fun c=>yB (zJ (zfG c a) [I6 0] []) (fun d _b _e=>bif Nat.beq d 0 then (some (S1 (I6 0))) else(none)) (fun b _e=>some (S1 (zj b 0)))
theorem zCo(O:Orc)(a0:DV):pF O zyD 117 [S1 a0]=zA1 O a0:=by kernel_rfl
def P90(O:Orc)(a b c d:DV):Option DA:=b1 (O 118 [S1 a,S1 c]) fun e=>b1 (O 118 [S1 b,S1 d]) fun f=>b1s (O 117 [S1 (.lst 1 [[e],[f]])]) fun g=>some (S1 g)
theorem p90(O:Orc)(a b c d:DV):pF O an0 90 [SA [a,b],SA [c,d]]=P90 O a b c d:=by kernel_rfl
def P94(O:Orc)(a b c d:DV):Option DA:=b1 (O 118 [S1 a,S1 c]) fun e=>b1 (O 118 [S1 b,S1 d]) fun f=>b1s (O 117 [S1 (.lst 1 [[e],[f]])]) fun g=>some (S1 g)
theorem p94(O:Orc)(a b c d:DV):pF O an0 94 [SA [a,b],SA [c,d]]=P94 O a b c d:=by kernel_rfl
def zAT(O:Orc)(a b c d:DV):Option DA:=b1 (O 118 [S1 a,S1 c]) fun e=>b1 (O 118 [S1 b,S1 d]) fun f=>b1s (O 117 [S1 (.lst 1 [[e],[f]])]) fun g=>some (S1 g)
theorem zCg(O:Orc)(a b c d:DV):pF O an0 137 [SA [a,b],SA [c,d]]=zAT O a b c d:=by kernel_rfl
def anT(g:Nat):Nat→Option LA:=match g with
 |117=>zyD
 |_=>an0
def ziV(g:Nat):Nat→List PA→Nat→Nat→Option LA:=match g with
 |_=>zyy
theorem zDh{sums:List CE.Sum}{B:Orc}{k:Nat}(a0:DV)(hB:B 148 [S1 a0]=none)(hs:sums.all (fun s=>!Nat.beq 148 s.g)=true):deep prog sums B anT kG ziV redI 1 (k+1) 148 [S1 a0]=zAS (deep prog sums B anT kG ziV redI 1 k) a0:=(uC hB hs).trans (zCf _ _)
theorem zDj{sums:List CE.Sum}{B:Orc}{k:Nat}(a0 a1:DV)(hB:B 118 [S1 a0,S1 a1]=none)(hs:sums.all (fun s=>!Nat.beq 118 s.g)=true):deep prog sums B anT kG ziV redI 1 (k+1) 118 [S1 a0,S1 a1]=zA0 (deep prog sums B anT kG ziV redI 1 k) a0 a1:=(uC hB hs).trans (zCn _ _ _)
theorem zDk{sums:List CE.Sum}{B:Orc}{k:Nat}(a0:DV)(hB:B 117 [S1 a0]=none)(hs:sums.all (fun s=>!Nat.beq 117 s.g)=true):deep prog sums B anT kG ziV redI 1 (k+1) 117 [S1 a0]=zA1 (deep prog sums B anT kG ziV redI 1 k) a0:=(uC hB hs).trans (zCo _ _)
theorem d90{sums:List CE.Sum}{B:Orc}{k:Nat}(a b c d:DV)(hB:B 90 [SA [a,b],SA [c,d]]=none)(hs:sums.all (fun s=>!Nat.beq 90 s.g)=true):deep prog sums B anT kG ziV redI 1 (k+1) 90 [SA [a,b],SA [c,d]]=P90 (deep prog sums B anT kG ziV redI 1 k) a b c d:=(uC hB hs).trans (p90 _ _ _ _ _)
theorem d94{sums:List CE.Sum}{B:Orc}{k:Nat}(a b c d:DV)(hB:B 94 [SA [a,b],SA [c,d]]=none)(hs:sums.all (fun s=>!Nat.beq 94 s.g)=true):deep prog sums B anT kG ziV redI 1 (k+1) 94 [SA [a,b],SA [c,d]]=P94 (deep prog sums B anT kG ziV redI 1 k) a b c d:=(uC hB hs).trans (p94 _ _ _ _ _)
theorem zDi{sums:List CE.Sum}{B:Orc}{k:Nat}(a b c d:DV)(hB:B 137 [SA [a,b],SA [c,d]]=none)(hs:sums.all (fun s=>!Nat.beq 137 s.g)=true):deep prog sums B anT kG ziV redI 1 (k+1) 137 [SA [a,b],SA [c,d]]=zAT (deep prog sums B anT kG ziV redI 1 k) a b c d:=(uC hB hs).trans (zCg _ _ _ _ _)
end Go.Proofs.Tryz.Kc
end
section
namespace Go.Proofs.Tryz.Kn
open Go Go.Shelf
def layR:Go.Shelf.Ren:=⟨fun|6=>89|15=>116|14=>115|28=>146|29=>147|20=>138|21=>139|22=>140|23=>141|24=>142|25=>143|26=>144|27=>145|46=>167|47=>168|48=>169|49=>170|50=>171|57=>183|n=>n,fun|22=>101|24=>29|25=>179|3=>3|39=>105|0=>0|53=>240|55=>47|4=>4|46=>234|45=>233|50=>197|5=>5|9=>9|66=>254|70=>258|76=>272|77=>273|n=>n,fun|n=>n⟩
theorem layS:SlLaysF0.n6 Tryz.prog layR where
 mixed:=by kernel_rfl
 f6:=⟨Tryz.f89.name,by kernel_rfl,Tryz.func89.trans (congrArg some (by kernel_rfl))⟩
 f14:=⟨Tryz.f115.name,by kernel_rfl,Tryz.func115.trans (congrArg some (by kernel_rfl))⟩
 f15:=Tryz.func116.trans (congrArg some (by kernel_rfl))
 f20:=⟨Tryz.f138.name,by kernel_rfl,Tryz.func138.trans (congrArg some (by kernel_rfl))⟩
 f21:=⟨Tryz.f139.name,by kernel_rfl,Tryz.func139.trans (congrArg some (by kernel_rfl))⟩
 f22:=⟨Tryz.f140.name,by kernel_rfl,Tryz.func140.trans (congrArg some (by kernel_rfl))⟩
 f23:=⟨Tryz.f141.name,by kernel_rfl,Tryz.func141.trans (congrArg some (by kernel_rfl))⟩
 f24:=⟨Tryz.f142.name,by kernel_rfl,Tryz.func142.trans (congrArg some (by kernel_rfl))⟩
 f25:=⟨Tryz.f143.name,by kernel_rfl,Tryz.func143.trans (congrArg some (by kernel_rfl))⟩
 f26:=⟨Tryz.f144.name,by kernel_rfl,Tryz.func144.trans (congrArg some (by kernel_rfl))⟩
 f27:=⟨Tryz.f145.name,by kernel_rfl,Tryz.func145.trans (congrArg some (by kernel_rfl))⟩
 f28:=Tryz.func146.trans (congrArg some (by kernel_rfl))
 f29:=Tryz.func147.trans (congrArg some (by kernel_rfl))
 f46:=⟨Tryz.f167.name,by kernel_rfl,Tryz.func167.trans (congrArg some (by kernel_rfl))⟩
 f47:=Tryz.func168.trans (congrArg some (by kernel_rfl))
 f48:=Tryz.func169.trans (congrArg some (by kernel_rfl))
 f49:=⟨Tryz.f170.name,by kernel_rfl,Tryz.func170.trans (congrArg some (by kernel_rfl))⟩
 f50:=⟨Tryz.f171.name,by kernel_rfl,Tryz.func171.trans (congrArg some (by kernel_rfl))⟩
 f57:=⟨Tryz.f183.name,by kernel_rfl,Tryz.func183.trans (congrArg some (by kernel_rfl))⟩
 t0:=Tryz.underlying0
 a0:=Tryz.isAgg0
 z0:=Tryz.sizeOf0
 v0:=Tryz.zeroValue0
 t3:=Tryz.underlying3
 a3:=Tryz.isAgg3
 z3:=Tryz.sizeOf3
 v3:=Tryz.zeroValue3
 t4:=Tryz.underlying4
 a4:=Tryz.isAgg4
 z4:=Tryz.sizeOf4
 v4:=Tryz.zeroValue4
 t5:=Tryz.underlying5
 a5:=Tryz.isAgg5
 z5:=Tryz.sizeOf5
 v5:=Tryz.zeroValue5
 t9:=Tryz.underlying9
 a9:=Tryz.isAgg9
 z9:=Tryz.sizeOf9
 v9:=Tryz.zeroValue9
 t22:=Tryz.underlying101
 a22:=Tryz.isAgg101
 z22:=Tryz.sizeOf101
 v22:=Tryz.zeroValue101
 t25:=Tryz.underlying179
 a25:=Tryz.isAgg179
 z25:=Tryz.sizeOf179
 v25:=Tryz.zeroValue179
 t39:=Tryz.underlying105
 a39:=Tryz.isAgg105
 z39:=Tryz.sizeOf105
 v39:=Tryz.zeroValue105
 t45:=Tryz.underlying233
 a45:=Tryz.isAgg233
 z45:=Tryz.sizeOf233
 v45:=Tryz.zeroValue233
 t46:=Tryz.underlying234
 a46:=Tryz.isAgg234
 z46:=Tryz.sizeOf234
 v46:=Tryz.zeroValue234
 t50:=Tryz.underlying197
 a50:=Tryz.isAgg197
 z50:=Tryz.sizeOf197
 v50:=Tryz.zeroValue197
 t53:=Tryz.underlying240
 a53:=Tryz.isAgg240
 z53:=Tryz.sizeOf240
 v53:=Tryz.zeroValue240
 t55:=Tryz.underlying47
 a55:=Tryz.isAgg47
 z55:=Tryz.sizeOf47
 v55:=Tryz.zeroValue47
 t66:=Tryz.underlying254
 a66:=Tryz.isAgg254
 z66:=Tryz.sizeOf254
 v66:=Tryz.zeroValue254
 t70:=Tryz.underlying258
 a70:=Tryz.isAgg258
 z70:=Tryz.sizeOf258
 v70:=Tryz.zeroValue258
 t76:=Tryz.underlying272
 a76:=Tryz.isAgg272
 z76:=Tryz.sizeOf272
 v76:=Tryz.zeroValue272
 t77:=Tryz.underlying273
 a77:=Tryz.isAgg273
 z77:=Tryz.sizeOf273
 v77:=Tryz.zeroValue273
end Go.Proofs.Tryz.Kn
end
section
namespace Go.Proofs.Tryz.Kn
open Go Go.Shelf
def layR2:Go.Shelf.Ren:=⟨fun|6=>93|15=>116|14=>119|28=>146|29=>147|20=>149|21=>150|22=>151|23=>152|24=>153|25=>154|26=>155|27=>156|46=>172|47=>168|48=>169|49=>173|50=>174|57=>184|n=>n,fun|22=>136|24=>100|25=>184|3=>3|39=>105|0=>0|53=>240|55=>47|4=>4|46=>234|45=>233|50=>197|5=>5|9=>9|66=>254|70=>258|76=>272|77=>273|n=>n,fun|n=>n⟩
theorem layS2:SlLaysF0.n6 Tryz.prog layR2 where
 mixed:=by kernel_rfl
 f6:=⟨Tryz.f93.name,by kernel_rfl,Tryz.func93.trans (congrArg some (by kernel_rfl))⟩
 f14:=⟨Tryz.f119.name,by kernel_rfl,Tryz.func119.trans (congrArg some (by kernel_rfl))⟩
 f15:=Tryz.func116.trans (congrArg some (by kernel_rfl))
 f20:=⟨Tryz.f149.name,by kernel_rfl,Tryz.func149.trans (congrArg some (by kernel_rfl))⟩
 f21:=⟨Tryz.f150.name,by kernel_rfl,Tryz.func150.trans (congrArg some (by kernel_rfl))⟩
 f22:=⟨Tryz.f151.name,by kernel_rfl,Tryz.func151.trans (congrArg some (by kernel_rfl))⟩
 f23:=⟨Tryz.f152.name,by kernel_rfl,Tryz.func152.trans (congrArg some (by kernel_rfl))⟩
 f24:=⟨Tryz.f153.name,by kernel_rfl,Tryz.func153.trans (congrArg some (by kernel_rfl))⟩
 f25:=⟨Tryz.f154.name,by kernel_rfl,Tryz.func154.trans (congrArg some (by kernel_rfl))⟩
 f26:=⟨Tryz.f155.name,by kernel_rfl,Tryz.func155.trans (congrArg some (by kernel_rfl))⟩
 f27:=⟨Tryz.f156.name,by kernel_rfl,Tryz.func156.trans (congrArg some (by kernel_rfl))⟩
 f28:=Tryz.func146.trans (congrArg some (by kernel_rfl))
 f29:=Tryz.func147.trans (congrArg some (by kernel_rfl))
 f46:=⟨Tryz.f172.name,by kernel_rfl,Tryz.func172.trans (congrArg some (by kernel_rfl))⟩
 f47:=Tryz.func168.trans (congrArg some (by kernel_rfl))
 f48:=Tryz.func169.trans (congrArg some (by kernel_rfl))
 f49:=⟨Tryz.f173.name,by kernel_rfl,Tryz.func173.trans (congrArg some (by kernel_rfl))⟩
 f50:=⟨Tryz.f174.name,by kernel_rfl,Tryz.func174.trans (congrArg some (by kernel_rfl))⟩
 f57:=⟨Tryz.f184.name,by kernel_rfl,Tryz.func184.trans (congrArg some (by kernel_rfl))⟩
 t0:=Tryz.underlying0
 a0:=Tryz.isAgg0
 z0:=Tryz.sizeOf0
 v0:=Tryz.zeroValue0
 t3:=Tryz.underlying3
 a3:=Tryz.isAgg3
 z3:=Tryz.sizeOf3
 v3:=Tryz.zeroValue3
 t4:=Tryz.underlying4
 a4:=Tryz.isAgg4
 z4:=Tryz.sizeOf4
 v4:=Tryz.zeroValue4
 t5:=Tryz.underlying5
 a5:=Tryz.isAgg5
 z5:=Tryz.sizeOf5
 v5:=Tryz.zeroValue5
 t9:=Tryz.underlying9
 a9:=Tryz.isAgg9
 z9:=Tryz.sizeOf9
 v9:=Tryz.zeroValue9
 t22:=Tryz.underlying136
 a22:=Tryz.isAgg136
 z22:=Tryz.sizeOf136
 v22:=Tryz.zeroValue136
 t25:=Tryz.underlying184
 a25:=Tryz.isAgg184
 z25:=Tryz.sizeOf184
 v25:=Tryz.zeroValue184
 t39:=Tryz.underlying105
 a39:=Tryz.isAgg105
 z39:=Tryz.sizeOf105
 v39:=Tryz.zeroValue105
 t45:=Tryz.underlying233
 a45:=Tryz.isAgg233
 z45:=Tryz.sizeOf233
 v45:=Tryz.zeroValue233
 t46:=Tryz.underlying234
 a46:=Tryz.isAgg234
 z46:=Tryz.sizeOf234
 v46:=Tryz.zeroValue234
 t50:=Tryz.underlying197
 a50:=Tryz.isAgg197
 z50:=Tryz.sizeOf197
 v50:=Tryz.zeroValue197
 t53:=Tryz.underlying240
 a53:=Tryz.isAgg240
 z53:=Tryz.sizeOf240
 v53:=Tryz.zeroValue240
 t55:=Tryz.underlying47
 a55:=Tryz.isAgg47
 z55:=Tryz.sizeOf47
 v55:=Tryz.zeroValue47
 t66:=Tryz.underlying254
 a66:=Tryz.isAgg254
 z66:=Tryz.sizeOf254
 v66:=Tryz.zeroValue254
 t70:=Tryz.underlying258
 a70:=Tryz.isAgg258
 z70:=Tryz.sizeOf258
 v70:=Tryz.zeroValue258
 t76:=Tryz.underlying272
 a76:=Tryz.isAgg272
 z76:=Tryz.sizeOf272
 v76:=Tryz.zeroValue272
 t77:=Tryz.underlying273
 a77:=Tryz.isAgg273
 z77:=Tryz.sizeOf273
 v77:=Tryz.zeroValue273
end Go.Proofs.Tryz.Kn
end
noncomputable section
namespace Go.Proofs.Tryz.Kc
open Go Go.CE Go.PE
def D0(k:Nat):Orc:=deep prog [] (fun _ _=>none) anT kG ziV redI 1 k
theorem zBb(k:Nat):kE (D0 k) (fun n=>zQ (zS prog) (cFs (yL prog)) [] redI.s n):=zgW zr1 (fun g hg=>by cases hg) (fun g hg=>by cases hg) (fun g args res e=>by cases e) k
theorem zBd(k:Nat)(a:Int):D0 (k+1) 148 [S1 (I6 a)]=some (S1 (Bo false)):=by refine (zDh _ rfl rfl).trans ?_;simp_all[zAS]
def znA(a b:Int):Int:=if a<b then -1 else if b<a then 1 else 0
theorem zwb(k:Nat)(a b:Int):D0 (k+2) 118 [S1 (I6 a),S1 (I6 b)]=some (S1 (I6 (znA a b))):=by
 refine (zDj _ _ rfl rfl).trans ?_;have h1:=zBd k a;have h2:=zBd k b;unfold D0 at h1 h2;unfold zA0 znA;simp only[h1,h2,zG,zh,Yze,if_false,zg,zb,ye,Yzs]
 grind
theorem zzu(k:Nat)(p q:Int):D0 (k+1) 117 [S1 (.lst 1 [[I6 p],[I6 q]])]=some (S1 (I6 (if p=0 then q else p))):=by
 refine (zDk _ rfl rfl).trans ?_;unfold zA1;have i0:yT 1 (.lst 1 [[I6 p],[I6 q]]) (I6 0)=some [I6 p]:=rfl;have i1:yT 1 (.lst 1 [[I6 p],[I6 q]]) (I6 1)=some [I6 q]:=rfl;have l0:yC (.lst 1 [[I6 p],[I6 q]])=some (I6 2):=rfl;have a0:zc .add (I6 0) (I6 1)=some (I6 1):=rfl;have a1:zc .add (I6 1) (I6 1)=some (I6 2):=rfl;have b0:zfG (I6 2) (.lst 1 [[I6 p],[I6 q]]) [I6 0] []=some (if p=0 then(.normal,[I6 1],[]) else(.ret,[I6 p],[])):=by grind[zfG,zA,zg,zb,zh,yM,zM]
 have b1':zfG (I6 2) (.lst 1 [[I6 p],[I6 q]]) [I6 1] []=some (if q=0 then(.normal,[I6 2],[]) else(.ret,[I6 q],[])):=by grind[zfG,zA,zg,zb,zh,yM,zM]
 have b2:zfG (I6 2) (.lst 1 [[I6 p],[I6 q]]) [I6 2] []=some (.exit 0,[],[]):=by rfl
 simp only[l0,zb];by_cases h:p=0
 ·rw[Yzd h]at b0 ⊢;rw[zF b0];by_cases h2:q=0
  ·rw[Yzd h2]at b1';rw[zF b1',zr b2,h2];rfl
  ·rw[Yzb h2]at b1';rw[zx b1'];rfl
 ·rw[Yzb h]at b0 ⊢;rw[zx b0];rfl
theorem zj8(a b c d:Int):(if znA a c=0 then znA b d else znA a c)=zq6 [a,b] [c,d]:=by grind[znA,zq6,ltZ]
theorem u90(k:Nat)(a b c d:Int):D0 (k+3) 90 [SA [I6 a,I6 b],SA [I6 c,I6 d]]=some (S1 (I6 (zq6 [a,b] [c,d]))):=by refine (d90 _ _ _ _ rfl rfl).trans ?_;have h1:=zwb k a c;have h2:=zwb k b d;have h3:=zzu (k+1) (znA a c) (znA b d);simp_all[D0,P90,znw,zj8]
theorem zB0(k:Nat)(a b c d:Int):D0 (k+3) 137 [SA [I6 a,I6 b],SA [I6 c,I6 d]]=some (S1 (I6 (zq6 [a,b] [c,d]))):=by refine (zDi _ _ _ _ rfl rfl).trans ?_;have h1:=zwb k a c;have h2:=zwb k b d;have h3:=zzu (k+1) (znA a c) (znA b d);simp_all[D0,zAT,znw,zj8]
theorem u94(k:Nat)(a b c d:Int):D0 (k+3) 94 [SA [I6 a,I6 b],SA [I6 c,I6 d]]=some (S1 (I6 (zq6 [a,b] [c,d]))):=by refine (d94 _ _ _ _ rfl rfl).trans ?_;have h1:=zwb k a c;have h2:=zwb k b d;have h3:=zzu (k+1) (znA a c) (znA b d);simp_all[D0,P94,znw,zj8]
theorem zj9(k:Nat):Cmp k zq6:=fun x y _ _=>by grind[zq6]
theorem zsP{fz:BN→Prop}{h:Za}{v:Zb}{a:Int}(hv:RepA fz h v (S1 (I6 a))):v=.s (.one (.int .i64 a)):=by
 obtain⟨v',hv',h1⟩:=RepA.inv hv;subst hv';cases v' with
 |agg l=>trivial
 |one c=>rw[Rep.scal h1 rfl]
theorem zqj{f:Nat}{a b c d r:Int}(e:D0 3 f [SA [I6 a,I6 b],SA [I6 c,I6 d]]=some (S1 (I6 r))):∃call h2,yQ prog call∧call (.inl f) [.s (.agg ([a,b].map (Zc.int .i64))),.s (.agg ([c,d].map (Zc.int .i64)))] ⟨.z,.nil⟩=some (.s (.one (.int .i64 r)),h2):=by
 have hnil:∀b,(Tr.nil:Tr Zf).get b=none:=by simp
 obtain⟨⟨v,h2⟩,⟨_,_,hv⟩,N,hN⟩:=zBb 3 f _ _ e (fun _=>False) ⟨.z,.nil⟩ [.s (.agg ([a,b].map (Zc.int .i64))),.s (.agg ([c,d].map (Zc.int .i64)))] (fun b o hb=>by grind) (fun b hb=>hb.elim) ⟨zc5 _ _ [a,b],zc5 _ _ [c,d],trivial⟩;refine⟨_,h2,zg4 (sums:=[]) (zf6 prog) (fun s hs=>by cases hs) (zr0 (P:=prog)) N,?_⟩;refine (hN N (LzB _)).trans ?_
 grind[zsP]
theorem zwf{x:List Int}(h:ziA 2 x):∃a b,x=[a,b]∧-2305843009213693952≤a∧a≤2305843009213693952∧-2305843009213693952≤b∧b≤2305843009213693952:=by
 match x,h.1 with
 | [a,b],_=>
  have:=h.2;unfold inZ at this
  grind
theorem zsN(f:Nat)(hf:f∈[90,137]):∃cf,Cmp 2 cf∧∀x y:List Int,ziA 2 x→ziA 2 y→∃call h2,yQ prog call∧call (.inl f) [.s (.agg (x.map (Zc.int .i64))),.s (.agg (y.map (Zc.int .i64)))] ⟨.z,.nil⟩=some (.s (.one (.int .i64 (cf x y))),h2):=by
 simp only[Yzu,Yzv,or_false]at hf;rcases hf with rfl|rfl
 ·refine⟨zq6,zj9 2,fun x y hx hy=>?_⟩;obtain⟨a,b,rfl,_⟩:=zwf hx;obtain⟨c,d,rfl,_⟩:=zwf hy;exact zqj (u90 0 a b c d)
 ·refine⟨zq6,zj9 2,fun x y hx hy=>?_⟩;obtain⟨a,b,rfl,_⟩:=zwf hx;obtain⟨c,d,rfl,_⟩:=zwf hy;exact zqj (zB0 0 a b c d)
theorem zqk(f:Nat)(hf:f∈[94]):∃cf,Cmp 2 cf∧∀x y:List Int,ziA 2 x→ziA 2 y→∃call h2,yQ prog call∧call (.inl f) [.s (.agg (x.map (Zc.int .i64))),.s (.agg (y.map (Zc.int .i64)))] ⟨.z,.nil⟩=some (.s (.one (.int .i64 (cf x y))),h2):=by simp only[Yzu,Yzv,or_false]at hf;subst hf;refine⟨zq6,zj9 2,fun x y hx hy=>?_⟩;obtain⟨a,b,rfl,_⟩:=zwf hx;obtain⟨c,d,rfl,_⟩:=zwf hy;exact zqj (u94 0 a b c d)
def zvq:Res→Bool
 |some (.tup [],_)=>true
 |_=>false
theorem zpJ{r:Res}(h:zvq r=true):∃h2,r=some (.tup [],h2):=by
 unfold zvq at h
 grind
def zCv(g f:Nat):Res:=zgN (zS prog) (cFs (yL prog)) [] 100000 (.inl g) [.s (.one .nils),.s (.one (.fn f []))] ⟨.z,.nil⟩
theorem zo4{g f:Nat}(h:zvq (zCv g f)=true):∃call h2,yQ prog call∧call (.inl g) [.s (.one .nils),.s (.one (.fn f []))] ⟨.z,.nil⟩=some (.tup [],h2):=by obtain⟨h2,e⟩:=zpJ h;exact⟨_,h2,zg5 (sums:=[]) (zf6 prog) (fun s hs=>by cases hs) 100000,e⟩
theorem zr2(f:Nat)(hf:f∈[90,137]):∃call h2,yQ prog call∧call (.inl 89) [.s (.one .nils),.s (.one (.fn f []))] ⟨.z,.nil⟩=some (.tup [],h2):=by
 simp only[Yzu,Yzv,or_false]at hf;rcases hf with rfl|rfl
 ·exact zo4 (by kernel_rfl)
 ·exact zo4 (by kernel_rfl)
theorem zo5(f:Nat)(hf:f∈[94]):∃call h2,yQ prog call∧call (.inl 93) [.s (.one .nils),.s (.one (.fn f []))] ⟨.z,.nil⟩=some (.tup [],h2):=by simp only[Yzu,Yzv,or_false]at hf;subst hf;exact zo4 (by kernel_rfl)
def zBf:Srt:=⟨[90,137],2⟩
def zBg:Srt:=⟨[94],2⟩
theorem srtP_ok:ziy prog 89 zBf:=zta (ρ:=Kn.layR) (t:=zBf) Kn.layS (fun w=>by kernel_rfl) (fun w=>by kernel_rfl) zsN zr2
theorem srtC_ok:ziy prog 93 zBg:=zta (ρ:=Kn.layR2) (t:=zBg) Kn.layS2 (fun w=>by kernel_rfl) (fun w=>by kernel_rfl) zqk zo5
end Go.Proofs.Tryz.Kc
end
noncomputable section
namespace Go.Proofs.Tryz.Kn
open Go Go.CE Go.PE
abbrev prog:Program:=Tryz.prog
def kG:Nat→Bool:=fun g=>match g with|57=>true|89=>true|91=>true|93=>true|95=>true|92=>true|114=>true|28=>true|50=>true|42=>true|67=>true|11=>true|_=>false
abbrev redI:Red:=⟨fun _ _=>none,fun g=>match g with|89=>some ⟨[90,137],2⟩|93=>some ⟨[94],2⟩|_=>none⟩
def an0:Nat→Option LA:=fun _=>none
def zyy:Nat→List PA→Nat→Nat→Option LA:=fun _ _ _ _=>none
abbrev pF(O:Orc)(an:Nat→Option LA)(g:Nat)(args:List DA):Option DA:=zmL prog O kG (inl prog O kG zyy redI 5) an g args
def an4:Nat→Option LA:=fun i=>match i with|0=>some ⟨[.slot 7],[],[],[],[],[],[.slot 6],[],[]⟩|_=>none
def an6:Nat→Option LA:=fun i=>match i with|0=>some ⟨[.slot 3],[],[],[],[],[],[.slot 2],[],[]⟩|_=>none
def zqN(a:DV)(b:List DV)(_j:List OC):Option PX:=za (yC a) fun c=>za (zc .lss (zj b 0) c) fun d=>ifB d (za (yT 4 a (zj b 0)) fun e=>za (yC (atD e 3)) fun f=>za (zc .gtr f (I6 3)) fun g=>ifB g (some (.ret,[.bool false],[])) (za (zc .add (zj b 0) (I6 1)) fun h=>some (.normal,[h],[]))) (some (.exit 0,[],[]))
def P6(_O:Orc)(a b c:DV):Option DA:=za (yC a) fun e=>za (zc .lss e (I6 1)) fun f=>ifB f (some (S1 (.bool false))) (za (yC a) fun g=>za (zc .gtr g (I6 3)) fun h=>ifB h (some (S1 (.bool false))) (za (yC b) fun j=>za (zc .lss j (I6 1)) fun k=>ifB k (some (S1 (.bool false))) (za (yC b) fun l=>za (zc .gtr l (I6 3)) fun m=>ifB m (some (S1 (.bool false))) (za (yC c) fun n=>za (zc .gtr n (I6 3)) fun o=>ifB o (some (S1 (.bool false))) (yB (zJ (zqN b) [I6 0] []) (fun p _d _q=>bif Nat.beq p 0 then (some (S1 (.bool true))) else(none)) (fun d _q=>some (S1 (zj d 0))))))))
theorem p6(O:Orc)(a b c:DV):pF O an6 6 [SA [a,b,c]]=P6 O a b c:=by kernel_rfl
def an7:Nat→Option LA:=fun i=>match i with|0=>some ⟨[.slot 4,.cell 2 0],[(.cell 2 1,6),(.cell 2 2,5),(.cell 2 3,5)],[(2,4)],[],[.cell 2 0],[(.cell 2 1,6),(.cell 2 2,5),(.cell 2 3,5)],[.cell 2 0,.cell 2 2,.cell 2 3],[(.cell 2 1,6)],[]⟩|1=>some ⟨[.slot 5,.cell 2 0,.cell 2 1],[(.cell 2 2,5),(.cell 2 3,5)],[(2,4)],[],[.cell 2 0,.cell 2 1],[(.cell 2 2,5),(.cell 2 3,5)],[.cell 2 0,.cell 2 1],[(.cell 2 2,5),(.cell 2 3,5)],[3]⟩|2=>some ⟨[.slot 9,.cell 10 0,.cell 10 1,.cell 10 2,.cell 10 3],[(.cell 10 4,4)],[(10,5)],[],[.cell 10 0,.cell 10 1,.cell 10 2,.cell 10 3],[(.cell 10 4,4)],[.cell 10 0,.cell 10 1,.cell 10 2,.cell 10 3],[(.cell 10 4,4)],[]⟩|3=>some ⟨[.slot 11,.cell 2 0,.cell 2 1],[(.cell 2 2,5),(.cell 2 3,5)],[(2,4)],[],[.cell 2 0,.cell 2 1],[(.cell 2 2,5),(.cell 2 3,5)],[.cell 2 0,.cell 2 1],[(.cell 2 2,5),(.cell 2 3,5)],[]⟩|_=>none
def zqI(a j:DV)(b:List DV)(c:List OC):Option PX:=za (yC a) fun k=>za (zc .lss (zj b 0) k) fun l=>ifB l (za (yT 4 a (zj b 0)) fun d=>za (zc .add (I6 48) (zj b 0)) fun m=>za (xn .u8 m) fun n=>za (zoK (.lst 1 [[n]])) fun o=>za (zoC .add (.str ⟨#[67]⟩) o) fun g=>za (xn .i64 (atD d 0)) fun p=>za (zc .rem p j) fun e=>za (xn .i64 (atD d 1)) fun q=>za (zc .rem q j) fun f=>za (xn .i64 (atD d 2)) fun r=>za (zc .rem r (I6 25)) fun h=>za (zc .eql e f) fun s=>ifB s (za (zc .eql h (I6 0)) fun t=>ifB t (gd (fits 48 (wD (zI c 1)+1)) (za (zc .add (zj b 0) (I6 1)) fun v=>some (.normal,[v,zj b 1,zj b 2],[zI c 0,some (zC (zI c 1)++[[g,e,f,I6 12,atD d 3]])]))) (gd (fits 48 (wD (zI c 1)+1)) (za (zc .add (zj b 0) (I6 1)) fun w=>some (.normal,[w,zj b 1,zj b 2],[zI c 0,some (zC (zI c 1)++[[g,e,f,h,atD d 3]])])))) (gd (fits 48 (wD (zI c 1)+1)) (za (zc .add (zj b 0) (I6 1)) fun x=>some (.normal,[x,zj b 1,zj b 2],[zI c 0,some (zC (zI c 1)++[[g,e,f,h,atD d 3]])])))) (some (.exit 6,[zj b 1,zj b 2],[zI c 0,zI c 1]))
def zqJ(O:Orc)(e f:List DV)(a:List DV)(d:List OC):Option PX:=za (yC (atD e 3)) fun g=>za (zc .lss (zj a 0) g) fun h=>ifB h (za (yT 4 (atD e 3) (zj a 0)) fun b=>bA 4 (O 25 [S1 (zj f 2),SA [zj a 3,zj a 4],SA [atD b 0,atD b 1,atD b 2,atD b 3],S1 (zj a 0)]) fun c=>gd (fits 56 (wD (zI d 0)+1)) (za (zc .add (zj a 0) (I6 1)) fun j=>some (.normal,[j,zj a 1,zj a 2,zj a 3,zj a 4],[some (zC (zI d 0)++[[atD c 0,atD c 1,atD c 2,atD c 3]])]))) (some (.exit 4,[zj a 1,zj a 2,zj a 3,zj a 4],[zI d 0]))
def zqK(O:Orc)(a:DV)(b:List DV)(c:List OC):Option PX:=za (yC a) fun j=>za (zc .lss (zj b 0) j) fun k=>ifB k (za (yT 4 a (zj b 0)) fun e=>za (zc .rem (atD e 0) (U8 12)) fun l=>za (xn .i64 l) fun m=>za (zc .add (I6 36) m) fun g=>za (zc .add (I6 48) (zj b 0)) fun n=>za (xn .u8 n) fun o=>za (zoK (.lst 1 [[o]])) fun p=>za (zoC .add (.str ⟨#[68]⟩) p) fun q=>za (zc .rem (atD e 1) (U8 9)) fun r=>za (xn .i64 r) fun s=>za (zc .add g s) fun t=>yB (zJ (zqJ O e b) [I6 0,q,atD e 2,g,t] [none]) (fun f d h=>bif Nat.beq f 4 then (gd (fits 64 (wD (zI c 0)+1)) (za (zc .add (zj b 0) (I6 1)) fun v=>some (.normal,[v,zj b 1,zj b 2],[some (zC (zI c 0)++[[zj d 0,zj d 1,zj d 2,zj d 3,mkL 4 (zI h 0)]]),zI c 1]))) else(bif Nat.beq f 3 then (za (zc .add (zj b 0) (I6 1)) fun w=>some (.normal,[w,zj b 1,zj b 2],[zI c 0,zI c 1])) else(some (.exit f,[zj b 1,zj b 2],[zI c 0,zI c 1])))) (fun _d _h=>none)) (some (.exit 2,[zj b 1,zj b 2],[zI c 0,zI c 1]))
def zyJ(O:Orc)(a:DV)(d:List DV)(c:List OC):Option PX:=za (yC a) fun f=>za (zc .lss (zj d 0) f) fun g=>ifB g (za (yT 9 a (zj d 0)) fun b=>bA 6 (O 24 [SA [atD b 0,atD b 1,atD b 2,atD b 3,atD b 4,atD b 5,atD b 6,atD b 7,atD b 8],S1 (zj d 0)]) fun e=>gd (fits 80 (wD (zI c 0)+1)) (za (zc .add (zj d 0) (I6 1)) fun h=>some (.normal,[h,zj d 1],[some (zC (zI c 0)++[[atD e 0,atD e 1,atD e 2,atD e 3,atD e 4,atD e 5]]),zI c 1,zI c 2]))) (some (.exit 0,[zj d 1],[zI c 0,zI c 1,zI c 2]))
def P7(O:Orc)(a b c:DV):Option DA:=yB (zJ (zyJ O a) [I6 0,.str ⟨#[79,114,103,97,110]⟩] [none,none,none]) (fun k j d=>bif Nat.beq k 0 then (yB (zJ (zqK O b) [I6 0,zj j 0,mkL 6 (zI d 0)] [zI d 1,zI d 2]) (fun l e f=>bif Nat.beq l 2 then (za (yC b) fun m=>yB (zJ (zqI c m) [I6 0,zj e 0,zj e 1] [zI f 0,zI f 1]) (fun n g h=>bif Nat.beq n 6 then (some (SA [zj g 0,zj g 1,mkL 5 (zI h 0),mkL 5 (zI h 1)])) else(none)) (fun _g _h=>none)) else(none)) (fun _e _f=>none)) else(none)) (fun _j _d=>none)
theorem p7(O:Orc)(a b c:DV):pF O an7 7 [SA [a,b,c]]=P7 O a b c:=by kernel_rfl
def an9:Nat→Option LA:=fun i=>match i with|0=>some ⟨[.slot 28,.cell 1 0,.cell 1 1,.cell 1 2],[(.slot 9,1)],[(1,3)],[],[.cell 1 0,.cell 1 1,.cell 1 2],[(.slot 9,1)],[.cell 1 0,.cell 1 1,.cell 1 2],[],[]⟩|_=>none
def zyI(O:Orc)(h j a b c d:DV)(e:List DV)(g:List OC):Option PX:=za (zc .lss (zj e 0) h) fun k=>ifB k (za (yT 3 j (zj e 0)) fun f=>b1 (O 27 [SA [a,b,c,d],SA [zj e 1,zj e 2,zj e 3],SA [atD f 0,atD f 1,atD f 2]]) fun l=>za (xY l) fun m=>ifB m (gd (fits 8 (wD (zI g 0)+1)) (za (zc .add (zj e 0) (I6 1)) fun n=>some (.normal,[n,atD f 0,atD f 1,atD f 2],[some (zC (zI g 0)++[[zj e 0]])]))) (za (zc .add (zj e 0) (I6 1)) fun o=>some (.normal,[o,atD f 0,atD f 1,atD f 2],[zI g 0]))) (some (.exit 0,[zj e 1,zj e 2,zj e 3],[zI g 0]))
def P9(O:Orc)(a b c d f:DV):Option DA:=b1 (O 17 [SA [a,b,c,d],S1 f]) fun g=>za (zc .neq g (I6 0)) fun j=>ifB j (some (.tup [.one .nils,.one g])) (bT [some 3,none] (O 26 [SA [a,b,c,d]]) fun e=>za (zc .neq (dsO (zm e 1)) (I6 0)) fun k=>ifB k (some (.tup [.one .nils,.one (dsO (zm e 1))])) (za (yC f) fun l=>yB (zJ (zyI O l f a b c d) [I6 0,atD (dsA (zm e 0)) 0,atD (dsA (zm e 0)) 1,atD (dsA (zm e 0)) 2] [none]) (fun m _n h=>bif Nat.beq m 0 then (some (.tup [.one (mkL 1 (zI h 0)),.one (I6 0)])) else(none)) (fun _n _h=>none)))
theorem p9(O:Orc)(a b c d a1:DV):pF O an9 9 [SA [a,b,c,d],S1 a1]=P9 O a b c d a1:=by kernel_rfl
def zBX:Nat→Option LA:=fun i=>match i with|0=>some ⟨[.slot 52,.cell 2 0,.cell 3 0,.cell 4 0],[],[(2,1),(3,1),(4,1)],[],[.cell 2 0,.cell 3 0,.cell 4 0],[],[.cell 2 0,.cell 3 0,.cell 4 0],[],[]⟩|_=>none
def zyx:Nat→List PA→Nat→Nat→Option LA:=fun h _ n i=>match h,n,i with|50,9,0=>some ⟨[.slot 9,.cell 2 0,.cell 3 0,.cell 4 0],[],[(2,1),(3,1),(4,1)],[],[.cell 2 0,.cell 3 0,.cell 4 0],[],[.st 8 0,.cell 2 0,.cell 3 0,.cell 4 0],[],[]⟩|50,9,1=>some ⟨[.slot 5,.cell 2 0,.cell 3 0,.cell 4 0],[],[(2,1),(3,1),(4,1)],[],[.cell 2 0,.cell 3 0,.cell 4 0],[],[.st 8 0,.cell 2 0,.cell 3 0,.cell 4 0],[],[]⟩|_,_,_=>none
def zyN(O:Orc)(j:List DV)(a b c d:DV)(g k:List DV)(f h:DV)(l:List DV)(e:List DV)(_q:List OC):Option PX:=za (zc .leq (zj e 0) (atD j 3)) fun m=>ifB m (bT [none,none] (O 29 [SA [a,b,c,d],SA [atD g 0,atD g 1,atD g 2],SA [zj k 0,zj e 0]]) fun n=>b1 (O 30 [S1 (dsO (zm n 0)),SA [f,h]]) fun o=>ifB o (some (.ret,[I6 0,zj l 0,.bool true,I6 0],[])) (za (zc .add (zj e 0) (I6 1)) fun p=>some (.normal,[p,zj e 1,zj e 2,zj e 3],[]))) (some (.exit 2,[zj e 1,zj e 2,zj e 3],[]))
def zyO(O:Orc)(l a b c d:DV)(m:List DV)(f h:DV)(n:List DV)(g:List DV)(_s:List OC):Option PX:=za (zc .lss (zj g 0) l) fun o=>ifB o (za (yT 5 a (zj g 0)) fun k=>yB (zJ (zyN O k b c a d m g f h n) [atD k 2,zj g 1,zj g 2,zj g 3] []) (fun j e _p=>bif Nat.beq j 2 then (za (zc .add (zj g 0) (I6 1)) fun q=>some (.normal,[q,zj e 0,zj e 1,zj e 2],[])) else(bif Nat.beq j 1 then (za (zc .add (zj g 0) (I6 1)) fun r=>some (.normal,[r,zj e 0,zj e 1,zj e 2],[])) else(some (.exit j,[zj e 0,zj e 1,zj e 2],[])))) (fun e _p=>some (.ret,[I6 0,zj e 1,zj e 2,zj e 3],[]))) (some (.exit 0,[zj g 1,zj g 2,zj g 3],[]))
def zyP(O:Orc)(j k a b c d f h:DV)(e:List DV)(_r:List OC):Option PX:=za (zc .lss (zj e 0) j) fun l=>ifB l (za (yT 3 k (zj e 0)) fun m=>za (yC a) fun n=>yB (zJ (zyO O n a b c d m f h e) [I6 0,zj e 1,zj e 2,zj e 3] []) (fun o g _p=>bif Nat.beq o 0 then (za (zc .add (zj e 0) (I6 1)) fun q=>some (.normal,[q,zj g 0,zj g 1,zj g 2],[])) else(none)) (fun g _p=>some (.ret,[zj g 1,zj g 2,zj g 3],[]))) (some (.exit 0,[zj e 1,zj e 2,zj e 3],[]))
def P10(O:Orc)(a b c d g f h:DV):Option DA:=b1 (O 17 [SA [a,b,c,d],S1 g]) fun j=>za (zc .neq j (I6 0)) fun k=>ifB k (some (.tup [.one (I6 0),.one (.bool false),.one j])) (za (zc .lss f (I6 0)) fun l=>ifB l (some (.tup [.one (I6 0),.one (.bool false),.one (I6 10)])) (za (yC b) fun m=>za (zc .geq f m) fun n=>ifB n (some (.tup [.one (I6 0),.one (.bool false),.one (I6 10)])) (za (zc .lss h (I6 0)) fun o=>ifB o (some (.tup [.one (I6 0),.one (.bool false),.one (I6 10)])) (za (yT 6 b f) fun p=>za (yC (atD p 5)) fun q=>za (zc .geq h q) fun r=>ifB r (some (.tup [.one (I6 0),.one (.bool false),.one (I6 10)])) (za (yC g) fun s=>yB (zJ (zyP O s g c a b d f h) [I6 0,I6 0,.bool false,I6 0] []) (fun t _e _v=>bif Nat.beq t 0 then (some (.tup [.one (I6 0),.one (.bool false),.one (I6 0)])) else(none)) (fun e _v=>some (.tup [.one (zj e 0),.one (zj e 1),.one (zj e 2)])))))))
theorem p10(O:Orc)(a b c d a1 f h:DV):zmL prog O kG (inl prog O kG zyx redI 5) zBX 10 [SA [a,b,c,d],S1 a1,SA [f,h]]=P10 O a b c d a1 f h:=by kernel_rfl
def ug(a b c d f h:DV)(e:List DV)(g:List OC):Option PX:=za (yC a) fun j=>za (zc .lss (zj e 0) j) fun k=>ifB k (za (zc .rem (zj e 0) (I6 3)) fun l=>za (uG 5 l) fun m=>za (xn .u64 (atD [b,c,d,f,h] m)) fun n=>za (yT 5 a (zj e 0)) fun o=>za (yC (atD o 4)) fun p=>za (xn .u64 p) fun q=>za (kI true (U64 1) q) fun r=>za (zc .sub r (U64 1)) fun s=>za (zc .and n s) fun t=>gd (fits 8 (wD (zI g 0)+1)) (za (zc .add (zj e 0) (I6 1)) fun v=>some (.normal,[v,zj e 1,zj e 2],[some (zC (zI g 0)++[[t]])]))) (some (.exit 0,[zj e 1,zj e 2],[zI g 0]))
def zDB:Nat→Option LA:=fun i=>match i with|0=>some ⟨[.slot 7],[],[],[],[],[],[.slot 6],[],[]⟩|1=>some ⟨[.slot 8],[],[],[],[],[],[.slot 6],[],[]⟩|2=>some ⟨[.slot 60],[],[],[],[],[],[.slot 6],[],[]⟩|_=>none
def un(O:Orc)(c:DV)(d e:List DS)(a:List DV)(_k:List OC):Option PX:=za (zc .lss (zj a 0) c) fun f=>ifB f (za (yT 2 (dsO (zm d 0)) (zj a 0)) fun b=>b1 (O 31 [S1 (dsO (zm e 0)),SA [atD b 0,atD b 1]]) fun g=>za (xY g) fun h=>ifB h (some (.ret,[.bool true],[])) (za (zc .add (zj a 0) (I6 1)) fun j=>some (.normal,[j],[]))) (some (.exit 4,[],[]))
def jg(O:Orc)(a:DV)(g:List DV)(b c d f h j m r s:DV)(e:List DV)(_y:List OC):Option PX:=za (yT 5 a (zj g 0)) fun o=>za (zc .leq (zj e 0) (atD o 3)) fun p=>ifB p (bT [none,none] (O 29 [SA [b,c,a,d],SA [f,h,j],SA [zj g 0,zj e 0]]) fun q=>bT [none,none] (O 29 [SA [b,c,a,d],SA [m,r,s],SA [zj g 0,zj e 0]]) fun l=>za (yC (dsO (zm l 0))) fun t=>yB (zJ (un O t l q) [I6 0] []) (fun k _n _v=>bif Nat.beq k 4 then (za (zc .add (zj e 0) (I6 1)) fun w=>some (.normal,[w],[])) else(bif Nat.beq k 3 then (za (zc .add (zj e 0) (I6 1)) fun x=>some (.normal,[x],[])) else(some (.exit k,[],[])))) (fun n _v=>some (.ret,[zj n 0],[]))) (some (.exit 2,[],[]))
def jh(O:Orc)(a b c d f h j m r s:DV)(e:List DV)(_v:List OC):Option PX:=za (yC a) fun l=>za (zc .lss (zj e 0) l) fun n=>ifB n (za (yT 5 a (zj e 0)) fun o=>yB (zJ (jg O a e b c d f h j m r s) [atD o 2] []) (fun g _k _p=>bif Nat.beq g 2 then (za (zc .add (zj e 0) (I6 1)) fun q=>some (.normal,[q],[])) else(bif Nat.beq g 1 then (za (zc .add (zj e 0) (I6 1)) fun t=>some (.normal,[t],[])) else(some (.exit g,[],[])))) (fun k _p=>some (.ret,[zj k 0],[]))) (some (.exit 0,[],[]))
def P12(O:Orc)(a b c d f h j m r s:DV):Option DA:=yB (zJ (jh O c a b d f h j m r s) [I6 0] []) (fun g _e _k=>bif Nat.beq g 0 then (some (S1 (.bool false))) else(none)) (fun e _k=>some (S1 (zj e 0)))
theorem p12(O:Orc)(a b c d f h j m r s:DV):pF O zDB 12 [SA [a,b,c,d],SA [f,h,j],SA [m,r,s]]=P12 O a b c d f h j m r s:=by kernel_rfl
def zDA:Nat→Option LA:=fun i=>match i with|0=>some ⟨[.slot 7],[],[],[],[],[],[.slot 6],[],[]⟩|1=>some ⟨[.slot 8],[],[],[],[],[],[.slot 6],[],[]⟩|_=>none
def je(O:Orc)(a:DV)(g:List DV)(b c d f h j m r:DV)(e:List DV)(_q:List OC):Option PX:=za (yT 5 a (zj g 0)) fun k=>za (zc .leq (zj e 0) (atD k 3)) fun l=>ifB l (bT [none,none] (O 29 [SA [b,c,a,d],SA [f,h,j],SA [zj g 0,zj e 0]]) fun n=>b1 (O 31 [S1 (dsO (zm n 0)),SA [m,r]]) fun o=>ifB o (some (.ret,[.bool true],[])) (za (zc .add (zj e 0) (I6 1)) fun p=>some (.normal,[p],[]))) (some (.exit 2,[],[]))
def jf(O:Orc)(a b c d f h j m r:DV)(e:List DV)(_t:List OC):Option PX:=za (yC a) fun l=>za (zc .lss (zj e 0) l) fun n=>ifB n (za (yT 5 a (zj e 0)) fun o=>yB (zJ (je O a e b c d f h j m r) [atD o 2] []) (fun g _k _p=>bif Nat.beq g 2 then (za (zc .add (zj e 0) (I6 1)) fun q=>some (.normal,[q],[])) else(bif Nat.beq g 1 then (za (zc .add (zj e 0) (I6 1)) fun s=>some (.normal,[s],[])) else(some (.exit g,[],[])))) (fun k _p=>some (.ret,[zj k 0],[]))) (some (.exit 0,[],[]))
def P13(O:Orc)(a b c d f h j m r:DV):Option DA:=yB (zJ (jf O c a b d f h j m r) [I6 0] []) (fun g _e _k=>bif Nat.beq g 0 then (some (S1 (.bool false))) else(none)) (fun e _k=>some (S1 (zj e 0)))
theorem p13(O:Orc)(a b c d f h j m r:DV):pF O zDA 13 [SA [a,b,c,d],SA [f,h,j],SA [m,r]]=P13 O a b c d f h j m r:=by kernel_rfl
def qu:Nat→Option LA:=fun i=>match i with|0=>some ⟨[.slot 5],[],[],[],[],[],[.slot 4],[],[]⟩|_=>none
def jn(b c:DV)(a:List DV)(_k:List OC):Option PX:=za (yC b) fun d=>za (zc .lss (zj a 0) d) fun e=>ifB e (za (yT 1 b (zj a 0)) fun f=>za (yT 1 c (zj a 0)) fun g=>za (zc .neq (atD f 0) (atD g 0)) fun h=>ifB h (some (.ret,[.bool false],[])) (za (zc .add (zj a 0) (I6 1)) fun j=>some (.normal,[j],[]))) (some (.exit 0,[],[]))
def P14(_O:Orc)(a b:DV):Option DA:=za (yC a) fun d=>za (yC b) fun e=>za (zc .neq d e) fun f=>ifB f (some (S1 (.bool false))) (yB (zJ (jn a b) [I6 0] []) (fun g _c _h=>bif Nat.beq g 0 then (some (S1 (.bool true))) else(none)) (fun c _h=>some (S1 (zj c 0))))
theorem p14(O:Orc)(a0 a1:DV):pF O qu 14 [S1 a0,S1 a1]=P14 O a0 a1:=by kernel_rfl
def zBV:Nat→Option LA:=fun i=>match i with|0=>some ⟨[.slot 19],[],[],[],[],[],[.slot 4],[],[]⟩|_=>none
def zqZ(O:Orc)(k h a b c d:DV)(e:List DV)(_t:List OC):Option PX:=za (zc .lss (zj e 0) k) fun l=>ifB l (za (yT 3 h (zj e 0)) fun f=>b1 (O 32 [SA [a,b,c,d],SA [atD f 0,atD f 1,atD f 2]]) fun j=>za (zc .neq j (I6 0)) fun m=>ifB m (some (.ret,[j],[])) (za (zc .gtr (zj e 0) (I6 0)) fun n=>ifB n (za (zc .sub (zj e 0) (I6 1)) fun o=>za (yT 3 h o) fun g=>b1 (O 36 [SA [atD g 0,atD g 1,atD g 2],SA [atD f 0,atD f 1,atD f 2]]) fun p=>za (xY p) fun q=>ifB q (some (.ret,[I6 6],[])) (za (zc .add (zj e 0) (I6 1)) fun r=>some (.normal,[r],[]))) (za (zc .add (zj e 0) (I6 1)) fun s=>some (.normal,[s],[])))) (some (.exit 0,[],[]))
def P17(O:Orc)(a b c d e:DV):Option DA:=b1 (O 35 [SA [a,b,c,d]]) fun f=>za (zc .neq f (I6 0)) fun h=>ifB h (some (S1 f)) (za (yC e) fun j=>za (zc .gtr j (I6 100)) fun k=>ifB k (some (S1 (I6 4))) (za (yC e) fun l=>yB (zJ (zqZ O l e a b c d) [I6 0] []) (fun m _g _n=>bif Nat.beq m 0 then (some (S1 (I6 0))) else(none)) (fun g _n=>some (S1 (zj g 0)))))
theorem p17(O:Orc)(a b c d a1:DV):pF O zBV 17 [SA [a,b,c,d],S1 a1]=P17 O a b c d a1:=by kernel_rfl
def zBS:Nat→Option LA:=fun i=>match i with|0=>some ⟨[.slot 6,.cell 4 0,.cell 4 1,.cell 4 2,.cell 4 3,.cell 4 4],[(.cell 4 5,1)],[(4,6)],[],[.cell 4 0,.cell 4 1,.cell 4 2,.cell 4 3,.cell 4 4],[(.cell 4 5,1)],[.cell 4 0,.cell 4 1,.cell 4 2,.cell 4 3,.cell 4 4],[(.cell 4 5,1)],[]⟩|_=>none
def ziJ(a b c d f h:DV)(e:List DV)(g:List OC):Option PX:=za (zc .rem a (U8 25)) fun j=>za (xn .i64 j) fun k=>za (zc .add (I6 1) k) fun l=>za (zc .lss (zj e 0) l) fun m=>ifB m (za (zc .rem (zj e 0) (I6 5)) fun n=>za (uG 5 n) fun o=>za (xn .i64 (atD [b,c,d,f,h] o)) fun p=>gd (fits 8 (wD (zI g 0)+1)) (za (zc .add (zj e 0) (I6 1)) fun q=>some (.normal,[q,zj e 1,zj e 2,zj e 3,zj e 4,zj e 5],[some (zC (zI g 0)++[[p]])]))) (some (.exit 0,[zj e 1,zj e 2,zj e 3,zj e 4,zj e 5],[zI g 0]))
def P24(O:Orc)(a b c d f h j m r l:DV):Option DA:=za (zc .rem l (I6 10)) fun n=>za (zc .add (I6 48) n) fun o=>za (xn .u8 o) fun p=>za (zoK (.lst 1 [[p]])) fun q=>za (zoC .add (.str ⟨#[82]⟩) q) fun s=>za (zc .rem a (U8 3)) fun t=>za (wC (some [[.str ⟨#[79,112,101,110]⟩],[.str ⟨#[70,108,117,116,101]⟩],[.str ⟨#[82,101,101,100]⟩]]) t) fun v=>za (zbW (some [[.str ⟨#[79,112,101,110]⟩],[.str ⟨#[70,108,117,116,101]⟩],[.str ⟨#[82,101,101,100]⟩]]) v) fun w=>bA 2 (O 45 [S1 b]) fun g=>za (xn .i64 c) fun x=>yB (zJ (ziJ d f h j m r) [I6 0,s,atD w 0,atD g 0,atD g 1,x] [none]) (fun y e k=>bif Nat.beq y 0 then (some (SA [zj e 0,zj e 1,zj e 2,zj e 3,zj e 4,mkL 1 (zI k 0)])) else(none)) (fun _e _k=>none)
theorem p24(O:Orc)(a b c d f h j m r a1:DV):pF O zBS 24 [SA [a,b,c,d,f,h,j,m,r],S1 a1]=P24 O a b c d f h j m r a1:=by kernel_rfl
def P25(O:Orc)(m a b c d f h C:DV):Option DA:=za (xn .i64 c) fun E=>za (yC m) fun F=>za (zc .rem E F) fun g=>za (zc .add (I6 48) C) fun G=>za (xn .u8 G) fun H=>za (zoK (.lst 1 [[H]])) fun J=>za (zoC .add (.str ⟨#[83]⟩) J) fun l=>bA 2 (O 46 [S1 d]) fun e=>za (yT 6 m g) fun q=>bT [none,none] (O 47 [SA [atD e 0,atD e 1],SA [atD q 2,atD q 3]]) fun k=>za (xn .i64 h) fun K=>za (zc .sub b a) fun L=>za (zc .add L (I6 1)) fun M=>za (zc .rem K M) fun N=>za (zc .add a N) fun j=>za (zc .rem f (U8 6)) fun n=>za (zc .eql n (U8 2)) fun P=>ifB P (za (zc .add (dsO (zm k 0)) (I6 7)) fun Q=>some (SA [l,atD e 0,atD e 1,.lst 3 [[a,b,.lst 2 [[g,dsO (zm k 0)],[g,Q]]]]])) (za (zc .eql n (U8 3)) fun R=>ifB R (za (zc .sub (dsO (zm k 0)) (I6 12)) fun r=>za (zc .rem f (U8 6)) fun S=>za (zc .eql S (U8 3)) fun T=>ifB T (za (zc .add g (I6 1)) fun U=>za (yC m) fun V=>za (zc .rem U V) fun o=>za (yT 6 m o) fun s=>bT [none,none] (O 47 [SA [atD e 0,atD e 1],SA [atD s 2,atD s 3]]) fun t=>za (zc .gtr j a) fun W=>ifB W (za (zc .sub j (I6 1)) fun v=>gd (fits 40 1) (gd (fits 40 (wD (some (zC none++[[a,v,.lst 2 [[g,dsO (zm k 0)]]]]))+1)) (some (SA [l,atD e 0,atD e 1,.lst 3 (zC (some (zC none++[[a,v,.lst 2 [[g,dsO (zm k 0)]]]]))++[[j,b,.lst 2 [[o,dsO (zm t 0)]]]])])))) (gd (fits 40 1) (some (SA [l,atD e 0,atD e 1,.lst 3 (zC none++[[j,b,.lst 2 [[o,dsO (zm t 0)]]]])])))) (za (zc .gtr j a) fun X=>ifB X (za (zc .sub j (I6 1)) fun w=>gd (fits 40 1) (gd (fits 40 (wD (some (zC none++[[a,w,.lst 2 [[g,dsO (zm k 0)]]]]))+1)) (some (SA [l,atD e 0,atD e 1,.lst 3 (zC (some (zC none++[[a,w,.lst 2 [[g,dsO (zm k 0)]]]]))++[[j,b,.lst 2 [[g,r]]]])])))) (gd (fits 40 1) (some (SA [l,atD e 0,atD e 1,.lst 3 (zC none++[[j,b,.lst 2 [[g,r]]]])]))))) (za (zc .eql n (U8 4)) fun Y=>ifB Y (za (zc .sub (dsO (zm k 0)) (I6 12)) fun x=>za (zc .rem f (U8 6)) fun Z=>za (zc .eql Z (U8 3)) fun aa=>ifB aa (za (zc .add g (I6 1)) fun ab=>za (yC m) fun ac=>za (zc .rem ab ac) fun p=>za (yT 6 m p) fun y=>bT [none,none] (O 47 [SA [atD e 0,atD e 1],SA [atD y 2,atD y 3]]) fun z=>za (zc .gtr j a) fun ad=>ifB ad (za (zc .sub j (I6 1)) fun A=>gd (fits 40 1) (gd (fits 40 (wD (some (zC none++[[a,A,.lst 2 [[g,dsO (zm k 0)]]]]))+1)) (some (SA [l,atD e 0,atD e 1,.lst 3 (zC (some (zC none++[[a,A,.lst 2 [[g,dsO (zm k 0)]]]]))++[[j,b,.lst 2 [[p,dsO (zm z 0)]]]])])))) (gd (fits 40 1) (some (SA [l,atD e 0,atD e 1,.lst 3 (zC none++[[j,b,.lst 2 [[p,dsO (zm z 0)]]]])])))) (za (zc .gtr j a) fun ae=>ifB ae (za (zc .sub j (I6 1)) fun B=>gd (fits 40 1) (gd (fits 40 (wD (some (zC none++[[a,B,.lst 2 [[g,dsO (zm k 0)]]]]))+1)) (some (SA [l,atD e 0,atD e 1,.lst 3 (zC (some (zC none++[[a,B,.lst 2 [[g,dsO (zm k 0)]]]]))++[[j,b,.lst 2 [[g,x]]]])])))) (gd (fits 40 1) (some (SA [l,atD e 0,atD e 1,.lst 3 (zC none++[[j,b,.lst 2 [[g,x]]]])]))))) (za (zc .eql n (U8 5)) fun af=>ifB af (some (SA [l,atD e 0,atD e 1,.lst 3 [[j,b,.lst 2 [[g,dsO (zm k 0)]]]]])) (some (SA [l,atD e 0,atD e 1,.lst 3 [[a,b,.lst 2 [[g,dsO (zm k 0)]]]]])))))
theorem p25(O:Orc)(a0 a b c d f h a3:DV):pF O an0 25 [S1 a0,SA [a,b],SA [c,d,f,h],S1 a3]=P25 O a0 a b c d f h a3:=by kernel_rfl
def P26(O:Orc)(a b c d:DV):Option DA:=b1 (O 35 [SA [a,b,c,d]]) fun e=>za (zc .neq e (I6 0)) fun g=>ifB g (some (.tup [.agg [.nils,U64 0,U64 0],.one e])) (za (yC c) fun f=>za (mkN 8 f f) fun h=>some (.tup [.agg [.lst 1 (List.replicate h [U64 0]),U64 0,U64 0],.one (I6 0)]))
theorem p26(O:Orc)(a b c d:DV):pF O an0 26 [SA [a,b,c,d]]=P26 O a b c d:=by kernel_rfl
def zyv:Nat→List PA→Nat→Nat→Option LA:=fun h _ n i=>match h,n,i with|50,6,0=>some ⟨[.slot 9,.cell 3 0],[],[(3,1)],[],[.cell 3 0],[],[.st 5 0,.cell 3 0],[],[]⟩|50,6,1=>some ⟨[.slot 5,.cell 3 0],[],[(3,1)],[],[.cell 3 0],[],[.st 5 0,.cell 3 0],[],[]⟩|_,_,_=>none
def zqX(O:Orc)(k:List DV)(a b c d f h j:DV)(g:List DV)(m r s:DV)(e:List DV)(_t:List OC):Option PX:=za (zc .leq (zj e 0) (atD k 3)) fun l=>ifB l (bT [none,none] (O 29 [SA [a,b,c,d],SA [f,h,j],SA [zj g 0,zj e 0]]) fun n=>bT [none,none] (O 29 [SA [a,b,c,d],SA [m,r,s],SA [zj g 0,zj e 0]]) fun o=>b1s (O 48 [S1 (dsO (zm o 0)),.s (.one (.fn 49 [[dsO (zm n 0)]]))]) fun p=>ifB p (some (.ret,[I6 0,.bool true],[])) (za (zc .add (zj e 0) (I6 1)) fun q=>some (.normal,[q,zj e 1],[]))) (some (.exit 2,[zj e 1],[]))
def zqY(O:Orc)(n a b c d f h j m r s:DV)(e:List DV)(_v:List OC):Option PX:=za (zc .lss (zj e 0) n) fun o=>ifB o (za (yT 5 a (zj e 0)) fun l=>yB (zJ (zqX O l b c a d f h j e m r s) [atD l 2,zj e 1] []) (fun k g _p=>bif Nat.beq k 2 then (za (zc .add (zj e 0) (I6 1)) fun q=>some (.normal,[q,zj g 0],[])) else(bif Nat.beq k 1 then (za (zc .add (zj e 0) (I6 1)) fun t=>some (.normal,[t,zj g 0],[])) else(some (.exit k,[zj g 0],[])))) (fun g _p=>some (.ret,[I6 0,zj g 1],[]))) (some (.exit 0,[zj e 1],[]))
def P27(O:Orc)(a b c d f h j m r s:DV):Option DA:=za (yC c) fun g=>yB (zJ (zqY O g c a b d f h j m r s) [I6 0,.bool false] []) (fun k _e _l=>bif Nat.beq k 0 then (some (S1 (.bool false))) else(none)) (fun e _l=>some (S1 (zj e 1)))
theorem p27(O:Orc)(a b c d f h j m r s:DV):zmL prog O kG (inl prog O kG zyv redI 5) an0 27 [SA [a,b,c,d],SA [f,h,j],SA [m,r,s]]=P27 O a b c d f h j m r s:=by kernel_rfl
def P29(O:Orc)(a b c d f h j m r:DV):Option DA:=b1 (O 51 [SA [a,b,c,d],SA [f,h,j],SA [m,r]]) fun e=>za (zc .neq e (I6 0)) fun g=>ifB g (some (.tup [.one .nils,.one e])) (b1 (O 52 [SA [a,b,c,d],SA [f,h,j],S1 (.lst 2 [[m,r]])]) fun k=>some (.tup [.one k,.one (I6 0)]))
theorem p29(O:Orc)(a b c d f h j m r:DV):pF O an0 29 [SA [a,b,c,d],SA [f,h,j],SA [m,r]]=P29 O a b c d f h j m r:=by kernel_rfl
def P30(O:Orc)(c a b:DV):Option DA:=b1 (O 53 [S1 c,SA [a,b]]) fun d=>za (zc .geq d (I6 0)) fun e=>some (S1 e)
theorem p30(O:Orc)(a0 a b:DV):pF O an0 30 [S1 a0,SA [a,b]]=P30 O a0 a b:=by kernel_rfl
def qt:Nat→Option LA:=fun i=>match i with|0=>some ⟨[.slot 5],[],[],[],[],[],[.slot 4],[],[]⟩|_=>none
def jd(d a b:DV)(c:List DV)(_k:List OC):Option PX:=za (yC d) fun f=>za (zc .lss (zj c 0) f) fun g=>ifB g (za (yT 2 d (zj c 0)) fun e=>za (zhi [1,1] [atD e 0,atD e 1] [a,b]) fun h=>ifB (.bool h) (some (.ret,[.bool true],[])) (za (zc .add (zj c 0) (I6 1)) fun j=>some (.normal,[j],[]))) (some (.exit 0,[],[]))
def P31(_O:Orc)(d a b:DV):Option DA:=yB (zJ (jd d a b) [I6 0] []) (fun e _c _f=>bif Nat.beq e 0 then (some (S1 (.bool false))) else(none)) (fun c _f=>some (S1 (zj c 0)))
theorem p31(O:Orc)(a0 a b:DV):pF O qt 31 [S1 a0,SA [a,b]]=P31 O a0 a b:=by kernel_rfl
def zBR:Nat→Option LA:=fun i=>match i with|0=>some ⟨[.slot 23],[],[],[],[],[],[.slot 4],[],[]⟩|_=>none
def zqW(d a b:DV)(c:List DV)(_m:List OC):Option PX:=za (zc .lss (zj c 0) d) fun e=>ifB e (za (yT 5 a (zj c 0)) fun f=>za (yT 1 b (zj c 0)) fun g=>za (yC (atD f 4)) fun h=>za (kI false (atD g 0) h) fun j=>za (zc .neq j (U64 0)) fun k=>ifB k (some (.ret,[I6 3],[])) (za (zc .add (zj c 0) (I6 1)) fun l=>some (.normal,[l],[]))) (some (.exit 0,[],[]))
def P32(O:Orc)(a b c d f h j:DV):Option DA:=b1 (O 35 [SA [a,b,c,d]]) fun e=>za (zc .neq e (I6 0)) fun k=>ifB k (some (S1 e)) (za (yC f) fun l=>za (yC c) fun m=>za (zc .neq l m) fun n=>ifB n (some (S1 (I6 5))) (za (yC c) fun o=>yB (zJ (zqW o c f) [I6 0] []) (fun p _g _q=>bif Nat.beq p 0 then (za (yC d) fun r=>za (kI false h r) fun s=>za (zc .neq s (U64 0)) fun t=>ifB t (some (S1 (I6 3))) (za (yC c) fun v=>za (kI false j v) fun w=>za (zc .neq w (U64 0)) fun x=>ifB x (some (S1 (I6 3))) (some (S1 (I6 0))))) else(none)) (fun g _q=>some (S1 (zj g 0)))))
theorem p32(O:Orc)(a b c d f h j:DV):pF O zBR 32 [SA [a,b,c,d],SA [f,h,j]]=P32 O a b c d f h j:=by kernel_rfl
def zBP:Nat→Option LA:=fun i=>match i with|0=>some ⟨[.slot 27],[],[],[(1,1048576)],[],[],[.slot 2],[],[]⟩|1=>some ⟨[.slot 58],[(.slot 8,2)],[],[(2,1048576)],[],[(.slot 8,2)],[.slot 2],[],[]⟩|_=>none
def ziI(O:Orc)(l a b c d:DV)(g:List DV)(f:List OC):Option PX:=za (zc .lss (zj g 0) l) fun m=>ifB m (za (yT 5 a (zj g 0)) fun e=>b1 (O 55 [S1 (atD e 0)]) fun n=>za (xY n) fun o=>ifB o (some (.ret,[I6 8],[some (zC (zI f 1))])) (za (zed (.inl 2) (.one (atD e 0)) (.one (atD e 0))) fun _x=>za (zcd (.inl 2) 1048576 (.one (atD e 0)) (zC (zI f 1))) fun p=>ifB (dsO (lkD (.one (.bool false)) p)) (za (zc .neq (I6 9) (I6 0)) fun q=>ifB q (some (.ret,[I6 9],[some (zC (zI f 1))])) (b1 (O 58 [SA [b,c,a,d],SA [atD e 0,atD e 1,atD e 2,atD e 3,atD e 4]]) fun j=>za (zc .neq j (I6 0)) fun r=>ifB r (some (.ret,[j],[some (zC (zI f 1))])) (gd (fits 16 (wD (zI f 0)+1)) (za (zc .add (zj g 0) (I6 1)) fun s=>some (.normal,[s],[some (zC (zI f 0)++[[atD e 2,atD e 3]]),some (zC (zI f 1))]))))) (za (zed (.inl 2) (.one (atD e 0)) (.one (atD e 0))) fun _y=>za (zkS (.inl 2) 1048576 (.one (atD e 0)) [atD e 0,.bool true] (zC (zI f 1))) fun h=>za (zc .neq (I6 0) (I6 0)) fun t=>ifB t (some (.ret,[I6 0],[some h])) (b1 (O 58 [SA [b,c,a,d],SA [atD e 0,atD e 1,atD e 2,atD e 3,atD e 4]]) fun k=>za (zc .neq k (I6 0)) fun v=>ifB v (some (.ret,[k],[some h])) (gd (fits 16 (wD (zI f 0)+1)) (za (zc .add (zj g 0) (I6 1)) fun w=>some (.normal,[w],[some (zC (zI f 0)++[[atD e 2,atD e 3]]),some h]))))))) (some (.exit 4,[],[zI f 0,some (zC (zI f 1))]))
def zqU(O:Orc)(g a:DV)(d:List DV)(c:List OC):Option PX:=za (zc .lss (zj d 0) g) fun h=>ifB h (za (yT 6 a (zj d 0)) fun b=>b1 (O 56 [SA [atD b 0,atD b 1,atD b 2,atD b 3,atD b 4,atD b 5]]) fun e=>za (zc .neq e (I6 0)) fun j=>ifB j (some (.ret,[e],[some (zC (zI c 0))])) (za (zed (.inl 2) (.one (atD b 0)) (.one (atD b 0))) fun _p=>za (zcd (.inl 2) 1048576 (.one (atD b 0)) (zC (zI c 0))) fun k=>ifB (dsO (lkD (.one (.bool false)) k)) (za (zc .neq (I6 9) (I6 0)) fun l=>ifB l (some (.ret,[I6 9],[some (zC (zI c 0))])) (za (zc .add (zj d 0) (I6 1)) fun m=>some (.normal,[m],[some (zC (zI c 0))]))) (za (zed (.inl 2) (.one (atD b 0)) (.one (atD b 0))) fun _q=>za (zkS (.inl 2) 1048576 (.one (atD b 0)) [atD b 0,.bool true] (zC (zI c 0))) fun f=>za (zc .neq (I6 0) (I6 0)) fun n=>ifB n (some (.ret,[I6 0],[some f])) (za (zc .add (zj d 0) (I6 1)) fun o=>some (.normal,[o],[some f]))))) (some (.exit 1,[],[some (zC (zI c 0))]))
def P35(O:Orc)(a b c d:DV):Option DA:=b1 (O 55 [S1 a]) fun h=>za (xY h) fun j=>ifB j (some (S1 (I6 8))) (za (yC b) fun k=>za (zc .gtr k (I6 60)) fun l=>ifB l (some (S1 (I6 4))) (za (yC b) fun m=>yB (zJ (zqU O m b) [I6 0] [some []]) (fun n _e _o=>bif Nat.beq n 1 then (za (yC c) fun p=>za (zc .eql p (I6 0)) fun q=>ifB q (some (S1 (I6 13))) (za (yC c) fun r=>za (zc .gtr r (I6 8)) fun s=>ifB s (some (S1 (I6 4))) (za (yC c) fun t=>yB (zJ (ziI O t c a b d) [I6 0] [none,some []]) (fun v _f g=>bif Nat.beq v 4 then (b1s (O 59 [S1 (mkL 2 (zI g 0)),S1 d]) fun w=>some (S1 w)) else(none)) (fun f _g=>some (S1 (zj f 0)))))) else(none)) (fun e _o=>some (S1 (zj e 0)))))
theorem p35(O:Orc)(a b c d:DV):pF O zBP 35 [SA [a,b,c,d]]=P35 O a b c d:=by kernel_rfl
def zBO:Nat→Option LA:=fun i=>match i with|0=>some ⟨[.slot 10],[],[],[],[],[],[.slot 4],[],[]⟩|_=>none
def zqT(O:Orc)(f a b c d:DV)(e:List DV)(_n:List OC):Option PX:=za (zc .lss (zj e 0) f) fun g=>ifB g (za (yT 1 a (zj e 0)) fun h=>b1 (O 60 [SA [b,c,d],S1 (zj e 0)]) fun j=>za (zc .andNot (atD h 0) j) fun k=>za (zc .neq k (U64 0)) fun l=>ifB l (some (.ret,[.bool false],[])) (za (zc .add (zj e 0) (I6 1)) fun m=>some (.normal,[m],[]))) (some (.exit 0,[],[]))
def P36(O:Orc)(a b c d f h:DV):Option DA:=za (yC a) fun g=>yB (zJ (zqT O g a d f h) [I6 0] []) (fun j _e _k=>bif Nat.beq j 0 then (za (zc .andNot b f) fun l=>za (zc .eql l (U64 0)) fun m=>ifB m (za (zc .andNot c h) fun n=>za (zc .eql n (U64 0)) fun o=>some (S1 o)) (some (S1 (.bool false)))) else(none)) (fun e _k=>some (S1 (zj e 0)))
theorem p36(O:Orc)(a b c d f h:DV):pF O zBO 36 [SA [a,b,c],SA [d,f,h]]=P36 O a b c d f h:=by kernel_rfl
def P45(_O:Orc)(b:DV):Option DA:=za (zc .rem b (U8 16)) fun c=>za (wC (some [[I6 8,I6 1],[I6 4,I6 1],[I6 16,I6 1],[I6 2,I6 1],[I6 8,I6 3],[I6 8,I6 5],[I6 4,I6 3],[I6 1,I6 1],[I6 32,I6 1],[I6 16,I6 3],[I6 16,I6 5],[I6 32,I6 3],[I6 8,I6 7],[I6 2,I6 3],[I6 1,I6 2],[I6 64,I6 1]]) c) fun d=>za (zbW (some [[I6 8,I6 1],[I6 4,I6 1],[I6 16,I6 1],[I6 2,I6 1],[I6 8,I6 3],[I6 8,I6 5],[I6 4,I6 3],[I6 1,I6 1],[I6 32,I6 1],[I6 16,I6 3],[I6 16,I6 5],[I6 32,I6 3],[I6 8,I6 7],[I6 2,I6 3],[I6 1,I6 2],[I6 64,I6 1]]) d) fun a=>some (SA [atD a 0,atD a 1])
theorem p45(O:Orc)(a0:DV):pF O an0 45 [S1 a0]=P45 O a0:=by kernel_rfl
def P46(_O:Orc)(b:DV):Option DA:=za (zc .rem b (U8 6)) fun c=>za (wC (some [[I6 8,I6 1],[I6 4,I6 1],[I6 16,I6 1],[I6 8,I6 3],[I6 2,I6 1],[I6 8,I6 5]]) c) fun d=>za (zbW (some [[I6 8,I6 1],[I6 4,I6 1],[I6 16,I6 1],[I6 8,I6 3],[I6 2,I6 1],[I6 8,I6 5]]) d) fun a=>some (SA [atD a 0,atD a 1])
theorem p46(O:Orc)(a0:DV):pF O an0 46 [S1 a0]=P46 O a0:=by kernel_rfl
def P47(O:Orc)(a b c d:DV):Option DA:=b1 (O 68 [SA [a,b],SA [c,d]]) fun e=>za (zc .neq e (I6 0)) fun f=>ifB f (some (.tup [.one (I6 0),.one e])) (b1 (O 69 [SA [a,b],SA [c,d]]) fun g=>some (.tup [.one g,.one (I6 0)]))
theorem p47(O:Orc)(a b c d:DV):pF O an0 47 [SA [a,b],SA [c,d]]=P47 O a b c d:=by kernel_rfl
def P48(O:Orc)(a b:DV):Option DA:=b1 (O 70 [S1 a,S1 b]) fun c=>za (zc .geq c (I6 0)) fun d=>some (S1 d)
theorem p48(O:Orc)(a0 a1:DV):pF O an0 48 [S1 a0,S1 a1]=P48 O a0 a1:=by kernel_rfl
def P49(O:Orc)(a b c:DV):Option DA:=b1 (O 30 [.s (.one c),SA [a,b]]) fun d=>za (xY d) fun e=>some (S1 e)
theorem p49(O:Orc)(a b c:DV):pF O an0 49 [SA [a,b],S1 (.fp [c] 0)]=P49 O a b c:=by kernel_rfl
def P51(O:Orc)(a b c d f h j m r:DV):Option DA:=b1s (O 71 [SA [a,b,c,d],S1 (.lst 3 [[f,h,j]])]) fun e=>za (zc .neq e (I6 0)) fun g=>ifB g (some (S1 e)) (b1 (O 72 [SA [a,b,c,d],SA [m,r]]) fun k=>some (S1 k))
theorem p51(O:Orc)(a b c d f h j m r:DV):pF O an0 51 [SA [a,b,c,d],SA [f,h,j],SA [m,r]]=P51 O a b c d f h j m r:=by kernel_rfl
def P52(O:Orc)(a b c d f h j e:DV):Option DA:=b1 (O 74 [SA [a,b,c,d],SA [f,h,j],S1 e]) fun g=>b1 (O 73 [SA [a,b,c,d],SA [f,h,j],S1 g]) fun k=>some (S1 k)
theorem p52(O:Orc)(a b c d f h j a2:DV):pF O an0 52 [SA [a,b,c,d],SA [f,h,j],S1 a2]=P52 O a b c d f h j a2:=by kernel_rfl
def zBN:Nat→Option LA:=fun i=>match i with|0=>some ⟨[.slot 8],[],[],[],[],[],[.slot 4],[],[]⟩|_=>none
def zqR(e f a b:DV)(c:List DV)(_k:List OC):Option PX:=za (zc .lss (zj c 0) e) fun g=>ifB g (za (yT 2 f (zj c 0)) fun d=>za (zhi [1,1] [a,b] [atD d 0,atD d 1]) fun h=>ifB (.bool h) (some (.ret,[zj c 0],[])) (za (zc .add (zj c 0) (I6 1)) fun j=>some (.normal,[j],[]))) (some (.exit 0,[],[]))
def P53(_O:Orc)(c a b:DV):Option DA:=za (yC c) fun e=>yB (zJ (zqR e c a b) [I6 0] []) (fun f _d _g=>bif Nat.beq f 0 then (some (S1 (I6 (-1)))) else(none)) (fun d _g=>some (S1 (zj d 0)))
theorem p53(O:Orc)(a0 a b:DV):pF O zBN 53 [S1 a0,SA [a,b]]=P53 O a0 a b:=by kernel_rfl
def zBM:Nat→Option LA:=fun i=>match i with|0=>some ⟨[.slot 3],[],[],[],[],[],[.slot 2],[],[]⟩|_=>none
def zqQ(O:Orc)(c:DV)(a:List DV)(_q:List OC):Option PX:=za (zmK c) fun d=>za (zc .lss (zj a 0) d) fun e=>ifB e (za (zcz c (zj a 0)) fun b=>b1 (O 75 [S1 b]) fun f=>za (xY f) fun g=>ifB g (za (zc .lss b (U8 48)) fun h=>ifB h (za (zc .neq b (U8 95)) fun j=>ifB j (some (.ret,[.bool false],[])) (za (zc .add (zj a 0) (I6 1)) fun k=>some (.normal,[k],[]))) (za (zc .gtr b (U8 57)) fun l=>ifB l (za (zc .neq b (U8 95)) fun m=>ifB m (some (.ret,[.bool false],[])) (za (zc .add (zj a 0) (I6 1)) fun n=>some (.normal,[n],[]))) (za (zc .add (zj a 0) (I6 1)) fun o=>some (.normal,[o],[])))) (za (zc .add (zj a 0) (I6 1)) fun p=>some (.normal,[p],[]))) (some (.exit 0,[],[]))
def P55(O:Orc)(a:DV):Option DA:=za (zoC .eql a (.str ⟨#[]⟩)) fun c=>ifB c (some (S1 (.bool false))) (za (zmK a) fun d=>za (zc .gtr d (I6 32)) fun e=>ifB e (some (S1 (.bool false))) (za (zcz a (I6 0)) fun f=>b1 (O 75 [S1 f]) fun g=>za (xY g) fun h=>ifB h (some (S1 (.bool false))) (yB (zJ (zqQ O a) [I6 1] []) (fun j _b _k=>bif Nat.beq j 0 then (some (S1 (.bool true))) else(none)) (fun b _k=>some (S1 (zj b 0))))))
theorem p55(O:Orc)(a0:DV):pF O zBM 55 [S1 a0]=P55 O a0:=by kernel_rfl
def P56(O:Orc)(a b c d f h:DV):Option DA:=b1 (O 55 [S1 a]) fun g=>za (xY g) fun j=>ifB j (some (S1 (I6 8))) (b1 (O 55 [S1 b]) fun k=>za (xY k) fun l=>ifB l (some (S1 (I6 8))) (b1 (O 76 [SA [c,d]]) fun e=>za (zc .neq e (I6 0)) fun m=>ifB m (some (S1 e)) (b1 (O 77 [S1 f]) fun n=>za (xY n) fun o=>ifB o (some (S1 (I6 3))) (za (yC h) fun p=>za (zc .eql p (I6 0)) fun q=>ifB q (some (S1 (I6 13))) (za (yC h) fun r=>za (zc .gtr r (I6 128)) fun s=>ifB s (some (S1 (I6 4))) (b1 (O 78 [S1 h]) fun t=>some (S1 t)))))))
theorem p56(O:Orc)(a b c d f h:DV):pF O an0 56 [SA [a,b,c,d,f,h]]=P56 O a b c d f h:=by kernel_rfl
def zBL:Nat→Option LA:=fun i=>match i with|0=>some ⟨[.slot 25],[],[],[(2,1048576)],[],[],[.slot 4],[],[]⟩|_=>none
def zqP(O:Orc)(k a b c d:DV)(g:List DV)(f:List OC):Option PX:=za (zc .lss (zj g 0) k) fun l=>ifB l (za (yT 4 a (zj g 0)) fun e=>b1 (O 80 [SA [b,c,d],SA [atD e 0,atD e 1,atD e 2,atD e 3]]) fun h=>za (zc .neq h (I6 0)) fun m=>ifB m (some (.ret,[h],[some (zC (zI f 0))])) (za (zed (.inl 2) (.one (atD e 0)) (.one (atD e 0))) fun _s=>za (zcd (.inl 2) 1048576 (.one (atD e 0)) (zC (zI f 0))) fun n=>ifB (dsO (lkD (.one (.bool false)) n)) (za (zc .neq (I6 9) (I6 0)) fun o=>ifB o (some (.ret,[I6 9],[some (zC (zI f 0))])) (za (zc .add (zj g 0) (I6 1)) fun p=>some (.normal,[p],[some (zC (zI f 0))]))) (za (zed (.inl 2) (.one (atD e 0)) (.one (atD e 0))) fun _t=>za (zkS (.inl 2) 1048576 (.one (atD e 0)) [atD e 0,.bool true] (zC (zI f 0))) fun j=>za (zc .neq (I6 0) (I6 0)) fun q=>ifB q (some (.ret,[I6 0],[some j])) (za (zc .add (zj g 0) (I6 1)) fun r=>some (.normal,[r],[some j]))))) (some (.exit 0,[],[some (zC (zI f 0))]))
def P58(O:Orc)(_a b _c _d _f _h j m r:DV):Option DA:=b1 (O 79 [SA [j,m]]) fun a=>za (zc .neq a (I6 0)) fun d=>ifB d (some (S1 a)) (za (yC r) fun e=>za (zc .gtr e (I6 60)) fun f=>ifB f (some (S1 (I6 4))) (za (yC r) fun g=>yB (zJ (zqP O g r b j m) [I6 0] [some []]) (fun h _c _k=>bif Nat.beq h 0 then (some (S1 (I6 0))) else(none)) (fun c _k=>some (S1 (zj c 0)))))
theorem p58(O:Orc)(a b c d f h j m r:DV):pF O zBL 58 [SA [a,b,c,d],SA [f,h,j,m,r]]=P58 O a b c d f h j m r:=by kernel_rfl
def zBK:Nat→Option LA:=fun i=>match i with|0=>some ⟨[.slot 19],[],[],[],[],[],[.slot 4],[],[]⟩|1=>some ⟨[.slot 29],[],[],[],[],[],[.slot 4],[],[]⟩|_=>none
def ziH(O:Orc)(e c d:DV)(b:List DV)(_y:List OC):Option PX:=za (zc .lss (zj b 0) e) fun f=>ifB f (za (yT 5 c (zj b 0)) fun a=>b1 (O 55 [S1 (atD a 0)]) fun g=>za (xY g) fun h=>ifB h (some (.ret,[I6 8],[])) (za (kH 5 c none (some (zj b 0))) fun j=>b1s (O 81 [S1 j,S1 (.fn 82 [[atD a 0,atD a 1,atD a 2,atD a 3,atD a 4]])]) fun k=>ifB k (some (.ret,[I6 9],[])) (za (zc .lss (atD a 1) (I6 0)) fun l=>ifB l (some (.ret,[I6 10],[])) (za (yC d) fun m=>za (zc .geq (atD a 1) m) fun n=>ifB n (some (.ret,[I6 10],[])) (za (zc .lss (atD a 2) (I6 0)) fun o=>ifB o (some (.ret,[I6 10],[])) (za (yC d) fun p=>za (zc .geq (atD a 2) p) fun q=>ifB q (some (.ret,[I6 10],[])) (za (zc .lss (atD a 3) (I6 (-127))) fun r=>ifB r (some (.ret,[I6 3],[])) (za (zc .gtr (atD a 3) (I6 127)) fun s=>ifB s (some (.ret,[I6 3],[])) (za (zc .eql (atD a 1) (atD a 2)) fun t=>ifB t (za (zc .eql (atD a 3) (I6 0)) fun v=>ifB v (some (.ret,[I6 7],[])) (za (zc .add (zj b 0) (I6 1)) fun w=>some (.normal,[w],[]))) (za (zc .add (zj b 0) (I6 1)) fun x=>some (.normal,[x],[]))))))))))) (some (.exit 2,[],[]))
def zqO(O:Orc)(c d:DV)(a:List DV)(_j:List OC):Option PX:=za (zc .lss (zj a 0) c) fun e=>ifB e (za (yT 2 d (zj a 0)) fun b=>b1 (O 79 [SA [atD b 0,atD b 1]]) fun f=>za (zc .neq f (I6 0)) fun g=>ifB g (some (.ret,[I6 23],[])) (za (zc .add (zj a 0) (I6 1)) fun h=>some (.normal,[h],[]))) (some (.exit 0,[],[]))
def P59(O:Orc)(a b:DV):Option DA:=za (yC a) fun e=>za (zc .gtr e (I6 8)) fun f=>ifB f (some (S1 (I6 4))) (za (yC b) fun g=>za (zc .gtr g (I6 40)) fun h=>ifB h (some (S1 (I6 4))) (za (yC a) fun j=>yB (zJ (zqO O j a) [I6 0] []) (fun k _c _l=>bif Nat.beq k 0 then (za (yC b) fun m=>yB (zJ (ziH O m b a) [I6 0] []) (fun n _d _o=>bif Nat.beq n 2 then (some (S1 (I6 0))) else(none)) (fun d _o=>some (S1 (zj d 0)))) else(none)) (fun c _l=>some (S1 (zj c 0)))))
theorem p59(O:Orc)(a0 a1:DV):pF O zBK 59 [S1 a0,S1 a1]=P59 O a0 a1:=by kernel_rfl
def P60(_O:Orc)(a _b _c b:DV):Option DA:=za (yC a) fun c=>za (zc .lss b c) fun d=>ifB d (za (yT 1 a b) fun e=>some (S1 (atD e 0))) (some (S1 (U64 0)))
theorem p60(O:Orc)(a b c a1:DV):pF O an0 60 [SA [a,b,c],S1 a1]=P60 O a b c a1:=by kernel_rfl
def P68(O:Orc)(a b c d:DV):Option DA:=b1 (O 76 [SA [a,b]]) fun e=>za (zc .neq e (I6 0)) fun f=>ifB f (some (S1 e)) (b1 (O 76 [SA [c,d]]) fun g=>some (S1 g))
theorem p68(O:Orc)(a b c d:DV):pF O an0 68 [SA [a,b],SA [c,d]]=P68 O a b c d:=by kernel_rfl
def zBJ:Nat→Option LA:=fun i=>match i with|0=>some ⟨[.slot 5,.slot 7],[],[],[],[.slot 5,.slot 7],[],[],[],[]⟩|1=>some ⟨[.slot 6,.slot 7],[],[],[],[.slot 6,.slot 7],[],[],[],[]⟩|2=>some ⟨[.slot 12,.slot 7],[],[],[],[.slot 7],[],[],[],[]⟩|_=>none
def ziG(O:Orc)(b:List DS)(a:List DV)(_g:List OC):Option PX:=b1 (O 87 [S1 (dsO (zm b 0)),S1 (zj a 0)]) fun c=>za (zc .gtr c (I6 0)) fun d=>ifB d (za (zc .add (zj a 1) (I6 1)) fun e=>b1 (O 86 [S1 (zj a 0),S1 (.str ⟨#[52]⟩)]) fun f=>some (.normal,[f,e],[])) (some (.exit 4,[zj a 1],[]))
def zfF(b:List DV)(a:List DV)(_g:List OC):Option PX:=za (zc .mul (I6 2) (zj a 0)) fun c=>za (zc .geq (zj b 0) c) fun d=>ifB d (za (zc .mul (zj a 0) (I6 2)) fun e=>za (zc .add (zj a 1) (I6 12)) fun f=>some (.normal,[e,f],[])) (some (.exit 2,[zj a 0,zj a 1],[]))
def zny(b:DV)(a:List DV)(_f:List OC):Option PX:=za (zc .lss (zj a 0) b) fun c=>ifB c (za (zc .mul (zj a 0) (I6 2)) fun d=>za (zc .sub (zj a 1) (I6 12)) fun e=>some (.normal,[d,e],[])) (some (.exit 0,[zj a 0,zj a 1],[]))
def P69(O:Orc)(a b c d:DV):Option DA:=za (zc .mul c b) fun j=>za (zc .mul d a) fun g=>yB (zJ (zny g) [j,I6 0] []) (fun k e _l=>bif Nat.beq k 0 then (yB (zJ (zfF e) [g,zj e 1] []) (fun m f _n=>bif Nat.beq m 2 then (b1 (O 85 [S1 (zj e 0)]) fun o=>bT [none,none] (O 84 [S1 o,S1 (I6 24)]) fun p=>b1 (O 85 [S1 (zj f 0)]) fun q=>bT [none,none] (O 84 [S1 q,S1 (I6 24)]) fun r=>b1 (O 86 [S1 (dsO (zm r 0)),S1 (.str ⟨#[50]⟩)]) fun s=>yB (zJ (ziG O p) [s,zj f 1] []) (fun t h _v=>bif Nat.beq t 4 then (some (S1 (zj h 0))) else(none)) (fun _h _v=>none)) else(none)) (fun _f _n=>none)) else(none)) (fun _e _l=>none)
theorem p69(O:Orc)(a b c d:DV):pF O zBJ 69 [SA [a,b],SA [c,d]]=P69 O a b c d:=by kernel_rfl
def zBI:Nat→Option LA:=fun i=>match i with|0=>some ⟨[.slot 8],[],[],[],[],[],[.slot 4],[],[]⟩|_=>none
def zqM(O:Orc)(c d e:DV)(a:List DV)(_j:List OC):Option PX:=za (zc .lss (zj a 0) c) fun f=>ifB f (za (yT 2 d (zj a 0)) fun b=>b1 (zhj O e [SA [atD b 0,atD b 1]]) fun g=>ifB g (some (.ret,[zj a 0],[])) (za (zc .add (zj a 0) (I6 1)) fun h=>some (.normal,[h],[]))) (some (.exit 0,[],[]))
def P70(O:Orc)(a c:DV):Option DA:=za (yC a) fun d=>yB (zJ (zqM O d a c) [I6 0] []) (fun e _b _f=>bif Nat.beq e 0 then (some (S1 (I6 (-1)))) else(none)) (fun b _f=>some (S1 (zj b 0)))
theorem p70(O:Orc)(a0 a1:DV):pF O zBI 70 [S1 a0,S1 a1]=P70 O a0 a1:=by kernel_rfl
def zBH:Nat→Option LA:=fun i=>match i with|0=>some ⟨[.slot 16],[],[],[],[],[],[.slot 4],[],[]⟩|_=>none
def zs2(O:Orc)(h j a b c d:DV)(e:List DV)(_n:List OC):Option PX:=za (zc .lss (zj e 0) h) fun k=>ifB k (za (yT 3 j (zj e 0)) fun f=>b1 (O 32 [SA [a,b,c,d],SA [atD f 0,atD f 1,atD f 2]]) fun g=>za (zc .neq g (I6 0)) fun l=>ifB l (some (.ret,[g],[])) (za (zc .add (zj e 0) (I6 1)) fun m=>some (.normal,[m],[]))) (some (.exit 0,[],[]))
def P71(O:Orc)(a b c d e:DV):Option DA:=b1 (O 35 [SA [a,b,c,d]]) fun f=>za (zc .neq f (I6 0)) fun h=>ifB h (some (S1 f)) (za (yC e) fun j=>yB (zJ (zs2 O j e a b c d) [I6 0] []) (fun k _g _l=>bif Nat.beq k 0 then (some (S1 (I6 0))) else(none)) (fun g _l=>some (S1 (zj g 0))))
theorem p71(O:Orc)(a b c d a1:DV):pF O zBH 71 [SA [a,b,c,d],S1 a1]=P71 O a b c d a1:=by kernel_rfl
def P72(_O:Orc)(_a _b c _d f h:DV):Option DA:=za (zc .lss f (I6 0)) fun b=>ifB b (some (S1 (I6 10))) (za (yC c) fun d=>za (zc .geq f d) fun e=>ifB e (some (S1 (I6 10))) (za (yT 5 c f) fun a=>za (zc .lss h (atD a 2)) fun g=>ifB g (some (S1 (I6 23))) (za (zc .gtr h (atD a 3)) fun j=>ifB j (some (S1 (I6 23))) (some (S1 (I6 0))))))
theorem p72(O:Orc)(a b c d f h:DV):pF O an0 72 [SA [a,b,c,d],SA [f,h]]=P72 O a b c d f h:=by kernel_rfl
def zBG:Nat→Option LA:=fun i=>match i with|0=>some ⟨[.slot 14],[(.slot 7,2)],[],[],[],[(.slot 7,2)],[],[],[]⟩|1=>some ⟨[.slot 26],[(.slot 7,2)],[],[],[],[(.slot 7,2)],[],[],[]⟩|_=>none
def zyu:Nat→List PA→Nat→Nat→Option LA:=fun h _ n i=>match h,n,i with|91,3,0=>some ⟨[.slot 3],[(.slot 0,2)],[],[],[],[(.slot 0,2)],[.slot 2],[],[]⟩|91,3,1=>some ⟨[.slot 5,.slot 3],[],[],[(3,2)],[.slot 3],[],[],[],[]⟩|_,_,_=>none
def zyL(b:Nat×Nat)(a:List DV)(c:List OC):Option PX:=za (zc .lss (zj a 0) (.int .i64 (.ofNat b.2))) fun g=>ifB g (za (uG b.2 (zj a 0)) fun h=>za (zbW (zI c 0) (b.1+h)) fun d=>za (zc .sub (zj a 0) (I6 1)) fun j=>za (uG b.2 j) fun k=>za (zbW (zI c 0) (b.1+k)) fun e=>za (zhi [1,1] [atD d 0,atD d 1] [atD e 0,atD e 1]) fun l=>ifB (.bool (!l)) (za (uG b.2 (zj a 0)) fun m=>za (zbW (zI c 0) (b.1+m)) fun f=>za (wC (zI c 0) (zj a 1)) fun n=>za (zwe 2 (zI c 0) n 0 [atD f 0,atD f 1]) fun o=>za (zc .add (zj a 1) (I6 1)) fun p=>za (zc .add (zj a 0) (I6 1)) fun q=>some (.normal,[q,p],[o])) (za (zc .add (zj a 0) (I6 1)) fun r=>some (.normal,[r,zj a 1],[zI c 0]))) (some (.exit 2,[zj a 1],[zI c 0]))
def ztN(b:List DV)(a:List OC):Option PX:=za (zc .lss (zj b 0) (I6 (Int.ofNat (wD (zI a 0))))) fun k=>ifB k (za (wC (zI a 0) (zj b 0)) fun l=>za (zbW (zI a 0) l) fun g=>za (zc .sub (zj b 0) (I6 1)) fun m=>za (wC (zI a 0) m) fun n=>za (zbW (zI a 0) n) fun h=>za (zhi [1,1] [atD g 0,atD g 1] [atD h 0,atD h 1]) fun o=>ifB (.bool o) (za (vwB (some (zj b 0)) none (wD (zI a 0))) fun p=>yB (zJ (zyL p) [I6 1,zj b 0] [zI a 0]) (fun f d c=>bif Nat.beq f 2 then (za (vwB (some (zj d 0)) none (wD (zI c 0))) fun e=>za (vwB none (some (zj d 0)) (wD (zqm (zI c 0) e.1 e.2 [I6 0,I6 0]))) fun j=>some (.ret,[zhG 2 j.1 j.2 (mkL 2 (zqm (zI c 0) e.1 e.2 [I6 0,I6 0]))],[])) else(bif Nat.beq f 1 then (za (zc .add (zj d 0) (I6 1)) fun q=>some (.normal,[q],[zI c 0])) else(some (.exit f,[],[zI c 0])))) (fun _d _c=>none)) (za (zc .add (zj b 0) (I6 1)) fun r=>some (.normal,[r],[zI a 0]))) (some (.exit 0,[],[zI a 0]))
def zeB(O:Orc)(h:DV)(j:List DV)(a:DV)(f:List DV)(b:DV)(c:List DV)(d:List OC):Option PX:=za (zc .lss (zj c 0) h) fun k=>ifB k (za (yT 4 (atD j 4) (zj c 0)) fun e=>za (yT 1 a (atD f 0)) fun l=>za (kI false (atD l 0) (zj c 0)) fun m=>za (zc .and m (U64 1)) fun n=>za (zc .eql n (U64 1)) fun o=>ifB o (b1 (O 88 [S1 b,SA [atD e 0,atD e 1,atD e 2,atD e 3],S1 (atD f 1)]) fun p=>za (kX 2 p) fun g=>gd (fits 16 (wD (zI d 0)+(g:List (List DV)).length)) (za (zc .add (zj c 0) (I6 1)) fun q=>some (.normal,[q],[znB (zI d 0) g]))) (za (zc .add (zj c 0) (I6 1)) fun r=>some (.normal,[r],[zI d 0]))) (some (.exit 2,[],[zI d 0]))
def zqL(O:Orc)(k l a b c:DV)(d:List DV)(g:List OC):Option PX:=za (zc .lss (zj d 0) k) fun m=>ifB m (za (yT 2 l (zj d 0)) fun h=>za (yT 5 a (atD h 0)) fun j=>za (yC (atD j 4)) fun n=>yB (zJ (zeB O n j b h c) [I6 0] [zI g 0]) (fun f _o e=>bif Nat.beq f 2 then (za (zc .add (zj d 0) (I6 1)) fun p=>some (.normal,[p],[zI e 0])) else(bif Nat.beq f 1 then (za (zc .add (zj d 0) (I6 1)) fun q=>some (.normal,[q],[zI e 0])) else(some (.exit f,[],[zI e 0])))) (fun _o _e=>none)) (some (.exit 0,[],[zI g 0]))
def P73(O:Orc)(_a b c _d f _h _j d:DV):Option DA:=za (yC d) fun j=>yB (zJ (zqL O j d c f b) [I6 0] [none]) (fun k _l e=>bif Nat.beq k 0 then (za (ztb 2 (zI e 0)) fun a=>za (zc .lss (I6 (Int.ofNat (wD a))) (I6 2)) fun m=>ifB m (some (S1 (mkL 2 a))) (yB (zJ ztN [I6 1] [a]) (fun n _g h=>bif Nat.beq n 0 then (some (S1 (mkL 2 (zI h 0)))) else(none)) (fun g _h=>some (S1 (zj g 0))))) else(none)) (fun _l _e=>none)
theorem p73(O:Orc)(a b c d f h j a2:DV):zmL prog O kG (inl prog O kG zyu redI 5) zBG 73 [SA [a,b,c,d],SA [f,h,j],S1 a2]=P73 O a b c d f h j a2:=by kernel_rfl
def zBF:Nat→Option LA:=fun i=>match i with|0=>some ⟨[.slot 18],[(.cell 4 0,2),(.slot 9,2)],[(4,1)],[(2,1051648)],[],[(.slot 9,2),(.cell 4 0,2)],[],[(.cell 4 0,2)],[]⟩|1=>some ⟨[.slot 13],[(.cell 4 0,2)],[(4,1)],[(2,1051648)],[],[(.cell 4 0,2)],[],[(.cell 4 0,2)],[]⟩|_=>none
def zyt:Nat→List PA→Nat→Nat→Option LA:=fun h _ n i=>match h,n,i with|92,8,0=>some ⟨[.slot 14],[(.cell 4 0,2)],[(4,1)],[(2,1051648)],[],[(.cell 4 0,2)],[],[(.cell 4 0,2)],[]⟩|95,9,0=>some ⟨[.slot 3],[(.slot 0,2)],[],[],[],[(.slot 0,2)],[.slot 2],[],[]⟩|95,9,1=>some ⟨[.slot 5,.slot 3],[],[],[(9,2)],[.slot 3],[],[],[],[]⟩|_,_,_=>none
def zyK(b:Nat×Nat)(a:List DV)(c:List OC):Option PX:=za (zc .lss (zj a 0) (.int .i64 (.ofNat b.2))) fun g=>ifB g (za (uG b.2 (zj a 0)) fun h=>za (zbW (zI c 0) (b.1+h)) fun d=>za (zc .sub (zj a 0) (I6 1)) fun j=>za (uG b.2 j) fun k=>za (zbW (zI c 0) (b.1+k)) fun e=>za (zhi [1,1] [atD d 0,atD d 1] [atD e 0,atD e 1]) fun l=>ifB (.bool (!l)) (za (uG b.2 (zj a 0)) fun m=>za (zbW (zI c 0) (b.1+m)) fun f=>za (wC (zI c 0) (zj a 1)) fun n=>za (zwe 2 (zI c 0) n 0 [atD f 0,atD f 1]) fun o=>za (zc .add (zj a 1) (I6 1)) fun p=>za (zc .add (zj a 0) (I6 1)) fun q=>some (.normal,[q,p],[o])) (za (zc .add (zj a 0) (I6 1)) fun r=>some (.normal,[r,zj a 1],[zI c 0]))) (some (.exit 2,[zj a 1],[zI c 0]))
def ztM(b:List DV)(a:List OC):Option PX:=za (zc .lss (zj b 0) (I6 (Int.ofNat (wD (zI a 0))))) fun k=>ifB k (za (wC (zI a 0) (zj b 0)) fun l=>za (zbW (zI a 0) l) fun g=>za (zc .sub (zj b 0) (I6 1)) fun m=>za (wC (zI a 0) m) fun n=>za (zbW (zI a 0) n) fun h=>za (zhi [1,1] [atD g 0,atD g 1] [atD h 0,atD h 1]) fun o=>ifB (.bool o) (za (vwB (some (zj b 0)) none (wD (zI a 0))) fun p=>yB (zJ (zyK p) [I6 1,zj b 0] [zI a 0]) (fun f d c=>bif Nat.beq f 2 then (za (vwB (some (zj d 0)) none (wD (zI c 0))) fun e=>za (vwB none (some (zj d 0)) (wD (zqm (zI c 0) e.1 e.2 [I6 0,I6 0]))) fun j=>some (.ret,[zhG 2 j.1 j.2 (mkL 2 (zqm (zI c 0) e.1 e.2 [I6 0,I6 0]))],[])) else(bif Nat.beq f 1 then (za (zc .add (zj d 0) (I6 1)) fun q=>some (.normal,[q],[zI c 0])) else(some (.exit f,[],[zI c 0])))) (fun _d _c=>none)) (za (zc .add (zj b 0) (I6 1)) fun r=>some (.normal,[r],[zI a 0]))) (some (.exit 0,[],[zI a 0]))
def ziD(O:Orc)(l a b:DV)(k:List DV)(c d f:DV)(h:List DV)(e:List OC):Option PX:=za (zc .lss (zj h 0) l) fun m=>ifB m (za (yT 5 a (zj h 0)) fun g=>za (kI false b (zj h 0)) fun n=>za (zc .and n (U64 1)) fun o=>za (zc .eql o (U64 0)) fun p=>ifB p (za (zc .add (zj h 0) (I6 1)) fun q=>some (.normal,[q],[zI e 0,some (zC (zI e 1))])) (za (zc .neq (atD g 1) (atD k 0)) fun r=>ifB r (za (zc .add (zj h 0) (I6 1)) fun s=>some (.normal,[s],[zI e 0,some (zC (zI e 1))])) (za (xY (atD g 4)) fun t=>ifB t (za (zc .add (zj h 0) (I6 1)) fun v=>some (.normal,[v],[zI e 0,some (zC (zI e 1))])) (za (zc .add (atD k 1) (atD g 3)) fun j=>b1 (O 72 [SA [c,d,f,a],SA [atD g 2,j]]) fun w=>za (zc .eql w (I6 0)) fun x=>ifB x (za (zed (.inr [1,1]) (.agg [atD g 2,j]) (.agg [atD g 2,j])) fun _F=>za (zcd (.inr [1,1]) 1051648 (.agg [atD g 2,j]) (zC (zI e 1))) fun y=>za (xY (dsO (lkD (.one (.bool false)) y))) fun z=>ifB z (za (zed (.inr [1,1]) (.agg [atD g 2,j]) (.agg [atD g 2,j])) fun _G=>za (zkS (.inr [1,1]) 1051648 (.agg [atD g 2,j]) [atD g 2,j,.bool true] (zC (zI e 1))) fun A=>gd (fits 16 (wD (zI e 0)+1)) (za (zc .add (zj h 0) (I6 1)) fun B=>some (.normal,[B],[some (zC (zI e 0)++[[atD g 2,j]]),some A]))) (za (zc .add (zj h 0) (I6 1)) fun C=>some (.normal,[C],[zI e 0,some (zC (zI e 1))]))) (za (zc .add (zj h 0) (I6 1)) fun E=>some (.normal,[E],[zI e 0,some (zC (zI e 1))])))))) (some (.exit 0,[],[zI e 0,some (zC (zI e 1))]))
def ziE(O:Orc)(a b c d f:DV)(g:List DV)(e:List OC):Option PX:=za (zc .lss (zj g 0) (I6 (Int.ofNat (wD (zI e 0))))) fun j=>ifB j (za (wC (zI e 0) (zj g 0)) fun k=>za (zbW (zI e 0) k) fun l=>za (yC a) fun m=>yB (zJ (ziD O m a b l c d f) [I6 0] [zI e 0,some (zC (zI e 1))]) (fun n _o h=>bif Nat.beq n 0 then (za (zc .add (zj g 0) (I6 1)) fun p=>some (.normal,[p],[zI h 0,some (zC (zI h 1))])) else(none)) (fun _o _h=>none)) (some (.exit 2,[],[zI e 0,some (zC (zI e 1))]))
def ziF(O:Orc)(l a b:DV)(k:List DV)(c d f:DV)(j:List DV)(e:List OC):Option PX:=za (zc .lss (zj j 0) l) fun m=>ifB m (za (yT 5 a (zj j 0)) fun g=>za (kI false b (zj j 0)) fun n=>za (zc .and n (U64 1)) fun o=>za (zc .eql o (U64 0)) fun p=>ifB p (za (zc .add (zj j 0) (I6 1)) fun q=>some (.normal,[q],[zI e 0,some (zC (zI e 1))])) (za (zc .neq (atD g 1) (atD k 0)) fun r=>ifB r (za (zc .add (zj j 0) (I6 1)) fun s=>some (.normal,[s],[zI e 0,some (zC (zI e 1))])) (za (zc .add (atD k 1) (atD g 3)) fun h=>b1 (O 72 [SA [c,d,f,a],SA [atD g 2,h]]) fun t=>za (zc .eql t (I6 0)) fun v=>ifB v (za (zed (.inr [1,1]) (.agg [atD g 2,h]) (.agg [atD g 2,h])) fun _C=>za (zcd (.inr [1,1]) 1051648 (.agg [atD g 2,h]) (zC (zI e 1))) fun w=>za (xY (dsO (lkD (.one (.bool false)) w))) fun x=>ifB x (za (zed (.inr [1,1]) (.agg [atD g 2,h]) (.agg [atD g 2,h])) fun _E=>za (zkS (.inr [1,1]) 1051648 (.agg [atD g 2,h]) [atD g 2,h,.bool true] (zC (zI e 1))) fun y=>gd (fits 16 (wD (zI e 0)+1)) (za (zc .add (zj j 0) (I6 1)) fun z=>some (.normal,[z],[some (zC (zI e 0)++[[atD g 2,h]]),some y]))) (za (zc .add (zj j 0) (I6 1)) fun A=>some (.normal,[A],[zI e 0,some (zC (zI e 1))]))) (za (zc .add (zj j 0) (I6 1)) fun B=>some (.normal,[B],[zI e 0,some (zC (zI e 1))]))))) (some (.exit 0,[],[zI e 0,some (zC (zI e 1))]))
def zs1(O:Orc)(l m a b c d f h:DV)(j:List DV)(e:List OC):Option PX:=za (zc .lss (zj j 0) l) fun n=>ifB n (za (yT 2 m (zj j 0)) fun k=>za (yC a) fun o=>yB (zJ (ziF O o a b k c d f) [I6 0] [zI e 0,some (zC (zI e 2))]) (fun p _q g=>bif Nat.beq p 0 then (za (kI false h (atD k 0)) fun r=>za (zc .and r (U64 1)) fun s=>za (zc .eql s (U64 0)) fun t=>ifB t (gd (fits 16 (wD (zI e 1)+1)) (za (zc .add (zj j 0) (I6 1)) fun v=>some (.normal,[v],[zI g 0,some (zC (zI e 1)++[[atD k 0,atD k 1]]),some (zC (zI g 1))]))) (za (zc .add (zj j 0) (I6 1)) fun w=>some (.normal,[w],[zI g 0,zI e 1,some (zC (zI g 1))]))) else(none)) (fun _q _g=>none)) (some (.exit 0,[],[zI e 1,zI e 0,some (zC (zI e 2))]))
def P74(O:Orc)(a b c d _f h j k:DV):Option DA:=za (yC k) fun n=>yB (zJ (zs1 O n k d h a b c j) [I6 0] [none,none,some []]) (fun o _p e=>bif Nat.beq o 0 then (yB (zJ (ziE O d h a b c) [I6 0] [zI e 1,some (zC (zI e 2))]) (fun q _r f=>bif Nat.beq q 2 then (gd (fits 16 (wD (zI e 0)+((zC (zI f 0)):List (List DV)).length)) (za (ztb 2 (znB (zI e 0) (zC (zI f 0)))) fun g=>za (zc .lss (I6 (Int.ofNat (wD g))) (I6 2)) fun s=>ifB s (some (S1 (mkL 2 g))) (yB (zJ ztM [I6 1] [g]) (fun t _l m=>bif Nat.beq t 0 then (some (S1 (mkL 2 (zI m 0)))) else(none)) (fun l _m=>some (S1 (zj l 0)))))) else(none)) (fun _r _f=>none)) else(none)) (fun _p _e=>none)
theorem p74(O:Orc)(a b c d f h j a2:DV):zmL prog O kG (inl prog O kG zyt redI 5) zBF 74 [SA [a,b,c,d],SA [f,h,j],S1 a2]=P74 O a b c d f h j a2:=by kernel_rfl
def P75(_O:Orc)(a:DV):Option DA:=za (zc .geq a (U8 65)) fun b=>ifB b (za (zc .leq a (U8 90)) fun c=>ifB c (some (S1 (.bool true))) (za (zc .geq a (U8 97)) fun d=>ifB d (za (zc .leq a (U8 122)) fun e=>some (S1 e)) (some (S1 (.bool false))))) (za (zc .geq a (U8 97)) fun f=>ifB f (za (zc .leq a (U8 122)) fun g=>some (S1 g)) (some (S1 (.bool false))))
theorem p75(O:Orc)(a0:DV):pF O an0 75 [S1 a0]=P75 O a0:=by kernel_rfl
def P76(O:Orc)(a b:DV):Option DA:=b1 (O 96 [SA [a,b]]) fun c=>za (zc .neq c (I6 0)) fun d=>ifB d (some (S1 (I6 2))) (za (zc .leq a (I6 0)) fun e=>ifB e (some (S1 (I6 3))) (za (zc .mul (I6 128) b) fun f=>za (zc .gtr a f) fun g=>ifB g (some (S1 (I6 3))) (za (zc .gtr b (I6 128)) fun h=>ifB h (some (S1 (I6 4))) (some (S1 (I6 0))))))
theorem p76(O:Orc)(a b:DV):pF O an0 76 [SA [a,b]]=P76 O a b:=by kernel_rfl
def P77(_O:Orc)(a:DV):Option DA:=za (zc .geq a (I6 (-256))) fun b=>ifB b (za (zc .leq a (I6 256)) fun c=>some (S1 c)) (some (S1 (.bool false)))
theorem p77(O:Orc)(a0:DV):pF O an0 77 [S1 a0]=P77 O a0:=by kernel_rfl
def P78(O:Orc)(a:DV):Option DA:=b1 (O 97 [S1 a,S1 (.fn 98 [])]) fun b=>ifB b (some (S1 (I6 3))) (some (S1 (I6 0)))
theorem p78(O:Orc)(a0:DV):pF O an0 78 [S1 a0]=P78 O a0:=by kernel_rfl
def P79(_O:Orc)(a b:DV):Option DA:=za (zc .lss a (I6 0)) fun c=>ifB c (some (S1 (I6 3))) (za (zc .gtr b (I6 127)) fun d=>ifB d (some (S1 (I6 3))) (za (zc .gtr a b) fun e=>ifB e (some (S1 (I6 23))) (some (S1 (I6 0)))))
theorem p79(O:Orc)(a b:DV):pF O an0 79 [SA [a,b]]=P79 O a b:=by kernel_rfl
def zBE:Nat→Option LA:=fun i=>match i with|0=>some ⟨[.slot 38],[],[],[],[],[],[.slot 4],[],[]⟩|_=>none
def ziC(O:Orc)(j a b c d:DV)(f:List DV)(_z:List OC):Option PX:=za (zc .lss (zj f 0) j) fun k=>ifB k (za (yT 3 a (zj f 0)) fun e=>za (uT false (atD e 0) [atD e 1]) fun l=>za (zc .lss l b) fun m=>ifB m (some (.ret,[I6 23],[])) (za (uT true (atD e 0) [atD e 1]) fun n=>za (zc .gtr n c) fun o=>ifB o (some (.ret,[I6 23],[])) (za (zc .gtr (atD e 0) (atD e 1)) fun p=>ifB p (some (.ret,[I6 6],[])) (za (zc .gtr (zj f 0) (I6 0)) fun q=>ifB q (za (zc .sub (zj f 0) (I6 1)) fun r=>za (yT 3 a r) fun s=>za (zc .leq (atD e 0) (atD s 1)) fun t=>ifB t (some (.ret,[I6 6],[])) (b1 (O 100 [SA [d,b,c],S1 (atD e 2)]) fun g=>za (zc .neq g (I6 0)) fun v=>ifB v (some (.ret,[g],[])) (za (zc .add (zj f 0) (I6 1)) fun w=>some (.normal,[w],[])))) (b1 (O 100 [SA [d,b,c],S1 (atD e 2)]) fun h=>za (zc .neq h (I6 0)) fun x=>ifB x (some (.ret,[h],[])) (za (zc .add (zj f 0) (I6 1)) fun y=>some (.normal,[y],[]))))))) (some (.exit 1,[],[]))
def P80(O:Orc)(a b c d f h j:DV):Option DA:=b1 (O 99 [SA [a,b,c]]) fun e=>za (zc .neq e (I6 0)) fun l=>ifB l (some (S1 e)) (b1 (O 55 [S1 d]) fun m=>za (xY m) fun n=>ifB n (some (S1 (I6 8))) (b1 (O 76 [SA [f,h]]) fun g=>za (zc .neq g (I6 0)) fun o=>ifB o (some (S1 g)) (za (yC j) fun p=>za (zc .eql p (I6 0)) fun q=>ifB q (some (S1 (I6 13))) (za (yC j) fun r=>za (zc .gtr r (I6 12)) fun s=>ifB s (some (S1 (I6 4))) (za (yC j) fun t=>yB (zJ (ziC O t j b c a) [I6 0] []) (fun v _k _w=>bif Nat.beq v 1 then (some (S1 (I6 0))) else(none)) (fun k _w=>some (S1 (zj k 0))))))))
theorem p80(O:Orc)(a b c d f h j:DV):pF O zBE 80 [SA [a,b,c],SA [d,f,h,j]]=P80 O a b c d f h j:=by kernel_rfl
def P81(O:Orc)(a b:DV):Option DA:=b1 (O 101 [S1 a,S1 b]) fun c=>za (zc .geq c (I6 0)) fun d=>some (S1 d)
theorem p81(O:Orc)(a0 a1:DV):pF O an0 81 [S1 a0,S1 a1]=P81 O a0 a1:=by kernel_rfl
def P82(_O:Orc)(a _b _c _d _f h _j _m _r _s:DV):Option DA:=za (zoC .eql a h) fun b=>some (S1 b)
theorem p82(O:Orc)(a b c d f h j m r s:DV):pF O an0 82 [SA [a,b,c,d,f],S1 (.fp [h,j,m,r,s] 0)]=P82 O a b c d f h j m r s:=by kernel_rfl
def zBD:Nat→Option LA:=fun i=>match i with|0=>some ⟨[.slot 17],[(.slot 7,2)],[],[],[],[(.slot 7,2)],[],[],[]⟩|_=>none
def zys:Nat→List PA→Nat→Nat→Option LA:=fun h _ n i=>match h,n,i with|91,2,0=>some ⟨[.slot 3],[(.slot 0,2)],[],[],[],[(.slot 0,2)],[.slot 2],[],[]⟩|91,2,1=>some ⟨[.slot 5,.slot 3],[],[],[(2,2)],[.slot 3],[],[],[],[]⟩|_,_,_=>none
def ziB(b:Nat×Nat)(a:List DV)(c:List OC):Option PX:=za (zc .lss (zj a 0) (.int .i64 (.ofNat b.2))) fun g=>ifB g (za (uG b.2 (zj a 0)) fun h=>za (zbW (zI c 0) (b.1+h)) fun d=>za (zc .sub (zj a 0) (I6 1)) fun j=>za (uG b.2 j) fun k=>za (zbW (zI c 0) (b.1+k)) fun e=>za (zhi [1,1] [atD d 0,atD d 1] [atD e 0,atD e 1]) fun l=>ifB (.bool (!l)) (za (uG b.2 (zj a 0)) fun m=>za (zbW (zI c 0) (b.1+m)) fun f=>za (wC (zI c 0) (zj a 1)) fun n=>za (zwe 2 (zI c 0) n 0 [atD f 0,atD f 1]) fun o=>za (zc .add (zj a 1) (I6 1)) fun p=>za (zc .add (zj a 0) (I6 1)) fun q=>some (.normal,[q,p],[o])) (za (zc .add (zj a 0) (I6 1)) fun r=>some (.normal,[r,zj a 1],[zI c 0]))) (some (.exit 2,[zj a 1],[zI c 0]))
def zal(b:List DV)(a:List OC):Option PX:=za (zc .lss (zj b 0) (I6 (Int.ofNat (wD (zI a 0))))) fun k=>ifB k (za (wC (zI a 0) (zj b 0)) fun l=>za (zbW (zI a 0) l) fun g=>za (zc .sub (zj b 0) (I6 1)) fun m=>za (wC (zI a 0) m) fun n=>za (zbW (zI a 0) n) fun h=>za (zhi [1,1] [atD g 0,atD g 1] [atD h 0,atD h 1]) fun o=>ifB (.bool o) (za (vwB (some (zj b 0)) none (wD (zI a 0))) fun p=>yB (zJ (ziB p) [I6 1,zj b 0] [zI a 0]) (fun f d c=>bif Nat.beq f 2 then (za (vwB (some (zj d 0)) none (wD (zI c 0))) fun e=>za (vwB none (some (zj d 0)) (wD (zqm (zI c 0) e.1 e.2 [I6 0,I6 0]))) fun j=>some (.ret,[zhG 2 j.1 j.2 (mkL 2 (zqm (zI c 0) e.1 e.2 [I6 0,I6 0]))],[])) else(bif Nat.beq f 1 then (za (zc .add (zj d 0) (I6 1)) fun q=>some (.normal,[q],[zI c 0])) else(some (.exit f,[],[zI c 0])))) (fun _d _c=>none)) (za (zc .add (zj b 0) (I6 1)) fun r=>some (.normal,[r],[zI a 0]))) (some (.exit 0,[],[zI a 0]))
def zqH(O:Orc)(e:DV)(f:List DV)(g h:DV)(a:List DV)(b:List OC):Option PX:=za (zc .lss (zj a 0) e) fun j=>ifB j (za (yT 2 (atD f 2) (zj a 0)) fun d=>bT [some 2,none] (O 113 [S1 g,SA [atD d 0,atD d 1],S1 h]) fun c=>ifB (dsO (zm c 1)) (gd (fits 16 (wD (zI b 0)+1)) (za (zc .add (zj a 0) (I6 1)) fun k=>some (.normal,[k],[some (zC (zI b 0)++[[atD (dsA (zm c 0)) 0,atD (dsA (zm c 0)) 1]])]))) (za (zc .add (zj a 0) (I6 1)) fun l=>some (.normal,[l],[zI b 0]))) (some (.exit 0,[],[zI b 0]))
def P88(O:Orc)(l a b c d f:DV):Option DA:=bA 3 (O 112 [SA [a,b,c,d],S1 f]) fun g=>za (yC (atD g 2)) fun m=>yB (zJ (zqH O m g l f) [I6 0] [none]) (fun n _o h=>bif Nat.beq n 0 then (za (ztb 2 (zI h 0)) fun e=>za (zc .lss (I6 (Int.ofNat (wD e))) (I6 2)) fun p=>ifB p (some (S1 (mkL 2 e))) (yB (zJ zal [I6 1] [e]) (fun q _j k=>bif Nat.beq q 0 then (some (S1 (mkL 2 (zI k 0)))) else(none)) (fun j _k=>some (S1 (zj j 0))))) else(none)) (fun _o _h=>none)
theorem p88(O:Orc)(a0 a b c d a2:DV):zmL prog O kG (inl prog O kG zys redI 5) zBD 88 [S1 a0,SA [a,b,c,d],S1 a2]=P88 O a0 a b c d a2:=by kernel_rfl
def P96(O:Orc)(a b:DV):Option DA:=za (zc .leq b (I6 0)) fun c=>ifB c (some (S1 (I6 2))) (za (zc .gtr b (I6 1000000)) fun d=>ifB d (some (S1 (I6 2))) (za (zc .lss a (I6 (-1000000))) fun e=>ifB e (some (S1 (I6 2))) (za (zc .gtr a (I6 1000000)) fun f=>ifB f (some (S1 (I6 2))) (b1 (O 121 [S1 a]) fun g=>za (xn .u64 b) fun h=>b1 (O 120 [S1 g,S1 h]) fun j=>za (zc .neq j (U64 1)) fun k=>ifB k (some (S1 (I6 2))) (some (S1 (I6 0)))))))
theorem p96(O:Orc)(a b:DV):pF O an0 96 [SA [a,b]]=P96 O a b:=by kernel_rfl
def P97(O:Orc)(a b:DV):Option DA:=b1 (O 122 [S1 a,S1 b]) fun c=>za (zc .geq c (I6 0)) fun d=>some (S1 d)
theorem p97(O:Orc)(a0 a1:DV):pF O an0 97 [S1 a0,S1 a1]=P97 O a0 a1:=by kernel_rfl
def P98(_O:Orc)(a:DV):Option DA:=za (zc .lss a (I6 0)) fun b=>ifB b (some (S1 (.bool true))) (za (zc .gtr a (I6 1000000)) fun c=>some (S1 c))
theorem p98(O:Orc)(a0:DV):pF O an0 98 [S1 a0]=P98 O a0:=by kernel_rfl
def zBC:Nat→Option LA:=fun i=>match i with|0=>some ⟨[.slot 13],[],[],[],[],[],[.slot 2],[],[]⟩|_=>none
def zqG(O:Orc)(e a:DV)(c:List DV)(_j:List OC):Option PX:=za (zc .lss (zj c 0) e) fun f=>ifB f (za (yT 6 a (zj c 0)) fun b=>b1 (O 56 [SA [atD b 0,atD b 1,atD b 2,atD b 3,atD b 4,atD b 5]]) fun d=>za (zc .neq d (I6 0)) fun g=>ifB g (some (.ret,[d],[])) (za (zc .add (zj c 0) (I6 1)) fun h=>some (.normal,[h],[]))) (some (.exit 0,[],[]))
def P99(O:Orc)(a b c:DV):Option DA:=za (yC a) fun e=>za (zc .gtr e (I6 60)) fun f=>ifB f (some (S1 (I6 4))) (za (yC a) fun g=>yB (zJ (zqG O g a) [I6 0] []) (fun h _d _j=>bif Nat.beq h 0 then (b1 (O 79 [SA [b,c]]) fun k=>some (S1 k)) else(none)) (fun d _j=>some (S1 (zj d 0))))
theorem p99(O:Orc)(a b c:DV):pF O zBC 99 [SA [a,b,c]]=P99 O a b c:=by kernel_rfl
def zyF:Nat→Option LA:=fun i=>match i with|0=>some ⟨[.slot 12],[],[],[],[],[],[.slot 4],[],[]⟩|_=>none
def ziO(O:Orc)(e d a:DV)(c:List DV)(_p:List OC):Option PX:=za (zc .lss (zj c 0) e) fun f=>ifB f (za (yT 2 d (zj c 0)) fun b=>za (zc .lss (atD b 0) (I6 0)) fun g=>ifB g (some (.ret,[I6 10],[])) (za (yC a) fun h=>za (zc .geq (atD b 0) h) fun j=>ifB j (some (.ret,[I6 10],[])) (za (zc .lss (atD b 1) (I6 (-127))) fun k=>ifB k (some (.ret,[I6 3],[])) (za (zc .gtr (atD b 1) (I6 127)) fun l=>ifB l (some (.ret,[I6 3],[])) (za (kH 2 d none (some (zj c 0))) fun m=>b1 (O 123 [S1 m,SA [atD b 0,atD b 1]]) fun n=>ifB n (some (.ret,[I6 9],[])) (za (zc .add (zj c 0) (I6 1)) fun o=>some (.normal,[o],[]))))))) (some (.exit 0,[],[]))
def zA5(O:Orc)(a _b _c b:DV):Option DA:=za (yC b) fun d=>za (zc .gtr d (I6 8)) fun e=>ifB e (some (S1 (I6 4))) (za (yC b) fun f=>yB (zJ (ziO O f b a) [I6 0] []) (fun g _c _h=>bif Nat.beq g 0 then (some (S1 (I6 0))) else(none)) (fun c _h=>some (S1 (zj c 0))))
theorem zCs(O:Orc)(a b c a1:DV):pF O zyF 100 [SA [a,b,c],S1 a1]=zA5 O a b c a1:=by kernel_rfl
def zyE:Nat→Option LA:=fun i=>match i with|0=>some ⟨[.slot 8],[],[],[],[],[],[.slot 4],[],[]⟩|_=>none
def ziN(O:Orc)(c d e:DV)(b:List DV)(_j:List OC):Option PX:=za (zc .lss (zj b 0) c) fun f=>ifB f (za (yT 5 d (zj b 0)) fun a=>b1 (zhj O e [SA [atD a 0,atD a 1,atD a 2,atD a 3,atD a 4]]) fun g=>ifB g (some (.ret,[zj b 0],[])) (za (zc .add (zj b 0) (I6 1)) fun h=>some (.normal,[h],[]))) (some (.exit 0,[],[]))
def zA4(O:Orc)(a c:DV):Option DA:=za (yC a) fun d=>yB (zJ (ziN O d a c) [I6 0] []) (fun e _b _f=>bif Nat.beq e 0 then (some (S1 (I6 (-1)))) else(none)) (fun b _f=>some (S1 (zj b 0)))
theorem zCr(O:Orc)(a0 a1:DV):pF O zyE 101 [S1 a0,S1 a1]=zA4 O a0 a1:=by kernel_rfl
def zA3(O:Orc)(_a _b _c d c:DV):Option DA:=b1s (O 135 [S1 d,S1 (.fn 136 [[c]])]) fun b=>za (zc .lss b (I6 0)) fun e=>ifB e (some (SA [I6 0,I6 0,.nils])) (za (yT 3 d b) fun a=>some (SA [atD a 0,atD a 1,atD a 2]))
theorem zCq(O:Orc)(a b c d a1:DV):pF O an0 112 [SA [a,b,c,d],S1 a1]=zA3 O a b c d a1:=by kernel_rfl
def zA2(_O:Orc)(d a b e:DV):Option DA:=za (zc .lss a (I6 0)) fun f=>ifB f (some (.tup [.agg [I6 0,I6 0],.one (.bool false)])) (za (yC d) fun g=>za (zc .geq a g) fun h=>ifB h (some (.tup [.agg [I6 0,I6 0],.one (.bool false)])) (za (zc .add e b) fun j=>za (yT 6 d a) fun k=>za (zc .sub j (atD k 4)) fun c=>za (zc .geq c (I6 0)) fun l=>ifB l (za (yT 6 d a) fun m=>za (yC (atD m 5)) fun n=>za (zc .lss c n) fun o=>some (.tup [.agg [a,c],.one o])) (some (.tup [.agg [a,c],.one (.bool false)]))))
theorem zCp(O:Orc)(a0 a b a2:DV):pF O an0 113 [S1 a0,SA [a,b],S1 a2]=zA2 O a0 a b a2:=by kernel_rfl
def zyC:Nat→Option LA:=fun i=>match i with|0=>some ⟨[.slot 1,.slot 0],[],[],[],[.slot 0],[],[],[],[]⟩|_=>none
def zl8(a:List DV)(_d:List OC):Option PX:=za (zc .gtr (zj a 0) (U64 0)) fun b=>ifB b (za (zc .rem (zj a 1) (zj a 0)) fun c=>some (.normal,[c,zj a 0],[])) (some (.exit 0,[zj a 1],[]))
def zAZ(_O:Orc)(b c:DV):Option DA:=yB (zJ zl8 [c,b] []) (fun d a _e=>bif Nat.beq d 0 then (some (S1 (zj a 0))) else(none)) (fun _a _e=>none)
theorem zCm(O:Orc)(a0 a1:DV):pF O zyC 120 [S1 a0,S1 a1]=zAZ O a0 a1:=by kernel_rfl
def zAY(_O:Orc)(a:DV):Option DA:=za (zc .lss a (I6 0)) fun b=>ifB b (za (xn .u64 a) fun c=>za (zxb c) fun d=>some (S1 d)) (za (xn .u64 a) fun e=>some (S1 e))
theorem zCl(O:Orc)(a0:DV):pF O an0 121 [S1 a0]=zAY O a0:=by kernel_rfl
def zyB:Nat→Option LA:=fun i=>match i with|0=>some ⟨[.slot 8],[],[],[],[],[],[.slot 4],[],[]⟩|_=>none
def ziM(O:Orc)(b c d:DV)(a:List DV)(_j:List OC):Option PX:=za (zc .lss (zj a 0) b) fun e=>ifB e (za (yT 1 c (zj a 0)) fun f=>b1 (zhj O d [S1 (atD f 0)]) fun g=>ifB g (some (.ret,[zj a 0],[])) (za (zc .add (zj a 0) (I6 1)) fun h=>some (.normal,[h],[]))) (some (.exit 0,[],[]))
def zAX(O:Orc)(a c:DV):Option DA:=za (yC a) fun d=>yB (zJ (ziM O d a c) [I6 0] []) (fun e _b _f=>bif Nat.beq e 0 then (some (S1 (I6 (-1)))) else(none)) (fun b _f=>some (S1 (zj b 0)))
theorem zCk(O:Orc)(a0 a1:DV):pF O zyB 122 [S1 a0,S1 a1]=zAX O a0 a1:=by kernel_rfl
def zAW(O:Orc)(c a b:DV):Option DA:=b1 (O 157 [S1 c,SA [a,b]]) fun d=>za (zc .geq d (I6 0)) fun e=>some (S1 e)
theorem zCj(O:Orc)(a0 a b:DV):pF O an0 123 [S1 a0,SA [a,b]]=zAW O a0 a b:=by kernel_rfl
def zyA:Nat→Option LA:=fun i=>match i with|0=>some ⟨[.slot 8],[],[],[],[],[],[.slot 4],[],[]⟩|_=>none
def ziL(O:Orc)(c d e:DV)(a:List DV)(_j:List OC):Option PX:=za (zc .lss (zj a 0) c) fun f=>ifB f (za (yT 3 d (zj a 0)) fun b=>b1 (zhj O e [SA [atD b 0,atD b 1,atD b 2]]) fun g=>ifB g (some (.ret,[zj a 0],[])) (za (zc .add (zj a 0) (I6 1)) fun h=>some (.normal,[h],[]))) (some (.exit 0,[],[]))
def zAV(O:Orc)(a c:DV):Option DA:=za (yC a) fun d=>yB (zJ (ziL O d a c) [I6 0] []) (fun e _b _f=>bif Nat.beq e 0 then (some (S1 (I6 (-1)))) else(none)) (fun b _f=>some (S1 (zj b 0)))
theorem zCi(O:Orc)(a0 a1:DV):pF O zyA 135 [S1 a0,S1 a1]=zAV O a0 a1:=by kernel_rfl
def zAU(_O:Orc)(a b _c d:DV):Option DA:=za (zc .leq a d) fun c=>ifB c (za (zc .leq d b) fun e=>some (S1 e)) (some (S1 (.bool false)))
theorem zCh(O:Orc)(a b c d:DV):pF O an0 136 [SA [a,b,c],S1 (.fp [d] 0)]=zAU O a b c d:=by kernel_rfl
def zyz:Nat→Option LA:=fun i=>match i with|0=>some ⟨[.slot 8],[],[],[],[],[],[.slot 4],[],[]⟩|_=>none
def ziK(e f a b:DV)(c:List DV)(_k:List OC):Option PX:=za (zc .lss (zj c 0) e) fun g=>ifB g (za (yT 2 f (zj c 0)) fun d=>za (zhi [1,1] [a,b] [atD d 0,atD d 1]) fun h=>ifB (.bool h) (some (.ret,[zj c 0],[])) (za (zc .add (zj c 0) (I6 1)) fun j=>some (.normal,[j],[]))) (some (.exit 0,[],[]))
def zAR(_O:Orc)(c a b:DV):Option DA:=za (yC c) fun e=>yB (zJ (ziK e c a b) [I6 0] []) (fun f _d _g=>bif Nat.beq f 0 then (some (S1 (I6 (-1)))) else(none)) (fun d _g=>some (S1 (zj d 0)))
theorem zCe(O:Orc)(a0 a b:DV):pF O zyz 157 [S1 a0,SA [a,b]]=zAR O a0 a b:=by kernel_rfl
def an3:Nat→Option LA:=fun i=>match i with|0=>some ⟨[.slot 18,.slot 17,.cell 9 0,.cell 9 1,.cell 9 2],[(.slot 16,1)],[(9,3)],[],[.slot 17,.cell 9 0,.cell 9 1,.cell 9 2],[(.slot 16,1)],[.cell 9 0,.cell 9 1,.cell 9 2],[],[5]⟩|_=>none
def qr:Nat→List PA→Nat→Nat→Option LA:=fun h _ n i=>match h,n,i with|11,3,0=>some ⟨[.slot 6,.cell 6 1,.cell 6 2],[(.cell 6 0,1)],[(6,3)],[],[.cell 6 1,.cell 6 2],[(.cell 6 0,1)],[.cell 6 1,.cell 6 2],[(.cell 6 0,1)],[]⟩|_,_,_=>none
def jc(O:Orc)(h:DV)(d:List DV)(a b:DV)(c:List DV)(g:List OC):Option PX:=za (yC h) fun m=>za (zc .lss (zj c 0) m) fun n=>ifB n (za (yT 3 h (zj c 0)) fun j=>b1 (O 12 [SA [atD d 0,atD d 1,atD d 2,atD d 3],SA [zj c 2,zj c 3,zj c 4],SA [atD j 0,atD j 1,atD j 2]]) fun o=>za (xY o) fun p=>ifB p (gd (fits 8 (wD (zI g 0)+1)) (za (yT 3 h (zj c 0)) fun e=>za (zc .lss (zj c 1) (I6 0)) fun q=>ifB q (za (yT 3 h (zj c 0)) fun k=>b1 (O 13 [SA [atD d 0,atD d 1,atD d 2,atD d 3],SA [atD k 0,atD k 1,atD k 2],SA [a,b]]) fun r=>ifB r (za (zc .add (zj c 0) (I6 1)) fun s=>some (.normal,[s,zj c 0,atD e 0,atD e 1,atD e 2],[some (zC (zI g 0)++[[zj c 0]])])) (za (zc .add (zj c 0) (I6 1)) fun t=>some (.normal,[t,zj c 1,atD e 0,atD e 1,atD e 2],[some (zC (zI g 0)++[[zj c 0]])]))) (za (zc .add (zj c 0) (I6 1)) fun v=>some (.normal,[v,zj c 1,atD e 0,atD e 1,atD e 2],[some (zC (zI g 0)++[[zj c 0]])])))) (za (yT 3 h (zj c 0)) fun f=>za (zc .lss (zj c 1) (I6 0)) fun w=>ifB w (za (yT 3 h (zj c 0)) fun l=>b1 (O 13 [SA [atD d 0,atD d 1,atD d 2,atD d 3],SA [atD l 0,atD l 1,atD l 2],SA [a,b]]) fun x=>ifB x (za (zc .add (zj c 0) (I6 1)) fun y=>some (.normal,[y,zj c 0,atD f 0,atD f 1,atD f 2],[zI g 0])) (za (zc .add (zj c 0) (I6 1)) fun z=>some (.normal,[z,zj c 1,atD f 0,atD f 1,atD f 2],[zI g 0]))) (za (zc .add (zj c 0) (I6 1)) fun A=>some (.normal,[A,zj c 1,atD f 0,atD f 1,atD f 2],[zI g 0])))) (some (.exit 0,[zj c 1,zj c 2,zj c 3,zj c 4],[zI g 0]))
def qc(c:List DV)(a:List DV)(b:List OC):Option PX:=za (yC (atD c 2)) fun d=>za (zc .lss (zj a 0) d) fun e=>ifB e (za (zc .rem (zj a 0) (I6 3)) fun f=>za (uG 5 f) fun g=>za (xn .u64 (atD [U8 0,U8 0,U8 0,U8 0,U8 0] g)) fun h=>za (yT 5 (atD c 2) (zj a 0)) fun j=>za (yC (atD j 4)) fun k=>za (xn .u64 k) fun l=>za (kI true (U64 1) l) fun m=>za (zc .sub m (U64 1)) fun n=>za (zc .and h n) fun o=>gd (fits 8 (wD (zI b 0)+1)) (za (zc .add (zj a 0) (I6 1)) fun p=>some (.normal,[p,zj a 1,zj a 2],[some (zC (zI b 0)++[[o]])]))) (some (.exit 0,[zj a 1,zj a 2],[zI b 0]))
def P3(O:Orc)(a b c l d f:DV):Option DA:=b1 (O 5 []) fun p=>za (xY p) fun q=>ifB q (b1 (O 5 []) fun r=>some (S1 r)) (b1 (O 6 [SA [a,b,c]]) fun s=>za (xY s) fun t=>ifB t (b1 (O 5 []) fun v=>some (S1 v)) (za (yC l) fun w=>za (zc .gtr w (I6 5)) fun x=>ifB x (b1 (O 5 []) fun y=>some (S1 y)) (bA 4 (O 7 [SA [a,b,c]]) fun e=>b1 (O 8 [SA [atD e 0,atD e 1,atD e 2,atD e 3],S1 l]) fun h=>bT [none,none] (O 9 [SA [atD e 0,atD e 1,atD e 2,atD e 3],S1 h]) fun m=>bT [none,none,none] (O 10 [SA [atD e 0,atD e 1,atD e 2,atD e 3],S1 h,SA [d,f]]) fun g=>za (xn .u64 (atD [U8 0,U8 0,U8 0,U8 0,U8 0] 3)) fun z=>za (yC (atD e 3)) fun A=>za (xn .u64 A) fun B=>za (kI true (U64 1) B) fun C=>za (zc .sub C (U64 1)) fun E=>za (zc .and z E) fun F=>za (xn .u64 (atD [U8 0,U8 0,U8 0,U8 0,U8 0] 4)) fun G=>za (yC (atD e 2)) fun H=>za (xn .u64 H) fun J=>za (kI true (U64 1) J) fun K=>za (zc .sub K (U64 1)) fun L=>za (zc .and G L) fun M=>yB (zJ (qc e) [I6 0,F,M] [none]) (fun N j n=>bif Nat.beq N 0 then (yB (zJ (jc O h e d f) [I6 0,I6 (-1),mkL 1 (zI n 0),zj j 0,zj j 1] [none]) (fun P k o=>bif Nat.beq P 0 then (za (zc .neq (dsO (zm m 1)) (I6 0)) fun Q=>ifB Q (some (S1 (.bool false))) (b1s (O 14 [S1 (dsO (zm m 0)),S1 (mkL 1 (zI o 0))]) fun R=>za (xY R) fun S=>ifB S (some (S1 (.bool false))) (za (zc .lss d (I6 0)) fun T=>ifB T (za (zc .eql (dsO (zm g 0)) (I6 0)) fun U=>ifB U (za (xY (dsO (zm g 1))) fun V=>ifB V (za (zc .eql (dsO (zm g 2)) (I6 10)) fun W=>some (S1 W)) (some (S1 (.bool false)))) (some (S1 (.bool false)))) (za (yC (atD e 1)) fun X=>za (zc .geq d X) fun Y=>ifB Y (za (zc .eql (dsO (zm g 0)) (I6 0)) fun Z=>ifB Z (za (xY (dsO (zm g 1))) fun aa=>ifB aa (za (zc .eql (dsO (zm g 2)) (I6 10)) fun ab=>some (S1 ab)) (some (S1 (.bool false)))) (some (S1 (.bool false)))) (za (zc .lss f (I6 0)) fun ac=>ifB ac (za (zc .eql (dsO (zm g 0)) (I6 0)) fun ad=>ifB ad (za (xY (dsO (zm g 1))) fun ae=>ifB ae (za (zc .eql (dsO (zm g 2)) (I6 10)) fun af=>some (S1 af)) (some (S1 (.bool false)))) (some (S1 (.bool false)))) (za (yT 6 (atD e 1) d) fun ag=>za (yC (atD ag 5)) fun ah=>za (zc .geq f ah) fun aj=>ifB aj (za (zc .eql (dsO (zm g 0)) (I6 0)) fun ak=>ifB ak (za (xY (dsO (zm g 1))) fun al=>ifB al (za (zc .eql (dsO (zm g 2)) (I6 10)) fun am=>some (S1 am)) (some (S1 (.bool false)))) (some (S1 (.bool false)))) (za (zc .lss (zj k 0) (I6 0)) fun an=>ifB an (za (zc .eql (dsO (zm g 0)) (I6 0)) fun ao=>ifB ao (za (xY (dsO (zm g 1))) fun ap=>ifB ap (za (zc .eql (dsO (zm g 2)) (I6 0)) fun aq=>some (S1 aq)) (some (S1 (.bool false)))) (some (S1 (.bool false)))) (za (zc .eql (dsO (zm g 0)) (zj k 0)) fun ar=>ifB ar (ifB (dsO (zm g 1)) (za (zc .eql (dsO (zm g 2)) (I6 0)) fun au=>some (S1 au)) (some (S1 (.bool false)))) (some (S1 (.bool false))))))))))) else(none)) (fun _k _o=>none)) else(none)) (fun _j _n=>none))))
theorem p3(O:Orc)(a b c a1 d f:DV):zmL prog O kG (inl prog O kG qr redI 5) an3 3 [SA [a,b,c],S1 a1,SA [d,f]]=P3 O a b c a1 d f:=by kernel_rfl
def an8:Nat→Option LA:=fun i=>match i with|0=>some ⟨[.slot 7,.cell 6 0,.cell 6 1,.cell 6 2],[(.slot 5,3)],[(6,3)],[],[.cell 6 0,.cell 6 1,.cell 6 2],[(.slot 5,3)],[.cell 6 0,.cell 6 1,.cell 6 2],[],[5]⟩|1=>some ⟨[.slot 9],[],[],[(12,1)],[],[],[],[],[]⟩|_=>none
def qp:Nat→List PA→Nat→Nat→Option LA:=fun h _ n i=>match h,n,i with|11,1,0=>some ⟨[.slot 6,.cell 4 1,.cell 4 2],[(.cell 4 0,1)],[(4,3)],[],[.cell 4 1,.cell 4 2],[(.cell 4 0,1)],[.cell 4 1,.cell 4 2],[(.cell 4 0,1)],[]⟩|11,8,0=>some ⟨[.slot 6,.cell 11 1,.cell 11 2],[(.cell 11 0,1)],[(11,3)],[],[.cell 11 1,.cell 11 2],[(.cell 11 0,1)],[.cell 11 1,.cell 11 2],[(.cell 11 0,1)],[]⟩|_,_,_=>none
def ja(c:List DV)(b:List DV)(a:List OC):Option PX:=za (zc .lss (zj b 0) (I6 (Int.ofNat (wD (zI a 0))))) fun d=>ifB d (za (wC (zI a 0) (zj b 0)) fun e=>za (zbW (zI a 0) e) fun f=>za (yT 1 (zj c 1) (zj b 0)) fun g=>za (zc .or (atD f 0) (atD g 0)) fun h=>za (wC (zI a 0) (zj b 0)) fun j=>za (zwe 1 (zI a 0) j 0 [h]) fun k=>za (zc .add (zj b 0) (I6 1)) fun l=>some (.normal,[l],[k])) (some (.exit 2,[],[zI a 0]))
def qa(a:DV)(c:List DV)(b:List DV)(d:List OC):Option PX:=za (yC a) fun e=>za (zc .lss (zj b 0) e) fun f=>ifB f (za (zc .rem (zj b 0) (I6 3)) fun g=>za (uG 5 g) fun h=>za (xn .u64 (atD [atD c 0,atD c 1,atD c 2,atD c 3,atD c 4] h)) fun j=>za (yT 5 a (zj b 0)) fun k=>za (yC (atD k 4)) fun l=>za (xn .u64 l) fun m=>za (kI true (U64 1) m) fun n=>za (zc .sub n (U64 1)) fun o=>za (zc .and j o) fun p=>gd (fits 8 (wD (zI d 0)+1)) (za (zc .add (zj b 0) (I6 1)) fun q=>some (.normal,[q,zj b 1,zj b 2],[some (zC (zI d 0)++[[p]])]))) (some (.exit 0,[zj b 1,zj b 2],[zI d 0]))
def jb(j a b:DV)(c:List DV)(e:List OC):Option PX:=za (yC j) fun n=>za (zc .lss (zj c 0) n) fun o=>ifB o (za (zc .lss (zj c 0) (I6 5)) fun p=>ifB p (za (yT 5 j (zj c 0)) fun d=>za (xn .u64 (atD [atD d 0,atD d 1,atD d 2,atD d 3,atD d 4] 3)) fun q=>za (yC a) fun r=>za (xn .u64 r) fun s=>za (kI true (U64 1) s) fun t=>za (zc .sub t (U64 1)) fun v=>za (zc .and q v) fun w=>za (xn .u64 (atD [atD d 0,atD d 1,atD d 2,atD d 3,atD d 4] 4)) fun x=>za (yC b) fun y=>za (xn .u64 y) fun z=>za (kI true (U64 1) z) fun A=>za (zc .sub A (U64 1)) fun B=>za (zc .and x B) fun C=>yB (zJ (qa b d) [I6 0,w,C] [none]) (fun E f k=>bif Nat.beq E 0 then (yB (zJ (ja c) [I6 0] [zI k 0]) (fun g _F h=>bif Nat.beq g 2 then (za (zc .or (zj f 0) (zj c 2)) fun l=>za (zc .or (zj f 1) (zj c 3)) fun m=>gd (fits 40 (wD (zI e 0)+1)) (za (zc .add (zj c 0) (I6 1)) fun G=>some (.normal,[G,mkL 1 (zI h 0),l,m],[some (zC (zI e 0)++[[mkL 1 (zI h 0),l,m]])]))) else(bif Nat.beq g 1 then (za (zc .add (zj c 0) (I6 1)) fun H=>some (.normal,[H,zj c 1,zj c 2,zj c 3],[zI e 0])) else(some (.exit g,[zj c 1,zj c 2,zj c 3],[zI e 0])))) (fun _F _h=>none)) else(none)) (fun _f _k=>none)) (some (.exit 0,[zj c 1,zj c 2,zj c 3],[zI e 0]))) (some (.exit 0,[zj c 1,zj c 2,zj c 3],[zI e 0]))
def qb(a:DV)(b:List DV)(c:List OC):Option PX:=za (yC a) fun d=>za (zc .lss (zj b 0) d) fun e=>ifB e (za (zc .rem (zj b 0) (I6 3)) fun f=>za (uG 5 f) fun g=>za (xn .u64 (atD [U8 0,U8 0,U8 0,U8 0,U8 0] g)) fun h=>za (yT 5 a (zj b 0)) fun j=>za (yC (atD j 4)) fun k=>za (xn .u64 k) fun l=>za (kI true (U64 1) l) fun m=>za (zc .sub m (U64 1)) fun n=>za (zc .and h n) fun o=>gd (fits 8 (wD (zI c 0)+1)) (za (zc .add (zj b 0) (I6 1)) fun p=>some (.normal,[p,zj b 1,zj b 2],[some (zC (zI c 0)++[[o]])]))) (some (.exit 0,[zj b 1,zj b 2],[zI c 0]))
def P8(_O:Orc)(_a _b c d f:DV):Option DA:=za (xn .u64 (atD [U8 0,U8 0,U8 0,U8 0,U8 0] 3)) fun g=>za (yC d) fun h=>za (xn .u64 h) fun j=>za (kI true (U64 1) j) fun k=>za (zc .sub k (U64 1)) fun l=>za (zc .and g l) fun m=>za (xn .u64 (atD [U8 0,U8 0,U8 0,U8 0,U8 0] 4)) fun n=>za (yC c) fun o=>za (xn .u64 o) fun p=>za (kI true (U64 1) p) fun q=>za (zc .sub q (U64 1)) fun r=>za (zc .and n r) fun s=>yB (zJ (qb c) [I6 0,m,s] [none]) (fun t a b=>bif Nat.beq t 0 then (yB (zJ (jb f d c) [I6 0,mkL 1 (zI b 0),zj a 0,zj a 1] [none]) (fun v _w e=>bif Nat.beq v 0 then (some (S1 (mkL 3 (zI e 0)))) else(none)) (fun _w _e=>none)) else(none)) (fun _a _b=>none)
theorem p8(O:Orc)(a b c d a1:DV):zmL prog O kG (inl prog O kG qp redI 5) an8 8 [SA [a,b,c,d],S1 a1]=P8 O a b c d a1:=by kernel_rfl
def anT(g:Nat):Nat→Option LA:=match g with
 |6=>an6
 |7=>an7
 |9=>an9
 |10=>zBX
 |12=>zDB
 |13=>zDA
 |14=>qu
 |17=>zBV
 |24=>zBS
 |31=>qt
 |32=>zBR
 |35=>zBP
 |36=>zBO
 |53=>zBN
 |55=>zBM
 |58=>zBL
 |59=>zBK
 |69=>zBJ
 |70=>zBI
 |71=>zBH
 |73=>zBG
 |74=>zBF
 |80=>zBE
 |88=>zBD
 |99=>zBC
 |100=>zyF
 |101=>zyE
 |120=>zyC
 |122=>zyB
 |135=>zyA
 |157=>zyz
 |3=>an3
 |8=>an8
 |_=>an0
def ziV(g:Nat):Nat→List PA→Nat→Nat→Option LA:=match g with
 |10=>zyx
 |27=>zyv
 |73=>zyu
 |74=>zyt
 |88=>zys
 |3=>qr
 |8=>qp
 |_=>zyy
end Go.Proofs.Tryz.Kn
end
section
namespace Go.Proofs.Tryz.Kn
open Go Go.CE Go.PE
theorem zw8{sums:List CE.Sum}:zsX kG redI (fun n=>zQ (zS prog) (cFs (yL prog)) sums redI.s n):=by intro N g g' l l' vs e;cases e
end Go.Proofs.Tryz.Kn
end
noncomputable section
namespace Go.Proofs.Tryz.Kn
open Go Go.CE Go.PE
def zvo:List CE.Sum:=[kSum31]
theorem zsq:∀s∈zvo,zbU Tryz.prog s:=by
 intro s hs;simp only[zvo,Yzu,Yzv,or_false]at hs;rcases hs with rfl
 ·exact zpF
def bSums:List CE.Sum:=zvo++shSums
theorem zsS:∀s∈bSums,zbU Tryz.prog s:=zsO zsq zn8
def bIds:List Nat:=[5,84,85,86,87]
theorem zqD:bSums.all (fun s=>bIds.any (Nat.beq s.g))=true:=by kernel_rfl
theorem zey{g:Nat}(h:bIds.any (Nat.beq g)=false):∀s∈bSums,Nat.beq g s.g=false:=by
 intro s hs;have h1:=YzM.1 zqD s hs;cases hb:Nat.beq g s.g with
 |false=>rfl
 |true=>rw[←Lz1 hb,h]at h1;cases h1
theorem znv{g:Nat}(h:bIds.any (Nat.beq g)=false):bSums.all (fun s=>!Nat.beq g s.g)=true:=
 YzM.2 fun s hs=>by rw[zey h s hs];rfl
def B:Orc:=zwc bIds bSums
theorem zyS{g:Nat}(h:bIds.any (Nat.beq g)=false)(args:List DA):B g args=none:=by unfold B zwc;rw[h];rfl
theorem zxR{g:Nat}(h:([84,85,86,87]:List Nat).any (Nat.beq g)=true):bIds.any (Nat.beq g)=true:=by obtain⟨n,hn,e⟩:=List.any_eq_true.1 h;refine List.any_eq_true.2 ⟨n,?_,e⟩;simp only[bIds,Yzu,Yzv,or_false]at hn ⊢;omega
theorem zDz{g:Nat}(h:([84,85,86,87]:List Nat).any (Nat.beq g)=true)(args:List DA):B g args=zwc bIds bSums g args:=by rfl
def D(k:Nat):Orc:=deep prog bSums B anT kG ziV redI 5 k
theorem dF{k g:Nat}{args:List DA}{x:Option DA}(h:bIds.any (Nat.beq g)=false)(hr:(redI.s g).isNone=true)(e:zmL prog (D k) kG (inl prog (D k) kG (ziV g) redI 5) (anT g) g args=x):D (k+1) g args=x:=(uC (zyS h _) (znv h) hr).trans e
theorem zrr:∀g,kG g=true→∀s∈bSums,Nat.beq g s.g=false:=by
 intro g hg;refine zey ?_;unfold kG at hg;split at hg
 ·rfl
 ·rfl
 ·rfl
 ·rfl
 ·rfl
 ·rfl
 ·rfl
 ·rfl
 ·rfl
 ·rfl
 ·rfl
 ·rfl
 ·cases hg
theorem zt1:∀g,kG g=true→Nat.ble ziU g=false:=by
 intro g hg;unfold kG at hg;split at hg
 ·rfl
 ·rfl
 ·rfl
 ·rfl
 ·rfl
 ·rfl
 ·rfl
 ·rfl
 ·rfl
 ·rfl
 ·rfl
 ·rfl
 ·cases hg
theorem zDm(k:Nat):kE (D k) (fun n=>zQ (zS prog) (cFs (yL prog)) bSums redI.s n):=zgW zw8 zrr zt1 (zt3 (by kernel_rfl)) k
theorem zt5:∀g t,redI.s g=some t→ziy prog g t:=by
 intro g t e;unfold redI at e;simp only at e;split at e
 ·cases e;exact Kc.srtP_ok
 ·cases e;exact Kc.srtC_ok
 ·cases e
theorem D5(k:Nat):D k 5 []=some (S1 (.bool true)):=zig (by kernel_rfl)
theorem D6(k:Nat)(a b c:DV):D (k+1) 6 [SA [a,b,c]]=P6 (D k) a b c:=dF rfl rfl (p6 ..)
theorem D7(k:Nat)(a b c:DV):D (k+1) 7 [SA [a,b,c]]=P7 (D k) a b c:=dF rfl rfl (p7 ..)
theorem D9(k:Nat)(a b c d a1:DV):D (k+1) 9 [SA [a,b,c,d],S1 a1]=P9 (D k) a b c d a1:=dF rfl rfl (p9 ..)
theorem D10(k:Nat)(a b c d a1 f h:DV):D (k+1) 10 [SA [a,b,c,d],S1 a1,SA [f,h]]=P10 (D k) a b c d a1 f h:=dF rfl rfl (p10 ..)
theorem D12(k:Nat)(a b c d f h j m r s:DV):D (k+1) 12 [SA [a,b,c,d],SA [f,h,j],SA [m,r,s]]=P12 (D k) a b c d f h j m r s:=dF rfl rfl (p12 ..)
theorem D13(k:Nat)(a b c d f h j m r:DV):D (k+1) 13 [SA [a,b,c,d],SA [f,h,j],SA [m,r]]=P13 (D k) a b c d f h j m r:=dF rfl rfl (p13 ..)
theorem D14(k:Nat)(a0 a1:DV):D (k+1) 14 [S1 a0,S1 a1]=P14 (D k) a0 a1:=dF rfl rfl (p14 ..)
theorem D17(k:Nat)(a b c d a1:DV):D (k+1) 17 [SA [a,b,c,d],S1 a1]=P17 (D k) a b c d a1:=dF rfl rfl (p17 ..)
theorem D24(k:Nat)(a b c d f h j m r a1:DV):D (k+1) 24 [SA [a,b,c,d,f,h,j,m,r],S1 a1]=P24 (D k) a b c d f h j m r a1:=dF rfl rfl (p24 ..)
theorem D25(k:Nat)(a0 a b c d f h a3:DV):D (k+1) 25 [S1 a0,SA [a,b],SA [c,d,f,h],S1 a3]=P25 (D k) a0 a b c d f h a3:=dF rfl rfl (p25 ..)
theorem D26(k:Nat)(a b c d:DV):D (k+1) 26 [SA [a,b,c,d]]=P26 (D k) a b c d:=dF rfl rfl (p26 ..)
theorem D27(k:Nat)(a b c d f h j m r s:DV):D (k+1) 27 [SA [a,b,c,d],SA [f,h,j],SA [m,r,s]]=P27 (D k) a b c d f h j m r s:=dF rfl rfl (p27 ..)
theorem D29(k:Nat)(a b c d f h j m r:DV):D (k+1) 29 [SA [a,b,c,d],SA [f,h,j],SA [m,r]]=P29 (D k) a b c d f h j m r:=dF rfl rfl (p29 ..)
theorem D30(k:Nat)(a0 a b:DV):D (k+1) 30 [S1 a0,SA [a,b]]=P30 (D k) a0 a b:=dF rfl rfl (p30 ..)
theorem D31(k:Nat)(a0 a b:DV):D (k+1) 31 [S1 a0,SA [a,b]]=P31 (D k) a0 a b:=dF rfl rfl (p31 ..)
theorem D32(k:Nat)(a b c d f h j:DV):D (k+1) 32 [SA [a,b,c,d],SA [f,h,j]]=P32 (D k) a b c d f h j:=dF rfl rfl (p32 ..)
theorem D35(k:Nat)(a b c d:DV):D (k+1) 35 [SA [a,b,c,d]]=P35 (D k) a b c d:=dF rfl rfl (p35 ..)
theorem D36(k:Nat)(a b c d f h:DV):D (k+1) 36 [SA [a,b,c],SA [d,f,h]]=P36 (D k) a b c d f h:=dF rfl rfl (p36 ..)
theorem D45(k:Nat)(a0:DV):D (k+1) 45 [S1 a0]=P45 (D k) a0:=dF rfl rfl (p45 ..)
theorem D46(k:Nat)(a0:DV):D (k+1) 46 [S1 a0]=P46 (D k) a0:=dF rfl rfl (p46 ..)
theorem D47(k:Nat)(a b c d:DV):D (k+1) 47 [SA [a,b],SA [c,d]]=P47 (D k) a b c d:=dF rfl rfl (p47 ..)
theorem D48(k:Nat)(a0 a1:DV):D (k+1) 48 [S1 a0,S1 a1]=P48 (D k) a0 a1:=dF rfl rfl (p48 ..)
theorem D49(k:Nat)(a b c:DV):D (k+1) 49 [SA [a,b],S1 (.fp [c] 0)]=P49 (D k) a b c:=dF rfl rfl (p49 ..)
theorem D51(k:Nat)(a b c d f h j m r:DV):D (k+1) 51 [SA [a,b,c,d],SA [f,h,j],SA [m,r]]=P51 (D k) a b c d f h j m r:=dF rfl rfl (p51 ..)
theorem D52(k:Nat)(a b c d f h j a2:DV):D (k+1) 52 [SA [a,b,c,d],SA [f,h,j],S1 a2]=P52 (D k) a b c d f h j a2:=dF rfl rfl (p52 ..)
theorem D53(k:Nat)(a0 a b:DV):D (k+1) 53 [S1 a0,SA [a,b]]=P53 (D k) a0 a b:=dF rfl rfl (p53 ..)
theorem D55(k:Nat)(a0:DV):D (k+1) 55 [S1 a0]=P55 (D k) a0:=dF rfl rfl (p55 ..)
theorem D56(k:Nat)(a b c d f h:DV):D (k+1) 56 [SA [a,b,c,d,f,h]]=P56 (D k) a b c d f h:=dF rfl rfl (p56 ..)
theorem D58(k:Nat)(a b c d f h j m r:DV):D (k+1) 58 [SA [a,b,c,d],SA [f,h,j,m,r]]=P58 (D k) a b c d f h j m r:=dF rfl rfl (p58 ..)
theorem D59(k:Nat)(a0 a1:DV):D (k+1) 59 [S1 a0,S1 a1]=P59 (D k) a0 a1:=dF rfl rfl (p59 ..)
theorem D60(k:Nat)(a b c a1:DV):D (k+1) 60 [SA [a,b,c],S1 a1]=P60 (D k) a b c a1:=dF rfl rfl (p60 ..)
theorem D68(k:Nat)(a b c d:DV):D (k+1) 68 [SA [a,b],SA [c,d]]=P68 (D k) a b c d:=dF rfl rfl (p68 ..)
theorem D69(k:Nat)(a b c d:DV):D (k+1) 69 [SA [a,b],SA [c,d]]=P69 (D k) a b c d:=dF rfl rfl (p69 ..)
theorem D70(k:Nat)(a0 a1:DV):D (k+1) 70 [S1 a0,S1 a1]=P70 (D k) a0 a1:=dF rfl rfl (p70 ..)
theorem D71(k:Nat)(a b c d a1:DV):D (k+1) 71 [SA [a,b,c,d],S1 a1]=P71 (D k) a b c d a1:=dF rfl rfl (p71 ..)
theorem D72(k:Nat)(a b c d f h:DV):D (k+1) 72 [SA [a,b,c,d],SA [f,h]]=P72 (D k) a b c d f h:=dF rfl rfl (p72 ..)
theorem D73(k:Nat)(a b c d f h j a2:DV):D (k+1) 73 [SA [a,b,c,d],SA [f,h,j],S1 a2]=P73 (D k) a b c d f h j a2:=dF rfl rfl (p73 ..)
theorem D74(k:Nat)(a b c d f h j a2:DV):D (k+1) 74 [SA [a,b,c,d],SA [f,h,j],S1 a2]=P74 (D k) a b c d f h j a2:=dF rfl rfl (p74 ..)
theorem D75(k:Nat)(a0:DV):D (k+1) 75 [S1 a0]=P75 (D k) a0:=dF rfl rfl (p75 ..)
theorem D76(k:Nat)(a b:DV):D (k+1) 76 [SA [a,b]]=P76 (D k) a b:=dF rfl rfl (p76 ..)
theorem D77(k:Nat)(a0:DV):D (k+1) 77 [S1 a0]=P77 (D k) a0:=dF rfl rfl (p77 ..)
theorem D78(k:Nat)(a0:DV):D (k+1) 78 [S1 a0]=P78 (D k) a0:=dF rfl rfl (p78 ..)
theorem D79(k:Nat)(a b:DV):D (k+1) 79 [SA [a,b]]=P79 (D k) a b:=dF rfl rfl (p79 ..)
theorem D80(k:Nat)(a b c d f h j:DV):D (k+1) 80 [SA [a,b,c],SA [d,f,h,j]]=P80 (D k) a b c d f h j:=dF rfl rfl (p80 ..)
theorem D81(k:Nat)(a0 a1:DV):D (k+1) 81 [S1 a0,S1 a1]=P81 (D k) a0 a1:=dF rfl rfl (p81 ..)
theorem D82(k:Nat)(a b c d f h j m r s:DV):D (k+1) 82 [SA [a,b,c,d,f],S1 (.fp [h,j,m,r,s] 0)]=P82 (D k) a b c d f h j m r s:=dF rfl rfl (p82 ..)
theorem D88(k:Nat)(a0 a b c d a2:DV):D (k+1) 88 [S1 a0,SA [a,b,c,d],S1 a2]=P88 (D k) a0 a b c d a2:=dF rfl rfl (p88 ..)
theorem D96(k:Nat)(a b:DV):D (k+1) 96 [SA [a,b]]=P96 (D k) a b:=dF rfl rfl (p96 ..)
theorem D97(k:Nat)(a0 a1:DV):D (k+1) 97 [S1 a0,S1 a1]=P97 (D k) a0 a1:=dF rfl rfl (p97 ..)
theorem D98(k:Nat)(a0:DV):D (k+1) 98 [S1 a0]=P98 (D k) a0:=dF rfl rfl (p98 ..)
theorem D99(k:Nat)(a b c:DV):D (k+1) 99 [SA [a,b,c]]=P99 (D k) a b c:=dF rfl rfl (p99 ..)
theorem zDy(k:Nat)(a b c a1:DV):D (k+1) 100 [SA [a,b,c],S1 a1]=zA5 (D k) a b c a1:=dF rfl rfl (zCs ..)
theorem zDx(k:Nat)(a0 a1:DV):D (k+1) 101 [S1 a0,S1 a1]=zA4 (D k) a0 a1:=dF rfl rfl (zCr ..)
theorem zDw(k:Nat)(a b c d a1:DV):D (k+1) 112 [SA [a,b,c,d],S1 a1]=zA3 (D k) a b c d a1:=dF rfl rfl (zCq ..)
theorem zDv(k:Nat)(a0 a b a2:DV):D (k+1) 113 [S1 a0,SA [a,b],S1 a2]=zA2 (D k) a0 a b a2:=dF rfl rfl (zCp ..)
theorem zDu(k:Nat)(a0 a1:DV):D (k+1) 120 [S1 a0,S1 a1]=zAZ (D k) a0 a1:=dF rfl rfl (zCm ..)
theorem zDt(k:Nat)(a0:DV):D (k+1) 121 [S1 a0]=zAY (D k) a0:=dF rfl rfl (zCl ..)
theorem zDr(k:Nat)(a0 a1:DV):D (k+1) 122 [S1 a0,S1 a1]=zAX (D k) a0 a1:=dF rfl rfl (zCk ..)
theorem zDq(k:Nat)(a0 a b:DV):D (k+1) 123 [S1 a0,SA [a,b]]=zAW (D k) a0 a b:=dF rfl rfl (zCj ..)
theorem zDp(k:Nat)(a0 a1:DV):D (k+1) 135 [S1 a0,S1 a1]=zAV (D k) a0 a1:=dF rfl rfl (zCi ..)
theorem zDo(k:Nat)(a b c d:DV):D (k+1) 136 [SA [a,b,c],S1 (.fp [d] 0)]=zAU (D k) a b c d:=dF rfl rfl (zCh ..)
theorem zDn(k:Nat)(a0 a b:DV):D (k+1) 157 [S1 a0,SA [a,b]]=zAR (D k) a0 a b:=dF rfl rfl (zCe ..)
theorem D3(k:Nat)(a b c a1 d f:DV):D (k+1) 3 [SA [a,b,c],S1 a1,SA [d,f]]=P3 (D k) a b c a1 d f:=dF rfl rfl (p3 ..)
theorem D8(k:Nat)(a b c d a1:DV):D (k+1) 8 [SA [a,b,c,d],S1 a1]=P8 (D k) a b c d a1:=dF rfl rfl (p8 ..)
end Go.Proofs.Tryz.Kn
end
section
namespace Go.Proofs.Tryz.Kn
open Go Go.CE Go.PE
theorem zl0:∀(l:List UInt8) (i:Nat),zkh l i=(l[i]?).map fun c=>U8 (c.toNat:Int)
 | [],i=>by simp[zkh]
 |c::l,0=>rfl
 |c::l,i+1=>by show zkh l i=_;rw[zl0 l i];simp
theorem zhK(s:ByteArray)(k:IntKind)(i:Nat):zcz (.str s) (.int k (i:Int))=(s.data.toList[i]?).map fun c=>U8 (c.toNat:Int):=zl0 _ _
theorem zfT(s:ByteArray):s.size=s.data.toList.length:=(Array.length_toList (xs:=s.data)).symm
theorem zrM(a b:ByteArray):zoC .eql (.str a) (.str b)=some (.bool (a.data.toList==b.data.toList)):=rfl
def zdV(n:Int):Bool:=(decide (65≤n)&&decide (n≤90))||(decide (97≤n)&&decide (n≤122))
theorem t75(k:Nat)(n:Int):D (k+1) 75 [S1 (U8 n)]=some (S1 (Bo (zdV n))):=by rw[D75];unfold P75 zdV;by_cases h1:65≤n<;>by_cases h2:n≤90<;>by_cases h3:97≤n<;>by_cases h4:n≤122<;>simp[h1,h2,h3,h4]
def znr(n:Int):Bool:=zdV n||(decide (48≤n)&&decide (n≤57))||decide (n=95)
def isName(s:ByteArray):Bool:=
 match s.data.toList with
 | []=>false
 |c::l=>decide (l.length≤31)&&zdV (c.toNat:Int)&&l.all fun c=>znr (c.toNat:Int)
theorem l55(k:Nat)(s:ByteArray)(hs:s.data.toList.length≤1000):∀(r:List UInt8) (i:Nat),s.data.toList.drop i=r→
  zJ (zqQ (D (k+1)) (.str s)) [I6 (i:Int)] []=some (if r.all (fun c=>znr (c.toNat:Int)) then(.exit 0,[],[]) else(.ret,[Bo false],[])):=by
 intro r
 induction r with
 |nil=>grind[zr,zY,zqQ,zA,zdz,zb,zg,zfT,xG,zh]
 |cons c r ih=>
  intro i h;have h1:=yw h;have h2:(i:Int)<(s.data.toList.length:Int):=by omega
  have ea:zc .add (I6 (i:Int)) (I6 1)=some (I6 ((i+1:Nat):Int)):=yN;have ix:zcz (.str s) (I6 (i:Int))=some (U8 (c.toNat:Int)):=by rw[zhK,yI h];rfl
  have body:zqQ (D (k+1)) (.str s) [I6 (i:Int)] []=some (if znr (c.toNat:Int) then(.normal,[I6 ((i+1:Nat):Int)],[]) else(.ret,[Bo false],[])):=by
   simp only[zqQ,zA,zdz,zb,zg,zh,zfT,uV h1,if_true,ix,t75,zG,yu,ea,zM,ye]
   grind[znr]
  cases hc:znr (c.toNat:Int) with
  |true=>rw[hc]at body;rw[zF body,ih (i+1) (zL h)];simp[hc]
  |false=>grind[zx]
theorem t55(k:Nat)(s:ByteArray):D (k+2) 55 [S1 (St s)]=some (S1 (Bo (isName s))):=by
 rw[D55];unfold P55 isName;simp only[zrM,zb,zh,zdz,ye,zfT];cases hl:s.data.toList with
 |nil=>rfl
 |cons c l=>
  have ix:zcz (.str s) (I6 0)=some (U8 (c.toNat:Int)):=by grind[zhK]
  simp only[ix,zb,t75,zG,yu,zh];rw[show ((c::l:List UInt8)==(ByteArray.mk #[]).data.toList)=false from rfl];by_cases h1:l.length≤31
  ·have h2:¬(32<((c::l).length:Int)):=by grind
   simp only[h2,h1,decide_true,decide_false,YzF,Yze,if_false];cases zdV (c.toNat:Int) with
   |false=>rfl
   |true=>have:=l55 k s (by grind) l 1 (by grind);simp only[Yzn,Yze,if_false,YzF];rw[show (I6 1:DV)=I6 ((1:Nat):Int) from rfl,this];cases l.all fun c=>znr (c.toNat:Int)<;>rfl
  ·grind
def right(a b:Int):Int:=if a<0 then 3 else if 127<b then 3 else if b<a then 23 else 0
theorem t79(k:Nat)(a b:Int):D (k+1) 79 [SA [I6 a,I6 b]]=some (S1 (I6 (right a b))):=by rw[D79];unfold P79 right;by_cases h1:a<0<;>by_cases h2:127<b<;>by_cases h3:b<a<;>simp[h1,h2,h3]
theorem zCG(_O:Orc):∀(b a:Nat),zJ (zl8) [U64 (b:Int),U64 (a:Int)] []=some (.exit 0,[U64 ((Nat.gcd b a:Nat):Int)],[]):=by
 intro b
 induction b using Nat.strongRecOn with
 |ind b ih=>
  intro a;by_cases hb:0<b
  ·have hz:(b:Int)≠0:=by omega
   have h0:(0:Int)<(b:Int):=by omega
   rw[zF (L':=[U64 ((a % b:Nat):Int),U64 (b:Int)]) (M':=[]) (by simp only[zl8,zA,xq,ye,zb,zh,zc2 _ _ _ hz,h0,decide_true,if_true];rfl),ih (a % b) (Yz2 _ hb) b,←Nat.gcd_rec]
  ·have:b=0:=by omega
   subst this;exact zr (by simp[zl8])
theorem zB7(k:Nat)(a b:Nat):D (k+1) 120 [S1 (U64 (a:Int)),S1 (U64 (b:Int))]=some (S1 (U64 ((Nat.gcd b a:Nat):Int))):=by rw[zDu];unfold zAZ;rw[zCG B];rfl
theorem zye{k:IntKind}{n:Nat}(h:n≤18446744073709551615):xn .u64 (.int k (n:Int))=some (U64 (n:Int)):=by
 show some (DV.int .u64 (bif Nat.ble n 18446744073709551615 then .ofNat n else IntKind.wrap .u64 (.ofNat n)))=_
 grind[Yzh]
theorem zB6(k:Nat){a:Int}(h1:-1000000≤a)(h2:a≤1000000):D (k+1) 121 [S1 (I6 a)]=some (S1 (U64 (a.natAbs:Int))):=by
 rw[zDt];unfold zAY;by_cases h:a<0
 ·obtain⟨n,rfl⟩:∃n:Nat,a=-(n:Int):=⟨a.natAbs,by omega⟩;have e1:xn .u64 (I6 (-(n:Int)))=some (U64 (18446744073709551616-(n:Int))):=by
   show some (DV.int .u64 (wB .u64 (-(n:Int))))=_
   grind[zwu]
  have e2:wB .u64 (-(18446744073709551616-(n:Int)))=(n:Int):=by grind[zwu]
  simp_all
 ·obtain⟨n,rfl⟩:∃n:Nat,a=(n:Int):=⟨a.natAbs,by omega⟩;simp only[zg,zb,zh,h,decide_false,Yze,if_false,zye (show n≤18446744073709551615 by omega)];simp
def zd7(n d:Int):Int:=if d≤0 then 2 else if 1000000<d then 2 else if n < -1000000 then 2 else if 1000000<n then 2 else bif Nat.gcd d.toNat n.natAbs==1 then 0 else 2
theorem t96(k:Nat)(n d:Int):D (k+2) 96 [SA [I6 n,I6 d]]=some (S1 (I6 (zd7 n d))):=by
 rw[D96];unfold P96 zd7;simp only[zao,ye,zg,zb,zh,Yzs];by_cases h1:d≤0
 ·grind
 by_cases h2:1000000<d
 ·grind
 by_cases h3:n < -1000000
 ·grind
 by_cases h4:1000000<n
 ·grind
 obtain⟨m,rfl⟩:∃m:Nat,d=(m:Int):=⟨d.toNat,by omega⟩;simp only[h1,h2,h3,h4,if_false];rw[zB6 k (by omega) (by omega)];simp only[zG,zye (show m≤18446744073709551615 by omega),zb,zB7,zM,zh,Yye]
 grind
def j7(n d:Int):Int:=if zd7 n d≠0 then 2 else if n≤0 then 3 else if 128*d<n then 3 else if 128<d then 4 else 0
theorem t76(k:Nat)(n d:Int):D (k+3) 76 [SA [I6 n,I6 d]]=some (S1 (I6 (j7 n d))):=by
 rw[D76];unfold P76 j7;rw[t96];simp only[zG,zM,zb,zh];by_cases h:zd7 n d=0
 ·have hd:0<d∧d≤1000000:=by
   grind[zd7]
  simp only[h,zao,zb,zh,zjs (show (-9223372036854775808:Int)≤128*d by omega) (show 128*d≤9223372036854775807 by omega),ye,Yzs]
  grind
 ·simp[h]
theorem t77(k:Nat)(n:Int):D (k+1) 77 [S1 (I6 n)]=some (S1 (Bo (decide (-256≤n)&&decide (n≤256)))):=by rw[D77];unfold P77;by_cases h1:-256≤n<;>by_cases h2:n≤256<;>simp[h1,h2]
def wA(n:Int):Bool:=decide (n<0)||decide (1000000<n)
theorem t98(k:Nat)(n:Int):D (k+1) 98 [S1 (I6 n)]=some (S1 (Bo (wA n))):=by rw[D98];unfold P98 wA;by_cases h1:n<0<;>by_cases h2:1000000<n<;>simp[h1,h2]
theorem zyr(O:Orc)(g:Nat)(ds:List DA):zhj O (.fn g []) ds=O g ds:=by simp[zhj]
def xy{α:Type}(p:α→Bool):List α→Nat→Option Nat
 | [],_=>none
 |x::l,i=>if p x then some i else xy p l (i+1)
theorem wi{α:Type}(p:α→Bool):∀(l:List α) (i:Nat),(xy p l i).isSome=l.any p
 | [],_=>rfl
 |x::l,i=>by
  simp only[xy,List.any_cons];cases h:p x
  ·simp[wi p l (i+1)]
  ·simp
def found:Option Nat→PX
 |some i=>(.ret,[I6 (i:Int)],[])
 |none=>(.exit 0,[],[])
abbrev enW(n:Int):List DV:=[I6 n]
theorem zCF(k:Nat)(w:Sl Int)(hw:w.els.length≤9223372036854775807):∀(r:List Int) (i:Nat),w.els.drop i=r→
  zJ (ziM (D (k+1)) (I6 (w.els.length:Int)) (enL 1 enW w) (.fn 98 [])) [I6 (i:Int)] []=some (found (xy wA r i)):=by
 intro r
 induction r with
 |nil=>
  intro i h;refine zr ?_
  grind[ziM,zA,zg,zb,xG,zY,zh]
 |cons x r ih=>
  intro i h;have h1:=yw h;have ea:zc .add (I6 (i:Int)) (I6 1)=some (I6 ((i+1:Nat):Int)):=yN;have body:ziM (D (k+1)) (I6 (w.els.length:Int)) (enL 1 enW w) (.fn 98 []) [I6 (i:Int)] []=some (if wA x then(.ret,[I6 (i:Int)],[]) else(.normal,[I6 ((i+1:Nat):Int)],[])):=by
   simp only[ziM,zA,zg,zb,uV h1,zh,if_true,zR h,yM,zyr,t98,zG,ea]
   grind
  grind[zx,xy,found,zF,zL]
theorem zB5(k:Nat)(w:Sl Int)(hw:w.els.length≤9223372036854775807):D (k+2) 122 [S1 (enL 1 enW w),S1 (.fn 98 [])]=some (S1 (I6 (match xy wA w.els 0 with|some i=>(i:Int)|none=>-1))):=by rw[zDr];unfold zAX;have:=zCF k w hw w.els 0 rfl;simp only[zy,zb];rw[show (I6 0:DV)=I6 ((0:Nat):Int) from rfl,this];cases xy wA w.els 0<;>rfl
theorem t97(k:Nat)(w:Sl Int)(hw:w.els.length≤9223372036854775807):D (k+3) 97 [S1 (enL 1 enW w),S1 (.fn 98 [])]=some (S1 (Bo (w.els.any wA))):=by rw[D97];unfold P97;rw[zB5 k w hw,←wi wA w.els 0];cases xy wA w.els 0<;>simp_all
theorem t78(k:Nat)(w:Sl Int)(hw:w.els.length≤9223372036854775807):D (k+4) 78 [S1 (enL 1 enW w)]=some (S1 (I6 (if w.els.any wA then 3 else 0))):=by rw[D78];unfold P78;rw[t97 k w hw];cases w.els.any wA<;>rfl
structure Zj where
 name:ByteArray
 tone:ByteArray
 num:Int
 den:Int
 first:Int
 wind:Sl Int
def enR(r:Zj):List DV:=[St r.name,St r.tone,I6 r.num,I6 r.den,I6 r.first,enL 1 enW r.wind]
def y2(r:Zj):Int:=
 if !isName r.name then 8 else if !isName r.tone then 8 else if j7 r.num r.den≠0 then j7 r.num r.den
 else if !(decide (-256≤r.first)&&decide (r.first≤256)) then 3 else if r.wind.els.length=0 then 13 else if 128<r.wind.els.length then 4 else if r.wind.els.any wA then 3 else 0
theorem t56(k:Nat)(r:Zj)(hw:r.wind.els.length≤9223372036854775807):D (k+5) 56 [SA (enR r)]=some (S1 (I6 (y2 r))):=by
 unfold enR;rw[D56];unfold P56 y2;simp only[t55,zG,yu,zb,zh];cases isName r.name with
 |false=>rfl
 |true=>
  cases isName r.tone with
  |false=>rfl
  |true=>
   simp only[t76,t77,t78 k r.wind hw,zG,yu,zb,zh,zM,zy,xa,ye,Yzn,Yze,if_false]
   grind
def vE:List Zj→Int
 | []=>0
 |r::l=>if y2 r≠0 then y2 r else vE l
def ze2(r:Zj):Prop:=r.wind.els.length≤9223372036854775807
def ziS(id:Nat)(e:Int):PX:=if e≠0 then(.ret,[I6 e],[]) else(.exit id,[],[])
theorem l99(k:Nat)(l:Sl Zj)(hl:l.els.length≤9223372036854775807)(hr:∀r∈l.els,ze2 r):∀(r:List Zj) (i:Nat),l.els.drop i=r→
  zJ (zqG (D (k+5)) (I6 (l.els.length:Int)) (enL 6 enR l)) [I6 (i:Int)] []=some (ziS 0 (vE r)):=by
 intro r
 induction r with
 |nil=>
  intro i h;refine zr ?_
  grind[zqG,zA,zg,zb,xG,zY,zh]
 |cons x r ih=>
  intro i h;have h1:=yw h;have ea:zc .add (I6 (i:Int)) (I6 1)=some (I6 ((i+1:Nat):Int)):=yN;have hx:ze2 x:=hr x (Lz3 (yI h));have c:D (k+5) 56 [SA [atD (enR x) 0,atD (enR x) 1,atD (enR x) 2,atD (enR x) 3,atD (enR x) 4,atD (enR x) 5]]=some (S1 (I6 (y2 x))):=t56 k x hx;have body:zqG (D (k+5)) (I6 (l.els.length:Int)) (enL 6 enR l) [I6 (i:Int)] []=some (if y2 x≠0 then(.ret,[I6 (y2 x)],[]) else(.normal,[I6 ((i+1:Nat):Int)],[])):=by
   simp only[zqG,zA,zg,zb,uV h1,zh,if_true,zR h,c,zG,zM,ea]
   grind
  by_cases hc:y2 x=0
  ·rw[Yzb (by omega)]at body;rw[zF body,ih (i+1) (zL h)];grind[vE]
  ·rw[Yzd hc]at body;grind[zx,vE,ziS]
structure Place where
 ranks:Sl Zj
 low:Int
 high:Int
def enP(x:Place):List DV:=[enL 6 enR x.ranks,I6 x.low,I6 x.high]
structure Place.ok (x:Place):Prop where
 len:x.ranks.els.length≤9223372036854775807
 ranks:∀r∈x.ranks.els,ze2 r
def jV(x:Place):Int:=if 60<x.ranks.els.length then 4 else if vE x.ranks.els≠0 then vE x.ranks.els else right x.low x.high
theorem t99(k:Nat)(x:Place)(hx:x.ok):D (k+6) 99 [SA (enP x)]=some (S1 (I6 (jV x))):=by
 unfold enP;rw[D99];unfold P99 jV;have:=l99 k x.ranks hx.len hx.ranks x.ranks.els 0 rfl;simp only[zy,zb,ye,zh];rw[show (I6 0:DV)=I6 ((0:Nat):Int) from rfl,this];by_cases h1:60<x.ranks.els.length
 ·grind
 ·have h2:¬((60:Int)<(x.ranks.els.length:Int)):=by omega
  simp only[h1,h2,decide_false,Yze,if_false];unfold ziS;by_cases h3:vE x.ranks.els=0<;>simp_all[t79]
structure Zo where
 rank:Int
 shift:Int
deriving DecidableEq
def enD(d:Zo):List DV:=[I6 d.rank,I6 d.shift]
theorem zp9(a b:Zo):zhi [1,1] [I6 a.rank,I6 a.shift] [I6 b.rank,I6 b.shift]=some (decide (a=b)):=by
 cases a with|mk r s=>
 cases b with|mk r' s'=>
 simp only[zhi,eqD,xm,Yza,kK];by_cases h1:r=r'
 ·by_cases h2:s=s'
  ·grind
  ·have e2:(s==s')=false:=by grind
   simp[h1,h2,e2]
 ·have e1:(r==r')=false:=by grind
  simp[h1,e1]
theorem zCD(d:Zo)(l:Sl Zo)(hl:l.els.length≤9223372036854775807):∀(r:List Zo) (i:Nat),l.els.drop i=r→
  zJ (ziK (I6 (l.els.length:Int)) (enL 2 enD l) (I6 d.rank) (I6 d.shift)) [I6 (i:Int)] []=some (found (xy (fun x=>decide (d=x)) r i)):=by
 intro r
 induction r with
 |nil=>
  intro i h;refine zr ?_
  grind[ziK,zA,zg,zb,xG,zY,zh]
 |cons x r ih=>
  intro i h;have h1:=yw h;have ea:zc .add (I6 (i:Int)) (I6 1)=some (I6 ((i+1:Nat):Int)):=yN;have eq:=zp9 d x;have body:ziK (I6 (l.els.length:Int)) (enL 2 enD l) (I6 d.rank) (I6 d.shift) [I6 (i:Int)] []=some (if d=x then(.ret,[I6 (i:Int)],[]) else(.normal,[I6 ((i+1:Nat):Int)],[])):=by
   simp only[ziK,zA,zg,zb,uV h1,zh,if_true,zR h,enD,yM,y5,eq,ea]
   grind
  by_cases hc:d=x
  ·rw[Yzd hc]at body;grind[zx,xy,found]
  ·rw[Yzb hc]at body;grind[zF,zL,xy]
theorem zB1(k:Nat)(d:Zo)(l:Sl Zo)(hl:l.els.length≤9223372036854775807):D (k+1) 157 [S1 (enL 2 enD l),SA (enD d)]=some (S1 (I6 (match xy (fun x=>decide (d=x)) l.els 0 with|some i=>(i:Int)|none=>-1))):=by unfold enD;rw[zDn];unfold zAR;have:=zCD d l hl l.els 0 rfl;unfold enD at this;simp only[zy,zb];rw[show (I6 0:DV)=I6 ((0:Nat):Int) from rfl,this];cases xy (fun x=>decide (d=x)) l.els 0<;>rfl
theorem zB4(k:Nat)(d:Zo)(l:Sl Zo)(hl:l.els.length≤9223372036854775807):D (k+2) 123 [S1 (enL 2 enD l),SA (enD d)]=some (S1 (Bo (l.els.any fun x=>decide (d=x)))):=by have:=zB1 k d l hl;unfold enD at this ⊢;rw[zDq];unfold zAW;rw[this,←wi (fun x=>decide (d=x)) l.els 0];cases xy (fun x=>decide (d=x)) l.els 0<;>simp_all
end Go.Proofs.Tryz.Kn
end
section
namespace Go.Proofs.Tryz.Kn
open Go Go.CE Go.PE
theorem zAK(y:Nat):zcQ none 0 y=some 0:=rfl
theorem zAL{k:IntKind}{i d y:Nat}(h:i≤y):zcQ (some (.int k (i:Int))) d y=some i:=by
 show (bif Nat.ble i y then some i else none)=_
 grind[Yzh]
theorem zdx{α:Type}{st i:Nat}{f:α→List DV}{l:List α}{k:IntKind}(h:i≤l.length):
  kH st (enL st f (some l)) none (some (.int k (i:Int)))=some (enL st f (some (l.take i))):=by
 simp_all[kH,zc9,zAL,zAK]
def za4(n:Nat):List Zo→List Zo→Int
 |_,[]=>0
 |p,d::r=>if d.rank<0 then 10 else if (n:Int)≤d.rank then 10 else if d.shift < -127 then 3 else if 127<d.shift then 3 else if p.any (fun x=>decide (d=x)) then 9 else za4 n (p++[d]) r
def xc(n:Nat)(l:List Zo):Int:=if 8<l.length then 4 else za4 n [] l
theorem zCI(k:Nat)(rs:Sl Zj)(l:List Zo)(hl:l.length≤9223372036854775807):∀(r:List Zo) (i:Nat),l.drop i=r→
  zJ (ziO (D (k+2)) (I6 (l.length:Int)) (enL 2 enD (some l)) (enL 6 enR rs)) [I6 (i:Int)] []=some (ziS 0 (za4 rs.els.length (l.take i) r)):=by
 intro r
 induction r with
 |nil=>
  intro i h;refine zr ?_
  grind[ziO,zA,zg,zb,xG,zY,zh]
 |cons x r ih=>
  intro i h;have h1:=yw h;have ea:zc .add (I6 (i:Int)) (I6 1)=some (I6 ((i+1:Nat):Int)):=yN;have ix:yT 2 (enL 2 enD (some l)) (I6 (i:Int))=some (enD x):=zR (v:=some l) h _;have sl:kH 2 (enL 2 enD (some l)) none (some (I6 (i:Int)))=some (enL 2 enD (some (l.take i))):=zdx (by omega);have c:=zB4 k x (some (l.take i)) (by grind);simp only[enD]at c;have body:ziO (D (k+2)) (I6 (l.length:Int)) (enL 2 enD (some l)) (enL 6 enR rs) [I6 (i:Int)] [] =
    some (if x.rank<0 then(.ret,[I6 10],[]) else if (rs.els.length:Int)≤x.rank then(.ret,[I6 10],[]) else if x.shift < -127 then(.ret,[I6 3],[]) else if 127<x.shift then(.ret,[I6 3],[]) else if (l.take i).any (fun y=>decide (x=y)) then(.ret,[I6 9],[]) else(.normal,[I6 ((i+1:Nat):Int)],[])):=by
   simp only[ziO,zA,zg,zb,uV h1,zh,if_true,ix,enD,yM,y5,zy,x7,ye,sl,c,zG,ea,Yzs,Sl.els,Yz8]
   grind
  have hn:l.take (i+1)=l.take i++[x]:=by grind
  unfold za4;by_cases a1:x.rank<0
  ·rw[Yzd a1]at body ⊢;rw[zx body];rfl
  rw[Yzb a1]at body ⊢;by_cases a2:(rs.els.length:Int)≤x.rank
  ·rw[Yzd a2]at body ⊢;rw[zx body];rfl
  rw[Yzb a2]at body ⊢;by_cases a3:x.shift < -127
  ·rw[Yzd a3]at body ⊢;rw[zx body];rfl
  rw[Yzb a3]at body ⊢;by_cases a4:127<x.shift
  ·rw[Yzd a4]at body ⊢;rw[zx body];rfl
  rw[Yzb a4]at body ⊢;by_cases a5:(l.take i).any (fun y=>decide (x=y))=true
  ·rw[Yzd a5]at body ⊢;rw[zx body];rfl
  rw[Yzb a5]at body ⊢
  grind[zF,zL]
theorem zCa(k:Nat)(x:Place)(l:Sl Zo)(hl:l.els.length≤9223372036854775807):D (k+3) 100 [SA (enP x),S1 (enL 2 enD l)]=some (S1 (I6 (xc x.ranks.els.length l.els))):=by
 unfold enP;rw[zDy];unfold zA5 xc;simp only[zy,zb,ye,zh];by_cases h1:8<l.els.length
 ·grind
 ·have h2:¬((8:Int)<(l.els.length:Int)):=by omega
  simp only[h1,h2,decide_false,Yze,if_false];cases l with
  |none=>rw[zr (id:=0) (L':=[]) (M':=[]) (by rfl)];rfl
  |some l=>have:=zCI k x.ranks l hl l 0 rfl;rw[show (I6 0:DV)=I6 ((0:Nat):Int) from rfl,show Sl.els (some l:Sl Zo)=l from rfl,this,List.take_zero];unfold ziS;by_cases h3:za4 x.ranks.els.length [] l=0<;>simp_all
structure Seg where
 lo:Int
 hi:Int
 draws:Sl Zo
def enS(g:Seg):List DV:=[I6 g.lo,I6 g.hi,enL 2 enD g.draws]
def zwQ(g:Seg):Prop:=g.draws.els.length≤9223372036854775807
structure Zq where
 name:ByteArray
 num:Int
 den:Int
 segs:Sl Seg
def xE(s:Zq):List DV:=[St s.name,I6 s.num,I6 s.den,enL 3 enS s.segs]
structure Zq.ok (s:Zq):Prop where
 len:s.segs.els.length≤9223372036854775807
 segs:∀g∈s.segs.els,zwQ g
def leO(a:Int):Option Int→Bool
 |some t=>decide (a≤t)
 |none=>false
def zcy(l:List Seg):Nat→Option Int
 |0=>none
 |j+1=>(l[j]?).map Seg.hi
def jS(x:Place):List Seg→Option Int→Int
 | [],_=>0
 |g::r,p=>
  if min g.lo g.hi<x.low then 23 else if x.high<max g.lo g.hi then 23 else if g.hi<g.lo then 6
  else if leO g.lo p then 6
  else if xc x.ranks.els.length g.draws.els≠0 then xc x.ranks.els.length g.draws.els else jS x r (some g.hi)
theorem l80(k:Nat)(x:Place)(l:Sl Seg)(hl:l.els.length≤9223372036854775807)(hs:∀g∈l.els,zwQ g):∀(r:List Seg) (i:Nat),l.els.drop i=r→
  zJ (ziC (D (k+3)) (I6 (l.els.length:Int)) (enL 3 enS l) (I6 x.low) (I6 x.high) (enL 6 enR x.ranks)) [I6 (i:Int)] []=some (ziS 1 (jS x r (zcy l.els i))):=by
 intro r
 induction r with
 |nil=>
  intro i h;refine zr ?_
  grind[ziC,zA,zg,zb,xG,zY,zh]
 |cons g r ih=>
  intro i h;have h1:=yw h;have ea:zc .add (I6 (i:Int)) (I6 1)=some (I6 ((i+1:Nat):Int)):=yN;have c:=zCa k x g.draws (hs g (Lz3 (yI h)));simp only[enP]at c;have body:ziC (D (k+3)) (I6 (l.els.length:Int)) (enL 3 enS l) (I6 x.low) (I6 x.high) (enL 6 enR x.ranks) [I6 (i:Int)] [] =
    some (if min g.lo g.hi<x.low then(.ret,[I6 23],[]) else if x.high<max g.lo g.hi then(.ret,[I6 23],[]) else if g.hi<g.lo then(.ret,[I6 6],[])
     else if leO g.lo (zcy l.els i)=true then(.ret,[I6 6],[]) else if xc x.ranks.els.length g.draws.els≠0 then(.ret,[I6 (xc x.ranks.els.length g.draws.els)],[]) else(.normal,[I6 ((i+1:Nat):Int)],[])):=by
   simp only[ziC,zA,zg,zb,uV h1,zh,if_true,zR h,enS,yM,y5,zxc,zxd,ye,c,zG,ea,Yzs,zM];have tail:(if (!(xc x.ranks.els.length g.draws.els==0))=true then some ((.ret,[I6 (xc x.ranks.els.length g.draws.els)],[]):PX) else some (.normal,[I6 ((i+1:Nat):Int)],[])) =
     some (if xc x.ranks.els.length g.draws.els≠0 then(.ret,[I6 (xc x.ranks.els.length g.draws.els)],[]) else(.normal,[I6 ((i+1:Nat):Int)],[])):=by
    grind
   rw[tail];cases i with
   |zero=>
    have:¬((0:Int)<((0:Nat):Int)):=by omega
    simp only[this,if_false,Yze,zcy,leO]
    grind
   |succ j=>
    obtain⟨q,hq⟩:∃q,l.els[j]? = some q:=⟨_,Lz5 (by omega)⟩;have h2:(0:Int)<((j+1:Nat):Int):=by omega
    have es:zc .sub (I6 ((j+1:Nat):Int)) (I6 1)=some (I6 (((j+1:Nat):Int)-1)):=zfO;have e1:((j+1:Nat):Int)-1=(j:Int):=by omega
    rw[e1]at es;have ix:yT 3 (enL 3 enS l) (I6 (j:Int))=some (enS q):=by grind[y9]
    simp only[zcy,hq,YzD,leO,h2,if_true,es,zb,ix,enS,y5,yM,zao,zh,Yzs]
    grind
  have hp:zcy l.els (i+1)=some g.hi:=by simp only[zcy,yI h,YzD]
  unfold jS;by_cases a1:min g.lo g.hi<x.low
  ·rw[Yzd a1]at body ⊢;rw[zx body];rfl
  rw[Yzb a1]at body ⊢;by_cases a2:x.high<max g.lo g.hi
  ·rw[Yzd a2]at body ⊢;rw[zx body];rfl
  rw[Yzb a2]at body ⊢;by_cases a3:g.hi<g.lo
  ·rw[Yzd a3]at body ⊢;rw[zx body];rfl
  rw[Yzb a3]at body ⊢;by_cases a4:leO g.lo (zcy l.els i)=true
  ·rw[Yzd a4]at body ⊢;rw[zx body];rfl
  rw[Yzb a4]at body ⊢;by_cases a5:xc x.ranks.els.length g.draws.els≠0
  ·rw[Yzd a5]at body ⊢;rw[zx body];simp_all[ziS]
  rw[Yzb a5]at body ⊢
  grind[zF,zL]
def uR(x:Place)(s:Zq):Int:=
 if jV x≠0 then jV x else if !isName s.name then 8 else if j7 s.num s.den≠0 then j7 s.num s.den
 else if s.segs.els.length=0 then 13 else if 12<s.segs.els.length then 4 else jS x s.segs.els none
theorem t80(k:Nat)(x:Place)(s:Zq)(hx:x.ok)(hs:s.ok):D (k+7) 80 [SA (enP x),SA (xE s)]=some (S1 (I6 (uR x s))):=by
 have c1:=t99 k x hx;have l:=l80 (k+3) x s.segs hs.len hs.segs s.segs.els 0 rfl;unfold enP at c1 ⊢;unfold xE;rw[D80];unfold P80 uR;simp only[c1,t55,t76,zG,zM,zb,zh,yu,zy,xa,ye];by_cases h1:jV x=0
 ·simp only[h1];cases isName s.name with
  |false=>rfl
  |true=>
   by_cases h2:j7 s.num s.den=0
   ·simp only[h2];by_cases h3:s.segs.els.length=0
    ·simp[h3]
    ·have h4:¬((s.segs.els.length:Int)=0):=by omega
     by_cases h5:12<s.segs.els.length
     ·grind
     ·have h6:¬((12:Int)<(s.segs.els.length:Int)):=by omega
      rw[show (I6 0:DV)=I6 ((0:Nat):Int) from rfl,l,show zcy s.segs.els 0=none from rfl];unfold ziS;by_cases h7:jS x s.segs.els none=0
      ·simp[h3,h5,h6,h7]
      ·simp[h3,h5,h6,h7]
   grind
 grind
end Go.Proofs.Tryz.Kn
end
section
namespace Go.Proofs.Tryz.Kn
open Go Go.CE Go.PE
def enF(p:Int×Int):List DV:=[I6 p.1,I6 p.2]
def feetA:List (Int×Int):=[(8,1),(4,1),(16,1),(2,1),(8,3),(8,5),(4,3),(1,1),(32,1),(16,3),(16,5),(32,3),(8,7),(2,3),(1,2),(64,1)]
def feetB:List (Int×Int):=[(8,1),(4,1),(16,1),(8,3),(2,1),(8,5)]
def fA(n:Nat):Int×Int:=(feetA[n % 16]?).getD (8,1)
def fB(n:Nat):Int×Int:=(feetB[n % 6]?).getD (8,1)
theorem ztC(n:Nat):feetA[n % 16]? = some (fA n):=by unfold fA;rw[Lz5 (show n % 16<feetA.length by rw[show feetA.length=16 from rfl];omega)];rfl
theorem ztA(n:Nat):feetB[n % 6]? = some (fB n):=by unfold fB;rw[Lz5 (show n % 6<feetB.length by rw[show feetB.length=6 from rfl];omega)];rfl
theorem ztB(n:Nat):fA n∈feetA:=Lz3 (ztC n)
theorem zfw(n:Nat):fB n∈feetB:=Lz3 (ztA n)
theorem zx1:∀p∈feetA,j7 p.1 p.2=0:=by trivial
theorem zx0:∀p∈feetB,j7 p.1 p.2=0:=by trivial
theorem zDb:(shSums.all fun s=>match wg s.g s.args ⟨.z,.nil⟩ bSums with|some v=>eqA v s.res|none=>false)=true:=by kernel_rfl
theorem zBc{s:CE.Sum}(hs:s∈shSums){xs:List DA}{d:DA}(hg:([84,85,86,87]:List Nat).any (Nat.beq s.g)=true)(ha:avs xs=some s.args)(hd:ofA s.res=some d):B s.g xs=some d:=by
 have h:=YzM.1 zDb s hs;split at h
 ·rename_i v hv;have:=zlJ h;subst this;rw[zDz hg];unfold zwc;have:=zxR hg
  grind
 ·cases h
theorem zq1(k:Nat){s:CE.Sum}(hs:s∈shSums){xs:List DA}{d:DA}(hg:([84,85,86,87]:List Nat).any (Nat.beq s.g)=true)(ha:avs xs=some s.args)(hd:ofA s.res=some d):D k s.g xs=some d:=zig (zBc hs hg ha hd)
theorem zuP{n:Nat}(h:n∈pows):zb0 n∈shSums:=by grind[shSums]
theorem mem_of{n:Nat}(h:n∈pows):ofS n∈shSums:=by grind[shSums]
theorem zpn{x:Nat×Nat}(h:x∈dens){s:CE.Sum}(hs:s∈xz x):s∈shSums:=by grind[shSums]
theorem zuQ{x:Nat×Nat×Nat}(h:x∈prs){s:CE.Sum}(hs:s∈yx x):s∈shSums:=by grind[shSums]
theorem e85(k:Nat){n:Nat}(h:n∈pows):D k 85 [S1 (I6 (n:Int))]=some (S1 (St (dec n))):=zq1 k (mem_of h) rfl rfl rfl
theorem e84(k:Nat){n:Nat}(h:n∈pows):D k 84 [S1 (St (dec n)),S1 (I6 24)]=some (.tup [.one (St (dec (n^24))),.one (I6 0)]):=zq1 k (zuP h) rfl rfl rfl
theorem zDg(k:Nat){x:Nat×Nat}(h:x∈dens):D k 86 [S1 (St (dec (x.1^24))),S1 (.str ⟨#[50]⟩)]=some (S1 (St (dec (lim x.1 0)))):=by
 have e:x.1^24*2=lim x.1 0:=by grind[lim]
 rw[←e];exact zq1 k (zpn h (Yzg ..)) rfl rfl rfl
theorem zDf(k:Nat){x:Nat×Nat}(h:x∈dens){j:Nat}(hj:j<x.2):D k 86 [S1 (St (dec (lim x.1 j))),S1 (.str ⟨#[52]⟩)]=some (S1 (St (dec (lim x.1 (j+1))))):=by
 have e:lim x.1 j*4=lim x.1 (j+1):=by
  show 2*x.1^24*4^j*4=2*x.1^24*4^(j+1)
  grind
 rw[←e];exact zq1 k (zpn h (Yzf _ (List.mem_map.2 ⟨j,List.mem_range.2 hj,rfl⟩))) rfl rfl rfl
theorem e87(k:Nat){x:Nat×Nat×Nat}(h:x∈prs){j:Nat}(hj:j≤x.2.2):D k 87 [S1 (St (dec (x.1^24))),S1 (St (dec (lim x.2.1 j)))]=some (S1 (I6 (zwp (x.1^24) (lim x.2.1 j)))):=
 zq1 k (zuQ h (List.mem_map.2 ⟨j,List.mem_range.2 (by omega),rfl⟩)) rfl rfl rfl
def upN:Nat→Nat→Nat→Int→Nat×Int
 |0,num,_,n=>(num,n)
 |f+1,num,den,n=>if num<den then upN f (num*2) den (n-12) else(num,n)
def dnN:Nat→Nat→Nat→Int→Nat×Int
 |0,_,den,n=>(den,n)
 |f+1,num,den,n=>if 2*den≤num then dnN f num (den*2) (n+12) else(den,n)
theorem zCw(den:Nat)(hd:den≤1000000):∀(f num:Nat) (n:Int),den≤(upN f num den n).1→-1000000≤n-12*(f:Int)→n≤1000000→
  zJ (zny (I6 (den:Int))) [I6 (num:Int),I6 n] []=some (.exit 0,[I6 ((upN f num den n).1:Int),I6 (upN f num den n).2],[]):=by
 intro f
 induction f with
 |zero=>grind[zr,zny,zA,xq,zg,zb,zh,upN]
 |succ f ih=>
  intro num n h h2 h3;unfold upN at h ⊢;by_cases hc:num<den
  ·rw[Yzd hc]at h ⊢;have h1:decide ((num:Int)<(den:Int))=true:=uV hc;have e1:zc .mul (I6 (num:Int)) (I6 2)=some (I6 ((num*2:Nat):Int)):=by
    grind[zjs]
   have e2:zc .sub (I6 n) (I6 12)=some (I6 (n-12)):=zfO;have body:zny (I6 (den:Int)) [I6 (num:Int),I6 n] []=some (.normal,[I6 ((num*2:Nat):Int),I6 (n-12)],[]):=by simp_all[zny]
   grind[zF]
  ·rw[Yzb hc]
   grind[zr,zny,zA,xq,zg,zb,zh]
theorem zCz(a:DV)(num:Nat)(hd:num≤1000000):∀(f den:Nat) (n:Int),num<2*(dnN f num den n).1→n+12*(f:Int)≤1000000→-1000000≤n→0<den→den≤1000000→
  zJ (zfF [I6 (num:Int),a]) [I6 (den:Int),I6 n] []=some (.exit 2,[I6 ((dnN f num den n).1:Int),I6 (dnN f num den n).2],[]):=by
 intro f
 induction f with
 |zero=>
  intro den n h _ _ _ h5;have h:num<2*den:=h;have e1:zc .mul (I6 2) (I6 (den:Int))=some (I6 ((2*den:Nat):Int)):=by grind[zjs]
  grind[zr,zfF,zA,xq,x7,zb,zh,dnN]
 |succ f ih=>
  intro den n h h2 h3 h4 h5;unfold dnN at h ⊢;have e1:zc .mul (I6 2) (I6 (den:Int))=some (I6 ((2*den:Nat):Int)):=by grind[zjs]
  by_cases hc:2*den≤num
  ·rw[Yzd hc]at h ⊢;have h1:decide (((2*den:Nat):Int)≤(num:Int))=true:=decide_eq_true (by omega);have e3:zc .mul (I6 (den:Int)) (I6 2)=some (I6 ((den*2:Nat):Int)):=by
    grind[zjs]
   have e2:zc .add (I6 n) (I6 12)=some (I6 (n+12)):=yN;have body:zfF [I6 (num:Int),a] [I6 (den:Int),I6 n] []=some (.normal,[I6 ((den*2:Nat):Int),I6 (n+12)],[]):=by simp_all[zfF]
   grind[zF]
  ·rw[Yzb hc]
   grind[zr,zfF,zA,xq,x7,zb,zh]
theorem zuq:(prs.all fun x=>(List.range x.2.2).all (fun j=>Nat.ble (Nat.succ (lim x.2.1 j)) (x.1^24))&&Nat.ble (x.1^24) (lim x.2.1 x.2.2))=true:=by kernel_rfl
theorem zox:(prs.all fun x=>dens.any (fun y=>Nat.beq y.1 x.2.1&&Nat.ble x.2.2 y.2)&&pows.any (Nat.beq x.1)&&pows.any (Nat.beq x.2.1))=true:=by kernel_rfl
theorem zhe{n:Nat}{l:List Nat}(h:l.any (Nat.beq n)=true):n∈l:=by simp_all
theorem zCA(k:Nat)(x:Nat×Nat×Nat)(hx:x∈prs)(n:Int)(h1:-1000000≤n)(h2:n≤1000000)(hm:x.2.2≤100):∀(r j:Nat),j+r=x.2.2→
  zJ (ziG (D k) [.one (St (dec (x.1^24))),.one (I6 0)]) [St (dec (lim x.2.1 j)),I6 (n+(j:Int))] []=some (.exit 4,[I6 (n+(x.2.2:Int))],[]):=by
 have hc:=YzM.1 zuq x hx;have hdn:=YzM.1 zox x hx;simp only[LzC]at hc hdn;obtain⟨y,hy,ey⟩:=List.any_eq_true.1 hdn.1.1;simp only[LzC]at ey;have ey1:y.1=x.2.1:=Lz1 ey.1;have ey2:=Lz4 ey.2;intro r
 induction r with
 |zero=>
  intro j hj;have hj:j=x.2.2:=by omega
  subst hj;have c:=e87 k hx (LzB _);have hle:=Lz4 hc.2;have hs:decide ((0:Int)<zwp (x.1^24) (lim x.2.1 x.2.2))=false:=by
   unfold zwp;rw[show Nat.ble (Nat.succ (lim x.2.1 x.2.2)) (x.1^24)=false from by cases hb:Nat.ble (Nat.succ (lim x.2.1 x.2.2)) (x.1^24) with|false=>rfl|true=>have:=Lz4 hb;omega]
   grind
  grind[zr,ziG,zA,xq,qZ,uB,zG,ye,zb,zh]
 |succ r ih=>
  intro j hj;have c:=e87 k hx (show j≤x.2.2 by omega);have m:=zDf k hy (show j<y.2 by omega);rw[ey1]at m;have hlt:=Lz4 (YzM.1 hc.1 j (List.mem_range.2 (by omega)));have hs:decide ((0:Int)<zwp (x.1^24) (lim x.2.1 j))=true:=by grind[zwp,Yzh]
  have ea:zc .add (I6 (n+(j:Int))) (I6 1)=some (I6 (n+((j+1:Nat):Int))):=by rw[show n+((j+1:Nat):Int)=n+(j:Int)+1 by omega];exact yN
  have body:ziG (D k) [.one (St (dec (x.1^24))),.one (I6 0)] [St (dec (lim x.2.1 j)),I6 (n+(j:Int))] []=some (.normal,[St (dec (lim x.2.1 (j+1))),I6 (n+((j+1:Nat):Int))],[]):=by simp_all[ziG]
  grind[zF]
def ztw(f g:Int×Int):Nat:=(g.1*f.2).toNat
def znn(f g:Int×Int):Nat:=(g.2*f.1).toNat
def shU(f g:Int×Int):Nat×Int:=upN 20 (ztw f g) (znn f g) 0
def shD(f g:Int×Int):Nat×Int:=dnN 20 (shU f g).1 (znn f g) (shU f g).2
def shM(f g:Int×Int):Nat:=((prs.find? fun x=>Nat.beq x.1 (shU f g).1&&Nat.beq x.2.1 (shD f g).1).map fun x=>x.2.2).getD 0
def shf(f g:Int×Int):Int:=(shD f g).2+(shM f g:Int)
def zwN(f g:Int×Int):Bool:=
 decide (0≤g.1*f.2)&&decide (0<g.2*f.1)&&Nat.ble (znn f g) (shU f g).1&&Nat.ble (Nat.succ (shU f g).1) (2*(shD f g).1)&&(prs.any fun x=>Nat.beq x.1 (shU f g).1&&Nat.beq x.2.1 (shD f g).1&&Nat.beq x.2.2 (shM f g))
 && Nat.ble (znn f g) 1000000&&Nat.ble (ztw f g) 1000000&&Nat.ble (shU f g).1 1000000&&Nat.ble (shM f g) 100&&decide (-1000≤(shU f g).2)&&decide ((shU f g).2≤1000)&&decide (-1000≤(shD f g).2)&&decide ((shD f g).2≤1000)&&decide (-100≤shf f g)&&decide (shf f g≤100)
theorem zwL:(feetB.all fun f=>feetA.all fun g=>zwN f g)=true:=by kernel_rfl
structure Zv (f g:Int×Int):Prop where
 a:0≤g.1*f.2
 b:0<g.2*f.1
 c:znn f g≤(shU f g).1
 d:(shU f g).1<2*(shD f g).1
 e:∃x∈prs,x.1=(shU f g).1∧x.2.1=(shD f g).1∧x.2.2=shM f g
 f1:znn f g≤1000000
 f2:ztw f g≤1000000
 f3:(shU f g).1≤1000000
 f4:shM f g≤100
 g1:-1000≤(shU f g).2
 g2:(shU f g).2≤1000
 g3:-1000≤(shD f g).2
 g4:(shD f g).2≤1000
 h1:-100≤shf f g
 h2:shf f g≤100
theorem zn7{f g:Int×Int}(hf:f∈feetB)(hg:g∈feetA):Zv f g:=by have h:=YzM.1 (YzM.1 zwL f hf) g hg;unfold zwN at h;simp only[LzC,Yzs]at h;obtain⟨⟨⟨⟨⟨⟨⟨⟨⟨⟨⟨⟨⟨⟨a,b⟩,c⟩,d⟩,e⟩,f1⟩,f2⟩,f3⟩,f4⟩,g1⟩,g2⟩,g3⟩,g4⟩,h1⟩,h2⟩:=h;obtain⟨x,hx,hq⟩:=List.any_eq_true.1 e;simp only[LzC]at hq;exact⟨a,b,Lz4 c,Lz4 d,⟨x,hx,Lz1 hq.1.1,Lz1 hq.1.2,Lz1 hq.2⟩,Lz4 f1,Lz4 f2,Lz4 f3,Lz4 f4,g1,g2,g3,g4,h1,h2⟩
theorem zn6(f g:Int×Int)(hf:f∈feetB)(hg:g∈feetA):-100≤shf f g∧shf f g≤100:=⟨(zn7 hf hg).h1,(zn7 hf hg).h2⟩
theorem t69(k:Nat)(f g:Int×Int)(hf:f∈feetB)(hg:g∈feetA):D (k+1) 69 [SA (enF f),SA (enF g)]=some (S1 (I6 (shf f g))):=by
 have H:=zn7 hf hg;obtain⟨x,hx,x1,x2,x3⟩:=H.e;have a1:g.1*f.2=((ztw f g:Nat):Int):=by unfold ztw;have:=H.a;omega
 have a2:g.2*f.1=((znn f g:Nat):Int):=by unfold znn;have:=H.b;omega
 have hb:=H.b;rw[a2]at hb;have b1:=H.f1;have b2:=H.f2;have b3:=H.f3;have b4:=H.f4;have c1:=H.g1;have c2:=H.g2;have c3:=H.g3;have c4:=H.g4
 have m1:zc .mul (I6 g.1) (I6 f.2)=some (I6 ((ztw f g:Nat):Int)):=by grind[zjs]
 have m2:zc .mul (I6 g.2) (I6 f.1)=some (I6 ((znn f g:Nat):Int)):=by grind[zjs]
 have lu:=zCw (znn f g) b1 20 (ztw f g) 0 H.c (by omega) (by omega);have ld:=zCz (I6 (shU f g).2) (shU f g).1 b3 20 (znn f g) (shU f g).2 H.d (by omega) (by omega) (by omega) b1;have lc:=zCA k x hx (shD f g).2 (by omega) (by omega) (by omega) x.2.2 0 (by omega);have hdn:=YzM.1 zox x hx;simp only[LzC]at hdn;obtain⟨y,hy,ey⟩:=List.any_eq_true.1 hdn.1.1;simp only[LzC]at ey;have ey1:y.1=x.2.1:=Lz1 ey.1;have o1:=e85 k (zhe hdn.1.2);have p1:=e84 k (zhe hdn.1.2);have o2:=e85 k (zhe hdn.2);have p2:=e84 k (zhe hdn.2);have u0:=zDg k hy;rw[ey1]at u0;rw[x1]at o1 p1 lc;rw[x2]at o2 p2 u0 lc;rw[x3]at lc;rw[show (shD f g).2+((0:Nat):Int)=(shD f g).2 by omega]at lc;have hU:upN 20 (ztw f g) (znn f g) 0=shU f g:=rfl;have hD:dnN 20 (shU f g).1 (znn f g) (shU f g).2=shD f g:=rfl;rw[hU]at lu;rw[hD]at ld;unfold enF;rw[D69];unfold P69;have bt:∀{β:Type} (a b:DV) (K:List DS→Option β),bT [none,none] (some (.tup [.one a,.one b])) K=K [.one a,.one b]:=fun _ _ _=>rfl;simp only[m1,m2,zb];rw[lu];simp only[z6,Yzl,Yza,zA,xq];rw[ld];simp only[z6,Yzl,Yza,zA,xq,o1,o2,zG,p1,p2,bt,qZ,uB,u0];rw[lc];rfl
theorem t68(k:Nat)(f g:Int×Int)(hf:f∈feetB)(hg:g∈feetA):D (k+4) 68 [SA (enF f),SA (enF g)]=some (S1 (I6 0)):=by grind[t76,zx0,zx1,enF,D68,P68,zG,zM,zb,zh]
theorem t47(k:Nat)(f g:Int×Int)(hf:f∈feetB)(hg:g∈feetA):D (k+5) 47 [SA (enF f),SA (enF g)]=some (.tup [.one (I6 (shf f g)),.one (I6 0)]):=by
 have c1:=t68 k f g hf hg
 grind[t69,enF,D47,P47,zG,zM,zb,zh]
end Go.Proofs.Tryz.Kn
end
section
namespace Go.Proofs.Tryz.Kn
open Go Go.CE Go.PE
def eqB(a b:ByteArray):Bool:=a.data.toList==b.data.toList
def enN(s:ByteArray):List DV:=[St s,Bo true]
theorem zqb(a b:ByteArray):zed (.inl 2) (.one (St a)) (.one (St b))=some (eqB a b):=rfl
theorem zav(s:ByteArray):∀ns:List ByteArray,zcd (.inl 2) 1048576 (.one (St s)) (ns.map enN)=some (if ns.any (eqB s)=true then some (.one (Bo true)) else none)
 | []=>rfl
 |n::ns=>by
  have e:zed (.inl 2) (.one (St s)) (kD 1048576 (enN n))=some (eqB s n):=rfl;have v:vD 1048576 (enN n)=.one (Bo true):=rfl;rw[Yzr,zcd,e,v,zav s ns,List.any_cons]
  grind
theorem zbm(s:ByteArray):∀ns:List ByteArray,ns.any (eqB s)=false→zkS (.inl 2) 1048576 (.one (St s)) [St s,Bo true] (ns.map enN)=some ((ns++[s]).map enN)
 | [],_=>rfl
 |n::ns,h=>by simp only[List.any_cons,Bool.or_eq_false_iff]at h;have e:zed (.inl 2) (.one (St s)) (kD 1048576 (enN n))=some (eqB s n):=rfl;simp only[Yzr,zkS,e,h.1,zbm s ns h.2];rfl
theorem zuV(b:Bool):dsO (lkD (.one (Bo false)) (if b=true then some (DS.one (Bo true)) else none))=Bo b:=by cases b<;>rfl
structure Cpl where
 name:ByteArray
 src:Int
 dst:Int
 shift:Int
 thr:Bool
def enC(c:Cpl):List DV:=[St c.name,I6 c.src,I6 c.dst,I6 c.shift,Bo c.thr]
def enK(k:Int×Int):List DV:=[I6 k.1,I6 k.2]
theorem t82(k:Nat)(x c:Cpl):D (k+1) 82 [SA (enC x),S1 (.fp (enC c) 0)]=some (S1 (Bo (eqB x.name c.name))):=by unfold enC;rw[D82];rfl
theorem zCH(k:Nat)(c:Cpl)(l:Sl Cpl)(hl:l.els.length≤9223372036854775807):∀(r:List Cpl) (i:Nat),l.els.drop i=r→
  zJ (ziN (D (k+1)) (I6 (l.els.length:Int)) (enL 5 enC l) (.fn 82 [enC c])) [I6 (i:Int)] []=some (found (xy (fun x=>eqB x.name c.name) r i)):=by
 intro r
 induction r with
 |nil=>
  intro i h;refine zr ?_
  grind[ziN,zA,zg,zb,xG,zY,zh]
 |cons x r ih=>
  intro i h;have h1:=yw h;have ea:zc .add (I6 (i:Int)) (I6 1)=some (I6 ((i+1:Nat):Int)):=yN;have cx:zhj (D (k+1)) (.fn 82 [enC c]) [SA [atD (enC x) 0,atD (enC x) 1,atD (enC x) 2,atD (enC x) 3,atD (enC x) 4]]=some (S1 (Bo (eqB x.name c.name))):=t82 k x c;have body:ziN (D (k+1)) (I6 (l.els.length:Int)) (enL 5 enC l) (.fn 82 [enC c]) [I6 (i:Int)] []=some (if eqB x.name c.name then(.ret,[I6 (i:Int)],[]) else(.normal,[I6 ((i+1:Nat):Int)],[])):=by
   simp only[ziN,zA,zg,zb,uV h1,zh,if_true,zR h,cx,zG,ea]
   grind
  cases hc:eqB x.name c.name with
  |true=>grind[zx,xy,found]
  |false=>grind[zF,zL,xy]
theorem t81(k:Nat)(c:Cpl)(l:Sl Cpl)(hl:l.els.length≤9223372036854775807):D (k+3) 81 [S1 (enL 5 enC l),S1 (.fn 82 [enC c])]=some (S1 (Bo (l.els.any fun x=>eqB x.name c.name))):=by
 have e:D (k+2) 101 [S1 (enL 5 enC l),S1 (.fn 82 [enC c])]=some (S1 (I6 (match xy (fun x=>eqB x.name c.name) l.els 0 with|some i=>(i:Int)|none=>-1))):=by rw[zDx];unfold zA4;have:=zCH k c l hl l.els 0 rfl;simp only[zy,zb];rw[show (I6 0:DV)=I6 ((0:Nat):Int) from rfl,this];cases xy (fun x=>eqB x.name c.name) l.els 0<;>rfl
 rw[D81];unfold P81;rw[e,←wi (fun x=>eqB x.name c.name) l.els 0];cases xy (fun x=>eqB x.name c.name) l.els 0<;>simp_all
def zj3(n:Nat):List Cpl→List Cpl→Int
 |_,[]=>0
 |p,c::r=>
  if isName c.name=false then 8 else if p.any (fun x=>eqB x.name c.name)=true then 9 else if c.src<0 then 10 else if (n:Int)≤c.src then 10 else if c.dst<0 then 10 else if (n:Int)≤c.dst then 10
  else if c.shift < -127 then 3 else if 127<c.shift then 3 else if c.src=c.dst∧c.shift=0 then 7 else zj3 n (p++[c]) r
def zlR(ks:List (Int×Int))(l:List Cpl):Int:=
 if 8<ks.length then 4 else if 40<l.length then 4 else if ks.any (fun k=>right k.1 k.2 != 0)=true then 23 else zj3 ks.length [] l
theorem l59(k:Nat)(ks:Sl (Int×Int))(l:List Cpl)(hl:l.length≤9223372036854775807):∀(r:List Cpl) (i:Nat),l.drop i=r→
  zJ (ziH (D (k+3)) (I6 (l.length:Int)) (enL 5 enC (some l)) (enL 2 enK ks)) [I6 (i:Int)] []=some (ziS 2 (zj3 ks.els.length (l.take i) r)):=by
 intro r
 induction r with
 |nil=>
  intro i h;refine zr ?_
  grind[ziH,zA,zg,zb,xG,zY,zh]
 |cons x r ih=>
  intro i h;have h1:=yw h;have ea:zc .add (I6 (i:Int)) (I6 1)=some (I6 ((i+1:Nat):Int)):=yN;have ix:yT 5 (enL 5 enC (some l)) (I6 (i:Int))=some (enC x):=zR (v:=some l) h _;have sl:kH 5 (enL 5 enC (some l)) none (some (I6 (i:Int)))=some (enL 5 enC (some (l.take i))):=zdx (by omega);have c:=t81 k x (some (l.take i)) (by grind);have cn:=t55 (k+1) x.name;simp only[enC,vN]at c;have body:ziH (D (k+3)) (I6 (l.length:Int)) (enL 5 enC (some l)) (enL 2 enK ks) [I6 (i:Int)] [] =
    some (if isName x.name=false then(.ret,[I6 8],[]) else if (l.take i).any (fun y=>eqB y.name x.name)=true then(.ret,[I6 9],[]) else if x.src<0 then(.ret,[I6 10],[]) else if (ks.els.length:Int)≤x.src then(.ret,[I6 10],[])
     else if x.dst<0 then(.ret,[I6 10],[]) else if (ks.els.length:Int)≤x.dst then(.ret,[I6 10],[]) else if x.shift < -127 then(.ret,[I6 3],[]) else if 127<x.shift then(.ret,[I6 3],[])
     else if x.src=x.dst∧x.shift=0 then(.ret,[I6 7],[]) else(.normal,[I6 ((i+1:Nat):Int)],[])):=by
   simp only[ziH,zA,zg,zb,uV h1,zh,if_true,ix,enC,yM,y5,zy,x7,ye,xa,sl,c,cn,zG,zyo,yu,ea,Yzs];cases isName x.name<;>grind
  have hn:l.take (i+1)=l.take i++[x]:=by grind
  unfold zj3;by_cases a0:isName x.name=false
  ·rw[Yzd a0]at body ⊢;rw[zx body];rfl
  rw[Yzb a0]at body ⊢;by_cases a1:(l.take i).any (fun y=>eqB y.name x.name)=true
  ·rw[Yzd a1]at body ⊢;rw[zx body];rfl
  rw[Yzb a1]at body ⊢;by_cases a2:x.src<0
  ·rw[Yzd a2]at body ⊢;rw[zx body];rfl
  rw[Yzb a2]at body ⊢;by_cases a3:(ks.els.length:Int)≤x.src
  ·rw[Yzd a3]at body ⊢;rw[zx body];rfl
  rw[Yzb a3]at body ⊢;by_cases a4:x.dst<0
  ·rw[Yzd a4]at body ⊢;rw[zx body];rfl
  rw[Yzb a4]at body ⊢;by_cases a5:(ks.els.length:Int)≤x.dst
  ·rw[Yzd a5]at body ⊢;rw[zx body];rfl
  rw[Yzb a5]at body ⊢;by_cases a6:x.shift < -127
  ·rw[Yzd a6]at body ⊢;rw[zx body];rfl
  rw[Yzb a6]at body ⊢;by_cases a7:127<x.shift
  ·rw[Yzd a7]at body ⊢;rw[zx body];rfl
  rw[Yzb a7]at body ⊢;by_cases a8:x.src=x.dst∧x.shift=0
  ·rw[Yzd a8]at body ⊢;rw[zx body];rfl
  rw[Yzb a8]at body ⊢
  grind[zF,zL]
theorem zCx(k:Nat)(ks:Sl (Int×Int))(hl:ks.els.length≤9223372036854775807):∀(r:List (Int×Int)) (i:Nat),ks.els.drop i=r→
  zJ (zqO (D (k+1)) (I6 (ks.els.length:Int)) (enL 2 enK ks)) [I6 (i:Int)] []=some (if r.any (fun k=>right k.1 k.2 != 0)=true then(.ret,[I6 23],[]) else(.exit 0,[],[])):=by
 intro r
 induction r with
 |nil=>grind[zr,zqO,zA,zg,zb,xG,zY,zh]
 |cons x r ih=>
  intro i h;have h1:=yw h;have ea:zc .add (I6 (i:Int)) (I6 1)=some (I6 ((i+1:Nat):Int)):=yN;have c:=t79 k x.1 x.2;have body:zqO (D (k+1)) (I6 (ks.els.length:Int)) (enL 2 enK ks) [I6 (i:Int)] []=some (if right x.1 x.2=0 then(.normal,[I6 ((i+1:Nat):Int)],[]) else(.ret,[I6 23],[])):=by
   simp only[zqO,zA,zg,zb,uV h1,zh,if_true,zR h,enK,yM,y5,c,zG,zM,ea]
   grind
  by_cases hc:right x.1 x.2=0
  ·rw[Yzd hc]at body;rw[zF body,ih (i+1) (zL h),List.any_cons,hc];rfl
  ·rw[Yzb hc]at body;rw[zx body,Yzd (by simp[hc])]
theorem t59(k:Nat)(ks:Sl (Int×Int))(l:Sl Cpl)(hk:ks.els.length≤9223372036854775807)(hl:l.els.length≤9223372036854775807):D (k+4) 59 [S1 (enL 2 enK ks),S1 (enL 5 enC l)]=some (S1 (I6 (zlR ks.els l.els))):=by
 rw[D59];unfold P59 zlR;have ck:=zCx (k+2) ks hk ks.els 0 rfl;simp only[zy,zb,ye,zh];rw[show (I6 0:DV)=I6 ((0:Nat):Int) from rfl,ck];by_cases h1:8<ks.els.length
 ·grind
 have h2:¬((8:Int)<(ks.els.length:Int)):=by omega
 by_cases h3:40<l.els.length
 ·grind
 have h4:¬((40:Int)<(l.els.length:Int)):=by omega
 simp only[h1,h2,h3,h4,decide_false,Yze,if_false];by_cases h5:ks.els.any (fun k=>right k.1 k.2 != 0)=true
 ·simp_all
 rw[Yzb h5,Yzb h5];simp only[z6,Yzl,Yza];cases l with
 |none=>rw[zr (id:=2) (L':=[]) (M':=[]) (by rfl)];rfl
 |some l=>have:=l59 k ks l hl l 0 rfl;rw[show Sl.els (some l:Sl Cpl)=l from rfl,this,List.take_zero];unfold ziS;by_cases h6:zj3 ks.els.length [] l=0<;>simp[h6]
structure Zn where
 name:ByteArray
 pedal:Bool
 low:Int
 high:Int
 stops:Sl Zq
def enV(d:Zn):List DV:=[St d.name,Bo d.pedal,I6 d.low,I6 d.high,enL 4 xE d.stops]
structure Zn.ok (d:Zn):Prop where
 len:d.stops.els.length≤9223372036854775807
 stops:∀s∈d.stops.els,s.ok
structure Org where
 name:ByteArray
 ranks:Sl Zj
 divs:Sl Zn
 cpls:Sl Cpl
def enO(o:Org):List DV:=[St o.name,enL 6 enR o.ranks,enL 5 enV o.divs,enL 5 enC o.cpls]
structure Org.ok (o:Org):Prop where
 rl:o.ranks.els.length≤9223372036854775807
 ranks:∀r∈o.ranks.els,ze2 r
 dl:o.divs.els.length≤9223372036854775807
 divs:∀d∈o.divs.els,d.ok
 cl:o.cpls.els.length≤9223372036854775807
def zaP(x:Place):List Zq→List ByteArray→Int
 | [],_=>0
 |s::r,ns=>if uR x s≠0 then uR x s else if ns.any (eqB s.name)=true then 9 else zaP x r (ns++[s.name])
def zmw(id:Nat)(e:Int)(m:List OC):PX:=if e≠0 then(.ret,[I6 e],m) else(.exit id,[],m)
theorem l58(k:Nat)(x:Place)(hx:x.ok)(l:Sl Zq)(hl:l.els.length≤9223372036854775807)(hs:∀s∈l.els,s.ok):∀(r:List Zq) (i:Nat) (ns:List ByteArray),l.els.drop i=r→
  ∃m,zJ (zqP (D (k+7)) (I6 (l.els.length:Int)) (enL 4 xE l) (enL 6 enR x.ranks) (I6 x.low) (I6 x.high)) [I6 (i:Int)] [some (ns.map enN)]=some (zmw 0 (zaP x r ns) m):=by
 intro r
 induction r with
 |nil=>intro i ns h;refine⟨[some (ns.map enN)],zr ?_⟩;simp only[zqP,zA,zg,zb,xG (zY h),zh];rfl
 |cons s r ih=>
  intro i ns h;have h1:=yw h;have ea:zc .add (I6 (i:Int)) (I6 1)=some (I6 ((i+1:Nat):Int)):=yN;have c:=t80 k x s hx (hs s (Lz3 (yI h)));simp only[enP,xE]at c;have body:∃m,zqP (D (k+7)) (I6 (l.els.length:Int)) (enL 4 xE l) (enL 6 enR x.ranks) (I6 x.low) (I6 x.high) [I6 (i:Int)] [some (ns.map enN)] =
    some (if uR x s≠0 then(.ret,[I6 (uR x s)],m) else if ns.any (eqB s.name)=true then(.ret,[I6 9],m) else(.normal,[I6 ((i+1:Nat):Int)],[some ((ns++[s.name]).map enN)])):=by
   refine⟨[some (ns.map enN)],?_⟩;simp only[zqP,zA,yA,zg,zb,uV h1,zh,if_true,zR h,xE,yM,y5,c,zG,zM,yX,zqb,zav,zuV,ea];by_cases hz:uR x s=0
   ·cases hb:ns.any (eqB s.name)<;>simp_all[zbm]
   grind
  obtain⟨m,body⟩:=body;unfold zaP;by_cases a1:uR x s≠0
  ·rw[Yzd a1]at body ⊢;exact⟨m,by rw[zx body];simp_all[zmw]⟩
  rw[Yzb a1]at body ⊢;by_cases a2:ns.any (eqB s.name)=true
  ·rw[Yzd a2]at body ⊢;exact⟨m,by rw[zx body];rfl⟩
  rw[Yzb a2]at body ⊢;rw[zF body];exact ih (i+1) _ (zL h)
def zaL(rs:Sl Zj)(d:Zn):Int:=if right d.low d.high≠0 then right d.low d.high else if 60<d.stops.els.length then 4 else zaP ⟨rs,d.low,d.high⟩ d.stops.els []
theorem t58(k:Nat)(o:Org)(ho:o.ok)(d:Zn)(hd:d.ok):D (k+8) 58 [SA (enO o),SA (enV d)]=some (S1 (I6 (zaL o.ranks d))):=by
 have hx:Place.ok ⟨o.ranks,d.low,d.high⟩:=⟨ho.rl,ho.ranks⟩;obtain⟨m,l⟩:=l58 k ⟨o.ranks,d.low,d.high⟩ hx d.stops hd.len hd.stops d.stops.els 0 [] rfl;have c:=t79 (k+6) d.low d.high;unfold enO enV;rw[D58];unfold P58 zaL;simp only[c,zG,zM,zb,zh,zy,ye];by_cases h1:right d.low d.high=0
 ·by_cases h2:60<d.stops.els.length
  ·grind
  ·have h3:¬((60:Int)<(d.stops.els.length:Int)):=by omega
   simp only[List.map_nil]at l;rw[show (I6 0:DV)=I6 ((0:Nat):Int) from rfl,l];unfold zmw;by_cases h4:zaP ⟨o.ranks,d.low,d.high⟩ d.stops.els []=0<;>simp[h1,h2,h3,h4]
 grind
def kW:List Zj→List ByteArray→Int
 | [],_=>0
 |x::r,ns=>if y2 x≠0 then y2 x else if ns.any (eqB x.name)=true then 9 else kW r (ns++[x.name])
theorem l35(k:Nat)(l:Sl Zj)(hl:l.els.length≤9223372036854775807)(hs:∀s∈l.els,ze2 s):∀(r:List Zj) (i:Nat) (ns:List ByteArray),l.els.drop i=r→
  ∃m,zJ (zqU (D (k+5)) (I6 (l.els.length:Int)) (enL 6 enR l)) [I6 (i:Int)] [some (ns.map enN)]=some (zmw 1 (kW r ns) m):=by
 intro r
 induction r with
 |nil=>intro i ns h;refine⟨[some (ns.map enN)],zr ?_⟩;simp only[zqU,zA,zg,zb,xG (zY h),zh];rfl
 |cons s r ih=>
  intro i ns h;have h1:=yw h;have ea:zc .add (I6 (i:Int)) (I6 1)=some (I6 ((i+1:Nat):Int)):=yN;have c:=t56 k s (hs s (Lz3 (yI h)));simp only[enR]at c;have body:∃m,zqU (D (k+5)) (I6 (l.els.length:Int)) (enL 6 enR l) [I6 (i:Int)] [some (ns.map enN)] =
    some (if y2 s≠0 then(.ret,[I6 (y2 s)],m) else if ns.any (eqB s.name)=true then(.ret,[I6 9],m) else(.normal,[I6 ((i+1:Nat):Int)],[some ((ns++[s.name]).map enN)])):=by
   refine⟨[some (ns.map enN)],?_⟩;simp only[zqU,zA,yA,zg,zb,uV h1,zh,if_true,zR h,enR,yM,y5,c,zG,zM,yX,zqb,zav,zuV,ea];by_cases hz:y2 s=0
   ·cases hb:ns.any (eqB s.name)<;>simp_all[zbm]
   grind
  obtain⟨m,body⟩:=body;unfold kW;by_cases a1:y2 s≠0
  ·rw[Yzd a1]at body ⊢;exact⟨m,by rw[zx body];simp_all[zmw]⟩
  rw[Yzb a1]at body ⊢;by_cases a2:ns.any (eqB s.name)=true
  ·rw[Yzd a2]at body ⊢;exact⟨m,by rw[zx body];rfl⟩
  rw[Yzb a2]at body ⊢;rw[zF body];exact ih (i+1) _ (zL h)
def zbO(rs:Sl Zj):List Zn→List ByteArray→Int
 | [],_=>0
 |d::r,ns=>if isName d.name=false then 8 else if ns.any (eqB d.name)=true then 9 else if zaL rs d≠0 then zaL rs d else zbO rs r (ns++[d.name])
def keyOf(d:Zn):Int×Int:=(d.low,d.high)
def grow{α:Type}(l:List α):Sl α:=match l with | []=>none|_=>some l
theorem yk{α:Type}(l:List α):(grow l).els=l:=by cases l<;>rfl
theorem wv{α:Type}(l:List α)(x:α):grow (l++[x])=some ((grow l).els++[x]):=by rw[yk];cases l<;>rfl
theorem zAe(k:Nat)(o:Org)(ho:o.ok)(hle:o.divs.els.length≤8):∀(r:List Zn) (i:Nat) (ns:List ByteArray),o.divs.els.drop i=r→
  ∃m,zJ (ziI (D (k+8)) (I6 (o.divs.els.length:Int)) (enL 5 enV o.divs) (St o.name) (enL 6 enR o.ranks) (enL 5 enC o.cpls)) [I6 (i:Int)] [ocL enK (grow ((o.divs.els.take i).map keyOf)),some (ns.map enN)] =
   some (if zbO o.ranks r ns≠0 then(.ret,[I6 (zbO o.ranks r ns)],m) else(.exit 4,[],[ocL enK (grow (o.divs.els.map keyOf)),m.headD none])):=by
 intro r
 induction r with
 |nil=>intro i ns h;refine⟨[some (ns.map enN)],zr ?_⟩;have:o.divs.els.take i=o.divs.els:=List.take_of_length_le (zY h);simp only[ziI,zA,zg,zb,xG (zY h),zh,this];rfl
 |cons d r ih=>
  intro i ns h;have h1:=yw h;have ea:zc .add (I6 (i:Int)) (I6 1)=some (I6 ((i+1:Nat):Int)):=yN;have c:=t58 k o ho d (ho.divs d (Lz3 (yI h)));have cn:=t55 (k+6) d.name;simp only[enO,enV]at c;have hn:o.divs.els.take (i+1)=o.divs.els.take i++[d]:=by grind
  have hlen:((grow ((o.divs.els.take i).map keyOf)).els).length=i:=by grind[yk]
  have ef:fits 16 ((grow ((o.divs.els.take i).map keyOf)).els.length+1)=true:=wx (by decide) (by omega);have body:∃m,ziI (D (k+8)) (I6 (o.divs.els.length:Int)) (enL 5 enV o.divs) (St o.name) (enL 6 enR o.ranks) (enL 5 enC o.cpls) [I6 (i:Int)] [ocL enK (grow ((o.divs.els.take i).map keyOf)),some (ns.map enN)] =
    some (if isName d.name=false then(.ret,[I6 8],m) else if ns.any (eqB d.name)=true then(.ret,[I6 9],m) else if zaL o.ranks d≠0 then(.ret,[I6 (zaL o.ranks d)],m)
     else(.normal,[I6 ((i+1:Nat):Int)],[ocL enK (grow ((o.divs.els.take (i+1)).map keyOf)),some ((ns++[d.name]).map enN)])):=by
   rw[hn,Yyg,Yzr,List.map_nil,wv];simp only[ziI,zA,yA,vi,zg,zb,uV h1,zh,if_true,zR h,enV,yM,y5,c,cn,zG,yu,zM,yX,zqb,zav,zuV,ea,xU,Yzp,Yyc,ef,wY,xg];cases isName d.name with
   |false=>simp
   |true=>
    cases hb:ns.any (eqB d.name) with
    |true=>simp
    |false=>
     refine⟨[some ((ns++[d.name]).map enN)],?_⟩;have ee:=vI (f:=enK) (grow ((o.divs.els.take i).map keyOf)) (keyOf d);rw[←ee];simp only[zbm d.name ns hb,zb];by_cases hz:zaL o.ranks d=0
     ·simp[hz];rfl
     grind
  obtain⟨m,body⟩:=body;unfold zbO;by_cases a0:isName d.name=false
  ·simp only[Yzd a0]at body ⊢;grind[zx]
  simp only[Yzb a0]at body ⊢;by_cases a1:ns.any (eqB d.name)=true
  ·simp only[Yzd a1]at body ⊢;grind[zx]
  simp only[Yzb a1]at body ⊢;by_cases a2:zaL o.ranks d≠0
  ·simp only[Yzd a2]at body ⊢;grind[zx]
  simp only[Yzb a2]at body ⊢;rw[zF body];exact ih (i+1) _ (zL h)
def x4(o:Org):Int:=
 if isName o.name=false then 8 else if 60<o.ranks.els.length then 4 else if kW o.ranks.els []≠0 then kW o.ranks.els [] else if o.divs.els.length=0 then 13 else if 8<o.divs.els.length then 4
 else if zbO o.ranks o.divs.els []≠0 then zbO o.ranks o.divs.els [] else zlR (o.divs.els.map keyOf) o.cpls.els
theorem t35(k:Nat)(o:Org)(ho:o.ok):D (k+9) 35 [SA (enO o)]=some (S1 (I6 (x4 o))):=by
 obtain⟨m,l⟩:=l35 (k+3) o.ranks ho.rl ho.ranks o.ranks.els 0 [] rfl;have cn:=t55 (k+6) o.name;unfold enO;rw[D35];unfold P35 x4;simp only[cn,zG,yu,zM,zb,zh,zy,ye,xa];cases isName o.name with
 |false=>rfl
 |true=>
  by_cases h1:60<o.ranks.els.length
  ·grind
  have h2:¬((60:Int)<(o.ranks.els.length:Int)):=by omega
  simp only[List.map_nil]at l;simp only[h1,h2,decide_false,Yzn,Yze,if_false,Bool.true_eq_false];rw[show (I6 0:DV)=I6 ((0:Nat):Int) from rfl,l];unfold zmw;by_cases h3:kW o.ranks.els []≠0
  ·simp_all
  simp only[Yzb h3,z6,Yzl,Yza];by_cases h4:o.divs.els.length=0
  ·simp[h4]
  have h5:¬((o.divs.els.length:Int)=((0:Nat):Int)):=by omega
  by_cases h6:8<o.divs.els.length
  ·grind
  have h7:¬((8:Int)<(o.divs.els.length:Int)):=by omega
  obtain⟨m2,l2⟩:=zAe k o ho (by omega) o.divs.els 0 [] rfl;simp only[List.take_zero,List.map_nil]at l2;rw[show ocL enK (grow ([]:List (Int×Int)))=none from rfl]at l2;have h9:((o.divs.els.length:Int)==0)=false:=by grind
  simp only[h4,h6,h7,h9,decide_false,Yze,if_false];rw[l2];by_cases h8:zbO o.ranks o.divs.els []≠0
  ·simp_all
  have cc:=t59 (k+4) (grow (o.divs.els.map keyOf)) o.cpls (by grind[yk]) ho.cl;simp_all[yk,znw]
end Go.Proofs.Tryz.Kn
end
section
namespace Go.Proofs.Tryz.Kn
open Go Go.CE Go.PE
structure RPl where
 tone:Nat
 feet:Nat
 first:Int
 pipes:Nat
 w0:Nat
 w1:Nat
 w2:Nat
 w3:Nat
 w4:Nat
structure RPl.ok (r:RPl):Prop where
 tone:r.tone<256
 feet:r.feet<256
 f1:-128≤r.first
 f2:r.first≤127
 pipes:r.pipes<256
 w0:r.w0<256
 w1:r.w1<256
 w2:r.w2<256
 w3:r.w3<256
 w4:r.w4<256
def zgS(r:RPl):List DV:=[U8 (r.tone:Int),U8 (r.feet:Int),.int .i8 r.first,U8 (r.pipes:Int),U8 (r.w0:Int),U8 (r.w1:Int),U8 (r.w2:Int),U8 (r.w3:Int),U8 (r.w4:Int)]
structure Pul where
 rank:Nat
 feet:Nat
 kind:Nat
 at_:Nat
structure Pul.ok (x:Pul):Prop where
 rank:x.rank<256
 feet:x.feet<256
 kind:x.kind<256
 at_:x.at_<256
def zjY(x:Pul):List DV:=[U8 (x.rank:Int),U8 (x.feet:Int),U8 (x.kind:Int),U8 (x.at_:Int)]
structure Boa where
 low:Nat
 keys:Nat
 pedal:Bool
 stops:Sl Pul
structure Boa.ok (b:Boa):Prop where
 low:b.low<256
 keys:b.keys<256
 len:b.stops.els.length≤9223372036854775807
 stops:∀x∈b.stops.els,x.ok
def qY(b:Boa):List DV:=[U8 (b.low:Int),U8 (b.keys:Int),Bo b.pedal,enL 4 zjY b.stops]
structure Lnk where
 src:Nat
 dst:Nat
 shift:Int
 thr:Bool
structure Lnk.ok (l:Lnk):Prop where
 src:l.src<256
 dst:l.dst<256
 s1:-128≤l.shift
 s2:l.shift≤127
def znk(l:Lnk):List DV:=[U8 (l.src:Int),U8 (l.dst:Int),.int .i8 l.shift,Bo l.thr]
structure Pln where
 ranks:Sl RPl
 divs:Sl Boa
 cpls:Sl Lnk
structure Pln.ok (p:Pln):Prop where
 rl:p.ranks.els.length≤9223372036854775807
 ranks:∀x∈p.ranks.els,x.ok
 dl:p.divs.els.length≤9223372036854775807
 divs:∀x∈p.divs.els,x.ok
 cl:p.cpls.els.length≤9223372036854775807
 cpls:∀x∈p.cpls.els,x.ok
def zgT(p:Pln):List DV:=[enL 9 zgS p.ranks,enL 4 qY p.divs,enL 4 znk p.cpls]
def zng(l:List Boa):Bool:=l.all fun b=>decide (b.stops.els.length≤3)
def zea(p:Pln):Bool:=decide (1≤p.ranks.els.length)&&decide (p.ranks.els.length≤3)&&decide (1≤p.divs.els.length)&&decide (p.divs.els.length≤3)&&decide (p.cpls.els.length≤3)&&zng p.divs.els
theorem l6(l:Sl Boa)(hl:l.els.length≤9223372036854775807):∀(r:List Boa) (i:Nat),l.els.drop i=r→
  zJ (zqN (enL 4 qY l)) [I6 (i:Int)] []=some (if zng r then(.exit 0,[],[]) else(.ret,[Bo false],[])):=by
 intro r
 induction r with
 |nil=>
  intro i h;refine zr ?_
  grind[zqN,zA,zy,zg,zb,xG,zY,zh]
 |cons x r ih=>
  intro i h;have h1:=yw h;have ea:zc .add (I6 (i:Int)) (I6 1)=some (I6 ((i+1:Nat):Int)):=yN;have body:zqN (enL 4 qY l) [I6 (i:Int)] []=some (if x.stops.els.length≤3 then(.normal,[I6 ((i+1:Nat):Int)],[]) else(.ret,[Bo false],[])):=by
   simp only[zqN,zA,zy,zg,zb,uV h1,zh,if_true,zR h,qY,yM,y5,ye,ea]
   grind
  by_cases hc:x.stops.els.length≤3
  ·rw[Yzd hc]at body;rw[zF body,ih (i+1) (zL h)];grind[zng]
  ·rw[Yzb hc]at body;grind[zx,zng]
theorem t6(k:Nat)(p:Pln)(hp:p.ok):D (k+1) 6 [SA (zgT p)]=some (S1 (Bo (zea p))):=by
 have l:=l6 p.divs hp.dl p.divs.els 0 rfl;unfold zgT;rw[D6];unfold P6 zea;simp only[zy,zb,zg,ye,zh,Yzs];rw[show (I6 0:DV)=I6 ((0:Nat):Int) from rfl,l];by_cases h1:1≤p.ranks.els.length
 ·have g1:¬((p.ranks.els.length:Int)<1):=by omega
  by_cases h2:p.ranks.els.length≤3
  ·have g2:¬((3:Int)<(p.ranks.els.length:Int)):=by omega
   by_cases h3:1≤p.divs.els.length
   ·have g3:¬((p.divs.els.length:Int)<1):=by omega
    by_cases h4:p.divs.els.length≤3
    ·have g4:¬((3:Int)<(p.divs.els.length:Int)):=by omega
     by_cases h5:p.cpls.els.length≤3
     ·have g5:¬((3:Int)<(p.cpls.els.length:Int)):=by omega
      simp only[Yzb g1,Yzb g2,Yzb g3,Yzb g4,Yzb g5,decide_eq_true h1,decide_eq_true h2,decide_eq_true h3,decide_eq_true h4,decide_eq_true h5,YzF];cases zng p.divs.els<;>rfl
     ·grind
    ·grind
   ·grind
  ·grind
 ·grind
theorem zlc{α:Type}(f:α→List DV)(l:List α)(i:Nat):zbW (some (l.map f)) i=(l[i]?).map f:=by show (l.map f)[i]? = _;rw[Lz6]
theorem t45(k:Nat)(n:Nat):D (k+1) 45 [S1 (U8 (n:Int))]=some (SA (enF (fA n))):=by
 rw[D45];unfold P45;have e:zc .rem (U8 (n:Int)) (U8 16)=some (U8 ((n % 16:Nat):Int)):=zmC (b:=16) (by decide);have i:wC (some (feetA.map enF)) (U8 ((n % 16:Nat):Int))=some (n % 16):=zc1 (by rw[Yzw];exact Yz2 _ (by decide));have j:zbW (some (feetA.map enF)) (n % 16)=some (enF (fA n)):=by grind[zlc,ztC]
 rw[e,zb];refine (congrArg (za · _) i).trans ?_;rw[zb];refine (congrArg (za · _) j).trans ?_;rfl
theorem t46(k:Nat)(n:Nat):D (k+1) 46 [S1 (U8 (n:Int))]=some (SA (enF (fB n))):=by
 rw[D46];unfold P46;have e:zc .rem (U8 (n:Int)) (U8 6)=some (U8 ((n % 6:Nat):Int)):=zmC (b:=6) (by decide);have i:wC (some (feetB.map enF)) (U8 ((n % 6:Nat):Int))=some (n % 6):=zc1 (by rw[Yzw];exact Yz2 _ (by decide));have j:zbW (some (feetB.map enF)) (n % 6)=some (enF (fB n)):=by grind[zlc,ztA]
 rw[e,zb];refine (congrArg (za · _) i).trans ?_;rw[zb];refine (congrArg (za · _) j).trans ?_;rfl
def pre(c:UInt8)(i:Nat):ByteArray:=⟨#[c]⟩++zdt [48+(i:Int)] ByteArray.empty
theorem zf7(c:UInt8)(i:Nat):zoC .add (.str ⟨#[c]⟩) (.str (zdt [48+(i:Int)] ByteArray.empty))=some (St (pre c i)):=rfl
theorem zc3(i:Nat):zoK (.lst 1 [[U8 (48+(i:Int))]])=some (St (zdt [48+(i:Int)] ByteArray.empty)):=rfl
def zmb:Nat→ByteArray
 |0=>⟨#[79,112,101,110]⟩
 |1=>⟨#[70,108,117,116,101]⟩
 |_=>⟨#[82,101,101,100]⟩
def wAt(r:RPl):Nat→Nat
 |0=>r.w0
 |1=>r.w1
 |2=>r.w2
 |3=>r.w3
 |_=>r.w4
def kL(r:RPl)(n:Nat):List Int:=(List.range n).map fun k=>((wAt r (k % 5):Nat):Int)
theorem zeM(r:RPl)(n:Nat):kL r (n+1)=kL r n++[((wAt r (n % 5):Nat):Int)]:=by grind[kL,List.range_succ]
theorem zbb(r:RPl)(n:Nat):(kL r n).length=n:=by simp[kL]
theorem zs7{r:RPl}(h:r.ok)(i:Nat):wAt r i<256:=by
 unfold wAt;split
 ·exact h.w0
 ·exact h.w1
 ·exact h.w2
 ·exact h.w3
 ·exact h.w4
def zsf(i:Nat)(r:RPl):Zj:=⟨pre 82 (i % 10),zmb (r.tone % 3),(fA r.feet).1,(fA r.feet).2,r.first,some (kL r (1+r.pipes % 25))⟩
theorem l24(r:RPl)(hr:r.ok)(c0 c1 c2 c3 c4:DV):∀(m j:Nat),j+m=1+r.pipes % 25→
  zJ (ziJ (U8 (r.pipes:Int)) (U8 (r.w0:Int)) (U8 (r.w1:Int)) (U8 (r.w2:Int)) (U8 (r.w3:Int)) (U8 (r.w4:Int))) [I6 (j:Int),c0,c1,c2,c3,c4] [ocL enW (grow (kL r j))] =
   some (.exit 0,[c0,c1,c2,c3,c4],[ocL enW (grow (kL r (1+r.pipes % 25)))]):=by
 have e1:zc .rem (U8 (r.pipes:Int)) (U8 25)=some (U8 ((r.pipes % 25:Nat):Int)):=zmC (b:=25) (by decide);have hm:r.pipes % 25<25:=Yz2 _ (by omega);have e2:xn .i64 (U8 ((r.pipes % 25:Nat):Int))=some (I6 ((r.pipes % 25:Nat):Int)):=zaM;have e3:zc .add (I6 1) (I6 ((r.pipes % 25:Nat):Int))=some (I6 ((1+r.pipes % 25:Nat):Int)):=by grind[yN]
 intro m
 induction m with
 |zero=>
  intro j hj;refine zr ?_;have hj':j=1+r.pipes % 25:=by omega
  subst hj';have:decide (((1+r.pipes % 25:Nat):Int)<((1+r.pipes % 25:Nat):Int))=false:=xG (by omega);simp_all[ziJ]
 |succ m ih=>
  intro j hj;have hlt:decide ((j:Int)<((1+r.pipes % 25:Nat):Int))=true:=uV (by omega);have ea:zc .add (I6 (j:Int)) (I6 1)=some (I6 ((j+1:Nat):Int)):=yN;have eb:zc .rem (I6 (j:Int)) (I6 5)=some (I6 ((j % 5:Nat):Int)):=zmC (b:=5) (by decide);have h5:j % 5<5:=Yz2 _ (by omega);have en:uG 5 (I6 ((j % 5:Nat):Int))=some (j % 5):=zgf h5;have hw:=zs7 hr (j % 5);have ew:atD [U8 (r.w0:Int),U8 (r.w1:Int),U8 (r.w2:Int),U8 (r.w3:Int),U8 (r.w4:Int)] (j % 5)=U8 ((wAt r (j % 5):Nat):Int):=by
   have:j % 5=0∨j % 5=1∨j % 5=2∨j % 5=3∨j % 5=4:=by omega
   rcases this with h|h|h|h|h<;>rw[h]<;>rfl
  have ec:xn .i64 (U8 ((wAt r (j % 5):Nat):Int))=some (I6 ((wAt r (j % 5):Nat):Int)):=zaM;have ef:fits 8 ((grow (kL r j)).els.length+1)=true:=wx (by decide) (by grind[yk,zbb]);have body:ziJ (U8 (r.pipes:Int)) (U8 (r.w0:Int)) (U8 (r.w1:Int)) (U8 (r.w2:Int)) (U8 (r.w3:Int)) (U8 (r.w4:Int)) [I6 (j:Int),c0,c1,c2,c3,c4] [ocL enW (grow (kL r j))] =
    some (.normal,[I6 ((j+1:Nat):Int),c0,c1,c2,c3,c4],[ocL enW (grow (kL r (j+1)))]):=by
   rw[zeM,wv];simp_all[ziJ,vI]
  grind[zF]
theorem t24(k:Nat)(i:Nat)(hi:i<10)(r:RPl)(hr:r.ok):D (k+2) 24 [SA (zgS r),S1 (I6 (i:Int))]=some (SA (enR (zsf i r))):=by
 unfold zgS;rw[D24];unfold P24;have e1:zc .rem (I6 (i:Int)) (I6 10)=some (I6 ((i % 10:Nat):Int)):=zmC (b:=10) (by decide);have h10:i % 10<10:=Yz2 _ (by decide);have e2:zc .add (I6 48) (I6 ((i % 10:Nat):Int))=some (I6 (48+((i % 10:Nat):Int))):=yN;have e3:xn .u8 (I6 (48+((i % 10:Nat):Int)))=some (U8 (48+((i % 10:Nat):Int))):=by
  show some (DV.int .u8 (wB .u8 (48+((i % 10:Nat):Int))))=_
  grind[zra]
 have e4:zc .rem (U8 (r.tone:Int)) (U8 3)=some (U8 ((r.tone % 3:Nat):Int)):=zmC (b:=3) (by decide);have e5:xn .i64 (.int .i8 r.first)=some (I6 r.first):=by
  have:=hr.f1;have:=hr.f2
  exact zaM
 have l:=l24 r hr (St (pre 82 (i % 10))) (St (zmb (r.tone % 3))) (I6 (fA r.feet).1) (I6 (fA r.feet).2) (I6 r.first) (1+r.pipes % 25) 0 (by omega);rw[show ocL enW (grow (kL r 0))=none from rfl]at l;have hg:grow (kL r (1+r.pipes % 25))=some (kL r (1+r.pipes % 25)):=by grind[zeM,wv,yk]
 rw[hg]at l;have h3:r.tone % 3=0∨r.tone % 3=1∨r.tone % 3=2:=by omega
 have et:za (wC (some [[(.str ⟨#[79,112,101,110]⟩)],[(.str ⟨#[70,108,117,116,101]⟩)],[(.str ⟨#[82,101,101,100]⟩)]]) (U8 ((r.tone % 3:Nat):Int))) (fun n6=>zbW (some [[(.str ⟨#[79,112,101,110]⟩)],[(.str ⟨#[70,108,117,116,101]⟩)],[(.str ⟨#[82,101,101,100]⟩)]]) n6)=some [St (zmb (r.tone % 3))]:=by rcases h3 with h|h|h<;>rw[h]<;>rfl
 have eu:∀{β:Type} (K:List DV→Option β),za (wC (some [[(.str ⟨#[79,112,101,110]⟩)],[(.str ⟨#[70,108,117,116,101]⟩)],[(.str ⟨#[82,101,101,100]⟩)]]) (U8 ((r.tone % 3:Nat):Int))) (fun n6=>za (zbW (some [[(.str ⟨#[79,112,101,110]⟩)],[(.str ⟨#[70,108,117,116,101]⟩)],[(.str ⟨#[82,101,101,100]⟩)]]) n6) K)=K [St (zmb (r.tone % 3))]:=by intro β K;rcases h3 with h|h|h<;>rw[h]<;>rfl
 have c:=t45 k r.feet;simp only[e1,e2,e3,e4,zb,zc3,zf7];rw[eu];rw[c];unfold enF;rw[zyn (show[I6 (fA r.feet).1,I6 (fA r.feet).2].length=2 from rfl)];simp only[e5,zb,yM,y5];rw[show (I6 0:DV)=I6 ((0:Nat):Int) from rfl,l];rfl
end Go.Proofs.Tryz.Kn
end
section
namespace Go.Proofs.Tryz.Kn
open Go Go.CE Go.PE
theorem bT2{β:Type}(a b:DV)(K:List DS→Option β):bT [none,none] (some (.tup [.one a,.one b])) K=K [.one a,.one b]:=rfl
def zhh(rs:List Zj)(i:Nat):Zj:=(rs[i]?).getD ⟨ByteArray.empty,ByteArray.empty,8,1,0,none⟩
theorem zfX{rs:List Zj}{i:Nat}(h:i<rs.length):rs[i]? = some (zhh rs i):=by grind[zhh]
theorem zbi{rs:List Zj}{i:Nat}(h:i<rs.length):zhh rs i∈rs:=Lz3 (zfX h)
def xl(low high:Int)(n:Int)(sh:Int)(m:Int)(sh2:Int)(at_:Int):Nat→List Seg
 |2=>[⟨low,high,some [⟨n,sh⟩,⟨n,sh+7⟩]⟩]
 |3=>if low<at_ then[⟨low,at_-1,some [⟨n,sh⟩]⟩,⟨at_,high,some [⟨m,sh2⟩]⟩] else[⟨at_,high,some [⟨m,sh2⟩]⟩]
 |4=>if low<at_ then[⟨low,at_-1,some [⟨n,sh⟩]⟩,⟨at_,high,some [⟨n,sh-12⟩]⟩] else[⟨at_,high,some [⟨n,sh-12⟩]⟩]
 |5=>[⟨at_,high,some [⟨n,sh⟩]⟩]
 |_=>[⟨low,high,some [⟨n,sh⟩]⟩]
def rkF(r:Zj):Int×Int:=(r.num,r.den)
def ji(rs:List Zj)(low high:Int)(i:Nat)(x:Pul):Zq:=
 ⟨pre 83 i, (fB x.feet).1, (fB x.feet).2, some (xl low high ((x.rank % rs.length : Nat) : Int) (shf (fB x.feet) (rkF (zhh rs (x.rank % rs.length)))) (((x.rank % rs.length + 1) % rs.length : Nat) : Int)
  (shf (fB x.feet) (rkF (zhh rs ((x.rank % rs.length+1) % rs.length)))) (low+((x.at_:Int).tmod (high-low+1))) (x.kind % 6))⟩
theorem t25(k:Nat)(rs:List Zj)(hl:0<rs.length)(hl3:rs.length≤1000)(hf:∀r∈rs,rkF r∈feetA)(low high:Int)(h0:0≤low)(h1:low≤high)(h2:high≤1000)(x:Pul)(hx:x.ok)(i:Nat)(hi:i<10):
  D (k+6) 25 [S1 (enL 6 enR (some rs)),SA [I6 low,I6 high],SA (zjY x),S1 (I6 (i:Int))]=some (SA (xE (ji rs low high i x))):=by
 unfold zjY;rw[D25];unfold P25 ji;have hn:x.rank % rs.length<rs.length:=Yz2 _ hl;have hm:(x.rank % rs.length+1) % rs.length<rs.length:=Yz2 _ hl;generalize hN:x.rank % rs.length=n at hn hm;generalize hM:(n+1) % rs.length=m at hm;have e0:xn .i64 (U8 (x.rank:Int))=some (I6 (x.rank:Int)):=by have:=hx.rank;exact zaM
 have e1:zc .rem (I6 (x.rank:Int)) (I6 (rs.length:Int))=some (I6 (n:Int)):=by grind[zmC]
 have e2:zc .add (I6 48) (I6 (i:Int))=some (I6 (48+(i:Int))):=yN;have e3:xn .u8 (I6 (48+(i:Int)))=some (U8 (48+(i:Int))):=by
  show some (DV.int .u8 (wB .u8 (48+(i:Int))))=_
  grind[zra]
 have c1:=t46 (k+4) x.feet;have ix:yT 6 (enL 6 enR (some rs)) (I6 (n:Int))=some (enR (zhh rs n)):=by grind[y9,zfX]
 have ix2:yT 6 (enL 6 enR (some rs)) (I6 (m:Int))=some (enR (zhh rs m)):=by grind[y9,zfX]
 have s1:=t47 k (fB x.feet) (rkF (zhh rs n)) (zfw _) (hf _ (zbi hn));have s2:=t47 k (fB x.feet) (rkF (zhh rs m)) (zfw _) (hf _ (zbi hm));have b1:=zn6 (fB x.feet) (rkF (zhh rs n)) (zfw _) (hf _ (zbi hn));generalize shf (fB x.feet) (rkF (zhh rs n))=sh at s1 b1 ⊢;generalize shf (fB x.feet) (rkF (zhh rs m))=sh2 at s2 ⊢;unfold rkF enF at s1 s2;unfold enF at c1;generalize (fB x.feet).1=u at c1 s1 s2 ⊢;generalize (fB x.feet).2=v at c1 s1 s2 ⊢;simp only at s1 s2;have e4:xn .i64 (U8 (x.at_:Int))=some (I6 (x.at_:Int)):=by have:=hx.at_;exact zaM
 have e5:zc .sub (I6 high) (I6 low)=some (I6 (high-low)):=zfO;have e6:zc .add (I6 (high-low)) (I6 1)=some (I6 (high-low+1)):=yN;have e7:zc .rem (I6 (x.at_:Int)) (I6 (high-low+1))=some (I6 ((x.at_:Int).tmod (high-low+1))):=zc2 _ _ _ (by omega);have hq:0≤(x.at_:Int).tmod (high-low+1)∧(x.at_:Int).tmod (high-low+1)<high-low+1:=⟨Int.tmod_nonneg _ (by omega),Int.tmod_lt_of_pos _ (by omega)⟩;generalize (x.at_:Int).tmod (high-low+1)=q at e7 hq ⊢;have e8:zc .add (I6 low) (I6 q)=some (I6 (low+q)):=yN;have e9:zc .rem (U8 (x.kind:Int)) (U8 6)=some (U8 ((x.kind % 6:Nat):Int)):=zmC (b:=6) (by decide);have e10:zc .add (I6 sh) (I6 7)=some (I6 (sh+7)):=yN;have e11:zc .sub (I6 sh) (I6 12)=some (I6 (sh-12)):=zfO;have e12:zc .add (I6 (n:Int)) (I6 1)=some (I6 ((n+1:Nat):Int)):=yN;have e13:zc .rem (I6 ((n+1:Nat):Int)) (I6 (rs.length:Int))=some (I6 (m:Int)):=by rw[←hM];exact zmC (by omega)
 have e14:zc .sub (I6 (low+q)) (I6 1)=some (I6 (low+q-1)):=zfO;have f1:fits 40 1=true:=by decide
 have f2:fits 40 2=true:=by decide
 have hk:x.kind % 6<6:=Yz2 _ (by decide);generalize x.kind % 6=kd at e9 hk ⊢;have b2:∀{β:Type} (a b:DV) (K:List DV→Option β),bA 2 (some (SA [a,b])) K=K [a,b]:=fun _ _ _=>rfl;simp only[e0,zb,zy,vN,e1,e2,e3,zc3,zf7,c1,b2,yM,y5,ix,enR,s1,bT2,qZ,uB,e4,e5,e6,e7,e8,e9,xa,ye,zh,e10,e11,e12,e13,ix2,s2,e14];have hkd:kd=0∨kd=1∨kd=2∨kd=3∨kd=4∨kd=5:=by omega
 rcases hkd with h|h|h|h|h|h<;>subst h
 ·rfl
 ·rfl
 ·rfl
 ·by_cases hb:low<low+q
  ·simp only[xl,Yzd hb,decide_eq_true hb];rfl
  ·simp only[xl,Yzb hb,decide_eq_false hb];rfl
 ·by_cases hb:low<low+q
  ·simp only[xl,Yzd hb,decide_eq_true hb];rfl
  ·simp only[xl,Yzb hb,decide_eq_false hb];rfl
 ·rfl
def wJ:Nat→List RPl→List Zj
 |_,[]=>[]
 |i,r::l=>zsf i r::wJ (i+1) l
def wb(rs:List Zj)(low high:Int):Nat→List Pul→List Zq
 |_,[]=>[]
 |i,x::l=>ji rs low high i x::wb rs low high (i+1) l
def zeI(b:Boa):Int:=36+((b.low % 12:Nat):Int)
def zaV(b:Boa):Int:=zeI b+((b.keys % 9:Nat):Int)
def zgn(rs:List Zj)(i:Nat)(b:Boa):Zn:=⟨pre 68 i,b.pedal,zeI b,zaV b,grow (wb rs (zeI b) (zaV b) 0 b.stops.els)⟩
def vz(rs:List Zj):Nat→List Boa→List Zn
 |_,[]=>[]
 |i,b::l=>zgn rs i b::vz rs (i+1) l
def zaE(n:Nat)(i:Nat)(l:Lnk):Cpl:=
 ⟨pre 67 i,((l.src % n:Nat):Int),((l.dst % n:Nat):Int),if ((l.src % n:Nat):Int)=((l.dst % n:Nat):Int)∧l.shift.tmod 25=0 then 12 else l.shift.tmod 25,l.thr⟩
def qK(n:Nat):Nat→List Lnk→List Cpl
 |_,[]=>[]
 |i,c::l=>zaE n i c::qK n (i+1) l
def zhM:ByteArray:=⟨#[79,114,103,97,110]⟩
def zeE(p:Pln):Org:=⟨zhM,grow (wJ 0 p.ranks.els),grow (vz (wJ 0 p.ranks.els) 0 p.divs.els),grow (qK p.divs.els.length 0 p.cpls.els)⟩
theorem qI:∀(l:List RPl) (i:Nat),(wJ i l).length=l.length
 | [],_=>rfl
 |_::l,i=>by simp[wJ,qI l]
theorem zb6:∀(l:List RPl) (i:Nat),∀r∈wJ i l,rkF r∈feetA
 | [],_,_,h=>by cases h
 |x::l,i,r,h=>by
  rcases Yzu.1 h with rfl|h
  ·exact ztB x.feet
  ·exact zb6 l _ r h
theorem zCC(k:Nat)(l:Sl RPl)(hl:l.els.length≤3)(hr:∀x∈l.els,x.ok)(nm:DV):∀(r:List RPl) (i:Nat) (acc:List Zj),l.els.drop i=r→acc.length=i→
  zJ (zyJ (D (k+2)) (enL 9 zgS l)) [I6 (i:Int),nm] [ocL enR (grow acc),none,none]=some (.exit 0,[nm],[ocL enR (grow (acc++wJ i r)),none,none]):=by
 intro r
 induction r with
 |nil=>grind[zr,zyJ,zA,xq,yA,vi,zy,zg,zb,xG,zY,zh,wJ]
 |cons x r ih=>
  intro i acc h ha;have h1:=yw h;have ea:zc .add (I6 (i:Int)) (I6 1)=some (I6 ((i+1:Nat):Int)):=yN;have c:=t24 k i (by omega) x (hr x (Lz3 (yI h)));have ef:fits 80 ((grow acc).els.length+1)=true:=wx (by decide) (by grind[yk]);have b6:∀{β:Type} (K:List DV→Option β),bA 6 (some (SA (enR (zsf i x)))) K=K (enR (zsf i x)):=fun _=>rfl;have body:zyJ (D (k+2)) (enL 9 zgS l) [I6 (i:Int),nm] [ocL enR (grow acc),none,none]=some (.normal,[I6 ((i+1:Nat):Int),nm],[ocL enR (grow (acc++[zsf i x])),none,none]):=by rw[wv];unfold zgS at c;simp only[zyJ,zA,xq,yA,vi,zy,zg,zb,uV h1,zh,if_true,zR h,zgS,yM,y5,c,b6,xU,Yzp,Yyc,ef,wY,ea,xg];rw[←vI (f:=enR)];rfl
  rw[zF body,ih (i+1) _ (zL h) (by simp[ha])];simp[wJ]
theorem zAg(k:Nat)(rs:List Zj)(hl:0<rs.length)(hl3:rs.length≤1000)(hf:∀r∈rs,rkF r∈feetA)(b:Boa)(hb:b.ok)(h3:b.stops.els.length≤3)(low high:Int)(h0:0≤low)(h1:low≤high)(h2:high≤1000)(d0 d1 c0 c1:DV):
  ∀(r:List Pul) (i:Nat) (acc:List Zq),b.stops.els.drop i=r→acc.length=i→
  zJ (zqJ (D (k+6)) (qY b) [d0,d1,enL 6 enR (some rs)]) [I6 (i:Int),c0,c1,I6 low,I6 high] [ocL xE (grow acc)]=some (.exit 4,[c0,c1,I6 low,I6 high],[ocL xE (grow (acc++wb rs low high i r))]):=by
 intro r
 induction r with
 |nil=>intro i acc h _;refine zr ?_;simp only[zqJ,qY,yM,y5,zA,xq,yA,zy,zg,zb,xG (zY h),zh,wb,List.append_nil];rfl
 |cons x r ih=>
  intro i acc h ha;have hlt:=yw h;have ea:zc .add (I6 (i:Int)) (I6 1)=some (I6 ((i+1:Nat):Int)):=yN;have c:=t25 k rs hl hl3 hf low high h0 h1 h2 x (hb.stops x (Lz3 (yI h))) i (by omega);have ef:fits 56 ((grow acc).els.length+1)=true:=wx (by decide) (by grind[yk]);have b4:∀{β:Type} (K:List DV→Option β),bA 4 (some (SA (xE (ji rs low high i x)))) K=K (xE (ji rs low high i x)):=fun _=>rfl;have body:zqJ (D (k+6)) (qY b) [d0,d1,enL 6 enR (some rs)] [I6 (i:Int),c0,c1,I6 low,I6 high] [ocL xE (grow acc)]=some (.normal,[I6 ((i+1:Nat):Int),c0,c1,I6 low,I6 high],[ocL xE (grow (acc++[ji rs low high i x]))]):=by rw[wv];unfold zjY at c;simp only[zqJ,qY,zA,xq,yA,zy,zg,zb,uV hlt,zh,if_true,yM,y5,zR h,zjY,c,b4,xU,Yzp,Yyc,ef,wY,ea,xg];rw[←vI (f:=xE)];rfl
  rw[zF body,ih (i+1) _ (zL h) (by simp[ha])];simp[wb]
theorem zgp(b:Boa):36≤zeI b∧zeI b≤47:=by grind[zeI]
theorem zc7(b:Boa):zeI b≤zaV b∧zaV b≤zeI b+8:=by grind[zaV]
theorem zAh(k:Nat)(rs:List Zj)(hl:0<rs.length)(hl3:rs.length≤1000)(hf:∀r∈rs,rkF r∈feetA)(l:Sl Boa)(hll:l.els.length≤3)(hb:∀b∈l.els,b.ok)(h3:∀b∈l.els,b.stops.els.length≤3)(nm:DV):
  ∀(r:List Boa) (i:Nat) (acc:List Zn),l.els.drop i=r→acc.length=i→
  zJ (zqK (D (k+6)) (enL 4 qY l)) [I6 (i:Int),nm,enL 6 enR (some rs)] [ocL enV (grow acc),none]=some (.exit 2,[nm,enL 6 enR (some rs)],[ocL enV (grow (acc++vz rs i r)),none]):=by
 intro r
 induction r with
 |nil=>grind[zr,zqK,zA,xq,yA,vi,zy,zg,zb,xG,zY,zh,vz]
 |cons b r ih=>
  intro i acc h ha;have hlt:=yw h;have hmem:=Lz3 (yI h);have ea:zc .add (I6 (i:Int)) (I6 1)=some (I6 ((i+1:Nat):Int)):=yN;have hlow:=zgp b;have hhigh:=zc7 b;have e1:zc .rem (U8 (b.low:Int)) (U8 12)=some (U8 ((b.low % 12:Nat):Int)):=zmC (b:=12) (by decide);have e2:xn .i64 (U8 ((b.low % 12:Nat):Int))=some (I6 ((b.low % 12:Nat):Int)):=zaM;have e3:zc .add (I6 36) (I6 ((b.low % 12:Nat):Int))=some (I6 (zeI b)):=yN;have e4:zc .add (I6 48) (I6 (i:Int))=some (I6 (48+(i:Int))):=yN;have e5:xn .u8 (I6 (48+(i:Int)))=some (U8 (48+(i:Int))):=by show some (DV.int .u8 (wB .u8 (48+(i:Int))))=_;rw[zra];congr 2;omega
  have e6:zc .rem (U8 (b.keys:Int)) (U8 9)=some (U8 ((b.keys % 9:Nat):Int)):=zmC (b:=9) (by decide);have e7:xn .i64 (U8 ((b.keys % 9:Nat):Int))=some (I6 ((b.keys % 9:Nat):Int)):=zaM;have e8:zc .add (I6 (zeI b)) (I6 ((b.keys % 9:Nat):Int))=some (I6 (zaV b)):=by have:zc .add (I6 (zeI b)) (I6 ((b.keys % 9:Nat):Int))=some (I6 (zeI b+((b.keys % 9:Nat):Int))):=yN;exact this
  have ll:=zAg k rs hl hl3 hf b (hb b hmem) (h3 b hmem) (zeI b) (zaV b) (by omega) (by omega) (by omega) (I6 (i:Int)) nm (St (pre 68 i)) (Bo b.pedal) b.stops.els 0 [] rfl rfl;rw[show ocL xE (grow ([]:List Zq))=none from rfl,show (I6 ((0:Nat):Int):DV)=I6 0 from rfl,Yyh]at ll;have ef:fits 64 ((grow acc).els.length+1)=true:=wx (by decide) (by grind[yk]);have body:zqK (D (k+6)) (enL 4 qY l) [I6 (i:Int),nm,enL 6 enR (some rs)] [ocL enV (grow acc),none]=some (.normal,[I6 ((i+1:Nat):Int),nm,enL 6 enR (some rs)],[ocL enV (grow (acc++[zgn rs i b])),none]):=by rw[wv];have ix:yT 4 (enL 4 qY l) (I6 (i:Int))=some (qY b):=zR h _;have q0:atD (qY b) 0=U8 (b.low:Int):=rfl;have q1:atD (qY b) 1=U8 (b.keys:Int):=rfl;have q2:atD (qY b) 2=Bo b.pedal:=rfl;simp only[zqK,zA,xq,yA,vi,zy,zg,zb,uV hlt,zh,if_true,ix,q0,q1,q2,e1,e2,e3,e4,e5,zc3,zf7,e6,e7,e8,ll,z6,Yzl,Yza,xU,Yzp,Yyc,ef,wY,ea,xg,zb7];rw[←vI (f:=enV)];rfl
  rw[zF body,ih (i+1) _ (zL h) (by simp[ha])];simp[vz]
theorem zAc(n:Nat)(hn:0<n)(hn3:n≤1000)(l:Sl Lnk)(hll:l.els.length≤3)(hb:∀b∈l.els,b.ok)(nm rk:DV)(dv:OC):
  ∀(r:List Lnk) (i:Nat) (acc:List Cpl),l.els.drop i=r→acc.length=i→
  zJ (zqI (enL 4 znk l) (I6 (n:Int))) [I6 (i:Int),nm,rk] [dv,ocL enC (grow acc)]=some (.exit 6,[nm,rk],[dv,ocL enC (grow (acc++qK n i r))]):=by
 intro r
 induction r with
 |nil=>grind[zr,zqI,zA,xq,yA,vi,zy,zg,zb,xG,zY,zh,qK]
 |cons b r ih=>
  intro i acc h ha;have hlt:=yw h;have hbb:=hb b (Lz3 (yI h));have ea:zc .add (I6 (i:Int)) (I6 1)=some (I6 ((i+1:Nat):Int)):=yN;have e4:zc .add (I6 48) (I6 (i:Int))=some (I6 (48+(i:Int))):=yN;have e5:xn .u8 (I6 (48+(i:Int)))=some (U8 (48+(i:Int))):=by show some (DV.int .u8 (wB .u8 (48+(i:Int))))=_;rw[zra];congr 2;omega
  have g1:xn .i64 (U8 (b.src:Int))=some (I6 (b.src:Int)):=by have:=hbb.src;exact zaM
  have g2:zc .rem (I6 (b.src:Int)) (I6 (n:Int))=some (I6 ((b.src % n:Nat):Int)):=zmC (by omega);have g3:xn .i64 (U8 (b.dst:Int))=some (I6 (b.dst:Int)):=by have:=hbb.dst;exact zaM
  have g4:zc .rem (I6 (b.dst:Int)) (I6 (n:Int))=some (I6 ((b.dst % n:Nat):Int)):=zmC (by omega);have g5:xn .i64 (.int .i8 b.shift)=some (I6 b.shift):=by have:=hbb.s1;have:=hbb.s2;exact zaM
  have g6:zc .rem (I6 b.shift) (I6 25)=some (I6 (b.shift.tmod 25)):=zc2 _ _ _ (by decide);have ef:fits 48 ((grow acc).els.length+1)=true:=wx (by decide) (by grind[yk]);have body:zqI (enL 4 znk l) (I6 (n:Int)) [I6 (i:Int),nm,rk] [dv,ocL enC (grow acc)]=some (.normal,[I6 ((i+1:Nat):Int),nm,rk],[dv,ocL enC (grow (acc++[zaE n i b]))]):=by
   rw[wv,←vI (f:=enC)];simp only[zqI,zA,xq,yA,vi,zy,zg,zb,uV hlt,zh,if_true,zR h,znk,yM,y5,e4,e5,zc3,zf7,g1,g2,g3,g4,g5,g6,xa,xU,Yzp,Yyc,ef,wY,ea,xg];unfold zaE enC;by_cases h1:((b.src % n:Nat):Int)=((b.dst % n:Nat):Int)
   ·by_cases h2:b.shift.tmod 25=0<;>grind
   ·grind
  rw[zF body,ih (i+1) _ (zL h) (by simp[ha])];simp[qK]
theorem qR{p:Pln}(h:zea p=true):1≤p.ranks.els.length∧p.ranks.els.length≤3∧1≤p.divs.els.length∧p.divs.els.length≤3∧p.cpls.els.length≤3∧∀b∈p.divs.els,b.stops.els.length≤3:=by simp_all[zea,zng]
theorem zpU{α:Type}{l:List α}(h:0<l.length):grow l=some l:=by cases l with|nil=>simp at h|cons _ _=>rfl
theorem t7(k:Nat)(p:Pln)(hp:p.ok)(hf:zea p=true):D (k+7) 7 [SA (zgT p)]=some (SA (enO (zeE p))):=by obtain⟨f1,f2,f3,f4,f5,f6⟩:=qR hf;have hlen:(wJ 0 p.ranks.els).length=p.ranks.els.length:=qI _ _;have l2:=zCC (k+4) p.ranks f2 hp.ranks (St zhM) p.ranks.els 0 [] rfl rfl;have l12:=zAh k (wJ 0 p.ranks.els) (by omega) (by omega) (zb6 _ _) p.divs f4 hp.divs f6 (St zhM) p.divs.els 0 [] rfl rfl;have l43:=zAc p.divs.els.length (by omega) (by omega) p.cpls f5 hp.cpls (St zhM) (enL 6 enR (some (wJ 0 p.ranks.els))) (ocL enV (grow (vz (wJ 0 p.ranks.els) 0 p.divs.els))) p.cpls.els 0 [] rfl rfl;rw[show ocL enR (grow ([]:List Zj))=none from rfl,show (I6 ((0:Nat):Int):DV)=I6 0 from rfl,Yyh]at l2;rw[show ocL enV (grow ([]:List Zn))=none from rfl,show (I6 ((0:Nat):Int):DV)=I6 0 from rfl,Yyh]at l12;rw[show ocL enC (grow ([]:List Cpl))=none from rfl,show (I6 ((0:Nat):Int):DV)=I6 0 from rfl,Yyh]at l43;have hg:grow (wJ 0 p.ranks.els)=some (wJ 0 p.ranks.els):=zpU (by omega);unfold zgT;rw[D7];unfold P7 zeE enO;unfold zhM at l2 l12 l43;rw[hg]at l2 ⊢;simp only[l2,z6,Yzl,Yza,zA,xq,yA,vi,zb7,l12,zy,zb,l43];rfl
end Go.Proofs.Tryz.Kn
end
section
namespace Go.Proofs.Tryz.Kn
open Go Go.CE Go.PE
theorem zr4:([82,83,68,67].all fun c=>[0,1,2,3,4,5,6,7,8,9].all fun i=>isName (pre c i))=true:=by kernel_rfl
theorem zat{c:UInt8}(hc:c∈([82,83,68,67]:List UInt8)){i:Nat}(h:i<10):isName (pre c i)=true:=by
 have:=YzM.1 (YzM.1 zr4 c hc) i;refine this ?_;have:i=0∨i=1∨i=2∨i=3∨i=4∨i=5∨i=6∨i=7∨i=8∨i=9:=by omega
 simp_all
theorem zuK:([82,83,68,67].all fun c=>[0,1,2].all fun i=>[0,1,2].all fun j=>Nat.beq i j || !eqB (pre c i) (pre c j))=true:=by kernel_rfl
theorem zgQ{c:UInt8}(hc:c∈([82,83,68,67]:List UInt8)){i j:Nat}(hi:i<3)(hj:j<3)(h:i≠j):eqB (pre c i) (pre c j)=false:=by
 have hm:∀n<3,n∈([0,1,2]:List Nat):=by trivial
 have:=YzM.1 (YzM.1 (YzM.1 zuK c hc) i (hm i hi)) j (hm j hj);simp_all
theorem zjH(n:Nat):isName (zmb n)=true:=by unfold zmb;split<;>rfl
theorem zl9(r:RPl)(hr:r.ok)(n:Nat):(kL r n).any wA=false:=by
 rw[List.any_eq_false];intro x hx;unfold kL at hx;obtain⟨k,_,rfl⟩:=List.mem_map.1 hx;have:=zs7 hr (k % 5);unfold wA
 grind
theorem zpl(i:Nat)(r:RPl)(hr:r.ok):y2 (zsf i r)=0:=by
 have h1:=zat (c:=82) (by simp) (show i % 10<10 by omega);have h2:=zx1 _ (ztB r.feet);have h3:=zl9 r hr (1+r.pipes % 25);have h4:=zbb r (1+r.pipes % 25);have:=hr.f1;have:=hr.f2
 have h5:decide (-256≤r.first)=true:=decide_eq_true (by omega);have h6:decide (r.first≤256)=true:=decide_eq_true (by omega);have h7:¬(1+r.pipes % 25=0):=by omega
 have h8:¬(128<1+r.pipes % 25):=by omega
 unfold y2 zsf;simp only[h1,zjH,h2,h5,h6,vN,h4,h3,h7,h8,Yzn,Yze,if_false,Bool.and_self,ne_eq,not_true_eq_false]
theorem zjg(l:List Zj)(h:∀r∈l,y2 r=0):vE l=0:=by induction l<;>simp_all[vE]
theorem zlh:∀(l:List RPl) (i:Nat),(∀r∈l,r.ok)→∀x∈wJ i l,y2 x=0
 | [],_,_,_,h=>by cases h
 |r::l,i,H,x,h=>by
  rcases Yzu.1 h with rfl|h
  ·grind[zpl]
  ·exact zlh l _ (fun r hr=>H r (Yzf _ hr)) x h
theorem zli:∀(l:List RPl) (i:Nat),i+l.length≤3→(∀r∈l,r.ok)→kW (wJ i l) ((List.range i).map (pre 82))=0
 | [],_,_,_=>rfl
 |r::l,i,hl,H=>by
  simp only[Yzp]at hl;have h1:=zpl i r (H r (Yzg ..));have hi:i % 10=i:=by omega
  have h2:((List.range i).map (pre 82)).any (eqB (zsf i r).name)=false:=by
   rw[List.any_eq_false];intro s hs;obtain⟨j,hj,rfl⟩:=List.mem_map.1 hs;have hj:=List.mem_range.1 hj;have:=zgQ (c:=82) (by simp) (show i<3 by omega) (show j<3 by omega) (by omega);show ¬eqB (pre 82 (i % 10)) (pre 82 j)=true
   grind
  unfold wJ kW;rw[Yzb (by omega),Yzb (by grind)];have:(List.range i).map (pre 82)++[(zsf i r).name]=(List.range (i+1)).map (pre 82):=by
   rw[List.range_succ,Yyg];show _++[pre 82 (i % 10)]=_
   grind
  rw[this];exact zli l (i+1) (by omega) fun r hr=>H r (Yzf _ hr)
theorem zcC:∀(l:List RPl) (i:Nat),∀r∈wJ i l,ze2 r
 | [],_,_,h=>by cases h
 |x::l,i,r,h=>by
  rcases Yzu.1 h with rfl|h
  ·show (kL x (1+x.pipes % 25)).length≤_
   grind[zbb]
  ·exact zcC l _ r h
theorem za3(n:Nat)(d:Zo)(h1:0≤d.rank)(h2:d.rank<(n:Int))(h3:-127≤d.shift)(h4:d.shift≤127):xc n [d]=0:=by simp_all[xc,za4,Yzb]
theorem zj0(n:Nat)(d e:Zo)(h1:0≤d.rank)(h2:d.rank<(n:Int))(h3:-127≤d.shift)(h4:d.shift≤127)(g1:0≤e.rank)(g2:e.rank<(n:Int))(g3:-127≤e.shift)(g4:e.shift≤127)(hne:e≠d):xc n [d,e]=0:=by simp_all[xc,za4,Yzb]
theorem zt7(x:Place)(hlow:0≤x.low)(hlh:x.low≤x.high)(n m:Int)(sh sh2 at_:Int)(h1:0≤n)(h2:n<(x.ranks.els.length:Int))(h3:0≤m)(h4:m<(x.ranks.els.length:Int))(s1:-100≤sh)(s2:sh≤100)(s3:-100≤sh2)(s4:sh2≤100)(a1:x.low≤at_)(a2:at_≤x.high)(kd:Nat):
  (xl x.low x.high n sh m sh2 at_ kd).length≠0∧(xl x.low x.high n sh m sh2 at_ kd).length≤12∧jS x (xl x.low x.high n sh m sh2 at_ kd) none=0:=by
 have d1:=za3 x.ranks.els.length ⟨n,sh⟩ h1 h2 (by grind) (by grind);have d2:=za3 x.ranks.els.length ⟨m,sh2⟩ h3 h4 (by grind) (by grind);have d3:=za3 x.ranks.els.length ⟨n,sh-12⟩ h1 h2 (by grind) (by grind);have d4:=zj0 x.ranks.els.length ⟨n,sh⟩ ⟨n,sh+7⟩ h1 h2 (by grind) (by grind) h1 h2 (by grind) (by grind) (fun h=>by grind);have one:∀(lo hi:Int) (ds:List Zo) (p:Option Int) (r:List Seg),x.low≤lo→lo≤hi→hi≤x.high→leO lo p=false→xc x.ranks.els.length ds=0→jS x (⟨lo,hi,some ds⟩::r) p=jS x r (some hi):=by
  intro lo hi ds p r e1 e2 e3 e4 e5;rw[jS]
  grind
 unfold xl;split
 ·refine⟨by simp,by simp,?_⟩;rw[one _ _ _ _ _ (by omega) (by omega) (by omega) rfl d4];rfl
 ·by_cases hb:x.low<at_
  ·rw[Yzd hb];refine⟨by simp,by simp,?_⟩;rw[one _ _ _ _ _ (by omega) (by omega) (by omega) rfl d1,one _ _ _ _ _ (by omega) (by omega) (by omega) (by grind[leO]) d2];rfl
  ·rw[Yzb hb];refine⟨by simp,by simp,?_⟩;rw[one _ _ _ _ _ (by omega) (by omega) (by omega) rfl d2];rfl
 ·by_cases hb:x.low<at_
  ·rw[Yzd hb];refine⟨by simp,by simp,?_⟩;rw[one _ _ _ _ _ (by omega) (by omega) (by omega) rfl d1,one _ _ _ _ _ (by omega) (by omega) (by omega) (by grind[leO]) d3];rfl
  ·rw[Yzb hb];refine⟨by simp,by simp,?_⟩;rw[one _ _ _ _ _ (by omega) (by omega) (by omega) rfl d3];rfl
 ·refine⟨by simp,by simp,?_⟩;rw[one _ _ _ _ _ (by omega) (by omega) (by omega) rfl d1];rfl
 ·refine⟨by simp,by simp,?_⟩;rw[one _ _ _ _ _ (by omega) (by omega) (by omega) rfl d1];rfl
theorem zpj(rs:List Zj)(hl:0<rs.length)(hl3:rs.length≤60)(hr:∀r∈rs,y2 r=0)(hf:∀r∈rs,rkF r∈feetA)(low high:Int)(h0:0≤low)(h1:low≤high)(h2:high≤127)(i:Nat)(hi:i<10)(x:Pul):uR ⟨some rs,low,high⟩ (ji rs low high i x)=0:=by
 have p1:jV ⟨some rs,low,high⟩=0:=by unfold jV;rw[Yzb (by grind),Yzb (by rw[show Sl.els (Place.mk (some rs) low high).ranks=rs from rfl,zjg rs hr];simp)];simp_all[right,Yzb]
 have hn:x.rank % rs.length<rs.length:=Yz2 _ hl;have hm:(x.rank % rs.length+1) % rs.length<rs.length:=Yz2 _ hl;have b1:=zn6 (fB x.feet) (rkF (zhh rs (x.rank % rs.length))) (zfw _) (hf _ (zbi hn));have b2:=zn6 (fB x.feet) (rkF (zhh rs ((x.rank % rs.length+1) % rs.length))) (zfw _) (hf _ (zbi hm));have hq:0≤(x.at_:Int).tmod (high-low+1)∧(x.at_:Int).tmod (high-low+1)<high-low+1:=⟨Int.tmod_nonneg _ (by omega),Int.tmod_lt_of_pos _ (by omega)⟩;obtain⟨s1,s2,s3⟩:=zt7 ⟨some rs,low,high⟩ h0 h1 ((x.rank % rs.length:Nat):Int) (((x.rank % rs.length+1) % rs.length:Nat):Int) (shf (fB x.feet) (rkF (zhh rs (x.rank % rs.length)))) (shf (fB x.feet) (rkF (zhh rs ((x.rank % rs.length+1) % rs.length)))) (low+((x.at_:Int).tmod (high-low+1)))
  (by omega) (by grind) (by omega) (by grind) b1.1 b1.2 b2.1 b2.2 (by grind) (by grind) (x.kind % 6)
 unfold uR ji;rw[Yzb (by omega),Yzb (by grind[zat]),Yzb (by grind[zx0,zfw]),Yzb (by trivial),Yzb (by grind)];exact s3
theorem zfe(rs:List Zj)(hl:0<rs.length)(hl3:rs.length≤60)(hr:∀r∈rs,y2 r=0)(hf:∀r∈rs,rkF r∈feetA)(low high:Int)(h0:0≤low)(h1:low≤high)(h2:high≤127):
  ∀(l:List Pul) (i:Nat),i+l.length≤3→zaP ⟨some rs,low,high⟩ (wb rs low high i l) ((List.range i).map (pre 83))=0
 | [],_,_=>rfl
 |x::l,i,h=>by
  simp only[Yzp]at h;have e1:=zpj rs hl hl3 hr hf low high h0 h1 h2 i (by omega) x;have e2:((List.range i).map (pre 83)).any (eqB (ji rs low high i x).name)=false:=by
   rw[List.any_eq_false];intro s hs;obtain⟨j,hj,rfl⟩:=List.mem_map.1 hs;have hj:=List.mem_range.1 hj;have:=zgQ (c:=83) (by simp) (show i<3 by omega) (show j<3 by omega) (by omega);show ¬eqB (pre 83 i) (pre 83 j)=true
   grind
  unfold wb zaP;rw[Yzb (by omega),Yzb (by grind)];have:(List.range i).map (pre 83)++[(ji rs low high i x).name]=(List.range (i+1)).map (pre 83):=by rw[List.range_succ,Yyg];rfl
  rw[this];exact zfe rs hl hl3 hr hf low high h0 h1 h2 l (i+1) (by omega)
theorem jX(rs:List Zj)(low high:Int):∀(l:List Pul) (i:Nat),(wb rs low high i l).length=l.length
 | [],_=>rfl
 |_::l,i=>by simp[wb,jX rs low high l]
theorem zol(b:Boa):right (zeI b) (zaV b)=0:=by
 have:=zgp b;have:=zc7 b
 unfold right;omega
theorem zse(rs:List Zj)(hl:0<rs.length)(hl3:rs.length≤60)(hr:∀r∈rs,y2 r=0)(hf:∀r∈rs,rkF r∈feetA)(i:Nat)(b:Boa)(hb:b.stops.els.length≤3):zaL (some rs) (zgn rs i b)=0:=by
 have:=zgp b;have:=zc7 b
 unfold zaL zgn;simp only[yk,jX,zol];rw[Yzb (by simp),Yzb (by omega)]
 grind[zfe]
theorem zhU(rs:List Zj)(hl:0<rs.length)(hl3:rs.length≤60)(hr:∀r∈rs,y2 r=0)(hf:∀r∈rs,rkF r∈feetA):
  ∀(l:List Boa) (i:Nat),i+l.length≤3→(∀b∈l,b.stops.els.length≤3)→zbO (some rs) (vz rs i l) ((List.range i).map (pre 68))=0
 | [],_,_,_=>rfl
 |x::l,i,h,H=>by
  simp only[Yzp]at h;have e1:=zse rs hl hl3 hr hf i x (H x (Yzg ..));have e2:((List.range i).map (pre 68)).any (eqB (zgn rs i x).name)=false:=by
   rw[List.any_eq_false];intro s hs;obtain⟨j,hj,rfl⟩:=List.mem_map.1 hs;have hj:=List.mem_range.1 hj;have:=zgQ (c:=68) (by simp) (show i<3 by omega) (show j<3 by omega) (by omega);show ¬eqB (pre 68 i) (pre 68 j)=true
   grind
  have e3:isName (zgn rs i x).name=true:=zat (c:=68) (by simp) (by omega);unfold vz zbO;rw[Yzb (by grind),Yzb (by grind),Yzb (by omega)];have:(List.range i).map (pre 68)++[(zgn rs i x).name]=(List.range (i+1)).map (pre 68):=by rw[List.range_succ,Yyg];rfl
  rw[this];exact zhU rs hl hl3 hr hf l (i+1) (by omega) fun b hb=>H b (Yzf _ hb)
theorem wK(rs:List Zj):∀(l:List Boa) (i:Nat),(vz rs i l).length=l.length
 | [],_=>rfl
 |_::l,i=>by simp[vz,wK rs l]
theorem zdQ(rs:List Zj):∀(l:List Boa) (i:Nat),((vz rs i l).map keyOf).any (fun k=>right k.1 k.2 != 0)=false
 | [],_=>rfl
 |b::l,i=>by
  simp only[vz,Yzr,List.any_cons,zdQ rs l]
  grind[keyOf,zgn,zol]
theorem zhV(n:Nat)(hn:0<n):∀(l:List Lnk) (i:Nat) (p:List Cpl),i+l.length≤3→(∀c∈l,c.ok)→p.map Cpl.name=(List.range i).map (pre 67)→zj3 n p (qK n i l)=0
 | [],_,_,_,_,_=>rfl
 |x::l,i,p,h,H,hp=>by
  simp only[Yzp]at h;have e2:p.any (fun y=>eqB y.name (zaE n i x).name)=false:=by
   rw[List.any_eq_false];intro y hy;have:y.name∈(List.range i).map (pre 67):=by grind
   obtain⟨j,hj,e⟩:=List.mem_map.1 this;have hj:=List.mem_range.1 hj;have:=zgQ (c:=67) (by simp) (show j<3 by omega) (show i<3 by omega) (by omega);rw[←e];show ¬eqB (pre 67 j) (pre 67 i)=true
   grind
  have e3:isName (zaE n i x).name=true:=zat (c:=67) (by simp) (by omega);have a1:x.src % n<n:=Yz2 _ hn;have a2:x.dst % n<n:=Yz2 _ hn;have hs:-25<x.shift.tmod 25∧x.shift.tmod 25<25:=by grind
  have q:∀a:Bool,True:=fun _=>trivial;have f0:¬(zaE n i x).src<0:=by show ¬((x.src % n:Nat):Int)<0;omega
  have f1:¬(n:Int)≤(zaE n i x).src:=by show ¬(n:Int)≤((x.src % n:Nat):Int);omega
  have f2:¬(zaE n i x).dst<0:=by show ¬((x.dst % n:Nat):Int)<0;omega
  have f3:¬(n:Int)≤(zaE n i x).dst:=by show ¬(n:Int)≤((x.dst % n:Nat):Int);omega
  have f4:-127≤(zaE n i x).shift∧(zaE n i x).shift≤127∧¬((zaE n i x).src=(zaE n i x).dst∧(zaE n i x).shift=0):=by grind[zaE]
  unfold qK zj3;rw[Yzb (by grind),Yzb (by grind),Yzb f0,Yzb f1,Yzb f2,Yzb f3,Yzb (by omega),Yzb (by omega),Yzb f4.2.2];refine zhV n hn l (i+1) _ (by omega) (fun c hc=>H c (Yzf _ hc)) ?_;rw[Yyg,hp,List.range_succ,Yyg];rfl
theorem zap(n:Nat):∀(l:List Lnk) (i:Nat),(qK n i l).length=l.length
 | [],_=>rfl
 |_::l,i=>by simp[qK,zap n l]
theorem zmZ(p:Pln)(hp:p.ok)(hf:zea p=true):x4 (zeE p)=0:=by obtain⟨f1,f2,f3,f4,f5,f6⟩:=qR hf;have hlen:(wJ 0 p.ranks.els).length=p.ranks.els.length:=qI _ _;have hg:grow (wJ 0 p.ranks.els)=some (wJ 0 p.ranks.els):=zpU (by omega);have r1:=zli p.ranks.els 0 (by omega) hp.ranks;have d1:=zhU (wJ 0 p.ranks.els) (by omega) (by omega) (zlh _ _ hp.ranks) (zb6 _ _) p.divs.els 0 (by omega) f6;have c1:=zhV p.divs.els.length (by omega) p.cpls.els 0 [] (by omega) hp.cpls rfl;have k1:=zdQ (wJ 0 p.ranks.els) p.divs.els 0;simp only[List.range_zero,List.map_nil]at r1 d1;unfold x4 zeE;simp only[yk,hg,vN,hlen,wK];rw[Yzb (by trivial),Yzb (by omega),Yzb (by omega),Yzb (by omega),Yzb (by omega),Yzb (by omega)];unfold zlR;rw[Yzb (by grind[wK]),Yzb (by grind[zap]),Yzb (by grind),Yzw,wK];exact c1
theorem zaU(rs:List Zj)(low high:Int):∀(l:List Pul) (i:Nat),∀s∈wb rs low high i l,s.ok
 | [],_,_,h=>by cases h
 |x::l,i,s,h=>by
  rcases Yzu.1 h with rfl|h
  ·have hall:∀n sh m sh2 a kd,(xl low high n sh m sh2 a kd).length≤2∧∀g∈xl low high n sh m sh2 a kd,g.draws.els.length≤2:=by
    intro n sh m sh2 a kd;unfold xl
    grind
   obtain⟨q1,q2⟩:=hall ((x.rank % rs.length:Nat):Int) (shf (fB x.feet) (rkF (zhh rs (x.rank % rs.length)))) (((x.rank % rs.length+1) % rs.length:Nat):Int)
    (shf (fB x.feet) (rkF (zhh rs ((x.rank % rs.length+1) % rs.length)))) (low+((x.at_:Int).tmod (high-low+1))) (x.kind % 6)
   refine⟨?_,fun g hg=>?_⟩
   ·show (xl _ _ _ _ _ _ _ _).length≤_;omega
   ·have:=q2 g hg;show g.draws.els.length≤_;omega
  ·exact zaU rs low high l _ s h
theorem zuO(p:Pln)(hf:zea p=true):(zeE p).ok:=by
 obtain⟨f1,f2,f3,f4,f5,f6⟩:=qR hf;have hd:∀(rs:List Zj) (l:List Boa) (i:Nat),(∀b∈l,b.stops.els.length≤3)→∀d∈vz rs i l,d.ok:=by
  intro rs l
  induction l with
  |nil=>intro i _ d h;cases h
  |cons b l ih=>
   intro i H d h;rcases Yzu.1 h with rfl|h
   ·have:=H b (Yzg ..);refine⟨?_,fun s hs=>?_⟩
    ·show (grow (wb rs (zeI b) (zaV b) 0 b.stops.els)).els.length≤_
     grind[yk,jX]
    ·have hs:s∈(grow (wb rs (zeI b) (zaV b) 0 b.stops.els)).els:=hs
     grind[yk,zaU]
   ·grind
 unfold zeE;refine⟨?_,fun r hr=>?_,?_,fun d h=>?_,?_⟩<;>grind[yk,qI,zcC,wK,zap]
end Go.Proofs.Tryz.Kn
end
section
namespace Go.Proofs.Tryz.Kn
open Go Go.CE Go.PE
def w8(a b:Int):Int:=IntKind.wrap .u64 (BitVec.ofInt IntKind.u64.bits a &&& ~~~(BitVec.ofInt IntKind.u64.bits b)).toNat
def zq8(a b:Int):Int:=IntKind.wrap .u64 (BitVec.ofInt IntKind.u64.bits a &&& BitVec.ofInt IntKind.u64.bits b).toNat
theorem jW(a b:Int):zc .andNot (U64 a) (U64 b)=some (U64 (w8 a b)):=by rfl
theorem zbp(a b:Int):zc .and (U64 a) (U64 b)=some (U64 (zq8 a b)):=by rfl
def zn5(a:Int)(n:Nat):Int:=Int.fdiv a (2^(min n 64))
theorem zus{k:IntKind}(a:Int)(n:Nat):kI false (U64 a) (.int k (n:Int))=some (U64 (zn5 a n)):=by rfl
theorem ur{m:Nat}(h:m≤4611686018427387904):wB .u64 (m:Int)=(m:Int):=by grind[zwu]
theorem uo{k:IntKind}{n:Nat}(h:n≤62):kI true (U64 1) (.int k (n:Int))=some (U64 ((2^n:Nat):Int)):=by
 have h0:ltI (n:Int) 0=false:=by rfl
 show oD (zjR .u64 1 (n:Int))=_;unfold zjR;rw[h0,Yzc];have hm:min (n:Int).toNat IntKind.u64.bits=n:=by rw[Yye];show min n 64=n;omega
 rw[hm];have hp:(2^n:Nat)≤2^62:=Nat.pow_le_pow_right (by decide) h;have e:Int.mul 1 (2^n)=((2^n:Nat):Int):=by simp
 rw[e,ur (Yzq hp (by decide))];rfl
theorem jq{n:Nat}(h:n≤62):zc .sub (U64 ((2^n:Nat):Int)) (U64 1)=some (U64 ((2^n-1:Nat):Int)):=by
 have hp:(2^n:Nat)≤2^62:=Nat.pow_le_pow_right (by decide) h
 grind[zk1,ur]
theorem zkE(n:Nat):zn5 0 n=0:=by rfl
theorem zzd(a b:Int):zc .neq (U64 a) (U64 b)=some (Bo (!(a==b))):=zM _ _ _
abbrev enU(n:Int):List DV:=[U64 n]
structure Reg where
 stops:Sl Int
 cpls:Int
 off:Int
def zW(r:Reg):List DV:=[enL 1 enU r.stops,U64 r.cpls,U64 r.off]
def zaB(r:Reg):Prop:=r.stops.els.length≤9223372036854775807
def zcA:List Zn→List Int→Bool
 |d::ds,s::ss=>!(zn5 s d.stops.els.length==0)||zcA ds ss
 |_,_=>false
def xj(o:Org)(r:Reg):Int:=
 if x4 o≠0 then x4 o else if r.stops.els.length≠o.divs.els.length then 5 else if zcA o.divs.els r.stops.els=true then 3
 else if zn5 r.cpls o.cpls.els.length≠0 then 3 else if zn5 r.off o.divs.els.length≠0 then 3 else 0
theorem l32(dv:Sl Zn)(hd:dv.els.length≤9223372036854775807)(st:Sl Int)(hl:st.els.length=dv.els.length):∀(ds:List Zn) (ss:List Int) (i:Nat),dv.els.drop i=ds→st.els.drop i=ss→
  zJ (zqW (I6 (dv.els.length:Int)) (enL 5 enV dv) (enL 1 enU st)) [I6 (i:Int)] []=some (if zcA ds ss=true then(.ret,[I6 3],[]) else(.exit 0,[],[])):=by
 intro ds
 induction ds with
 |nil=>
  intro ss i h _;refine zr ?_
  grind[zqW,zA,zg,zb,xG,zY,zh]
 |cons d ds ih=>
  intro ss i h h';have h1:=yw h;cases ss with
  |nil=>have:=zY h';omega
  |cons s ss=>
   have ea:zc .add (I6 (i:Int)) (I6 1)=some (I6 ((i+1:Nat):Int)):=yN;have body:zqW (I6 (dv.els.length:Int)) (enL 5 enV dv) (enL 1 enU st) [I6 (i:Int)] []=some (if zn5 s d.stops.els.length=0 then(.normal,[I6 ((i+1:Nat):Int)],[]) else(.ret,[I6 3],[])):=by
    simp only[zqW,zA,zg,zb,uV h1,zh,if_true,zR h,zR h',enV,yM,y5,zy,zus,zzd,ea]
    grind
   by_cases hc:zn5 s d.stops.els.length=0
   ·rw[Yzd hc]at body;rw[zF body,ih ss (i+1) (zL h) (zL h')];grind[zcA]
   ·rw[Yzb hc]at body;grind[zx,zcA]
theorem t32(k:Nat)(o:Org)(ho:o.ok)(r:Reg):D (k+10) 32 [SA (enO o),SA (zW r)]=some (S1 (I6 (xj o r))):=by
 have c:=t35 k o ho;unfold enO at c ⊢;unfold zW;rw[D32];unfold P32 xj;simp only[c,zG,zM,zb,zh,zy];by_cases h1:x4 o=0
 ·by_cases h2:r.stops.els.length=o.divs.els.length
  ·have e:(!((r.stops.els.length:Int)==(o.divs.els.length:Int)))=false:=by simp[h2]
   have l:=l32 o.divs ho.dl r.stops h2 o.divs.els r.stops.els 0 rfl rfl;simp only[h1,h2,Yzx,Yzn,Yze,if_false,ne_eq,not_true_eq_false];rw[show (I6 0:DV)=I6 ((0:Nat):Int) from rfl,l];cases zcA o.divs.els r.stops.els with
   |true=>rfl
   |false=>
    simp only[Yze,if_false,z6,Yzl,Yza,zus,zb,zzd,zh]
    grind
  ·grind
 grind
theorem zjn{o:Org}(h:x4 o=0):o.divs.els.length≤8∧0<o.divs.els.length:=by grind[x4]
theorem zv0{β:Type}(o:Org)(K:List DV→Option β):bA 4 (some (SA (enO o))) K=K (enO o):=rfl
theorem ky(o:Org):[atD (enO o) 0,atD (enO o) 1,atD (enO o) 2,atD (enO o) 3]=enO o:=rfl
theorem kq(r:Reg):[atD (zW r) 0,atD (zW r) 1,atD (zW r) 2]=zW r:=rfl
def zuR(n:Nat):Int:=((2^n-1:Nat):Int)
def zz3(d:Zn):Int:=zuR d.stops.els.length
def enB(b:Nat→Nat):List DV:=[U8 (b 0:Int),U8 (b 1:Int),U8 (b 2:Int),U8 (b 3:Int),U8 (b 4:Int)]
def zgV(b:Nat→Nat):Nat→List Zn→List Int
 |_,[]=>[]
 |i,d::r=>zq8 (b (i % 3):Int) (zz3 d)::zgV b (i+1) r
def zlM(o:Org)(b:Nat→Nat):Reg:=⟨grow (zgV b 0 o.divs.els),zq8 (b 3:Int) (zuR o.cpls.els.length),zq8 (b 4:Int) (zuR o.divs.els.length)⟩
theorem l11(b:Nat→Nat)(hb:∀i,b i<256)(dv:Sl Zn)(hl:dv.els.length≤1000)(hs:∀d∈dv.els,d.stops.els.length≤60)(c0 c1:DV):∀(r:List Zn) (i:Nat) (acc:List Int),dv.els.drop i=r→acc.length=i→
  zJ (ug (enL 5 enV dv) (U8 (b 0:Int)) (U8 (b 1:Int)) (U8 (b 2:Int)) (U8 (b 3:Int)) (U8 (b 4:Int))) [I6 (i:Int),c0,c1] [ocL enU (grow acc)]=some (.exit 0,[c0,c1],[ocL enU (grow (acc++zgV b i r))]):=by
 intro r
 induction r with
 |nil=>grind[zr,ug,zA,xq,yA,zy,zg,zb,xG,zY,zh,zgV]
 |cons d r ih=>
  intro i acc h ha;have h1:=yw h;have hd:=hs d (Lz3 (yI h));have ea:zc .add (I6 (i:Int)) (I6 1)=some (I6 ((i+1:Nat):Int)):=yN;have e1:zc .rem (I6 (i:Int)) (I6 3)=some (I6 ((i % 3:Nat):Int)):=zmC (b:=3) (by decide);have h3:i % 3<3:=Yz2 _ (by decide);have e2:uG 5 (I6 ((i % 3:Nat):Int))=some (i % 3):=zgf (by omega);have e3:atD [U8 (b 0:Int),U8 (b 1:Int),U8 (b 2:Int),U8 (b 3:Int),U8 (b 4:Int)] (i % 3)=U8 (b (i % 3):Int):=by
   have:i % 3=0∨i % 3=1∨i % 3=2:=by omega
   rcases this with h|h|h<;>rw[h]<;>rfl
  have hbb:=hb (i % 3);have e4:xn .u64 (U8 (b (i % 3):Int))=some (U64 (b (i % 3):Int)):=zye (by omega);have e5:xn .u64 (I6 (d.stops.els.length:Int))=some (U64 (d.stops.els.length:Int)):=zye (by omega);have sh:kI true (U64 1) (U64 (d.stops.els.length:Int))=some (U64 ((2^d.stops.els.length:Nat):Int)):=uo (by omega);have sb:zc .sub (U64 ((2^d.stops.els.length:Nat):Int)) (U64 1)=some (U64 (zz3 d)):=jq (by omega);have ef:fits 8 ((grow acc).els.length+1)=true:=wx (by decide) (by grind[yk]);have body:ug (enL 5 enV dv) (U8 (b 0:Int)) (U8 (b 1:Int)) (U8 (b 2:Int)) (U8 (b 3:Int)) (U8 (b 4:Int)) [I6 (i:Int),c0,c1] [ocL enU (grow acc)]=some (.normal,[I6 ((i+1:Nat):Int),c0,c1],[ocL enU (grow (acc++[zq8 (b (i % 3):Int) (zz3 d)]))]):=by rw[wv,←vI (f:=enU)];simp only[ug,zA,xq,yA,zy,zg,zb,uV h1,zh,if_true,e1,e2,e3,e4,zR h,enV,yM,y5,e5,sh,sb,zbp,xU,Yzp,Yyc,ef,wY,ea,xg]
  rw[zF body,ih (i+1) _ (zL h) (by simp[ha])];simp[zgV]
theorem zcD(rs:List Zj):∀(l:List Boa) (i:Nat),(∀b∈l,b.stops.els.length≤3)→∀d∈vz rs i l,d.stops.els.length≤3
 | [],_,_,_,h=>by cases h
 |b::l,i,H,d,h=>by
  rcases Yzu.1 h with rfl|h
  ·have:=H b (Yzg ..);show (grow (wb rs (zeI b) (zaV b) 0 b.stops.els)).els.length≤3
   grind[yk,jX]
  ·exact zcD rs l (i+1) (fun x hx=>H x (Yzf _ hx)) d h
theorem zfg(p:Pln)(hf:zea p=true):(zeE p).divs.els.length≤3∧(∀d∈(zeE p).divs.els,d.stops.els.length≤3)∧(zeE p).cpls.els.length≤3:=by grind[qR,zeE,yk,wK,zcD,zap]
theorem qv{α:Type}{f:α→List DV}{st off:Nat}{l:List α}{i:Nat}{x x':α}{ds:List DV}(hx:l[i]? = some x)(hle:off+ds.length≤st)(h:(f x).take off++ds++(f x).drop (off+ds.length)=f x'):
  zwe st (some (l.map f)) i off ds=some (some ((l.set i x').map f)):=by
 simp_all[zwe,Yzh]
end Go.Proofs.Tryz.Kn
end
section
namespace Go.Proofs.Tryz.Kn
open Go Go.CE Go.PE
def bit(a:Int)(i:Nat):Bool:=zq8 (zn5 a i) 1==1
theorem zx6(a b:Int):zc .eql (U64 a) (U64 b)=some (Bo (a==b)):=xa _ _ _
theorem jr:((List.range 256).all fun x=>[0,1,2,3].all fun n=>zn5 (zq8 (x:Int) (zuR n)) n==0)=true:=by kernel_rfl
theorem ul{x n:Nat}(hx:x<256)(hn:n≤3):zn5 (zq8 (x:Int) (zuR n)) n=0:=by
 have h:=YzM.1 (YzM.1 jr x (List.mem_range.2 hx)) n (by grind)
 grind
theorem zeg(b:Nat→Nat):∀(l:List Zn) (i:Nat),(zgV b i l).length=l.length
 | [],_=>rfl
 |d::l,i=>by simp[zgV,zeg b l (i+1)]
theorem uh(b:Nat→Nat)(hb:∀i,b i<256):∀(l:List Zn) (i:Nat),(∀d∈l,d.stops.els.length≤3)→zcA l (zgV b i l)=false
 | [],_,_=>rfl
 |d::l,i,h=>by rw[zgV,zcA,show zz3 d=zuR d.stops.els.length from rfl,ul (hb _) (h d (Yzg ..)),uh b hb l (i+1) fun x hx=>h x (Yzf _ hx)];rfl
theorem um{o:Org}(h:x4 o=0)(b:Nat→Nat)(hb:∀i,b i<256)(hd:o.divs.els.length≤3)(hs:∀d∈o.divs.els,d.stops.els.length≤3)(hc:o.cpls.els.length≤3):xj o (zlM o b)=0:=by simp_all[xj,zlM,yk,zeg,uh,ul]
end Go.Proofs.Tryz.Kn
end
section
namespace Go.Proofs.Tryz.Kn
open Go Go.CE Go.PE
structure Zh where
 rank:Int
 num:Int
deriving DecidableEq
def ltP(a b:Zh):Prop:=a.rank<b.rank∨(a.rank=b.rank∧a.num<b.num)
def leP(a b:Zh):Prop:=a.rank<b.rank∨(a.rank=b.rank∧a.num≤b.num)
instance (a b:Zh):Decidable (ltP a b):=by unfold ltP;infer_instance
theorem Zh.eq{a b:Zh}(h1:a.rank=b.rank)(h2:a.num=b.num):a=b:=by cases a<;>simp_all
theorem zpx{a b c:Zh}(h:leP a b)(g:leP b c):leP a c:=by grind[leP]
theorem zps{a b c:Zh}(h:ltP a b)(g:ltP b c):ltP a c:=by grind[ltP]
theorem lt_irrefl{a:Zh}:¬ltP a a:=by grind[ltP]
theorem zz6{a b:Zh}(h:leP a b)(g:a≠b):ltP a b:=by grind[leP,ltP,Zh.eq]
theorem zz7{a b c:Zh}(h:leP a b)(g:ltP b c):ltP a c:=by grind[leP,ltP]
theorem zhk:∀(l m:List Zh),l.Pairwise ltP→m.Pairwise ltP→(∀y,y∈l↔y∈m)→l=m
 | [],[],_,_,_=>rfl
 | [],y::m,_,_,h=>by grind[Yzg]
 |x::l,[],_,_,h=>by grind[Yzg]
 |x::l,y::m,h1,h2,h=>by
  have a1:=List.pairwise_cons.1 h1;have a2:=List.pairwise_cons.1 h2;have hxy:x=y:=by
   rcases Yzu.1 ((h x).1 (Yzg ..)) with e|hx
   ·exact e
   ·grind[Yzg,zps,lt_irrefl]
  subst hxy;rw[zhk l m a1.2 a2.2 fun z=>?_]
  grind[lt_irrefl]
def Kept(l acc:List Zh)(m:Nat):Prop:=acc.Pairwise ltP∧∀y,y∈acc↔y∈l.take m
theorem Kept.same{l acc:List Zh}{m:Nat}(H:Kept l acc (m+1)){x:Zh}(h0:l[m]? = some x)(h1:l[m+1]? = some x):Kept l acc (m+2):=by
 refine⟨H.1,fun y=>(H.2 y).trans ?_⟩;rw[show l.take (m+2)=l.take (m+1)++[x] by grind[List.take_add_one],Yym,Yz0]
 constructor
 ·exact .inl
 ·rintro (h|rfl)
  ·exact h
  ·exact Lz3 (i:=m) (by grind)
theorem Kept.next{l acc:List Zh}{m:Nat}(hs:l.Pairwise leP)(H:Kept l acc (m+1)){x z:Zh}(h0:l[m]? = some z)(h1:l[m+1]? = some x)(hne:x≠z):Kept l (acc++[x]) (m+2):=by
 have hzx:ltP z x:=by grind[zz6,List.pairwise_iff_getElem]
 refine⟨List.pairwise_append.2 ⟨H.1,List.pairwise_singleton ..,fun a ha b hb=>?_⟩,fun y=>?_⟩
 ·obtain rfl:=Yz0.1 hb;have ha':=(H.2 a).1 ha
  grind[List.mem_iff_getElem?,List.pairwise_iff_getElem,zz7]
 ·rw[show l.take (m+2)=l.take (m+1)++[x] by grind[List.take_add_one],Yym,Yym,H.2]
def y3(p:Zh):List DV:=[I6 p.rank,I6 p.num]
abbrev ocP(l:List Zh):OC:=ocL y3 (some l)
theorem zlo(l:List Zh):wD (ocP l)=l.length:=by simp
theorem zjk{l:List Zh}{i:Nat}(h:i<l.length):wC (ocP l) (I6 (i:Int))=some i:=zc1 (by grind)
theorem zfa{l:List Zh}{i:Nat}{x:Zh}(h:l[i]? = some x):zbW (ocP l) i=some (y3 x):=by
 show (l.map y3)[i]? = _
 grind
theorem zwO{l:List Zh}{i:Nat}(h:i<l.length)(x:Zh):zwe 2 (ocP l) i 0 [I6 x.rank,I6 x.num]=some (ocP (l.set i x)):=by
 have:(l.map y3)[i]? = some (y3 l[i]):=by grind
 show (match (l.map y3)[i]? with
  |some y=>bif Nat.ble (0 + [I6 x.rank,I6 x.num].length) 2 then some (some ((l.map y3).set i (y.take 0++[I6 x.rank,I6 x.num]++y.drop (0 + [I6 x.rank,I6 x.num].length)))) else none
  |none=>none)=_
 rw[this];show some (some ((l.map y3).set i (y3 x)))=some (some ((l.set i x).map y3));rw[List.map_set]
theorem zbL(a b:Zh):zhi [1,1] [I6 a.rank,I6 a.num] [I6 b.rank,I6 b.num]=some (decide (a=b)):=by
 cases a with|mk r s=>
 cases b with|mk r' s'=>
 simp only[zhi,eqD,xm,Yza,kK];by_cases h1:r=r'
 ·by_cases h2:s=s'
  ·grind
  ·have e2:(s==s')=false:=by grind
   simp[h1,h2,e2]
 ·have e1:(r==r')=false:=by grind
  simp[h1,e1]
theorem take_set{l:List Zh}{i:Nat}{x:Zh}(h:i<l.length):(l.set i x).take (i+1)=l.take i++[x]:=by grind[List.take_add_one,List.take_set,List.set_eq_of_length_le]
theorem zz8(l:List Zh)(n k:Nat)(hn:l.length=n)(hs:l.Pairwise leP)(hn2:n≤1000)(hk:1≤k)(hkn:k<n):∀(m k2:Nat) (w acc:List Zh),k2+m=n-k→1≤k2→acc.length≤k+k2-1→w.length=n→w.take acc.length=acc→
  (∀i,k+k2-1≤i→w[i]? = l[i]?)→Kept l acc (k+k2)→∃w' acc',zJ (ziB (k,n-k)) [I6 (k2:Int),I6 (acc.length:Int)] [ocP w]=some (.exit 2,[I6 (acc'.length:Int)],[ocP w'])∧w'.length=n∧w'.take acc'.length=acc'∧acc'.length<n∧Kept l acc' n
 |0,k2,w,acc,h1,h2,h3,h4,h5,_,h7=>by grind[zr,ziB,zA,xq,yA,zg,zb,zh]
 |m+1,k2,w,acc,h1,h2,h3,h4,h5,h6,h7=>by
  obtain⟨x,hx⟩:∃x,l[k+k2]? = some x:=⟨_,Lz5 (by omega)⟩;obtain⟨z,hz⟩:∃z,l[k+k2-1]? = some z:=⟨_,Lz5 (by omega)⟩;have e1:k+(k2-1)=k+k2-1:=by omega
  have hwx:w[k+k2]? = some x:=by grind
  have hwz:w[k+(k2-1)]? = some z:=by grind
  have i1:uG (n-k) (I6 (k2:Int))=some k2:=zgf (by omega);have es:zc .sub (I6 (k2:Int)) (I6 1)=some (I6 ((k2-1:Nat):Int)):=by grind[zfO]
  have i2:uG (n-k) (I6 ((k2-1:Nat):Int))=some (k2-1):=zgf (by omega);have ea:zc .add (I6 (k2:Int)) (I6 1)=some (I6 ((k2+1:Nat):Int)):=yN;have eb:zc .add (I6 (acc.length:Int)) (I6 1)=some (I6 ((acc.length+1:Nat):Int)):=yN;have i3:wC (ocP w) (I6 (acc.length:Int))=some acc.length:=zjk (by omega);have st:=zwO (l:=w) (i:=acc.length) (by omega) x;have eq:=zbL x z;have body:ziB (k,n-k) [I6 (k2:Int),I6 (acc.length:Int)] [ocP w]=some (if x=z then(.normal,[I6 ((k2+1:Nat):Int),I6 (acc.length:Int)],[ocP w]) else(.normal,[I6 ((k2+1:Nat):Int),I6 ((acc.length+1:Nat):Int)],[ocP (w.set acc.length x)])):=by
   simp only[ziB,zA,xq,yA,wV,zg,zb,uV (show k2<n-k by omega),zh,if_true,i1,zfa hwx,es,i2,zfa hwz,y3,yM,y5,eq,i3,st,ea,eb]
   grind
  have hm:l[k+k2-1+1]? = some x:=by grind
  rw[show k+k2=(k+k2-1)+1 by omega]at h7;by_cases hc:x=z
  ·rw[Yzd hc]at body;subst hc;have:=h7.same hz hm;rw[zF body];exact zz8 l n k hn hs hn2 hk hkn m (k2+1) w acc (by omega) (by omega) (by omega) h4 h5 (fun i hi=>h6 i (by omega)) (by grind)
  ·rw[Yzb hc]at body;have:=h7.next hs hz hm hc
   have hl:(acc++[x]).length=acc.length+1:=by simp
   rw[zF body,←hl];refine zz8 l n k hn hs hn2 hk hkn m (k2+1) (w.set acc.length x) (acc++[x]) (by omega) (by omega) (by omega) (by grind) ?_ (fun i hi=>?_) (by grind)
   ·grind[take_set]
   ·grind
theorem zsR(y d:Nat):zcQ none d y=some d:=rfl
theorem zBt(l:List Zh)(n:Nat)(hn:l.length=n)(hs:l.Pairwise leP)(hn2:n≤1000):∀(m k:Nat),k+m=n→1≤k→Kept l (l.take k) k→
  ∃acc,(zJ zal [I6 (k:Int)] [ocP l]=some (.exit 0,[],[ocP acc])∨zJ zal [I6 (k:Int)] [ocP l]=some (.ret,[.lst 2 (acc.map y3)],[]))∧Kept l acc n
 |0,k,h1,h2,h3=>by refine⟨l,.inl (zr ?_),?_⟩<;>grind[zal,zA,yA,zlo,zg,zb,zh]
 |m+1,k,h1,h2,h3=>by
  obtain⟨x,hx⟩:∃x,l[k]? = some x:=⟨_,Lz5 (by omega)⟩;obtain⟨z,hz⟩:∃z,l[k-1]? = some z:=⟨_,Lz5 (by omega)⟩;have i1:wC (ocP l) (I6 (k:Int))=some k:=zjk (by omega);have es:zc .sub (I6 (k:Int)) (I6 1)=some (I6 ((k-1:Nat):Int)):=by grind[zfO]
  have i2:wC (ocP l) (I6 ((k-1:Nat):Int))=some (k-1):=zjk (by omega);have ea:zc .add (I6 (k:Int)) (I6 1)=some (I6 ((k+1:Nat):Int)):=yN;have eq:=zbL x z;have hb:∀i y:Nat,i≤y→zcQ (some (I6 (i:Int))) 0 y=some i:=fun i y h=>by
   show (bif Nat.ble i y then some i else none)=_
   grind[Yzh]
  have hb2:∀i y:Nat,i≤y→zcQ (some (I6 (i:Int))) y y=some i:=fun i y h=>by
   show (bif Nat.ble i y then some i else none)=_
   grind[Yzh]
  have vw:∀i:Nat,i<n→vwB (some (I6 (i:Int))) none n=some (i,n-i):=fun i h=>by grind[vwB,zsR,Lz1]
  have vt:∀i:Nat,i≤n→vwB none (some (I6 (i:Int))) n=some (0,i-0):=fun i h=>by unfold vwB;rw[hb2 i n h];rfl
  by_cases hc:x=z
  ·subst hc;have h7:Kept l (l.take k) (k+1):=by
    have h3':=h3;rw[show k=(k-1)+1 by omega]at h3';have:=h3'.same hz (by grind)
    grind
   have hlen:(l.take k).length=k:=by simp;omega
   obtain⟨w',acc',c1,c2,c3,c4,c5⟩:=zz8 l n k hn hs hn2 h2 (by omega) (n-k-1) 1 l (l.take k) (by omega) (by omega) (by omega) hn (by rw[hlen]) (fun _ _=>rfl) h7;rw[hlen]at c1;refine⟨acc',.inr (zx ?_),c5⟩;have hcl:zqm (ocP w') acc'.length (n-acc'.length) [I6 0,I6 0]=some ((w'.map y3).take acc'.length++List.replicate (n-acc'.length) [I6 0,I6 0]++(w'.map y3).drop (acc'.length+(n-acc'.length))):=rfl;have hcn:((w'.map y3).take acc'.length++List.replicate (n-acc'.length) [I6 0,I6 0]++(w'.map y3).drop (acc'.length+(n-acc'.length))).length=n:=by simp;omega
   simp only[zal,zA,yA,zlo,wV,zg,zb,zh,if_true,i1,zfa hx,es,i2,zfa hz,y3,yM,y5,eq,decide_true,hn,vw k (by omega)];rw[show (I6 1:DV)=I6 ((1:Nat):Int) from rfl,c1];simp only[z6,zA,yA,zlo,c2,vw acc'.length c4,zb,hcl,zpu,hcn,vt acc'.length (by omega)];rw[uV (show k<n by omega),Yzd rfl];show some ((Zg.ret,[zhG 2 0 (acc'.length-0) (.lst 2 _)],[]):PX)=_;rw[Nat.sub_zero];show some ((Zg.ret,[DV.lst 2 ((List.drop 0 _).take acc'.length)],[]):PX)=_
   grind[List.map_take]
  ·have hne:decide (x=z)=false:=decide_eq_false hc;have body:zal [I6 (k:Int)] [ocP l]=some (.normal,[I6 ((k+1:Nat):Int)],[ocP l]):=by
    simp only[zal,zA,yA,zlo,wV,zg,zb,uV (show k<l.length by omega),zh,if_true,i1,zfa hx,es,i2,zfa hz,y3,yM,y5,eq,hne,Yze,if_false,ea]
   rw[zF body];refine zBt l n hn hs hn2 m (k+1) (by omega) (by omega) ?_;have h3':=h3;rw[show k=(k-1)+1 by omega]at h3';have:=h3'.next hs hz (by grind) hc
   grind[List.take_add_one]
def znD:Seg:=⟨0,0,none⟩
def q9(key:Int)(g:Seg):Bool:=decide (g.lo≤key)&&decide (key≤g.hi)
def zbf(s:Zq)(key:Int):Seg:=(s.segs.els.find? (q9 key)).getD znD
theorem zfu{α:Type}(p:α→Bool):∀(l:List α) (i:Nat),(xy p l i=none∧l.find? p=none)∨∃j g,xy p l i=some (i+j)∧l[j]? = some g∧l.find? p=some g
 | [],_=>.inl ⟨rfl,rfl⟩
 |x::l,i=>by
  unfold xy;cases h:p x with
  |true=>simp_all
  |false=>
   rcases zfu p l (i+1) with⟨a,b⟩|⟨j,g,a,b,c⟩
   ·grind
   ·exact .inr ⟨j+1,g,by grind,by trivial,by simp[h,c]⟩
theorem zB2(k:Nat)(g:Seg)(key:Int):D (k+1) 136 [SA (enS g),S1 (.fp [I6 key] 0)]=some (S1 (Bo (q9 key g))):=by unfold enS;rw[zDo];unfold zAU q9;by_cases h1:g.lo≤key<;>by_cases h2:key≤g.hi<;>simp[h1,h2]
theorem zCE(k:Nat)(l:Sl Seg)(key:Int)(hl:l.els.length≤9223372036854775807):∀(r:List Seg) (i:Nat),l.els.drop i=r→
  zJ (ziL (D (k+1)) (I6 (l.els.length:Int)) (enL 3 enS l) (.fn 136 [[I6 key]])) [I6 (i:Int)] []=some (found (xy (q9 key) r i)):=by
 intro r
 induction r with
 |nil=>
  intro i h;refine zr ?_
  grind[ziL,zA,zg,zb,xG,zY,zh]
 |cons g r ih=>
  intro i h;have h1:=yw h;have ea:zc .add (I6 (i:Int)) (I6 1)=some (I6 ((i+1:Nat):Int)):=yN;have c:zhj (D (k+1)) (.fn 136 [[I6 key]]) [SA [atD (enS g) 0,atD (enS g) 1,atD (enS g) 2]]=some (S1 (Bo (q9 key g))):=zB2 k g key;have body:ziL (D (k+1)) (I6 (l.els.length:Int)) (enL 3 enS l) (.fn 136 [[I6 key]]) [I6 (i:Int)] []=some (if q9 key g then(.ret,[I6 (i:Int)],[]) else(.normal,[I6 ((i+1:Nat):Int)],[])):=by
   simp only[ziL,zA,zg,zb,uV h1,zh,if_true,zR h,c,zG,ea]
   grind
  cases hc:q9 key g<;>grind[zx,xy,found,zF,zL]
theorem zB3(k:Nat)(l:Sl Seg)(key:Int)(hl:l.els.length≤9223372036854775807):D (k+2) 135 [S1 (enL 3 enS l),S1 (.fn 136 [[I6 key]])]=some (S1 (I6 (match xy (q9 key) l.els 0 with|some i=>(i:Int)|none=>-1))):=by rw[zDp];unfold zAV;have:=zCE k l key hl l.els 0 rfl;simp only[zy,zb];rw[show (I6 0:DV)=I6 ((0:Nat):Int) from rfl,this];cases xy (q9 key) l.els 0<;>rfl
theorem zB9(k:Nat)(s:Zq)(hs:s.ok)(key:Int):D (k+3) 112 [SA (xE s),S1 (I6 key)]=some (SA (enS (zbf s key))):=by
 have c:=zB3 k s.segs key hs.len;unfold xE;rw[zDw];unfold zA3 zbf;rw[c];rcases zfu (q9 key) s.segs.els 0 with⟨a,b⟩|⟨j,g,a,b,d⟩
 ·rw[a,b];rfl
 ·rw[a,d];have h0:¬(((0+j:Nat):Int)<0):=by omega
  have ix:yT 3 (enL 3 enS s.segs) (I6 ((0+j:Nat):Int))=some (enS g):=by simp_all[y9]
  simp only[znw,zg,h0,decide_false,zb,zh,Yze,if_false,ix];rfl
def numOf(r:Zj)(d:Zo)(key:Int):Int:=wB .i64 (wB .i64 (key+d.shift)-r.first)
def zhF(rs:List Zj)(key:Int)(d:Zo):Option Zh:=
 if d.rank<0 then none else
 match rs[d.rank.toNat]? with
 |none=>none
 |some r=>if 0≤numOf r d key∧numOf r d key<(r.wind.els.length:Int) then some ⟨d.rank,numOf r d key⟩ else none
theorem zB8(k:Nat)(rs:Sl Zj)(key:Int)(d:Zo):∃q b,D (k+1) 113 [S1 (enL 6 enR rs),SA [I6 d.rank,I6 d.shift],S1 (I6 key)]=some (.tup [.agg (y3 q),.one (Bo b)])∧zhF rs.els key d=if b then some q else none:=by
 rw[zDv];unfold zA2 zhF;simp only[zg,zb,zh,zy,x7,Yzs];by_cases h1:d.rank<0
 ·rw[Yzd h1,Yzd h1];exact⟨⟨0,0⟩,false,rfl,rfl⟩
 rw[Yzb h1,Yzb h1];obtain⟨m,hm⟩:∃m:Nat,d.rank=(m:Int):=⟨d.rank.toNat,by omega⟩;rw[hm];by_cases h2:(rs.els.length:Int)≤(m:Int)
 ·rw[Yzd h2,Yye,List.getElem?_eq_none (by omega)];exact⟨⟨0,0⟩,false,rfl,rfl⟩
 rw[Yzb h2,Yye];obtain⟨r,hr⟩:∃r,rs.els[m]? = some r:=⟨_,Lz5 (by omega)⟩;have ix:yT 6 (enL 6 enR rs) (I6 (m:Int))=some (enR r):=by grind[y9]
 rw[hr];simp only[zk2,ix,zb,enR,y5,yM,zk1,x7,zh,zy,zg];show ∃q b,(if decide (0≤numOf r d key)=true then some (DA.tup [.agg [I6 (m:Int),I6 (numOf r d key)],.one (Bo (decide (numOf r d key<(r.wind.els.length:Int))))]) else some (DA.tup [.agg [I6 (m:Int),I6 (numOf r d key)],.one (Bo false)]))=_∧_;by_cases h3:0≤numOf r d key
 ·by_cases h4:numOf r d key<(r.wind.els.length:Int)
  ·simp_all[y3]
  ·exact⟨⟨m,numOf r d key⟩,false,by grind[y3],by simp[h4]⟩
 ·exact⟨⟨m,numOf r d key⟩,false,by grind[y3],by simp[h3]⟩
theorem zCy(k:Nat)(rs:Sl Zj)(key:Int)(ds:Sl Zo)(g0:List DV)(hg:atD g0 2=enL 2 enD ds):∀(r:List Zo) (i:Nat) (v:Sl Zh),ds.els.drop i=r→v.els.length+r.length≤1000→i+r.length≤1000→
  ∃v':Sl Zh,zJ (zqH (D (k+1)) (I6 (ds.els.length:Int)) g0 (enL 6 enR rs) (I6 key)) [I6 (i:Int)] [ocL y3 v]=some (.exit 0,[],[ocL y3 v'])∧v'.els=v.els++r.filterMap (zhF rs.els key):=by
 intro r
 induction r with
 |nil=>grind[zr,zqH,zA,yA,zg,zb,zh]
 |cons d r ih=>
  intro i v h hv hi;have h1:=yw h;simp only[Yzp]at hv hi;have ea:zc .add (I6 (i:Int)) (I6 1)=some (I6 ((i+1:Nat):Int)):=yN;obtain⟨q,b,c,hp⟩:=zB8 k rs key d;have ix:yT 2 (enL 2 enD ds) (I6 (i:Int))=some (enD d):=zR h _;have ef:fits 16 (v.els.length+1)=true:=wx (by decide) (by omega);have body:zqH (D (k+1)) (I6 (ds.els.length:Int)) g0 (enL 6 enR rs) (I6 key) [I6 (i:Int)] [ocL y3 v]=some (.normal,[I6 ((i+1:Nat):Int)],[ocL y3 (if b then some (v.els++[q]) else v)]):=by
   simp only[zqH,zA,yA,zg,zb,uV h1,zh,if_true,hg,ix,enD,yM,y5,c];rw[zAM (by rfl)];simp only[qZ,zef,uB,za2,y3,yM,y5,xU,ef,wY,ea,zb,xg,zh];cases b with
   |true=>simp only[if_true];rw[←vI];rfl
   |false=>rfl
  rw[zF body];cases b with
  |true=>
   obtain⟨v',e1,e2⟩:=ih (i+1) (some (v.els++[q])) (zL h) (by simp;omega) (by omega)
   grind
  |false=>
   obtain⟨v',e1,e2⟩:=ih (i+1) v (zL h) (by omega) (by omega)
   grind
def vT(rs:List Zj)(key:Int)(ds:List Zo):List Zh:=ds.filterMap (zhF rs key)
theorem zsn{l acc:List Zh}{n:Nat}(hn:l.length=n)(H:Kept l acc n):acc.Pairwise ltP∧∀y,y∈acc↔y∈l:=⟨H.1,fun y=>by rw[H.2,List.take_of_length_le (by omega)]⟩
theorem zdM:∀{l m:List Zh},l.Pairwise ltP→(∀z∈l,z∈m)→l.length≤m.length
 | [],m,_,_=>Yzm _
 |x::l,m,h,H=>by
  have h':=List.pairwise_cons.1 h;obtain⟨a,b,rfl⟩:=List.append_of_mem (H x (Yzg ..));have:=zdM (l:=l) (m:=a++b) h'.2 fun z hz=>by
   have hm:=H z (Yzf _ hz);rcases Yym.1 hm with hm|hm
   ·grind
   ·rcases Yzu.1 hm with rfl|hm
    ·grind[lt_irrefl]
    ·grind
  grind
def zq3(p:Zh):List Int:=[p.rank,p.num]
def leB(a b:Zh):Bool:=leZ (zq3 a) (zq3 b)
theorem zdW{a b:Zh}:leB a b=true↔leP a b:=by grind[leB,leZ,zq3,leP,ltZ]
def zdl(p:Zh):Prop:=-2305843009213693952≤p.rank∧p.rank≤2305843009213693952∧-2305843009213693952≤p.num∧p.num≤2305843009213693952
theorem zok:∀l:List Zh,(∀p∈l,zdl p)→zjd 2 (l.map y3)=some (l.map zq3)
 | [],_=>rfl
 |p::l,h=>by
  have e:zsD (y3 p)=some (zq3 p):=rfl;have z:inZ (zq3 p)=true:=by
   obtain⟨h1,h2,h3,h4⟩:=h p (Yzg ..)
   grind[inZ,zq3]
  simp only[Yzr,zjd,e,zok l fun q hq=>h q (Yzf _ hq),z];rfl
def kP(l:List Zh):List Zh:=l.mergeSort leB
theorem zmq(l:List Zh):(kP l).Perm l:=List.mergeSort_perm l leB
theorem zhr(l:List Zh):(kP l).Pairwise leP:=by
 have h:=List.pairwise_mergeSort (le:=leB) (fun a b c h1 h2=>zdW.2 (zpx (zdW.1 h1) (zdW.1 h2))) (fun a b=>by
  cases h:leB a b with
  |true=>rfl
  |false=>
   rw[Yz3]
   grind[zdW,leP]) l
 exact h.imp fun h=>zdW.1 h
theorem zwI{l:List Zh}(h:l.length≤100000)(hz:∀p∈l,zdl p):ztb 2 (ocP l)=some (ocP (kP l)):=by
 have e:ocP l=some (l.map y3):=rfl;rw[e];unfold ztb;simp only[zok l hz];have hb:Nat.ble ((l.map zq3).length+1) 4611686018427387904=true:=Yzh (by grind);rw[hb,Yza];have:(zaQ (l.map zq3)).map enZ=(kP l).map y3:=by unfold zaQ kP;rw[←List.map_mergeSort (r:=leB) (f:=zq3) (fun a _ b _=>rfl),List.map_map];rfl
 rw[this];rfl
theorem zfS(v:Sl Zh)(hl:v.els.length≤1000)(hz:∀p∈v.els,zdl p):∃(w:OC) (r:Sl Zh),ztb 2 (ocL y3 v)=some w∧r.els.Pairwise ltP∧(∀y,y∈r.els↔y∈v.els)∧
  ((wD w<2∧mkL 2 w=enL 2 y3 r)∨(¬wD w<2∧(zJ zal [I6 1] [w]=some (.exit 0,[],[ocL y3 r])∨zJ zal [I6 1] [w]=some (.ret,[enL 2 y3 r],[])))):=by
 cases v with
 |none=>exact⟨none,none,rfl,.nil,fun y=>Iff.rfl,.inl ⟨by decide,rfl⟩⟩
 |some q=>
  rw[vN]at hl hz;have hp:=zmq q;have hs:=zhr q;have hlen:(kP q).length=q.length:=hp.length_eq;have e:=zwI (l:=q) (by omega) hz;by_cases h2:(kP q).length<2
  ·refine⟨ocP (kP q),some (kP q),e,?_,fun y=>hp.mem_iff,.inl ⟨by simp_all,zb7 _⟩⟩;rw[vN];generalize kP q=l at h2;cases l with
   |nil=>exact .nil
   |cons x l=>cases l<;>grind
  ·have k1:Kept (kP q) ((kP q).take 1) 1:=⟨by
    generalize kP q=l;cases l<;>simp_all,fun y=>Iff.rfl⟩
   obtain⟨acc,ha,hk⟩:=zBt (kP q) (kP q).length rfl hs (by omega) ((kP q).length-1) 1 (by omega) (by omega) k1;have hk':=zsn rfl hk;refine⟨ocP (kP q),some acc,e,hk'.1,fun y=>(hk'.2 y).trans hp.mem_iff,.inr ⟨by simp_all,?_⟩⟩;trivial
theorem t88(k:Nat)(rs:Sl Zj)(s:Zq)(hs:s.ok)(key:Int)(hd:(zbf s key).draws.els.length≤900)(hz:∀y∈vT rs.els key (zbf s key).draws.els,zdl y):
  ∃v:Sl Zh,D (k+4) 88 [S1 (enL 6 enR rs),SA (xE s),S1 (I6 key)]=some (S1 (enL 2 y3 v))∧v.els.Pairwise ltP∧∀y,y∈v.els↔y∈vT rs.els key (zbf s key).draws.els:=by
 have c:=zB9 k s hs key;unfold xE at c ⊢;rw[D88];unfold P88;rw[c];generalize hg:(zbf s key).draws=ds at hd hz ⊢;have hg2:atD (enS (zbf s key)) 2=enL 2 enD ds:=by rw[←hg];rfl
 rw[zyn (show (enS (zbf s key)).length=3 from rfl)];simp only[hg2,zy,zb];obtain⟨v,e1,e2⟩:=zCy (k+2) rs key ds _ hg2 ds.els 0 none rfl (by simp;omega) (by omega);rw[show (I6 0:DV)=I6 ((0:Nat):Int) from rfl,show (none:OC)=ocL y3 none from rfl,e1];have hl:v.els.length≤900:=by grind
 have hmem:∀y,y∈v.els↔y∈vT rs.els key ds.els:=fun y=>by grind[vT]
 obtain⟨w,r,f1,f2,f3,f4⟩:=zfS v (by omega) fun p hp=>hz p ((hmem p).1 hp);refine⟨r,?_,f2,fun y=>(f3 y).trans (hmem y)⟩;simp only[z6,yA,Yzl,Yza,f1,zb,wV,zg,zh,Yzs];rcases f4 with⟨q1,q2⟩|⟨q1,q2⟩
 ·grind
 ·have:¬((wD w:Nat):Int)<2:=by omega
  rw[Yzb this];rcases q2 with q2|q2<;>simp_all
end Go.Proofs.Tryz.Kn
end
section
namespace Go.Proofs.Tryz.Kn
open Go Go.CE Go.PE
abbrev xI:=Zh
theorem l53(d:Zh)(l:Sl Zh)(hl:l.els.length≤9223372036854775807):∀(r:List Zh) (i:Nat),l.els.drop i=r→
  zJ (zqR (I6 (l.els.length:Int)) (enL 2 y3 l) (I6 d.rank) (I6 d.num)) [I6 (i:Int)] []=some (found (xy (fun x=>decide (d=x)) r i)):=by
 intro r
 induction r with
 |nil=>
  intro i h;refine zr ?_
  grind[zqR,zA,zg,zb,xG,zY,zh]
 |cons x r ih=>
  intro i h;have h1:=yw h;have ea:zc .add (I6 (i:Int)) (I6 1)=some (I6 ((i+1:Nat):Int)):=yN;have eq:=zbL d x;have body:zqR (I6 (l.els.length:Int)) (enL 2 y3 l) (I6 d.rank) (I6 d.num) [I6 (i:Int)] []=some (if d=x then(.ret,[I6 (i:Int)],[]) else(.normal,[I6 ((i+1:Nat):Int)],[])):=by
   simp only[zqR,zA,zg,zb,uV h1,zh,if_true,zR h,y3,yM,y5,eq,ea]
   grind
  by_cases hc:d=x
  ·rw[Yzd hc]at body;grind[zx,xy,found]
  ·rw[Yzb hc]at body;grind[zF,zL,xy]
theorem t53(k:Nat)(d:Zh)(l:Sl Zh)(hl:l.els.length≤9223372036854775807):D (k+1) 53 [S1 (enL 2 y3 l),SA [I6 d.rank,I6 d.num]]=some (S1 (I6 (match xy (fun x=>decide (d=x)) l.els 0 with|some i=>(i:Int)|none=>-1))):=by rw[D53];unfold P53;have:=l53 d l hl l.els 0 rfl;simp only[zy,zb];rw[show (I6 0:DV)=I6 ((0:Nat):Int) from rfl,this];cases xy (fun x=>decide (d=x)) l.els 0<;>rfl
theorem zsV(d:Zh)(l:List Zh):(l.any fun x=>decide (d=x))=decide (d∈l):=by grind
theorem t30(k:Nat)(d:Zh)(l:Sl Zh)(hl:l.els.length≤9223372036854775807):D (k+2) 30 [S1 (enL 2 y3 l),SA [I6 d.rank,I6 d.num]]=some (S1 (Bo (decide (d∈l.els)))):=by have:=t53 k d l hl;rw[D30];unfold P30;rw[this,←zsV,←wi (fun x=>decide (d=x)) l.els 0];cases xy (fun x=>decide (d=x)) l.els 0<;>simp_all
theorem zDl(a:Int):zq8 a 1=0∨zq8 a 1=1:=by
 unfold zq8;have h:(BitVec.ofInt IntKind.u64.bits a &&& BitVec.ofInt IntKind.u64.bits 1).toNat=(BitVec.ofInt IntKind.u64.bits a).toNat % 2:=by grind
 rw[h];have:(BitVec.ofInt IntKind.u64.bits a).toNat % 2=0∨(BitVec.ofInt IntKind.u64.bits a).toNat % 2=1:=by omega
 rcases this with e|e<;>rw[e]
 ·trivial
 ·trivial
theorem zvW(a:Int)(i:Nat):(zq8 (zn5 a i) 1==0)=!bit a i:=by grind[bit,zDl]
structure Fit (o:Org) (r:Reg):Prop where
 dl:o.divs.els.length≤3
 cl:o.cpls.els.length≤3
 sl:∀d∈o.divs.els,d.stops.els.length≤3
 rng:∀d∈o.divs.els,0≤d.low∧d.low≤d.high∧d.high≤d.low+8∧d.high≤127
 dst:∀x∈o.cpls.els,0≤x.dst∧x.dst<(o.divs.els.length:Int)
 shf:∀x∈o.cpls.els,-1000≤x.shift∧x.shift≤1000
 stp:∀d∈o.divs.els,∀s∈d.stops.els,s.ok∧∀key,(zbf s key).draws.els.length≤2
 sml:∀(key:Int) (ds:List Zo) (y:Zh),y∈vT o.ranks.els key ds→zdl y
 rl:r.stops.els.length=o.divs.els.length
def inR(o:Org)(c:xI):Bool:=
 match c.rank with
 | .ofNat n=>(match o.divs.els[n]? with|some d=>decide (d.low≤c.num)&&decide (c.num≤d.high)|none=>false)
 |_=>false
theorem jY{o:Org}{c:xI}:inR o c=true↔∃(n:Nat) (d:Zn),c.rank=(n:Int)∧o.divs.els[n]? = some d∧d.low≤c.num∧c.num≤d.high:=by
 unfold inR
 constructor
 ·intro h;split at h<;>grind
 ·simp_all
def dest(c:xI)(x:Cpl):xI:=⟨x.dst,c.num+x.shift⟩
def goes(o:Org)(r:Reg)(c:xI)(thr:Bool)(i:Nat)(x:Cpl):Bool:=bit r.cpls i&&(x.src==c.rank)&&(!thr||x.thr)&&inR o (dest c x)
def push(q:List xI)(c:xI):List xI:=if c∈q then q else q++[c]
def uH(o:Org)(r:Reg)(c:xI)(thr:Bool):Nat→List Cpl→List xI→List xI
 |_,[],q=>q
 |i,x::l,q=>uH o r c thr (i+1) l (if goes o r c thr i x=true then push q (dest c x) else q)
theorem zkT(q:List xI)(c:xI):(push q c).length≤q.length+1:=by grind[push]
theorem zf5{q:List xI}{c y:xI}:y∈push q c↔y∈q∨y=c:=by grind[push]
theorem zmG{q:List xI}{c:xI}(h:q.Nodup):(push q c).Nodup:=by grind[push]
theorem zrK{q:List xI}{c:xI}{j:Nat}{y:xI}(h:q[j]? = some y):(push q c)[j]? = some y:=by grind[push]
theorem zmn(o:Org)(r:Reg)(c:xI)(thr:Bool):∀(l:List Cpl) (i:Nat) (q:List xI),(uH o r c thr i l q).length≤q.length+l.length
 | [],_,q=>LzB _
 |x::l,i,q=>by
  have:=zmn o r c thr l (i+1) (if goes o r c thr i x=true then push q (dest c x) else q)
  grind[zkT,uH]
theorem kO(o:Org)(r:Reg)(c:xI)(thr:Bool):∀(l:List Cpl) (i:Nat) (q:List xI),q.Nodup→(uH o r c thr i l q).Nodup
 | [],_,_,h=>h
 |x::l,i,q,h=>by
  refine kO o r c thr l (i+1) _ ?_
  grind[zmG]
theorem zam(o:Org)(r:Reg)(c:xI)(thr:Bool){j:Nat}{y:xI}:∀(l:List Cpl) (i:Nat) (q:List xI),q[j]? = some y→(uH o r c thr i l q)[j]? = some y
 | [],_,_,h=>h
 |x::l,i,q,h=>by
  refine zam o r c thr l (i+1) _ ?_
  grind[zrK]
theorem wH(o:Org)(r:Reg)(c:xI)(thr:Bool){y:xI}:∀(l:List Cpl) (i:Nat) (q:List xI),y∈uH o r c thr i l q↔y∈q∨∃(j:Nat) (x:Cpl),l[j]? = some x∧goes o r c thr (i+j) x=true∧y=dest c x
 | [],i,q=>by simp[uH]
 |x::l,i,q=>by
  rw[uH,wH o r c thr l (i+1)]
  constructor
  ·rintro (h|⟨j,z,h1,h2,h3⟩)
   ·split at h
    ·rename_i hg;rcases zf5.1 h with h|h
     ·grind
     ·exact .inr ⟨0,x,rfl,hg,h⟩
    ·grind
   ·exact .inr ⟨j+1,z,by trivial,by grind,h3⟩
  ·rintro (h|⟨j,z,h1,h2,h3⟩)
   ·grind[zf5]
   ·cases j with
    |zero=>simp_all[zf5]
    |succ j=>grind
section
variable {o:Org} {r:Reg} (F:Fit o r)
include F
omit F in
theorem zsC{c:xI}{thr:Bool}{i:Nat}{x:Cpl}(h:goes o r c thr i x=true):inR o (dest c x)=true:=by simp_all[goes]
inductive Reach (o:Org) (r:Reg) (c:xI):xI→Prop
 |one (i:Nat) (x:Cpl):o.cpls.els[i]? = some x→goes o r c false i x=true→Reach o r c (dest c x)
 |more (y:xI) (i:Nat) (x:Cpl):Reach o r c y→o.cpls.els[i]? = some x→goes o r y true i x=true→Reach o r c (dest y x)
omit F in
theorem Reach.inR{c y:xI}(h:Reach o r c y):inR o y=true:=by cases h<;>grind[zsC]
def zuT(o:Org)(n:Nat):Int:=match o.divs.els[n]? with|some d=>d.low|none=>0
def code(o:Org)(c:xI):Nat:=c.rank.toNat*9+(c.num-zuT o c.rank.toNat).toNat
theorem zvT{c:xI}(h:inR o c=true):code o c<27:=by
 obtain⟨n,d,h1,h2,h3,h4⟩:=jY.1 h;have hn:=(Lz0.1 h2).1;have:=F.dl;have:=F.rng d (Lz3 h2)
 grind[code,zuT]
theorem zsM{a b:xI}(ha:inR o a=true)(hb:inR o b=true)(h:code o a=code o b):a=b:=by
 obtain⟨n,d,h1,h2,h3,h4⟩:=jY.1 ha;obtain⟨m,e,g1,g2,g3,g4⟩:=jY.1 hb;have r1:=F.rng d (Lz3 h2);have r2:=F.rng e (Lz3 g2);unfold code zuT at h;rw[h1,g1,Yye,Yye,h2,g2]at h;simp only at h;have hnm:n=m:=by omega
 subst hnm;rw[h2]at g2;cases g2;cases a with|mk ar an=>
 cases b<;>grind
omit F in
theorem zle:∀{l m:List Nat},l.Nodup→(∀z∈l,z∈m)→l.length≤m.length
 | [],m,_,_=>Yzm _
 |x::l,m,h,H=>by
  have h':=List.nodup_cons.1 h;obtain⟨a,b,rfl⟩:=List.append_of_mem (H x (Yzg ..));have:=zle (l:=l) (m:=a++b) h'.2 fun z hz=>by grind
  grind
theorem zbJ{q:List xI}(hd:q.Nodup)(h:∀y∈q,inR o y=true):q.length≤27:=by
 have h1:(q.map (code o)).Nodup:=by induction q<;>grind[zsM,Yzg]
 have:=zle h1 (m:=List.range 27) fun z hz=>by
  obtain⟨y,hy,rfl⟩:=List.mem_map.1 hz
  grind[zvT]
 grind
theorem zpM{c:xI}(h:inR o c=true):-100000≤c.num∧c.num≤100000:=by obtain⟨n,d,h1,h2,h3,h4⟩:=jY.1 h;have:=F.rng d (Lz3 h2);omega
structure Que (o:Org) (r:Reg) (c:xI) (q:List xI) (i:Nat):Prop where
 nd:q.Nodup
 re:∀y∈q,Reach o r c y
 fst:∀(j:Nat) (x:Cpl),o.cpls.els[j]? = some x→goes o r c false j x=true→dest c x∈q
 cls:∀(m:Nat) (y:xI),m<i→q[m]? = some y→∀(j:Nat) (x:Cpl),o.cpls.els[j]? = some x→goes o r y true j x=true→dest y x∈q
omit F in
theorem zuo{c:xI}{q:List xI}(H:Que o r c q q.length):∀y,y∈q↔Reach o r c y:=by
 refine fun y=>⟨H.re y,fun h=>?_⟩
 induction h with
 |one i x h1 h2=>exact H.fst i x h1 h2
 |more z i x _ h1 h2 ih=>obtain⟨m,hm⟩:=Yyd ih;exact H.cls m z (Lz0.1 hm).1 hm i x h1 h2
def ziz(o:Org)(r:Reg)(c y:xI):Prop:=Reach o r c y∨(bit r.off c.rank.toNat=false∧y=c)
end
end Go.Proofs.Tryz.Kn
end
section
namespace Go.Proofs.Tryz.Kn
open Go Go.CE Go.PE
theorem zl2{α:Type}{f:α→List DV}(v:Sl α)(l:List α):∃v':Sl α,znB (ocL f v) (l.map f)=ocL f v'∧v'.els=v.els++l:=by
 cases l with
 |nil=>exact⟨v,rfl,by simp⟩
 |cons y l=>exact⟨some (v.els++y::l),by
   show some (zC (ocL f v)++_)=_
   grind[xg,zrW],rfl⟩
def ziP(o:Org)(r:Reg)(n:Nat)(key:Int)(y:Zh):Prop:=
 ∃(d:Zn) (s:Int) (j:Nat) (t:Zq),o.divs.els[n]? = some d∧r.stops.els[n]? = some s∧d.stops.els[j]? = some t∧bit s j=true∧y∈vT o.ranks.els key (zbf t key).draws.els
def zs5(o:Org)(r:Reg)(c:xI)(y:Zh):Prop:=∃c',ziz o r c c'∧ziP o r c'.rank.toNat c'.num y
def zyR(o:Org)(r:Reg)(n:Nat)(key:Int)(v:Sl Zh):Prop:=v.els.length≤1000∧v.els.Pairwise ltP∧∀y,y∈v.els↔zs5 o r ⟨(n:Int),key⟩ y
structure Rows (o:Org) (C:Nat→Int→Sl Zh→Prop) (T:List (List (Sl Zh))):Prop where
 row:∀(n:Nat) (d:Zn) (row:List (Sl Zh)),o.divs.els[n]? = some d→T[n]? = some row→(row.length:Int)=d.high-d.low+1∧∀(i:Nat) (v:Sl Zh),row[i]? = some v→C n (d.low+(i:Int)) v
section
variable {o:Org} {r:Reg} (F:Fit o r)
include F
end
end Go.Proofs.Tryz.Kn
end
section
namespace Go.Proofs.Tryz.Kn
open Go Go.CE Go.PE
structure Twin (o:Org) (A B:List (List (Sl Zh))):Prop where
 al:A.length=o.divs.els.length
 bl:B.length=o.divs.els.length
 row:∀(n:Nat) (d:Zn) (x y:List (Sl Zh)),o.divs.els[n]? = some d→A[n]? = some x→B[n]? = some y→x.length=y.length∧x.length≤9∧(∀v∈x,v.els.length≤1000)∧(∀v∈y,v.els.length≤1000)
section
variable {o:Org} {A B:List (List (Sl Zh))} (W:Twin o A B) (hdl:o.divs.els.length≤3) (hrng:∀d∈o.divs.els,0≤d.low∧d.low≤127) {f:DV} {H:Sl Zh→Sl Zh→Bool} {k:Nat}
 (hf:∀x y:Sl Zh,x.els.length≤1000→y.els.length≤1000→zhj (D k) f [S1 (enL 2 y3 x),S1 (enL 2 y3 y)]=some (S1 (Bo (H x y))))
end
end Go.Proofs.Tryz.Kn
end
section
namespace Go.Proofs.Tryz.Kn
open Go Go.CE Go.PE
structure Le (o:Org) (r s:Reg):Prop where
 c:∀(i:Nat) (x:Cpl),o.cpls.els[i]? = some x→bit r.cpls i=true→bit s.cpls i=true
 f:∀(n:Nat) (d:Zn),o.divs.els[n]? = some d→bit s.off n=true→bit r.off n=true
 t:∀(n:Nat) (d:Zn) (x:Int) (j:Nat) (t:Zq),o.divs.els[n]? = some d→r.stops.els[n]? = some x→d.stops.els[j]? = some t→bit x j=true→∃y,s.stops.els[n]? = some y∧bit y j=true
section
variable {o:Org} {r s:Reg} (L:Le o r s)
include L
end
theorem zdS{rs:List Zj}{low high:Int}:∀{l:List Pul} {i:Nat} {s:Zq},s∈wb rs low high i l→∃j x,s=ji rs low high j x
 | [],_,_,h=>by cases h
 |x::l,i,s,h=>by
  rcases Yzu.1 h with rfl|h
  ·grind
  ·exact zdS h
theorem zrL(rs:List Zj)(low high:Int)(i:Nat)(x:Pul)(key:Int):(zbf (ji rs low high i x) key).draws.els.length≤2:=by
 have hall:∀n sh m sh2 a kd,∀g∈xl low high n sh m sh2 a kd,g.draws.els.length≤2:=by
  intro n sh m sh2 a kd;unfold xl
  grind
 unfold zbf;cases hf:(ji rs low high i x).segs.els.find? (q9 key) with
 |none=>simp[znD]
 |some g=>exact hall _ _ _ _ _ _ g (List.mem_of_find?_eq_some hf)
theorem zb8{rs:List Zj}:∀{l:List Boa} {i:Nat} {d:Zn},d∈vz rs i l→∃j b,b∈l∧d=zgn rs j b
 | [],_,_,h=>by cases h
 |b::l,i,d,h=>by
  rcases Yzu.1 h with rfl|h
  ·grind
  ·obtain⟨j,c,h1,h2⟩:=zb8 h
   grind
theorem zb9{n:Nat}:∀{l:List Lnk} {i:Nat} {c:Cpl},c∈qK n i l→∃j b,c=zaE n j b
 | [],_,_,h=>by cases h
 |b::l,i,d,h=>by
  rcases Yzu.1 h with rfl|h
  ·grind
  ·exact zb9 h
theorem zff:∀(l:List RPl) (i:Nat),∀r∈wJ i l,r.wind.els.length≤25
 | [],_,_,h=>by cases h
 |x::l,i,r,h=>by
  rcases Yzu.1 h with rfl|h
  ·show (kL x (1+x.pipes % 25)).length≤25
   grind[zbb]
  ·exact zff l _ r h
theorem zmr{rs:List Zj}(hl:rs.length≤60)(hw:∀r∈rs,r.wind.els.length≤25){key:Int}{ds:List Zo}{y:Zh}(h:y∈vT rs key ds):zdl y:=by grind[vT,zhF,zdl]
theorem zAB(p:Pln)(hf:zea p=true)(b:Nat→Nat):Fit (zeE p) (zlM (zeE p) b):=by
 obtain⟨f1,f2,f3,f4,f5,f6⟩:=qR hf;obtain⟨s1,s2,s3⟩:=zfg p hf;have hdv:(zeE p).divs.els=vz (wJ 0 p.ranks.els) 0 p.divs.els:=by grind[zeE,yk]
 have hcp:(zeE p).cpls.els=qK p.divs.els.length 0 p.cpls.els:=by grind[zeE,yk]
 refine⟨s1,s3,s2,fun d hd=>?_,fun x hx=>?_,fun x hx=>?_,fun d hd s hs=>?_,fun key ds y hy=>?_,?_⟩
 ·rw[hdv]at hd;obtain⟨j,b,_,rfl⟩:=zb8 hd;have q1:=zgp b;have q2:=zc7 b;show 0≤zeI b∧zeI b≤zaV b∧zaV b≤zeI b+8∧zaV b≤127;omega
 ·rw[hcp]at hx;obtain⟨j,l,rfl⟩:=zb9 hx;rw[hdv,wK];have:=Yz2 l.dst (show p.divs.els.length > 0 by omega);show (0:Int)≤((l.dst % p.divs.els.length:Nat):Int)∧((l.dst % p.divs.els.length:Nat):Int)<_;omega
 ·rw[hcp]at hx;obtain⟨j,l,rfl⟩:=zb9 hx;have q1:(l.shift.tmod 25).natAbs<25:=by
   grind
  show -1000≤(if _ then 12 else l.shift.tmod 25)∧(if _ then 12 else l.shift.tmod 25)≤1000
  grind
 ·rw[hdv]at hd;obtain⟨j,b,_,rfl⟩:=zb8 hd;have hs:s∈(grow (wb (wJ 0 p.ranks.els) (zeI b) (zaV b) 0 b.stops.els)).els:=hs;rw[yk]at hs;refine⟨zaU _ _ _ _ _ s hs,fun key=>?_⟩;obtain⟨i,x,rfl⟩:=zdS hs;exact zrL ..
 ·grind[zeE,yk,zmr,qI,zff]
 ·grind[zlM,yk,zeg]
end Go.Proofs.Tryz.Kn
end
section
namespace Go.Proofs.Tryz.Kn
open Go Go.CE Go.PE
def enM(c:xI):List DV:=[I6 c.rank,I6 c.num,Bo true]
theorem zqc(a b:xI):zed (.inr [1,1]) (.agg [I6 a.rank,I6 a.num]) (.agg [I6 b.rank,I6 b.num])=some (decide (a=b)):=zbL a b
theorem zpY(a:xI):∀q:List xI,zcd (.inr [1,1]) 1051648 (.agg [I6 a.rank,I6 a.num]) (q.map enM)=some (if a∈q then some (.one (Bo true)) else none)
 | []=>rfl
 |b::q=>by have e:zed (.inr [1,1]) (.agg [I6 a.rank,I6 a.num]) (kD 1051648 (enM b))=some (decide (a=b)):=zqc a b;have v:vD 1051648 (enM b)=.one (Bo true):=rfl;rw[Yzr,zcd,e,v,zpY a q];by_cases h:a=b<;>simp[h]
theorem ztj(a:xI):∀q:List xI,a∉q→zkS (.inr [1,1]) 1051648 (.agg [I6 a.rank,I6 a.num]) [I6 a.rank,I6 a.num,Bo true] (q.map enM)=some ((q++[a]).map enM)
 | [],_=>rfl
 |b::q,h=>by simp only[Yzu,not_or]at h;have e:zed (.inr [1,1]) (.agg [I6 a.rank,I6 a.num]) (kD 1051648 (enM b))=some (decide (a=b)):=zqc a b;simp only[Yzr,zkS,e,decide_eq_false h.1,ztj a q h.2];rfl
theorem zxF(p:Prop)[Decidable p]:dsO (lkD (.one (Bo false)) (if p then some (DS.one (Bo true)) else none))=Bo (decide p):=by
 by_cases h:p
 ·rw[Yzd h,decide_eq_true h];rfl
 ·rw[Yzb h,decide_eq_false h];rfl
def stQ(q:List xI):List OC:=[ocL y3 (grow q),some (q.map enM)]
section
variable {o:Org} {r:Reg} (F:Fit o r)
include F
omit F in
theorem t72(k:Nat)(c:xI)(h1:0≤c.rank)(h2:c.rank<(o.divs.els.length:Int)):D (k+1) 72 [SA (enO o),SA [I6 c.rank,I6 c.num]]=some (S1 (I6 (if inR o c=true then 0 else 23))):=by
 obtain⟨n,hn⟩:∃n:Nat,c.rank=(n:Int):=⟨c.rank.toNat,by omega⟩;obtain⟨d,hd⟩:∃d,o.divs.els[n]? = some d:=⟨_,Lz5 (by omega)⟩;have iv:yT 5 (enL 5 enV o.divs) (I6 c.rank)=some (enV d):=by rw[hn,y9,hd];rfl
 have hin:inR o c=(decide (d.low≤c.num)&&decide (c.num≤d.high)):=by unfold inR;rw[hn];show (match o.divs.els[n]? with|some d=>decide (d.low≤c.num)&&decide (c.num≤d.high)|none=>false)=_;rw[hd]
 unfold enO;rw[D72];unfold P72;simp only[zg,zb,decide_eq_false (show ¬c.rank<0 by omega),zh,Yze,if_false,zy,x7,decide_eq_false (show ¬(o.divs.els.length:Int)≤c.rank by omega),iv,enV,yM,y5,ye,hin];by_cases a:c.num<d.low
 ·have:¬d.low≤c.num:=by omega
  simp[a,this]
 ·have:d.low≤c.num:=by omega
  by_cases b:d.high<c.num
  ·have h':¬c.num≤d.high:=by omega
   simp[a,b,h']
  ·have h':c.num≤d.high:=by omega
   simp[a,b,this,h']
theorem znt{G:List DV→List OC→Option PX}{thr:Bool}(k:Nat)(c:xI)(hc:-100000≤c.num∧c.num≤100000)(q:List xI)(hq:q.length≤1000)(i:Nat)(x:Cpl)(hx:o.cpls.els[i]? = some x)
  (hG:G=if thr=true then ziD (D (k+1)) (I6 (o.cpls.els.length:Int)) (enL 5 enC o.cpls) (U64 r.cpls) [I6 c.rank,I6 c.num] (St o.name) (enL 6 enR o.ranks) (enL 5 enV o.divs) else ziF (D (k+1)) (I6 (o.cpls.els.length:Int)) (enL 5 enC o.cpls) (U64 r.cpls) [I6 c.rank,I6 c.num] (St o.name) (enL 6 enR o.ranks) (enL 5 enV o.divs)):
  G [I6 (i:Int)] (stQ q)=some (.normal,[I6 ((i+1:Nat):Int)],stQ (if goes o r c thr i x=true then push q (dest c x) else q)):=by
 have hi:=(Lz0.1 hx).1;have hm:=Lz3 hx;have hcl:=F.cl;have ea:zc .add (I6 (i:Int)) (I6 1)=some (I6 ((i+1:Nat):Int)):=yN;have ix:yT 5 (enL 5 enC o.cpls) (I6 (i:Int))=some (enC x):=by rw[y9,hx];rfl
 obtain⟨d1,d2⟩:=F.dst x hm;obtain⟨s1,s2⟩:=F.shf x hm;have ek:zc .add (I6 c.num) (I6 x.shift)=some (I6 (c.num+x.shift)):=yN;have ct:=t72 k (dest c x) d1 d2;have ef:fits 16 ((grow q).els.length+1)=true:=wx (by decide) (by rw[yk];omega);have hdest:(dest c x).rank=x.dst∧(dest c x).num=c.num+x.shift:=⟨rfl,rfl⟩;have e1:=zqc (dest c x) (dest c x);have e2:=zpY (dest c x) q;have e3:=ztj (dest c x) q;rw[decide_eq_true rfl]at e1;have hp:(some ((grow q).els.map y3++[[I6 x.dst,I6 (c.num+x.shift)]]):OC)=ocL y3 (grow (q++[dest c x])):=by rw[wv,←vI];rfl
 rw[hdest.1,hdest.2]at ct e1 e2 e3;unfold enO at ct;unfold goes stQ;cases thr with
 |false=>
  rw[hG];simp only[Yze,if_false,ziF,zA,yA,vi,zg,zb,uV hi,zh,if_true,ix,zus,zbp,zx6,zvW,enC,yM,y5,Bool.not_false,Bool.true_or,Yyi,yX];cases hb:bit r.cpls i with
  |false=>simp[ea]
  |true=>
   simp only[Yzn,Yze,if_false,zM,zb,zh,YzF];cases hs:(x.src==c.rank) with
   |false=>simp[ea]
   |true=>
    simp only[Yzn,Yze,if_false,ek,zb,ct,zG,xa,zh,YzF];cases hr:inR o (dest c x) with
    |false=>simp[ea]
    |true=>
     simp only[if_true,Yzx,e1,e2,zb,zxF,yu,zh];by_cases hmem:dest c x∈q
     ·simp[hmem,ea,push]
     ·simp only[hmem,decide_false,Bool.not_false,if_true,e3 hmem,zb,xU,ef,wY,ea,xg,hp,push,if_false]
 |true=>
  rw[hG];simp only[if_true,ziD,zA,yA,vi,zg,zb,uV hi,zh,ix,zus,zbp,zx6,zvW,enC,yM,y5,Yzn,Yz3,yX];cases hb:bit r.cpls i with
  |false=>simp[ea]
  |true=>
   simp only[Yzn,Yze,if_false,zM,zb,zh,YzF];cases hs:(x.src==c.rank) with
   |false=>simp[ea]
   |true=>
    simp only[Yzn,Yze,if_false,yu,zb,zh,YzF];cases ht:x.thr with
    |false=>simp[ea]
    |true=>
     simp only[Yzn,Yze,if_false,ek,zb,ct,zG,xa,zh,YzF];cases hr:inR o (dest c x) with
     |false=>simp[ea]
     |true=>
      simp only[if_true,Yzx,e1,e2,zb,zxF,yu,zh];by_cases hmem:dest c x∈q
      ·simp[hmem,ea,push]
      ·simp only[hmem,decide_false,Bool.not_false,if_true,e3 hmem,zb,xU,ef,wY,ea,xg,hp,push,if_false]
theorem zfk{G:List DV→List OC→Option PX}{thr:Bool}(k:Nat)(c:xI)(hc:-100000≤c.num∧c.num≤100000)
  (hG:G=if thr=true then ziD (D (k+1)) (I6 (o.cpls.els.length:Int)) (enL 5 enC o.cpls) (U64 r.cpls) [I6 c.rank,I6 c.num] (St o.name) (enL 6 enR o.ranks) (enL 5 enV o.divs) else ziF (D (k+1)) (I6 (o.cpls.els.length:Int)) (enL 5 enC o.cpls) (U64 r.cpls) [I6 c.rank,I6 c.num] (St o.name) (enL 6 enR o.ranks) (enL 5 enV o.divs)):
  ∀(l:List Cpl) (i:Nat) (q:List xI),o.cpls.els.drop i=l→q.length+l.length≤1000→zJ G [I6 (i:Int)] (stQ q)=some (.exit 0,[],stQ (uH o r c thr i l q)):=by
 intro l
 induction l with
 |nil=>
  intro i q h _;refine zr ?_;rw[hG];cases thr
  ·simp only[Yze,if_false,ziF,stQ,zA,yA,vi,zg,zb,xG (zY h),zh,yX];rfl
  ·simp only[if_true,ziD,stQ,zA,yA,vi,zg,zb,xG (zY h),zh,yX];rfl
 |cons x l ih=>
  intro i q h hq;simp only[Yzp]at hq;rw[zF (znt F k c hc q (by omega) i x (yI h) hG)];refine ih (i+1) _ (zL h) ?_
  grind[zkT]
theorem zjB(k:Nat)(c:xI):∀(f i:Nat) (q:List xI),Que o r c q i→i≤q.length→i+f=28→
    ∃q',zJ (ziE (D (k+1)) (enL 5 enC o.cpls) (U64 r.cpls) (St o.name) (enL 6 enR o.ranks) (enL 5 enV o.divs)) [I6 (i:Int)] (stQ q)=some (.exit 2,[],stQ q')∧Que o r c q' q'.length:=by
  intro f
  induction f with
  |zero=>intro i q H hi hf;have:=zbJ F H.nd fun y hy=>(H.re y hy).inR;omega
  |succ f ih=>
    intro i q H hi hf;have hlen:=zbJ F H.nd fun y hy=>(H.re y hy).inR;by_cases hlt:i<q.length
    · obtain⟨y,hy⟩:∃y,q[i]? = some y:=⟨_,Lz5 hlt⟩
      have hym:=H.re y (Lz3 hy);have hcl:=F.cl;have ls:=zfk F (thr:=true) k y (zpM F hym.inR) rfl o.cpls.els 0 q rfl (by omega);rw[Yzd rfl]at ls;have ea:zc .add (I6 (i:Int)) (I6 1)=some (I6 ((i+1:Nat):Int)):=yN;have hg:(grow q).els.length=q.length:=by rw[yk]
      have i1:wC (ocL y3 (grow q)) (I6 (i:Int))=some i:=by
        cases q with
        |nil=>simp at hlt
        |cons a q=>exact zc1 (by grind)
      have i2:zbW (ocL y3 (grow q)) i=some (y3 y):=by
        cases q with
        |nil=>simp at hlt
        |cons a q=>
          show ((a::q).map y3)[i]? = _
          grind
      have body:ziE (D (k+1)) (enL 5 enC o.cpls) (U64 r.cpls) (St o.name) (enL 6 enR o.ranks) (enL 5 enV o.divs) [I6 (i:Int)] (stQ q)=some (.normal,[I6 ((i+1:Nat):Int)],stQ (uH o r y true 0 o.cpls.els q)):=by rw[show (I6 ((0:Nat):Int):DV)=I6 0 from rfl]at ls;unfold stQ at ls ⊢;simp only[ziE,zA,yA,vi,xU,hg,wV,zg,zb,uV hlt,zh,if_true,i1,i2,y3,zy,yX,ls,z6,Yzl,Yza,ea]
      have HQ:Que o r c (uH o r y true 0 o.cpls.els q) (i+1):=by
       refine⟨kO o r y true _ _ _ H.nd,fun z hz=>?_,fun j x h1 h2=>(wH o r y true _ _ _).2 (.inl (H.fst j x h1 h2)),fun m z hm hz j x h1 h2=>?_⟩
       · rcases (wH o r y true _ _ _).1 hz with hz|⟨j,x,h1,h2,h3⟩
         · exact H.re z hz
         · rw[Yzi]at h2
           rw[h3];exact .more y j x hym h1 h2
       · by_cases hmi:m=i
         · subst hmi
           have:=zam o r y true o.cpls.els 0 q hy;rw[hz]at this;cases this;exact(wH o r _ true _ _ _).2 (.inr ⟨j,x,h1,by grind,rfl⟩)
         · have hmi:m<i:=by omega
           obtain⟨w,hw⟩:∃w,q[m]? = some w:=⟨_,Lz5 (by omega)⟩;have:=zam o r y true o.cpls.els 0 q hw;rw[hz]at this;cases this;exact(wH o r y true _ _ _).2 (.inl (H.cls m _ hmi hw j x h1 h2))
      obtain⟨q',h1,h2⟩:=ih (i+1) (uH o r y true 0 o.cpls.els q) HQ
        (by have:=zam o r y true o.cpls.els 0 q hy;grind) (by omega)
      exact⟨q',by rw[zF body,h1],h2⟩
    · have hi:i=q.length:=by omega
      subst hi;refine⟨q,zr ?_,H⟩;have hg:(grow q).els.length=q.length:=by rw[yk]
      unfold stQ;simp only[ziE,zA,yA,vi,xU,hg,wV,zg,zb,xG (LzB q.length),zh,yX];rfl
theorem t74(k:Nat)(c:xI)(hc:inR o c=true):∃S:Sl xI,D (k+2) 74 [SA (enO o),SA (zW r),S1 (.lst 2 [[I6 c.rank,I6 c.num]])]=some (S1 (enL 2 y3 S))∧S.els.length≤27∧(∀y,y∈S.els↔ziz o r c y)∧(∀y∈S.els,inR o y=true):=by
 obtain⟨n,d,hn,hd,hl1,hl2⟩:=jY.1 hc;have hnl:=(Lz0.1 hd).1;have hcl:=F.cl;have hnum:=zpM F hc;have l1:=zfk F (thr:=false) k c hnum rfl o.cpls.els 0 [] rfl (by simp;omega);simp only[Yze,if_false]at l1;have hq0:Que o r c (uH o r c false 0 o.cpls.els []) 0:=⟨kO o r c false _ _ _ List.nodup_nil,fun y hy=>by
   rcases (wH o r c false _ _ _).1 hy with hy|⟨j,x,h1,h2,h3⟩
   ·cases hy
   ·rw[Yzi]at h2;rw[h3];exact .one j x h1 h2,fun j x h1 h2=>(wH o r c false _ _ _).2 (.inr ⟨j,x,h1,by grind,rfl⟩),fun m y hm=>by omega⟩
 generalize uH o r c false 0 o.cpls.els []=q0 at l1 hq0;obtain⟨q,h1,h2⟩:=zjB F k c 28 0 q0 hq0 (Yzm _) rfl;have hall:=zuo h2;have hlen:=zbJ F h2.nd fun y hy=>(h2.re y hy).inR;have hb:zc .eql (U64 (zq8 (zn5 r.off n) 1)) (U64 0)=some (Bo (!bit r.off n)):=by rw[zx6,zvW]
 let out:Sl xI:=if bit r.off n=true then none else some [c]
 have hout:out.els.length≤1∧∀y,y∈out.els↔(bit r.off n=false∧y=c):=by show (if bit r.off n=true then none else some [c]:Sl xI).els.length≤1∧∀y,y∈(if bit r.off n=true then none else some [c]:Sl xI).els↔_;cases bit r.off n<;>simp
 have ef1:fits 16 (0+1)=true:=by decide
 have b1:zs1 (D (k+1)) (I6 1) (.lst 2 [[I6 c.rank,I6 c.num]]) (enL 5 enC o.cpls) (U64 r.cpls) (St o.name) (enL 6 enR o.ranks) (enL 5 enV o.divs) (U64 r.off) [I6 0] [none,none,some []]=some (.normal,[I6 1],[ocL y3 (grow q0),ocL y3 out,some (q0.map enM)]):=by
  have ix:yT 2 (.lst 2 [[I6 c.rank,I6 c.num]]) (I6 0)=some [I6 c.rank,I6 c.num]:=rfl;have lt:zc .lss (I6 0) (I6 1)=some (Bo true):=rfl;have ad:zc .add (I6 0) (I6 1)=some (I6 1):=rfl;have l1':=l1;rw[show (I6 ((0:Nat):Int):DV)=I6 0 from rfl]at l1';unfold stQ at l1';rw[show ocL y3 (grow ([]:List xI))=none from rfl,show (([]:List xI).map enM)=[] from rfl]at l1';have hs:kI false (U64 r.off) (I6 c.rank)=some (U64 (zn5 r.off n)):=by rw[hn];exact zus _ _
  simp only[zs1,zA,yA,vi,lt,zb,zh,if_true,ix,zy,yX,l1',z6,Yzl,Yza,yM,y5,hs,zbp,hb,ad];show _=some (Zg.normal,[I6 1],[ocL y3 (grow q0),ocL y3 (if bit r.off n=true then none else some [c]:Sl xI),some (q0.map enM)]);cases bit r.off n<;>rfl
 have b2:zs1 (D (k+1)) (I6 1) (.lst 2 [[I6 c.rank,I6 c.num]]) (enL 5 enC o.cpls) (U64 r.cpls) (St o.name) (enL 6 enR o.ranks) (enL 5 enV o.divs) (U64 r.off) [I6 1] [ocL y3 (grow q0),ocL y3 out,some (q0.map enM)]=some (.exit 0,[],[ocL y3 out,ocL y3 (grow q0),some (q0.map enM)]):=rfl;obtain⟨v1,a1,a2⟩:=zl2 (f:=y3) out q;have hm:∀y,y∈v1.els↔ziz o r c y:=fun y=>by
  rw[a2,Yym,hout.2 y,hall y];unfold ziz;rw[show c.rank.toNat=n by omega]
  constructor
  ·rintro (h|h)
   ·exact .inr h
   ·exact .inl h
  ·rintro (h|h)
   ·exact .inr h
   ·exact .inl h
 have hinr:∀y,ziz o r c y→inR o y=true:=by
  rintro y (h|⟨_,rfl⟩)
  ·exact h.inR
  ·exact hc
 obtain⟨w,u,f1,f2,f3,f4⟩:=zfS v1 (by rw[a2,YzJ];omega) fun p hp=>by obtain⟨n',d',g1,g2,g3,g4⟩:=jY.1 (hinr p ((hm p).1 hp));have hl:=(Lz0.1 g2).1;have hdl:=F.dl;have hr:=F.rng d' (Lz3 g2);exact⟨by omega,by omega,by omega,by omega⟩
 refine⟨u,?_,zbJ F (List.Pairwise.imp (S:=fun a b=>a≠b) (fun h e=>by subst e;exact lt_irrefl h) f2) fun y hy=>hinr y ((hm y).1 ((f3 y).1 hy)),fun y=>(f3 y).trans (hm y),fun y hy=>hinr y ((hm y).1 ((f3 y).1 hy))⟩;have ef:fits 16 (out.els.length+q.length)=true:=wx (by decide) (by omega);rw[show (I6 ((0:Nat):Int):DV)=I6 0 from rfl]at h1;unfold stQ at h1;have hl1:yC (.lst 2 [[I6 c.rank,I6 c.num]])=some (I6 1):=rfl;unfold enO zW;rw[D74];unfold P74;simp only[hl1,zb,zF b1,zr b2,z6,Yzl,Yza,yA,vi,yX,h1,xU,xg,Yzw,yk,ef,wY,a1,f1,wV,zg,zh,Yzs,show ztM=zal from rfl];rcases f4 with⟨q1,q2⟩|⟨q1,q2⟩
 ·have:((wD w:Nat):Int)<2:=by omega
  rw[Yzd this,q2]
 ·have:¬((wD w:Nat):Int)<2:=by omega
  rw[Yzb this];rcases q2 with q2|q2
  ·rw[q2];simp only[z6,Yzl,Yza,yA,zb7]
  ·rw[q2];rfl
end
end Go.Proofs.Tryz.Kn
end
section
namespace Go.Proofs.Tryz.Kn
open Go Go.CE Go.PE
section
variable {o:Org} {r:Reg} (F:Fit o r)
include F
theorem zjA(k n:Nat)(d:Zn)(s:Int)(hd:o.divs.els[n]? = some d)(hs:r.stops.els[n]? = some s)(key:Int):∀(l:List Zq) (j:Nat) (v:Sl Zh),d.stops.els.drop j=l→v.els.length+2*l.length≤1000→
  ∃v',zJ (zeB (D (k+4)) (I6 (d.stops.els.length:Int)) (enV d) (enL 1 enU r.stops) [I6 (n:Int),I6 key] (enL 6 enR o.ranks)) [I6 (j:Int)] [ocL y3 v]=some (.exit 2,[],[ocL y3 v'])∧v'.els.length≤v.els.length+2*l.length∧
   ∀y,y∈v'.els↔y∈v.els∨∃(q:Nat) (t:Zq),l[q]? = some t∧bit s (j+q)=true∧y∈vT o.ranks.els key (zbf t key).draws.els:=by
 have hdm:=Lz3 hd;intro l
 induction l with
 |nil=>grind[zr,zeB,zA,yA,zg,zb,zh]
 |cons t l ih=>
  intro j v h hv;simp only[Yzp]at hv;have h1:=yw h;have htm:t∈d.stops.els:=Lz3 (yI h);obtain⟨hok,hfew⟩:=F.stp d hdm t htm;have hsl:=F.sl d hdm;have ea:zc .add (I6 (j:Int)) (I6 1)=some (I6 ((j+1:Nat):Int)):=yN;have is:yT 1 (enL 1 enU r.stops) (I6 (n:Int))=some [U64 s]:=by grind[y9]
  have i4:atD (enV d) 4=enL 4 xE d.stops:=rfl;by_cases hb:bit s j=true
  ·obtain⟨w,c,w1,w2⟩:=t88 k o.ranks t hok key (by grind) fun y hy=>F.sml key _ y hy;unfold xE at c;have hwl:w.els.length≤2:=by
    have a1:=zdM w1 fun z hz=>(w2 z).1 hz
    grind[vT]
   obtain⟨v1,a1,a2⟩:=zl2 (f:=y3) v w.els;have ef:fits 16 (v.els.length+w.els.length)=true:=wx (by decide) (by omega);have body:zeB (D (k+4)) (I6 (d.stops.els.length:Int)) (enV d) (enL 1 enU r.stops) [I6 (n:Int),I6 key] (enL 6 enR o.ranks) [I6 (j:Int)] [ocL y3 v]=some (.normal,[I6 ((j+1:Nat):Int)],[ocL y3 v1]):=by have hb':=hb;unfold bit at hb';simp only[zeB,zA,yA,zg,zb,uV h1,zh,if_true,i4,zR h,is,yM,y5,zus,zbp,zx6,hb',xE,c,zG,ze7,xU,Yzw,ef,wY,ea,a1]
   obtain⟨v',b1',b2,b3⟩:=ih (j+1) v1 (zL h) (by grind);refine⟨v',by grind[zF],by grind,fun y=>(b3 y).trans ?_⟩;rw[a2,Yym,w2 y]
   constructor
   ·rintro ((h|h)|⟨q,z,q1,q2,q3⟩)
    ·grind
    ·exact .inr ⟨0,t,rfl,hb,h⟩
    ·exact .inr ⟨q+1,z,by grind,by grind,q3⟩
   ·grind
  ·have body:zeB (D (k+4)) (I6 (d.stops.els.length:Int)) (enV d) (enL 1 enU r.stops) [I6 (n:Int),I6 key] (enL 6 enR o.ranks) [I6 (j:Int)] [ocL y3 v]=some (.normal,[I6 ((j+1:Nat):Int)],[ocL y3 v]):=by
    have hb':=(Bool.not_eq_true _).mp hb;unfold bit at hb';simp only[zeB,zA,yA,zg,zb,uV h1,zh,if_true,i4,zR h,is,yM,zus,zbp,zx6,hb',Yze,if_false,ea]
   obtain⟨v',b1',b2,b3⟩:=ih (j+1) v (zL h) (by omega);refine⟨v',by grind[zF],by grind,fun y=>(b3 y).trans ?_⟩
   constructor
   ·rintro (h|⟨q,z,q1,q2,q3⟩)
    ·grind
    ·exact .inr ⟨q+1,z,by trivial,by grind,q3⟩
   ·grind
theorem zjC(k:Nat)(S:Sl xI)(hS:∀y∈S.els,inR o y=true)(hl:S.els.length≤27):∀(l:List xI) (i:Nat) (v:Sl Zh),S.els.drop i=l→v.els.length+6*l.length≤900→
  ∃v',zJ (zqL (D (k+4)) (I6 (S.els.length:Int)) (enL 2 y3 S) (enL 5 enV o.divs) (enL 1 enU r.stops) (enL 6 enR o.ranks)) [I6 (i:Int)] [ocL y3 v]=some (.exit 0,[],[ocL y3 v'])∧v'.els.length≤v.els.length+6*l.length∧
   ∀y,y∈v'.els↔y∈v.els∨∃c∈l,ziP o r c.rank.toNat c.num y:=by
 intro l
 induction l with
 |nil=>intro i v h _;refine⟨v,zr ?_,by omega,by simp⟩;simp only[zqL,zA,yA,zg,zb,xG (zY h),zh];rfl
 |cons c l ih=>
  intro i v h hv;simp only[Yzp]at hv;have h1:=yw h;obtain⟨n,d,hn,hd,_,_⟩:=jY.1 (hS c (Lz3 (yI h)));have hnl:=(Lz0.1 hd).1;obtain⟨s,hs⟩:∃s,r.stops.els[n]? = some s:=⟨_,Lz5 (by have:=F.rl;omega)⟩;have hsl:=F.sl d (Lz3 hd);obtain⟨v1,c1,c2,c3⟩:=zjA F k n d s hd hs c.num d.stops.els 0 v rfl (by omega);rw[show (I6 ((0:Nat):Int):DV)=I6 0 from rfl]at c1;have ea:zc .add (I6 (i:Int)) (I6 1)=some (I6 ((i+1:Nat):Int)):=yN;have ix:yT 2 (enL 2 y3 S) (I6 (i:Int))=some [I6 (n:Int),I6 c.num]:=by rw[←hn];exact zR h .i64
  have ixd:yT 5 (enL 5 enV o.divs) (I6 (n:Int))=some (enV d):=by rw[y9,hd];rfl
  have i4:atD (enV d) 4=enL 4 xE d.stops:=rfl;have body:zqL (D (k+4)) (I6 (S.els.length:Int)) (enL 2 y3 S) (enL 5 enV o.divs) (enL 1 enU r.stops) (enL 6 enR o.ranks) [I6 (i:Int)] [ocL y3 v]=some (.normal,[I6 ((i+1:Nat):Int)],[ocL y3 v1]):=by simp only[zqL,zA,yA,zg,zb,uV h1,zh,if_true,ix,yM,ixd,i4,zy,c1,z6,Yzl,Yza,ea]
  obtain⟨v',q1,q2,q3⟩:=ih (i+1) v1 (zL h) (by omega);refine⟨v',by rw[zF body,q1],by simp only[Yzp];omega,fun y=>(q3 y).trans ?_⟩;rw[c3 y];have hdr:(∃(q:Nat) (t:Zq),d.stops.els[q]? = some t∧bit s (0+q)=true∧y∈vT o.ranks.els c.num (zbf t c.num).draws.els)↔ziP o r c.rank.toNat c.num y:=by
   rw[show c.rank.toNat=n by omega]
   constructor
   ·rintro⟨q,t,a,b,e⟩
    exact⟨d,s,q,t,hd,hs,a,by rw[Yzi]at b;exact b,e⟩
   ·rintro⟨d',s',q,t,a1,a2,a,b,e⟩
    rw[hd]at a1;cases a1;rw[hs]at a2;cases a2;exact⟨q,t,a,by rw[Yzi];exact b,e⟩
  rw[hdr];simp only[Yzu,exists_eq_or_imp]
  constructor
  ·rintro ((h|h)|h)
   ·exact .inl h
   ·exact .inr (.inl h)
   ·exact .inr (.inr h)
  ·rintro (h|h|h)
   ·exact .inl (.inl h)
   ·exact .inl (.inr h)
   ·exact .inr h
theorem t73(k:Nat)(S:Sl xI)(hS:∀y∈S.els,inR o y=true)(hl:S.els.length≤27):∃u:Sl Zh,D (k+5) 73 [SA (enO o),SA (zW r),S1 (enL 2 y3 S)]=some (S1 (enL 2 y3 u))∧u.els.length≤1000∧u.els.Pairwise ltP∧∀y,y∈u.els↔∃c∈S.els,ziP o r c.rank.toNat c.num y:=by
 obtain⟨v,c1,c2,c3⟩:=zjC F k S hS hl S.els 0 none rfl (by simp;omega);rw[show (I6 ((0:Nat):Int):DV)=I6 0 from rfl,show ocL y3 (none:Sl Zh)=none from rfl]at c1;have hm:∀y,y∈v.els↔∃c∈S.els,ziP o r c.rank.toNat c.num y:=fun y=>(c3 y).trans (by simp);obtain⟨w,u,f1,f2,f3,f4⟩:=zfS v (by simp at c2;omega) fun p hp=>by obtain⟨c',_,d',s',j,t,_,_,_,_,h⟩:=(hm p).1 hp;exact F.sml _ _ p h
 have hul:u.els.length≤v.els.length:=zdM f2 fun z hz=>(f3 z).1 hz;refine⟨u,?_,by simp at c2;omega,f2,fun y=>(f3 y).trans (hm y)⟩;unfold enO zW;rw[D73];unfold P73;simp only[zy,zb,c1,z6,Yzl,Yza,yA,f1,wV,zg,zh,Yzs,show ztN=zal from rfl];rcases f4 with⟨q1,q2⟩|⟨q1,q2⟩
 ·have:((wD w:Nat):Int)<2:=by omega
  rw[Yzd this,q2]
 ·have:¬((wD w:Nat):Int)<2:=by omega
  rw[Yzb this];rcases q2 with q2|q2
  ·rw[q2];simp only[z6,Yzl,Yza,yA,zb7]
  ·rw[q2];rfl
theorem t29(k:Nat)(ho:o.ok)(h0:x4 o=0)(hr:xj o r=0)(n:Nat)(key:Int)(hc:inR o ⟨(n:Int),key⟩=true):∃v:Sl Zh,D (k+13) 29 [SA (enO o),SA (zW r),SA [I6 (n:Int),I6 key]]=some (.tup [.one (enL 2 y3 v),.one (I6 0)])∧zyR o r n key v:=by
 obtain⟨S,s1,s2,s3,s4⟩:=t74 F (k+9) ⟨(n:Int),key⟩ hc;obtain⟨u,u1,u2,u3,u4⟩:=t73 F (k+6) S s4 s2;obtain⟨n',d,hn,hd,_,_⟩:=jY.1 hc;have hnl:=(Lz0.1 hd).1;have c72:=t72 (o:=o) (k+10) ⟨(n:Int),key⟩ (by show 0≤(n:Int);omega) (by show (n:Int)<_;have hn:(n:Int)=(n':Int):=hn;omega);rw[hc,Yzd rfl]at c72;have c35:=t35 (k+1) o ho;have c32:=t32 k o ho r;rw[h0]at c35;rw[hr]at c32;have hlen:yC (.lst 3 [zW r])=some (I6 1):=rfl;have ix:yT 3 (.lst 3 [zW r]) (I6 0)=some (zW r):=rfl;have ad:zc .add (I6 0) (I6 1)=some (I6 1):=rfl;have lt0:zc .lss (I6 0) (I6 1)=some (Bo true):=rfl;have atr:[atD (zW r) 0,atD (zW r) 1,atD (zW r) 2]=zW r:=rfl;have er:zW r=[enL 1 enU r.stops,U64 r.cpls,U64 r.off]:=rfl;unfold enO at c72 c35 c32 s1 u1 ⊢;have c71:D (k+11) 71 [SA [St o.name,enL 6 enR o.ranks,enL 5 enV o.divs,enL 5 enC o.cpls],S1 (.lst 3 [zW r])]=some (S1 (I6 0)):=by
  have b0:zs2 (D (k+10)) (I6 1) (.lst 3 [zW r]) (St o.name) (enL 6 enR o.ranks) (enL 5 enV o.divs) (enL 5 enC o.cpls) [I6 0] []=some (.normal,[I6 1],[]):=by simp only[zs2,zA,lt0,zb,zh,if_true,ix,atr,c32,zG,zM,Yzx,Yzn,Yze,if_false,ad]
  have b1:zs2 (D (k+10)) (I6 1) (.lst 3 [zW r]) (St o.name) (enL 6 enR o.ranks) (enL 5 enV o.divs) (enL 5 enC o.cpls) [I6 1] []=some (.exit 0,[],[]):=rfl;rw[D71];unfold P71;simp only[c35,zG,zM,Yzx,Yzn,zb,zh,Yze,if_false,hlen,zF b0,zr b1,z6,Yzl,Yza]
 have c51:D (k+12) 51 [SA [St o.name,enL 6 enR o.ranks,enL 5 enV o.divs,enL 5 enC o.cpls],SA (zW r),SA [I6 (n:Int),I6 key]]=some (S1 (I6 0)):=by rw[er]at c71 ⊢;rw[D51];unfold P51;simp only[c71,znw,zM,Yzx,Yzn,zb,zh,Yze,if_false,c72,zG]
 have c52:D (k+12) 52 [SA [St o.name,enL 6 enR o.ranks,enL 5 enV o.divs,enL 5 enC o.cpls],SA (zW r),S1 (.lst 2 [[I6 (n:Int),I6 key]])]=some (S1 (enL 2 y3 u)):=by rw[er]at s1 u1 ⊢;rw[D52];unfold P52;simp only[s1,zG,u1]
 refine⟨u,?_,u2,u3,fun y=>(u4 y).trans ?_⟩
 ·rw[er]at c51 c52 ⊢;rw[D29];unfold P29;simp only[c51,zG,zM,Yzx,Yzn,zb,zh,Yze,if_false,c52]
 ·unfold zs5
  constructor
  ·rintro⟨c,hc,h⟩;exact⟨c,(s3 c).1 hc,h⟩
  ·rintro⟨c,hc,h⟩;exact⟨c,(s3 c).2 hc,h⟩
end
end Go.Proofs.Tryz.Kn
end
section
namespace Go.Proofs.Tryz.Kn
open Go Go.CE Go.PE
def qX(l:List Int)(i:Nat):Int:=(l[i]?).getD 0
theorem t60(k:Nat)(b:Reg)(i:Nat):D (k+1) 60 [SA (zW b),S1 (I6 (i:Int))]=some (S1 (U64 (qX b.stops.els i))):=by
 unfold zW;rw[D60];unfold P60 qX;simp only[zy,zb,zg,zh];by_cases h:i<b.stops.els.length
 ·rw[Yzd (uV h),y9,Lz5 h];rfl
 ·rw[Yzb (by rw[xG (by omega)];simp),List.getElem?_eq_none (by omega)];rfl
def wN(b:List Int):List Int→Nat→Bool
 | [],_=>true
 |s::r,i=>(w8 s (qX b i)==0)&&wN b r (i+1)
theorem l36(k:Nat)(a b:Reg)(ha:zaB a):∀(r:List Int) (i:Nat),a.stops.els.drop i=r→
  zJ (zqT (D (k+1)) (I6 (a.stops.els.length:Int)) (enL 1 enU a.stops) (enL 1 enU b.stops) (U64 b.cpls) (U64 b.off)) [I6 (i:Int)] []=some (if wN b.stops.els r i=true then(.exit 0,[],[]) else(.ret,[Bo false],[])):=by
 unfold zaB at ha;intro r
 induction r with
 |nil=>intro i h;refine zr ?_;simp only[zqT,zA,zg,zb,xG (zY h),zh];rfl
 |cons x r ih=>
  intro i h;have h1:=yw h;have ea:zc .add (I6 (i:Int)) (I6 1)=some (I6 ((i+1:Nat):Int)):=yN;have c:=t60 k b i;unfold zW at c;have body:zqT (D (k+1)) (I6 (a.stops.els.length:Int)) (enL 1 enU a.stops) (enL 1 enU b.stops) (U64 b.cpls) (U64 b.off) [I6 (i:Int)] []=some (if w8 x (qX b.stops.els i)=0 then(.normal,[I6 ((i+1:Nat):Int)],[]) else(.ret,[Bo false],[])):=by simp only[zqT,zA,zg,zb,uV h1,zh,if_true,zR h,yM,c,zG,jW,zzd,ea];by_cases hz:w8 x (qX b.stops.els i)=0<;>simp[hz]
  by_cases hc:w8 x (qX b.stops.els i)=0
  ·rw[Yzd hc]at body;rw[zF body,ih (i+1) (zL h)];simp[wN,hc]
  ·rw[Yzb hc]at body;rw[zx body];simp[wN,hc]
def vP(a b:Reg):Bool:=wN b.stops.els a.stops.els 0&&(w8 a.cpls b.cpls==0)&&(w8 a.off b.off==0)
theorem t36(k:Nat)(a b:Reg)(ha:zaB a):D (k+2) 36 [SA (zW a),SA (zW b)]=some (S1 (Bo (vP a b))):=by
 have l:=l36 k a b ha a.stops.els 0 rfl;unfold zW;rw[D36];unfold P36 vP;simp only[zy,zb];rw[show (I6 0:DV)=I6 ((0:Nat):Int) from rfl,l];cases wN b.stops.els a.stops.els 0 with
 |false=>rfl
 |true=>simp only[if_true,z6,Yzl,Yza,jW,zb,xa,zh,YzF];cases w8 a.cpls b.cpls==0<;>rfl
def zbn(l:List Reg):Nat→Option Reg
 |0=>none
 |j+1=>l[j]?
def zqh(o:Org):Option Reg→List Reg→Int
 |_,[]=>0
 |p,r::l=>if xj o r≠0 then xj o r else if p.any (fun q=>!vP q r)=true then 6 else zqh o (some r) l
def jI(o:Org)(l:List Reg):Int:=if x4 o≠0 then x4 o else if 100<l.length then 4 else zqh o none l
theorem l17(k:Nat)(o:Org)(ho:o.ok)(l:Sl Reg)(hl:l.els.length≤9223372036854775807)(hr:∀r∈l.els,zaB r):∀(r:List Reg) (i:Nat),l.els.drop i=r→
  zJ (zqZ (D (k+10)) (I6 (l.els.length:Int)) (enL 3 zW l) (St o.name) (enL 6 enR o.ranks) (enL 5 enV o.divs) (enL 5 enC o.cpls)) [I6 (i:Int)] []=some (ziS 0 (zqh o (zbn l.els i) r)):=by
 intro r
 induction r with
 |nil=>intro i h;refine zr ?_;simp only[zqZ,zA,zg,zb,xG (zY h),zh];rfl
 |cons x r ih=>
  intro i h;have h1:=yw h;have ea:zc .add (I6 (i:Int)) (I6 1)=some (I6 ((i+1:Nat):Int)):=yN;have c:=t32 k o ho x;simp only[enO,zW]at c;have body:zqZ (D (k+10)) (I6 (l.els.length:Int)) (enL 3 zW l) (St o.name) (enL 6 enR o.ranks) (enL 5 enV o.divs) (enL 5 enC o.cpls) [I6 (i:Int)] [] =
    some (if xj o x≠0 then(.ret,[I6 (xj o x)],[]) else if (zbn l.els i).any (fun q=>!vP q x)=true then(.ret,[I6 6],[]) else(.normal,[I6 ((i+1:Nat):Int)],[])):=by
   simp only[zqZ,zA,zg,zb,uV h1,zh,if_true,zR h,zW,yM,y5,c,zG,zM,ye,ea];by_cases hz:xj o x=0
   ·cases i with
    |zero=>simp[hz,zbn]
    |succ j=>
     obtain⟨q,hq⟩:∃q,l.els[j]? = some q:=⟨_,Lz5 (by omega)⟩;have h2:(0:Int)<((j+1:Nat):Int):=by omega
     have es:zc .sub (I6 ((j+1:Nat):Int)) (I6 1)=some (I6 (((j+1:Nat):Int)-1)):=zfO;have e1:((j+1:Nat):Int)-1=(j:Int):=by omega
     rw[e1]at es;have ix:yT 3 (enL 3 zW l) (I6 (j:Int))=some (zW q):=by rw[y9,hq];rfl
     have cw:=t36 (k+8) q x (hr q (Lz3 hq));simp only[zW]at cw;simp only[hz,zbn,hq,Option.any_some,h2,decide_true,if_true,es,zb,ix,zW,y5,yM,cw,zG,yu,Yzx,Yzn,Yze,if_false,ne_eq,not_true_eq_false,zh];cases vP q x<;>rfl
   ·simp[hz]
  have hp:zbn l.els (i+1)=some x:=yI h;unfold zqh;by_cases a1:xj o x≠0
  ·rw[Yzd a1]at body ⊢;rw[zx body];unfold ziS;rw[Yzd a1]
  rw[Yzb a1]at body ⊢;by_cases a2:(zbn l.els i).any (fun q=>!vP q x)=true
  ·rw[Yzd a2]at body ⊢;rw[zx body];rfl
  rw[Yzb a2]at body ⊢;rw[zF body,ih (i+1) (zL h),hp]
theorem t17(k:Nat)(o:Org)(ho:o.ok)(l:Sl Reg)(hl:l.els.length≤9223372036854775807)(hr:∀r∈l.els,zaB r):D (k+11) 17 [SA (enO o),S1 (enL 3 zW l)]=some (S1 (I6 (jI o l.els))):=by
 have c:=t35 (k+1) o ho;have ll:=l17 k o ho l hl hr l.els 0 rfl;unfold enO at c ⊢;rw[D17];unfold P17 jI;simp only[c,zG,zM,zb,zh,zy,ye];by_cases h1:x4 o=0
 ·by_cases h2:100<l.els.length
  ·have h3:(100:Int)<(l.els.length:Int):=by omega
   simp[h1,h2,h3]
  ·have h3:¬((100:Int)<(l.els.length:Int)):=by omega
   rw[show (I6 0:DV)=I6 ((0:Nat):Int) from rfl,ll,show zbn l.els 0=none from rfl];unfold ziS;by_cases h4:zqh o none l.els=0<;>simp[h1,h2,h3,h4]
 ·simp[h1]
def wo(n:Nat):Reg:=⟨some (List.replicate n 0),0,0⟩
theorem zvO(n:Nat):zW (wo n)=[.lst 1 (List.replicate n [U64 0]),U64 0,U64 0]:=by unfold zW wo;rw[zc9,List.map_replicate]
theorem zuN{k:IntKind}{b n:Nat}(hb:b≤4096)(h:n≤1000000):mkN b (.int k (n:Int)) (.int k (n:Int))=some n:=by show (bif Nat.beq n n&&Nat.ble n 1073741824&&Nat.ble (b*n) 281474976710656 then some n else none)=_;have h2:b*n≤4096*1000000:=Nat.mul_le_mul hb h;rw[Yzl,Yzh (by omega),Yzh (by omega)];rfl
theorem t26(k:Nat)(o:Org)(ho:o.ok)(h:x4 o=0):D (k+10) 26 [SA (enO o)]=some (.tup [.agg (zW (wo o.divs.els.length)),.one (I6 0)]):=by have c:=t35 k o ho;have hd:=zjn h;rw[zvO];unfold enO at c ⊢;rw[D26];unfold P26;have m:mkN 8 (I6 (o.divs.els.length:Int)) (I6 (o.divs.els.length:Int))=some o.divs.els.length:=zuN (by decide) (by omega);simp only[c,h,zG,zM,zb,zh,zy,m];rfl
theorem zih(o:Org):∀(l:List Reg) (p:Option Reg),zqh o p l=0→∀r∈l,xj o r=0
 | [],_,_,_,h=>by cases h
 |x::l,p,h,r,hr=>by
  unfold zqh at h;split at h
  ·contradiction
  ·rename_i h1;split at h
   ·cases h
   ·rcases Yzu.1 hr with rfl|hr
    ·exact Classical.not_not.1 h1
    ·exact zih o l _ h r hr
end Go.Proofs.Tryz.Kn
end
section
namespace Go.Proofs.Tryz.Kn
open Go Go.CE Go.PE
open Classical in
noncomputable def zf8(o:Org)(r:Reg)(n:Nat)(key:Int):List Zh:=
 if h:∃l:List Zh,l.Pairwise ltP∧∀y,y∈l↔zs5 o r ⟨(n:Int),key⟩ y then Classical.choose h else[]
theorem ze6{o:Org}{r:Reg}{n:Nat}{key:Int}{v:Sl Zh}(h:zyR o r n key v):v.els=zf8 o r n key:=by have hex:∃l:List Zh,l.Pairwise ltP∧∀y,y∈l↔zs5 o r ⟨(n:Int),key⟩ y:=⟨v.els,h.2⟩;unfold zf8;rw[dif_pos hex];have hc:=Classical.choose_spec hex;exact zhk _ _ h.2.1 hc.1 fun y=>(h.2.2 y).trans (hc.2 y).symm
def zjF(f:Nat→Int→Bool)(n:Nat):Nat→Int→Bool
 |0,_=>false
 |m+1,key=>f n key||zjF f n m (key+1)
def znm(f:Nat→Int→Bool):List Zn→Nat→Bool
 | [],_=>false
 |d::r,n=>zjF f n (d.high-d.low+1).toNat d.low||znm f r (n+1)
noncomputable def zsW(o:Org)(a b:Reg)(n:Nat)(key:Int):Bool:=(zf8 o b n key).any fun p=>!decide (p∈zf8 o a n key)
noncomputable def zkn(o:Org)(a b:Reg):Bool:=znm (zsW o a b) o.divs.els 0
theorem zvu{o:Org}{n:Nat}{d:Zn}{key:Int}(hd:o.divs.els[n]? = some d)(h1:d.low≤key)(h2:key≤d.high):inR o ⟨(n:Int),key⟩=true:=jY.2 ⟨n,d,rfl,hd,h1,h2⟩
theorem t49(k:Nat)(p:Zh)(y:Sl Zh)(hy:y.els.length≤1000):D (k+3) 49 [SA [I6 p.rank,I6 p.num],S1 (.fp [enL 2 y3 y] 0)]=some (S1 (Bo (!decide (p∈y.els)))):=by grind[t30,D49,P49,zG,yu,zb]
theorem l70(k:Nat)(y:Sl Zh)(hy:y.els.length≤1000)(l:Sl Zh)(hl:l.els.length≤1000):∀(r:List Zh) (i:Nat),l.els.drop i=r→
  zJ (zqM (D (k+3)) (I6 (l.els.length:Int)) (enL 2 y3 l) (.fn 49 [[enL 2 y3 y]])) [I6 (i:Int)] []=some (found (xy (fun x=>!decide (x∈y.els)) r i)):=by
 intro r
 induction r with
 |nil=>
  intro i h;refine zr ?_
  grind[zqM,zA,zg,zb,xG,zY,zh]
 |cons x r ih=>
  intro i h;have h1:=yw h;have ea:zc .add (I6 (i:Int)) (I6 1)=some (I6 ((i+1:Nat):Int)):=yN;have c:zhj (D (k+3)) (.fn 49 [[enL 2 y3 y]]) [SA [I6 x.rank,I6 x.num]]=some (S1 (Bo (!decide (x∈y.els)))):=t49 k x y hy;have body:zqM (D (k+3)) (I6 (l.els.length:Int)) (enL 2 y3 l) (.fn 49 [[enL 2 y3 y]]) [I6 (i:Int)] []=some (if x∈y.els then(.normal,[I6 ((i+1:Nat):Int)],[]) else(.ret,[I6 (i:Int)],[])):=by
   simp only[zqM,zA,zg,zb,uV h1,zh,if_true,zR h,y3,yM,y5,c,zG,ea]
   grind
  by_cases hc:x∈y.els
  ·rw[Yzd hc]at body;grind[zF,zL,xy]
  ·rw[Yzb hc]at body;grind[zx,xy,found]
theorem t48(k:Nat)(y:Sl Zh)(hy:y.els.length≤1000)(l:Sl Zh)(hl:l.els.length≤1000):D (k+5) 48 [S1 (enL 2 y3 l),S1 (.fn 49 [[enL 2 y3 y]])]=some (S1 (Bo (l.els.any fun x=>!decide (x∈y.els)))):=by
 have c:=l70 k y hy l hl l.els 0 rfl;have hs:=wi (fun x=>!decide (x∈y.els)) l.els 0;rw[D48];unfold P48;rw[D70];unfold P70;rw[show (I6 ((0:Nat):Int):DV)=I6 0 from rfl]at c;simp only[zy,zb,c];rw[←hs];cases hf:xy (fun x=>!decide (x∈y.els)) l.els 0 with
 |none=>rfl
 |some j=>simp only[found,zpt,zA,zG,x7,zb,Option.isSome_some];rw[decide_eq_true (by omega)]
section
variable {o:Org} (ho:o.ok) (h0:x4 o=0) {a b:Reg} (FA:Fit o a) (FB:Fit o b) (ha:xj o a=0) (hb:xj o b=0)
include ho h0 FA FB ha hb
theorem zz9(k n:Nat)(d:Zn)(hd:o.divs.els[n]? = some d)(c0:DV):∀(m:Nat) (key:Int),key+(m:Int)=d.high+1→d.low≤key→
  zJ (zqX (D (k+13)) (enV d) (St o.name) (enL 6 enR o.ranks) (enL 5 enV o.divs) (enL 5 enC o.cpls) (enL 1 enU a.stops) (U64 a.cpls) (U64 a.off) [I6 (n:Int),c0] (enL 1 enU b.stops) (U64 b.cpls) (U64 b.off)) [I6 key,Bo false] []=some (if zjF (zsW o a b) n m key=true then(.ret,[I6 0,Bo true],[]) else(.exit 2,[Bo false],[])):=by
 have rng:=FA.rng d (Lz3 hd);intro m
 induction m with
 |zero=>intro key h _;refine zr ?_;simp only[zqX,zA,xq,enV,yM,y5,zao,zb,decide_eq_false (show ¬key≤d.high by omega),zh];rfl
 |succ m ih=>
  intro key h h1;have hin:=zvu hd h1 (by omega);obtain⟨v,cv,tv⟩:=t29 FA k ho h0 ha n key hin;obtain⟨w,cw,tw⟩:=t29 FB k ho h0 hb n key hin;have cf:=t48 (k+8) v tv.1 w tw.1;rw[ze6 tv,ze6 tw]at cf;have ea:zc .add (I6 key) (I6 1)=some (I6 (key+1)):=yN;unfold enO zW at cv cw;have body:zqX (D (k+13)) (enV d) (St o.name) (enL 6 enR o.ranks) (enL 5 enV o.divs) (enL 5 enC o.cpls) (enL 1 enU a.stops) (U64 a.cpls) (U64 a.off) [I6 (n:Int),c0] (enL 1 enU b.stops) (U64 b.cpls) (U64 b.off) [I6 key,Bo false] []=some (if zsW o a b n key=true then(.ret,[I6 0,Bo true],[]) else(.normal,[I6 (key+1),Bo false],[])):=by unfold zsW;simp only[zqX,zA,xq,enV,yM,y5,zao,zb,decide_eq_true (show key≤d.high by omega),zh,if_true,cv,cw,bT2,qZ,uB,cf,zyo,ea];split<;>rfl
  by_cases hc:zsW o a b n key=true
  ·rw[Yzd hc]at body;rw[zx body];simp[zjF,hc]
  ·rw[Yzb hc]at body;rw[zF body,ih (key+1) (by omega) (by omega)];simp[zjF,hc]
theorem zAd(k:Nat):∀(r:List Zn) (i:Nat),o.divs.els.drop i=r→
  zJ (zqY (D (k+13)) (I6 (o.divs.els.length:Int)) (enL 5 enV o.divs) (St o.name) (enL 6 enR o.ranks) (enL 5 enC o.cpls) (enL 1 enU a.stops) (U64 a.cpls) (U64 a.off) (enL 1 enU b.stops) (U64 b.cpls) (U64 b.off)) [I6 (i:Int),Bo false] []=some (if znm (zsW o a b) r i=true then(.ret,[I6 0,Bo true],[]) else(.exit 0,[Bo false],[])):=by
 have hdl:=FA.dl;intro r
 induction r with
 |nil=>intro i h;refine zr ?_;simp only[zqY,zA,xq,zg,zb,xG (zY h),zh];rfl
 |cons d r ih=>
  intro i h;have hlt:=yw h;have rng:=FA.rng d (Lz3 (yI h));have ea:zc .add (I6 (i:Int)) (I6 1)=some (I6 ((i+1:Nat):Int)):=yN;have l9:=zz9 ho h0 FA FB ha hb k i d (yI h) (Bo false) (d.high-d.low+1).toNat d.low (by omega) (by omega);have d2:atD (enV d) 2=I6 d.low:=rfl;have body:zqY (D (k+13)) (I6 (o.divs.els.length:Int)) (enL 5 enV o.divs) (St o.name) (enL 6 enR o.ranks) (enL 5 enC o.cpls) (enL 1 enU a.stops) (U64 a.cpls) (U64 a.off) (enL 1 enU b.stops) (U64 b.cpls) (U64 b.off) [I6 (i:Int),Bo false] []=some (if zjF (zsW o a b) i (d.high-d.low+1).toNat d.low=true then(.ret,[I6 0,Bo true],[]) else(.normal,[I6 ((i+1:Nat):Int),Bo false],[])):=by
   simp only[zqY,zA,xq,zg,zb,uV hlt,zh,if_true,zR h,d2,l9];split
   ·rfl
   ·simp only[z6,Yzl,Yza,ea,zb,zA]
  by_cases hc:zjF (zsW o a b) i (d.high-d.low+1).toNat d.low=true
  ·rw[Yzd hc]at body;rw[zx body];simp[znm,hc]
  ·rw[Yzb hc]at body;rw[zF body,ih (i+1) (zL h)];simp[znm,hc]
theorem t27(k:Nat):D (k+14) 27 [SA (enO o),SA (zW a),SA (zW b)]=some (S1 (Bo (zkn o a b))):=by have l3:=zAd ho h0 FA FB ha hb k o.divs.els 0 rfl;rw[show (I6 ((0:Nat):Int):DV)=I6 0 from rfl]at l3;unfold enO zW zkn;rw[D27];unfold P27;simp only[zy,zb,l3];cases znm (zsW o a b) o.divs.els 0<;>rfl
end
noncomputable def kQ(o:Org):Reg→List Reg→Nat→List Nat
 |_,[],_=>[]
 |a,b::l,i=>if zkn o a b=true then kQ o b l (i+1) else i::kQ o b l (i+1)
def enG(n:Nat):List DV:=[I6 (n:Int)]
section
variable {o:Org} (ho:o.ok) (h0:x4 o=0) (hF:∀r:Reg,xj o r=0→Fit o r)
include ho h0 hF
theorem zCB(k:Nat)(l:Sl Reg)(hl:l.els.length≤100)(hr:∀r∈l.els,xj o r=0):∀(r:List Reg) (i:Nat) (a:Reg) (acc:List Nat),l.els.drop i=r→acc.length≤i→xj o a=0→
  ∃z:Reg,zJ (zyI (D (k+14)) (I6 (l.els.length:Int)) (enL 3 zW l) (St o.name) (enL 6 enR o.ranks) (enL 5 enV o.divs) (enL 5 enC o.cpls)) [I6 (i:Int),enL 1 enU a.stops,U64 a.cpls,U64 a.off] [ocL enG (grow acc)]=some (.exit 0,[enL 1 enU z.stops,U64 z.cpls,U64 z.off],[ocL enG (grow (acc++kQ o a r i))]):=by
 intro r
 induction r with
 |nil=>intro i a acc h _ _;refine⟨a,zr ?_⟩;simp only[zyI,zA,xq,yA,zg,zb,xG (zY h),zh,kQ,List.append_nil];rfl
 |cons b r ih=>
  intro i a acc h hacc ha;have hlt:=yw h;have hb:=hr b (Lz3 (yI h));have ca:=t27 ho h0 (hF a ha) (hF b hb) ha hb k;have ea:zc .add (I6 (i:Int)) (I6 1)=some (I6 ((i+1:Nat):Int)):=yN;have ef:fits 8 ((grow acc).els.length+1)=true:=wx (by decide) (by rw[yk];omega);have hp:(some ((grow acc).els.map enG++[[I6 (i:Int)]]):OC)=ocL enG (grow (acc++[i])):=by rw[wv,←vI];rfl
  unfold enO zW at ca;have body:zyI (D (k+14)) (I6 (l.els.length:Int)) (enL 3 zW l) (St o.name) (enL 6 enR o.ranks) (enL 5 enV o.divs) (enL 5 enC o.cpls) [I6 (i:Int),enL 1 enU a.stops,U64 a.cpls,U64 a.off] [ocL enG (grow acc)]=some (.normal,[I6 ((i+1:Nat):Int),enL 1 enU b.stops,U64 b.cpls,U64 b.off],[ocL enG (grow (if zkn o a b=true then acc else acc++[i]))]):=by simp only[zyI,zA,xq,yA,zg,zb,uV hlt,zh,if_true,zR h,zW,yM,y5,ca,zG,yu,xU,ef,wY,ea,xg,hp];cases zkn o a b<;>rfl
  obtain⟨z,hz⟩:=ih (i+1) b (if zkn o a b=true then acc else acc++[i]) (zL h) (by split;omega;simp only[YzJ,Yzp,Yyc];omega) hb;refine⟨z,?_⟩;rw[zF body,hz];by_cases hq:zkn o a b=true
  ·simp[kQ,hq]
  ·simp[kQ,hq]
theorem t9(k:Nat)(hd:o.divs.els.length≤3)(l:Sl Reg)(hl:l.els.length≤100)(hz:xj o (wo o.divs.els.length)=0)(hc:jI o l.els=0):D (k+15) 9 [SA (enO o),S1 (enL 3 zW l)]=some (.tup [.one (enL 1 enG (grow (kQ o (wo o.divs.els.length) l.els 0))),.one (I6 0)]):=by
 have hcg:zqh o none l.els=0:=by unfold jI at hc;rw[Yzb (by simp[h0]),Yzb (by omega)]at hc;exact hc
 have hr:=zih o l.els none hcg;have c17:=t17 (k+3) o ho l (by omega) fun r h=>by have:=(hF r (hr r h)).rl;unfold zaB;omega
 have c26:=t26 (k+4) o ho h0;obtain⟨z,l7⟩:=zCB ho h0 hF k l hl hr l.els 0 (wo o.divs.els.length) [] rfl (LzB _) hz;rw[show (I6 ((0:Nat):Int):DV)=I6 0 from rfl,show ocL enG (grow ([]:List Nat))=none from rfl,Yyh]at l7;have er:zW (wo o.divs.els.length)=[enL 1 enU (wo o.divs.els.length).stops,U64 (wo o.divs.els.length).cpls,U64 (wo o.divs.els.length).off]:=rfl;have zvY:∀{β:Type} (a b c v:DV) (K:List DS→Option β),bT [some 3,none] (some (.tup [.agg [a,b,c],.one v])) K=K [.agg [a,b,c],.one v]:=fun _ _ _ _ _=>rfl;rw[hc]at c17;rw[er]at c26;unfold enO at c17 c26 ⊢;rw[D9];unfold P9;simp only[c17,zG,zM,Yzx,Yzn,zb,zh,Yze,if_false,c26,zvY,qZ,zef,uB,za2,yM,y5,zy,l7,z6,Yzl,Yza,yA,zb7]
end
end Go.Proofs.Tryz.Kn
end
section
namespace Go.Proofs.Tryz.Kn
open Go Go.CE Go.PE
theorem zhL:∀(ds:List Zn) (n:Nat),zcA ds (List.replicate n 0)=false
 | [],0=>rfl
 | [],_+1=>rfl
 |_::_,0=>rfl
 |d::ds,n+1=>by rw[List.replicate_succ,zcA,zkE,zhL ds n];rfl
theorem zjf{o:Org}(h:x4 o=0):xj o (wo o.divs.els.length)=0:=by unfold xj wo;simp only[vN,Yz9,zhL,zkE];rw[Yzb (by rw[h];simp)];simp
theorem zvH(p:Pln)(hf:zea p=true)(r:Reg)(hr:r.stops.els.length=(zeE p).divs.els.length):Fit (zeE p) r:=by have F:=zAB p hf fun _=>0;exact⟨F.dl,F.cl,F.sl,F.rng,F.dst,F.shf,F.stp,F.sml,hr⟩
theorem zmD{o:Org}{r:Reg}(h0:x4 o=0)(h:xj o r=0):r.stops.els.length=o.divs.els.length:=by unfold xj at h;rw[Yzb (by simp[h0])]at h;refine Classical.not_not.1 fun hne=>?_;rw[Yzd hne]at h;cases h
theorem zde{β:Type}(a b:DV)(K:List DS→Option β):bT [none,none] (some (.tup [.one a,.one b])) K=K [.one a,.one b]:=rfl
end Go.Proofs.Tryz.Kn
end
