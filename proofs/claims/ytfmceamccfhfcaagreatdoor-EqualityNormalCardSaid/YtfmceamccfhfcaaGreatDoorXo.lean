/-
  Lemmas. No condition.
-/
import Derived.Test.YtfmceamccfhfcaaGreatDoorWn
import Derived.Test.YtfmceamccfhfcaaGreatDoorVd
import Derived.Test.YtfmceamccfhfcaaGreatDoorTie
import Derived.Test.YtfmceamccfhfcaaGreatDoorCards
import Derived.LaidMore
import Derived.Stop.Joined
import Derived.Carry
import Derived.Lib.SmallJoins
noncomputable section
namespace Go.Proofs.YtfmceamccfhfcaaGreatDoor
open Go Go.CE Go.PE Go.ChangeShapes Go.WideShapes Go.ChangeAt Go.RowKit Go.Proofs.Tryz.Kn Go.Joins
set_option maxRecDepth 100000
namespace Law
theorem own:ownKnob Tryz.prog.godebug=none:=by kernel_rfl
theorem laidOut:laidOutB Tryz.prog=true:=by kernel_rfl
theorem room(k:Nat):(FR none).room k:=by first|trivial|simp[Fence.room,Fence.wide]
def zpp:List (String×DataW Unit):=[("math/bits.deBruijn32tab",Rows.laid_math_bits_deBruijn32tab),("math/bits.deBruijn64tab",Rows.laid_math_bits_deBruijn64tab),("internal/strconv.uint64pow10",Rows.laid_internal_strconv_uint64pow10)]
theorem zs1(os:Os)(args:Array Value):laidMetH Tryz.prog zpp ((World.doorLaid Tryz.prog 400 os).forCall (fun _ _=>0) ⟨#[],args,[]⟩).memory:=
 laidMetH_of_parts3 (fuel:=8) (laidMet_of_run' 8 (by kernel_rfl) (by kernel_rfl)) (by kernel_rfl) (by kernel_rfl)
theorem g64:Tryz.prog.globalNamed "math/bits.deBruijn64tab" = some 3:=by kernel_rfl
theorem gpow:Tryz.prog.globalNamed "internal/strconv.uint64pow10" = some 1:=by kernel_rfl
def t64:TypeId:=((Tryz.prog.globals[3]?).map (·.type)).getD 0
def zzD:TypeId:=((Tryz.prog.globals[1]?).map (·.type)).getD 0
def n64:List Nat:=((zbd 3).getD (.u8,[])).2
def npow:List Nat:=((zbd 1).getD (.u8,[])).2
theorem zyr:zbd 3=some (.u8,n64):=rfl
theorem zv8:zbd 1=some (.u64,npow):=rfl
theorem zAI:(Rows.laid_math_bits_deBruijn64tab:DataW Unit)=.agg (n64.map (zyd .u8)):=rfl
theorem zyc:(Rows.laid_internal_strconv_uint64pow10:DataW Unit)=.agg (npow.map (zyd .u64)):=rfl
def elemOf(t:TypeId):TypeId:=match Tryz.prog.underlying t with|some (.array _ e)=>e|_=>0
theorem e64:∃n e,Tryz.prog.underlying t64=some (.array n e)∧Tryz.prog.underlying e=some (.int .u8)∧Tryz.prog.cellsOf e=1:=⟨64,elemOf t64,by kernel_rfl,by kernel_rfl,by kernel_rfl⟩
theorem zD1:∃n e,Tryz.prog.underlying zzD=some (.array n e)∧Tryz.prog.underlying e=some (.int .u64)∧Tryz.prog.cellsOf e=1:=⟨20,elemOf zzD,by kernel_rfl,by kernel_rfl,by kernel_rfl⟩
theorem zpH{g:Nat}(h1:g≠3)(h2:g≠1):zbd g=none:=by
 unfold zbd;split
 ·exact absurd rfl h1
 ·exact absurd rfl h2
 ·rfl
theorem zA6{W:World}(h:laidMetH Tryz.prog zpp W):GOk W:=by
 rw[MakeChecks.laidMetH_plain _ _ _ (by kernel_rfl)]at h;obtain⟨ps,⟨g0,t0,cs0,f0,p0,q0,hg0,ht0,hv0,hd0,⟨g1,t1,cs1,f1,p1,q1,hg1,ht1,hv1,hd1,⟨g2,t2,cs2,f2,p2,q2,hg2,ht2,hv2,hd2,_,_⟩,_⟩,_⟩,_,_⟩:=h;obtain rfl:=Option.some.inj (g64.symm.trans hg1);obtain rfl:=Option.some.inj (gpow.symm.trans hg2);have k1:t1=t64:=by unfold t64;rw[ht1];rfl
 have k2:t2=zzD:=by unfold zzD;rw[ht2];rfl
 subst k1 k2;rw[zAI]at hd1;rw[zyc]at hd2;obtain⟨n1,e1,a1,a2,a3⟩:=e64;obtain⟨n2,e2,b1,b2,b3⟩:=zD1;intro g off c hc;by_cases c1:g=3
 ·subst c1;exact ztQ zyr (fun off m hm=>zhm hg1 a1 a2 a3 hv1 hd1 hm) hc
 by_cases c2:g=1
 ·subst c2;exact ztQ zv8 (fun off m hm=>zhm hg2 b1 b2 b3 hv2 hd2 hm) hc
 ·unfold zdV at hc;rw[zpH c1 c2]at hc;cases hc
theorem zn6{α:Type}{f:α→List DV}{q:α→Prop}:∀{xs:List (List DV)},(∀x∈xs,∃a,x=f a∧q a)→∃l:List α,xs=l.map f∧∀a∈l,q a
 | [],_=>⟨[],rfl,fun a h=>by cases h⟩
 |x::xs,H=>by
  obtain⟨a,rfl,h1⟩:=H x (Yzh ..);obtain⟨l,rfl,h2⟩:=zn6 fun y hy=>H y (Yzf _ hy);exact⟨a::l,rfl,fun b hb=>by
   rcases YzA.1 hb with rfl|hb
   ·exact h1
   ·exact h2 b hb⟩
theorem jO{n t:Nat}{fs:Array Field}{ds:List DV}(e:Tryz.prog.underlying t=some (.struct fs))(h:Ty Tryz.prog (n+1) t ds):zwA (Ty Tryz.prog n) (fs.toList.map (·.type)) ds:=by rw[Ty,e]at h;exact h
theorem zrx{n t k el:Nat}{ds:List DV}(e:Tryz.prog.underlying t=some (.array k el))(h:Ty Tryz.prog (n+1) t ds):zwA (Ty Tryz.prog n) (List.replicate k el) ds:=by rw[Ty,e]at h;exact h
theorem zrt{n t el:Nat}{ds:List DV}(e:Tryz.prog.underlying t=some (.slice el))(h:Ty Tryz.prog (n+1) t ds):ds=[.nils]∨∃xs,ds=[.lst (Tryz.prog.cellsOf el) xs]∧xs.length≤maxLen∧∀x∈xs,Ty Tryz.prog n el x:=by rw[Ty,e]at h;exact h
theorem ztq{n t:Nat}{k:IntKind}{ds:List DV}(e:Tryz.prog.underlying t=some (.int k))(h:Ty Tryz.prog (n+1) t ds):∃m,ds=[.int k m]∧(Lit.int k m).wf=true:=by rw[Ty,e]at h;exact h
theorem znv{n t:Nat}{ds:List DV}(e:Tryz.prog.underlying t=some .bool)(h:Ty Tryz.prog (n+1) t ds):∃b,ds=[.bool b]:=by rw[Ty,e]at h;exact h
theorem qh{n:Nat}{ds:List DV}(h:Ty Tryz.prog (n+1) 5 ds):∃m:Nat,ds=[U8 (m:Int)]∧m<256:=by obtain⟨m,rfl,hw⟩:=ztq Tryz.underlying5 h;simp only[Lit.wf]at hw;rw[LzC]at hw;have a:=of_decide_eq_true hw.1;have b:=of_decide_eq_true hw.2;have a:0≤m:=a;have b:m≤255:=b;exact⟨m.toNat,by rw[Int.toNat_of_nonneg a],by omega⟩
theorem zw2{n:Nat}{ds:List DV}(h:Ty Tryz.prog (n+1) 87 ds):∃m:Int,ds=[.int .i8 m]∧-128≤m∧m≤127:=by obtain⟨m,rfl,hw⟩:=ztq Tryz.underlying87 h;simp only[Lit.wf]at hw;rw[LzC]at hw;have a:=of_decide_eq_true hw.1;have b:=of_decide_eq_true hw.2;exact⟨m,rfl,a,b⟩
def zCl(a b c d e:Nat):Nat→Nat
 |0=>a
 |1=>b
 |2=>c
 |3=>d
 |4=>e
 |_=>0
theorem znw{n:Nat}{ds:List DV}(h:Ty Tryz.prog (n+2) 27 ds):∃b:Nat→Nat,ds=enB b∧∀i,b i<256:=by have h:=zrx Tryz.underlying27 h;obtain⟨a0,b0,rfl,h0,a1,b1,rfl,h1,a2,b2,rfl,h2,a3,b3,rfl,h3,a4,b4,rfl,h4,rfl⟩:=h;obtain⟨m0,rfl,l0⟩:=qh h0;obtain⟨m1,rfl,l1⟩:=qh h1;obtain⟨m2,rfl,l2⟩:=qh h2;obtain⟨m3,rfl,l3⟩:=qh h3;obtain⟨m4,rfl,l4⟩:=qh h4;refine⟨zCl m0 m1 m2 m3 m4,rfl,fun i=>?_⟩;unfold zCl;split<;>omega
theorem zyZ:Tryz.prog.cellsOf 89=9:=by kernel_rfl
theorem zy3:Tryz.prog.cellsOf 82=4:=by kernel_rfl
theorem zBn:Tryz.prog.cellsOf 95=4:=by kernel_rfl
theorem zBm:Tryz.prog.cellsOf 93=4:=by kernel_rfl
theorem zrv{n:Nat}{ds:List DV}(h:Ty Tryz.prog (n+3) 89 ds):∃r:RPl,ds=zge r∧r.ok:=by have h:=jO Tryz.underlying89 h;obtain⟨a0,b0,rfl,h0,a1,b1,rfl,h1,a2,b2,rfl,h2,a3,b3,rfl,h3,a4,b4,rfl,h4,rfl⟩:=h;obtain⟨m0,rfl,l0⟩:=qh h0;obtain⟨m1,rfl,l1⟩:=qh h1;obtain⟨m2,rfl,l2,l2'⟩:=zw2 h2;obtain⟨m3,rfl,l3⟩:=qh h3;obtain⟨b,rfl,l4⟩:=znw h4;exact⟨⟨m0,m1,m2,m3,b 0,b 1,b 2,b 3,b 4⟩,rfl,⟨l0,l1,l2,l2',l3,l4 0,l4 1,l4 2,l4 3,l4 4⟩⟩
theorem zuq{n:Nat}{ds:List DV}(h:Ty Tryz.prog (n+2) 93 ds):∃r:Pul,ds=zjA r∧r.ok:=by have h:=jO Tryz.underlying93 h;obtain⟨a0,b0,rfl,h0,a1,b1,rfl,h1,a2,b2,rfl,h2,a3,b3,rfl,h3,rfl⟩:=h;obtain⟨m0,rfl,l0⟩:=qh h0;obtain⟨m1,rfl,l1⟩:=qh h1;obtain⟨m2,rfl,l2⟩:=qh h2;obtain⟨m3,rfl,l3⟩:=qh h3;exact⟨⟨m0,m1,m2,m3⟩,rfl,⟨l0,l1,l2,l3⟩⟩
theorem zus{n:Nat}{ds:List DV}(h:Ty Tryz.prog (n+2) 95 ds):∃r:Lnk,ds=zm3 r∧r.ok:=by have h:=jO Tryz.underlying95 h;obtain⟨a0,b0,rfl,h0,a1,b1,rfl,h1,a2,b2,rfl,h2,a3,b3,rfl,h3,rfl⟩:=h;obtain⟨m0,rfl,l0⟩:=qh h0;obtain⟨m1,rfl,l1⟩:=qh h1;obtain⟨m2,rfl,l2,l2'⟩:=zw2 h2;obtain⟨m3,rfl⟩:=znv Tryz.underlying4 h3;exact⟨⟨m0,m1,m2,m3⟩,rfl,⟨l0,l1,l2,l2'⟩⟩
theorem zru{α:Type}{f:α→List DV}{q:α→Prop}{n t el st:Nat}{ds:List DV}(e:Tryz.prog.underlying t=some (.slice el))(c:Tryz.prog.cellsOf el=st)(H:∀x,Ty Tryz.prog n el x→∃a,x=f a∧q a)(h:Ty Tryz.prog (n+1) t ds):
  ∃l:PE.Sl α,ds=[enL st f l]∧l.els.length≤9223372036854775807∧∀a∈l.els,q a:=by
 rcases zrt e h with rfl|⟨xs,rfl,h1,h2⟩
 ·exact⟨none,rfl,Yzu _,fun a h=>by cases h⟩
 ·obtain⟨l,rfl,h3⟩:=zn6 (f:=f) (q:=q) fun x hx=>H x (h2 x hx);rw[Yzq]at h1;exact⟨some l,by rw[c,w7],Yzr h1 (by decide),h3⟩
theorem zrw{n:Nat}{ds:List DV}(h:Ty Tryz.prog (n+4) 82 ds):∃r:Boa,ds=kH r∧r.ok:=by have h:=jO Tryz.underlying82 h;obtain⟨a0,b0,rfl,h0,a1,b1,rfl,h1,a2,b2,rfl,h2,a3,b3,rfl,h3,rfl⟩:=h;obtain⟨m0,rfl,l0⟩:=qh h0;obtain⟨m1,rfl,l1⟩:=qh h1;obtain⟨m2,rfl⟩:=znv Tryz.underlying4 h2;obtain⟨l,rfl,l3,l4⟩:=zru (f:=zjA) (q:=Pul.ok) Tryz.underlying80 zBm (fun x hx=>zuq hx) h3;exact⟨⟨m0,m1,m2,l⟩,rfl,⟨l0,l1,l3,l4⟩⟩
theorem zur{ds:List DV}(h:Ty Tryz.prog 6 26 ds):∃p:Pln,ds=zgf p∧p.ok:=by have h:=jO Tryz.underlying26 h;obtain⟨a0,b0,rfl,h0,a1,b1,rfl,h1,a2,b2,rfl,h2,rfl⟩:=h;obtain⟨r,rfl,r1,r2⟩:=zru (f:=zge) (q:=RPl.ok) Tryz.underlying22 zyZ (fun x hx=>zrv hx) h0;obtain⟨d,rfl,d1,d2⟩:=zru (f:=kH) (q:=Boa.ok) Tryz.underlying23 zy3 (fun x hx=>zrw hx) h1;obtain⟨c,rfl,c1,c2⟩:=zru (f:=zm3) (q:=Lnk.ok) Tryz.underlying24 zBn (fun x hx=>zus hx) h2;exact⟨⟨r,d,c⟩,rfl,⟨r1,r2,d1,d2,c1,c2⟩⟩
theorem zxw:Tryz.prog.readableRec 26=true:=by kernel_rfl
theorem zx9:26<Tryz.prog.types.size:=of_decide_eq_true (by kernel_rfl)
theorem zyU:zb3 Tryz.prog 6 26=true:=by kernel_rfl
theorem zxx:Tryz.prog.readableRec 27=true:=by kernel_rfl
theorem zya:27<Tryz.prog.types.size:=of_decide_eq_true (by kernel_rfl)
theorem zyV:zb3 Tryz.prog 2 27=true:=by kernel_rfl
end Law
end Go.Proofs.YtfmceamccfhfcaaGreatDoor
end
