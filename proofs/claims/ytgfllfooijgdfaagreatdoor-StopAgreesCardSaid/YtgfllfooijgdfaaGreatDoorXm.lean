/-
  Lemmas. No condition.
-/
import Derived.Test.YtgfllfooijgdfaaGreatDoorWl
import Derived.Test.YtgfllfooijgdfaaGreatDoorVd
import Derived.Test.YtgfllfooijgdfaaGreatDoorTie
import Derived.Test.YtgfllfooijgdfaaGreatDoorCards
import Derived.LaidMore
import Derived.Stop.Joined
import Derived.Carry
import Derived.Lib.SmallJoins
noncomputable section
namespace Go.Proofs.YtgfllfooijgdfaaGreatDoor
open Go Go.CE Go.PE Go.ChangeShapes Go.WideShapes Go.ChangeAt Go.RowKit Go.Proofs.Tryz.Kn Go.Joins
set_option maxRecDepth 100000
namespace Law
theorem own:ownKnob Tryz.prog.godebug=none:=by kernel_rfl
theorem laidOut:laidOutB Tryz.prog=true:=by kernel_rfl
theorem room(k:Nat):(FR none).room k:=by first|trivial|simp[Fence.room,Fence.wide]
def zkK:List (String×DataW Unit):=[("math/bits.deBruijn32tab",Rows.laid_math_bits_deBruijn32tab),("math/bits.deBruijn64tab",Rows.laid_math_bits_deBruijn64tab),("internal/strconv.uint64pow10",Rows.laid_internal_strconv_uint64pow10)]
theorem zn3(os:Os)(args:Array Value):laidMetH Tryz.prog zkK ((World.doorLaid Tryz.prog 400 os).forCall (fun _ _=>0) ⟨#[],args,[]⟩).memory:=
 laidMetH_of_parts3 (fuel:=8) (laidMet_of_run' 8 (by kernel_rfl) (by kernel_rfl)) (by kernel_rfl) (by kernel_rfl)
theorem g64:Tryz.prog.globalNamed "math/bits.deBruijn64tab" = some 3:=by kernel_rfl
theorem gpow:Tryz.prog.globalNamed "internal/strconv.uint64pow10" = some 1:=by kernel_rfl
def t64:TypeId:=((Tryz.prog.globals[3]?).map (·.type)).getD 0
def ztv:TypeId:=((Tryz.prog.globals[1]?).map (·.type)).getD 0
def n64:List Nat:=((kV 3).getD (.u8,[])).2
def npow:List Nat:=((kV 1).getD (.u8,[])).2
theorem zsW:kV 3=some (.u8,n64):=rfl
theorem zqO:kV 1=some (.u64,npow):=rfl
theorem zux:(Rows.laid_math_bits_deBruijn64tab:DataW Unit)=.agg (n64.map (zsI .u8)):=rfl
theorem zsH:(Rows.laid_internal_strconv_uint64pow10:DataW Unit)=.agg (npow.map (zsI .u64)):=rfl
def elemOf(t:TypeId):TypeId:=match Tryz.prog.underlying t with|some (.array _ e)=>e|_=>0
theorem e64:∃n e,Tryz.prog.underlying t64=some (.array n e)∧Tryz.prog.underlying e=some (.int .u8)∧Tryz.prog.cellsOf e=1:=⟨64,elemOf t64,by kernel_rfl,by kernel_rfl,by kernel_rfl⟩
theorem zwP:∃n e,Tryz.prog.underlying ztv=some (.array n e)∧Tryz.prog.underlying e=some (.int .u64)∧Tryz.prog.cellsOf e=1:=⟨20,elemOf ztv,by kernel_rfl,by kernel_rfl,by kernel_rfl⟩
theorem zlw{g:Nat}(h1:g≠3)(h2:g≠1):kV g=none:=by
 unfold kV;split
 ·exact absurd rfl h1
 ·exact absurd rfl h2
 ·rfl
theorem zu8{W:World}(h:laidMetH Tryz.prog zkK W):GOk W:=by
 rw[MakeChecks.laidMetH_plain _ _ _ (by kernel_rfl)]at h;obtain⟨ps,⟨g0,t0,cs0,f0,p0,q0,hg0,ht0,hv0,hd0,⟨g1,t1,cs1,f1,p1,q1,hg1,ht1,hv1,hd1,⟨g2,t2,cs2,f2,p2,q2,hg2,ht2,hv2,hd2,_,_⟩,_⟩,_⟩,_,_⟩:=h;obtain rfl:=Option.some.inj (g64.symm.trans hg1);obtain rfl:=Option.some.inj (gpow.symm.trans hg2);have k1:t1=t64:=by unfold t64;rw[ht1];rfl
 have k2:t2=ztv:=by unfold ztv;rw[ht2];rfl
 subst k1 k2;rw[zux]at hd1;rw[zsH]at hd2;obtain⟨n1,e1,a1,a2,a3⟩:=e64;obtain⟨n2,e2,b1,b2,b3⟩:=zwP;intro g off c hc;by_cases c1:g=3
 ·subst c1;exact zoL zsW (fun off m hm=>zej hg1 a1 a2 a3 hv1 hd1 hm) hc
 by_cases c2:g=1
 ·subst c2;exact zoL zqO (fun off m hm=>zej hg2 b1 b2 b3 hv2 hd2 hm) hc
 ·unfold zbv at hc;rw[zlw c1 c2]at hc;cases hc
theorem jC{n t:Nat}{fs:Array Field}{ds:List DV}(e:Tryz.prog.underlying t=some (.struct fs))(h:Ty Tryz.prog (n+1) t ds):zq5 (Ty Tryz.prog n) (fs.toList.map (·.type)) ds:=by rw[Ty,e]at h;exact h
theorem qQ{n t k el:Nat}{ds:List DV}(e:Tryz.prog.underlying t=some (.array k el))(h:Ty Tryz.prog (n+1) t ds):zq5 (Ty Tryz.prog n) (List.replicate k el) ds:=by rw[Ty,e]at h;exact h
theorem zol{n t:Nat}{k:IntKind}{ds:List DV}(e:Tryz.prog.underlying t=some (.int k))(h:Ty Tryz.prog (n+1) t ds):∃m,ds=[.int k m]∧(Lit.int k m).wf=true:=by rw[Ty,e]at h;exact h
theorem zbp{n:Nat}{ds:List DV}(h:Ty Tryz.prog (n+1) 5 ds):∃m:Nat,ds=[U8 (m:Int)]∧m<256:=by obtain⟨m,rfl,hw⟩:=zol Tryz.underlying5 h;simp only[Lit.wf]at hw;rw[LzC]at hw;have a:=of_decide_eq_true hw.1;have b:=of_decide_eq_true hw.2;have a:0≤m:=a;have b:m≤255:=b;exact⟨m.toNat,by rw[Int.toNat_of_nonneg a],by omega⟩
theorem zrB{n:Nat}{ds:List DV}(h:Ty Tryz.prog (n+1) 28 ds):∃m:Int,ds=[.int .i8 m]∧-128≤m∧m≤127:=by obtain⟨m,rfl,hw⟩:=zol Tryz.underlying28 h;simp only[Lit.wf]at hw;rw[LzC]at hw;have a:=of_decide_eq_true hw.1;have b:=of_decide_eq_true hw.2;exact⟨m,rfl,a,b⟩
theorem zcs{n:Nat}{ds:List DV}(h:Ty Tryz.prog (n+2) 23 ds):∃r:Row,ds=ziP r∧r.ok:=by have h:=jC Tryz.underlying23 h;obtain⟨a0,b0,rfl,h0,a1,b1,rfl,h1,a2,b2,rfl,h2,rfl⟩:=h;obtain⟨m0,rfl,l0⟩:=zbp h0;obtain⟨m1,rfl,l1⟩:=zbp h1;obtain⟨m2,rfl,l2⟩:=zbp h2;exact⟨⟨m0,m1,m2⟩,rfl,⟨l0,l1,l2⟩⟩
theorem zo4{n:Nat}{ds:List DV}(h:Ty Tryz.prog (n+4) 26 ds):∃y:Site,ds=zcb y∧y.ok:=by have h:=jC Tryz.underlying26 h;obtain⟨a0,b0,rfl,h0,a1,b1,rfl,h1,a2,b2,rfl,h2,rfl⟩:=h;have h0:=qQ Tryz.underlying24 h0;obtain⟨c0,d0,rfl,g0,c1,d1,rfl,g1,c2,d2,rfl,g2,rfl⟩:=h0;obtain⟨r0,rfl,q0⟩:=zcs g0;obtain⟨r1,rfl,q1⟩:=zcs g1;obtain⟨r2,rfl,q2⟩:=zcs g2;obtain⟨m1,rfl,l1⟩:=zbp h1;obtain⟨m2,rfl,l2⟩:=zbp h2;exact⟨⟨r0,r1,r2,m1,m2⟩,rfl,⟨q0,q1,q2,l1,l2⟩⟩
theorem zae{n:Nat}{ds:List DV}(h:Ty Tryz.prog (n+3) 31 ds):∃p:Part,ds=zcd p∧p.ok:=by have h:=jC Tryz.underlying31 h;obtain⟨a0,b0,rfl,h0,a1,b1,rfl,h1,a2,b2,rfl,h2,a3,b3,rfl,h3,rfl⟩:=h;obtain⟨m0,rfl,l0⟩:=zbp h0;obtain⟨m1,rfl,l1⟩:=zbp h1;have h2:=qQ Tryz.underlying27 h2;obtain⟨c0,d0,rfl,g0,c1,d1,rfl,g1,rfl⟩:=h2;obtain⟨n0,rfl,k0⟩:=zbp g0;obtain⟨n1,rfl,k1⟩:=zbp g1;have h3:=qQ Tryz.underlying29 h3;obtain⟨e0,f0,rfl,j0,e1,f1,rfl,j1,rfl⟩:=h3;obtain⟨s0,rfl,i0,i0'⟩:=zrB j0;obtain⟨s1,rfl,i1,i1'⟩:=zrB j1;exact⟨⟨m0,m1,n0,n1,s0,s1⟩,rfl,⟨l0,l1,k0,k1,⟨i0,i0'⟩,⟨i1,i1'⟩⟩⟩
theorem zjc{n:Nat}{ds:List DV}(h:Ty Tryz.prog (n+5) 34 ds):∃z:Zo,ds=zcc z∧z.ok:=by have h:=jC Tryz.underlying34 h;obtain⟨a0,b0,rfl,h0,a1,b1,rfl,h1,rfl⟩:=h;obtain⟨m0,rfl,l0⟩:=zbp h0;have h1:=qQ Tryz.underlying32 h1;obtain⟨c0,d0,rfl,g0,c1,d1,rfl,g1,c2,d2,rfl,g2,rfl⟩:=h1;obtain⟨r0,rfl,q0⟩:=zae g0;obtain⟨r1,rfl,q1⟩:=zae g1;obtain⟨r2,rfl,q2⟩:=zae g2;exact⟨⟨m0,r0,r1,r2⟩,rfl,⟨l0,q0,q1,q2⟩⟩
theorem zr0:Tryz.prog.readableRec 26=true:=by kernel_rfl
theorem zsE:26<Tryz.prog.types.size:=of_decide_eq_true (by kernel_rfl)
theorem zs6:qN Tryz.prog 4 26=true:=by kernel_rfl
theorem zmS:Tryz.prog.readableRec 34=true:=by kernel_rfl
theorem znv:34<Tryz.prog.types.size:=of_decide_eq_true (by kernel_rfl)
theorem zn2:qN Tryz.prog 5 34=true:=by kernel_rfl
end Law
end Go.Proofs.YtgfllfooijgdfaaGreatDoor
end
