/-
  Lemmas. No condition.
-/
import Derived.Test.YtkgdjnaidkhniaaGreatDoorWm
import Derived.Test.YtkgdjnaidkhniaaGreatDoorVd
import Derived.Test.YtkgdjnaidkhniaaGreatDoorTie
import Derived.Test.YtkgdjnaidkhniaaGreatDoorCards
import Derived.LaidMore
import Derived.Stop.Joined
import Derived.Carry
import Derived.Lib.SmallJoins
noncomputable section
namespace Go.Proofs.YtkgdjnaidkhniaaGreatDoor
open Go Go.CE Go.PE Go.ChangeShapes Go.WideShapes Go.ChangeAt Go.RowKit Go.Proofs.Tryz.Kn Go.Joins
set_option maxRecDepth 100000
namespace Law
theorem own:ownKnob Tryz.prog.godebug=none:=by kernel_rfl
theorem laidOut:laidOutB Tryz.prog=true:=by kernel_rfl
theorem room(k:Nat):(FR none).room k:=by grind[Fence.room,Fence.wide]
def zr0:List (String×DataW Unit):=[("math/bits.deBruijn32tab",Rows.laid_math_bits_deBruijn32tab),("math/bits.deBruijn64tab",Rows.laid_math_bits_deBruijn64tab),("internal/strconv.uint64pow10",Rows.laid_internal_strconv_uint64pow10)]
theorem zvk(os:Os)(args:Array Value):laidMetH Tryz.prog zr0 ((World.doorLaid Tryz.prog 400 os).forCall (fun _ _=>0) ⟨#[],args,[]⟩).memory:=
 laidMetH_of_parts3 (fuel:=8) (laidMet_of_run' 8 (by kernel_rfl) (by kernel_rfl)) (by kernel_rfl) (by kernel_rfl)
theorem g64:Tryz.prog.globalNamed "math/bits.deBruijn64tab" = some 0:=by kernel_rfl
theorem gpow:Tryz.prog.globalNamed "internal/strconv.uint64pow10" = some 2:=by kernel_rfl
def t64:TypeId:=((Tryz.prog.globals[0]?).map (·.type)).getD 0
def zCe:TypeId:=((Tryz.prog.globals[2]?).map (·.type)).getD 0
def n64:List Nat:=((zdP 0).getD (.u8,[])).2
def npow:List Nat:=((zdP 2).getD (.u8,[])).2
theorem zBp:zdP 0=some (.u8,n64):=rfl
theorem zyw:zdP 2=some (.u64,npow):=rfl
theorem zDD:(Rows.laid_math_bits_deBruijn64tab:DataW Unit)=.agg (n64.map (zAV .u8)):=rfl
theorem zAU:(Rows.laid_internal_strconv_uint64pow10:DataW Unit)=.agg (npow.map (zAV .u64)):=rfl
def elemOf(t:TypeId):TypeId:=match Tryz.prog.underlying t with|some (.array _ e)=>e|_=>0
theorem e64:∃n e,Tryz.prog.underlying t64=some (.array n e)/\Tryz.prog.underlying e=some (.int .u8)/\Tryz.prog.cellsOf e=1:=⟨64,elemOf t64,by kernel_rfl,by kernel_rfl,by kernel_rfl⟩
theorem zHd:∃n e,Tryz.prog.underlying zCe=some (.array n e)/\Tryz.prog.underlying e=some (.int .u64)/\Tryz.prog.cellsOf e=1:=⟨20,elemOf zCe,by kernel_rfl,by kernel_rfl,by kernel_rfl⟩
theorem zso{g:Nat}(h1:g≠0)(h2:g≠2):zdP g=none:=by unfold zdP;simp
theorem zEd{W:World}(h:laidMetH Tryz.prog zr0 W):GOk W:=by
 rw[MakeChecks.laidMetH_plain _ _ _ (by kernel_rfl)]at h;obtain⟨ps,⟨g0,t0,cs0,f0,p0,q0,hg0,ht0,hv0,hd0,⟨g1,t1,cs1,f1,p1,q1,hg1,ht1,hv1,hd1,⟨g2,t2,cs2,f2,p2,q2,hg2,ht2,hv2,hd2,_,_⟩,_⟩,_⟩,_,_⟩:=h;obtain rfl:=Option.some.inj (g64.symm.trans hg1);obtain rfl:=Option.some.inj (gpow.symm.trans hg2);have k1:t1=t64:=by grind[t64]
 have k2:t2=zCe:=by grind[zCe]
 subst k1 k2;rw[zDD]at hd1;rw[zAU]at hd2;obtain⟨n1,e1,a1,a2,a3⟩:=e64;obtain⟨n2,e2,b1,b2,b3⟩:=zHd;intro g off c hc;by_cases c1:g=0
 .subst c1;exact zwd zBp (fun off m hm=>zka hg1 a1 a2 a3 hv1 hd1 hm) hc
 by_cases c2:g=2
 .subst c2;exact zwd zyw (fun off m hm=>zka hg2 b1 b2 b3 hv2 hd2 hm) hc
 .grind[zdQ,zso]
theorem zqD{α:Type}{f:α->List DV}{q:α->Prop}:∀{xs:List (List DV)},(∀x∈xs,∃a,x=f a/\q a)->∃l:List α,xs=l.map f/\∀a∈l,q a
 | [],_=>⟨[],rfl,fun a h=>by cases h⟩
 |x::xs,H=>by obtain⟨a,rfl,h1⟩:=H x (Yzf ..);obtain⟨l,rfl,h2⟩:=zqD fun y hy=>H y (Yze _ hy);exact⟨a::l,rfl,fun b hb=>by grind⟩
theorem wz{n t:Nat}{fs:Array Field}{ds:List DV}(e:Tryz.prog.underlying t=some (.struct fs))(h:Ty Tryz.prog (n+1) t ds):zyX (Ty Tryz.prog n) (fs.toList.map (·.type)) ds:=by grind[Ty]
theorem zhQ{n t k el:Nat}{ds:List DV}(e:Tryz.prog.underlying t=some (.array k el))(h:Ty Tryz.prog (n+1) t ds):zyX (Ty Tryz.prog n) (List.replicate k el) ds:=by grind[Ty]
theorem ztL{n t el:Nat}{ds:List DV}(e:Tryz.prog.underlying t=some (.slice el))(h:Ty Tryz.prog (n+1) t ds):ds=[.nils]\/∃xs,ds=[.lst (Tryz.prog.cellsOf el) xs]/\xs.length<=maxLen/\∀x∈xs,Ty Tryz.prog n el x:=by grind[Ty]
theorem zeb{n t:Nat}{k:IntKind}{ds:List DV}(e:Tryz.prog.underlying t=some (.int k))(h:Ty Tryz.prog (n+1) t ds):∃m,ds=[.int k m]/\(Lit.int k m).wf=true:=by grind[Ty]
theorem zp9{n t:Nat}{ds:List DV}(e:Tryz.prog.underlying t=some .bool)(h:Ty Tryz.prog (n+1) t ds):∃b,ds=[.bool b]:=by grind[Ty]
theorem wQ{n:Nat}{ds:List DV}(h:Ty Tryz.prog (n+1) 5 ds):∃m:Nat,ds=[U8 (m:Int)]/\m<256:=by obtain⟨m,rfl,hw⟩:=zeb Tryz.underlying5 h;simp only[Lit.wf]at hw;rw[LzC]at hw;have a:=of_decide_eq_true hw.1;have b:=of_decide_eq_true hw.2;have a:0<=m:=a;have b:m<=255:=b;exact⟨m.toNat,by rw[Int.toNat_of_nonneg a],by omega⟩
theorem zzJ{n:Nat}{ds:List DV}(h:Ty Tryz.prog (n+1) 82 ds):∃m:Int,ds=[.int .i8 m]/\-128<=m/\m<=127:=by obtain⟨m,rfl,hw⟩:=zeb Tryz.underlying82 h;simp only[Lit.wf]at hw;rw[LzC]at hw;have a:=of_decide_eq_true hw.1;have b:=of_decide_eq_true hw.2;exact⟨m,rfl,a,b⟩
def zFq(a b c d e:Nat):Nat->Nat
 |0=>a
 |1=>b
 |2=>c
 |3=>d
 |4=>e
 |_=>0
theorem zlb{n:Nat}{ds:List DV}(h:Ty Tryz.prog (n+2) 64 ds):∃b:Nat->Nat,ds=enB b/\∀i,b i<256:=by
 have h:=zhQ Tryz.underlying64 h;obtain⟨a0,b0,rfl,h0,a1,b1,rfl,h1,a2,b2,rfl,h2,a3,b3,rfl,h3,a4,b4,rfl,h4,rfl⟩:=h;obtain⟨m0,rfl,l0⟩:=wQ h0;obtain⟨m1,rfl,l1⟩:=wQ h1;obtain⟨m2,rfl,l2⟩:=wQ h2;obtain⟨m3,rfl,l3⟩:=wQ h3;obtain⟨m4,rfl,l4⟩:=wQ h4;refine⟨zFq m0 m1 m2 m3 m4,rfl,fun i=>?_⟩;unfold zFq
 grind
theorem zBI:Tryz.prog.cellsOf 215=9:=by kernel_rfl
theorem zBM:Tryz.prog.cellsOf 109=4:=by kernel_rfl
theorem zEs:Tryz.prog.cellsOf 220=4:=by kernel_rfl
theorem zEr:Tryz.prog.cellsOf 218=4:=by kernel_rfl
theorem ztM{n:Nat}{ds:List DV}(h:Ty Tryz.prog (n+3) 215 ds):∃r:RPl,ds=zga r/\r.ok:=by have h:=wz Tryz.underlying215 h;obtain⟨a0,b0,rfl,h0,a1,b1,rfl,h1,a2,b2,rfl,h2,a3,b3,rfl,h3,a4,b4,rfl,h4,rfl⟩:=h;obtain⟨m0,rfl,l0⟩:=wQ h0;obtain⟨m1,rfl,l1⟩:=wQ h1;obtain⟨m2,rfl,l2,l2'⟩:=zzJ h2;obtain⟨m3,rfl,l3⟩:=wQ h3;obtain⟨b,rfl,l4⟩:=zlb h4;exact⟨⟨m0,m1,m2,m3,b 0,b 1,b 2,b 3,b 4⟩,rfl,⟨l0,l1,l2,l2',l3,l4 0,l4 1,l4 2,l4 3,l4 4⟩⟩
theorem zwH{n:Nat}{ds:List DV}(h:Ty Tryz.prog (n+2) 218 ds):∃r:Pul,ds=zma r/\r.ok:=by have h:=wz Tryz.underlying218 h;obtain⟨a0,b0,rfl,h0,a1,b1,rfl,h1,a2,b2,rfl,h2,a3,b3,rfl,h3,rfl⟩:=h;obtain⟨m0,rfl,l0⟩:=wQ h0;obtain⟨m1,rfl,l1⟩:=wQ h1;obtain⟨m2,rfl,l2⟩:=wQ h2;obtain⟨m3,rfl,l3⟩:=wQ h3;exact⟨⟨m0,m1,m2,m3⟩,rfl,⟨l0,l1,l2,l3⟩⟩
theorem zwJ{n:Nat}{ds:List DV}(h:Ty Tryz.prog (n+2) 220 ds):∃r:Lnk,ds=zkp r/\r.ok:=by have h:=wz Tryz.underlying220 h;obtain⟨a0,b0,rfl,h0,a1,b1,rfl,h1,a2,b2,rfl,h2,a3,b3,rfl,h3,rfl⟩:=h;obtain⟨m0,rfl,l0⟩:=wQ h0;obtain⟨m1,rfl,l1⟩:=wQ h1;obtain⟨m2,rfl,l2,l2'⟩:=zzJ h2;obtain⟨m3,rfl⟩:=zp9 Tryz.underlying4 h3;exact⟨⟨m0,m1,m2,m3⟩,rfl,⟨l0,l1,l2,l2'⟩⟩
theorem zhP{α:Type}{f:α->List DV}{q:α->Prop}{n t el st:Nat}{ds:List DV}(e:Tryz.prog.underlying t=some (.slice el))(c:Tryz.prog.cellsOf el=st)(H:∀x,Ty Tryz.prog n el x->∃a,x=f a/\q a)(h:Ty Tryz.prog (n+1) t ds):
  ∃l:PE.Sl α,ds=[enL st f l]/\l.els.length<=9223372036854775807/\∀a∈l.els,q a:=by
 rcases ztL e h with rfl|⟨xs,rfl,h1,h2⟩
 .exact⟨none,rfl,Yzs _,fun a h=>by cases h⟩
 .obtain⟨l,rfl,h3⟩:=zqD (f:=f) (q:=q) fun x hx=>H x (h2 x hx);rw[Yzm]at h1;exact⟨some l,by rw[c,zi1],Yzl h1 (by decide),h3⟩
theorem ztO{n:Nat}{ds:List DV}(h:Ty Tryz.prog (n+4) 109 ds):∃r:Boa,ds=uM r/\r.ok:=by have h:=wz Tryz.underlying109 h;obtain⟨a0,b0,rfl,h0,a1,b1,rfl,h1,a2,b2,rfl,h2,a3,b3,rfl,h3,rfl⟩:=h;obtain⟨m0,rfl,l0⟩:=wQ h0;obtain⟨m1,rfl,l1⟩:=wQ h1;obtain⟨m2,rfl⟩:=zp9 Tryz.underlying4 h2;obtain⟨l,rfl,l3,l4⟩:=zhP (f:=zma) (q:=Pul.ok) Tryz.underlying107 zEr (fun x hx=>zwH hx) h3;exact⟨⟨m0,m1,m2,l⟩,rfl,⟨l0,l1,l3,l4⟩⟩
theorem zwI{ds:List DV}(h:Ty Tryz.prog 6 26 ds):∃p:Pln,ds=zmb p/\p.ok:=by have h:=wz Tryz.underlying26 h;obtain⟨a0,b0,rfl,h0,a1,b1,rfl,h1,a2,b2,rfl,h2,rfl⟩:=h;obtain⟨r,rfl,r1,r2⟩:=zhP (f:=zga) (q:=RPl.ok) Tryz.underlying22 zBI (fun x hx=>ztM hx) h0;obtain⟨d,rfl,d1,d2⟩:=zhP (f:=uM) (q:=Boa.ok) Tryz.underlying23 zBM (fun x hx=>ztO hx) h1;obtain⟨c,rfl,c1,c2⟩:=zhP (f:=zkp) (q:=Lnk.ok) Tryz.underlying24 zEs (fun x hx=>zwJ hx) h2;exact⟨⟨r,d,c⟩,rfl,⟨r1,r2,d1,d2,c1,c2⟩⟩
end Law
end Go.Proofs.YtkgdjnaidkhniaaGreatDoor
end
