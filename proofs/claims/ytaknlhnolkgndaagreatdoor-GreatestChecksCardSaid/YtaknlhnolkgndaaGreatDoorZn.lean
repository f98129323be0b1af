/-
  Lemmas. No condition.
-/
import Derived.Test.YtaknlhnolkgndaaGreatDoorWm
import Derived.Test.YtaknlhnolkgndaaGreatDoorVd
import Derived.Test.YtaknlhnolkgndaaGreatDoorTie
import Derived.Test.YtaknlhnolkgndaaGreatDoorCards
import Derived.LaidMore
import Derived.Stop.Joined
import Derived.Carry
import Derived.Lib.SmallJoins
noncomputable section
namespace Go.Proofs.YtaknlhnolkgndaaGreatDoor
open Go Go.CE Go.PE Go.ChangeShapes Go.WideShapes Go.ChangeAt Go.RowKit Go.Proofs.Tryz.Kn Go.Joins
set_option maxRecDepth 100000
namespace Law
theorem own:ownKnob Tryz.prog.godebug=none:=by kernel_rfl
theorem laidOut:laidOutB Tryz.prog=true:=by kernel_rfl
theorem room(k:Nat):(FR none).room k:=by grind[Fence.room,Fence.wide]
def zmH:List (String×DataW Unit):=[("math/bits.deBruijn32tab",Rows.laid_math_bits_deBruijn32tab),("math/bits.deBruijn64tab",Rows.laid_math_bits_deBruijn64tab),("internal/strconv.uint64pow10",Rows.laid_internal_strconv_uint64pow10)]
theorem zpM(os:Os)(args:Array Value):laidMetH Tryz.prog zmH ((World.doorLaid Tryz.prog 400 os).forCall (fun _ _=>0) ⟨#[],args,[]⟩).memory:=
 laidMetH_of_parts3 (fuel:=8) (laidMet_of_run' 8 (by kernel_rfl) (by kernel_rfl)) (by kernel_rfl) (by kernel_rfl)
theorem g64:Tryz.prog.globalNamed "math/bits.deBruijn64tab" = some 0:=by kernel_rfl
theorem gpow:Tryz.prog.globalNamed "internal/strconv.uint64pow10" = some 2:=by kernel_rfl
def t64:TypeId:=((Tryz.prog.globals[0]?).map (·.type)).getD 0
def zvP:TypeId:=((Tryz.prog.globals[2]?).map (·.type)).getD 0
def n64:List Nat:=((zam 0).getD (.u8,[])).2
def npow:List Nat:=((zam 2).getD (.u8,[])).2
theorem zu1:zam 0=some (.u8,n64):=rfl
theorem zsB:zam 2=some (.u64,npow):=rfl
theorem zw6:(Rows.laid_math_bits_deBruijn64tab:DataW Unit)=.agg (n64.map (zuF .u8)):=rfl
theorem zuE:(Rows.laid_internal_strconv_uint64pow10:DataW Unit)=.agg (npow.map (zuF .u64)):=rfl
def elemOf(t:TypeId):TypeId:=match Tryz.prog.underlying t with|some (.array _ e)=>e|_=>0
theorem e64:∃n e,Tryz.prog.underlying t64=some (.array n e)/\Tryz.prog.underlying e=some (.int .u8)/\Tryz.prog.cellsOf e=1:=⟨64,elemOf t64,by kernel_rfl,by kernel_rfl,by kernel_rfl⟩
theorem zzH:∃n e,Tryz.prog.underlying zvP=some (.array n e)/\Tryz.prog.underlying e=some (.int .u64)/\Tryz.prog.cellsOf e=1:=⟨20,elemOf zvP,by kernel_rfl,by kernel_rfl,by kernel_rfl⟩
theorem zm0{g:Nat}(h1:g≠0)(h2:g≠2):zam g=none:=by unfold zam;simp
theorem zxt{W:World}(h:laidMetH Tryz.prog zmH W):GOk W:=by
 rw[MakeChecks.laidMetH_plain _ _ _ (by kernel_rfl)]at h;obtain⟨ps,⟨g0,t0,cs0,f0,p0,q0,hg0,ht0,hv0,hd0,⟨g1,t1,cs1,f1,p1,q1,hg1,ht1,hv1,hd1,⟨g2,t2,cs2,f2,p2,q2,hg2,ht2,hv2,hd2,_,_⟩,_⟩,_⟩,_,_⟩:=h;obtain rfl:=Option.some.inj (g64.symm.trans hg1);obtain rfl:=Option.some.inj (gpow.symm.trans hg2);have k1:t1=t64:=by grind[t64]
 have k2:t2=zvP:=by grind[zvP]
 subst k1 k2;rw[zw6]at hd1;rw[zuE]at hd2;obtain⟨n1,e1,a1,a2,a3⟩:=e64;obtain⟨n2,e2,b1,b2,b3⟩:=zzH;intro g off c hc;by_cases c1:g=0
 .subst c1;exact zqv zu1 (fun off m hm=>zfI hg1 a1 a2 a3 hv1 hd1 hm) hc
 by_cases c2:g=2
 .subst c2;exact zqv zsB (fun off m hm=>zfI hg2 b1 b2 b3 hv2 hd2 hm) hc
 .grind[zcO,zm0]
theorem zlB{α:Type}{f:α->List DV}{q:α->Prop}:∀{xs:List (List DV)},(∀x∈xs,∃a,x=f a/\q a)->∃l:List α,xs=l.map f/\∀a∈l,q a
 | [],_=>⟨[],rfl,fun a h=>by cases h⟩
 |x::xs,H=>by obtain⟨a,rfl,h1⟩:=H x (Yzk ..);obtain⟨l,rfl,h2⟩:=zlB fun y hy=>H y (Yzi _ hy);exact⟨a::l,rfl,fun b hb=>by grind⟩
theorem xm{n t:Nat}{fs:Array Field}{ds:List DV}(e:Tryz.prog.underlying t=some (.struct fs))(h:Ty Tryz.prog (n+1) t ds):zs0 (Ty Tryz.prog n) (fs.toList.map (·.type)) ds:=by grind[Ty]
theorem zia{n t k el:Nat}{ds:List DV}(e:Tryz.prog.underlying t=some (.array k el))(h:Ty Tryz.prog (n+1) t ds):zs0 (Ty Tryz.prog n) (List.replicate k el) ds:=by grind[Ty]
theorem zh9{n t el:Nat}{ds:List DV}(e:Tryz.prog.underlying t=some (.slice el))(h:Ty Tryz.prog (n+1) t ds):ds=[.nils]\/∃xs,ds=[.lst (Tryz.prog.cellsOf el) xs]/\xs.length<=maxLen/\∀x∈xs,Ty Tryz.prog n el x:=by grind[Ty]
theorem zbo{n t:Nat}{k:IntKind}{ds:List DV}(e:Tryz.prog.underlying t=some (.int k))(h:Ty Tryz.prog (n+1) t ds):∃m,ds=[.int k m]/\(Lit.int k m).wf=true:=by grind[Ty]
theorem zk7{n t:Nat}{ds:List DV}(e:Tryz.prog.underlying t=some .bool)(h:Ty Tryz.prog (n+1) t ds):∃b,ds=[.bool b]:=by grind[Ty]
theorem vN{n:Nat}{ds:List DV}(h:Ty Tryz.prog (n+1) 5 ds):∃m:Nat,ds=[U8 (m:Int)]/\m<256:=by obtain⟨m,rfl,hw⟩:=zbo Tryz.underlying5 h;simp only[Lit.wf]at hw;rw[LzC]at hw;have a:=of_decide_eq_true hw.1;have b:=of_decide_eq_true hw.2;have a:0<=m:=a;have b:m<=255:=b;exact⟨m.toNat,by rw[Int.toNat_of_nonneg a],by omega⟩
theorem zty{n:Nat}{ds:List DV}(h:Ty Tryz.prog (n+1) 134 ds):∃m:Int,ds=[.int .i8 m]/\-128<=m/\m<=127:=by obtain⟨m,rfl,hw⟩:=zbo Tryz.underlying134 h;simp only[Lit.wf]at hw;rw[LzC]at hw;have a:=of_decide_eq_true hw.1;have b:=of_decide_eq_true hw.2;exact⟨m,rfl,a,b⟩
def zyz(a b c d e:Nat):Nat->Nat
 |0=>a
 |1=>b
 |2=>c
 |3=>d
 |4=>e
 |_=>0
theorem zk8{n:Nat}{ds:List DV}(h:Ty Tryz.prog (n+2) 56 ds):∃b:Nat->Nat,ds=enB b/\∀i,b i<256:=by
 have h:=zia Tryz.underlying56 h;obtain⟨a0,b0,rfl,h0,a1,b1,rfl,h1,a2,b2,rfl,h2,a3,b3,rfl,h3,a4,b4,rfl,h4,rfl⟩:=h;obtain⟨m0,rfl,l0⟩:=vN h0;obtain⟨m1,rfl,l1⟩:=vN h1;obtain⟨m2,rfl,l2⟩:=vN h2;obtain⟨m3,rfl,l3⟩:=vN h3;obtain⟨m4,rfl,l4⟩:=vN h4;refine⟨zyz m0 m1 m2 m3 m4,rfl,fun i=>?_⟩;unfold zyz
 grind
theorem zvr:Tryz.prog.cellsOf 136=9:=by kernel_rfl
theorem zvv:Tryz.prog.cellsOf 107=4:=by kernel_rfl
theorem zxO:Tryz.prog.cellsOf 141=4:=by kernel_rfl
theorem zxN:Tryz.prog.cellsOf 139=4:=by kernel_rfl
theorem zoo{n:Nat}{ds:List DV}(h:Ty Tryz.prog (n+3) 136 ds):∃r:RPl,ds=za5 r/\r.ok:=by have h:=xm Tryz.underlying136 h;obtain⟨a0,b0,rfl,h0,a1,b1,rfl,h1,a2,b2,rfl,h2,a3,b3,rfl,h3,a4,b4,rfl,h4,rfl⟩:=h;obtain⟨m0,rfl,l0⟩:=vN h0;obtain⟨m1,rfl,l1⟩:=vN h1;obtain⟨m2,rfl,l2,l2'⟩:=zty h2;obtain⟨m3,rfl,l3⟩:=vN h3;obtain⟨b,rfl,l4⟩:=zk8 h4;exact⟨⟨m0,m1,m2,m3,b 0,b 1,b 2,b 3,b 4⟩,rfl,⟨l0,l1,l2,l2',l3,l4 0,l4 1,l4 2,l4 3,l4 4⟩⟩
theorem zqT{n:Nat}{ds:List DV}(h:Ty Tryz.prog (n+2) 139 ds):∃r:Pul,ds=zhB r/\r.ok:=by have h:=xm Tryz.underlying139 h;obtain⟨a0,b0,rfl,h0,a1,b1,rfl,h1,a2,b2,rfl,h2,a3,b3,rfl,h3,rfl⟩:=h;obtain⟨m0,rfl,l0⟩:=vN h0;obtain⟨m1,rfl,l1⟩:=vN h1;obtain⟨m2,rfl,l2⟩:=vN h2;obtain⟨m3,rfl,l3⟩:=vN h3;exact⟨⟨m0,m1,m2,m3⟩,rfl,⟨l0,l1,l2,l3⟩⟩
theorem zqV{n:Nat}{ds:List DV}(h:Ty Tryz.prog (n+2) 141 ds):∃r:Lnk,ds=zeP r/\r.ok:=by have h:=xm Tryz.underlying141 h;obtain⟨a0,b0,rfl,h0,a1,b1,rfl,h1,a2,b2,rfl,h2,a3,b3,rfl,h3,rfl⟩:=h;obtain⟨m0,rfl,l0⟩:=vN h0;obtain⟨m1,rfl,l1⟩:=vN h1;obtain⟨m2,rfl,l2,l2'⟩:=zty h2;obtain⟨m3,rfl⟩:=zk7 Tryz.underlying4 h3;exact⟨⟨m0,m1,m2,m3⟩,rfl,⟨l0,l1,l2,l2'⟩⟩
theorem zk5{α:Type}{f:α->List DV}{q:α->Prop}{n t el st:Nat}{ds:List DV}(e:Tryz.prog.underlying t=some (.slice el))(c:Tryz.prog.cellsOf el=st)(H:∀x,Ty Tryz.prog n el x->∃a,x=f a/\q a)(h:Ty Tryz.prog (n+1) t ds):
  ∃l:PE.Sl α,ds=[enL st f l]/\l.els.length<=9223372036854775807/\∀a∈l.els,q a:=by
 rcases zh9 e h with rfl|⟨xs,rfl,h1,h2⟩
 .exact⟨none,rfl,Yzn _,fun a h=>by cases h⟩
 .obtain⟨l,rfl,h3⟩:=zlB (f:=f) (q:=q) fun x hx=>H x (h2 x hx);rw[Yzh]at h1;exact⟨some l,by rw[c,wW],Yzl h1 (by decide),h3⟩
theorem zoq{n:Nat}{ds:List DV}(h:Ty Tryz.prog (n+4) 107 ds):∃r:Boa,ds=xJ r/\r.ok:=by have h:=xm Tryz.underlying107 h;obtain⟨a0,b0,rfl,h0,a1,b1,rfl,h1,a2,b2,rfl,h2,a3,b3,rfl,h3,rfl⟩:=h;obtain⟨m0,rfl,l0⟩:=vN h0;obtain⟨m1,rfl,l1⟩:=vN h1;obtain⟨m2,rfl⟩:=zk7 Tryz.underlying4 h2;obtain⟨l,rfl,l3,l4⟩:=zk5 (f:=zhB) (q:=Pul.ok) Tryz.underlying105 zxN (fun x hx=>zqT hx) h3;exact⟨⟨m0,m1,m2,l⟩,rfl,⟨l0,l1,l3,l4⟩⟩
theorem zqU{ds:List DV}(h:Ty Tryz.prog 6 55 ds):∃p:Pln,ds=zhC p/\p.ok:=by have h:=xm Tryz.underlying55 h;obtain⟨a0,b0,rfl,h0,a1,b1,rfl,h1,a2,b2,rfl,h2,rfl⟩:=h;obtain⟨r,rfl,r1,r2⟩:=zk5 (f:=za5) (q:=RPl.ok) Tryz.underlying51 zvr (fun x hx=>zoo hx) h0;obtain⟨d,rfl,d1,d2⟩:=zk5 (f:=xJ) (q:=Boa.ok) Tryz.underlying52 zvv (fun x hx=>zoq hx) h1;obtain⟨c,rfl,c1,c2⟩:=zk5 (f:=zeP) (q:=Lnk.ok) Tryz.underlying53 zxO (fun x hx=>zqV hx) h2;exact⟨⟨r,d,c⟩,rfl,⟨r1,r2,d1,d2,c1,c2⟩⟩
end Law
end Go.Proofs.YtaknlhnolkgndaaGreatDoor
end
