/-
  Lemmas. No condition.
-/
import Derived.Test.YtakbfapnhjkgoaaGreatDoorWn
import Derived.Test.YtakbfapnhjkgoaaGreatDoorVd
import Derived.Test.YtakbfapnhjkgoaaGreatDoorTie
import Derived.Test.YtakbfapnhjkgoaaGreatDoorCards
import Derived.LaidMore
import Derived.Stop.Joined
import Derived.Carry
import Derived.Lib.SmallJoins
noncomputable section
namespace Go.Proofs.YtakbfapnhjkgoaaGreatDoor
open Go Go.CE Go.PE Go.ChangeShapes Go.WideShapes Go.ChangeAt Go.RowKit Go.Proofs.Tryz.Kn Go.Joins
set_option maxRecDepth 100000
namespace Law
theorem own:ownKnob Tryz.prog.godebug=none:=by kernel_rfl
theorem laidOut:laidOutB Tryz.prog=true:=by kernel_rfl
theorem room(k:Nat):(FR none).room k:=by first|trivial|simp[Fence.room,Fence.wide]
def zoq:List (String×DataW Unit):=[("math/bits.deBruijn32tab",Rows.laid_math_bits_deBruijn32tab),("math/bits.deBruijn64tab",Rows.laid_math_bits_deBruijn64tab),("internal/strconv.uint64pow10",Rows.laid_internal_strconv_uint64pow10)]
theorem zrz(os:Os)(args:Array Value):laidMetH Tryz.prog zoq ((World.doorLaid Tryz.prog 400 os).forCall (fun _ _=>0) ⟨#[],args,[]⟩).memory:=
 laidMetH_of_parts3 (fuel:=8) (laidMet_of_run' 8 (by kernel_rfl) (by kernel_rfl)) (by kernel_rfl) (by kernel_rfl)
theorem g64:Tryz.prog.globalNamed "math/bits.deBruijn64tab" = some 3:=by kernel_rfl
theorem gpow:Tryz.prog.globalNamed "internal/strconv.uint64pow10" = some 1:=by kernel_rfl
def t64:TypeId:=((Tryz.prog.globals[3]?).map (·.type)).getD 0
def zyP:TypeId:=((Tryz.prog.globals[1]?).map (·.type)).getD 0
def n64:List Nat:=((zbo 3).getD (.u8,[])).2
def npow:List Nat:=((zbo 1).getD (.u8,[])).2
theorem zwY:zbo 3=some (.u8,n64):=rfl
theorem zuz:zbo 1=some (.u64,npow):=rfl
theorem zzX:(Rows.laid_math_bits_deBruijn64tab:DataW Unit)=.agg (n64.map (zwB .u8)):=rfl
theorem zwA:(Rows.laid_internal_strconv_uint64pow10:DataW Unit)=.agg (npow.map (zwB .u64)):=rfl
def elemOf(t:TypeId):TypeId:=match Tryz.prog.underlying t with|some (.array _ e)=>e|_=>0
theorem e64:∃n e,Tryz.prog.underlying t64=some (.array n e)∧Tryz.prog.underlying e=some (.int .u8)∧Tryz.prog.cellsOf e=1:=⟨64,elemOf t64,by kernel_rfl,by kernel_rfl,by kernel_rfl⟩
theorem zCT:∃n e,Tryz.prog.underlying zyP=some (.array n e)∧Tryz.prog.underlying e=some (.int .u64)∧Tryz.prog.cellsOf e=1:=⟨20,elemOf zyP,by kernel_rfl,by kernel_rfl,by kernel_rfl⟩
theorem zoM{g:Nat}(h1:g≠3)(h2:g≠1):zbo g=none:=by
 unfold zbo;split
 ·exact absurd rfl h1
 ·exact absurd rfl h2
 ·rfl
theorem zAl{W:World}(h:laidMetH Tryz.prog zoq W):GOk W:=by
 rw[MakeChecks.laidMetH_plain _ _ _ (by kernel_rfl)]at h;obtain⟨ps,⟨g0,t0,cs0,f0,p0,q0,hg0,ht0,hv0,hd0,⟨g1,t1,cs1,f1,p1,q1,hg1,ht1,hv1,hd1,⟨g2,t2,cs2,f2,p2,q2,hg2,ht2,hv2,hd2,_,_⟩,_⟩,_⟩,_,_⟩:=h;obtain rfl:=Option.some.inj (g64.symm.trans hg1);obtain rfl:=Option.some.inj (gpow.symm.trans hg2);have k1:t1=t64:=by unfold t64;rw[ht1];rfl
 have k2:t2=zyP:=by unfold zyP;rw[ht2];rfl
 subst k1 k2;rw[zzX]at hd1;rw[zwA]at hd2;obtain⟨n1,e1,a1,a2,a3⟩:=e64;obtain⟨n2,e2,b1,b2,b3⟩:=zCT;intro g off c hc;by_cases c1:g=3
 ·subst c1;exact zsm zwY (fun off m hm=>zg5 hg1 a1 a2 a3 hv1 hd1 hm) hc
 by_cases c2:g=1
 ·subst c2;exact zsm zuz (fun off m hm=>zg5 hg2 b1 b2 b3 hv2 hd2 hm) hc
 ·unfold zdT at hc;rw[zoM c1 c2]at hc;cases hc
theorem znc{α:Type}{f:α→List DV}{q:α→Prop}:∀{xs:List (List DV)},(∀x∈xs,∃a,x=f a∧q a)→∃l:List α,xs=l.map f∧∀a∈l,q a
 | [],_=>⟨[],rfl,fun a h=>by cases h⟩
 |x::xs,H=>by
  obtain⟨a,rfl,h1⟩:=H x (Yzg ..);obtain⟨l,rfl,h2⟩:=znc fun y hy=>H y (Yze _ hy);exact⟨a::l,rfl,fun b hb=>by
   rcases Yzw.1 hb with rfl|hb
   ·exact h1
   ·exact h2 b hb⟩
theorem vV{n t:Nat}{fs:Array Field}{ds:List DV}(e:Tryz.prog.underlying t=some (.struct fs))(h:Ty Tryz.prog (n+1) t ds):zuX (Ty Tryz.prog n) (fs.toList.map (·.type)) ds:=by rw[Ty,e]at h;exact h
theorem zqc{n t k el:Nat}{ds:List DV}(e:Tryz.prog.underlying t=some (.array k el))(h:Ty Tryz.prog (n+1) t ds):zuX (Ty Tryz.prog n) (List.replicate k el) ds:=by rw[Ty,e]at h;exact h
theorem zp9{n t el:Nat}{ds:List DV}(e:Tryz.prog.underlying t=some (.slice el))(h:Ty Tryz.prog (n+1) t ds):ds=[.nils]∨∃xs,ds=[.lst (Tryz.prog.cellsOf el) xs]∧xs.length≤maxLen∧∀x∈xs,Ty Tryz.prog n el x:=by rw[Ty,e]at h;exact h
theorem zjw{n t:Nat}{k:IntKind}{ds:List DV}(e:Tryz.prog.underlying t=some (.int k))(h:Ty Tryz.prog (n+1) t ds):∃m,ds=[.int k m]∧(Lit.int k m).wf=true:=by rw[Ty,e]at h;exact h
theorem zmG{n t:Nat}{ds:List DV}(e:Tryz.prog.underlying t=some .bool)(h:Ty Tryz.prog (n+1) t ds):∃b,ds=[.bool b]:=by rw[Ty,e]at h;exact h
theorem qA{n:Nat}{ds:List DV}(h:Ty Tryz.prog (n+1) 5 ds):∃m:Nat,ds=[U8 (m:Int)]∧m<256:=by obtain⟨m,rfl,hw⟩:=zjw Tryz.underlying5 h;simp only[Lit.wf]at hw;rw[LzC]at hw;have a:=of_decide_eq_true hw.1;have b:=of_decide_eq_true hw.2;have a:0≤m:=a;have b:m≤255:=b;exact⟨m.toNat,by rw[Int.toNat_of_nonneg a],by omega⟩
theorem zvx{n:Nat}{ds:List DV}(h:Ty Tryz.prog (n+1) 78 ds):∃m:Int,ds=[.int .i8 m]∧-128≤m∧m≤127:=by obtain⟨m,rfl,hw⟩:=zjw Tryz.underlying78 h;simp only[Lit.wf]at hw;rw[LzC]at hw;have a:=of_decide_eq_true hw.1;have b:=of_decide_eq_true hw.2;exact⟨m,rfl,a,b⟩
def zBw(a b c d e:Nat):Nat→Nat
 |0=>a
 |1=>b
 |2=>c
 |3=>d
 |4=>e
 |_=>0
theorem zsU{n:Nat}{ds:List DV}(h:Ty Tryz.prog (n+2) 51 ds):∃b:Nat→Nat,ds=enB b∧∀i,b i<256:=by have h:=zqc Tryz.underlying51 h;obtain⟨a0,b0,rfl,h0,a1,b1,rfl,h1,a2,b2,rfl,h2,a3,b3,rfl,h3,a4,b4,rfl,h4,rfl⟩:=h;obtain⟨m0,rfl,l0⟩:=qA h0;obtain⟨m1,rfl,l1⟩:=qA h1;obtain⟨m2,rfl,l2⟩:=qA h2;obtain⟨m3,rfl,l3⟩:=qA h3;obtain⟨m4,rfl,l4⟩:=qA h4;refine⟨zBw m0 m1 m2 m3 m4,rfl,fun i=>?_⟩;unfold zBw;split<;>omega
theorem zxk:Tryz.prog.cellsOf 80=9:=by kernel_rfl
theorem zxo:Tryz.prog.cellsOf 72=4:=by kernel_rfl
theorem zAC:Tryz.prog.cellsOf 94=4:=by kernel_rfl
theorem zAB:Tryz.prog.cellsOf 92=4:=by kernel_rfl
theorem zqa{n:Nat}{ds:List DV}(h:Ty Tryz.prog (n+3) 80 ds):∃r:RPl,ds=zf0 r∧r.ok:=by have h:=vV Tryz.underlying80 h;obtain⟨a0,b0,rfl,h0,a1,b1,rfl,h1,a2,b2,rfl,h2,a3,b3,rfl,h3,a4,b4,rfl,h4,rfl⟩:=h;obtain⟨m0,rfl,l0⟩:=qA h0;obtain⟨m1,rfl,l1⟩:=qA h1;obtain⟨m2,rfl,l2,l2'⟩:=zvx h2;obtain⟨m3,rfl,l3⟩:=qA h3;obtain⟨b,rfl,l4⟩:=zsU h4;exact⟨⟨m0,m1,m2,m3,b 0,b 1,b 2,b 3,b 4⟩,rfl,⟨l0,l1,l2,l2',l3,l4 0,l4 1,l4 2,l4 3,l4 4⟩⟩
theorem zsR{n:Nat}{ds:List DV}(h:Ty Tryz.prog (n+2) 92 ds):∃r:Pul,ds=ziQ r∧r.ok:=by have h:=vV Tryz.underlying92 h;obtain⟨a0,b0,rfl,h0,a1,b1,rfl,h1,a2,b2,rfl,h2,a3,b3,rfl,h3,rfl⟩:=h;obtain⟨m0,rfl,l0⟩:=qA h0;obtain⟨m1,rfl,l1⟩:=qA h1;obtain⟨m2,rfl,l2⟩:=qA h2;obtain⟨m3,rfl,l3⟩:=qA h3;exact⟨⟨m0,m1,m2,m3⟩,rfl,⟨l0,l1,l2,l3⟩⟩
theorem zsT{n:Nat}{ds:List DV}(h:Ty Tryz.prog (n+2) 94 ds):∃r:Lnk,ds=zl7 r∧r.ok:=by have h:=vV Tryz.underlying94 h;obtain⟨a0,b0,rfl,h0,a1,b1,rfl,h1,a2,b2,rfl,h2,a3,b3,rfl,h3,rfl⟩:=h;obtain⟨m0,rfl,l0⟩:=qA h0;obtain⟨m1,rfl,l1⟩:=qA h1;obtain⟨m2,rfl,l2,l2'⟩:=zvx h2;obtain⟨m3,rfl⟩:=zmG Tryz.underlying4 h3;exact⟨⟨m0,m1,m2,m3⟩,rfl,⟨l0,l1,l2,l2'⟩⟩
theorem zmF{α:Type}{f:α→List DV}{q:α→Prop}{n t el st:Nat}{ds:List DV}(e:Tryz.prog.underlying t=some (.slice el))(c:Tryz.prog.cellsOf el=st)(H:∀x,Ty Tryz.prog n el x→∃a,x=f a∧q a)(h:Ty Tryz.prog (n+1) t ds):
  ∃l:PE.Sl α,ds=[enL st f l]∧l.els.length≤9223372036854775807∧∀a∈l.els,q a:=by
 rcases zp9 e h with rfl|⟨xs,rfl,h1,h2⟩
 ·exact⟨none,rfl,Yzo _,fun a h=>by cases h⟩
 ·obtain⟨l,rfl,h3⟩:=znc (f:=f) (q:=q) fun x hx=>H x (h2 x hx);rw[Yzj]at h1;exact⟨some l,by rw[c,zcm],Yzn h1 (by decide),h3⟩
theorem zqb{n:Nat}{ds:List DV}(h:Ty Tryz.prog (n+4) 72 ds):∃r:Boa,ds=kZ r∧r.ok:=by have h:=vV Tryz.underlying72 h;obtain⟨a0,b0,rfl,h0,a1,b1,rfl,h1,a2,b2,rfl,h2,a3,b3,rfl,h3,rfl⟩:=h;obtain⟨m0,rfl,l0⟩:=qA h0;obtain⟨m1,rfl,l1⟩:=qA h1;obtain⟨m2,rfl⟩:=zmG Tryz.underlying4 h2;obtain⟨l,rfl,l3,l4⟩:=zmF (f:=ziQ) (q:=Pul.ok) Tryz.underlying70 zAB (fun x hx=>zsR hx) h3;exact⟨⟨m0,m1,m2,l⟩,rfl,⟨l0,l1,l3,l4⟩⟩
theorem zsS{ds:List DV}(h:Ty Tryz.prog 6 26 ds):∃p:Pln,ds=zf1 p∧p.ok:=by have h:=vV Tryz.underlying26 h;obtain⟨a0,b0,rfl,h0,a1,b1,rfl,h1,a2,b2,rfl,h2,rfl⟩:=h;obtain⟨r,rfl,r1,r2⟩:=zmF (f:=zf0) (q:=RPl.ok) Tryz.underlying22 zxk (fun x hx=>zqa hx) h0;obtain⟨d,rfl,d1,d2⟩:=zmF (f:=kZ) (q:=Boa.ok) Tryz.underlying23 zxo (fun x hx=>zqb hx) h1;obtain⟨c,rfl,c1,c2⟩:=zmF (f:=zl7) (q:=Lnk.ok) Tryz.underlying24 zAC (fun x hx=>zsT hx) h2;exact⟨⟨r,d,c⟩,rfl,⟨r1,r2,d1,d2,c1,c2⟩⟩
theorem zvY:Tryz.prog.readableRec 26=true:=by kernel_rfl
theorem zwx:26<Tryz.prog.types.size:=of_decide_eq_true (by kernel_rfl)
theorem zxd:zb5 Tryz.prog 6 26=true:=by kernel_rfl
theorem zFK:Tryz.prog.readableRec 5=true:=by kernel_rfl
theorem zFQ:5<Tryz.prog.types.size:=of_decide_eq_true (by kernel_rfl)
theorem zFT:zb5 Tryz.prog 1 5=true:=by kernel_rfl
end Law
end Go.Proofs.YtakbfapnhjkgoaaGreatDoor
end
