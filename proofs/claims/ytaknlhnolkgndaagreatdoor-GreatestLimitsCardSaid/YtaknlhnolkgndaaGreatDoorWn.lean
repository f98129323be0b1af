/-
  Lemmas. No condition.
-/
import Derived.Test.YtaknlhnolkgndaaGreatDoorZm
import Derived.Test.YtaknlhnolkgndaaGreatDoorVc
import Derived.Test.YtaknlhnolkgndaaGreatDoorTie
import Derived.Test.YtaknlhnolkgndaaGreatDoorCards
import Derived.LaidMore
import Derived.Stop.Joined
import Derived.Carry
import Derived.Lib.SmallJoins
set_option linter.unusedSimpArgs false
set_option linter.unusedVariables false
noncomputable section
namespace Go.Proofs.Tryz.Kn
open Go Go.CE Go.RowKit
open Go.PE
def lB(n:Nat):Orc:=zs9 [3] [wc n]
theorem kw(n:Nat):uW (lB n) (fun m=>zJ (zH Tryz.prog) (cFs (yL Tryz.prog)) [wc n] zwZ m):=zq0 rfl
theorem ku(n:Nat):∀s∈[wc n],ke Tryz.prog s:=by intro s hs;rw[Yz4.1 hs];exact w4 n
theorem kA(n:Nat):lB n 3 [.s (.one (.int .u8 (n:Int)))]=some (.s (.one (.bool true))):=by
 have e:eqV (.int .u8 (.ofNat n)) (.int .u8 (.ofNat n))=true:=by show (eqK .u8 .u8&&Nat.beq n n)=true;rw[Yzz];rfl
 have m:mA [u8A n] [u8A n] ⟨.nil,.nil,[]⟩=some ⟨.nil,.nil,[]⟩:=by show (match (bif true&&eqV (.int .u8 (.ofNat n)) (.int .u8 (.ofNat n)) then some (⟨.nil,.nil,[]⟩:Mt) else none) with|some m'=>mA [] [] m'|none=>none)=_;rw[e];rfl
 have hf:(wc n).fits [u8A n] ⟨.z,.nil⟩=true:=by unfold Sum.fits;rw[show (wc n).args=[u8A n] from rfl,m];rfl
 show (match xS 3 [u8A n] ⟨.z,.nil⟩ [wc n] with|some v=>ofA v|none=>none)=_;rw[show xS 3 [u8A n] ⟨.z,.nil⟩ [wc n]=some (.s (.one (.bool true))) by unfold xS;rw[hf];rfl];rfl
end Go.Proofs.Tryz.Kn
end
noncomputable section
namespace Go.Proofs.YtaknlhnolkgndaaGreatDoor
open Go Go.CE Go.PE Go.ChangeShapes Go.WideShapes Go.ChangeAt Go.RowKit Go.Proofs.Tryz.Kn Go.Joins
set_option maxRecDepth 100000
namespace Law
theorem own:ownKnob Tryz.prog.godebug=none:=by kernel_rfl
theorem laidOut:laidOutB Tryz.prog=true:=by kernel_rfl
theorem room(k:Nat):(FR none).room k:=by grind[Fence.room,Fence.wide]
def zmH:List (String×DataW Unit):=[("math/bits.deBruijn64tab",Rows.laid_math_bits_deBruijn64tab)]
theorem zpM(os:Os)(args:Array Value):laidMetH Tryz.prog zmH ((World.doorLaid Tryz.prog 400 os).forCall (fun _ _=>0) ⟨#[],args,[]⟩).memory:=
 laidMetH_of_parts3 (fuel:=8) (laidMet_of_run' 8 (by kernel_rfl) (by kernel_rfl)) (by kernel_rfl) (by kernel_rfl)
theorem g64:Tryz.prog.globalNamed "math/bits.deBruijn64tab" = some 0:=by kernel_rfl
def t64:TypeId:=((Tryz.prog.globals[0]?).map (·.type)).getD 0
def n64:List Nat:=((zam 0).getD (.u8,[])).2
theorem zu1:zam 0=some (.u8,n64):=rfl
theorem zw6:(Rows.laid_math_bits_deBruijn64tab:DataW Unit)=.agg (n64.map (zuF .u8)):=rfl
def elemOf(t:TypeId):TypeId:=match Tryz.prog.underlying t with|some (.array _ e)=>e|_=>0
theorem e64:∃n e,Tryz.prog.underlying t64=some (.array n e)/\Tryz.prog.underlying e=some (.int .u8)/\Tryz.prog.cellsOf e=1:=⟨64,elemOf t64,by kernel_rfl,by kernel_rfl,by kernel_rfl⟩
theorem zm0{g:Nat}(h1:g≠0):zam g=none:=by unfold zam;simp
theorem zxt{W:World}(h:laidMetH Tryz.prog zmH W):GOk W:=by
 rw[MakeChecks.laidMetH_plain _ _ _ (by kernel_rfl)]at h;obtain⟨ps,⟨g0,t0,cs0,f0,p0,q0,hg0,ht0,hv0,hd0,_,_⟩,_,_⟩:=h;obtain rfl:=Option.some.inj (g64.symm.trans hg0);have k1:t0=t64:=by grind[t64]
 subst k1;rw[zw6]at hd0;obtain⟨n1,e1,a1,a2,a3⟩:=e64;intro g off c hc;by_cases c1:g=0
 .subst c1;exact zqv zu1 (fun off m hm=>zfI hg0 a1 a2 a3 hv0 hd0 hm) hc
 .grind[zcO,zm0]
theorem zbo{n t:Nat}{k:IntKind}{ds:List DV}(e:Tryz.prog.underlying t=some (.int k))(h:Ty Tryz.prog (n+1) t ds):∃m,ds=[.int k m]/\(Lit.int k m).wf=true:=by grind[Ty]
theorem vN{n:Nat}{ds:List DV}(h:Ty Tryz.prog (n+1) 5 ds):∃m:Nat,ds=[U8 (m:Int)]/\m<256:=by obtain⟨m,rfl,hw⟩:=zbo Tryz.underlying5 h;simp only[Lit.wf]at hw;rw[LzC]at hw;have a:=of_decide_eq_true hw.1;have b:=of_decide_eq_true hw.2;have a:0<=m:=a;have b:m<=255:=b;exact⟨m.toNat,by rw[Int.toNat_of_nonneg a],by omega⟩
theorem qa:Tryz.prog.readableRec 5=true:=by kernel_rfl
theorem zzN:5<Tryz.prog.types.size:=of_decide_eq_true (by kernel_rfl)
theorem zzS:zas Tryz.prog 1 5=true:=by kernel_rfl
end Law
end Go.Proofs.YtaknlhnolkgndaaGreatDoor
end
section
namespace Go.Proofs.YtaknlhnolkgndaaGreatDoor
open Go Go.CE Go.PE Go.ChangeShapes Go.WideShapes Go.ChangeAt Go.RowKit Go.Proofs.Tryz.Kn Go.Joins
namespace GreatestLimits
open Law
set_option maxRecDepth 100000 in
theorem lifted(os:Os)(started:os.Started)(H:Type)(enc:TypeId×Value->H):
  ReturnsInHanded {} Tryz.checked os 3 .any (fun w args=>(Rows.greatestLimitsSpec.pre enc Tryz.prog Tryz.f3 [] false w args/\laidMetH Tryz.prog zmH w)/\sizedMet enc Tryz.prog Tryz.f3 (OpenSpec.ofChange Rows.greatestLimitsSpec) false w args)
   (Rows.greatestLimitsSpec.post enc Tryz.prog Tryz.f3 false true false false):=by
 refine returnsInHanded_of_change_and (C:=Tryz.checked) (X:=fun w _=>laidMetH Tryz.prog zmH w) (fun _ _ _ hh h=>h.of_heap hh) own started (by kernel_rfl) Tryz.func3
  (ChangeSpec.witness_shaped (enc:=enc) (C:=Tryz.checked) (os:=os) (X:=fun w _=>laidMetH Tryz.prog zmH w) false (World.doorLaid Tryz.prog 400 os) #[.int .u8 0] 8 rfl (World.shaped_of_RefB (by kernel_rfl) (by kernel_rfl)) (by kernel_rfl) (by kernel_rfl) (by kernel_rfl) (zpM os _)) ?_
 intro W base args ds gs before hval0 hW _ _ hL _;have hval:∀(j:Nat) t v,Tryz.f3.params[j]? = some t->args[j]? = some v->Value.okWide Tryz.prog W .any base t v:=hval0;have hW':=hW;obtain⟨p,q,hA0,hV,rfl,hfz,hnd⟩:=hW;have hA:DataW.TrodAll enc Tryz.prog W 0 (fun _=>true) true Tryz.f3.params.toList args.toList ds p:=hA0;rw[Tryz.params3]at hA hval;obtain⟨v0,d0,rfl,rfl,h0⟩:=trodAll_one hA;obtain⟨rfl,rfl⟩:=trodVars_none hV;obtain⟨c0,x0,rfl,r0_,w0,hty0⟩:=PE.open_one 1 (by kernel_rfl) (by kernel_rfl) zzS (hval 0 5 v0 rfl rfl) h0;obtain⟨n0,hw0,hn0⟩:=vN hty0;obtain rfl:x0=U8 (n0:Int):=(List.cons.inj hw0).1;clear hA0 hval0;simp only[List.append_nil]at hW';have c:=zpR (ku n0) wh (kw n0) (zxt hL) (g:=3) (vs:=[.s (.one c0)]) (ds:=[.s (.one (U8 (n0:Int)))])
  ⟨r0_,trivial⟩ (fun x hx=>by
   simp only[Yzv,Yzp,or_false]at hx;rcases hx with rfl
   .exact w0) (b:=true) (kA n0)
 have hlt:∀x∈p,x.block<W.heap.size:=fun x hx=>hW'.lt x (by simpa using hx);refine (c.calls room).mono fun e W' ⟨he,hb⟩=>⟨_,he,?_⟩;refine⟨[d0],[],p,[],p,[],by simpa using hW',?_,?_,rfl,hb.frame _,fun hh=>by cases hh⟩
 .exact trodAll_mk1 (shut_bool Tryz.underlying4 true)
 .exact trodAll_mk1 (Below.trod laidOut qa zzN h0 hb fun x hx=>hlt x (by simp[hx]))
end GreatestLimits
end Go.Proofs.YtaknlhnolkgndaaGreatDoor
end
