/-
  Lemmas. No condition.
-/
import Derived.Test.YthnijnblnoflnaaGreatDoorXm
set_option linter.unusedSimpArgs false
set_option linter.unusedVariables false
section
namespace Go.Proofs.YthnijnblnoflnaaGreatDoor
open Go Go.CE Go.PE Go.ChangeShapes Go.WideShapes Go.ChangeAt Go.RowKit Go.Proofs.Tryz.Kn Go.Joins
set_option maxRecDepth 100000
namespace Law
theorem zAS{n:Nat}{ds:List DV}(h:Ty Tryz.prog (n+1) 58 ds):∃m:Nat,ds=[.int .u16 (m:Int)]:=by obtain⟨m,rfl,hw⟩:=zk3 Tryz.underlying58 h;simp only[Lit.wf]at hw;rw[LzC]at hw;have a:0≤m:=of_decide_eq_true hw.1;exact⟨m.toNat,by rw[Yyd a]⟩
theorem zBr{n:Nat}{ds:List DV}(h:Ty Tryz.prog (n+2) 59 ds):∃b:Nat→Nat,ds=zBp b:=by have h:=zoi Tryz.underlying59 h;obtain⟨a0,b0,rfl,h0,a1,b1,rfl,h1,a2,b2,rfl,h2,rfl⟩:=h;obtain⟨m0,rfl⟩:=zAS h0;obtain⟨m1,rfl⟩:=zAS h1;obtain⟨m2,rfl⟩:=zAS h2;exact⟨fun i=>match i with|0=>m0|1=>m1|_=>m2,rfl⟩
theorem zBM:Tryz.prog.readableRec 59=true:=by kernel_rfl
theorem zBO:59<Tryz.prog.types.size:=of_decide_eq_true (by kernel_rfl)
theorem zB1:zap Tryz.prog 2 59=true:=by kernel_rfl
end Law
end Go.Proofs.YthnijnblnoflnaaGreatDoor
end
section
namespace Go.Proofs.YthnijnblnoflnaaGreatDoor
open Go Go.CE Go.PE Go.ChangeShapes Go.WideShapes Go.ChangeAt Go.RowKit Go.Proofs.Tryz.Kn Go.Joins
namespace RelayValues
open Law
set_option maxRecDepth 100000 in
theorem lifted(os:Os)(started:os.Started)(H:Type)(enc:TypeId×Value→H):
  ReturnsInHanded {} Tryz.checked os 4 .any (fun w args=>(Rows.relayValuesSpec.pre enc Tryz.prog Tryz.f4 [] false w args∧laidMetH Tryz.prog zmG w)∧sizedMet enc Tryz.prog Tryz.f4 (OpenSpec.ofChange Rows.relayValuesSpec) false w args)
   (Rows.relayValuesSpec.post enc Tryz.prog Tryz.f4 false true false false):=by
 refine returnsInHanded_of_change_and (C:=Tryz.checked) (X:=fun w _=>laidMetH Tryz.prog zmG w) (fun _ _ _ hh h=>h.of_heap hh) own started (by kernel_rfl) Tryz.func4
  (ChangeSpec.witness_shaped (enc:=enc) (C:=Tryz.checked) (os:=os) (X:=fun w _=>laidMetH Tryz.prog zmG w) false (World.doorLaid Tryz.prog 400 os) #[.agg #[.slice none 0 0,.slice none 0 0,.slice none 0 0],.agg #[.int .u8 0,.int .u8 0,.int .u8 0,.int .u8 0,.int .u8 0],.agg #[.int .u16 0,.int .u16 0,.int .u16 0]] 8 rfl (World.shaped_of_RefB (by kernel_rfl) (by kernel_rfl)) (by kernel_rfl) (by kernel_rfl) (by kernel_rfl) (zpz os _)) ?_
 intro W base args ds gs before hval0 hW _ _ hL _;have hval:∀(j:Nat) t v,Tryz.f4.params[j]? = some t→args[j]? = some v→Value.okWide Tryz.prog W .any base t v:=hval0;have hW':=hW;obtain⟨p,q,hA0,hV,rfl,hfz,hnd⟩:=hW;have hA:DataW.TrodAll enc Tryz.prog W 0 (fun _=>true) true Tryz.f4.params.toList args.toList ds p:=hA0;rw[Tryz.params4]at hA hval;obtain⟨v0,v1,v2,d0,d1,d2,p0,p1,p2,rfl,rfl,rfl,h0,h1,h2⟩:=trodAll_three hA;obtain⟨rfl,rfl⟩:=trodVars_none hV;obtain⟨vs0,es0,rfl,r0_,w0,hty0⟩:=PE.open_row 6 (by kernel_rfl) zuS (hval 0 26 v0 rfl rfl) h0;obtain⟨p,rfl,hp⟩:=zqH hty0;obtain⟨vs1,es1,rfl,r1_,w1,hty1⟩:=PE.open_row 2 (by kernel_rfl) zBF (hval 1 57 v1 rfl rfl) h1;obtain⟨b1,rfl,hb1⟩:=zqJ hty1;obtain⟨vs2,es2,rfl,r2_,w2,hty2⟩:=PE.open_row 2 (by kernel_rfl) zB1 (hval 2 59 v2 rfl rfl) h2;obtain⟨b2,rfl⟩:=zBr hty2;clear hA0 hval0;simp only[Yzw]at hW';have c:=zpD zpE zqQ (zzE 14) (zw9 hL) (g:=4) (vs:=[.s (.agg vs0),.s (.agg vs1),.s (.agg vs2)]) (ds:=[.s (.agg (zeO p)),.s (.agg (enB b1)),.s (.agg (zBp b2))])
  ⟨r0_,r1_,r2_,trivial⟩ (fun x hx=>by
   simp only[Yz7,Yz8,or_false]at hx;rcases hx with rfl|rfl|rfl
   ·exact w0
   ·exact w1
   ·exact w2) (b:=true) (t4 0 p hp b1 hb1 b2)
 have hlt:∀x∈p0++(p1++p2),x.block<W.heap.size:=fun x hx=>hW'.lt x (by simpa using hx);refine (c.calls room).mono fun e W' ⟨he,hb⟩=>⟨_,he,?_⟩;refine⟨[d0,d1,d2],[],p0++(p1++p2),[],p0++(p1++p2),[],by simpa using hW',?_,?_,rfl,hb.frame _,fun hh=>by cases hh⟩
 ·exact trodAll_mk1 (shut_bool Tryz.underlying4 true)
 ·exact trodAll_mk3 (Below.trod laidOut ztE zud h0 hb fun x hx=>hlt x (by simp[hx])) (Below.trod laidOut zBs zBt h1 hb fun x hx=>hlt x (by simp[hx])) (Below.trod laidOut zBM zBO h2 hb fun x hx=>hlt x (by simp[hx]))
end RelayValues
end Go.Proofs.YthnijnblnoflnaaGreatDoor
end
