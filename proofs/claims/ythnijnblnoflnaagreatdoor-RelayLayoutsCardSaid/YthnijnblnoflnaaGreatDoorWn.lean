/-
  Lemmas. No condition.
-/
import Derived.Test.YthnijnblnoflnaaGreatDoorXm
set_option linter.unusedSimpArgs false
set_option linter.unusedVariables false
section
namespace Go.Proofs.YthnijnblnoflnaaGreatDoor
open Go Go.CE Go.PE Go.ChangeShapes Go.WideShapes Go.ChangeAt Go.RowKit Go.Proofs.Tryz.Kn Go.Joins
set_option maxRecDepth 100000
namespace Law
theorem zog{n:Nat}{ds:List DV}(h:Ty Tryz.prog (n+1) 3 ds):∃m:Int,ds=[I6 m]∧True:=by obtain⟨m,e,_⟩:=zk3 Tryz.underlying3 h;exact⟨m,e,trivial⟩
theorem zwj:Tryz.prog.readableRec 3=true:=by kernel_rfl
theorem ltInt:3<Tryz.prog.types.size:=of_decide_eq_true (by kernel_rfl)
theorem zxh:zap Tryz.prog 1 3=true:=by kernel_rfl
end Law
end Go.Proofs.YthnijnblnoflnaaGreatDoor
end
section
namespace Go.Proofs.YthnijnblnoflnaaGreatDoor
open Go Go.CE Go.PE Go.ChangeShapes Go.WideShapes Go.ChangeAt Go.RowKit Go.Proofs.Tryz.Kn Go.Joins
namespace RelayLayouts
open Law
set_option maxRecDepth 100000 in
theorem lifted(os:Os)(started:os.Started)(H:Type)(enc:TypeId×Value→H):
  ReturnsInHanded {} Tryz.checked os 3 .any (fun w args=>(Rows.relayLayoutsSpec.pre enc Tryz.prog Tryz.f3 [] false w args∧laidMetH Tryz.prog zmG w)∧sizedMet enc Tryz.prog Tryz.f3 (OpenSpec.ofChange Rows.relayLayoutsSpec) false w args)
   (Rows.relayLayoutsSpec.post enc Tryz.prog Tryz.f3 false true false false):=by
 refine returnsInHanded_of_change_and (C:=Tryz.checked) (X:=fun w _=>laidMetH Tryz.prog zmG w) (fun _ _ _ hh h=>h.of_heap hh) own started (by kernel_rfl) Tryz.func3
  (ChangeSpec.witness_shaped (enc:=enc) (C:=Tryz.checked) (os:=os) (X:=fun w _=>laidMetH Tryz.prog zmG w) false (World.doorLaid Tryz.prog 400 os) #[.agg #[.slice none 0 0,.slice none 0 0,.slice none 0 0],.int .i64 0] 8 rfl (World.shaped_of_RefB (by kernel_rfl) (by kernel_rfl)) (by kernel_rfl) (by kernel_rfl) (by kernel_rfl) (zpz os _)) ?_
 intro W base args ds gs before hval0 hW _ _ hL _;have hval:∀(j:Nat) t v,Tryz.f3.params[j]? = some t→args[j]? = some v→Value.okWide Tryz.prog W .any base t v:=hval0;have hW':=hW;obtain⟨p,q,hA0,hV,rfl,hfz,hnd⟩:=hW;have hA:DataW.TrodAll enc Tryz.prog W 0 (fun _=>true) true Tryz.f3.params.toList args.toList ds p:=hA0;rw[Tryz.params3]at hA hval;obtain⟨v0,v1,d0,d1,p0,p1,rfl,rfl,rfl,h0,h1⟩:=trodAll_two hA;obtain⟨rfl,rfl⟩:=trodVars_none hV;obtain⟨vs0,es0,rfl,r0_,w0,hty0⟩:=PE.open_row 6 (by kernel_rfl) zuS (hval 0 26 v0 rfl rfl) h0;obtain⟨p,rfl,hp⟩:=zqH hty0;obtain⟨c1,x1,rfl,r1_,w1,hty1⟩:=PE.open_one 1 (by kernel_rfl) (by kernel_rfl) zxh (hval 1 3 v1 rfl rfl) h1;obtain⟨n1,hw1,hn1⟩:=zog hty1;obtain rfl:x1=I6 n1:=(List.cons.inj hw1).1;clear hA0 hval0;simp only[Yzw]at hW';have c:=zpD zpE zqQ (zzE 14) (zw9 hL) (g:=3) (vs:=[.s (.agg vs0),.s (.one c1)]) (ds:=[.s (.agg (zeO p)),.s (.one (I6 n1))])
  ⟨r0_,r1_,trivial⟩ (fun x hx=>by
   simp only[Yz7,Yz8,or_false]at hx;rcases hx with rfl|rfl
   ·exact w0
   ·exact w1) (b:=true) (t3 0 p hp n1)
 have hlt:∀x∈p0++p1,x.block<W.heap.size:=fun x hx=>hW'.lt x (by simpa using hx);refine (c.calls room).mono fun e W' ⟨he,hb⟩=>⟨_,he,?_⟩;refine⟨[d0,d1],[],p0++p1,[],p0++p1,[],by simpa using hW',?_,?_,rfl,hb.frame _,fun hh=>by cases hh⟩
 ·exact trodAll_mk1 (shut_bool Tryz.underlying4 true)
 ·exact trodAll_mk2 (Below.trod laidOut ztE zud h0 hb fun x hx=>hlt x (by simp[hx])) (Below.trod laidOut zwj ltInt h1 hb fun x hx=>hlt x (by simp[hx]))
end RelayLayouts
end Go.Proofs.YthnijnblnoflnaaGreatDoor
end
