/-
  Lemmas. No condition.
-/
import Derived.Test.YtgfllfooijgdfaaGreatDoorXm
set_option linter.unusedSimpArgs false
set_option linter.unusedVariables false
section
namespace Go.Proofs.YtgfllfooijgdfaaGreatDoor
open Go Go.CE Go.PE Go.ChangeShapes Go.WideShapes Go.ChangeAt Go.RowKit Go.Proofs.Tryz.Kn Go.Joins
namespace StopAgrees
open Law
set_option maxRecDepth 100000 in
theorem lifted(os:Os)(started:os.Started)(H:Type)(enc:TypeId×Value→H):
  ReturnsInHanded {} Tryz.checked os 3 .any (fun w args=>(Rows.stopAgreesSpec.pre enc Tryz.prog Tryz.f3 [] false w args∧laidMetH Tryz.prog zkK w)∧sizedMet enc Tryz.prog Tryz.f3 (OpenSpec.ofChange Rows.stopAgreesSpec) false w args)
   (Rows.stopAgreesSpec.post enc Tryz.prog Tryz.f3 false true false false):=by
 refine returnsInHanded_of_change_and (C:=Tryz.checked) (X:=fun w _=>laidMetH Tryz.prog zkK w) (fun _ _ _ hh h=>h.of_heap hh) own started (by kernel_rfl) Tryz.func3
  (ChangeSpec.witness_shaped (enc:=enc) (C:=Tryz.checked) (os:=os) (X:=fun w _=>laidMetH Tryz.prog zkK w) false (World.doorLaid Tryz.prog 400 os) #[.agg #[.int .u8 0,.int .u8 0,.int .u8 0,.int .u8 0,.int .u8 0,.int .u8 0,.int .u8 0,.int .u8 0,.int .u8 0,.int .u8 0,.int .u8 0],.agg #[.int .u8 0,.int .u8 0,.int .u8 0,.int .u8 0,.int .u8 0,.int .i8 0,.int .i8 0,.int .u8 0,.int .u8 0,.int .u8 0,.int .u8 0,.int .i8 0,.int .i8 0,.int .u8 0,.int .u8 0,.int .u8 0,.int .u8 0,.int .i8 0,.int .i8 0]] 8 rfl (World.shaped_of_RefB (by kernel_rfl) (by kernel_rfl)) (by kernel_rfl) (by kernel_rfl) (by kernel_rfl) (zn3 os _)) ?_
 intro W base args ds gs before hval0 hW _ _ hL _;have hval:∀(j:Nat) t v,Tryz.f3.params[j]? = some t→args[j]? = some v→Value.okWide Tryz.prog W .any base t v:=hval0;have hW':=hW;obtain⟨p,q,hA0,hV,rfl,hfz,hnd⟩:=hW;have hA:DataW.TrodAll enc Tryz.prog W 0 (fun _=>true) true Tryz.f3.params.toList args.toList ds p:=hA0;rw[Tryz.params3]at hA hval;obtain⟨v0,v1,d0,d1,p0,p1,rfl,rfl,rfl,h0,h1⟩:=trodAll_two hA;obtain⟨rfl,rfl⟩:=trodVars_none hV;obtain⟨vs0,es0,rfl,r0_,w0,hty0⟩:=PE.open_row 4 (by kernel_rfl) zs6 (hval 0 26 v0 rfl rfl) h0;obtain⟨y0,rfl,hy0⟩:=zo4 hty0;obtain⟨vs1,es1,rfl,r1_,w1,hty1⟩:=PE.open_row 5 (by kernel_rfl) zn2 (hval 1 34 v1 rfl rfl) h1;obtain⟨z1,rfl,hz1⟩:=zjc hty1;clear hA0 hval0;simp only[List.append_nil]at hW';have c:=zn7 zn8 zpa (zwS 14) (zu8 hL) (g:=3) (vs:=[.s (.agg vs0),.s (.agg vs1)]) (ds:=[.s (.agg (zcb y0)),.s (.agg (zcc z1))])
  ⟨r0_,r1_,trivial⟩ (fun x hx=>by
   simp only[YzL,YzK,or_false]at hx;rcases hx with rfl|rfl
   ·exact w0
   ·exact w1) (b:=true) (t3 0 y0 hy0 z1 hz1)
 have hlt:∀x∈p0++p1,x.block<W.heap.size:=fun x hx=>hW'.lt x (by simpa using hx);refine (c.calls room).mono fun e W' ⟨he,hb⟩=>⟨_,he,?_⟩;refine⟨[d0,d1],[],p0++p1,[],p0++p1,[],by simpa using hW',?_,?_,rfl,hb.frame _,fun hh=>by cases hh⟩
 ·exact trodAll_mk1 (shut_bool Tryz.underlying4 true)
 ·exact trodAll_mk2 (Below.trod laidOut zr0 zsE h0 hb fun x hx=>hlt x (by simp[hx])) (Below.trod laidOut zmS znv h1 hb fun x hx=>hlt x (by simp[hx]))
end StopAgrees
end Go.Proofs.YtgfllfooijgdfaaGreatDoor
end
