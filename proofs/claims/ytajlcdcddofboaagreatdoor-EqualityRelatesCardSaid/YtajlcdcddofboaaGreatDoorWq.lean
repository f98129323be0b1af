/-
  Lemmas. No condition.
-/
import Derived.Test.YtajlcdcddofboaaGreatDoorUp
section
namespace Go.Proofs.YtajlcdcddofboaaGreatDoor
open Go Go.CE Go.PE Go.ChangeShapes Go.WideShapes Go.ChangeAt Go.RowKit Go.Proofs.Tryz.Kn Go.Joins
namespace EqualityRelates
open Law
set_option maxRecDepth 100000 in
theorem lifted(os:Os)(started:os.Started)(H:Type)(enc:TypeId×Value→H):
  ReturnsInHanded {} Tryz.checked os 7 .any (fun w args=>(Rows.equalityRelatesSpec.pre enc Tryz.prog Tryz.f7 [] false w args∧laidMetH Tryz.prog zm4 w)∧sizedMet enc Tryz.prog Tryz.f7 (OpenSpec.ofChange Rows.equalityRelatesSpec) false w args)
   (Rows.equalityRelatesSpec.post enc Tryz.prog Tryz.f7 false true false false):=by
 refine returnsInHanded_of_change_and (C:=Tryz.checked) (X:=fun w _=>laidMetH Tryz.prog zm4 w) (fun _ _ _ hh h=>h.of_heap hh) own started (by kernel_rfl) Tryz.func7
  (ChangeSpec.witness_shaped (enc:=enc) (C:=Tryz.checked) (os:=os) (X:=fun w _=>laidMetH Tryz.prog zm4 w) false (World.doorLaid Tryz.prog 400 os) #[.agg #[.slice none 0 0,.slice none 0 0,.slice none 0 0],.agg #[.int .u8 0,.int .u8 0,.int .u8 0,.int .u8 0,.int .u8 0],.agg #[.int .u8 0,.int .u8 0,.int .u8 0,.int .u8 0,.int .u8 0]] 8 rfl (World.shaped_of_RefB (by kernel_rfl) (by kernel_rfl)) (by kernel_rfl) (by kernel_rfl) (by kernel_rfl) (zpW os _)) ?_
 intro W base args ds gs before hval0 hW _ _ hL _;have hval:∀(j:Nat) t v,Tryz.f7.params[j]? = some t→args[j]? = some v→Value.okWide Tryz.prog W .any base t v:=hval0;have hW':=hW;obtain⟨p,q,hA0,hV,rfl,hfz,hnd⟩:=hW;have hA:DataW.TrodAll enc Tryz.prog W 0 (fun _=>true) true Tryz.f7.params.toList args.toList ds p:=hA0;rw[Tryz.params7]at hA hval;obtain⟨v0,v1,v2,d0,d1,d2,p0,p1,p2,rfl,rfl,rfl,h0,h1,h2⟩:=trodAll_three hA;obtain⟨rfl,rfl⟩:=trodVars_none hV;obtain⟨vs0,es0,rfl,r0_,w0,hty0⟩:=PE.open_row 6 (by kernel_rfl) zuQ (hval 0 26 v0 rfl rfl) h0;obtain⟨p,rfl,hp⟩:=zq8 hty0;obtain⟨vs1,es1,rfl,r1_,w1,hty1⟩:=PE.open_row 2 (by kernel_rfl) zqN (hval 1 27 v1 rfl rfl) h1;obtain⟨b1,rfl,hb1⟩:=zg1 hty1;obtain⟨vs2,es2,rfl,r2_,w2,hty2⟩:=PE.open_row 2 (by kernel_rfl) zqN (hval 2 27 v2 rfl rfl) h2;obtain⟨b2,rfl,hb2⟩:=zg1 hty2;clear hA0 hval0;simp only[YzD]at hW';have c:=zp2 zp6 zrg (zCb 14) (zwg hL) (g:=7) (vs:=[.s (.agg vs0),.s (.agg vs1),.s (.agg vs2)]) (ds:=[.s (.agg (ze0 p)),.s (.agg (enB b1)),.s (.agg (enB b2))])
  ⟨r0_, r1_, r2_, trivial⟩ (fun x hx => by
   simp only[YzO,YzK,or_false]at hx;rcases hx with rfl|rfl|rfl
   ·exact w0
   ·exact w1
   ·exact w2) (b:=true) (t7 0 p hp b1 b2 hb1 hb2)
 have hlt:∀x∈p0++(p1++p2),x.block<W.heap.size:=fun x hx=>hW'.lt x (by simpa using hx);refine (c.calls room).mono fun e W' ⟨he,hb⟩=>⟨_,he,?_⟩;refine⟨[d0,d1,d2],[],p0++(p1++p2),[],p0++(p1++p2),[],by simpa using hW',?_,?_,rfl,hb.frame _,fun hh=>by cases hh⟩
 ·exact trodAll_mk1 (shut_bool Tryz.underlying4 true)
 ·exact trodAll_mk3 (Below.trod laidOut ztH zt9 h0 hb fun x hx=>hlt x (by simp[hx])) (Below.trod laidOut zqp zqD h1 hb fun x hx=>hlt x (by simp[hx])) (Below.trod laidOut zqp zqD h2 hb fun x hx=>hlt x (by simp[hx]))
end EqualityRelates
end Go.Proofs.YtajlcdcddofboaaGreatDoor
end
