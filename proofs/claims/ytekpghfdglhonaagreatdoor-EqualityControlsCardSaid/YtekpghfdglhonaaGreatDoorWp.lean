/-
  Lemmas: Lq, Lf3. No condition.
-/
import Derived.Test.YtekpghfdglhonaaGreatDoorUo
section
namespace Go.Proofs.YtekpghfdglhonaaGreatDoor
open Go Go.CE Go.PE Go.ChangeShapes Go.WideShapes Go.ChangeAt Go.RowKit Go.Proofs.Tryz.Kn Go.Joins
set_option maxRecDepth 100000
namespace Law
theorem zqx{n:Nat}{ds:List DV}(h:Ty Tryz.prog (n+2) 29 ds):∃c:Ctl,ds=zZ c:=by
 have h:=vP Tryz.underlying29 h;obtain⟨a0,b0,rfl,h0,a1,b1,rfl,h1,a2,b2,rfl,h2,rfl⟩:=h;obtain⟨m0,rfl,_⟩:=zd5 Tryz.underlying3 h0;obtain⟨m1,rfl,_⟩:=zd5 Tryz.underlying3 h1;obtain⟨m2,rfl,_⟩:=zd5 Tryz.underlying3 h2;exact⟨⟨m0,m1,m2⟩,rfl⟩
theorem zsH:Tryz.prog.readableRec 29=true:=by kernel_rfl
theorem zsV:29<Tryz.prog.types.size:=of_decide_eq_true (by kernel_rfl)
theorem ztu:qE Tryz.prog 2 29=true:=by kernel_rfl
end Law
end Go.Proofs.YtekpghfdglhonaaGreatDoor
end
section
namespace Go.Proofs.YtekpghfdglhonaaGreatDoor
open Go Go.CE Go.PE Go.ChangeShapes Go.WideShapes Go.ChangeAt Go.RowKit Go.Proofs.Tryz.Kn Go.Joins
namespace EqualityControls
open Law
set_option maxRecDepth 100000 in
theorem lifted(os:Os)(started:os.Started)(H:Type)(enc:TypeId×Value→H):
  ReturnsInHanded {} Tryz.checked os 3 .any (fun w args=>(Rows.equalityControlsSpec.pre enc Tryz.prog Tryz.f3 [] false w args∧laidMetH Tryz.prog zkM w)∧sizedMet enc Tryz.prog Tryz.f3 (OpenSpec.ofChange Rows.equalityControlsSpec) false w args)
   (Rows.equalityControlsSpec.post enc Tryz.prog Tryz.f3 false true false false):=by
 refine returnsInHanded_of_change_and (C:=Tryz.checked) (X:=fun w _=>laidMetH Tryz.prog zkM w) (fun _ _ _ hh h=>h.of_heap hh) own started (by kernel_rfl) Tryz.func3
  (ChangeSpec.witness_shaped (enc:=enc) (C:=Tryz.checked) (os:=os) (X:=fun w _=>laidMetH Tryz.prog zkM w) false (World.doorLaid Tryz.prog 400 os) #[.agg #[.slice none 0 0,.slice none 0 0,.slice none 0 0],.agg #[.int .u8 0,.int .u8 0,.int .u8 0,.int .u8 0,.int .u8 0],.agg #[.int .i64 0,.int .i64 0,.int .i64 0]] 8 rfl (World.shaped_of_RefB (by kernel_rfl) (by kernel_rfl)) (by kernel_rfl) (by kernel_rfl) (by kernel_rfl) (znA os _)) ?_
 intro W base args ds gs before hval0 hW _ _ hL _;have hval:∀(j:Nat) t v,Tryz.f3.params[j]? = some t→args[j]? = some v→Value.okWide Tryz.prog W .any base t v:=hval0;have hW':=hW;obtain⟨p,q,hA0,hV,rfl,hfz,hnd⟩:=hW;have hA:DataW.TrodAll enc Tryz.prog W 0 (fun _=>true) true Tryz.f3.params.toList args.toList ds p:=hA0
 rw[Tryz.params3]at hA hval;obtain⟨v0,v1,v2,d0,d1,d2,p0,p1,p2,rfl,rfl,rfl,h0,h1,h2⟩:=trodAll_three hA;obtain⟨rfl,rfl⟩:=trodVars_none hV;obtain⟨vs0,es0,rfl,r0_,w0,hty0⟩:=PE.open_row 6 (by kernel_rfl) zrZ (hval 0 26 v0 rfl rfl) h0
 obtain⟨p,rfl,hp⟩:=zoA hty0;obtain⟨vs1,es1,rfl,r1_,w1,hty1⟩:=PE.open_row 2 (by kernel_rfl) zr0 (hval 1 27 v1 rfl rfl) h1
 obtain⟨b1,rfl,hb1⟩:=zji hty1;obtain⟨vs2,es2,rfl,r2_,w2,hty2⟩:=PE.open_row 2 (by kernel_rfl) ztu (hval 2 29 v2 rfl rfl) h2
 obtain⟨c2,rfl⟩:=zqx hty2;clear hA0 hval0;simp only[List.append_nil]at hW';have c:=znE znF (D_ok 14) (ztg hL) (g:=3) (vs:=[.s (.agg vs0),.s (.agg vs1),.s (.agg vs2)]) (ds:=[.s (.agg (zdN p)),.s (.agg (enB b1)),.s (.agg (zZ c2))])
  ⟨r0_, r1_, r2_, trivial⟩ (fun x hx => by
   simp only[List.mem_cons,List.not_mem_nil,or_false]at hx;rcases hx with rfl|rfl|rfl
   ·exact w0
   ·exact w1
   ·exact w2) (b:=true) (t3 0 p hp b1 hb1 c2)
 have hlt:∀x∈p0++(p1++p2),x.block<W.heap.size:=fun x hx=>hW'.lt x (by simpa using hx)
 refine (c.calls room).mono fun e W' ⟨he,hb⟩=>⟨_,he,?_⟩
 refine⟨[d0,d1,d2],[],p0++(p1++p2),[],p0++(p1++p2),[],by simpa using hW',?_,?_,rfl,hb.frame _,fun hh=>by cases hh⟩
 ·exact trodAll_mk1 (shut_bool Tryz.underlying4 true)
 ·exact trodAll_mk3 (Below.trod laidOut zqV zrl h0 hb fun x hx=>hlt x (by simp[hx])) (Below.trod laidOut zqW zrm h1 hb fun x hx=>hlt x (by simp[hx])) (Below.trod laidOut zsH zsV h2 hb fun x hx=>hlt x (by simp[hx]))
end EqualityControls
end Go.Proofs.YtekpghfdglhonaaGreatDoor
end
