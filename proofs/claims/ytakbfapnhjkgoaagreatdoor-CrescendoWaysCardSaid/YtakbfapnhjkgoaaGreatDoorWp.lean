/-
  Lemmas. No condition.
-/
import Derived.Test.YtakbfapnhjkgoaaGreatDoorZo
set_option linter.unusedSimpArgs false
set_option linter.unusedVariables false
section
namespace Go.Proofs.YtakbfapnhjkgoaaGreatDoor
open Go Go.CE Go.PE Go.ChangeShapes Go.WideShapes Go.ChangeAt Go.RowKit Go.Proofs.Tryz.Kn Go.Joins
set_option maxRecDepth 100000
namespace Law
theorem zmE{n:Nat}{ds:List DV}(h:Ty Tryz.prog (n+1) 28 ds):∃m:Int,ds=enU m∧True:=by obtain⟨m,e,_⟩:=zjw Tryz.underlying28 h;exact⟨m,e,trivial⟩
theorem zrX{n:Nat}{ds:List DV}(h:Ty Tryz.prog (n+3) 30 ds):∃r:Reg,ds=yz r∧True:=by have h:=vV Tryz.underlying30 h;obtain⟨a0,b0,rfl,h0,a1,b1,rfl,h1,a2,b2,rfl,h2,rfl⟩:=h;obtain⟨s,rfl,_,_⟩:=zmF (f:=enU) (q:=fun _=>True) (st:=1) Tryz.underlying27 (by kernel_rfl) (fun x hx=>zmE hx) h0;obtain⟨c,rfl,_⟩:=zmE h1;obtain⟨d,rfl,_⟩:=zmE h2;exact⟨⟨s,c,d⟩,rfl,trivial⟩
structure Way where
 src:Reg
 dst:Reg
 most:Int
theorem zsQ{n:Nat}{ds:List DV}(h:Ty Tryz.prog (n+4) 32 ds):∃w:Way,ds=zb3 w.src w.dst w.most∧w.most≤9223372036854775807:=by have h:=vV Tryz.underlying32 h;obtain⟨a0,b0,rfl,h0,a1,b1,rfl,h1,a2,b2,rfl,h2,rfl⟩:=h;obtain⟨r,rfl,_⟩:=zrX h0;obtain⟨s,rfl,_⟩:=zrX h1;obtain⟨m,rfl,hw⟩:=zjw Tryz.underlying3 h2;simp only[Lit.wf]at hw;rw[LzC]at hw;have b:=of_decide_eq_true hw.2;exact⟨⟨r,s,m⟩,rfl,b⟩
theorem zvX:Tryz.prog.readableRec 32=true:=by kernel_rfl
theorem zww:32<Tryz.prog.types.size:=of_decide_eq_true (by kernel_rfl)
theorem zxc:zb5 Tryz.prog 4 32=true:=by kernel_rfl
end Law
end Go.Proofs.YtakbfapnhjkgoaaGreatDoor
end
section
namespace Go.Proofs.YtakbfapnhjkgoaaGreatDoor
open Go Go.CE Go.PE Go.ChangeShapes Go.WideShapes Go.ChangeAt Go.RowKit Go.Proofs.Tryz.Kn Go.Joins
namespace CrescendoWays
open Law
set_option maxRecDepth 100000 in
theorem lifted(os:Os)(started:os.Started)(H:Type)(enc:TypeId×Value→H):
  ReturnsInHanded {} Tryz.checked os 3 .any (fun w args=>(Rows.crescendoWaysSpec.pre enc Tryz.prog Tryz.f3 [] false w args∧laidMetH Tryz.prog zoq w)∧sizedMet enc Tryz.prog Tryz.f3 (OpenSpec.ofChange Rows.crescendoWaysSpec) false w args)
   (Rows.crescendoWaysSpec.post enc Tryz.prog Tryz.f3 false true false false):=by
 refine returnsInHanded_of_change_and (C:=Tryz.checked) (X:=fun w _=>laidMetH Tryz.prog zoq w) (fun _ _ _ hh h=>h.of_heap hh) own started (by kernel_rfl) Tryz.func3
  (ChangeSpec.witness_shaped (enc:=enc) (C:=Tryz.checked) (os:=os) (X:=fun w _=>laidMetH Tryz.prog zoq w) false (World.doorLaid Tryz.prog 400 os) #[.agg #[.slice none 0 0,.slice none 0 0,.slice none 0 0],.agg #[.slice none 0 0,.int .u64 0,.int .u64 0,.slice none 0 0,.int .u64 0,.int .u64 0,.int .i64 0]] 8 rfl (World.shaped_of_RefB (by kernel_rfl) (by kernel_rfl)) (by kernel_rfl) (by kernel_rfl) (by kernel_rfl) (zrz os _)) ?_
 intro W base args ds gs before hval0 hW _ _ hL _;have hval:∀(j:Nat) t v,Tryz.f3.params[j]? = some t→args[j]? = some v→Value.okWide Tryz.prog W .any base t v:=hval0;have hW':=hW;obtain⟨p,q,hA0,hV,rfl,hfz,hnd⟩:=hW;have hA:DataW.TrodAll enc Tryz.prog W 0 (fun _=>true) true Tryz.f3.params.toList args.toList ds p:=hA0;rw[Tryz.params3]at hA hval;obtain⟨v0,v1,d0,d1,p0,p1,rfl,rfl,rfl,h0,h1⟩:=trodAll_two hA;obtain⟨rfl,rfl⟩:=trodVars_none hV;obtain⟨vs0,es0,rfl,r0_,w0,hty0⟩:=PE.open_row 6 (by kernel_rfl) zxd (hval 0 26 v0 rfl rfl) h0;obtain⟨p,rfl,hp⟩:=zsS hty0;obtain⟨vs1,es1,rfl,r1_,w1,hty1⟩:=PE.open_row 4 (by kernel_rfl) zxc (hval 1 32 v1 rfl rfl) h1;obtain⟨y1,rfl,hy1⟩:=zsQ hty1;clear hA0 hval0;simp only[Yz5]at hW';have c:=zrF zrG zs1 (zCW 16) (zAl hL) (g:=3) (vs:=[.s (.agg vs0),.s (.agg vs1)]) (ds:=[.s (.agg (zf1 p)),.s (.agg (zb3 y1.src y1.dst y1.most))])
  ⟨r0_,r1_,trivial⟩ (fun x hx=>by
   simp only[Yzw,Yzt,or_false]at hx;rcases hx with rfl|rfl
   ·exact w0
   ·exact w1) (b:=true) (t3 0 p hp y1.src y1.dst y1.most hy1)
 have hlt:∀x∈p0++p1,x.block<W.heap.size:=fun x hx=>hW'.lt x (by simpa using hx);refine (c.calls room).mono fun e W' ⟨he,hb⟩=>⟨_,he,?_⟩;refine⟨[d0,d1],[],p0++p1,[],p0++p1,[],by simpa using hW',?_,?_,rfl,hb.frame _,fun hh=>by cases hh⟩
 ·exact trodAll_mk1 (shut_bool Tryz.underlying4 true)
 ·exact trodAll_mk2 (Below.trod laidOut zvY zwx h0 hb fun x hx=>hlt x (by simp[hx])) (Below.trod laidOut zvX zww h1 hb fun x hx=>hlt x (by simp[hx]))
end CrescendoWays
end Go.Proofs.YtakbfapnhjkgoaaGreatDoor
end
