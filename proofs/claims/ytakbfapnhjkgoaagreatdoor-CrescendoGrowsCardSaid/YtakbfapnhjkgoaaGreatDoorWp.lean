/-
  Lemmas. No condition.
-/
import Derived.Test.YtakbfapnhjkgoaaGreatDoorZo
import Derived.Test.YtakbfapnhjkgoaaGreatDoorWn
set_option linter.unusedSimpArgs false
set_option linter.unusedVariables false
section
namespace Go.Proofs.YtakbfapnhjkgoaaGreatDoor
open Go Go.CE Go.PE Go.ChangeShapes Go.WideShapes Go.ChangeAt Go.RowKit Go.Proofs.Tryz.Kn Go.Joins
set_option maxRecDepth 100000
namespace Law
theorem zEf{n:Nat}{ds:List DV}(h:Ty Tryz.prog (n+3) 52 ds):∃b b':Nat→Nat,ds=zFh b b'∧(∀i,b i<256)∧∀i,b' i<256:=by have h:=zqc Tryz.underlying52 h;obtain⟨a0,b0,rfl,h0,a1,b1,rfl,h1,rfl⟩:=h;obtain⟨x,rfl,hx⟩:=zsU h0;obtain⟨y,rfl,hy⟩:=zsU h1;exact⟨x,y,rfl,hx,hy⟩
theorem zEG:Tryz.prog.readableRec 52=true:=by kernel_rfl
theorem zEJ:52<Tryz.prog.types.size:=of_decide_eq_true (by kernel_rfl)
theorem zEM:zb5 Tryz.prog 3 52=true:=by kernel_rfl
end Law
end Go.Proofs.YtakbfapnhjkgoaaGreatDoor
end
section
namespace Go.Proofs.YtakbfapnhjkgoaaGreatDoor
open Go Go.CE Go.PE Go.ChangeShapes Go.WideShapes Go.ChangeAt Go.RowKit Go.Proofs.Tryz.Kn Go.Joins
namespace CrescendoGrows
open Law
set_option maxRecDepth 100000 in
theorem lifted(os:Os)(started:os.Started)(H:Type)(enc:TypeId×Value→H):
  ReturnsInHanded {} Tryz.checked os 4 .any (fun w args=>(Rows.crescendoGrowsSpec.pre enc Tryz.prog Tryz.f4 [] false w args∧laidMetH Tryz.prog zoq w)∧sizedMet enc Tryz.prog Tryz.f4 (OpenSpec.ofChange Rows.crescendoGrowsSpec) false w args)
   (Rows.crescendoGrowsSpec.post enc Tryz.prog Tryz.f4 false true false false):=by
 refine returnsInHanded_of_change_and (C:=Tryz.checked) (X:=fun w _=>laidMetH Tryz.prog zoq w) (fun _ _ _ hh h=>h.of_heap hh) own started (by kernel_rfl) Tryz.func4
  (ChangeSpec.witness_shaped (enc:=enc) (C:=Tryz.checked) (os:=os) (X:=fun w _=>laidMetH Tryz.prog zoq w) false (World.doorLaid Tryz.prog 400 os) #[.agg #[.slice none 0 0,.slice none 0 0,.slice none 0 0],.agg #[.int .u8 0,.int .u8 0,.int .u8 0,.int .u8 0,.int .u8 0,.int .u8 0,.int .u8 0,.int .u8 0,.int .u8 0,.int .u8 0],.int .u8 0] 8 rfl (World.shaped_of_RefB (by kernel_rfl) (by kernel_rfl)) (by kernel_rfl) (by kernel_rfl) (by kernel_rfl) (zrz os _)) ?_
 intro W base args ds gs before hval0 hW _ _ hL _;have hval:∀(j:Nat) t v,Tryz.f4.params[j]? = some t→args[j]? = some v→Value.okWide Tryz.prog W .any base t v:=hval0;have hW':=hW;obtain⟨p,q,hA0,hV,rfl,hfz,hnd⟩:=hW;have hA:DataW.TrodAll enc Tryz.prog W 0 (fun _=>true) true Tryz.f4.params.toList args.toList ds p:=hA0;rw[Tryz.params4]at hA hval;obtain⟨v0,v1,v2,d0,d1,d2,p0,p1,p2,rfl,rfl,rfl,h0,h1,h2⟩:=trodAll_three hA;obtain⟨rfl,rfl⟩:=trodVars_none hV;obtain⟨vs0,es0,rfl,r0_,w0,hty0⟩:=PE.open_row 6 (by kernel_rfl) zxd (hval 0 26 v0 rfl rfl) h0;obtain⟨p,rfl,hp⟩:=zsS hty0;obtain⟨vs1,es1,rfl,r1_,w1,hty1⟩:=PE.open_row 3 (by kernel_rfl) zEM (hval 1 52 v1 rfl rfl) h1;obtain⟨b1,b1',rfl,hb1,hb1'⟩:=zEf hty1;obtain⟨c2,x2,rfl,r2_,w2,hty2⟩:=PE.open_one 1 (by kernel_rfl) (by kernel_rfl) zFT (hval 2 5 v2 rfl rfl) h2;obtain⟨n2,hw2,hn2⟩:=qA hty2;obtain rfl:x2=U8 (n2:Int):=(List.cons.inj hw2).1;clear hA0 hval0;simp only[Yz5]at hW';have c:=zrF zrG zs1 (zCW 16) (zAl hL) (g:=4) (vs:=[.s (.agg vs0),.s (.agg vs1),.s (.one c2)]) (ds:=[.s (.agg (zf1 p)),.s (.agg (zFh b1 b1')),.s (.one (U8 (n2:Int)))])
  ⟨r0_,r1_,r2_,trivial⟩ (fun x hx=>by
   simp only[Yzw,Yzt,or_false]at hx;rcases hx with rfl|rfl|rfl
   ·exact w0
   ·exact w1
   ·exact w2) (b:=true) (t4 0 p hp b1 b1' hb1 hb1' n2 hn2)
 have hlt:∀x∈p0++(p1++p2),x.block<W.heap.size:=fun x hx=>hW'.lt x (by simpa using hx);refine (c.calls room).mono fun e W' ⟨he,hb⟩=>⟨_,he,?_⟩;refine⟨[d0,d1,d2],[],p0++(p1++p2),[],p0++(p1++p2),[],by simpa using hW',?_,?_,rfl,hb.frame _,fun hh=>by cases hh⟩
 ·exact trodAll_mk1 (shut_bool Tryz.underlying4 true)
 ·exact trodAll_mk3 (Below.trod laidOut zvY zwx h0 hb fun x hx=>hlt x (by simp[hx])) (Below.trod laidOut zEG zEJ h1 hb fun x hx=>hlt x (by simp[hx])) (Below.trod laidOut zFK zFQ h2 hb fun x hx=>hlt x (by simp[hx]))
end CrescendoGrows
end Go.Proofs.YtakbfapnhjkgoaaGreatDoor
end
