/-
  Lemmas. No condition.
-/
import Derived.Test.YtnmjdoahlkcflaaGreatDoorZn
set_option linter.unusedSimpArgs false
set_option linter.unusedVariables false
section
namespace Go.Proofs.YtnmjdoahlkcflaaGreatDoor
open Go Go.CE Go.PE Go.ChangeShapes Go.WideShapes Go.ChangeAt Go.RowKit Go.Proofs.Tryz.Kn Go.Joins
set_option maxRecDepth 100000
namespace Law
theorem zrn{n:Nat}{ds:List DV}(h:Ty Tryz.prog (n+1) 3 ds):∃m:Int,ds=[I6 m]∧True:=by obtain⟨m,e,_⟩:=zkC Tryz.underlying3 h;exact⟨m,e,trivial⟩
end Law
end Go.Proofs.YtnmjdoahlkcflaaGreatDoor
end
section
namespace Go.Proofs.YtnmjdoahlkcflaaGreatDoor
open Go Go.CE Go.PE Go.ChangeShapes Go.WideShapes Go.ChangeAt Go.RowKit Go.Proofs.Tryz.Kn Go.Joins
set_option maxRecDepth 100000
namespace Law
theorem jj{n:Nat}{ds:List DV}(h:Ty Tryz.prog (n+3) 27 ds):∃l:Sl (Nat→Nat),ds=[enL 5 enB l]∧∀b∈l.els,∀i,b i<256:=by obtain⟨s,rfl,_,h⟩:=zma (f:=enB) (q:=fun b=>∀i,b i<256) (st:=5) Tryz.underlying27 (by kernel_rfl) (fun x hx=>ztZ hx) h;exact⟨s,rfl,h⟩
theorem js:Tryz.prog.readableRec 27=true:=by kernel_rfl
theorem jt:27<Tryz.prog.types.size:=of_decide_eq_true (by kernel_rfl)
theorem jv:zbP Tryz.prog 3 27=true:=by kernel_rfl
theorem jp{n:Nat}{ds:List DV}(h:Ty Tryz.prog (n+2) 29 ds):∃q:Zh,ds=[I6 q.rank,I6 q.num]∧True:=by have h:=u5 Tryz.underlying29 h;obtain⟨a0,b0,rfl,h0,a1,b1,rfl,h1,rfl⟩:=h;obtain⟨m0,rfl,_⟩:=zrn h0;obtain⟨m1,rfl,_⟩:=zrn h1;exact⟨⟨m0,m1⟩,rfl,trivial⟩
theorem jx:Tryz.prog.readableRec 29=true:=by kernel_rfl
theorem jz:29<Tryz.prog.types.size:=of_decide_eq_true (by kernel_rfl)
theorem km:zbP Tryz.prog 2 29=true:=by kernel_rfl
end Law
end Go.Proofs.YtnmjdoahlkcflaaGreatDoor
end
section
namespace Go.Proofs.YtnmjdoahlkcflaaGreatDoor
open Go Go.CE Go.PE Go.ChangeShapes Go.WideShapes Go.ChangeAt Go.RowKit Go.Proofs.Tryz.Kn Go.Joins
namespace CrescendoSilent
open Law
set_option maxRecDepth 100000 in
theorem lifted(os:Os)(started:os.Started)(H:Type)(enc:TypeId×Value→H):
  ReturnsInHanded {} Tryz.checked os 3 .any (fun w args=>(Rows.crescendoSilentSpec.pre enc Tryz.prog Tryz.f3 [] false w args∧laidMetH Tryz.prog zpy w)∧sizedMet enc Tryz.prog Tryz.f3 (OpenSpec.ofChange Rows.crescendoSilentSpec) false w args)
   (Rows.crescendoSilentSpec.post enc Tryz.prog Tryz.f3 false true false false):=by
 refine returnsInHanded_of_change_and (C:=Tryz.checked) (X:=fun w _=>laidMetH Tryz.prog zpy w) (fun _ _ _ hh h=>h.of_heap hh) own started (by kernel_rfl) Tryz.func3
  (ChangeSpec.witness_shaped (enc:=enc) (C:=Tryz.checked) (os:=os) (X:=fun w _=>laidMetH Tryz.prog zpy w) false (World.doorLaid Tryz.prog 400 os) #[.agg #[.slice none 0 0,.slice none 0 0,.slice none 0 0],.slice none 0 0,.agg #[.int .i64 0,.int .i64 0]] 8 rfl (World.shaped_of_RefB (by kernel_rfl) (by kernel_rfl)) (by kernel_rfl) (by kernel_rfl) (by kernel_rfl) (zsK os _)) ?_
 intro W base args ds gs before hval0 hW _ _ hL _;have hval:∀(j:Nat) t v,Tryz.f3.params[j]? = some t→args[j]? = some v→Value.okWide Tryz.prog W .any base t v:=hval0;have hW':=hW;obtain⟨p,q,hA0,hV,rfl,hfz,hnd⟩:=hW;have hA:DataW.TrodAll enc Tryz.prog W 0 (fun _=>true) true Tryz.f3.params.toList args.toList ds p:=hA0;rw[Tryz.params3]at hA hval;obtain⟨v0,v1,v2,d0,d1,d2,p0,p1,p2,rfl,rfl,rfl,h0,h1,h2⟩:=trodAll_three hA;obtain⟨rfl,rfl⟩:=trodVars_none hV;obtain⟨vs0,es0,rfl,r0_,w0,hty0⟩:=PE.open_row 6 (by kernel_rfl) zyb (hval 0 26 v0 rfl rfl) h0;obtain⟨p,rfl,hp⟩:=ztX hty0;obtain⟨c1,x1,rfl,r1_,w1,hty1⟩:=PE.open_one 3 (by kernel_rfl) (by kernel_rfl) jv (hval 1 27 v1 rfl rfl) h1;obtain⟨l1,hw1,hl1⟩:=jj hty1;obtain rfl:x1=enL 5 enB l1:=(List.cons.inj hw1).1;obtain⟨vs2,es2,rfl,r2_,w2,hty2⟩:=PE.open_row 2 (by kernel_rfl) km (hval 2 29 v2 rfl rfl) h2;obtain⟨q2,rfl,hq2⟩:=jp hty2;clear hA0 hval0;simp only[List.append_nil]at hW';have c:=zsQ zsS zt5 (zDm 16) (zAA hL) (g:=3) (vs:=[.s (.agg vs0),.s (.one c1),.s (.agg vs2)]) (ds:=[.s (.agg (zgT p)),.s (.one (enL 5 enB l1)),.s (.agg ([I6 q2.rank,I6 q2.num]))])
  ⟨r0_,r1_,r2_,trivial⟩ (fun x hx=>by
   simp only[Yzu,Yzv,or_false]at hx;rcases hx with rfl|rfl|rfl
   ·exact w0
   ·exact w1
   ·exact w2) (b:=true) (t3 0 p hp l1 hl1 q2)
 have hlt:∀x∈p0++(p1++p2),x.block<W.heap.size:=fun x hx=>hW'.lt x (by simpa using hx);refine (c.calls room).mono fun e W' ⟨he,hb⟩=>⟨_,he,?_⟩;refine⟨[d0,d1,d2],[],p0++(p1++p2),[],p0++(p1++p2),[],by simpa using hW',?_,?_,rfl,hb.frame _,fun hh=>by cases hh⟩
 ·exact trodAll_mk1 (shut_bool Tryz.underlying4 true)
 ·exact trodAll_mk3 (Below.trod laidOut zw4 zxD h0 hb fun x hx=>hlt x (by simp[hx])) (Below.trod laidOut js jt h1 hb fun x hx=>hlt x (by simp[hx])) (Below.trod laidOut jx jz h2 hb fun x hx=>hlt x (by simp[hx]))
end CrescendoSilent
end Go.Proofs.YtnmjdoahlkcflaaGreatDoor
end
