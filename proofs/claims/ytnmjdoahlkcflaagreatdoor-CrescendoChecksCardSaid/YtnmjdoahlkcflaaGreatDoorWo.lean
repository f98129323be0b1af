/-
  Lemmas. No condition.
-/
import Derived.Test.YtnmjdoahlkcflaaGreatDoorZn
set_option linter.unusedSimpArgs false
set_option linter.unusedVariables false
section
namespace Go.Proofs.YtnmjdoahlkcflaaGreatDoor
open Go Go.CE Go.PE Go.ChangeShapes Go.WideShapes Go.ChangeAt Go.RowKit Go.Proofs.Tryz.Kn Go.Joins
set_option maxRecDepth 100000
namespace Law
theorem zrn{n:Nat}{ds:List DV}(h:Ty Tryz.prog (n+1) 3 ds):∃m:Int,ds=[I6 m]∧True:=by obtain⟨m,e,_⟩:=zkC Tryz.underlying3 h;exact⟨m,e,trivial⟩
theorem zzP:Tryz.prog.readableRec 3=true:=by kernel_rfl
theorem ltInt:3<Tryz.prog.types.size:=of_decide_eq_true (by kernel_rfl)
theorem zAH:zbP Tryz.prog 1 3=true:=by kernel_rfl
end Law
end Go.Proofs.YtnmjdoahlkcflaaGreatDoor
end
section
namespace Go.Proofs.YtnmjdoahlkcflaaGreatDoor
open Go Go.CE Go.PE Go.ChangeShapes Go.WideShapes Go.ChangeAt Go.RowKit Go.Proofs.Tryz.Kn Go.Joins
set_option maxRecDepth 100000
namespace Law
theorem znO{n:Nat}{ds:List DV}(h:Ty Tryz.prog (n+1) 47 ds):∃m:Int,ds=enU m∧True:=by obtain⟨m,e,_⟩:=zkC Tryz.underlying47 h;exact⟨m,e,trivial⟩
theorem zwy{n:Nat}{ds:List DV}(h:Ty Tryz.prog (n+3) 49 ds):∃r:Reg,ds=zW r∧True:=by have h:=u5 Tryz.underlying49 h;obtain⟨a0,b0,rfl,h0,a1,b1,rfl,h1,a2,b2,rfl,h2,rfl⟩:=h;obtain⟨s,rfl,_,_⟩:=zma (f:=enU) (q:=fun _=>True) (st:=1) Tryz.underlying46 (by kernel_rfl) (fun x hx=>znO hx) h0;obtain⟨c,rfl,_⟩:=znO h1;obtain⟨d,rfl,_⟩:=znO h2;exact⟨⟨s,c,d⟩,rfl,trivial⟩
theorem ztV{n:Nat}{ds:List DV}(h:Ty Tryz.prog (n+4) 38 ds):∃l:Sl Reg,ds=[enL 3 zW l]∧True:=by obtain⟨s,rfl,_,_⟩:=zma (f:=zW) (q:=fun _=>True) (st:=3) Tryz.underlying38 (by kernel_rfl) (fun x hx=>zwy hx) h;exact⟨s,rfl,trivial⟩
theorem zw3:Tryz.prog.readableRec 38=true:=by kernel_rfl
theorem zxC:38<Tryz.prog.types.size:=of_decide_eq_true (by kernel_rfl)
theorem zya:zbP Tryz.prog 4 38=true:=by kernel_rfl
end Law
end Go.Proofs.YtnmjdoahlkcflaaGreatDoor
end
section
namespace Go.Proofs.YtnmjdoahlkcflaaGreatDoor
open Go Go.CE Go.PE Go.ChangeShapes Go.WideShapes Go.ChangeAt Go.RowKit Go.Proofs.Tryz.Kn Go.Joins
namespace CrescendoChecks
open Law
set_option maxRecDepth 100000 in
theorem lifted(os:Os)(started:os.Started)(H:Type)(enc:TypeId×Value→H):
  ReturnsInHanded {} Tryz.checked os 4 .any (fun w args=>(Rows.crescendoChecksSpec.pre enc Tryz.prog Tryz.f4 [] false w args∧laidMetH Tryz.prog zpy w)∧sizedMet enc Tryz.prog Tryz.f4 (OpenSpec.ofChange Rows.crescendoChecksSpec) false w args)
   (Rows.crescendoChecksSpec.post enc Tryz.prog Tryz.f4 false true false false):=by
 refine returnsInHanded_of_change_and (C:=Tryz.checked) (X:=fun w _=>laidMetH Tryz.prog zpy w) (fun _ _ _ hh h=>h.of_heap hh) own started (by kernel_rfl) Tryz.func4
  (ChangeSpec.witness_shaped (enc:=enc) (C:=Tryz.checked) (os:=os) (X:=fun w _=>laidMetH Tryz.prog zpy w) false (World.doorLaid Tryz.prog 400 os) #[.agg #[.slice none 0 0,.slice none 0 0,.slice none 0 0],.slice none 0 0,.int .i64 0] 8 rfl (World.shaped_of_RefB (by kernel_rfl) (by kernel_rfl)) (by kernel_rfl) (by kernel_rfl) (by kernel_rfl) (zsK os _)) ?_
 intro W base args ds gs before hval0 hW _ _ hL _;have hval:∀(j:Nat) t v,Tryz.f4.params[j]? = some t→args[j]? = some v→Value.okWide Tryz.prog W .any base t v:=hval0;have hW':=hW;obtain⟨p,q,hA0,hV,rfl,hfz,hnd⟩:=hW;have hA:DataW.TrodAll enc Tryz.prog W 0 (fun _=>true) true Tryz.f4.params.toList args.toList ds p:=hA0;rw[Tryz.params4]at hA hval;obtain⟨v0,v1,v2,d0,d1,d2,p0,p1,p2,rfl,rfl,rfl,h0,h1,h2⟩:=trodAll_three hA;obtain⟨rfl,rfl⟩:=trodVars_none hV;obtain⟨vs0,es0,rfl,r0_,w0,hty0⟩:=PE.open_row 6 (by kernel_rfl) zyb (hval 0 26 v0 rfl rfl) h0;obtain⟨p,rfl,hp⟩:=ztX hty0;obtain⟨c1,x1,rfl,r1_,w1,hty1⟩:=PE.open_one 4 (by kernel_rfl) (by kernel_rfl) zya (hval 1 38 v1 rfl rfl) h1;obtain⟨l1,hw1,hl1⟩:=ztV hty1;obtain rfl:x1=enL 3 zW l1:=(List.cons.inj hw1).1;obtain⟨c2,x2,rfl,r2_,w2,hty2⟩:=PE.open_one 1 (by kernel_rfl) (by kernel_rfl) zAH (hval 2 3 v2 rfl rfl) h2;obtain⟨n2,hw2,hn2⟩:=zrn hty2;obtain rfl:x2=I6 n2:=(List.cons.inj hw2).1;clear hA0 hval0;simp only[List.append_nil]at hW';have c:=zsQ zsS zt5 (zDm 16) (zAA hL) (g:=4) (vs:=[.s (.agg vs0),.s (.one c1),.s (.one c2)]) (ds:=[.s (.agg (zgT p)),.s (.one (enL 3 zW l1)),.s (.one (I6 n2))])
  ⟨r0_,r1_,r2_,trivial⟩ (fun x hx=>by
   simp only[Yzu,Yzv,or_false]at hx;rcases hx with rfl|rfl|rfl
   ·exact w0
   ·exact w1
   ·exact w2) (b:=true) (t4 0 p hp l1 n2)
 have hlt:∀x∈p0++(p1++p2),x.block<W.heap.size:=fun x hx=>hW'.lt x (by simpa using hx);refine (c.calls room).mono fun e W' ⟨he,hb⟩=>⟨_,he,?_⟩;refine⟨[d0,d1,d2],[],p0++(p1++p2),[],p0++(p1++p2),[],by simpa using hW',?_,?_,rfl,hb.frame _,fun hh=>by cases hh⟩
 ·exact trodAll_mk1 (shut_bool Tryz.underlying4 true)
 ·exact trodAll_mk3 (Below.trod laidOut zw4 zxD h0 hb fun x hx=>hlt x (by simp[hx])) (Below.trod laidOut zw3 zxC h1 hb fun x hx=>hlt x (by simp[hx])) (Below.trod laidOut zzP ltInt h2 hb fun x hx=>hlt x (by simp[hx]))
end CrescendoChecks
end Go.Proofs.YtnmjdoahlkcflaaGreatDoor
end
