/-
  Lemmas. No condition.
-/
import Derived.Test.YtaknlhnolkgndaaGreatDoorZn
set_option linter.unusedSimpArgs false
set_option linter.unusedVariables false
section
namespace Go.Proofs.YtaknlhnolkgndaaGreatDoor
open Go Go.CE Go.PE Go.ChangeShapes Go.WideShapes Go.ChangeAt Go.RowKit Go.Proofs.Tryz.Kn Go.Joins
set_option maxRecDepth 100000
namespace Law
theorem ztz{ds:List DV}(h:Ty Tryz.prog 7 59 ds):∃p:GPl,ds=zeQ p/\p.ok:=by have h:=xm Tryz.underlying59 h;obtain⟨a0,b0,rfl,h0,a1,b1,rfl,h1,a2,b2,rfl,h2,rfl⟩:=h;obtain⟨p,rfl,hp⟩:=zqU h0;obtain⟨b,rfl,hb⟩:=zk8 h1;have h2:=zia Tryz.underlying57 h2;obtain⟨e0,f0,rfl,k0,e1,f1,rfl,k1,e2,f2,rfl,k2,e3,f3,rfl,k3,rfl⟩:=h2;obtain⟨n0,rfl,q0⟩:=vN k0;obtain⟨n1,rfl,q1⟩:=vN k1;obtain⟨n2,rfl,q2⟩:=vN k2;obtain⟨n3,rfl,q3⟩:=vN k3;exact⟨⟨p,b,n0,n1,n2,n3⟩,rfl,⟨hp,hb,q0,q1,q2,q3⟩⟩
theorem zon{ds:List DV}(h:Ty Tryz.prog 2 61 ds):∃a b:Nat,ds=[U8 (a:Int),U8 (b:Int)]/\b<256:=by have h:=xm Tryz.underlying61 h;obtain⟨a0,b0,rfl,h0,a1,b1,rfl,h1,rfl⟩:=h;obtain⟨m0,rfl,q0⟩:=vN h0;obtain⟨m1,rfl,q1⟩:=vN h1;exact⟨m0,m1,rfl,q1⟩
theorem zk4{n:Nat}{ds:List DV}(h:Ty Tryz.prog (n+1) 29 ds):∃m:Int,ds=enU m/\True:=by obtain⟨m,e,_⟩:=zbo Tryz.underlying29 h;exact⟨m,e,trivial⟩
theorem ztx{n:Nat}{ds:List DV}(h:Ty Tryz.prog (n+3) 31 ds):∃r:Reg,ds=zfW r/\True:=by have h:=xm Tryz.underlying31 h;obtain⟨a0,b0,rfl,h0,a1,b1,rfl,h1,a2,b2,rfl,h2,rfl⟩:=h;obtain⟨s,rfl,_,_⟩:=zk5 (f:=enU) (q:=fun _=>True) (st:=1) Tryz.underlying28 (by kernel_rfl) (fun x hx=>zk4 hx) h0;obtain⟨c,rfl,_⟩:=zk4 h1;obtain⟨d,rfl,_⟩:=zk4 h2;exact⟨⟨s,c,d⟩,rfl,trivial⟩
theorem zk6{n t el:Nat}{ds:List DV}(e:Tryz.prog.underlying t=some (.slice el))(h:Ty Tryz.prog (n+1) t ds):∃z,ds=[z]:=by rcases zh9 e h with rfl|⟨xs,rfl,_⟩<;>exact⟨_,rfl⟩
theorem ztw{n:Nat}{ds:List DV}(h:Ty Tryz.prog (n+1) 9 ds):∃z,ds=[z]:=by
 have e:=Tryz.underlying9
 grind[Ty]
theorem zop{ds:List DV}(h:Ty Tryz.prog 11 35 ds):∃q:QuA,ds=zsL q/\q.ok:=by have h:=xm Tryz.underlying35 h;obtain⟨a0,b0,rfl,h0,a1,b1,rfl,h1,a2,b2,rfl,h2,rfl⟩:=h;have h0:=xm Tryz.underlying27 h0;obtain⟨c0,d0,rfl,g0,c1,d1,rfl,g1,c2,d2,rfl,g2,c3,d3,rfl,g3,rfl⟩:=h0;obtain⟨z0,rfl⟩:=ztw g0;obtain⟨z1,rfl⟩:=zk6 Tryz.underlying23 g1;obtain⟨z2,rfl⟩:=zk6 Tryz.underlying24 g2;obtain⟨z3,rfl⟩:=zk6 Tryz.underlying25 g3;obtain⟨r,rfl,_⟩:=ztx h1;have h2:=xm Tryz.underlying33 h2;obtain⟨e0,f0,rfl,k0,e1,f1,rfl,k1,e2,f2,rfl,k2,e3,f3,rfl,k3,rfl⟩:=h2;obtain⟨n0,rfl,_⟩:=zbo Tryz.underlying3 k0;obtain⟨n1,rfl,_⟩:=zbo Tryz.underlying3 k1;obtain⟨n2,rfl,_⟩:=zbo Tryz.underlying3 k2;obtain⟨n3,rfl,_⟩:=zbo Tryz.underlying3 k3;exact⟨⟨[z0,z1,z2,z3],r,n0,n1,n2,n3⟩,rfl,⟨⟨z0,z1,z2,z3,rfl⟩⟩⟩
theorem zwN:Tryz.prog.readableRec 59=true:=by kernel_rfl
theorem zw5:59<Tryz.prog.types.size:=of_decide_eq_true (by kernel_rfl)
theorem zxL:zas Tryz.prog 7 59=true:=by kernel_rfl
theorem zt2:Tryz.prog.readableRec 61=true:=by kernel_rfl
theorem zuB:61<Tryz.prog.types.size:=of_decide_eq_true (by kernel_rfl)
theorem zvk:zas Tryz.prog 2 61=true:=by kernel_rfl
theorem zre:Tryz.prog.readableRec 35=true:=by kernel_rfl
theorem zrP:35<Tryz.prog.types.size:=of_decide_eq_true (by kernel_rfl)
theorem zsN:zas Tryz.prog 11 35=true:=by kernel_rfl
end Law
end Go.Proofs.YtaknlhnolkgndaaGreatDoor
end
section
namespace Go.Proofs.YtaknlhnolkgndaaGreatDoor
open Go Go.CE Go.PE Go.ChangeShapes Go.WideShapes Go.ChangeAt Go.RowKit Go.Proofs.Tryz.Kn Go.Joins
namespace GreatestChecks
open Law
set_option maxRecDepth 100000 in
theorem lifted(os:Os)(started:os.Started)(H:Type)(enc:TypeId×Value->H):
  ReturnsInHanded {} Tryz.checked os 4 .any (fun w args=>(Rows.greatestChecksSpec.pre enc Tryz.prog Tryz.f4 [] false w args/\laidMetH Tryz.prog zmH w)/\sizedMet enc Tryz.prog Tryz.f4 (OpenSpec.ofChange Rows.greatestChecksSpec) false w args)
   (Rows.greatestChecksSpec.post enc Tryz.prog Tryz.f4 false true false false):=by
 refine returnsInHanded_of_change_and (C:=Tryz.checked) (X:=fun w _=>laidMetH Tryz.prog zmH w) (fun _ _ _ hh h=>h.of_heap hh) own started (by kernel_rfl) Tryz.func4
  (ChangeSpec.witness_shaped (enc:=enc) (C:=Tryz.checked) (os:=os) (X:=fun w _=>laidMetH Tryz.prog zmH w) false (World.doorLaid Tryz.prog 400 os) #[.agg #[.slice none 0 0,.slice none 0 0,.slice none 0 0,.int .u8 0,.int .u8 0,.int .u8 0,.int .u8 0,.int .u8 0,.int .u8 0,.int .u8 0,.int .u8 0,.int .u8 0],.agg #[.int .u8 0,.int .u8 0],.agg #[.string ⟨#[]⟩,.slice none 0 0,.slice none 0 0,.slice none 0 0,.slice none 0 0,.int .u64 0,.int .u64 0,.int .i64 0,.int .i64 0,.int .i64 0,.int .i64 0]] 8 rfl (World.shaped_of_RefB (by kernel_rfl) (by kernel_rfl)) (by kernel_rfl) (by kernel_rfl) (by kernel_rfl) (zpM os _)) ?_
 intro W base args ds gs before hval0 hW _ _ hL _;have hval:∀(j:Nat) t v,Tryz.f4.params[j]? = some t->args[j]? = some v->Value.okWide Tryz.prog W .any base t v:=hval0;have hW':=hW;obtain⟨p,q,hA0,hV,rfl,hfz,hnd⟩:=hW;have hA:DataW.TrodAll enc Tryz.prog W 0 (fun _=>true) true Tryz.f4.params.toList args.toList ds p:=hA0;rw[Tryz.params4]at hA hval;obtain⟨v0,v1,v2,d0,d1,d2,p0,p1,p2,rfl,rfl,rfl,h0,h1,h2⟩:=trodAll_three hA;obtain⟨rfl,rfl⟩:=trodVars_none hV;obtain⟨vs0,es0,rfl,r0_,w0,hty0⟩:=PE.open_row 7 (by kernel_rfl) zxL (hval 0 59 v0 rfl rfl) h0;obtain⟨p,rfl,hp⟩:=ztz hty0;obtain⟨vs1,es1,rfl,r1_,w1,hty1⟩:=PE.open_row 2 (by kernel_rfl) zvk (hval 1 61 v1 rfl rfl) h1;obtain⟨sa,sb,rfl,hsb⟩:=zon hty1;obtain⟨vs2,es2,rfl,r2_,w2,hty2⟩:=PE.open_row 11 (by kernel_rfl) zsN (hval 2 35 v2 rfl rfl) h2;obtain⟨qa,rfl,hqa⟩:=zop hty2;clear hA0 hval0;simp only[List.append_nil]at hW';have c:=zpR zpT zq2 (zzK 16) (zxt hL) (g:=4) (vs:=[.s (.agg vs0),.s (.agg vs1),.s (.agg vs2)]) (ds:=[.s (.agg (zeQ p)),.s (.agg ([U8 (sa:Int),U8 (sb:Int)])),.s (.agg (zsL qa))])
  ⟨r0_,r1_,r2_,trivial⟩ (fun x hx=>by
   simp only[Yzv,Yzp,or_false]at hx;rcases hx with rfl|rfl|rfl
   .exact w0
   .exact w1
   .exact w2) (b:=true) (t4 0 p hp sa sb hsb qa hqa)
 have hlt:∀x∈p0++(p1++p2),x.block<W.heap.size:=fun x hx=>hW'.lt x (by simpa using hx);refine (c.calls room).mono fun e W' ⟨he,hb⟩=>⟨_,he,?_⟩;refine⟨[d0,d1,d2],[],p0++(p1++p2),[],p0++(p1++p2),[],by simpa using hW',?_,?_,rfl,hb.frame _,fun hh=>by cases hh⟩
 .exact trodAll_mk1 (shut_bool Tryz.underlying4 true)
 .exact trodAll_mk3 (Below.trod laidOut zwN zw5 h0 hb fun x hx=>hlt x (by simp[hx])) (Below.trod laidOut zt2 zuB h1 hb fun x hx=>hlt x (by simp[hx])) (Below.trod laidOut zre zrP h2 hb fun x hx=>hlt x (by simp[hx]))
end GreatestChecks
end Go.Proofs.YtaknlhnolkgndaaGreatDoor
end
