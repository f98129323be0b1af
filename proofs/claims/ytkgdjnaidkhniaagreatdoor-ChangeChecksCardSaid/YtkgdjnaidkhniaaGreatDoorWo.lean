/-
  Lemmas. No condition.
-/
import Derived.Test.YtkgdjnaidkhniaaGreatDoorZn
set_option linter.unusedSimpArgs false
set_option linter.unusedVariables false
section
namespace Go.Proofs.YtkgdjnaidkhniaaGreatDoor
open Go Go.CE Go.PE Go.ChangeShapes Go.WideShapes Go.ChangeAt Go.RowKit Go.Proofs.Tryz.Kn Go.Joins
set_option maxRecDepth 100000
namespace Law
theorem zHe:Tryz.prog.cellsOf 176=4:=by kernel_rfl
theorem zHf:Tryz.prog.cellsOf 181=6:=by kernel_rfl
theorem cU8:Tryz.prog.cellsOf 5=1:=by kernel_rfl
theorem zEt:Tryz.prog.cellsOf 64=5:=by kernel_rfl
theorem zzF{n:Nat}{ds:List DV}(h:Ty Tryz.prog (n+2) 176 ds):∃s:Snd,ds=zl9 s/\s.ok:=by have h:=wz Tryz.underlying176 h;obtain⟨a0,b0,rfl,h0,a1,b1,rfl,h1,a2,b2,rfl,h2,a3,b3,rfl,h3,rfl⟩:=h;obtain⟨m0,rfl,l0⟩:=wQ h0;obtain⟨m1,rfl,l1⟩:=wQ h1;obtain⟨m2,rfl,l2⟩:=wQ h2;obtain⟨m3,rfl,l3⟩:=wQ h3;exact⟨⟨m0,m1,m2,m3⟩,rfl,⟨l0,l1,l2,l3⟩⟩
theorem zzI{n:Nat}{ds:List DV}(h:Ty Tryz.prog (n+3) 181 ds):∃m:Mrk,ds=zmd m/\m.ok:=by have h:=wz Tryz.underlying181 h;obtain⟨a0,b0,rfl,h0,a1,b1,rfl,h1,rfl⟩:=h;obtain⟨m0,rfl,l0⟩:=wQ h0;obtain⟨b,rfl,l1⟩:=zlb h1;exact⟨⟨m0,b⟩,rfl,⟨l0,l1⟩⟩
theorem zzK{n:Nat}{ds:List DV}(h:Ty Tryz.prog (n+1) 5 ds):∃m:Nat,ds=zi3 m/\m<256:=wQ h
theorem zzH{ds:List DV}(h:Ty Tryz.prog 7 31 ds):∃p:PPl,ds=zmc p/\p.ok:=by have h:=wz Tryz.underlying31 h;obtain⟨a0,b0,rfl,h0,a1,b1,rfl,h1,a2,b2,rfl,h2,a3,b3,rfl,h3,rfl⟩:=h;obtain⟨o,rfl,ho⟩:=zwI h0;obtain⟨bs,rfl,x1,y1⟩:=zhP (f:=zi3) (q:=fun m=>m<256) Tryz.underlying27 cU8 (fun x hx=>zzK hx) h1;obtain⟨ns,rfl,x2,y2⟩:=zhP (f:=zl9) (q:=Snd.ok) Tryz.underlying28 zHe (fun x hx=>zzF hx) h2;obtain⟨ms,rfl,x3,y3⟩:=zhP (f:=zmd) (q:=Mrk.ok) Tryz.underlying29 zHf (fun x hx=>zzI hx) h3;exact⟨⟨o,bs,ns,ms⟩,rfl,⟨ho,x1,x2,x3,y1,y2,y3⟩⟩
theorem zzG{ds:List DV}(h:Ty Tryz.prog 8 36 ds):∃p:CPl,ds=zi2 p/\p.ok:=by have h:=wz Tryz.underlying36 h;obtain⟨a0,b0,rfl,h0,a1,b1,rfl,h1,a2,b2,rfl,h2,a3,b3,rfl,h3,a4,b4,rfl,h4,rfl⟩:=h;obtain⟨p,rfl,hp⟩:=zzH h0;obtain⟨ms,rfl,x1,y1⟩:=zhP (f:=enB) (q:=fun b=>∀i,b i<256) Tryz.underlying32 zEt (fun x hx=>zlb hx) h1;have h2:=zhQ Tryz.underlying33 h2;obtain⟨c0,d0,rfl,g0,c1,d1,rfl,g1,rfl⟩:=h2;obtain⟨m0,rfl,l0⟩:=wQ g0;obtain⟨m1,rfl,l1⟩:=wQ g1;obtain⟨m2,rfl,l2⟩:=wQ h3;have h4:=zhQ Tryz.underlying34 h4;obtain⟨e0,f0,rfl,k0,e1,f1,rfl,k1,e2,f2,rfl,k2,e3,f3,rfl,k3,rfl⟩:=h4;obtain⟨n0,rfl,q0⟩:=wQ k0;obtain⟨n1,rfl,q1⟩:=wQ k1;obtain⟨n2,rfl,q2⟩:=wQ k2;obtain⟨n3,rfl,q3⟩:=wQ k3;exact⟨⟨p,ms,m0,m1,m2,n0,n1,n2,n3⟩,rfl,⟨hp,x1,y1,l0,l1,l2,q0,q1,q2,q3⟩⟩
theorem zDa:Tryz.prog.readableRec 36=true:=by kernel_rfl
theorem zDC:36<Tryz.prog.types.size:=of_decide_eq_true (by kernel_rfl)
theorem zEo:zdo Tryz.prog 8 36=true:=by kernel_rfl
end Law
end Go.Proofs.YtkgdjnaidkhniaaGreatDoor
end
section
namespace Go.Proofs.YtkgdjnaidkhniaaGreatDoor
open Go Go.CE Go.PE Go.ChangeShapes Go.WideShapes Go.ChangeAt Go.RowKit Go.Proofs.Tryz.Kn Go.Joins
set_option maxRecDepth 100000
namespace Law
theorem jG{ds:List DV}(h:Ty Tryz.prog 3 86 ds):∃(a b c d:Nat) (w:Int),ds=[U8 (a:Int),U8 (b:Int),U8 (c:Int),U8 (d:Int),.int .i8 w]/\b<256/\d<256:=by have h:=wz Tryz.underlying86 h;obtain⟨a0,b0,rfl,h0,a1,b1,rfl,h1,rfl⟩:=h;have h0:=wz Tryz.underlying81 h0;obtain⟨c0,d0,rfl,g0,c1,d1,rfl,g1,rfl⟩:=h0;obtain⟨m0,rfl,q0⟩:=wQ g0;obtain⟨m1,rfl,q1⟩:=wQ g1;have h1:=wz Tryz.underlying84 h1;obtain⟨e0,f0,rfl,k0,e1,f1,rfl,k1,e2,f2,rfl,k2,rfl⟩:=h1;obtain⟨m2,rfl,q2⟩:=wQ k0;obtain⟨m3,rfl,q3⟩:=wQ k1;obtain⟨m4,rfl,_,_⟩:=zzJ k2;exact⟨m0,m1,m2,m3,m4,rfl,q1,q3⟩
theorem jy{n:Nat}{ds:List DV}(h:Ty Tryz.prog (n+1) 68 ds):∃m:Int,ds=enU m/\True:=by obtain⟨m,e,_⟩:=zeb Tryz.underlying68 h;exact⟨m,e,trivial⟩
theorem jY{n:Nat}{ds:List DV}(h:Ty Tryz.prog (n+3) 70 ds):∃r:Reg,ds=zY r/\True:=by have h:=wz Tryz.underlying70 h;obtain⟨a0,b0,rfl,h0,a1,b1,rfl,h1,a2,b2,rfl,h2,rfl⟩:=h;obtain⟨s,rfl,_,_⟩:=zhP (f:=enU) (q:=fun _=>True) (st:=1) Tryz.underlying67 (by kernel_rfl) (fun x hx=>jy hx) h0;obtain⟨c,rfl,_⟩:=jy h1;obtain⟨d,rfl,_⟩:=jy h2;exact⟨⟨s,c,d⟩,rfl,trivial⟩
theorem jh{n t el:Nat}{ds:List DV}(e:Tryz.prog.underlying t=some (.slice el))(h:Ty Tryz.prog (n+1) t ds):∃z,ds=[z]:=by rcases ztL e h with rfl|⟨xs,rfl,_⟩<;>exact⟨_,rfl⟩
theorem jX{n:Nat}{ds:List DV}(h:Ty Tryz.prog (n+1) 9 ds):∃z,ds=[z]:=by
 have e:=Tryz.underlying9
 grind[Ty]
theorem qc{n t:Nat}{a b c d:Field}{ds:List DV}(e:Tryz.prog.underlying t=some (.struct #[a,b,c,d]))(ha:a.type=3)(hb:b.type=3)(hc:c.type=3)(hd:d.type=3)(h:Ty Tryz.prog (n+2) t ds):∃i j k l:Int,ds=[I6 i,I6 j,I6 k,I6 l]:=by have h:=wz e h;simp only[Yzw,List.map_nil,ha,hb,hc,hd]at h;obtain⟨a0,b0,rfl,h0,a1,b1,rfl,h1,a2,b2,rfl,h2,a3,b3,rfl,h3,rfl⟩:=h;obtain⟨m0,rfl,_⟩:=zeb Tryz.underlying3 h0;obtain⟨m1,rfl,_⟩:=zeb Tryz.underlying3 h1;obtain⟨m2,rfl,_⟩:=zeb Tryz.underlying3 h2;obtain⟨m3,rfl,_⟩:=zeb Tryz.underlying3 h3;exact⟨m0,m1,m2,m3,rfl⟩
theorem jP{ds:List DV}(h:Ty Tryz.prog 11 55 ds):∃q:PrA,ds=jV q/\q.ok:=by have h:=wz Tryz.underlying55 h;obtain⟨a0,b0,rfl,h0,a1,b1,rfl,h1,a2,b2,rfl,h2,a3,b3,rfl,h3,a4,b4,rfl,h4,a5,b5,rfl,h5,rfl⟩:=h;have h0:=wz Tryz.underlying43 h0;obtain⟨c0,d0,rfl,g0,c1,d1,rfl,g1,c2,d2,rfl,g2,c3,d3,rfl,g3,rfl⟩:=h0;obtain⟨z0,rfl⟩:=jX g0;obtain⟨z1,rfl⟩:=jh Tryz.underlying39 g1;obtain⟨z2,rfl⟩:=jh Tryz.underlying40 g2;obtain⟨z3,rfl⟩:=jh Tryz.underlying41 g3;have h1:=wz Tryz.underlying48 h1;obtain⟨c0,d0,rfl,g0,c1,d1,rfl,g1,c2,d2,rfl,g2,rfl⟩:=h1;obtain⟨z4,rfl⟩:=jh Tryz.underlying44 g0;obtain⟨z5,rfl⟩:=jh Tryz.underlying45 g1;obtain⟨z6,rfl⟩:=jh Tryz.underlying46 g2;obtain⟨m0,m1,m2,m3,rfl⟩:=qc Tryz.underlying50 rfl rfl rfl rfl h2;obtain⟨l,rfl,hl,_⟩:=zhP (f:=zY) (q:=fun _=>True) (st:=3) Tryz.underlying51 (by kernel_rfl) (fun x hx=>jY hx) h3;obtain⟨m4,rfl,_⟩:=zeb Tryz.underlying3 h4;obtain⟨n0,n1,n2,n3,rfl⟩:=qc Tryz.underlying53 rfl rfl rfl rfl h5;exact⟨⟨[z0,z1,z2,z3,z4,z5,z6],m0,m1,m2,m3,l,m4,n0,n1,n2,n3⟩,rfl,⟨⟨z0,z1,z2,z3,z4,z5,z6,rfl⟩,hl⟩⟩
theorem jQ:Tryz.prog.readableRec 86=true:=by kernel_rfl
theorem jS:86<Tryz.prog.types.size:=of_decide_eq_true (by kernel_rfl)
theorem jW:zdo Tryz.prog 3 86=true:=by kernel_rfl
theorem ke:Tryz.prog.readableRec 55=true:=by kernel_rfl
theorem kC:55<Tryz.prog.types.size:=of_decide_eq_true (by kernel_rfl)
theorem kJ:zdo Tryz.prog 11 55=true:=by kernel_rfl
end Law
end Go.Proofs.YtkgdjnaidkhniaaGreatDoor
end
section
namespace Go.Proofs.YtkgdjnaidkhniaaGreatDoor
open Go Go.CE Go.PE Go.ChangeShapes Go.WideShapes Go.ChangeAt Go.RowKit Go.Proofs.Tryz.Kn Go.Joins
namespace ChangeChecks
open Law
set_option maxRecDepth 100000 in
theorem lifted(os:Os)(started:os.Started)(H:Type)(enc:TypeId×Value->H):
  ReturnsInHanded {} Tryz.checked os 6 .any (fun w args=>(Rows.changeChecksSpec.pre enc Tryz.prog Tryz.f6 [] false w args/\laidMetH Tryz.prog zr0 w)/\sizedMet enc Tryz.prog Tryz.f6 (OpenSpec.ofChange Rows.changeChecksSpec) false w args)
   (Rows.changeChecksSpec.post enc Tryz.prog Tryz.f6 false true false false):=by
 refine returnsInHanded_of_change_and (C:=Tryz.checked) (X:=fun w _=>laidMetH Tryz.prog zr0 w) (fun _ _ _ hh h=>h.of_heap hh) own started (by kernel_rfl) Tryz.func6
  (ChangeSpec.witness_shaped (enc:=enc) (C:=Tryz.checked) (os:=os) (X:=fun w _=>laidMetH Tryz.prog zr0 w) false (World.doorLaid Tryz.prog 400 os) #[.agg #[.slice none 0 0,.slice none 0 0,.slice none 0 0,.slice none 0 0,.slice none 0 0,.slice none 0 0,.slice none 0 0,.int .u8 0,.int .u8 0,.int .u8 0,.int .u8 0,.int .u8 0,.int .u8 0,.int .u8 0],.agg #[.int .u8 0,.int .u8 0,.int .u8 0,.int .u8 0,.int .i8 0],.agg #[.string ⟨#[]⟩,.slice none 0 0,.slice none 0 0,.slice none 0 0,.slice none 0 0,.slice none 0 0,.slice none 0 0,.int .i64 0,.int .i64 0,.int .i64 0,.int .i64 0,.slice none 0 0,.int .i64 0,.int .i64 0,.int .i64 0,.int .i64 0,.int .i64 0]] 8 rfl (World.shaped_of_RefB (by kernel_rfl) (by kernel_rfl)) (by kernel_rfl) (by kernel_rfl) (by kernel_rfl) (zvk os _)) ?_
 intro W base args ds gs before hval0 hW _ _ hL _;have hval:∀(j:Nat) t v,Tryz.f6.params[j]? = some t->args[j]? = some v->Value.okWide Tryz.prog W .any base t v:=hval0;have hW':=hW;obtain⟨p,q,hA0,hV,rfl,hfz,hnd⟩:=hW;have hA:DataW.TrodAll enc Tryz.prog W 0 (fun _=>true) true Tryz.f6.params.toList args.toList ds p:=hA0;rw[Tryz.params6]at hA hval;obtain⟨v0,v1,v2,d0,d1,d2,p0,p1,p2,rfl,rfl,rfl,h0,h1,h2⟩:=trodAll_three hA;obtain⟨rfl,rfl⟩:=trodVars_none hV;obtain⟨vs0,es0,rfl,r0_,w0,hty0⟩:=PE.open_row 8 (by kernel_rfl) zEo (hval 0 36 v0 rfl rfl) h0;obtain⟨p,rfl,hp⟩:=zzG hty0;obtain⟨vs1,es1,rfl,r1_,w1,hty1⟩:=PE.open_row 3 (by kernel_rfl) jW (hval 1 86 v1 rfl rfl) h1;obtain⟨sa,sb,sc,sd,sw,rfl,hsb,hsd⟩:=jG hty1;obtain⟨vs2,es2,rfl,r2_,w2,hty2⟩:=PE.open_row 11 (by kernel_rfl) kJ (hval 2 55 v2 rfl rfl) h2;obtain⟨qa,rfl,hqa⟩:=jP hty2;clear hA0 hval0;simp only[YzP]at hW';have c:=zvp zvr zwQ (zHj 16) (zEd hL) (g:=6) (vs:=[.s (.agg vs0),.s (.agg vs1),.s (.agg vs2)]) (ds:=[.s (.agg (zi2 p)),.s (.agg ([U8 (sa:Int),U8 (sb:Int),U8 (sc:Int),U8 (sd:Int),.int .i8 sw])),.s (.agg (jV qa))])
  ⟨r0_,r1_,r2_,trivial⟩ (fun x hx=>by
   simp only[Yya,Yyc,or_false]at hx;rcases hx with rfl|rfl|rfl
   .exact w0
   .exact w1
   .exact w2) (b:=true) (t6 0 p hp sa sb sc sd hsb hsd sw qa hqa)
 have hlt:∀x∈p0++(p1++p2),x.block<W.heap.size:=fun x hx=>hW'.lt x (by simpa using hx);refine (c.calls room).mono fun e W' ⟨he,hb⟩=>⟨_,he,?_⟩;refine⟨[d0,d1,d2],[],p0++(p1++p2),[],p0++(p1++p2),[],by simpa using hW',?_,?_,rfl,hb.frame _,fun hh=>by cases hh⟩
 .exact trodAll_mk1 (shut_bool Tryz.underlying4 true)
 .exact trodAll_mk3 (Below.trod laidOut zDa zDC h0 hb fun x hx=>hlt x (by simp[hx])) (Below.trod laidOut jQ jS h1 hb fun x hx=>hlt x (by simp[hx])) (Below.trod laidOut ke kC h2 hb fun x hx=>hlt x (by simp[hx]))
end ChangeChecks
end Go.Proofs.YtkgdjnaidkhniaaGreatDoor
end
