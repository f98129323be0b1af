/-
  Lemmas. No condition.
-/
import Derived.Test.YtakbfapnhjkgoaaGreatDoorVd
import Derived.Shelf.SlSortCmp.WholeK
section
namespace Go.CE
open Go Go.RowKit Go.Shelf Go.Sort
open Go.Proofs (sortWorldK)
theorem zhW{k:Nat}{cf:List Int→List Int→Int}(C:Cmp k cf){d d':Array (Rw k)}(hp:PermIn 0 d.size d d')(hs:SortedIn (Go.Proofs.ltOf (cfR cf)) 0 d.size d'):zjo d'=za9 (zjo d):=by
 have h:=sorted_unique_holds (lt:=Go.Proofs.ltOf (cfR (k:=k) cf)) (zmI C) (fun x y h1 h2=>by rw[vM C]at h1 h2;exact Subtype.ext (zkd _ _ (x.2.1.trans y.2.1.symm) h1 h2)) d d' hp hs
 grind[zjo,za9,List.map_mergeSort,leZ,vM]
theorem zrZ{P:Program}{ρ:Ren}{t:Srt}(L:Go.Proofs.SlLaysF0.n6 P ρ)(aE:∀w,(isAgg (ρ.t 24)).run P w=.ok true w)(zE:∀w,(Go.sizeOf (ρ.t 24)).run P w=.ok t.st w)
  (hc:∀f∈t.f,∃cf,Cmp t.st cf∧∀x y:List Int,zhB t.st x→zhB t.st y→∃call h2,yU P call∧call (.inl f) [.s (.agg (x.map (Zc.int .i64))),.s (.agg (y.map (Zc.int .i64)))] ⟨.z,.nil⟩=some (.s (.one (.int .i64 (cf x y))),h2))
  (hn:∀f∈t.f,∃call h2,yU P call∧call (.inl (ρ.f 6)) [.s (.one .nils),.s (.one (.fn f []))] ⟨.z,.nil⟩=some (.tup [],h2)):zhA P (ρ.f 6) t:=by
 intro w0 S φ h w args v h2 H hw e;have e0:=zlf e;clear e;obtain⟨hv0,f,hf,e⟩:=e0;obtain⟨cf,hcm,hc⟩:=hc f hf;have hn:=hn f hf;subst hv0;have enter:∀vs w',(callFunc (ρ.f 6) vs).run P w'=.ok (.enter (ρ.f 6) vs) w':=by
  obtain⟨call,h3,C,e3⟩:=hn;exact((C w _ _ _ w _ _ h3 (Zd.none H.glob) (fun x hx=>by
   simp only[Yzw,Yzt,or_false]at hx;rcases hx with rfl|rfl
   ·trivial
   ·exact fun p hp=>by cases hp)).1 _ e3).1
 refine⟨enter,?_⟩;rcases e with⟨rfl,rfl⟩|⟨b,len,cap,ex,l,rfl,hl,hr,hb,hlen,rfl⟩
 ·obtain⟨call,h3,C,e3⟩:=hn;have c:=((C w _ _ _ w _ _ h3 (Zd.none H.glob) (fun x hx=>by
   simp only[Yzw,Yzt,or_false]at hx;rcases hx with rfl|rfl
   ·trivial
   ·exact fun p hp=>by cases hp)).1 _ e3).2
  refine c.mono ?_
  rintro e9 w9 ⟨φ2,rfl,_,H2,_,_⟩
  exact⟨φ,rfl,Ext.refl _ _,H.after H2,(fun v hv=>by cases hv),LzB _⟩
 ·let d:Array (Rw t.st):=(znd l hr).toArray
  have hd:zjo d=l:=by show ((znd l hr).toArray.toList).map (·.1)=l;rw[List.toList_toArray,zgF]
  have hsz:d.size=len:=by grind[zjn]
  obtain⟨arr,el,g1,g2,g3,g4⟩:=H.obj b _ hb;have hlive:(φ b).blk<w.heap.size:=(H.obj b _ hb).there trivial;have hH:HoldsK zl6 t.st w (φ b).blk (φ b).base d:=by
   intro j hj;rw[size_flatK]at hj;obtain⟨n,q1,q2⟩:=zhe d hj φ;rw[hd]at q1;have hc:=g2 j _ q1;refine⟨?_,?_⟩
   ·rw[q2];unfold World.cell?;simp only[g1];exact hc
   ·grind[World.frozen?]
  have cmp:Go.Proofs.CmpLays P f #[] (zl6 (k:=t.st)) t.st (cfR cf) (φ b).blk (φ b).base d.size w:=by
   intro m os dk hk x y;obtain⟨call,h3,C,e3⟩:=hc x.1 y.1 x.2 y.2;have HW:=H.sorts hb dk (by grind[qx]) m os;have c:=((C _ _ _ _ _ _ _ h3 (Zd.none HW.glob) (fun z hz=>by
    simp only[Yzw,Yzt,or_false]at hz;rcases hz with rfl|rfl
    ·intro c hc;obtain⟨n,_,rfl⟩:=List.mem_map.1 hc;trivial
    ·intro c hc;obtain⟨n,_,rfl⟩:=List.mem_map.1 hc;trivial)).1 _ e3).2
   have c:=callsIn_wide.1 c;have ea:(#[.agg (zl6 x).toArray,.agg (zl6 y).toArray] ++ #[]:Array Value)=([Zb.s (.agg (x.1.map (Zc.int .i64))),Zb.s (.agg (y.1.map (Zc.int .i64)))].map (zp fun _=>⟨0,0,0,true,none⟩)).toArray:=by simp_all[zl6,zi,zp,zL]
   rw[ea];refine c.mono ?_
   rintro e9 w9 ⟨φ2,rfl,_,H2,_,_⟩
   exact⟨rfl,zuA H2⟩
  have eg:∀vs w',(callFunc f vs).run P w'=.ok (.enter f vs) w':=by
   obtain⟨call,h3,C,e3⟩:=hc (List.replicate t.st 0) (List.replicate t.st 0) ⟨Yyg,zfG _⟩ ⟨Yyg,zfG _⟩;exact((C w _ _ _ w _ _ h3 (Zd.none H.glob) (fun z hz=>by
    simp only[Yzw,Yzt,or_false]at hz;rcases hz with rfl|rfl
    ·intro c hc;obtain⟨n,_,rfl⟩:=List.mem_map.1 hc;trivial
    ·intro c hc;obtain⟨n,_,rfl⟩:=List.mem_map.1 hc;trivial)).1 _ e3).1
  have main:=Go.Proofs.AnyQ.slices_SortFunc L t.st aE zE zl6 (fun x=>by unfold zl6;rw[Yzj];exact x.2.1) (fun x v hv=>by unfold zl6 at hv;obtain⟨n,_,rfl⟩:=List.mem_map.1 hv;rfl) (cfR cf) (zmI hcm) f #[] (φ b).blk (φ b).base (bif ex then cap else(φ b).cap-cap) d w eg cmp hH hlive (by omega)
  refine callsIn_wide.2 ?_;have ea:([Zb.s (.one (.slc b 0 len cap ex)),Zb.s (.one (.fn f []))].map (zp φ)).toArray=#[.slice (some ⟨(φ b).blk,(φ b).base,none⟩) d.size (bif ex then cap else(φ b).cap-cap),.func (.func f) #[] #[]]:=by have:=H.adr hb trivial 0;simp_all[zp,zL,zi]
  rw[ea];refine main.mono ?_
  rintro e9 w9 ⟨rfl,d',n,os,hp,hs,rfl⟩
  have hv:=zhW hcm hp hs;rw[hd]at hv;have HW:=H.sorts hb d' (by rw[qx,hp.1,←qx,hd]) n os;rw[hv]at HW;exact⟨φ,rfl,Ext.refl _ _,HW,(fun v hv=>by cases hv),LzB _⟩
end Go.CE
end
