/-
  Lemmas. No condition.
-/
import Derived.Test.YtkgdjnaidkhniaaGreatDoorVc
import Derived.Shelf.SlSortCmp.InsertionK
import Derived.Shelf.SlSortCmp.WholeK
set_option linter.unusedSimpArgs false
set_option linter.unusedVariables false
section
namespace Go.PE
open Go Go.CE
abbrev CkE:=(Za->Res)×Zb×Nat×Nat
abbrev Sn:=Nm×List PO
def zou(S:List Sn)(ps:List (Nat×Nat×List Nat))(q:CkE):Prop:=
 (∀h,∃h',q.1 h=some (q.2.1,h'))\/Nat.beq q.2.2.1 q.2.2.2=true\/
  (∃ rd, (q.2.2.1, q.2.2.2, rd) ∈ ps /\ ∃ (ne : Nat) (b : BN) (A Al : Sn), q.2.2.1 <= ne /\ ne <= q.2.2.2 /\ S[ne]? = some A /\ S[q.2.2.1]? = some Al /\ (∀ h2, h2.t.get b = A.1.h.t.get b -> ∃ h', q.1 h2 = some (q.2.1, h')) /\
   ((∃j,rd=[j]/\j<Al.1.n/\blk (A.1.μ j)=some b/\held (og A.2 j))\/(Al.1.fz b/\∃y,Al.1.h.t.get b=some y)))
def zvD(E:En)(S:List Sn)(ws:List (List Nat)):Prop:=∀(e:Nat) (w:List Nat),ws[e]? = some w->∀A B,S[e]? = some A->S[e+1]? = some B->Zd E A.1 A.2/\Nx A.1 B.1/\BkE A.1 A.2 B.1 w/\Ho A.1.n A.2 B.2 w
theorem zh0{run:Za->Res}{v:Zb}:∀{l:List Za},(∀h∈l,∃h',run h=some (v,h'))->zoT run v l=true
 | [],_=>rfl
 |h::l,H=>by obtain⟨h',e⟩:=H h (Yzf ..);simp only[zoT,e,zn5,Yyb];exact zh0 fun x hx=>H x (Yze _ hx)
theorem zlB{ws:List (List Nat)}{lo hi j:Nat}(h:okW ws lo hi [j]=true){e:Nat}{w:List Nat}(h1:lo<=e)(h2:e<hi)(hw:ws[e]? = some w):j∉w:=by
 unfold okW at h;rw[YzJ]at h;have:((ws.drop lo).take (hi-lo))[e-lo]? = some w:=by grind
 have:=h w (Lz3 this);simp only[Yym,List.all_nil,Yyn,Yzy]at this
 grind[zc2]
section
variable {E:En} {S:List Sn} {ws:List (List Nat)} (hl:S.length=ws.length+1) (ch:zvD E S ws)
include hl ch
theorem zeW{e:Nat}{B:Sn}(eB:S[e+1]? = some B):∃A w,S[e]? = some A/\ws[e]? = some w/\Zd E A.1 A.2/\Nx A.1 B.1/\BkE A.1 A.2 B.1 w/\Ho A.1.n A.2 B.2 w:=by have hlt:=(Lz0.1 eB).1;obtain⟨A,eA⟩:∃A,S[e]? = some A:=⟨_,Lz5 (by omega)⟩;obtain⟨w,ew⟩:∃w,ws[e]? = some w:=⟨_,Lz5 (by omega)⟩;exact⟨A,w,eA,ew,ch e w ew A B eA eB⟩
theorem wD{lo:Nat}{Al:Sn}(el:S[lo]? = some Al):∀(d:Nat) (B:Sn),S[lo+d]? = some B->Nx Al.1 B.1
 |0,B,e=>by rw[YzE,el]at e;cases e;exact .refl _
 |d+1,B,e=>by obtain⟨A,w,eA,_,_,nx,_⟩:=zeW hl ch (e:=lo+d) e;exact(wD el d A eA).trans nx
theorem zkf{lo j:Nat}{Al:Sn}(el:S[lo]? = some Al)(hj:j<Al.1.n):∀(d e:Nat) (A B:Sn),S[lo+e]? = some A->S[lo+e+d]? = some B->held (og B.2 j)->held (og A.2 j)
 |0,e,A,B,eA,eB,h=>by grind
 |d+1,e,A,B,eA,eB,h=>by obtain⟨B',w,eB',_,_,_,_,ho⟩:=zeW hl ch (e:=lo+e+d) eB;have hn:=(wD hl ch el (e+d) B' (by grind)).le;exact zkf el hj d e A B' eA eB' ((ho j (Lz9 hj hn)).1 h)
theorem zsk{lo hi j:Nat}{Al:Sn}(el:S[lo]? = some Al)(hj:j<Al.1.n)(hw:okW ws lo hi [j]=true):∀(d e:Nat) (A B:Sn),lo+e+d<=hi->S[lo+e]? = some A->S[lo+e+d]? = some B->held (og A.2 j)->held (og B.2 j)
 |0,e,A,B,_,eA,eB,h=>by grind
 |d+1,e,A,B,hh,eA,eB,h=>by obtain⟨B',w,eB',ew,_,_,_,ho⟩:=zeW hl ch (e:=lo+e+d) eB;have hn:=(wD hl ch el (e+d) B' (by grind)).le;have:=zsk el hj hw d e A B' (by omega) eA eB' h;exact((ho j (Lz9 hj hn)).2.1 this).elim id fun hm=>absurd hm (zlB hw (by omega) (by omega) ew)
theorem zcW{lo hi ne j:Nat}{Al A:Sn}{b:BN}(el:S[lo]? = some Al)(en:S[ne]? = some A)(h1:lo<=ne)(h2:ne<=hi)(hj:j<Al.1.n)(hw:okW ws lo hi [j]=true)(hb:blk (A.1.μ j)=some b)(hh:held (og A.2 j)):
  ∀(d:Nat) (B:Sn),lo+d<=hi->S[lo+d]? = some B->B.1.h.t.get b=Al.1.h.t.get b
 |0,B,_,e=>by grind
 |d+1,B,hd,e=>by
  obtain⟨A',w,eA',ew,I,nx,bk,ho⟩:=zeW hl ch (e:=lo+d) e;have ih:=zcW el en h1 h2 hj hw hb hh d A' (by omega) eA';have nx1:=wD hl ch el d A' eA';have nx2:=wD hl ch el (ne-lo) A (by grind);have hjA:j<A'.1.n:=Lz9 hj nx1.le;have hbA:blk (A'.1.μ j)=some b:=by rw[nx1.mu j hj,<-nx2.mu j hj];exact hb
  have hA:held (og A'.2 j):=by
   by_cases hc:lo+d<=ne
   .exact zkf hl ch el hj (ne-(lo+d)) d A' A eA' (by grind) hh
   exact zsk hl ch el hj hw (lo+d-ne) (ne-lo) A A' (by omega) (by grind) (by grind) hh
  obtain⟨y,hy⟩:=zfY hA (I.obj j) hbA;rw[<-ih,hy];refine bk b y hy fun k hk hkn hkl hkb=>?_;have hjw:=zlB hw (by omega) (by omega) ew;obtain⟨b',x',k1,k2,_⟩:=xF hkl (I.obj k);rw[hkb]at k1;cases k1;have hO:=I.obj j;cases hoj:og A'.2 j with
  |box cs=>
   have:=I.inj k j b hkl (by rw[hoj];trivial) hkb hbA
   grind
  |arr st v=>
   rcases v with _|xs
   .rw[hoj]at hA;exact hA
   have:=I.inj k j b hkl (by rw[hoj];trivial) hkb hbA
   grind
  |mp st xs=>
   have:=I.inj k j b hkl (by rw[hoj];trivial) hkb hbA
   grind
  |frz v=>rw[hoj]at hA hO;obtain⟨st,xs,rfl⟩:=hA;obtain⟨b2,o2,off2,cap2,ex2,cs2,q1,q2,_⟩:=Rep.lst_inv hO;rw[q1]at hbA;cases hbA<;>grind
  |fbox ds=>
   rw[hoj]at hO;obtain⟨b2,q1,q2⟩:=hO;rw[q1]at hbA;cases hbA;obtain⟨b3,o3,base3,cs3,p1,p2,_⟩:=q2.fp_inv
   grind
  |hol v n t=>
   have:=I.inj k j b hkl (by rw[hoj];trivial) hkb hbA
   grind
  |lop=>
   have:=I.inj k j b hkl (by rw[hoj];trivial) hkb hbA
   grind
  |lnk m=>rw[hoj]at hA;exact hA
  |dead=>rw[hoj]at hA;exact hA
theorem zms(T:List Za){ps:List (Nat×Nat×List Nat)}(hps:(ps.all fun p=>okW ws p.1 p.2.1 p.2.2)=true)(hT:T=[]\/∀p∈ps,p.2.1<S.length):∀{cs:List CkE},(∀q∈cs,zou S ps q)->zwl ((S.map fun x=>x.1.h)++T) cs=true
 | [],_=>rfl
 |(run,v,lo,hi)::cs,Hc=>by
  have ih:=zms T hps hT (cs:=cs) fun q hq=>Hc q (Yze _ hq);simp only[zwl,ih,Yyn];have mem:(T=[]\/hi<S.length)->∀h∈(((S.map fun x=>x.1.h)++T).drop lo).take (Nat.sub (Nat.succ hi) lo),∃d B,lo+d<=hi/\S[lo+d]? = some B/\h=B.1.h:=fun hT h hh=>by
   obtain⟨i,hi'⟩:=Yyj hh
   grind
  rcases Hc _ (Yzf ..) with h|h|⟨rd,hp,ne,b,A,Al,h1,h2,h3,h4,h6,h7⟩
  .simp_all[zh0]
  .grind
  rw[YzJ]at hps;have hwin:=hps _ hp;simp only at hwin h1 h2 h4 h6;rw[zh0 fun x hx=>?_,Bool.or_true];obtain⟨d,B,hd1,hd2,rfl⟩:=mem (hT.imp id fun h=>h _ hp) x hx;refine h6 _ ?_;rcases h7 with⟨j,rfl,q1,q2,q3⟩|⟨q1,y,q2⟩
  .have e1:=zcW hl ch h4 h3 h1 h2 q1 hwin q2 q3 (ne-lo) A (by omega) (by grind)
   grind[zcW]
  have e1:=(wD hl ch h4 (ne-lo) A (by grind)).fg.old b y q1 q2;have e2:=(wD hl ch h4 d B hd2).fg.old b y q1 q2;rw[e1,e2]
theorem zoi{ps:List (Nat×Nat×List Nat)}(hps:(ps.all fun p=>okW ws p.1 p.2.1 p.2.2)=true){cs:List CkE}(H:∀q∈cs,zou S ps q):zwl (S.map fun x=>x.1.h) cs=true:=by
 have:=zms hl ch [] hps (.inl rfl) H
 grind
end
theorem jU{tab:Nat->Bool}{Y:Inl}{C:Nat->zh}(hY:Zs tab Y C){β:Type}{E:En}{N:Nm}{os:List PO}{lk:Nat->Bool}{g:Nat}{az:List PA}{vs:List Zb}{K:PA->List PO->Option β}{x:β}(hg:tab g=true)(I:Zd E N os)(A:RepPAL N vs az)(e:Y g (zB4 os.length) az (List.replicate os.length .dead) β K=some x)(hlk:∀j,lk j=true->j<os.length):
  ∃a os',K a os'=some x/\Ev (fun n=>C n (.inl g) vs N.h) (fun p=>∃N',N'.h=p.2/\Sim E lk N os [] N' (os++os'.drop os.length) p.1 a):=by
 let E':En:=⟨N.h,N.fz,fun _=>False⟩
 have dd:∀k,og (List.replicate os.length PO.dead) k=.dead:=fun k=>by rw[zdE];grind
 have I':Zd E' N (List.replicate os.length .dead):=⟨I.hw,GrX.refl (E:=E'),I.fzlt,fun b hb=>.inl hb,fun b hb=>.inl (I.fzlt b hb),I.len.trans (Yyi ..).symm,fun k b hl=>(by rw[dd]at hl;cases hl),fun k k' b hl=>(by rw[dd]at hl;cases hl),fun k=>(by rw[dd];trivial),fun t m h=>(by rw[dd]at h;cases h)⟩;obtain⟨a,os',hK,ev⟩:=hY.o (lk:=zB4 os.length) hg I' A (fun j hj=>by rw[Yyi];exact Lz4 hj) e;refine⟨a,os',hK,ev.mono ?_⟩
 rintro p ⟨N',hh,J,nx,sm,val⟩
 have low:∀j,j<os.length->og os' j=.dead:=fun j hj=>by
  rcases sm j (Yzg hj) with h|⟨nt,ρ,ps,A,B,l,n,h,_⟩
  .rw[h,dd]
  rw[dd]at h;cases h
 have hn:os.length<=os'.length:=by rw[<-I.len,<-J.len];exact nx.le
 have g1:∀k,k<os.length->og (os++os'.drop os.length) k=og os k:=fun k hk=>by simp only[zdE];grind
 have g2:∀k,¬k<os.length->og (os++os'.drop os.length) k=og os' k:=fun k hk=>by simp only[zdE];grind
 have old:∀b:BN,b.toNat<N.h.n.toNat->N'.h.t.get b=N.h.t.get b:=fun b hb=>J.gr.old b hb id;have fz':∀b,N'.fz b->N.fz b\/N.h.n.toNat<=b.toNat:=fun b hb=>(J.fzok b hb).imp id fun h=>h.elim id False.elim;have up:∀k b,k<os.length->live (og os k)->blk (N'.μ k)=some b->blk (N.μ k)=some b/\b.toNat<N.h.n.toNat:=fun k b hk hl hb=>by obtain⟨b',x,q1,_,q3⟩:=xF hl (I.obj k);rw[nx.mu k (by rw[I.len];exact hk),q1]at hb;cases hb;exact⟨q1,I.hw _ _ q3⟩
 have dn:∀k b,live (og os' k)->blk (N'.μ k)=some b->N.h.n.toNat<=b.toNat:=fun k b hl hb=>(J.own k b hl hb).elim id False.elim;refine⟨N',hh,⟨J.hw,⟨Yzl I.gr.le J.gr.le,fun b hb hx=>?_⟩,J.fzlt,fun b hb=>?_,fun b hb=>?_,?_,fun k b hl hb=>?_,fun k k' b hl hl' hb hb'=>?_,fun k=>?_,fun t m hk=>?_⟩,nx,⟨J.gr.le,fun b hb _=>old b hb⟩,fun j hj=>?_,fun k hk=>?_,val⟩
 .rw[old b (Lz9 hb I.gr.le)];exact I.gr.old b hb hx
 .rcases fz' b hb with h|h
  .exact I.fzok b h
  exact .inr (.inl (Yzl I.gr.le h))
 .rcases fz' b hb with h|h
  .exact(I.fzex b h).imp id fun⟨y,hy⟩=>⟨y,nx.fg.old b y h hy⟩
  rcases J.fzex b hb with h2|h2
  .exact absurd h2 (Nat.not_lt.2 h)
  exact .inr h2
 .rw[J.len];grind
 .by_cases h:k<os.length
  .rw[g1 k h]at hl;exact I.own k b hl (up k b h hl hb).1
  rw[g2 k h]at hl;exact .inl (Yzl I.gr.le (dn k b hl hb))
 .by_cases h:k<os.length<;>by_cases h':k'<os.length
  .rw[g1 k h]at hl;rw[g1 k' h']at hl';exact I.inj k k' b hl hl' (up k b h hl hb).1 (up k' b h' hl' hb').1
  .rw[g1 k h]at hl;rw[g2 k' h']at hl';have:=(up k b h hl hb).2;have:=dn k' b hl' hb';omega
  .rw[g2 k h]at hl;rw[g1 k' h']at hl';have:=(up k' b h' hl' hb').2;have:=dn k b hl hb;omega
  rw[g2 k h]at hl;rw[g2 k' h']at hl';exact J.inj k k' b hl hl' hb hb'
 .by_cases h:k<os.length
  .rw[g1 k h];refine (I.obj k).mono nx (nx.mu k (by rw[I.len];exact h)) fun hl b hb=>?_;obtain⟨b',x,q1,q2,q3⟩:=wb hl (I.obj k);rw[q1]at hb;cases hb;have hlt:=I.hw _ _ q3;exact⟨fun hf=>(fz' _ hf).elim q2 fun h=>absurd hlt (Nat.not_lt.2 h),old _ hlt⟩
  rw[g2 k h];exact J.obj k
 .by_cases h:t<os.length
  .rw[g1 t h]at hk;obtain⟨k,v,n,q⟩:=I.lnk t m hk;have hk2:k<os.length:=vQ (by rw[q];exact fun h=>by cases h);exact⟨k,v,n,by rw[g1 k hk2];exact q⟩
  rw[g2 t h]at hk;obtain⟨k,v,n,q⟩:=J.lnk t m hk;have hk2:¬k<os.length:=fun h=>by rw[low k h]at q;cases q
  exact⟨k,v,n,by rw[g2 k hk2];exact q⟩
 .exact g1 j (hlk j hj)
 rw[g1 k (by rw[<-I.len];exact hk)];exact⟨id,.inl,id⟩
section
variable {P:Program} {O:Orc} {C:Nat->zh} {E:En} {tab:Nat->Bool} {Y:Inl}
theorem zqH{N:Nm}{r:Fr}{ρ:Nat->PA}(F:∀i,RepPA N (r i) (ρ i))(l:List Nat):∀i,RepPA N (z4 r l i) (zZ ρ l i):=fun i=>by
 unfold z4 zZ;cases zpp i l
 .trivial
 exact F i
theorem zm6{N:Nm}{r:Fr}{ρ:Nat->PA}{l:List Nat}{d:Nat}{b:Bool}(F1:∀i,RepPA N (z4 r l i) (refine (zZ ρ l) (some (d,b)) i)):r d=.s (.one (.bool b)):=by
 have:=F1 d;rw[show refine (zZ ρ l) (some (d,b)) d=pd (.bool b) by show (bif Nat.beq d d then _ else _)=_;simp]at this;have h:=yh this (c:=.bool b) rfl;unfold z4 at h;cases hm:zpp d l
 case true=>grind
 rw[hm]at h;cases h
theorem zjK{N:Nm}{r:Fr}{ρ:Nat->PA}{l:List Nat}{ref:Option (Nat×Bool)}(F:∀i,RepPA N (r i) (ρ i))(F1:∀i,RepPA N (z4 r l i) (refine (zZ ρ l) ref i)):∀i,RepPA N (r i) (refine ρ ref i):=by
 rcases ref with _|db
 .exact F
 obtain⟨d,b⟩:=db;exact zbX F (zm6 F1)
theorem zcm{N N':Nm}{r:Fr}{ρ:Nat->PA}{l:List Nat}{ref:Option (Nat×Bool)}(F1:∀i,RepPA N (z4 r l i) (refine (zZ ρ l) ref i)){i:Nat}(H:RepPA N' (r i) (ρ i)):RepPA N' (r i) (refine ρ ref i):=by
 rcases ref with _|db
 .exact H
 obtain⟨d,b⟩:=db;show RepPA N' (r i) (bif Nat.beq i d then pd (.bool b) else ρ i);cases hb:Nat.beq i d
 .exact H
 have:=Lz1 hb;subst this;rw[zm6 F1];exact yS rfl
theorem zcP{N N':Nm}{r:Fr}{ρ:Nat->PA}{l:List Nat}{ref:Option (Nat×Bool)}(F1:∀i,RepPA N (z4 r l i) (refine (zZ ρ l) ref i)){i:Nat}(H:RepPA N' (r i) (ρ i)):RepPA N' (z4 r l i) (refine (zZ ρ l) ref i):=by
 have h:=zcm F1 H;cases hm:zpp i l
 .have e2:z4 r l i=zn:=by grind[z4]
  have F1i:=F1 i;rw[e2]at F1i ⊢;rcases ref with _|db
  .have:refine (zZ ρ l) none i=.bad:=by show zZ ρ l i=.bad;grind[zZ]
   rw[this];trivial
  have:refine (zZ ρ l) (some db) i=(bif Nat.beq i db.1 then pd (.bool db.2) else .bad):=by
   show (bif Nat.beq i db.1 then pd (.bool db.2) else zZ ρ l i)=_
   grind[zZ]
  rw[this]at F1i ⊢;cases hb:Nat.beq i db.1
  .trivial
  rw[hb]at F1i;trivial
 have e1:refine (zZ ρ l) ref i=refine ρ ref i:=by
  rcases ref with _|db
  .show zZ ρ l i=ρ i;grind[zZ]
  show (bif Nat.beq i db.1 then pd (.bool db.2) else zZ ρ l i)=(bif Nat.beq i db.1 then pd (.bool db.2) else ρ i)
  grind[zZ]
 grind[z4]
theorem zq7(hO:zaj O C)(hY:Zs tab Y C){β γ:Type}{Q:γ->Prop}{lk:Nat->Bool}{nt:Nat}{ops:Array Oper}{bs:List Nat}{es:List Bool}{x:β}{K:(Nat->PA)->List PO->Option β}{kk:Nat->Fr->Za->Option γ}:
    ∀(l:List Oper) (i:Nat) (ρ:Nat->PA) (os:List PO) (N:Nm) (r:Fr) (bo:Nat->Nat) (ws:List (List Nat)) (ps:List (Nat×Nat×List Nat)) (S:List Sn) (cs:Nat->List CkE),
    pDr P O tab Y lk nt ops bs es i l ρ os bo ws ps K=some x->Zd E N os->(∀i,RepPA N (r i) (ρ i))->(∀j,lk j=true->j<os.length)->
    S.length=ws.length->zvD E (S++[(N,os)]) ws->(∀s,bo s<=ws.length/\∀A:Sn,(S++[(N,os)])[bo s]? = some A->RepPA A.1 (r s) (ρ s))->(∀n,∀q∈cs n,zou (S++[(N,os)]) ps q)->
    (∀ρ' os' N' r',K ρ' os'=some x->Zd E N' os'->(∀i,RepPA N' (r' i) (ρ' i))->Nx N N'->(∀j,lk j=true->sameO (og os j) (og os' j))->(∀i,i∉l.filterMap (·.dst)->r' i=r i)->Ev (fun n=>kk n r' N'.h) Q)->
    Ev (fun n=>kDr P nt ops (C n) bs es i l r N.h (S.map fun x=>x.1.h) (cs n) (kk n)) Q
  | [],i,ρ,os,N,r,bo,ws,ps,S,cs,e,I,F,hlk,hl,ch,sl,pe,H=>by
    simp only[pDr]at e;cases hps:(ps.all fun p=>okW ws p.1 p.2.1 p.2.2) with
    |false=>grind
    |true=>
      rw[hps]at e;have run:∀n,kDr P nt ops (C n) bs es i [] r N.h (S.map fun x=>x.1.h) (cs n) (kk n)=kk n r N.h:=fun n=>by
        simp only[kDr];have:=zoi (S:=S++[(N,os)]) (by simp[hl]) ch hps (pe n)
        grind
      simp only[run];exact H ρ os N r e I F (.refl N) (fun _ _=>.refl _) (fun _ _=>rfl)
  |o::l,i,ρ,os,N,r,bo,ws,ps,S,cs,e,I,F,hlk,hl,ch,sl,pe,H=>by
    have step:(fun n=>kDr P nt ops (C n) bs es i (o::l) r N.h (S.map fun x=>x.1.h) (cs n) (kk n))=fun n=>CE.bindR (yk P nt ops o (C n) (z4 r (o.looksAt ops)) N.h) fun v h'=>
        bif yK P o.op then kDr P nt ops (C n) bs es (Nat.succ i) l (uL r v o.dst) N.h (S.map fun x=>x.1.h) (cs n++[(yk P nt ops o (C n) (z4 r (o.looksAt ops)),v,ce (fun j=>bef bs j i) 0 es,ce (fun j=>!bef bs i j) 0 es)]) (kk n)
        else kDr P nt ops (C n) bs es (Nat.succ i) l (uL r v o.dst) h' ((S.map fun x=>x.1.h)++[N.h]) (cs n) (kk n):=by
      grind[znJ]
    rw[step];have agree:∀(r2:Fr) (v:Zb),(∀i,i∉l.filterMap (·.dst)->r2 i=uL r v o.dst i)->∀i,i∉(o::l).filterMap (·.dst)->r2 i=r i:=fun r2 v hr i hi=>by grind[xL]
    have FR:=zqH F (o.looksAt ops);simp only[pDr]at e;cases hq:yK P o.op
    · rw[hq]at e
      simp only[Yzd]at e ⊢;cases hL:zdK P tab (zZ ρ (o.looksAt ops)) o l with
      |some q=>
        obtain⟨g,az⟩:=q;rw[hL]at e;cases l with
        |cons o2 l2=>cases hL
        |nil=>
        simp only at e;cases hT:(inT nt o.dst&&ps.all fun p=>okW ws p.1 p.2.1 p.2.2&&Nat.ble p.2.1 ws.length) with
        |false=>grind
        |true=>
          rw[hT,Yzb]at e;rw[LzC,YzJ]at hT;obtain⟨hT,hps⟩:=hT;obtain⟨ht,vs,rvs,run⟩:=zeU (ops:=ops) FR hL hT;obtain⟨a,os',e1,ev⟩:=hY.o ht I rvs hlk e;have:∀n,yk P nt ops o (C n) (z4 r (o.looksAt ops)) N.h=C n (.inl g) vs N.h:=fun n=>run (C n) N.h;simp only[this];refine Ev.bindR (ev.mono ?_)
          rintro⟨v,h'⟩ ⟨N',hh,i1,i2,i3,i4⟩
          simp only at hh i4 ⊢;subst hh;have run2:∀n,kDr P nt ops (C n) bs es (Nat.succ i) [] (uL r v o.dst) N'.h ((S.map fun x=>x.1.h)++[N.h]) (cs n) (kk n)=kk n (uL r v o.dst) N'.h:=fun n=>by
            simp only[kDr];have hw:(ps.all fun p=>okW ws p.1 p.2.1 p.2.2)=true:=YzJ.2 fun p hp=>by grind
            have:=zms (S:=S++[(N,os)]) (by simp[hl]) ch [N'.h] hw (.inr fun p hp=>by
              have:=hps p hp;rw[LzC]at this;have:=Lz4 this.2
              grind) (pe n)
            grind
          simp only[run2];exact H _ os' N' (uL r v o.dst) e1 i1 (zbE (fun i=>(F i).mono i2) i4 o.dst) i2 i3 (agree _ v (fun _ _=>rfl))
      |none=>
      rw[hL]at e;simp only at e;have tail:∀(ref:Option (Nat×Bool)) (a:PA) (os':List PO) (wr:List Nat),pDr P O tab Y lk nt ops bs es (Nat.succ i) l (zb6 (refine ρ ref) a o.dst) os' (zjg bo (Nat.succ ws.length) o.dst) (ws++[wr]) ps K=some x->(∀i,RepPA N (z4 r (o.looksAt ops) i) (refine (zZ ρ (o.looksAt ops)) ref i))->
          Ev (fun n=>yk P nt ops o (C n) (z4 r (o.looksAt ops)) N.h) (fun p=>∃N',N'.h=p.2/\Sim E lk N os wr N' os' p.1 a)->
          Ev (fun n=>CE.bindR (yk P nt ops o (C n) (z4 r (o.looksAt ops)) N.h) fun v h'=>kDr P nt ops (C n) bs es (Nat.succ i) l (uL r v o.dst) h' ((S.map fun x=>x.1.h)++[N.h]) (cs n) (kk n)) Q:=by
        intro ref a os' wr e1 F1 ev;refine Ev.bindR (ev.mono ?_)
        rintro⟨v,h'⟩ ⟨N',hh,Sm⟩
        simp only at hh Sm ⊢;subst hh;have F2:=zjK F F1;have hlen2:(S++[(N,os)]).length=(ws++[wr]).length:=by simp[hl]
        have hmap:(S.map fun x=>x.1.h)++[N.h]=(S++[(N,os)]).map fun x=>x.1.h:=by simp
        rw[hmap];refine zq7 hO hY l (Nat.succ i) _ os' N' (uL r v o.dst) _ (ws++[wr]) ps (S++[(N,os)]) cs e1 Sm.inv (zbE (fun i=>(F2 i).mono Sm.nx) Sm.val o.dst) (fun j hj=>?_) hlen2 ?_ (fun s=>?_) (fun n q hqm=>?_) fun ρ2 os2 N2 r2 k1 k2 k3 k4 k5 k6=>H ρ2 os2 N2 r2 k1 k2 k3 (Sm.nx.trans k4) (fun j hj=>(sameO.of (Sm.lock j hj)).trans (k5 j hj)) (agree r2 v k6)
        · have h1:=Sm.nx.le
          rw[Sm.inv.len,I.len]at h1
          grind
        · intro e w hw A B a1 a2
          by_cases he:e<ws.length
          · rw[Lz2 he]at hw
            rw[Lz2 (by grind)]at a1;rw[Lz2 (by grind)]at a2;exact ch e w hw A B a1 a2
          have he2:e=ws.length:=by grind
          subst he2;rw[Yz0]at hw;cases hw;rw[<-hl]at a1 a2;rw[Lz2 (by simp),Yz0]at a1;cases a1;rw[show S.length+1=(S++[(N,os)]).length by simp,Yz0]at a2;cases a2;exact⟨I,Sm.nx,Sm.fr.ex I.hw,Sm.ho⟩
        · have old:bo s<=(ws++[wr]).length/\∀A:Sn,(S++[(N,os)]++[(N',os')])[bo s]? = some A->RepPA A.1 (r s) (refine ρ ref s):=
            ⟨by grind,fun A hh=>zcm F1 ((sl s).2 A (by grind))⟩
          rcases hd:o.dst with _|d
          · exact old
          show (bif Nat.beq s d then Nat.succ ws.length else bo s)<=(ws++[wr]).length/\∀A:Sn,(S++[(N,os)]++[(N',os')])[bif Nat.beq s d then Nat.succ ws.length else bo s]? = some A->RepPA A.1 (bif Nat.beq s d then v else r s) (bif Nat.beq s d then a else refine ρ ref s);cases Nat.beq s d
          · exact old
          refine⟨by simp,fun A hh=>?_⟩;simp only[Yzb]at hh ⊢;rw[show Nat.succ ws.length=(S++[(N,os)]).length by simp[hl],Yz0]at hh;cases hh;exact Sm.val
        rcases pe n q hqm with g|g|⟨rd',g1,ne,b,A,Al,a1,a2,a3,a4,a5⟩
        · exact .inl g
        · exact .inr (.inl g)
        refine .inr (.inr ⟨rd',g1,ne,b,A,Al,a1,a2,?_,?_,a5⟩)
        · grind
        grind
      suffices hs:∃ref a os' wr,pDr P O tab Y lk nt ops bs es (Nat.succ i) l (zb6 (refine ρ ref) a o.dst) os' (zjg bo (Nat.succ ws.length) o.dst) (ws++[wr]) ps K=some x/\(∀i,RepPA N (z4 r (o.looksAt ops) i) (refine (zZ ρ (o.looksAt ops)) ref i))/\
          Ev (fun n=>yk P nt ops o (C n) (z4 r (o.looksAt ops)) N.h) (fun p=>∃N',N'.h=p.2/\Sim E lk N os wr N' os' p.1 a) by
        grind
      rcases hM:zDz P tab (zZ ρ (o.looksAt ops)) o with _|q
      · rw[hM]at e
        simp only at e;rcases hL2:ziJ P tab (zZ ρ (o.looksAt ops)) o with _|⟨g,az⟩
        · rw[hL2]at e
          simp only at e;obtain⟨ref,a,os',wr,rd,e1,F1,ev⟩:=zie hO I FR hlk e
          grind
        rw[hL2]at e;simp only at e;cases hT:inT nt o.dst
        · grind
        rw[hT,Yzb]at e;obtain⟨ht,vs,rvs,run⟩:=zeU (ops:=ops) FR hL2 hT;obtain⟨a,os',e1,ev⟩:=jU hY ht I rvs e hlk;refine⟨none,a,_,[],e1,FR,?_⟩;simp only[run];exact ev
      obtain⟨g,j,az⟩:=q;rw[hM]at e;simp only at e;cases hT:inT nt o.dst
      · grind
      rw[hT,Yzb]at e;have hin:ziJ P tab (zZ ρ (o.looksAt ops)) o=some (g,pc (.own j)::az):=by grind[zDz]
      obtain⟨ht,vs,rvs,run⟩:=zeU (ops:=ops) FR hin hT;obtain⟨a,os',e1,ev⟩:=hY.m ht I rvs e;exact⟨none,a,os',[j],e1,FR,by grind⟩
    rw[hq]at e;simp only[Yzb]at e ⊢;rcases hc:comp P o.op with _|ko
    · grind
    rw[hc]at e;simp only at e;have go:∀(nb:Option (Nat×Bool)->Nat) (ps':List Nat->List (Nat×Nat×List Nat)) (hk:zb5 ko=true\/∃y,zj6 ko=some y),(∀ref,nb ref<=ws.length)->(∀rd,∀p∈ps,p∈ps' rd)->
        (∀ref,(∀i,RepPA N (z4 r (o.looksAt ops) i) (refine (zZ ρ (o.looksAt ops)) ref i))->∀v a,RepPA N v a->(∀xo,trk (refine (zZ ρ (o.looksAt ops)) ref) ko=some xo->∀N':Nm,(∀t,xo=.tmp t->RepPA N' (z4 r (o.looksAt ops) t) (refine (zZ ρ (o.looksAt ops)) ref t))->RepPA N' v a)->∀A:Sn,(S++[(N,os)])[nb ref]? = some A->RepPA A.1 v a)->
        (∀ref,(∀i,RepPA N (z4 r (o.looksAt ops) i) (refine (zZ ρ (o.looksAt ops)) ref i))->∀v rd n,((∀call h2,∃h',yk P nt ops o call (z4 r (o.looksAt ops)) h2=some (v,h'))\/(∃xo,zj6 ko=some xo/\∃b:BN,(∀call h2,h2.t.get b=N.h.t.get b->∃h',yk P nt ops o call (z4 r (o.looksAt ops)) h2=some (v,h'))/\
            ((∃ j, rd = [j] /\ j < N.n /\ blk (N.μ j) = some b /\ held (og os j) /\ ∀ N' : Nm, (∀ t, xo = .tmp t -> RepPA N' (z4 r (o.looksAt ops) t) (refine (zZ ρ (o.looksAt ops)) ref t)) -> j < N'.n) \/
             (rd=[]/\∀N':Nm,(∀t,xo=.tmp t->RepPA N' (z4 r (o.looksAt ops) t) (refine (zZ ρ (o.looksAt ops)) ref t))->N'.fz b/\∃y,N'.h.t.get b=some y))))->
          zou (S++[(N,os)]) (ps' rd) (yk P nt ops o (C n) (z4 r (o.looksAt ops)),v,ce (fun j=>bef bs j i) 0 es,ce (fun j=>!bef bs i j) 0 es))->
        (zb0 P O (fun _=>true) nt ops o (zZ ρ (o.looksAt ops)) os fun ref a _ _ rd=>pDr P O tab Y lk nt ops bs es (Nat.succ i) l (zb6 (refine ρ ref) a o.dst) os (zjg bo (nb ref) o.dst) ws (ps' rd) K)=some x->
        Ev (fun n=>CE.bindR (yk P nt ops o (C n) (z4 r (o.looksAt ops)) N.h) fun v h'=>kDr P nt ops (C n) bs es (Nat.succ i) l (uL r v o.dst) N.h (S.map fun x=>x.1.h) (cs n++[(yk P nt ops o (C n) (z4 r (o.looksAt ops)),v,ce (fun j=>bef bs j i) 0 es,ce (fun j=>!bef bs i j) 0 es)]) (kk n)) Q:=by
      intro nb ps' hk hnb hps hxb hpe e;obtain⟨ref,a,rd,v,e1,F1,rv,run,tr,pend⟩:=zjP I FR hc hk e;have:(fun n=>CE.bindR (yk P nt ops o (C n) (z4 r (o.looksAt ops)) N.h) fun v h'=>kDr P nt ops (C n) bs es (Nat.succ i) l (uL r v o.dst) N.h (S.map fun x=>x.1.h) (cs n++[(yk P nt ops o (C n) (z4 r (o.looksAt ops)),v,ce (fun j=>bef bs j i) 0 es,ce (fun j=>!bef bs i j) 0 es)]) (kk n)) =
          fun n=>kDr P nt ops (C n) bs es (Nat.succ i) l (uL r v o.dst) N.h (S.map fun x=>x.1.h) (cs n++[(yk P nt ops o (C n) (z4 r (o.looksAt ops)),v,ce (fun j=>bef bs j i) 0 es,ce (fun j=>!bef bs i j) 0 es)]) (kk n):=by
        funext n;rw[run];rfl
      rw[this];refine zq7 hO hY l (Nat.succ i) _ os N (uL r v o.dst) _ ws (ps' rd) S _ e1 I (zbE (zjK F F1) rv o.dst) hlk hl ch (fun s=>?_) (fun n q hqm=>?_) fun ρ2 os2 N2 r2 k1 k2 k3 k4 k5 k6=>H ρ2 os2 N2 r2 k1 k2 k3 k4 k5 (agree r2 v k6)
      · have old:bo s<=ws.length/\∀A:Sn,(S++[(N,os)])[bo s]? = some A->RepPA A.1 (r s) (refine ρ ref s):=⟨(sl s).1,fun A hh=>zcm F1 ((sl s).2 A hh)⟩
        rcases hd:o.dst with _|d
        · exact old
        show (bif Nat.beq s d then nb ref else bo s)<=ws.length/\∀A:Sn,(S++[(N,os)])[bif Nat.beq s d then nb ref else bo s]? = some A->RepPA A.1 (bif Nat.beq s d then v else r s) (bif Nat.beq s d then a else refine ρ ref s)
        grind
      rcases List.mem_append.1 hqm with h|h
      · rcases pe n q h with g|g|⟨rd',g1,g2⟩
        · exact .inl g
        · exact .inr (.inl g)
        exact .inr (.inr ⟨rd',hps rd _ g1,g2⟩)
      rw[Yz6]at h;subst h;exact hpe ref F1 v rd n pend
    have here:∀v a,RepPA N v a->∀A:Sn,(S++[(N,os)])[ws.length]? = some A->RepPA A.1 v a:=fun v a rv A hh=>by grind
    cases hst:zb5 ko
    · rw[hst]at e
      simp only[Yzd]at e;rcases hm:zj6 ko with _|y
      · grind
      rw[hm]at e;simp only at e;cases hb:Nat.beq (ce (fun j=>bef bs j i) 0 es) (ce (fun j=>!bef bs i j) 0 es)
      · rw[hb]at e
        simp only[Yzd]at e;cases hw:(Nat.ble (bOf bo y) (ce (fun j=>bef bs j i) 0 es)&&Nat.ble (ce (fun j=>bef bs j i) 0 es) ws.length&&Nat.ble ws.length (ce (fun j=>!bef bs i j) 0 es))
        · grind
        rw[hw]at e;simp only[LzC]at hw;obtain⟨⟨w1,w2⟩,w3⟩:=hw;have w1:=Lz4 w1;have w2:=Lz4 w2;have w3:=Lz4 w3;refine go (fun _=>ws.length) (fun rd=>ps++[(ce (fun j=>bef bs j i) 0 es,ce (fun j=>!bef bs i j) 0 es,rd)]) (.inr ⟨y,hm⟩) (fun _=>LzB _) (fun _ p hp=>Yzz _ hp) (fun ref F1 v a rv tr A hh=>here v a rv A hh) (fun ref F1 v rd n pend=>?_) e;rcases pend with g|⟨xo,g,b,g2,g1⟩
        · exact .inl fun h=>g (C n) h
        rw[hm]at g;cases g;obtain⟨Al,elo⟩:∃A:Sn,(S++[(N,os)])[ce (fun j=>bef bs j i) 0 es]? = some A:=⟨_,Lz5 (by grind)⟩;have hrel:∀t,y=.tmp t->RepPA Al.1 (z4 r (o.looksAt ops) t) (refine (zZ ρ (o.looksAt ops)) ref t):=fun t ht=>by subst ht;refine zcP F1 ?_;obtain⟨Ab,eb0⟩:∃A:Sn,(S++[(N,os)])[bo t]? = some A:=⟨_,Lz5 (by grind)⟩;have hle:bo t<=ce (fun j=>bef bs j i) 0 es:=w1;exact((sl t).2 Ab eb0).mono (wD (by simp[hl]) ch eb0 (ce (fun j=>bef bs j i) 0 es-bo t) Al (by grind))
        refine .inr (.inr ⟨rd,Yzr _ (YzA _),ws.length,b,(N,os),Al,w2,w3,by grind,elo,fun h2 hh=>g2 (C n) h2 hh,?_⟩)
        grind
      rw[hb]at e;exact go (fun _=>ws.length) (fun _=>ps) (.inr ⟨y,hm⟩) (fun _=>LzB _) (fun _ p hp=>hp) (fun ref F1 v a rv tr A hh=>here v a rv A hh) (fun ref F1 v rd n pend=>.inr (.inl hb)) e
    rw[hst]at e;simp only[Yzb]at e;refine go (fun ref=>match trk (refine (zZ ρ (o.looksAt ops)) ref) ko with|some x=>bOf bo x|none=>ws.length) (fun _=>ps) (.inl hst) ?_ (fun _ p hp=>hp) ?_ ?_ e
    · intro ref
      rcases htk:trk (refine (zZ ρ (o.looksAt ops)) ref) ko with _|y
      · exact LzB _
      cases y with
      |tmp t=>exact(sl t).1
      |_=>exact Yzs _
    · intro ref F1 v a rv tr A hh
      rcases htk:trk (refine (zZ ρ (o.looksAt ops)) ref) ko with _|y
      · grind
      simp only[htk]at hh;refine tr y htk _ fun t ht=>?_;subst ht;exact zcP F1 ((sl t).2 A hh)
    intro ref F1 v rd n pend;rcases pend with g|⟨xo,g,_⟩
    · exact .inl fun h=>g (C n) h
    exfalso;cases ko<;>first|exact Bool.noConfusion hst|(simp only[zj6]at g;cases g)
end
end Go.PE
end
section
namespace Go.PE
open Go Go.CE
theorem zvl{n0:Nat}(l:List Nat)(t:Tr Zg)(b:BN):(b∈l.map (nm n0)->(zdW n0 l t).get b=none)/\(b∉l.map (nm n0)->(zdW n0 l t).get b=t.get b):=by
 constructor
 .intro h;obtain⟨j,hj,rfl⟩:=List.mem_map.1 h
  grind[zgd]
 grind[uW]
theorem zd7{n0:Nat}{h:Tr Zg}:∀(l:List Nat) (t:Tr Zg),l.Nodup->(∀j∈l,t.get (nm n0 j)=none)->∃t',zjk n0 h l t=some t'
 | [],t,_,_=>⟨t,rfl⟩
 |j::l,t,hd,hn=>by
  unfold zjk;have h0:=hn j (Yzf ..);rw[show t.get (bn (Nat.add n0 j))=none from h0];simp only;have hnd:=List.nodup_cons.1 hd;rcases ho:h.get (bn (Nat.add n0 j)) with _|o
  .exact zd7 l t hnd.2 fun i hi=>hn i (Yze _ hi)
  refine zd7 l _ hnd.2 fun i hi=>?_
  grind[zt,uR]
theorem zu1{bs:List Nat}{i:Nat}:∀(os:List Oper) (off j:Nat),j∈yH bs i off os->off<=j:=fun os off j h=>by grind[uF]
theorem zfX{bs:List Nat}{i:Nat}:∀(os:List Oper) (off:Nat),(yH bs i off os).Nodup
 | [],_=>List.nodup_nil
 |o::os,off=>by
  unfold yH;have ih:=zfX (bs:=bs) (i:=i) os (Nat.succ off);cases (zb2 o.op&&bef bs off i)
  case true=>exact ih
  exact List.nodup_cons.2 ⟨fun h=>by have:=zu1 _ _ _ h;omega,ih⟩
def vK(bs:List Nat)(i:Nat):List (Nat×Nat)->List PO->List PO
 | [],os=>os
 |(j,k)::mk,os=>bif bef bs j i then vK bs i mk os else oset .dead (vK bs i mk os) k
def vg(bs:List Nat)(i:Nat)(os0:List PO):List (Nat×Nat)->List PO->List PO
 | [],os=>os
 |(j,k)::mk,os=>bif bef bs j i then vg bs i os0 mk os else oset (og os0 k) (vg bs i os0 mk os) k
def isLive:PO->Bool
 | .box _=>true
 | .arr _ (some _)=>true
 | .mp _ _=>true
 |_=>false
def zaK(mk:List (Nat×Nat))(os:List PO):Bool:=mk.all fun p=>isLive (og os p.2)
theorem zkd{o:PO}(h:isLive o=true):solid o:=by
 cases o with
 |box _=>trivial
 |arr _ v=>cases v with
  |none=>cases h
  |some _=>trivial
 |mp _ _=>trivial
 |_=>cases h
def Hid(bs:List Nat)(i:Nat)(mk:List (Nat×Nat))(k:Nat):Prop:=∃j,(j,k)∈mk/\bef bs j i=false
theorem qi{bs:List Nat}{i:Nat}:∀(mk:List (Nat×Nat)) (os:List PO),(vK bs i mk os).length=os.length
 | [],_=>rfl
 |(j,k)::mk,os=>by
  unfold vK;cases bef bs j i
  case true=>exact qi mk os
  exact(yd _ _ _).trans (qi mk os)
theorem zbA{bs:List Nat}{i:Nat}{os0:List PO}:∀(mk:List (Nat×Nat)) (os:List PO),(vg bs i os0 mk os).length=os.length
 | [],_=>rfl
 |(j,k)::mk,os=>by
  unfold vg;cases bef bs j i
  case true=>exact zbA mk os
  exact(yd _ _ _).trans (zbA mk os)
theorem zAv{os:List PO}{k:Nat}(h:os.length<=k):og os k=.dead:=by grind[zdE]
theorem y9{bs:List Nat}{i:Nat}(k:Nat):∀(mk:List (Nat×Nat)) (os:List PO),(Hid bs i mk k->og (vK bs i mk os) k=.dead)/\(¬Hid bs i mk k->og (vK bs i mk os) k=og os k)
 | [],_=>⟨fun⟨_,h,_⟩=>(by cases h),fun _=>rfl⟩
 |(j,k')::mk,os=>by
  obtain⟨ih1,ih2⟩:=y9 (bs:=bs) (i:=i) k mk os;unfold vK;have up:Hid bs i mk k->Hid bs i ((j,k')::mk) k:=fun⟨a,b,c⟩=>⟨a,Yze _ b,c⟩;cases hb:bef bs j i
  .simp only[Yzd];rw[zF,qi];by_cases hk:k=k'
   .subst hk;refine⟨fun _=>?_,fun h=>absurd ⟨j,Yzf ..,hb⟩ h⟩
    grind[zAv]
   rw[Yza (fun e=>hk e.1)];refine⟨fun hx=>?_,fun h=>ih2 fun g=>h (up g)⟩;obtain⟨a,h1,h2⟩:=hx;rcases Yya.1 h1 with h1|h1
   .grind
   exact ih1 ⟨a,h1,h2⟩
  simp only[Yzb];refine⟨fun hx=>?_,fun h=>ih2 fun g=>h (up g)⟩;obtain⟨a,h1,h2⟩:=hx;rcases Yya.1 h1 with h1|h1
  .grind
  exact ih1 ⟨a,h1,h2⟩
theorem x9{bs:List Nat}{i:Nat}{os0:List PO}(k:Nat):∀(mk:List (Nat×Nat)) (os:List PO),(∀p∈mk,p.2<os.length)->(Hid bs i mk k->og (vg bs i os0 mk os) k=og os0 k)/\(¬Hid bs i mk k->og (vg bs i os0 mk os) k=og os k)
 | [],_,_=>⟨fun⟨_,h,_⟩=>(by cases h),fun _=>rfl⟩
 |(j,k')::mk,os,hr=>by
  obtain⟨ih1,ih2⟩:=x9 (bs:=bs) (i:=i) (os0:=os0) k mk os fun p hp=>hr p (Yze _ hp);unfold vg;have up:Hid bs i mk k->Hid bs i ((j,k')::mk) k:=fun⟨a,b,c⟩=>⟨a,Yze _ b,c⟩;cases hb:bef bs j i
  .simp only[Yzd];rw[zF,zbA];by_cases hk:k=k'
   .subst hk;refine⟨fun _=>by simp_all,fun h=>absurd ⟨j,Yzf ..,hb⟩ h⟩
   rw[Yza (fun e=>hk e.1)];refine⟨fun hx=>?_,fun h=>ih2 fun g=>h (up g)⟩;obtain⟨a,h1,h2⟩:=hx;rcases Yya.1 h1 with h1|h1
   .grind
   exact ih1 ⟨a,h1,h2⟩
  simp only[Yzb];refine⟨fun hx=>?_,fun h=>ih2 fun g=>h (up g)⟩;obtain⟨a,h1,h2⟩:=hx;rcases Yya.1 h1 with h1|h1
  .grind
  exact ih1 ⟨a,h1,h2⟩
structure Zv (E:En) (n0 len i:Nat) (mk:List (Nat×Nat)) (N:Nm) (os:List PO):Prop where
 e0:E.h0.n.toNat<=n0
 top:n0+len<=N.h.n.toNat
 mks:∀p∈mk,p.1<i/\p.1<len/\p.2<N.n/\solid (og os p.2)/\blk (N.μ p.2)=some (nm n0 p.1)
 free:∀j,j<len->i<=j->N.h.t.get (nm n0 j)=none
 all:∀j y,j<len->N.h.t.get (nm n0 j)=some y->∃k,(j,k)∈mk
section
variable {E:En} {N:Nm} {os:List PO} {n0 len i:Nat} {mk:List (Nat×Nat)}
theorem Zv.nfz(M:Zv E n0 len i mk N os)(I:Zd E N os){j:Nat}(hj:j<len):¬N.fz (nm n0 j):=fun hf=>by
 rcases I.fzex _ hf with h|⟨y,hy⟩
 .rw[yM]at h;have:=M.e0;omega
 obtain⟨k,hk⟩:=M.all j y hj hy;obtain⟨_,_,_,h3,h4⟩:=M.mks _ hk;obtain⟨b,x,g1,g2,_⟩:=xF h3.live (I.obj k)
 grind
structure Zx (bs:List Nat) (i len:Nat) (mk:List (Nat×Nat)) (H:List Nat):Prop where
 nd:H.Nodup
 lt:∀j∈H,j<len
 hid:∀j k,(j,k)∈mk->(j∈H↔bef bs j i=false)
variable {bs:List Nat} {H:List Nat}
noncomputable def qI(n0:Nat)(H:List Nat)(N:Nm):Nm:=⟨N.μ,N.n,N.fz,⟨N.h.n,zdW n0 H N.h.t⟩⟩
theorem uS(b:BN):(b∈H.map (nm n0)->(qI n0 H N).h.t.get b=none)/\(b∉H.map (nm n0)->(qI n0 H N).h.t.get b=N.h.t.get b):=zvl H N.h.t b
theorem zc8{b:BN}{y:Zg}(h:(qI n0 H N).h.t.get b=some y):b∉H.map (nm n0)/\N.h.t.get b=some y:=by by_cases hb:b∈H.map (nm n0)<;>simp_all[uS]
theorem zlW(M:Zv E n0 len i mk N os)(I:Zd E N os)(D:Zx bs i len mk H):Nx N (qI n0 H N):=
 ⟨⟨fun _ _ h _ => h, fun b o hf hy => by
  rw[(uS b).2 ?_]
  .exact hy
  intro hm;obtain⟨j,hj,rfl⟩:=List.mem_map.1 hm;exact M.nfz I (D.lt j hj) hf⟩,LzB _,fun _ _=>rfl⟩
theorem znO:Nx (qI n0 H N) N:=⟨⟨fun _ _ h _=>h,fun _ _ _ hy=>(zc8 hy).2⟩,LzB _,fun _ _=>rfl⟩
theorem znP(M:Zv E n0 len i mk N os)(I:Zd E N os)(D:Zx bs i len mk H):Zd E (qI n0 H N) (vK bs i mk os):=by
 have t:∀k,live (og (vK bs i mk os) k)->¬Hid bs i mk k/\live (og os k):=fun k hl=>by
  by_cases hh:Hid bs i mk k
  .rw[(y9 k mk os).1 hh]at hl;trivial
  grind[y9]
 refine⟨fun b y hy=>I.hw b y (zc8 hy).2,⟨I.gr.le,fun b hb hx=>?_⟩,I.fzlt,I.fzok,fun b hb=>?_,I.len.trans (qi mk os).symm,fun k b hl hb=>I.own k b (t k hl).2 hb,fun k k' b hl hl' hb hb'=>I.inj k k' b (t k hl).2 (t k' hl').2 hb hb',fun k=>?_,fun k m hk=>?_⟩
 .rw[(uS b).2 ?_]
  .exact I.gr.old b hb hx
  intro hm;obtain⟨j,hj,rfl⟩:=List.mem_map.1 hm;rw[yM]at hb;have:=M.e0;omega
 .refine (I.fzex b hb).imp id fun⟨y,hy⟩=>⟨y,?_⟩;rw[(uS b).2 ?_]
  .exact hy
  intro hm;obtain⟨j,hj,rfl⟩:=List.mem_map.1 hm;exact M.nfz I (D.lt j hj) hb
 .by_cases hh:Hid bs i mk k
  .rw[(y9 k mk os).1 hh];trivial
  rw[(y9 k mk os).2 hh];refine (I.obj k).mono (zlW M I D) rfl fun hl b hb=>?_;obtain⟨b',x,g1,g2,g3⟩:=wb hl (I.obj k);rw[g1]at hb;cases hb;refine⟨g2,(uS _).2 fun hm=>?_⟩;obtain⟨j,hj,rfl⟩:=List.mem_map.1 hm;obtain⟨k',hk'⟩:=M.all j x (D.lt j hj) g3;obtain⟨_,_,_,h3,h4⟩:=M.mks _ hk';rcases hl with hl|⟨m,hlm⟩
  .have:=I.inj k k' _ hl h3.live g1 h4;subst this;exact hh ⟨j,hk',(D.hid j k hk').1 hj⟩
  obtain⟨k2,v2,n2,q1,q2⟩:=I.lnk_blk hlm;have:=I.inj k2 k' _ (by rw[q1];trivial) h3.live (by grind) h4;subst this;exact h3.hol _ _ _ q1
 by_cases hh:Hid bs i mk k
 .grind[y9]
 rw[(y9 k mk os).2 hh]at hk;obtain⟨k2,v2,n2,q⟩:=I.lnk k m hk;have hnh:¬Hid bs i mk k2:=fun⟨j,h1,_⟩=>(M.mks _ h1).2.2.2.1.hol _ _ _ q
 grind[y9]
structure Aft (N:Nm) (os:List PO) (wr:List Nat) (N':Nm) (os':List PO):Prop where
 nx:Nx N N'
 bk:BkE N os N' wr
 ho:Ho N.n os os' wr
 nle:N.h.n.toNat<=N'.h.n.toNat
theorem zyP(M:Zv E n0 len i mk N os)(I:Zd E N os)(D:Zx bs i len mk H){N1:Nm}{os1:List PO}{wr:List Nat}{lk:Nat->Bool}{v:Zb}{a:PA}(S:Sim E lk (qI n0 H N) (vK bs i mk os) wr N1 os1 v a):
  ∃t,zjk n0 N.h.t H N1.h.t=some t/\Zd E ⟨N1.μ,N1.n,N1.fz,⟨N1.h.n,t⟩⟩ (vg bs i os mk os1)/\Aft N os wr ⟨N1.μ,N1.n,N1.fz,⟨N1.h.n,t⟩⟩ (vg bs i os mk os1)/\Nx N1 ⟨N1.μ,N1.n,N1.fz,⟨N1.h.n,t⟩⟩/\
   (∀j,lk j=true->og (vg bs i os mk os1) j=og os j)/\(∀j,j<len->N.h.t.get (nm n0 j)=none->t.get (nm n0 j)=none):=by
 have IH:=znP M I D;have old:∀b,b.toNat<N.h.n.toNat->(qI n0 H N).h.t.get b=none->N1.h.t.get b=none:=fun b hb hn=>by
  rw[S.fr.eq b hb fun k hk hkn hl hkb=>?_]
  .exact hn
  obtain⟨b',x,g1,_,g3⟩:=xF hl (IH.obj k)
  grind
 have nlt:∀j,j<len->(nm n0 j).toNat<N.h.n.toNat:=fun j hj=>by rw[yM];have:=M.top;omega
 have hnone:∀j∈H,N1.h.t.get (nm n0 j)=none:=fun j hj=>old _ (nlt j (D.lt j hj)) ((uS _).1 (List.mem_map.2 ⟨j,hj,rfl⟩));obtain⟨t,ht⟩:=zd7 (h:=N.h.t) H N1.h.t D.nd hnone;obtain⟨b1,b2,_⟩:=zbW H N1.h.t t ht;have b2:∀b,b∉H.map (nm n0)->t.get b=N1.h.t.get b:=fun b hb=>b2 b fun j hj e=>hb (List.mem_map.2 ⟨j,hj,e.symm⟩);have up:∀b y,N1.h.t.get b=some y->t.get b=some y:=fun b y hy=>by grind
 have dn:∀b y,t.get b=some y->N1.h.t.get b=some y\/(b∈H.map (nm n0)/\N.h.t.get b=some y):=fun b y hy=>by grind
 have nfz1:∀j∈H,¬N1.fz (nm n0 j):=fun j hj hf=>by
  rcases S.inv.fzex _ hf with h|⟨y,hy⟩
  .rw[yM]at h;have:=M.e0;omega
  grind
 let N2:Nm:=⟨N1.μ,N1.n,N1.fz,⟨N1.h.n,t⟩⟩
 have nx1:Nx N1 N2:=⟨⟨fun _ _ h _=>h,fun b o _ hy=>up b o hy⟩,LzB _,fun _ _=>rfl⟩;have nx0:Nx N N2:=((zlW M I D).trans S.nx).trans nx1;have hr:∀p∈mk,p.2<os1.length:=fun p hp=>by have:=(M.mks p hp).2.2.1;have h2:N.n<=N1.n:=S.nx.le;rw[S.inv.len]at h2;omega
 have hsol:∀k,Hid bs i mk k->k<N.n/\solid (og os k):=fun k ⟨j,h1,h2⟩=>⟨(M.mks _ h1).2.2.1,(M.mks _ h1).2.2.2.1⟩;have hidden:∀k,Hid bs i mk k->∃j∈H,k<N.n/\live (og os k)/\blk (N.μ k)=some (nm n0 j)/\N1.μ k=N.μ k:=fun k ⟨j,h1,h2⟩=>by obtain⟨_,_,g1,g2,g3⟩:=M.mks _ h1;exact⟨j,(D.hid j k h1).2 h2,g1,g2.live,g3,S.nx.mu k g1⟩
 have key:∀k,live (og (vg bs i os mk os1) k)->(Hid bs i mk k/\live (og os k))\/(¬Hid bs i mk k/\live (og os1 k)):=fun k hl=>by grind[Hid,x9]
 have cross:∀k k' b,Hid bs i mk k->live (og os1 k')->blk (N1.μ k)=some b->blk (N1.μ k')=some b->False:=fun k k' b hh hl hb hb'=>by
  obtain⟨j,hj,g1,g2,g3,g4⟩:=hidden k hh;rw[g4,g3]at hb;cases hb;obtain⟨b',x,q1,_,q3⟩:=xF hl (S.inv.obj k')
  grind
 refine⟨t,ht,⟨fun b y hy=>?_,⟨Yzl I.gr.le S.fr.nle,fun b hb hx=>?_⟩,S.inv.fzlt,S.inv.fzok,fun b hb=>?_,S.inv.len.trans (zbA mk os1).symm,fun k b hl hb=>?_,fun k k' b hl hl' hb hb'=>?_,fun k=>?_,fun k m hk=>?_⟩,
  ⟨nx0,fun b y hy hw=>?_,fun k hk=>?_,S.fr.nle⟩,nx1,fun j hj=>?_,fun j hj=>?_⟩
 .rcases dn b y hy with h|⟨_,h⟩
  .exact S.inv.hw b y h
  exact Lz9 (I.hw b y h) S.fr.nle
 .show t.get b=_;rw[b2 b ?_]
  .exact S.inv.gr.old b hb hx
  intro hm;obtain⟨j,hj,rfl⟩:=List.mem_map.1 hm;rw[yM]at hb;have:=M.e0;omega
 .exact(S.inv.fzex b hb).imp id fun⟨y,hy⟩=>⟨y,up b y hy⟩
 .rcases key k hl with⟨hh,hl⟩|⟨_,hl⟩
  .obtain⟨j,_,_,_,g3,g4⟩:=hidden k hh;rw[show N2.μ k=N1.μ k from rfl,g4,g3]at hb;cases hb;exact .inl (by rw[yM];have:=M.e0;omega)
  exact S.inv.own k b hl hb
 .rcases key k hl with⟨hh,h1⟩|⟨hh,h1⟩<;>rcases key k' hl' with⟨hh',h1'⟩|⟨hh',h1'⟩
  .obtain⟨_,_,_,_,_,g4⟩:=hidden k hh;obtain⟨_,_,_,_,_,g4'⟩:=hidden k' hh';rw[show N2.μ k=N1.μ k from rfl,g4]at hb;rw[show N2.μ k'=N1.μ k' from rfl,g4']at hb';exact I.inj k k' b h1 h1' hb hb'
  .grind
  .grind
  exact S.inv.inj k k' b h1 h1' hb hb'
 .by_cases hh:Hid bs i mk k
  .rw[(x9 k mk os1 hr).1 hh];obtain⟨j,hj,g1,g2,g3,g4⟩:=hidden k hh;refine (I.obj k).mono nx0 g4 fun _ b hb=>?_
   grind
  rw[(x9 k mk os1 hr).2 hh];refine (S.inv.obj k).mono nx1 rfl fun hl b hb=>?_;obtain⟨b',x,q1,q2,q3⟩:=wb hl (S.inv.obj k)
  grind
 .by_cases hh:Hid bs i mk k
  .rw[(x9 k mk os1 hr).1 hh]at hk;have:=(hsol k hh).2;rw[hk]at this;trivial
  rw[(x9 k mk os1 hr).2 hh]at hk;obtain⟨k2,v2,n2,q⟩:=S.inv.lnk k m hk;have hnh:¬Hid bs i mk k2:=fun h2=>by have:=(S.ho k2 (hsol k2 h2).1).2.2 (by rw[q];trivial);rw[(y9 k2 mk os).1 h2]at this;exact this
  grind[x9]
 .by_cases hm:b∈H.map (nm n0)
  .grind
  refine up b y ?_;have hy2:(qI n0 H N).h.t.get b=some y:=((uS b).2 hm).trans hy;rw[S.fr.eq b (I.hw b y hy) fun k hk hkn hl hkb=>?_]
  .exact hy2
  by_cases hh:Hid bs i mk k
  .rw[(y9 k mk os).1 hh]at hl;exact hl
  rw[(y9 k mk os).2 hh]at hl;exact hw k hk hkn hl hkb
 .by_cases hh:Hid bs i mk k
  .grind[x9]
  rw[(x9 k mk os1 hr).2 hh];have:=S.ho k hk
  grind[y9]
 .by_cases hh:Hid bs i mk j
  .grind[x9]
  rw[(x9 j mk os1 hr).2 hh,S.lock j hj,(y9 j mk os).2 hh]
 by_cases hm:j∈H
 .grind
 have hm2:nm n0 j∉H.map (nm n0):=fun h=>by grind[uR]
 grind[uS]
end
end Go.PE
end
section
namespace Go.PE
open Go Go.CE
section
variable {P:Program} {O:Orc} {C:Nat->zh} {E:En}
theorem Zd.newAt{N:Nm}{os:List PO}(I:Zd E N os){b:BN}(hlt:b.toNat<N.h.n.toNat)(hn:N.h.t.get b=none)(h0:E.h0.n.toNat<=b.toNat)(hnf:¬N.fz b)(y:Zg)(o:PO)(c:Zc)(hc:blk c=some b)
  (ho:∀N',Nx N N'->N'.μ os.length=c->¬N'.fz b->N'.h.t.get b=some y->os.length<N'.n->RepO N' os.length o) (hnl:∀m,o≠.lnk m):
  Zd E ⟨upd N.μ os.length c,os.length+1,N.fz,⟨N.h.n,N.h.t.set b y⟩⟩ (os++[o])/\Aft N os [] ⟨upd N.μ os.length c,os.length+1,N.fz,⟨N.h.n,N.h.t.set b y⟩⟩ (os++[o]):=by
 have old:∀b' z,N.h.t.get b'=some z->(N.h.t.set b y).get b'=some z:=fun b' z hz=>by grind[zt]
 have mu:∀k,k≠os.length->upd N.μ os.length c k=N.μ k:=fun k hk=>by show (if k=os.length then c else N.μ k)=_;rw[Yza hk]
 have muL:upd N.μ os.length c os.length=c:=by show (if os.length=os.length then c else _)=_;simp
 have hlen:=I.len;have nx:Nx N ⟨upd N.μ os.length c,os.length+1,N.fz,⟨N.h.n,N.h.t.set b y⟩⟩:=⟨⟨fun _ _ h _=>h,fun b' z _ hz=>old b' z hz⟩,by grind,fun k hk=>mu k (by omega)⟩;have nb:∀k,live (og os k)->blk (N.μ k)≠some b:=fun k hl hb=>by
  obtain⟨b',x',h1,_,h3⟩:=xF hl (I.obj k)
  grind
 refine⟨⟨fun b' z hz=>?_,⟨I.gr.le,fun b' hb' hx=>?_⟩,I.fzlt,I.fzok,fun b' hb'=>(I.fzex b' hb').imp id fun⟨z,hz⟩=>⟨z,old b' z hz⟩,by simp,fun k b' hl hb=>?_,fun k k' b' hl hl' hb hb'=>?_,fun k=>?_,fun t m ht=>?_⟩,
  ⟨nx,fun b' z hz _=>old b' z hz,.app (Nat.le_of_eq hlen),LzB _⟩⟩
 .show b'.toNat<N.h.n.toNat;by_cases hb:b'=b
  .grind
  exact I.hw b' z (by rwa [show (Za.mk N.h.n (N.h.t.set b y)).t=N.h.t.set b y from rfl,zt _ _ _ _ hb]at hz)
 .show (N.h.t.set b y).get b'=_;rw[zt _ _ _ _ (fun e=>by grind)];exact I.gr.old b' hb' hx
 .by_cases hk:k=os.length
  .subst hk;rw[show (Nm.mk (upd N.μ os.length c) (os.length+1) N.fz ⟨N.h.n,N.h.t.set b y⟩).μ os.length=c from muL,hc]at hb;cases hb;exact .inl h0
  rw[y7,Yza hk]at hl;rw[show (Nm.mk (upd N.μ os.length c) (os.length+1) N.fz ⟨N.h.n,N.h.t.set b y⟩).μ k=N.μ k from mu k hk]at hb;exact I.own k b' hl hb
 .rw[y7]at hl hl';simp only at hb hb';by_cases hk:k=os.length<;>by_cases hk':k'=os.length
  .omega
  .grind
  .grind
  rw[Yza hk]at hl;rw[Yza hk']at hl';rw[mu k hk]at hb;rw[mu k' hk']at hb';exact I.inj k k' b' hl hl' hb hb'
 .rw[y7];by_cases hk:k=os.length
  .simp_all[zC]
  rw[Yza hk];refine (I.obj k).mono nx (mu k hk) fun hl b' hb=>?_;obtain⟨b2,x',h1,h2,h3⟩:=wb hl (I.obj k)
  grind
 rw[y7]at ht;by_cases hk:t=os.length
 .grind
 rw[Yza hk]at ht;obtain⟨k,v,n,h⟩:=I.lnk t m ht;have hl:k<os.length:=vQ (by grind);exact⟨k,v,n,by rw[y7,Yza (by omega)];exact h⟩
def mkK:KOp->Bool
 | .alloc _=>true
 | .box _=>true
 | .bslice ..=>true
 |_=>false
def soft:KOp->Bool
 | .bslice ..=>false
 |_=>true
def isD:PC->Bool
 | .d _=>true
 |_=>false
def vI:PA->Bool
 | .s v=>v.cells.all isD
 | .tl ..=>false
 |_=>true
theorem zo0{N A:Nm}(g:FG N.fz N.h A.fz A.h){v:Zb}{a:PA}(hp:vI a=true)(H:RepPA N v a):RepPA A v a:=by
 have one:∀(c:Zc) (p:PC),isD p=true->RepPC N c p->RepPC A c p:=fun c p hp H=>by
  cases p with
  |d d=>exact Rep.mono g H
  |_=>cases hp
 have many:∀(cs:List Zc) (ps:List PC),ps.all isD=true->RepPL N cs ps->RepPL A cs ps:=by
  intro cs
  induction cs with
  |nil=>intro ps _ H;cases ps with
   |nil=>trivial
   |cons _ _=>trivial
  |cons c cs ih=>intro ps hp H;cases ps with
   |nil=>trivial
   |cons p ps=>simp only[Yym,LzC]at hp;exact⟨one c p hp.1 H.1,ih ps hp.2 H.2⟩
 cases a with
 |s pv=>
  obtain⟨w,rfl,hw⟩:=H.inv;refine .of ?_;cases w<;>cases pv<;>first|exact hw.elim|skip
  .simp only[vI,PV.cells,Yym,List.all_nil,Yyn]at hp;exact one _ _ hp hw
  exact many _ _ hp hw
 |tup ds=>
  cases v with
  |s _=>trivial
  |tup l=>exact RepSL.mono g H
 |tl p ds=>cases hp
 |bad=>trivial
 |undef=>trivial
def zAW:KOp->PA->PA
 | .bslice _ 0 _ _,.s (.one (.own k))=>.s (.one (.lit k))
 |_,a=>a
def zB6{β:Type}(ko:KOp)(E:En)(lk:Nat->Bool)(N:Nm)(os:List PO)(run:zh->Za->Res)(K:PA->List PO->Option β)(x:β)(nb:Bool):Prop:=
 ∃a os1 o N1,K a (os1++[o])=some x/\Fz N N1/\Stp E lk N os [] N1 os1/\os1.length=os.length/\(nb=true->N1=N)/\solid o/\∃(vf:BN->Zc) (y:Zg),(∀b,blk (vf b)=some b)/\(∀call b T,run call ⟨b,T⟩=some (.s (.one (vf b)),(⟨b,T⟩:Za).new y))/\
  ∀b N',Nx N1 N'->N'.μ os1.length=vf b->¬N'.fz b->N'.h.t.get b=some y->os1.length<N'.n->RepO N' os1.length o/\RepPA N' (.s (.one (vf b))) (zAW ko a)
theorem zAN{β:Type}{lk:Nat->Bool}{N:Nm}{os:List PO}{r:Fr}{ρ:Nat->PA}{k:KT β}{x:β}{sh:Sh}{ko:KOp}(hk:mkK ko=true)(I:Zd E N os)(F:∀i,RepPA N (r i) (ρ i))(e:pOp O lk sh ρ os ko k=some x):
  zB6 ko E lk N os (fun call h=>runK r ko call h) (fun a os'=>k a os' [] []) x (soft ko):=by
 have boxy:∀(vs:List Zc) (ps:List PC),RepPL N vs ps->(∀call h,runK r ko call h=zcZ h (.cells vs 0) (fun b=>.ptr b 0))->k (pc (.ptr os.length 0)) (os++[.box ps]) [] []=some x->(∀a,zAW ko a=a)->zB6 ko E lk N os (fun call h=>runK r ko call h) (fun a os'=>k a os' [] []) x (soft ko):=by intro vs ps H run e hla;exact⟨_,os,.box ps,N,e,.refl N,.refl I,rfl,fun _=>rfl,trivial,fun b=>.ptr b 0,.cells vs 0,fun b=>rfl,fun call b T=>(run call _).trans (ziq _ _ _),fun b N' nx hmu hf hg hlt=>⟨⟨_,vs,hmu,hf,hg,H.mono nx⟩,by rw[hla];exact yY (p:=.ptr os.length 0) (c:=.ptr b 0) ⟨hlt,_,hmu,rfl⟩⟩⟩
 cases ko with
 |alloc zs=>have e:za (cDs zs) (fun cs=>k (pc (.ptr os.length 0)) (os++[.box cs]) [] [])=some x:=e;obtain⟨ps,h1,e⟩:=zj e;exact boxy _ _ (zds h1) (fun call h=>rfl) e fun _=>rfl
 |box a=>
  have e:(match pv ρ a with
   |some (.s v)=>k (pc (.ptr os.length 0)) (os++[.box v.cells]) [] []
   |_=>none)=some x:=e
  split at e
  .rename_i p hp;obtain⟨v,ka,ra⟩:=wM F hp;obtain⟨w,rfl,hw⟩:=ra.inv;exact boxy _ _ hw.cells (fun call h=>by simp only[runK,ka,zH];rfl) e fun _=>rfl
  cases e
 |bslice st len zs parts=>
  have e:za (cDs zs) (fun cs=>za (zkl ρ parts cs) fun cs=>za (frL lk xd os cs) fun p=>bif Nat.beq p.2.length (len*st) then k (pc (.own p.1.length)) (p.1++[.arr st (some (chunks st len p.2))]) [] [] else none)=some x:=e
  obtain⟨ps,h1,e⟩:=zj e;obtain⟨ps',h2,e⟩:=zj e;obtain⟨⟨os1,ds⟩,h3,e⟩:=zj e;obtain⟨l,cs',k1,k2,k3⟩:=zeV F h2 (zds h1);obtain⟨N1,f1,S1,r1⟩:=znU I k3 h3;simp only at e;cases hb:Nat.beq ds.length (len*st)
  .grind
  rw[hb]at e;have hd:=Lz1 hb;have hl1:os1.length=os.length:=by rw[<-S1.inv.len,f1.n,I.len]
  have hlc:(chunks st len ds).length=len:=zdZ st len ds;refine⟨_,os1,.arr st (some (chunks st len ds)),N1,e,f1,S1,hl1,fun h=>(by cases h),trivial,fun b=>.slc b 0 len len true,.cells cs' st,fun b=>rfl,fun call b T=>?_,fun b N' nx hmu hf hg hlt=>⟨⟨b,cs',true,?_,hf,hg,by rw[r1.1,hd,hlc],fun i y hy=>?_⟩,by
    cases len with
    |zero=>exact yY (p:=.lit os1.length) ⟨hlt,b,hmu,rfl⟩
    |succ n=>exact yY (p:=.own os1.length) ⟨hlt,hmu.symm⟩⟩⟩
  .show runK r (.bslice st len zs parts) call ⟨b,T⟩=_;simp only[runK,k1];show (match zdi .nil (cP l) zs with|some cs=>zcZ ⟨b,T⟩ (.cells cs st) (fun b=>.slc b 0 len len true)|none=>none)=_
   grind[ziq]
  .grind
  obtain⟨q1,q2⟩:=zd0 st len ds i y hy;subst q1;refine⟨?_,(r1.sub (i*st) st).mono nx.fg⟩;have:=Yzk st (show i+1<=len from q2)
  grind
 |_=>cases hk
end
def zrQ(mk:List (Nat×Nat)):List Nat->Bool
 | [k]=>mk.any fun p=>Nat.beq p.2 k
 |_=>false
section
variable (P:Program) (O:Orc) (tab:Nat->Bool) (Y:Inl)
def zly{β:Type}(lk:Nat->Bool)(nt:Nat)(ops:Array Oper)(bs:List Nat)(es:List Bool):Nat->List Oper->(Nat->PA)->List PO->(Nat->Nat)->List (List Nat)->List (Nat×Nat×List Nat)->List (Nat×Nat)->Bool->((Nat->PA)->List PO->Option β)->Option β
 |_,[],ρ,os,_,ws,ps,_,_,K=>bif ps.all (fun p=>okW ws p.1 p.2.1 p.2.2) then K ρ os else none
 |i,o::l,ρ,os,bo,ws,ps,mk,fr,K=>
  bif zb2 o.op then
   match comp P o.op,o.guard with
   |some ko,none=>
    bif mkK ko&&inT nt o.dst then
     pOp O lk (zzd P o.dst o.type) (zZ ρ (o.looksAt ops)) os ko fun a os' _ _=>bif zaK mk os' then zly lk nt ops bs es (Nat.succ i) l (zb6 ρ (zAW ko a) o.dst) os' (zjg bo (Nat.succ ws.length) o.dst) ws ps (mk++[(i,os.length)]) (fr&&soft ko) K else none
    else none
   |_,_=>none
  else bif anchor P o.op then
   match ziJ P tab (zZ ρ (o.looksAt ops)) o with
   |some (g,az)=>bif inT nt o.dst&&zuv (vK bs i mk os) then Y g (zB4 (vK bs i mk os).length) az (vK bs i mk os) β (fun a os1=>bif zaK mk (vg bs i os mk os1) then zly lk nt ops bs es (Nat.succ i) l (zb6 ρ a o.dst) (vg bs i os mk os1) (zjg bo (Nat.succ ws.length) o.dst) (ws++[List.range (vK bs i mk os).length]) ps mk true K else none) else none
   |none=>
   zb0 P O lk nt ops o (zZ ρ (o.looksAt ops)) (vK bs i mk os) fun ref a os1 wr _=>bif zaK mk (vg bs i os mk os1) then zly lk nt ops bs es (Nat.succ i) l (zb6 (refine ρ ref) a o.dst) (vg bs i os mk os1) (zjg bo (Nat.succ ws.length) o.dst) (ws++[wr]) ps mk true K else none
  else
   match comp P o.op with
   |none=>none
   |some ko=>
    bif zb5 ko then
     zb0 P O (fun _=>true) nt ops o (zZ ρ (o.looksAt ops)) (vK bs i mk os) fun ref a _ _ _=>zly lk nt ops bs es (Nat.succ i) l (zb6 (refine ρ ref) a o.dst) os (zjg bo (match trk (refine (zZ ρ (o.looksAt ops)) ref) ko with|some x=>bOf bo x|none=>bif fr&&vI a then ws.length else Nat.succ ws.length) o.dst) ws ps mk fr K
    else
     match zj6 ko with
     |none=>none
     |some x=>
      bif Nat.beq (ce (fun j=>bef bs j i) 0 es) (ce (fun j=>!bef bs i j) 0 es) then
       zb0 P O (fun _=>true) nt ops o (zZ ρ (o.looksAt ops)) (vK bs i mk os) fun ref a _ _ _=>zly lk nt ops bs es (Nat.succ i) l (zb6 (refine ρ ref) a o.dst) os (zjg bo (bif fr&&vI a then ws.length else Nat.succ ws.length) o.dst) ws ps mk fr K
      else
       bif Nat.ble (bOf bo x) (ce (fun j=>bef bs j i) 0 es)&&Nat.ble (ce (fun j=>bef bs j i) 0 es) ws.length&&Nat.ble ws.length (ce (fun j=>!bef bs i j) 0 es) then
        zb0 P O (fun _=>true) nt ops o (zZ ρ (o.looksAt ops)) (vK bs i mk os) fun ref a _ _ rd=>zly lk nt ops bs es (Nat.succ i) l (zb6 (refine ρ ref) a o.dst) os (zjg bo (bif fr&&vI a then ws.length else Nat.succ ws.length) o.dst) ws (ps++[(ce (fun j=>bef bs j i) 0 es,ce (fun j=>!bef bs i j) 0 es,rd)]) mk fr K
       else bif Nat.ble ws.length (ce (fun j=>!bef bs i j) 0 es) then
        zb0 P O (fun _=>true) nt ops o (zZ ρ (o.looksAt ops)) (vK bs i mk os) fun ref a _ _ rd=>bif zrQ mk rd&&okW ws 0 ws.length rd then zly lk nt ops bs es (Nat.succ i) l (zb6 (refine ρ ref) a o.dst) os (zjg bo (bif fr&&vI a then ws.length else Nat.succ ws.length) o.dst) ws (ps++[(0,ce (fun j=>!bef bs i j) 0 es,rd)]) mk fr K else none
       else none
end
theorem zyh{tab:Nat->Bool}{Y:Inl}{C:Nat->zh}(hY:Zs tab Y C){β:Type}{E:En}{N:Nm}{os:List PO}{g:Nat}{az:List PA}{vs:List Zb}{K:PA->List PO->Option β}{x:β}(hg:tab g=true)(I:Zd E N os)(hn:zuv os=true)(A:RepPAL N vs az)(e:Y g (zB4 os.length) az os β K=some x):
  ∃a os',K a os'=some x/\Ev (fun n=>C n (.inl g) vs N.h) (fun p=>∃N',N'.h=p.2/\Sim E (zB4 os.length) N os (List.range os.length) N' os' p.1 a):=by
 let E':En:=⟨N.h,N.fz,fun b=>∃k,live (og os k)/\blk (N.μ k)=some b⟩
 have I':Zd E' N os:=⟨I.hw,GrX.refl (E:=E'),I.fzlt,fun b hb=>.inl hb,fun b hb=>.inl (I.fzlt b hb),I.len,fun k b hl hb=>.inr ⟨k,hl,hb⟩,I.inj,I.obj,I.lnk⟩;obtain⟨a,os',hK,ev⟩:=hY.o (lk:=zB4 os.length) hg I' A (fun j hj=>Lz4 hj) e;refine⟨a,os',hK,ev.mono ?_⟩
 rintro p ⟨N',hh,J,nx,sm,val⟩
 have same:∀j,j<os.length->og os' j=og os j:=fun j hj=>by
  rcases sm j (Yzg hj) with h|⟨nt,ρ,ps,A,B,l,n,h,_⟩
  .exact h
  grind[zuv,List.getElem_mem,zdE]
 have nwE:∀b,E'.nw b->E.nw b:=fun b h=>by
  rcases h with h|⟨k,hl,hb⟩
  .exact .inl (Yzl I.gr.le h)
  exact I.own k b hl hb
 have old:∀b:BN,b.toNat<N.h.n.toNat->¬E'.xp b->N'.h.t.get b=N.h.t.get b:=J.gr.old;have lt:∀k,live (og os k)->k<os.length:=fun k hl=>vQ (by intro h;rw[h]at hl;exact hl);have fz':∀b,N'.fz b->N.fz b\/N.h.n.toNat<=b.toNat:=fun b hb=>by
  rcases J.fzok b hb with h|h|⟨k,hl,hkb⟩
  .grind
  .grind
  have hk:=lt k hl;have hl':live (og os' k):=by grind
  obtain⟨b',y,g1,g2,_⟩:=xF hl' (J.obj k);rw[nx.mu k (by rw[I.len];exact hk),hkb]at g1
  grind
 refine⟨N',hh,⟨J.hw,⟨Yzl I.gr.le J.gr.le,fun b hb hx=>?_⟩,J.fzlt,fun b hb=>?_,fun b hb=>?_,J.len,fun k b hl hb=>nwE b (J.own k b hl hb),J.inj,J.obj,J.lnk⟩,nx,⟨J.gr.le,fun b hb H=>old b hb ?_⟩,fun j hj=>same j (Lz4 hj),fun k hk=>?_,val⟩
 .rw[old b (Lz9 hb I.gr.le) ?_]
  .exact I.gr.old b hb hx
  rintro⟨k,hl,hkb⟩
  rcases I.own k b hl hkb with h|h<;>grind
 .rcases fz' b hb with h|h
  .exact I.fzok b h
  exact .inr (.inl (Yzl I.gr.le h))
 .rcases fz' b hb with h|h
  .exact(I.fzex b h).imp id fun⟨y,hy⟩=>⟨y,nx.fg.old b y h hy⟩
  rcases J.fzex b hb with h2|h2<;>grind
 .rintro⟨k,hl,hkb⟩
  exact H k (List.mem_range.2 (lt k hl)) (by rw[I.len];grind) hl hkb
 rw[same k (by rw[<-I.len];exact hk)]
 grind
def PendOk2(S:List Sn)(n0:Nat)(mk:List (Nat×Nat))(mks:List (Nat×Nat×Zg))(ps:List (Nat×Nat×List Nat))(q:CkG):Prop:=
 (∀h,∃h',q.1 h=some (q.2.1,h'))\/Nat.beq q.2.2.1 q.2.2.2.1=true\/
  (∃ rd, (q.2.2.1, q.2.2.2.1, rd) ∈ ps /\ ∃ (ne : Nat) (b : BN) (A Al : Sn), q.2.2.1 <= ne /\ ne <= q.2.2.2.1 /\ S[ne]? = some A /\ S[q.2.2.1]? = some Al /\ (∀ j ∈ q.2.2.2.2, b ≠ nm n0 j) /\ (∀ h2, h2.t.get b = A.1.h.t.get b -> ∃ h', q.1 h2 = some (q.2.1, h')) /\
   ((∃j,rd=[j]/\j<Al.1.n/\blk (A.1.μ j)=some b/\held (og A.2 j))\/(Al.1.fz b/\∃y,Al.1.h.t.get b=some y)))\/
  (∃k z,(0,q.2.2.2.1,[k])∈ps/\z∈mks/\(z.2.1,k)∈mk/\(∀j∈q.2.2.2.2,nm n0 z.2.1≠nm n0 j)/\∀h2,h2.t.get (nm n0 z.2.1)=some z.2.2->∃h',q.1 h2=some (q.2.1,h'))
def NW(ws:List (List Nat))(e k:Nat):Prop:=∀i w,i<e->ws[i]? = some w->k∉w
theorem NW.of{ws:List (List Nat)}{e k:Nat}(h:okW ws 0 e [k]=true):NW ws e k:=fun _ _ h1 h2=>zlB h (Yzs _) h1 h2
structure MV (n0 i:Nat) (ws:List (List Nat)) (S:List Sn) (N:Nm) (mk:List (Nat×Nat)) (mks:List (Nat×Nat×Zg)):Prop where
 val:∀z∈mks,∀k,(z.2.1,k)∈mk->(∀e A,z.1<e->S[e]? = some A->NW ws e k->A.1.h.t.get (nm n0 z.2.1)=some z.2.2)/\(NW ws ws.length k->N.h.t.get (nm n0 z.2.1)=some z.2.2)
 lt:∀z∈mks,z.2.1<i
 uniq:∀z∈mks,∀z'∈mks,z.2.1=z'.2.1->z=z'
 ex:∀p∈mk,∃z∈mks,z.2.1=p.1
theorem zcL{run:Za->Res}{v:Zb}{n0:Nat}{hide:List Nat}{mks:List (Nat×Nat×Zg)}:∀{l:List Za} {k0:Nat},(∀m h,l[m]? = some h->∃h',run ⟨h.n,zdW n0 hide (zcu n0 (k0+m) mks h.t)⟩=some (v,h'))->zgZ run v n0 hide mks k0 l=true
 | [],_,_=>rfl
 |h::l,k0,H=>by
  obtain⟨h',e⟩:=H 0 h rfl;rw[YzE]at e;simp only[zgZ,e,zn5,Yyb];exact zcL fun m x hx=>by
   obtain⟨h2,e2⟩:=H (m+1) x (by trivial)
   grind
theorem zax{n0 k:Nat}{b:BN}:∀(mks:List (Nat×Nat×Zg)) (t:Tr Zg),(∀x∈mks,k<=x.1->b≠nm n0 x.2.1)->(zcu n0 k mks t).get b=t.get b
 | [],_,_=>rfl
 |(c,j,o)::l,t,H=>by
  simp only[zcu];rw[zax l _ fun x hx=>H x (Yze _ hx)]
  grind[zt,Yzf,Lz4]
theorem zki{n0 k:Nat}{z:Nat×Nat×Zg}(hk:k<=z.1):∀(mks:List (Nat×Nat×Zg)) (t:Tr Zg),z∈mks->(∀z'∈mks,z.2.1=z'.2.1->z=z')->(zcu n0 k mks t).get (nm n0 z.2.1)=some z.2.2
 | [],_,h,_=>by cases h
 |(c,j,o)::l,t,h,hu=>by
  simp only[zcu];by_cases hz:z∈l
  .exact zki hk l _ hz fun z' h'=>hu z' (Yze _ h')
  rw[zax l _ fun x hx _ e=>hz (by grind[uR])];rcases Yya.1 h with rfl|h
  .grind[Yzg,zC]
  trivial
section
variable {E:En} {S:List Sn} {ws:List (List Nat)} (hl:S.length=ws.length+1) (ch:zvD E S ws)
include hl ch
theorem zsX{n0 i:Nat}{N:Nm}{mk:List (Nat×Nat)}{mks:List (Nat×Nat×Zg)}(hi:∀A∈S,Zd E A.1 A.2)(hm:∀x∈mks,∀e A,e<=x.1->S[e]? = some A->A.1.h.t.get (nm n0 x.2.1)=none)(mv:MV n0 i ws S N mk mks){ps:List (Nat×Nat×List Nat)}(hps:(ps.all fun p=>okW ws p.1 p.2.1 p.2.2)=true):
  ∀{cs:List CkG},(∀q∈cs,PendOk2 S n0 mk mks ps q)->zmt n0 mks (S.map fun x=>x.1.h) cs=true
 | [],_=>rfl
 |(run,v,lo,hi',hide)::cs,Hc=>by
  have ih:=zsX hi hm mv hps (cs:=cs) fun q hq=>Hc q (Yze _ hq);simp only[zmt,ih,Yyn];have mem:∀(m:Nat) h,(((S.map fun x=>x.1.h).drop lo).take (Nat.sub (Nat.succ hi') lo))[m]? = some h->∃B,lo+m<=hi'/\S[lo+m]? = some B/\h=B.1.h:=fun m h hi2=>by grind
  rcases Hc _ (Yzf ..) with h|h|⟨rd,hp,ne,b,A,Al,h1,h2,h3,h4,h5,h6,h7⟩|⟨k,z,hp,hz,hzk,h5,h6⟩
  .simp_all[zcL]
  .grind
  .rw[YzJ]at hps;have hwin:=hps _ hp;simp only at hwin h1 h2 h4 h5 h6;rw[zcL fun m x hx=>?_,Bool.or_true];obtain⟨B,hd1,hd2,rfl⟩:=mem m x hx;have hne:S[lo+(ne-lo)]? = some A:=by grind
   have fact:B.1.h.t.get b=A.1.h.t.get b/\∃y,B.1.h.t.get b=some y:=by
    rcases h7 with⟨j,rfl,q1,q2,q3⟩|⟨q1,y,q2⟩
    .have e1:=zcW hl ch h4 h3 h1 h2 q1 hwin q2 q3 (ne-lo) A (by omega) hne;have e2:=zcW hl ch h4 h3 h1 h2 q1 hwin q2 q3 m B hd1 hd2;obtain⟨y,hy⟩:=zfY q3 ((hi A (Lz3 h3)).obj j) q2
     grind
    have e1:=(wD hl ch h4 (ne-lo) A hne).fg.old b y q1 q2;have e2:=(wD hl ch h4 m B hd2).fg.old b y q1 q2
    grind
   obtain⟨f1,y,f2⟩:=fact;refine h6 _ ?_;show (zdW n0 hide (zcu n0 (lo+m) mks B.1.h.t)).get b=_;rw[uW hide _ b h5,zax mks _ fun x hx hle e=>?_]
   .exact f1
   grind
  rw[YzJ]at hps;have hwin:=hps _ hp;simp only at hwin h5 h6;rw[zcL fun m x hx=>?_,Bool.or_true];obtain⟨B,hd1,hd2,rfl⟩:=mem m x hx;refine h6 _ ?_;show (zdW n0 hide (zcu n0 (lo+m) mks B.1.h.t)).get _=_;rw[uW hide _ _ h5];by_cases hle:lo+m<=z.1
  .exact zki hle mks _ hz (mv.uniq z hz)
  rw[zax mks _ fun x hx hle2 e=>hle (by have:=mv.uniq z hz x hx (uR e);grind)];exact(mv.val z hz k hzk).1 (lo+m) B (by omega) hd2 fun i w h1 h2=>NW.of hwin i w (by omega) h2
end
theorem Aft.refl(N:Nm)(os:List PO):Aft N os [] N os:=⟨.refl N,fun _ _ h _=>h,.refl _ _ _,LzB _⟩
theorem Stp.aft{E:En}{lk:Nat->Bool}{N N':Nm}{os os':List PO}{wr:List Nat}(S:Stp E lk N os wr N' os')(hw:HW N.h):Aft N os wr N' os':=⟨S.nx,S.fr.ex hw,S.ho,S.fr.nle⟩
theorem Aft.trans{A N N':Nm}{oA os os':List PO}{wr:List Nat}(a:Aft A oA [] N os)(hn:∀k b,A.n<=k->k<N.n->blk (N.μ k)=some b->A.h.t.get b=none)(b:Aft N os wr N' os'):Aft A oA wr N' os':=by
 refine⟨a.nx.trans b.nx,fun b0 y hy hw=>?_,fun k hk=>?_,Yzl a.nle b.nle⟩
 .refine b.bk b0 y (a.bk b0 y hy fun j hj=>(by cases hj)) fun j hj hjn hl hjb=>?_;by_cases hA:j<A.n
  .exact hw j hj hA ((a.ho j hA).2.2 hl) (by rw[<-a.nx.mu j hA];exact hjb)
  grind
 have g1:=a.ho k hk;have g2:=b.ho k (Lz9 hk a.nx.le)
 grind
end Go.PE
end
section
namespace Go.PE
open Go Go.CE
section
variable {P:Program} {O:Orc} {C:Nat->zh} {E:En} {tab:Nat->Bool} {Y:Inl}
theorem Zv.up{n0 len i:Nat}{mk:List (Nat×Nat)}{N:Nm}{os:List PO}(M:Zv E n0 len i mk N os):Zv E n0 len (Nat.succ i) mk N os:=
 ⟨M.e0,M.top,fun p hp=>⟨Nat.lt_succ_of_lt (M.mks p hp).1,(M.mks p hp).2⟩,fun j hj h=>M.free j hj (by omega),M.all⟩
theorem zEc{ops:Array Oper}{bs:List Nat}{i:Nat}{mk:List (Nat×Nat)}{n0:Nat}{N:Nm}{os:List PO}(_M:Zv E n0 ops.toList.length i mk N os)(hm:∀p∈mk,∃o,ops.toList[p.1]? = some o/\zb2 o.op=true):
  Zx bs i ops.toList.length mk (yH bs i 0 ops.toList):=by
 refine⟨zfX _ _,fun j hj=>?_,fun j k hjk=>?_⟩<;>grind[uF]
theorem PendOk2.up{S X:List Sn}{n0:Nat}{mk mk':List (Nat×Nat)}{mks mks':List (Nat×Nat×Zg)}{ps ps':List (Nat×Nat×List Nat)}(hps:∀p∈ps,p∈ps')(hmk:∀p∈mk,p∈mk')(hmks:∀p∈mks,p∈mks'){q:CkG}(h:PendOk2 S n0 mk mks ps q):PendOk2 (S++X) n0 mk' mks' ps' q:=by
 rcases h with g|g|⟨rd',g1,ne,b,A,Al,a1,a2,a3,a4,a5⟩|⟨k,z,g1,g2,g3,g4⟩
 .exact .inl g
 .exact .inr (.inl g)
 .refine .inr (.inr (.inl ⟨rd',hps _ g1,ne,b,A,Al,a1,a2,?_,?_,a5⟩))
  .grind
  grind
 exact .inr (.inr (.inr ⟨k,z,hps _ g1,hmks _ g2,hmk _ g3,g4⟩))
set_option maxHeartbeats 1000000 in
theorem zih(hO:zaj O C)(hY:Zs tab Y C){β γ:Type}{Q:γ->Prop}{lk:Nat->Bool}{nt:Nat}{ops:Array Oper}{bs:List Nat}{es:List Bool}{n0:Nat}{x:β}{K:(Nat->PA)->List PO->Option β}{kk:Nat->Fr->Za->Option γ}:
    ∀(l:List Oper) (i:Nat) (ρ:Nat->PA) (os:List PO) (N:Nm) (r:Fr) (bo:Nat->Nat) (ws:List (List Nat)) (ps:List (Nat×Nat×List Nat)) (mk:List (Nat×Nat)) (fr:Bool) (S:List Sn) (cs:Nat->List CkG) (mks:List (Nat×Nat×Zg)),
    zly P O tab Y lk nt ops bs es i l ρ os bo ws ps mk fr K=some x->Zd E N os->(∀i,RepPA N (r i) (ρ i))->(∀j,lk j=true->j<os.length)->
    (∃pre,ops.toList=pre++l/\pre.length=i)->Zv E n0 ops.toList.length i mk N os->(∀p∈mk,∃o,ops.toList[p.1]? = some o/\zb2 o.op=true)->
    S.length=ws.length+1->zvD E S ws->(∀A∈S,Zd E A.1 A.2)->(∀A∈S,∀j,j<ops.toList.length->i<=j->A.1.h.t.get (nm n0 j)=none)->
    (∃A,S[ws.length]? = some A/\Aft A.1 A.2 [] N os/\(∀k b,A.1.n<=k->k<N.n->blk (N.μ k)=some b->A.1.h.t.get b=none)/\(fr=true->FG N.fz N.h A.1.fz A.1.h))->
    (∀s,bo s<=ws.length+1/\∀A:Sn,S[bo s]? = some A->RepPA A.1 (r s) (ρ s))->
    (∀y∈mks,y.1<=ws.length/\∀e A,e<=y.1->S[e]? = some A->A.1.h.t.get (nm n0 y.2.1)=none)->MV n0 i ws S N mk mks->(∀n,∀q∈cs n,PendOk2 S n0 mk mks ps q)->
    (∀ρ' os' N' r',K ρ' os'=some x->Zd E N' os'->(∀i,RepPA N' (r' i) (ρ' i))->Nx N N'->(∀j,lk j=true->og os' j=og os j)->(∀i,i∉l.filterMap (·.dst)->r' i=r i)->Ev (fun n=>kk n r' N'.h) Q)->
    Ev (fun n=>zgJ P nt ops (C n) bs es n0 i l r N.h ws.length (S.map fun x=>x.1.h) (cs n) mks (kk n)) Q
  | [],i,ρ,os,N,r,bo,ws,ps,mk,fr,S,cs,mks,e,I,F,hlk,sfx,M,hmo,hl,ch,hi,hf,la,sl,hms,mv,pe,H=>by
    simp only[zly]at e;cases hps:(ps.all fun p=>okW ws p.1 p.2.1 p.2.2) with
    |false=>grind
    |true=>
      rw[hps]at e;have run:∀n,zgJ P nt ops (C n) bs es n0 i [] r N.h ws.length (S.map fun x=>x.1.h) (cs n) mks (kk n)=kk n r N.h:=fun n=>by simp only[zgJ];rw[zsX hl ch hi (fun y hy=>(hms y hy).2) mv hps (pe n),Yzb]
      simp only[run];exact H ρ os N r e I F (.refl N) (fun _ _=>rfl) (fun _ _=>rfl)
  |o::l,i,ρ,os,N,r,bo,ws,ps,mk,fr,S,cs,mks,e,I,F,hlk,sfx,M,hmo,hl,ch,hi,hf,la,sl,hms,mv,pe,H=>by
    have agree:∀(r2:Fr) (v:Zb),(∀i,i∉l.filterMap (·.dst)->r2 i=uL r v o.dst i)->∀i,i∉(o::l).filterMap (·.dst)->r2 i=r i:=fun r2 v hr i hi=>by grind[xL]
    have FR:=zqH F (o.looksAt ops);obtain⟨pre,hpre,hprel⟩:=sfx;have sfx':∃pre,ops.toList=pre++l/\pre.length=Nat.succ i:=⟨pre++[o],by grind,by grind⟩;have hop:ops.toList[i]? = some o:=by grind
    have hilt:i<ops.toList.length:=(Lz0.1 hop).1;obtain⟨A,eA,aA,nA,gA⟩:=la;have hf':∀A∈S,∀j,j<ops.toList.length->Nat.succ i<=j->A.1.h.t.get (nm n0 j)=none:=fun A hA j hj h=>hf A hA j hj (by omega);simp only[zly]at e;simp only[zgJ];cases hm:zb2 o.op
    · rw[hm]at e
      simp only[Yzd]at e ⊢;have D:Zx bs i ops.toList.length mk (yH bs i 0 ops.toList):=zEc M hmo;have IH:=znP M I D;have nxH:=zlW M I D;have FH:∀s,RepPA (qI n0 (yH bs i 0 ops.toList) N) (z4 r (o.looksAt ops) s) (zZ ρ (o.looksAt ops) s):=fun s=>(FR s).mono nxH;have hlenH:(vK bs i mk os).length=os.length:=qi mk os;cases ha:anchor P o.op
      · rw[ha]at e
        simp only[Yzd]at e ⊢;rcases hc:comp P o.op with _|ko
        · grind
        rw[hc]at e;simp only at e;have go:∀(okr:List Nat->Bool) (nb:Option (Nat×Bool)->PA->Nat) (ps':List Nat->List (Nat×Nat×List Nat)) (hk:zb5 ko=true\/∃y,zj6 ko=some y),(∀ref a,nb ref a<=ws.length+1)->(∀rd,∀p∈ps,p∈ps' rd)->
            (∀ref,(∀s,RepPA (qI n0 (yH bs i 0 ops.toList) N) (z4 r (o.looksAt ops) s) (refine (zZ ρ (o.looksAt ops)) ref s))->∀v a,RepPA N v a->(∀xo,trk (refine (zZ ρ (o.looksAt ops)) ref) ko=some xo->∀N':Nm,(∀t,xo=.tmp t->RepPA N' (z4 r (o.looksAt ops) t) (refine (zZ ρ (o.looksAt ops)) ref t))->RepPA N' v a)->∀B:Sn,S[nb ref a]? = some B->RepPA B.1 v a)->
            (∀ref,(∀s,RepPA (qI n0 (yH bs i 0 ops.toList) N) (z4 r (o.looksAt ops) s) (refine (zZ ρ (o.looksAt ops)) ref s))->∀v rd n,okr rd=true->((∀call h2,∃h',yk P nt ops o call (z4 r (o.looksAt ops)) h2=some (v,h'))\/(∃xo,zj6 ko=some xo/\∃b:BN,(∀call h2,h2.t.get b=(qI n0 (yH bs i 0 ops.toList) N).h.t.get b->∃h',yk P nt ops o call (z4 r (o.looksAt ops)) h2=some (v,h'))/\
                ((∃ j, rd = [j] /\ j < (qI n0 (yH bs i 0 ops.toList) N).n /\ blk ((qI n0 (yH bs i 0 ops.toList) N).μ j) = some b /\ held (og (vK bs i mk os) j) /\ ∀ N' : Nm, (∀ t, xo = .tmp t -> RepPA N' (z4 r (o.looksAt ops) t) (refine (zZ ρ (o.looksAt ops)) ref t)) -> j < N'.n) \/
                 (rd=[]/\∀N':Nm,(∀t,xo=.tmp t->RepPA N' (z4 r (o.looksAt ops) t) (refine (zZ ρ (o.looksAt ops)) ref t))->N'.fz b/\∃y,N'.h.t.get b=some y))))->
              PendOk2 S n0 mk mks (ps' rd) (yk P nt ops o (C n) (z4 r (o.looksAt ops)),v,ce (fun j=>bef bs j i) 0 es,ce (fun j=>!bef bs i j) 0 es,yH bs i 0 ops.toList))->
            (zb0 P O (fun _=>true) nt ops o (zZ ρ (o.looksAt ops)) (vK bs i mk os) fun ref a _ _ rd=>bif okr rd then zly P O tab Y lk nt ops bs es (Nat.succ i) l (zb6 (refine ρ ref) a o.dst) os (zjg bo (nb ref a) o.dst) ws (ps' rd) mk fr K else none)=some x->
            Ev (fun n=>CE.bindR (yk P nt ops o (C n) (z4 r (o.looksAt ops)) ⟨N.h.n,zdW n0 (yH bs i 0 ops.toList) N.h.t⟩) fun v h'=>zgJ P nt ops (C n) bs es n0 (Nat.succ i) l (uL r v o.dst) N.h ws.length (S.map fun x=>x.1.h) (cs n++[(yk P nt ops o (C n) (z4 r (o.looksAt ops)),v,ce (fun j=>bef bs j i) 0 es,ce (fun j=>!bef bs i j) 0 es,yH bs i 0 ops.toList)]) mks (kk n)) Q:=by
          intro okr nb ps' hk hnb hps hxb hpe e;obtain⟨ref,a,rd,v,e1,F1,rv,run,tr,pend⟩:=zjP IH FH hc hk e;have e1:(bif okr rd then zly P O tab Y lk nt ops bs es (Nat.succ i) l (zb6 (refine ρ ref) a o.dst) os (zjg bo (nb ref a) o.dst) ws (ps' rd) mk fr K else none)=some x:=e1;cases hok:okr rd with
          |false=>grind
          |true=>
          rw[hok]at e1;simp only[Yzb]at e1;have:(fun n=>CE.bindR (yk P nt ops o (C n) (z4 r (o.looksAt ops)) ⟨N.h.n,zdW n0 (yH bs i 0 ops.toList) N.h.t⟩) fun v h'=>zgJ P nt ops (C n) bs es n0 (Nat.succ i) l (uL r v o.dst) N.h ws.length (S.map fun x=>x.1.h) (cs n++[(yk P nt ops o (C n) (z4 r (o.looksAt ops)),v,ce (fun j=>bef bs j i) 0 es,ce (fun j=>!bef bs i j) 0 es,yH bs i 0 ops.toList)]) mks (kk n)) =
              fun n=>zgJ P nt ops (C n) bs es n0 (Nat.succ i) l (uL r v o.dst) N.h ws.length (S.map fun x=>x.1.h) (cs n++[(yk P nt ops o (C n) (z4 r (o.looksAt ops)),v,ce (fun j=>bef bs j i) 0 es,ce (fun j=>!bef bs i j) 0 es,yH bs i 0 ops.toList)]) mks (kk n):=by
            funext n
            rw[show (⟨N.h.n,zdW n0 (yH bs i 0 ops.toList) N.h.t⟩:Za)=(qI n0 (yH bs i 0 ops.toList) N).h from rfl,run];rfl
          rw[this];have F2:∀s,RepPA N (r s) (refine ρ ref s):=fun s=>zcm F1 (F s);refine zih hO hY l (Nat.succ i) _ os N (uL r v o.dst) _ ws (ps' rd) mk fr S _ mks e1 I (zbE F2 (rv.mono znO) o.dst) hlk sfx' M.up hmo hl ch hi hf' ⟨A,eA,aA,nA,gA⟩ (fun s=>?_) hms ⟨mv.val,fun z hz=>Nat.lt_succ_of_lt (mv.lt z hz),mv.uniq,mv.ex⟩ (fun n q hqm=>?_) fun ρ2 os2 N2 r2 k1 k2 k3 k4 k5 k6=>H ρ2 os2 N2 r2 k1 k2 k3 k4 k5 (agree r2 v k6)
          · have old:bo s<=ws.length+1/\∀B:Sn,S[bo s]? = some B->RepPA B.1 (r s) (refine ρ ref s):=⟨(sl s).1,fun B hh=>zcm F1 ((sl s).2 B hh)⟩
            rcases hd:o.dst with _|d
            · exact old
            show (bif Nat.beq s d then nb ref a else bo s)<=ws.length+1/\∀B:Sn,S[bif Nat.beq s d then nb ref a else bo s]? = some B->RepPA B.1 (bif Nat.beq s d then v else r s) (bif Nat.beq s d then a else refine ρ ref s);cases Nat.beq s d
            · exact old
            exact⟨hnb ref a,hxb ref F1 v a (rv.mono znO) tr⟩
          rcases List.mem_append.1 hqm with h|h
          · have:=(pe n q h).up (X:=[]) (mk':=mk) (mks':=mks) (hps rd) (fun _ h=>h) (fun _ h=>h)
            grind
          rw[Yz6]at h;subst h;exact hpe ref F1 v rd n hok pend
        have none1:∀B:Sn,S[ws.length+1]? = some B->False:=fun B hB=>by grind
        have here:∀v a,RepPA N v a->∀B:Sn,S[bif fr&&vI a then ws.length else Nat.succ ws.length]? = some B->RepPA B.1 v a:=fun v a rv B hB=>by
          cases hfp:fr&&vI a
          · grind
          rw[hfp]at hB;rw[LzC]at hfp;simp only[Yzb]at hB
          grind[zo0]
        have hle1:∀a,(bif fr&&vI a then ws.length else Nat.succ ws.length)<=ws.length+1:=fun a=>by grind
        cases hst:zb5 ko
        · rw[hst]at e
          simp only[Yzd]at e;rcases hmx:zj6 ko with _|y
          · grind
          rw[hmx]at e;simp only at e;cases hb:Nat.beq (ce (fun j=>bef bs j i) 0 es) (ce (fun j=>!bef bs i j) 0 es)
          · rw[hb]at e
            simp only[Yzd]at e;cases hw:(Nat.ble (bOf bo y) (ce (fun j=>bef bs j i) 0 es)&&Nat.ble (ce (fun j=>bef bs j i) 0 es) ws.length&&Nat.ble ws.length (ce (fun j=>!bef bs i j) 0 es))
            · rw[hw]at e
              simp only[Yzd]at e;cases hwl:Nat.ble ws.length (ce (fun j=>!bef bs i j) 0 es)
              · grind
              rw[hwl]at e;simp only[Yzb]at e;refine go (fun rd=>zrQ mk rd&&okW ws 0 ws.length rd) (fun _ a=>bif fr&&vI a then ws.length else Nat.succ ws.length) (fun rd=>ps++[(0,ce (fun j=>!bef bs i j) 0 es,rd)]) (.inr ⟨y,hmx⟩) (fun _ a=>hle1 a) (fun _ p hp=>Yzz _ hp) (fun ref F1 v a rv tr B hh=>here v a rv B hh) (fun ref F1 v rd n hok pend=>?_) e;rcases pend with g|⟨xo,g,b,g2,g1⟩
              · exact .inl fun h=>g (C n) h
              rw[LzC]at hok;rcases g1 with⟨j,q1,q2,q3,q4,q5⟩|⟨q1,q2⟩
              · subst q1
                obtain⟨ok1,ok2⟩:=hok;simp only[zrQ,List.any_eq_true]at ok1;obtain⟨⟨jm,k⟩,hp,hpk⟩:=ok1;have hpk:k=j:=Lz1 hpk;subst hpk;obtain⟨z,hz,hzj⟩:=mv.ex _ hp;have hzj:z.2.1=jm:=hzj;subst hzj;obtain⟨_,_,_,_,p5⟩:=M.mks _ hp;obtain⟨w,hw1⟩:=zfY q4 (IH.obj k) q3;have q3':blk (N.μ k)=some b:=q3;rw[p5]at q3';cases q3';obtain⟨hz1,hz2⟩:=zc8 hw1;have hv:=(mv.val z hz k hp).2 (NW.of ok2);rw[hz2]at hv;refine .inr (.inr (.inr ⟨k,z,Yzr _ (YzA _),hz,hp,fun j hj e=>hz1 (List.mem_map.2 ⟨j,hj,e.symm⟩),fun h2 hh=>g2 (C n) h2 (by grind)⟩))
              subst q1;cases hok.1
            rw[hw]at e;simp only[LzC]at hw;obtain⟨⟨w1,w2⟩,w3⟩:=hw;have w1:=Lz4 w1;have w2:=Lz4 w2;have w3:=Lz4 w3;refine go (fun _=>true) (fun _ a=>bif fr&&vI a then ws.length else Nat.succ ws.length) (fun rd=>ps++[(ce (fun j=>bef bs j i) 0 es,ce (fun j=>!bef bs i j) 0 es,rd)]) (.inr ⟨y,hmx⟩) (fun _ a=>hle1 a) (fun _ p hp=>Yzz _ hp) (fun ref F1 v a rv tr B hh=>here v a rv B hh) (fun ref F1 v rd n hok pend=>?_) e;rcases pend with g|⟨xo,g,b,g2,g1⟩
            · exact .inl fun h=>g (C n) h
            rw[hmx]at g;cases g;obtain⟨Al,elo⟩:∃B:Sn,S[ce (fun j=>bef bs j i) 0 es]? = some B:=⟨_,Lz5 (by omega)⟩;have hrel:∀t,y=.tmp t->RepPA Al.1 (z4 r (o.looksAt ops) t) (refine (zZ ρ (o.looksAt ops)) ref t):=fun t ht=>by subst ht;refine zcP F1 ?_;have hle:bo t<=ce (fun j=>bef bs j i) 0 es:=w1;obtain⟨Ab,eb0⟩:∃B:Sn,S[bo t]? = some B:=⟨_,Lz5 (by omega)⟩;exact((sl t).2 Ab eb0).mono (wD hl ch eb0 (ce (fun j=>bef bs j i) 0 es-bo t) Al (by rw[show bo t+(ce (fun j=>bef bs j i) 0 es-bo t)=ce (fun j=>bef bs j i) 0 es by omega];exact elo))
            have nxlA:Nx Al.1 A.1:=wD hl ch elo (ws.length-ce (fun j=>bef bs j i) 0 es) A (by rw[show ce (fun j=>bef bs j i) 0 es+(ws.length-ce (fun j=>bef bs j i) 0 es)=ws.length by omega];exact eA);have IA:=hi A (Lz3 eA);have nin:b∉(yH bs i 0 ops.toList).map (nm n0)->∀j∈yH bs i 0 ops.toList,b≠nm n0 j:=fun h j hj e=>h (List.mem_map.2 ⟨j,hj,e.symm⟩);rcases g1 with⟨j,q1,q2,q3,q4,q5⟩|⟨q1,q2⟩
            · have hnh:¬Hid bs i mk j:=fun h=>by rw[(y9 j mk os).1 h]at q4;exact q4
              obtain⟨z,hz⟩:=zfY q4 (IH.obj j) q3;obtain⟨hz1,hz2⟩:=zc8 hz;have q4':held (og os j):=by grind[y9]
              have jl:=q5 Al.1 hrel;have jA:j<A.1.n:=Lz9 jl nxlA.le;have hA:held (og A.2 j):=(aA.ho j jA).1 q4';have hbA:blk (A.1.μ j)=some b:=by rw[<-aA.nx.mu j jA];exact q3
              obtain⟨z',hz'⟩:=zfY hA (IA.obj j) hbA;have h3:=aA.bk b z' hz' fun j hj=>by cases hj
              rw[hz2]at h3;exact .inr (.inr (.inl ⟨rd,Yzr _ (YzA _),ws.length,b,A,Al,w2,w3,eA,elo,nin hz1,fun h2 hh=>g2 (C n) h2 (by grind),.inl ⟨j,q1,jl,hbA,hA⟩⟩))
            obtain⟨f1,z,f2⟩:=q2 Al.1 hrel;have f3:=nxlA.fg.old b z f1 f2;have f4:=nxlA.fg.sub b z f1 f2;have f5:=aA.nx.fg.old b z f4 f3;have f6:=aA.nx.fg.sub b z f4 f3;have f7:=nxH.fg.old b z f6 f5;exact .inr (.inr (.inl ⟨rd,Yzr _ (YzA _),ws.length,b,A,Al,w2,w3,eA,elo,nin (zc8 f7).1,fun h2 hh=>g2 (C n) h2 (by grind),.inr ⟨f1,z,f2⟩⟩))
          rw[hb]at e;exact go (fun _=>true) (fun _ a=>bif fr&&vI a then ws.length else Nat.succ ws.length) (fun _=>ps) (.inr ⟨y,hmx⟩) (fun _ a=>hle1 a) (fun _ p hp=>hp) (fun ref F1 v a rv tr B hh=>here v a rv B hh) (fun ref F1 v rd n hok pend=>.inr (.inl hb)) e
        rw[hst]at e;simp only[Yzb]at e;refine go (fun _=>true) (fun ref a=>match trk (refine (zZ ρ (o.looksAt ops)) ref) ko with|some x=>bOf bo x|none=>bif fr&&vI a then ws.length else Nat.succ ws.length) (fun _=>ps) (.inl hst) ?_ (fun _ p hp=>hp) ?_ ?_ e
        · intro ref a
          rcases htk:trk (refine (zZ ρ (o.looksAt ops)) ref) ko with _|y
          · grind
          cases y with
          |tmp t=>exact(sl t).1
          |_=>exact Yzs _
        · intro ref F1 v a rv tr B hh
          rcases htk:trk (refine (zZ ρ (o.looksAt ops)) ref) ko with _|y
          · grind
          simp only[htk]at hh;refine tr y htk _ fun t ht=>?_;subst ht;exact zcP F1 ((sl t).2 B hh)
        intro ref F1 v rd n hok pend;rcases pend with g|⟨xo,g,_⟩
        · exact .inl fun h=>g (C n) h
        exfalso;cases ko<;>first|exact Bool.noConfusion hst|(simp only[zj6]at g;cases g)
      rw[ha]at e;simp only[Yzb]at e ⊢;have got:∃(lk':Nat->Bool) (ref:Option (Nat×Bool)) (a:PA) (os1:List PO) (wr:List Nat),(∀j,lk j=true->lk' j=true)/\
          (bif zaK mk (vg bs i os mk os1) then zly P O tab Y lk nt ops bs es (Nat.succ i) l (zb6 (refine ρ ref) a o.dst) (vg bs i os mk os1) (zjg bo (Nat.succ ws.length) o.dst) (ws++[wr]) ps mk true K else none)=some x/\
          (∀s,RepPA (qI n0 (yH bs i 0 ops.toList) N) (z4 r (o.looksAt ops) s) (refine (zZ ρ (o.looksAt ops)) ref s))/\
          Ev (fun n=>yk P nt ops o (C n) (z4 r (o.looksAt ops)) (qI n0 (yH bs i 0 ops.toList) N).h) (fun p=>∃N1,N1.h=p.2/\Sim E lk' (qI n0 (yH bs i 0 ops.toList) N) (vK bs i mk os) wr N1 os1 p.1 a):=by
        rcases hL:ziJ P tab (zZ ρ (o.looksAt ops)) o with _|ga
        · rw[hL]at e
          simp only at e;obtain⟨ref,a,os1,wr,rd,e1,F1,ev⟩:=zie hO IH FH (fun j hj=>by grind) e;exact⟨lk,ref,a,os1,wr,fun _ h=>h,e1,F1,ev⟩
        obtain⟨g,az⟩:=ga;rw[hL]at e;simp only at e;cases hT:(inT nt o.dst&&zuv (vK bs i mk os))
        · grind
        rw[hT]at e;simp only[Yzb]at e;rw[LzC]at hT;obtain⟨ht,vs,rvs,run⟩:=zeU (ops:=ops) FH hL hT.1;obtain⟨a,os1,e1,ev⟩:=zyh hY ht IH hT.2 rvs e;refine⟨zB4 (vK bs i mk os).length,none,a,os1,_,fun j hj=>Yzg (show Nat.succ j<=(vK bs i mk os).length by grind),e1,FH,?_⟩
        grind
      obtain⟨lk',ref,a,os1,wr,hlk',e1,F1,ev⟩:=got;refine Ev.bindR (ev.mono ?_)
      rintro⟨v,h'⟩ ⟨N1,hh,Sm⟩
      simp only at hh Sm ⊢;subst hh;obtain⟨t,ht,I2,A2,nx1,lk2,fr2⟩:=zyP M I D Sm;simp only[ht];cases hal:zaK mk (vg bs i os mk os1)
      · grind
      rw[hal]at e1;simp only[Yzb]at e1
      let N2:Nm:=⟨N1.μ,N1.n,N1.fz,⟨N1.h.n,t⟩⟩
      have F2:∀s,RepPA N (r s) (refine ρ ref s):=fun s=>zcm F1 (F s);have hmap:(S.map fun x=>x.1.h)++[(⟨N1.h.n,t⟩:Za)]=(S++[((N2,vg bs i os mk os1):Sn)]).map fun x=>x.1.h:=by simp[N2]
      rw[hmap];have hwl:Nat.succ ws.length=(ws++[wr]).length:=by simp
      have step:∀n,zgJ P nt ops (C n) bs es n0 (Nat.succ i) l (uL r v o.dst) ⟨N1.h.n,t⟩ (Nat.succ ws.length) ((S++[((N2,vg bs i os mk os1):Sn)]).map fun x=>x.1.h) (cs n) mks (kk n) =
          zgJ P nt ops (C n) bs es n0 (Nat.succ i) l (uL r v o.dst) N2.h (ws++[wr]).length ((S++[((N2,vg bs i os mk os1):Sn)]).map fun x=>x.1.h) (cs n) mks (kk n):=fun n=>by rw[hwl]
      simp only[step];have AT:=aA.trans nA A2;have hmkl:∀p∈mk,solid (og (vg bs i os mk os1) p.2):=fun p hp=>zkd (by grind[zaK])
      have hlast:(S++[((N2,vg bs i os mk os1):Sn)])[ws.length+1]? = some (N2,vg bs i os mk os1):=by grind
      refine zih hO hY l (Nat.succ i) _ (vg bs i os mk os1) N2 (uL r v o.dst) _ (ws++[wr]) ps mk true (S++[(N2,vg bs i os mk os1)]) cs mks e1 I2 (zbE (fun s=>(F2 s).mono A2.nx) (Sm.val.mono nx1) o.dst) (fun j hj=>?_) sfx'
        ⟨M.e0,Yzl M.top A2.nle,fun p hp=>?_,fun j hj hij=>fr2 j hj (M.free j hj (by omega)),fun j z hj hz=>?_⟩ hmo (by simp[hl]) (fun e w hw B1 B2 b1 b2=>?_) (fun B hB=>?_) (fun B hB j hj hij=>?_)
        ⟨(N2,vg bs i os mk os1),by grind,.refl _ _,fun k b h1 h2 _=>absurd h2 (Nat.not_lt.2 h1),fun _=>.refl _ _⟩ (fun s=>?_) (fun y hy=>?_) ⟨fun z hz k hzk=>?_,fun z hz=>Nat.lt_succ_of_lt (mv.lt z hz),mv.uniq,mv.ex⟩ (fun n q hq=>(pe n q hq).up (fun _ h=>h) (fun _ h=>h) (fun _ h=>h)) fun ρ2 os2 N3 r2 k1 k2 k3 k4 k5 k6=>H ρ2 os2 N3 r2 k1 k2 k3 (A2.nx.trans k4) (fun j hj=>(k5 j hj).trans (lk2 j (hlk' j hj))) (agree r2 v k6)
      · have h1:=Sm.nx.le
        rw[Sm.inv.len,show (qI n0 (yH bs i 0 ops.toList) N).n=N.n from rfl,I.len]at h1
        grind[zbA]
      · obtain⟨q1,q2,q3,q4,q5⟩:=M.mks p hp
        exact⟨by omega,q2,Lz9 q3 A2.nx.le,hmkl p hp,by rw[A2.nx.mu p.2 q3];exact q5⟩
      · rcases hx:N.h.t.get (nm n0 j) with _|z'
        · grind
        exact M.all j z' hj hx
      · by_cases he:e<ws.length
        · rw[Lz2 he]at hw
          rw[Lz2 (by omega)]at b1;rw[Lz2 (by omega)]at b2;exact ch e w hw B1 B2 b1 b2
        have he2:e=ws.length:=by grind
        subst he2;rw[Yz0]at hw;cases hw;rw[Lz2 (by omega),eA]at b1;cases b1;rw[hlast]at b2;cases b2;exact⟨hi A (Lz3 eA),AT.nx,AT.bk,AT.ho⟩
      · grind
      · rcases List.mem_append.1 hB with h|h
        · grind
        rw[Yz6]at h;subst h;exact fr2 j hj (M.free j hj (by omega))
      · have old:bo s<=(ws++[wr]).length+1/\∀B:Sn,(S++[((N2,vg bs i os mk os1):Sn)])[bo s]? = some B->RepPA B.1 (r s) (refine ρ ref s):=by
          refine⟨by grind,fun B hB=>?_⟩;by_cases hbs:bo s<=ws.length
          · rw[Lz2 (by omega)]at hB
            exact zcm F1 ((sl s).2 B hB)
          have hbs2:bo s=ws.length+1:=by grind
          rw[hbs2,hlast]at hB;cases hB;exact(F2 s).mono A2.nx
        rcases hd:o.dst with _|d
        · exact old
        show (bif Nat.beq s d then Nat.succ ws.length else bo s)<=(ws++[wr]).length+1/\∀B:Sn,(S++[((N2,vg bs i os mk os1):Sn)])[bif Nat.beq s d then Nat.succ ws.length else bo s]? = some B->RepPA B.1 (bif Nat.beq s d then v else r s) (bif Nat.beq s d then a else refine ρ ref s);cases Nat.beq s d
        · exact old
        refine⟨by simp,fun B hB=>?_⟩;simp only[Yzb]at hB ⊢;rw[show Nat.succ ws.length=ws.length+1 from rfl,hlast]at hB;cases hB;exact Sm.val.mono nx1
      · grind
      obtain⟨g1,g2⟩:=mv.val z hz k hzk;have old:∀e,e<=ws.length->NW (ws++[wr]) e k->NW ws e k:=fun e he hn i w h1 h2=>hn i w h1 (by grind);have key:NW (ws++[wr]) (ws.length+1) k->N2.h.t.get (nm n0 z.2.1)=some z.2.2:=fun hn=>by have h1:=g2 (old ws.length (LzB _) fun i w h1 h2=>hn i w (by omega) h2);refine A2.bk _ _ h1 fun k' hk' hkn hlv hkb=>?_;obtain⟨_,_,q3,q4,q5⟩:=M.mks _ hzk;have:=I.inj k' k _ hlv q4.live hkb q5;subst this;exact hn ws.length wr (Yyg _) Yz0 hk'
      grind
    rw[hm]at e;simp only[Yzb]at e ⊢;rcases hc:comp P o.op with _|ko
    · grind
    cases hg:o.guard
    case some=>grind
    rw[hc,hg]at e;simp only at e;cases hk:mkK ko
    · grind
    rw[hk]at e;cases hT:inT nt o.dst
    · grind
    rw[hT]at e;simp only[Bool.and_self,Yzb]at e;obtain⟨a,os1,ob,N1,e1,f1,S1,hlen1,hN1,hob,vf,y,hvf,run,fin⟩:=zAN hk I FR e;have e1:(bif zaK mk (os1++[ob]) then zly P O tab Y lk nt ops bs es (Nat.succ i) l (zb6 ρ (zAW ko a) o.dst) (os1++[ob]) (zjg bo (Nat.succ ws.length) o.dst) ws ps (mk++[(i,os.length)]) (fr&&soft ko) K else none)=some x:=e1;cases hal:zaK mk (os1++[ob])
    · grind
    rw[hal]at e1;simp only[Yzb]at e1
    let b:BN:=nm n0 i
    have hbt:b.toNat=n0+i:=yM _ _;have hbn:N1.h.t.get b=none:=by rw[f1.h];exact M.free i hilt (LzB _)
    have hE:E.h0.n.toNat<=b.toNat:=by have:=M.e0;omega
    have hnf:¬N1.fz b:=fun h=>by rcases S1.inv.fzex b h with h|⟨z,hz⟩<;>grind
    obtain⟨I2,A2⟩:=S1.inv.newAt (b:=b) (by rw[f1.h];have:=M.top;omega) hbn hE hnf y ob (vf b) (hvf b) (fun N' nx hmu hf hgt hlt=>(fin b N' nx hmu hf hgt hlt).1) fun m h=>by rw[h]at hob;exact hob
    let N2:Nm:=⟨upd N1.μ os1.length (vf b),os1.length+1,N1.fz,⟨N1.h.n,N1.h.t.set b y⟩⟩
    have mu2:∀k,k≠os1.length->N2.μ k=N1.μ k:=fun k hk=>by show (if k=os1.length then vf b else N1.μ k)=_;rw[Yza hk]
    have muL:N2.μ os1.length=vf b:=by show (if os1.length=os1.length then vf b else _)=_;simp
    have hval:=(fin b N2 A2.nx muL hnf (zC _ _ _) (Yyg _)).2;have hN:N.n=os1.length:=by rw[hlen1];exact I.len
    have A1:Aft N os [] N1 os1:=S1.aft I.hw;have A12:Aft N os [] N2 (os1++[ob]):=A1.trans (fun k b' h1 h2 _=>by rw[f1.n]at h2;omega) A2;have step:∀n,CE.bindR (yk P nt ops o (C n) (z4 r (o.looksAt ops)) ⟨bn (Nat.add n0 i),N.h.t⟩) (fun v h'=>zgJ P nt ops (C n) bs es n0 (Nat.succ i) l (uL r v o.dst) ⟨N.h.n,h'.t⟩ ws.length (S.map fun x=>x.1.h) (cs n) (mks++mk1 n0 ws.length i h'.t) (kk n)) =
        zgJ P nt ops (C n) bs es n0 (Nat.succ i) l (uL r (.s (.one (vf b))) o.dst) N2.h ws.length (S.map fun x=>x.1.h) (cs n) (mks++[(ws.length,i,y)]) (kk n):=fun n=>by
      have hr:yk P nt ops o (C n) (z4 r (o.looksAt ops)) ⟨bn (Nat.add n0 i),N.h.t⟩=some (.s (.one (vf b)),(⟨b,N.h.t⟩:Za).new y):=by unfold yk;rw[hT,hg];exact(zep P _ _ _ hc).trans (run _ b N.h.t)
      rw[hr];simp only[CE.bindR];have h1:((⟨b,N.h.t⟩:Za).new y).t=N.h.t.set b y:=rfl;have h2:mk1 n0 ws.length i (N.h.t.set b y)=[(ws.length,i,y)]:=by unfold mk1;rw[show bn (Nat.add n0 i)=b from rfl,zC]
      rw[h1,h2];show zgJ P nt ops (C n) bs es n0 (Nat.succ i) l _ ⟨N.h.n,N.h.t.set b y⟩ _ _ _ _ _=zgJ P nt ops (C n) bs es n0 (Nat.succ i) l _ ⟨N1.h.n,N1.h.t.set b y⟩ _ _ _ _ _;rw[f1.h]
    simp only[step];have hmkl:∀p∈mk,solid (og (os1++[ob]) p.2):=fun p hp=>zkd (by grind[zaK])
    refine zih hO hY l (Nat.succ i) _ (os1++[ob]) N2 _ _ ws ps (mk++[(i,os.length)]) _ S cs (mks++[(ws.length,i,y)]) e1 I2 (zbE (fun s=>(F s).mono A12.nx) hval o.dst) (fun j hj=>?_) sfx' ⟨M.e0,?_,fun p hp=>?_,fun j hj hij=>?_,fun j z hj hz=>?_⟩ (fun p hp=>?_)
      hl ch hi hf' ⟨A,eA,aA.trans nA A12,fun k b' h1 h2 h3=>?_,fun hfr=>?_⟩ (fun s=>?_) (fun z hz=>?_) ⟨fun z hz k hzk=>?_,fun z hz=>?_,fun z hz z' hz' he=>?_,fun p hp=>?_⟩ (fun n q hq=>by have:=(pe n q hq).up (X:=[]) (ps':=ps) (mk':=mk++[(i,os.length)]) (mks':=mks++[(ws.length,i,y)]) (fun _ h=>h) (fun _ h=>Yzz _ h) (fun _ h=>Yzz _ h);grind) fun ρ2 os2 N3 r2 k1 k2 k3 k4 k5 k6=>H ρ2 os2 N3 r2 k1 k2 k3 (A12.nx.trans k4) (fun j hj=>(k5 j hj).trans ?_) (agree r2 _ k6)
    · grind
    · show _<=N1.h.n.toNat;rw[f1.h];exact M.top
    · rcases List.mem_append.1 hp with hp1|hp1
      · obtain⟨q1,q2,q3,q4,q5⟩:=M.mks p hp1
        refine⟨by omega,q2,by grind,hmkl p hp1,?_⟩;rw[mu2 p.2 (by omega),f1.μ];exact q5
      rw[Yz6]at hp1;subst hp1;refine⟨Yyg i,hilt,by grind,?_,?_⟩
      · show solid (og (os1++[ob]) os.length)
        rw[y7,Yzc hlen1.symm];exact hob
      grind
    · show (N1.h.t.set b y).get (nm n0 j)=none
      rw[zt _ _ _ _ (fun e=>by grind[uR]),f1.h];exact M.free j hj (by omega)
    · by_cases hji:j=i
      · grind
      have hz:(N1.h.t.set b y).get (nm n0 j)=some z:=hz;rw[zt _ _ _ _ (fun e=>hji (uR e)),f1.h]at hz;obtain⟨k,hk⟩:=M.all j z hj hz
      grind
    · grind
    · by_cases hko:k=os1.length
      · grind
      have h2:k<os1.length+1:=h2;rw[mu2 k hko,f1.μ]at h3
      grind
    · rw[LzC]at hfr
      have hNN:=hN1 hfr.2;have g:=gA hfr.1;have up:∀b' z,N2.fz b'->N2.h.t.get b'=some z->N.fz b'/\N.h.t.get b'=some z:=fun b' z h1 h2=>by grind[zt]
      exact⟨fun b' z h1 h2=>g.sub b' z (up b' z h1 h2).1 (up b' z h1 h2).2,fun b' z h1 h2=>g.old b' z (up b' z h1 h2).1 (up b' z h1 h2).2⟩
    · rcases hd:o.dst with _|d
      · exact sl s
      show (bif Nat.beq s d then Nat.succ ws.length else bo s)<=ws.length+1/\∀A:Sn,S[bif Nat.beq s d then Nat.succ ws.length else bo s]? = some A->RepPA A.1 (bif Nat.beq s d then Zb.s (.one (vf b)) else r s) (bif Nat.beq s d then zAW ko a else ρ s)
      grind
    · grind
    · rcases List.mem_append.1 hz with hz1|hz1
      · have hzi:=mv.lt z hz1
        have hzk2:(z.2.1,k)∈mk:=by grind
        obtain⟨g1,g2⟩:=mv.val z hz1 k hzk2;refine⟨g1,fun hnw=>?_⟩;show (N1.h.t.set b y).get (nm n0 z.2.1)=_;rw[zt _ _ _ _ (fun e=>by grind[uR]),f1.h]
        grind
      grind[zC]
    · rcases List.mem_append.1 hz with hz1|hz1
      · exact Nat.lt_succ_of_lt (mv.lt z hz1)
      grind
    · rcases List.mem_append.1 hz with hz1|hz1<;>rcases List.mem_append.1 hz' with hz2|hz2
      · exact mv.uniq z hz1 z' hz2 he
      · rw[Yz6]at hz2;subst hz2
        have:=mv.lt z hz1
        grind
      · rw[Yz6]at hz1;subst hz1
        have:=mv.lt z' hz2
        grind
      grind
    · rcases List.mem_append.1 hp with hp1|hp1
      · obtain⟨z,h1,h2⟩:=mv.ex p hp1
        grind
      rw[Yz6]at hp1;subst hp1;simp
    have:=hlk j hj;rw[y7,Yza (by omega)];exact S1.lock j hj
end
end Go.PE
end
section
namespace Go.PE
open Go Go.CE
def zAt(c:Nat):Nat:=Nat.mod c 1000
def zGv(c:Nat):Nat:=Nat.mod (Nat.div c 1000) 1000
def zAs(c:Nat):Nat:=Nat.mod (Nat.div c 1000000) 1000
def zBf(c:Nat):Bool:=Nat.ble 1000000000 c
def zCx:List Nat->List Nat
 | []=>[]
 |c::l=>bif zBf c then zCx l else c::zCx l
def zzh:List Nat->List Nat
 | []=>[]
 |c::l=>bif zBf c then c::zzh l else zzh l
def zxp{β:Type}(lk:Nat->Bool)(ρ:Nat->PA)(os:List PO)(c:Nat)(K:List PO->Option β):Option β:=
 bif lk (zAt c) then none else
 match og os (zAt c) with
 | .arr st v=>
  bif Nat.beq st 1 then
   match ρ (zGv c) with
   | .s (.one (.d d))=>za (zO v d) fun n=>za (xY v n) fun x=>gdN (atD x 0) (K ((oset (.hol v n (Nat.succ os.length)) os (zAt c)++[.arr (zAs c) none])++[.lnk os.length]))
   |_=>none
  else none
 |_=>none
def zxo{β:Type}(lk:Nat->Bool)(ρ:Nat->PA):List Nat->List PO->(List PO->Option β)->Option β
 | [],os,K=>K os
 |c::l,os,K=>zxp lk ρ os c fun os'=>zxo lk ρ l os' K
def zF9(v:OC)(n:Nat)(d:DV):Option OC:=
 match v with
 |some xs=>some (some (xs.set n [d]))
 |none=>none
def zsV{β:Type}(lk:Nat->Bool)(os:List PO)(k t:Nat)(K:List PO->Option β):Option β:=
 match og os k with
 | .hol v n t'=>
  match og os t with
  | .lnk m=>
   bif Nat.beq t t' && !lk k && !lk t then
    match frC lk xd os (.own m) with
    |some (os1,d)=>za (zF9 v n d) fun w=>K (oset .dead (oset (.arr 1 w) os1 k) t)
    |none=>none
   else none
  |_=>none
 |_=>none
def zkx{β:Type}(lk:Nat->Bool):List (Nat×Nat)->List PO->(List PO->Option β)->Option β
 | [],os,K=>K os
 |p::l,os,K=>zsV lk os p.1 p.2 fun os'=>zkx lk l os' K
def pairs:List Nat->Nat->List (Nat×Nat)
 | [],_=>[]
 |c::l,n=>(zAt c,Nat.succ n)::pairs l (Nat.add n 2)
section
variable {β:Type} {E:En} {lk:Nat->Bool}
structure Vw (E:En) (lk:Nat->Bool) (N:Nm) (os:List PO) (N':Nm) (os':List PO):Prop where
 h:N'.h=N.h
 inv:Zd E N' os'
 nx:Nx N N'
 lock:∀j,lk j=true->og os' j=og os j
 le:os.length<=os'.length
theorem Vw.refl{N:Nm}{os:List PO}(I:Zd E N os):Vw E lk N os N os:=⟨rfl,I,.refl N,fun _ _=>rfl,LzB _⟩
theorem Vw.trans{A B C:Nm}{a b c:List PO}(x:Vw E lk A a B b)(y:Vw E lk B b C c):Vw E lk A a C c:=⟨y.h.trans x.h,y.inv,x.nx.trans y.nx,fun j hj=>(y.lock j hj).trans (x.lock j hj),Yzl x.le y.le⟩
theorem zuj{N:Nm}{os:List PO}{r:Fr}{ρ:Nat->PA}{c:Nat}{K:List PO->Option β}{x:β}(I:Zd E N os)(_F:∀i,RepPA N (r i) (ρ i))(hlk:∀j,lk j=true->j<os.length)(e:zxp lk ρ os c K=some x):
  ∃os' N',K os'=some x/\Vw E lk N os N' os':=by
 unfold zxp at e;generalize zAt c=k at e;cases hlkk:lk k
 case true=>grind
 rw[hlkk]at e;simp only[Yzd]at e;cases ho:og os k with
 |arr st v=>
  rw[ho]at e;simp only at e;cases hs:Nat.beq st 1
  .grind
  rw[hs]at e;have:=Lz1 hs;subst this;simp only[Yzb]at e;split at e
  .rename_i d hd;obtain⟨n,hn,e⟩:=zj e;obtain⟨y,hy,e⟩:=zj e;rcases v with _|xs
   .cases hy
   obtain⟨b,vs,ex,h1,h2,h3,h4,h5⟩:=zcE I ho;have hy:xs[n]? = some y:=hy;have hnl:=(Lz0.1 hy).1;obtain⟨g1,g2⟩:=h5 n y hy
   match y,g1,e,g2 with
   | [z],_,e,g2=>
    have e:gdN z (K ((oset (.hol (some xs) n (Nat.succ os.length)) os k++[.arr (zAs c) none])++[.lnk os.length]))=some x:=e;cases z<;>simp only[gdN]at e<;>first|(cases e;done)|skip
    have hvn:vs[n]? = some .nils:=by
     have hl:=g2.1;simp only[Yzh,Yzv]at hl;rcases hv:vs[n]? with _|c0
     .grind
     have h0:((vs.drop (n*1)).take 1)[0]? = some c0:=by grind
     have:=g2.2 0 c0 .nils h0 rfl;rw[Rep.scal this rfl]
    have hkl:k<os.length:=vQ (by grind)
    let μ':Nat->Zc:=fun j=>if j=os.length then .nils else if j=os.length+1 then .ptr b n else N.μ j
    let N':Nm:=⟨μ',os.length+2,N.fz,N.h⟩
    have mu:∀j,j<os.length->μ' j=N.μ j:=fun j hj=>by grind
    have mu0:μ' os.length=.nils:=by grind
    have mu1:μ' (os.length+1)=.ptr b n:=by grind
    have hNn:=I.len;have nx:Nx N N':=⟨.refl _ _,by grind,fun j hj=>mu j (by omega)⟩
    let os':=(oset (.hol (some xs) n (os.length+1)) os k++[.arr (zAs c) none])++[.lnk os.length]
    have l1:(oset (.hol (some xs) n (os.length+1)) os k).length=os.length:=yd _ _ _;have l2:(oset (.hol (some xs) n (os.length+1)) os k++[PO.arr (zAs c) none]).length=os.length+1:=by simp[l1]
    have gk:og os' k=.hol (some xs) n (os.length+1):=by show og (_++_) k=_;rw[y7,l2,Yza (by omega),y7,l1,Yza (by omega),zF,Yzc ⟨rfl,hkl⟩]
    have g0:og os' os.length=.arr (zAs c) none:=by show og (_++_) _=_;rw[y7,l2,Yza (by omega),y7,l1,Yzc rfl]
    have gt:og os' (os.length+1)=.lnk os.length:=by show og (_++_) _=_;rw[y7,l2,Yzc rfl]
    have gj:∀j,j<os.length->j≠k->og os' j=og os j:=fun j hj hne=>by show og (_++_) j=_;rw[y7,l2,Yza (by omega),y7,l1,Yza (by omega),zF,Yza (fun h=>hne h.1)]
    have gg:∀j,os.length+2<=j->og os' j=.dead:=fun j hj=>zAv (by grind);have lv:∀j,live (og os' j)->j<os.length/\live (og os j):=fun j hl=>by
     by_cases hj:j<os.length
     .refine⟨hj,?_⟩;by_cases hjk:j=k
      .rw[hjk,ho];trivial
      grind
     by_cases h0:j=os.length
     .rw[h0,g0]at hl;trivial
     by_cases h1:j=os.length+1
     .rw[h1,gt]at hl;trivial
     rw[gg j (by omega)]at hl;trivial
    refine⟨os',N',e,rfl,⟨I.hw,I.gr,I.fzlt,I.fzok,I.fzex,by grind,fun j b' hl hb=>?_,fun j j' b' hl hl' hb hb'=>?_,fun j=>?_,fun t m ht=>?_⟩,nx,fun j hj=>gj j (hlk j hj) (fun h=>by grind),by grind⟩
    .obtain⟨q1,q2⟩:=lv j hl;exact I.own j b' q2 (by grind)
    .obtain⟨q1,q2⟩:=lv j hl;obtain⟨q1',q2'⟩:=lv j' hl';exact I.inj j j' b' q2 q2' (by grind) (by grind)
    .by_cases hj:j<os.length
     .by_cases hjk:j=k
      .subst hjk;rw[gk];exact⟨b,vs,ex,(mu j hj).trans h1,h2,h3,h4,hnl,by grind,mu1,fun i z _ hz=>h5 i z hz⟩
      rw[gj j hj hjk];refine (I.obj j).mono nx (mu j hj) fun htd b' hb=>?_;obtain⟨b2,x2,q1,q2,q3⟩:=wb htd (I.obj j)
      grind
     by_cases h0:j=os.length
     .rw[h0,g0];exact mu0
     by_cases h1':j=os.length+1
     .rw[h1',gt];exact⟨by grind,b,n,vs,mu1,h2,h3,hvn.trans (congrArg some mu0.symm)⟩
     rw[gg j (by omega)];trivial
    by_cases hj:t<os.length
    .by_cases hjk:t=k
     .grind
     rw[gj t hj hjk]at ht;obtain⟨k2,v2,n2,q⟩:=I.lnk t m ht
     grind[vQ]
    grind
  cases e
 |_=>grind
theorem znl:∀{l:List Nat} {N:Nm} {os:List PO} {r:Fr} {ρ:Nat->PA} {K:List PO->Option β} {x:β},Zd E N os->(∀i,RepPA N (r i) (ρ i))->(∀j,lk j=true->j<os.length)->zxo lk ρ l os K=some x->∃os' N',K os'=some x/\Vw E lk N os N' os'
 | [],N,os,r,ρ,K,x,I,F,hlk,e=>⟨os,N,e,.refl I⟩
 |c::l,N,os,r,ρ,K,x,I,F,hlk,e=>by obtain⟨os1,N1,e1,V1⟩:=zuj I F hlk e;obtain⟨os2,N2,e2,V2⟩:=znl V1.inv (fun i=>(F i).mono V1.nx) (fun j hj=>Lz9 (hlk j hj) V1.le) e1;exact⟨os2,N2,e2,V1.trans V2⟩
theorem zsU{N:Nm}{os:List PO}{k t:Nat}{K:List PO->Option β}{x:β}(I:Zd E N os)(e:zsV lk os k t K=some x):∃os' N',K os'=some x/\Vw E lk N os N' os':=by
 unfold zsV at e;cases hk:og os k with
 |hol v n t'=>
  rw[hk]at e;simp only at e;cases ht:og os t with
  |lnk m=>
   rw[ht]at e;simp only at e;cases hc:(Nat.beq t t' && !lk k && !lk t)
   .grind
   rw[hc]at e;simp only[Yzb]at e;simp only[LzC,Yzy]at hc;obtain⟨⟨c1,c2⟩,c3⟩:=hc;have:=Lz1 c1;subst this;rcases hf:frC lk xd os (.own m) with _|q
   .grind
   obtain⟨os1,d⟩:=q;rw[hf]at e;simp only at e;have hT:=I.obj t;rw[ht]at hT;obtain⟨hm,_⟩:=hT;obtain⟨N1,f1,S1,r1⟩:=zf5 (c:=N.μ m) (p:=.own m) I ⟨hm,rfl⟩ hf;have hos:∀j,j≠m->og os1 j=og os j:=by
    intro j hj;rw[show xd=99+1 from rfl]at hf
    grind[frC,zF]
   have hmk:k≠m:=fun h=>by
    rw[show xd=99+1 from rfl]at hf
    grind[frC]
   have hmt:t≠m:=fun h=>by
    rw[show xd=99+1 from rfl]at hf
    grind[frC]
   have hk1:og os1 k=.hol v n t:=(hos k hmk).trans hk;have ht1:og os1 t=.lnk m:=(hos t hmt).trans ht;have hkt:k≠t:=fun h=>by grind
   have I1:=S1.inv;have hO:=I1.obj k;rw[hk1]at hO;have hT:=I1.obj t;rw[ht1]at hT;obtain⟨w,hw,e⟩:=zj e;rcases v with _|xs
   .cases hw
   cases hw;obtain⟨b,vs,ex,h1,h2,h3,h4,h5,h6,h7,h8⟩:=hO;obtain⟨_,b2,n2,vs2,g1,g2,g3,g4⟩:=hT;rw[h7]at g1;cases g1;rw[h3]at g3;cases g3;have hkl:k<os1.length:=vQ (by grind);have htl:t<(oset (.arr 1 (some (xs.set n [d]))) os1 k).length:=by simp_all[yd,vQ]
   let os':=oset .dead (oset (.arr 1 (some (xs.set n [d]))) os1 k) t
   have gk:og os' k=.arr 1 (some (xs.set n [d])):=by show og (oset _ _ _) _=_;rw[zF,Yza (fun h=>hkt h.1),zF,Yzc ⟨rfl,hkl⟩]
   have gt:og os' t=.dead:=by show og (oset _ _ _) _=_;rw[zF,Yzc ⟨rfl,htl⟩]
   have gj:∀j,j≠k->j≠t->og os' j=og os1 j:=fun j h1 h2=>by grind[zF]
   have lv:∀j,live (og os' j)->live (og os1 j):=fun j hl=>by
    by_cases hjk:j=k
    .rw[hjk,hk1];trivial
    by_cases hjt:j=t
    .rw[hjt,gt]at hl;trivial
    grind
   have hl1:os1.length=os.length:=by rw[<-I1.len,f1.n,I.len]
   refine⟨os',N1,e,f1.h,⟨I1.hw,I1.gr,I1.fzlt,I1.fzok,I1.fzex,I1.len.trans (by grind[yd]),fun j b' hl hb=>I1.own j b' (lv j hl) hb,fun j j' b' hl hl' hb hb'=>I1.inj j j' b' (lv j hl) (lv j' hl') hb hb',fun j=>?_,fun t2 m2 h2'=>?_⟩,S1.nx,fun j hj=>?_,by grind[yd]⟩
   .by_cases hjk:j=k
    .subst hjk;rw[gk];refine⟨b,vs,ex,by grind,h2,h3,by grind,fun i z hz=>?_⟩;rw[List.getElem?_set]at hz;by_cases hin:n=i
     .subst hin;rw[Yzc rfl,Yzc h5]at hz;cases hz;refine⟨rfl,?_⟩;have hd:(vs.drop (n*1)).take 1=[N1.μ m]:=by
       simp_all[List.drop_eq_getElem_cons]
      rw[hd];exact .cons (by rw[f1.μ];exact r1) (.nil _ _)
     grind
    by_cases hjt:j=t
    .rw[hjt,gt];trivial
    rw[gj j hjk hjt];exact I1.obj j
   .by_cases hjk:t2=k
    .grind
    by_cases hjt:t2=t
    .grind
    rw[gj t2 hjk hjt]at h2';obtain⟨k3,v3,n3,q⟩:=I1.lnk t2 m2 h2'
    grind
   rw[gj j (fun h=>by grind) (fun h=>by grind)];exact S1.lock j hj
  |_=>grind
 |_=>grind
theorem zkw:∀{l:List (Nat×Nat)} {N:Nm} {os:List PO} {K:List PO->Option β} {x:β},Zd E N os->zkx lk l os K=some x->∃os' N',K os'=some x/\Vw E lk N os N' os'
 | [],N,os,K,x,I,e=>⟨os,N,e,.refl I⟩
 |p::l,N,os,K,x,I,e=>by obtain⟨os1,N1,e1,V1⟩:=zsU I e;obtain⟨os2,N2,e2,V2⟩:=zkw V1.inv e1;exact⟨os2,N2,e2,V1.trans V2⟩
theorem zp3{okm:Nat->Bool}{la:LA}{x:Zf}{N:Nm}{os os1:List PO}{r:Fr}{ρ:Nat->PA}{L:List DV}{M:List OC}{ms:List (Option Nat)}(I:Zd E N os)(F:∀i,RepPA N (r i) (ρ i))(e:vec lk okm la x ρ os=some (os1,L,M,ms)):
  (∀t,t∈zhl (zoR la x)->∃m,og os1 t=.lnk m)/\(∀m,some m∈ms->∃st v,og os1 m=mkO st v)/\(∀k n,(k,n)∈la.boxes->∃cs,og os1 k=.box cs)/\(∀k st,(k,st)∈la.arrs->∃v,og os1 k=mkO st v):=by
 unfold vec at e;rcases h1:zpS lk ρ (zcG la x) os with _|q
 .grind
 obtain⟨o1,ds⟩:=q;rw[h1]at e;simp only at e;obtain⟨N1,f1,S1,_⟩:=zhK I F h1;split at e
 .rename_i vs ms0 ws h2 h3;cases h4:((zby o1 la.boxes&&zhV okm ms0)&&zey (zcG la x) o1 0)
  .grind
  rw[h4]at e;cases e;rw[LzC]at h4
  replace h4:=h4.1
  rw[LzC]at h4;obtain⟨lO,lm,rO⟩:=zk7 S1.inv (fun i=>(F i).mono S1.nx) h2;obtain⟨lA,rA⟩:=zk8 h3;refine⟨fun t ht=>?_,fun m hm=>?_,fun k n hk=>?_,fun k st hk=>?_⟩
  .grind[zc5,Yyj]
  .obtain⟨i,hi⟩:=Yyj hm;have hil:=(Lz0.1 hi).1;obtain⟨⟨p,st⟩,hp⟩:∃p,(zoR la x)[i]? = some p:=⟨_,Lz5 (by omega)⟩
   grind
  .grind[zd5]
  grind[Yyj]
 cases e
theorem zrJ{st:Nat}{v w:OC}{n t:Nat}(h:mkO st v=.hol w n t):False:=by grind[zj0,zbe]
theorem zsg{c:Nat}{s:DV}(h:zBe c s=true):s=.int .i64 (.ofNat c):=by
 cases s with
 |int k n=>
  cases k<;>first|(cases h;done)|skip
  cases n with
  |ofNat n=>rw[Lz1 h]
  |negSucc n=>cases h
 |_=>cases h
theorem zp4{r:Fr}{ρ:Nat->PA}:∀{D:List Pl} {N:Nm} {os os1:List PO} {ds:List DV},Zd E N os->(∀i,RepPA N (r i) (ρ i))->zpS lk ρ D os=some (os1,ds)->
  ∀k c,.st k c∈D->lk k=true->∃nt ρ ps a b l,og os k=.lop nt ρ ps a b l (.int .i64 (.ofNat c))
 | [],N,os,os1,ds,I,F,e=>fun k c h=>by cases h
 |p::D,N,os,os1,ds,I,F,e=>fun k c hm hk=>by
  simp only[zpS]at e;rcases h1:zpC ρ os p with _|g
  .grind
  rw[h1]at e;simp only at e;rcases h2:frC lk xd os g with _|q
  .grind
  obtain⟨o1,d⟩:=q;rw[h2]at e;simp only at e;rcases h3:zpS lk ρ D o1 with _|q
  .grind
  obtain⟨v,k1,k2⟩:=zlY I F h1;obtain⟨N1,f1,s1,r1⟩:=zf5 I k2 h2;rcases Yya.1 hm with rfl|hm
  .grind[zpC,zsg]
  have:=zp4 s1.inv (fun i=>(F i).mono s1.nx) h3 k c hm hk;rw[s1.lock k hk]at this;exact this
theorem zkr{D:List Pl}:∀{os:List PO} {k0:Nat},zey D os k0=true->∀{j nt ρ ps a b l s},og os j=.lop nt ρ ps a b l s->zio s=true\/∃c,.st (k0+j) c∈D/\s=.int .i64 (.ofNat c)
 | [],k0,e,j,nt,ρ,ps,a,b,l,s,h=>by trivial
 |o::os,k0,e,j,nt,ρ,ps,a,b,l,s,h=>by
  simp only[zey,LzC]at e;cases j with
  |zero=>
   have ho:o=.lop nt ρ ps a b l s:=by trivial
   subst ho;rcases Bool.or_eq_true_iff.1 e.1 with h1|h1
   .grind
   obtain⟨p,hp,h2⟩:=List.any_eq_true.1 h1;cases p with
   |st k' c=>
    rw[LzC]at h2
    grind[Lz1,zsg]
   |_=>cases h2
  |succ j=>
   have ho:og os j=.lop nt ρ ps a b l s:=by trivial
   have:=zkr e.2 ho
   grind
theorem ztH{okm:Nat->Bool}{la:LA}{x:Zf}{N:Nm}{os os1:List PO}{r:Fr}{ρ:Nat->PA}{L:List DV}{M:List OC}{ms:List (Option Nat)}(I:Zd E N os)(F:∀i,RepPA N (r i) (ρ i))(e:vec lk okm la x ρ os=some (os1,L,M,ms)):
  (∀{j nt ρ ps a b l s},og os1 j=.lop nt ρ ps a b l s->zio s=true\/∃c,.st j c∈zcG la x/\s=.int .i64 (.ofNat c))/\
   ∀k c,.st k c∈zcG la x->lk k=true->∃nt ρ ps a b l,og os k=.lop nt ρ ps a b l (.int .i64 (.ofNat c)):=by
 unfold vec at e;rcases h1:zpS lk ρ (zcG la x) os with _|q
 .grind
 obtain⟨o1,ds⟩:=q;rw[h1]at e;simp only at e;split at e
 .rename_i vs ms0 ws h2 h3;cases h4:((zby o1 la.boxes&&zhV okm ms0)&&zey (zcG la x) o1 0)
  .grind
  rw[h4]at e;cases e;rw[LzC]at h4;refine⟨fun h=>?_,zp4 I F h1⟩;have:=zkr h4.2 h
  grind
 cases e
theorem qO:∀(D:List Pl) (os:List PO),(wu D os).length=os.length
 | [],_=>rfl
 | .st k c::D,os=>by
  simp only[wu];rw[qO D]
  grind[yd]
 | .slot _::D,os=>qO D os
 | .cell _ _::D,os=>qO D os
 | .lnk _::D,os=>qO D os
theorem wY:∀(D:List Pl) (os:List PO) (k:Nat),((∀c,.st k c∉D)->og (wu D os) k=og os k)/\
  ((∀nt ρ ps a b l s,og os k≠.lop nt ρ ps a b l s)->og (wu D os) k=og os k)/\
  ∀{nt ρ ps a b l s},og os k=.lop nt ρ ps a b l s->(og (wu D os) k=og os k/\∀c,.st k c∉D)\/∃c,.st k c∈D/\og (wu D os) k=.lop nt ρ ps a b l (.int .i64 (.ofNat c))
 | [],os,k=>⟨fun _=>rfl,fun _=>rfl,fun _=>.inl ⟨rfl,fun _ h=>by cases h⟩⟩
 | .st k' c'::D,os,k=>by
  simp only[wu];cases ho:og os k' with
  |lop nt0 ρ0 ps0 a0 b0 l0 s0=>
   simp only;obtain⟨i1,i2,i3⟩:=wY D (oset (.lop nt0 ρ0 ps0 a0 b0 l0 (.int .i64 (.ofNat c'))) os k') k;have hlt:k'<os.length:=vQ (by grind);have hg:og (oset (.lop nt0 ρ0 ps0 a0 b0 l0 (.int .i64 (.ofNat c'))) os k') k=if k=k' then .lop nt0 ρ0 ps0 a0 b0 l0 (.int .i64 (.ofNat c')) else og os k:=by grind[zF]
   grind
  |_=>
   simp only;obtain⟨i1,i2,i3⟩:=wY D os k
   grind
 | .slot _::D,os,k=>by
  obtain⟨i1,i2,i3⟩:=wY D os k
  grind[wu]
 | .cell _ _::D,os,k=>by
  obtain⟨i1,i2,i3⟩:=wY D os k
  grind[wu]
 | .lnk _::D,os,k=>by
  obtain⟨i1,i2,i3⟩:=wY D os k
  grind[wu]
end
end Go.PE
end
section
namespace Go.PE
open Go Go.CE
def zt7(tab:Nat->Bool)(ρ:Nat->PA)(g:Operand):Option (Nat×List PA):=
 match pv ρ g with
 |some (.s (.one (.clo gf caps)))=>bif tab gf then some (gf,zs1 caps) else none
 |some (.s (.one (.d (.fn gf caps))))=>bif tab gf then some (gf,caps.map fun x=>pd (.fp x 0)) else none
 |_=>none
def zBF(nt:Nat)(ρ:Nat->PA):Nat->PA:=fun i=>bif Nat.ble (Nat.succ i) nt then ρ i else .bad
def zE4{β:Type}(K:Zf->List PO->Option β)(k:Nat)(os:List PO):Option β:=
 match og os k with
 | .lop _ _ _ _ _ _ (.int .i64 (.ofNat 0))=>K .ret (oset .dead os k)
 | .lop _ _ _ _ _ _ (.int .i64 (.ofNat (e+1)))=>K (.exit e) (oset .dead os k)
 | .lop _ _ _ _ _ _ (.int .i64 (.negSucc 0))=>K .normal (oset .dead os k)
 |_=>none
def zFc(l:List Pl):Bool:=l.all fun p=>match p with | .st _ _=>false|_=>true
section
variable (P:Program) (O:Orc) (tab:Nat->Bool) (Y:Inl)
noncomputable def vP(nt:Nat)(an:Nat->Option LA)(fn:Nat)(top:Bool):Code->(Nat->Bool)->Nat->{β:Type}->(Nat->PA)->List PO->(Zf->(Nat->PA)->List PO->Option β)->Option β
 | .skip,_,_,_,ρ,os,K=>K .normal ρ os
 | .region _ ops draw,lk,_,_,ρ,os,K=>bif draw then(bif P.follows .mixedOrders&&zdl P ops (xz ops.toList) then pDr P O tab Y lk nt ops (xz ops.toList) (zdk P ops.toList) 0 ops.toList ρ os (fun _=>0) [] [] (fun ρ os=>K .normal ρ os) else bif P.follows .mixedOrders&&zaF P ops (xz ops.toList) then zly P O tab Y lk nt ops (xz ops.toList) (zbC P ops.toList) 0 ops.toList ρ os (fun _=>0) [] [] [] true (fun ρ os=>K .normal ρ os) else none) else zo4 P O tab Y lk nt ops ops.toList ρ os (fun ρ os=>K .normal ρ os)
 | .seq a b,lk,i,_,ρ,os,K=>vP nt an fn top a lk i ρ os (zCQ (fun ρ os=>vP nt an fn top b lk (i+zbd a) ρ os K) K)
 | .cond c a b,lk,i,_,ρ,os,K=>
  match pv ρ c with
  |some (.s (.one (.d v)))=>ifB v (vP nt an fn top a lk i (refine ρ (zwR c true)) os K) (vP nt an fn top b lk (i+zbd a) (refine ρ (zwR c false)) os K)
  |_=>none
 | .block id c,lk,i,_,ρ,os,K=>vP nt an fn top c lk i ρ os (zE7 id K)
 | .loop c,lk,i,_,ρ,os,K=>
  match an i with
  |some la=>
   bif free lk la&&zFc la.data then
    match zpE lk (zCx la.frz) os with
    |none=>none
    |some os=>
    zxo lk ρ (zzh la.frz) os fun oz=>
    match vec lk (fun m=>!lk m && !listed la m) la .normal ρ oz with
    |some (os1,L0,M0,ms)=>
     yP (zS (fun L M=>vP nt an fn top c (ziv la oz.length) (i+1) (hFr la.data la.own (writes c) ρ oz.length L) (hOs la.data la.own la (kill ms os1) oz.length L M) (ztI (ziv la oz.length) oz.length la)) L0 M0)
      (fun id L M=>zkx lk (pairs (zzh la.frz) os.length) (hOs la.xdata la.xown la (wu la.xdata (kill ms os1)) oz.length L M) fun o3=>K (.exit id) (hFr la.xdata la.xown (writes c) ρ oz.length L) o3)
      (fun L M=>bif zca c then zkx lk (pairs (zzh la.frz) os.length) (hOs la.rdata la.rown la (wu la.rdata (kill ms os1)) oz.length L M) fun o3=>K .ret (hFr la.rdata la.rown (writes c) ρ oz.length L) o3 else none)
    |none=>none
   else none
  |none=>none
 | .rangeFunc g ps assign body,lk,i,β,ρ,os,K=>
  bif top then
   match zt7 tab ρ g with
   |some (gf,cs)=>Y gf lk (pc (.own os.length)::cs) (os++[.lop nt (zBF nt ρ) ps.toList assign body (fn*1000+i) (.int .i64 (.negSucc 0))]) β (fun _ os2=>zE4 (fun e os3=>K e ρ os3) os.length os2)
   |none=>none
  else none
 | .exit id,_,_,_,ρ,os,K=>K (.exit id) ρ os
 | .ret,_,_,_,ρ,os,K=>K .ret ρ os
 |_,_,_,_,_,_,_=>none
end
def zgq(m:Nat)(N:Nm):Nm:=⟨N.μ,N.n,N.fz,⟨bn (Nat.add N.h.n.toNat m),N.h.t⟩⟩
theorem Zd.bump{E:En}{N:Nm}{os:List PO}(I:Zd E N os)(m:Nat):Zd E (zgq m N) os/\Nx N (zgq m N):=by have hn:(zgq m N).h.n.toNat=N.h.n.toNat+m:=yg _;have nx:Nx N (zgq m N):=⟨⟨fun _ _ h _=>h,fun _ _ _ h=>h⟩,LzB _,fun _ _=>rfl⟩;refine⟨⟨fun b y hy=>by rw[hn];have:=I.hw b y hy;omega,⟨by rw[hn];have:=I.gr.le;omega,I.gr.old⟩,fun b hb=>by rw[hn];have:=I.fzlt b hb;omega,I.fzok,I.fzex,I.len,I.own,I.inj,fun k=>(I.obj k).mono nx rfl fun hl b hb=>?_,I.lnk⟩,nx⟩;obtain⟨b',x',h1,h2,h3⟩:=wb hl (I.obj k);rw[h1]at hb;cases hb;trivial
section
variable {P:Program} {O:Orc} {tab:Nat->Bool} {Y:Inl} {C:Nat->zh} {E:En} {nt:Nat} {an:Nat->Option LA}
structure Dk (E:En) (N0 N:Nm) (top:Bool) (d:List BN):Prop where
 nx:Nx N0 N
 nd:d.Nodup
 em:top=false->d=[]
 ok:∀b∈d,N.fz b/\N.h.t.get b=some .defer/\E.h0.n.toNat<=b.toNat/\∀y,N0.h.t.get b=some y->¬N0.fz b
theorem Dk.mono{N0 N N':Nm}{top:Bool}{d:List BN}(D:Dk E N0 N top d)(g:Nx N N'):Dk E N0 N' top d:=⟨D.nx.trans g,D.nd,D.em,fun b hb=>by obtain⟨h1,h2,h3,h4⟩:=D.ok b hb;exact⟨g.fg.sub _ _ h1 h2,g.fg.old _ _ h1 h2,h3,h4⟩⟩
theorem Ev.rangeK{γ:Type}{l:BN}{m:Nat->Res}{k:Nat->Zf->Za->Option γ}{Q:γ->Prop}
  (h:Ev m (fun p=>∃S pend lf ln lt lps la lb ld,p.2.t.get l=some (.loop S pend lf ln lt lps la lb ld)/\S≠.busy/\Ev (fun n=>k n (pend.getD .normal) (p.2.put l (.loop .exhausted pend lf ln lt lps la lb ld))) Q)):Ev (fun n=>CE.rangeK l (k n) (m n)) Q:=by
 obtain⟨⟨v,h'⟩,⟨S,pend,lf,ln,lt,lps,la,lb,ld,h1,hS,x,hx,N1,h2⟩,N2,h3⟩:=h;refine⟨x,hx,max N1 N2,fun n hn=>?_⟩;show CE.rangeK l (k n) (m n)=_;rw[h3 n (by omega)];unfold CE.rangeK
 grind
theorem zt6{N:Nm}{r:Fr}{ρ:Nat->PA}{g:Operand}{gf:Nat}{cs:List PA}(F:∀i,RepPA N (r i) (ρ i))(e:zt7 tab ρ g=some (gf,cs)):
  tab gf=true/\∃caps:List (BN×Nat),coK r g=some (zu (.s (.one (.fn gf caps))))/\RepPAL N (caps.map fun(p:BN×Nat)=>Zb.s (.one (.ptr p.1 p.2))) cs:=by
 unfold zt7 at e;split at e
 .rename_i gf' caps h1;cases ht:tab gf'
  .grind
  rw[ht]at e;cases e;obtain⟨v,k1,k2⟩:=wM F h1;obtain⟨w,rfl,hw⟩:=yc k2;obtain⟨ps,rfl,hps⟩:=hw
  grind[yz,zeY]
 .rename_i gf' caps h1;cases ht:tab gf'
  .grind
  rw[ht]at e;cases e;obtain⟨v,k1,k2⟩:=wM F h1;obtain⟨w,rfl,hw⟩:=wU k2;obtain⟨ps,rfl,hps⟩:=Rep.fn_inv hw
  grind[yz,zol]
 cases e
theorem zp2{lk okm:Nat->Bool}{la:LA}{b:Zf}{N:Nm}{os os1:List PO}{r:Fr}{ρ:Nat->PA}{L:List DV}{M:List OC}{ms:List (Option Nat)}(I:Zd E N os)(F:∀i,RepPA N (r i) (ρ i))(e:vec lk okm la b ρ os=some (os1,L,M,ms)):
  (∃N1,Fz N N1/\Stp E lk N os [] N1 os1)/\∀m,some m∈ms->okm m=true:=by
 unfold vec at e;rcases h1:zpS lk ρ (zcG la b) os with _|q
 .grind
 obtain⟨o1,ds⟩:=q;rw[h1]at e;simp only at e;obtain⟨N1,f1,S1,_⟩:=zhK I F h1;split at e
 .rename_i vs ms0 ws h2 h3;cases h4:((zby o1 la.boxes&&zhV okm ms0)&&zey (zcG la b) o1 0)
  .grind
  rw[h4]at e;cases e;rw[LzC]at h4
  replace h4:=h4.1
  rw[LzC]at h4
  grind[Yyj,zeK]
 cases e
theorem zwC{lk:Nat->Bool}{n0:Nat}{la:LA}{e e1:Zf}{ρ:Nat->PA}{os:List PO}{L:List DV}{M:List OC}(h:ztI lk n0 la e ρ os=some (e1,L,M)):e=e1/\∃os1 ms,vec lk (fun m=>Nat.ble n0 m) la e ρ os=some (os1,L,M,ms):=by grind[ztI]
set_option maxHeartbeats 1000000 in
theorem zcV{fn fk:Nat}{top:Bool}{N0:Nm}(hO:zaj O C)(hY:Zs tab Y C):∀(c:Code) {β γ:Type} {Q:γ->Prop} {x:β} (lk:Nat->Bool) (i:Nat) (ρ:Nat->PA) (os:List PO) (N:Nm) (r:Fr) (d:List BN) (K:Zf->(Nat->PA)->List PO->Option β) (kk:Nat->KK γ),
  vP P O tab Y nt an fn top c lk i ρ os K=some x->Zd E N os->(∀i,RepPA N (r i) (ρ i))->(∀j,lk j=true->j<os.length)->Dk E N0 N top d->
  (∀e ρ' os' N' r' d',K e ρ' os'=some x->Zd E N' os'->(∀i,RepPA N' (r' i) (ρ' i))->Nx N N'->(∀j,lk j=true->sameO (og os j) (og os' j))->(∀i,i∉writes c->r' i=r i)->Dk E N0 N' top d'->Ev (fun n=>kk n e r' N'.h d') Q)->
  Ev (fun n=>yZ P nt (C n) n fk top c r N.h d (kk n)) Q:=by
 intro c
 induction c with
 |skip=>exact fun lk i ρ os N r d K kk e I F hlk D H=>H .normal ρ os N r d e I F (.refl N) (fun _ _=>.refl _) (fun _ _=>rfl) D
 |exit id=>exact fun lk i ρ os N r d K kk e I F hlk D H=>H (.exit id) ρ os N r d e I F (.refl N) (fun _ _=>.refl _) (fun _ _=>rfl) D
 |ret=>exact fun lk i ρ os N r d K kk e I F hlk D H=>H .ret ρ os N r d e I F (.refl N) (fun _ _=>.refl _) (fun _ _=>rfl) D
 |region id ops draw=>
  intro β γ Q x lk i ρ os N r d K kk e I F hlk D H;simp only[vP]at e;cases draw
  .simp only[Yzd]at e;have:(fun n=>yZ P nt (C n) n fk top (.region id ops false) r N.h d (kk n))=fun n=>ziD P nt ops (C n) ops.toList r N.h (fun r h=>kk n .normal r h d):=by
    rfl
   rw[this];exact zfq hO hY ops.toList ρ os N r e I F hlk fun ρ' os' N' r' h1 h2 h3 h4 h5 h6=>H .normal ρ' os' N' r' d h1 h2 h3 h4 h5 h6 (D.mono h4)
  simp only[Yzb]at e;cases hd:(P.follows .mixedOrders&&zdl P ops (xz ops.toList))
  .rw[hd]at e;simp only[Yzd]at e;cases hd2:(P.follows .mixedOrders&&zaF P ops (xz ops.toList))
   .grind
   rw[hd2]at e;simp only[Yzb]at e;obtain⟨IB,xB⟩:=I.bump ops.toList.length;have hnB:(zgq ops.toList.length N).h.n.toNat=N.h.n.toNat+ops.toList.length:=yg _;have hno:∀j,N.h.t.get (nm N.h.n.toNat j)=none:=fun j=>by
    rcases hx:N.h.t.get (nm N.h.n.toNat j) with _|y
    .rfl
    have:=I.hw _ _ hx;grind[yM]
   have:(fun n=>yZ P nt (C n) n fk top (.region id ops true) r N.h d (kk n))=fun n=>zgJ P nt ops (C n) (xz ops.toList) (zbC P ops.toList) N.h.n.toNat 0 ops.toList r (zgq ops.toList.length N).h 0 [(zgq ops.toList.length N).h] [] [] (fun r h=>kk n .normal r h d):=by funext n;simp only[yZ,Yzb,Yzd,hd,hd2];rfl
   rw[this];have hS:∀(e:Nat) (A:Sn),([(zgq ops.toList.length N,os)]:List Sn)[e]? = some A->A=(zgq ops.toList.length N,os):=fun e A hA=>Yz6.1 (Lz3 hA);refine zih hO hY (n0:=N.h.n.toNat) (kk:=fun n r h=>kk n .normal r h d) ops.toList 0 ρ os (zgq ops.toList.length N) r (fun _=>0) [] [] [] true [(zgq ops.toList.length N,os)] (fun _=>[]) [] e IB (fun s=>(F s).mono xB) hlk ⟨[],rfl,rfl⟩
    ⟨I.gr.le,by omega,fun p hp=>(by cases hp),fun j _ _=>hno j,fun j y _ hy=>?_⟩ (fun p hp=>by cases hp) rfl (fun e w hw=>by simp at hw) (fun A hA=>by grind) (fun A hA j _ _=>by rw[Yz6.1 hA];exact hno j)
    ⟨_,rfl,.refl _ _,fun k b h1 h2 _=>absurd h2 (Nat.not_lt.2 h1),fun _=>.refl _ _⟩ (fun s=>⟨Yzs _,fun A hA=>by rw[hS _ _ hA];exact(F s).mono xB⟩) (fun y hy=>by cases hy) ⟨fun z hz=>(by cases hz),fun z hz=>(by cases hz),fun z hz=>(by cases hz),fun p hp=>(by cases hp)⟩ (fun n q hq=>by cases hq) fun ρ' os' N' r' h1 h2 h3 h4 h5 h6=>H .normal ρ' os' N' r' d h1 h2 h3 (xB.trans h4) (fun j hj=>.of (h5 j hj)) h6 (D.mono (xB.trans h4))
   have hy:N.h.t.get (nm N.h.n.toNat j)=some y:=hy
   grind
  rw[hd]at e;simp only[Yzb]at e;have:(fun n=>yZ P nt (C n) n fk top (.region id ops true) r N.h d (kk n))=fun n=>kDr P nt ops (C n) (xz ops.toList) (zdk P ops.toList) 0 ops.toList r N.h [] [] (fun r h=>kk n .normal r h d):=by simp_all[yZ]
  rw[this];refine zq7 hO hY (kk:=fun n r h=>kk n .normal r h d) ops.toList 0 ρ os N r (fun _=>0) [] [] [] (fun _=>[]) e I F hlk rfl (fun e w hw=>by simp at hw) (fun s=>⟨LzB _,fun A hh=>?_⟩) (fun n q hq=>by cases hq) fun ρ' os' N' r' h1 h2 h3 h4 h5 h6=>H .normal ρ' os' N' r' d h1 h2 h3 h4 h5 h6 (D.mono h4)
  grind
 |seq a b iha ihb=>
  intro β γ Q x lk i ρ os N r d K kk e I F hlk D H;simp only[vP]at e;have:(fun n=>yZ P nt (C n) n fk top (.seq a b) r N.h d (kk n))=fun n=>yZ P nt (C n) n fk top a r N.h d (zwL (fun r h d=>yZ P nt (C n) n fk top b r h d (kk n)) (kk n)):=by rfl
  rw[this];refine iha lk i ρ os N r d _ (fun n=>zwL (fun r h d=>yZ P nt (C n) n fk top b r h d (kk n)) (kk n)) e I F hlk D fun ex ρ1 os1 N1 r1 d1 h1 h2 h3 h4 h5 h6 h7=>?_;have hag:∀r2:Fr,(∀i,i∉writes b->r2 i=r1 i)->∀i,i∉writes (.seq a b)->r2 i=r i:=fun r2 hr i hi=>by simp_all[writes]
  cases ex with
  |normal=>
   refine ihb lk (i+zbd a) ρ1 os1 N1 r1 d1 K kk h1 h2 h3 (fun j hj=>?_) h7 fun e2 ρ2 os2 N2 r2 d2 k1 k2 k3 k4 k5 k6 k7=>H e2 ρ2 os2 N2 r2 d2 k1 k2 k3 (h4.trans k4) (fun j hj=>(h5 j hj).trans (k5 j hj)) (hag r2 k6) k7;have:=h4.le;rw[h2.len,I.len]at this
   grind
  |exit id=>exact H (.exit id) ρ1 os1 N1 r1 d1 h1 h2 h3 h4 h5 (hag r1 (fun _ _=>rfl)) h7
  |ret=>exact H .ret ρ1 os1 N1 r1 d1 h1 h2 h3 h4 h5 (hag r1 (fun _ _=>rfl)) h7
 |cond c a b iha ihb=>
  intro β γ Q x lk i ρ os N r d K kk e I F hlk D H;simp only[vP]at e;split at e
  .rename_i v hv;obtain⟨q,rfl,e⟩:=zfW e;obtain⟨w,k1,k2⟩:=wM F hv;have hw:=yh k2 (c:=.bool q) rfl;subst hw;have hco:coK r c=some (zu (.s (.one (.bool q)))):=by grind[yz]
   have F':∀i,RepPA N (r i) (refine ρ (zwR c q) i):=by
    cases c with
    |tmp t=>exact zbX F (Option.some.inj k1)
    |_=>exact F
   have run:∀n,yZ P nt (C n) n fk top (.cond c a b) r N.h d (kk n)=bif q then yZ P nt (C n) n fk top a r N.h d (kk n) else yZ P nt (C n) n fk top b r N.h d (kk n):=fun n=>by simp only[yZ,hco];rfl
   cases q
   .simp only[run,Yzd];exact ihb lk _ _ os N r d K kk e I F' hlk D fun e2 ρ2 os2 N2 r2 d2 k1 k2 k3 k4 k5 k6 k7=>H e2 ρ2 os2 N2 r2 d2 k1 k2 k3 k4 k5 (fun i hi=>k6 i (fun h=>hi (by simp[writes,h]))) k7
   simp only[run,Yzb];exact iha lk i _ os N r d K kk e I F' hlk D fun e2 ρ2 os2 N2 r2 d2 k1 k2 k3 k4 k5 k6 k7=>H e2 ρ2 os2 N2 r2 d2 k1 k2 k3 k4 k5 (fun i hi=>k6 i (fun h=>hi (by simp[writes,h]))) k7
  cases e
 |block id c ih=>
  intro β γ Q x lk i ρ os N r d K kk e I F hlk D H;simp only[vP]at e;have:(fun n=>yZ P nt (C n) n fk top (.block id c) r N.h d (kk n))=fun n=>yZ P nt (C n) n fk top c r N.h d (zAr id (kk n)):=by rfl
  rw[this];refine ih lk i ρ os N r d _ (fun n=>zAr id (kk n)) e I F hlk D fun ex ρ1 os1 N1 r1 d1 h1 h2 h3 h4 h5 h6 h7=>?_;cases ex with
  |normal=>exact H .normal ρ1 os1 N1 r1 d1 h1 h2 h3 h4 h5 h6 h7
  |exit id'=>
   simp only[zE7]at h1;simp only[zAr];cases hq:Nat.beq id' id
   case true=>rw[hq]at h1;exact H .normal ρ1 os1 N1 r1 d1 h1 h2 h3 h4 h5 h6 h7
   rw[hq]at h1;exact H (.exit id') ρ1 os1 N1 r1 d1 h1 h2 h3 h4 h5 h6 h7
  |ret=>exact H .ret ρ1 os1 N1 r1 d1 h1 h2 h3 h4 h5 h6 h7
 |loop c ih=>
  intro β γ Q x lk i ρ os N r d K kk e I F hlk D H;simp only[vP]at e;rcases ha:an i with _|la
  .grind
  rw[ha]at e;simp only at e;cases hfr:(free lk la&&zFc la.data)
  .grind
  rw[hfr]at e;simp only[Yzb]at e;rw[LzC]at hfr;obtain⟨hfr,hns⟩:=hfr;have hnoSt:∀k c,(.st k c:Pl)∉la.data:=fun k c h=>by have:=YzJ.1 hns _ h;cases this
  have core:∀(K:Zf->(Nat->PA)->List PO->Option β) (os:List PO) (N:Nm),Zd E N os->(∀i,RepPA N (r i) (ρ i))->(∀j,lk j=true->j<os.length)->Dk E N0 N top d->
    (match vec lk (fun m => !lk m && !listed la m) la .normal ρ os with
     |some (os1,L0,M0,ms)=>
      yP (zS (fun L M=>vP P O tab Y nt an fn top c (ziv la os.length) (i+1) (hFr la.data la.own (writes c) ρ os.length L) (hOs la.data la.own la (kill ms os1) os.length L M) (ztI (ziv la os.length) os.length la)) L0 M0)
       (fun id L M=>K (.exit id) (hFr la.xdata la.xown (writes c) ρ os.length L) (hOs la.xdata la.xown la (wu la.xdata (kill ms os1)) os.length L M))
       (fun L M=>bif zca c then K .ret (hFr la.rdata la.rown (writes c) ρ os.length L) (hOs la.rdata la.rown la (wu la.rdata (kill ms os1)) os.length L M) else none)
     |none=>none)=some x->
    (∀e ρ' os' N' r' d',K e ρ' os'=some x->Zd E N' os'->(∀i,RepPA N' (r' i) (ρ' i))->Nx N N'->(∀j,lk j=true->sameO (og os j) (og os' j))->(∀i,i∉writes (.loop c)->r' i=r i)->Dk E N0 N' top d'->Ev (fun n=>kk n e r' N'.h d') Q)->
    Ev (fun n=>yZ P nt (C n) n fk top (.loop c) r N.h d (kk n)) Q:=by
   clear e hlk F I H D N os K;intro K os N I F hlk D e H;rcases hv:vec lk (fun m=>!lk m && !listed la m) la .normal ρ os with _|q
   .grind
   obtain⟨os1,L0,M0,ms⟩:=q;rw[hv]at e;simp only at e;obtain⟨⟨N1,f1,S1⟩,hms⟩:=zp2 I F hv;have hl1:os1.length=os.length:=by rw[<-S1.inv.len,f1.n,I.len]
   have hBl:(kill ms os1).length=os.length:=by rw[ziA,hl1]
   generalize hB:kill ms os1=B at e hBl;rw[<-hBl]at e;have hRep:∀k,∃(N':Nm) (o':PO),N'.n=B.length/\RepO N' k o'/\simO (og B k) o':=fun k=>by
    refine⟨N1,og B k,by rw[f1.n,I.len,hBl],?_,.inl rfl⟩;rw[<-hB];rcases ui ms os1 k with⟨_,h2⟩|⟨_,h2⟩
    .rw[h2];trivial
    rw[h2];exact S1.inv.obj k
   have hBnl:∀D:List Pl,(∀k,(∀nt ρ ps a b l s,og B k≠.lop nt ρ ps a b l s)->og (wu D B) k=og B k):=fun D k=>(wY D B k).2.1;have hBsim:∀(D:List Pl) k,simO (og (wu D B) k) (og B k):=fun D k=>by
    cases ho:og B k with
    |lop nt ρ ps a b l s=>
     rcases (wY D B k).2.2 ho with⟨h1,_⟩|⟨c,_,h1⟩
     .exact .inl (by rw[h1,ho])
     exact .inr ⟨nt,ρ,ps,a,b,l,_,s,h1,rfl⟩
    |_=>exact .inl (by grind)
   have hRepX:∀(D:List Pl) k,∃(N':Nm) (o':PO),N'.n=B.length/\RepO N' k o'/\simO (og (wu D B) k) o':=fun D k=>by
    refine⟨N1,og B k,by rw[f1.n,I.len,hBl],?_,hBsim D k⟩;rw[<-hB];rcases ui ms os1 k with⟨_,h2⟩|⟨_,h2⟩
    .rw[h2];trivial
    rw[h2];exact S1.inv.obj k
   have hBdata:wu la.data B=B:=by
    refine List.ext_getElem (qO _ _) fun k h1 h2=>?_;have:=(wY la.data B k).1 (fun c=>hnoSt k c)
    grind[zdE]
   have hBlX:∀D,(wu D B).length=B.length:=fun D=>qO D B;obtain⟨kT,kM,kB,kA⟩:=zp3 I F hv;have hkeep:∀k,(∀st v,og os1 k≠mkO st v)->og B k=og os1 k:=fun k hne=>by rw[<-hB];rcases ui ms os1 k with⟨h1,_⟩|⟨_,h2⟩<;>grind
   have hT:∀t,t∈zhl la.own->∃m,og B t=.lnk m:=fun t ht=>by
    obtain⟨m,hm⟩:=kT t ht
    grind[zlL]
   have hL:∀t m,og B t=.lnk m->∃k v n,k<B.length/\listed la k=false/\og B k=.hol v n t:=fun t m ht=>by
    have ht1:og os1 t=.lnk m:=by rw[<-hB]at ht;rcases ui ms os1 t with⟨_,h2⟩|⟨_,h2⟩<;>grind
    obtain⟨k,v,n,hk⟩:=S1.inv.lnk t m ht1;refine⟨k,v,n,by rw[hBl,<-hl1];exact vQ (by grind),?_,(hkeep k fun st w h=>zrJ (h.symm.trans hk)).trans hk⟩
    grind[listed,Lz1,zrJ]
   have hTX:∀(D:List Pl) t,t∈zhl la.own->∃m,og (wu D B) t=.lnk m:=fun D t ht=>by grind
   have hLX:∀(D:List Pl) t m,og (wu D B) t=.lnk m->∃k v n,k<(wu D B).length/\listed la k=false/\og (wu D B) k=.hol v n t:=fun D t m ht=>by
    have ht':og B t=.lnk m:=by rcases hBsim D t with h|⟨_,_,_,_,_,_,_,_,h,_⟩<;>grind
    grind
   have hBk:∀k,og B k=.dead\/og B k=og os1 k:=fun k=>by rw[<-hB];rcases ui ms os1 k with⟨_,h2⟩|⟨_,h2⟩<;>grind
   obtain⟨N2,e2h,i2,F2,nx2,_⟩:=zsl (W:=writes c) I F hv (I.len.trans hBl.symm) (.refl N) F (fun _ _=>rfl)
    (fun k hk hul=>(hBk k).imp id fun h=>⟨h,hRep k⟩) hT hL
    (fun m hm hmB => by
     have hm':=hms m hm;rw[LzC,Yzy,Yzy]at hm';refine⟨?_,hm'.2⟩;rw[<-hB];rcases ui ms os1 m with⟨_,h2⟩|⟨h1,_⟩
     .rw[h2];exact fun h=>h
     trivial)
   simp only[zcG,zoR]at i2 F2;have hlp:∃ex Lx Mx n,ex≠.normal/\vn (fun L M=>vP P O tab Y nt an fn top c (ziv la B.length) (i+1) (hFr la.data la.own (writes c) ρ B.length L) (hOs la.data la.own la B B.length L M) (ztI (ziv la B.length) B.length la)) n L0 M0=some (ex,Lx,Mx)/\
     K ex (hFr (zcG la ex) (zoR la ex) (writes c) ρ B.length Lx) (hOs (zcG la ex) (zoR la ex) la (wu (zcG la ex) B) B.length Lx Mx)=some x:=by
    rcases hp:zS (fun L M=>vP P O tab Y nt an fn top c (ziv la B.length) (i+1) (hFr la.data la.own (writes c) ρ B.length L) (hOs la.data la.own la B B.length L M) (ztI (ziv la B.length) B.length la)) L0 M0 with _|q
    .rw[hp]at e;cases e
    obtain⟨ex,Lx,Mx⟩:=q;rw[hp]at e;obtain⟨n,hn⟩:=zfl.1 hp;cases ex with
    |normal=>cases e
    |exit id=>exact⟨.exit id,Lx,Mx,n,by simp,hn,e⟩
    |ret=>
     simp only[yP]at e;cases hR:zca c
     .grind
     rw[hR]at e;exact⟨.ret,Lx,Mx,n,by simp,hn,e⟩
   obtain⟨ex,Lx,Mx,n,hne,hpl,hK⟩:=hlp;have run:(fun n=>yZ P nt (C n) n fk top (.loop c) r N.h d (kk n))=fun n=>bindX (zc4 ((fun n ys h d=>yZ P nt (C n) n fk top c (zpm (writes c) 0 r ys) h d (fun e s h d=>some (e,(writes c).map s,h,d))) n) n ((writes c).map r) N.h d)
     (fun id ys h d=>kk n (.exit id) (zpm (writes c) 0 r ys) h d) (fun ys h d=>kk n .ret (zpm (writes c) 0 r ys) h d):=by
    rfl
   rw[run];refine Ev.bindX ((Ev.loop (Q:=fun p=>p.1=ex/\∃N' r',p.2.1=(writes c).map r'/\(∀i,i∉writes c->r' i=r i)/\N'.h=p.2.2.1/\Zd E N' (hOs (zcG la ex) (zoR la ex) la (wu (zcG la ex) B) B.length Lx Mx)/\(∀i,RepPA N' (r' i) (hFr (zcG la ex) (zoR la ex) (writes c) ρ B.length Lx i))/\Nx N N'/\Dk E N0 N' top p.2.2.2/\∀k,k<B.length->listed la k=false->sameO (og B k) (og (wu (zcG la ex) B) k))
    (fun k ys h d => ∃ L M N' r', vn (fun L M => vP P O tab Y nt an fn top c (ziv la B.length) (i + 1) (hFr la.data la.own (writes c) ρ B.length L) (hOs la.data la.own la B B.length L M) (ztI (ziv la B.length) B.length la)) k L M = some (ex, Lx, Mx) /\
     ys=(writes c).map r'/\(∀i,i∉writes c->r' i=r i)/\N'.h=h/\Zd E N' (hOs la.data la.own la B B.length L M)/\(∀i,RepPA N' (r' i) (hFr la.data la.own (writes c) ρ B.length L i))/\Nx N N'/\Dk E N0 N' top d)
    ?_ n _ _ _ ⟨L0,M0,N2,r,hpl,rfl,fun _ _=>rfl,e2h,i2,F2,nx2,D.mono nx2⟩).mono ?_)
   .rintro k ys h dd ⟨L,M,N',r',h1,rfl,h3,rfl,h5,h6,h7,hD⟩
    cases k with
    |zero=>cases h1
    |succ k=>
     have hstep:∃e1 L1 M1,vP P O tab Y nt an fn top c (ziv la B.length) (i+1) (hFr la.data la.own (writes c) ρ B.length L) (hOs la.data la.own la B B.length L M) (ztI (ziv la B.length) B.length la)=some (e1,L1,M1)/\
       ((e1=.normal/\vn (fun L M=>vP P O tab Y nt an fn top c (ziv la B.length) (i+1) (hFr la.data la.own (writes c) ρ B.length L) (hOs la.data la.own la B B.length L M) (ztI (ziv la B.length) B.length la)) k L1 M1=some (ex,Lx,Mx))\/(e1≠.normal/\e1=ex/\L1=Lx/\M1=Mx)):=by
      grind[vn]
     obtain⟨e1,L1,M1,hb,hor⟩:=hstep;have hmix:zpm (writes c) 0 r ((writes c).map r')=r':=zfK h3;simp only[hmix];refine ih (ziv la B.length) (i+1) _ _ N' r' dd _ (fun n e s h d=>some (e,(writes c).map s,h,d)) hb h5 h6 (fun j hj=>Lz9 (zxL hj).1 (zyv rfl)) hD fun e3 ρ3 os3 N3 r3 d3 k1 k2 k3 k4 k5 k6 k7=>?_;obtain⟨rfl,os1',ms',hv'⟩:=zwC k1;obtain⟨⟨N1',f1',S1'⟩,hms'⟩:=zp2 k2 k3 hv';have hag:∀i,i∉writes c->r3 i=r i:=fun i hi=>(k6 i hi).trans (h3 i hi);obtain⟨lp1,lp2⟩:=ztH k2 k3 hv';have hun:∀k,k<B.length->listed la k=false->og (wu (zcG la e3) B) k=og os1' k/\sameO (og B k) (og (wu (zcG la e3) B) k):=fun k hk hul=>by
      have hlkk:ziv la B.length k=true:=by grind[ziv,Yzg]
      have ho1:=S1'.lock k hlkk;have hsm:=k5 k hlkk;rw[zbj hk hul]at hsm;cases hoB:og B k with
      |lop nt0 ρ0 ps0 a0 b0 l0 s0=>
       have h3s:∃s,og os3 k=.lop nt0 ρ0 ps0 a0 b0 l0 s:=by rcases hsm with h|⟨_,_,_,_,_,_,_,h,h'⟩<;>grind
       obtain⟨s,hs⟩:=h3s;rcases (wY (zcG la e3) B k).2.2 hoB with⟨q1,q2⟩|⟨cc,q1,q2⟩
       .have hnd:zio s=true:=by
         grind
        have heq:og os3 k=og B k:=by
         rcases hsm with h|⟨_,_,_,_,_,_,n',h,h'⟩
         .exact h
         rw[hs]at h';cases h';cases hnd
        grind
       grind
      |_=>
       have hnl:=hBnl (zcG la e3) k (by simp[hoB]);have heq:og os3 k=og B k:=by rcases hsm with h|⟨_,_,_,_,_,_,n',h,h'⟩<;>grind
       grind
     obtain⟨N4,g1,g2,g3,g4,g5⟩:=zsl (W:=writes c) (B:=wu (zcG la e3) B) k2 k3 hv' (by rw[hBlX];exact I.len.trans hBl.symm) (h7.trans k4) F hag
      (fun k hk hul=>.inr ⟨(hun k (by grind) hul).1,by rw[hBlX];exact hRepX _ k⟩) (hTX _) (hLX _)
      (fun m hm hmB => by rw[hBlX]at hmB;have:=Lz4 (hms' m hm);omega)
     rw[hBlX]at g2 g3;refine Ev.some ?_;have hD4:Dk E N0 N4 top d3:=by refine⟨D.nx.trans g4,k7.nd,k7.em,fun b hb=>?_⟩;obtain⟨m1,m2,m3,m4⟩:=k7.ok b hb;exact⟨g5.sub _ _ m1 m2,g5.old _ _ m1 m2,m3,m4⟩
     rcases hor with⟨rfl,hrest⟩|⟨hn1,rfl,rfl,rfl⟩
     .simp only[zcG,zoR]at g2 g3
      grind
     grind
   rintro⟨e4,ys,h4,d4⟩ ⟨hex,N',r',hys,hag,hh,i4,F4,nx4,D4,hsm4⟩
   simp only at hex hys hh;subst hex hys hh;have hmix:zpm (writes c) 0 r ((writes c).map r')=r':=zfK hag;have hfin:=H e4 _ _ N' r' d4 hK i4 F4 nx4 (fun j hj=>by
    have hj1:=hlk j hj;have hul:listed la j=false:=by
     unfold free at hfr;rw[LzC,LzC,YzJ,YzJ,YzJ]at hfr
     grind[listed,Lz1]
    have hBj:og B j=og os j:=by
     rw[<-hB];rcases ui ms os1 j with⟨h1,_⟩|⟨_,h2⟩
     .grind
     rw[h2];exact S1.lock j hj
    grind[zbj]) hag D4
   grind
  rcases hfa:zpE lk (zCx la.frz) os with _|os0
  .grind
  rw[hfa]at e;obtain⟨Nz,fz0,Sz⟩:=znW I hfa;have hl0:∀j,lk j=true->j<os0.length:=fun j hj=>by
   have:=Sz.inv.len;rw[fz0.n,I.len]at this
   grind
  obtain⟨oz,No,e,Vo⟩:=znl Sz.inv (fun i=>(F i).mono Sz.nx) hl0 e;rw[<-fz0.h,<-Vo.h];refine core (fun ex ρ' o2=>zkx lk (pairs (zzh la.frz) os0.length) o2 fun o3=>K ex ρ' o3) oz No Vo.inv (fun i=>((F i).mono Sz.nx).mono Vo.nx) (fun j hj=>Lz9 (hl0 j hj) Vo.le) ((D.mono Sz.nx).mono Vo.nx) e fun e ρ' os' N' r' d' a1 a2 a3 a4 a5 a6 a7=>?_;obtain⟨o3,N3,b1,V3⟩:=zkw a2 a1;rw[<-V3.h];exact H e ρ' o3 N3 r' d' b1 V3.inv (fun i=>(a3 i).mono V3.nx) (((Sz.nx.trans Vo.nx).trans a4).trans V3.nx) (fun j hj=>(sameO.of ((Vo.lock j hj).trans (Sz.lock j hj))).trans ((a5 j hj).trans (.of (V3.lock j hj)))) a6 (a7.mono V3.nx)
 |rangeFunc g ps assign body _ _=>
  intro β γ Q x lk i ρ os N r d K kk e I F hlk D H;simp only[vP]at e;cases top with
  |false=>cases e
  |true=>
  simp only[Yzb]at e;rcases hg:zt7 tab ρ g with _|q
  .grind
  obtain⟨gf,cs⟩:=q;rw[hg]at e;simp only at e;obtain⟨ht,caps,hco,rcs⟩:=zt6 F hg;have run:(fun n=>yZ P nt (C n) n fk true (.rangeFunc g ps assign body) r N.h d (kk n))=fun n=>CE.rangeK (N.h.new .defer).n (fun e h'=>kk n e r h' (N.h.n::d)) (C n (.inl gf) ([.s (.one (.yld (N.h.new .defer).n))]++caps.map fun p=>.s (.one (.ptr p.1 p.2))) ((N.h.new .defer).new (.loop .ready none fk nt (wL r nt) ps assign body N.h.n))):=by
   funext n
   simp only[yZ,hco,Yzb];rfl
  rw[run];obtain⟨IA,xA⟩:=I.grow (I.hw.new .defer) (Gr.new N.h .defer);generalize hNA:(Nm.mk N.μ N.n (fun b=>N.fz b\/(N.h.n.toNat<=b.toNat/\∃y,(N.h.new .defer).t.get b=some y)) (N.h.new .defer))=NA at IA xA;have hAh:NA.h=N.h.new .defer:=by grind
  have hAf:NA.fz N.h.n:=by rw[<-hNA];exact .inr ⟨LzB _,_,zC _ _ _⟩
  have hAg:NA.h.t.get N.h.n=some .defer:=by rw[hAh];exact zC _ _ _
  have hcr:∀(N':Nm),Nx N N'->∀j,RepPA N' (zec (bn j) (wL r nt)) (zBF nt ρ j):=fun N' g j=>by
   unfold zBF;cases hj:Nat.ble (Nat.succ j) nt
   .trivial
   have:zec (bn j) (wL r nt)=r j:=by unfold zec;rw[zag,Yzc (show j<nt from Lz4 hj)]
   rw[this];exact(F j).mono g
  have hxB:Nx NA ⟨upd NA.μ os.length (.yld NA.h.n),os.length+1,NA.fz,NA.h.new (.loop .ready none fk nt (wL r nt) ps assign body N.h.n)⟩:=⟨⟨fun _ _ h _=>h,fun b y _ hy=>(Gr.new NA.h _).get IA.hw hy⟩,by have:=IA.len;grind,fun k hk=>by
   have:=IA.len
   grind[upd]⟩
  obtain⟨IB,xB,_⟩:=IA.new (.loop .ready none fk nt (wL r nt) ps assign body N.h.n) (.lop nt (zBF nt ρ) ps.toList assign body (fn*1000+i) (.int .i64 (.negSucc 0))) (.yld NA.h.n) rfl
   ⟨NA.h.n,.ready,none,fk,wL r nt,ps,N.h.n,by simp[upd],fun h=>absurd (IA.fzlt _ h) (Nat.lt_irrefl _),zC _ _ _,rfl,.inl ⟨rfl,rfl,rfl⟩,hcr _ (xA.trans hxB)⟩
  generalize hNB:(Nm.mk (upd NA.μ os.length (.yld NA.h.n)) (os.length+1) NA.fz (NA.h.new (.loop .ready none fk nt (wL r nt) ps assign body N.h.n)))=NB at IB xB;have hBh:NB.h=NA.h.new (.loop .ready none fk nt (wL r nt) ps assign body N.h.n):=by grind
  have hBm:NB.μ os.length=.yld NA.h.n:=by rw[<-hNB];simp[upd]
  have hBn:NB.n=os.length+1:=by grind
  have hal:RepPAL NB ([.s (.one (.yld NA.h.n))]++caps.map fun(p:BN×Nat)=>Zb.s (.one (.ptr p.1 p.2))) (pc (.own os.length)::cs):=by refine⟨RepPA.of (v:=.one (.yld NA.h.n)) (p:=.one (.own os.length)) ⟨by omega,hBm.symm⟩,?_⟩;exact rcs.mono (xA.trans xB)
  obtain⟨a,os2,e1,ev⟩:=hY.o ht IB hal (fun j hj=>by grind) e;have hev:Ev (fun n=>C n (.inl gf) ([.s (.one (.yld (N.h.new .defer).n))]++caps.map fun p=>.s (.one (.ptr p.1 p.2))) ((N.h.new .defer).new (.loop .ready none fk nt (wL r nt) ps assign body N.h.n))) (fun p=>∃N',N'.h=p.2/\Zd E N' os2/\Nx NB N'/\(∀j,lk j=true->sameO (og (os++[.lop nt (zBF nt ρ) ps.toList assign body (fn*1000+i) (.int .i64 (.negSucc 0))]) j) (og os2 j))/\RepPA N' p.1 a):=by grind
  refine Ev.rangeK (k:=fun n e h'=>kk n e r h' (N.h.n::d)) (hev.mono ?_)
  rintro⟨v,h'⟩ ⟨N',hh,I',x',lo',rv⟩
  simp only at hh;subst hh;have hmu':N'.μ os.length=.yld NA.h.n:=by rw[x'.mu _ (by omega),hBm]
  have hAn:NA.h.n=(N.h.new .defer).n:=by rw[hAh]
  have xN:Nx N N':=(xA.trans xB).trans x';have hD':Dk E N0 N' true (N.h.n::d):=by
   refine⟨D.nx.trans xN,List.nodup_cons.2 ⟨fun hm=>?_,D.nd⟩,fun h=>(by cases h),fun b hb=>?_⟩
   .exact absurd (I.hw _ _ (D.ok _ hm).2.1) (Nat.lt_irrefl _)
   rcases Yya.1 hb with rfl|hb
   .have x2:=xB.trans x';exact⟨x2.fg.sub _ _ hAf hAg,x2.fg.old _ _ hAf hAg,I.gr.le,fun y hy hf=>absurd (I.hw _ _ (D.nx.fg.old _ _ hf hy)) (Nat.lt_irrefl _)⟩
   exact(D.mono xN).ok b hb
  have fin:∀(ex:Zf) (nt':Nat) (ρ':Nat->PA) (ps':List Nat) (A' B':Code) (lb':Nat) (st:DV) (S:LoopState) (pend:Option Zf) (lf:Nat) (lt:Tr Zb) (psA:Array Tmp) (ld:BN),og os2 os.length=.lop nt' ρ' ps' A' B' lb' st->N'.h.t.get NA.h.n=some (.loop S pend lf nt' lt psA A' B' ld)->S≠.busy->pend.getD .normal=ex->K ex ρ (oset .dead os2 os.length)=some x->
    ∃S pend lf ln lt lps la lb ld,N'.h.t.get (N.h.new .defer).n=some (.loop S pend lf ln lt lps la lb ld)/\S≠.busy/\Ev (fun n=>kk n (pend.getD .normal) r (N'.h.put (N.h.new .defer).n (.loop .exhausted pend lf ln lt lps la lb ld)) (N.h.n::d)) Q:=by
   intro ex nt' ρ' ps' A' B' lb' st S pend lf lt psA ld ho hg1 hS hp hK;refine⟨S,pend,lf,nt',lt,psA,A',B',ld,by grind,hS,?_⟩;rw[hp,<-hAn];obtain⟨I3,x3,_⟩:=I'.put (k:=os.length) (by rw[ho];trivial) (b:=NA.h.n) (by rw[hmu'];rfl) (.loop .exhausted pend lf nt' lt psA A' B' ld) .dead trivial;refine H ex ρ _ _ r _ hK I3 (fun i=>((F i).mono xN).mono x3) (xN.trans x3) (fun j hj=>?_) (fun _ _=>rfl) (hD'.mono x3);have hj1:=hlk j hj;have:=lo' j hj;rw[zlC _ _ j hj1]at this;rw[zF,Yza (by omega)];exact this
  unfold zE4 at e1;have hRO:=I'.obj os.length;split at e1
  .rename_i nt' ρ' ps' A' B' lb' ho;rw[ho]at hRO;obtain⟨l,S,pend,lf,lt,psA,ld,q1,q2,q3,q4,q5,q6⟩:=hRO;rw[hmu']at q1;cases q1;rcases q5 with⟨h,_⟩|⟨h,_⟩|⟨rfl,e',rfl,hne,hc⟩
   .cases h
   .cases h
   cases e' with
   |normal=>trivial
   |ret=>grind
   |exit id=>cases hc
  .rename_i nt' ρ' ps' A' B' lb' ee ho;rw[ho]at hRO;obtain⟨l,S,pend,lf,lt,psA,ld,q1,q2,q3,q4,q5,q6⟩:=hRO;rw[hmu']at q1;cases q1;rcases q5 with⟨h,_⟩|⟨h,_⟩|⟨rfl,e',rfl,hne,hc⟩
   .cases h
   .cases h
   cases e' with
   |normal=>trivial
   |ret=>cases hc
   |exit id=>
    have:id=ee:=by grind[zmr]
    grind
  .rename_i nt' ρ' ps' A' B' lb' ho;rw[ho]at hRO;obtain⟨l,S,pend,lf,lt,psA,ld,q1,q2,q3,q4,q5,q6⟩:=hRO;rw[hmu']at q1;cases q1;rcases q5 with⟨_,rfl,rfl⟩|⟨h,_⟩|⟨_,e',_,hne,hc⟩
   .grind
   .cases h
   cases e' with
   |normal=>trivial
   |ret=>cases hc
   |exit id=>trivial
  cases e1
 |_=>grind[vP]
end
end Go.PE
end
section
namespace Go.PE
open Go Go.CE
section
variable {fz:BN->Prop} {h h':Za} (H:∀b o,h.t.get b=some o->o≠.defer->h'.t.get b=some o)
include H
theorem Rep.wk{c:Zc}{d:DV}(R:Rep fz h c d):Rep fz h' c d:=by
 induction R with
 |bool b=>exact .bool b
 |int k n=>exact .int k n
 |str s=>exact .str s
 |nils=>exact .nils
 |nilf=>exact .nilf
 |nilp=>exact .nilp
 |nilm=>exact .nilm
 |nili=>exact .nili
 |u c=>exact .u c
 |lst cs hb hg hc ha h1 h2 ih=>exact .lst cs hb (H _ _ hg (by rintro rfl;cases ha)) hc ha h1 ih
 |fp cs hb hg h1 h2 ih=>exact .fp cs hb (H _ _ hg (by rintro rfl;cases h1)) h1 ih
 |fn css os hl h1 h2 ih=>exact .fn css os hl (fun i p x hp hx=>by obtain⟨a,b,c⟩:=h1 i p x hp hx;exact⟨a,H _ _ b (by intro e;rw[e]at c;cases c),c⟩) ih
theorem RepL.wk{cs:List Zc}{ds:List DV}(R:RepL fz h cs ds):RepL fz h' cs ds:=⟨R.1,fun j c d a b=>(R.2 j c d a b).wk H⟩
theorem RepS.wk{c:SVal}{d:DS}(R:RepS fz h c d):RepS fz h' c d:=by cases c<;>cases d<;>simp only[RepS]at R ⊢<;>grind[Rep.wk,RepL.wk]
theorem RepSL.wk:∀{c:List SVal} {d:List DS},RepSL fz h c d->RepSL fz h' c d
 | [],[],_=>trivial
 |_::_,_::_,R=>⟨RepS.wk H R.1,RepSL.wk R.2⟩
 | [],_::_,R=>R.elim
 |_::_,[],R=>R.elim
end
section
variable {N:Nm} {h':Za} (H:∀b o,N.h.t.get b=some o->o≠.defer->h'.t.get b=some o)
include H
theorem RepCaps.wk:∀{ps:List (BN×Nat)} {xs:List (Nat⊕List DV)},RepCaps N ps xs->RepCaps ⟨N.μ,N.n,N.fz,h'⟩ ps xs
 | [],[],_=>trivial
 |_::_,.inl _::_,R=>⟨R.1,RepCaps.wk R.2⟩
 |_::_,.inr _::_,R=>⟨Rep.wk (fz:=N.fz) H R.1,RepCaps.wk R.2⟩
 | [],_::_,R=>R.elim
 |_::_,[],R=>R.elim
theorem RepPC.wk{c:Zc}{p:PC}(R:RepPC N c p):RepPC ⟨N.μ,N.n,N.fz,h'⟩ c p:=by
 cases p with
 |d v=>exact Rep.wk (fz:=N.fz) H R
 |clo f caps=>obtain⟨ps,h1,h2⟩:=R;exact⟨ps,h1,RepCaps.wk H h2⟩
 |_=>exact R
theorem RepPL.wk:∀{cs:List Zc} {ps:List PC},RepPL N cs ps->RepPL ⟨N.μ,N.n,N.fz,h'⟩ cs ps
 | [],[],_=>trivial
 |_::_,_::_,R=>⟨RepPC.wk H R.1,RepPL.wk R.2⟩
 | [],_::_,R=>R.elim
 |_::_,[],R=>R.elim
theorem RepPA.wk{v:Zb}{p:PA}(R:RepPA N v p):RepPA ⟨N.μ,N.n,N.fz,h'⟩ v p:=by
 cases p with
 |bad=>trivial
 |undef=>exact R
 |s p=>obtain⟨w,rfl,h⟩:=R.inv;refine RepPA.of ?_;cases w<;>cases p<;>simp only[RepPV]at h ⊢<;>grind[RepPC.wk,RepPL.wk]
 |tup ds=>
  cases v with
  |s v=>exact R
  |tup l=>exact RepSL.wk (fz:=N.fz) H R
 |tl p ds=>
  cases v with
  |s v=>exact R
  |tup l=>
   cases l with
   |nil=>exact R
   |cons w l=>refine⟨?_,RepSL.wk (fz:=N.fz) H R.2⟩;have h:=R.1;cases w<;>cases p<;>simp only[RepPV]at h ⊢<;>grind[RepPC.wk,RepPL.wk]
theorem RepO.wk{k:Nat}{o:PO}(R:RepO N k o):RepO ⟨N.μ,N.n,N.fz,h'⟩ k o:=by
 cases o with
 |box cs=>obtain⟨b,vs,h1,h2,h3,h4⟩:=R;exact⟨b,vs,h1,h2,H _ _ h3 (by simp),RepPL.wk H h4⟩
 |arr st v=>
  rcases v with _|xs
  .exact R
  obtain⟨b,vs,ex,h1,h2,h3,h4,h5⟩:=R;exact⟨b,vs,ex,h1,h2,H _ _ h3 (by simp),h4,fun i x hx=>⟨(h5 i x hx).1,RepL.wk (fz:=N.fz) H (h5 i x hx).2⟩⟩
 |frz v=>exact Rep.wk (fz:=N.fz) H R
 |fbox ds=>obtain⟨b,h1,h2⟩:=R;exact⟨b,h1,Rep.wk (fz:=N.fz) H h2⟩
 |mp st xs=>obtain⟨b,es,h1,h2,h3,h4,h5⟩:=R;exact⟨b,es,h1,h2,H _ _ h3 (by simp),h4,fun i e x he hx=>⟨RepS.wk (fz:=N.fz) H (h5 i e x he hx).1,RepS.wk (fz:=N.fz) H (h5 i e x he hx).2⟩⟩
 |hol v n t=>
  rcases v with _|xs
  .exact R
  obtain⟨b,vs,ex,h1,h2,h3,h4,h5,h6,h7,h8⟩:=R;exact⟨b,vs,ex,h1,h2,H _ _ h3 (by simp),h4,h5,h6,h7,fun i x hi hx=>⟨(h8 i x hi hx).1,RepL.wk (fz:=N.fz) H (h8 i x hi hx).2⟩⟩
 |lnk m=>obtain⟨h0,b,n,vs,h1,h2,h3,h4⟩:=R;exact⟨h0,b,n,vs,h1,h2,H _ _ h3 (by simp),h4⟩
 |lop nt ρ ps a b lbl st=>obtain⟨l,S,pend,lf,lt,psA,ld,h1,h2,h3,h4,h5,h6⟩:=R;exact⟨l,S,pend,lf,lt,psA,ld,h1,h2,H _ _ h3 (by simp),h4,h5,fun i=>RepPA.wk H (h6 i)⟩
 |dead=>trivial
end
theorem zhX{E:En}{N0:Nm}{top:Bool}{os:List PO}{r:Fr}{ρ:Nat->PA}:∀{d:List BN} {N:Nm},Dk E N0 N top d->Zd E N os->(∀i,RepPA N (r i) (ρ i))->
  ∃N',shut d N.h=some N'.h/\Zd E N' os/\(∀i,RepPA N' (r i) (ρ i))/\Nx N0 N'
 | [],N,D,I,F=>⟨N,rfl,I,F,D.nx⟩
 |b::d,N,D,I,F=>by
  obtain⟨h1,h2,h3,h4⟩:=D.ok b (Yzf ..);have hne:∀c,c≠b->(N.h.put b .dead).t.get c=N.h.t.get c:=fun c hc=>yN _ _ hc;have H:∀c o,N.h.t.get c=some o->o≠.defer->(N.h.put b .dead).t.get c=some o:=fun c o hg ho=>by grind
  have hex:∀c y,N.h.t.get c=some y->∃y,(N.h.put b .dead).t.get c=some y:=fun c y hg=>by grind[xh]
  have hnx:Nx N0 ⟨N.μ,N.n,N.fz,N.h.put b .dead⟩:=⟨⟨D.nx.fg.sub,fun c o hf hg=>by
   have:=D.nx.fg.old c o hf hg
   grind⟩,D.nx.le,D.nx.mu⟩
  have hnd:=List.nodup_cons.1 D.nd;have D':Dk E N0 ⟨N.μ,N.n,N.fz,N.h.put b .dead⟩ top d:=⟨hnx,hnd.2,fun ht=>(by have:=D.em ht;cases this),fun c hc=>by
   obtain⟨k1,k2,k3,k4⟩:=D.ok c (Yze _ hc)
   grind⟩
  have I':Zd E ⟨N.μ,N.n,N.fz,N.h.put b .dead⟩ os:=⟨I.hw.put h2,I.gr.put (.inl h3),I.fzlt,I.fzok,fun c hc=>(I.fzex c hc).imp id fun⟨y,hy⟩=>hex c y hy,I.len,I.own,I.inj,fun k=>RepO.wk H (I.obj k),I.lnk⟩;obtain⟨N',g1,g2,g3,g4⟩:=zhX D' I' (fun i=>RepPA.wk H (F i))
  grind[shut]
end Go.PE
end
section
namespace Go.PE
open Go Go.CE
def paOf:DA->PA
 | .s (.one d)=>.s (.one (.d d))
 | .s (.agg l)=>.s (.agg (l.map .d))
 | .tup l=>.tup l
def zn8(args:List DA):Nat->PA:=fun i=>match args[i]? with|some a=>paOf a|none=>.bad
section
variable (P:Program)
def zoX(lk:Nat->Bool)(ρ:Nat->PA)(os:List PO):ResultVar->Option (List PO×DS)
 | .tmp i=>match ρ i with | .s v=>frV lk os v|_=>none
 | .cell i t=>
  match wF P t,ρ i with
  |some n,.s (.one (.ptr k off))=>
   match og os k with
   | .box cs=>
    match n with
    |none=>match cs[off]? with|some c=>frV lk os (.one c)|none=>none
    |some n=>bif Nat.ble (off+n) cs.length then frV lk os (.agg ((cs.drop off).take n)) else none
   |_=>none
  |_,_=>none
def zaq(lk:Nat->Bool)(ρ:Nat->PA):List PO->List ResultVar->Option (List DS×List PO)
 |os,[]=>some ([],os)
 |os,x::l=>
  match zoX P lk ρ os x with
  |some (os',d)=>match zaq lk ρ os' l with|some (ds,os'')=>some (d::ds,os'')|none=>none
  |none=>none
def zzn:List DS->DA
 | [d]=>.s d
 |l=>.tup l
def zyH(rs:List ResultVar):Zf->(Nat->PA)->List PO->Option DA
 | .exit _,_,_=>none
 | .normal,ρ,os=>match zaq P (fun _=>false) ρ os rs with|some (l,_)=>some (zzn l)|none=>none
 | .ret,ρ,os=>match zaq P (fun _=>false) ρ os rs with|some (l,_)=>some (zzn l)|none=>none
def zCh(lk:Nat->Bool)(ρ:Nat->PA)(os:List PO):List ResultVar->Option (PA×List PO)
 | [.tmp i]=>match ρ i with | .s v=>some (.s v,os)|_=>none
 | [.cell i t]=>
  match wF P t,ρ i with
  |some n,.s (.one (.ptr k off))=>
   match og os k with
   | .box cs=>
    match n with
    |none=>match cs[off]? with|some c=>some (.s (.one c),os)|none=>none
    |some n=>bif Nat.ble (off+n) cs.length then some (.s (.agg ((cs.drop off).take n)),os) else none
   |_=>none
  |_,_=>none
 |rs=>match zaq P lk ρ os rs with|some (l,os')=>some (.tup l,os')|none=>none
def zAi(live:Bool)(lk:Nat->Bool)(ρ:Nat->PA)(os:List PO)(rs:List ResultVar):Option (PA×List PO):=
 bif live then
  match rs with
  |x::y::l=>
   match zaq P lk ρ os (y::l) with
   |some (ds,os1)=>
    match zCh P lk ρ os1 [x] with
    |some (.s p,os2)=>some (.tl p ds,os2)
    |_=>none
   |none=>none
  |_=>none
 else zCh P lk ρ os rs
def zdV(az:List PA):Nat->PA:=fun i=>match az[i]? with|some a=>a|none=>.bad
structure Red where
 r:Nat->List PA->Option (Bool×Nat×List PA)
 s:Nat->Option Srt
def zDv:Red:=⟨fun _ _=>none,zDu⟩
def zFb:DV->Option Int
 | .int .i64 n=>some n
 |_=>none
def zsD:List DV->Option (List Int)
 | []=>some []
 |d::l=>match zFb d,zsD l with|some n,some ns=>some (n::ns)|_,_=>none
def zqE(st:Nat):List (List DV)->Option (List (List Int))
 | []=>some []
 |x::l=>match zsD x,zqE st l with|some r,some rs=>bif Nat.beq r.length st&&inZ r then some (r::rs) else none|_,_=>none
def enZ(r:List Int):List DV:=r.map (DV.int .i64)
def zE1(st:Nat):OC->Option OC
 |none=>some none
 |some xs=>match zqE st xs with|some l=>bif Nat.ble (l.length+1) 4611686018427387904 then some (some ((zgE l).map enZ)) else none|none=>none
def zzi(l:List Nat):PC->Bool
 | .d (.fn f' [])=>l.any (Nat.beq f')
 |_=>false
def zCT{β:Type}(t:Srt)(lk:Nat->Bool)(az:List PA)(os:List PO)(K:PA->List PO->Option β):Option β:=
 match az with
 | [.s (.one (.d .nils)),.s (.one c)]=>bif zzi t.f c then K (.tup []) os else none
 | [.s (.one (.own k)),.s (.one c)]=>
  bif zzi t.f c && !lk k then
   match og os k with
   | .arr st v=>bif Nat.beq st t.st then za (zE1 st v) fun v'=>K (.tup []) (oset (.arr st v') os k) else none
   |_=>none
  else none
 |_=>none
noncomputable def zD8(O:Orc)(tab:Nat->Bool)(Y:Inl)(an:Nat->List PA->Nat->Nat->Option LA)(R:Red)(g:Nat)(lk:Nat->Bool)(az:List PA)(os:List PO){β:Type}(K:PA->List PO->Option β):Option β:=
 match az with
 | .s (.one (.own j))::rest=>
  match og os j with
  | .arr st v=>
   bif lk j then none else
   match frA (fun i=>lk i||Nat.beq i j) os rest with
   |some (os1,ds)=>
    match R.s g with
    |some _=>none
    |none=>
    match P.funcs[g]? with
    |some fn=>
     match fn.body with
     |some c=>
      bif (zje P fn.results.toList).isNone||fn.name == "runtime.NumGoroutine" then none else bif Nat.ble az.length fn.ntmps then
       vP P O tab Y fn.ntmps (an (zk4+g) az 1) g true c (fun _=>false) 0 (zdV (pc (.own 0)::ds.map paOf)) [.arr st v] (fun ex ρ os2=>
        match zyH P fn.results.toList ex ρ os2 with
        |some d=>K (paOf d) (oset .dead os1 j)
        |none=>none)
      else none
     |none=>none
    |none=>none
   |none=>none
  |_=>none
 |_=>none
def psP(nt:Nat)(ρ:Nat->PA):List Nat->List PA->Option (Nat->PA)
 | [],[]=>some ρ
 |p::ps,a::az=>bif Nat.ble (Nat.succ p) nt then psP nt (zb6 ρ a (some p)) ps az else none
 |_,_=>none
def zyM:Zf->Int
 | .normal=>.negSucc 0
 | .ret=>.ofNat 0
 | .exit id=>.ofNat (id+1)
def zCu:Zf->Bool
 | .normal=>true
 |_=>false
noncomputable def zD7(O:Orc)(tab:Nat->Bool)(Y:Inl)(an:Nat->List PA->Nat->Nat->Option LA)(k:Nat)(lk:Nat->Bool)(az:List PA)(os:List PO){β:Type}(K:PA->List PO->Option β):Option β:=
 match og os k with
 | .lop nt ρ0 ps A B lbl (.int .i64 (.negSucc 0))=>
  match psP nt ρ0 ps az with
  |some ρ1=>
   vP P O tab Y nt (an (zji+lbl) [] os.length) 0 false A (fun j=>lk j||Nat.beq j k) 0 ρ1 os (fun e ρ2 os2=>
    bif zCu e then
     match og os2 k with
     | .lop _ _ _ _ _ _ (.int .i64 (.negSucc 0))=>vP P O tab Y nt (an (zji+lbl) [] os.length) 0 false B (fun j=>lk j||Nat.beq j k) (zbd A) ρ2 (oset (.lop nt ρ0 ps A B lbl (.int .i64 (.negSucc 1))) os2 k) (fun e _ os3=>K (pd (.bool (zCu e))) (oset (.lop nt ρ0 ps A B lbl (.int .i64 (zyM e))) os3 k))
     |_=>none
    else none)
  |none=>none
 |_=>none
noncomputable def inl(O:Orc)(tab:Nat->Bool)(an:Nat->List PA->Nat->Nat->Option LA)(R:Red):Nat->Inl
 |0=>fun _ _ _ _ _ _=>none
 |k+1=>fun g lk az os β K=>
  bif Nat.ble zji g then zD7 P O tab (inl O tab an R k) an (Nat.sub g zji) lk az os K else
  bif Nat.ble zk4 g then zD8 P O tab (inl O tab an R k) an R (Nat.sub g zk4) lk az os K else
  match R.s g with
  |some t=>zCT t lk az os K
  |none=>
  match R.r g az with
  |some (b,g',as')=>bif b then inl O tab an R k g' lk as' os β (fun _ os'=>K (.tup []) os') else none
  |none=>
  match P.funcs[g]? with
  |some fn=>
   match fn.body with
   |some c=>
    bif (zje P fn.results.toList).isNone||fn.name == "runtime.NumGoroutine" then none else bif Nat.ble az.length fn.ntmps then
     vP P O tab (inl O tab an R k) fn.ntmps (an g az os.length) g true c lk 0 (zdV az) os (fun ex ρ os'=>
      match ex with
      | .exit _=>none
      |_=>match zAi P (an g [] 0 999).isSome lk ρ os' fn.results.toList with|some (a,os'')=>K a os''|none=>none)
    else none
   |none=>none
  |none=>none
noncomputable def zxk(O:Orc)(tab:Nat->Bool)(Y:Inl)(an:Nat->Option LA)(g:Nat)(args:List DA):Option DA:=
 match P.funcs[g]? with
 |some fn=>
  match fn.body with
  |some c=>bif (zje P fn.results.toList).isNone||fn.name == "runtime.NumGoroutine" then none else bif Nat.ble args.length fn.ntmps then vP P O tab Y fn.ntmps an g true c (fun _=>false) 0 (zn8 args) [] (zyH P fn.results.toList) else none
  |none=>none
 |none=>none
end
section
variable {P:Program} {E:En}
theorem RepPA.paOf{N:Nm}{v:Zb}{d:DA}(H:RepA N.fz N.h v d):RepPA N v (PE.paOf d):=by
 cases d with
 |s d=>
  obtain⟨w,rfl,hw⟩:=H.inv;cases d with
  |one d=>
   cases w with
   |one c=>trivial
   |agg l=>trivial
  |agg ds=>
   cases w with
   |one c=>trivial
   |agg l=>exact RepPA.of (v:=.agg l) (p:=.agg _) (RepPL.ofD hw)
 |tup l=>
  cases v with
  |s v=>trivial
  |tup vs=>exact H
theorem RepAL.get{fz:BN->Prop}{h:Za}:∀{vs:List Zb} {ds:List DA},RepAL fz h vs ds->vs.length=ds.length/\∀(i:Nat) (v:Zb) (d:DA),vs[i]? = some v->ds[i]? = some d->RepA fz h v d
 | [],[],_=>⟨rfl,fun i v d e=>by simp at e⟩
 |v::vs,d::ds,H=>by
  obtain⟨a,b⟩:=RepAL.get H.2;refine⟨by simp[a],fun i v' d' hv hd=>?_⟩;cases i with
  |zero=>simp only[Yzj,Option.some.injEq]at hv hd;subst hv;subst hd;exact H.1
  |succ i=>exact b i v' d' (by simpa using hv) (by simpa using hd)
 | [],_::_,H=>H.elim
 |_::_,[],H=>H.elim
theorem zhs(args:List Zb)(i:Nat):wa (w7 .z .nil args) i=(args[i]?).getD zn:=by
 have h:=zdU args 0 .nil i;have hn:(Tr.nil:Tr Zb).get (bn i)=none:=by simp
 rw[Yza (by omega),hn,Nat.sub_zero,Option.or_none]at h;show zec (bn i) (w7 .z .nil args)=_;unfold zec;rw[show (w7 .z .nil args).get (bn i)=args[i]? from h]
 grind
theorem zix:∀(l:List Zb) (n:Nat),l.length<=n->zuU l n=true
 | [],_,_=>rfl
 |_::l,0,h=>by simp at h
 |_::l,n+1,h=>by show (bif Nat.beq (n+1) 0 then false else zuU l n)=true;rw[zix l n (by grind)];rfl
theorem zxb{lk:Nat->Bool}{os os':List PO}{N:Nm}{r:Fr}{ρ:Nat->PA}{x:ResultVar}{d:DS}(I:Zd E N os)(F:∀i,RepPA N (r i) (ρ i))(e:zoX P lk ρ os x=some (os',d)):
  ∃N' sv,Fz N N'/\Stp E lk N os [] N' os'/\zdw P r N.h x=some sv/\RepS N'.fz N'.h sv d:=by
 cases x with
 |tmp i=>
  simp only[zoX]at e;split at e
  .rename_i p hp;have:=F i;rw[hp]at this;obtain⟨w,hw,hv⟩:=this.inv
   grind[zkk,zdw,zqI]
  cases e
 |cell i t=>
  simp only[zoX]at e;split at e
  .rename_i n k off hn hp;have:=F i;rw[hp]at this;obtain⟨w,hw,hk,b,hb,rfl⟩:=yc this;split at e
   .rename_i cs ho;obtain⟨b',vs,h1,h2,h3,h4⟩:=zaH I ho;rw[hb]at h1;cases h1;have hl:=h4.len;have run:zdw P r N.h (.cell i t)=zas n off (some (.cells vs 0)):=by
     grind[zdw,zCg]
    rcases n with _|n
    .simp only at e;rcases hc:cs[off]? with _|c
     .grind
     rw[hc]at e;have hi:=(Lz0.1 hc).1;obtain⟨v,hv⟩:∃v,vs[off]? = some v:=⟨_,Lz5 (by omega)⟩;obtain⟨N',f,S,R⟩:=zkk (v:=.one v) (p:=.one c) I (h4.get hv hc) e
     grind[zas,wl]
    simp only at e;cases hle:Nat.ble (off+n) cs.length
    .grind
    rw[hle]at e;have hle:=Lz4 hle;obtain⟨N',f,S,R⟩:=zkk (v:=.agg ((vs.drop off).take n)) (p:=.agg ((cs.drop off).take n)) I ((h4.drop off).take n) e
    grind[zas,zge]
   cases e
  cases e
theorem zar{lk:Nat->Bool}{r:Fr}{ρ:Nat->PA}:∀{l:List ResultVar} {os os':List PO} {N:Nm} {ds:List DS},Zd E N os->(∀i,RepPA N (r i) (ρ i))->zaq P lk ρ os l=some (ds,os')->
  ∃N' svs,Fz N N'/\Zd E N' os'/\Nx N N'/\(∀j,lk j=true->og os' j=og os j)/\zbZ P r N.h l=some svs/\RepSL N'.fz N'.h svs ds
 | [],os,os',N,ds,I,F,e=>by cases e;exact⟨N,[],.refl N,I,.refl N,fun _ _=>rfl,rfl,trivial⟩
 |x::l,os,os',N,ds,I,F,e=>by
  simp only[zaq]at e;rcases h1:zoX P lk ρ os x with _|q
  .grind
  obtain⟨os1,d⟩:=q;rw[h1]at e;simp only at e;rcases h2:zaq P lk ρ os1 l with _|q2
  .grind
  obtain⟨ds2,os2⟩:=q2;rw[h2]at e;cases e;obtain⟨N1,sv,f1,S1,k1,R1⟩:=zxb I F h1;obtain⟨N2,svs,f2,i2,x2,l2,k2,R2⟩:=zar S1.inv (fun i=>(F i).mono S1.nx) h2;refine⟨N2,sv::svs,f1.trans f2,i2,S1.nx.trans x2,fun j hj=>(l2 j hj).trans (S1.lock j hj),?_,R1.mono x2.fg,R2⟩;rw[f1.h]at k2
  grind[zbZ,zdX,wv]
theorem zn2{h:Za}{fz:BN->Prop}{h':Za}{svs:List SVal}{ds:List DS}(H:RepSL fz h' svs ds):∃v,zb4 h (some svs)=some (v,h)/\RepA fz h' v (zzn ds):=by
 match svs,ds,H with
 | [],[],_=>exact⟨.tup [],rfl,trivial⟩
 | [v],[d],H=>exact⟨.s v,rfl,H.1⟩
 |v::w::vs,d::e::ds,H=>exact⟨.tup (v::w::vs),rfl,H⟩
theorem zsy{h:Za}{fz:BN->Prop}{h':Za}{svs:List SVal}{ds:List DS}(H:RepSL fz h' svs ds)(hl:ds.length≠1):zb4 h (some svs)=some (.tup svs,h):=by
 match svs,ds,H with
 | [],[],_=>rfl
 | [v],[d],_=>trivial
 |v::w::vs,d::e::ds,H=>rfl
theorem zfg{lk:Nat->Bool}{ρ:Nat->PA}:∀{l:List ResultVar} {os os':List PO} {ds:List DS},zaq P lk ρ os l=some (ds,os')->ds.length=l.length
 | [],_,_,_,e=>by cases e;rfl
 |x::l,os,os',ds,e=>by
  simp only[zaq]at e;rcases h1:zoX P lk ρ os x with _|q
  .grind
  obtain⟨os1,d⟩:=q;rw[h1]at e;simp only at e;rcases h2:zaq P lk ρ os1 l with _|q2
  .grind
  obtain⟨ds2,os2⟩:=q2;rw[h2]at e;cases e;simp[zfg h2]
theorem zqK{lk:Nat->Bool}{os os':List PO}{N:Nm}{r:Fr}{ρ:Nat->PA}{l:List ResultVar}{a:PA}(I:Zd E N os)(F:∀i,RepPA N (r i) (ρ i))(e:zCh P lk ρ os l=some (a,os')):
  ∃N' svs v,N'.h=N.h/\Zd E N' os'/\Nx N N'/\(∀j,lk j=true->og os' j=og os j)/\zbZ P r N.h l=some svs/\zb4 N.h (some svs)=some (v,N.h)/\RepPA N' v a:=by
 unfold zCh at e;split at e
 .rename_i i;split at e
  .rename_i v hp;cases e;have:=F i;rw[hp]at this;obtain⟨w,hw,hv⟩:=this.inv;exact⟨N,[w],.s w,rfl,I,.refl N,fun _ _=>rfl,by grind[zbZ,zdw,zqI,zdX,wv],rfl,RepPA.of hv⟩
  cases e
 .rename_i i t;split at e
  .rename_i n k off hn hp;have:=F i;rw[hp]at this;obtain⟨w,hw,hk,b,hb,rfl⟩:=yc this;split at e
   .rename_i cs ho;obtain⟨b',vs,h1,h2,h3,h4⟩:=zaH I ho;rw[hb]at h1;cases h1;have hl:=h4.len;have run:zdw P r N.h (.cell i t)=zas n off (some (.cells vs 0)):=by
     grind[zdw,zCg]
    rcases n with _|n
    .simp only at e;rcases hc:cs[off]? with _|c
     .grind
     rw[hc]at e;cases e;have hi:=(Lz0.1 hc).1;obtain⟨v,hv⟩:∃v,vs[off]? = some v:=⟨_,Lz5 (by omega)⟩;refine⟨N,[.one v],.s (.one v),rfl,I,.refl N,fun _ _=>rfl,?_,rfl,RepPA.of (v:=.one v) (p:=.one c) (h4.get hv hc)⟩
     grind[zbZ,zas,wl,zdX,wv]
    simp only at e;cases hle:Nat.ble (off+n) cs.length
    .grind
    rw[hle]at e;cases e;have hle:=Lz4 hle;refine⟨N,[.agg ((vs.drop off).take n)],.s (.agg ((vs.drop off).take n)),rfl,I,.refl N,fun _ _=>rfl,?_,rfl,RepPA.of (v:=.agg ((vs.drop off).take n)) (p:=.agg ((cs.drop off).take n)) ((h4.drop off).take n)⟩
    grind[zbZ,zas,zge,zdX,wv]
   cases e
  cases e
 rename_i h1 h2;rcases h3:zaq P lk ρ os l with _|q
 .grind
 obtain⟨ds,os2⟩:=q;rw[h3]at e;cases e;obtain⟨N',svs,f,i,x,lo,k,R⟩:=zar I F h3;have hne:ds.length≠1:=by
  rw[zfg h3];intro hl
  match l,hl with
  | [.tmp i],_=>grind
  | [.cell i t],_=>grind
 exact⟨N',svs,.tup svs,f.h,i,x,lo,k,zsy R hne,R⟩
theorem zqJ{live:Bool}{lk:Nat->Bool}{os os':List PO}{N:Nm}{r:Fr}{ρ:Nat->PA}{l:List ResultVar}{a:PA}(I:Zd E N os)(F:∀i,RepPA N (r i) (ρ i))(e:zAi P live lk ρ os l=some (a,os')):
  ∃N' svs v,N'.h=N.h/\Zd E N' os'/\Nx N N'/\(∀j,lk j=true->og os' j=og os j)/\zbZ P r N.h l=some svs/\zb4 N.h (some svs)=some (v,N.h)/\RepPA N' v a:=by
 cases live
 .exact zqK I F e
 simp only[zAi,Yzb]at e;split at e
 .rename_i x y l;rcases h1:zaq P lk ρ os (y::l) with _|q
  .grind
  obtain⟨ds,os1⟩:=q;rw[h1]at e;simp only at e;obtain⟨N1,svs,f1,i1,x1,l1,k1,R1⟩:=zar I F h1;split at e
  .rename_i p os2 h2;cases e;obtain⟨N2,ws,v,g1,g2,g3,g4,g5,g6,g7⟩:=zqK (P:=P) i1 (fun i=>(F i).mono x1) h2;rw[f1.h]at g5;obtain⟨w,rfl,hw⟩:=g7.inv
   match ws,svs,R1,k1,g5,g6 with
   | [],_,_,_,g5,g6=>cases g6
   |_::_::_,_,_,_,g5,g6=>cases g6
   | [u],sv::svs,R1,k1,g5,g6=>
    cases g6;refine⟨N2,w::sv::svs,.tup (w::sv::svs),g1.trans f1.h,g2,x1.trans g3,fun j hj=>(g4 j hj).trans (l1 j hj),?_,rfl,hw,RepSL.mono g3.fg R1⟩;have hx:zdw P r N.h x=some w:=by
     simp only[zbZ]at g5;rcases hk:zdw P r N.h x with _|u
     .rw[hk]at g5;cases g5
     rw[hk]at g5;cases g5;rfl
    show zdX (zdw P r N.h x) (zbZ P r N.h (y::l))=_;rw[hx,k1];rfl
   | [_],[],R1,_,_,_=>
    have:=zfg h1;cases ds with
    |nil=>cases this
    |cons _ _=>trivial
  cases e
 cases e
theorem znT{_fn:Func}{vs:List Zb}{az:List PA}{N:Nm}(H:RepPAL N vs az):(∀i,RepPA N (wa (w7 .z .nil vs) i) (zdV az i))/\vs.length=az.length:=by
 have key:∀{vs:List Zb} {az:List PA},RepPAL N vs az->vs.length=az.length/\∀(i:Nat) (v:Zb) (d:PA),vs[i]? = some v->az[i]? = some d->RepPA N v d:=by
  intro vs
  induction vs with
  |nil=>intro az H;cases az with|nil=>simp|cons _ _=>trivial
  |cons v vs ih=>
   intro az H;cases az with
   |nil=>trivial
   |cons d ds=>
    obtain⟨a,b⟩:=ih H.2;refine⟨by simp[a],fun i v' d' hv hd=>?_⟩;cases i with
    |zero=>simp only[Yzj,Option.some.injEq]at hv hd;subst hv;subst hd;exact H.1
    |succ i=>grind
 obtain⟨hl,hg⟩:=key H;refine⟨fun i=>?_,hl⟩;rw[zhs];unfold zdV;cases ha:az[i]?
 case some=>grind
 trivial
theorem zbn{g:Nat}{vs:List Zb}{h:Za}:∀{sums:List Sum},(∀s∈sums,Nat.beq g s.g=false)->xG g vs h sums=none
 | [],_=>rfl
 |s::l,hs=>by simp only[xG];rw[hs s (Yzf ..),Bool.false_and,Yzd];exact zbn fun s' h'=>hs s' (Yze _ h')
def zyY(tab:Nat->Bool)(R:Red)(C:Nat->zh):Prop:=
 ∀{N:Nm} {g g':Nat} {az as':List PA} {vs:List Zb},R.r g az=some (true,g',as')->RepPAL N vs az->tab g'=true/\∃vs',RepPAL N vs' as'/\∀Q,Ev (fun n=>C n (.inl g') vs' N.h) Q->Ev (fun n=>C n (.inl g) vs N.h) (fun p=>p.1=.tup []/\∃v,Q (v,p.2))
theorem zvE:∀{l:List DV} {r:List Int},zsD l=some r->l=enZ r
 | [],r,e=>by cases e;rfl
 |d::l,r,e=>by
  unfold zsD at e;split at e
  .rename_i n ns hd hl;cases e;have h1:d=.int .i64 n:=by
    unfold zFb at hd
    grind
   rw[h1,zvE hl];rfl
  cases e
theorem zm3{st:Nat}:∀{xs:List (List DV)} {l:List (List Int)},zqE st xs=some l->xs=l.map enZ/\∀r∈l,zB5 st r
 | [],l,e=>by cases e<;>grind
 |x::xs,l,e=>by
  unfold zqE at e;split at e
  .rename_i r rs hx hl;cases hq:(Nat.beq r.length st&&inZ r)
   .grind
   rw[hq,Yzb]at e;cases e;rw[LzC]at hq;obtain⟨h1,h2⟩:=zm3 hl;refine⟨by grind[zvE],fun y hy=>?_⟩;rcases Yya.1 hy with rfl|hy
   .exact⟨Lz1 hq.1,hq.2⟩
   grind
  cases e
theorem zm4{fz:BN->Prop}{h:Za}:∀{cs:List Zc} {r:List Int},RepL fz h cs (enZ r)->cs=r.map (Zc.int .i64)
 | [],[],_=>rfl
 |c::cs,n::r,H=>by
  obtain⟨h1,h2⟩:=RepL.inv H;have:c=.int .i64 n:=by cases h1;rfl
  rw[this,zm4 h2];rfl
 | [],_::_,H=>by have:=H.1;trivial
 |_::_,[],H=>by have:=H.1;trivial
theorem znt(fz:BN->Prop)(h:Za):∀r:List Int,RepL fz h (r.map (Zc.int .i64)) (enZ r)
 | []=>RepL.nil _ _
 |_::r=>RepL.cons (.int _ _) (znt fz h r)
theorem zgk(r:List Int)(l:List (List Int)):uH (r::l)=r.map (Zc.int .i64)++uH l:=by grind[uH]
theorem zoj{fz:BN->Prop}{h:Za}{st:Nat}:∀(l:List (List Int)) (vs:List Zc),vs.length=l.length*st->(∀(i:Nat) (r:List Int),l[i]? = some r->r.length=st/\RepL fz h ((vs.drop (i*st)).take st) (enZ r))->vs=uH l
 | [],vs,hl,_=>by simp at hl;trivial
 |r::l,vs,hl,H=>by
  obtain⟨h1,h2⟩:=H 0 r rfl;rw[Nat.zero_mul,List.drop_zero]at h2;have e1:=zm4 h2;have e2:=zoj (fz:=fz) (h:=h) (st:=st) l (vs.drop st) (by grind[Yyd]) fun i x hx=>by
   obtain⟨q1,q2⟩:=H (i+1) x (by trivial)
   grind[YzL]
  grind[zgk,List.take_append_drop]
theorem znq{st:Nat}:∀(l:List (List Int)),(∀r∈l,r.length=st)->(uH l).length=l.length*st/\∀(i:Nat) (r:List Int),l[i]? = some r->((uH l).drop (i*st)).take st=r.map (Zc.int .i64)
 | [],_=>⟨by simp[uH],fun i r h=>by simp at h⟩
 |x::l,H=>by have hx:=H x (Yzf ..);obtain⟨h1,h2⟩:=znq l fun r hr=>H r (Yze _ hr);rw[zgk];refine⟨by grind,fun i r hr=>?_⟩;cases i<;>simp_all[Yyd,List.drop_append,List.drop_eq_nil_of_le]
theorem zqk(l:List (List Int)):(zgE l).length=l.length:=(List.mergeSort_perm l _).length_eq
theorem zjA{st:Nat}{l:List (List Int)}(h:∀r∈l,r.length=st):∀r∈zgE l,r.length=st:=fun r hr=>h r ((List.mergeSort_perm l _).mem_iff.1 hr)
theorem zwP{sums:List Sum}{srt:Nat->Option Srt}{g:Nat}{t:Srt}(hT:srt g=some t){β:Type}{E:En}{lk:Nat->Bool}{N:Nm}{os:List PO}{az:List PA}{vs:List Zb}{K:PA->List PO->Option β}{x:β}(I:Zd E N os)(RR:RepPAL N vs az)(_hlk:∀j,lk j=true->j<os.length)
  (e:zCT t lk az os K=some x):∃a os',K a os'=some x/\Ev (fun n=>zI (zT P) (cFs (yI P)) sums srt n (.inl g) vs N.h) (fun p=>∃N',N'.h=p.2/\Zd E N' os'/\Nx N N'/\(∀j,lk j=true->og os' j=og os j)/\RepPA N' p.1 a):=by
 have fnc:∀{v:Zb} {c:PC},RepPA N v (.s (.one c))->zzi t.f c=true->∃f∈t.f,v=.s (.one (.fn f [])):=fun {v c} hv hf=>by
  obtain⟨w,rfl,hw⟩:=hv.inv;unfold zzi at hf;split at hf
  .rename_i f';rw[List.any_eq_true]at hf;obtain⟨f,hf,hq⟩:=hf;have hq:=Lz1 hq;subst hq;refine⟨_,hf,?_⟩;cases w with
   |agg l=>trivial
   |one y=>have hw:Rep N.fz N.h y (.fn f' []):=hw;cases hw<;>grind
  cases hf
 have two:∀{a b:PA},RepPAL N vs [a,b]->∃v w,vs=[v,w]/\RepPA N v a/\RepPA N w b:=fun {a b} H=>by
  match vs,H with
  | [v,w],H=>exact⟨v,w,rfl,H.1,H.2.1⟩
  | [],H=>trivial
  | [_],H=>exact H.2.elim
  |_::_::_::_,H=>exact H.2.2.elim
 unfold zCT at e;split at e
 .rename_i c;obtain⟨v,w,rfl,hv,hw⟩:=two RR;cases hf:zzi t.f c
  .grind
  rw[hf,Yzb]at e;obtain⟨f,hff,rfl⟩:=fnc hw hf;obtain⟨y,rfl,hy⟩:=hv.inv;have:y=.one .nils:=by
   cases y with
   |agg l=>trivial
   |one y=>have hy:Rep N.fz N.h y .nils:=hy;cases hy;rfl
  subst this;refine⟨.tup [],os,e,(Ev.sort hT (zgS hff N.h)).mono ?_⟩
  rintro _ rfl
  exact⟨N,rfl,I,.refl N,fun _ _=>rfl,trivial⟩
 .rename_i k c;obtain⟨v,w,rfl,hv,hw⟩:=two RR;cases hf:(zzi t.f c && !lk k)
  .grind
  rw[hf,Yzb]at e;rw[LzC]at hf;obtain⟨hf,hlkk⟩:=hf;obtain⟨f,hff,rfl⟩:=fnc hw hf;obtain⟨y,rfl,hy⟩:=hv.inv;have hyk:k<N.n/\y=.one (N.μ k):=by
   cases y with
   |agg l=>trivial
   |one y=>have hy:k<N.n/\y=N.μ k:=hy;grind
  obtain⟨hk,rfl⟩:=hyk;split at e
  .rename_i st o ho;cases hq:Nat.beq st t.st
   .grind
   rw[hq,Yzb]at e;have hq:=Lz1 hq;subst hq;have hobj:=I.obj k;rw[ho]at hobj;have hlk':∀o' j,lk j=true->og (oset o' os k) j=og os j:=fun o' j hj=>by
    rw[zF,Yza]
    grind
   rcases o with _|xs
   .have hobj:N.μ k=.nils:=hobj;have e:K (.tup []) (oset (.arr t.st none) os k)=some x:=e;rw[<-ho,zfs]at e;rw[hobj];refine⟨.tup [],os,e,(Ev.sort hT (zgS hff N.h)).mono ?_⟩
    rintro _ rfl
    exact⟨N,rfl,I,.refl N,fun _ _=>rfl,trivial⟩
   obtain⟨b,ws,ex,h1,h2,h3,h4,h5⟩:=hobj;unfold zE1 at e;simp only at e;rcases hr:zqE t.st xs with _|l
   .rw[hr]at e;cases e
   rw[hr]at e;simp only at e;cases hb:Nat.ble (l.length+1) 4611686018427387904
   .rw[hb]at e;cases e
   rw[hb,Yzb]at e;have hb:=Lz4 hb;have e:K (.tup []) (oset (.arr t.st (some ((zgE l).map enZ))) os k)=some x:=e;obtain⟨rfl,hrow⟩:=zm3 hr;have hcs:ws=uH l:=zoj (fz:=N.fz) (h:=N.h) (st:=t.st) l ws (by grind) fun i r hi=>by grind[enZ]
   subst hcs;have ans:=zoN (t:=t) hff (b:=b) (cap:=bif ex then(l.map enZ).length else 0) (ex:=ex) (h:=N.h) (l:=l) (len:=(l.map enZ).length) (by rw[Yzm]) hrow h3 (by grind);have hrw:∀r∈l,r.length=t.st:=fun r hr=>(hrow r hr).1;obtain⟨k1,k2⟩:=znq (zgE l) (zjA hrw);have hlive:solid (og os k):=by rw[ho];trivial
   obtain⟨i1,i2,_⟩:=I.put hlive (b:=b) (by rw[h1];rfl) (.cells (uH (zgE l)) t.st) (.arr t.st (some ((zgE l).map enZ))) ⟨b,uH (zgE l),ex,by
    grind[zqk],h2,xh _ _ _,by grind,fun i z hz=>by
     rw[Lz6,Yz9]at hz;obtain⟨r,hr,rfl⟩:=hz;refine⟨by unfold enZ;rw[Yzm];exact zjA hrw r (Lz3 hr),?_⟩
     grind[znt]⟩
   rw[h1];refine⟨.tup [],_,e,(Ev.sort hT ans).mono ?_⟩
   rintro _ rfl
   exact⟨_,rfl,i1,i2,hlk' _,trivial⟩
  cases e
 cases e
theorem RepPAL.ofA{N:Nm}:∀{vs:List Zb} {ds:List DA},RepAL N.fz N.h vs ds->RepPAL N vs (ds.map PE.paOf)
 | [],[],_=>trivial
 |_::_,_::_,H=>⟨RepPA.paOf H.1,RepPAL.ofA H.2⟩
 | [],_::_,H=>H.elim
 |_::_,[],H=>H.elim
theorem Dk.nil{E:En}{N0:Nm}{top:Bool}:Dk E N0 N0 top []:=⟨.refl _,List.nodup_nil,fun _=>rfl,fun b hb=>by cases hb⟩
theorem zvT{N:Nm}{nt:Nat}:∀{ps:List Nat} {az:List PA} {vs:List Zb} {ρ ρ':Nat->PA} {t:Tr Zb},(∀i,RepPA N (wa t i) (ρ i))->RepPAL N vs az->psP nt ρ ps az=some ρ'->∃t',zlm nt t ps vs=some t'/\∀i,RepPA N (wa t' i) (ρ' i)
 | [],[],[],ρ,ρ',t,F,_,e=>by cases e;exact⟨t,rfl,F⟩
 |p::ps,a::az,v::vs,ρ,ρ',t,F,RR,e=>by
  simp only[psP]at e;simp only[zlm];cases hb:Nat.ble (Nat.succ p) nt
  .grind
  rw[hb,Yzb]at e;rw[Yzb];refine zvT (fun i=>?_) RR.2 e;have:=zbE F RR.1 (some p) i;rw[<-wZ]at this;exact this
 | [],[],_::_,_,_,_,_,RR,_=>RR.elim
 |_::_,_::_,[],_,_,_,_,RR,_=>RR.elim
 | [],_::_,_,_,_,_,_,_,e=>by cases e
 |_::_,[],_,_,_,_,_,_,e=>by cases e
theorem zyj{sums:List Sum}{O:Orc}{tab:Nat->Bool}{Y:Inl}{an:Nat->List PA->Nat->Nat->Option LA}{srt:Nat->Option Srt}(hO:zaj O (fun n=>zI (zT P) (cFs (yI P)) sums srt n))(hY:Zs tab Y (fun n=>zI (zT P) (cFs (yI P)) sums srt n))
  {β:Type} {E:En} {lk:Nat->Bool} {N:Nm} {os:List PO} {k nt lbl:Nat} {ρ:Nat->PA} {ps:List Nat} {A B:Code} {st:DV} {l:BN} {az:List PA} {vs:List Zb} {K:PA->List PO->Option β} {x:β} (ho:og os k=.lop nt ρ ps A B lbl st) (hl:N.μ k=.yld l) (I:Zd E N os) (RR:RepPAL N vs az) (hlk:∀j,lk j=true->j<os.length) (e:zD7 P O tab Y an k lk az os K=some x):
  ∃a os',K a os'=some x/\Ev (fun n=>zI (zT P) (cFs (yI P)) sums srt n (.inr l) vs N.h) (fun p=>∃N',N'.h=p.2/\Zd E N' os'/\Nx N N'/\(∀j,lk j=true->sameO (og os j) (og os' j))/\RepPA N' p.1 a):=by
 unfold zD7 at e;rw[ho]at e;split at e
 .rename_i nt0 ρ0 ps0 A0 B0 lbl0 heq;cases heq;rcases hps:psP nt ρ ps az with _|ρ1
  .grind
  rw[hps]at e;simp only at e;have hk:k<os.length:=vQ (by grind);have hR:=I.obj k;rw[ho]at hR;obtain⟨l',S,pend,lf,lt,psA,ld,q1,q2,q3,q4,q5,q6⟩:=hR;rw[hl]at q1;cases q1;have hS:S=.ready/\pend=none:=by
   rcases q5 with⟨_,h1,h2⟩|⟨h,_⟩|⟨_,e',_,hne,hc⟩
   .trivial
   .cases h
   cases e' with
   |normal=>trivial
   |ret=>cases hc
   |exit id=>trivial
  obtain⟨rfl,rfl⟩:=hS;obtain⟨t,ht,Ft⟩:=zvT (N:=N) (fun i=>q6 i) RR hps;have run:(fun n=>zhp P (zI (zT P) (cFs (yI P)) sums srt n) n l vs N.h)=fun n=>yZ P nt (zI (zT P) (cFs (yI P)) sums srt n) n lf false A (wa t) N.h [] (fun e r1 h1 d1=>
    match e,d1 with
    | .normal,[]=>
     match zgr l h1 with
     |some h2=>yZ P nt (zI (zT P) (cFs (yI P)) sums srt n) n lf false B r1 h2 [] (fun e _ h3 d2=>
       match d2 with
       | []=>Go.CE.endR l e h3
       |_=>none)
     |none=>none
    |_,_=>none):=by
   funext n
   unfold zhp;rw[q3];simp only;rw[q4,ht];rfl
  have hlk':∀j,(lk j||Nat.beq j k)=true->j<os.length:=fun j hj=>by
   rcases Bool.or_eq_true_iff.1 hj with h|h
   .grind
   simp_all
  have hkk:(lk k||Nat.beq k k)=true:=by simp
  have ev:Ev (fun n=>zhp P (zI (zT P) (cFs (yI P)) sums srt n) n l vs N.h) (fun p=>∃a os',K a os'=some x/\∃N',N'.h=p.2/\Zd E N' os'/\Nx N N'/\(∀j,lk j=true->sameO (og os j) (og os' j))/\RepPA N' p.1 a):=by
   rw[run];refine zcV (E:=E) (N0:=N) (fk:=lf) hO hY A _ 0 ρ1 os N (wa t) [] _ (fun n e r1 h1 d1=>
    match e,d1 with
    | .normal,[]=>
     match zgr l h1 with
     |some h2=>yZ P nt (zI (zT P) (cFs (yI P)) sums srt n) n lf false B r1 h2 [] (fun e _ h3 d2=>
       match d2 with
       | []=>Go.CE.endR l e h3
       |_=>none)
     |none=>none
    |_,_=>none) e I Ft hlk' Dk.nil fun e1 ρ2 os2 N2 r2 d2 h1 h2 h3 h4 h5 _ hD=>?_
   cases e1 with
   |exit id=>cases h1
   |ret=>cases h1
   |normal=>
   simp only[zCu,Yzb]at h1;obtain rfl:=hD.em rfl;split at h1
   .rename_i nt2 ρ02 ps2 A2 B2 lbl2 ho2;have hs2:=h5 k hkk;rw[ho,ho2]at hs2;have heq:og os2 k=.lop nt ρ ps A B lbl (.int .i64 (.negSucc 0)):=by
     rcases hs2 with h|⟨_,_,_,_,_,_,n,h,h'⟩<;>grind
    have hR2:=h2.obj k;rw[heq]at hR2;obtain⟨l2,S2,pend2,lf2,lt2,psA2,ld2,w1,w2,w3,w4,w5,w6⟩:=hR2;have hmu2:N2.μ k=.yld l:=by rw[h4.mu k (by rw[I.len];exact hk),hl]
    rw[hmu2]at w1;cases w1;have hS2:S2=.ready/\pend2=none:=by
     rcases w5 with⟨_,h1,h2⟩|⟨h,_⟩|⟨_,e',_,hne,hc⟩
     .trivial
     .cases h
     cases e' with
     |normal=>trivial
     |ret=>cases hc
     |exit id=>trivial
    obtain⟨rfl,rfl⟩:=hS2;have hbeg:zgr l N2.h=some (N2.h.put l (.loop .busy none lf2 nt lt2 psA2 A B ld2)):=by grind[zgr]
    simp only[hbeg];have hnx0:Nx N2 ⟨N2.μ,N2.n,N2.fz,N2.h.put l (.loop .busy none lf2 nt lt2 psA2 A B ld2)⟩:=⟨⟨fun _ _ h _=>h,fun b o hf hg=>by grind[yN]⟩,LzB _,fun _ _=>rfl⟩
    obtain⟨I3,x3,_⟩:=h2.put (k:=k) (by rw[heq];trivial) (b:=l) (by rw[hmu2];rfl) (.loop .busy none lf2 nt lt2 psA2 A B ld2) (.lop nt ρ ps A B lbl (.int .i64 (.negSucc 1)))
     ⟨l,.busy,none,lf2,lt2,psA2,ld2,hmu2,w2,xh _ _ _,w4,.inr (.inl ⟨rfl,rfl,rfl⟩),fun i=>(w6 i).mono hnx0⟩
    have hlen2:os2.length=N2.n:=h2.len.symm;have hk2:k<os2.length:=vQ (by grind);refine zcV (E:=E) (N0:=⟨N2.μ,N2.n,N2.fz,N2.h.put l (.loop .busy none lf2 nt lt2 psA2 A B ld2)⟩) (fk:=lf) hO hY B _ (zbd A) ρ2 _ ⟨N2.μ,N2.n,N2.fz,N2.h.put l (.loop .busy none lf2 nt lt2 psA2 A B ld2)⟩ r2 [] _ (fun n e _ h3 d2=>
       match d2 with
       | []=>Go.CE.endR l e h3
       |_=>none) h1 I3 (fun i=>(h3 i).mono x3) (fun j hj=>by
      have h6:=hlk' j hj;have h7:=h4.le;rw[yd,hlen2];rw[I.len]at h7;omega) Dk.nil fun e4 ρ4 os4 N4 r4 d4 k1 k2 k3 k4 k5 _ kD=>?_
    obtain rfl:=kD.em rfl;have hs4:=k5 k hkk;rw[zF,Yzc ⟨rfl,hk2⟩]at hs4;have heq4:og os4 k=.lop nt ρ ps A B lbl (.int .i64 (.negSucc 1)):=by rcases hs4 with h|⟨_,_,_,_,_,_,n,h,h'⟩<;>grind
    have hR4:=k2.obj k;rw[heq4]at hR4;obtain⟨l4,S4,pend4,lf4,lt4,psA4,ld4,v1,v2,v3,v4,v5,v6⟩:=hR4;have hmu4:N4.μ k=.yld l:=by rw[k4.mu k (by grind)];exact hmu2
    rw[hmu4]at v1;cases v1;have hk4:k<os4.length:=vQ (by grind);have nx5:∀o,Nx N4 ⟨N4.μ,N4.n,N4.fz,N4.h.put l o⟩:=fun o=>⟨⟨fun _ _ h _=>h,fun b o hf hg=>by grind[yN]⟩,LzB _,fun _ _=>rfl⟩
    have fin:∀(S:LoopState) (pe:Option Zf),stR (.int .i64 (zyM e4)) S pe->Go.CE.endR l e4 N4.h=some (.s (.one (.bool (zCu e4))),N4.h.put l (.loop S pe lf4 nt lt4 psA4 A B ld4))->Ev (fun _=>Go.CE.endR l e4 N4.h) (fun p=>∃a os',K a os'=some x/\∃N',N'.h=p.2/\Zd E N' os'/\Nx N N'/\(∀j,lk j=true->sameO (og os j) (og os' j))/\RepPA N' p.1 a):=by
     intro S pe hst hend;rw[hend];obtain⟨I5,x5,_⟩:=k2.put (k:=k) (by rw[heq4];trivial) (b:=l) (by rw[hmu4];rfl) (.loop S pe lf4 nt lt4 psA4 A B ld4) (.lop nt ρ ps A B lbl (.int .i64 (zyM e4)))
      ⟨l,S,pe,lf4,lt4,psA4,ld4,hmu4,v2,xh _ _ _,v4,hst,fun i=>(v6 i).mono (nx5 _)⟩
     refine Ev.some ⟨_,_,k1,_,rfl,I5,((h4.trans x3).trans k4).trans x5,fun j hj=>?_,yS rfl⟩;by_cases hjk:j=k
     .subst hjk;rw[ho,zF,Yzc ⟨rfl,hk4⟩];cases e4 with
      |normal=>exact .refl _
      |ret=>exact .inr ⟨_,_,_,_,_,_,0,rfl,rfl⟩
      |exit id=>exact .inr ⟨_,_,_,_,_,_,id+1,rfl,rfl⟩
     have hj':(lk j||Nat.beq j k)=true:=by grind
     have a1:=h5 j hj';have a2:=k5 j hj';rw[zF,Yza (fun h=>hjk h.1)]at a2;rw[zF,Yza (fun h=>hjk h.1)];exact a1.trans a2
    cases e4 with
    |normal=>exact fin .ready none (.inl ⟨rfl,rfl,rfl⟩) (by unfold Go.CE.endR;rw[v3];rfl)
    |ret=>exact fin .done (some .ret) (.inr (.inr ⟨rfl,.ret,rfl,by simp,rfl⟩)) (by unfold Go.CE.endR;rw[v3];rfl)
    |exit id=>exact fin .done (some (.exit id)) (.inr (.inr ⟨rfl,.exit id,rfl,by simp,rfl⟩)) (by unfold Go.CE.endR;rw[v3];rfl)
   cases h1
  obtain⟨p,⟨a,os',q1,q2⟩,M,hM⟩:=ev;exact⟨a,os',q1,Ev.round ⟨p,q2,M,hM⟩⟩
 cases e
theorem zyk{sums:List Sum}{O:Orc}{tab:Nat->Bool}{Y:Inl}{an:Nat->List PA->Nat->Nat->Option LA}{R:Red}(hO:zaj O (fun n=>zI (zT P) (cFs (yI P)) sums R.s n))(hY:Zs tab Y (fun n=>zI (zT P) (cFs (yI P)) sums R.s n))(hs:∀g,tab g=true->∀s∈sums,Nat.beq g s.g=false)
  {β:Type} {E:En} {lk:Nat->Bool} {N:Nm} {os:List PO} {g j:Nat} {az:List PA} {vs:List Zb} {K:PA->List PO->Option β} {x:β} (ht:tab g=true) (I:Zd E N os) (RR:RepPAL N vs (pc (.own j)::az)) (e:zD8 P O tab Y an R g lk (pc (.own j)::az) os K=some x):
  ∃a os',K a os'=some x/\Ev (fun n=>zI (zT P) (cFs (yI P)) sums R.s n (.inl g) vs N.h) (fun p=>∃N',N'.h=p.2/\Sim E lk N os [j] N' os' p.1 a):=by
 unfold zD8 at e;simp only at e;cases ho:og os j with
 |arr st v=>
  rw[ho]at e;simp only at e;cases hlj:lk j
  case true=>grind
  rw[hlj]at e;simp only[Yzd]at e;rcases hfa:frA (fun i=>lk i||Nat.beq i j) os az with _|q
  .grind
  obtain⟨os1,ds⟩:=q;rw[hfa]at e;simp only at e;cases hT:R.s g
  case some=>grind
  rw[hT]at e;simp only at e
  match vs,RR with
  | [],RR=>trivial
  |v0::vr,RR=>
  obtain⟨w0,rfl,hjn,hw0⟩:=yc RR.1;subst hw0;obtain⟨N1,f1,S1,rds⟩:=znX (lk:=fun i=>lk i||Nat.beq i j) I RR.2 hfa;have hoj1:og os1 j=.arr st v:=(S1.lock j (by simp)).trans ho;have I1:=S1.inv;have hh:N1.h=N.h:=f1.h;have hμ:N1.μ=N.μ:=f1.μ;have hjl1:j<os1.length:=vQ (by grind);have hO1:=I1.obj j;rw[hoj1]at hO1;have hnfb:∀b,blk (N.μ j)=some b->¬N1.fz b/\v≠none/\∃y,N.h.t.get b=some y:=fun b hb=>by
   rcases v with _|xs
   .rw[<-hμ,show N1.μ j=.nils from hO1]at hb;cases hb
   obtain⟨b',ws,ex,h1,h2,h3,_⟩:=hO1;rw[<-hμ,h1]at hb;cases hb<;>grind
  have hlive:∀b,blk (N.μ j)=some b->live (og os1 j):=fun b hb=>by
   rw[hoj1];rcases v with _|xs
   .grind
   trivial
  rcases hf:P.funcs[g]? with _|fn
  .grind
  rw[hf]at e;simp only at e;rcases hb:fn.body with _|c
  .grind
  rw[hb]at e;simp only at e;cases hc:((zje P fn.results.toList).isNone||fn.name == "runtime.NumGoroutine")
  case true=>grind
  rw[hc]at e;simp only[Yzd]at e;cases hl:Nat.ble (pc (.own j)::az).length fn.ntmps
  .grind
  rw[hl]at e;simp only[Yzb]at e;have hll:=Lz4 hl
  let E0:En:=⟨N.h,N1.fz,fun b=>blk (N.μ j)=some b⟩
  let N0:Nm:=⟨fun _=>N.μ j,1,N1.fz,N.h⟩
  have hfzlt:∀b,N1.fz b->b.toNat<N.h.n.toNat:=fun b hb=>by rw[<-hh];exact I1.fzlt b hb
  have g0:∀k,live (og [PO.arr st v] k)->k=0:=fun k hl=>by
   cases k with
   |zero=>rfl
   |succ k=>trivial
  have I0:Zd E0 N0 [.arr st v]:=⟨I.hw,.refl,hfzlt,fun b hb=>.inl hb,fun b hb=>.inl (hfzlt b hb),rfl,fun k b _ hb=>.inr hb,fun k k' b hl hl' _ _=>(g0 k hl).trans (g0 k' hl').symm,fun k=>by
   cases k with
   |zero=>exact RepO.arr_re (N1:=N1) (N2:=N0) (show N.μ j=N1.μ j by rw[hμ]) rfl hh.symm hO1
   |succ k=>exact trivial,fun t m h=>by
   cases t with
   |zero=>cases h
   |succ t=>cases h⟩
  have rds0:RepAL N0.fz N0.h vr ds:=by grind
  have RR0:RepPAL N0 (.s (.one (N.μ j))::vr) (pc (.own 0)::ds.map PE.paOf):=⟨yY (p:=.own 0) ⟨Nat.zero_lt_one,rfl⟩,RepPAL.ofA rds0⟩;obtain⟨F0,hlen⟩:=znT (_fn:=fn) RR0;have hlen2:(Zb.s (.one (N.μ j))::vr).length<=fn.ntmps:=by
   have:=RR.2;have hla:∀{a:List Zb} {b:List PA},RepPAL N a b->a.length=b.length:=by
    intro a
    induction a with
    |nil=>intro b H;cases b with|nil=>rfl|cons _ _=>trivial
    |cons _ _ ih=>intro b H;cases b with|nil=>trivial|cons _ _=>simp[ih H.2]
   grind
  have run:(fun n=>znI P g (zI (zT P) (cFs (yI P)) sums R.s n) n (.s (.one (N.μ j))::vr) N.h)=fun n=>yZ P fn.ntmps (zI (zT P) (cFs (yI P)) sums R.s n) n g true c (wa (w7 .z .nil (.s (.one (N.μ j))::vr))) N.h [] (zi0 P fn.results.toList):=by
   funext n
   unfold znI;rw[hf];simp only[hb,hc,Yzd];simp_all[zix]
  have ev:Ev (fun n=>yZ P fn.ntmps (zI (zT P) (cFs (yI P)) sums R.s n) n g true c (wa (w7 .z .nil (.s (.one (N.μ j))::vr))) N.h [] (zi0 P fn.results.toList))
    (fun p=>∃d fz2,K (PE.paOf d) (oset .dead os1 j)=some x/\HW p.2/\GrX E0 p.2/\(∀b,fz2 b->N1.fz b\/E0.nw b)/\RepA fz2 p.2 p.1 d):=by
   refine zcV (E:=E0) hO hY c (fun _=>false) 0 (zdV (pc (.own 0)::ds.map PE.paOf)) [.arr st v] N0 _ [] _ (fun _=>zi0 P fn.results.toList) e I0 F0 (fun j hj=>by cases hj) (Dk.nil (N0:=N0)) fun ex ρ1 os2 N2 r1 d1 h1 h2 h3 h4 _ _ hD=>?_;obtain⟨N2,hsh,h2,h3,h4⟩:=zhX hD h2 h3;have fin:∀l os3,zaq P (fun _=>false) ρ1 os2 fn.results.toList=some (l,os3)->K (PE.paOf (zzn l)) (oset .dead os1 j)=some x->Ev (fun _=>zb4 N2.h (zbZ P r1 N2.h fn.results.toList)) (fun p=>∃d fz2,K (PE.paOf d) (oset .dead os1 j)=some x/\HW p.2/\GrX E0 p.2/\(∀b,fz2 b->N1.fz b\/E0.nw b)/\RepA fz2 p.2 p.1 d):=by intro l os3 hl hd;obtain⟨N3,svs,f3,i3,x3,_,k3,R3⟩:=zar (P:=P) h2 h3 hl;obtain⟨v,g1,g2⟩:=zn2 (h:=N2.h) R3;rw[k3,g1];exact Ev.some ⟨zzn l,N3.fz,hd,h2.hw,h2.gr,fun b hb=>i3.fzok b hb,by rw[<-f3.h];exact g2⟩
   cases ex<;>grind[zyH,zi0]
  obtain⟨⟨v9,h9⟩,⟨d,fz2,hK,hw9,gr9,hfz2,rep9⟩,M,hM⟩:=ev;simp only at hw9 gr9 rep9;refine⟨PE.paOf d,oset .dead os1 j,hK,Ev.call hT (zbn (hs g ht)) ?_⟩;rw[run];refine⟨(v9,h9),?_,M,hM⟩;have keep:∀b,b.toNat<N.h.n.toNat->blk (N.μ j)≠some b->h9.t.get b=N.h.t.get b:=fun b hb hne=>gr9.old b hb hne;have hle9:N.h.n.toNat<=h9.n.toNat:=gr9.le
  let fz9:BN->Prop:=fun b=>N1.fz b\/((N.h.n.toNat<=b.toNat\/blk (N.μ j)=some b)/\∃y,h9.t.get b=some y)
  let N':Nm:=⟨N.μ,N.n,fz9,h9⟩
  have nx1:Nx N1 N':=⟨⟨fun _ _ h _=>.inl h,fun b o hf hy=>by grind⟩,by rw[f1.n];exact LzB _,fun k _=>by rw[hμ]⟩
  have own1:∀k b,live (og os1 k)->blk (N.μ k)=some b->E.nw b:=fun k b hl hb=>I1.own k b hl (by grind);have inv':Zd E N' (oset .dead os1 j):=by
   have lv:∀k,live (og (oset .dead os1 j) k)->k≠j/\live (og os1 k):=fun k hl=>by
    by_cases hk:k=j
    .subst hk;rw[zF,Yzc ⟨rfl,hjl1⟩]at hl;trivial
    simp_all[zF]
   refine⟨hw9,⟨Yzl I.gr.le hle9,fun b hb hx=>?_⟩,fun b hb=>?_,fun b hb=>?_,fun b hb=>?_,by show N.n=_;rw[yd,<-I1.len,f1.n],fun k b hl hb=>own1 k b (lv k hl).2 hb,fun k k' b hl hl' hb hb'=>I1.inj k k' b (lv k hl).2 (lv k' hl').2 (by grind) (by grind),fun k=>?_,fun t m htm=>?_⟩
   .have hbn:=Lz9 hb I.gr.le;rw[show N'.h.t.get b=h9.t.get b from rfl,keep b hbn (fun hbj=>by
     rcases own1 j b (hlive b hbj) hbj with h|h<;>grind)]
    exact I.gr.old b hb hx
   .rcases hb with hb|⟨_,y,hy⟩
    .grind
    exact hw9 b y hy
   .rcases hb with hb|⟨hb|hb,_⟩
    .exact I1.fzok b hb
    .exact .inr (.inl (Yzl I.gr.le hb))
    grind
   .rcases hb with hb|⟨_,hy⟩
    .refine (I1.fzex b hb).imp id fun⟨y,hy⟩=>⟨y,?_⟩
     grind
    grind
   .by_cases hk:k=j
    .subst hk;rw[zF,Yzc ⟨rfl,hjl1⟩];trivial
    rw[zF,Yza (fun h=>hk h.1)];refine (I1.obj k).mono nx1 (by rw[hμ]) fun htd b hb=>?_;obtain⟨b1,x1,k1,k2,k3⟩:=wb htd (I1.obj k);rw[k1]at hb;cases hb;have hblt:b.toNat<N.h.n.toNat:=by rw[hh]at k3;exact I.hw _ _ k3
    have hne:blk (N.μ j)≠some b:=fun hbj=>by
     rcases htd with hl|⟨m,hm⟩
     .exact hk (I1.inj k j b hl (hlive b hbj) k1 (by grind))
     obtain⟨k',v',n',q1,q2⟩:=I1.lnk_blk hm;have:=I1.inj k' j b (by rw[q1];trivial) (hlive b hbj) (by grind) (by grind)
     grind
    grind
   by_cases hk:t=j
   .subst hk;rw[zF,Yzc ⟨rfl,hjl1⟩]at htm;cases htm
   rw[zF,Yza (fun h=>hk h.1)]at htm;obtain⟨k',v',n',q⟩:=I1.lnk t m htm;exact⟨k',v',n',by rw[zF,Yza (fun h=>by grind)];exact q⟩
  refine⟨N',rfl,inv',S1.nx.trans nx1,⟨hle9,fun b hb H=>?_⟩,fun i hi=>?_,S1.ho.trans (w1:=[]) (w2:=[j]) (.oset (fun h=>h.elim) (fun _=>.inr (YzA j)) (fun h=>h.elim)),RepPA.paOf (rep9.mono ⟨fun b o hb hy=>?_,fun _ _ _ hy=>hy⟩)⟩
  .grind
  .rw[zF,Yza (fun h=>by grind)];exact S1.lock i (by simp[hi])
  rcases hfz2 b hb with h|h|h<;>grind
 |_=>grind
theorem zBg{sums:List Sum}{O:Orc}{tab:Nat->Bool}{an:Nat->List PA->Nat->Nat->Option LA}{R:Red}(hR:zyY tab R (fun n=>zI (zT P) (cFs (yI P)) sums R.s n))(hO:zaj O (fun n=>zI (zT P) (cFs (yI P)) sums R.s n))(hs:∀g,tab g=true->∀s∈sums,Nat.beq g s.g=false)(hG:∀g,tab g=true->Nat.ble zk4 g=false):
  ∀k,Zs tab (inl P O tab an R k) (fun n=>zI (zT P) (cFs (yI P)) sums R.s n):=by
 intro k
 induction k with
 |zero=>
  refine⟨?_,?_,?_⟩
  .intro β E lk N os g az vs K x _ _ _ _ e;cases e
  .intro β E lk N os g j az vs K x _ _ _ e;cases e
  intro β E lk N os k nt lbl ρ ps A B st l az vs K x _ _ _ _ _ e;cases e
 |succ k ihk=>
  have hG':∀g,tab g=true->Nat.ble zji g=false/\Nat.ble zji (zk4+g)=false:=fun g hg=>by grind[zk4,Yzg,zji,Lz4]
  refine⟨?_,?_,?_⟩
  rotate_left
  rotate_left
  .intro β E lk N os k' nt lbl ρ ps A B st l az vs K x ho hl I RR hlk e;simp only[inl]at e;rw[Yzg (Nat.le_add_right zji k'),Yzb,show Nat.sub (zji+k') zji=k' from Nat.add_sub_cancel_left _ _]at e
   grind[zyj]
  rotate_left
  .intro β E lk N os g j az vs K x ht I RR e;simp only[inl]at e;rw[(hG' g ht).2,Yzd]at e;rw[Yzg (Nat.le_add_right zk4 g),Yzb,show Nat.sub (zk4+g) zk4=g from Nat.add_sub_cancel_left _ _]at e
   grind[zyk]
  intro β E lk N os g az vs K x ht I RR hlk e;simp only[inl]at e;rw[(hG' g ht).1,Yzd,hG g ht,Yzd]at e;cases hT:R.s g with
  |some t=>rw[hT]at e;obtain⟨a,os',g1,g2⟩:=zwP hT I RR hlk e;exact⟨a,os',g1,g2.mono fun p ⟨N',a1,a2,a3,a4,a5⟩=>⟨N',a1,a2,a3,fun j hj=>.of (a4 j hj),a5⟩⟩
  |none=>
  rw[hT]at e;simp only at e;cases hr:R.r g az with
  |some q=>
   obtain⟨b,g',as'⟩:=q;rw[hr]at e;cases b
   .cases e
   obtain⟨ht',vs',r',h'⟩:=hR hr RR;obtain⟨a,os',q1,q2⟩:=ihk.o ht' I r' hlk e;refine⟨.tup [],os',q1,(h' _ q2).mono ?_⟩
   rintro⟨v,h1⟩ ⟨e1,w,N',e2,i2,x2,l2,_⟩
   cases e1;exact⟨N',e2,i2,x2,l2,trivial⟩
  |none=>
  rw[hr]at e;simp only at e;rcases hf:P.funcs[g]? with _|fn
  .grind
  rw[hf]at e;simp only at e;rcases hb:fn.body with _|c
  .grind
  rw[hb]at e;simp only at e;cases hc:((zje P fn.results.toList).isNone||fn.name == "runtime.NumGoroutine")
  case true=>grind
  rw[hc]at e;simp only[Yzd]at e;cases hl:Nat.ble az.length fn.ntmps
  .grind
  rw[hl]at e;simp only[Yzb]at e;have hll:=Lz4 hl;obtain⟨F0,hlen⟩:=znT (_fn:=fn) RR;have run:(fun n=>znI P g (zI (zT P) (cFs (yI P)) sums R.s n) n vs N.h)=fun n=>yZ P fn.ntmps (zI (zT P) (cFs (yI P)) sums R.s n) n g true c (wa (w7 .z .nil vs)) N.h [] (zi0 P fn.results.toList):=by
   funext n
   unfold znI;rw[hf];simp only[hb,hc,Yzd];simp_all[zix]
  have ev:Ev (fun n=>yZ P fn.ntmps (zI (zT P) (cFs (yI P)) sums R.s n) n g true c (wa (w7 .z .nil vs)) N.h [] (zi0 P fn.results.toList)) (fun p=>∃a os' N',K a os'=some x/\N'.h=p.2/\Zd E N' os'/\Nx N N'/\(∀j,lk j=true->sameO (og os j) (og os' j))/\RepPA N' p.1 a):=by
   refine zcV (E:=E) hO ihk c lk 0 (zdV az) os N _ [] _ (fun _=>zi0 P fn.results.toList) e I F0 hlk (Dk.nil (N0:=N)) fun ex ρ1 os1 N1 r1 d1 h1 h2 h3 h4 h5 _ hD=>?_;obtain⟨N1,hsh,h2,h3,h4⟩:=zhX hD h2 h3;cases ex with
   |exit id=>cases h1
   |normal=>
    simp only at h1;rcases hr:zAi P (an g [] 0 999).isSome lk ρ1 os1 fn.results.toList with _|q
    .grind
    obtain⟨a,os2⟩:=q;rw[hr]at h1;obtain⟨N2,svs,v,g1,g2,g3,g4,g5,g6,g7⟩:=zqJ (P:=P) h2 h3 hr;show Ev (fun _=>zi0 P fn.results.toList _ r1 _ d1) _;simp only[zi0,hsh];rw[g5,g6];exact Ev.some ⟨a,os2,N2,h1,g1,g2,h4.trans g3,fun j hj=>(h5 j hj).trans (.of (g4 j hj)),g7⟩
   |ret=>
    simp only at h1;rcases hr:zAi P (an g [] 0 999).isSome lk ρ1 os1 fn.results.toList with _|q
    .grind
    obtain⟨a,os2⟩:=q;rw[hr]at h1;obtain⟨N2,svs,v,g1,g2,g3,g4,g5,g6,g7⟩:=zqJ (P:=P) h2 h3 hr;show Ev (fun _=>zi0 P fn.results.toList _ r1 _ d1) _;simp only[zi0,hsh];rw[g5,g6];exact Ev.some ⟨a,os2,N2,h1,g1,g2,h4.trans g3,fun j hj=>(h5 j hj).trans (.of (g4 j hj)),g7⟩
  obtain⟨p,⟨a,os',N',q1,q2,q3,q4,q5,q6⟩,M,hM⟩:=ev;refine⟨a,os',q1,Ev.call hT (zbn (hs g ht)) ?_⟩;rw[run];exact⟨p,⟨N',q2,q3,q4,q5,q6⟩,M,hM⟩
theorem zxj{sums:List Sum}{R:Red}{O:Orc}{tab:Nat->Bool}{Y:Inl}{an:Nat->Option LA}{g:Nat}{args:List DA}{res:DA}(hO:zaj O (fun n=>zI (zT P) (cFs (yI P)) sums R.s n))(hY:Zs tab Y (fun n=>zI (zT P) (cFs (yI P)) sums R.s n))(hs:∀s∈sums,Nat.beq g s.g=false)(hT:R.s g=none)
  (e:zxk P O tab Y an g args=some res):zaP (fun n=>zI (zT P) (cFs (yI P)) sums R.s n) g args res:=by
 intro fz h vs hw hfz hrep;obtain⟨hlen,hget⟩:=hrep.get;have hfs:xG g vs h sums=none:=by
  clear hrep hlen hget e hO hY
  induction sums<;>simp_all[xG]
 refine Ev.call hT hfs ?_;unfold zxk at e;rcases hf:P.funcs[g]? with _|fn
 .grind
 rw[hf]at e;simp only at e;rcases hb:fn.body with _|c
 .grind
 rw[hb]at e;simp only at e;cases hc:((zje P fn.results.toList).isNone||fn.name == "runtime.NumGoroutine")
 case true=>grind
 rw[hc]at e;simp only[Yzd]at e;cases hl:Nat.ble args.length fn.ntmps
 .grind
 rw[hl]at e;simp only[Yzb]at e;have hll:=Lz4 hl;have run:(fun n=>znI P g (zI (zT P) (cFs (yI P)) sums R.s n) n vs h)=fun n=>yZ P fn.ntmps (zI (zT P) (cFs (yI P)) sums R.s n) n g true c (wa (w7 .z .nil vs)) h [] (zi0 P fn.results.toList):=by
  funext n
  unfold znI;rw[hf];simp only[hb,hc,Yzd];simp_all[zix]
 rw[run]
 let E0:En:=⟨h,fz,fun _=>False⟩
 let N0:Nm:=⟨fun _=>.nilp,0,fz,h⟩
 have I0:Zd E0 N0 []:=⟨hw,.refl,hfz,fun b hb=>.inl hb,fun b hb=>.inl (hfz b hb),rfl,fun k b hl=>hl.elim,fun k k' b hl=>hl.elim,fun k=>trivial,fun t m h=>(by cases h)⟩;have F0:∀i,RepPA N0 (wa (w7 .z .nil vs) i) (zn8 args i):=fun i=>by
  rw[zhs];unfold zn8;rcases ha:args[i]? with _|a
  .trivial
  grind[RepPA.paOf]
 refine zcV (E:=E0) hO hY c (fun _=>false) 0 (zn8 args) [] N0 _ [] (zyH P fn.results.toList) (fun _=>zi0 P fn.results.toList) e I0 F0 (fun j hj=>by cases hj) (Dk.nil (N0:=N0)) fun ex ρ1 os1 N1 r1 d1 h1 h2 h3 h4 _ _ hD=>?_;obtain⟨N1,hsh,h2,h3,h4⟩:=zhX hD h2 h3;have fin:∀l os2,zaq P (fun _=>false) ρ1 os1 fn.results.toList=some (l,os2)->zzn l=res->Ev (fun _=>zb4 N1.h (zbZ P r1 N1.h fn.results.toList)) (fun p=>HW p.2/\Gr h p.2/\RepA (fzN fz h p.2) p.2 p.1 res):=by
  intro l os2 hl hd;obtain⟨N2,svs,f2,i2,x2,_,k2,R2⟩:=zar (P:=P) h2 h3 hl;obtain⟨v,g1,g2⟩:=zn2 (h:=N1.h) R2;rw[k2,g1];refine Ev.some ⟨h2.hw,⟨h2.gr.le,fun b hb=>h2.gr.old b hb id⟩,?_⟩;rw[<-hd,<-f2.h];refine g2.mono ⟨fun b _ hb _=>?_,fun _ _ _ h=>h⟩;rcases i2.fzok b hb with h'|h'
  .exact .inl h'
  exact .inr ⟨h'.elim id False.elim,i2.fzlt b hb⟩
 cases ex with
 |exit id=>cases h1
 |normal=>
  simp only[zyH]at h1;rcases hl:zaq P (fun _=>false) ρ1 os1 fn.results.toList with _|q
  .grind
  obtain⟨l,os2⟩:=q;rw[hl]at h1;cases h1;simp only[zi0,hsh];grind
 |ret=>
  simp only[zyH]at h1;rcases hl:zaq P (fun _=>false) ρ1 os1 fn.results.toList with _|q
  .grind
  obtain⟨l,os2⟩:=q;rw[hl]at h1;cases h1;simp only[zi0,hsh];grind
end
end Go.PE
end
section
namespace Go.PE
open Go Go.CE
end Go.PE
end
section
namespace Go.PE
open Go Go.CE
section
variable (P:Program) (sums:List CE.Sum) (B:Orc) (an:Nat->Nat->Option LA) (tab:Nat->Bool) (anI:Nat->Nat->List PA->Nat->Nat->Option LA) (R:Red) (d:Nat)
noncomputable def deep:Nat->Orc
 |0=>B
 |k+1=>fun g args=>
  match B g args with
  |some r=>some r
  |none=>bif sums.all (fun s=>!Nat.beq g s.g)&&(R.s g).isNone then zxk P (deep k) tab (inl P (deep k) tab (anI g) R d) (an g) g args else none
end
section
variable {P:Program} {B:Orc} {an:Nat->Nat->Option LA} {sums:List CE.Sum} {tab:Nat->Bool} {anI:Nat->Nat->List PA->Nat->Nat->Option LA} {R:Red} {d:Nat}
theorem zi5(hR:zyY tab R (fun n=>zI (zT P) (cFs (yI P)) sums R.s n))(hT:∀g,tab g=true->∀s∈sums,Nat.beq g s.g=false)(hG:∀g,tab g=true->Nat.ble zk4 g=false)(hB:zaj B (fun n=>zI (zT P) (cFs (yI P)) sums R.s n)):∀k,zaj (deep P sums B an tab anI R d k) (fun n=>zI (zT P) (cFs (yI P)) sums R.s n)
 |0=>hB
 |k+1=>fun g args res e=>by
  simp only[deep]at e;split at e
  .rename_i r hr;cases e;exact hB g args _ hr
  cases hs:(sums.all (fun s=>!Nat.beq g s.g)&&(R.s g).isNone)
  .grind
  rw[hs]at e;rw[LzC,YzJ]at hs;exact zxj (zi5 hR hT hG hB k) (zBg hR (zi5 hR hT hG hB k) hT hG d) (fun s h=>by grind) (Option.isNone_iff_eq_none.1 hs.2) e
theorem zdn{k g:Nat}{args:List DA}{r:DA}(h:B g args=some r):deep P sums B an tab anI R d k g args=some r:=by cases k<;>simp_all[deep]
theorem zbr{k g:Nat}{args:List DA}(h:B g args=none)(hs:sums.all (fun s=>!Nat.beq g s.g)=true)(hr:(R.s g).isNone=true:=by rfl):deep P sums B an tab anI R d (k+1) g args=zxk P (deep P sums B an tab anI R d k) tab (inl P (deep P sums B an tab anI R d k) tab (anI g) R d) (an g) g args:=by simp only[deep,h,hs,hr,Bool.and_self,Yzb]
end
end Go.PE
end
section
namespace Go.PE
open Go Go.CE
abbrev I6(n:Int):DV:=.int .i64 n
theorem xR(k:IntKind):eqK k k=true:=by cases k<;>rfl
theorem wrap64{n:Int}(h1:-9223372036854775808<=n)(h2:n<=9223372036854775807):xV .i64 n=n:=by
 cases n with
 |ofNat m=>
  show (bif Nat.ble m 9223372036854775807 then(Int.ofNat m) else IntKind.wrap .i64 (.ofNat m))=_
  grind[Yzg]
 |negSucc m=>
  show (bif Nat.ble m 9223372036854775807 then(Int.negSucc m) else IntKind.wrap .i64 (.negSucc m))=_
  grind[Yzg]
section
variable (k:IntKind) (a b:Int)
theorem zi:zc .lss (.int k a) (.int k b)=some (.bool (decide (a<b))):=by simp_all[zc,xR,qD,zyC,oD,x4]
theorem wV:zc .leq (.int k a) (.int k b)=some (.bool (decide (a<=b))):=by simp_all[zc,xR,qD,zFj,oD,zeo]
theorem zW:zc .gtr (.int k a) (.int k b)=some (.bool (decide (b<a))):=by simp_all[zc,xR,qD,zzl,oD,x4]
theorem xD:zc .geq (.int k a) (.int k b)=some (.bool (decide (b<=a))):=by simp_all[zc,xR,qD,zBz,oD,zeo]
theorem xO:zc .eql (.int k a) (.int k b)=some (.bool (a==b)):=by simp_all[zc,xR,qD,zCy,oD,uV]
theorem z7:zc .neq (.int k a) (.int k b)=some (.bool (!(a==b))):=by simp_all[zc,xR,qD,zFi,oD,uV]
theorem zuh:zc .add (.int k a) (.int k b)=some (.int k (xV k (a+b))):=by simp_all[zc,xR,qD,zvg,oD]
theorem zii:zc .sub (.int k a) (.int k b)=some (.int k (xV k (a-b))):=by simp only[zc,xR,Yzb,qD,zBx,oD];rfl
theorem zug:zc .mul (.int k a) (.int k b)=some (.int k (xV k (a*b))):=by simp_all[zc,xR,qD,zve,oD]
theorem zCl(h:b≠0):zc .quo (.int k a) (.int k b)=some (.int k (xV k (a.tdiv b))):=by
 have:(b==0)=false:=by grind
 simp only[zc,xR,Yzb,qD,zyB,uV,this,Yzd,oD]
theorem zeN(h:b≠0):zc .rem (.int k a) (.int k b)=some (.int k (a.tmod b)):=by
 have:(b==0)=false:=by grind
 simp only[zc,xR,Yzb,qD,zyA,uV,this,Yzd,oD]
theorem zg7(h1:-9223372036854775808<=a+b)(h2:a+b<=9223372036854775807):zc .add (I6 a) (I6 b)=some (I6 (a+b)):=by grind[zuh,wrap64]
theorem zo6(h1:-9223372036854775808<=a-b)(h2:a-b<=9223372036854775807):zc .sub (I6 a) (I6 b)=some (I6 (a-b)):=by grind[zii,wrap64]
theorem zxm(k':IntKind)(h1:-9223372036854775808<=a)(h2:a<=9223372036854775807):zx .i64 (.int k' a)=some (I6 a):=by
 show some (DV.int .i64 (xV .i64 a))=_
 grind[wrap64]
end
theorem zm{β:Type}(q:Bool)(a b:Option β):ifB (.bool q) a b=if q=true then a else b:=by cases q<;>rfl
theorem zb{α β:Type}(a:α)(k:α->Option β):za (some a) k=k a:=rfl
theorem zR{β:Type}(d:DV)(k:DV->Option β):b1 (some (.s (.one d))) k=k d:=rfl
theorem zBQ{β:Type}(b:Bool)(k:DV->Option β):b1s (some (.s (.one (.bool b)))) k=k (.bool b):=rfl
theorem zEA{β:Type}(t:IntKind)(n:Int)(k:DV->Option β):b1s (some (.s (.one (.int t n)))) k=k (.int t n):=rfl
theorem zyQ{β:Type}(l:List DV)(k:List DV->Option β):bA l.length (some (.s (.agg l))) k=k l:=by show (bif Nat.beq l.length l.length then k l else none)=_;simp
end Go.PE
end
section
namespace Go.PE
open Go Go.CE
abbrev U8(n:Int):DV:=.int .u8 n
abbrev U64(n:Int):DV:=.int .u64 n
abbrev S1(d:DV):DA:=.s (.one d)
abbrev SA(l:List DV):DA:=.s (.agg l)
abbrev Bo(b:Bool):DV:=.bool b
abbrev St(s:ByteArray):DV:=.str s
attribute [simp] zi wV zW xD xO z7 zb zR zm
@[simp] theorem zzp{α β:Type}(k:α->Option β):za none k=none:=rfl
@[simp] theorem zEB{β:Type}(k:DV->Option β):b1 none k=none:=rfl
@[simp] theorem xI(q:Bool):zbG (.bool q)=some (.bool (!q)):=rfl
@[simp] theorem zAp:zV .nils=some (I6 0):=rfl
@[simp] theorem zuf(st:Nat)(xs:List (List DV)):zV (.lst st xs)=some (I6 (xs.length:Int)):=rfl
@[simp] theorem zCk(st:Nat)(v:OC):zV (mkL st v)=some (I6 (xH v:Int)):=by cases v<;>rfl
@[simp] theorem zze:zdA .nils=some true:=rfl
@[simp] theorem zAm(st:Nat)(xs:List (List DV)):zdA (.lst st xs)=some false:=rfl
@[simp] theorem zxl(st:Nat):yq st .nils=some []:=rfl
@[simp] theorem zzg(st:Nat)(xs:List (List DV)):yq st (.lst st xs)=some xs:=by show (bif Nat.beq st st then some xs else none)=_;rw[Yzq];rfl
@[simp] theorem zzf(st:Nat)(v:OC):yq st (mkL st v)=some (z5 v):=by cases v<;>simp[mkL,z5]
@[simp] theorem zfr(s:ByteArray):zo5 (.str s)=some (I6 (s.size:Int)):=rfl
@[simp] theorem zAw(n:Nat):Int.ofNat n=(n:Int):=rfl
@[simp] theorem zAZ:xH none=0:=rfl
@[simp] theorem k8(xs:List (List DV)):xH (some xs)=xs.length:=rfl
@[simp] theorem zyI:z5 none=[]:=rfl
@[simp] theorem zcy(xs:List (List DV)):z5 (some xs)=xs:=rfl
@[simp] theorem zCt(st:Nat):mkL st none=.nils:=rfl
@[simp] theorem zCs(st:Nat)(xs:List (List DV)):mkL st (some xs)=.lst st xs:=rfl
@[simp] theorem uZ(v:OC):zP v []=v:=rfl
@[simp] theorem zBS(v:OC)(x:List DV)(l:List (List DV)):zP v (x::l)=some (z5 v++(x::l)):=rfl
@[simp] theorem xM{β:Type}(k:Option β):gd true k=k:=rfl
@[simp] theorem yi{β:Type}(id:Nat)(L:List DV)(M:List OC)(kx:Nat->List DV->List OC->Option β)(kr:List DV->List OC->Option β):yP (some (.exit id,L,M)) kx kr=kx id L M:=rfl
@[simp] theorem zrV{β:Type}(L:List DV)(M:List OC)(kx:Nat->List DV->List OC->Option β)(kr:List DV->List OC->Option β):yP (some (.ret,L,M)) kx kr=kr L M:=rfl
@[simp] theorem zA(d:DV)(l:List DV):zf (d::l) 0=d:=rfl
@[simp] theorem yJ(d:DV)(l:List DV)(n:Nat):zf (d::l) (n+1)=zf l n:=rfl
@[simp] theorem yU(d:OC)(l:List OC):yf (d::l) 0=d:=rfl
@[simp] theorem uC(d:OC)(l:List OC)(n:Nat):yf (d::l) (n+1)=yf l n:=rfl
@[simp] theorem y4(d:DV)(l:List DV):atD (d::l) 0=d:=rfl
@[simp] theorem ww(d:DV)(l:List DV)(n:Nat):atD (d::l) (n+1)=atD l n:=rfl
@[simp] theorem zsN(d:DS)(l:List DS):yR (d::l) 0=d:=rfl
@[simp] theorem zFn(d:DS)(l:List DS)(n:Nat):yR (d::l) (n+1)=yR l n:=rfl
@[simp] theorem zmg(d:DV):dsO (.one d)=d:=rfl
@[simp] theorem zEq(l:List DV):dsA (.agg l)=l:=rfl
theorem zEz{β:Type}{n:Nat}{l:List DV}(h:l.length=n)(k:List DV->Option β):bA n (some (.s (.agg l))) k=k l:=by grind[zyQ]
@[simp] theorem zEy{β:Type}(r:DA)(k:Option β):bN (some r) k=k:=rfl
@[simp] theorem zDp:okT [] []=true:=rfl
@[simp] theorem zDo(shs:List (Option Nat))(d:DV)(l:List DS):okT (none::shs) (.one d::l)=okT shs l:=rfl
@[simp] theorem zDq(shs:List (Option Nat))(n:Nat)(ds:List DV)(l:List DS):okT (some n::shs) (.agg ds::l)=(Nat.beq ds.length n&&okT shs l):=rfl
@[simp] theorem zCj(k:IntKind)(n:Int):zAn (.int k n)=some (.int k (xV k (-n))):=by show some (DV.int k (xV k (0-n)))=_;rw[Int.zero_sub]
theorem xf{b n:Nat}(hb:b<=4096)(h:n<=1000000000):fits b n=true:=by
 unfold fits;rw[LzC,Nat.ble_eq,Nat.ble_eq];refine⟨?_,by omega⟩;have:n*b<=1000000000*4096:=Nat.mul_le_mul h hb
 grind
theorem zjs(n:Int):xV .u64 n=n % 18446744073709551616:=wO .u64 n
theorem ztF(n:Int):xV .u8 n=n % 256:=wO .u8 n
theorem yG{a b:Int}(h1:-9223372036854775808<=a+b:=by omega)(h2:a+b<=9223372036854775807:=by omega):zc .add (I6 a) (I6 b)=some (I6 (a+b)):=zg7 a b h1 h2
theorem zci{a b:Int}(h1:-9223372036854775808<=a-b:=by omega)(h2:a-b<=9223372036854775807:=by omega):zc .sub (I6 a) (I6 b)=some (I6 (a-b)):=zo6 a b h1 h2
theorem zlF{a b:Int}(h1:-9223372036854775808<=a*b)(h2:a*b<=9223372036854775807):zc .mul (I6 a) (I6 b)=some (I6 (a*b)):=by grind[zug,wrap64]
theorem vN{k:IntKind}{a:Int}(h1:-9223372036854775808<=a:=by omega)(h2:a<=9223372036854775807:=by omega):zx .i64 (.int k a)=some (I6 a):=zxm a k h1 h2
theorem zxi(k:IntKind)(a b:Int):jI false (.int k a) [.int k b]=some (.int k (min a b)):=by
 simp only[jI,minD,xR,Yzb,Yzd,x4]
 grind
theorem zAo(k:IntKind)(a b:Int):jI true (.int k a) [.int k b]=some (.int k (max a b)):=by
 simp only[jI,minD,xR,Yzb,x4]
 grind
attribute [simp] zxi zAo
abbrev Sl(α:Type):=Option (List α)
abbrev Sl.els{α:Type}(s:Sl α):List α:=s.getD []
def enL{α:Type}(st:Nat)(f:α->List DV):Sl α->DV
 |none=>.nils
 |some l=>.lst st (l.map f)
section
variable {α:Type} {st:Nat} {f:α->List DV}
@[simp] theorem zCA:enL st f none=.nils:=rfl
theorem zi1(l:List α):enL st f (some l)=.lst st (l.map f):=rfl
@[simp] theorem zEl(v:Sl α):mkL st (v.map (List.map f))=enL st f v:=by cases v<;>rfl
@[simp] theorem zg(v:Sl α):zV (enL st f v)=some (I6 (v.els.length:Int)):=by cases v<;>simp[enL]
@[simp] theorem ul(v:Sl α):yq st (enL st f v)=some (v.els.map f):=by cases v<;>simp[enL]
@[simp] theorem zjQ(v:Sl α):zdA (enL st f v)=some v.isNone:=by cases v<;>rfl
theorem zif(k:IntKind)(xs:List (List DV))(i:Nat):yb st (.lst st xs) (.int k (i:Int))=xs[i]?:=by show (bif Nat.beq st st then xs[i]? else none)=_;simp
theorem xC(k:IntKind)(v:Sl α)(i:Nat):yb st (enL st f v) (.int k (i:Int))=(v.els[i]?).map f:=by
 rcases v with _|l
 .rfl
 grind[zi1,zif]
theorem ye{l:List α}{i:Nat}{x:α}{r:List α}(h:l.drop i=x::r):l[i]? = some x:=by
 have:=Yzu (xs:=l) (i:=i) (j:=0)
 grind
theorem yn{l:List α}{i:Nat}{x:α}{r:List α}(h:l.drop i=x::r):i<l.length:=(Lz0.1 (ye h)).1
theorem zJ{l:List α}{i:Nat}{x:α}{r:List α}(h:l.drop i=x::r):l.drop (i+1)=r:=by rw[<-YzL,h];rfl
theorem z6{l:List α}{i:Nat}(h:l.drop i=[]):l.length<=i:=by simp_all
theorem zX{v:Sl α}{i:Nat}{x:α}{r:List α}(h:v.els.drop i=x::r)(k:IntKind):yb st (enL st f v) (.int k (i:Int))=some (f x):=by rw[xC,ye h];rfl
end
theorem zbN{i n:Nat}(h:i<n):decide ((i:Int)<(n:Int))=true:=decide_eq_true (by omega)
theorem wq{i n:Nat}(h:n<=i):decide ((i:Int)<(n:Int))=false:=decide_eq_false (by omega)
def ocL{α:Type}(f:α->List DV)(v:Sl α):OC:=v.map (List.map f)
section
variable {α:Type} {st:Nat} {f:α->List DV}
@[simp] theorem zCq:ocL f (none:Sl α)=none:=rfl
theorem zuq(l:List α):ocL f (some l)=some (l.map f):=rfl
@[simp] theorem xQ(v:Sl α):xH (ocL f v)=v.els.length:=by cases v<;>simp[ocL]
@[simp] theorem xg(v:Sl α):z5 (ocL f v)=v.els.map f:=by cases v<;>simp[ocL]
@[simp] theorem zbf(v:Sl α):mkL st (ocL f v)=enL st f v:=by cases v<;>rfl
theorem wj(v:Sl α)(x:α):(some (v.els.map f++[f x]):OC)=ocL f (some (v.els++[x])):=by simp[ocL]
end
@[simp] theorem yW{α:Type}(l:List α):Sl.els (some l)=l:=rfl
@[simp] theorem zCB{α:Type}:Sl.els (none:Sl α)=[]:=rfl
theorem zgG{k:IntKind}{a b:Nat}(h:b≠0):zc .rem (.int k (a:Int)) (.int k (b:Int))=some (.int k ((a % b:Nat):Int)):=by grind[zeN]
theorem qm{k:IntKind}{a b:Nat}(h:b≠0)(hw:xV k ((a / b:Nat):Int)=((a / b:Nat):Int)):zc .quo (.int k (a:Int)) (.int k (b:Int))=some (.int k ((a / b:Nat):Int)):=by grind[zCl]
theorem uP{k:IntKind}{n i:Nat}(h:i<n):uc n (.int k (i:Int))=some i:=by
 show (bif Nat.ble (i+1) n then some i else none)=_
 grind[Yzg]
theorem zcU{k:IntKind}{xs:List (List DV)}{i:Nat}(h:i<xs.length):zO (some xs) (.int k (i:Int))=some i:=by
 show (bif Nat.ble (i+1) xs.length then some i else none)=_
 grind[Yzg]
theorem zE{f:List DV->List OC->Option PX}{L L':List DV}{M M':List OC}(h:f L M=some (.normal,L',M')):zS f L M=zS f L' M':=by rw[zdz,h]
theorem zr{f:List DV->List OC->Option PX}{L L':List DV}{M M':List OC}{id:Nat}(h:f L M=some (.exit id,L',M')):zS f L M=some (.exit id,L',M'):=by rw[zdz,h]
theorem zz{f:List DV->List OC->Option PX}{L L':List DV}{M M':List OC}(h:f L M=some (.ret,L',M')):zS f L M=some (.ret,L',M'):=by rw[zdz,h]
end Go.PE
end
noncomputable section
namespace Go.PE
open Go Go.CE
def zmX:List DV->Option (List Zc)
 | []=>some []
 |d::l=>match d.scal,zmX l with|some c,some cs=>some (c::cs)|_,_=>none
def avS:DS->Option SVal
 | .one d=>match d.scal with|some c=>some (.one c)|none=>none
 | .agg ds=>match zmX ds with|some cs=>some (.agg cs)|none=>none
def avs:List DA->Option (List Zb)
 | []=>some []
 | .s d::l=>match avS d,avs l with|some v,some vs=>some (.s v::vs)|_,_=>none
 | .tup _::_=>none
def ofC:Zc->Option DV
 | .bool b=>some (.bool b)
 | .int k n=>some (.int k n)
 | .str s=>some (.str s)
 | .nils=>some .nils
 | .nilf=>some .nilf
 | .nilp=>some .nilp
 | .nilm=>some .nilm
 | .nili=>some .nili
 |_=>none
def zCp:List Zc->Option (List DV)
 | []=>some []
 |c::cs=>match ofC c,zCp cs with|some d,some ds=>some (d::ds)|_,_=>none
def ofS:SVal->Option DS
 | .one c=>match ofC c with|some d=>some (.one d)|none=>none
 | .agg cs=>match zCp cs with|some ds=>some (.agg ds)|none=>none
def zCo:List SVal->Option (List DS)
 | []=>some []
 |v::vs=>match ofS v,zCo vs with|some d,some ds=>some (d::ds)|_,_=>none
def ofA:Zb->Option DA
 | .s v=>match ofS v with|some d=>some (.s d)|none=>none
 | .tup vs=>match zCo vs with|some ds=>some (.tup ds)|none=>none
def zwO(ids:List Nat)(sums:List CE.Sum):Orc:=fun g args=>
 bif ids.any (Nat.beq g) then
  match avs args with
  |some vs=>match xG g vs ⟨.z,.nil⟩ sums with|some v=>ofA v|none=>none
  |none=>none
 else none
theorem zgW{d:DV}{c:Zc}(h:d.scal=some c):vq c=true:=by cases d<;>simp only[DV.scal]at h<;>first|cases h;rfl|cases h
theorem znG{m m':Mt}{c c':Zc}(hp:vq c'=true)(h:mC m c c'=some m'):m'=m:=by
 unfold mC at h
 grind[vq]
theorem zj7:∀{cs cs':List Zc} {m m':Mt},(∀c∈cs',vq c=true)->mCs cs cs' m=some m'->m'=m
 | [],[],_,_,_,h=>by cases h;rfl
 |c::cs,c'::cs',m,m',hp,h=>by
  simp only[mCs]at h;split at h
  .rename_i m1 h1;rw[zj7 (fun c hc=>hp c (Yze _ hc)) h]
   grind[znG,Yzf]
  cases h
 | [],_::_,_,_,_,h=>by cases h
 |_::_,[],_,_,_,h=>by cases h
def plS:SVal->Prop
 | .one c=>vq c=true
 | .agg cs=>∀c∈cs,vq c=true
def plA:Zb->Prop
 | .s v=>plS v
 | .tup _=>False
theorem zuM{m m':Mt}{v v':SVal}(hp:plS v')(h:mS m v v'=some m'):m'=m:=by
 cases v<;>cases v'<;>simp only[mS]at h
 .exact znG hp h
 .cases h
 .cases h
 exact zj7 hp h
theorem zuN:∀{vs vs':List Zb} {m m':Mt},(∀v∈vs',plA v)->mA vs vs' m=some m'->m'=m:=by
 intro vs
 induction vs with
 |nil=>grind[mA]
 |cons v vs ih=>
  intro vs' m m' hp h;cases vs' with
  |nil=>cases v<;>cases h
  |cons v' vs'=>
   cases v with
   |tup l=>cases h
   |s v=>
    cases v' with
    |tup l=>cases h
    |s v'=>
     simp only[mA]at h;split at h
     .rename_i m1 h1;rw[ih (fun c hc=>hp c (Yze _ hc)) h];exact zuM (hp (.s v') (Yzf ..)) h1
     cases h
theorem zsv{s:CE.Sum}{vs:List Zb}(hp:∀v∈vs,plA v)(h h':Za):s.fits vs h=s.fits vs h':=by
 unfold Sum.fits;rcases hm:mA s.args vs ⟨.nil,.nil,[]⟩ with _|m
 .rfl
 rw[zuN hp hm];rfl
theorem zeu{g:Nat}{vs:List Zb}(hp:∀v∈vs,plA v)(h h':Za):∀l:List CE.Sum,xG g vs h l=xG g vs h' l
 | []=>rfl
 |s::l=>by simp only[xG,zsv hp h h',zeu hp h h' l]
theorem zjH{fz:BN->Prop}{h:Za}:∀{ds:List DV} {cs cs':List Zc},zmX ds=some cs'->RepL fz h cs ds->cs=cs'/\∀c∈cs',vq c=true
 | [],cs,cs',e,H=>by
  cases e;have:=H.1
  grind
 |d::ds,cs,cs',e,H=>by
  simp only[zmX]at e;split at e
  .rename_i c1 cs1 h1 h2;cases e;cases cs with
   |nil=>have:=H.1;trivial
   |cons c cs=>
    obtain⟨ha,hb⟩:=H.inv;obtain⟨k1,k2⟩:=zjH h2 hb;refine⟨by rw[ha.scal h1,k1],fun x hx=>?_⟩;rcases Yya.1 hx with rfl|hx
    .exact zgW h1
    grind
  cases e
theorem zBR{fz:BN->Prop}{h:Za}{d:DS}{v v':SVal}(e:avS d=some v')(H:RepS fz h v d):v=v'/\plS v':=by
 cases d with
 |one d=>
  simp only[avS]at e;split at e
  .rename_i c hc;cases e;cases v with
   |one x=>exact⟨by rw[Rep.scal H hc],zgW hc⟩
   |agg l=>trivial
  cases e
 |agg ds=>
  simp only[avS]at e;split at e
  .rename_i cs hc;cases e;cases v with
   |one x=>trivial
   |agg l=>obtain⟨k1,k2⟩:=zjH hc H;exact⟨by rw[k1],k2⟩
  cases e
theorem zwo{fz:BN->Prop}{h:Za}:∀{ds:List DA} {vs vs':List Zb},avs ds=some vs'->RepAL fz h vs ds->vs=vs'/\∀v∈vs',plA v
 | [],vs,vs',e,H=>by
  cases e;cases vs with
  |nil=>simp
  |cons v l=>trivial
 | .tup _::_,_,_,e,_=>by cases e
 | .s d::ds,vs,vs',e,H=>by
  simp only[avs]at e;split at e
  .rename_i v1 vs1 h1 h2;cases e;cases vs with
   |nil=>trivial
   |cons v vs=>
    obtain⟨ha,hb⟩:=H;obtain⟨w,rfl,hw⟩:=RepA.inv ha;obtain⟨k1,k2⟩:=zwo h2 hb;obtain⟨k3,k4⟩:=zBR h1 hw;refine⟨by rw[k1,k3],fun x hx=>?_⟩;rcases Yya.1 hx with rfl|hx
    .exact k4
    grind
  cases e
theorem zvY{fz:BN->Prop}{h:Za}{c:Zc}{d:DV}(e:ofC c=some d):Rep fz h c d:=by
 cases c<;>simp only[ofC]at e<;>cases e
 .exact .bool _
 .exact .int _ _
 .exact .str _
 .exact .nilp
 .exact .nils
 .exact .nilm
 .exact .nilf
 exact .nili
theorem zrg{fz:BN->Prop}{h:Za}:∀{cs:List Zc} {ds:List DV},zCp cs=some ds->RepL fz h cs ds
 | [],_,e=>by cases e;exact RepL.nil _ _
 |c::cs,ds,e=>by
  simp only[zCp]at e;split at e
  .rename_i d1 ds1 h1 h2;cases e;exact RepL.cons (zvY h1) (zrg h2)
  cases e
theorem zvX{fz:BN->Prop}{h:Za}{v:SVal}{d:DS}(e:ofS v=some d):RepS fz h v d:=by
 cases v<;>simp only[ofS]at e<;>split at e
 .rename_i h1;cases e;exact zvY h1
 .cases e
 .rename_i h1;cases e;exact zrg h1
 cases e
theorem zrf{fz:BN->Prop}{h:Za}:∀{vs:List SVal} {ds:List DS},zCo vs=some ds->RepSL fz h vs ds
 | [],_,e=>by cases e;trivial
 |c::cs,ds,e=>by
  simp only[zCo]at e;split at e
  .rename_i d1 ds1 h1 h2;cases e;exact⟨zvX h1,zrf h2⟩
  cases e
theorem zAx{fz:BN->Prop}{h:Za}{v:Zb}{d:DA}(e:ofA v=some d):RepA fz h v d:=by
 cases v<;>simp only[ofA]at e<;>split at e
 .rename_i h1;cases e;exact zvX h1
 .cases e
 .rename_i h1;cases e;exact zrf h1
 cases e
theorem zwN{P:Program}{ids:List Nat}{sums:List CE.Sum}{srt:Nat->Option Srt}(hi:ids.all (fun g=>(srt g).isNone)=true):zaj (zwO ids sums) (fun n=>zI (zT P) (cFs (yI P)) sums srt n):=by
 intro g args res e fz h vs hw hfz H;unfold zwO at e;cases hj:ids.any (Nat.beq g)
 .grind
 rw[hj]at e;have hT:srt g=none:=by simp_all
 simp only[Yzb]at e;split at e
 .rename_i vs' hvs;split at e
  .rename_i v hv;obtain⟨rfl,hp⟩:=zwo hvs H;rw[zeu hp _ h]at hv;refine (Ev.sum hT hv).mono ?_
   rintro _ rfl
   exact⟨hw,.refl h,zAx e⟩
  cases e
 cases e
end Go.PE
end
section
namespace Go.PE
open Go Go.CE Go.RowKit
section
variable {P:Program} {sums:List CE.Sum} {srt:Nat->Option Srt} {O:Orc}
theorem zvp(hs:∀s∈sums,zd9 P s)(ht:∀g t,srt g=some t->zvv P g t)(hO:zaj O (fun n=>zI (zT P) (cFs (yI P)) sums srt n)){w:World}(hG:GOk w){g:Nat}{vs:List Zb}{ds:List DA}
  (hr:RepAL (fun b=>b.toNat<(yy w).n.toNat) (yy w) vs ds) (hw:∀x∈vs,wfA (φ0 w) (yy w).n.toNat x) {b:Bool} (e:O g ds=some (.s (.one (.bool b)))):
  CallsIn (FR none) 0 P g (vs.map (zw (φ0 w))).toArray w (fun e w2=>e=.returned (.bool b)/\Below w.heap.size w w2):=by
 obtain⟨⟨v,h2⟩,⟨_,hg,hv⟩,N,hN⟩:=hO g ds _ e (fun b=>b.toNat<(yy w).n.toNat) (yy w) vs (zkg w) (fun b hb=>hb) hr;refine (zmv w (zom (zqW P) hs ht N) hG hw (hN N (LzB _)) hg).mono ?_
 rintro e9 w9 ⟨φ,rfl,hb⟩
 obtain⟨v',hv',h1⟩:=RepA.inv hv;simp only at hv';subst hv';cases v' with
 |agg l=>trivial
 |one c=>rw[Rep.scal h1 rfl];trivial
end
end Go.PE
end
section
namespace Go.PE
open Go Go.CE Go.RowKit
def zks(P:Program):List Field->Nat->Option Nat
 | [],o=>some o
 |f::l,o=>bif Nat.beq f.offset o then zks P l (o+P.cellsOf f.type) else none
def zdo(P:Program):Nat->TypeId->Bool
 |0,_=>false
 |n+1,t=>
  match P.underlying t with
  |some .bool=>Nat.beq (P.cellsOf t) 1
  |some (.int _)=>Nat.beq (P.cellsOf t) 1
  |some .string=>Nat.beq (P.cellsOf t) 1
  |some (.slice e)=>zdo P n e&&Nat.ble 1 (P.cellsOf e)&&Nat.beq (P.cellsOf t) 1
  |some (.struct fs)=>(fs.toList.all fun f=>zdo P n f.type)&&(match zks P fs.toList 0 with|some m=>Nat.beq m (P.cellsOf t)|none=>false)
  |some (.array k e)=>zdo P n e&&Nat.beq (P.cellsOf t) (k*P.cellsOf e)
  |_=>false
def zyX(T:TypeId->List DV->Prop):List TypeId->List DV->Prop
 | [],ds=>ds=[]
 |t::l,ds=>∃a b,ds=a++b/\T t a/\zyX T l b
def Ty(P:Program):Nat->TypeId->List DV->Prop
 |0,_,_=>False
 |n+1,t,ds=>
  match P.underlying t with
  |some .bool=>∃b,ds=[.bool b]
  |some (.int k)=>∃m,ds=[.int k m]/\(Lit.int k m).wf=true
  |some .string=>∃s,ds=[.str s]/\s.size<=maxLen
  |some (.slice e)=>ds=[.nils]\/∃xs,ds=[.lst (P.cellsOf e) xs]/\xs.length<=maxLen/\∀x∈xs,Ty P n e x
  |some (.struct fs)=>zyX (Ty P n) (fs.toList.map (·.type)) ds
  |some (.array k e)=>zyX (Ty P n) (List.replicate k e) ds
  |_=>False
def AbsL(w:World)(cs:List Value)(vs:List Zc):Prop:=cs.map (zpW w)=vs.map some
theorem AbsL.len{w:World}{cs:List Value}{vs:List Zc}(h:AbsL w cs vs):cs.length=vs.length:=by have:=congrArg List.length h;grind
theorem AbsL.get{w:World}{cs:List Value}{vs:List Zc}(h:AbsL w cs vs){i:Nat}{v:Value}(hi:cs[i]? = some v):∃c,vs[i]? = some c/\zpW w v=some c:=by
 have:=congrArg (·[i]?) h
 grind
theorem AbsL.app{w:World}{a b:List Value}{x y:List Zc}(h:AbsL w a x)(k:AbsL w b y):AbsL w (a++b) (x++y):=by grind[AbsL]
theorem AbsL.conc{w:World}:∀{cs:List Value} {vs:List Zc},AbsL w cs vs->vs.map (zl (φ0 w))=cs/\∀c∈vs,wfC (φ0 w) (yy w).n.toNat c
 | [],[],_=>⟨rfl,fun c h=>by cases h⟩
 |v::cs,c::vs,h=>by
  simp only[AbsL,Yzw,List.cons.injEq]at h;obtain⟨k1,k2⟩:=zwq w h.1;obtain⟨k3,k4⟩:=AbsL.conc (show AbsL w cs vs from h.2)
  grind
 | [],_::_,h=>by cases h
 |_::_,[],h=>by cases h
def okV(w:World)(v:Value):Prop:=∀a,v=.slice (some a) 0 0->(zeH w a.block=true/\a.spot=none)\/a∈zha w
theorem znp{w:World}{a:Addr}{v:Value}(h:w.cell? a=some v):okV w v/\a.spot=none/\∃arr e fr,w.heap[a.block]? = some (.cells arr e fr)/\arr[a.off]? = some v:=by
 have key:a.spot=none/\∃arr e fr,w.heap[a.block]? = some (.cells arr e fr)/\arr[a.off]? = some v:=by unfold World.cell? at h;split at h<;>simp_all
 obtain⟨h1,arr,e,fr,h2,h3⟩:=key;exact⟨fun b hb=>by grind[zup],h1,arr,e,fr,h2,h3⟩
theorem znE{α β:Type}{f:α->Option β}:∀{l:List α} {r:List β},l.mapM f=some r->r.length=l.length/\∀(i:Nat) (x:α),l[i]? = some x->∃y,r[i]? = some y/\f x=some y
 | [],r,h=>by grind
 |a::l,r,h=>by
  simp only[List.mapM_cons,YzK,Option.bind_eq_some_iff,Yz4,Option.some.injEq]at h;obtain⟨b,hb,bs,hbs,rfl⟩:=h;obtain⟨k1,k2⟩:=znE hbs
  grind
section
variable {H:Type} {enc:TypeId×Value->H} {P:Program} {w:World} {base:Nat} {held:Bool}
def zov(P:Program)(w:World)(m:Nat)(t:TypeId)(cs:List Value):Prop:=
 ∃vs ds,AbsL w cs vs/\RepL (fun b=>b.toNat<(yy w).n.toNat) (yy w) vs ds/\Ty P m t ds
theorem zky{a:Addr}{n:Nat}{cs:List Value}(h:w.cells? base a n=some cs):cs.length=n/\∀j,j<n->∃v,cs[j]? = some v/\w.cell? (a.add j)=some v:=by
 unfold World.cells? at h;split at h
 .obtain⟨k1,k2⟩:=znE h;refine⟨by grind,fun j hj=>?_⟩;exact k2 j j (by rw[List.getElem?_range hj])
 cases h
theorem ze9{a:Addr}{len cap st:Nat}(hst:1<=st)(hlc:len<=cap){arr:Array Value}{e:TypeId}{fr:Nat×Nat}(hb:w.heap[a.block]? = some (.cells arr e fr))(hsp:a.spot=none)
  (C:Nat->List Zc) (X:Nat->List DV) (hC:∀i,i<len->(C i).length=st/\(X i).length=st/\(∀j c,(C i)[j]? = some c->(arr[a.off+(i*st+j)]?).bind (zpW w)=some c)/\RepL (fun b=>b.toNat<(yy w).n.toNat) (yy w) (C i) (X i)):
  ∃c,zpW w (.slice (some a) len cap)=some c/\Rep (fun b=>b.toNat<(yy w).n.toNat) (yy w) c (.lst st ((List.range len).map X)):=by
 have hd:zeH w a.block=true:=by grind[zeH]
 have hlt:=zoc hd;refine⟨.slc (bn a.block) a.off len cap true,?_,?_⟩
 .show (bif decide (zeH w a.block=true/\a.spot=none/\len<=cap) then _ else _)=_
  grind
 have hg:(yy w).t.get (bn a.block)=some (zw8 w (.cells arr e fr)):=zer w (by grind[yg])
 let L:=(List.range (len*st)).map fun j=>((C (j / st))[j % st]?).getD .nilp
 have hLl:L.length=len*st:=by simp[L]
 have hLg:∀i j,i<len->j<st->∃c,L[i*st+j]? = some c/\(C i)[j]? = some c:=fun i j hi hj=>by
  obtain⟨c,hc⟩:∃c,(C i)[j]? = some c:=⟨_,Lz5 (by grind)⟩;refine⟨c,?_,hc⟩;have h1:i*st+j<len*st:=by
   have:(i+1)*st<=len*st:=Yzk st hi
   grind
  have e1:(i*st+j) / st=i:=by rw[Nat.mul_comm,Nat.mul_add_div (by omega),Nat.div_eq_of_lt hj,YzE]
  grind[Nat.mul_comm,Nat.mul_add_mod,Yyk]
 have hrd:rd (((List.range len).map X).length*st) a.off (zw8 w (.cells arr e fr))=some L:=by
  rw[Yzm,List.length_range];refine zmm hLl fun j c hj=>?_;have hjl:j<len*st:=by grind
  have hi:j / st<len:=Nat.div_lt_of_lt_mul (by grind);have hr:j % st<st:=Yzn _ (by omega);have hj':j / st*st+j % st=j:=by grind[Nat.div_add_mod]
  obtain⟨c',k1,k2⟩:=hLg (j / st) (j % st) hi hr;rw[hj',hj]at k1;cases k1;have:=(hC _ hi).2.2.1 _ _ k2;simp_all
 have hX:∀(i:Nat) (x:List DV),((List.range len).map X)[i]? = some x->i<len/\x=X i:=fun i x hx=>by grind
 have:=Rep.lst (fz:=fun b=>b.toNat<(yy w).n.toNat) (h:=yy w) (b:=bn a.block) (o:=zw8 w (.cells arr e fr)) (off:=a.off) (cap:=cap) (ex:=true) (st:=st) (xs:=(List.range len).map X) L
  (by grind[yg,zc9]) hg (fun _=>by grind) hrd (fun i x hx=>by grind)
  (fun i x j c d hx hc hd => by
   obtain⟨hi,rfl⟩:=hX i x hx;have hj:j<st:=by grind
   obtain⟨c',k1,k2⟩:=hLg i j hi hj;rw[hc]at k1;cases k1;exact(hC i hi).2.2.2.2 j c d k2 hd)
 grind
theorem zkG{m n:Nat}{held:Bool}(ih:∀{t:TypeId} {cs:List Value} {x:DataW H×List MemPlace},zdo P m t=true->DataW.trod enc P w base (fun _=>true) held n t cs=some x->(∀v∈cs,okV w v)->zov P w m t cs/\cs.length=P.cellsOf t):
  ∀(fs:List Field) (o e:Nat) (cs:List Value),(fs.all fun f=>zdo P m f.type)=true->zks P fs o=some e->e=cs.length->o<=e->
   (∀f∈fs,∃y,DataW.trod enc P w base (fun _=>true) held n f.type ((cs.drop f.offset).take (P.cellsOf f.type))=some y)->(∀v∈cs,okV w v)->
   ∃vs ds,AbsL w (cs.drop o) vs/\RepL (fun b=>b.toNat<(yy w).n.toNat) (yy w) vs ds/\zyX (Ty P m) (fs.map (·.type)) ds
 | [],o,e,cs,_,hc,he,_,_,_=>by cases hc;subst he;exact⟨[],[],by simp[AbsL],RepL.nil _ _,rfl⟩
 |f::fs,o,e,cs,hd,hc,he,hle,hm,hok=>by
  simp only[Yym,LzC]at hd;simp only[zks]at hc;cases hb:Nat.beq f.offset o
  .grind
  rw[hb,Yzb]at hc;have ho:=Lz1 hb;obtain⟨x,hx⟩:=hm f (Yzf ..);rw[ho]at hx;obtain⟨⟨v1,d1,a1,r1,t1⟩,hl⟩:=ih hd.1 hx (fun v hv=>hok v (List.mem_of_mem_drop (List.mem_of_mem_take hv)));have hle2:o+P.cellsOf f.type<=cs.length:=by grind
  obtain⟨v2,d2,a2,r2,t2⟩:=zkG ih fs (o+P.cellsOf f.type) e cs hd.2 hc he (by omega) (fun g hg=>hm g (Yze _ hg)) hok;refine⟨v1++v2,d1++d2,?_,r1.app r2,d1,d2,rfl,t1,t2⟩;have:cs.drop o=(cs.drop o).take (P.cellsOf f.type)++cs.drop (o+P.cellsOf f.type):=by rw[<-YzL,List.take_append_drop]
  rw[this];exact a1.app a2
theorem zot{m n:Nat}{held:Bool}{e:TypeId}(ih:∀{t:TypeId} {cs:List Value} {x:DataW H×List MemPlace},zdo P m t=true->DataW.trod enc P w base (fun _=>true) held n t cs=some x->(∀v∈cs,okV w v)->zov P w m t cs/\cs.length=P.cellsOf t)
  (hd:zdo P m e=true):∀(k:Nat) (cs:List Value),cs.length=k*P.cellsOf e->(∀i,i<k->∃x,DataW.trod enc P w base (fun _=>true) held n e ((cs.drop (i*P.cellsOf e)).take (P.cellsOf e))=some x)->(∀v∈cs,okV w v)->
   ∃vs ds,AbsL w cs vs/\RepL (fun b=>b.toNat<(yy w).n.toNat) (yy w) vs ds/\zyX (Ty P m) (List.replicate k e) ds
 |0,cs,hl,_,_=>by have:cs=[]:=List.length_eq_zero_iff.1 (by omega);subst this;exact⟨[],[],by simp[AbsL],RepL.nil _ _,rfl⟩
 |k+1,cs,hl,hx,hok=>by
  obtain⟨x,h0⟩:=hx 0 (by omega);rw[Nat.zero_mul,List.drop_zero]at h0;obtain⟨⟨v1,d1,a1,r1,t1⟩,_⟩:=ih hd h0 (fun v hv=>hok v (List.mem_of_mem_take hv));rw[Yz5]at hl;obtain⟨v2,d2,a2,r2,t2⟩:=zot ih hd k (cs.drop (P.cellsOf e)) (by simp;omega) (fun i hi=>by grind[YzL]) (fun v hv=>hok v (List.mem_of_mem_drop hv))
  refine⟨v1++v2,d1++d2,?_,r1.app r2,d1,d2,rfl,t1,t2⟩;rw[<-List.take_append_drop (P.cellsOf e) cs];exact a1.app a2
theorem zfu:∀(m:Nat) {q:Nat} {t:TypeId} {cs:List Value} {x:DataW H×List MemPlace},zdo P m t=true->DataW.trod enc P w base (fun _=>true) held q t cs=some x->(∀v∈cs,okV w v)->zov P w m t cs/\cs.length=P.cellsOf t
 |0,_,_,_,_,h,_,_=>by cases h
 |m+1,fu,t,cs,x,hd,ht,hok=>by
  have ih:=@zfu m;unfold zdo at hd;unfold zov;unfold Ty;rcases hu:P.underlying t with _|d
  .grind
  rw[hu]at hd;cases d<;>first|(cases (show false=true from hd);done)|skip
  case bool=>have h1:=Lz1 hd;obtain⟨b,rfl,_⟩:=DataW.trod_bool hu ht;exact⟨⟨[_],[_],rfl,RepL.cons (.bool _) (RepL.nil _ _),b,rfl⟩,h1.symm⟩
  case int k=>have h1:=Lz1 hd;obtain⟨n,rfl,_,hw⟩:=DataW.trod_int hu ht;exact⟨⟨[_],[_],rfl,RepL.cons (.int _ _) (RepL.nil _ _),n,rfl,hw⟩,h1.symm⟩
  case string=>have h1:=Lz1 hd;obtain⟨s,rfl,_,hw⟩:=DataW.trod_string hu ht;exact⟨⟨[_],[_],rfl,RepL.cons (.str _) (RepL.nil _ _),s,rfl,hw⟩,h1.symm⟩
  case slice e=>
   simp only[LzC]at hd;obtain⟨⟨hd1,hst⟩,hc1⟩:=hd;have hst:=Lz4 hst;have hc1:=Lz1 hc1;rcases DataW.trod_slice hu ht with⟨rfl,_⟩|⟨a,len,cap,elems,rest,n,hn,rfl,_,_,hlc,hcap,hel,hE,hR,_⟩
   .exact⟨⟨[_],[_],rfl,RepL.cons .nils (RepL.nil _ _),.inl rfl⟩,hc1.symm⟩
   subst hn;have hok:=hok _ (Yzf ..);refine⟨?_,hc1.symm⟩;have one:∀i,i<len->∃vs ds,(vs.length=P.cellsOf e/\ds.length=P.cellsOf e/\(∀j c,vs[j]? = some c->∃v,w.cell? ((a.add (i*P.cellsOf e)).add j)=some v/\zpW w v=some c))/\RepL (fun b=>b.toNat<(yy w).n.toNat) (yy w) vs ds/\Ty P m e ds:=fun i hi=>by
    have h:=hE i hi;obtain⟨y,hy⟩:∃y,elems[i]? = some y:=⟨_,Lz5 (by omega)⟩;rw[hy,Option.bind_eq_some_iff]at h;obtain⟨cs,h1,h2⟩:=h;obtain⟨k1,k2⟩:=zky h1;obtain⟨⟨vs,ds,a1,r1,t1⟩,hl⟩:=ih hd1 h2 (fun v hv=>by obtain⟨j,hj⟩:=List.mem_iff_getElem?.1 hv;obtain⟨v',g1,g2⟩:=k2 j (by grind);rw[hj]at g1;cases g1;exact(znp g2).1)
    refine⟨vs,ds,⟨by rw[<-a1.len,hl],by rw[<-r1.1,<-a1.len,hl],fun j c hj=>?_⟩,r1,t1⟩;obtain⟨v',g1,g2⟩:=k2 j (by rw[<-k1,a1.len];grind);obtain⟨c',q1,q2⟩:=a1.get g1
    grind
   by_cases hc0:cap=0
   .have hl0:len=0:=by omega
    subst hc0 hl0;rcases hok a rfl with⟨hdb,hsp⟩|hm
    .obtain⟨arr,el,fr,hb⟩:=zgc hdb;obtain⟨c,q1,q2⟩:=ze9 (len:=0) (cap:=0) hst (LzB _) hb hsp (fun _=>[]) (fun _=>[]) (fun i hi=>by omega);exact⟨[c],[.lst (P.cellsOf e) []],by grind[AbsL],RepL.cons q2 (RepL.nil _ _),.inr ⟨[],rfl,by simp,fun x hx=>by cases hx⟩⟩
    by_cases hdb:zeH w a.block=true/\a.spot=none
    .obtain⟨arr,el,fr,hb⟩:=zgc hdb.1;obtain⟨c,q1,q2⟩:=ze9 (len:=0) (cap:=0) hst (LzB _) hb hdb.2 (fun _=>[]) (fun _=>[]) (fun i hi=>by omega);exact⟨[c],[.lst (P.cellsOf e) []],by grind[AbsL],RepL.cons q2 (RepL.nil _ _),.inr ⟨[],rfl,by simp,fun x hx=>by cases hx⟩⟩
    have hi:=ziM hm;have hlt:=(Lz0.1 hi).1;refine⟨[.slc (bn (w.heap.size+zzj a (zha w))) 0 0 0 true],[.lst (P.cellsOf e) []],?_,RepL.cons ?_ (RepL.nil _ _),.inr ⟨[],rfl,by simp,fun x hx=>by cases hx⟩⟩
    .grind[zpW,AbsL]
    exact Rep.lst (o:=.void) (xs:=[]) [] (by grind[yg,zc9]) (zpz w hlt) (fun _=>LzB _) (by simp[rd]) (fun i x hx=>by simp at hx) (fun i x j c d hx=>by simp at hx)
   have hthere:a.spot=none/\∃arr el fr,w.heap[a.block]? = some (.cells arr el fr):=by
    have go:∀cs,w.cells? base (a.add (0*P.cellsOf e)) (P.cellsOf e)=some cs->a.spot=none/\∃arr el fr,w.heap[a.block]? = some (.cells arr el fr):=fun cs h=>by
     obtain⟨v,_,g2⟩:=(zky h).2 0 (by omega);have e0:(a.add (0*P.cellsOf e)).add 0=a:=by rw[Nat.zero_mul];rfl
     rw[e0]at g2;obtain⟨_,g3,arr,el,fr,g4,_⟩:=znp g2
     grind
    by_cases hl0:0<len
    .grind[Option.bind_eq_some_iff]
    obtain⟨hrl,hr⟩:=hR rfl;have h:=hr 0 (by omega)
    grind[Option.bind_eq_some_iff]
   obtain⟨hsp,arr,el,fr,hb⟩:=hthere;have hch:∃(C:Nat->List Zc) (X:Nat->List DV),∀i,i<len->((C i).length=P.cellsOf e/\(X i).length=P.cellsOf e/\(∀j c,(C i)[j]? = some c->∃v,w.cell? ((a.add (i*P.cellsOf e)).add j)=some v/\zpW w v=some c))/\RepL (fun b=>b.toNat<(yy w).n.toNat) (yy w) (C i) (X i)/\Ty P m e (X i):=by
    have:∀i:Nat,∃q:List Zc×List DV,i<len->(q.1.length=P.cellsOf e/\q.2.length=P.cellsOf e/\(∀j c,q.1[j]? = some c->∃v,w.cell? ((a.add (i*P.cellsOf e)).add j)=some v/\zpW w v=some c))/\RepL (fun b=>b.toNat<(yy w).n.toNat) (yy w) q.1 q.2/\Ty P m e q.2:=fun i=>by
     by_cases hi:i<len
     .simp_all
     exact⟨([],[]),fun h=>absurd h hi⟩
    obtain⟨q,hq⟩:=Classical.axiomOfChoice this;exact⟨fun i=>(q i).1,fun i=>(q i).2,hq⟩
   obtain⟨C,X,hCX⟩:=hch;obtain⟨c,q1,q2⟩:=ze9 hst hlc hb hsp C X (fun i hi=>by
    obtain⟨⟨g1,g2,g3⟩,g4,_⟩:=hCX i hi;refine⟨g1,g2,fun j c hj=>?_,g4⟩;obtain⟨v,k1,k2⟩:=g3 j c hj;have e1:(a.add (i*P.cellsOf e)).add j=⟨a.block,a.off+(i*P.cellsOf e+j),none⟩:=by
     obtain⟨ab,ao,az⟩:=a
     grind[Addr.add]
    grind[zok])
   refine⟨[c],[.lst (P.cellsOf e) ((List.range len).map X)],by grind[AbsL],RepL.cons q2 (RepL.nil _ _),.inr ⟨_,rfl,by simp;omega,fun x hx=>?_⟩⟩
   grind
  case struct fs=>
   simp only[LzC]at hd;obtain⟨xs,n,hn,_,hl,hxl,hx⟩:=DataW.trod_struct hu ht;subst hn;refine⟨?_,hl⟩;rcases hc:zks P fs.toList 0 with _|q
   .grind
   rw[hc]at hd;have hq:=Lz1 hd.2;have:=zkG (held:=held) (fun a b c=>ih a b c) fs.toList 0 q cs hd.1 hc (by rw[hq,hl]) (Yzs _) (fun f hf=>by
    obtain⟨i,hi⟩:=List.mem_iff_getElem?.1 hf;have h1:=hx i f (by grind);have hlt:i<xs.length:=by grind
    exact⟨_,h1.trans (Lz5 hlt)⟩) hok
   trivial
  case array k e=>simp only[LzC]at hd;obtain⟨xs,n,hn,_,hl,hxl,hx⟩:=DataW.trod_array hu ht;subst hn;refine⟨?_,hl⟩;exact zot (held:=held) (fun a b c=>ih a b c) hd.1 k cs (by simp_all) (fun i hi=>⟨_,(hx i hi).trans (Lz5 (by omega))⟩) hok
theorem zre{P:Program}{w:World}{base:Nat}{t:TypeId}{v:Value}(h:Cell.okWide P w .any base t v):okV w v:=by
 intro a ha;subst ha
 left
 have h:Cell.ok P w .any base t (.slice (some a) 0 0):=by simp_all[Cell.okWide]
 unfold Cell.ok at h;split at h<;>first|(rename_i hh;cases hh;done)|skip
 all_goals simp_all
 obtain⟨_,_,_,h1,row,cells,h2,_⟩:=h
 grind[World.shape?,zeH]
theorem open_row{t:TypeId}{v:Value}{d:DataW H}{p:List MemPlace}(m:Nat)(hu:(match P.underlying t with|some (.struct _)|some (.array _ _)=>true|_=>false)=true)(hd:zdo P m t=true)
  (hv:Value.okWide P w .any base t v) (h:DataW.Trod enc P w 0 (fun _=>true) held t v d p):
  ∃vs ds,v=zw (φ0 w) (.s (.agg vs))/\RepL (fun b=>b.toNat<(yy w).n.toNat) (yy w) vs ds/\wfA (φ0 w) (yy w).n.toNat (.s (.agg vs))/\Ty P m t ds:=by
 have:∃cs,v=.agg cs/\cs.size=P.cellsOf t/\Row.okWide P w .any base t cs:=by grind[Value.okWide]
 obtain⟨cs,rfl,hsz,ts,_,_,hc⟩:=this;obtain⟨q,hq⟩:=h;obtain⟨⟨vs,ds,a,r,ty⟩,_⟩:=zfu m hd hq (fun v hv=>by obtain⟨i,hi⟩:=List.mem_iff_getElem?.1 hv;obtain⟨u,_,ho⟩:=hc i v (by rw[<-LzA];exact hi);exact zre ho)
 obtain⟨k1,k2⟩:=a.conc;refine⟨vs,ds,?_,r,k2,ty⟩;show Value.agg cs=.agg ((vs.map (zl (φ0 w))).toArray);rw[k1];rfl
end
end Go.PE
end
section
namespace Go.CE
open Go Go.RowKit Go.Shelf Go.Sort
open Go.Proofs (sortWorldK)
theorem zuZ(k:Nat):inZ (List.replicate k 0)=true:=by grind[inZ]
abbrev Rw(k:Nat):={l:List Int // zB5 k l}
instance (k:Nat):Inhabited (Rw k):=⟨⟨List.replicate k 0,Yyi,zuZ k⟩⟩
end Go.CE
end
section
namespace Go.CE
open Go Go.RowKit Go.Shelf Go.Sort
open Go.Proofs (sortWorldK)
end Go.CE
end
