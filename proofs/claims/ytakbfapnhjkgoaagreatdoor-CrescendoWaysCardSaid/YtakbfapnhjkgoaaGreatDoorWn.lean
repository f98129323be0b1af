/-
  Lemmas. No condition.
-/
import Derived.Test.YtakbfapnhjkgoaaGreatDoorWm
set_option linter.unusedSimpArgs false
set_option linter.unusedVariables false
section
namespace Go.Proofs.Tryz.Kn
open Go Go.CE Go.PE
theorem zwI(s:Int):∀(n i acc:Nat),i+n=64→acc≤i→
  zA (zml (U64 s)) [I6 (i:Int),I6 (acc:Int)] []=some (.exit 0,[I6 ((acc+(xf s n i).length:Nat):Int)],[]):=by
 intro n
 induction n with
 |zero=>intro i acc h _;refine zu ?_;have e:decide ((i:Int)<64)=false:=decide_eq_false (by omega);simp only[zml,zz,yF,zj,zb,e,zn,xf,YzJ,YzB];rfl
 |succ n ih=>
  intro i acc h ha;have e:decide ((i:Int)<64)=true:=decide_eq_true (by omega);have ea:zc .add (I6 (i:Int)) (I6 1)=some (I6 ((i+1:Nat):Int)):=yQ;have eb:zc .add (I6 (acc:Int)) (I6 1)=some (I6 ((acc+1:Nat):Int)):=yQ;have body:zml (U64 s) [I6 (i:Int),I6 (acc:Int)] []=some (.normal,[I6 ((i+1:Nat):Int),I6 ((if bit s i=true then acc+1 else acc:Nat):Int)],[]):=by
   by_cases hb:bit s i=true
   ·have hb':(zvq (zh7 s i) 1==1)=true:=hb;rw[Yzd hb];simp only[zml,zz,yF,zj,zb,e,zn,if_true,zvd,zce,zzd,Yzd hb',ea,eb]
   ·have hb':¬(zvq (zh7 s i) 1==1)=true:=hb;rw[Yzb hb];simp only[zml,zz,yF,zj,zb,e,zn,if_true,zvd,zce,zzd,Yzb hb',ea]
  rw[zH body];by_cases hb:bit s i=true
  ·rw[Yzd hb,ih (i+1) (acc+1) (by omega) (by omega),xf,Yzd hb,Yzm,show acc+1+(xf s n (i+1)).length=acc+((xf s n (i+1)).length+1) by omega]
  ·rw[Yzb hb,ih (i+1) acc (by omega) (by omega),xf,Yzb hb]
theorem zsW(k:Nat)(s:Int):D (k+1) 60 [S1 (U64 s)]=some (S1 (I6 ((xf s 64 0).length:Int))):=by have:=zwI s 64 0 0 rfl (LzB _);rw[show (I6 ((0:Nat):Int):DV)=I6 0 from rfl,Yzi]at this;rw[D60];unfold P60;rw[this];rfl
def zqf:List Int→Nat
 | []=>0
 |s::r=>(xf s 64 0).length+zqf r
def uC(r:Reg):Nat:=(xf r.cpls 64 0).length+(xf r.off 64 0).length+zqf r.stops.els
theorem zwG(k:Nat)(v:Sl Int)(hl:v.els.length≤10):∀(r:List Int) (i acc:Nat),v.els.drop i=r→acc≤128+64*i→
  zA (zrP (D (k+1)) (enL 1 enU v)) [I6 (i:Int),I6 (acc:Int)] []=some (.exit 0,[I6 ((acc+zqf r:Nat):Int)],[]):=by
 intro r
 induction r with
 |nil=>intro i acc h _;refine zu ?_;simp only[zrP,zz,yF,zD,zj,zb,xY (ya h),zn,zqf,YzB];rfl
 |cons s r ih=>intro i acc h ha;have h1:=yH h;have c:=zsW k s;have hb:=um s 64 0;have ea:zc .add (I6 (i:Int)) (I6 1)=some (I6 ((i+1:Nat):Int)):=yQ;have eb:zc .add (I6 (acc:Int)) (I6 ((xf s 64 0).length:Int))=some (I6 ((acc+(xf s 64 0).length:Nat):Int)):=yQ;rw[zH (by simp only[zrP,zz,yF,zD,zj,zb,jX h1,zn,if_true,yc h,enU,xE,c,zX,eb,ea];rfl),ih (i+1) _ (zP h) (by omega),zqf,Yyd]
theorem zvA(k:Nat)(r:Reg)(hl:r.stops.els.length≤10):D (k+2) 37 [SA (yz r)]=some (S1 (I6 (uC r:Int))):=by have c1:=zsW k r.cpls;have c2:=zsW k r.off;have h1:=um r.cpls 64 0;have h2:=um r.off 64 0;have l:=zwG k r.stops hl r.stops.els 0 ((xf r.cpls 64 0).length+(xf r.off 64 0).length) rfl (by omega);have ea:zc .add (I6 ((xf r.cpls 64 0).length:Int)) (I6 ((xf r.off 64 0).length:Int))=some (I6 (((xf r.cpls 64 0).length+(xf r.off 64 0).length:Nat):Int)):=yQ;rw[show (I6 ((0:Nat):Int):DV)=I6 0 from rfl]at l;unfold yz uC;rw[D37];unfold P37;rw[c1,zX,c2,zX,ea,zb,l];rfl
theorem znF:((List.range 8).all fun x=>(List.range 3).all fun i=>decide (0≤orI (x:Int) ((2^i:Nat):Int))&&decide (orI (x:Int) ((2^i:Nat):Int)<8)&&((xf (orI (x:Int) ((2^i:Nat):Int)) 64 0).length==(xf (x:Int) 64 0).length+(bif bit (x:Int) i then 0 else 1))&&(List.range 3).all fun j=>bit (orI (x:Int) ((2^i:Nat):Int)) j==(Nat.beq j i||bit (x:Int) j))=true:=by kernel_rfl
theorem ztv{x:Int}(hx:sm x){i:Nat}(hi:i<3):sm (orI x ((2^i:Nat):Int))∧(xf (orI x ((2^i:Nat):Int)) 64 0).length=(xf x 64 0).length+(bif bit x i then 0 else 1)∧∀j,j<3→(bit (orI x ((2^i:Nat):Int)) j=true↔j=i∨bit x j=true):=by obtain⟨a,rfl⟩:∃a:Nat,x=(a:Int):=⟨x.toNat,by have:=hx.1;omega⟩;have h:=YzL.1 (YzL.1 znF a (List.mem_range.2 (by have:=hx.2;omega))) i (List.mem_range.2 hi);rw[LzC,LzC,LzC,YzD,YzD,beq_iff_eq]at h;obtain⟨⟨⟨h1,h2⟩,h3⟩,h4⟩:=h;refine⟨⟨h1,h2⟩,h3,fun j hj=>?_⟩;have h5:=beq_iff_eq.1 (YzL.1 h4 j (List.mem_range.2 hj));rw[h5,YzF];have:Nat.beq j i=true↔j=i:=⟨Lz1,fun h=>by rw[h];exact Yzp i⟩;rw[this]
theorem zjy:∀(l:List Int) (d:Nat) (s y:Int),l[d]? = some s→zqf (l.set d y)+(xf s 64 0).length=zqf l+(xf y 64 0).length
 | [],_,_,_,h=>by cases h
 |a::l,0,s,y,h=>by cases h;simp only[List.set_cons_zero,zqf];omega
 |a::l,d+1,s,y,h=>by have:=zjy l d s y h;simp only[List.set_cons_succ,zqf];omega
theorem zrY{n:Nat}{r:Reg}(T:Tn n r){c:SCt}(hc:okC n c):Tn n (y9 r c)∧uC (y9 r c)=uC r+(if c∈yn r then 0 else 1)∧∀c',c'∈yn (y9 r c)↔c'=c∨c'∈yn r:=by
 rcases hc with⟨d,i,hd,hi,rfl⟩|⟨i,hi,rfl⟩|⟨i,hi,rfl⟩
 ·obtain⟨s,hs⟩:∃s,r.stops.els[d]? = some s:=⟨_,Lz5 (by rw[T.len];exact hd)⟩;have ss:=T.st s (Lz3 hs);obtain⟨o1,o2,o3⟩:=ztv ss hi;have e:y9 r ⟨1,(d:Int),(i:Int)⟩=⟨some (r.stops.els.set d (orI s ((2^i:Nat):Int))),r.cpls,r.off⟩:=by
   unfold y9;rw[Yzd rfl];simp only[YzE,hs,Yz2]
  rw[e];have T':Tn n ⟨some (r.stops.els.set d (orI s ((2^i:Nat):Int))),r.cpls,r.off⟩:=by
   refine⟨by rw[xw,List.length_set,T.len],fun x hx=>?_,T.c,T.f⟩;rw[xw]at hx;rcases List.mem_or_eq_of_mem_set hx with h|rfl
   ·exact T.st x h
   ·exact o1
  have hget:∀d',(r.stops.els.set d (orI s ((2^i:Nat):Int)))[d']? = if d=d' then some (orI s ((2^i:Nat):Int)) else r.stops.els[d']?:=by
   intro d';rw[List.getElem?_set];by_cases h:d=d'
   ·subst h;rw[Yzd rfl,Yzd rfl,Yzd (Lz0.1 hs).1]
   ·rw[Yzb h,Yzb h]
  have hin:(⟨1,(d:Int),(i:Int)⟩:SCt)∈yn r↔bit s i=true:=by
   rw[wg T]
   constructor
   ·rintro (⟨d',j,s',h1,_,h3,h4⟩|⟨j,_,_,h4⟩|⟨j,_,_,h4⟩)
    ·simp only[SCt.mk.injEq,Yyo,true_and]at h4;obtain⟨rfl,rfl⟩:=h4;rw[hs]at h1;cases h1;exact h3
    ·simp at h4
    ·simp at h4
   ·intro h;exact Or.inl ⟨d,i,s,hs,hi,h,rfl⟩
  refine⟨T',?_,fun c'=>?_⟩
  ·have hsum:=zjy _ _ _ (orI s ((2^i:Nat):Int)) hs;unfold uC;simp only[xw];by_cases hb:bit s i=true
   ·rw[Yzd (hin.2 hb)];rw[hb]at o2;simp only[Yza]at o2;omega
   ·rw[Yzb fun h=>hb (hin.1 h)];rw[Bool.eq_false_iff.2 hb]at o2;simp only[Yzc]at o2;omega
  ·rw[wg T',wg T];simp only[xw,hget]
   constructor
   ·rintro (⟨d',j,s',h1,h2,h3,rfl⟩|h|h)
    ·by_cases hd':d=d'
     ·subst hd';rw[Yzd rfl]at h1;cases h1;rcases (o3 j h2).1 h3 with rfl|h
      ·exact Or.inl rfl
      ·exact Or.inr (Or.inl ⟨d,j,s,hs,h2,h,rfl⟩)
     ·rw[Yzb hd']at h1;exact Or.inr (Or.inl ⟨d',j,s',h1,h2,h3,rfl⟩)
    ·exact Or.inr (Or.inr (Or.inl h))
    ·exact Or.inr (Or.inr (Or.inr h))
   ·rintro (rfl|⟨d',j,s',h1,h2,h3,rfl⟩|h|h)
    ·exact Or.inl ⟨d,i,_,Yzd rfl,hi,(o3 i hi).2 (Or.inl rfl),rfl⟩
    ·by_cases hd':d=d'
     ·subst hd';rw[hs]at h1;cases h1;exact Or.inl ⟨d,j,_,Yzd rfl,h2,(o3 j h2).2 (Or.inr h3),rfl⟩
     ·exact Or.inl ⟨d',j,s',by rw[Yzb hd'];exact h1,h2,h3,rfl⟩
    ·exact Or.inr (Or.inl h)
    ·exact Or.inr (Or.inr h)
 ·obtain⟨o1,o2,o3⟩:=ztv T.c hi;have e:y9 r ⟨2,0,(i:Int)⟩=⟨some r.stops.els,orI r.cpls ((2^i:Nat):Int),r.off⟩:=by
   unfold y9;rw[Yzb (by decide:¬(2:Int)=1),Yzd rfl];simp only[YzE]
  rw[e];have T':Tn n ⟨some r.stops.els,orI r.cpls ((2^i:Nat):Int),r.off⟩:=⟨T.len,T.st,o1,T.f⟩;have hin:(⟨2,0,(i:Int)⟩:SCt)∈yn r↔bit r.cpls i=true:=by
   rw[wg T]
   constructor
   ·rintro (⟨d',j,s',h1,_,h3,h4⟩|⟨j,_,h3,h4⟩|⟨j,_,_,h4⟩)
    ·simp at h4
    ·simp only[SCt.mk.injEq,Yyo,true_and]at h4;rw[h4];exact h3
    ·simp at h4
   ·intro h;exact Or.inr (Or.inl ⟨i,hi,h,rfl⟩)
  refine⟨T',?_,fun c'=>?_⟩
  ·unfold uC;simp only[xw];by_cases hb:bit r.cpls i=true
   ·rw[Yzd (hin.2 hb)];rw[hb]at o2;simp only[Yza]at o2;omega
   ·rw[Yzb fun h=>hb (hin.1 h)];rw[Bool.eq_false_iff.2 hb]at o2;simp only[Yzc]at o2;omega
  ·rw[wg T',wg T];simp only[xw]
   constructor
   ·rintro (h|⟨j,h1,h2,rfl⟩|h)
    ·exact Or.inr (Or.inl h)
    ·rcases (o3 j h1).1 h2 with rfl|h
     ·exact Or.inl rfl
     ·exact Or.inr (Or.inr (Or.inl ⟨j,h1,h,rfl⟩))
    ·exact Or.inr (Or.inr (Or.inr h))
   ·rintro (rfl|h|⟨j,h1,h2,rfl⟩|h)
    ·exact Or.inr (Or.inl ⟨i,hi,(o3 i hi).2 (Or.inl rfl),rfl⟩)
    ·exact Or.inl h
    ·exact Or.inr (Or.inl ⟨j,h1,(o3 j h1).2 (Or.inr h2),rfl⟩)
    ·exact Or.inr (Or.inr h)
 ·obtain⟨o1,o2,o3⟩:=ztv T.f hi;have e:y9 r ⟨3,(i:Int),0⟩=⟨some r.stops.els,r.cpls,orI r.off ((2^i:Nat):Int)⟩:=by
   unfold y9;rw[Yzb (by decide:¬(3:Int)=1),Yzb (by decide:¬(3:Int)=2)];simp only[YzE]
  rw[e];have T':Tn n ⟨some r.stops.els,r.cpls,orI r.off ((2^i:Nat):Int)⟩:=⟨T.len,T.st,T.c,o1⟩;have hin:(⟨3,(i:Int),0⟩:SCt)∈yn r↔bit r.off i=true:=by
   rw[wg T]
   constructor
   ·rintro (⟨d',j,s',h1,_,h3,h4⟩|⟨j,_,h3,h4⟩|⟨j,_,h3,h4⟩)
    ·simp at h4
    ·simp at h4
    ·simp only[SCt.mk.injEq,Yyo,true_and,and_true]at h4;rw[h4];exact h3
   ·intro h;exact Or.inr (Or.inr ⟨i,hi,h,rfl⟩)
  refine⟨T',?_,fun c'=>?_⟩
  ·unfold uC;simp only[xw];by_cases hb:bit r.off i=true
   ·rw[Yzd (hin.2 hb)];rw[hb]at o2;simp only[Yza]at o2;omega
   ·rw[Yzb fun h=>hb (hin.1 h)];rw[Bool.eq_false_iff.2 hb]at o2;simp only[Yzc]at o2;omega
  ·rw[wg T',wg T];simp only[xw]
   constructor
   ·rintro (h|h|⟨j,h1,h2,rfl⟩)
    ·exact Or.inr (Or.inl h)
    ·exact Or.inr (Or.inr (Or.inl h))
    ·rcases (o3 j h1).1 h2 with rfl|h
     ·exact Or.inl rfl
     ·exact Or.inr (Or.inr (Or.inr ⟨j,h1,h,rfl⟩))
   ·rintro (rfl|h|h|⟨j,h1,h2,rfl⟩)
    ·exact Or.inr (Or.inr ⟨i,hi,(o3 i hi).2 (Or.inl rfl),rfl⟩)
    ·exact Or.inl h
    ·exact Or.inr (Or.inl h)
    ·exact Or.inr (Or.inr ⟨j,h1,(o3 j h1).2 (Or.inr h2),rfl⟩)
theorem zbB{x:Int}(h:sm x):(xf x 64 0).Pairwise (·≠·):=by rw[zjc h];exact List.Pairwise.filter _ (by decide)
theorem zc9{l:List Nat}(h:l.Pairwise (·≠·)){f:Nat→SCt}(hf:∀i j,f i=f j→i=j):(l.map f).Pairwise (·≠·):=
 List.pairwise_map.2 (h.imp fun {a b} hab e=>hab (hf a b e))
theorem zcx:∀(r:List Int) (i:Nat),(∀x∈r,sm x)→(vW r i).Pairwise (·≠·)
 | [],_,_=>List.Pairwise.nil
 |s::r,i,h=>by
  refine List.pairwise_append.2 ⟨zc9 (zbB (h s (Yzg ..))) fun a b e=>?_,zcx r (i+1) fun x hx=>h x (Yze _ hx),fun a ha b hb e=>?_⟩
  ·simp only[SCt.mk.injEq,Yyo,true_and]at e;exact e
  ·obtain⟨j,_,rfl⟩:=List.mem_map.1 ha;obtain⟨d,j',s',_,_,_,rfl⟩:=(uN r (i+1) (fun x hx=>h x (Yze _ hx)) b).1 hb;simp only[SCt.mk.injEq,Yyo,true_and]at e;omega
theorem zma{n:Nat}{r:Reg}(T:Tn n r):(yn r).Pairwise (·≠·):=by
 unfold yn;refine List.pairwise_append.2 ⟨List.pairwise_append.2 ⟨zcx _ _ T.st,zc9 (zbB T.c) fun a b e=>?_,fun a ha b hb e=>?_⟩,zc9 (zbB T.f) fun a b e=>?_,fun a ha b hb e=>?_⟩
 ·simp only[SCt.mk.injEq,Yyo,true_and]at e;exact e
 ·obtain⟨d,j',s',_,_,_,rfl⟩:=(uN _ _ T.st a).1 ha;obtain⟨j,_,rfl⟩:=List.mem_map.1 hb;simp at e
 ·simp only[SCt.mk.injEq,Yyo,true_and,and_true]at e;exact e
 ·obtain⟨j,_,rfl⟩:=List.mem_map.1 hb;subst e;rcases List.mem_append.1 ha with h|h
  ·obtain⟨d,j',s',_,_,_,e⟩:=(uN _ _ T.st _).1 h;simp at e
  ·obtain⟨j',_,e⟩:=List.mem_map.1 h;simp at e
def zop(m:Nat):Nat→Reg→List SCt→List Reg
 |n,a,[]=>if 0<n then[a] else[]
 |n,a,c::r=>if uC (y9 a c)=uC a then zop m n a r else if n+1=m then y9 a c::zop m 0 (y9 a c) r else zop m (n+1) (y9 a c) r
theorem zfv(m nd:Nat)(S:List SCt):∀(r:List SCt) (n:Nat) (a:Reg),Tn nd a→r.Pairwise (·≠·)→(∀c∈r,okC nd c)→(∀c∈r,c∈yn a↔c∈S)→zop m n a r=zfu m n a (r.filter (vO S))
 | [],n,a,_,_,_,_=>rfl
 |c::r,n,a,T,hd,ho,hs=>by
  obtain⟨T',hz,hm⟩:=zrY T (ho c (Yzg ..));have hd2:=(List.pairwise_cons.1 hd);have ho2:∀c∈r,okC nd c:=fun c hc=>ho c (Yze _ hc);by_cases hc:c∈S
  ·have h1:uC (y9 a c)=uC a:=by rw[hz,Yzd ((hs c (Yzg ..)).2 hc)];rfl
   have hk:vO S c=false:=by simp[vO,hc]
   rw[zop,Yzd h1,List.filter_cons_of_neg (by rw[hk];exact Bool.false_ne_true)];exact zfv m nd S r n a T hd2.2 ho2 fun c hc=>hs c (Yze _ hc)
  ·have h1:¬uC (y9 a c)=uC a:=by rw[hz,Yzb fun h=>hc ((hs c (Yzg ..)).1 h)];omega
   have hk:vO S c=true:=by simp[vO,hc]
   have hs2:∀c'∈r,c'∈yn (y9 a c)↔c'∈S:=fun c' hc'=>by
    rw[hm]
    constructor
    ·rintro (rfl|h)
     ·exact absurd rfl (hd2.1 c' hc')
     ·exact(hs c' (Yze _ hc')).1 h
    ·intro h;exact Or.inr ((hs c' (Yze _ hc')).2 h)
   rw[zop,Yzb h1,List.filter_cons_of_pos hk,zfu,zfv m nd S r 0 (y9 a c) T' hd2.2 ho2 hs2,zfv m nd S r (n+1) (y9 a c) T' hd2.2 ho2 hs2]
theorem zpv{l:List (List DV)}(h:0<l.length):zdU none l=some l:=by
 cases l with
 |nil=>cases h
 |cons x l=>rfl
theorem znY{α:Type}{l:List α}(h:0<l.length):(!l.isEmpty)=true:=by
 cases l with
 |nil=>cases h
 |cons x l=>rfl
theorem t36(k:Nat)(r:Reg)(c:SCt)(hl:r.stops.els.length≤10)(h0:0<r.stops.els.length)(hc:okC r.stops.els.length c):D (k+1) 36 [SA (yz r),SA (xJ c)]=some (SA (yz (y9 r c))):=by
 have hm:0<(r.stops.els.map enU).length:=by rw[Yzj];exact h0
 have eg:fits 8 (r.stops.els.map enU).length=true:=wH (by decide) (by simp only[Yzj];omega);unfold yz xJ;rw[D36];unfold P36;simp only[zeg,zb,znY hm,Yza,eg,kR,zpv hm,zO,zn];rcases hc with⟨d,j,hd,hj,rfl⟩|⟨j,hj,rfl⟩|⟨j,hj,rfl⟩
 ·obtain⟨s,hs⟩:∃s,r.stops.els[d]? = some s:=⟨_,Lz5 (by omega)⟩;have e1:xe (some (r.stops.els.map enU)) (I6 (d:Int))=some d:=jC (by rw[Yzj];omega);have e2:jW (some (r.stops.els.map enU)) d=some [U64 s]:=by
   show ((r.stops.els.map enU)[d]?)=_;rw[Lz6,hs];rfl
  have e3:z7 true (U64 1) (I6 (j:Int))=some (U64 ((2^j:Nat):Int)):=zlv (by omega);have e4:zgo 1 (some (r.stops.els.map enU)) d 0 [U64 (orI s ((2^j:Nat):Int))]=some (some ((r.stops.els.set d (orI s ((2^j:Nat):Int))).map enU)):=zzv hs (Lz4 rfl) rfl;have e5:y9 r ⟨1,(d:Int),(j:Int)⟩=⟨some (r.stops.els.set d (orI s ((2^j:Nat):Int))),r.cpls,r.off⟩:=by unfold y9;rw[Yzd rfl];simp only[YzE,hs,Yz2]
  rw[e5];simp only[Yzu,if_true,e1,e2,zb,e3,xE,zbe,e4];rfl
 ·have e3:z7 true (U64 1) (I6 (j:Int))=some (U64 ((2^j:Nat):Int)):=zlv (by omega);have e5:y9 r ⟨2,0,(j:Int)⟩=⟨some r.stops.els,orI r.cpls ((2^j:Nat):Int),r.off⟩:=by
   unfold y9;rw[Yzb (by decide:¬(2:Int)=1),Yzd rfl];simp only[YzE]
  rw[e5];simp only[show ((2:Int)==1)=false from rfl,Yzu,Yzh,if_true,if_false,zb,e3,zbe];rfl
 ·have e3:z7 true (U64 1) (I6 (j:Int))=some (U64 ((2^j:Nat):Int)):=zlv (by omega);have e5:y9 r ⟨3,(j:Int),0⟩=⟨some r.stops.els,r.cpls,orI r.off ((2^j:Nat):Int)⟩:=by
   unfold y9;rw[Yzb (by decide:¬(3:Int)=1),Yzb (by decide:¬(3:Int)=2)];simp only[YzE]
  rw[e5];simp only[show ((3:Int)==1)=false from rfl,show ((3:Int)==2)=false from rfl,Yzh,if_false,zb,e3,zbe];rfl
theorem zqC{α:Type}{f:α→List DV}{v:Sl α}{k:IntKind}{i:Nat}(h:i<v.els.length):xe (ocL f v) (.int k (i:Int))=some i:=by
 cases v with
 |none=>cases h
 |some l=>exact jC (by rw[Yzj];exact h)
theorem zwH(k nd:Nat)(hnd:nd≤3)(h1:0<nd)(cs:List SCt)(hl:cs.length≤100)(hok:∀c∈cs,okC nd c)(m:Nat)(hm:0<m)(hm2:m≤9223372036854775807):∀(r:List SCt) (i n:Nat) (a:Reg) (out:List Reg),cs.drop i=r→Tn nd a→n≤i→out.length≤i→
  ∃(n':Nat) (a':Reg) (out':List Reg),zA (za5 (D (k+2)) [ocL xJ (grow cs)] (I6 (m:Int))) [I6 (i:Int),I6 (n:Int),enL 1 enU a.stops,U64 a.cpls,U64 a.off] [ocL yz (grow out)]=some (.exit 0,[I6 (n':Int),enL 1 enU a'.stops,U64 a'.cpls,U64 a'.off],[ocL yz (grow out')])∧out'.length≤i+r.length∧out'++(if 0<n' then[a'] else[])=out++zop m n a r:=by
 intro r
 induction r with
 |nil=>intro i n a out h T hn ho;refine⟨n,a,out,zu ?_,by simpa using ho,rfl⟩;have hi:cs.length≤i:=ya h;simp only[za5,zz,yF,yM,xZ,zK,xy,zj,zb,xY hi,zn];rfl
 |cons c r ih=>
  intro i n a out h T hn ho;have hlt:=yH h;have hc:=xa h;have hcn:=hok c (Lz3 hc);have hla:=T.len;obtain⟨T',hz,_⟩:=zrY T hcn;have cp:=t36 (k+1) a c (by omega) (by omega) (by rw[hla];exact hcn);have cs1:=zvA k (y9 a c) (by rw[T'.len];omega);have cs2:=zvA k a (by omega);have ea:zc .add (I6 (i:Int)) (I6 1)=some (I6 ((i+1:Nat):Int)):=yQ;have eb:zc .add (I6 (n:Int)) (I6 1)=some (I6 ((n+1:Nat):Int)):=yQ;have i1:xe (ocL xJ (grow cs)) (I6 (i:Int))=some i:=zqC (by rw[zK];exact hlt);have i2:jW (ocL xJ (grow cs)) i=some (xJ c):=znV (by rw[zK];exact hc);have ef:fits 40 ((grow out).els.length+1)=true:=wH (by decide) (by rw[zK];omega);have hp:(some ((grow out).els.map yz++[[enL 1 enU (y9 a c).stops,U64 (y9 a c).cpls,U64 (y9 a c).off]]):OC)=ocL yz (grow (out++[y9 a c])):=by rw[wi,←vJ];rfl
  have ec:yz a=[enL 1 enU a.stops,U64 a.cpls,U64 a.off]:=rfl;have ee:xJ c=[I6 c.kind,I6 c.div,I6 c.idx]:=rfl;rw[ec,ee]at cp;rw[ec]at cs2;by_cases e1:uC (y9 a c)=uC a
  ·have body:za5 (D (k+2)) [ocL xJ (grow cs)] (I6 (m:Int)) [I6 (i:Int),I6 (n:Int),enL 1 enU a.stops,U64 a.cpls,U64 a.off] [ocL yz (grow out)]=some (.normal,[I6 ((i+1:Nat):Int),I6 (n:Int),enL 1 enU a.stops,U64 a.cpls,U64 a.off],[ocL yz (grow out)]):=by
    have e1':((uC (y9 a c):Int)==(uC a:Int))=true:=by rw[e1];exact Yzu _
    simp only[za5,zz,yF,yM,xZ,zK,xy,zj,zb,jX hlt,zn,if_true,i1,i2,ee,xE,vh,cp,zje,zkR,cs1,zX,cs2,zO,e1',ea]
   obtain⟨n',a',out',q1,q2,q3⟩:=ih (i+1) n a out (zP h) T (by omega) (by omega);refine⟨n',a',out',?_,by simp only[Yzm];omega,?_⟩
   ·rw[zH body];exact q1
   ·rw[zop,Yzd e1];exact q3
  ·have e1':((uC (y9 a c):Int)==(uC a:Int))=false:=by
    have:¬(uC (y9 a c):Int)=(uC a:Int):=by omega
    simpa using this
   by_cases e2:n+1=m
   ·have e2':(((n+1:Nat):Int)==(m:Int))=true:=by rw[e2];exact Yzu _
    have body:za5 (D (k+2)) [ocL xJ (grow cs)] (I6 (m:Int)) [I6 (i:Int),I6 (n:Int),enL 1 enU a.stops,U64 a.cpls,U64 a.off] [ocL yz (grow out)]=some (.normal,[I6 ((i+1:Nat):Int),I6 ((0:Nat):Int),enL 1 enU (y9 a c).stops,U64 (y9 a c).cpls,U64 (y9 a c).off],[ocL yz (grow (out++[y9 a c]))]):=by rw[←hp];simp only[za5,zz,yF,yM,xZ,zK,xy,zj,zb,jX hlt,zn,if_true,i1,i2,ee,xE,vh,cp,zje,zkR,cs1,zX,cs2,zO,e1',Yzh,if_false,eb,e2',ea,x9];rw[zK]at ef;rw[ef];rfl
    obtain⟨n',a',out',q1,q2,q3⟩:=ih (i+1) 0 (y9 a c) (out++[y9 a c]) (zP h) T' (by omega) (by simp only[Yzq,Yzm,YzJ];omega);refine⟨n',a',out',?_,by simp only[Yzm];omega,?_⟩
    ·rw[zH body];exact q1
    ·rw[zop,Yzb e1,Yzd e2,q3];simp
   ·have e2':(((n+1:Nat):Int)==(m:Int))=false:=by
     have:¬((n+1:Nat):Int)=(m:Int):=by omega
     simpa using this
    have body:za5 (D (k+2)) [ocL xJ (grow cs)] (I6 (m:Int)) [I6 (i:Int),I6 (n:Int),enL 1 enU a.stops,U64 a.cpls,U64 a.off] [ocL yz (grow out)]=some (.normal,[I6 ((i+1:Nat):Int),I6 ((n+1:Nat):Int),enL 1 enU (y9 a c).stops,U64 (y9 a c).cpls,U64 (y9 a c).off],[ocL yz (grow out)]):=by simp only[za5,zz,yF,yM,xZ,zK,xy,zj,zb,jX hlt,zn,if_true,i1,i2,ee,xE,vh,cp,zje,zkR,cs1,zX,cs2,zO,e1',Yzh,if_false,eb,e2',ea];rfl
    obtain⟨n',a',out',q1,q2,q3⟩:=ih (i+1) (n+1) (y9 a c) out (zP h) T' (by omega) (by omega);refine⟨n',a',out',?_,by simp only[Yzm];omega,?_⟩
    ·rw[zH body];exact q1
    ·rw[zop,Yzb e1,Yzb e2];exact q3
theorem t12(k:Nat){o:Org}(ho:o.ok)(H:Small o)(a b:Reg)(la:a.stops.els.length≤10)(lb:b.stops.els.length≤10)(m:Nat)(hm:0<m)(hm2:m≤9223372036854775807)(ha:yB o a=0)(hb:yB o b=0):
  D (k+12) 12 [SA (enO o),SA (zb3 a b (m:Int))]=some (S1 (enL 3 yz (grow (zop m 0 a (yn b))))):=by
 have csb:=t55 k o ho b;rw[hb]at csb;have TA:=zk2 H ha;have TB:=zk2 H hb;have lb15:=zco TB H.hd;have hd1:=(zcS H.h0).2;have r1:=ztQ b.stops lb b.stops.els 0 [] rfl (LzB _);have r2:=zos b lb;have r3:=zor b lb;rw[show (I6 ((0:Nat):Int):DV)=I6 0 from rfl,show ocL xJ (grow ([]:List SCt))=none from rfl,Yz0]at r1;obtain⟨n',a',out',q1,q2,q3⟩:=zwH (k+9) o.divs.els.length H.hd hd1 (yn b) (by omega) (ziV TB) m hm hm2 (yn b) 0 0 a [] rfl TA (LzB _) (LzB _);rw[show (I6 ((0:Nat):Int):DV)=I6 0 from rfl,show ocL yz (grow ([]:List Reg))=none from rfl]at q1;rw[Yz0]at q3;have n0:(!((0:Int)==0))=false:=rfl;unfold enO at csb ⊢;unfold yz at csb;unfold zb3;rw[D12];unfold P12;simp only[csb,zX,zU,n0,zb,zn,Yzh,if_false,zD,r1,yq,Yzp,Yza,yM,r2,r3,q1,zz,yF,yE,xZ,zK,x9];by_cases hn:0<n'
 ·rw[Yzd hn]at q3;have hn':decide ((0:Int)<(n':Int))=true:=decide_eq_true (by omega);have ef:fits 40 (out'.length+1)=true:=wH (by decide) (by omega);rw[hn',Yzd rfl,ef,←q3];have:enL 3 yz (grow (out'++[a']))=.lst 3 (out'.map yz++[[enL 1 enU a'.stops,U64 a'.cpls,U64 a'.off]]):=by
   rw[zfO (by simp),zcm,Yyi];rfl
  rw[this];rfl
 ·rw[Yzb hn,Yz5]at q3;have hn':decide ((0:Int)<(n':Int))=false:=decide_eq_false (by omega);rw[hn',Yzb Bool.false_ne_true,kK,q3]
section
variable {β:Type}
theorem zeV{x:Option DA}{v:DV}{K:DV→Option β}{R:Option β}(h:x=some (S1 v))(hk:K v=R):b1 x K=R:=by rw[h];exact hk
theorem vF{α:Type}{x:Option α}{v:α}{K:α→Option β}{R:Option β}(h:x=some v)(hk:K v=R):za x K=R:=by rw[h];exact hk
theorem zb8{q:Bool}{a b R:Option β}(h:q=true)(hk:a=R):ifB (.bool q) a b=R:=by rw[h];exact hk
theorem zgu{q:Bool}{a b R:Option β}(h:q=false)(hk:b=R):ifB (.bool q) a b=R:=by rw[h];exact hk
theorem zqi{x:Option DA}{a b:DV}{K:List DS→Option β}{R:Option β}(h:x=some (.tup [.one a,.one b]))(hk:K [.one a,.one b]=R):bT [none,none] x K=R:=by rw[h];exact hk
end
theorem zwJ(k:Nat)(l:List Reg)(hl:l.length≤1000)(hs:∀r∈l,r.stops.els.length≤1000):∀(r:List Reg) (i:Nat),l.drop i=r→
  zA (zkY (D (k+1)) (enL 3 yz (grow l)) [.one (enL 3 yz (grow l)),.one (I6 0)]) [I6 (i:Int)] []=some (.exit 0,[],[]):=by
 intro r
 induction r with
 |nil=>intro i h;refine zu ?_;simp only[zkY,zz,zD,zK,zj,zb,xY (ya h),zn];rfl
 |cons x r ih=>
  intro i h;have hlt:=yH h;have hx:=xa h;have ea:zc .add (I6 (i:Int)) (I6 1)=some (I6 ((i+1:Nat):Int)):=yQ;have c:=t13 k x (hs x (Lz3 hx));have ix:yW 3 (enL 3 yz (grow l)) (I6 (i:Int))=some (yz x):=by rw[jB,zK,hx];rfl
  rw[zH (by simp only[zkY,zz,zD,zK,zj,zb,jX hlt,zn,if_true,zkB,zf3,ix,zkR,c,zX,yY,Yyf,Yzh,if_false,ea];rfl),ih (i+1) (zP h)]
theorem zft(m:Nat)(P:Reg→Prop)(hP:∀a c,P a→P (y9 a c)):∀(r:List SCt) (n:Nat) (a:Reg),P a→(zfu m n a r).length≤r.length+1∧∀x∈zfu m n a r,P x
 | [],n,a,h=>by
  unfold zfu;split
  ·exact⟨LzB _,fun x hx=>by rw[Yz8.1 hx];exact h⟩
  ·exact⟨Yzo _,fun x hx=>by cases hx⟩
 |c::r,n,a,h=>by
  unfold zfu;split
  ·obtain⟨h1,h2⟩:=zft m P hP r 0 (y9 a c) (hP a c h);refine⟨by simp only[Yzm];omega,fun x hx=>?_⟩;rcases Yzw.1 hx with rfl|hx
   ·exact hP a c h
   ·exact h2 x hx
  ·obtain⟨h1,h2⟩:=zft m P hP r (n+1) (y9 a c) (hP a c h);exact⟨by simp only[Yzm];omega,h2⟩
theorem t3(k:Nat)(p:Pln)(hp:p.ok)(a b:Reg)(m:Int)(hm:m≤9223372036854775807):D (k+16) 3 [SA (zf1 p),SA (zb3 a b m)]=some (S1 (Bo true)):=by
 have kn:=D5 (k+15);have cf:=t6 (k+14) p hp;unfold zf1 at cf ⊢;unfold zb3;rw[D3];unfold P3;refine zeV kn (vF (yY _) (zgu rfl (zeV cf (vF (yY _) ?_))));cases hf:zfP p with
 |false=>exact zb8 rfl (zeV kn rfl)
 |true=>
  refine zgu rfl (vF (zD ..) (vF (yE ..) ?_));by_cases hl:(10:Int)<(a.stops.els.length:Int)
  ·exact zb8 (decide_eq_true hl) (zeV kn rfl)
  refine zgu (decide_eq_false hl) (vF (zD ..) (vF (yE ..) ?_));by_cases hl2:(10:Int)<(b.stops.els.length:Int)
  ·exact zb8 (decide_eq_true hl2) (zeV kn rfl)
  refine zgu (decide_eq_false hl2) ?_;have cm:=t7 (k+8) p hp hf;have ho:=ztK p hf;have h0:=zlL p hp hf;obtain⟨s1,s2,s3⟩:=zlK p hf;have H:Small (zmp p):=⟨h0,s1,s2,s3⟩;generalize zmp p=o at cm ho h0 s1 s2 s3 H;unfold zf1 at cm;rw[cm,zuS];have c8:=t8 (k+3) ho H a b (by omega) (by omega) m hm;have c8':=t8 (k+2) ho H a b (by omega) (by omega) m hm;have c9:∃n:Int,(y6 o a b m≠0→n=0)∧(y6 o a b m=0→n=((zfu m.toNat 0 a (zhM a b)).length:Int))∧D (k+15) 9 [SA (enO o),SA (zb3 a b m)]=some (.tup [.one (I6 n),.one (I6 (y6 o a b m))]):=by
   unfold enO zb3 at c8' ⊢;rw[D9];unfold P9;by_cases hw:y6 o a b m=0
   ·rw[Yzb (by simp[hw])]at c8';refine⟨_,fun h=>absurd hw h,fun _=>rfl,?_⟩;refine zqi c8' (vF (zD ..) ?_);rw[zK];rfl
   ·rw[Yzd hw]at c8';exact⟨0,fun _=>rfl,fun h=>absurd h hw,zqi c8' (vF j4 rfl)⟩
  obtain⟨n,hn1,hn2,c9⟩:=c9;have c10:=t10 (k+5) o ho a;have c10b:=t10 (k+5) o ho b;have c11:=t11 (k+13) a b (by unfold zgH;omega);unfold zb3 at c8 c9;unfold yz at c10 c10b c11;refine zqi c8 (zqi c9 (zeV c10 (vF (zO ..) ?_)));by_cases h1:yB o a=0
  case neg=>
   have e1:(yB o a==0)=false:=by simpa using h1
   have hw:y6 o a b m=yB o a:=by unfold y6;rw[Yzd h1]
   have hw1:y6 o a b m≠0:=by rw[hw];exact h1
   have hn0:=hn1 hw1;subst hn0;rw[Yzd hw1,hw];refine zgu e1 (vF (zO ..) (zgu e1 (vF (zO ..) (zgu e1 (vF (zU ..) (zb8 (by rw[e1];rfl) (vF j4 (vF (zO ..) (zb8 rfl (vF (zO ..) (zb8 (Yzu _) (vF (zO ..) (zb8 rfl (vF (zO ..) ?_))))))))))))));show some (S1 (.bool (yB o a==yB o a)))=_;rw[Yzu]
  have e1:(yB o a==0)=true:=by simpa using h1
  refine zb8 e1 (zeV c10b (vF (zO ..) ?_));by_cases h2:yB o b=0
  case neg=>
   have e2:(yB o b==0)=false:=by simpa using h2
   have hw:y6 o a b m=yB o b:=by unfold y6;rw[Yzb (by simp[h1]),Yzd h2]
   have hw1:y6 o a b m≠0:=by rw[hw];exact h2
   have hn0:=hn1 hw1;subst hn0;rw[Yzd hw1,hw];refine zgu e2 (vF (zO ..) (zgu e2 (vF (zU ..) (zb8 (by rw[e2];rfl) (vF j4 (vF (zO ..) (zb8 rfl (vF (zO ..) (zb8 (Yzu _) (vF (zO ..) (zb8 rfl (vF (zO ..) ?_))))))))))));show some (S1 (.bool (yB o b==yB o b)))=_;rw[Yzu]
  have e2:(yB o b==0)=true:=by simpa using h2
  refine zb8 e2 (vF (zj ..) ?_);by_cases h3:m<1
  ·have hw:y6 o a b m=3:=by unfold y6;rw[Yzb (by simp[h1]),Yzb (by simp[h2]),Yzd h3]
   have hw1:y6 o a b m≠0:=by rw[hw];decide
   have hn0:=hn1 hw1;subst hn0;rw[Yzd hw1,hw];exact zb8 (decide_eq_true h3) (vF (zO ..) (zgu rfl (vF (zU ..) (zb8 rfl (vF j4 (vF (zO ..) (zb8 rfl (vF (zO ..) (zb8 rfl (vF (zO ..) (zb8 rfl (vF (zO ..) rfl))))))))))))
  refine zgu (decide_eq_false h3) (vF (zO ..) (zb8 e2 (zeV c11 (vF (yY _) ?_))));cases h4:qQ a b with
  |false=>
   have hw:y6 o a b m=6:=by unfold y6;rw[Yzb (by simp[h1]),Yzb (by simp[h2]),Yzb h3,Yzd h4]
   have hw1:y6 o a b m≠0:=by rw[hw];decide
   have hn0:=hn1 hw1;subst hn0;rw[Yzd hw1,hw];exact zb8 rfl (vF (zU ..) (zb8 rfl (vF j4 (vF (zO ..) (zb8 rfl (vF (zO ..) (zb8 rfl (vF (zO ..) (zb8 rfl (vF (zO ..) rfl))))))))))
  |true=>
   have hw:y6 o a b m=0:=by unfold y6;rw[Yzb (by simp[h1]),Yzb (by simp[h2]),Yzb h3,Yzb (by simp[h4])]
   have hn0:=hn2 hw;subst hn0;obtain⟨m,rfl⟩:∃n:Nat,m=(n:Int):=⟨m.toNat,by omega⟩;have TA:=zk2 H h1;have TB:=zk2 H h2;have c12:=t12 (k+3) ho H a b (by omega) (by omega) m (by omega) (by omega) h1 h2;have hq:=zfv m o.divs.els.length (yn a) (yn b) 0 a TA (zma TB) (ziV TB) fun c _=>Iff.rfl;rw[hq,show (yn b).filter (vO (yn a))=zhM a b from rfl]at c12;unfold zb3 at c12;rw[Yzb (by simp[hw]),hw,YzE];have h15:=zco TB H.hd;have hf15:=List.length_filter_le (vO (yn a)) (yn b);obtain⟨g1,g2⟩:=zft m (fun r=>r.stops.els.length≤1000) (fun a c h=>by rw[zgl];exact h) (zhM a b) 0 a (by omega);have hlen:(zhM a b).length≤15:=Yzn hf15 h15;generalize zfu m 0 a (zhM a b)=ls at c12 g1 g2;have l:=zwJ (k+14) ls (by omega) g2 ls 0 rfl;rw[show (I6 ((0:Nat):Int):DV)=I6 0 from rfl]at l;refine zgu rfl (vF (zU ..) (zgu (by rw[e2];rfl) (zeV c12 (vF (zU ..) (zgu rfl (vF (zU ..) (zgu rfl (vF (zD ..) (vF (zU ..) (zgu (by rw[zK,Yzu];rfl) (vF (zD ..) (vF (zD ..) (vF (zU ..) (zgu (by rw[Yzu];rfl) ?_))))))))))))));rw[l];rfl
end Go.Proofs.Tryz.Kn
end
