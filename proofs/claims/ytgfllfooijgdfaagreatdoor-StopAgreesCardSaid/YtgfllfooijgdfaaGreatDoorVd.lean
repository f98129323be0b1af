/-
  Lemmas. No condition.
-/
import Derived.Test.YtgfllfooijgdfaaGreatDoorVc
import Derived.Shelf.SlSortCmp.InsertionK
import Derived.Shelf.SlSortCmp.WholeK
section
namespace Go.PE
open Go Go.CE
def zC(ρ:Nat→PA)(l:List Nat):Nat→PA:=fun i=>bif ziw i l then ρ i else .bad
def zeL(bo:Nat→Nat)(n:Nat):Option Nat→Nat→Nat
 |none=>bo
 |some d=>fun i=>bif Nat.beq i d then n else bo i
def bOf(bo:Nat→Nat):Operand→Nat
 | .tmp t=>bo t
 |_=>0
def okW(ws:List (List Nat))(lo hi:Nat)(rd:List Nat):Bool:=((ws.drop lo).take (hi-lo)).all fun w=>rd.all fun k=>!ziw k w
section
variable (P:Program) (O:Orc) (tab:Nat→Bool) (Y:Inl)
def zsJ(ρ:Nat→PA)(o:Oper):List Oper→Option (Nat×List PA)
 | []=>zfA P tab ρ o
 |_::_=>none
def zuv(ρ:Nat→PA)(o:Oper):Option (Nat×Nat×List PA):=
 match zfA P tab ρ o with
 |some (g,az)=>
  match az with
  | .s (.one (.own j))::rest=>some (g,j,rest)
  |_=>none
 |none=>none
def pDr{β:Type}(lk:Nat→Bool)(nt:Nat)(ops:Array Oper)(bs:List Nat)(es:List Bool):Nat→List Oper→(Nat→PA)→List PO→(Nat→Nat)→List (List Nat)→List (Nat×Nat×List Nat)→((Nat→PA)→List PO→Option β)→Option β
 |_,[],ρ,os,_,ws,ps,K=>bif ps.all (fun p=>okW ws p.1 p.2.1 p.2.2) then K ρ os else none
 |i,o::l,ρ,os,bo,ws,ps,K=>
  bif yc P o.op then
   match comp P o.op with
   |none=>none
   |some ko=>
    bif jb ko then
     u5 P O (fun _=>true) nt ops o (zC ρ (o.looksAt ops)) os fun ref a _ _ _=>pDr lk nt ops bs es (Nat.succ i) l (zbt (refine ρ ref) a o.dst) os (zeL bo (match trk (refine (zC ρ (o.looksAt ops)) ref) ko with|some x=>bOf bo x|none=>ws.length) o.dst) ws ps K
    else
     match zef ko with
     |none=>none
     |some x=>
      bif Nat.beq (ce (fun j=>bef bs j i) 0 es) (ce (fun j=>!bef bs i j) 0 es) then
       u5 P O (fun _=>true) nt ops o (zC ρ (o.looksAt ops)) os fun ref a _ _ _=>pDr lk nt ops bs es (Nat.succ i) l (zbt (refine ρ ref) a o.dst) os (zeL bo ws.length o.dst) ws ps K
      else
       bif Nat.ble (bOf bo x) (ce (fun j=>bef bs j i) 0 es)&&Nat.ble (ce (fun j=>bef bs j i) 0 es) ws.length&&Nat.ble ws.length (ce (fun j=>!bef bs i j) 0 es) then
        u5 P O (fun _=>true) nt ops o (zC ρ (o.looksAt ops)) os fun ref a _ _ rd=>pDr lk nt ops bs es (Nat.succ i) l (zbt (refine ρ ref) a o.dst) os (zeL bo ws.length o.dst) ws (ps++[(ce (fun j=>bef bs j i) 0 es,ce (fun j=>!bef bs i j) 0 es,rd)]) K
       else none
  else
   match zsJ P tab (zC ρ (o.looksAt ops)) o l with
   |some (g,az)=>bif inT nt o.dst&&ps.all (fun p=>okW ws p.1 p.2.1 p.2.2&&Nat.ble p.2.1 ws.length) then Y g lk az os β (fun a os'=>K (zbt ρ a o.dst) os') else none
   |none=>
   match zuv P tab (zC ρ (o.looksAt ops)) o with
   |some (g,j,az)=>bif inT nt o.dst then Y (zl9+g) lk (pc (.own j)::az) os β (fun a os'=>pDr lk nt ops bs es (Nat.succ i) l (zbt ρ a o.dst) os' (zeL bo (Nat.succ ws.length) o.dst) (ws++[[j]]) ps K) else none
   |none=>
   u5 P O lk nt ops o (zC ρ (o.looksAt ops)) os fun ref a os' wr _=>pDr lk nt ops bs es (Nat.succ i) l (zbt (refine ρ ref) a o.dst) os' (zeL bo (Nat.succ ws.length) o.dst) (ws++[wr]) ps K
end
section
variable {P:Program} {O:Orc} {C:Nat→zb} {E:En}
theorem zpx{β:Type}{N:Nm}{os:List PO}{r:Fr}{ρ:Nat→PA}{k:KT β}{x:β}{sh:Sh}(I:Ze E N os)(F:∀i,RepPA N (r i) (ρ i)){ko:KOp}(hq:jb ko=true∨∃y,zef ko=some y)(e:pOp O (fun _=>true) sh ρ os ko k=some x):GoalQ N os r ρ ko k x:=by
 cases ko with
 |mv a=>exact zvC I F e
 |pick c a b=>exact zoA I F e
 |build zs parts=>exact zki I F e
 |load n a=>exact zoD I F e
 |nilck a=>exact zkc I F e
 |bin op a b=>exact zsu I F e
 |shift l a b=>exact zkb I F e
 |str op a b=>exact zsm I F e
 |nilS neg a b=>exact zoB I F e
 |eq q neg a b=>exact zvD I F e
 |not a=>exact zsn I F e
 |neg a=>exact zso I F e
 |conv t a=>exact zoH I F e
 |b2s a=>exact zsv I F e
 |mkfn f caps=>exact zoC I F e
 |slice st a lo hi mx=>exact zka I F e
 |sslice a lo hi=>exact zgS I F e
 |foff a off=>exact zoG I F e
 |field a off n=>exact zkh I F e
 |ixs st a i=>exact zss I F e
 |ixarr len st a i=>exact zkf I F e
 |ixagg len st n a i=>exact zkg I F e
 |ixstr a i=>exact zke I F e
 |extract a i=>exact zeb I F e
 |lenS a=>exact zoE I F e
 |lenL a=>exact zoF I F e
 |minmax m a xs=>exact zgT I F e
 |_=>rcases hq with h|⟨y,h⟩<;>cases h
def zvk(P:Program){β:Type}(nt:Nat)(ops:Array Oper)(o:Oper)(ko:KOp)(N:Nm)(os:List PO)(r:Fr)(ρ:Nat→PA)(K:Option (Nat×Bool)→KT β)(x:β):Prop:=
  ∃ref a rd v,K ref a os [] rd=some x∧(∀i,RepPA N (r i) (refine ρ ref i))∧RepPA N v a∧(∀call,z5 P nt ops o call r N.h=some (v,N.h))∧
    (∀xo,trk (refine ρ ref) ko=some xo→∀N':Nm,(∀t,xo=.tmp t→RepPA N' (r t) (refine ρ ref t))→RepPA N' v a)∧
    ((∀call h2,∃h',z5 P nt ops o call r h2=some (v,h'))∨(∃xo,zef ko=some xo∧∃b:BN,(∀call h2,h2.t.get b=N.h.t.get b→∃h',z5 P nt ops o call r h2=some (v,h'))∧
      ((∃ j, rd = [j] ∧ j < N.n ∧ blk (N.μ j) = some b ∧ held (og os j) ∧ ∀ N' : Nm, (∀ t, xo = .tmp t → RepPA N' (r t) (refine ρ ref t)) → j < N'.n) ∨
       (rd=[]∧∀N':Nm,(∀t,xo=.tmp t→RepPA N' (r t) (refine ρ ref t))→N'.fz b∧∃y,N'.h.t.get b=some y))))
theorem zeB{r:Fr}{ρ:Nat→PA}{xo:Operand}{N':Nm}(H:∀t,xo=Operand.tmp t→RepPA N' (r t) (ρ t)){u:Zb}{pa:PA}(hu:kv r xo=some u)(hpa:pv ρ xo=some pa):RepPA N' u pa:=by
 cases xo with
 |tmp t=>cases hu;cases hpa<;>grind
 |const cv=>
  simp only[kv]at hu;simp only[pv]at hpa;cases hcv:zl3 cv with
  |none=>grind
  |some sv=>
   rw[hcv]at hu hpa;cases hu;simp only at hpa;cases hps:pvS sv with
   |none=>grind
   |some q=>rw[hps]at hpa;cases hpa;exact .of (zjL hps)
 |func f=>cases hu;cases hpa;exact jc (.fn_mk (.nil _ _))
 |global g=>cases hpa
theorem zgC{β:Type}{nt:Nat}{ops:Array Oper}{o:Oper}{ρ:Nat→PA}{os:List PO}{N:Nm}{r:Fr}{K:Option (Nat×Bool)→KT β}{x:β}{sh:Sh}(I:Ze E N os){ko:KOp}(hq:jb ko=true∨∃y,zef ko=some y)
  (ref:Option (Nat×Bool)) (F':∀i,RepPA N (r i) (refine ρ ref i)) (run:∀call h,z5 P nt ops o call r h=runK r ko call h) (e:pOp O (fun _=>true) sh (refine ρ ref) os ko (K ref)=some x):zvk P nt ops o ko N os r ρ K x:=by
 obtain⟨v,a,rd,h1,h2,h3,h4,h5⟩:=zpx I F' hq e;refine⟨ref,a,rd,v,h1,F',h3,fun call=>(run call N.h).trans (h2 call),?_,?_⟩
 ·intro xo hxo N' H;have hk:∃u pa,kv r xo=some u∧pv (refine ρ ref) xo=some pa:=by
   cases hp:pv (refine ρ ref) xo with
   |some pa=>obtain⟨u,hu,_⟩:=xP F' hp;grind
   |none=>
    exfalso;have:∀y,trk (refine ρ ref) ko=some y→pv (refine ρ ref) y=none→False:=by
     intro y hy hp;cases ko<;>simp only[trk]at hy<;>first|cases hy|skip
     all_goals first
      |(simp only[pOp,hp,w1,za]at e;cases e;done)
      |(split at hy<;>first|(cases hy;simp only[pOp,hp,w1]at e;cases e;done)|cases hy)
    grind
  obtain⟨u,pa,hu,hpa⟩:=hk;exact h4 xo hxo N' u pa hu hpa (zeB H hu hpa)
 ·rcases hq with hs|⟨y,hy⟩
  ·exact .inl fun call h2'=>⟨h2',by rw[run];exact zmE hs (h2 call)⟩
  ·obtain⟨w,kw,hw⟩:=h5 y hy;have cr:∀N':Nm,(∀t,y=.tmp t→RepPA N' (r t) (refine ρ ref t))→∀u pa,kv r y=some u→pv (refine ρ ref) y=some pa→RepPA N' u pa:=fun N' H u pa hu hpa=>zeB H hu hpa;have loc:∀call h2',(∀b,blk w=some b→h2'.t.get b=N.h.t.get b)→runK r ko call h2'=some (v,h2'):=by
    intro call h2' H;have hr:=h2 call;cases ko<;>simp only[zef]at hy<;>cases hy
    ·simp only[runK,kw,zt]at hr ⊢;exact znx hr fun b off he=>by cases he;exact H b rfl
    ·simp only[runK,kw,zt]at hr ⊢;exact zq1 hr fun b o' l' c' e' he=>by cases he;exact H b rfl
   rcases hw with hw|⟨b,hb,hsrc⟩
   ·simp_all
   ·refine .inr ⟨y,hy,b,fun call h2' hh=>⟨h2',by grind⟩,?_⟩
    grind
theorem zd4{β:Type}{nt:Nat}{ops:Array Oper}{o:Oper}{ρ:Nat→PA}{os:List PO}{N:Nm}{r:Fr}{K:Option (Nat×Bool)→KT β}{x:β}(I:Ze E N os)(F:∀i,RepPA N (r i) (ρ i))
  {ko:KOp} (hc:comp P o.op=some ko) (hq:jb ko=true∨∃y,zef ko=some y) (e:u5 P O (fun _=>true) nt ops o ρ os K=some x):zvk P nt ops o ko N os r ρ K x:=by
 unfold u5 at e;cases hT:inT nt o.dst with
 |false=>grind
 |true=>
  rw[hT]at e;simp only[Yza]at e;rw[hc]at e;simp only at e;cases hg:o.guard with
  |none=>
   rw[hg]at e;refine zgC I hq none F (fun call h=>?_) e
   grind[z5,zbX]
  |some gb=>
   obtain⟨j,b⟩:=gb;rw[hg]at e;simp only at e;cases hd:(ops[j]?).bind (·.dst) with
   |none=>grind
   |some d=>
    rw[hd]at e;simp only at e;cases hb:Nat.ble (Nat.succ d) nt with
    |false=>grind
    |true=>
     rw[hb]at e;simp only[Yza]at e;have run:∀call h,z5 P nt ops o call r h=bif zdF (r d) b then runK r ko call h else some (zO,h):=fun call h=>by unfold z5;rw[hT,hg];simp only[Yza];rw[hd];simp only;rw[hb];simp_all[zbX]
     split at e
     ·rename_i v hρ;have hrd:=F d;rw[hρ]at hrd;have key:∀q,v=.bool q→(if q=b then pOp O (fun _=>true) (zre P o.dst o.type) (refine ρ (some (d,q))) os ko (K (some (d,q))) else K (some (d,q)) .undef os [] [])=some x→zvk P nt ops o ko N os r ρ K x:=fun q hq2 e2=>by
       subst hq2;have hr:=zW hrd (c:=.bool q) rfl;have F':=zaa F hr;by_cases hqb:q=b
       ·rw[Yzd hqb]at e2;refine zgC I hq (some (d,q)) F' (fun call h=>?_) e2;simp_all[zdF]
       ·rw[Yzc hqb]at e2;have hr2:∀call h,z5 P nt ops o call r h=some (zO,h):=fun call h=>by
         rw[run,hr];have:zdF (.s (.one (.bool q))) b=false:=by cases q<;>cases b<;>first|rfl|exact absurd rfl hqb
         grind
        exact⟨some (d,q),.undef,[],zO,e2,F',rfl,fun call=>hr2 call N.h,fun _ _ _ _=>rfl,.inl fun call h2=>⟨h2,hr2 call h2⟩⟩
      cases b with
      |true=>
       obtain⟨q,rfl,e⟩:=zem e
       grind
      |false=>
       obtain⟨q,rfl,e⟩:=zem e
       grind
     ·rename_i hρ;have hrd:r d=zO:=by
       have:=F d;rw[hρ]at this;trivial
      have hr2:∀call h,z5 P nt ops o call r h=some (zO,h):=fun call h=>by rw[run,hrd];rfl
      exact⟨none,.undef,[],zO,e,F,rfl,fun call=>hr2 call N.h,fun _ _ _ _=>rfl,.inl fun call h2=>⟨h2,hr2 call h2⟩⟩
     ·cases e
end
end Go.PE
end
section
namespace Go.PE
open Go Go.CE
abbrev CkE:=(Za→Res)×Zb×Nat×Nat
abbrev Sn:=Nm×List PO
def zhL(S:List Sn)(ps:List (Nat×Nat×List Nat))(q:CkE):Prop:=
 (∀h,∃h',q.1 h=some (q.2.1,h'))∨Nat.beq q.2.2.1 q.2.2.2=true∨
  (∃ rd, (q.2.2.1, q.2.2.2, rd) ∈ ps ∧ ∃ (ne : Nat) (b : BN) (A Al : Sn), q.2.2.1 ≤ ne ∧ ne ≤ q.2.2.2 ∧ S[ne]? = some A ∧ S[q.2.2.1]? = some Al ∧ (∀ h2, h2.t.get b = A.1.h.t.get b → ∃ h', q.1 h2 = some (q.2.1, h')) ∧
   ((∃j,rd=[j]∧j<Al.1.n∧blk (A.1.μ j)=some b∧held (og A.2 j))∨(Al.1.fz b∧∃y,Al.1.h.t.get b=some y)))
def zog(E:En)(S:List Sn)(ws:List (List Nat)):Prop:=∀(e:Nat) (w:List Nat),ws[e]? = some w→∀A B,S[e]? = some A→S[e+1]? = some B→Ze E A.1 A.2∧Nx A.1 B.1∧BkE A.1 A.2 B.1 w∧Ho A.1.n A.2 B.2 w
theorem zcA{run:Za→Res}{v:Zb}:∀{l:List Za},(∀h∈l,∃h',run h=some (v,h'))→zh6 run v l=true
 | [],_=>rfl
 |h::l,H=>by obtain⟨h',e⟩:=H h (Yzj ..);simp only[zh6,e,zho,Yz4];exact zcA fun x hx=>H x (Yzi _ hx)
theorem zfk{ws:List (List Nat)}{lo hi j:Nat}(h:okW ws lo hi [j]=true){e:Nat}{w:List Nat}(h1:lo≤e)(h2:e<hi)(hw:ws[e]? = some w):j∉w:=by
 unfold okW at h;rw[YzF]at h;have:((ws.drop lo).take (hi-lo))[e-lo]? = some w:=by grind
 have:=h w (Lz3 this);simp only[Yyc,List.all_nil,Yz8,Yzt]at this
 grind[jW]
section
variable {E:En} {S:List Sn} {ws:List (List Nat)} (hl:S.length=ws.length+1) (ch:zog E S ws)
include hl ch
theorem q8{e:Nat}{B:Sn}(eB:S[e+1]? = some B):∃A w,S[e]? = some A∧ws[e]? = some w∧Ze E A.1 A.2∧Nx A.1 B.1∧BkE A.1 A.2 B.1 w∧Ho A.1.n A.2 B.2 w:=by have hlt:=(Lz0.1 eB).1;obtain⟨A,eA⟩:∃A,S[e]? = some A:=⟨_,Lz5 (by omega)⟩;obtain⟨w,ew⟩:∃w,ws[e]? = some w:=⟨_,Lz5 (by omega)⟩;exact⟨A,w,eA,ew,ch e w ew A B eA eB⟩
theorem xh{lo:Nat}{Al:Sn}(el:S[lo]? = some Al):∀(d:Nat) (B:Sn),S[lo+d]? = some B→Nx Al.1 B.1
 |0,B,e=>by rw[Yzx,el]at e;cases e;exact .refl _
 |d+1,B,e=>by obtain⟨A,w,eA,_,_,nx,_⟩:=q8 hl ch (e:=lo+d) e;exact(xh el d A eA).trans nx
theorem zen{lo j:Nat}{Al:Sn}(el:S[lo]? = some Al)(hj:j<Al.1.n):∀(d e:Nat) (A B:Sn),S[lo+e]? = some A→S[lo+e+d]? = some B→held (og B.2 j)→held (og A.2 j)
 |0,e,A,B,eA,eB,h=>by grind
 |d+1,e,A,B,eA,eB,h=>by obtain⟨B',w,eB',_,_,_,_,ho⟩:=q8 hl ch (e:=lo+e+d) eB;have hn:=(xh hl ch el (e+d) B' (by grind)).le;exact zen el hj d e A B' eA eB' ((ho j (Lz9 hj hn)).1 h)
theorem zlt{lo hi j:Nat}{Al:Sn}(el:S[lo]? = some Al)(hj:j<Al.1.n)(hw:okW ws lo hi [j]=true):∀(d e:Nat) (A B:Sn),lo+e+d≤hi→S[lo+e]? = some A→S[lo+e+d]? = some B→held (og A.2 j)→held (og B.2 j)
 |0,e,A,B,_,eA,eB,h=>by grind
 |d+1,e,A,B,hh,eA,eB,h=>by obtain⟨B',w,eB',ew,_,_,_,ho⟩:=q8 hl ch (e:=lo+e+d) eB;have hn:=(xh hl ch el (e+d) B' (by grind)).le;have:=zlt el hj hw d e A B' (by omega) eA eB' h;exact((ho j (Lz9 hj hn)).2.1 this).elim id fun hm=>absurd hm (zfk hw (by omega) (by omega) ew)
theorem jR{lo hi ne j:Nat}{Al A:Sn}{b:BN}(el:S[lo]? = some Al)(en:S[ne]? = some A)(h1:lo≤ne)(h2:ne≤hi)(hj:j<Al.1.n)(hw:okW ws lo hi [j]=true)(hb:blk (A.1.μ j)=some b)(hh:held (og A.2 j)):
  ∀(d:Nat) (B:Sn),lo+d≤hi→S[lo+d]? = some B→B.1.h.t.get b=Al.1.h.t.get b
 |0,B,_,e=>by grind
 |d+1,B,hd,e=>by
  obtain⟨A',w,eA',ew,I,nx,bk,ho⟩:=q8 hl ch (e:=lo+d) e;have ih:=jR el en h1 h2 hj hw hb hh d A' (by omega) eA';have nx1:=xh hl ch el d A' eA';have nx2:=xh hl ch el (ne-lo) A (by grind);have hjA:j<A'.1.n:=Lz9 hj nx1.le;have hbA:blk (A'.1.μ j)=some b:=by rw[nx1.mu j hj,←nx2.mu j hj];exact hb
  have hA:held (og A'.2 j):=by
   by_cases hc:lo+d≤ne
   ·exact zen hl ch el hj (ne-(lo+d)) d A' A eA' (by grind) hh
   ·exact zlt hl ch el hj hw (lo+d-ne) (ne-lo) A A' (by omega) (by grind) (by grind) hh
  obtain⟨y,hy⟩:=zaS hA (I.obj j) hbA;rw[←ih,hy];refine bk b y hy fun k hk hkn hkl hkb=>?_;have hjw:=zfk hw (by omega) (by omega) ew;obtain⟨b',x',k1,k2,_⟩:=yT hkl (I.obj k);rw[hkb]at k1;cases k1;have hO:=I.obj j;cases hoj:og A'.2 j with
  |box cs=>
   have:=I.inj k j b hkl (by rw[hoj];trivial) hkb hbA
   grind
  |arr st v=>
   cases v with
   |none=>rw[hoj]at hA;exact hA
   |some xs=>
    have:=I.inj k j b hkl (by rw[hoj];trivial) hkb hbA
    grind
  |mp st xs=>
   have:=I.inj k j b hkl (by rw[hoj];trivial) hkb hbA
   grind
  |frz v=>rw[hoj]at hA hO;obtain⟨st,xs,rfl⟩:=hA;obtain⟨b2,o2,off2,cap2,ex2,cs2,q1,q2,_⟩:=Rep.lst_inv hO;rw[q1]at hbA;cases hbA<;>grind
  |fbox ds=>
   rw[hoj]at hO;obtain⟨b2,q1,q2⟩:=hO;rw[q1]at hbA;cases hbA;obtain⟨b3,o3,base3,cs3,p1,p2,_⟩:=q2.fp_inv
   grind
  |hol v n t=>
   have:=I.inj k j b hkl (by rw[hoj];trivial) hkb hbA
   grind
  |lnk m=>rw[hoj]at hA;exact hA
  |dead=>rw[hoj]at hA;exact hA
theorem zf0(T:List Za){ps:List (Nat×Nat×List Nat)}(hps:(ps.all fun p=>okW ws p.1 p.2.1 p.2.2)=true)(hT:T=[]∨∀p∈ps,p.2.1<S.length):∀{cs:List CkE},(∀q∈cs,zhL S ps q)→zoP ((S.map fun x=>x.1.h)++T) cs=true
 | [],_=>rfl
 |(run,v,lo,hi)::cs,Hc=>by
  have ih:=zf0 T hps hT (cs:=cs) fun q hq=>Hc q (Yzi _ hq);simp only[zoP,ih,Yz8];have mem:(T=[]∨hi<S.length)→∀h∈(((S.map fun x=>x.1.h)++T).drop lo).take (Nat.sub (Nat.succ hi) lo),∃d B,lo+d≤hi∧S[lo+d]? = some B∧h=B.1.h:=fun hT h hh=>by
   obtain⟨i,hi'⟩:=Yyf hh
   grind
  rcases Hc _ (Yzj ..) with h|h|⟨rd,hp,ne,b,A,Al,h1,h2,h3,h4,h6,h7⟩
  ·simp_all[zcA]
  ·grind
  ·rw[YzF]at hps;have hwin:=hps _ hp;simp only at hwin h1 h2 h4 h6;rw[zcA fun x hx=>?_,Bool.or_true];obtain⟨d,B,hd1,hd2,rfl⟩:=mem (hT.imp id fun h=>h _ hp) x hx;refine h6 _ ?_;rcases h7 with⟨j,rfl,q1,q2,q3⟩|⟨q1,y,q2⟩
   ·have e1:=jR hl ch h4 h3 h1 h2 q1 hwin q2 q3 (ne-lo) A (by omega) (by grind)
    grind[jR]
   ·have e1:=(xh hl ch h4 (ne-lo) A (by grind)).fg.old b y q1 q2;have e2:=(xh hl ch h4 d B hd2).fg.old b y q1 q2;rw[e1,e2]
theorem zhz{ps:List (Nat×Nat×List Nat)}(hps:(ps.all fun p=>okW ws p.1 p.2.1 p.2.2)=true){cs:List CkE}(H:∀q∈cs,zhL S ps q):zoP (S.map fun x=>x.1.h) cs=true:=by
 have:=zf0 hl ch [] hps (.inl rfl) H
 grind
end
section
variable {P:Program} {O:Orc} {C:Nat→zb} {E:En} {tab:Nat→Bool} {Y:Inl}
theorem zjF{N:Nm}{r:Fr}{ρ:Nat→PA}(F:∀i,RepPA N (r i) (ρ i))(l:List Nat):∀i,RepPA N (zB r l i) (zC ρ l i):=fun i=>by
 unfold zB zC;cases ziw i l with
 |true=>exact F i
 |false=>trivial
theorem zgB{N:Nm}{r:Fr}{ρ:Nat→PA}{l:List Nat}{d:Nat}{b:Bool}(F1:∀i,RepPA N (zB r l i) (refine (zC ρ l) (some (d,b)) i)):r d=.s (.one (.bool b)):=by
 have:=F1 d;rw[show refine (zC ρ l) (some (d,b)) d=pd (.bool b) by show (bif Nat.beq d d then _ else _)=_;simp]at this;have h:=zW this (c:=.bool b) rfl;unfold zB at h;cases hm:ziw d l with
 |true=>grind
 |false=>rw[hm]at h;cases h
theorem zdW{N:Nm}{r:Fr}{ρ:Nat→PA}{l:List Nat}{ref:Option (Nat×Bool)}(F:∀i,RepPA N (r i) (ρ i))(F1:∀i,RepPA N (zB r l i) (refine (zC ρ l) ref i)):∀i,RepPA N (r i) (refine ρ ref i):=by
 cases ref with
 |none=>exact F
 |some db=>obtain⟨d,b⟩:=db;exact zaa F (zgB F1)
theorem jj{N N':Nm}{r:Fr}{ρ:Nat→PA}{l:List Nat}{ref:Option (Nat×Bool)}(F1:∀i,RepPA N (zB r l i) (refine (zC ρ l) ref i)){i:Nat}(H:RepPA N' (r i) (ρ i)):RepPA N' (r i) (refine ρ ref i):=by
 cases ref with
 |none=>exact H
 |some db=>
  obtain⟨d,b⟩:=db;show RepPA N' (r i) (bif Nat.beq i d then pd (.bool b) else ρ i);cases hb:Nat.beq i d with
  |false=>exact H
  |true=>have:=Lz1 hb;subst this;rw[zgB F1];exact yj rfl
theorem jK{N N':Nm}{r:Fr}{ρ:Nat→PA}{l:List Nat}{ref:Option (Nat×Bool)}(F1:∀i,RepPA N (zB r l i) (refine (zC ρ l) ref i)){i:Nat}(H:RepPA N' (r i) (ρ i)):RepPA N' (zB r l i) (refine (zC ρ l) ref i):=by
 have h:=jj F1 H;cases hm:ziw i l with
 |true=>
  have e1:refine (zC ρ l) ref i=refine ρ ref i:=by
   cases ref with
   |none=>show zC ρ l i=ρ i;grind[zC]
   |some db=>
    show (bif Nat.beq i db.1 then pd (.bool db.2) else zC ρ l i)=(bif Nat.beq i db.1 then pd (.bool db.2) else ρ i)
    grind[zC]
  grind[zB]
 |false=>
  have e2:zB r l i=zO:=by grind[zB]
  have F1i:=F1 i;rw[e2]at F1i ⊢;cases ref with
  |none=>
   have:refine (zC ρ l) none i=.bad:=by show zC ρ l i=.bad;grind[zC]
   rw[this];trivial
  |some db=>
   have:refine (zC ρ l) (some db) i=(bif Nat.beq i db.1 then pd (.bool db.2) else .bad):=by
    show (bif Nat.beq i db.1 then pd (.bool db.2) else zC ρ l i)=_
    grind[zC]
   rw[this]at F1i ⊢;cases hb:Nat.beq i db.1 with
   |false=>trivial
   |true=>rw[hb]at F1i;trivial
theorem zj2(hO:uQ O C)(hY:Zp tab Y C){β γ:Type}{Q:γ→Prop}{lk:Nat→Bool}{nt:Nat}{ops:Array Oper}{bs:List Nat}{es:List Bool}{x:β}{K:(Nat→PA)→List PO→Option β}{kk:Nat→Fr→Za→Option γ}:
    ∀(l:List Oper) (i:Nat) (ρ:Nat→PA) (os:List PO) (N:Nm) (r:Fr) (bo:Nat→Nat) (ws:List (List Nat)) (ps:List (Nat×Nat×List Nat)) (S:List Sn) (cs:Nat→List CkE),
    pDr P O tab Y lk nt ops bs es i l ρ os bo ws ps K=some x→Ze E N os→(∀i,RepPA N (r i) (ρ i))→(∀j,lk j=true→j<os.length)→
    S.length=ws.length→zog E (S++[(N,os)]) ws→(∀s,bo s≤ws.length∧∀A:Sn,(S++[(N,os)])[bo s]? = some A→RepPA A.1 (r s) (ρ s))→(∀n,∀q∈cs n,zhL (S++[(N,os)]) ps q)→
    (∀ρ' os' N' r',K ρ' os'=some x→Ze E N' os'→(∀i,RepPA N' (r' i) (ρ' i))→Nx N N'→(∀j,lk j=true→og os' j=og os j)→(∀i,i∉l.filterMap (·.dst)→r' i=r i)→Ev (fun n=>kk n r' N'.h) Q)→
    Ev (fun n=>kDr P nt ops (C n) bs es i l r N.h (S.map fun x=>x.1.h) (cs n) (kk n)) Q
  | [],i,ρ,os,N,r,bo,ws,ps,S,cs,e,I,F,hlk,hl,ch,sl,pe,H=>by
    simp only[pDr]at e;cases hps:(ps.all fun p=>okW ws p.1 p.2.1 p.2.2) with
    |false=>grind
    |true=>
      rw[hps]at e;have run:∀n,kDr P nt ops (C n) bs es i [] r N.h (S.map fun x=>x.1.h) (cs n) (kk n)=kk n r N.h:=fun n=>by
        simp only[kDr];have:=zhz (S:=S++[(N,os)]) (by simp[hl]) ch hps (pe n)
        grind
      simp only[run];exact H ρ os N r e I F (.refl N) (fun _ _=>rfl) (fun _ _=>rfl)
  |o::l,i,ρ,os,N,r,bo,ws,ps,S,cs,e,I,F,hlk,hl,ch,sl,pe,H=>by
    have step:(fun n=>kDr P nt ops (C n) bs es i (o::l) r N.h (S.map fun x=>x.1.h) (cs n) (kk n))=fun n=>CE.bindR (z5 P nt ops o (C n) (zB r (o.looksAt ops)) N.h) fun v h'=>
        bif yc P o.op then kDr P nt ops (C n) bs es (Nat.succ i) l (w6 r v o.dst) N.h (S.map fun x=>x.1.h) (cs n++[(z5 P nt ops o (C n) (zB r (o.looksAt ops)),v,ce (fun j=>bef bs j i) 0 es,ce (fun j=>!bef bs i j) 0 es)]) (kk n)
        else kDr P nt ops (C n) bs es (Nat.succ i) l (w6 r v o.dst) h' ((S.map fun x=>x.1.h)++[N.h]) (cs n) (kk n):=by
      grind[zg5]
    rw[step];have agree:∀(r2:Fr) (v:Zb),(∀i,i∉l.filterMap (·.dst)→r2 i=w6 r v o.dst i)→∀i,i∉(o::l).filterMap (·.dst)→r2 i=r i:=fun r2 v hr i hi=>by grind[xn]
    have FR:=zjF F (o.looksAt ops);simp only[pDr]at e;cases hq:yc P o.op with
    |true=>
      rw[hq]at e;simp only[Yza]at e ⊢;cases hc:comp P o.op with
      |none=>grind
      |some ko=>
        rw[hc]at e;simp only at e;have go:∀(nb:Option (Nat×Bool)→Nat) (ps':List Nat→List (Nat×Nat×List Nat)) (hk:jb ko=true∨∃y,zef ko=some y),(∀ref,nb ref≤ws.length)→(∀rd,∀p∈ps,p∈ps' rd)→
            (∀ref,(∀i,RepPA N (zB r (o.looksAt ops) i) (refine (zC ρ (o.looksAt ops)) ref i))→∀v a,RepPA N v a→(∀xo,trk (refine (zC ρ (o.looksAt ops)) ref) ko=some xo→∀N':Nm,(∀t,xo=.tmp t→RepPA N' (zB r (o.looksAt ops) t) (refine (zC ρ (o.looksAt ops)) ref t))→RepPA N' v a)→∀A:Sn,(S++[(N,os)])[nb ref]? = some A→RepPA A.1 v a)→
            (∀ref,(∀i,RepPA N (zB r (o.looksAt ops) i) (refine (zC ρ (o.looksAt ops)) ref i))→∀v rd n,((∀call h2,∃h',z5 P nt ops o call (zB r (o.looksAt ops)) h2=some (v,h'))∨(∃xo,zef ko=some xo∧∃b:BN,(∀call h2,h2.t.get b=N.h.t.get b→∃h',z5 P nt ops o call (zB r (o.looksAt ops)) h2=some (v,h'))∧
                ((∃ j, rd = [j] ∧ j < N.n ∧ blk (N.μ j) = some b ∧ held (og os j) ∧ ∀ N' : Nm, (∀ t, xo = .tmp t → RepPA N' (zB r (o.looksAt ops) t) (refine (zC ρ (o.looksAt ops)) ref t)) → j < N'.n) ∨
                 (rd=[]∧∀N':Nm,(∀t,xo=.tmp t→RepPA N' (zB r (o.looksAt ops) t) (refine (zC ρ (o.looksAt ops)) ref t))→N'.fz b∧∃y,N'.h.t.get b=some y))))→
              zhL (S++[(N,os)]) (ps' rd) (z5 P nt ops o (C n) (zB r (o.looksAt ops)),v,ce (fun j=>bef bs j i) 0 es,ce (fun j=>!bef bs i j) 0 es))→
            (u5 P O (fun _=>true) nt ops o (zC ρ (o.looksAt ops)) os fun ref a _ _ rd=>pDr P O tab Y lk nt ops bs es (Nat.succ i) l (zbt (refine ρ ref) a o.dst) os (zeL bo (nb ref) o.dst) ws (ps' rd) K)=some x→
            Ev (fun n=>CE.bindR (z5 P nt ops o (C n) (zB r (o.looksAt ops)) N.h) fun v h'=>kDr P nt ops (C n) bs es (Nat.succ i) l (w6 r v o.dst) N.h (S.map fun x=>x.1.h) (cs n++[(z5 P nt ops o (C n) (zB r (o.looksAt ops)),v,ce (fun j=>bef bs j i) 0 es,ce (fun j=>!bef bs i j) 0 es)]) (kk n)) Q:=by
          intro nb ps' hk hnb hps hxb hpe e;obtain⟨ref,a,rd,v,e1,F1,rv,run,tr,pend⟩:=zd4 I FR hc hk e;have:(fun n=>CE.bindR (z5 P nt ops o (C n) (zB r (o.looksAt ops)) N.h) fun v h'=>kDr P nt ops (C n) bs es (Nat.succ i) l (w6 r v o.dst) N.h (S.map fun x=>x.1.h) (cs n++[(z5 P nt ops o (C n) (zB r (o.looksAt ops)),v,ce (fun j=>bef bs j i) 0 es,ce (fun j=>!bef bs i j) 0 es)]) (kk n)) =
              fun n=>kDr P nt ops (C n) bs es (Nat.succ i) l (w6 r v o.dst) N.h (S.map fun x=>x.1.h) (cs n++[(z5 P nt ops o (C n) (zB r (o.looksAt ops)),v,ce (fun j=>bef bs j i) 0 es,ce (fun j=>!bef bs i j) 0 es)]) (kk n):=by
            funext n;rw[run];rfl
          rw[this];refine zj2 hO hY l (Nat.succ i) _ os N (w6 r v o.dst) _ ws (ps' rd) S _ e1 I (qF (zdW F F1) rv o.dst) hlk hl ch (fun s=>?_) (fun n q hqm=>?_) fun ρ2 os2 N2 r2 k1 k2 k3 k4 k5 k6=>H ρ2 os2 N2 r2 k1 k2 k3 k4 k5 (agree r2 v k6)
          · have old:bo s≤ws.length∧∀A:Sn,(S++[(N,os)])[bo s]? = some A→RepPA A.1 (r s) (refine ρ ref s):=⟨(sl s).1,fun A hh=>jj F1 ((sl s).2 A hh)⟩
            cases hd:o.dst with
            |none=>exact old
            |some d=>
              show (bif Nat.beq s d then nb ref else bo s)≤ws.length∧∀A:Sn,(S++[(N,os)])[bif Nat.beq s d then nb ref else bo s]? = some A→RepPA A.1 (bif Nat.beq s d then v else r s) (bif Nat.beq s d then a else refine ρ ref s)
              grind
          · rcases List.mem_append.1 hqm with h|h
            · rcases pe n q h with g|g|⟨rd',g1,g2⟩
              · exact .inl g
              · exact .inr (.inl g)
              · exact .inr (.inr ⟨rd',hps rd _ g1,g2⟩)
            · rw[YzP]at h
              subst h;exact hpe ref F1 v rd n pend
        have here:∀v a,RepPA N v a→∀A:Sn,(S++[(N,os)])[ws.length]? = some A→RepPA A.1 v a:=fun v a rv A hh=>by grind
        cases hst:jb ko with
        |true=>
          rw[hst]at e;simp only[Yza]at e;refine go (fun ref=>match trk (refine (zC ρ (o.looksAt ops)) ref) ko with|some x=>bOf bo x|none=>ws.length) (fun _=>ps) (.inl hst) ?_ (fun _ p hp=>hp) ?_ ?_ e
          · intro ref
            cases htk:trk (refine (zC ρ (o.looksAt ops)) ref) ko with
            |none=>exact LzB _
            |some y=>
              cases y with
              |tmp t=>exact(sl t).1
              |_=>exact Yzo _
          · intro ref F1 v a rv tr A hh
            cases htk:trk (refine (zC ρ (o.looksAt ops)) ref) ko with
            |none=>grind
            |some y=>simp only[htk]at hh;refine tr y htk _ fun t ht=>?_;subst ht;exact jK F1 ((sl t).2 A hh)
          · intro ref F1 v rd n pend
            rcases pend with g|⟨xo,g,_⟩
            · exact .inl fun h=>g (C n) h
            · exfalso
              cases ko<;>first|exact Bool.noConfusion hst|(simp only[zef]at g;cases g)
        |false=>
          rw[hst]at e;simp only[Yzb]at e;cases hm:zef ko with
          |none=>grind
          |some y=>
            rw[hm]at e;simp only at e;cases hb:Nat.beq (ce (fun j=>bef bs j i) 0 es) (ce (fun j=>!bef bs i j) 0 es) with
            |true=>rw[hb]at e;exact go (fun _=>ws.length) (fun _=>ps) (.inr ⟨y,hm⟩) (fun _=>LzB _) (fun _ p hp=>hp) (fun ref F1 v a rv tr A hh=>here v a rv A hh) (fun ref F1 v rd n pend=>.inr (.inl hb)) e
            |false=>
              rw[hb]at e;simp only[Yzb]at e;cases hw:(Nat.ble (bOf bo y) (ce (fun j=>bef bs j i) 0 es)&&Nat.ble (ce (fun j=>bef bs j i) 0 es) ws.length&&Nat.ble ws.length (ce (fun j=>!bef bs i j) 0 es)) with
              |false=>grind
              |true=>
                rw[hw]at e;simp only[LzC]at hw;obtain⟨⟨w1,w2⟩,w3⟩:=hw;have w1:=Lz4 w1;have w2:=Lz4 w2;have w3:=Lz4 w3;refine go (fun _=>ws.length) (fun rd=>ps++[(ce (fun j=>bef bs j i) 0 es,ce (fun j=>!bef bs i j) 0 es,rd)]) (.inr ⟨y,hm⟩) (fun _=>LzB _) (fun _ p hp=>Yzn _ hp) (fun ref F1 v a rv tr A hh=>here v a rv A hh) (fun ref F1 v rd n pend=>?_) e;rcases pend with g|⟨xo,g,b,g2,g1⟩
                · exact .inl fun h=>g (C n) h
                · rw[hm]at g
                  cases g;obtain⟨Al,elo⟩:∃A:Sn,(S++[(N,os)])[ce (fun j=>bef bs j i) 0 es]? = some A:=⟨_,Lz5 (by grind)⟩;have hrel:∀t,y=.tmp t→RepPA Al.1 (zB r (o.looksAt ops) t) (refine (zC ρ (o.looksAt ops)) ref t):=fun t ht=>by subst ht;refine jK F1 ?_;obtain⟨Ab,eb0⟩:∃A:Sn,(S++[(N,os)])[bo t]? = some A:=⟨_,Lz5 (by grind)⟩;have hle:bo t≤ce (fun j=>bef bs j i) 0 es:=w1;exact((sl t).2 Ab eb0).mono (xh (by simp[hl]) ch eb0 (ce (fun j=>bef bs j i) 0 es-bo t) Al (by grind))
                  refine .inr (.inr ⟨rd,Yzr _ (Yzs _),ws.length,b,(N,os),Al,w2,w3,by grind,elo,fun h2 hh=>g2 (C n) h2 hh,?_⟩)
                  grind
    |false=>
      rw[hq]at e;simp only[Yzb]at e ⊢;cases hL:zsJ P tab (zC ρ (o.looksAt ops)) o l with
      |some q=>
        obtain⟨g,az⟩:=q;rw[hL]at e;cases l with
        |cons o2 l2=>cases hL
        |nil=>
        simp only at e;cases hT:(inT nt o.dst&&ps.all fun p=>okW ws p.1 p.2.1 p.2.2&&Nat.ble p.2.1 ws.length) with
        |false=>grind
        |true=>
          rw[hT,Yza]at e;rw[LzC,YzF]at hT;obtain⟨hT,hps⟩:=hT;obtain⟨ht,vs,rvs,run⟩:=zdd (ops:=ops) FR hL hT;obtain⟨a,os',e1,ev⟩:=hY.o ht I rvs hlk e;have:∀n,z5 P nt ops o (C n) (zB r (o.looksAt ops)) N.h=C n (.inl g) vs N.h:=fun n=>run (C n) N.h;simp only[this];refine Ev.bindR (ev.mono ?_)
          rintro⟨v,h'⟩ ⟨N',hh,i1,i2,i3,i4⟩
          simp only at hh i4 ⊢;subst hh;have run2:∀n,kDr P nt ops (C n) bs es (Nat.succ i) [] (w6 r v o.dst) N'.h ((S.map fun x=>x.1.h)++[N.h]) (cs n) (kk n)=kk n (w6 r v o.dst) N'.h:=fun n=>by
            simp only[kDr];have hw:(ps.all fun p=>okW ws p.1 p.2.1 p.2.2)=true:=YzF.2 fun p hp=>by grind
            have:=zf0 (S:=S++[(N,os)]) (by simp[hl]) ch [N'.h] hw (.inr fun p hp=>by
              have:=hps p hp;rw[LzC]at this;have:=Lz4 this.2
              grind) (pe n)
            grind
          simp only[run2];exact H _ os' N' (w6 r v o.dst) e1 i1 (qF (fun i=>(F i).mono i2) i4 o.dst) i2 i3 (agree _ v (fun _ _=>rfl))
      |none=>
      rw[hL]at e;simp only at e;have tail:∀(ref:Option (Nat×Bool)) (a:PA) (os':List PO) (wr:List Nat),pDr P O tab Y lk nt ops bs es (Nat.succ i) l (zbt (refine ρ ref) a o.dst) os' (zeL bo (Nat.succ ws.length) o.dst) (ws++[wr]) ps K=some x→(∀i,RepPA N (zB r (o.looksAt ops) i) (refine (zC ρ (o.looksAt ops)) ref i))→
          Ev (fun n=>z5 P nt ops o (C n) (zB r (o.looksAt ops)) N.h) (fun p=>∃N',N'.h=p.2∧Sim E lk N os wr N' os' p.1 a)→
          Ev (fun n=>CE.bindR (z5 P nt ops o (C n) (zB r (o.looksAt ops)) N.h) fun v h'=>kDr P nt ops (C n) bs es (Nat.succ i) l (w6 r v o.dst) h' ((S.map fun x=>x.1.h)++[N.h]) (cs n) (kk n)) Q:=by
        intro ref a os' wr e1 F1 ev;refine Ev.bindR (ev.mono ?_)
        rintro⟨v,h'⟩ ⟨N',hh,Sm⟩
        simp only at hh Sm ⊢;subst hh;have F2:=zdW F F1;have hlen2:(S++[(N,os)]).length=(ws++[wr]).length:=by simp[hl]
        have hmap:(S.map fun x=>x.1.h)++[N.h]=(S++[(N,os)]).map fun x=>x.1.h:=by simp
        rw[hmap];refine zj2 hO hY l (Nat.succ i) _ os' N' (w6 r v o.dst) _ (ws++[wr]) ps (S++[(N,os)]) cs e1 Sm.inv (qF (fun i=>(F2 i).mono Sm.nx) Sm.val o.dst) (fun j hj=>?_) hlen2 ?_ (fun s=>?_) (fun n q hqm=>?_) fun ρ2 os2 N2 r2 k1 k2 k3 k4 k5 k6=>H ρ2 os2 N2 r2 k1 k2 k3 (Sm.nx.trans k4) (fun j hj=>(k5 j hj).trans (Sm.lock j hj)) (agree r2 v k6)
        · have h1:=Sm.nx.le
          rw[Sm.inv.len,I.len]at h1
          grind
        · intro e w hw A B a1 a2
          by_cases he:e<ws.length
          · rw[Lz2 he]at hw
            rw[Lz2 (by grind)]at a1;rw[Lz2 (by grind)]at a2;exact ch e w hw A B a1 a2
          · have he2:e=ws.length:=by
              grind
            subst he2;rw[YzJ]at hw;cases hw;rw[←hl]at a1 a2;rw[Lz2 (by simp),YzJ]at a1;cases a1;rw[show S.length+1=(S++[(N,os)]).length by simp,YzJ]at a2;cases a2;exact⟨I,Sm.nx,Sm.fr.ex I.hw,Sm.ho⟩
        · have old:bo s≤(ws++[wr]).length∧∀A:Sn,(S++[(N,os)]++[(N',os')])[bo s]? = some A→RepPA A.1 (r s) (refine ρ ref s):=
            ⟨by grind,fun A hh=>jj F1 ((sl s).2 A (by grind))⟩
          cases hd:o.dst with
          |none=>exact old
          |some d=>
            show (bif Nat.beq s d then Nat.succ ws.length else bo s)≤(ws++[wr]).length∧∀A:Sn,(S++[(N,os)]++[(N',os')])[bif Nat.beq s d then Nat.succ ws.length else bo s]? = some A→RepPA A.1 (bif Nat.beq s d then v else r s) (bif Nat.beq s d then a else refine ρ ref s);cases Nat.beq s d with
            |false=>exact old
            |true=>refine⟨by simp,fun A hh=>?_⟩;simp only[Yza]at hh ⊢;rw[show Nat.succ ws.length=(S++[(N,os)]).length by simp[hl],YzJ]at hh;cases hh;exact Sm.val
        · rcases pe n q hqm with g|g|⟨rd',g1,ne,b,A,Al,a1,a2,a3,a4,a5⟩
          · exact .inl g
          · exact .inr (.inl g)
          · refine .inr (.inr ⟨rd',g1,ne,b,A,Al,a1,a2,?_,?_,a5⟩)
            · grind
            · grind
      suffices hs:∃ref a os' wr,pDr P O tab Y lk nt ops bs es (Nat.succ i) l (zbt (refine ρ ref) a o.dst) os' (zeL bo (Nat.succ ws.length) o.dst) (ws++[wr]) ps K=some x∧(∀i,RepPA N (zB r (o.looksAt ops) i) (refine (zC ρ (o.looksAt ops)) ref i))∧
          Ev (fun n=>z5 P nt ops o (C n) (zB r (o.looksAt ops)) N.h) (fun p=>∃N',N'.h=p.2∧Sim E lk N os wr N' os' p.1 a) by
        grind
      cases hM:zuv P tab (zC ρ (o.looksAt ops)) o with
      |some q=>
        obtain⟨g,j,az⟩:=q;rw[hM]at e;simp only at e;cases hT:inT nt o.dst with
        |false=>grind
        |true=>
          rw[hT,Yza]at e;have hin:zfA P tab (zC ρ (o.looksAt ops)) o=some (g,pc (.own j)::az):=by grind[zuv]
          obtain⟨ht,vs,rvs,run⟩:=zdd (ops:=ops) FR hin hT;obtain⟨a,os',e1,ev⟩:=hY.m ht I rvs e;exact⟨none,a,os',[j],e1,FR,by grind⟩
      |none=>
        rw[hM]at e;simp only at e;obtain⟨ref,a,os',wr,rd,e1,F1,ev⟩:=zcN hO I FR hlk e
        grind
end
end Go.PE
end
section
namespace Go.PE
open Go Go.CE
theorem zn4{n0:Nat}(l:List Nat)(t:Tr Zf)(b:BN):(b∈l.map (nm n0)→(k8 n0 l t).get b=none)∧(b∉l.map (nm n0)→(k8 n0 l t).get b=t.get b):=by
 constructor
 ·intro h;obtain⟨j,hj,rfl⟩:=List.mem_map.1 h
  grind[za5]
 ·grind[wO]
theorem qm{n0:Nat}{h:Tr Zf}:∀(l:List Nat) (t:Tr Zf),l.Nodup→(∀j∈l,t.get (nm n0 j)=none)→∃t',zdB n0 h l t=some t'
 | [],t,_,_=>⟨t,rfl⟩
 |j::l,t,hd,hn=>by
  unfold zdB;have h0:=hn j (Yzj ..);rw[show t.get (bn (Nat.add n0 j))=none from h0];simp only;have hnd:=List.nodup_cons.1 hd;cases ho:h.get (bn (Nat.add n0 j)) with
  |none=>exact qm l t hnd.2 fun i hi=>hn i (Yzi _ hi)
  |some o=>
   refine qm l _ hnd.2 fun i hi=>?_
   grind[zl,wJ]
theorem znL{bs:List Nat}{i:Nat}:∀(os:List Oper) (off j:Nat),j∈yd bs i off os→off≤j:=fun os off j h=>by grind[wy]
theorem zaR{bs:List Nat}{i:Nat}:∀(os:List Oper) (off:Nat),(yd bs i off os).Nodup
 | [],_=>List.nodup_nil
 |o::os,off=>by
  unfold yd;have ih:=zaR (bs:=bs) (i:=i) os (Nat.succ off);cases (ja o.op&&bef bs off i) with
  |true=>exact ih
  |false=>exact List.nodup_cons.2 ⟨fun h=>by have:=znL _ _ _ h;omega,ih⟩
def ua(bs:List Nat)(i:Nat):List (Nat×Nat)→List PO→List PO
 | [],os=>os
 |(j,k)::mk,os=>bif bef bs j i then ua bs i mk os else oset .dead (ua bs i mk os) k
def xY(bs:List Nat)(i:Nat)(os0:List PO):List (Nat×Nat)→List PO→List PO
 | [],os=>os
 |(j,k)::mk,os=>bif bef bs j i then xY bs i os0 mk os else oset (og os0 k) (xY bs i os0 mk os) k
def isLive:PO→Bool
 | .box _=>true
 | .arr _ (some _)=>true
 | .mp _ _=>true
 |_=>false
def jx(mk:List (Nat×Nat))(os:List PO):Bool:=mk.all fun p=>isLive (og os p.2)
theorem zel{o:PO}(h:isLive o=true):solid o:=by
 cases o with
 |box _=>trivial
 |arr _ v=>cases v with
  |none=>cases h
  |some _=>trivial
 |mp _ _=>trivial
 |_=>cases h
def Hid(bs:List Nat)(i:Nat)(mk:List (Nat×Nat))(k:Nat):Prop:=∃j,(j,k)∈mk∧bef bs j i=false
theorem vq{bs:List Nat}{i:Nat}:∀(mk:List (Nat×Nat)) (os:List PO),(ua bs i mk os).length=os.length
 | [],_=>rfl
 |(j,k)::mk,os=>by
  unfold ua;cases bef bs j i with
  |true=>exact vq mk os
  |false=>exact(zQ _ _ _).trans (vq mk os)
theorem uL{bs:List Nat}{i:Nat}{os0:List PO}:∀(mk:List (Nat×Nat)) (os:List PO),(xY bs i os0 mk os).length=os.length
 | [],_=>rfl
 |(j,k)::mk,os=>by
  unfold xY;cases bef bs j i with
  |true=>exact uL mk os
  |false=>exact(zQ _ _ _).trans (uL mk os)
theorem zsj{os:List PO}{k:Nat}(h:os.length≤k):og os k=.dead:=by grind[zea]
theorem yv{bs:List Nat}{i:Nat}(k:Nat):∀(mk:List (Nat×Nat)) (os:List PO),(Hid bs i mk k→og (ua bs i mk os) k=.dead)∧(¬Hid bs i mk k→og (ua bs i mk os) k=og os k)
 | [],_=>⟨fun⟨_,h,_⟩=>(by cases h),fun _=>rfl⟩
 |(j,k')::mk,os=>by
  obtain⟨ih1,ih2⟩:=yv (bs:=bs) (i:=i) k mk os;unfold ua;have up:Hid bs i mk k→Hid bs i ((j,k')::mk) k:=fun⟨a,b,c⟩=>⟨a,Yzi _ b,c⟩;cases hb:bef bs j i with
  |true=>
   simp only[Yza];refine⟨fun hx=>?_,fun h=>ih2 fun g=>h (up g)⟩;obtain⟨a,h1,h2⟩:=hx;rcases YzL.1 h1 with h1|h1
   ·grind
   ·exact ih1 ⟨a,h1,h2⟩
  |false=>
   simp only[Yzb];rw[zu,vq];by_cases hk:k=k'
   ·subst hk;refine⟨fun _=>?_,fun h=>absurd ⟨j,Yzj ..,hb⟩ h⟩;by_cases hl:k<os.length
    ·grind
    ·simp_all[zsj,vq]
   ·rw[Yzc (fun e=>hk e.1)];refine⟨fun hx=>?_,fun h=>ih2 fun g=>h (up g)⟩;obtain⟨a,h1,h2⟩:=hx;rcases YzL.1 h1 with h1|h1
    ·grind
    ·exact ih1 ⟨a,h1,h2⟩
theorem y3{bs:List Nat}{i:Nat}{os0:List PO}(k:Nat):∀(mk:List (Nat×Nat)) (os:List PO),(∀p∈mk,p.2<os.length)→(Hid bs i mk k→og (xY bs i os0 mk os) k=og os0 k)∧(¬Hid bs i mk k→og (xY bs i os0 mk os) k=og os k)
 | [],_,_=>⟨fun⟨_,h,_⟩=>(by cases h),fun _=>rfl⟩
 |(j,k')::mk,os,hr=>by
  obtain⟨ih1,ih2⟩:=y3 (bs:=bs) (i:=i) (os0:=os0) k mk os fun p hp=>hr p (Yzi _ hp);unfold xY;have up:Hid bs i mk k→Hid bs i ((j,k')::mk) k:=fun⟨a,b,c⟩=>⟨a,Yzi _ b,c⟩;cases hb:bef bs j i with
  |true=>
   simp only[Yza];refine⟨fun hx=>?_,fun h=>ih2 fun g=>h (up g)⟩;obtain⟨a,h1,h2⟩:=hx;rcases YzL.1 h1 with h1|h1
   ·grind
   ·exact ih1 ⟨a,h1,h2⟩
  |false=>
   simp only[Yzb];rw[zu,uL];by_cases hk:k=k'
   ·subst hk;refine⟨fun _=>by simp_all,fun h=>absurd ⟨j,Yzj ..,hb⟩ h⟩
   ·rw[Yzc (fun e=>hk e.1)];refine⟨fun hx=>?_,fun h=>ih2 fun g=>h (up g)⟩;obtain⟨a,h1,h2⟩:=hx;rcases YzL.1 h1 with h1|h1
    ·grind
    ·exact ih1 ⟨a,h1,h2⟩
structure Zq (E:En) (n0 len i:Nat) (mk:List (Nat×Nat)) (N:Nm) (os:List PO):Prop where
 e0:E.h0.n.toNat≤n0
 top:n0+len≤N.h.n.toNat
 mks:∀p∈mk,p.1<i∧p.1<len∧p.2<N.n∧solid (og os p.2)∧blk (N.μ p.2)=some (nm n0 p.1)
 free:∀j,j<len→i≤j→N.h.t.get (nm n0 j)=none
 all:∀j y,j<len→N.h.t.get (nm n0 j)=some y→∃k,(j,k)∈mk
section
variable {E:En} {N:Nm} {os:List PO} {n0 len i:Nat} {mk:List (Nat×Nat)}
theorem Zq.nfz(M:Zq E n0 len i mk N os)(I:Ze E N os){j:Nat}(hj:j<len):¬N.fz (nm n0 j):=fun hf=>by
 rcases I.fzex _ hf with h|⟨y,hy⟩
 ·rw[ye]at h;have:=M.e0;omega
 ·obtain⟨k,hk⟩:=M.all j y hj hy;obtain⟨_,_,_,h3,h4⟩:=M.mks _ hk;obtain⟨b,x,g1,g2,_⟩:=yT h3.live (I.obj k)
  grind
structure Zt (bs:List Nat) (i len:Nat) (mk:List (Nat×Nat)) (H:List Nat):Prop where
 nd:H.Nodup
 lt:∀j∈H,j<len
 hid:∀j k,(j,k)∈mk→(j∈H↔bef bs j i=false)
variable {bs:List Nat} {H:List Nat}
noncomputable def uu(n0:Nat)(H:List Nat)(N:Nm):Nm:=⟨N.μ,N.n,N.fz,⟨N.h.n,k8 n0 H N.h.t⟩⟩
theorem wL(b:BN):(b∈H.map (nm n0)→(uu n0 H N).h.t.get b=none)∧(b∉H.map (nm n0)→(uu n0 H N).h.t.get b=N.h.t.get b):=zn4 H N.h.t b
theorem j4{b:BN}{y:Zf}(h:(uu n0 H N).h.t.get b=some y):b∉H.map (nm n0)∧N.h.t.get b=some y:=by by_cases hb:b∈H.map (nm n0)<;>simp_all[wL]
theorem zfC(M:Zq E n0 len i mk N os)(I:Ze E N os)(D:Zt bs i len mk H):Nx N (uu n0 H N):=
 ⟨⟨fun _ _ h _ => h, fun b o hf hy => by
  rw[(wL b).2 ?_]
  ·exact hy
  ·intro hm;obtain⟨j,hj,rfl⟩:=List.mem_map.1 hm;exact M.nfz I (D.lt j hj) hf⟩,LzB _,fun _ _=>rfl⟩
theorem zg8:Nx (uu n0 H N) N:=⟨⟨fun _ _ h _=>h,fun _ _ _ hy=>(j4 hy).2⟩,LzB _,fun _ _=>rfl⟩
theorem zg9(M:Zq E n0 len i mk N os)(I:Ze E N os)(D:Zt bs i len mk H):Ze E (uu n0 H N) (ua bs i mk os):=by
 have t:∀k,live (og (ua bs i mk os) k)→¬Hid bs i mk k∧live (og os k):=fun k hl=>by
  by_cases hh:Hid bs i mk k
  ·rw[(yv k mk os).1 hh]at hl;trivial
  ·grind[yv]
 refine⟨fun b y hy=>I.hw b y (j4 hy).2,⟨I.gr.le,fun b hb hx=>?_⟩,I.fzlt,I.fzok,fun b hb=>?_,I.len.trans (vq mk os).symm,fun k b hl hb=>I.own k b (t k hl).2 hb,fun k k' b hl hl' hb hb'=>I.inj k k' b (t k hl).2 (t k' hl').2 hb hb',fun k=>?_,fun k m hk=>?_⟩
 ·rw[(wL b).2 ?_]
  ·exact I.gr.old b hb hx
  ·intro hm;obtain⟨j,hj,rfl⟩:=List.mem_map.1 hm;rw[ye]at hb;have:=M.e0;omega
 ·refine (I.fzex b hb).imp id fun⟨y,hy⟩=>⟨y,?_⟩;rw[(wL b).2 ?_]
  ·exact hy
  ·intro hm;obtain⟨j,hj,rfl⟩:=List.mem_map.1 hm;exact M.nfz I (D.lt j hj) hb
 ·by_cases hh:Hid bs i mk k
  ·rw[(yv k mk os).1 hh];trivial
  ·rw[(yv k mk os).2 hh];refine (I.obj k).mono (zfC M I D) rfl fun hl b hb=>?_;obtain⟨b',x,g1,g2,g3⟩:=y4 hl (I.obj k);rw[g1]at hb;cases hb;refine⟨g2,(wL _).2 fun hm=>?_⟩;obtain⟨j,hj,rfl⟩:=List.mem_map.1 hm;obtain⟨k',hk'⟩:=M.all j x (D.lt j hj) g3;obtain⟨_,_,_,h3,h4⟩:=M.mks _ hk';rcases hl with hl|⟨m,hlm⟩
   ·have:=I.inj k k' _ hl h3.live g1 h4;subst this;exact hh ⟨j,hk',(D.hid j k hk').1 hj⟩
   ·obtain⟨k2,v2,n2,q1,q2⟩:=I.lnk_blk hlm;have:=I.inj k2 k' _ (by rw[q1];trivial) h3.live (by grind) h4;subst this;exact h3.hol _ _ _ q1
 ·by_cases hh:Hid bs i mk k
  ·grind[yv]
  ·rw[(yv k mk os).2 hh]at hk;obtain⟨k2,v2,n2,q⟩:=I.lnk k m hk;have hnh:¬Hid bs i mk k2:=fun⟨j,h1,_⟩=>(M.mks _ h1).2.2.2.1.hol _ _ _ q
   grind[yv]
structure Aft (N:Nm) (os:List PO) (wr:List Nat) (N':Nm) (os':List PO):Prop where
 nx:Nx N N'
 bk:BkE N os N' wr
 ho:Ho N.n os os' wr
 nle:N.h.n.toNat≤N'.h.n.toNat
theorem zqZ(M:Zq E n0 len i mk N os)(I:Ze E N os)(D:Zt bs i len mk H){N1:Nm}{os1:List PO}{wr:List Nat}{lk:Nat→Bool}{v:Zb}{a:PA}(S:Sim E lk (uu n0 H N) (ua bs i mk os) wr N1 os1 v a):
  ∃t,zdB n0 N.h.t H N1.h.t=some t∧Ze E ⟨N1.μ,N1.n,N1.fz,⟨N1.h.n,t⟩⟩ (xY bs i os mk os1)∧Aft N os wr ⟨N1.μ,N1.n,N1.fz,⟨N1.h.n,t⟩⟩ (xY bs i os mk os1)∧Nx N1 ⟨N1.μ,N1.n,N1.fz,⟨N1.h.n,t⟩⟩∧
   (∀j,lk j=true→og (xY bs i os mk os1) j=og os j)∧(∀j,j<len→N.h.t.get (nm n0 j)=none→t.get (nm n0 j)=none):=by
 have IH:=zg9 M I D;have old:∀b,b.toNat<N.h.n.toNat→(uu n0 H N).h.t.get b=none→N1.h.t.get b=none:=fun b hb hn=>by
  rw[S.fr.eq b hb fun k hk hkn hl hkb=>?_]
  ·exact hn
  ·obtain⟨b',x,g1,_,g3⟩:=yT hl (IH.obj k)
   grind
 have nlt:∀j,j<len→(nm n0 j).toNat<N.h.n.toNat:=fun j hj=>by rw[ye];have:=M.top;omega
 have hnone:∀j∈H,N1.h.t.get (nm n0 j)=none:=fun j hj=>old _ (nlt j (D.lt j hj)) ((wL _).1 (List.mem_map.2 ⟨j,hj,rfl⟩));obtain⟨t,ht⟩:=qm (h:=N.h.t) H N1.h.t D.nd hnone;obtain⟨b1,b2,_⟩:=u3 H N1.h.t t ht;have b2:∀b,b∉H.map (nm n0)→t.get b=N1.h.t.get b:=fun b hb=>b2 b fun j hj e=>hb (List.mem_map.2 ⟨j,hj,e.symm⟩);have up:∀b y,N1.h.t.get b=some y→t.get b=some y:=fun b y hy=>by grind
 have dn:∀b y,t.get b=some y→N1.h.t.get b=some y∨(b∈H.map (nm n0)∧N.h.t.get b=some y):=fun b y hy=>by grind
 have nfz1:∀j∈H,¬N1.fz (nm n0 j):=fun j hj hf=>by
  rcases S.inv.fzex _ hf with h|⟨y,hy⟩
  ·rw[ye]at h;have:=M.e0;omega
  ·grind
 let N2:Nm:=⟨N1.μ,N1.n,N1.fz,⟨N1.h.n,t⟩⟩
 have nx1:Nx N1 N2:=⟨⟨fun _ _ h _=>h,fun b o _ hy=>up b o hy⟩,LzB _,fun _ _=>rfl⟩;have nx0:Nx N N2:=((zfC M I D).trans S.nx).trans nx1;have hr:∀p∈mk,p.2<os1.length:=fun p hp=>by have:=(M.mks p hp).2.2.1;have h2:N.n≤N1.n:=S.nx.le;rw[S.inv.len]at h2;omega
 have hsol:∀k,Hid bs i mk k→k<N.n∧solid (og os k):=fun k ⟨j,h1,h2⟩=>⟨(M.mks _ h1).2.2.1,(M.mks _ h1).2.2.2.1⟩;have hidden:∀k,Hid bs i mk k→∃j∈H,k<N.n∧live (og os k)∧blk (N.μ k)=some (nm n0 j)∧N1.μ k=N.μ k:=fun k ⟨j,h1,h2⟩=>by obtain⟨_,_,g1,g2,g3⟩:=M.mks _ h1;exact⟨j,(D.hid j k h1).2 h2,g1,g2.live,g3,S.nx.mu k g1⟩
 have key:∀k,live (og (xY bs i os mk os1) k)→(Hid bs i mk k∧live (og os k))∨(¬Hid bs i mk k∧live (og os1 k)):=fun k hl=>by grind[Hid,y3]
 have cross:∀k k' b,Hid bs i mk k→live (og os1 k')→blk (N1.μ k)=some b→blk (N1.μ k')=some b→False:=fun k k' b hh hl hb hb'=>by
  obtain⟨j,hj,g1,g2,g3,g4⟩:=hidden k hh;rw[g4,g3]at hb;cases hb;obtain⟨b',x,q1,_,q3⟩:=yT hl (S.inv.obj k')
  grind
 refine⟨t,ht,⟨fun b y hy=>?_,⟨Yzp I.gr.le S.fr.nle,fun b hb hx=>?_⟩,S.inv.fzlt,S.inv.fzok,fun b hb=>?_,S.inv.len.trans (uL mk os1).symm,fun k b hl hb=>?_,fun k k' b hl hl' hb hb'=>?_,fun k=>?_,fun k m hk=>?_⟩,
  ⟨nx0,fun b y hy hw=>?_,fun k hk=>?_,S.fr.nle⟩,nx1,fun j hj=>?_,fun j hj=>?_⟩
 ·rcases dn b y hy with h|⟨_,h⟩
  ·exact S.inv.hw b y h
  ·exact Lz9 (I.hw b y h) S.fr.nle
 ·show t.get b=_;rw[b2 b ?_]
  ·exact S.inv.gr.old b hb hx
  ·intro hm;obtain⟨j,hj,rfl⟩:=List.mem_map.1 hm;rw[ye]at hb;have:=M.e0;omega
 ·exact(S.inv.fzex b hb).imp id fun⟨y,hy⟩=>⟨y,up b y hy⟩
 ·rcases key k hl with⟨hh,hl⟩|⟨_,hl⟩
  ·obtain⟨j,_,_,_,g3,g4⟩:=hidden k hh;rw[show N2.μ k=N1.μ k from rfl,g4,g3]at hb;cases hb;exact .inl (by rw[ye];have:=M.e0;omega)
  ·exact S.inv.own k b hl hb
 ·rcases key k hl with⟨hh,h1⟩|⟨hh,h1⟩<;>rcases key k' hl' with⟨hh',h1'⟩|⟨hh',h1'⟩
  ·obtain⟨_,_,_,_,_,g4⟩:=hidden k hh;obtain⟨_,_,_,_,_,g4'⟩:=hidden k' hh';rw[show N2.μ k=N1.μ k from rfl,g4]at hb;rw[show N2.μ k'=N1.μ k' from rfl,g4']at hb';exact I.inj k k' b h1 h1' hb hb'
  ·grind
  ·grind
  ·exact S.inv.inj k k' b h1 h1' hb hb'
 ·by_cases hh:Hid bs i mk k
  ·rw[(y3 k mk os1 hr).1 hh];obtain⟨j,hj,g1,g2,g3,g4⟩:=hidden k hh;refine (I.obj k).mono nx0 g4 fun _ b hb=>?_
   grind
  ·rw[(y3 k mk os1 hr).2 hh];refine (S.inv.obj k).mono nx1 rfl fun hl b hb=>?_;obtain⟨b',x,q1,q2,q3⟩:=y4 hl (S.inv.obj k)
   grind
 ·by_cases hh:Hid bs i mk k
  ·rw[(y3 k mk os1 hr).1 hh]at hk;have:=(hsol k hh).2;rw[hk]at this;trivial
  ·rw[(y3 k mk os1 hr).2 hh]at hk;obtain⟨k2,v2,n2,q⟩:=S.inv.lnk k m hk;have hnh:¬Hid bs i mk k2:=fun h2=>by
    have:=(S.ho k2 (hsol k2 h2).1).2.2 (by rw[q];trivial);rw[(yv k2 mk os).1 h2]at this;exact this
   grind[y3]
 ·by_cases hm:b∈H.map (nm n0)
  ·grind
  ·refine up b y ?_;have hy2:(uu n0 H N).h.t.get b=some y:=((wL b).2 hm).trans hy;rw[S.fr.eq b (I.hw b y hy) fun k hk hkn hl hkb=>?_]
   ·exact hy2
   ·by_cases hh:Hid bs i mk k
    ·rw[(yv k mk os).1 hh]at hl;exact hl
    ·rw[(yv k mk os).2 hh]at hl;exact hw k hk hkn hl hkb
 ·by_cases hh:Hid bs i mk k
  ·grind[y3]
  ·rw[(y3 k mk os1 hr).2 hh];have:=S.ho k hk
   grind[yv]
 ·by_cases hh:Hid bs i mk j
  ·grind[y3]
  ·rw[(y3 j mk os1 hr).2 hh,S.lock j hj,(yv j mk os).2 hh]
 ·by_cases hm:j∈H
  ·grind
  ·have hm2:nm n0 j∉H.map (nm n0):=fun h=>by
    grind[wJ]
   grind[wL]
end
end Go.PE
end
section
namespace Go.PE
open Go Go.CE
section
variable {P:Program} {O:Orc} {C:Nat→zb} {E:En}
theorem Ze.newAt{N:Nm}{os:List PO}(I:Ze E N os){b:BN}(hlt:b.toNat<N.h.n.toNat)(hn:N.h.t.get b=none)(h0:E.h0.n.toNat≤b.toNat)(hnf:¬N.fz b)(y:Zf)(o:PO)(c:Zc)(hc:blk c=some b)
  (ho:∀N',Nx N N'→N'.μ os.length=c→¬N'.fz b→N'.h.t.get b=some y→os.length<N'.n→RepO N' os.length o) (hnl:∀m,o≠.lnk m):
  Ze E ⟨upd N.μ os.length c,os.length+1,N.fz,⟨N.h.n,N.h.t.set b y⟩⟩ (os++[o])∧Aft N os [] ⟨upd N.μ os.length c,os.length+1,N.fz,⟨N.h.n,N.h.t.set b y⟩⟩ (os++[o]):=by
 have old:∀b' z,N.h.t.get b'=some z→(N.h.t.set b y).get b'=some z:=fun b' z hz=>by grind[zl]
 have mu:∀k,k≠os.length→upd N.μ os.length c k=N.μ k:=fun k hk=>by show (if k=os.length then c else N.μ k)=_;rw[Yzc hk]
 have muL:upd N.μ os.length c os.length=c:=by show (if os.length=os.length then c else _)=_;simp
 have hlen:=I.len;have nx:Nx N ⟨upd N.μ os.length c,os.length+1,N.fz,⟨N.h.n,N.h.t.set b y⟩⟩:=⟨⟨fun _ _ h _=>h,fun b' z _ hz=>old b' z hz⟩,by grind,fun k hk=>mu k (by omega)⟩;have nb:∀k,live (og os k)→blk (N.μ k)≠some b:=fun k hl hb=>by
  obtain⟨b',x',h1,_,h3⟩:=yT hl (I.obj k)
  grind
 refine⟨⟨fun b' z hz=>?_,⟨I.gr.le,fun b' hb' hx=>?_⟩,I.fzlt,I.fzok,fun b' hb'=>(I.fzex b' hb').imp id fun⟨z,hz⟩=>⟨z,old b' z hz⟩,by simp,fun k b' hl hb=>?_,fun k k' b' hl hl' hb hb'=>?_,fun k=>?_,fun t m ht=>?_⟩,
  ⟨nx,fun b' z hz _=>old b' z hz,.app (Nat.le_of_eq hlen),LzB _⟩⟩
 ·show b'.toNat<N.h.n.toNat;by_cases hb:b'=b
  ·grind
  ·exact I.hw b' z (by rwa [show (Za.mk N.h.n (N.h.t.set b y)).t=N.h.t.set b y from rfl,zl _ _ _ _ hb]at hz)
 ·show (N.h.t.set b y).get b'=_;rw[zl _ _ _ _ (fun e=>by grind)];exact I.gr.old b' hb' hx
 ·by_cases hk:k=os.length
  ·subst hk;rw[show (Nm.mk (upd N.μ os.length c) (os.length+1) N.fz ⟨N.h.n,N.h.t.set b y⟩).μ os.length=c from muL,hc]at hb;cases hb;exact .inl h0
  ·rw[yq,Yzc hk]at hl;rw[show (Nm.mk (upd N.μ os.length c) (os.length+1) N.fz ⟨N.h.n,N.h.t.set b y⟩).μ k=N.μ k from mu k hk]at hb;exact I.own k b' hl hb
 ·rw[yq]at hl hl';simp only at hb hb';by_cases hk:k=os.length<;>by_cases hk':k'=os.length
  ·omega
  ·grind
  ·grind
  ·rw[Yzc hk]at hl;rw[Yzc hk']at hl';rw[mu k hk]at hb;rw[mu k' hk']at hb';exact I.inj k k' b' hl hl' hb hb'
 ·rw[yq];by_cases hk:k=os.length
  ·simp_all[zr]
  ·rw[Yzc hk];refine (I.obj k).mono nx (mu k hk) fun hl b' hb=>?_;obtain⟨b2,x',h1,h2,h3⟩:=y4 hl (I.obj k)
   grind
 ·rw[yq]at ht;by_cases hk:t=os.length
  ·grind
  ·rw[Yzc hk]at ht;obtain⟨k,v,n,h⟩:=I.lnk t m ht;have hl:k<os.length:=vi (by grind);exact⟨k,v,n,by rw[yq,Yzc (by omega)];exact h⟩
def mkK:KOp→Bool
 | .alloc _=>true
 | .box _=>true
 | .bslice ..=>true
 |_=>false
def soft:KOp→Bool
 | .bslice ..=>false
 |_=>true
def isD:PC→Bool
 | .d _=>true
 |_=>false
def xR:PA→Bool
 | .s v=>v.cells.all isD
 |_=>true
theorem zid{N A:Nm}(g:FG N.fz N.h A.fz A.h){v:Zb}{a:PA}(hp:xR a=true)(H:RepPA N v a):RepPA A v a:=by
 have one:∀(c:Zc) (p:PC),isD p=true→RepPC N c p→RepPC A c p:=fun c p hp H=>by
  cases p with
  |d d=>exact Rep.mono g H
  |_=>cases hp
 have many:∀(cs:List Zc) (ps:List PC),ps.all isD=true→RepPL N cs ps→RepPL A cs ps:=by
  intro cs
  induction cs with
  |nil=>intro ps _ H;cases ps with
   |nil=>trivial
   |cons _ _=>trivial
  |cons c cs ih=>intro ps hp H;cases ps with
   |nil=>trivial
   |cons p ps=>simp only[Yyc,LzC]at hp;exact⟨one c p hp.1 H.1,ih ps hp.2 H.2⟩
 cases a with
 |s pv=>
  obtain⟨w,rfl,hw⟩:=H.inv;refine .of ?_;cases w<;>cases pv<;>first|exact hw.elim|skip
  ·simp only[xR,PV.cells,Yyc,List.all_nil,Yz8]at hp;exact one _ _ hp hw
  ·exact many _ _ hp hw
 |tup ds=>
  cases v with
  |s _=>trivial
  |tup l=>exact RepSL.mono g H
 |bad=>trivial
 |undef=>trivial
def ztm{β:Type}(E:En)(lk:Nat→Bool)(N:Nm)(os:List PO)(run:zb→Za→Res)(K:PA→List PO→Option β)(x:β)(nb:Bool):Prop:=
 ∃a os1 o N1,K a (os1++[o])=some x∧Fz N N1∧Stp E lk N os [] N1 os1∧os1.length=os.length∧(nb=true→N1=N)∧solid o∧∃(vf:BN→Zc) (y:Zf),(∀b,blk (vf b)=some b)∧(∀call b T,run call ⟨b,T⟩=some (.s (.one (vf b)),(⟨b,T⟩:Za).new y))∧
  ∀b N',Nx N1 N'→N'.μ os1.length=vf b→¬N'.fz b→N'.h.t.get b=some y→os1.length<N'.n→RepO N' os1.length o∧RepPA N' (.s (.one (vf b))) a
theorem zsz{β:Type}{lk:Nat→Bool}{N:Nm}{os:List PO}{r:Fr}{ρ:Nat→PA}{k:KT β}{x:β}{sh:Sh}{ko:KOp}(hk:mkK ko=true)(I:Ze E N os)(F:∀i,RepPA N (r i) (ρ i))(e:pOp O lk sh ρ os ko k=some x):
  ztm E lk N os (fun call h=>runK r ko call h) (fun a os'=>k a os' [] []) x (soft ko):=by
 have boxy:∀(vs:List Zc) (ps:List PC),RepPL N vs ps→(∀call h,runK r ko call h=zbo h (.cells vs 0) (fun b=>.ptr b 0))→k (pc (.ptr os.length 0)) (os++[.box ps]) [] []=some x→ztm E lk N os (fun call h=>runK r ko call h) (fun a os'=>k a os' [] []) x (soft ko):=by intro vs ps H run e;exact⟨_,os,.box ps,N,e,.refl N,.refl I,rfl,fun _=>rfl,trivial,fun b=>.ptr b 0,.cells vs 0,fun b=>rfl,fun call b T=>(run call _).trans (zcX _ _ _),fun b N' nx hmu hf hg hlt=>⟨⟨_,vs,hmu,hf,hg,H.mono nx⟩,yB (p:=.ptr os.length 0) (c:=.ptr b 0) ⟨hlt,_,hmu,rfl⟩⟩⟩
 cases ko with
 |alloc zs=>have e:za (cDs zs) (fun cs=>k (pc (.ptr os.length 0)) (os++[.box cs]) [] [])=some x:=e;obtain⟨ps,h1,e⟩:=zg e;exact boxy _ _ (kG h1) (fun call h=>rfl) e
 |box a=>
  have e:(match pv ρ a with
   |some (.s v)=>k (pc (.ptr os.length 0)) (os++[.box v.cells]) [] []
   |_=>none)=some x:=e
  split at e
  ·rename_i p hp;obtain⟨v,ka,ra⟩:=xP F hp;obtain⟨w,rfl,hw⟩:=ra.inv;exact boxy _ _ hw.cells (fun call h=>by simp only[runK,ka,zt];rfl) e
  ·cases e
 |bslice st len zs parts=>
  have e:za (cDs zs) (fun cs=>za (zet ρ parts cs) fun cs=>za (frL lk yz os cs) fun p=>bif Nat.beq p.2.length (len*st) then k (pc (.own p.1.length)) (p.1++[.arr st (some (chunks st len p.2))]) [] [] else none)=some x:=e
  obtain⟨ps,h1,e⟩:=zg e;obtain⟨ps',h2,e⟩:=zg e;obtain⟨⟨os1,ds⟩,h3,e⟩:=zg e;obtain⟨l,cs',k1,k2,k3⟩:=q7 F h2 (kG h1);obtain⟨N1,f1,S1,r1⟩:=zhd I k3 h3;simp only at e;cases hb:Nat.beq ds.length (len*st) with
  |false=>grind
  |true=>
   rw[hb]at e;have hd:=Lz1 hb;have hl1:os1.length=os.length:=by rw[←S1.inv.len,f1.n,I.len]
   have hlc:(chunks st len ds).length=len:=qc st len ds;refine⟨_,os1,.arr st (some (chunks st len ds)),N1,e,f1,S1,hl1,fun h=>(by cases h),trivial,fun b=>.slc b 0 len len true,.cells cs' st,fun b=>rfl,fun call b T=>?_,fun b N' nx hmu hf hg hlt=>⟨⟨b,cs',true,?_,hf,hg,by rw[r1.1,hd,hlc],fun i y hy=>?_⟩,yB (p:=.own os1.length) ⟨hlt,hmu.symm⟩⟩⟩
   ·show runK r (.bslice st len zs parts) call ⟨b,T⟩=_;simp only[runK,k1];show (match km .nil (cP l) zs with|some cs=>zbo ⟨b,T⟩ (.cells cs st) (fun b=>.slc b 0 len len true)|none=>none)=_
    grind[zcX]
   ·grind
   ·obtain⟨q1,q2⟩:=qd st len ds i y hy;subst q1;refine⟨?_,(r1.sub (i*st) st).mono nx.fg⟩;have:=Yzg st (show i+1≤len from q2)
    grind
 |_=>cases hk
end
def zkD(mk:List (Nat×Nat)):List Nat→Bool
 | [k]=>mk.any fun p=>Nat.beq p.2 k
 |_=>false
section
variable (P:Program) (O:Orc)
def zih{β:Type}(lk:Nat→Bool)(nt:Nat)(ops:Array Oper)(bs:List Nat)(es:List Bool):Nat→List Oper→(Nat→PA)→List PO→(Nat→Nat)→List (List Nat)→List (Nat×Nat×List Nat)→List (Nat×Nat)→Bool→((Nat→PA)→List PO→Option β)→Option β
 |_,[],ρ,os,_,ws,ps,_,_,K=>bif ps.all (fun p=>okW ws p.1 p.2.1 p.2.2) then K ρ os else none
 |i,o::l,ρ,os,bo,ws,ps,mk,fr,K=>
  bif ja o.op then
   match comp P o.op,o.guard with
   |some ko,none=>
    bif mkK ko&&inT nt o.dst then
     pOp O lk (zre P o.dst o.type) (zC ρ (o.looksAt ops)) os ko fun a os' _ _=>bif jx mk os' then zih lk nt ops bs es (Nat.succ i) l (zbt ρ a o.dst) os' (zeL bo (Nat.succ ws.length) o.dst) ws ps (mk++[(i,os.length)]) (fr&&soft ko) K else none
    else none
   |_,_=>none
  else bif anchor P o.op then
   u5 P O lk nt ops o (zC ρ (o.looksAt ops)) (ua bs i mk os) fun ref a os1 wr _=>bif jx mk (xY bs i os mk os1) then zih lk nt ops bs es (Nat.succ i) l (zbt (refine ρ ref) a o.dst) (xY bs i os mk os1) (zeL bo (Nat.succ ws.length) o.dst) (ws++[wr]) ps mk true K else none
  else
   match comp P o.op with
   |none=>none
   |some ko=>
    bif jb ko then
     u5 P O (fun _=>true) nt ops o (zC ρ (o.looksAt ops)) (ua bs i mk os) fun ref a _ _ _=>zih lk nt ops bs es (Nat.succ i) l (zbt (refine ρ ref) a o.dst) os (zeL bo (match trk (refine (zC ρ (o.looksAt ops)) ref) ko with|some x=>bOf bo x|none=>bif fr&&xR a then ws.length else Nat.succ ws.length) o.dst) ws ps mk fr K
    else
     match zef ko with
     |none=>none
     |some x=>
      bif Nat.beq (ce (fun j=>bef bs j i) 0 es) (ce (fun j=>!bef bs i j) 0 es) then
       u5 P O (fun _=>true) nt ops o (zC ρ (o.looksAt ops)) (ua bs i mk os) fun ref a _ _ _=>zih lk nt ops bs es (Nat.succ i) l (zbt (refine ρ ref) a o.dst) os (zeL bo (bif fr&&xR a then ws.length else Nat.succ ws.length) o.dst) ws ps mk fr K
      else
       bif Nat.ble (bOf bo x) (ce (fun j=>bef bs j i) 0 es)&&Nat.ble (ce (fun j=>bef bs j i) 0 es) ws.length&&Nat.ble ws.length (ce (fun j=>!bef bs i j) 0 es) then
        u5 P O (fun _=>true) nt ops o (zC ρ (o.looksAt ops)) (ua bs i mk os) fun ref a _ _ rd=>zih lk nt ops bs es (Nat.succ i) l (zbt (refine ρ ref) a o.dst) os (zeL bo (bif fr&&xR a then ws.length else Nat.succ ws.length) o.dst) ws (ps++[(ce (fun j=>bef bs j i) 0 es,ce (fun j=>!bef bs i j) 0 es,rd)]) mk fr K
       else bif Nat.ble ws.length (ce (fun j=>!bef bs i j) 0 es) then
        u5 P O (fun _=>true) nt ops o (zC ρ (o.looksAt ops)) (ua bs i mk os) fun ref a _ _ rd=>bif zkD mk rd&&okW ws 0 ws.length rd then zih lk nt ops bs es (Nat.succ i) l (zbt (refine ρ ref) a o.dst) os (zeL bo (bif fr&&xR a then ws.length else Nat.succ ws.length) o.dst) ws (ps++[(0,ce (fun j=>!bef bs i j) 0 es,rd)]) mk fr K else none
       else none
end
def PendOk2(S:List Sn)(n0:Nat)(mk:List (Nat×Nat))(mks:List (Nat×Nat×Zf))(ps:List (Nat×Nat×List Nat))(q:CkG):Prop:=
 (∀h,∃h',q.1 h=some (q.2.1,h'))∨Nat.beq q.2.2.1 q.2.2.2.1=true∨
  (∃ rd, (q.2.2.1, q.2.2.2.1, rd) ∈ ps ∧ ∃ (ne : Nat) (b : BN) (A Al : Sn), q.2.2.1 ≤ ne ∧ ne ≤ q.2.2.2.1 ∧ S[ne]? = some A ∧ S[q.2.2.1]? = some Al ∧ (∀ j ∈ q.2.2.2.2, b ≠ nm n0 j) ∧ (∀ h2, h2.t.get b = A.1.h.t.get b → ∃ h', q.1 h2 = some (q.2.1, h')) ∧
   ((∃j,rd=[j]∧j<Al.1.n∧blk (A.1.μ j)=some b∧held (og A.2 j))∨(Al.1.fz b∧∃y,Al.1.h.t.get b=some y)))∨
  (∃k z,(0,q.2.2.2.1,[k])∈ps∧z∈mks∧(z.2.1,k)∈mk∧(∀j∈q.2.2.2.2,nm n0 z.2.1≠nm n0 j)∧∀h2,h2.t.get (nm n0 z.2.1)=some z.2.2→∃h',q.1 h2=some (q.2.1,h'))
def NW(ws:List (List Nat))(e k:Nat):Prop:=∀i w,i<e→ws[i]? = some w→k∉w
theorem NW.of{ws:List (List Nat)}{e k:Nat}(h:okW ws 0 e [k]=true):NW ws e k:=fun _ _ h1 h2=>zfk h (Yzo _) h1 h2
structure MV (n0 i:Nat) (ws:List (List Nat)) (S:List Sn) (N:Nm) (mk:List (Nat×Nat)) (mks:List (Nat×Nat×Zf)):Prop where
 val:∀z∈mks,∀k,(z.2.1,k)∈mk→(∀e A,z.1<e→S[e]? = some A→NW ws e k→A.1.h.t.get (nm n0 z.2.1)=some z.2.2)∧(NW ws ws.length k→N.h.t.get (nm n0 z.2.1)=some z.2.2)
 lt:∀z∈mks,z.2.1<i
 uniq:∀z∈mks,∀z'∈mks,z.2.1=z'.2.1→z=z'
 ex:∀p∈mk,∃z∈mks,z.2.1=p.1
theorem jH{run:Za→Res}{v:Zb}{n0:Nat}{hide:List Nat}{mks:List (Nat×Nat×Zf)}:∀{l:List Za} {k0:Nat},(∀m h,l[m]? = some h→∃h',run ⟨h.n,k8 n0 hide (jp n0 (k0+m) mks h.t)⟩=some (v,h'))→zbJ run v n0 hide mks k0 l=true
 | [],_,_=>rfl
 |h::l,k0,H=>by
  obtain⟨h',e⟩:=H 0 h rfl;rw[Yzx]at e;simp only[zbJ,e,zho,Yz4];exact jH fun m x hx=>by
   obtain⟨h2,e2⟩:=H (m+1) x (by trivial)
   grind
theorem vQ{n0 k:Nat}{b:BN}:∀(mks:List (Nat×Nat×Zf)) (t:Tr Zf),(∀x∈mks,k≤x.1→b≠nm n0 x.2.1)→(jp n0 k mks t).get b=t.get b
 | [],_,_=>rfl
 |(c,j,o)::l,t,H=>by
  simp only[jp];rw[vQ l _ fun x hx=>H x (Yzi _ hx)]
  grind[zl,Yzj,Lz4]
theorem zeq{n0 k:Nat}{z:Nat×Nat×Zf}(hk:k≤z.1):∀(mks:List (Nat×Nat×Zf)) (t:Tr Zf),z∈mks→(∀z'∈mks,z.2.1=z'.2.1→z=z')→(jp n0 k mks t).get (nm n0 z.2.1)=some z.2.2
 | [],_,h,_=>by cases h
 |(c,j,o)::l,t,h,hu=>by
  simp only[jp];by_cases hz:z∈l
  ·exact zeq hk l _ hz fun z' h'=>hu z' (Yzi _ h')
  ·rw[vQ l _ fun x hx _ e=>hz (by grind[wJ])];rcases YzL.1 h with rfl|h
   ·grind[Yze,zr]
   ·trivial
section
variable {E:En} {S:List Sn} {ws:List (List Nat)} (hl:S.length=ws.length+1) (ch:zog E S ws)
include hl ch
theorem zlZ{n0 i:Nat}{N:Nm}{mk:List (Nat×Nat)}{mks:List (Nat×Nat×Zf)}(hi:∀A∈S,Ze E A.1 A.2)(hm:∀x∈mks,∀e A,e≤x.1→S[e]? = some A→A.1.h.t.get (nm n0 x.2.1)=none)(mv:MV n0 i ws S N mk mks){ps:List (Nat×Nat×List Nat)}(hps:(ps.all fun p=>okW ws p.1 p.2.1 p.2.2)=true):
  ∀{cs:List CkG},(∀q∈cs,PendOk2 S n0 mk mks ps q)→zf1 n0 mks (S.map fun x=>x.1.h) cs=true
 | [],_=>rfl
 |(run,v,lo,hi',hide)::cs,Hc=>by
  have ih:=zlZ hi hm mv hps (cs:=cs) fun q hq=>Hc q (Yzi _ hq);simp only[zf1,ih,Yz8];have mem:∀(m:Nat) h,(((S.map fun x=>x.1.h).drop lo).take (Nat.sub (Nat.succ hi') lo))[m]? = some h→∃B,lo+m≤hi'∧S[lo+m]? = some B∧h=B.1.h:=fun m h hi2=>by grind
  rcases Hc _ (Yzj ..) with h|h|⟨rd,hp,ne,b,A,Al,h1,h2,h3,h4,h5,h6,h7⟩|⟨k,z,hp,hz,hzk,h5,h6⟩
  ·simp_all[jH]
  ·grind
  ·rw[YzF]at hps;have hwin:=hps _ hp;simp only at hwin h1 h2 h4 h5 h6;rw[jH fun m x hx=>?_,Bool.or_true];obtain⟨B,hd1,hd2,rfl⟩:=mem m x hx;have hne:S[lo+(ne-lo)]? = some A:=by grind
   have fact:B.1.h.t.get b=A.1.h.t.get b∧∃y,B.1.h.t.get b=some y:=by
    rcases h7 with⟨j,rfl,q1,q2,q3⟩|⟨q1,y,q2⟩
    ·have e1:=jR hl ch h4 h3 h1 h2 q1 hwin q2 q3 (ne-lo) A (by omega) hne;have e2:=jR hl ch h4 h3 h1 h2 q1 hwin q2 q3 m B hd1 hd2;obtain⟨y,hy⟩:=zaS q3 ((hi A (Lz3 h3)).obj j) q2
     grind
    ·have e1:=(xh hl ch h4 (ne-lo) A hne).fg.old b y q1 q2;have e2:=(xh hl ch h4 m B hd2).fg.old b y q1 q2
     grind
   obtain⟨f1,y,f2⟩:=fact;refine h6 _ ?_;show (k8 n0 hide (jp n0 (lo+m) mks B.1.h.t)).get b=_;rw[wO hide _ b h5,vQ mks _ fun x hx hle e=>?_]
   ·exact f1
   ·grind
  ·rw[YzF]at hps;have hwin:=hps _ hp;simp only at hwin h5 h6;rw[jH fun m x hx=>?_,Bool.or_true];obtain⟨B,hd1,hd2,rfl⟩:=mem m x hx;refine h6 _ ?_;show (k8 n0 hide (jp n0 (lo+m) mks B.1.h.t)).get _=_;rw[wO hide _ _ h5];by_cases hle:lo+m≤z.1
   ·exact zeq hle mks _ hz (mv.uniq z hz)
   ·rw[vQ mks _ fun x hx hle2 e=>hle (by have:=mv.uniq z hz x hx (wJ e);grind)];exact(mv.val z hz k hzk).1 (lo+m) B (by omega) hd2 fun i w h1 h2=>NW.of hwin i w (by omega) h2
end
theorem Aft.refl(N:Nm)(os:List PO):Aft N os [] N os:=⟨.refl N,fun _ _ h _=>h,.refl _ _ _,LzB _⟩
theorem Stp.aft{E:En}{lk:Nat→Bool}{N N':Nm}{os os':List PO}{wr:List Nat}(S:Stp E lk N os wr N' os')(hw:HW N.h):Aft N os wr N' os':=⟨S.nx,S.fr.ex hw,S.ho,S.fr.nle⟩
theorem Aft.trans{A N N':Nm}{oA os os':List PO}{wr:List Nat}(a:Aft A oA [] N os)(hn:∀k b,A.n≤k→k<N.n→blk (N.μ k)=some b→A.h.t.get b=none)(b:Aft N os wr N' os'):Aft A oA wr N' os':=by
 refine⟨a.nx.trans b.nx,fun b0 y hy hw=>?_,fun k hk=>?_,Yzp a.nle b.nle⟩
 ·refine b.bk b0 y (a.bk b0 y hy fun j hj=>(by cases hj)) fun j hj hjn hl hjb=>?_;by_cases hA:j<A.n
  ·exact hw j hj hA ((a.ho j hA).2.2 hl) (by rw[←a.nx.mu j hA];exact hjb)
  ·grind
 ·have g1:=a.ho k hk;have g2:=b.ho k (Lz9 hk a.nx.le)
  grind
end Go.PE
end
section
namespace Go.PE
open Go Go.CE
section
variable {P:Program} {O:Orc} {C:Nat→zb} {E:En}
theorem Zq.up{n0 len i:Nat}{mk:List (Nat×Nat)}{N:Nm}{os:List PO}(M:Zq E n0 len i mk N os):Zq E n0 len (Nat.succ i) mk N os:=
 ⟨M.e0,M.top,fun p hp=>⟨Nat.lt_succ_of_lt (M.mks p hp).1,(M.mks p hp).2⟩,fun j hj h=>M.free j hj (by omega),M.all⟩
theorem zu7{ops:Array Oper}{bs:List Nat}{i:Nat}{mk:List (Nat×Nat)}{n0:Nat}{N:Nm}{os:List PO}(_M:Zq E n0 ops.toList.length i mk N os)(hm:∀p∈mk,∃o,ops.toList[p.1]? = some o∧ja o.op=true):
  Zt bs i ops.toList.length mk (yd bs i 0 ops.toList):=by
 refine⟨zaR _ _,fun j hj=>?_,fun j k hjk=>?_⟩
 ·grind[wy]
 ·obtain⟨o,h1,h2⟩:=hm _ hjk;rw[wy]
  grind
theorem PendOk2.up{S X:List Sn}{n0:Nat}{mk mk':List (Nat×Nat)}{mks mks':List (Nat×Nat×Zf)}{ps ps':List (Nat×Nat×List Nat)}(hps:∀p∈ps,p∈ps')(hmk:∀p∈mk,p∈mk')(hmks:∀p∈mks,p∈mks'){q:CkG}(h:PendOk2 S n0 mk mks ps q):PendOk2 (S++X) n0 mk' mks' ps' q:=by
 rcases h with g|g|⟨rd',g1,ne,b,A,Al,a1,a2,a3,a4,a5⟩|⟨k,z,g1,g2,g3,g4⟩
 ·exact .inl g
 ·exact .inr (.inl g)
 ·refine .inr (.inr (.inl ⟨rd',hps _ g1,ne,b,A,Al,a1,a2,?_,?_,a5⟩))
  ·grind
  ·grind
 ·exact .inr (.inr (.inr ⟨k,z,hps _ g1,hmks _ g2,hmk _ g3,g4⟩))
set_option maxHeartbeats 1000000 in
theorem zcR(hO:uQ O C){β γ:Type}{Q:γ→Prop}{lk:Nat→Bool}{nt:Nat}{ops:Array Oper}{bs:List Nat}{es:List Bool}{n0:Nat}{x:β}{K:(Nat→PA)→List PO→Option β}{kk:Nat→Fr→Za→Option γ}:
    ∀(l:List Oper) (i:Nat) (ρ:Nat→PA) (os:List PO) (N:Nm) (r:Fr) (bo:Nat→Nat) (ws:List (List Nat)) (ps:List (Nat×Nat×List Nat)) (mk:List (Nat×Nat)) (fr:Bool) (S:List Sn) (cs:Nat→List CkG) (mks:List (Nat×Nat×Zf)),
    zih P O lk nt ops bs es i l ρ os bo ws ps mk fr K=some x→Ze E N os→(∀i,RepPA N (r i) (ρ i))→(∀j,lk j=true→j<os.length)→
    (∃pre,ops.toList=pre++l∧pre.length=i)→Zq E n0 ops.toList.length i mk N os→(∀p∈mk,∃o,ops.toList[p.1]? = some o∧ja o.op=true)→
    S.length=ws.length+1→zog E S ws→(∀A∈S,Ze E A.1 A.2)→(∀A∈S,∀j,j<ops.toList.length→i≤j→A.1.h.t.get (nm n0 j)=none)→
    (∃A,S[ws.length]? = some A∧Aft A.1 A.2 [] N os∧(∀k b,A.1.n≤k→k<N.n→blk (N.μ k)=some b→A.1.h.t.get b=none)∧(fr=true→FG N.fz N.h A.1.fz A.1.h))→
    (∀s,bo s≤ws.length+1∧∀A:Sn,S[bo s]? = some A→RepPA A.1 (r s) (ρ s))→
    (∀y∈mks,y.1≤ws.length∧∀e A,e≤y.1→S[e]? = some A→A.1.h.t.get (nm n0 y.2.1)=none)→MV n0 i ws S N mk mks→(∀n,∀q∈cs n,PendOk2 S n0 mk mks ps q)→
    (∀ρ' os' N' r',K ρ' os'=some x→Ze E N' os'→(∀i,RepPA N' (r' i) (ρ' i))→Nx N N'→(∀j,lk j=true→og os' j=og os j)→(∀i,i∉l.filterMap (·.dst)→r' i=r i)→Ev (fun n=>kk n r' N'.h) Q)→
    Ev (fun n=>zbu P nt ops (C n) bs es n0 i l r N.h ws.length (S.map fun x=>x.1.h) (cs n) mks (kk n)) Q
  | [],i,ρ,os,N,r,bo,ws,ps,mk,fr,S,cs,mks,e,I,F,hlk,sfx,M,hmo,hl,ch,hi,hf,la,sl,hms,mv,pe,H=>by
    simp only[zih]at e;cases hps:(ps.all fun p=>okW ws p.1 p.2.1 p.2.2) with
    |false=>grind
    |true=>
      rw[hps]at e;have run:∀n,zbu P nt ops (C n) bs es n0 i [] r N.h ws.length (S.map fun x=>x.1.h) (cs n) mks (kk n)=kk n r N.h:=fun n=>by simp only[zbu];rw[zlZ hl ch hi (fun y hy=>(hms y hy).2) mv hps (pe n),Yza]
      simp only[run];exact H ρ os N r e I F (.refl N) (fun _ _=>rfl) (fun _ _=>rfl)
  |o::l,i,ρ,os,N,r,bo,ws,ps,mk,fr,S,cs,mks,e,I,F,hlk,sfx,M,hmo,hl,ch,hi,hf,la,sl,hms,mv,pe,H=>by
    have agree:∀(r2:Fr) (v:Zb),(∀i,i∉l.filterMap (·.dst)→r2 i=w6 r v o.dst i)→∀i,i∉(o::l).filterMap (·.dst)→r2 i=r i:=fun r2 v hr i hi=>by grind[xn]
    have FR:=zjF F (o.looksAt ops);obtain⟨pre,hpre,hprel⟩:=sfx;have sfx':∃pre,ops.toList=pre++l∧pre.length=Nat.succ i:=⟨pre++[o],by grind,by grind⟩;have hop:ops.toList[i]? = some o:=by grind
    have hilt:i<ops.toList.length:=(Lz0.1 hop).1;obtain⟨A,eA,aA,nA,gA⟩:=la;have hf':∀A∈S,∀j,j<ops.toList.length→Nat.succ i≤j→A.1.h.t.get (nm n0 j)=none:=fun A hA j hj h=>hf A hA j hj (by omega);simp only[zih]at e;simp only[zbu];cases hm:ja o.op with
    |true=>
      rw[hm]at e;simp only[Yza]at e ⊢;cases hc:comp P o.op with
      |none=>grind
      |some ko=>
        cases hg:o.guard with
        |some g=>grind
        |none=>
          rw[hc,hg]at e;simp only at e;cases hk:mkK ko with
          |false=>grind
          |true=>
            rw[hk]at e;cases hT:inT nt o.dst with
            |false=>grind
            |true=>
              rw[hT]at e;simp only[Bool.and_self,Yza]at e;obtain⟨a,os1,ob,N1,e1,f1,S1,hlen1,hN1,hob,vf,y,hvf,run,fin⟩:=zsz hk I FR e;have e1:(bif jx mk (os1++[ob]) then zih P O lk nt ops bs es (Nat.succ i) l (zbt ρ a o.dst) (os1++[ob]) (zeL bo (Nat.succ ws.length) o.dst) ws ps (mk++[(i,os.length)]) (fr&&soft ko) K else none)=some x:=e1;cases hal:jx mk (os1++[ob]) with
              |false=>grind
              |true=>
                rw[hal]at e1;simp only[Yza]at e1
                let b:BN:=nm n0 i
                have hbt:b.toNat=n0+i:=ye _ _;have hbn:N1.h.t.get b=none:=by rw[f1.h];exact M.free i hilt (LzB _)
                have hE:E.h0.n.toNat≤b.toNat:=by have:=M.e0;omega
                have hnf:¬N1.fz b:=fun h=>by rcases S1.inv.fzex b h with h|⟨z,hz⟩<;>grind
                obtain⟨I2,A2⟩:=S1.inv.newAt (b:=b) (by rw[f1.h];have:=M.top;omega) hbn hE hnf y ob (vf b) (hvf b) (fun N' nx hmu hf hgt hlt=>(fin b N' nx hmu hf hgt hlt).1) fun m h=>by rw[h]at hob;exact hob
                let N2:Nm:=⟨upd N1.μ os1.length (vf b),os1.length+1,N1.fz,⟨N1.h.n,N1.h.t.set b y⟩⟩
                have mu2:∀k,k≠os1.length→N2.μ k=N1.μ k:=fun k hk=>by show (if k=os1.length then vf b else N1.μ k)=_;rw[Yzc hk]
                have muL:N2.μ os1.length=vf b:=by show (if os1.length=os1.length then vf b else _)=_;simp
                have hval:=(fin b N2 A2.nx muL hnf (zr _ _ _) (Yyg _)).2;have hN:N.n=os1.length:=by rw[hlen1];exact I.len
                have A1:Aft N os [] N1 os1:=S1.aft I.hw;have A12:Aft N os [] N2 (os1++[ob]):=A1.trans (fun k b' h1 h2 _=>by rw[f1.n]at h2;omega) A2;have step:∀n,CE.bindR (z5 P nt ops o (C n) (zB r (o.looksAt ops)) ⟨bn (Nat.add n0 i),N.h.t⟩) (fun v h'=>zbu P nt ops (C n) bs es n0 (Nat.succ i) l (w6 r v o.dst) ⟨N.h.n,h'.t⟩ ws.length (S.map fun x=>x.1.h) (cs n) (mks++mk1 n0 ws.length i h'.t) (kk n)) =
                    zbu P nt ops (C n) bs es n0 (Nat.succ i) l (w6 r (.s (.one (vf b))) o.dst) N2.h ws.length (S.map fun x=>x.1.h) (cs n) (mks++[(ws.length,i,y)]) (kk n):=fun n=>by
                  have hr:z5 P nt ops o (C n) (zB r (o.looksAt ops)) ⟨bn (Nat.add n0 i),N.h.t⟩=some (.s (.one (vf b)),(⟨b,N.h.t⟩:Za).new y):=by unfold z5;rw[hT,hg];exact(zbX P _ _ _ hc).trans (run _ b N.h.t)
                  rw[hr];simp only[CE.bindR];have h1:((⟨b,N.h.t⟩:Za).new y).t=N.h.t.set b y:=rfl;have h2:mk1 n0 ws.length i (N.h.t.set b y)=[(ws.length,i,y)]:=by unfold mk1;rw[show bn (Nat.add n0 i)=b from rfl,zr]
                  rw[h1,h2];show zbu P nt ops (C n) bs es n0 (Nat.succ i) l _ ⟨N.h.n,N.h.t.set b y⟩ _ _ _ _ _=zbu P nt ops (C n) bs es n0 (Nat.succ i) l _ ⟨N1.h.n,N1.h.t.set b y⟩ _ _ _ _ _;rw[f1.h]
                simp only[step];have hmkl:∀p∈mk,solid (og (os1++[ob]) p.2):=fun p hp=>zel (by grind[jx])
                refine zcR hO l (Nat.succ i) _ (os1++[ob]) N2 _ _ ws ps (mk++[(i,os.length)]) _ S cs (mks++[(ws.length,i,y)]) e1 I2 (qF (fun s=>(F s).mono A12.nx) hval o.dst) (fun j hj=>?_) sfx' ⟨M.e0,?_,fun p hp=>?_,fun j hj hij=>?_,fun j z hj hz=>?_⟩ (fun p hp=>?_)
                  hl ch hi hf' ⟨A,eA,aA.trans nA A12,fun k b' h1 h2 h3=>?_,fun hfr=>?_⟩ (fun s=>?_) (fun z hz=>?_) ⟨fun z hz k hzk=>?_,fun z hz=>?_,fun z hz z' hz' he=>?_,fun p hp=>?_⟩ (fun n q hq=>by have:=(pe n q hq).up (X:=[]) (ps':=ps) (mk':=mk++[(i,os.length)]) (mks':=mks++[(ws.length,i,y)]) (fun _ h=>h) (fun _ h=>Yzn _ h) (fun _ h=>Yzn _ h);grind) fun ρ2 os2 N3 r2 k1 k2 k3 k4 k5 k6=>H ρ2 os2 N3 r2 k1 k2 k3 (A12.nx.trans k4) (fun j hj=>(k5 j hj).trans ?_) (agree r2 _ k6)
                · grind
                · show _≤N1.h.n.toNat;rw[f1.h];exact M.top
                · rcases List.mem_append.1 hp with hp1|hp1
                  · obtain⟨q1,q2,q3,q4,q5⟩:=M.mks p hp1
                    refine⟨by omega,q2,by grind,hmkl p hp1,?_⟩;rw[mu2 p.2 (by omega),f1.μ];exact q5
                  · rw[YzP]at hp1
                    subst hp1;refine⟨Yyg i,hilt,by grind,?_,?_⟩
                    · show solid (og (os1++[ob]) os.length)
                      rw[yq,Yzd hlen1.symm];exact hob
                    · grind
                · show (N1.h.t.set b y).get (nm n0 j)=none
                  rw[zl _ _ _ _ (fun e=>by grind[wJ]),f1.h];exact M.free j hj (by omega)
                · by_cases hji:j=i
                  · grind
                  · have hz:(N1.h.t.set b y).get (nm n0 j)=some z:=hz
                    rw[zl _ _ _ _ (fun e=>hji (wJ e)),f1.h]at hz;obtain⟨k,hk⟩:=M.all j z hj hz
                    grind
                · grind
                · by_cases hko:k=os1.length
                  · grind
                  · have h2:k<os1.length+1:=h2
                    rw[mu2 k hko,f1.μ]at h3
                    grind
                · rw[LzC]at hfr
                  have hNN:=hN1 hfr.2;have g:=gA hfr.1;have up:∀b' z,N2.fz b'→N2.h.t.get b'=some z→N.fz b'∧N.h.t.get b'=some z:=fun b' z h1 h2=>by grind[zl]
                  exact⟨fun b' z h1 h2=>g.sub b' z (up b' z h1 h2).1 (up b' z h1 h2).2,fun b' z h1 h2=>g.old b' z (up b' z h1 h2).1 (up b' z h1 h2).2⟩
                · cases hd:o.dst with
                  |none=>exact sl s
                  |some d=>
                    show (bif Nat.beq s d then Nat.succ ws.length else bo s)≤ws.length+1∧∀A:Sn,S[bif Nat.beq s d then Nat.succ ws.length else bo s]? = some A→RepPA A.1 (bif Nat.beq s d then Zb.s (.one (vf b)) else r s) (bif Nat.beq s d then a else ρ s)
                    grind
                · grind
                · rcases List.mem_append.1 hz with hz1|hz1
                  · have hzi:=mv.lt z hz1
                    have hzk2:(z.2.1,k)∈mk:=by grind
                    obtain⟨g1,g2⟩:=mv.val z hz1 k hzk2;refine⟨g1,fun hnw=>?_⟩;show (N1.h.t.set b y).get (nm n0 z.2.1)=_;rw[zl _ _ _ _ (fun e=>by grind[wJ]),f1.h]
                    grind
                  · grind[zr]
                · rcases List.mem_append.1 hz with hz1|hz1
                  · exact Nat.lt_succ_of_lt (mv.lt z hz1)
                  · grind
                · rcases List.mem_append.1 hz with hz1|hz1<;>rcases List.mem_append.1 hz' with hz2|hz2
                  · exact mv.uniq z hz1 z' hz2 he
                  · rw[YzP]at hz2;subst hz2
                    have:=mv.lt z hz1
                    grind
                  · rw[YzP]at hz1;subst hz1
                    have:=mv.lt z' hz2
                    grind
                  · grind
                · rcases List.mem_append.1 hp with hp1|hp1
                  · obtain⟨z,h1,h2⟩:=mv.ex p hp1
                    grind
                  · rw[YzP]at hp1;subst hp1
                    simp
                · have:=hlk j hj
                  rw[yq,Yzc (by omega)];exact S1.lock j hj
    |false=>
      rw[hm]at e;simp only[Yzb]at e ⊢;have D:Zt bs i ops.toList.length mk (yd bs i 0 ops.toList):=zu7 M hmo;have IH:=zg9 M I D;have nxH:=zfC M I D;have FH:∀s,RepPA (uu n0 (yd bs i 0 ops.toList) N) (zB r (o.looksAt ops) s) (zC ρ (o.looksAt ops) s):=fun s=>(FR s).mono nxH;have hlenH:(ua bs i mk os).length=os.length:=vq mk os;cases ha:anchor P o.op with
      |true=>
        rw[ha]at e;simp only[Yza]at e ⊢;obtain⟨ref,a,os1,wr,rd,e1,F1,ev⟩:=zcN hO IH FH (fun j hj=>by grind) e;refine Ev.bindR (ev.mono ?_)
        rintro⟨v,h'⟩ ⟨N1,hh,Sm⟩
        simp only at hh Sm ⊢;subst hh;obtain⟨t,ht,I2,A2,nx1,lk2,fr2⟩:=zqZ M I D Sm;simp only[ht];cases hal:jx mk (xY bs i os mk os1) with
        |false=>grind
        |true=>
          rw[hal]at e1;simp only[Yza]at e1
          let N2:Nm:=⟨N1.μ,N1.n,N1.fz,⟨N1.h.n,t⟩⟩
          have F2:∀s,RepPA N (r s) (refine ρ ref s):=fun s=>jj F1 (F s);have hmap:(S.map fun x=>x.1.h)++[(⟨N1.h.n,t⟩:Za)]=(S++[((N2,xY bs i os mk os1):Sn)]).map fun x=>x.1.h:=by simp[N2]
          rw[hmap];have hwl:Nat.succ ws.length=(ws++[wr]).length:=by simp
          have step:∀n,zbu P nt ops (C n) bs es n0 (Nat.succ i) l (w6 r v o.dst) ⟨N1.h.n,t⟩ (Nat.succ ws.length) ((S++[((N2,xY bs i os mk os1):Sn)]).map fun x=>x.1.h) (cs n) mks (kk n) =
              zbu P nt ops (C n) bs es n0 (Nat.succ i) l (w6 r v o.dst) N2.h (ws++[wr]).length ((S++[((N2,xY bs i os mk os1):Sn)]).map fun x=>x.1.h) (cs n) mks (kk n):=fun n=>by rw[hwl]
          simp only[step];have AT:=aA.trans nA A2;have hmkl:∀p∈mk,solid (og (xY bs i os mk os1) p.2):=fun p hp=>zel (by grind[jx])
          have hlast:(S++[((N2,xY bs i os mk os1):Sn)])[ws.length+1]? = some (N2,xY bs i os mk os1):=by grind
          refine zcR hO l (Nat.succ i) _ (xY bs i os mk os1) N2 (w6 r v o.dst) _ (ws++[wr]) ps mk true (S++[(N2,xY bs i os mk os1)]) cs mks e1 I2 (qF (fun s=>(F2 s).mono A2.nx) (Sm.val.mono nx1) o.dst) (fun j hj=>?_) sfx'
            ⟨M.e0,Yzp M.top A2.nle,fun p hp=>?_,fun j hj hij=>fr2 j hj (M.free j hj (by omega)),fun j z hj hz=>?_⟩ hmo (by simp[hl]) (fun e w hw B1 B2 b1 b2=>?_) (fun B hB=>?_) (fun B hB j hj hij=>?_)
            ⟨(N2,xY bs i os mk os1),by grind,.refl _ _,fun k b h1 h2 _=>absurd h2 (Nat.not_lt.2 h1),fun _=>.refl _ _⟩ (fun s=>?_) (fun y hy=>?_) ⟨fun z hz k hzk=>?_,fun z hz=>Nat.lt_succ_of_lt (mv.lt z hz),mv.uniq,mv.ex⟩ (fun n q hq=>(pe n q hq).up (fun _ h=>h) (fun _ h=>h) (fun _ h=>h)) fun ρ2 os2 N3 r2 k1 k2 k3 k4 k5 k6=>H ρ2 os2 N3 r2 k1 k2 k3 (A2.nx.trans k4) (fun j hj=>(k5 j hj).trans (lk2 j hj)) (agree r2 v k6)
          · have h1:=Sm.nx.le
            rw[Sm.inv.len,show (uu n0 (yd bs i 0 ops.toList) N).n=N.n from rfl,I.len]at h1
            grind[uL]
          · obtain⟨q1,q2,q3,q4,q5⟩:=M.mks p hp
            exact⟨by omega,q2,Lz9 q3 A2.nx.le,hmkl p hp,by rw[A2.nx.mu p.2 q3];exact q5⟩
          · cases hx:N.h.t.get (nm n0 j) with
            |none=>grind
            |some z'=>exact M.all j z' hj hx
          · by_cases he:e<ws.length
            · rw[Lz2 he]at hw
              rw[Lz2 (by omega)]at b1;rw[Lz2 (by omega)]at b2;exact ch e w hw B1 B2 b1 b2
            · have he2:e=ws.length:=by
                grind
              subst he2;rw[YzJ]at hw;cases hw;rw[Lz2 (by omega),eA]at b1;cases b1;rw[hlast]at b2;cases b2;exact⟨hi A (Lz3 eA),AT.nx,AT.bk,AT.ho⟩
          · grind
          · rcases List.mem_append.1 hB with h|h
            · grind
            · rw[YzP]at h;subst h;exact fr2 j hj (M.free j hj (by omega))
          · have old:bo s≤(ws++[wr]).length+1∧∀B:Sn,(S++[((N2,xY bs i os mk os1):Sn)])[bo s]? = some B→RepPA B.1 (r s) (refine ρ ref s):=by
              refine⟨by grind,fun B hB=>?_⟩;by_cases hbs:bo s≤ws.length
              · rw[Lz2 (by omega)]at hB
                exact jj F1 ((sl s).2 B hB)
              · have hbs2:bo s=ws.length+1:=by grind
                rw[hbs2,hlast]at hB;cases hB;exact(F2 s).mono A2.nx
            cases hd:o.dst with
            |none=>exact old
            |some d=>
              show (bif Nat.beq s d then Nat.succ ws.length else bo s)≤(ws++[wr]).length+1∧∀B:Sn,(S++[((N2,xY bs i os mk os1):Sn)])[bif Nat.beq s d then Nat.succ ws.length else bo s]? = some B→RepPA B.1 (bif Nat.beq s d then v else r s) (bif Nat.beq s d then a else refine ρ ref s);cases Nat.beq s d with
              |false=>exact old
              |true=>refine⟨by simp,fun B hB=>?_⟩;simp only[Yza]at hB ⊢;rw[show Nat.succ ws.length=ws.length+1 from rfl,hlast]at hB;cases hB;exact Sm.val.mono nx1
          · grind
          · obtain⟨g1,g2⟩:=mv.val z hz k hzk
            have old:∀e,e≤ws.length→NW (ws++[wr]) e k→NW ws e k:=fun e he hn i w h1 h2=>hn i w h1 (by grind);have key:NW (ws++[wr]) (ws.length+1) k→N2.h.t.get (nm n0 z.2.1)=some z.2.2:=fun hn=>by have h1:=g2 (old ws.length (LzB _) fun i w h1 h2=>hn i w (by omega) h2);refine A2.bk _ _ h1 fun k' hk' hkn hlv hkb=>?_;obtain⟨_,_,q3,q4,q5⟩:=M.mks _ hzk;have:=I.inj k' k _ hlv q4.live hkb q5;subst this;exact hn ws.length wr (Yyg _) YzJ hk'
            grind
      |false=>
        rw[ha]at e;simp only[Yzb]at e ⊢;cases hc:comp P o.op with
        |none=>grind
        |some ko=>
          rw[hc]at e;simp only at e;have go:∀(okr:List Nat→Bool) (nb:Option (Nat×Bool)→PA→Nat) (ps':List Nat→List (Nat×Nat×List Nat)) (hk:jb ko=true∨∃y,zef ko=some y),(∀ref a,nb ref a≤ws.length+1)→(∀rd,∀p∈ps,p∈ps' rd)→
              (∀ref,(∀s,RepPA (uu n0 (yd bs i 0 ops.toList) N) (zB r (o.looksAt ops) s) (refine (zC ρ (o.looksAt ops)) ref s))→∀v a,RepPA N v a→(∀xo,trk (refine (zC ρ (o.looksAt ops)) ref) ko=some xo→∀N':Nm,(∀t,xo=.tmp t→RepPA N' (zB r (o.looksAt ops) t) (refine (zC ρ (o.looksAt ops)) ref t))→RepPA N' v a)→∀B:Sn,S[nb ref a]? = some B→RepPA B.1 v a)→
              (∀ref,(∀s,RepPA (uu n0 (yd bs i 0 ops.toList) N) (zB r (o.looksAt ops) s) (refine (zC ρ (o.looksAt ops)) ref s))→∀v rd n,okr rd=true→((∀call h2,∃h',z5 P nt ops o call (zB r (o.looksAt ops)) h2=some (v,h'))∨(∃xo,zef ko=some xo∧∃b:BN,(∀call h2,h2.t.get b=(uu n0 (yd bs i 0 ops.toList) N).h.t.get b→∃h',z5 P nt ops o call (zB r (o.looksAt ops)) h2=some (v,h'))∧
                  ((∃ j, rd = [j] ∧ j < (uu n0 (yd bs i 0 ops.toList) N).n ∧ blk ((uu n0 (yd bs i 0 ops.toList) N).μ j) = some b ∧ held (og (ua bs i mk os) j) ∧ ∀ N' : Nm, (∀ t, xo = .tmp t → RepPA N' (zB r (o.looksAt ops) t) (refine (zC ρ (o.looksAt ops)) ref t)) → j < N'.n) ∨
                   (rd=[]∧∀N':Nm,(∀t,xo=.tmp t→RepPA N' (zB r (o.looksAt ops) t) (refine (zC ρ (o.looksAt ops)) ref t))→N'.fz b∧∃y,N'.h.t.get b=some y))))→
                PendOk2 S n0 mk mks (ps' rd) (z5 P nt ops o (C n) (zB r (o.looksAt ops)),v,ce (fun j=>bef bs j i) 0 es,ce (fun j=>!bef bs i j) 0 es,yd bs i 0 ops.toList))→
              (u5 P O (fun _=>true) nt ops o (zC ρ (o.looksAt ops)) (ua bs i mk os) fun ref a _ _ rd=>bif okr rd then zih P O lk nt ops bs es (Nat.succ i) l (zbt (refine ρ ref) a o.dst) os (zeL bo (nb ref a) o.dst) ws (ps' rd) mk fr K else none)=some x→
              Ev (fun n=>CE.bindR (z5 P nt ops o (C n) (zB r (o.looksAt ops)) ⟨N.h.n,k8 n0 (yd bs i 0 ops.toList) N.h.t⟩) fun v h'=>zbu P nt ops (C n) bs es n0 (Nat.succ i) l (w6 r v o.dst) N.h ws.length (S.map fun x=>x.1.h) (cs n++[(z5 P nt ops o (C n) (zB r (o.looksAt ops)),v,ce (fun j=>bef bs j i) 0 es,ce (fun j=>!bef bs i j) 0 es,yd bs i 0 ops.toList)]) mks (kk n)) Q:=by
            intro okr nb ps' hk hnb hps hxb hpe e;obtain⟨ref,a,rd,v,e1,F1,rv,run,tr,pend⟩:=zd4 IH FH hc hk e;have e1:(bif okr rd then zih P O lk nt ops bs es (Nat.succ i) l (zbt (refine ρ ref) a o.dst) os (zeL bo (nb ref a) o.dst) ws (ps' rd) mk fr K else none)=some x:=e1;cases hok:okr rd with
            |false=>grind
            |true=>
            rw[hok]at e1;simp only[Yza]at e1;have:(fun n=>CE.bindR (z5 P nt ops o (C n) (zB r (o.looksAt ops)) ⟨N.h.n,k8 n0 (yd bs i 0 ops.toList) N.h.t⟩) fun v h'=>zbu P nt ops (C n) bs es n0 (Nat.succ i) l (w6 r v o.dst) N.h ws.length (S.map fun x=>x.1.h) (cs n++[(z5 P nt ops o (C n) (zB r (o.looksAt ops)),v,ce (fun j=>bef bs j i) 0 es,ce (fun j=>!bef bs i j) 0 es,yd bs i 0 ops.toList)]) mks (kk n)) =
                fun n=>zbu P nt ops (C n) bs es n0 (Nat.succ i) l (w6 r v o.dst) N.h ws.length (S.map fun x=>x.1.h) (cs n++[(z5 P nt ops o (C n) (zB r (o.looksAt ops)),v,ce (fun j=>bef bs j i) 0 es,ce (fun j=>!bef bs i j) 0 es,yd bs i 0 ops.toList)]) mks (kk n):=by
              funext n
              rw[show (⟨N.h.n,k8 n0 (yd bs i 0 ops.toList) N.h.t⟩:Za)=(uu n0 (yd bs i 0 ops.toList) N).h from rfl,run];rfl
            rw[this];have F2:∀s,RepPA N (r s) (refine ρ ref s):=fun s=>jj F1 (F s);refine zcR hO l (Nat.succ i) _ os N (w6 r v o.dst) _ ws (ps' rd) mk fr S _ mks e1 I (qF F2 (rv.mono zg8) o.dst) hlk sfx' M.up hmo hl ch hi hf' ⟨A,eA,aA,nA,gA⟩ (fun s=>?_) hms ⟨mv.val,fun z hz=>Nat.lt_succ_of_lt (mv.lt z hz),mv.uniq,mv.ex⟩ (fun n q hqm=>?_) fun ρ2 os2 N2 r2 k1 k2 k3 k4 k5 k6=>H ρ2 os2 N2 r2 k1 k2 k3 k4 k5 (agree r2 v k6)
            · have old:bo s≤ws.length+1∧∀B:Sn,S[bo s]? = some B→RepPA B.1 (r s) (refine ρ ref s):=⟨(sl s).1,fun B hh=>jj F1 ((sl s).2 B hh)⟩
              cases hd:o.dst with
              |none=>exact old
              |some d=>
                show (bif Nat.beq s d then nb ref a else bo s)≤ws.length+1∧∀B:Sn,S[bif Nat.beq s d then nb ref a else bo s]? = some B→RepPA B.1 (bif Nat.beq s d then v else r s) (bif Nat.beq s d then a else refine ρ ref s);cases Nat.beq s d with
                |false=>exact old
                |true=>exact⟨hnb ref a,hxb ref F1 v a (rv.mono zg8) tr⟩
            · rcases List.mem_append.1 hqm with h|h
              · have:=(pe n q h).up (X:=[]) (mk':=mk) (mks':=mks) (hps rd) (fun _ h=>h) (fun _ h=>h)
                grind
              · rw[YzP]at h
                subst h;exact hpe ref F1 v rd n hok pend
          have none1:∀B:Sn,S[ws.length+1]? = some B→False:=fun B hB=>by grind
          have here:∀v a,RepPA N v a→∀B:Sn,S[bif fr&&xR a then ws.length else Nat.succ ws.length]? = some B→RepPA B.1 v a:=fun v a rv B hB=>by
            cases hfp:fr&&xR a with
            |false=>grind
            |true=>
              rw[hfp]at hB;rw[LzC]at hfp;simp only[Yza]at hB
              grind[zid]
          have hle1:∀a,(bif fr&&xR a then ws.length else Nat.succ ws.length)≤ws.length+1:=fun a=>by grind
          cases hst:jb ko with
          |true=>
            rw[hst]at e;simp only[Yza]at e;refine go (fun _=>true) (fun ref a=>match trk (refine (zC ρ (o.looksAt ops)) ref) ko with|some x=>bOf bo x|none=>bif fr&&xR a then ws.length else Nat.succ ws.length) (fun _=>ps) (.inl hst) ?_ (fun _ p hp=>hp) ?_ ?_ e
            · intro ref a
              cases htk:trk (refine (zC ρ (o.looksAt ops)) ref) ko with
              |none=>grind
              |some y=>
                cases y with
                |tmp t=>exact(sl t).1
                |_=>exact Yzo _
            · intro ref F1 v a rv tr B hh
              cases htk:trk (refine (zC ρ (o.looksAt ops)) ref) ko with
              |none=>grind
              |some y=>simp only[htk]at hh;refine tr y htk _ fun t ht=>?_;subst ht;exact jK F1 ((sl t).2 B hh)
            · intro ref F1 v rd n hok pend
              rcases pend with g|⟨xo,g,_⟩
              · exact .inl fun h=>g (C n) h
              · exfalso
                cases ko<;>first|exact Bool.noConfusion hst|(simp only[zef]at g;cases g)
          |false=>
            rw[hst]at e;simp only[Yzb]at e;cases hmx:zef ko with
            |none=>grind
            |some y=>
              rw[hmx]at e;simp only at e;cases hb:Nat.beq (ce (fun j=>bef bs j i) 0 es) (ce (fun j=>!bef bs i j) 0 es) with
              |true=>rw[hb]at e;exact go (fun _=>true) (fun _ a=>bif fr&&xR a then ws.length else Nat.succ ws.length) (fun _=>ps) (.inr ⟨y,hmx⟩) (fun _ a=>hle1 a) (fun _ p hp=>hp) (fun ref F1 v a rv tr B hh=>here v a rv B hh) (fun ref F1 v rd n hok pend=>.inr (.inl hb)) e
              |false=>
                rw[hb]at e;simp only[Yzb]at e;cases hw:(Nat.ble (bOf bo y) (ce (fun j=>bef bs j i) 0 es)&&Nat.ble (ce (fun j=>bef bs j i) 0 es) ws.length&&Nat.ble ws.length (ce (fun j=>!bef bs i j) 0 es)) with
                |false=>
                  rw[hw]at e;simp only[Yzb]at e;cases hwl:Nat.ble ws.length (ce (fun j=>!bef bs i j) 0 es) with
                  |false=>grind
                  |true=>
                    rw[hwl]at e;simp only[Yza]at e;refine go (fun rd=>zkD mk rd&&okW ws 0 ws.length rd) (fun _ a=>bif fr&&xR a then ws.length else Nat.succ ws.length) (fun rd=>ps++[(0,ce (fun j=>!bef bs i j) 0 es,rd)]) (.inr ⟨y,hmx⟩) (fun _ a=>hle1 a) (fun _ p hp=>Yzn _ hp) (fun ref F1 v a rv tr B hh=>here v a rv B hh) (fun ref F1 v rd n hok pend=>?_) e;rcases pend with g|⟨xo,g,b,g2,g1⟩
                    · exact .inl fun h=>g (C n) h
                    · rw[LzC]at hok
                      rcases g1 with⟨j,q1,q2,q3,q4,q5⟩|⟨q1,q2⟩
                      · subst q1
                        obtain⟨ok1,ok2⟩:=hok;simp only[zkD,List.any_eq_true]at ok1;obtain⟨⟨jm,k⟩,hp,hpk⟩:=ok1;have hpk:k=j:=Lz1 hpk;subst hpk;obtain⟨z,hz,hzj⟩:=mv.ex _ hp;have hzj:z.2.1=jm:=hzj;subst hzj;obtain⟨_,_,_,_,p5⟩:=M.mks _ hp;obtain⟨w,hw1⟩:=zaS q4 (IH.obj k) q3;have q3':blk (N.μ k)=some b:=q3;rw[p5]at q3';cases q3';obtain⟨hz1,hz2⟩:=j4 hw1;have hv:=(mv.val z hz k hp).2 (NW.of ok2);rw[hz2]at hv;refine .inr (.inr (.inr ⟨k,z,Yzr _ (Yzs _),hz,hp,fun j hj e=>hz1 (List.mem_map.2 ⟨j,hj,e.symm⟩),fun h2 hh=>g2 (C n) h2 (by grind)⟩))
                      · subst q1
                        cases hok.1
                |true=>
                  rw[hw]at e;simp only[LzC]at hw;obtain⟨⟨w1,w2⟩,w3⟩:=hw;have w1:=Lz4 w1;have w2:=Lz4 w2;have w3:=Lz4 w3;refine go (fun _=>true) (fun _ a=>bif fr&&xR a then ws.length else Nat.succ ws.length) (fun rd=>ps++[(ce (fun j=>bef bs j i) 0 es,ce (fun j=>!bef bs i j) 0 es,rd)]) (.inr ⟨y,hmx⟩) (fun _ a=>hle1 a) (fun _ p hp=>Yzn _ hp) (fun ref F1 v a rv tr B hh=>here v a rv B hh) (fun ref F1 v rd n hok pend=>?_) e;rcases pend with g|⟨xo,g,b,g2,g1⟩
                  · exact .inl fun h=>g (C n) h
                  · rw[hmx]at g
                    cases g;obtain⟨Al,elo⟩:∃B:Sn,S[ce (fun j=>bef bs j i) 0 es]? = some B:=⟨_,Lz5 (by omega)⟩;have hrel:∀t,y=.tmp t→RepPA Al.1 (zB r (o.looksAt ops) t) (refine (zC ρ (o.looksAt ops)) ref t):=fun t ht=>by subst ht;refine jK F1 ?_;have hle:bo t≤ce (fun j=>bef bs j i) 0 es:=w1;obtain⟨Ab,eb0⟩:∃B:Sn,S[bo t]? = some B:=⟨_,Lz5 (by omega)⟩;exact((sl t).2 Ab eb0).mono (xh hl ch eb0 (ce (fun j=>bef bs j i) 0 es-bo t) Al (by rw[show bo t+(ce (fun j=>bef bs j i) 0 es-bo t)=ce (fun j=>bef bs j i) 0 es by omega];exact elo))
                    have nxlA:Nx Al.1 A.1:=xh hl ch elo (ws.length-ce (fun j=>bef bs j i) 0 es) A (by rw[show ce (fun j=>bef bs j i) 0 es+(ws.length-ce (fun j=>bef bs j i) 0 es)=ws.length by omega];exact eA);have IA:=hi A (Lz3 eA);have nin:b∉(yd bs i 0 ops.toList).map (nm n0)→∀j∈yd bs i 0 ops.toList,b≠nm n0 j:=fun h j hj e=>h (List.mem_map.2 ⟨j,hj,e.symm⟩);rcases g1 with⟨j,q1,q2,q3,q4,q5⟩|⟨q1,q2⟩
                    · have hnh:¬Hid bs i mk j:=fun h=>by rw[(yv j mk os).1 h]at q4;exact q4
                      obtain⟨z,hz⟩:=zaS q4 (IH.obj j) q3;obtain⟨hz1,hz2⟩:=j4 hz;have q4':held (og os j):=by grind[yv]
                      have jl:=q5 Al.1 hrel;have jA:j<A.1.n:=Lz9 jl nxlA.le;have hA:held (og A.2 j):=(aA.ho j jA).1 q4';have hbA:blk (A.1.μ j)=some b:=by rw[←aA.nx.mu j jA];exact q3
                      obtain⟨z',hz'⟩:=zaS hA (IA.obj j) hbA;have h3:=aA.bk b z' hz' fun j hj=>by cases hj
                      rw[hz2]at h3;exact .inr (.inr (.inl ⟨rd,Yzr _ (Yzs _),ws.length,b,A,Al,w2,w3,eA,elo,nin hz1,fun h2 hh=>g2 (C n) h2 (by grind),.inl ⟨j,q1,jl,hbA,hA⟩⟩))
                    · obtain⟨f1,z,f2⟩:=q2 Al.1 hrel
                      have f3:=nxlA.fg.old b z f1 f2;have f4:=nxlA.fg.sub b z f1 f2;have f5:=aA.nx.fg.old b z f4 f3;have f6:=aA.nx.fg.sub b z f4 f3;have f7:=nxH.fg.old b z f6 f5;exact .inr (.inr (.inl ⟨rd,Yzr _ (Yzs _),ws.length,b,A,Al,w2,w3,eA,elo,nin (j4 f7).1,fun h2 hh=>g2 (C n) h2 (by grind),.inr ⟨f1,z,f2⟩⟩))
end
end Go.PE
end
section
namespace Go.PE
open Go Go.CE
def zsh(c:Nat):Nat:=Nat.mod c 1000
def zwa(c:Nat):Nat:=Nat.mod (Nat.div c 1000) 1000
def zsg(c:Nat):Nat:=Nat.mod (Nat.div c 1000000) 1000
def zsO(c:Nat):Bool:=Nat.ble 1000000000 c
def ztM:List Nat→List Nat
 | []=>[]
 |c::l=>bif zsO c then ztM l else c::ztM l
def zrk:List Nat→List Nat
 | []=>[]
 |c::l=>bif zsO c then c::zrk l else zrk l
def zpE{β:Type}(lk:Nat→Bool)(ρ:Nat→PA)(os:List PO)(c:Nat)(K:List PO→Option β):Option β:=
 bif lk (zsh c) then none else
 match og os (zsh c) with
 | .arr st v=>
  bif Nat.beq st 1 then
   match ρ (zwa c) with
   | .s (.one (.d d))=>za (zcP v d) fun n=>za (zsw v n) fun x=>gdN (atD x 0) (K ((oset (.hol v n (Nat.succ os.length)) os (zsh c)++[.arr (zsg c) none])++[.lnk os.length]))
   |_=>none
  else none
 |_=>none
def zpD{β:Type}(lk:Nat→Bool)(ρ:Nat→PA):List Nat→List PO→(List PO→Option β)→Option β
 | [],os,K=>K os
 |c::l,os,K=>zpE lk ρ os c fun os'=>zpD lk ρ l os' K
def zv3(v:OC)(n:Nat)(d:DV):Option OC:=
 match v with
 |some xs=>some (some (xs.set n [d]))
 |none=>none
def zlX{β:Type}(lk:Nat→Bool)(os:List PO)(k t:Nat)(K:List PO→Option β):Option β:=
 match og os k with
 | .hol v n t'=>
  match og os t with
  | .lnk m=>
   bif Nat.beq t t' && !lk k && !lk t then
    match frC lk yz os (.own m) with
    |some (os1,d)=>za (zv3 v n d) fun w=>K (oset .dead (oset (.arr 1 w) os1 k) t)
    |none=>none
   else none
  |_=>none
 |_=>none
def zeF{β:Type}(lk:Nat→Bool):List (Nat×Nat)→List PO→(List PO→Option β)→Option β
 | [],os,K=>K os
 |p::l,os,K=>zlX lk os p.1 p.2 fun os'=>zeF lk l os' K
def pairs:List Nat→Nat→List (Nat×Nat)
 | [],_=>[]
 |c::l,n=>(zsh c,Nat.succ n)::pairs l (Nat.add n 2)
section
variable {β:Type} {E:En} {lk:Nat→Bool}
structure Vw (E:En) (lk:Nat→Bool) (N:Nm) (os:List PO) (N':Nm) (os':List PO):Prop where
 h:N'.h=N.h
 inv:Ze E N' os'
 nx:Nx N N'
 lock:∀j,lk j=true→og os' j=og os j
 le:os.length≤os'.length
theorem Vw.refl{N:Nm}{os:List PO}(I:Ze E N os):Vw E lk N os N os:=⟨rfl,I,.refl N,fun _ _=>rfl,LzB _⟩
theorem Vw.trans{A B C:Nm}{a b c:List PO}(x:Vw E lk A a B b)(y:Vw E lk B b C c):Vw E lk A a C c:=⟨y.h.trans x.h,y.inv,x.nx.trans y.nx,fun j hj=>(y.lock j hj).trans (x.lock j hj),Yzp x.le y.le⟩
theorem zm4{N:Nm}{os:List PO}{r:Fr}{ρ:Nat→PA}{c:Nat}{K:List PO→Option β}{x:β}(I:Ze E N os)(_F:∀i,RepPA N (r i) (ρ i))(hlk:∀j,lk j=true→j<os.length)(e:zpE lk ρ os c K=some x):
  ∃os' N',K os'=some x∧Vw E lk N os N' os':=by
 unfold zpE at e;generalize zsh c=k at e;cases hlkk:lk k with
 |true=>grind
 |false=>
  rw[hlkk]at e;simp only[Yzb]at e;cases ho:og os k with
  |arr st v=>
   rw[ho]at e;simp only at e;cases hs:Nat.beq st 1 with
   |false=>grind
   |true=>
    rw[hs]at e;have:=Lz1 hs;subst this;simp only[Yza]at e;split at e
    ·rename_i d hd;obtain⟨n,hn,e⟩:=zg e;obtain⟨y,hy,e⟩:=zg e;cases v with
     |none=>cases hy
     |some xs=>
      obtain⟨b,vs,ex,h1,h2,h3,h4,h5⟩:=qn I ho;have hy:xs[n]? = some y:=hy;have hnl:=(Lz0.1 hy).1;obtain⟨g1,g2⟩:=h5 n y hy
      match y,g1,e,g2 with
      | [z],_,e,g2=>
       have e:gdN z (K ((oset (.hol (some xs) n (Nat.succ os.length)) os k++[.arr (zsg c) none])++[.lnk os.length]))=some x:=e;cases z<;>simp only[gdN]at e<;>first|(cases e;done)|skip
       have hvn:vs[n]? = some .nils:=by
        have hl:=g2.1;simp only[Yzw,Yz1]at hl;cases hv:vs[n]? with
        |none=>grind
        |some c0=>
         have h0:((vs.drop (n*1)).take 1)[0]? = some c0:=by grind
         have:=g2.2 0 c0 .nils h0 rfl;rw[Rep.scal this rfl]
       have hkl:k<os.length:=vi (by grind)
       let μ':Nat→Zc:=fun j=>if j=os.length then .nils else if j=os.length+1 then .ptr b n else N.μ j
       let N':Nm:=⟨μ',os.length+2,N.fz,N.h⟩
       have mu:∀j,j<os.length→μ' j=N.μ j:=fun j hj=>by grind
       have mu0:μ' os.length=.nils:=by grind
       have mu1:μ' (os.length+1)=.ptr b n:=by grind
       have hNn:=I.len;have nx:Nx N N':=⟨.refl _ _,by grind,fun j hj=>mu j (by omega)⟩
       let os':=(oset (.hol (some xs) n (os.length+1)) os k++[.arr (zsg c) none])++[.lnk os.length]
       have l1:(oset (.hol (some xs) n (os.length+1)) os k).length=os.length:=zQ _ _ _;have l2:(oset (.hol (some xs) n (os.length+1)) os k++[PO.arr (zsg c) none]).length=os.length+1:=by simp[l1]
       have gk:og os' k=.hol (some xs) n (os.length+1):=by show og (_++_) k=_;rw[yq,l2,Yzc (by omega),yq,l1,Yzc (by omega),zu,Yzd ⟨rfl,hkl⟩]
       have g0:og os' os.length=.arr (zsg c) none:=by show og (_++_) _=_;rw[yq,l2,Yzc (by omega),yq,l1,Yzd rfl]
       have gt:og os' (os.length+1)=.lnk os.length:=by show og (_++_) _=_;rw[yq,l2,Yzd rfl]
       have gj:∀j,j<os.length→j≠k→og os' j=og os j:=fun j hj hne=>by show og (_++_) j=_;rw[yq,l2,Yzc (by omega),yq,l1,Yzc (by omega),zu,Yzc (fun h=>hne h.1)]
       have gg:∀j,os.length+2≤j→og os' j=.dead:=fun j hj=>zsj (by grind);have lv:∀j,live (og os' j)→j<os.length∧live (og os j):=fun j hl=>by
        by_cases hj:j<os.length
        ·refine⟨hj,?_⟩;by_cases hjk:j=k
         ·rw[hjk,ho];trivial
         ·grind
        ·by_cases h0:j=os.length
         ·rw[h0,g0]at hl;trivial
         ·by_cases h1:j=os.length+1
          ·rw[h1,gt]at hl;trivial
          ·rw[gg j (by omega)]at hl;trivial
       refine⟨os',N',e,rfl,⟨I.hw,I.gr,I.fzlt,I.fzok,I.fzex,by grind,fun j b' hl hb=>?_,fun j j' b' hl hl' hb hb'=>?_,fun j=>?_,fun t m ht=>?_⟩,nx,fun j hj=>gj j (hlk j hj) (fun h=>by grind),by grind⟩
       ·obtain⟨q1,q2⟩:=lv j hl;exact I.own j b' q2 (by grind)
       ·obtain⟨q1,q2⟩:=lv j hl;obtain⟨q1',q2'⟩:=lv j' hl';exact I.inj j j' b' q2 q2' (by grind) (by grind)
       ·by_cases hj:j<os.length
        ·by_cases hjk:j=k
         ·subst hjk;rw[gk];exact⟨b,vs,ex,(mu j hj).trans h1,h2,h3,h4,hnl,by grind,mu1,fun i z _ hz=>h5 i z hz⟩
         ·rw[gj j hj hjk];refine (I.obj j).mono nx (mu j hj) fun htd b' hb=>?_;obtain⟨b2,x2,q1,q2,q3⟩:=y4 htd (I.obj j)
          grind
        ·by_cases h0:j=os.length
         ·rw[h0,g0];exact mu0
         ·by_cases h1':j=os.length+1
          ·rw[h1',gt];exact⟨by grind,b,n,vs,mu1,h2,h3,hvn.trans (congrArg some mu0.symm)⟩
          ·rw[gg j (by omega)];trivial
       ·by_cases hj:t<os.length
        ·by_cases hjk:t=k
         ·grind
         ·rw[gj t hj hjk]at ht;obtain⟨k2,v2,n2,q⟩:=I.lnk t m ht
          grind[vi]
        ·grind
    ·cases e
  |_=>grind
theorem zgM:∀{l:List Nat} {N:Nm} {os:List PO} {r:Fr} {ρ:Nat→PA} {K:List PO→Option β} {x:β},Ze E N os→(∀i,RepPA N (r i) (ρ i))→(∀j,lk j=true→j<os.length)→zpD lk ρ l os K=some x→∃os' N',K os'=some x∧Vw E lk N os N' os'
 | [],N,os,r,ρ,K,x,I,F,hlk,e=>⟨os,N,e,.refl I⟩
 |c::l,N,os,r,ρ,K,x,I,F,hlk,e=>by obtain⟨os1,N1,e1,V1⟩:=zm4 I F hlk e;obtain⟨os2,N2,e2,V2⟩:=zgM V1.inv (fun i=>(F i).mono V1.nx) (fun j hj=>Lz9 (hlk j hj) V1.le) e1;exact⟨os2,N2,e2,V1.trans V2⟩
theorem zlW{N:Nm}{os:List PO}{k t:Nat}{K:List PO→Option β}{x:β}(I:Ze E N os)(e:zlX lk os k t K=some x):∃os' N',K os'=some x∧Vw E lk N os N' os':=by
 unfold zlX at e;cases hk:og os k with
 |hol v n t'=>
  rw[hk]at e;simp only at e;cases ht:og os t with
  |lnk m=>
   rw[ht]at e;simp only at e;cases hc:(Nat.beq t t' && !lk k && !lk t) with
   |false=>grind
   |true=>
    rw[hc]at e;simp only[Yza]at e;simp only[LzC,Yzt]at hc;obtain⟨⟨c1,c2⟩,c3⟩:=hc;have:=Lz1 c1;subst this;cases hf:frC lk yz os (.own m) with
    |none=>grind
    |some q=>
     obtain⟨os1,d⟩:=q;rw[hf]at e;simp only at e;have hT:=I.obj t;rw[ht]at hT;obtain⟨hm,_⟩:=hT;obtain⟨N1,f1,S1,r1⟩:=zb4 (c:=N.μ m) (p:=.own m) I ⟨hm,rfl⟩ hf;have hos:∀j,j≠m→og os1 j=og os j:=by
      intro j hj;rw[show yz=99+1 from rfl]at hf;simp only[frC]at hf;cases hom:og os m with
      |frz v=>grind
      |arr st v=>
       rw[hom]at hf;simp only at hf;cases hlm:lk m with
       |true=>grind
       |false=>rw[hlm]at hf;cases hf<;>simp_all[zu]
      |_=>grind
     have hmk:k≠m:=fun h=>by
      rw[show yz=99+1 from rfl]at hf
      grind[frC]
     have hmt:t≠m:=fun h=>by
      rw[show yz=99+1 from rfl]at hf
      grind[frC]
     have hk1:og os1 k=.hol v n t:=(hos k hmk).trans hk;have ht1:og os1 t=.lnk m:=(hos t hmt).trans ht;have hkt:k≠t:=fun h=>by grind
     have I1:=S1.inv;have hO:=I1.obj k;rw[hk1]at hO;have hT:=I1.obj t;rw[ht1]at hT;obtain⟨w,hw,e⟩:=zg e;cases v with
     |none=>cases hw
     |some xs=>
      cases hw;obtain⟨b,vs,ex,h1,h2,h3,h4,h5,h6,h7,h8⟩:=hO;obtain⟨_,b2,n2,vs2,g1,g2,g3,g4⟩:=hT;rw[h7]at g1;cases g1;rw[h3]at g3;cases g3;have hkl:k<os1.length:=vi (by grind);have htl:t<(oset (.arr 1 (some (xs.set n [d]))) os1 k).length:=by simp_all[zQ,vi]
      let os':=oset .dead (oset (.arr 1 (some (xs.set n [d]))) os1 k) t
      have gk:og os' k=.arr 1 (some (xs.set n [d])):=by show og (oset _ _ _) _=_;rw[zu,Yzc (fun h=>hkt h.1),zu,Yzd ⟨rfl,hkl⟩]
      have gt:og os' t=.dead:=by show og (oset _ _ _) _=_;rw[zu,Yzd ⟨rfl,htl⟩]
      have gj:∀j,j≠k→j≠t→og os' j=og os1 j:=fun j h1 h2=>by show og (oset _ _ _) _=_;simp_all[zu]
      have lv:∀j,live (og os' j)→live (og os1 j):=fun j hl=>by
       by_cases hjk:j=k
       ·rw[hjk,hk1];trivial
       ·by_cases hjt:j=t
        ·rw[hjt,gt]at hl;trivial
        ·grind
      have hl1:os1.length=os.length:=by rw[←I1.len,f1.n,I.len]
      refine⟨os',N1,e,f1.h,⟨I1.hw,I1.gr,I1.fzlt,I1.fzok,I1.fzex,I1.len.trans (by grind[zQ]),fun j b' hl hb=>I1.own j b' (lv j hl) hb,fun j j' b' hl hl' hb hb'=>I1.inj j j' b' (lv j hl) (lv j' hl') hb hb',fun j=>?_,fun t2 m2 h2'=>?_⟩,S1.nx,fun j hj=>?_,by show _≤(oset _ _ _).length;simp_all[zQ]⟩
      ·by_cases hjk:j=k
       ·subst hjk;rw[gk];refine⟨b,vs,ex,by grind,h2,h3,by grind,fun i z hz=>?_⟩;rw[List.getElem?_set]at hz;by_cases hin:n=i
        ·subst hin;rw[Yzd rfl,Yzd h5]at hz;cases hz;refine⟨rfl,?_⟩;have hd:(vs.drop (n*1)).take 1=[N1.μ m]:=by
          rw[Nat.mul_one]
          grind[List.drop_eq_getElem_cons]
         rw[hd];exact .cons (by rw[f1.μ];exact r1) (.nil _ _)
        ·grind
       ·by_cases hjt:j=t
        ·rw[hjt,gt];trivial
        ·rw[gj j hjk hjt];exact I1.obj j
      ·by_cases hjk:t2=k
       ·grind
       ·by_cases hjt:t2=t
        ·grind
        ·rw[gj t2 hjk hjt]at h2';obtain⟨k3,v3,n3,q⟩:=I1.lnk t2 m2 h2'
         grind
      ·rw[gj j (fun h=>by grind) (fun h=>by grind)];exact S1.lock j hj
  |_=>grind
 |_=>grind
theorem zeE:∀{l:List (Nat×Nat)} {N:Nm} {os:List PO} {K:List PO→Option β} {x:β},Ze E N os→zeF lk l os K=some x→∃os' N',K os'=some x∧Vw E lk N os N' os'
 | [],N,os,K,x,I,e=>⟨os,N,e,.refl I⟩
 |p::l,N,os,K,x,I,e=>by obtain⟨os1,N1,e1,V1⟩:=zlW I e;obtain⟨os2,N2,e2,V2⟩:=zeE V1.inv e1;exact⟨os2,N2,e2,V1.trans V2⟩
theorem zi7{okm:Nat→Bool}{la:LA}{x:Zg}{N:Nm}{os os1:List PO}{r:Fr}{ρ:Nat→PA}{L:List DV}{M:List OC}{ms:List (Option Nat)}(I:Ze E N os)(F:∀i,RepPA N (r i) (ρ i))(e:vec lk okm la x ρ os=some (os1,L,M,ms)):
  (∀t,t∈zc1 (zjv la x)→∃m,og os1 t=.lnk m)∧(∀m,some m∈ms→∃st v,og os1 m=mkO st v)∧(∀k n,(k,n)∈la.boxes→∃cs,og os1 k=.box cs)∧(∀k st,(k,st)∈la.arrs→∃v,og os1 k=mkO st v):=by
 unfold vec at e;cases h1:zoi lk ρ (zjw la x) os with
 |none=>grind
 |some q=>
  obtain⟨o1,ds⟩:=q;rw[h1]at e;simp only at e;obtain⟨N1,f1,S1,_⟩:=zcp I F h1;split at e
  ·rename_i vs ms0 ws h2 h3;cases h4:(ju o1 la.boxes&&zdL okm ms0) with
   |false=>grind
   |true=>
    rw[h4]at e;cases e;rw[LzC]at h4;obtain⟨lO,lm,rO⟩:=zeX S1.inv (fun i=>(F i).mono S1.nx) h2;obtain⟨lA,rA⟩:=zeY h3;refine⟨fun t ht=>?_,fun m hm=>?_,fun k n hk=>?_,fun k st hk=>?_⟩
    ·obtain⟨st,hst⟩:=qY ht;obtain⟨i,hi⟩:=Yyf hst
     grind
    ·obtain⟨i,hi⟩:=Yyf hm;have hil:=(Lz0.1 hi).1;obtain⟨⟨p,st⟩,hp⟩:∃p,(zjv la x)[i]? = some p:=⟨_,Lz5 (by omega)⟩
     grind
    ·grind[qi]
    ·grind[Yyf]
  ·cases e
theorem zkz{st:Nat}{v w:OC}{n t:Nat}(h:mkO st v=.hol w n t):False:=by grind[zee,uq]
end
end Go.PE
end
section
namespace Go.PE
open Go Go.CE
section
variable (P:Program) (O:Orc) (tab:Nat→Bool) (Y:Inl)
noncomputable def wF(nt:Nat)(an:Nat→Option LA):Code→(Nat→Bool)→Nat→{β:Type}→(Nat→PA)→List PO→(Zg→(Nat→PA)→List PO→Option β)→Option β
 | .skip,_,_,_,ρ,os,K=>K .normal ρ os
 | .region _ ops draw,lk,_,_,ρ,os,K=>bif draw then(bif P.follows .mixedOrders&&kz P ops (yK ops.toList) then pDr P O tab Y lk nt ops (yK ops.toList) (ky P ops.toList) 0 ops.toList ρ os (fun _=>0) [] [] (fun ρ os=>K .normal ρ os) else bif P.follows .mixedOrders&&vT P ops (yK ops.toList) then zih P O lk nt ops (yK ops.toList) (uO P ops.toList) 0 ops.toList ρ os (fun _=>0) [] [] [] true (fun ρ os=>K .normal ρ os) else none) else zr8 P O tab Y lk nt ops ops.toList ρ os (fun ρ os=>K .normal ρ os)
 | .seq a b,lk,i,_,ρ,os,K=>wF nt an a lk i ρ os (ztX (fun ρ os=>wF nt an b lk (i+jV a) ρ os K) K)
 | .cond c a b,lk,i,_,ρ,os,K=>
  match pv ρ c with
  |some (.s (.one (.d v)))=>ifB v (wF nt an a lk i (refine ρ (zpb c true)) os K) (wF nt an b lk (i+jV a) (refine ρ (zpb c false)) os K)
  |_=>none
 | .block id c,lk,i,_,ρ,os,K=>wF nt an c lk i ρ os (zvA id K)
 | .loop c,lk,i,_,ρ,os,K=>
  match an i with
  |some la=>
   bif free lk la then
    match ziM lk (ztM la.frz) os with
    |none=>none
    |some os=>
    zpD lk ρ (zrk la.frz) os fun oz=>
    match vec lk (fun m=>!lk m && !listed la m) la .normal ρ oz with
    |some (os1,L0,M0,ms)=>
     wx (yC (fun L M=>wF nt an c (zc2 la oz.length) (i+1) (hFr la.data la.own (writes c) ρ oz.length L) (hOs la.data la.own la (kill ms os1) oz.length L M) (zmu (zc2 la oz.length) oz.length la)) L0 M0)
      (fun id L M=>zeF lk (pairs (zrk la.frz) os.length) (hOs la.xdata la.xown la (kill ms os1) oz.length L M) fun o3=>K (.exit id) (hFr la.xdata la.xown (writes c) ρ oz.length L) o3)
      (fun L M=>bif j6 c then zeF lk (pairs (zrk la.frz) os.length) (hOs la.rdata la.rown la (kill ms os1) oz.length L M) fun o3=>K .ret (hFr la.rdata la.rown (writes c) ρ oz.length L) o3 else none)
    |none=>none
   else none
  |none=>none
 | .exit id,_,_,_,ρ,os,K=>K (.exit id) ρ os
 | .ret,_,_,_,ρ,os,K=>K .ret ρ os
 |_,_,_,_,_,_,_=>none
end
def zbi(m:Nat)(N:Nm):Nm:=⟨N.μ,N.n,N.fz,⟨bn (Nat.add N.h.n.toNat m),N.h.t⟩⟩
theorem Ze.bump{E:En}{N:Nm}{os:List PO}(I:Ze E N os)(m:Nat):Ze E (zbi m N) os∧Nx N (zbi m N):=by have hn:(zbi m N).h.n.toNat=N.h.n.toNat+m:=zN _;have nx:Nx N (zbi m N):=⟨⟨fun _ _ h _=>h,fun _ _ _ h=>h⟩,LzB _,fun _ _=>rfl⟩;refine⟨⟨fun b y hy=>by rw[hn];have:=I.hw b y hy;omega,⟨by rw[hn];have:=I.gr.le;omega,I.gr.old⟩,fun b hb=>by rw[hn];have:=I.fzlt b hb;omega,I.fzok,I.fzex,I.len,I.own,I.inj,fun k=>(I.obj k).mono nx rfl fun hl b hb=>?_,I.lnk⟩,nx⟩;obtain⟨b',x',h1,h2,h3⟩:=y4 hl (I.obj k);rw[h1]at hb;cases hb;trivial
section
variable {P:Program} {O:Orc} {tab:Nat→Bool} {Y:Inl} {C:Nat→zb} {E:En} {nt:Nat} {an:Nat→Option LA}
theorem zi6{lk okm:Nat→Bool}{la:LA}{b:Zg}{N:Nm}{os os1:List PO}{r:Fr}{ρ:Nat→PA}{L:List DV}{M:List OC}{ms:List (Option Nat)}(I:Ze E N os)(F:∀i,RepPA N (r i) (ρ i))(e:vec lk okm la b ρ os=some (os1,L,M,ms)):
  (∃N1,Fz N N1∧Stp E lk N os [] N1 os1)∧∀m,some m∈ms→okm m=true:=by
 unfold vec at e;cases h1:zoi lk ρ (zjw la b) os with
 |none=>grind
 |some q=>
  obtain⟨o1,ds⟩:=q;rw[h1]at e;simp only at e;obtain⟨N1,f1,S1,_⟩:=zcp I F h1;split at e
  ·rename_i vs ms0 ws h2 h3;cases h4:(ju o1 la.boxes&&zdL okm ms0) with
   |false=>grind
   |true=>
    rw[h4]at e;cases e;rw[LzC]at h4
    grind[Yyf,qR]
  ·cases e
theorem zo0{lk:Nat→Bool}{n0:Nat}{la:LA}{e e1:Zg}{ρ:Nat→PA}{os:List PO}{L:List DV}{M:List OC}(h:zmu lk n0 la e ρ os=some (e1,L,M)):e=e1∧∃os1 ms,vec lk (fun m=>Nat.ble n0 m) la e ρ os=some (os1,L,M,ms):=by
 unfold zmu at h
 grind
theorem zcS(hO:uQ O C)(hY:Zp tab Y C):∀(c:Code) {β γ:Type} {Q:γ→Prop} {x:β} (lk:Nat→Bool) (i:Nat) (ρ:Nat→PA) (os:List PO) (N:Nm) (r:Fr) (K:Zg→(Nat→PA)→List PO→Option β) (kk:Nat→Zg→Fr→Za→Option γ),
  wF P O tab Y nt an c lk i ρ os K=some x→Ze E N os→(∀i,RepPA N (r i) (ρ i))→(∀j,lk j=true→j<os.length)→
  (∀e ρ' os' N' r',K e ρ' os'=some x→Ze E N' os'→(∀i,RepPA N' (r' i) (ρ' i))→Nx N N'→(∀j,lk j=true→og os' j=og os j)→(∀i,i∉writes c→r' i=r i)→Ev (fun n=>kk n e r' N'.h) Q)→
  Ev (fun n=>yM P nt (C n) n c r N.h (kk n)) Q:=by
 intro c
 induction c with
 |skip=>exact fun lk i ρ os N r K kk e I F hlk H=>H .normal ρ os N r e I F (.refl N) (fun _ _=>rfl) (fun _ _=>rfl)
 |exit id=>exact fun lk i ρ os N r K kk e I F hlk H=>H (.exit id) ρ os N r e I F (.refl N) (fun _ _=>rfl) (fun _ _=>rfl)
 |ret=>exact fun lk i ρ os N r K kk e I F hlk H=>H .ret ρ os N r e I F (.refl N) (fun _ _=>rfl) (fun _ _=>rfl)
 |region id ops draw=>
  intro β γ Q x lk i ρ os N r K kk e I F hlk H;simp only[wF]at e;cases draw with
  |true=>
   simp only[Yza]at e;cases hd:(P.follows .mixedOrders&&kz P ops (yK ops.toList)) with
   |false=>
    rw[hd]at e;simp only[Yzb]at e;cases hd2:(P.follows .mixedOrders&&vT P ops (yK ops.toList)) with
    |false=>grind
    |true=>
     rw[hd2]at e;simp only[Yza]at e;obtain⟨IB,xB⟩:=I.bump ops.toList.length;have hnB:(zbi ops.toList.length N).h.n.toNat=N.h.n.toNat+ops.toList.length:=zN _;have hno:∀j,N.h.t.get (nm N.h.n.toNat j)=none:=fun j=>by
      cases hx:N.h.t.get (nm N.h.n.toNat j) with
      |none=>rfl
      |some y=>have:=I.hw _ _ hx;grind[ye]
     have:(fun n=>yM P nt (C n) n (.region id ops true) r N.h (kk n))=fun n=>zbu P nt ops (C n) (yK ops.toList) (uO P ops.toList) N.h.n.toNat 0 ops.toList r (zbi ops.toList.length N).h 0 [(zbi ops.toList.length N).h] [] [] (fun r h=>kk n .normal r h):=by funext n;simp only[yM,Yza,Yzb,hd,hd2];rfl
     rw[this];have hS:∀(e:Nat) (A:Sn),([(zbi ops.toList.length N,os)]:List Sn)[e]? = some A→A=(zbi ops.toList.length N,os):=fun e A hA=>YzP.1 (Lz3 hA);refine zcR hO (n0:=N.h.n.toNat) (kk:=fun n r h=>kk n .normal r h) ops.toList 0 ρ os (zbi ops.toList.length N) r (fun _=>0) [] [] [] true [(zbi ops.toList.length N,os)] (fun _=>[]) [] e IB (fun s=>(F s).mono xB) hlk ⟨[],rfl,rfl⟩
      ⟨I.gr.le,by omega,fun p hp=>(by cases hp),fun j _ _=>hno j,fun j y _ hy=>?_⟩ (fun p hp=>by cases hp) rfl (fun e w hw=>by simp at hw) (fun A hA=>by grind) (fun A hA j _ _=>by rw[YzP.1 hA];exact hno j)
      ⟨_,rfl,.refl _ _,fun k b h1 h2 _=>absurd h2 (Nat.not_lt.2 h1),fun _=>.refl _ _⟩ (fun s=>⟨Yzo _,fun A hA=>by rw[hS _ _ hA];exact(F s).mono xB⟩) (fun y hy=>by cases hy) ⟨fun z hz=>(by cases hz),fun z hz=>(by cases hz),fun z hz=>(by cases hz),fun p hp=>(by cases hp)⟩ (fun n q hq=>by cases hq) fun ρ' os' N' r' h1 h2 h3 h4 h5 h6=>H .normal ρ' os' N' r' h1 h2 h3 (xB.trans h4) h5 h6
     have hy:N.h.t.get (nm N.h.n.toNat j)=some y:=hy
     grind
   |true=>
    rw[hd]at e;simp only[Yza]at e;have:(fun n=>yM P nt (C n) n (.region id ops true) r N.h (kk n))=fun n=>kDr P nt ops (C n) (yK ops.toList) (ky P ops.toList) 0 ops.toList r N.h [] [] (fun r h=>kk n .normal r h):=by simp_all[yM]
    rw[this];refine zj2 hO hY (kk:=fun n r h=>kk n .normal r h) ops.toList 0 ρ os N r (fun _=>0) [] [] [] (fun _=>[]) e I F hlk rfl (fun e w hw=>by simp at hw) (fun s=>⟨LzB _,fun A hh=>?_⟩) (fun n q hq=>by cases hq) fun ρ' os' N' r' h1 h2 h3 h4 h5 h6=>H .normal ρ' os' N' r' h1 h2 h3 h4 h5 h6
    grind
  |false=>
   simp only[Yzb]at e;have:(fun n=>yM P nt (C n) n (.region id ops false) r N.h (kk n))=fun n=>ziB P nt ops (C n) ops.toList r N.h (fun r h=>kk n .normal r h):=by rfl
   rw[this];exact zfg hO hY ops.toList ρ os N r e I F hlk fun ρ' os' N' r' h1 h2 h3 h4 h5 h6=>H .normal ρ' os' N' r' h1 h2 h3 h4 h5 h6
 |seq a b iha ihb=>
  intro β γ Q x lk i ρ os N r K kk e I F hlk H;simp only[wF]at e;have:(fun n=>yM P nt (C n) n (.seq a b) r N.h (kk n))=fun n=>yM P nt (C n) n a r N.h (zo5 (fun r h=>yM P nt (C n) n b r h (kk n)) (kk n)):=by rfl
  rw[this];refine iha lk i ρ os N r _ (fun n=>zo5 (fun r h=>yM P nt (C n) n b r h (kk n)) (kk n)) e I F hlk fun ex ρ1 os1 N1 r1 h1 h2 h3 h4 h5 h6=>?_;have hag:∀r2:Fr,(∀i,i∉writes b→r2 i=r1 i)→∀i,i∉writes (.seq a b)→r2 i=r i:=fun r2 hr i hi=>by simp_all[writes]
  cases ex with
  |normal=>
   refine ihb lk (i+jV a) ρ1 os1 N1 r1 K kk h1 h2 h3 (fun j hj=>?_) fun e2 ρ2 os2 N2 r2 k1 k2 k3 k4 k5 k6=>H e2 ρ2 os2 N2 r2 k1 k2 k3 (h4.trans k4) (fun j hj=>(k5 j hj).trans (h5 j hj)) (hag r2 k6);have:=h4.le;rw[h2.len,I.len]at this
   grind
  |exit id=>exact H (.exit id) ρ1 os1 N1 r1 h1 h2 h3 h4 h5 (hag r1 (fun _ _=>rfl))
  |ret=>exact H .ret ρ1 os1 N1 r1 h1 h2 h3 h4 h5 (hag r1 (fun _ _=>rfl))
 |cond c a b iha ihb=>
  intro β γ Q x lk i ρ os N r K kk e I F hlk H;simp only[wF]at e;split at e
  ·rename_i v hv;obtain⟨q,rfl,e⟩:=zem e;obtain⟨w,k1,k2⟩:=xP F hv;have hw:=zW k2 (c:=.bool q) rfl;subst hw;have hco:coK r c=some (zo (.s (.one (.bool q)))):=by grind[z7]
   have F':∀i,RepPA N (r i) (refine ρ (zpb c q) i):=by
    cases c with
    |tmp t=>exact zaa F (Option.some.inj k1)
    |_=>exact F
   have run:∀n,yM P nt (C n) n (.cond c a b) r N.h (kk n)=bif q then yM P nt (C n) n a r N.h (kk n) else yM P nt (C n) n b r N.h (kk n):=fun n=>by simp only[yM,hco];rfl
   cases q with
   |true=>simp only[run,Yza];exact iha lk i _ os N r K kk e I F' hlk fun e2 ρ2 os2 N2 r2 k1 k2 k3 k4 k5 k6=>H e2 ρ2 os2 N2 r2 k1 k2 k3 k4 k5 (fun i hi=>k6 i (fun h=>hi (by simp[writes,h])))
   |false=>simp only[run,Yzb];exact ihb lk _ _ os N r K kk e I F' hlk fun e2 ρ2 os2 N2 r2 k1 k2 k3 k4 k5 k6=>H e2 ρ2 os2 N2 r2 k1 k2 k3 k4 k5 (fun i hi=>k6 i (fun h=>hi (by simp[writes,h])))
  ·cases e
 |block id c ih=>
  intro β γ Q x lk i ρ os N r K kk e I F hlk H;simp only[wF]at e;have:(fun n=>yM P nt (C n) n (.block id c) r N.h (kk n))=fun n=>yM P nt (C n) n c r N.h (zsf id (kk n)):=by rfl
  rw[this];refine ih lk i ρ os N r _ (fun n=>zsf id (kk n)) e I F hlk fun ex ρ1 os1 N1 r1 h1 h2 h3 h4 h5 h6=>?_;cases ex with
  |normal=>exact H .normal ρ1 os1 N1 r1 h1 h2 h3 h4 h5 h6
  |exit id'=>
   simp only[zvA]at h1;simp only[zsf];cases hq:Nat.beq id' id with
   |true=>rw[hq]at h1;exact H .normal ρ1 os1 N1 r1 h1 h2 h3 h4 h5 h6
   |false=>rw[hq]at h1;exact H (.exit id') ρ1 os1 N1 r1 h1 h2 h3 h4 h5 h6
  |ret=>exact H .ret ρ1 os1 N1 r1 h1 h2 h3 h4 h5 h6
 |loop c ih=>
  intro β γ Q x lk i ρ os N r K kk e I F hlk H;simp only[wF]at e;cases ha:an i with
  |none=>grind
  |some la=>
   rw[ha]at e;simp only at e;cases hfr:free lk la with
   |false=>grind
   |true=>
    rw[hfr]at e;simp only[Yza]at e;have core:∀(K:Zg→(Nat→PA)→List PO→Option β) (os:List PO) (N:Nm),Ze E N os→(∀i,RepPA N (r i) (ρ i))→(∀j,lk j=true→j<os.length)→
      (match vec lk (fun m => !lk m && !listed la m) la .normal ρ os with
       |some (os1,L0,M0,ms)=>
        wx (yC (fun L M=>wF P O tab Y nt an c (zc2 la os.length) (i+1) (hFr la.data la.own (writes c) ρ os.length L) (hOs la.data la.own la (kill ms os1) os.length L M) (zmu (zc2 la os.length) os.length la)) L0 M0)
         (fun id L M=>K (.exit id) (hFr la.xdata la.xown (writes c) ρ os.length L) (hOs la.xdata la.xown la (kill ms os1) os.length L M))
         (fun L M=>bif j6 c then K .ret (hFr la.rdata la.rown (writes c) ρ os.length L) (hOs la.rdata la.rown la (kill ms os1) os.length L M) else none)
       |none=>none)=some x→
      (∀e ρ' os' N' r',K e ρ' os'=some x→Ze E N' os'→(∀i,RepPA N' (r' i) (ρ' i))→Nx N N'→(∀j,lk j=true→og os' j=og os j)→(∀i,i∉writes (.loop c)→r' i=r i)→Ev (fun n=>kk n e r' N'.h) Q)→
      Ev (fun n=>yM P nt (C n) n (.loop c) r N.h (kk n)) Q:=by
     clear e hlk F I H N os K;intro K os N I F hlk e H;cases hv:vec lk (fun m=>!lk m && !listed la m) la .normal ρ os with
     |none=>grind
     |some q=>
      obtain⟨os1,L0,M0,ms⟩:=q;rw[hv]at e;simp only at e;obtain⟨⟨N1,f1,S1⟩,hms⟩:=zi6 I F hv;have hl1:os1.length=os.length:=by rw[←S1.inv.len,f1.n,I.len]
      have hBl:(kill ms os1).length=os.length:=by rw[zc8,hl1]
      generalize hB:kill ms os1=B at e hBl;rw[←hBl]at e;have hRep:∀k,∃(N':Nm),N'.n=B.length∧RepO N' k (og B k):=fun k=>by
       refine⟨N1,by rw[f1.n,I.len,hBl],?_⟩;rw[←hB];rcases wK ms os1 k with⟨_,h2⟩|⟨_,h2⟩
       ·rw[h2];trivial
       ·rw[h2];exact S1.inv.obj k
      obtain⟨kT,kM,kB,kA⟩:=zi7 I F hv;have hkeep:∀k,(∀st v,og os1 k≠mkO st v)→og B k=og os1 k:=fun k hne=>by rw[←hB];rcases wK ms os1 k with⟨h1,_⟩|⟨_,h2⟩<;>grind
      have hT:∀t,t∈zc1 la.own→∃m,og B t=.lnk m:=fun t ht=>by
       obtain⟨m,hm⟩:=kT t ht
       grind[zft]
      have hL:∀t m,og B t=.lnk m→∃k v n,k<B.length∧listed la k=false∧og B k=.hol v n t:=fun t m ht=>by
       have ht1:og os1 t=.lnk m:=by rw[←hB]at ht;rcases wK ms os1 t with⟨_,h2⟩|⟨_,h2⟩<;>grind
       obtain⟨k,v,n,hk⟩:=S1.inv.lnk t m ht1;refine⟨k,v,n,by rw[hBl,←hl1];exact vi (by grind),?_,(hkeep k fun st w h=>zkz (h.symm.trans hk)).trans hk⟩
       grind[listed,Lz1,zkz]
      have hBk:∀k,og B k=.dead∨og B k=og os1 k:=fun k=>by rw[←hB];rcases wK ms os1 k with⟨_,h2⟩|⟨_,h2⟩<;>grind
      obtain⟨N2,e2h,i2,F2,nx2⟩:=zlu (W:=writes c) I F hv (I.len.trans hBl.symm) (.refl N) F (fun _ _=>rfl)
       (fun k hk hul=>(hBk k).imp id fun h=>⟨h,hRep k⟩) hT hL
       (fun m hm hmB => by
        have hm':=hms m hm;rw[LzC,Yzt,Yzt]at hm';refine⟨?_,hm'.2⟩;rw[←hB];rcases wK ms os1 m with⟨_,h2⟩|⟨h1,_⟩
        ·rw[h2];exact fun h=>h
        ·trivial)
      simp only[zjw,zjv]at i2 F2;have hlp:∃ex Lx Mx n,ex≠.normal∧xy (fun L M=>wF P O tab Y nt an c (zc2 la B.length) (i+1) (hFr la.data la.own (writes c) ρ B.length L) (hOs la.data la.own la B B.length L M) (zmu (zc2 la B.length) B.length la)) n L0 M0=some (ex,Lx,Mx)∧
        K ex (hFr (zjw la ex) (zjv la ex) (writes c) ρ B.length Lx) (hOs (zjw la ex) (zjv la ex) la B B.length Lx Mx)=some x:=by
       cases hp:yC (fun L M=>wF P O tab Y nt an c (zc2 la B.length) (i+1) (hFr la.data la.own (writes c) ρ B.length L) (hOs la.data la.own la B B.length L M) (zmu (zc2 la B.length) B.length la)) L0 M0 with
       |none=>rw[hp]at e;cases e
       |some q=>
        obtain⟨ex,Lx,Mx⟩:=q;rw[hp]at e;obtain⟨n,hn⟩:=jM.1 hp;cases ex with
        |normal=>cases e
        |exit id=>exact⟨.exit id,Lx,Mx,n,by simp,hn,e⟩
        |ret=>
         simp only[wx]at e;cases hR:j6 c with
         |false=>grind
         |true=>rw[hR]at e;exact⟨.ret,Lx,Mx,n,by simp,hn,e⟩
      obtain⟨ex,Lx,Mx,n,hne,hpl,hK⟩:=hlp;have run:(fun n=>yM P nt (C n) n (.loop c) r N.h (kk n))=fun n=>bindX (qK ((fun n ys h=>yM P nt (C n) n c (ziv (writes c) 0 r ys) h (fun e s h=>some (e,(writes c).map s,h))) n) n ((writes c).map r) N.h)
        (fun id ys h=>kk n (.exit id) (ziv (writes c) 0 r ys) h) (fun ys h=>kk n .ret (ziv (writes c) 0 r ys) h):=by
       rfl
      rw[run];refine Ev.bindX ((Ev.loop (Q:=fun p=>p.1=ex∧∃N' r',p.2.1=(writes c).map r'∧(∀i,i∉writes c→r' i=r i)∧N'.h=p.2.2∧Ze E N' (hOs (zjw la ex) (zjv la ex) la B B.length Lx Mx)∧(∀i,RepPA N' (r' i) (hFr (zjw la ex) (zjv la ex) (writes c) ρ B.length Lx i))∧Nx N N')
       (fun k ys h => ∃ L M N' r', xy (fun L M => wF P O tab Y nt an c (zc2 la B.length) (i + 1) (hFr la.data la.own (writes c) ρ B.length L) (hOs la.data la.own la B B.length L M) (zmu (zc2 la B.length) B.length la)) k L M = some (ex, Lx, Mx) ∧
        ys=(writes c).map r'∧(∀i,i∉writes c→r' i=r i)∧N'.h=h∧Ze E N' (hOs la.data la.own la B B.length L M)∧(∀i,RepPA N' (r' i) (hFr la.data la.own (writes c) ρ B.length L i))∧Nx N N')
       ?_ n _ _ ⟨L0,M0,N2,r,hpl,rfl,fun _ _=>rfl,e2h,i2,F2,nx2⟩).mono ?_)
      ·rintro k ys h ⟨L,M,N',r',h1,rfl,h3,rfl,h5,h6,h7⟩
       cases k with
       |zero=>cases h1
       |succ k=>
        have hstep:∃e1 L1 M1,wF P O tab Y nt an c (zc2 la B.length) (i+1) (hFr la.data la.own (writes c) ρ B.length L) (hOs la.data la.own la B B.length L M) (zmu (zc2 la B.length) B.length la)=some (e1,L1,M1)∧
          ((e1=.normal∧xy (fun L M=>wF P O tab Y nt an c (zc2 la B.length) (i+1) (hFr la.data la.own (writes c) ρ B.length L) (hOs la.data la.own la B B.length L M) (zmu (zc2 la B.length) B.length la)) k L1 M1=some (ex,Lx,Mx))∨(e1≠.normal∧e1=ex∧L1=Lx∧M1=Mx)):=by
         simp only[xy]at h1
         grind
        obtain⟨e1,L1,M1,hb,hor⟩:=hstep;have hmix:ziv (writes c) 0 r ((writes c).map r')=r':=zaJ h3;simp only[hmix];refine ih (zc2 la B.length) (i+1) _ _ N' r' _ (fun n e s h=>some (e,(writes c).map s,h)) hb h5 h6 (fun j hj=>Lz9 (zpU hj).1 (zqN rfl)) fun e3 ρ3 os3 N3 r3 k1 k2 k3 k4 k5 k6=>?_;obtain⟨rfl,os1',ms',hv'⟩:=zo0 k1;obtain⟨⟨N1',f1',S1'⟩,hms'⟩:=zi6 k2 k3 hv';have hag:∀i,i∉writes c→r3 i=r i:=fun i hi=>(k6 i hi).trans (h3 i hi);obtain⟨N4,g1,g2,g3,g4⟩:=zlu (W:=writes c) k2 k3 hv' (I.len.trans hBl.symm) (h7.trans k4) F hag
         (fun k hk hul => by
          have hlkk:zc2 la B.length k=true:=by grind[zc2,Yze]
          refine .inr ⟨?_,hRep k⟩;rw[S1'.lock k hlkk,k5 k hlkk,uv hk hul]) hT hL
         (fun m hm hmB => by have:=Lz4 (hms' m hm);omega)
        refine Ev.some ?_;rcases hor with⟨rfl,hrest⟩|⟨hn1,rfl,rfl,rfl⟩
        ·exact⟨k,Yyg k,L1,M1,N4,r3,hrest,rfl,hag,g1,g2,g3,g4⟩
        ·grind
      ·rintro⟨e4,ys,h4⟩ ⟨hex,N',r',hys,hag,hh,i4,F4,nx4⟩
       simp only at hex hys hh;subst hex hys hh;have hmix:ziv (writes c) 0 r ((writes c).map r')=r':=zaJ hag;have hfin:=H e4 _ _ N' r' hK i4 F4 nx4 (fun j hj=>by
        have hj1:=hlk j hj;have hul:listed la j=false:=by
         unfold free at hfr;rw[LzC,LzC,YzF,YzF,YzF]at hfr
         grind[listed,Lz1]
        rw[uv (by omega) hul,←hB];rcases wK ms os1 j with⟨h1,_⟩|⟨_,h2⟩
        ·grind
        ·rw[h2];exact S1.lock j hj) hag
       grind
    cases hfa:ziM lk (ztM la.frz) os with
    |none=>grind
    |some os0=>
     rw[hfa]at e;obtain⟨Nz,fz0,Sz⟩:=zhf I hfa;have hl0:∀j,lk j=true→j<os0.length:=fun j hj=>by
      have:=Sz.inv.len;rw[fz0.n,I.len]at this
      grind
     obtain⟨oz,No,e,Vo⟩:=zgM Sz.inv (fun i=>(F i).mono Sz.nx) hl0 e;rw[←fz0.h,←Vo.h];refine core (fun ex ρ' o2=>zeF lk (pairs (zrk la.frz) os0.length) o2 fun o3=>K ex ρ' o3) oz No Vo.inv (fun i=>((F i).mono Sz.nx).mono Vo.nx) (fun j hj=>Lz9 (hl0 j hj) Vo.le) e fun e ρ' os' N' r' a1 a2 a3 a4 a5 a6=>?_;obtain⟨o3,N3,b1,V3⟩:=zeE a2 a1;rw[←V3.h];exact H e ρ' o3 N3 r' b1 V3.inv (fun i=>(a3 i).mono V3.nx) (((Sz.nx.trans Vo.nx).trans a4).trans V3.nx) (fun j hj=>(V3.lock j hj).trans ((a5 j hj).trans ((Vo.lock j hj).trans (Sz.lock j hj)))) a6
 |_=>grind[wF]
end
end Go.PE
end
section
namespace Go.PE
open Go Go.CE
def paOf:DA→PA
 | .s (.one d)=>.s (.one (.d d))
 | .s (.agg l)=>.s (.agg (l.map .d))
 | .tup l=>.tup l
def zhr(args:List DA):Nat→PA:=fun i=>match args[i]? with|some a=>paOf a|none=>.bad
section
variable (P:Program)
def zia(lk:Nat→Bool)(ρ:Nat→PA)(os:List PO):ResultVar→Option (List PO×DS)
 | .tmp i=>match ρ i with | .s v=>frV lk os v|_=>none
 | .cell i t=>
  match xi P t,ρ i with
  |some n,.s (.one (.ptr k off))=>
   match og os k with
   | .box cs=>
    match n with
    |none=>match cs[off]? with|some c=>frV lk os (.one c)|none=>none
    |some n=>bif Nat.ble (off+n) cs.length then frV lk os (.agg ((cs.drop off).take n)) else none
   |_=>none
  |_,_=>none
def uc(lk:Nat→Bool)(ρ:Nat→PA):List PO→List ResultVar→Option (List DS×List PO)
 |os,[]=>some ([],os)
 |os,x::l=>
  match zia P lk ρ os x with
  |some (os',d)=>match uc lk ρ os' l with|some (ds,os'')=>some (d::ds,os'')|none=>none
  |none=>none
def zrp:List DS→DA
 | [d]=>.s d
 |l=>.tup l
def zqV(rs:List ResultVar):Zg→(Nat→PA)→List PO→Option DA
 | .exit _,_,_=>none
 | .normal,ρ,os=>match uc P (fun _=>false) ρ os rs with|some (l,_)=>some (zrp l)|none=>none
 | .ret,ρ,os=>match uc P (fun _=>false) ρ os rs with|some (l,_)=>some (zrp l)|none=>none
def zr3(lk:Nat→Bool)(ρ:Nat→PA)(os:List PO):List ResultVar→Option (PA×List PO)
 | [.tmp i]=>match ρ i with | .s v=>some (.s v,os)|_=>none
 | [.cell i t]=>
  match xi P t,ρ i with
  |some n,.s (.one (.ptr k off))=>
   match og os k with
   | .box cs=>
    match n with
    |none=>match cs[off]? with|some c=>some (.s (.one c),os)|none=>none
    |some n=>bif Nat.ble (off+n) cs.length then some (.s (.agg ((cs.drop off).take n)),os) else none
   |_=>none
  |_,_=>none
 |rs=>match uc P lk ρ os rs with|some (l,os')=>some (.tup l,os')|none=>none
def kY(az:List PA):Nat→PA:=fun i=>match az[i]? with|some a=>a|none=>.bad
structure Red where
 r:Nat→List PA→Option (Bool×Nat×List PA)
 s:Nat→Option Srt
def zus:Red:=⟨fun _ _=>none,zur⟩
def zvE:DV→Option Int
 | .int .i64 n=>some n
 |_=>none
def zsD:List DV→Option (List Int)
 | []=>some []
 |d::l=>match zvE d,zsD l with|some n,some ns=>some (n::ns)|_,_=>none
def zjE(st:Nat):List (List DV)→Option (List (List Int))
 | []=>some []
 |x::l=>match zsD x,zjE st l with|some r,some rs=>bif Nat.beq r.length st&&inZ r then some (r::rs) else none|_,_=>none
def enZ(r:List Int):List DV:=r.map (DV.int .i64)
def zvv(st:Nat):OC→Option OC
 |none=>some none
 |some xs=>match zjE st xs with|some l=>bif Nat.ble (l.length+1) 4611686018427387904 then some (some ((zbq l).map enZ)) else none|none=>none
def zrl(l:List Nat):PC→Bool
 | .d (.fn f' [])=>l.any (Nat.beq f')
 |_=>false
def ztZ{β:Type}(t:Srt)(lk:Nat→Bool)(az:List PA)(os:List PO)(K:PA→List PO→Option β):Option β:=
 match az with
 | [.s (.one (.d .nils)),.s (.one c)]=>bif zrl t.f c then K (.tup []) os else none
 | [.s (.one (.own k)),.s (.one c)]=>
  bif zrl t.f c && !lk k then
   match og os k with
   | .arr st v=>bif Nat.beq st t.st then za (zvv st v) fun v'=>K (.tup []) (oset (.arr st v') os k) else none
   |_=>none
  else none
 |_=>none
noncomputable def zu5(O:Orc)(tab:Nat→Bool)(Y:Inl)(an:Nat→List PA→Nat→Nat→Option LA)(R:Red)(g:Nat)(lk:Nat→Bool)(az:List PA)(os:List PO){β:Type}(K:PA→List PO→Option β):Option β:=
 match az with
 | .s (.one (.own j))::rest=>
  match og os j with
  | .arr st v=>
   bif lk j then none else
   match frA (fun i=>lk i||Nat.beq i j) os rest with
   |some (os1,ds)=>
    match R.s g with
    |some _=>none
    |none=>
    match P.funcs[g]? with
    |some fn=>
     match fn.body with
     |some c=>
      bif (zdx P fn.results.toList).isNone||fn.name == "runtime.NumGoroutine" then none else bif Nat.ble az.length fn.ntmps then
       wF P O tab Y fn.ntmps (an (zl9+g) az 1) c (fun _=>false) 0 (kY (pc (.own 0)::ds.map paOf)) [.arr st v] (fun ex ρ os2=>
        match zqV P fn.results.toList ex ρ os2 with
        |some d=>K (paOf d) (oset .dead os1 j)
        |none=>none)
      else none
     |none=>none
    |none=>none
   |none=>none
  |_=>none
 |_=>none
noncomputable def inl(O:Orc)(tab:Nat→Bool)(an:Nat→List PA→Nat→Nat→Option LA)(R:Red):Nat→Inl
 |0=>fun _ _ _ _ _ _=>none
 |k+1=>fun g lk az os β K=>
  bif Nat.ble zl9 g then zu5 P O tab (inl O tab an R k) an R (Nat.sub g zl9) lk az os K else
  match R.s g with
  |some t=>ztZ t lk az os K
  |none=>
  match R.r g az with
  |some (b,g',as')=>bif b then inl O tab an R k g' lk as' os β (fun _ os'=>K (.tup []) os') else none
  |none=>
  match P.funcs[g]? with
  |some fn=>
   match fn.body with
   |some c=>
    bif (zdx P fn.results.toList).isNone||fn.name == "runtime.NumGoroutine" then none else bif Nat.ble az.length fn.ntmps then
     wF P O tab (inl O tab an R k) fn.ntmps (an g az os.length) c lk 0 (kY az) os (fun ex ρ os'=>
      match ex with
      | .exit _=>none
      |_=>match zr3 P lk ρ os' fn.results.toList with|some (a,os'')=>K a os''|none=>none)
    else none
   |none=>none
  |none=>none
noncomputable def zrg(O:Orc)(tab:Nat→Bool)(Y:Inl)(an:Nat→Option LA)(g:Nat)(args:List DA):Option DA:=
 match P.funcs[g]? with
 |some fn=>
  match fn.body with
  |some c=>bif (zdx P fn.results.toList).isNone||fn.name == "runtime.NumGoroutine" then none else bif Nat.ble args.length fn.ntmps then wF P O tab Y fn.ntmps an c (fun _=>false) 0 (zhr args) [] (zqV P fn.results.toList) else none
  |none=>none
 |none=>none
end
section
variable {P:Program} {E:En}
theorem RepPA.paOf{N:Nm}{v:Zb}{d:DA}(H:RepA N.fz N.h v d):RepPA N v (PE.paOf d):=by
 cases d with
 |s d=>
  obtain⟨w,rfl,hw⟩:=H.inv;cases d with
  |one d=>
   cases w with
   |one c=>trivial
   |agg l=>trivial
  |agg ds=>
   cases w with
   |one c=>trivial
   |agg l=>exact RepPA.of (v:=.agg l) (p:=.agg _) (RepPL.ofD hw)
 |tup l=>
  cases v with
  |s v=>trivial
  |tup vs=>exact H
theorem RepAL.get{fz:BN→Prop}{h:Za}:∀{vs:List Zb} {ds:List DA},RepAL fz h vs ds→vs.length=ds.length∧∀(i:Nat) (v:Zb) (d:DA),vs[i]? = some v→ds[i]? = some d→RepA fz h v d
 | [],[],_=>⟨rfl,fun i v d e=>by simp at e⟩
 |v::vs,d::ds,H=>by
  obtain⟨a,b⟩:=RepAL.get H.2;refine⟨by simp[a],fun i v' d' hv hd=>?_⟩;cases i with
  |zero=>simp only[Yzf,Option.some.injEq]at hv hd;subst hv;subst hd;exact H.1
  |succ i=>exact b i v' d' (by simpa using hv) (by simpa using hd)
 | [],_::_,H=>H.elim
 |_::_,[],H=>H.elim
theorem zb3(args:List Zb)(i:Nat):xe (xz .z .nil args) i=(args[i]?).getD zO:=by
 have h:=kX args 0 .nil i;have hn:(Tr.nil:Tr Zb).get (bn i)=none:=by simp
 rw[Yzc (by omega),hn,Nat.sub_zero,Option.or_none]at h;show zhP (bn i) (xz .z .nil args)=_;unfold zhP;rw[show (xz .z .nil args).get (bn i)=args[i]? from h]
 grind
theorem zc5:∀(l:List Zb) (n:Nat),l.length≤n→znz l n=true
 | [],_,_=>rfl
 |_::l,0,h=>by simp at h
 |_::l,n+1,h=>by show (bif Nat.beq (n+1) 0 then false else znz l n)=true;rw[zc5 l n (by grind)];rfl
theorem zpr{lk:Nat→Bool}{os os':List PO}{N:Nm}{r:Fr}{ρ:Nat→PA}{x:ResultVar}{d:DS}(I:Ze E N os)(F:∀i,RepPA N (r i) (ρ i))(e:zia P lk ρ os x=some (os',d)):
  ∃N' sv,Fz N N'∧Stp E lk N os [] N' os'∧zbr P r N.h x=some sv∧RepS N'.fz N'.h sv d:=by
 cases x with
 |tmp i=>
  simp only[zia]at e;split at e
  ·rename_i p hp;have:=F i;rw[hp]at this;obtain⟨w,hw,hv⟩:=this.inv
   grind[zes,zbr,ztx]
  ·cases e
 |cell i t=>
  simp only[zia]at e;split at e
  ·rename_i n k off hn hp;have:=F i;rw[hp]at this;obtain⟨w,hw,hk,b,hb,rfl⟩:=zT this;split at e
   ·rename_i cs ho;obtain⟨b',vs,h1,h2,h3,h4⟩:=vV I ho;rw[hb]at h1;cases h1;have hl:=h4.len;have run:zbr P r N.h (.cell i t)=vL n off (some (.cells vs 0)):=by
     grind[zbr,zty]
    cases n with
    |none=>
     simp only at e;cases hc:cs[off]? with
     |none=>grind
     |some c=>
      rw[hc]at e;have hi:=(Lz0.1 hc).1;obtain⟨v,hv⟩:∃v,vs[off]? = some v:=⟨_,Lz5 (by omega)⟩;obtain⟨N',f,S,R⟩:=zes (v:=.one v) (p:=.one c) I (h4.get hv hc) e
      grind[vL,y9]
    |some n=>
     simp only at e;cases hle:Nat.ble (off+n) cs.length with
     |false=>grind
     |true=>
      rw[hle]at e;have hle:=Lz4 hle;obtain⟨N',f,S,R⟩:=zes (v:=.agg ((vs.drop off).take n)) (p:=.agg ((cs.drop off).take n)) I ((h4.drop off).take n) e
      grind[vL,za6]
   ·cases e
  ·cases e
theorem ud{lk:Nat→Bool}{r:Fr}{ρ:Nat→PA}:∀{l:List ResultVar} {os os':List PO} {N:Nm} {ds:List DS},Ze E N os→(∀i,RepPA N (r i) (ρ i))→uc P lk ρ os l=some (ds,os')→
  ∃N' svs,Fz N N'∧Ze E N' os'∧Nx N N'∧(∀j,lk j=true→og os' j=og os j)∧u4 P r N.h l=some svs∧RepSL N'.fz N'.h svs ds
 | [],os,os',N,ds,I,F,e=>by cases e;exact⟨N,[],.refl N,I,.refl N,fun _ _=>rfl,rfl,trivial⟩
 |x::l,os,os',N,ds,I,F,e=>by
  simp only[uc]at e;cases h1:zia P lk ρ os x with
  |none=>grind
  |some q=>
   obtain⟨os1,d⟩:=q;rw[h1]at e;simp only at e;cases h2:uc P lk ρ os1 l with
   |none=>grind
   |some q2=>
    obtain⟨ds2,os2⟩:=q2;rw[h2]at e;cases e;obtain⟨N1,sv,f1,S1,k1,R1⟩:=zpr I F h1;obtain⟨N2,svs,f2,i2,x2,l2,k2,R2⟩:=ud S1.inv (fun i=>(F i).mono S1.nx) h2;refine⟨N2,sv::svs,f1.trans f2,i2,S1.nx.trans x2,fun j hj=>(l2 j hj).trans (S1.lock j hj),?_,R1.mono x2.fg,R2⟩;rw[f1.h]at k2
    grind[u4,zlU,xu]
theorem zhm{h:Za}{fz:BN→Prop}{h':Za}{svs:List SVal}{ds:List DS}(H:RepSL fz h' svs ds):∃v,za0 h (some svs)=some (v,h)∧RepA fz h' v (zrp ds):=by
 match svs,ds,H with
 | [],[],_=>exact⟨.tup [],rfl,trivial⟩
 | [v],[d],H=>exact⟨.s v,rfl,H.1⟩
 |v::w::vs,d::e::ds,H=>exact⟨.tup (v::w::vs),rfl,H⟩
theorem zlE{h:Za}{fz:BN→Prop}{h':Za}{svs:List SVal}{ds:List DS}(H:RepSL fz h' svs ds)(hl:ds.length≠1):za0 h (some svs)=some (.tup svs,h):=by
 match svs,ds,H with
 | [],[],_=>rfl
 | [v],[d],_=>trivial
 |v::w::vs,d::e::ds,H=>rfl
theorem zdX{lk:Nat→Bool}{ρ:Nat→PA}:∀{l:List ResultVar} {os os':List PO} {ds:List DS},uc P lk ρ os l=some (ds,os')→ds.length=l.length
 | [],_,_,_,e=>by cases e;rfl
 |x::l,os,os',ds,e=>by
  simp only[uc]at e;cases h1:zia P lk ρ os x with
  |none=>grind
  |some q=>
   obtain⟨os1,d⟩:=q;rw[h1]at e;simp only at e;cases h2:uc P lk ρ os1 l with
   |none=>grind
   |some q2=>obtain⟨ds2,os2⟩:=q2;rw[h2]at e;cases e;simp[zdX h2]
theorem zjG{lk:Nat→Bool}{os os':List PO}{N:Nm}{r:Fr}{ρ:Nat→PA}{l:List ResultVar}{a:PA}(I:Ze E N os)(F:∀i,RepPA N (r i) (ρ i))(e:zr3 P lk ρ os l=some (a,os')):
  ∃N' svs v,N'.h=N.h∧Ze E N' os'∧Nx N N'∧(∀j,lk j=true→og os' j=og os j)∧u4 P r N.h l=some svs∧za0 N.h (some svs)=some (v,N.h)∧RepPA N' v a:=by
 unfold zr3 at e;split at e
 ·rename_i i;split at e
  ·rename_i v hp;cases e;have:=F i;rw[hp]at this;obtain⟨w,hw,hv⟩:=this.inv;exact⟨N,[w],.s w,rfl,I,.refl N,fun _ _=>rfl,by grind[u4,zbr,ztx,zlU,xu],rfl,RepPA.of hv⟩
  ·cases e
 ·rename_i i t;split at e
  ·rename_i n k off hn hp;have:=F i;rw[hp]at this;obtain⟨w,hw,hk,b,hb,rfl⟩:=zT this;split at e
   ·rename_i cs ho;obtain⟨b',vs,h1,h2,h3,h4⟩:=vV I ho;rw[hb]at h1;cases h1;have hl:=h4.len;have run:zbr P r N.h (.cell i t)=vL n off (some (.cells vs 0)):=by
     grind[zbr,zty]
    cases n with
    |none=>
     simp only at e;cases hc:cs[off]? with
     |none=>grind
     |some c=>
      rw[hc]at e;cases e;have hi:=(Lz0.1 hc).1;obtain⟨v,hv⟩:∃v,vs[off]? = some v:=⟨_,Lz5 (by omega)⟩;refine⟨N,[.one v],.s (.one v),rfl,I,.refl N,fun _ _=>rfl,?_,rfl,RepPA.of (v:=.one v) (p:=.one c) (h4.get hv hc)⟩
      grind[u4,vL,y9,zlU,xu]
    |some n=>
     simp only at e;cases hle:Nat.ble (off+n) cs.length with
     |false=>grind
     |true=>
      rw[hle]at e;cases e;have hle:=Lz4 hle;refine⟨N,[.agg ((vs.drop off).take n)],.s (.agg ((vs.drop off).take n)),rfl,I,.refl N,fun _ _=>rfl,?_,rfl,RepPA.of (v:=.agg ((vs.drop off).take n)) (p:=.agg ((cs.drop off).take n)) ((h4.drop off).take n)⟩
      grind[u4,vL,za6,zlU,xu]
   ·cases e
  ·cases e
 ·rename_i h1 h2;cases h3:uc P lk ρ os l with
  |none=>grind
  |some q=>
   obtain⟨ds,os2⟩:=q;rw[h3]at e;cases e;obtain⟨N',svs,f,i,x,lo,k,R⟩:=ud I F h3;have hne:ds.length≠1:=by
    rw[zdX h3];intro hl
    match l,hl with
    | [.tmp i],_=>grind
    | [.cell i t],_=>grind
   exact⟨N',svs,.tup svs,f.h,i,x,lo,k,zlE R hne,R⟩
theorem zhc{_fn:Func}{vs:List Zb}{az:List PA}{N:Nm}(H:RepPAL N vs az):(∀i,RepPA N (xe (xz .z .nil vs) i) (kY az i))∧vs.length=az.length:=by
 have key:∀{vs:List Zb} {az:List PA},RepPAL N vs az→vs.length=az.length∧∀(i:Nat) (v:Zb) (d:PA),vs[i]? = some v→az[i]? = some d→RepPA N v d:=by
  intro vs
  induction vs with
  |nil=>intro az H;cases az with|nil=>simp|cons _ _=>trivial
  |cons v vs ih=>
   intro az H;cases az with
   |nil=>trivial
   |cons d ds=>
    obtain⟨a,b⟩:=ih H.2;refine⟨by simp[a],fun i v' d' hv hd=>?_⟩;cases i with
    |zero=>simp only[Yzf,Option.some.injEq]at hv hd;subst hv;subst hd;exact H.1
    |succ i=>grind
 obtain⟨hl,hg⟩:=key H;refine⟨fun i=>?_,hl⟩;rw[zb3];unfold kY;cases ha:az[i]? with
 |none=>trivial
 |some a=>grind
theorem uy{g:Nat}{vs:List Zb}{h:Za}:∀{sums:List Sum},(∀s∈sums,Nat.beq g s.g=false)→xk g vs h sums=none
 | [],_=>rfl
 |s::l,hs=>by simp only[xk];rw[hs s (Yzj ..),Bool.false_and,Yzb];exact uy fun s' h'=>hs s' (Yzi _ h')
def zq6(tab:Nat→Bool)(R:Red)(C:Nat→zb):Prop:=
 ∀{N:Nm} {g g':Nat} {az as':List PA} {vs:List Zb},R.r g az=some (true,g',as')→RepPAL N vs az→tab g'=true∧∃vs',RepPAL N vs' as'∧∀Q,Ev (fun n=>C n (.inl g') vs' N.h) Q→Ev (fun n=>C n (.inl g) vs N.h) (fun p=>p.1=.tup []∧∃v,Q (v,p.2))
theorem zoh:∀{l:List DV} {r:List Int},zsD l=some r→l=enZ r
 | [],r,e=>by cases e;rfl
 |d::l,r,e=>by
  unfold zsD at e;split at e
  ·rename_i n ns hd hl;cases e;have h1:d=.int .i64 n:=by
    unfold zvE at hd
    grind
   rw[h1,zoh hl];rfl
  ·cases e
theorem zgz{st:Nat}:∀{xs:List (List DV)} {l:List (List Int)},zjE st xs=some l→xs=l.map enZ∧∀r∈l,ztl st r
 | [],l,e=>by cases e<;>grind
 |x::xs,l,e=>by
  unfold zjE at e;split at e
  ·rename_i r rs hx hl;cases hq:(Nat.beq r.length st&&inZ r) with
   |false=>grind
   |true=>
    rw[hq,Yza]at e;cases e;rw[LzC]at hq;obtain⟨h1,h2⟩:=zgz hl;refine⟨by grind[zoh],fun y hy=>?_⟩;rcases YzL.1 hy with rfl|hy
    ·exact⟨Lz1 hq.1,hq.2⟩
    ·grind
  ·cases e
theorem zgA{fz:BN→Prop}{h:Za}:∀{cs:List Zc} {r:List Int},RepL fz h cs (enZ r)→cs=r.map (Zc.int .i64)
 | [],[],_=>rfl
 |c::cs,n::r,H=>by
  obtain⟨h1,h2⟩:=RepL.inv H;have:c=.int .i64 n:=by cases h1;rfl
  rw[this,zgA h2];rfl
 | [],_::_,H=>by have:=H.1;trivial
 |_::_,[],H=>by have:=H.1;trivial
theorem zgU(fz:BN→Prop)(h:Za):∀r:List Int,RepL fz h (r.map (Zc.int .i64)) (enZ r)
 | []=>RepL.nil _ _
 |_::r=>RepL.cons (.int _ _) (zgU fz h r)
theorem zbc(r:List Int)(l:List (List Int)):wA (r::l)=r.map (Zc.int .i64)++wA l:=by grind[wA]
theorem zhA{fz:BN→Prop}{h:Za}{st:Nat}:∀(l:List (List Int)) (vs:List Zc),vs.length=l.length*st→(∀(i:Nat) (r:List Int),l[i]? = some r→r.length=st∧RepL fz h ((vs.drop (i*st)).take st) (enZ r))→vs=wA l
 | [],vs,hl,_=>by simp at hl;trivial
 |r::l,vs,hl,H=>by
  obtain⟨h1,h2⟩:=H 0 r rfl;rw[Nat.zero_mul,List.drop_zero]at h2;have e1:=zgA h2;have e2:=zhA (fz:=fz) (h:=h) (st:=st) l (vs.drop st) (by grind[Yz9]) fun i x hx=>by
   obtain⟨q1,q2⟩:=H (i+1) x (by trivial)
   grind[YzD]
  grind[zbc,List.take_append_drop]
theorem zgR{st:Nat}:∀(l:List (List Int)),(∀r∈l,r.length=st)→(wA l).length=l.length*st∧∀(i:Nat) (r:List Int),l[i]? = some r→((wA l).drop (i*st)).take st=r.map (Zc.int .i64)
 | [],_=>⟨by simp[wA],fun i r h=>by simp at h⟩
 |x::l,H=>by have hx:=H x (Yzj ..);obtain⟨h1,h2⟩:=zgR l fun r hr=>H r (Yzi _ hr);rw[zbc];refine⟨by grind,fun i r hr=>?_⟩;cases i<;>simp_all[Yz9,List.drop_append,List.drop_eq_nil_of_le]
theorem zjo(l:List (List Int)):(zbq l).length=l.length:=(List.mergeSort_perm l _).length_eq
theorem zdN{st:Nat}{l:List (List Int)}(h:∀r∈l,r.length=st):∀r∈zbq l,r.length=st:=fun r hr=>h r ((List.mergeSort_perm l _).mem_iff.1 hr)
theorem zo9{sums:List Sum}{srt:Nat→Option Srt}{g:Nat}{t:Srt}(hT:srt g=some t){β:Type}{E:En}{lk:Nat→Bool}{N:Nm}{os:List PO}{az:List PA}{vs:List Zb}{K:PA→List PO→Option β}{x:β}(I:Ze E N os)(RR:RepPAL N vs az)(_hlk:∀j,lk j=true→j<os.length)
  (e:ztZ t lk az os K=some x):∃a os',K a os'=some x∧Ev (fun n=>zM (zH P) (cFs (yS P)) sums srt n (.inl g) vs N.h) (fun p=>∃N',N'.h=p.2∧Ze E N' os'∧Nx N N'∧(∀j,lk j=true→og os' j=og os j)∧RepPA N' p.1 a):=by
 have fnc:∀{v:Zb} {c:PC},RepPA N v (.s (.one c))→zrl t.f c=true→∃f∈t.f,v=.s (.one (.fn f [])):=fun {v c} hv hf=>by
  obtain⟨w,rfl,hw⟩:=hv.inv;unfold zrl at hf;split at hf
  ·rename_i f';rw[List.any_eq_true]at hf;obtain⟨f,hf,hq⟩:=hf;have hq:=Lz1 hq;subst hq;refine⟨_,hf,?_⟩;cases w with
   |agg l=>trivial
   |one y=>have hw:Rep N.fz N.h y (.fn f' []):=hw;cases hw<;>grind
  ·cases hf
 have two:∀{a b:PA},RepPAL N vs [a,b]→∃v w,vs=[v,w]∧RepPA N v a∧RepPA N w b:=fun {a b} H=>by
  match vs,H with
  | [v,w],H=>exact⟨v,w,rfl,H.1,H.2.1⟩
  | [],H=>trivial
  | [_],H=>exact H.2.elim
  |_::_::_::_,H=>exact H.2.2.elim
 unfold ztZ at e;split at e
 ·rename_i c;obtain⟨v,w,rfl,hv,hw⟩:=two RR;cases hf:zrl t.f c with
  |false=>grind
  |true=>
   rw[hf,Yza]at e;obtain⟨f,hff,rfl⟩:=fnc hw hf;obtain⟨y,rfl,hy⟩:=hv.inv;have:y=.one .nils:=by
    cases y with
    |agg l=>trivial
    |one y=>have hy:Rep N.fz N.h y .nils:=hy;cases hy;rfl
   subst this;refine⟨.tup [],os,e,(Ev.sort hT (zbB hff N.h)).mono ?_⟩
   rintro _ rfl
   exact⟨N,rfl,I,.refl N,fun _ _=>rfl,trivial⟩
 ·rename_i k c;obtain⟨v,w,rfl,hv,hw⟩:=two RR;cases hf:(zrl t.f c && !lk k) with
  |false=>grind
  |true=>
   rw[hf,Yza]at e;rw[LzC]at hf;obtain⟨hf,hlkk⟩:=hf;obtain⟨f,hff,rfl⟩:=fnc hw hf;obtain⟨y,rfl,hy⟩:=hv.inv;have hyk:k<N.n∧y=.one (N.μ k):=by
    cases y with
    |agg l=>trivial
    |one y=>have hy:k<N.n∧y=N.μ k:=hy;grind
   obtain⟨hk,rfl⟩:=hyk;split at e
   ·rename_i st o ho;cases hq:Nat.beq st t.st with
    |false=>grind
    |true=>
     rw[hq,Yza]at e;have hq:=Lz1 hq;subst hq;have hobj:=I.obj k;rw[ho]at hobj;have hlk':∀o' j,lk j=true→og (oset o' os k) j=og os j:=fun o' j hj=>by
      rw[zu,Yzc]
      grind
     cases o with
     |none=>
      have hobj:N.μ k=.nils:=hobj;have e:K (.tup []) (oset (.arr t.st none) os k)=some x:=e;rw[←ho,zat]at e;rw[hobj];refine⟨.tup [],os,e,(Ev.sort hT (zbB hff N.h)).mono ?_⟩
      rintro _ rfl
      exact⟨N,rfl,I,.refl N,fun _ _=>rfl,trivial⟩
     |some xs=>
      obtain⟨b,ws,ex,h1,h2,h3,h4,h5⟩:=hobj;unfold zvv at e;simp only at e;cases hr:zjE t.st xs with
      |none=>rw[hr]at e;cases e
      |some l=>
       rw[hr]at e;simp only at e;cases hb:Nat.ble (l.length+1) 4611686018427387904 with
       |false=>rw[hb]at e;cases e
       |true=>
        rw[hb,Yza]at e;have hb:=Lz4 hb;have e:K (.tup []) (oset (.arr t.st (some ((zbq l).map enZ))) os k)=some x:=e;obtain⟨rfl,hrow⟩:=zgz hr;have hcs:ws=wA l:=zhA (fz:=N.fz) (h:=N.h) (st:=t.st) l ws (by grind) fun i r hi=>by grind[enZ]
        subst hcs;have ans:=zh2 (t:=t) hff (b:=b) (cap:=bif ex then(l.map enZ).length else 0) (ex:=ex) (h:=N.h) (l:=l) (len:=(l.map enZ).length) (by rw[YzI]) hrow h3 (by grind);have hrw:∀r∈l,r.length=t.st:=fun r hr=>(hrow r hr).1;obtain⟨k1,k2⟩:=zgR (zbq l) (zdN hrw);have hlive:solid (og os k):=by rw[ho];trivial
        obtain⟨i1,i2,_⟩:=I.put hlive (b:=b) (by rw[h1];rfl) (.cells (wA (zbq l)) t.st) (.arr t.st (some ((zbq l).map enZ))) ⟨b,wA (zbq l),ex,by
         grind[zjo],h2,vM _ _ _,by grind,fun i z hz=>by
          rw[Lz6,Yz2]at hz;obtain⟨r,hr,rfl⟩:=hz;refine⟨by unfold enZ;rw[YzI];exact zdN hrw r (Lz3 hr),?_⟩
          grind[zgU]⟩
        rw[h1];refine⟨.tup [],_,e,(Ev.sort hT ans).mono ?_⟩
        rintro _ rfl
        exact⟨_,rfl,i1,i2,hlk' _,trivial⟩
   ·cases e
 ·cases e
theorem RepPAL.ofA{N:Nm}:∀{vs:List Zb} {ds:List DA},RepAL N.fz N.h vs ds→RepPAL N vs (ds.map PE.paOf)
 | [],[],_=>trivial
 |_::_,_::_,H=>⟨RepPA.paOf H.1,RepPAL.ofA H.2⟩
 | [],_::_,H=>H.elim
 |_::_,[],H=>H.elim
theorem zqE{sums:List Sum}{O:Orc}{tab:Nat→Bool}{Y:Inl}{an:Nat→List PA→Nat→Nat→Option LA}{R:Red}(hO:uQ O (fun n=>zM (zH P) (cFs (yS P)) sums R.s n))(hY:Zp tab Y (fun n=>zM (zH P) (cFs (yS P)) sums R.s n))(hs:∀g,tab g=true→∀s∈sums,Nat.beq g s.g=false)
  {β:Type} {E:En} {lk:Nat→Bool} {N:Nm} {os:List PO} {g j:Nat} {az:List PA} {vs:List Zb} {K:PA→List PO→Option β} {x:β} (ht:tab g=true) (I:Ze E N os) (RR:RepPAL N vs (pc (.own j)::az)) (e:zu5 P O tab Y an R g lk (pc (.own j)::az) os K=some x):
  ∃a os',K a os'=some x∧Ev (fun n=>zM (zH P) (cFs (yS P)) sums R.s n (.inl g) vs N.h) (fun p=>∃N',N'.h=p.2∧Sim E lk N os [j] N' os' p.1 a):=by
 unfold zu5 at e;simp only at e;cases ho:og os j with
 |arr st v=>
  rw[ho]at e;simp only at e;cases hlj:lk j with
  |true=>grind
  |false=>
   rw[hlj]at e;simp only[Yzb]at e;cases hfa:frA (fun i=>lk i||Nat.beq i j) os az with
   |none=>grind
   |some q=>
    obtain⟨os1,ds⟩:=q;rw[hfa]at e;simp only at e;cases hT:R.s g with
    |some t=>grind
    |none=>
     rw[hT]at e;simp only at e
     match vs,RR with
     | [],RR=>trivial
     |v0::vr,RR=>
     obtain⟨w0,rfl,hjn,hw0⟩:=zT RR.1;subst hw0;obtain⟨N1,f1,S1,rds⟩:=zhg (lk:=fun i=>lk i||Nat.beq i j) I RR.2 hfa;have hoj1:og os1 j=.arr st v:=(S1.lock j (by simp)).trans ho;have I1:=S1.inv;have hh:N1.h=N.h:=f1.h;have hμ:N1.μ=N.μ:=f1.μ;have hjl1:j<os1.length:=vi (by grind);have hO1:=I1.obj j;rw[hoj1]at hO1;have hnfb:∀b,blk (N.μ j)=some b→¬N1.fz b∧v≠none∧∃y,N.h.t.get b=some y:=fun b hb=>by
      cases v with
      |none=>rw[←hμ,show N1.μ j=.nils from hO1]at hb;cases hb
      |some xs=>obtain⟨b',ws,ex,h1,h2,h3,_⟩:=hO1;rw[←hμ,h1]at hb;cases hb<;>grind
     have hlive:∀b,blk (N.μ j)=some b→live (og os1 j):=fun b hb=>by
      rw[hoj1];cases v with
      |none=>grind
      |some xs=>trivial
     cases hf:P.funcs[g]? with
     |none=>grind
     |some fn=>
      rw[hf]at e;simp only at e;cases hb:fn.body with
      |none=>grind
      |some c=>
       rw[hb]at e;simp only at e;cases hc:((zdx P fn.results.toList).isNone||fn.name == "runtime.NumGoroutine") with
       |true=>grind
       |false=>
        rw[hc]at e;simp only[Yzb]at e;cases hl:Nat.ble (pc (.own j)::az).length fn.ntmps with
        |false=>grind
        |true=>
         rw[hl]at e;simp only[Yza]at e;have hll:=Lz4 hl
         let E0:En:=⟨N.h,N1.fz,fun b=>blk (N.μ j)=some b⟩
         let N0:Nm:=⟨fun _=>N.μ j,1,N1.fz,N.h⟩
         have hfzlt:∀b,N1.fz b→b.toNat<N.h.n.toNat:=fun b hb=>by rw[←hh];exact I1.fzlt b hb
         have g0:∀k,live (og [PO.arr st v] k)→k=0:=fun k hl=>by
          cases k with
          |zero=>rfl
          |succ k=>trivial
         have I0:Ze E0 N0 [.arr st v]:=⟨I.hw,.refl,hfzlt,fun b hb=>.inl hb,fun b hb=>.inl (hfzlt b hb),rfl,fun k b _ hb=>.inr hb,fun k k' b hl hl' _ _=>(g0 k hl).trans (g0 k' hl').symm,fun k=>by
          cases k with
          |zero=>exact RepO.arr_re (N1:=N1) (N2:=N0) (show N.μ j=N1.μ j by rw[hμ]) rfl hh.symm hO1
          |succ k=>exact trivial,fun t m h=>by
          cases t with
          |zero=>cases h
          |succ t=>cases h⟩
         have rds0:RepAL N0.fz N0.h vr ds:=by grind
         have RR0:RepPAL N0 (.s (.one (N.μ j))::vr) (pc (.own 0)::ds.map PE.paOf):=⟨yB (p:=.own 0) ⟨Nat.zero_lt_one,rfl⟩,RepPAL.ofA rds0⟩;obtain⟨F0,hlen⟩:=zhc (_fn:=fn) RR0;have hlen2:(Zb.s (.one (N.μ j))::vr).length≤fn.ntmps:=by
          have:=RR.2;have hla:∀{a:List Zb} {b:List PA},RepPAL N a b→a.length=b.length:=by
           intro a
           induction a with
           |nil=>intro b H;cases b with|nil=>rfl|cons _ _=>trivial
           |cons _ _ ih=>intro b H;cases b with|nil=>trivial|cons _ _=>simp[ih H.2]
          grind
         have run:(fun n=>znH P g (zM (zH P) (cFs (yS P)) sums R.s n) n (.s (.one (N.μ j))::vr) N.h)=fun n=>yM P fn.ntmps (zM (zH P) (cFs (yS P)) sums R.s n) n c (xe (xz .z .nil (.s (.one (N.μ j))::vr))) N.h (zlQ P fn.results.toList):=by
          funext n
          unfold znH;rw[hf];simp only[hb,hc,Yzb];simp_all[zc5]
         have ev:Ev (fun n=>yM P fn.ntmps (zM (zH P) (cFs (yS P)) sums R.s n) n c (xe (xz .z .nil (.s (.one (N.μ j))::vr))) N.h (zlQ P fn.results.toList))
           (fun p=>∃d fz2,K (PE.paOf d) (oset .dead os1 j)=some x∧HW p.2∧GrX E0 p.2∧(∀b,fz2 b→N1.fz b∨E0.nw b)∧RepA fz2 p.2 p.1 d):=by
          refine zcS (E:=E0) hO hY c (fun _=>false) 0 (kY (pc (.own 0)::ds.map PE.paOf)) [.arr st v] N0 _ _ (fun _=>zlQ P fn.results.toList) e I0 F0 (fun j hj=>by cases hj) fun ex ρ1 os2 N2 r1 h1 h2 h3 h4 _ _=>?_;have fin:∀l os3,uc P (fun _=>false) ρ1 os2 fn.results.toList=some (l,os3)→K (PE.paOf (zrp l)) (oset .dead os1 j)=some x→Ev (fun _=>za0 N2.h (u4 P r1 N2.h fn.results.toList)) (fun p=>∃d fz2,K (PE.paOf d) (oset .dead os1 j)=some x∧HW p.2∧GrX E0 p.2∧(∀b,fz2 b→N1.fz b∨E0.nw b)∧RepA fz2 p.2 p.1 d):=by intro l os3 hl hd;obtain⟨N3,svs,f3,i3,x3,_,k3,R3⟩:=ud (P:=P) h2 h3 hl;obtain⟨v,g1,g2⟩:=zhm (h:=N2.h) R3;rw[k3,g1];exact Ev.some ⟨zrp l,N3.fz,hd,h2.hw,h2.gr,fun b hb=>i3.fzok b hb,by rw[←f3.h];exact g2⟩
          cases ex with
          |exit id=>cases h1
          |normal=>
           simp only[zqV]at h1;cases hl:uc P (fun _=>false) ρ1 os2 fn.results.toList with
           |none=>grind
           |some q=>obtain⟨l,os3⟩:=q;rw[hl]at h1;exact fin l os3 hl h1
          |ret=>
           simp only[zqV]at h1;cases hl:uc P (fun _=>false) ρ1 os2 fn.results.toList with
           |none=>grind
           |some q=>obtain⟨l,os3⟩:=q;rw[hl]at h1;exact fin l os3 hl h1
         obtain⟨⟨v9,h9⟩,⟨d,fz2,hK,hw9,gr9,hfz2,rep9⟩,M,hM⟩:=ev;simp only at hw9 gr9 rep9;refine⟨PE.paOf d,oset .dead os1 j,hK,Ev.call hT (uy (hs g ht)) ?_⟩;rw[run];refine⟨(v9,h9),?_,M,hM⟩;have keep:∀b,b.toNat<N.h.n.toNat→blk (N.μ j)≠some b→h9.t.get b=N.h.t.get b:=fun b hb hne=>gr9.old b hb hne;have hle9:N.h.n.toNat≤h9.n.toNat:=gr9.le
         let fz9:BN→Prop:=fun b=>N1.fz b∨((N.h.n.toNat≤b.toNat∨blk (N.μ j)=some b)∧∃y,h9.t.get b=some y)
         let N':Nm:=⟨N.μ,N.n,fz9,h9⟩
         have nx1:Nx N1 N':=⟨⟨fun _ _ h _=>.inl h,fun b o hf hy=>by grind⟩,by rw[f1.n];exact LzB _,fun k _=>by rw[hμ]⟩
         have own1:∀k b,live (og os1 k)→blk (N.μ k)=some b→E.nw b:=fun k b hl hb=>I1.own k b hl (by grind);have inv':Ze E N' (oset .dead os1 j):=by
          have lv:∀k,live (og (oset .dead os1 j) k)→k≠j∧live (og os1 k):=fun k hl=>by
           by_cases hk:k=j
           ·subst hk;rw[zu,Yzd ⟨rfl,hjl1⟩]at hl;trivial
           ·simp_all[zu]
          refine⟨hw9,⟨Yzp I.gr.le hle9,fun b hb hx=>?_⟩,fun b hb=>?_,fun b hb=>?_,fun b hb=>?_,by show N.n=_;rw[zQ,←I1.len,f1.n],fun k b hl hb=>own1 k b (lv k hl).2 hb,fun k k' b hl hl' hb hb'=>I1.inj k k' b (lv k hl).2 (lv k' hl').2 (by grind) (by grind),fun k=>?_,fun t m htm=>?_⟩
          ·have hbn:=Lz9 hb I.gr.le;rw[show N'.h.t.get b=h9.t.get b from rfl,keep b hbn (fun hbj=>by
            rcases own1 j b (hlive b hbj) hbj with h|h<;>grind)]
           exact I.gr.old b hb hx
          ·rcases hb with hb|⟨_,y,hy⟩
           ·grind
           ·exact hw9 b y hy
          ·rcases hb with hb|⟨hb|hb,_⟩
           ·exact I1.fzok b hb
           ·exact .inr (.inl (Yzp I.gr.le hb))
           ·grind
          ·rcases hb with hb|⟨_,hy⟩
           ·refine (I1.fzex b hb).imp id fun⟨y,hy⟩=>⟨y,?_⟩
            grind
           ·grind
          ·by_cases hk:k=j
           ·subst hk;rw[zu,Yzd ⟨rfl,hjl1⟩];trivial
           ·rw[zu,Yzc (fun h=>hk h.1)];refine (I1.obj k).mono nx1 (by rw[hμ]) fun htd b hb=>?_;obtain⟨b1,x1,k1,k2,k3⟩:=y4 htd (I1.obj k);rw[k1]at hb;cases hb;have hblt:b.toNat<N.h.n.toNat:=by rw[hh]at k3;exact I.hw _ _ k3
            have hne:blk (N.μ j)≠some b:=fun hbj=>by
             rcases htd with hl|⟨m,hm⟩
             ·exact hk (I1.inj k j b hl (hlive b hbj) k1 (by grind))
             ·obtain⟨k',v',n',q1,q2⟩:=I1.lnk_blk hm;have:=I1.inj k' j b (by rw[q1];trivial) (hlive b hbj) (by grind) (by grind)
              grind
            grind
          ·by_cases hk:t=j
           ·subst hk;rw[zu,Yzd ⟨rfl,hjl1⟩]at htm;cases htm
           ·rw[zu,Yzc (fun h=>hk h.1)]at htm;obtain⟨k',v',n',q⟩:=I1.lnk t m htm;exact⟨k',v',n',by rw[zu,Yzc (fun h=>by grind)];exact q⟩
         refine⟨N',rfl,inv',S1.nx.trans nx1,⟨hle9,fun b hb H=>?_⟩,fun i hi=>?_,S1.ho.trans (w1:=[]) (w2:=[j]) (.oset (fun h=>h.elim) (fun _=>.inr (Yzs j)) (fun h=>h.elim)),RepPA.paOf (rep9.mono ⟨fun b o hb hy=>?_,fun _ _ _ hy=>hy⟩)⟩
         ·grind
         ·rw[zu,Yzc (fun h=>by grind)];exact S1.lock i (by simp[hi])
         ·rcases hfz2 b hb with h|h|h<;>grind
 |_=>grind
theorem zsP{sums:List Sum}{O:Orc}{tab:Nat→Bool}{an:Nat→List PA→Nat→Nat→Option LA}{R:Red}(hR:zq6 tab R (fun n=>zM (zH P) (cFs (yS P)) sums R.s n))(hO:uQ O (fun n=>zM (zH P) (cFs (yS P)) sums R.s n))(hs:∀g,tab g=true→∀s∈sums,Nat.beq g s.g=false)(hG:∀g,tab g=true→Nat.ble zl9 g=false):
  ∀k,Zp tab (inl P O tab an R k) (fun n=>zM (zH P) (cFs (yS P)) sums R.s n):=by
 intro k
 induction k with
 |zero=>
  refine⟨?_,?_⟩
  ·intro β E lk N os g az vs K x _ _ _ _ e;cases e
  ·intro β E lk N os g j az vs K x _ _ _ e;cases e
 |succ k ihk=>
  refine⟨?_,?_⟩
  rotate_left
  ·intro β E lk N os g j az vs K x ht I RR e;simp only[inl]at e;rw[Yze (Nat.le_add_right zl9 g),Yza,show Nat.sub (zl9+g) zl9=g from Nat.add_sub_cancel_left _ _]at e
   grind[zqE]
  intro β E lk N os g az vs K x ht I RR hlk e;simp only[inl]at e;rw[hG g ht,Yzb]at e;cases hT:R.s g with
  |some t=>rw[hT]at e;exact zo9 hT I RR hlk e
  |none=>
  rw[hT]at e;simp only at e;cases hr:R.r g az with
  |some q=>
   obtain⟨b,g',as'⟩:=q;rw[hr]at e;cases b with
   |false=>cases e
   |true=>
    obtain⟨ht',vs',r',h'⟩:=hR hr RR;obtain⟨a,os',q1,q2⟩:=ihk.o ht' I r' hlk e;refine⟨.tup [],os',q1,(h' _ q2).mono ?_⟩
    rintro⟨v,h1⟩ ⟨e1,w,N',e2,i2,x2,l2,_⟩
    cases e1;exact⟨N',e2,i2,x2,l2,trivial⟩
  |none=>
  rw[hr]at e;simp only at e;cases hf:P.funcs[g]? with
  |none=>grind
  |some fn=>
   rw[hf]at e;simp only at e;cases hb:fn.body with
   |none=>grind
   |some c=>
    rw[hb]at e;simp only at e;cases hc:((zdx P fn.results.toList).isNone||fn.name == "runtime.NumGoroutine") with
    |true=>grind
    |false=>
     rw[hc]at e;simp only[Yzb]at e;cases hl:Nat.ble az.length fn.ntmps with
     |false=>grind
     |true=>
      rw[hl]at e;simp only[Yza]at e;have hll:=Lz4 hl;obtain⟨F0,hlen⟩:=zhc (_fn:=fn) RR;have run:(fun n=>znH P g (zM (zH P) (cFs (yS P)) sums R.s n) n vs N.h)=fun n=>yM P fn.ntmps (zM (zH P) (cFs (yS P)) sums R.s n) n c (xe (xz .z .nil vs)) N.h (zlQ P fn.results.toList):=by
       funext n
       unfold znH;rw[hf];simp only[hb,hc,Yzb];simp_all[zc5]
      have ev:Ev (fun n=>yM P fn.ntmps (zM (zH P) (cFs (yS P)) sums R.s n) n c (xe (xz .z .nil vs)) N.h (zlQ P fn.results.toList)) (fun p=>∃a os' N',K a os'=some x∧N'.h=p.2∧Ze E N' os'∧Nx N N'∧(∀j,lk j=true→og os' j=og os j)∧RepPA N' p.1 a):=by
       refine zcS (E:=E) hO ihk c lk 0 (kY az) os N _ _ (fun _=>zlQ P fn.results.toList) e I F0 hlk fun ex ρ1 os1 N1 r1 h1 h2 h3 h4 h5 _=>?_;cases ex with
       |exit id=>cases h1
       |normal=>
        simp only at h1;cases hr:zr3 P lk ρ1 os1 fn.results.toList with
        |none=>grind
        |some q=>obtain⟨a,os2⟩:=q;rw[hr]at h1;obtain⟨N2,svs,v,g1,g2,g3,g4,g5,g6,g7⟩:=zjG (P:=P) h2 h3 hr;show Ev (fun _=>za0 N1.h (u4 P r1 N1.h fn.results.toList)) _;rw[g5,g6];exact Ev.some ⟨a,os2,N2,h1,g1,g2,h4.trans g3,fun j hj=>(g4 j hj).trans (h5 j hj),g7⟩
       |ret=>
        simp only at h1;cases hr:zr3 P lk ρ1 os1 fn.results.toList with
        |none=>grind
        |some q=>obtain⟨a,os2⟩:=q;rw[hr]at h1;obtain⟨N2,svs,v,g1,g2,g3,g4,g5,g6,g7⟩:=zjG (P:=P) h2 h3 hr;show Ev (fun _=>za0 N1.h (u4 P r1 N1.h fn.results.toList)) _;rw[g5,g6];exact Ev.some ⟨a,os2,N2,h1,g1,g2,h4.trans g3,fun j hj=>(g4 j hj).trans (h5 j hj),g7⟩
      obtain⟨p,⟨a,os',N',q1,q2,q3,q4,q5,q6⟩,M,hM⟩:=ev;refine⟨a,os',q1,Ev.call hT (uy (hs g ht)) ?_⟩;rw[run];exact⟨p,⟨N',q2,q3,q4,q5,q6⟩,M,hM⟩
theorem zpA{sums:List Sum}{R:Red}{O:Orc}{tab:Nat→Bool}{Y:Inl}{an:Nat→Option LA}{g:Nat}{args:List DA}{res:DA}(hO:uQ O (fun n=>zM (zH P) (cFs (yS P)) sums R.s n))(hY:Zp tab Y (fun n=>zM (zH P) (cFs (yS P)) sums R.s n))(hs:∀s∈sums,Nat.beq g s.g=false)(hT:R.s g=none)
  (e:zrg P O tab Y an g args=some res):zoX (fun n=>zM (zH P) (cFs (yS P)) sums R.s n) g args res:=by
 intro fz h vs hw hfz hrep;obtain⟨hlen,hget⟩:=hrep.get;have hfs:xk g vs h sums=none:=by
  clear hrep hlen hget e hO hY
  induction sums<;>simp_all[xk]
 refine Ev.call hT hfs ?_;unfold zrg at e;cases hf:P.funcs[g]? with
 |none=>grind
 |some fn=>
  rw[hf]at e;simp only at e;cases hb:fn.body with
  |none=>grind
  |some c=>
   rw[hb]at e;simp only at e;cases hc:((zdx P fn.results.toList).isNone||fn.name == "runtime.NumGoroutine") with
   |true=>grind
   |false=>
    rw[hc]at e;simp only[Yzb]at e;cases hl:Nat.ble args.length fn.ntmps with
    |false=>grind
    |true=>
     rw[hl]at e;simp only[Yza]at e;have hll:=Lz4 hl;have run:(fun n=>znH P g (zM (zH P) (cFs (yS P)) sums R.s n) n vs h)=fun n=>yM P fn.ntmps (zM (zH P) (cFs (yS P)) sums R.s n) n c (xe (xz .z .nil vs)) h (zlQ P fn.results.toList):=by
      funext n
      unfold znH;rw[hf];simp only[hb,hc,Yzb];simp_all[zc5]
     rw[run]
     let E0:En:=⟨h,fz,fun _=>False⟩
     let N0:Nm:=⟨fun _=>.nilp,0,fz,h⟩
     have I0:Ze E0 N0 []:=⟨hw,.refl,hfz,fun b hb=>.inl hb,fun b hb=>.inl (hfz b hb),rfl,fun k b hl=>hl.elim,fun k k' b hl=>hl.elim,fun k=>trivial,fun t m h=>(by cases h)⟩;have F0:∀i,RepPA N0 (xe (xz .z .nil vs) i) (zhr args i):=fun i=>by
      rw[zb3];unfold zhr;cases ha:args[i]? with
      |none=>trivial
      |some a=>grind[RepPA.paOf]
     refine zcS (E:=E0) hO hY c (fun _=>false) 0 (zhr args) [] N0 _ (zqV P fn.results.toList) (fun _=>zlQ P fn.results.toList) e I0 F0 (fun j hj=>by cases hj) fun ex ρ1 os1 N1 r1 h1 h2 h3 h4 _ _=>?_;have fin:∀l os2,uc P (fun _=>false) ρ1 os1 fn.results.toList=some (l,os2)→zrp l=res→Ev (fun _=>za0 N1.h (u4 P r1 N1.h fn.results.toList)) (fun p=>HW p.2∧Gr h p.2∧RepA (fzN fz h p.2) p.2 p.1 res):=by
      intro l os2 hl hd;obtain⟨N2,svs,f2,i2,x2,_,k2,R2⟩:=ud (P:=P) h2 h3 hl;obtain⟨v,g1,g2⟩:=zhm (h:=N1.h) R2;rw[k2,g1];refine Ev.some ⟨h2.hw,⟨h2.gr.le,fun b hb=>h2.gr.old b hb id⟩,?_⟩;rw[←hd,←f2.h];refine g2.mono ⟨fun b _ hb _=>?_,fun _ _ _ h=>h⟩;rcases i2.fzok b hb with h'|h'
      ·exact .inl h'
      ·exact .inr ⟨h'.elim id False.elim,i2.fzlt b hb⟩
     cases ex with
     |exit id=>cases h1
     |normal=>
      simp only[zqV]at h1;cases hl:uc P (fun _=>false) ρ1 os1 fn.results.toList with
      |none=>grind
      |some q=>obtain⟨l,os2⟩:=q;rw[hl]at h1;cases h1;exact fin l os2 hl rfl
     |ret=>
      simp only[zqV]at h1;cases hl:uc P (fun _=>false) ρ1 os1 fn.results.toList with
      |none=>grind
      |some q=>obtain⟨l,os2⟩:=q;rw[hl]at h1;cases h1;exact fin l os2 hl rfl
end
end Go.PE
end
section
namespace Go.PE
open Go Go.CE
end Go.PE
end
section
namespace Go.PE
open Go Go.CE
section
variable (P:Program) (sums:List CE.Sum) (B:Orc) (an:Nat→Nat→Option LA) (tab:Nat→Bool) (anI:Nat→Nat→List PA→Nat→Nat→Option LA) (R:Red) (d:Nat)
noncomputable def deep:Nat→Orc
 |0=>B
 |k+1=>fun g args=>
  match B g args with
  |some r=>some r
  |none=>bif sums.all (fun s=>!Nat.beq g s.g)&&(R.s g).isNone then zrg P (deep k) tab (inl P (deep k) tab (anI g) R d) (an g) g args else none
end
section
variable {P:Program} {B:Orc} {an:Nat→Nat→Option LA} {sums:List CE.Sum} {tab:Nat→Bool} {anI:Nat→Nat→List PA→Nat→Nat→Option LA} {R:Red} {d:Nat}
theorem zfV(hR:zq6 tab R (fun n=>zM (zH P) (cFs (yS P)) sums R.s n))(hT:∀g,tab g=true→∀s∈sums,Nat.beq g s.g=false)(hG:∀g,tab g=true→Nat.ble zl9 g=false)(hB:uQ B (fun n=>zM (zH P) (cFs (yS P)) sums R.s n)):∀k,uQ (deep P sums B an tab anI R d k) (fun n=>zM (zH P) (cFs (yS P)) sums R.s n)
 |0=>hB
 |k+1=>fun g args res e=>by
  simp only[deep]at e;split at e
  ·rename_i r hr;cases e;exact hB g args _ hr
  ·cases hs:(sums.all (fun s=>!Nat.beq g s.g)&&(R.s g).isNone) with
   |false=>grind
   |true=>rw[hs]at e;rw[LzC,YzF]at hs;exact zpA (zfV hR hT hG hB k) (zsP hR (zfV hR hT hG hB k) hT hG d) (fun s h=>by grind) (Option.isNone_iff_eq_none.1 hs.2) e
theorem zez{k g:Nat}{args:List DA}{r:DA}(h:B g args=some r):deep P sums B an tab anI R d k g args=some r:=by cases k<;>simp_all[deep]
theorem zlT{k g:Nat}{args:List DA}(h:B g args=none)(hs:sums.all (fun s=>!Nat.beq g s.g)=true)(hr:(R.s g).isNone=true:=by rfl):deep P sums B an tab anI R d (k+1) g args=zrg P (deep P sums B an tab anI R d k) tab (inl P (deep P sums B an tab anI R d k) tab (anI g) R d) (an g) g args:=by simp only[deep,h,hs,hr,Bool.and_self,Yza]
end
end Go.PE
end
section
namespace Go.PE
open Go Go.CE
abbrev I6(n:Int):DV:=.int .i64 n
theorem yU(k:IntKind):eqK k k=true:=by cases k<;>rfl
theorem wrap64{n:Int}(h1:-9223372036854775808≤n)(h2:n≤9223372036854775807):x6 .i64 n=n:=by
 cases n with
 |ofNat m=>
  show (bif Nat.ble m 9223372036854775807 then(Int.ofNat m) else IntKind.wrap .i64 (.ofNat m))=_
  grind[Yze]
 |negSucc m=>
  show (bif Nat.ble m 9223372036854775807 then(Int.negSucc m) else IntKind.wrap .i64 (.negSucc m))=_
  grind[Yze]
section
variable (k:IntKind) (a b:Int)
theorem zI:zy .lss (.int k a) (.int k b)=some (.bool (decide (a<b))):=by simp_all[zy,yU,vt,zvK,oD,jY]
theorem uT:zy .leq (.int k a) (.int k b)=some (.bool (decide (a≤b))):=by simp_all[zy,yU,vt,zvL,oD,zg4]
theorem yl:zy .gtr (.int k a) (.int k b)=some (.bool (decide (b<a))):=by simp_all[zy,yU,vt,zvM,oD,jY]
theorem jQ:zy .geq (.int k a) (.int k b)=some (.bool (decide (b≤a))):=by simp_all[zy,yU,vt,zvN,oD,zg4]
theorem xK:zy .eql (.int k a) (.int k b)=some (.bool (a==b)):=by simp_all[zy,yU,vt,zvO,oD,uC]
theorem xf:zy .neq (.int k a) (.int k b)=some (.bool (!(a==b))):=by simp_all[zy,yU,vt,zvJ,oD,uC]
theorem zgL:zy .add (.int k a) (.int k b)=some (.int k (x6 k (a+b))):=by simp_all[zy,yU,vt,zs2,oD]
theorem zm1:zy .sub (.int k a) (.int k b)=some (.int k (x6 k (a-b))):=by simp only[zy,yU,Yza,vt,zsZ,oD];rfl
theorem zm3:zy .mul (.int k a) (.int k b)=some (.int k (x6 k (a*b))):=by simp_all[zy,yU,vt,zs1,oD]
theorem zm2(h:b≠0):zy .quo (.int k a) (.int k b)=some (.int k (x6 k (a.tdiv b))):=by
 have:(b==0)=false:=by grind
 simp only[zy,yU,Yza,vt,zqR,uC,this,Yzb,oD]
theorem qV(h:b≠0):zy .rem (.int k a) (.int k b)=some (.int k (a.tmod b)):=by
 have:(b==0)=false:=by grind
 simp only[zy,yU,Yza,vt,zqQ,uC,this,Yzb,oD]
theorem zij(h1:-9223372036854775808≤a+b)(h2:a+b≤9223372036854775807):zy .add (I6 a) (I6 b)=some (I6 (a+b)):=by grind[zgL,wrap64]
theorem zii(h1:-9223372036854775808≤a-b)(h2:a-b≤9223372036854775807):zy .sub (I6 a) (I6 b)=some (I6 (a-b)):=by grind[zm1,wrap64]
theorem zpC(k':IntKind)(h1:-9223372036854775808≤a)(h2:a≤9223372036854775807):y6 .i64 (.int k' a)=some (I6 a):=by
 show some (DV.int .i64 (x6 .i64 a))=_
 grind[wrap64]
end
theorem zK{β:Type}(q:Bool)(a b:Option β):ifB (.bool q) a b=if q=true then a else b:=by cases q<;>rfl
theorem zf{α β:Type}(a:α)(k:α→Option β):za (some a) k=k a:=rfl
theorem yL{β:Type}(d:DV)(k:DV→Option β):b1 (some (.s (.one d))) k=k d:=rfl
theorem zq0{β:Type}(l:List DV)(k:List DV→Option β):bA l.length (some (.s (.agg l))) k=k l:=by show (bif Nat.beq l.length l.length then k l else none)=_;simp
end Go.PE
end
section
namespace Go.PE
open Go Go.CE
abbrev U8(n:Int):DV:=.int .u8 n
abbrev U64(n:Int):DV:=.int .u64 n
abbrev S1(d:DV):DA:=.s (.one d)
abbrev SA(l:List DV):DA:=.s (.agg l)
abbrev Bo(b:Bool):DV:=.bool b
abbrev St(s:ByteArray):DV:=.str s
attribute [simp] zI uT yl jQ xK xf zf yL zK
@[simp] theorem zrr{α β:Type}(k:α→Option β):za none k=none:=rfl
@[simp] theorem zvi{β:Type}(k:DV→Option β):b1 none k=none:=rfl
@[simp] theorem vg(q:Bool):zjZ (.bool q)=some (.bool (!q)):=rfl
@[simp] theorem zsd:jz .nils=some (I6 0):=rfl
@[simp] theorem ztD(st:Nat)(xs:List (List DV)):jz (.lst st xs)=some (I6 (xs.length:Int)):=rfl
@[simp] theorem ztC(st:Nat)(v:OC):jz (mkL st v)=some (I6 (zei v:Int)):=by cases v<;>rfl
@[simp] theorem zrf:zcO .nils=some true:=rfl
@[simp] theorem zr9(st:Nat)(xs:List (List DV)):zcO (.lst st xs)=some false:=rfl
@[simp] theorem zpB(st:Nat):jP st .nils=some []:=rfl
@[simp] theorem zri(st:Nat)(xs:List (List DV)):jP st (.lst st xs)=some xs:=by show (bif Nat.beq st st then some xs else none)=_;rw[Yya];rfl
@[simp] theorem zrh(st:Nat)(v:OC):jP st (mkL st v)=some (x4 v):=by cases v<;>simp[mkL,x4]
@[simp] theorem zas(s:ByteArray):zig (.str s)=some (I6 (s.size:Int)):=rfl
@[simp] theorem zsk(n:Nat):Int.ofNat n=(n:Int):=rfl
@[simp] theorem zkH:zei none=0:=rfl
@[simp] theorem zkG(xs:List (List DV)):zei (some xs)=xs.length:=rfl
@[simp] theorem zfR:x4 none=[]:=rfl
@[simp] theorem zfQ(xs:List (List DV)):x4 (some xs)=xs:=rfl
@[simp] theorem ztK(st:Nat):mkL st none=.nils:=rfl
@[simp] theorem ztJ(st:Nat)(xs:List (List DV)):mkL st (some xs)=.lst st xs:=rfl
@[simp] theorem ztQ(v:OC):zq2 v []=v:=rfl
@[simp] theorem zth(v:OC)(x:List DV)(l:List (List DV)):zq2 v (x::l)=some (x4 v++(x::l)):=rfl
@[simp] theorem zaW{β:Type}(k:Option β):gd true k=k:=rfl
@[simp] theorem wh{β:Type}(id:Nat)(L:List DV)(M:List OC)(kx:Nat→List DV→List OC→Option β)(kr:List DV→List OC→Option β):wx (some (.exit id,L,M)) kx kr=kx id L M:=rfl
@[simp] theorem zsF{β:Type}(L:List DV)(M:List OC)(kx:Nat→List DV→List OC→Option β)(kr:List DV→List OC→Option β):wx (some (.ret,L,M)) kx kr=kr L M:=rfl
@[simp] theorem z8(d:DV)(l:List DV):zJ (d::l) 0=d:=rfl
@[simp] theorem yO(d:DV)(l:List DV)(n:Nat):zJ (d::l) (n+1)=zJ l n:=rfl
@[simp] theorem zaE(d:OC)(l:List OC):wE (d::l) 0=d:=rfl
@[simp] theorem zvF(d:OC)(l:List OC)(n:Nat):wE (d::l) (n+1)=wE l n:=rfl
@[simp] theorem uM(d:DV)(l:List DV):atD (d::l) 0=d:=rfl
@[simp] theorem jw(d:DV)(l:List DV)(n:Nat):atD (d::l) (n+1)=atD l n:=rfl
@[simp] theorem zce(d:DS)(l:List DS):zex (d::l) 0=d:=rfl
@[simp] theorem zlR(d:DS)(l:List DS)(n:Nat):zex (d::l) (n+1)=zex l n:=rfl
@[simp] theorem k7(d:DV):dsO (.one d)=d:=rfl
@[simp] theorem zve(l:List DV):dsA (.agg l)=l:=rfl
theorem ztf{β:Type}{n:Nat}{l:List DV}(h:l.length=n)(k:List DV→Option β):bA n (some (.s (.agg l))) k=k l:=by grind[zq0]
@[simp] theorem zvh{β:Type}(r:DA)(k:Option β):bN (some r) k=k:=rfl
@[simp] theorem zun:okT [] []=true:=rfl
@[simp] theorem zum(shs:List (Option Nat))(d:DV)(l:List DS):okT (none::shs) (.one d::l)=okT shs l:=rfl
@[simp] theorem zuo(shs:List (Option Nat))(n:Nat)(ds:List DV)(l:List DS):okT (some n::shs) (.agg ds::l)=(Nat.beq ds.length n&&okT shs l):=rfl
@[simp] theorem ztB(k:IntKind)(n:Int):zsb (.int k n)=some (.int k (x6 k (-n))):=by show some (DV.int k (x6 k (0-n)))=_;rw[Int.zero_sub]
theorem jq{b n:Nat}(hb:b≤4096)(h:n≤1000000000):fits b n=true:=by
 unfold fits;rw[LzC,Nat.ble_eq,Nat.ble_eq];refine⟨?_,by omega⟩;have:n*b≤1000000000*4096:=Nat.mul_le_mul h hb
 grind
theorem zrw(n:Int):x6 .u64 n=n % 18446744073709551616:=x5 .u64 n
theorem zrx(n:Int):x6 .u8 n=n % 256:=x5 .u8 n
theorem wD{a b:Int}(h1:-9223372036854775808≤a+b:=by omega)(h2:a+b≤9223372036854775807:=by omega):zy .add (I6 a) (I6 b)=some (I6 (a+b)):=zij a b h1 h2
theorem zrH{a b:Int}(h1:-9223372036854775808≤a-b:=by omega)(h2:a-b≤9223372036854775807:=by omega):zy .sub (I6 a) (I6 b)=some (I6 (a-b)):=zii a b h1 h2
theorem zfn{a b:Int}(h1:-9223372036854775808≤a*b)(h2:a*b≤9223372036854775807):zy .mul (I6 a) (I6 b)=some (I6 (a*b)):=by grind[zm3,wrap64]
theorem v6{k:IntKind}{a:Int}(h1:-9223372036854775808≤a:=by omega)(h2:a≤9223372036854775807:=by omega):y6 .i64 (.int k a)=some (I6 a):=zpC a k h1 h2
theorem zpz(k:IntKind)(a b:Int):wW false (.int k a) [.int k b]=some (.int k (min a b)):=by
 simp only[wW,minD,yU,Yza,Yzb,jY]
 grind
theorem zsc(k:IntKind)(a b:Int):wW true (.int k a) [.int k b]=some (.int k (max a b)):=by
 simp only[wW,minD,yU,Yza,jY]
 grind
attribute [simp] zpz zsc
abbrev Sl(α:Type):=Option (List α)
abbrev Sl.els{α:Type}(s:Sl α):List α:=s.getD []
def enL{α:Type}(st:Nat)(f:α→List DV):Sl α→DV
 |none=>.nils
 |some l=>.lst st (l.map f)
section
variable {α:Type} {st:Nat} {f:α→List DV}
@[simp] theorem ztO:enL st f none=.nils:=rfl
theorem zhs(l:List α):enL st f (some l)=.lst st (l.map f):=rfl
@[simp] theorem zvd(v:Sl α):mkL st (v.map (List.map f))=enL st f v:=by cases v<;>rfl
@[simp] theorem yy(v:Sl α):jz (enL st f v)=some (I6 (v.els.length:Int)):=by cases v<;>simp[enL]
@[simp] theorem zrj(v:Sl α):jP st (enL st f v)=some (v.els.map f):=by cases v<;>simp[enL]
@[simp] theorem zsa(v:Sl α):zcO (enL st f v)=some v.isNone:=by cases v<;>rfl
theorem zmZ(k:IntKind)(xs:List (List DV))(i:Nat):jO st (.lst st xs) (.int k (i:Int))=xs[i]?:=by show (bif Nat.beq st st then xs[i]? else none)=_;simp
theorem uS(k:IntKind)(v:Sl α)(i:Nat):jO st (enL st f v) (.int k (i:Int))=(v.els[i]?).map f:=by
 cases v with
 |none=>rfl
 |some l=>grind[zhs,zmZ]
theorem uX{l:List α}{i:Nat}{x:α}{r:List α}(h:l.drop i=x::r):l[i]? = some x:=by
 have:=Yzm (xs:=l) (i:=i) (j:=0)
 grind
theorem ur{l:List α}{i:Nat}{x:α}{r:List α}(h:l.drop i=x::r):i<l.length:=(Lz0.1 (uX h)).1
theorem xU{l:List α}{i:Nat}{x:α}{r:List α}(h:l.drop i=x::r):l.drop (i+1)=r:=by rw[←YzD,h];rfl
theorem wN{l:List α}{i:Nat}(h:l.drop i=[]):l.length≤i:=by simp_all
theorem wl{v:Sl α}{i:Nat}{x:α}{r:List α}(h:v.els.drop i=x::r)(k:IntKind):jO st (enL st f v) (.int k (i:Int))=some (f x):=by rw[uS,uX h];rfl
end
theorem zix{i n:Nat}(h:i<n):decide ((i:Int)<(n:Int))=true:=decide_eq_true (by omega)
theorem qJ{i n:Nat}(h:n≤i):decide ((i:Int)<(n:Int))=false:=decide_eq_false (by omega)
def ocL{α:Type}(f:α→List DV)(v:Sl α):OC:=v.map (List.map f)
section
variable {α:Type} {st:Nat} {f:α→List DV}
@[simp] theorem znc:ocL f (none:Sl α)=none:=rfl
theorem znb(l:List α):ocL f (some l)=some (l.map f):=rfl
@[simp] theorem zc3(v:Sl α):zei (ocL f v)=v.els.length:=by cases v<;>simp[ocL]
@[simp] theorem kZ(v:Sl α):x4 (ocL f v)=v.els.map f:=by cases v<;>simp[ocL]
@[simp] theorem zfu(v:Sl α):mkL st (ocL f v)=enL st f v:=by cases v<;>rfl
theorem zcW(v:Sl α)(x:α):(some (v.els.map f++[f x]):OC)=ocL f (some (v.els++[x])):=by simp[ocL]
end
@[simp] theorem we{α:Type}(l:List α):Sl.els (some l)=l:=rfl
@[simp] theorem zn1{α:Type}:Sl.els (none:Sl α)=[]:=rfl
theorem zmn{k:IntKind}{a b:Nat}(h:b≠0):zy .rem (.int k (a:Int)) (.int k (b:Int))=some (.int k ((a % b:Nat):Int)):=by grind[qV]
theorem zv6{k:IntKind}{a b:Nat}(h:b≠0)(hw:x6 k ((a / b:Nat):Int)=((a / b:Nat):Int)):zy .quo (.int k (a:Int)) (.int k (b:Int))=some (.int k ((a / b:Nat):Int)):=by grind[zm2]
theorem qU{k:IntKind}{n i:Nat}(h:i<n):u6 n (.int k (i:Int))=some i:=by
 show (bif Nat.ble (i+1) n then some i else none)=_
 grind[Yze]
theorem zm0{k:IntKind}{xs:List (List DV)}{i:Nat}(h:i<xs.length):zcP (some xs) (.int k (i:Int))=some i:=by
 show (bif Nat.ble (i+1) xs.length then some i else none)=_
 grind[Yze]
theorem yh{f:List DV→List OC→Option PX}{L L':List DV}{M M':List OC}(h:f L M=some (.normal,L',M')):yC f L M=yC f L' M':=by rw[kN,h]
theorem zF{f:List DV→List OC→Option PX}{L L':List DV}{M M':List OC}{id:Nat}(h:f L M=some (.exit id,L',M')):yC f L M=some (.exit id,L',M'):=by rw[kN,h]
theorem yp{f:List DV→List OC→Option PX}{L L':List DV}{M M':List OC}(h:f L M=some (.ret,L',M')):yC f L M=some (.ret,L',M'):=by rw[kN,h]
end Go.PE
end
noncomputable section
namespace Go.PE
open Go Go.CE
def zgt:List DV→Option (List Zc)
 | []=>some []
 |d::l=>match d.scal,zgt l with|some c,some cs=>some (c::cs)|_,_=>none
def avS:DS→Option SVal
 | .one d=>match d.scal with|some c=>some (.one c)|none=>none
 | .agg ds=>match zgt ds with|some cs=>some (.agg cs)|none=>none
def avs:List DA→Option (List Zb)
 | []=>some []
 | .s d::l=>match avS d,avs l with|some v,some vs=>some (.s v::vs)|_,_=>none
 | .tup _::_=>none
def ofC:Zc→Option DV
 | .bool b=>some (.bool b)
 | .int k n=>some (.int k n)
 | .str s=>some (.str s)
 | .nils=>some .nils
 | .nilf=>some .nilf
 | .nilp=>some .nilp
 | .nilm=>some .nilm
 | .nili=>some .nili
 |_=>none
def ztG:List Zc→Option (List DV)
 | []=>some []
 |c::cs=>match ofC c,ztG cs with|some d,some ds=>some (d::ds)|_,_=>none
def ofS:SVal→Option DS
 | .one c=>match ofC c with|some d=>some (.one d)|none=>none
 | .agg cs=>match ztG cs with|some ds=>some (.agg ds)|none=>none
def ztF:List SVal→Option (List DS)
 | []=>some []
 |v::vs=>match ofS v,ztF vs with|some d,some ds=>some (d::ds)|_,_=>none
def ofA:Zb→Option DA
 | .s v=>match ofS v with|some d=>some (.s d)|none=>none
 | .tup vs=>match ztF vs with|some ds=>some (.tup ds)|none=>none
def zrG(ids:List Nat)(sums:List CE.Sum):Orc:=fun g args=>
 bif ids.any (Nat.beq g) then
  match avs args with
  |some vs=>match xk g vs ⟨.z,.nil⟩ sums with|some v=>ofA v|none=>none
  |none=>none
 else none
theorem zbG{d:DV}{c:Zc}(h:d.scal=some c):xD c=true:=by cases d<;>simp only[DV.scal]at h<;>first|cases h;rfl|cases h
theorem zg3{m m':Mt}{c c':Zc}(hp:xD c'=true)(h:mC m c c'=some m'):m'=m:=by
 unfold mC at h
 grind[xD]
theorem zeg:∀{cs cs':List Zc} {m m':Mt},(∀c∈cs',xD c=true)→mCs cs cs' m=some m'→m'=m
 | [],[],_,_,_,h=>by cases h;rfl
 |c::cs,c'::cs',m,m',hp,h=>by
  simp only[mCs]at h;split at h
  ·rename_i m1 h1;rw[zeg (fun c hc=>hp c (Yzi _ hc)) h]
   grind[zg3,Yzj]
  ·cases h
 | [],_::_,_,_,_,h=>by cases h
 |_::_,[],_,_,_,h=>by cases h
def plS:SVal→Prop
 | .one c=>xD c=true
 | .agg cs=>∀c∈cs,xD c=true
def plA:Zb→Prop
 | .s v=>plS v
 | .tup _=>False
theorem znt{m m':Mt}{v v':SVal}(hp:plS v')(h:mS m v v'=some m'):m'=m:=by
 cases v<;>cases v'<;>simp only[mS]at h
 ·exact zg3 hp h
 ·cases h
 ·cases h
 ·exact zeg hp h
theorem znu:∀{vs vs':List Zb} {m m':Mt},(∀v∈vs',plA v)→mA vs vs' m=some m'→m'=m:=by
 intro vs
 induction vs with
 |nil=>grind[mA]
 |cons v vs ih=>
  intro vs' m m' hp h;cases vs' with
  |nil=>cases v<;>cases h
  |cons v' vs'=>
   cases v with
   |tup l=>cases h
   |s v=>
    cases v' with
    |tup l=>cases h
    |s v'=>
     simp only[mA]at h;split at h
     ·rename_i m1 h1;rw[ih (fun c hc=>hp c (Yzi _ hc)) h];exact znt (hp (.s v') (Yzj ..)) h1
     ·cases h
theorem zlB{s:CE.Sum}{vs:List Zb}(hp:∀v∈vs,plA v)(h h':Za):s.fits vs h=s.fits vs h':=by
 unfold Sum.fits;cases hm:mA s.args vs ⟨.nil,.nil,[]⟩ with
 |none=>rfl
 |some m=>rw[znu hp hm];rfl
theorem qy{g:Nat}{vs:List Zb}(hp:∀v∈vs,plA v)(h h':Za):∀l:List CE.Sum,xk g vs h l=xk g vs h' l
 | []=>rfl
 |s::l=>by simp only[xk,zlB hp h h',qy hp h h' l]
theorem zdT{fz:BN→Prop}{h:Za}:∀{ds:List DV} {cs cs':List Zc},zgt ds=some cs'→RepL fz h cs ds→cs=cs'∧∀c∈cs',xD c=true
 | [],cs,cs',e,H=>by
  cases e;have:=H.1
  grind
 |d::ds,cs,cs',e,H=>by
  simp only[zgt]at e;split at e
  ·rename_i c1 cs1 h1 h2;cases e;cases cs with
   |nil=>have:=H.1;trivial
   |cons c cs=>
    obtain⟨ha,hb⟩:=H.inv;obtain⟨k1,k2⟩:=zdT h2 hb;refine⟨by rw[ha.scal h1,k1],fun x hx=>?_⟩;rcases YzL.1 hx with rfl|hx
    ·exact zbG h1
    ·grind
  ·cases e
theorem ztg{fz:BN→Prop}{h:Za}{d:DS}{v v':SVal}(e:avS d=some v')(H:RepS fz h v d):v=v'∧plS v':=by
 cases d with
 |one d=>
  simp only[avS]at e;split at e
  ·rename_i c hc;cases e;cases v with
   |one x=>exact⟨by rw[Rep.scal H hc],zbG hc⟩
   |agg l=>trivial
  ·cases e
 |agg ds=>
  simp only[avS]at e;split at e
  ·rename_i cs hc;cases e;cases v with
   |one x=>trivial
   |agg l=>obtain⟨k1,k2⟩:=zdT hc H;exact⟨by rw[k1],k2⟩
  ·cases e
theorem zoU{fz:BN→Prop}{h:Za}:∀{ds:List DA} {vs vs':List Zb},avs ds=some vs'→RepAL fz h vs ds→vs=vs'∧∀v∈vs',plA v
 | [],vs,vs',e,H=>by
  cases e;cases vs with
  |nil=>simp
  |cons v l=>trivial
 | .tup _::_,_,_,e,_=>by cases e
 | .s d::ds,vs,vs',e,H=>by
  simp only[avs]at e;split at e
  ·rename_i v1 vs1 h1 h2;cases e;cases vs with
   |nil=>trivial
   |cons v vs=>
    obtain⟨ha,hb⟩:=H;obtain⟨w,rfl,hw⟩:=RepA.inv ha;obtain⟨k1,k2⟩:=zoU h2 hb;obtain⟨k3,k4⟩:=ztg h1 hw;refine⟨by rw[k1,k3],fun x hx=>?_⟩;rcases YzL.1 hx with rfl|hx
    ·exact k4
    ·grind
  ·cases e
theorem zoz{fz:BN→Prop}{h:Za}{c:Zc}{d:DV}(e:ofC c=some d):Rep fz h c d:=by
 cases c<;>simp only[ofC]at e<;>cases e
 ·exact .bool _
 ·exact .int _ _
 ·exact .str _
 ·exact .nilp
 ·exact .nils
 ·exact .nilm
 ·exact .nilf
 ·exact .nili
theorem zj9{fz:BN→Prop}{h:Za}:∀{cs:List Zc} {ds:List DV},ztG cs=some ds→RepL fz h cs ds
 | [],_,e=>by cases e;exact RepL.nil _ _
 |c::cs,ds,e=>by
  simp only[ztG]at e;split at e
  ·rename_i d1 ds1 h1 h2;cases e;exact RepL.cons (zoz h1) (zj9 h2)
  ·cases e
theorem zoy{fz:BN→Prop}{h:Za}{v:SVal}{d:DS}(e:ofS v=some d):RepS fz h v d:=by
 cases v<;>simp only[ofS]at e<;>split at e
 ·rename_i h1;cases e;exact zoz h1
 ·cases e
 ·rename_i h1;cases e;exact zj9 h1
 ·cases e
theorem zj8{fz:BN→Prop}{h:Za}:∀{vs:List SVal} {ds:List DS},ztF vs=some ds→RepSL fz h vs ds
 | [],_,e=>by cases e;trivial
 |c::cs,ds,e=>by
  simp only[ztF]at e;split at e
  ·rename_i d1 ds1 h1 h2;cases e;exact⟨zoy h1,zj8 h2⟩
  ·cases e
theorem zsl{fz:BN→Prop}{h:Za}{v:Zb}{d:DA}(e:ofA v=some d):RepA fz h v d:=by
 cases v<;>simp only[ofA]at e<;>split at e
 ·rename_i h1;cases e;exact zoy h1
 ·cases e
 ·rename_i h1;cases e;exact zj8 h1
 ·cases e
theorem zo8{P:Program}{ids:List Nat}{sums:List CE.Sum}{srt:Nat→Option Srt}(hi:ids.all (fun g=>(srt g).isNone)=true):uQ (zrG ids sums) (fun n=>zM (zH P) (cFs (yS P)) sums srt n):=by
 intro g args res e fz h vs hw hfz H;unfold zrG at e;cases hj:ids.any (Nat.beq g) with
 |false=>grind
 |true=>
  rw[hj]at e;have hT:srt g=none:=by simp_all
  simp only[Yza]at e;split at e
  ·rename_i vs' hvs;split at e
   ·rename_i v hv;obtain⟨rfl,hp⟩:=zoU hvs H;rw[qy hp _ h]at hv;refine (Ev.sum hT hv).mono ?_
    rintro _ rfl
    exact⟨hw,.refl h,zsl e⟩
   ·cases e
  ·cases e
end Go.PE
end
section
namespace Go.PE
open Go Go.CE Go.RowKit
section
variable {P:Program} {sums:List CE.Sum} {srt:Nat→Option Srt} {O:Orc}
theorem zn7(hs:∀s∈sums,kH P s)(ht:∀g t,srt g=some t→zob P g t)(hO:uQ O (fun n=>zM (zH P) (cFs (yS P)) sums srt n)){w:World}(hG:GOk w){g:Nat}{vs:List Zb}{ds:List DA}
  (hr:RepAL (fun b=>b.toNat<(z9 w).n.toNat) (z9 w) vs ds) (hw:∀x∈vs,wfA (φ0 w) (z9 w).n.toNat x) {b:Bool} (e:O g ds=some (.s (.one (.bool b)))):
  CallsIn (FR none) 0 P g (vs.map (zj (φ0 w))).toArray w (fun e w2=>e=.returned (.bool b)∧Below w.heap.size w w2):=by
 obtain⟨⟨v,h2⟩,⟨_,hg,hv⟩,N,hN⟩:=hO g ds _ e (fun b=>b.toNat<(z9 w).n.toNat) (z9 w) vs (zeo w) (fun b hb=>hb) hr;refine (zf2 w (zhC (zjS P) hs ht N) hG hw (hN N (LzB _)) hg).mono ?_
 rintro e9 w9 ⟨φ,rfl,hb⟩
 obtain⟨v',hv',h1⟩:=RepA.inv hv;simp only at hv';subst hv';cases v' with
 |agg l=>trivial
 |one c=>rw[Rep.scal h1 rfl];trivial
end
end Go.PE
end
section
namespace Go.PE
open Go Go.CE Go.RowKit
def zeA(P:Program):List Field→Nat→Option Nat
 | [],o=>some o
 |f::l,o=>bif Nat.beq f.offset o then zeA P l (o+P.cellsOf f.type) else none
def qN(P:Program):Nat→TypeId→Bool
 |0,_=>false
 |n+1,t=>
  match P.underlying t with
  |some .bool=>Nat.beq (P.cellsOf t) 1
  |some (.int _)=>Nat.beq (P.cellsOf t) 1
  |some .string=>Nat.beq (P.cellsOf t) 1
  |some (.slice e)=>qN P n e&&Nat.ble 1 (P.cellsOf e)&&Nat.beq (P.cellsOf t) 1
  |some (.struct fs)=>(fs.toList.all fun f=>qN P n f.type)&&(match zeA P fs.toList 0 with|some m=>Nat.beq m (P.cellsOf t)|none=>false)
  |some (.array k e)=>qN P n e&&Nat.beq (P.cellsOf t) (k*P.cellsOf e)
  |_=>false
def zq5(T:TypeId→List DV→Prop):List TypeId→List DV→Prop
 | [],ds=>ds=[]
 |t::l,ds=>∃a b,ds=a++b∧T t a∧zq5 T l b
def Ty(P:Program):Nat→TypeId→List DV→Prop
 |0,_,_=>False
 |n+1,t,ds=>
  match P.underlying t with
  |some .bool=>∃b,ds=[.bool b]
  |some (.int k)=>∃m,ds=[.int k m]∧(Lit.int k m).wf=true
  |some .string=>∃s,ds=[.str s]∧s.size≤maxLen
  |some (.slice e)=>ds=[.nils]∨∃xs,ds=[.lst (P.cellsOf e) xs]∧xs.length≤maxLen∧∀x∈xs,Ty P n e x
  |some (.struct fs)=>zq5 (Ty P n) (fs.toList.map (·.type)) ds
  |some (.array k e)=>zq5 (Ty P n) (List.replicate k e) ds
  |_=>False
def AbsL(w:World)(cs:List Value)(vs:List Zc):Prop:=cs.map (zi2 w)=vs.map some
theorem AbsL.len{w:World}{cs:List Value}{vs:List Zc}(h:AbsL w cs vs):cs.length=vs.length:=by have:=congrArg List.length h;grind
theorem AbsL.get{w:World}{cs:List Value}{vs:List Zc}(h:AbsL w cs vs){i:Nat}{v:Value}(hi:cs[i]? = some v):∃c,vs[i]? = some c∧zi2 w v=some c:=by
 have:=congrArg (·[i]?) h
 grind
theorem AbsL.app{w:World}{a b:List Value}{x y:List Zc}(h:AbsL w a x)(k:AbsL w b y):AbsL w (a++b) (x++y):=by grind[AbsL]
theorem AbsL.conc{w:World}:∀{cs:List Value} {vs:List Zc},AbsL w cs vs→vs.map (zc (φ0 w))=cs∧∀c∈vs,wfC (φ0 w) (z9 w).n.toNat c
 | [],[],_=>⟨rfl,fun c h=>by cases h⟩
 |v::cs,c::vs,h=>by
  simp only[AbsL,Yzv,List.cons.injEq]at h;obtain⟨k1,k2⟩:=zoV w h.1;obtain⟨k3,k4⟩:=AbsL.conc (show AbsL w cs vs from h.2)
  grind
 | [],_::_,h=>by cases h
 |_::_,[],h=>by cases h
def okV(w:World)(v:Value):Prop:=∀a,v=.slice (some a) 0 0→(qM w a.block=true∧a.spot=none)∨a∈zbS w
theorem zgQ{w:World}{a:Addr}{v:Value}(h:w.cell? a=some v):okV w v∧a.spot=none∧∃arr e fr,w.heap[a.block]? = some (.cells arr e fr)∧arr[a.off]? = some v:=by
 have key:a.spot=none∧∃arr e fr,w.heap[a.block]? = some (.cells arr e fr)∧arr[a.off]? = some v:=by unfold World.cell? at h;split at h<;>simp_all
 obtain⟨h1,arr,e,fr,h2,h3⟩:=key;exact⟨fun b hb=>by grind[zna],h1,arr,e,fr,h2,h3⟩
theorem zg1{α β:Type}{f:α→Option β}:∀{l:List α} {r:List β},l.mapM f=some r→r.length=l.length∧∀(i:Nat) (x:α),l[i]? = some x→∃y,r[i]? = some y∧f x=some y
 | [],r,h=>by grind
 |a::l,r,h=>by
  simp only[List.mapM_cons,YzC,Option.bind_eq_some_iff,YzN,Option.some.injEq]at h;obtain⟨b,hb,bs,hbs,rfl⟩:=h;obtain⟨k1,k2⟩:=zg1 hbs
  grind
section
variable {H:Type} {enc:TypeId×Value→H} {P:Program} {w:World} {base:Nat} {held:Bool}
def zhM(P:Program)(w:World)(m:Nat)(t:TypeId)(cs:List Value):Prop:=
 ∃vs ds,AbsL w cs vs∧RepL (fun b=>b.toNat<(z9 w).n.toNat) (z9 w) vs ds∧Ty P m t ds
theorem zeH{a:Addr}{n:Nat}{cs:List Value}(h:w.cells? base a n=some cs):cs.length=n∧∀j,j<n→∃v,cs[j]? = some v∧w.cell? (a.add j)=some v:=by
 unfold World.cells? at h;split at h
 ·obtain⟨k1,k2⟩:=zg1 h;refine⟨by grind,fun j hj=>?_⟩;exact k2 j j (by rw[List.getElem?_range hj])
 ·cases h
theorem zai{a:Addr}{len cap st:Nat}(hst:1≤st)(hlc:len≤cap){arr:Array Value}{e:TypeId}{fr:Nat×Nat}(hb:w.heap[a.block]? = some (.cells arr e fr))(hsp:a.spot=none)
  (C:Nat→List Zc) (X:Nat→List DV) (hC:∀i,i<len→(C i).length=st∧(X i).length=st∧(∀j c,(C i)[j]? = some c→(arr[a.off+(i*st+j)]?).bind (zi2 w)=some c)∧RepL (fun b=>b.toNat<(z9 w).n.toNat) (z9 w) (C i) (X i)):
  ∃c,zi2 w (.slice (some a) len cap)=some c∧Rep (fun b=>b.toNat<(z9 w).n.toNat) (z9 w) c (.lst st ((List.range len).map X)):=by
 have hd:qM w a.block=true:=by grind[qM]
 have hlt:=zhv hd;refine⟨.slc (bn a.block) a.off len cap true,?_,?_⟩
 ·show (bif decide (qM w a.block=true∧a.spot=none∧len≤cap) then _ else _)=_
  grind
 ·have hg:(z9 w).t.get (bn a.block)=some (zpo w (.cells arr e fr)):=qw w (by grind[zN])
  let L:=(List.range (len*st)).map fun j=>((C (j / st))[j % st]?).getD .nilp
  have hLl:L.length=len*st:=by simp[L]
  have hLg:∀i j,i<len→j<st→∃c,L[i*st+j]? = some c∧(C i)[j]? = some c:=fun i j hi hj=>by
   obtain⟨c,hc⟩:∃c,(C i)[j]? = some c:=⟨_,Lz5 (by grind)⟩;refine⟨c,?_,hc⟩;have h1:i*st+j<len*st:=by
    have:(i+1)*st≤len*st:=Yzg st hi
    grind
   have e1:(i*st+j) / st=i:=by rw[Nat.mul_comm,Nat.mul_add_div (by omega),Nat.div_eq_of_lt hj,Yzx]
   grind[Nat.mul_comm,Nat.mul_add_mod,Nat.mod_eq_of_lt]
  have hrd:rd (((List.range len).map X).length*st) a.off (zpo w (.cells arr e fr))=some L:=by
   rw[YzI,List.length_range];refine zfW hLl fun j c hj=>?_;have hjl:j<len*st:=by grind
   have hi:j / st<len:=Nat.div_lt_of_lt_mul (by grind);have hr:j % st<st:=Yzz _ (by omega);have hj':j / st*st+j % st=j:=by grind[Nat.div_add_mod]
   obtain⟨c',k1,k2⟩:=hLg (j / st) (j % st) hi hr;rw[hj',hj]at k1;cases k1;have:=(hC _ hi).2.2.1 _ _ k2;simp_all
  have hX:∀(i:Nat) (x:List DV),((List.range len).map X)[i]? = some x→i<len∧x=X i:=fun i x hx=>by grind
  have:=Rep.lst (fz:=fun b=>b.toNat<(z9 w).n.toNat) (h:=z9 w) (b:=bn a.block) (o:=zpo w (.cells arr e fr)) (off:=a.off) (cap:=cap) (ex:=true) (st:=st) (xs:=(List.range len).map X) L
   (by grind[zN,j5]) hg (fun _=>by grind) hrd (fun i x hx=>by grind)
   (fun i x j c d hx hc hd => by
    obtain⟨hi,rfl⟩:=hX i x hx;have hj:j<st:=by grind
    obtain⟨c',k1,k2⟩:=hLg i j hi hj;rw[hc]at k1;cases k1;exact(hC i hi).2.2.2.2 j c d k2 hd)
  grind
theorem zeO{m n:Nat}{held:Bool}(ih:∀{t:TypeId} {cs:List Value} {x:DataW H×List MemPlace},qN P m t=true→DataW.trod enc P w base (fun _=>true) held n t cs=some x→(∀v∈cs,okV w v)→zhM P w m t cs∧cs.length=P.cellsOf t):
  ∀(fs:List Field) (o e:Nat) (cs:List Value),(fs.all fun f=>qN P m f.type)=true→zeA P fs o=some e→e=cs.length→o≤e→
   (∀f∈fs,∃y,DataW.trod enc P w base (fun _=>true) held n f.type ((cs.drop f.offset).take (P.cellsOf f.type))=some y)→(∀v∈cs,okV w v)→
   ∃vs ds,AbsL w (cs.drop o) vs∧RepL (fun b=>b.toNat<(z9 w).n.toNat) (z9 w) vs ds∧zq5 (Ty P m) (fs.map (·.type)) ds
 | [],o,e,cs,_,hc,he,_,_,_=>by cases hc;subst he;exact⟨[],[],by simp[AbsL],RepL.nil _ _,rfl⟩
 |f::fs,o,e,cs,hd,hc,he,hle,hm,hok=>by
  simp only[Yyc,LzC]at hd;simp only[zeA]at hc;cases hb:Nat.beq f.offset o with
  |false=>grind
  |true=>
   rw[hb,Yza]at hc;have ho:=Lz1 hb;obtain⟨x,hx⟩:=hm f (Yzj ..);rw[ho]at hx;obtain⟨⟨v1,d1,a1,r1,t1⟩,hl⟩:=ih hd.1 hx (fun v hv=>hok v (List.mem_of_mem_drop (List.mem_of_mem_take hv)));have hle2:o+P.cellsOf f.type≤cs.length:=by grind
   obtain⟨v2,d2,a2,r2,t2⟩:=zeO ih fs (o+P.cellsOf f.type) e cs hd.2 hc he (by omega) (fun g hg=>hm g (Yzi _ hg)) hok;refine⟨v1++v2,d1++d2,?_,r1.app r2,d1,d2,rfl,t1,t2⟩;have:cs.drop o=(cs.drop o).take (P.cellsOf f.type)++cs.drop (o+P.cellsOf f.type):=by rw[←YzD,List.take_append_drop]
   rw[this];exact a1.app a2
theorem zhK{m n:Nat}{held:Bool}{e:TypeId}(ih:∀{t:TypeId} {cs:List Value} {x:DataW H×List MemPlace},qN P m t=true→DataW.trod enc P w base (fun _=>true) held n t cs=some x→(∀v∈cs,okV w v)→zhM P w m t cs∧cs.length=P.cellsOf t)
  (hd:qN P m e=true):∀(k:Nat) (cs:List Value),cs.length=k*P.cellsOf e→(∀i,i<k→∃x,DataW.trod enc P w base (fun _=>true) held n e ((cs.drop (i*P.cellsOf e)).take (P.cellsOf e))=some x)→(∀v∈cs,okV w v)→
   ∃vs ds,AbsL w cs vs∧RepL (fun b=>b.toNat<(z9 w).n.toNat) (z9 w) vs ds∧zq5 (Ty P m) (List.replicate k e) ds
 |0,cs,hl,_,_=>by have:cs=[]:=List.length_eq_zero_iff.1 (by omega);subst this;exact⟨[],[],by simp[AbsL],RepL.nil _ _,rfl⟩
 |k+1,cs,hl,hx,hok=>by
  obtain⟨x,h0⟩:=hx 0 (by omega);rw[Nat.zero_mul,List.drop_zero]at h0;obtain⟨⟨v1,d1,a1,r1,t1⟩,_⟩:=ih hd h0 (fun v hv=>hok v (List.mem_of_mem_take hv));rw[YzO]at hl;obtain⟨v2,d2,a2,r2,t2⟩:=zhK ih hd k (cs.drop (P.cellsOf e)) (by simp;omega) (fun i hi=>by grind[YzD]) (fun v hv=>hok v (List.mem_of_mem_drop hv))
  refine⟨v1++v2,d1++d2,?_,r1.app r2,d1,d2,rfl,t1,t2⟩;rw[←List.take_append_drop (P.cellsOf e) cs];exact a1.app a2
theorem zd6:∀(m:Nat) {q:Nat} {t:TypeId} {cs:List Value} {x:DataW H×List MemPlace},qN P m t=true→DataW.trod enc P w base (fun _=>true) held q t cs=some x→(∀v∈cs,okV w v)→zhM P w m t cs∧cs.length=P.cellsOf t
 |0,_,_,_,_,h,_,_=>by cases h
 |m+1,fu,t,cs,x,hd,ht,hok=>by
  have ih:=@zd6 m;unfold qN at hd;unfold zhM;unfold Ty;cases hu:P.underlying t with
  |none=>grind
  |some d=>
   rw[hu]at hd;cases d<;>first|(cases (show false=true from hd);done)|skip
   case bool=>have h1:=Lz1 hd;obtain⟨b,rfl,_⟩:=DataW.trod_bool hu ht;exact⟨⟨[_],[_],rfl,RepL.cons (.bool _) (RepL.nil _ _),b,rfl⟩,h1.symm⟩
   case int k=>have h1:=Lz1 hd;obtain⟨n,rfl,_,hw⟩:=DataW.trod_int hu ht;exact⟨⟨[_],[_],rfl,RepL.cons (.int _ _) (RepL.nil _ _),n,rfl,hw⟩,h1.symm⟩
   case string=>have h1:=Lz1 hd;obtain⟨s,rfl,_,hw⟩:=DataW.trod_string hu ht;exact⟨⟨[_],[_],rfl,RepL.cons (.str _) (RepL.nil _ _),s,rfl,hw⟩,h1.symm⟩
   case slice e=>
    simp only[LzC]at hd;obtain⟨⟨hd1,hst⟩,hc1⟩:=hd;have hst:=Lz4 hst;have hc1:=Lz1 hc1;rcases DataW.trod_slice hu ht with⟨rfl,_⟩|⟨a,len,cap,elems,rest,n,hn,rfl,_,_,hlc,hcap,hel,hE,hR,_⟩
    ·exact⟨⟨[_],[_],rfl,RepL.cons .nils (RepL.nil _ _),.inl rfl⟩,hc1.symm⟩
    ·subst hn;have hok:=hok _ (Yzj ..);refine⟨?_,hc1.symm⟩;have one:∀i,i<len→∃vs ds,(vs.length=P.cellsOf e∧ds.length=P.cellsOf e∧(∀j c,vs[j]? = some c→∃v,w.cell? ((a.add (i*P.cellsOf e)).add j)=some v∧zi2 w v=some c))∧RepL (fun b=>b.toNat<(z9 w).n.toNat) (z9 w) vs ds∧Ty P m e ds:=fun i hi=>by
      have h:=hE i hi;obtain⟨y,hy⟩:∃y,elems[i]? = some y:=⟨_,Lz5 (by omega)⟩;rw[hy,Option.bind_eq_some_iff]at h;obtain⟨cs,h1,h2⟩:=h;obtain⟨k1,k2⟩:=zeH h1;obtain⟨⟨vs,ds,a1,r1,t1⟩,hl⟩:=ih hd1 h2 (fun v hv=>by obtain⟨j,hj⟩:=List.mem_iff_getElem?.1 hv;obtain⟨v',g1,g2⟩:=k2 j (by grind);rw[hj]at g1;cases g1;exact(zgQ g2).1)
      refine⟨vs,ds,⟨by rw[←a1.len,hl],by rw[←r1.1,←a1.len,hl],fun j c hj=>?_⟩,r1,t1⟩;obtain⟨v',g1,g2⟩:=k2 j (by rw[←k1,a1.len];grind);obtain⟨c',q1,q2⟩:=a1.get g1
      grind
     by_cases hc0:cap=0
     ·have hl0:len=0:=by omega
      subst hc0 hl0;rcases hok a rfl with⟨hdb,hsp⟩|hm
      ·obtain⟨arr,el,fr,hb⟩:=za4 hdb;obtain⟨c,q1,q2⟩:=zai (len:=0) (cap:=0) hst (LzB _) hb hsp (fun _=>[]) (fun _=>[]) (fun i hi=>by omega);exact⟨[c],[.lst (P.cellsOf e) []],by grind[AbsL],RepL.cons q2 (RepL.nil _ _),.inr ⟨[],rfl,by simp,fun x hx=>by cases hx⟩⟩
      ·by_cases hdb:qM w a.block=true∧a.spot=none
       ·obtain⟨arr,el,fr,hb⟩:=za4 hdb.1;obtain⟨c,q1,q2⟩:=zai (len:=0) (cap:=0) hst (LzB _) hb hdb.2 (fun _=>[]) (fun _=>[]) (fun i hi=>by omega);exact⟨[c],[.lst (P.cellsOf e) []],by grind[AbsL],RepL.cons q2 (RepL.nil _ _),.inr ⟨[],rfl,by simp,fun x hx=>by cases hx⟩⟩
       ·have hi:=zdg hm;have hlt:=(Lz0.1 hi).1;refine⟨[.slc (bn (w.heap.size+zrm a (zbS w))) 0 0 0 true],[.lst (P.cellsOf e) []],?_,RepL.cons ?_ (RepL.nil _ _),.inr ⟨[],rfl,by simp,fun x hx=>by cases hx⟩⟩
        ·have:zi2 w (.slice (some a) 0 0)=some (.slc (bn (w.heap.size+zrm a (zbS w))) 0 0 0 true):=by
          show (bif decide (qM w a.block=true∧a.spot=none∧0≤0) then _ else bif decide (0=0∧0=0∧a∈zbS w) then _ else _)=_
          grind
         grind[AbsL]
        ·exact Rep.lst (o:=.void) (xs:=[]) [] (by grind[zN,j5]) (ziH w hlt) (fun _=>LzB _) (by simp[rd]) (fun i x hx=>by simp at hx) (fun i x j c d hx=>by simp at hx)
     ·
      have hthere:a.spot=none∧∃arr el fr,w.heap[a.block]? = some (.cells arr el fr):=by
       have go:∀cs,w.cells? base (a.add (0*P.cellsOf e)) (P.cellsOf e)=some cs→a.spot=none∧∃arr el fr,w.heap[a.block]? = some (.cells arr el fr):=fun cs h=>by
        obtain⟨v,_,g2⟩:=(zeH h).2 0 (by omega);have e0:(a.add (0*P.cellsOf e)).add 0=a:=by rw[Nat.zero_mul];rfl
        rw[e0]at g2;obtain⟨_,g3,arr,el,fr,g4,_⟩:=zgQ g2
        grind
       by_cases hl0:0<len
       ·grind[Option.bind_eq_some_iff]
       ·obtain⟨hrl,hr⟩:=hR rfl;have h:=hr 0 (by omega)
        grind[Option.bind_eq_some_iff]
      obtain⟨hsp,arr,el,fr,hb⟩:=hthere;have hch:∃(C:Nat→List Zc) (X:Nat→List DV),∀i,i<len→((C i).length=P.cellsOf e∧(X i).length=P.cellsOf e∧(∀j c,(C i)[j]? = some c→∃v,w.cell? ((a.add (i*P.cellsOf e)).add j)=some v∧zi2 w v=some c))∧RepL (fun b=>b.toNat<(z9 w).n.toNat) (z9 w) (C i) (X i)∧Ty P m e (X i):=by
       have:∀i:Nat,∃q:List Zc×List DV,i<len→(q.1.length=P.cellsOf e∧q.2.length=P.cellsOf e∧(∀j c,q.1[j]? = some c→∃v,w.cell? ((a.add (i*P.cellsOf e)).add j)=some v∧zi2 w v=some c))∧RepL (fun b=>b.toNat<(z9 w).n.toNat) (z9 w) q.1 q.2∧Ty P m e q.2:=fun i=>by
        by_cases hi:i<len
        ·simp_all
        ·exact⟨([],[]),fun h=>absurd h hi⟩
       obtain⟨q,hq⟩:=Classical.axiomOfChoice this;exact⟨fun i=>(q i).1,fun i=>(q i).2,hq⟩
      obtain⟨C,X,hCX⟩:=hch;obtain⟨c,q1,q2⟩:=zai hst hlc hb hsp C X (fun i hi=>by
       obtain⟨⟨g1,g2,g3⟩,g4,_⟩:=hCX i hi;refine⟨g1,g2,fun j c hj=>?_,g4⟩;obtain⟨v,k1,k2⟩:=g3 j c hj;have e1:(a.add (i*P.cellsOf e)).add j=⟨a.block,a.off+(i*P.cellsOf e+j),none⟩:=by
        obtain⟨ab,ao,az⟩:=a
        grind[Addr.add]
       grind[zhB])
      refine⟨[c],[.lst (P.cellsOf e) ((List.range len).map X)],by grind[AbsL],RepL.cons q2 (RepL.nil _ _),.inr ⟨_,rfl,by simp;omega,fun x hx=>?_⟩⟩
      grind
   case struct fs=>
    simp only[LzC]at hd;obtain⟨xs,n,hn,_,hl,hxl,hx⟩:=DataW.trod_struct hu ht;subst hn;refine⟨?_,hl⟩;cases hc:zeA P fs.toList 0 with
    |none=>grind
    |some q=>
     rw[hc]at hd;have hq:=Lz1 hd.2;have:=zeO (held:=held) (fun a b c=>ih a b c) fs.toList 0 q cs hd.1 hc (by rw[hq,hl]) (Yzo _) (fun f hf=>by
      obtain⟨i,hi⟩:=List.mem_iff_getElem?.1 hf;have h1:=hx i f (by grind);have hlt:i<xs.length:=by grind
      exact⟨_,h1.trans (Lz5 hlt)⟩) hok
     trivial
   case array k e=>simp only[LzC]at hd;obtain⟨xs,n,hn,_,hl,hxl,hx⟩:=DataW.trod_array hu ht;subst hn;refine⟨?_,hl⟩;exact zhK (held:=held) (fun a b c=>ih a b c) hd.1 k cs (by simp_all) (fun i hi=>⟨_,(hx i hi).trans (Lz5 (by omega))⟩) hok
theorem zpH{P:Program}{w:World}{base:Nat}{t:TypeId}{v:Value}(h:Cell.okWide P w .any base t v):okV w v:=by
 intro a ha;subst ha
 left
 have h:Cell.ok P w .any base t (.slice (some a) 0 0):=by simp_all[Cell.okWide]
 unfold Cell.ok at h;split at h<;>first|(rename_i hh;cases hh;done)|skip
 all_goals simp_all
 obtain⟨_,_,_,h1,row,cells,h2,_⟩:=h
 grind[World.shape?,qM]
theorem open_row{t:TypeId}{v:Value}{d:DataW H}{p:List MemPlace}(m:Nat)(hu:(match P.underlying t with|some (.struct _)|some (.array _ _)=>true|_=>false)=true)(hd:qN P m t=true)
  (hv:Value.okWide P w .any base t v) (h:DataW.Trod enc P w 0 (fun _=>true) held t v d p):
  ∃vs ds,v=zj (φ0 w) (.s (.agg vs))∧RepL (fun b=>b.toNat<(z9 w).n.toNat) (z9 w) vs ds∧wfA (φ0 w) (z9 w).n.toNat (.s (.agg vs))∧Ty P m t ds:=by
 have:∃cs,v=.agg cs∧cs.size=P.cellsOf t∧Row.okWide P w .any base t cs:=by grind[Value.okWide]
 obtain⟨cs,rfl,hsz,ts,_,_,hc⟩:=this;obtain⟨q,hq⟩:=h;obtain⟨⟨vs,ds,a,r,ty⟩,_⟩:=zd6 m hd hq (fun v hv=>by obtain⟨i,hi⟩:=List.mem_iff_getElem?.1 hv;obtain⟨u,_,ho⟩:=hc i v (by rw[←LzA];exact hi);exact zpH ho)
 obtain⟨k1,k2⟩:=a.conc;refine⟨vs,ds,?_,r,k2,ty⟩;show Value.agg cs=.agg ((vs.map (zc (φ0 w))).toArray);rw[k1];rfl
end
end Go.PE
end
section
namespace Go.CE
open Go Go.RowKit Go.Shelf Go.Sort
open Go.Proofs (sortWorldK)
theorem znJ(k:Nat):inZ (List.replicate k 0)=true:=by grind[inZ]
abbrev Rw(k:Nat):={l:List Int // ztl k l}
instance (k:Nat):Inhabited (Rw k):=⟨⟨List.replicate k 0,List.length_replicate,znJ k⟩⟩
end Go.CE
end
section
namespace Go.CE
open Go Go.RowKit Go.Shelf Go.Sort
open Go.Proofs (sortWorldK)
end Go.CE
end
