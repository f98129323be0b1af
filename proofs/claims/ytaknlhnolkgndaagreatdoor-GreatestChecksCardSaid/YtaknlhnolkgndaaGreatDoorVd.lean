/-
  Lemmas. No condition.
-/
import Derived.Test.YtaknlhnolkgndaaGreatDoorVc
import Derived.Shelf.SlSortCmp.InsertionK
import Derived.Shelf.SlSortCmp.WholeK
set_option linter.unusedSimpArgs false
set_option linter.unusedVariables false
section
namespace Go.PE
open Go Go.CE
def jZ(ρ:Nat->PA)(a:PA):Option Nat->Nat->PA
 |none=>ρ
 |some d=>fun i=>bif Nat.beq i d then a else ρ i
def refine(ρ:Nat->PA):Option (Nat×Bool)->Nat->PA
 |none=>ρ
 |some (d,b)=>fun i=>bif Nat.beq i d then pd (.bool b) else ρ i
def zq3:Operand->Bool->Option (Nat×Bool)
 | .tmp t,b=>some (t,b)
 |_,_=>none
def scT(P:Program)(t:TypeId):Bool:=
 match P.underlying t with
 |some .bool=>true
 |some .string=>true
 |some (.int _)=>true
 |_=>false
def ztb(P:Program)(dst:Option Nat)(t:TypeId):Sh:=
 match dst with
 |none=>.no
 |some _=>
  match P.underlying t with
  |some (.tuple ts)=>bif ts.toList.all (scT P) then .tsc ts.toList.length else .tup (ts.toList.map fun t=>match xP P t with|some n=>n|none=>none)
  |_=>bif scT P t then .sc else match xP P t with|some none=>.one|some (some n)=>.agg n|none=>.no
section
variable (P:Program) (O:Orc)
def j0{β:Type}(lk:Nat->Bool)(nt:Nat)(ops:Array Oper)(o:Oper)(ρ:Nat->PA)(os:List PO)(K:Option (Nat×Bool)->KT β):Option β:=
 bif inT nt o.dst then
  match comp P o.op with
  |some ko=>
   match o.guard with
   |none=>pOp O lk (ztb P o.dst o.type) ρ os ko (K none)
   |some (j,b)=>
    match (ops[j]?).bind (·.dst) with
    |some d=>
     bif Nat.ble (Nat.succ d) nt then
      match ρ d with
      | .s (.one (.d v))=>
       bif b then ifB v (pOp O lk (ztb P o.dst o.type) (refine ρ (some (d,true))) os ko (K (some (d,true)))) (K (some (d,false)) .undef os [] [])
       else ifB v (K (some (d,true)) .undef os [] []) (pOp O lk (ztb P o.dst o.type) (refine ρ (some (d,false))) os ko (K (some (d,false))))
      | .undef=>K none .undef os [] []
      |_=>none
     else none
    |none=>none
  |none=>none
 else none
abbrev Inl:=Nat->(Nat->Bool)->List PA->List PO->(β:Type)->(PA->List PO->Option β)->Option β
def znx:List (Nat⊕List DV)->List PA
 | []=>[]
 | .inl k::l=>pc (.ptr k 0)::znx l
 | .inr xs::l=>pd (.fp xs 0)::znx l
def zb4(tab:Nat->Bool)(ρ:Nat->PA)(o:Oper):Option (Nat×List PA):=
 match o.guard with
 |some _=>none
 |none=>
  match comp P o.op with
  |some (.call f args)=>
   match f with
   | .func g=>bif tab g then match pvs ρ args with|some az=>some (g,az)|none=>none else none
   |f=>
    match pv ρ f,pvs ρ args with
    |some (.s (.one (.clo g caps))),some az=>bif tab g then some (g,az++znx caps) else none
    |_,_=>none
  |_=>none
def zkM:Nat:=1000000
def zhT:Nat:=2000000
def zwa(ρ:Nat->PA)(os:List PO)(o:Oper):Option (Nat×List PA):=
 match comp P o.op with
 |some (.call f args)=>
  match pv ρ f,pvs ρ args with
  |some (.s (.one (.own k))),some az=>match og os k with | .lop ..=>some (k,az)|_=>none
  |_,_=>none
 |_=>none
def zj6(tab:Nat->Bool)(Y:Inl){β:Type}(lk:Nat->Bool)(nt:Nat)(ops:Array Oper):List Oper->(Nat->PA)->List PO->((Nat->PA)->List PO->Option β)->Option β
 | [],ρ,os,K=>K ρ os
 |o::l,ρ,os,K=>
  match zb4 P tab ρ o with
  |some (g,az)=>bif inT nt o.dst then Y g lk az os β (fun a os'=>zj6 tab Y lk nt ops l (jZ ρ a o.dst) os' K) else none
  |none=>
  match zwa P ρ os o with
  |some (k,az)=>
   bif inT nt o.dst then
    match o.guard with
    |none=>Y (zhT+k) lk az os β (fun a os'=>zj6 tab Y lk nt ops l (jZ ρ a o.dst) os' K)
    |some (j,b)=>
     match (ops[j]?).bind (·.dst) with
     |some d=>
      bif Nat.ble (Nat.succ d) nt then
       match ρ d with
       | .s (.one (.d v))=>
        bif b then ifB v (Y (zhT+k) lk az os β (fun a os'=>zj6 tab Y lk nt ops l (jZ (refine ρ (some (d,true))) a o.dst) os' K)) (zj6 tab Y lk nt ops l (jZ (refine ρ (some (d,false))) .undef o.dst) os K)
        else ifB v (zj6 tab Y lk nt ops l (jZ (refine ρ (some (d,true))) .undef o.dst) os K) (Y (zhT+k) lk az os β (fun a os'=>zj6 tab Y lk nt ops l (jZ (refine ρ (some (d,false))) a o.dst) os' K))
       | .undef=>zj6 tab Y lk nt ops l (jZ ρ .undef o.dst) os K
       |_=>none
      else none
     |none=>none
   else none
  |none=>j0 P O lk nt ops o ρ os fun ref a os' _ _=>zj6 tab Y lk nt ops l (jZ (refine ρ ref) a o.dst) os' K
def zwp{β:Type}(a:(Nat->PA)->List PO->Option β)(k:Zg->(Nat->PA)->List PO->Option β):Zg->(Nat->PA)->List PO->Option β
 | .normal,ρ,os=>a ρ os
 | .exit id,ρ,os=>k (.exit id) ρ os
 | .ret,ρ,os=>k .ret ρ os
def zyd{β:Type}(id:Nat)(k:Zg->(Nat->PA)->List PO->Option β):Zg->(Nat->PA)->List PO->Option β
 | .exit id',ρ,os=>bif Nat.beq id' id then k .normal ρ os else k (.exit id') ρ os
 | .normal,ρ,os=>k .normal ρ os
 | .ret,ρ,os=>k .ret ρ os
def jg:Code->Nat
 | .seq a b=>jg a+jg b
 | .cond _ a b=>jg a+jg b
 | .block _ c=>jg c
 | .loop c=>jg c+1
 | .rangeFunc ..=>1
 |_=>0
def kq:Code->Bool
 | .seq a b=>kq a||kq b
 | .cond _ a b=>kq a||kq b
 | .block _ c=>kq c
 | .loop c=>kq c
 | .rangeFunc _ _ _ c=>kq c
 | .ret=>true
 |_=>false
abbrev PX:=Zg×List DV×List OC
def wp(f:List DV->List OC->Option PX):Nat->List DV->List OC->Option PX
 |0,_,_=>none
 |n+1,L,M=>
  match f L M with
  |some (.normal,L',M')=>wp f n L' M'
  |x=>x
open Classical in
noncomputable def z6(f:List DV->List OC->Option PX)(L:List DV)(M:List OC):Option PX:=
 if h:∃n y,wp f n L M=some y then some (Classical.choose (Classical.choose_spec h)) else none
def xa{β:Type}(x:Option PX)(kx:Nat->List DV->List OC->Option β)(kr:List DV->List OC->Option β):Option β:=
 match x with
 |some (.exit id,L,M)=>kx id L M
 |some (.ret,L,M)=>kr L M
 |_=>none
def zeq(la:LA)(n0:Nat)(k:Nat):Bool:=Nat.ble (Nat.succ k) n0 && !listed la k
def free(lk:Nat->Bool)(la:LA):Bool:=(la.boxes.all fun x=>!lk x.1)&&(la.arrs.all fun x=>!lk x.1)&&((zep la.own).all fun t=>!lk t)
def zof(lk:Nat->Bool)(n0:Nat)(la:LA)(e:Zg)(ρ:Nat->PA)(os:List PO):Option PX:=
 match vec lk (fun m=>Nat.ble n0 m) la e ρ os with
 |some (_,L,M,_)=>some (e,L,M)
 |none=>none
end
theorem zdb{f:List DV->List OC->Option PX}:∀{n m:Nat} {L:List DV} {M:List OC} {x y:PX},wp f n L M=some x->wp f m L M=some y->x=y
 |0,_,_,_,_,_,e,_=>by cases e
 |_+1,0,_,_,_,_,_,e=>by cases e
 |n+1,m+1,L,M,x,y,e,e'=>by
  simp only[wp]at e e';rcases h:f L M with _|q
  .grind
  obtain⟨ex,L',M'⟩:=q;rw[h]at e e';cases ex with
  |normal=>exact zdb e e'
  |exit id=>grind
  |ret=>grind
theorem zbD{f:List DV->List OC->Option PX}{L:List DV}{M:List OC}{x:PX}:z6 f L M=some x↔∃n,wp f n L M=some x:=by
 unfold z6
 constructor
 .intro e;split at e<;>grind
 rintro⟨n,e⟩
 have h:∃n y,wp f n L M=some y:=⟨n,x,e⟩;rw[dif_pos h]
 grind[zdb]
theorem zad(f:List DV->List OC->Option PX)(L:List DV)(M:List OC):z6 f L M=match f L M with|some (.normal,L',M')=>z6 f L' M'|x=>x:=by
  apply Option.ext;intro y;rw[zbD];cases h:f L M with
  | none => simp only; constructor
            · rintro⟨n,e⟩;cases n<;>simp[wp,h]at e
            simp
  |some q=>
    obtain⟨ex,L',M'⟩:=q;cases ex with
    |normal=>
      simp only[zbD]
      constructor
      · rintro⟨n,e⟩
        cases n<;>grind[wp]
      rintro⟨n,e⟩;exact⟨n+1,by grind[wp]⟩
    |exit id=>
      simp only
      constructor
      · rintro⟨n,e⟩
        cases n<;>grind[wp]
      intro e;exact⟨1,by grind[wp]⟩
    |ret=>
      simp only
      constructor
      · rintro⟨n,e⟩
        cases n<;>grind[wp]
      intro e;exact⟨1,by grind[wp]⟩
section
variable {P:Program} {O:Orc} {C:Nat->zc} {E:En}
theorem jW{N:Nm}{r:Fr}{ρ:Nat->PA}(F:∀i,RepPA N (r i) (ρ i)){d:Nat}{b:Bool}(h:r d=.s (.one (.bool b))):∀i,RepPA N (r i) (refine ρ (some (d,b)) i):=by
 intro i;show RepPA N (r i) (bif Nat.beq i d then pd (.bool b) else ρ i);cases hb:Nat.beq i d
 .exact F i
 have:=Lz1 hb;subst this;rw[h];exact yA rfl
theorem jI{N:Nm}{r:Fr}{ρ:Nat->PA}(F:∀i,RepPA N (r i) (ρ i)){v:Zb}{a:PA}(h:RepPA N v a)(dst:Option Nat):∀i,RepPA N (vM r v dst i) (jZ ρ a dst i):=by
 intro i;rcases dst with _|d
 .exact F i
 show RepPA N (bif Nat.beq i d then v else r i) (bif Nat.beq i d then a else ρ i)
 grind
theorem zb5{β:Type}{v:DV}{a b:Option β}{x:β}(e:ifB v a b=some x):∃q,v=.bool q/\(bif q then a else b)=some x:=by
 cases v<;>first|cases e|skip
 rename_i q;exact⟨q,rfl,e⟩
theorem zeb(hO:uW O C){β:Type}{lk:Nat->Bool}{nt:Nat}{ops:Array Oper}{o:Oper}{ρ:Nat->PA}{os:List PO}{N:Nm}{r:Fr}{K:Option (Nat×Bool)->KT β}{x:β}(I:Zd E N os)(F:∀i,RepPA N (r i) (ρ i))(hlk:∀j,lk j=true->j<os.length)
  (e:j0 P O lk nt ops o ρ os K=some x):∃ref a os' wr rd,K ref a os' wr rd=some x/\(∀i,RepPA N (r i) (refine ρ ref i))/\
   Ev (fun n=>z9 P nt ops o (C n) r N.h) (fun p=>∃N',N'.h=p.2/\Sim E lk N os wr N' os' p.1 a):=by
 unfold j0 at e;cases hT:inT nt o.dst
 .grind
 rw[hT]at e;simp only[Yza]at e;rcases hc:comp P o.op with _|ko
 .grind
 rw[hc]at e;simp only at e;rcases hg:o.guard with _|gb
 .rw[hg]at e;obtain⟨a,os',wr,rd,h1,h2⟩:=zqh hO I F hlk e;refine⟨none,a,os',wr,rd,h1,F,?_⟩
  grind[z9,zaP]
 obtain⟨j,b⟩:=gb;rw[hg]at e;simp only at e;rcases hd:(ops[j]?).bind (·.dst) with _|d
 .grind
 rw[hd]at e;simp only at e;cases hb:Nat.ble (Nat.succ d) nt
 .grind
 rw[hb]at e;simp only[Yza]at e;have run:∀call,z9 P nt ops o call r N.h=bif zdM (r d) b then runK r ko call N.h else some (zP,N.h):=fun call=>by
  unfold z9;rw[hT,hg];simp only[Yza]
  grind[zaP]
 split at e
 .rename_i v hρ;have hrd:=F d;rw[hρ]at hrd;have key:∀q,v=.bool q->(if q=b then pOp O lk (ztb P o.dst o.type) (refine ρ (some (d,q))) os ko (K (some (d,q))) else K (some (d,q)) .undef os [] [])=some x->(∃ref a os' wr rd,K ref a os' wr rd=some x/\(∀i,RepPA N (r i) (refine ρ ref i))/\
    Ev (fun n=>z9 P nt ops o (C n) r N.h) (fun p=>∃N',N'.h=p.2/\Sim E lk N os wr N' os' p.1 a)):=fun q hq e2=>by
   subst hq;have hr:=z7 hrd (c:=.bool q) rfl;have F':=jW F hr;by_cases hqb:q=b
   .rw[Yzd hqb]at e2;obtain⟨a,os',wr,rd,h1,h2⟩:=zqh hO I F' hlk e2
    grind[zdM]
   rw[Yzb hqb]at e2;refine⟨some (d,q),.undef,os,[],[],e2,F',⟨(zP,N.h),⟨N,rfl,.quiet I rfl⟩,0,fun n _=>?_⟩⟩;show z9 P nt ops o (C n) r N.h=_;rw[run,hr];have:zdM (.s (.one (.bool q))) b=false:=by cases q<;>cases b<;>first|rfl|exact absurd rfl hqb
   grind
  cases b
  .obtain⟨q,rfl,e⟩:=zb5 e
   grind
  obtain⟨q,rfl,e⟩:=zb5 e
  grind
 .rename_i hρ;have hrd:r d=zP:=by
   have:=F d;rw[hρ]at this;trivial
  refine⟨none,.undef,os,[],[],e,F,⟨(zP,N.h),⟨N,rfl,.quiet I rfl⟩,0,fun n _=>?_⟩⟩;show z9 P nt ops o (C n) r N.h=_;rw[run,hrd];rfl
 cases e
def sameO(a b:PO):Prop:=b=a\/∃nt ρ ps A B lbl n,a=.lop nt ρ ps A B lbl (.int .i64 (-1))/\b=.lop nt ρ ps A B lbl (.int .i64 (.ofNat n))
theorem sameO.refl(a:PO):sameO a a:=.inl rfl
theorem sameO.of{a b:PO}(h:b=a):sameO a b:=.inl h
theorem sameO.trans{a b c:PO}(h:sameO a b)(k:sameO b c):sameO a c:=by
 rcases h with rfl|⟨nt,ρ,ps,A,B,lbl,n,rfl,rfl⟩
 .exact k
 rcases k with rfl|⟨nt',ρ',ps',A',B',lbl',n',h,rfl⟩
 .exact .inr ⟨_,_,_,_,_,_,_,rfl,rfl⟩
 cases h
structure Zp (tab:Nat->Bool) (Y:Inl) (C:Nat->zc):Prop where
 o:∀{β:Type} {E:En} {lk:Nat->Bool} {N:Nm} {os:List PO} {g:Nat} {az:List PA} {vs:List Zb} {K:PA->List PO->Option β} {x:β},tab g=true->Zd E N os->RepPAL N vs az->(∀j,lk j=true->j<os.length)->Y g lk az os β K=some x->
  ∃a os',K a os'=some x/\Ev (fun n=>C n (.inl g) vs N.h) (fun p=>∃N',N'.h=p.2/\Zd E N' os'/\Nx N N'/\(∀j,lk j=true->sameO (og os j) (og os' j))/\RepPA N' p.1 a)
 m:∀{β:Type} {E:En} {lk:Nat->Bool} {N:Nm} {os:List PO} {g j:Nat} {az:List PA} {vs:List Zb} {K:PA->List PO->Option β} {x:β},tab g=true->Zd E N os->RepPAL N vs (pc (.own j)::az)->Y (zkM+g) lk (pc (.own j)::az) os β K=some x->
  ∃a os',K a os'=some x/\Ev (fun n=>C n (.inl g) vs N.h) (fun p=>∃N',N'.h=p.2/\Sim E lk N os [j] N' os' p.1 a)
 y:∀{β:Type} {E:En} {lk:Nat->Bool} {N:Nm} {os:List PO} {k nt lbl:Nat} {ρ:Nat->PA} {ps:List Nat} {A B:Code} {st:DV} {l:BN} {az:List PA} {vs:List Zb} {K:PA->List PO->Option β} {x:β},og os k=.lop nt ρ ps A B lbl st->N.μ k=.yld l->Zd E N os->RepPAL N vs az->(∀j,lk j=true->j<os.length)->Y (zhT+k) lk az os β K=some x->
  ∃a os',K a os'=some x/\Ev (fun n=>C n (.inr l) vs N.h) (fun p=>∃N',N'.h=p.2/\Zd E N' os'/\Nx N N'/\(∀j,lk j=true->sameO (og os j) (og os' j))/\RepPA N' p.1 a)
theorem RepPAL.app{N:Nm}:∀{a b:List Zb} {x y:List PA},RepPAL N a x->RepPAL N b y->RepPAL N (a++b) (x++y)
 | [],_,[],_,_,H=>H
 |_::_,_,_::_,_,H,K=>⟨H.1,RepPAL.app H.2 K⟩
 | [],_,_::_,_,H,_=>H.elim
 |_::_,_,[],_,H,_=>H.elim
theorem zbl{N:Nm}:∀{ps:List (BN×Nat)} {xs:List (Nat⊕List DV)},RepCaps N ps xs->RepPAL N (ps.map fun(p:BN×Nat)=>Zb.s (.one (.ptr p.1 p.2))) (znx xs)
 | [],[],_=>trivial
 |p::ps,.inl k::xs,H=>⟨RepPA.of (v:=.one (.ptr p.1 p.2)) (p:=.one (.ptr k 0)) ⟨H.1.1,p.1,H.1.2.1,by rw[H.1.2.2]⟩,zbl H.2⟩
 |p::ps,.inr y::xs,H=>⟨RepPA.of (v:=.one (.ptr p.1 p.2)) (p:=.one (.d (.fp y 0))) H.1,zbl H.2⟩
 | [],_::_,H=>H.elim
 |_::_,[],H=>H.elim
theorem zjs{N:Nm}:∀{ps:List (BN×Nat)} {caps:List (List DV)},RepL N.fz N.h (ps.map fun p=>.ptr p.1 p.2) (caps.map fun x=>.fp x 0)->RepPAL N (ps.map fun(p:BN×Nat)=>Zb.s (.one (.ptr p.1 p.2))) (caps.map fun x=>pd (.fp x 0))
 | [],[],_=>trivial
 |p::ps,y::caps,H=>⟨ug H.inv.1,zjs H.inv.2⟩
 | [],_::_,H=>by have:=H.1;trivial
 |_::_,[],H=>by have:=H.1;trivial
theorem qE{tab:Nat->Bool}{N:Nm}{r:Fr}{ρ:Nat->PA}{o:Oper}{g nt:Nat}{az:List PA}{ops:Array Oper}(F:∀i,RepPA N (r i) (ρ i))(e:zb4 P tab ρ o=some (g,az))(hT:inT nt o.dst=true):
  tab g=true/\∃vs,RepPAL N vs az/\∀call h,z9 P nt ops o call r h=call (.inl g) vs h:=by
 unfold zb4 at e;cases hg:o.guard
 case some=>grind
 rw[hg]at e;simp only at e;rcases hc:comp P o.op with _|ko
 .grind
 rw[hc]at e;have step:∀call h,z9 P nt ops o call r h=runK r ko call h:=fun call h=>by grind[z9,zaP]
 cases ko<;>first|(cases (show (none:Option (Nat×List PA))=some (g,az) from e);done)|skip
 rename_i f args;have fin:∀(g':Nat) (ps:List (BN×Nat)) (vs:List Zb),kv r f=some (.s (.one (.fn g' ps)))->kvs r args=some vs->∀call h,runK r (.call f args) call h=call (.inl g') (vs++ps.map fun(p:BN×Nat)=>Zb.s (.one (.ptr p.1 p.2))) h:=by intro g' ps vs h1 h2 call h;simp only[runK,h1,h2,zx];show call (.inl g') ((cL vs).map (fun x=>x .nil)++ps.map fun(p:BN×Nat)=>Zb.s (.one (.ptr p.1 p.2))) h=_;rw[zf9]
 simp only at e;split at e
 .rename_i g';cases ht:tab g'
  .grind
  rw[ht]at e;simp only[Yza]at e;rcases h2:pvs ρ args with _|as'
  .grind
  rw[h2]at e;cases e;obtain⟨v,k1,k2⟩:=x4 (x:=.func g) (a:=pd (.fn g [])) F rfl;obtain⟨vs,k3,k4⟩:=zda F h2;obtain⟨w,rfl,hw⟩:=wa k2;obtain⟨ps,rfl,hps⟩:=Rep.fn_inv hw;cases ps with
  |cons p ps=>trivial
  |nil=>grind
 split at e
 .rename_i g' caps as' h1 h2;cases ht:tab g'
  .grind
  rw[ht]at e;cases e;obtain⟨v,k1,k2⟩:=x4 F h1;obtain⟨vs,k3,k4⟩:=zda F h2;obtain⟨w,rfl,hw⟩:=zQ k2;obtain⟨ps,rfl,hps⟩:=hw;exact⟨ht,_,k4.app (zbl hps),fun call h=>(step call h).trans (fin _ _ _ k1 k3 call h)⟩
 cases e
theorem zsp{N:Nm}{r:Fr}{ρ:Nat->PA}{os:List PO}{o:Oper}{k:Nat}{az:List PA}(I:Zd E N os)(F:∀i,RepPA N (r i) (ρ i))(e:zwa P ρ os o=some (k,az)):
  ∃ko vs nt' ρ' ps A B lbl st l,comp P o.op=some ko/\RepPAL N vs az/\og os k=.lop nt' ρ' ps A B lbl st/\N.μ k=.yld l/\∀call h,runK r ko call h=call (.inr l) vs h:=by
 unfold zwa at e;rcases hc:comp P o.op with _|ko
 .grind
 rw[hc]at e;cases ko<;>first|(cases (show (none:Option (Nat×List PA))=some (k,az) from e);done)|skip
 rename_i f args;simp only at e;split at e
 .rename_i k' as' h1 h2;split at e
  .rename_i nt' ρ' ps A B lbl st ho;cases e;obtain⟨v,k1,k2⟩:=x4 F h1;obtain⟨vs,k3,k4⟩:=zda F h2;obtain⟨w,rfl,hw⟩:=zQ k2;have hR:=I.obj k;rw[ho]at hR;obtain⟨l,_,_,_,_,_,_,hl,_⟩:=hR;refine⟨_,vs,nt',ρ',ps,A,B,lbl,st,l,rfl,k4,ho,hl,fun call h=>?_⟩;have hwl:w=.yld l:=hw.2.trans hl;subst hwl;simp only[runK,k1,k3,zx];show call (.inr l) ((cL vs).map (fun x=>x .nil)) h=_;rw[zf9]
  cases e
 cases e
theorem zbI(hO:uW O C){tab:Nat->Bool}{Y:Inl}(hY:Zp tab Y C){β γ:Type}{Q:γ->Prop}{lk:Nat->Bool}{nt:Nat}{ops:Array Oper}{x:β}{K:(Nat->PA)->List PO->Option β}{kk:Nat->Fr->Za->Option γ}:∀(l:List Oper) (ρ:Nat->PA) (os:List PO) (N:Nm) (r:Fr),
  zj6 P O tab Y lk nt ops l ρ os K=some x->Zd E N os->(∀i,RepPA N (r i) (ρ i))->(∀j,lk j=true->j<os.length)->
  (∀ρ' os' N' r',K ρ' os'=some x->Zd E N' os'->(∀i,RepPA N' (r' i) (ρ' i))->Nx N N'->(∀j,lk j=true->sameO (og os j) (og os' j))->(∀i,i∉l.filterMap (·.dst)->r' i=r i)->Ev (fun n=>kk n r' N'.h) Q)->
  Ev (fun n=>zew P nt ops (C n) l r N.h (kk n)) Q
 | [],ρ,os,N,r,e,I,F,hlk,H=>H ρ os N r e I F (.refl N) (fun _ _=>.refl _) (fun _ _=>rfl)
 |o::l,ρ,os,N,r,e,I,F,hlk,H=>by
  simp only[zj6]at e;cases hi:zb4 P tab ρ o with
  |some q=>
   obtain⟨g,az⟩:=q;rw[hi]at e;simp only at e;cases hT:inT nt o.dst
   .grind
   rw[hT,Yza]at e;obtain⟨ht,vs,rvs,run⟩:=qE (ops:=ops) F hi hT;obtain⟨a,os',e1,ev⟩:=hY.o ht I rvs hlk e;have:(fun n=>zew P nt ops (C n) (o::l) r N.h (kk n))=fun n=>CE.bindR (C n (.inl g) vs N.h) fun v h'=>zew P nt ops (C n) l (vM r v o.dst) h' (kk n):=by grind[jn]
   rw[this];refine Ev.bindR (ev.mono ?_)
   rintro⟨v,h'⟩ ⟨N',hh,i1,i2,i3,i4⟩
   simp only at hh i4 ⊢;subst hh;refine zbI hO hY l _ os' N' (vM r v o.dst) e1 i1 (jI (fun i=>(F i).mono i2) i4 o.dst) (fun j hj=>?_) (fun ρ2 os2 N2 r2 k1 k2 k3 k4 k5 k6=>?_)
   .have h1:=i2.le;rw[i1.len,I.len]at h1
    grind
   refine H ρ2 os2 N2 r2 k1 k2 k3 (i2.trans k4) (fun j hj=>(i3 j hj).trans (k5 j hj)) (fun i hi=>?_)
   grind[xe]
  |none=>
  rw[hi]at e;simp only at e;cases hy:zwa P ρ os o with
  |some q=>
   obtain⟨k,az⟩:=q;rw[hy]at e;simp only at e;cases hT:inT nt o.dst
   .grind
   rw[hT,Yza]at e;obtain⟨ko,vs,nt',ρ',ps,A,B,lbl,st,lb,hc,rvs,ho,hl,run⟩:=zsp I F hy;have go:∀(ref:Option (Nat×Bool)),(∀i,RepPA N (r i) (refine ρ ref i))->(∀n,z9 P nt ops o (C n) r N.h=C n (.inr lb) vs N.h)->Y (zhT+k) lk az os β (fun a os'=>zj6 P O tab Y lk nt ops l (jZ (refine ρ ref) a o.dst) os' K)=some x->Ev (fun n=>zew P nt ops (C n) (o::l) r N.h (kk n)) Q:=by
    intro ref F1 hrun e;obtain⟨a,os',e1,ev⟩:=hY.y ho hl I rvs hlk e;have:(fun n=>zew P nt ops (C n) (o::l) r N.h (kk n))=fun n=>CE.bindR (C n (.inr lb) vs N.h) fun v h'=>zew P nt ops (C n) l (vM r v o.dst) h' (kk n):=by grind[jn]
    rw[this];refine Ev.bindR (ev.mono ?_)
    rintro⟨v,h'⟩ ⟨N',hh,i1,i2,i3,i4⟩
    simp only at hh i4 ⊢;subst hh;refine zbI hO hY l _ os' N' (vM r v o.dst) e1 i1 (jI (fun i=>(F1 i).mono i2) i4 o.dst) (fun j hj=>?_) (fun ρ2 os2 N2 r2 k1 k2 k3 k4 k5 k6=>?_)
    .have h1:=i2.le;rw[i1.len,I.len]at h1
     grind
    refine H ρ2 os2 N2 r2 k1 k2 k3 (i2.trans k4) (fun j hj=>(i3 j hj).trans (k5 j hj)) (fun i hi=>?_)
    grind[xe]
   have pass:∀(ref:Option (Nat×Bool)),(∀i,RepPA N (r i) (refine ρ ref i))->(∀n,z9 P nt ops o (C n) r N.h=some (zP,N.h))->zj6 P O tab Y lk nt ops l (jZ (refine ρ ref) .undef o.dst) os K=some x->Ev (fun n=>zew P nt ops (C n) (o::l) r N.h (kk n)) Q:=by
    intro ref F1 hrun e;have:(fun n=>zew P nt ops (C n) (o::l) r N.h (kk n))=fun n=>zew P nt ops (C n) l (vM r zP o.dst) N.h (kk n):=by
     funext n
     rw[jn,hrun];rfl
    rw[this];refine zbI hO hY l _ os N (vM r zP o.dst) e I (jI F1 (show RepPA N zP .undef from rfl) o.dst) hlk (fun ρ2 os2 N2 r2 k1 k2 k3 k4 k5 k6=>?_);refine H ρ2 os2 N2 r2 k1 k2 k3 k4 k5 (fun i hi=>?_)
    grind[xe]
   rcases hg:o.guard with _|gb
   .rw[hg]at e;refine go none F (fun n=>?_) e;simp_all[z9,zaP]
   obtain⟨j,b⟩:=gb;rw[hg]at e;simp only at e;rcases hd:(ops[j]?).bind (·.dst) with _|d
   .grind
   rw[hd]at e;simp only at e;cases hb:Nat.ble (Nat.succ d) nt
   .grind
   rw[hb]at e;simp only[Yza]at e;have krun:∀call,z9 P nt ops o call r N.h=bif zdM (r d) b then runK r ko call N.h else some (zP,N.h):=fun call=>by
    unfold z9;rw[hT,hg];simp only[Yza]
    grind[zaP]
   split at e
   .rename_i v hρ;have hrd:=F d;rw[hρ]at hrd;cases b
    .obtain⟨q,rfl,e⟩:=zb5 e;have hr:=z7 hrd (c:=.bool q) rfl;have F':=jW F hr;cases q
     case true=>exact pass _ F' (fun n=>by rw[krun,hr];rfl) e
     exact go _ F' (fun n=>by rw[krun,hr];exact run _ _) e
    obtain⟨q,rfl,e⟩:=zb5 e;have hr:=z7 hrd (c:=.bool q) rfl;have F':=jW F hr;cases q
    .exact pass _ F' (fun n=>by rw[krun,hr];rfl) e
    exact go _ F' (fun n=>by rw[krun,hr];exact run _ _) e
   .rename_i hρ;have hrd:r d=zP:=by
     have:=F d;rw[hρ]at this;exact this
    exact pass none F (fun n=>by rw[krun,hrd];rfl) e
   cases e
  |none=>
  rw[hy]at e;simp only at e;obtain⟨ref,a,os',wr,rd,e1,F1,ev⟩:=zeb hO I F hlk e;have:(fun n=>zew P nt ops (C n) (o::l) r N.h (kk n))=fun n=>CE.bindR (z9 P nt ops o (C n) r N.h) fun v h'=>zew P nt ops (C n) l (vM r v o.dst) h' (kk n):=by grind[jn]
  rw[this];refine Ev.bindR (ev.mono ?_)
  rintro⟨v,h'⟩ ⟨N',hh,S⟩
  simp only at hh S ⊢;subst hh;refine zbI hO hY l _ os' N' (vM r v o.dst) e1 S.inv (jI (fun i=>(F1 i).mono S.nx) S.val o.dst) (fun j hj=>?_) (fun ρ2 os2 N2 r2 k1 k2 k3 k4 k5 k6=>?_)
  .have h1:=S.nx.le;rw[S.inv.len,I.len]at h1
   grind
  refine H ρ2 os2 N2 r2 k1 k2 k3 (S.nx.trans k4) (fun j hj=>(sameO.of (S.lock j hj)).trans (k5 j hj)) (fun i hi=>?_)
  grind[xe]
theorem zrR{la:LA}{n0 k:Nat}(h:zeq la n0 k=true):k<n0/\listed la k=false:=by unfold zeq at h;rw[LzC,Yzr]at h;exact⟨Lz4 h.1,h.2⟩
theorem zsA{D:List Pl}{Ow:List (Pl×Nat)}{la:LA}{B:List PO}{L:List DV}{M:List OC}{n0:Nat}(h:B.length=n0):n0<=(hOs D Ow la B n0 L M).length:=by grind[hOs,qI,qK,uo]
theorem zev:∀(ms:List (Option Nat)) (os:List PO),(kill ms os).length=os.length
 | [],_=>rfl
 |none::ms,os=>zev ms os
 |some m::ms,os=>by simp only[kill];rw[zev ms,zX]
theorem wU:∀(ms:List (Option Nat)) (os:List PO) (k:Nat),(some k∈ms/\og (kill ms os) k=.dead)\/(some k∉ms/\og (kill ms os) k=og os k)
 | [],os,k=>.inr ⟨by simp,rfl⟩
 |none::ms,os,k=>by simp only[kill];rcases wU ms os k with⟨a,b⟩|⟨a,b⟩<;>grind
 |some m::ms,os,k=>by simp only[kill];rcases wU ms (oset .dead os m) k with⟨a,b⟩|⟨a,b⟩<;>grind[zw,za3]
end
end Go.PE
end
section
namespace Go.PE
open Go Go.CE
theorem kH{h h2 h':Za}{c:Option Zc}{v:Zb}(e:qZ h c=some (v,h')):qZ h2 c=some (v,h2):=by cases c<;>cases e;rfl
theorem zgT{h h2 h':Za}{c:Option (List Zc)}{v:Zb}(e:zd1 h c=some (v,h')):zd1 h2 c=some (v,h2):=by cases c<;>cases e;rfl
theorem zd7{h h2 h':Za}{n:Option Nat}{cs:List Zc}{off:Nat}{v:Zb}(e:CE.part n cs off h=some (v,h')):CE.part n cs off h2=some (v,h2):=by
 rcases n with _|n
 .exact kH e
 exact zgT e
theorem zlk{h h2 h':Za}{w v:Zb}(e:some (w,h)=some (v,h')):(some (w,h2):Res)=some (v,h2):=by grind
theorem znG{h' h2:Za}{b:Bool}{x y:Res}{v:Zb}(e:(bif b then x else none)=some (v,h'))(H:x=some (v,h')->y=some (v,h2)):(bif b then y else none)=some (v,h2):=by grind
section
variable {h h2 h':Za} {v:Zb}
theorem zst{c a b:Zb}(e:zog c a b h=some (v,h')):zog c a b h2=some (v,h2):=by unfold zog u4 zn at e ⊢;split at e<;>grind
theorem zpC{zs:List Zc}{l:List (Nat×Nat×Zb)}(e:zk2 zs l h=some (v,h')):zk2 zs l h2=some (v,h2):=zgT e
theorem zpx{x:Zb}(e:zh3 x h=some (v,h')):zh3 x h2=some (v,h2):=by unfold zh3 vq zn at e ⊢;split at e<;>grind
theorem zu0{g:IntKind->Int->Int->Option Zc}{x y:Zb}(e:zvO g x y h=some (v,h')):zvO g x y h2=some (v,h2):=by
 unfold zvO za2 zn at e ⊢;split at e
 .split at e
  .exact znG e kH
  cases e
 cases e
theorem zpw{g:IntKind->Int->Int->Option Zc}{x y:Zb}(e:zh2 g x y h=some (v,h')):zh2 g x y h2=some (v,h2):=by
 unfold zh2 wt zn at e ⊢;split at e
 .split at e<;>grind[kH]
 cases e
theorem zuW{op:BinOp}{x y:Zb}(e:zvK op x y h=some (v,h')):zvK op x y h2=some (v,h2):=by unfold zvK zbN zn at e ⊢;split at e<;>grind[kH]
theorem zsu{neg:Bool}{x y:Zb}(e:zk0 neg x y h=some (v,h')):zk0 neg x y h2=some (v,h2):=by grind[zk0,ui]
theorem zxr{q:Nat⊕List Nat}{neg:Bool}{x y:Zb}(e:vEq q neg x y h=some (v,h')):vEq q neg x y h2=some (v,h2):=by grind[vEq,ziE]
theorem zuX{x:Zb}(e:zvL x h=some (v,h')):zvL x h2=some (v,h2):=by unfold zvL zbO zn at e ⊢;split at e<;>grind
theorem zuY{x:Zb}(e:zvM x h=some (v,h')):zvM x h2=some (v,h2):=by unfold zvM zbP zn at e ⊢;split at e<;>grind
theorem zsz{t:IntKind}{x:Zb}(e:zom t x h=some (v,h')):zom t x h2=some (v,h2):=by unfold zom jd zn at e ⊢;split at e<;>grind
theorem zsv{f:Nat}{l:List Zb}(e:zoi f l h=some (v,h')):zoi f l h2=some (v,h2):=by unfold zoi u6 at e ⊢;split at e<;>grind
theorem zkt{st:Nat}{lo hi mx:Option Opd}{t:Tr Zb}{b:BN}{off len cap:Nat}(e:y2 st lo hi mx t h b off len cap=some (v,h')):y2 st lo hi mx t h2 b off len cap=some (v,h2):=by
 unfold y2 at e ⊢;split at e
 .split at e
  .split at e<;>grind
  cases e
 cases e
theorem zks{st:Nat}{lo hi mx:Option Opd}{t:Tr Zb}{b:BN}{off len cap:Nat}(e:yT st lo hi mx t h b off len cap=some (v,h')):yT st lo hi mx t h2 b off len cap=some (v,h2):=by
 unfold yT at e ⊢;split at e
 .split at e
  .split at e
   .split at e
    .split at e<;>grind
    cases e
   cases e
  cases e
 split at e
 .split at e<;>grind
 cases e
theorem zpv{st:Nat}{x:Zb}{lo hi mx:Option Zb}(e:wM st x lo hi mx h=some (v,h')):wM st x lo hi mx h2=some (v,h2):=by unfold wM vi zn at e ⊢;split at e<;>grind[xD,zkt,zks]
theorem zmV{x:Zb}{lo hi:Option Zb}(e:zdO x lo hi h=some (v,h')):zdO x lo hi h2=some (v,h2):=by
 unfold zdO xE zn at e ⊢;split at e
 .split at e
  .split at e<;>grind
  cases e
 cases e
theorem zsy{x:Zb}{off:Nat}(e:zol x off h=some (v,h')):zol x off h2=some (v,h2):=by unfold zol jc zn at e ⊢;split at e<;>grind
theorem zpB{x:Zb}{off:Nat}{n:Option Nat}(e:zh7 x off n h=some (v,h')):zh7 x off n h2=some (v,h2):=by unfold zh7 vA zn at e ⊢;split at e<;>grind[zd7]
theorem zuZ{st:Nat}{x i:Zb}(e:zvN st x i h=some (v,h')):zvN st x i h2=some (v,h2):=by
 unfold zvN zbS zn at e ⊢;split at e
 .split at e<;>grind
 cases e
theorem zpz{len st:Nat}{x i:Zb}(e:zh5 len st x i h=some (v,h')):zh5 len st x i h2=some (v,h2):=by
 unfold zh5 vu zn at e ⊢;split at e
 .split at e<;>grind
 .split at e<;>grind
 cases e
theorem zpA{len st:Nat}{n:Option Nat}{x i:Zb}(e:zh6 len st n x i h=some (v,h')):zh6 len st n x i h2=some (v,h2):=by
 unfold zh6 vz zn at e ⊢;split at e
 .split at e
  .exact znG e zd7
  cases e
 cases e
theorem zpy{x i:Zb}(e:zh4 x i h=some (v,h')):zh4 x i h2=some (v,h2):=by
 unfold zh4 vt zn at e ⊢;split at e
 .split at e<;>grind[kH]
 cases e
theorem zku{x:Zb}{i:Nat}(e:za7 x i h=some (v,h')):za7 x i h2=some (v,h2):=by
 unfold za7 xq zn at e ⊢;split at e
 .split at e<;>grind
 cases e
theorem zsw{x:Zb}(e:zok x h=some (v,h')):zok x h2=some (v,h2):=by unfold zok ja zn at e ⊢;split at e<;>grind
theorem zsx{x:Zb}(e:zk1 x h=some (v,h')):zk1 x h2=some (v,h2):=by grind[zk1,jb]
theorem zmW{m:Bool}{x:Zb}{xs:List Zb}(e:zdP m x xs h=some (v,h')):zdP m x xs h2=some (v,h2):=by
 unfold zdP yY zn at e ⊢;split at e
 .split at e<;>grind
 cases e
theorem xH{x:Option Zb}{K K2:Zb->Res}(e:zx x K=some (v,h'))(H:∀a,K a=some (v,h')->K2 a=some (v,h2)):zx x K2=some (v,h2):=by
 rcases x with _|a
 .cases e
 exact H a e
end
def kf:KOp->Bool
 | .mv _ | .pick .. | .build .. | .nilck _ | .bin .. | .shift .. | .str .. | .nilS .. | .eq .. | .not _ | .neg _ | .conv .. | .mkfn .. | .slice .. | .sslice .. | .foff .. | .field .. | .ixs .. | .ixarr .. | .ixagg .. | .ixstr .. | .extract .. | .lenS _ | .lenL _ | .minmax ..=>true
 |_=>false
theorem zov{r:Fr}{ko:KOp}(hs:kf ko=true){call call2:zc}{h h2 h':Za}{v:Zb}(e:runK r ko call h=some (v,h')):runK r ko call2 h2=some (v,h2):=by
 cases ko<;>first|(exfalso;exact Bool.noConfusion hs)|skip
 .exact xH e fun _=>zlk
 .exact xH e fun _ e=>xH e fun _ e=>xH e fun _=>zst
 .grind[runK,zpC]
 .exact xH e fun _=>zpx
 .exact xH e fun _ e=>xH e fun _=>zu0
 .exact xH e fun _ e=>xH e fun _=>zpw
 .exact xH e fun _ e=>xH e fun _=>zuW
 .exact xH e fun _ e=>xH e fun _=>zsu
 .exact xH e fun _ e=>xH e fun _=>zxr
 .exact xH e fun _=>zuX
 .exact xH e fun _=>zuY
 .exact xH e fun _=>zsz
 .grind[runK,zsv]
 .refine xH e fun _ e=>?_;split at e<;>grind[zpv]
 .refine xH e fun _ e=>?_;split at e<;>grind[zmV]
 .exact xH e fun _=>zsy
 .exact xH e fun _=>zpB
 .exact xH e fun _ e=>xH e fun _=>zuZ
 .exact xH e fun _ e=>xH e fun _=>zpz
 .exact xH e fun _ e=>xH e fun _=>zpA
 .exact xH e fun _ e=>xH e fun _=>zpy
 .exact xH e fun _=>zku
 .exact xH e fun _=>zsw
 .exact xH e fun _=>zsx
 refine xH e fun _ e=>?_;split at e<;>grind[zmW]
theorem zpk{n:Option Nat}{x v:Zb}{h h2 h':Za}(e:zoj n x h=some (v,h'))(H:∀b off,x=.s (.one (.ptr b off))->h2.t.get b=h.t.get b):zoj n x h2=some (v,h2):=by
 unfold zoj u7 zn at e ⊢;split at e
 .rename_i b off;have:=H b off rfl;rw[this];unfold loadAt at e ⊢;split at e
  .exact zd7 e
  .rcases n with _|n
   .exact kH e
   exact zgT e
  .exact zd7 e
  cases e
 .exact znG e kH
 cases e
theorem zrg{h h2 h':Za}{v:Zb}{l:Option (List Zc)}(e:zba h l=some (v,h')):zba h2 l=some (v,h2):=by
 unfold zba at e ⊢;split at e
 .split at e<;>grind
 cases e
theorem zsV{x v:Zb}{h h2 h':Za}(e:qv (zn x) yi .nil h=some (v,h'))(H:∀b off len cap ex,x=.s (.one (.slc b off len cap ex))->h2.t.get b=h.t.get b):qv (zn x) yi .nil h2=some (v,h2):=by
 unfold qv zn at e ⊢;split at e
 .exact zlk e
 .rename_i b off len cap ex;have:=H b off len cap ex rfl;rw[this];split at e<;>grind[zrg]
 cases e
end Go.PE
end
section
namespace Go.PE
open Go Go.CE
def zG(ρ:Nat->PA)(l:List Nat):Nat->PA:=fun i=>bif zkm i l then ρ i else .bad
def zdD(bo:Nat->Nat)(n:Nat):Option Nat->Nat->Nat
 |none=>bo
 |some d=>fun i=>bif Nat.beq i d then n else bo i
def bOf(bo:Nat->Nat):Operand->Nat
 | .tmp t=>bo t
 |_=>0
def okW(ws:List (List Nat))(lo hi:Nat)(rd:List Nat):Bool:=((ws.drop lo).take (hi-lo)).all fun w=>rd.all fun k=>!zkm k w
def zo5(os:List PO):Bool:=os.all fun o=>match o with | .lop ..=>false|_=>true
def zqF(n j:Nat):Bool:=Nat.ble (Nat.succ j) n
section
variable (P:Program) (O:Orc) (tab:Nat->Bool) (Y:Inl)
def zuI(ρ:Nat->PA)(o:Oper):List Oper->Option (Nat×List PA)
 | []=>zb4 P tab ρ o
 |_::_=>none
def zw3(ρ:Nat->PA)(o:Oper):Option (Nat×Nat×List PA):=
 match zb4 P tab ρ o with
 |some (g,az)=>
  match az with
  | .s (.one (.own j))::rest=>some (g,j,rest)
  |_=>none
 |none=>none
def pDr{β:Type}(lk:Nat->Bool)(nt:Nat)(ops:Array Oper)(bs:List Nat)(es:List Bool):Nat->List Oper->(Nat->PA)->List PO->(Nat->Nat)->List (List Nat)->List (Nat×Nat×List Nat)->((Nat->PA)->List PO->Option β)->Option β
 |_,[],ρ,os,_,ws,ps,K=>bif ps.all (fun p=>okW ws p.1 p.2.1 p.2.2) then K ρ os else none
 |i,o::l,ρ,os,bo,ws,ps,K=>
  bif yv P o.op then
   match comp P o.op with
   |none=>none
   |some ko=>
    bif kf ko then
     j0 P O (fun _=>true) nt ops o (zG ρ (o.looksAt ops)) os fun ref a _ _ _=>pDr lk nt ops bs es (Nat.succ i) l (jZ (refine ρ ref) a o.dst) os (zdD bo (match trk (refine (zG ρ (o.looksAt ops)) ref) ko with|some x=>bOf bo x|none=>ws.length) o.dst) ws ps K
    else
     match zfF ko with
     |none=>none
     |some x=>
      bif Nat.beq (ce (fun j=>bef bs j i) 0 es) (ce (fun j=>!bef bs i j) 0 es) then
       j0 P O (fun _=>true) nt ops o (zG ρ (o.looksAt ops)) os fun ref a _ _ _=>pDr lk nt ops bs es (Nat.succ i) l (jZ (refine ρ ref) a o.dst) os (zdD bo ws.length o.dst) ws ps K
      else
       bif Nat.ble (bOf bo x) (ce (fun j=>bef bs j i) 0 es)&&Nat.ble (ce (fun j=>bef bs j i) 0 es) ws.length&&Nat.ble ws.length (ce (fun j=>!bef bs i j) 0 es) then
        j0 P O (fun _=>true) nt ops o (zG ρ (o.looksAt ops)) os fun ref a _ _ rd=>pDr lk nt ops bs es (Nat.succ i) l (jZ (refine ρ ref) a o.dst) os (zdD bo ws.length o.dst) ws (ps++[(ce (fun j=>bef bs j i) 0 es,ce (fun j=>!bef bs i j) 0 es,rd)]) K
       else none
  else
   match zuI P tab (zG ρ (o.looksAt ops)) o l with
   |some (g,az)=>bif inT nt o.dst&&ps.all (fun p=>okW ws p.1 p.2.1 p.2.2&&Nat.ble p.2.1 ws.length) then Y g lk az os β (fun a os'=>K (jZ ρ a o.dst) os') else none
   |none=>
   match zw3 P tab (zG ρ (o.looksAt ops)) o with
   |some (g,j,az)=>bif inT nt o.dst then Y (zkM+g) lk (pc (.own j)::az) os β (fun a os'=>pDr lk nt ops bs es (Nat.succ i) l (jZ ρ a o.dst) os' (zdD bo (Nat.succ ws.length) o.dst) (ws++[[j]]) ps K) else none
   |none=>
   match zb4 P tab (zG ρ (o.looksAt ops)) o with
   |some (g,az)=>bif inT nt o.dst then Y g (zqF os.length) az (List.replicate os.length .dead) β (fun a os'=>pDr lk nt ops bs es (Nat.succ i) l (jZ ρ a o.dst) (os++os'.drop os.length) (zdD bo (Nat.succ ws.length) o.dst) (ws++[[]]) ps K) else none
   |none=>
   j0 P O lk nt ops o (zG ρ (o.looksAt ops)) os fun ref a os' wr _=>pDr lk nt ops bs es (Nat.succ i) l (jZ (refine ρ ref) a o.dst) os' (zdD bo (Nat.succ ws.length) o.dst) (ws++[wr]) ps K
end
section
variable {P:Program} {O:Orc} {C:Nat->zc} {E:En}
theorem zrp{β:Type}{N:Nm}{os:List PO}{r:Fr}{ρ:Nat->PA}{k:KT β}{x:β}{sh:Sh}(I:Zd E N os)(F:∀i,RepPA N (r i) (ρ i)){ko:KOp}(hq:kf ko=true\/∃y,zfF ko=some y)(e:pOp O (fun _=>true) sh ρ os ko k=some x):GoalQ N os r ρ ko k x:=by
 cases ko with
 |mv a=>exact zyf I F e
 |pick c a b=>exact zqk I F e
 |build zs parts=>exact zmf I F e
 |load n a=>exact zqn I F e
 |nilck a=>exact zl9 I F e
 |bin op a b=>exact zut I F e
 |shift l a b=>exact zl8 I F e
 |str op a b=>exact zul I F e
 |nilS neg a b=>exact zql I F e
 |eq q neg a b=>exact zyg I F e
 |not a=>exact zum I F e
 |neg a=>exact zun I F e
 |conv t a=>exact zqr I F e
 |b2s a=>exact zuu I F e
 |mkfn f caps=>exact zqm I F e
 |slice st a lo hi mx=>exact zl7 I F e
 |sslice a lo hi=>exact ziI I F e
 |foff a off=>exact zqq I F e
 |field a off n=>exact zme I F e
 |ixs st a i=>exact zur I F e
 |ixarr len st a i=>exact zmc I F e
 |ixagg len st n a i=>exact zmd I F e
 |ixstr a i=>exact zmb I F e
 |extract a i=>exact zfA I F e
 |lenS a=>exact zqo I F e
 |lenL a=>exact zqp I F e
 |minmax m a xs=>exact ziJ I F e
 |_=>rcases hq with h|⟨y,h⟩<;>cases h
def zxV(P:Program){β:Type}(nt:Nat)(ops:Array Oper)(o:Oper)(ko:KOp)(N:Nm)(os:List PO)(r:Fr)(ρ:Nat->PA)(K:Option (Nat×Bool)->KT β)(x:β):Prop:=
  ∃ref a rd v,K ref a os [] rd=some x/\(∀i,RepPA N (r i) (refine ρ ref i))/\RepPA N v a/\(∀call,z9 P nt ops o call r N.h=some (v,N.h))/\
    (∀xo,trk (refine ρ ref) ko=some xo->∀N':Nm,(∀t,xo=.tmp t->RepPA N' (r t) (refine ρ ref t))->RepPA N' v a)/\
    ((∀call h2,∃h',z9 P nt ops o call r h2=some (v,h'))\/(∃xo,zfF ko=some xo/\∃b:BN,(∀call h2,h2.t.get b=N.h.t.get b->∃h',z9 P nt ops o call r h2=some (v,h'))/\
      ((∃ j, rd = [j] /\ j < N.n /\ blk (N.μ j) = some b /\ held (og os j) /\ ∀ N' : Nm, (∀ t, xo = .tmp t -> RepPA N' (r t) (refine ρ ref t)) -> j < N'.n) \/
       (rd=[]/\∀N':Nm,(∀t,xo=.tmp t->RepPA N' (r t) (refine ρ ref t))->N'.fz b/\∃y,N'.h.t.get b=some y))))
theorem zf2{r:Fr}{ρ:Nat->PA}{xo:Operand}{N':Nm}(H:∀t,xo=Operand.tmp t->RepPA N' (r t) (ρ t)){u:Zb}{pa:PA}(hu:kv r xo=some u)(hpa:pv ρ xo=some pa):RepPA N' u pa:=by
 cases xo with
 |tmp t=>cases hu;cases hpa<;>grind
 |const cv=>
  simp only[kv]at hu;simp only[pv]at hpa;rcases hcv:znz cv with _|sv
  .grind
  rw[hcv]at hu hpa;cases hu;simp only at hpa;rcases hps:pvS sv with _|q
  .grind
  rw[hps]at hpa;cases hpa;exact .of (zlJ hps)
 |func f=>cases hu;cases hpa;exact ug (.fn_mk (.nil _ _))
 |global g=>cases hpa
theorem zio{β:Type}{nt:Nat}{ops:Array Oper}{o:Oper}{ρ:Nat->PA}{os:List PO}{N:Nm}{r:Fr}{K:Option (Nat×Bool)->KT β}{x:β}{sh:Sh}(I:Zd E N os){ko:KOp}(hq:kf ko=true\/∃y,zfF ko=some y)
  (ref:Option (Nat×Bool)) (F':∀i,RepPA N (r i) (refine ρ ref i)) (run:∀call h,z9 P nt ops o call r h=runK r ko call h) (e:pOp O (fun _=>true) sh (refine ρ ref) os ko (K ref)=some x):zxV P nt ops o ko N os r ρ K x:=by
 obtain⟨v,a,rd,h1,h2,h3,h4,h5⟩:=zrp I F' hq e;refine⟨ref,a,rd,v,h1,F',h3,fun call=>(run call N.h).trans (h2 call),?_,?_⟩
 .intro xo hxo N' H;have hk:∃u pa,kv r xo=some u/\pv (refine ρ ref) xo=some pa:=by
   cases hp:pv (refine ρ ref) xo
   case some=>obtain⟨u,hu,_⟩:=x4 F' hp;grind
   exfalso;have:∀y,trk (refine ρ ref) ko=some y->pv (refine ρ ref) y=none->False:=by
    intro y hy hp;cases ko<;>simp only[trk]at hy<;>first|cases hy|skip
    all_goals first
     |(simp only[pOp,hp,w1,za]at e;cases e;done)
     |(split at hy<;>first|(cases hy;simp only[pOp,hp,w1]at e;cases e;done)|cases hy)
   grind
  obtain⟨u,pa,hu,hpa⟩:=hk;exact h4 xo hxo N' u pa hu hpa (zf2 H hu hpa)
 rcases hq with hs|⟨y,hy⟩
 .exact .inl fun call h2'=>⟨h2',by rw[run];exact zov hs (h2 call)⟩
 obtain⟨w,kw,hw⟩:=h5 y hy;have cr:∀N':Nm,(∀t,y=.tmp t->RepPA N' (r t) (refine ρ ref t))->∀u pa,kv r y=some u->pv (refine ρ ref) y=some pa->RepPA N' u pa:=fun N' H u pa hu hpa=>zf2 H hu hpa;have loc:∀call h2',(∀b,blk w=some b->h2'.t.get b=N.h.t.get b)->runK r ko call h2'=some (v,h2'):=by
  intro call h2' H;have hr:=h2 call;cases ko<;>simp only[zfF]at hy<;>cases hy
  .simp only[runK,kw,zx]at hr ⊢;exact zpk hr fun b off he=>by cases he;exact H b rfl
  simp only[runK,kw,zx]at hr ⊢;exact zsV hr fun b o' l' c' e' he=>by cases he;exact H b rfl
 rcases hw with hw|⟨b,hb,hsrc⟩
 .simp_all
 refine .inr ⟨y,hy,b,fun call h2' hh=>⟨h2',by grind⟩,?_⟩
 grind
theorem zft{β:Type}{nt:Nat}{ops:Array Oper}{o:Oper}{ρ:Nat->PA}{os:List PO}{N:Nm}{r:Fr}{K:Option (Nat×Bool)->KT β}{x:β}(I:Zd E N os)(F:∀i,RepPA N (r i) (ρ i))
  {ko:KOp} (hc:comp P o.op=some ko) (hq:kf ko=true\/∃y,zfF ko=some y) (e:j0 P O (fun _=>true) nt ops o ρ os K=some x):zxV P nt ops o ko N os r ρ K x:=by
 unfold j0 at e;cases hT:inT nt o.dst
 .grind
 rw[hT]at e;simp only[Yza]at e;rw[hc]at e;simp only at e;rcases hg:o.guard with _|gb
 .rw[hg]at e;refine zio I hq none F (fun call h=>?_) e
  grind[z9,zaP]
 obtain⟨j,b⟩:=gb;rw[hg]at e;simp only at e;rcases hd:(ops[j]?).bind (·.dst) with _|d
 .grind
 rw[hd]at e;simp only at e;cases hb:Nat.ble (Nat.succ d) nt
 .grind
 rw[hb]at e;simp only[Yza]at e;have run:∀call h,z9 P nt ops o call r h=bif zdM (r d) b then runK r ko call h else some (zP,h):=fun call h=>by
  unfold z9;rw[hT,hg];simp only[Yza]
  grind[zaP]
 split at e
 .rename_i v hρ;have hrd:=F d;rw[hρ]at hrd;have key:∀q,v=.bool q->(if q=b then pOp O (fun _=>true) (ztb P o.dst o.type) (refine ρ (some (d,q))) os ko (K (some (d,q))) else K (some (d,q)) .undef os [] [])=some x->zxV P nt ops o ko N os r ρ K x:=fun q hq2 e2=>by
   subst hq2;have hr:=z7 hrd (c:=.bool q) rfl;have F':=jW F hr;by_cases hqb:q=b
   .rw[Yzd hqb]at e2
    grind[zio,zdM]
   rw[Yzb hqb]at e2;have hr2:∀call h,z9 P nt ops o call r h=some (zP,h):=fun call h=>by
    rw[run,hr];have:zdM (.s (.one (.bool q))) b=false:=by cases q<;>cases b<;>first|rfl|exact absurd rfl hqb
    grind
   exact⟨some (d,q),.undef,[],zP,e2,F',rfl,fun call=>hr2 call N.h,fun _ _ _ _=>rfl,.inl fun call h2=>⟨h2,hr2 call h2⟩⟩
  cases b
  .obtain⟨q,rfl,e⟩:=zb5 e
   grind
  obtain⟨q,rfl,e⟩:=zb5 e
  grind
 .rename_i hρ;have hrd:r d=zP:=by
   have:=F d;rw[hρ]at this;trivial
  have hr2:∀call h,z9 P nt ops o call r h=some (zP,h):=fun call h=>by rw[run,hrd];rfl
  exact⟨none,.undef,[],zP,e,F,rfl,fun call=>hr2 call N.h,fun _ _ _ _=>rfl,.inl fun call h2=>⟨h2,hr2 call h2⟩⟩
 cases e
end
end Go.PE
end
section
namespace Go.PE
open Go Go.CE
abbrev CkE:=(Za->Res)×Zb×Nat×Nat
abbrev Sn:=Nm×List PO
def zjD(S:List Sn)(ps:List (Nat×Nat×List Nat))(q:CkE):Prop:=
 (∀h,∃h',q.1 h=some (q.2.1,h'))\/Nat.beq q.2.2.1 q.2.2.2=true\/
  (∃ rd, (q.2.2.1, q.2.2.2, rd) ∈ ps /\ ∃ (ne : Nat) (b : BN) (A Al : Sn), q.2.2.1 <= ne /\ ne <= q.2.2.2 /\ S[ne]? = some A /\ S[q.2.2.1]? = some Al /\ (∀ h2, h2.t.get b = A.1.h.t.get b -> ∃ h', q.1 h2 = some (q.2.1, h')) /\
   ((∃j,rd=[j]/\j<Al.1.n/\blk (A.1.μ j)=some b/\held (og A.2 j))\/(Al.1.fz b/\∃y,Al.1.h.t.get b=some y)))
def zp4(E:En)(S:List Sn)(ws:List (List Nat)):Prop:=∀(e:Nat) (w:List Nat),ws[e]? = some w->∀A B,S[e]? = some A->S[e+1]? = some B->Zd E A.1 A.2/\Nx A.1 B.1/\BkE A.1 A.2 B.1 w/\Ho A.1.n A.2 B.2 w
theorem zdX{run:Za->Res}{v:Zb}:∀{l:List Za},(∀h∈l,∃h',run h=some (v,h'))->zjX run v l=true
 | [],_=>rfl
 |h::l,H=>by obtain⟨h',e⟩:=H h (Yzk ..);simp only[zjX,e,zje,Yyc];exact zdX fun x hx=>H x (Yzi _ hx)
theorem zg3{ws:List (List Nat)}{lo hi j:Nat}(h:okW ws lo hi [j]=true){e:Nat}{w:List Nat}(h1:lo<=e)(h2:e<hi)(hw:ws[e]? = some w):j∉w:=by
 unfold okW at h;rw[YzI]at h;have:((ws.drop lo).take (hi-lo))[e-lo]? = some w:=by grind
 have:=h w (Lz3 this);simp only[List.all_cons,List.all_nil,Yyi,Yzr]at this
 grind[qy]
section
variable {E:En} {S:List Sn} {ws:List (List Nat)} (hl:S.length=ws.length+1) (ch:zp4 E S ws)
include hl ch
theorem zbj{e:Nat}{B:Sn}(eB:S[e+1]? = some B):∃A w,S[e]? = some A/\ws[e]? = some w/\Zd E A.1 A.2/\Nx A.1 B.1/\BkE A.1 A.2 B.1 w/\Ho A.1.n A.2 B.2 w:=by have hlt:=(Lz0.1 eB).1;obtain⟨A,eA⟩:∃A,S[e]? = some A:=⟨_,Lz5 (by omega)⟩;obtain⟨w,ew⟩:∃w,ws[e]? = some w:=⟨_,Lz5 (by omega)⟩;exact⟨A,w,eA,ew,ch e w ew A B eA eB⟩
theorem xO{lo:Nat}{Al:Sn}(el:S[lo]? = some Al):∀(d:Nat) (B:Sn),S[lo+d]? = some B->Nx Al.1 B.1
 |0,B,e=>by rw[Yzy,el]at e;cases e;exact .refl _
 |d+1,B,e=>by obtain⟨A,w,eA,_,_,nx,_⟩:=zbj hl ch (e:=lo+d) e;exact(xO el d A eA).trans nx
theorem zfM{lo j:Nat}{Al:Sn}(el:S[lo]? = some Al)(hj:j<Al.1.n):∀(d e:Nat) (A B:Sn),S[lo+e]? = some A->S[lo+e+d]? = some B->held (og B.2 j)->held (og A.2 j)
 |0,e,A,B,eA,eB,h=>by grind
 |d+1,e,A,B,eA,eB,h=>by obtain⟨B',w,eB',_,_,_,_,ho⟩:=zbj hl ch (e:=lo+e+d) eB;have hn:=(xO hl ch el (e+d) B' (by grind)).le;exact zfM el hj d e A B' eA eB' ((ho j (Lz9 hj hn)).1 h)
theorem zmX{lo hi j:Nat}{Al:Sn}(el:S[lo]? = some Al)(hj:j<Al.1.n)(hw:okW ws lo hi [j]=true):∀(d e:Nat) (A B:Sn),lo+e+d<=hi->S[lo+e]? = some A->S[lo+e+d]? = some B->held (og A.2 j)->held (og B.2 j)
 |0,e,A,B,_,eA,eB,h=>by grind
 |d+1,e,A,B,hh,eA,eB,h=>by obtain⟨B',w,eB',ew,_,_,_,ho⟩:=zbj hl ch (e:=lo+e+d) eB;have hn:=(xO hl ch el (e+d) B' (by grind)).le;have:=zmX el hj hw d e A B' (by omega) eA eB' h;exact((ho j (Lz9 hj hn)).2.1 this).elim id fun hm=>absurd hm (zg3 hw (by omega) (by omega) ew)
theorem qq{lo hi ne j:Nat}{Al A:Sn}{b:BN}(el:S[lo]? = some Al)(en:S[ne]? = some A)(h1:lo<=ne)(h2:ne<=hi)(hj:j<Al.1.n)(hw:okW ws lo hi [j]=true)(hb:blk (A.1.μ j)=some b)(hh:held (og A.2 j)):
  ∀(d:Nat) (B:Sn),lo+d<=hi->S[lo+d]? = some B->B.1.h.t.get b=Al.1.h.t.get b
 |0,B,_,e=>by grind
 |d+1,B,hd,e=>by
  obtain⟨A',w,eA',ew,I,nx,bk,ho⟩:=zbj hl ch (e:=lo+d) e;have ih:=qq el en h1 h2 hj hw hb hh d A' (by omega) eA';have nx1:=xO hl ch el d A' eA';have nx2:=xO hl ch el (ne-lo) A (by grind);have hjA:j<A'.1.n:=Lz9 hj nx1.le;have hbA:blk (A'.1.μ j)=some b:=by rw[nx1.mu j hj,<-nx2.mu j hj];exact hb
  have hA:held (og A'.2 j):=by
   by_cases hc:lo+d<=ne
   .exact zfM hl ch el hj (ne-(lo+d)) d A' A eA' (by grind) hh
   exact zmX hl ch el hj hw (lo+d-ne) (ne-lo) A A' (by omega) (by grind) (by grind) hh
  obtain⟨y,hy⟩:=zb7 hA (I.obj j) hbA;rw[<-ih,hy];refine bk b y hy fun k hk hkn hkl hkb=>?_;have hjw:=zg3 hw (by omega) (by omega) ew;obtain⟨b',x',k1,k2,_⟩:=yZ hkl (I.obj k);rw[hkb]at k1;cases k1;have hO:=I.obj j;cases hoj:og A'.2 j with
  |box cs=>
   have:=I.inj k j b hkl (by rw[hoj];trivial) hkb hbA
   grind
  |arr st v=>
   rcases v with _|xs
   .rw[hoj]at hA;exact hA
   have:=I.inj k j b hkl (by rw[hoj];trivial) hkb hbA
   grind
  |mp st xs=>
   have:=I.inj k j b hkl (by rw[hoj];trivial) hkb hbA
   grind
  |frz v=>rw[hoj]at hA hO;obtain⟨st,xs,rfl⟩:=hA;obtain⟨b2,o2,off2,cap2,ex2,cs2,q1,q2,_⟩:=Rep.lst_inv hO;rw[q1]at hbA;cases hbA<;>grind
  |fbox ds=>
   rw[hoj]at hO;obtain⟨b2,q1,q2⟩:=hO;rw[q1]at hbA;cases hbA;obtain⟨b3,o3,base3,cs3,p1,p2,_⟩:=q2.fp_inv
   grind
  |hol v n t=>
   have:=I.inj k j b hkl (by rw[hoj];trivial) hkb hbA
   grind
  |lop=>
   have:=I.inj k j b hkl (by rw[hoj];trivial) hkb hbA
   grind
  |lnk m=>rw[hoj]at hA;exact hA
  |dead=>rw[hoj]at hA;exact hA
theorem zhL(T:List Za){ps:List (Nat×Nat×List Nat)}(hps:(ps.all fun p=>okW ws p.1 p.2.1 p.2.2)=true)(hT:T=[]\/∀p∈ps,p.2.1<S.length):∀{cs:List CkE},(∀q∈cs,zjD S ps q)->zqA ((S.map fun x=>x.1.h)++T) cs=true
 | [],_=>rfl
 |(run,v,lo,hi)::cs,Hc=>by
  have ih:=zhL T hps hT (cs:=cs) fun q hq=>Hc q (Yzi _ hq);simp only[zqA,ih,Yyi];have mem:(T=[]\/hi<S.length)->∀h∈(((S.map fun x=>x.1.h)++T).drop lo).take (Nat.sub (Nat.succ hi) lo),∃d B,lo+d<=hi/\S[lo+d]? = some B/\h=B.1.h:=fun hT h hh=>by
   obtain⟨i,hi'⟩:=Yyg hh
   grind
  rcases Hc _ (Yzk ..) with h|h|⟨rd,hp,ne,b,A,Al,h1,h2,h3,h4,h6,h7⟩
  .simp_all[zdX]
  .grind
  rw[YzI]at hps;have hwin:=hps _ hp;simp only at hwin h1 h2 h4 h6;rw[zdX fun x hx=>?_,Bool.or_true];obtain⟨d,B,hd1,hd2,rfl⟩:=mem (hT.imp id fun h=>h _ hp) x hx;refine h6 _ ?_;rcases h7 with⟨j,rfl,q1,q2,q3⟩|⟨q1,y,q2⟩
  .have e1:=qq hl ch h4 h3 h1 h2 q1 hwin q2 q3 (ne-lo) A (by omega) (by grind)
   grind[qq]
  have e1:=(xO hl ch h4 (ne-lo) A (by grind)).fg.old b y q1 q2;have e2:=(xO hl ch h4 d B hd2).fg.old b y q1 q2;rw[e1,e2]
theorem zjp{ps:List (Nat×Nat×List Nat)}(hps:(ps.all fun p=>okW ws p.1 p.2.1 p.2.2)=true){cs:List CkE}(H:∀q∈cs,zjD S ps q):zqA (S.map fun x=>x.1.h) cs=true:=by
 have:=zhL hl ch [] hps (.inl rfl) H
 grind
end
theorem zso{tab:Nat->Bool}{Y:Inl}{C:Nat->zc}(hY:Zp tab Y C){β:Type}{E:En}{N:Nm}{os:List PO}{lk:Nat->Bool}{g:Nat}{az:List PA}{vs:List Zb}{K:PA->List PO->Option β}{x:β}(hg:tab g=true)(I:Zd E N os)(A:RepPAL N vs az)(e:Y g (zqF os.length) az (List.replicate os.length .dead) β K=some x)(hlk:∀j,lk j=true->j<os.length):
  ∃a os',K a os'=some x/\Ev (fun n=>C n (.inl g) vs N.h) (fun p=>∃N',N'.h=p.2/\Sim E lk N os [] N' (os++os'.drop os.length) p.1 a):=by
 let E':En:=⟨N.h,N.fz,fun _=>False⟩
 have dd:∀k,og (List.replicate os.length PO.dead) k=.dead:=fun k=>by rw[za3];grind
 have I':Zd E' N (List.replicate os.length .dead):=⟨I.hw,GrX.refl (E:=E'),I.fzlt,fun b hb=>.inl hb,fun b hb=>.inl (I.fzlt b hb),I.len.trans (Yyf ..).symm,fun k b hl=>(by rw[dd]at hl;cases hl),fun k k' b hl=>(by rw[dd]at hl;cases hl),fun k=>(by rw[dd];trivial),fun t m h=>(by rw[dd]at h;cases h)⟩;obtain⟨a,os',hK,ev⟩:=hY.o (lk:=zqF os.length) hg I' A (fun j hj=>by rw[Yyf];exact Lz4 hj) e;refine⟨a,os',hK,ev.mono ?_⟩
 rintro p ⟨N',hh,J,nx,sm,val⟩
 have low:∀j,j<os.length->og os' j=.dead:=fun j hj=>by
  rcases sm j (Yze hj) with h|⟨nt,ρ,ps,A,B,l,n,h,_⟩
  .rw[h,dd]
  rw[dd]at h;cases h
 have hn:os.length<=os'.length:=by rw[<-I.len,<-J.len];exact nx.le
 have g1:∀k,k<os.length->og (os++os'.drop os.length) k=og os k:=fun k hk=>by simp only[za3];grind
 have g2:∀k,¬k<os.length->og (os++os'.drop os.length) k=og os' k:=fun k hk=>by simp only[za3];grind
 have old:∀b:BN,b.toNat<N.h.n.toNat->N'.h.t.get b=N.h.t.get b:=fun b hb=>J.gr.old b hb id;have fz':∀b,N'.fz b->N.fz b\/N.h.n.toNat<=b.toNat:=fun b hb=>(J.fzok b hb).imp id fun h=>h.elim id False.elim;have up:∀k b,k<os.length->live (og os k)->blk (N'.μ k)=some b->blk (N.μ k)=some b/\b.toNat<N.h.n.toNat:=fun k b hk hl hb=>by obtain⟨b',x,q1,_,q3⟩:=yZ hl (I.obj k);rw[nx.mu k (by rw[I.len];exact hk),q1]at hb;cases hb;exact⟨q1,I.hw _ _ q3⟩
 have dn:∀k b,live (og os' k)->blk (N'.μ k)=some b->N.h.n.toNat<=b.toNat:=fun k b hl hb=>(J.own k b hl hb).elim id False.elim;refine⟨N',hh,⟨J.hw,⟨Yzl I.gr.le J.gr.le,fun b hb hx=>?_⟩,J.fzlt,fun b hb=>?_,fun b hb=>?_,?_,fun k b hl hb=>?_,fun k k' b hl hl' hb hb'=>?_,fun k=>?_,fun t m hk=>?_⟩,nx,⟨J.gr.le,fun b hb _=>old b hb⟩,fun j hj=>?_,fun k hk=>?_,val⟩
 .rw[old b (Lz9 hb I.gr.le)];exact I.gr.old b hb hx
 .rcases fz' b hb with h|h
  .exact I.fzok b h
  exact .inr (.inl (Yzl I.gr.le h))
 .rcases fz' b hb with h|h
  .exact(I.fzex b h).imp id fun⟨y,hy⟩=>⟨y,nx.fg.old b y h hy⟩
  rcases J.fzex b hb with h2|h2
  .exact absurd h2 (Nat.not_lt.2 h)
  exact .inr h2
 .rw[J.len];grind
 .by_cases h:k<os.length
  .rw[g1 k h]at hl;exact I.own k b hl (up k b h hl hb).1
  rw[g2 k h]at hl;exact .inl (Yzl I.gr.le (dn k b hl hb))
 .by_cases h:k<os.length<;>by_cases h':k'<os.length
  .rw[g1 k h]at hl;rw[g1 k' h']at hl';exact I.inj k k' b hl hl' (up k b h hl hb).1 (up k' b h' hl' hb').1
  .rw[g1 k h]at hl;rw[g2 k' h']at hl';have:=(up k b h hl hb).2;have:=dn k' b hl' hb';omega
  .rw[g2 k h]at hl;rw[g1 k' h']at hl';have:=(up k' b h' hl' hb').2;have:=dn k b hl hb;omega
  rw[g2 k h]at hl;rw[g2 k' h']at hl';exact J.inj k k' b hl hl' hb hb'
 .by_cases h:k<os.length
  .rw[g1 k h];refine (I.obj k).mono nx (nx.mu k (by rw[I.len];exact h)) fun hl b hb=>?_;obtain⟨b',x,q1,q2,q3⟩:=xf hl (I.obj k);rw[q1]at hb;cases hb;have hlt:=I.hw _ _ q3;exact⟨fun hf=>(fz' _ hf).elim q2 fun h=>absurd hlt (Nat.not_lt.2 h),old _ hlt⟩
  rw[g2 k h];exact J.obj k
 .by_cases h:t<os.length
  .rw[g1 t h]at hk;obtain⟨k,v,n,q⟩:=I.lnk t m hk;have hk2:k<os.length:=wF (by rw[q];exact fun h=>by cases h);exact⟨k,v,n,by rw[g1 k hk2];exact q⟩
  rw[g2 t h]at hk;obtain⟨k,v,n,q⟩:=J.lnk t m hk;have hk2:¬k<os.length:=fun h=>by rw[low k h]at q;cases q
  exact⟨k,v,n,by rw[g2 k hk2];exact q⟩
 .exact g1 j (hlk j hj)
 rw[g1 k (by rw[<-I.len];exact hk)];exact⟨id,.inl,id⟩
section
variable {P:Program} {O:Orc} {C:Nat->zc} {E:En} {tab:Nat->Bool} {Y:Inl}
theorem zlD{N:Nm}{r:Fr}{ρ:Nat->PA}(F:∀i,RepPA N (r i) (ρ i))(l:List Nat):∀i,RepPA N (zI r l i) (zG ρ l i):=fun i=>by
 unfold zI zG;cases zkm i l
 .trivial
 exact F i
theorem zim{N:Nm}{r:Fr}{ρ:Nat->PA}{l:List Nat}{d:Nat}{b:Bool}(F1:∀i,RepPA N (zI r l i) (refine (zG ρ l) (some (d,b)) i)):r d=.s (.one (.bool b)):=by
 have:=F1 d;rw[show refine (zG ρ l) (some (d,b)) d=pd (.bool b) by show (bif Nat.beq d d then _ else _)=_;simp]at this;have h:=z7 this (c:=.bool b) rfl;unfold zI at h;cases hm:zkm d l
 case true=>grind
 rw[hm]at h;cases h
theorem zfp{N:Nm}{r:Fr}{ρ:Nat->PA}{l:List Nat}{ref:Option (Nat×Bool)}(F:∀i,RepPA N (r i) (ρ i))(F1:∀i,RepPA N (zI r l i) (refine (zG ρ l) ref i)):∀i,RepPA N (r i) (refine ρ ref i):=by
 rcases ref with _|db
 .exact F
 obtain⟨d,b⟩:=db;exact jW F (zim F1)
theorem kI{N N':Nm}{r:Fr}{ρ:Nat->PA}{l:List Nat}{ref:Option (Nat×Bool)}(F1:∀i,RepPA N (zI r l i) (refine (zG ρ l) ref i)){i:Nat}(H:RepPA N' (r i) (ρ i)):RepPA N' (r i) (refine ρ ref i):=by
 rcases ref with _|db
 .exact H
 obtain⟨d,b⟩:=db;show RepPA N' (r i) (bif Nat.beq i d then pd (.bool b) else ρ i);cases hb:Nat.beq i d
 .exact H
 have:=Lz1 hb;subst this;rw[zim F1];exact yA rfl
theorem qi{N N':Nm}{r:Fr}{ρ:Nat->PA}{l:List Nat}{ref:Option (Nat×Bool)}(F1:∀i,RepPA N (zI r l i) (refine (zG ρ l) ref i)){i:Nat}(H:RepPA N' (r i) (ρ i)):RepPA N' (zI r l i) (refine (zG ρ l) ref i):=by
 have h:=kI F1 H;cases hm:zkm i l
 .have e2:zI r l i=zP:=by grind[zI]
  have F1i:=F1 i;rw[e2]at F1i ⊢;rcases ref with _|db
  .have:refine (zG ρ l) none i=.bad:=by show zG ρ l i=.bad;grind[zG]
   rw[this];trivial
  have:refine (zG ρ l) (some db) i=(bif Nat.beq i db.1 then pd (.bool db.2) else .bad):=by
   show (bif Nat.beq i db.1 then pd (.bool db.2) else zG ρ l i)=_
   grind[zG]
  rw[this]at F1i ⊢;cases hb:Nat.beq i db.1
  .trivial
  rw[hb]at F1i;trivial
 have e1:refine (zG ρ l) ref i=refine ρ ref i:=by
  rcases ref with _|db
  .show zG ρ l i=ρ i;grind[zG]
  show (bif Nat.beq i db.1 then pd (.bool db.2) else zG ρ l i)=(bif Nat.beq i db.1 then pd (.bool db.2) else ρ i)
  grind[zG]
 grind[zI]
theorem zlZ(hO:uW O C)(hY:Zp tab Y C){β γ:Type}{Q:γ->Prop}{lk:Nat->Bool}{nt:Nat}{ops:Array Oper}{bs:List Nat}{es:List Bool}{x:β}{K:(Nat->PA)->List PO->Option β}{kk:Nat->Fr->Za->Option γ}:
    ∀(l:List Oper) (i:Nat) (ρ:Nat->PA) (os:List PO) (N:Nm) (r:Fr) (bo:Nat->Nat) (ws:List (List Nat)) (ps:List (Nat×Nat×List Nat)) (S:List Sn) (cs:Nat->List CkE),
    pDr P O tab Y lk nt ops bs es i l ρ os bo ws ps K=some x->Zd E N os->(∀i,RepPA N (r i) (ρ i))->(∀j,lk j=true->j<os.length)->
    S.length=ws.length->zp4 E (S++[(N,os)]) ws->(∀s,bo s<=ws.length/\∀A:Sn,(S++[(N,os)])[bo s]? = some A->RepPA A.1 (r s) (ρ s))->(∀n,∀q∈cs n,zjD (S++[(N,os)]) ps q)->
    (∀ρ' os' N' r',K ρ' os'=some x->Zd E N' os'->(∀i,RepPA N' (r' i) (ρ' i))->Nx N N'->(∀j,lk j=true->sameO (og os j) (og os' j))->(∀i,i∉l.filterMap (·.dst)->r' i=r i)->Ev (fun n=>kk n r' N'.h) Q)->
    Ev (fun n=>kDr P nt ops (C n) bs es i l r N.h (S.map fun x=>x.1.h) (cs n) (kk n)) Q
  | [],i,ρ,os,N,r,bo,ws,ps,S,cs,e,I,F,hlk,hl,ch,sl,pe,H=>by
    simp only[pDr]at e;cases hps:(ps.all fun p=>okW ws p.1 p.2.1 p.2.2) with
    |false=>grind
    |true=>
      rw[hps]at e;have run:∀n,kDr P nt ops (C n) bs es i [] r N.h (S.map fun x=>x.1.h) (cs n) (kk n)=kk n r N.h:=fun n=>by
        simp only[kDr];have:=zjp (S:=S++[(N,os)]) (by simp[hl]) ch hps (pe n)
        grind
      simp only[run];exact H ρ os N r e I F (.refl N) (fun _ _=>.refl _) (fun _ _=>rfl)
  |o::l,i,ρ,os,N,r,bo,ws,ps,S,cs,e,I,F,hlk,hl,ch,sl,pe,H=>by
    have step:(fun n=>kDr P nt ops (C n) bs es i (o::l) r N.h (S.map fun x=>x.1.h) (cs n) (kk n))=fun n=>CE.bindR (z9 P nt ops o (C n) (zI r (o.looksAt ops)) N.h) fun v h'=>
        bif yv P o.op then kDr P nt ops (C n) bs es (Nat.succ i) l (vM r v o.dst) N.h (S.map fun x=>x.1.h) (cs n++[(z9 P nt ops o (C n) (zI r (o.looksAt ops)),v,ce (fun j=>bef bs j i) 0 es,ce (fun j=>!bef bs i j) 0 es)]) (kk n)
        else kDr P nt ops (C n) bs es (Nat.succ i) l (vM r v o.dst) h' ((S.map fun x=>x.1.h)++[N.h]) (cs n) (kk n):=by
      grind[ziU]
    rw[step];have agree:∀(r2:Fr) (v:Zb),(∀i,i∉l.filterMap (·.dst)->r2 i=vM r v o.dst i)->∀i,i∉(o::l).filterMap (·.dst)->r2 i=r i:=fun r2 v hr i hi=>by grind[xe]
    have FR:=zlD F (o.looksAt ops);simp only[pDr]at e;cases hq:yv P o.op
    · rw[hq]at e
      simp only[Yzc]at e ⊢;cases hL:zuI P tab (zG ρ (o.looksAt ops)) o l with
      |some q=>
        obtain⟨g,az⟩:=q;rw[hL]at e;cases l with
        |cons o2 l2=>cases hL
        |nil=>
        simp only at e;cases hT:(inT nt o.dst&&ps.all fun p=>okW ws p.1 p.2.1 p.2.2&&Nat.ble p.2.1 ws.length) with
        |false=>grind
        |true=>
          rw[hT,Yza]at e;rw[LzC,YzI]at hT;obtain⟨hT,hps⟩:=hT;obtain⟨ht,vs,rvs,run⟩:=qE (ops:=ops) FR hL hT;obtain⟨a,os',e1,ev⟩:=hY.o ht I rvs hlk e;have:∀n,z9 P nt ops o (C n) (zI r (o.looksAt ops)) N.h=C n (.inl g) vs N.h:=fun n=>run (C n) N.h;simp only[this];refine Ev.bindR (ev.mono ?_)
          rintro⟨v,h'⟩ ⟨N',hh,i1,i2,i3,i4⟩
          simp only at hh i4 ⊢;subst hh;have run2:∀n,kDr P nt ops (C n) bs es (Nat.succ i) [] (vM r v o.dst) N'.h ((S.map fun x=>x.1.h)++[N.h]) (cs n) (kk n)=kk n (vM r v o.dst) N'.h:=fun n=>by
            simp only[kDr];have hw:(ps.all fun p=>okW ws p.1 p.2.1 p.2.2)=true:=YzI.2 fun p hp=>by grind
            have:=zhL (S:=S++[(N,os)]) (by simp[hl]) ch [N'.h] hw (.inr fun p hp=>by
              have:=hps p hp;rw[LzC]at this;have:=Lz4 this.2
              grind) (pe n)
            grind
          simp only[run2];exact H _ os' N' (vM r v o.dst) e1 i1 (jI (fun i=>(F i).mono i2) i4 o.dst) i2 i3 (agree _ v (fun _ _=>rfl))
      |none=>
      rw[hL]at e;simp only at e;have tail:∀(ref:Option (Nat×Bool)) (a:PA) (os':List PO) (wr:List Nat),pDr P O tab Y lk nt ops bs es (Nat.succ i) l (jZ (refine ρ ref) a o.dst) os' (zdD bo (Nat.succ ws.length) o.dst) (ws++[wr]) ps K=some x->(∀i,RepPA N (zI r (o.looksAt ops) i) (refine (zG ρ (o.looksAt ops)) ref i))->
          Ev (fun n=>z9 P nt ops o (C n) (zI r (o.looksAt ops)) N.h) (fun p=>∃N',N'.h=p.2/\Sim E lk N os wr N' os' p.1 a)->
          Ev (fun n=>CE.bindR (z9 P nt ops o (C n) (zI r (o.looksAt ops)) N.h) fun v h'=>kDr P nt ops (C n) bs es (Nat.succ i) l (vM r v o.dst) h' ((S.map fun x=>x.1.h)++[N.h]) (cs n) (kk n)) Q:=by
        intro ref a os' wr e1 F1 ev;refine Ev.bindR (ev.mono ?_)
        rintro⟨v,h'⟩ ⟨N',hh,Sm⟩
        simp only at hh Sm ⊢;subst hh;have F2:=zfp F F1;have hlen2:(S++[(N,os)]).length=(ws++[wr]).length:=by simp[hl]
        have hmap:(S.map fun x=>x.1.h)++[N.h]=(S++[(N,os)]).map fun x=>x.1.h:=by simp
        rw[hmap];refine zlZ hO hY l (Nat.succ i) _ os' N' (vM r v o.dst) _ (ws++[wr]) ps (S++[(N,os)]) cs e1 Sm.inv (jI (fun i=>(F2 i).mono Sm.nx) Sm.val o.dst) (fun j hj=>?_) hlen2 ?_ (fun s=>?_) (fun n q hqm=>?_) fun ρ2 os2 N2 r2 k1 k2 k3 k4 k5 k6=>H ρ2 os2 N2 r2 k1 k2 k3 (Sm.nx.trans k4) (fun j hj=>(sameO.of (Sm.lock j hj)).trans (k5 j hj)) (agree r2 v k6)
        · have h1:=Sm.nx.le
          rw[Sm.inv.len,I.len]at h1
          grind
        · intro e w hw A B a1 a2
          by_cases he:e<ws.length
          · rw[Lz2 he]at hw
            rw[Lz2 (by grind)]at a1;rw[Lz2 (by grind)]at a2;exact ch e w hw A B a1 a2
          have he2:e=ws.length:=by grind
          subst he2;rw[YzN]at hw;cases hw;rw[<-hl]at a1 a2;rw[Lz2 (by simp),YzN]at a1;cases a1;rw[show S.length+1=(S++[(N,os)]).length by simp,YzN]at a2;cases a2;exact⟨I,Sm.nx,Sm.fr.ex I.hw,Sm.ho⟩
        · have old:bo s<=(ws++[wr]).length/\∀A:Sn,(S++[(N,os)]++[(N',os')])[bo s]? = some A->RepPA A.1 (r s) (refine ρ ref s):=
            ⟨by grind,fun A hh=>kI F1 ((sl s).2 A (by grind))⟩
          rcases hd:o.dst with _|d
          · exact old
          show (bif Nat.beq s d then Nat.succ ws.length else bo s)<=(ws++[wr]).length/\∀A:Sn,(S++[(N,os)]++[(N',os')])[bif Nat.beq s d then Nat.succ ws.length else bo s]? = some A->RepPA A.1 (bif Nat.beq s d then v else r s) (bif Nat.beq s d then a else refine ρ ref s);cases Nat.beq s d
          · exact old
          refine⟨by simp,fun A hh=>?_⟩;simp only[Yza]at hh ⊢;rw[show Nat.succ ws.length=(S++[(N,os)]).length by simp[hl],YzN]at hh;cases hh;exact Sm.val
        rcases pe n q hqm with g|g|⟨rd',g1,ne,b,A,Al,a1,a2,a3,a4,a5⟩
        · exact .inl g
        · exact .inr (.inl g)
        refine .inr (.inr ⟨rd',g1,ne,b,A,Al,a1,a2,?_,?_,a5⟩)
        · grind
        grind
      suffices hs:∃ref a os' wr,pDr P O tab Y lk nt ops bs es (Nat.succ i) l (jZ (refine ρ ref) a o.dst) os' (zdD bo (Nat.succ ws.length) o.dst) (ws++[wr]) ps K=some x/\(∀i,RepPA N (zI r (o.looksAt ops) i) (refine (zG ρ (o.looksAt ops)) ref i))/\
          Ev (fun n=>z9 P nt ops o (C n) (zI r (o.looksAt ops)) N.h) (fun p=>∃N',N'.h=p.2/\Sim E lk N os wr N' os' p.1 a) by
        grind
      rcases hM:zw3 P tab (zG ρ (o.looksAt ops)) o with _|q
      · rw[hM]at e
        simp only at e;rcases hL2:zb4 P tab (zG ρ (o.looksAt ops)) o with _|⟨g,az⟩
        · rw[hL2]at e
          simp only at e;obtain⟨ref,a,os',wr,rd,e1,F1,ev⟩:=zeb hO I FR hlk e
          grind
        rw[hL2]at e;simp only at e;cases hT:inT nt o.dst
        · grind
        rw[hT,Yza]at e;obtain⟨ht,vs,rvs,run⟩:=qE (ops:=ops) FR hL2 hT;obtain⟨a,os',e1,ev⟩:=zso hY ht I rvs e hlk;refine⟨none,a,_,[],e1,FR,?_⟩;simp only[run];exact ev
      obtain⟨g,j,az⟩:=q;rw[hM]at e;simp only at e;cases hT:inT nt o.dst
      · grind
      rw[hT,Yza]at e;have hin:zb4 P tab (zG ρ (o.looksAt ops)) o=some (g,pc (.own j)::az):=by grind[zw3]
      obtain⟨ht,vs,rvs,run⟩:=qE (ops:=ops) FR hin hT;obtain⟨a,os',e1,ev⟩:=hY.m ht I rvs e;exact⟨none,a,os',[j],e1,FR,by grind⟩
    rw[hq]at e;simp only[Yza]at e ⊢;rcases hc:comp P o.op with _|ko
    · grind
    rw[hc]at e;simp only at e;have go:∀(nb:Option (Nat×Bool)->Nat) (ps':List Nat->List (Nat×Nat×List Nat)) (hk:kf ko=true\/∃y,zfF ko=some y),(∀ref,nb ref<=ws.length)->(∀rd,∀p∈ps,p∈ps' rd)->
        (∀ref,(∀i,RepPA N (zI r (o.looksAt ops) i) (refine (zG ρ (o.looksAt ops)) ref i))->∀v a,RepPA N v a->(∀xo,trk (refine (zG ρ (o.looksAt ops)) ref) ko=some xo->∀N':Nm,(∀t,xo=.tmp t->RepPA N' (zI r (o.looksAt ops) t) (refine (zG ρ (o.looksAt ops)) ref t))->RepPA N' v a)->∀A:Sn,(S++[(N,os)])[nb ref]? = some A->RepPA A.1 v a)->
        (∀ref,(∀i,RepPA N (zI r (o.looksAt ops) i) (refine (zG ρ (o.looksAt ops)) ref i))->∀v rd n,((∀call h2,∃h',z9 P nt ops o call (zI r (o.looksAt ops)) h2=some (v,h'))\/(∃xo,zfF ko=some xo/\∃b:BN,(∀call h2,h2.t.get b=N.h.t.get b->∃h',z9 P nt ops o call (zI r (o.looksAt ops)) h2=some (v,h'))/\
            ((∃ j, rd = [j] /\ j < N.n /\ blk (N.μ j) = some b /\ held (og os j) /\ ∀ N' : Nm, (∀ t, xo = .tmp t -> RepPA N' (zI r (o.looksAt ops) t) (refine (zG ρ (o.looksAt ops)) ref t)) -> j < N'.n) \/
             (rd=[]/\∀N':Nm,(∀t,xo=.tmp t->RepPA N' (zI r (o.looksAt ops) t) (refine (zG ρ (o.looksAt ops)) ref t))->N'.fz b/\∃y,N'.h.t.get b=some y))))->
          zjD (S++[(N,os)]) (ps' rd) (z9 P nt ops o (C n) (zI r (o.looksAt ops)),v,ce (fun j=>bef bs j i) 0 es,ce (fun j=>!bef bs i j) 0 es))->
        (j0 P O (fun _=>true) nt ops o (zG ρ (o.looksAt ops)) os fun ref a _ _ rd=>pDr P O tab Y lk nt ops bs es (Nat.succ i) l (jZ (refine ρ ref) a o.dst) os (zdD bo (nb ref) o.dst) ws (ps' rd) K)=some x->
        Ev (fun n=>CE.bindR (z9 P nt ops o (C n) (zI r (o.looksAt ops)) N.h) fun v h'=>kDr P nt ops (C n) bs es (Nat.succ i) l (vM r v o.dst) N.h (S.map fun x=>x.1.h) (cs n++[(z9 P nt ops o (C n) (zI r (o.looksAt ops)),v,ce (fun j=>bef bs j i) 0 es,ce (fun j=>!bef bs i j) 0 es)]) (kk n)) Q:=by
      intro nb ps' hk hnb hps hxb hpe e;obtain⟨ref,a,rd,v,e1,F1,rv,run,tr,pend⟩:=zft I FR hc hk e;have:(fun n=>CE.bindR (z9 P nt ops o (C n) (zI r (o.looksAt ops)) N.h) fun v h'=>kDr P nt ops (C n) bs es (Nat.succ i) l (vM r v o.dst) N.h (S.map fun x=>x.1.h) (cs n++[(z9 P nt ops o (C n) (zI r (o.looksAt ops)),v,ce (fun j=>bef bs j i) 0 es,ce (fun j=>!bef bs i j) 0 es)]) (kk n)) =
          fun n=>kDr P nt ops (C n) bs es (Nat.succ i) l (vM r v o.dst) N.h (S.map fun x=>x.1.h) (cs n++[(z9 P nt ops o (C n) (zI r (o.looksAt ops)),v,ce (fun j=>bef bs j i) 0 es,ce (fun j=>!bef bs i j) 0 es)]) (kk n):=by
        funext n;rw[run];rfl
      rw[this];refine zlZ hO hY l (Nat.succ i) _ os N (vM r v o.dst) _ ws (ps' rd) S _ e1 I (jI (zfp F F1) rv o.dst) hlk hl ch (fun s=>?_) (fun n q hqm=>?_) fun ρ2 os2 N2 r2 k1 k2 k3 k4 k5 k6=>H ρ2 os2 N2 r2 k1 k2 k3 k4 k5 (agree r2 v k6)
      · have old:bo s<=ws.length/\∀A:Sn,(S++[(N,os)])[bo s]? = some A->RepPA A.1 (r s) (refine ρ ref s):=⟨(sl s).1,fun A hh=>kI F1 ((sl s).2 A hh)⟩
        rcases hd:o.dst with _|d
        · exact old
        show (bif Nat.beq s d then nb ref else bo s)<=ws.length/\∀A:Sn,(S++[(N,os)])[bif Nat.beq s d then nb ref else bo s]? = some A->RepPA A.1 (bif Nat.beq s d then v else r s) (bif Nat.beq s d then a else refine ρ ref s)
        grind
      rcases List.mem_append.1 hqm with h|h
      · rcases pe n q h with g|g|⟨rd',g1,g2⟩
        · exact .inl g
        · exact .inr (.inl g)
        exact .inr (.inr ⟨rd',hps rd _ g1,g2⟩)
      rw[Yz4]at h;subst h;exact hpe ref F1 v rd n pend
    have here:∀v a,RepPA N v a->∀A:Sn,(S++[(N,os)])[ws.length]? = some A->RepPA A.1 v a:=fun v a rv A hh=>by grind
    cases hst:kf ko
    · rw[hst]at e
      simp only[Yzc]at e;rcases hm:zfF ko with _|y
      · grind
      rw[hm]at e;simp only at e;cases hb:Nat.beq (ce (fun j=>bef bs j i) 0 es) (ce (fun j=>!bef bs i j) 0 es)
      · rw[hb]at e
        simp only[Yzc]at e;cases hw:(Nat.ble (bOf bo y) (ce (fun j=>bef bs j i) 0 es)&&Nat.ble (ce (fun j=>bef bs j i) 0 es) ws.length&&Nat.ble ws.length (ce (fun j=>!bef bs i j) 0 es))
        · grind
        rw[hw]at e;simp only[LzC]at hw;obtain⟨⟨w1,w2⟩,w3⟩:=hw;have w1:=Lz4 w1;have w2:=Lz4 w2;have w3:=Lz4 w3;refine go (fun _=>ws.length) (fun rd=>ps++[(ce (fun j=>bef bs j i) 0 es,ce (fun j=>!bef bs i j) 0 es,rd)]) (.inr ⟨y,hm⟩) (fun _=>LzB _) (fun _ p hp=>YzG _ hp) (fun ref F1 v a rv tr A hh=>here v a rv A hh) (fun ref F1 v rd n pend=>?_) e;rcases pend with g|⟨xo,g,b,g2,g1⟩
        · exact .inl fun h=>g (C n) h
        rw[hm]at g;cases g;obtain⟨Al,elo⟩:∃A:Sn,(S++[(N,os)])[ce (fun j=>bef bs j i) 0 es]? = some A:=⟨_,Lz5 (by grind)⟩;have hrel:∀t,y=.tmp t->RepPA Al.1 (zI r (o.looksAt ops) t) (refine (zG ρ (o.looksAt ops)) ref t):=fun t ht=>by subst ht;refine qi F1 ?_;obtain⟨Ab,eb0⟩:∃A:Sn,(S++[(N,os)])[bo t]? = some A:=⟨_,Lz5 (by grind)⟩;have hle:bo t<=ce (fun j=>bef bs j i) 0 es:=w1;exact((sl t).2 Ab eb0).mono (xO (by simp[hl]) ch eb0 (ce (fun j=>bef bs j i) 0 es-bo t) Al (by grind))
        refine .inr (.inr ⟨rd,YzM _ (Yzx _),ws.length,b,(N,os),Al,w2,w3,by grind,elo,fun h2 hh=>g2 (C n) h2 hh,?_⟩)
        grind
      rw[hb]at e;exact go (fun _=>ws.length) (fun _=>ps) (.inr ⟨y,hm⟩) (fun _=>LzB _) (fun _ p hp=>hp) (fun ref F1 v a rv tr A hh=>here v a rv A hh) (fun ref F1 v rd n pend=>.inr (.inl hb)) e
    rw[hst]at e;simp only[Yza]at e;refine go (fun ref=>match trk (refine (zG ρ (o.looksAt ops)) ref) ko with|some x=>bOf bo x|none=>ws.length) (fun _=>ps) (.inl hst) ?_ (fun _ p hp=>hp) ?_ ?_ e
    · intro ref
      rcases htk:trk (refine (zG ρ (o.looksAt ops)) ref) ko with _|y
      · exact LzB _
      cases y with
      |tmp t=>exact(sl t).1
      |_=>exact Yzn _
    · intro ref F1 v a rv tr A hh
      rcases htk:trk (refine (zG ρ (o.looksAt ops)) ref) ko with _|y
      · grind
      simp only[htk]at hh;refine tr y htk _ fun t ht=>?_;subst ht;exact qi F1 ((sl t).2 A hh)
    intro ref F1 v rd n pend;rcases pend with g|⟨xo,g,_⟩
    · exact .inl fun h=>g (C n) h
    exfalso;cases ko<;>first|exact Bool.noConfusion hst|(simp only[zfF]at g;cases g)
end
end Go.PE
end
section
namespace Go.PE
open Go Go.CE
theorem zpN{n0:Nat}(l:List Nat)(t:Tr Zf)(b:BN):(b∈l.map (nm n0)->(zar n0 l t).get b=none)/\(b∉l.map (nm n0)->(zar n0 l t).get b=t.get b):=by
 constructor
 .intro h;obtain⟨j,hj,rfl⟩:=List.mem_map.1 h
  grind[zco]
 grind[vX]
theorem zaC{n0:Nat}{h:Tr Zf}:∀(l:List Nat) (t:Tr Zf),l.Nodup->(∀j∈l,t.get (nm n0 j)=none)->∃t',ze4 n0 h l t=some t'
 | [],t,_,_=>⟨t,rfl⟩
 |j::l,t,hd,hn=>by
  unfold ze4;have h0:=hn j (Yzk ..);rw[show t.get (bn (Nat.add n0 j))=none from h0];simp only;have hnd:=List.nodup_cons.1 hd;rcases ho:h.get (bn (Nat.add n0 j)) with _|o
  .exact zaC l t hnd.2 fun i hi=>hn i (Yzi _ hi)
  refine zaC l _ hnd.2 fun i hi=>?_
  grind[zl,vT]
theorem zpu{bs:List Nat}{i:Nat}:∀(os:List Oper) (off j:Nat),j∈yp bs i off os->off<=j:=fun os off j h=>by grind[ul]
theorem zb6{bs:List Nat}{i:Nat}:∀(os:List Oper) (off:Nat),(yp bs i off os).Nodup
 | [],_=>List.nodup_nil
 |o::os,off=>by
  unfold yp;have ih:=zb6 (bs:=bs) (i:=i) os (Nat.succ off);cases (j6 o.op&&bef bs off i)
  case true=>exact ih
  exact List.nodup_cons.2 ⟨fun h=>by have:=zpu _ _ _ h;omega,ih⟩
def wG(bs:List Nat)(i:Nat):List (Nat×Nat)->List PO->List PO
 | [],os=>os
 |(j,k)::mk,os=>bif bef bs j i then wG bs i mk os else oset .dead (wG bs i mk os) k
def wo(bs:List Nat)(i:Nat)(os0:List PO):List (Nat×Nat)->List PO->List PO
 | [],os=>os
 |(j,k)::mk,os=>bif bef bs j i then wo bs i os0 mk os else oset (og os0 k) (wo bs i os0 mk os) k
def isLive:PO->Bool
 | .box _=>true
 | .arr _ (some _)=>true
 | .mp _ _=>true
 |_=>false
def uT(mk:List (Nat×Nat))(os:List PO):Bool:=mk.all fun p=>isLive (og os p.2)
theorem zfK{o:PO}(h:isLive o=true):solid o:=by
 cases o with
 |box _=>trivial
 |arr _ v=>cases v with
  |none=>cases h
  |some _=>trivial
 |mp _ _=>trivial
 |_=>cases h
def Hid(bs:List Nat)(i:Nat)(mk:List (Nat×Nat))(k:Nat):Prop:=∃j,(j,k)∈mk/\bef bs j i=false
theorem jk{bs:List Nat}{i:Nat}:∀(mk:List (Nat×Nat)) (os:List PO),(wG bs i mk os).length=os.length
 | [],_=>rfl
 |(j,k)::mk,os=>by
  unfold wG;cases bef bs j i
  case true=>exact jk mk os
  exact(zX _ _ _).trans (jk mk os)
theorem jE{bs:List Nat}{i:Nat}{os0:List PO}:∀(mk:List (Nat×Nat)) (os:List PO),(wo bs i os0 mk os).length=os.length
 | [],_=>rfl
 |(j,k)::mk,os=>by
  unfold wo;cases bef bs j i
  case true=>exact jE mk os
  exact(zX _ _ _).trans (jE mk os)
theorem zuj{os:List PO}{k:Nat}(h:os.length<=k):og os k=.dead:=by grind[za3]
theorem yK{bs:List Nat}{i:Nat}(k:Nat):∀(mk:List (Nat×Nat)) (os:List PO),(Hid bs i mk k->og (wG bs i mk os) k=.dead)/\(¬Hid bs i mk k->og (wG bs i mk os) k=og os k)
 | [],_=>⟨fun⟨_,h,_⟩=>(by cases h),fun _=>rfl⟩
 |(j,k')::mk,os=>by
  obtain⟨ih1,ih2⟩:=yK (bs:=bs) (i:=i) k mk os;unfold wG;have up:Hid bs i mk k->Hid bs i ((j,k')::mk) k:=fun⟨a,b,c⟩=>⟨a,Yzi _ b,c⟩;cases hb:bef bs j i
  .simp only[Yzc];rw[zw,jk];by_cases hk:k=k'
   .subst hk;refine⟨fun _=>?_,fun h=>absurd ⟨j,Yzk ..,hb⟩ h⟩
    grind[zuj]
   rw[Yzb (fun e=>hk e.1)];refine⟨fun hx=>?_,fun h=>ih2 fun g=>h (up g)⟩;obtain⟨a,h1,h2⟩:=hx;rcases Yzv.1 h1 with h1|h1
   .grind
   exact ih1 ⟨a,h1,h2⟩
  simp only[Yza];refine⟨fun hx=>?_,fun h=>ih2 fun g=>h (up g)⟩;obtain⟨a,h1,h2⟩:=hx;rcases Yzv.1 h1 with h1|h1
  .grind
  exact ih1 ⟨a,h1,h2⟩
theorem xz{bs:List Nat}{i:Nat}{os0:List PO}(k:Nat):∀(mk:List (Nat×Nat)) (os:List PO),(∀p∈mk,p.2<os.length)->(Hid bs i mk k->og (wo bs i os0 mk os) k=og os0 k)/\(¬Hid bs i mk k->og (wo bs i os0 mk os) k=og os k)
 | [],_,_=>⟨fun⟨_,h,_⟩=>(by cases h),fun _=>rfl⟩
 |(j,k')::mk,os,hr=>by
  obtain⟨ih1,ih2⟩:=xz (bs:=bs) (i:=i) (os0:=os0) k mk os fun p hp=>hr p (Yzi _ hp);unfold wo;have up:Hid bs i mk k->Hid bs i ((j,k')::mk) k:=fun⟨a,b,c⟩=>⟨a,Yzi _ b,c⟩;cases hb:bef bs j i
  .simp only[Yzc];rw[zw,jE];by_cases hk:k=k'
   .subst hk;refine⟨fun _=>by simp_all,fun h=>absurd ⟨j,Yzk ..,hb⟩ h⟩
   rw[Yzb (fun e=>hk e.1)];refine⟨fun hx=>?_,fun h=>ih2 fun g=>h (up g)⟩;obtain⟨a,h1,h2⟩:=hx;rcases Yzv.1 h1 with h1|h1
   .grind
   exact ih1 ⟨a,h1,h2⟩
  simp only[Yza];refine⟨fun hx=>?_,fun h=>ih2 fun g=>h (up g)⟩;obtain⟨a,h1,h2⟩:=hx;rcases Yzv.1 h1 with h1|h1
  .grind
  exact ih1 ⟨a,h1,h2⟩
structure Zs (E:En) (n0 len i:Nat) (mk:List (Nat×Nat)) (N:Nm) (os:List PO):Prop where
 e0:E.h0.n.toNat<=n0
 top:n0+len<=N.h.n.toNat
 mks:∀p∈mk,p.1<i/\p.1<len/\p.2<N.n/\solid (og os p.2)/\blk (N.μ p.2)=some (nm n0 p.1)
 free:∀j,j<len->i<=j->N.h.t.get (nm n0 j)=none
 all:∀j y,j<len->N.h.t.get (nm n0 j)=some y->∃k,(j,k)∈mk
section
variable {E:En} {N:Nm} {os:List PO} {n0 len i:Nat} {mk:List (Nat×Nat)}
theorem Zs.nfz(M:Zs E n0 len i mk N os)(I:Zd E N os){j:Nat}(hj:j<len):¬N.fz (nm n0 j):=fun hf=>by
 rcases I.fzex _ hf with h|⟨y,hy⟩
 .rw[yw]at h;have:=M.e0;omega
 obtain⟨k,hk⟩:=M.all j y hj hy;obtain⟨_,_,_,h3,h4⟩:=M.mks _ hk;obtain⟨b,x,g1,g2,_⟩:=yZ h3.live (I.obj k)
 grind
structure Zu (bs:List Nat) (i len:Nat) (mk:List (Nat×Nat)) (H:List Nat):Prop where
 nd:H.Nodup
 lt:∀j∈H,j<len
 hid:∀j k,(j,k)∈mk->(j∈H↔bef bs j i=false)
variable {bs:List Nat} {H:List Nat}
noncomputable def um(n0:Nat)(H:List Nat)(N:Nm):Nm:=⟨N.μ,N.n,N.fz,⟨N.h.n,zar n0 H N.h.t⟩⟩
theorem vU(b:BN):(b∈H.map (nm n0)->(um n0 H N).h.t.get b=none)/\(b∉H.map (nm n0)->(um n0 H N).h.t.get b=N.h.t.get b):=zpN H N.h.t b
theorem qG{b:BN}{y:Zf}(h:(um n0 H N).h.t.get b=some y):b∉H.map (nm n0)/\N.h.t.get b=some y:=by by_cases hb:b∈H.map (nm n0)<;>simp_all[vU]
theorem zhm(M:Zs E n0 len i mk N os)(I:Zd E N os)(D:Zu bs i len mk H):Nx N (um n0 H N):=
 ⟨⟨fun _ _ h _ => h, fun b o hf hy => by
  rw[(vU b).2 ?_]
  .exact hy
  intro hm;obtain⟨j,hj,rfl⟩:=List.mem_map.1 hm;exact M.nfz I (D.lt j hj) hf⟩,LzB _,fun _ _=>rfl⟩
theorem ziX:Nx (um n0 H N) N:=⟨⟨fun _ _ h _=>h,fun _ _ _ hy=>(qG hy).2⟩,LzB _,fun _ _=>rfl⟩
theorem ziY(M:Zs E n0 len i mk N os)(I:Zd E N os)(D:Zu bs i len mk H):Zd E (um n0 H N) (wG bs i mk os):=by
 have t:∀k,live (og (wG bs i mk os) k)->¬Hid bs i mk k/\live (og os k):=fun k hl=>by
  by_cases hh:Hid bs i mk k
  .rw[(yK k mk os).1 hh]at hl;trivial
  grind[yK]
 refine⟨fun b y hy=>I.hw b y (qG hy).2,⟨I.gr.le,fun b hb hx=>?_⟩,I.fzlt,I.fzok,fun b hb=>?_,I.len.trans (jk mk os).symm,fun k b hl hb=>I.own k b (t k hl).2 hb,fun k k' b hl hl' hb hb'=>I.inj k k' b (t k hl).2 (t k' hl').2 hb hb',fun k=>?_,fun k m hk=>?_⟩
 .rw[(vU b).2 ?_]
  .exact I.gr.old b hb hx
  intro hm;obtain⟨j,hj,rfl⟩:=List.mem_map.1 hm;rw[yw]at hb;have:=M.e0;omega
 .refine (I.fzex b hb).imp id fun⟨y,hy⟩=>⟨y,?_⟩;rw[(vU b).2 ?_]
  .exact hy
  intro hm;obtain⟨j,hj,rfl⟩:=List.mem_map.1 hm;exact M.nfz I (D.lt j hj) hb
 .by_cases hh:Hid bs i mk k
  .rw[(yK k mk os).1 hh];trivial
  rw[(yK k mk os).2 hh];refine (I.obj k).mono (zhm M I D) rfl fun hl b hb=>?_;obtain⟨b',x,g1,g2,g3⟩:=xf hl (I.obj k);rw[g1]at hb;cases hb;refine⟨g2,(vU _).2 fun hm=>?_⟩;obtain⟨j,hj,rfl⟩:=List.mem_map.1 hm;obtain⟨k',hk'⟩:=M.all j x (D.lt j hj) g3;obtain⟨_,_,_,h3,h4⟩:=M.mks _ hk';rcases hl with hl|⟨m,hlm⟩
  .have:=I.inj k k' _ hl h3.live g1 h4;subst this;exact hh ⟨j,hk',(D.hid j k hk').1 hj⟩
  obtain⟨k2,v2,n2,q1,q2⟩:=I.lnk_blk hlm;have:=I.inj k2 k' _ (by rw[q1];trivial) h3.live (by grind) h4;subst this;exact h3.hol _ _ _ q1
 by_cases hh:Hid bs i mk k
 .grind[yK]
 rw[(yK k mk os).2 hh]at hk;obtain⟨k2,v2,n2,q⟩:=I.lnk k m hk;have hnh:¬Hid bs i mk k2:=fun⟨j,h1,_⟩=>(M.mks _ h1).2.2.2.1.hol _ _ _ q
 grind[yK]
structure Aft (N:Nm) (os:List PO) (wr:List Nat) (N':Nm) (os':List PO):Prop where
 nx:Nx N N'
 bk:BkE N os N' wr
 ho:Ho N.n os os' wr
 nle:N.h.n.toNat<=N'.h.n.toNat
theorem zsS(M:Zs E n0 len i mk N os)(I:Zd E N os)(D:Zu bs i len mk H){N1:Nm}{os1:List PO}{wr:List Nat}{lk:Nat->Bool}{v:Zb}{a:PA}(S:Sim E lk (um n0 H N) (wG bs i mk os) wr N1 os1 v a):
  ∃t,ze4 n0 N.h.t H N1.h.t=some t/\Zd E ⟨N1.μ,N1.n,N1.fz,⟨N1.h.n,t⟩⟩ (wo bs i os mk os1)/\Aft N os wr ⟨N1.μ,N1.n,N1.fz,⟨N1.h.n,t⟩⟩ (wo bs i os mk os1)/\Nx N1 ⟨N1.μ,N1.n,N1.fz,⟨N1.h.n,t⟩⟩/\
   (∀j,lk j=true->og (wo bs i os mk os1) j=og os j)/\(∀j,j<len->N.h.t.get (nm n0 j)=none->t.get (nm n0 j)=none):=by
 have IH:=ziY M I D;have old:∀b,b.toNat<N.h.n.toNat->(um n0 H N).h.t.get b=none->N1.h.t.get b=none:=fun b hb hn=>by
  rw[S.fr.eq b hb fun k hk hkn hl hkb=>?_]
  .exact hn
  obtain⟨b',x,g1,_,g3⟩:=yZ hl (IH.obj k)
  grind
 have nlt:∀j,j<len->(nm n0 j).toNat<N.h.n.toNat:=fun j hj=>by rw[yw];have:=M.top;omega
 have hnone:∀j∈H,N1.h.t.get (nm n0 j)=none:=fun j hj=>old _ (nlt j (D.lt j hj)) ((vU _).1 (List.mem_map.2 ⟨j,hj,rfl⟩));obtain⟨t,ht⟩:=zaC (h:=N.h.t) H N1.h.t D.nd hnone;obtain⟨b1,b2,_⟩:=jV H N1.h.t t ht;have b2:∀b,b∉H.map (nm n0)->t.get b=N1.h.t.get b:=fun b hb=>b2 b fun j hj e=>hb (List.mem_map.2 ⟨j,hj,e.symm⟩);have up:∀b y,N1.h.t.get b=some y->t.get b=some y:=fun b y hy=>by grind
 have dn:∀b y,t.get b=some y->N1.h.t.get b=some y\/(b∈H.map (nm n0)/\N.h.t.get b=some y):=fun b y hy=>by grind
 have nfz1:∀j∈H,¬N1.fz (nm n0 j):=fun j hj hf=>by
  rcases S.inv.fzex _ hf with h|⟨y,hy⟩
  .rw[yw]at h;have:=M.e0;omega
  grind
 let N2:Nm:=⟨N1.μ,N1.n,N1.fz,⟨N1.h.n,t⟩⟩
 have nx1:Nx N1 N2:=⟨⟨fun _ _ h _=>h,fun b o _ hy=>up b o hy⟩,LzB _,fun _ _=>rfl⟩;have nx0:Nx N N2:=((zhm M I D).trans S.nx).trans nx1;have hr:∀p∈mk,p.2<os1.length:=fun p hp=>by have:=(M.mks p hp).2.2.1;have h2:N.n<=N1.n:=S.nx.le;rw[S.inv.len]at h2;omega
 have hsol:∀k,Hid bs i mk k->k<N.n/\solid (og os k):=fun k ⟨j,h1,h2⟩=>⟨(M.mks _ h1).2.2.1,(M.mks _ h1).2.2.2.1⟩;have hidden:∀k,Hid bs i mk k->∃j∈H,k<N.n/\live (og os k)/\blk (N.μ k)=some (nm n0 j)/\N1.μ k=N.μ k:=fun k ⟨j,h1,h2⟩=>by obtain⟨_,_,g1,g2,g3⟩:=M.mks _ h1;exact⟨j,(D.hid j k h1).2 h2,g1,g2.live,g3,S.nx.mu k g1⟩
 have key:∀k,live (og (wo bs i os mk os1) k)->(Hid bs i mk k/\live (og os k))\/(¬Hid bs i mk k/\live (og os1 k)):=fun k hl=>by grind[Hid,xz]
 have cross:∀k k' b,Hid bs i mk k->live (og os1 k')->blk (N1.μ k)=some b->blk (N1.μ k')=some b->False:=fun k k' b hh hl hb hb'=>by
  obtain⟨j,hj,g1,g2,g3,g4⟩:=hidden k hh;rw[g4,g3]at hb;cases hb;obtain⟨b',x,q1,_,q3⟩:=yZ hl (S.inv.obj k')
  grind
 refine⟨t,ht,⟨fun b y hy=>?_,⟨Yzl I.gr.le S.fr.nle,fun b hb hx=>?_⟩,S.inv.fzlt,S.inv.fzok,fun b hb=>?_,S.inv.len.trans (jE mk os1).symm,fun k b hl hb=>?_,fun k k' b hl hl' hb hb'=>?_,fun k=>?_,fun k m hk=>?_⟩,
  ⟨nx0,fun b y hy hw=>?_,fun k hk=>?_,S.fr.nle⟩,nx1,fun j hj=>?_,fun j hj=>?_⟩
 .rcases dn b y hy with h|⟨_,h⟩
  .exact S.inv.hw b y h
  exact Lz9 (I.hw b y h) S.fr.nle
 .show t.get b=_;rw[b2 b ?_]
  .exact S.inv.gr.old b hb hx
  intro hm;obtain⟨j,hj,rfl⟩:=List.mem_map.1 hm;rw[yw]at hb;have:=M.e0;omega
 .exact(S.inv.fzex b hb).imp id fun⟨y,hy⟩=>⟨y,up b y hy⟩
 .rcases key k hl with⟨hh,hl⟩|⟨_,hl⟩
  .obtain⟨j,_,_,_,g3,g4⟩:=hidden k hh;rw[show N2.μ k=N1.μ k from rfl,g4,g3]at hb;cases hb;exact .inl (by rw[yw];have:=M.e0;omega)
  exact S.inv.own k b hl hb
 .rcases key k hl with⟨hh,h1⟩|⟨hh,h1⟩<;>rcases key k' hl' with⟨hh',h1'⟩|⟨hh',h1'⟩
  .obtain⟨_,_,_,_,_,g4⟩:=hidden k hh;obtain⟨_,_,_,_,_,g4'⟩:=hidden k' hh';rw[show N2.μ k=N1.μ k from rfl,g4]at hb;rw[show N2.μ k'=N1.μ k' from rfl,g4']at hb';exact I.inj k k' b h1 h1' hb hb'
  .grind
  .grind
  exact S.inv.inj k k' b h1 h1' hb hb'
 .by_cases hh:Hid bs i mk k
  .rw[(xz k mk os1 hr).1 hh];obtain⟨j,hj,g1,g2,g3,g4⟩:=hidden k hh;refine (I.obj k).mono nx0 g4 fun _ b hb=>?_
   grind
  rw[(xz k mk os1 hr).2 hh];refine (S.inv.obj k).mono nx1 rfl fun hl b hb=>?_;obtain⟨b',x,q1,q2,q3⟩:=xf hl (S.inv.obj k)
  grind
 .by_cases hh:Hid bs i mk k
  .rw[(xz k mk os1 hr).1 hh]at hk;have:=(hsol k hh).2;rw[hk]at this;trivial
  rw[(xz k mk os1 hr).2 hh]at hk;obtain⟨k2,v2,n2,q⟩:=S.inv.lnk k m hk;have hnh:¬Hid bs i mk k2:=fun h2=>by have:=(S.ho k2 (hsol k2 h2).1).2.2 (by rw[q];trivial);rw[(yK k2 mk os).1 h2]at this;exact this
  grind[xz]
 .by_cases hm:b∈H.map (nm n0)
  .grind
  refine up b y ?_;have hy2:(um n0 H N).h.t.get b=some y:=((vU b).2 hm).trans hy;rw[S.fr.eq b (I.hw b y hy) fun k hk hkn hl hkb=>?_]
  .exact hy2
  by_cases hh:Hid bs i mk k
  .rw[(yK k mk os).1 hh]at hl;exact hl
  rw[(yK k mk os).2 hh]at hl;exact hw k hk hkn hl hkb
 .by_cases hh:Hid bs i mk k
  .grind[xz]
  rw[(xz k mk os1 hr).2 hh];have:=S.ho k hk
  grind[yK]
 .by_cases hh:Hid bs i mk j
  .grind[xz]
  rw[(xz j mk os1 hr).2 hh,S.lock j hj,(yK j mk os).2 hh]
 by_cases hm:j∈H
 .grind
 have hm2:nm n0 j∉H.map (nm n0):=fun h=>by grind[vT]
 grind[vU]
end
end Go.PE
end
section
namespace Go.PE
open Go Go.CE
section
variable {P:Program} {O:Orc} {C:Nat->zc} {E:En}
theorem Zd.newAt{N:Nm}{os:List PO}(I:Zd E N os){b:BN}(hlt:b.toNat<N.h.n.toNat)(hn:N.h.t.get b=none)(h0:E.h0.n.toNat<=b.toNat)(hnf:¬N.fz b)(y:Zf)(o:PO)(c:Zc)(hc:blk c=some b)
  (ho:∀N',Nx N N'->N'.μ os.length=c->¬N'.fz b->N'.h.t.get b=some y->os.length<N'.n->RepO N' os.length o) (hnl:∀m,o≠.lnk m):
  Zd E ⟨upd N.μ os.length c,os.length+1,N.fz,⟨N.h.n,N.h.t.set b y⟩⟩ (os++[o])/\Aft N os [] ⟨upd N.μ os.length c,os.length+1,N.fz,⟨N.h.n,N.h.t.set b y⟩⟩ (os++[o]):=by
 have old:∀b' z,N.h.t.get b'=some z->(N.h.t.set b y).get b'=some z:=fun b' z hz=>by grind[zl]
 have mu:∀k,k≠os.length->upd N.μ os.length c k=N.μ k:=fun k hk=>by show (if k=os.length then c else N.μ k)=_;rw[Yzb hk]
 have muL:upd N.μ os.length c os.length=c:=by show (if os.length=os.length then c else _)=_;simp
 have hlen:=I.len;have nx:Nx N ⟨upd N.μ os.length c,os.length+1,N.fz,⟨N.h.n,N.h.t.set b y⟩⟩:=⟨⟨fun _ _ h _=>h,fun b' z _ hz=>old b' z hz⟩,by grind,fun k hk=>mu k (by omega)⟩;have nb:∀k,live (og os k)->blk (N.μ k)≠some b:=fun k hl hb=>by
  obtain⟨b',x',h1,_,h3⟩:=yZ hl (I.obj k)
  grind
 refine⟨⟨fun b' z hz=>?_,⟨I.gr.le,fun b' hb' hx=>?_⟩,I.fzlt,I.fzok,fun b' hb'=>(I.fzex b' hb').imp id fun⟨z,hz⟩=>⟨z,old b' z hz⟩,by simp,fun k b' hl hb=>?_,fun k k' b' hl hl' hb hb'=>?_,fun k=>?_,fun t m ht=>?_⟩,
  ⟨nx,fun b' z hz _=>old b' z hz,.app (Nat.le_of_eq hlen),LzB _⟩⟩
 .show b'.toNat<N.h.n.toNat;by_cases hb:b'=b
  .grind
  exact I.hw b' z (by rwa [show (Za.mk N.h.n (N.h.t.set b y)).t=N.h.t.set b y from rfl,zl _ _ _ _ hb]at hz)
 .show (N.h.t.set b y).get b'=_;rw[zl _ _ _ _ (fun e=>by grind)];exact I.gr.old b' hb' hx
 .by_cases hk:k=os.length
  .subst hk;rw[show (Nm.mk (upd N.μ os.length c) (os.length+1) N.fz ⟨N.h.n,N.h.t.set b y⟩).μ os.length=c from muL,hc]at hb;cases hb;exact .inl h0
  rw[yI,Yzb hk]at hl;rw[show (Nm.mk (upd N.μ os.length c) (os.length+1) N.fz ⟨N.h.n,N.h.t.set b y⟩).μ k=N.μ k from mu k hk]at hb;exact I.own k b' hl hb
 .rw[yI]at hl hl';simp only at hb hb';by_cases hk:k=os.length<;>by_cases hk':k'=os.length
  .omega
  .grind
  .grind
  rw[Yzb hk]at hl;rw[Yzb hk']at hl';rw[mu k hk]at hb;rw[mu k' hk']at hb';exact I.inj k k' b' hl hl' hb hb'
 .rw[yI];by_cases hk:k=os.length
  .simp_all[zq]
  rw[Yzb hk];refine (I.obj k).mono nx (mu k hk) fun hl b' hb=>?_;obtain⟨b2,x',h1,h2,h3⟩:=xf hl (I.obj k)
  grind
 rw[yI]at ht;by_cases hk:t=os.length
 .grind
 rw[Yzb hk]at ht;obtain⟨k,v,n,h⟩:=I.lnk t m ht;have hl:k<os.length:=wF (by grind);exact⟨k,v,n,by rw[yI,Yzb (by omega)];exact h⟩
def mkK:KOp->Bool
 | .alloc _=>true
 | .box _=>true
 | .bslice ..=>true
 |_=>false
def soft:KOp->Bool
 | .bslice ..=>false
 |_=>true
def isD:PC->Bool
 | .d _=>true
 |_=>false
def wD:PA->Bool
 | .s v=>v.cells.all isD
 | .tl ..=>false
 |_=>true
theorem zj4{N A:Nm}(g:FG N.fz N.h A.fz A.h){v:Zb}{a:PA}(hp:wD a=true)(H:RepPA N v a):RepPA A v a:=by
 have one:∀(c:Zc) (p:PC),isD p=true->RepPC N c p->RepPC A c p:=fun c p hp H=>by
  cases p with
  |d d=>exact Rep.mono g H
  |_=>cases hp
 have many:∀(cs:List Zc) (ps:List PC),ps.all isD=true->RepPL N cs ps->RepPL A cs ps:=by
  intro cs
  induction cs with
  |nil=>intro ps _ H;cases ps with
   |nil=>trivial
   |cons _ _=>trivial
  |cons c cs ih=>intro ps hp H;cases ps with
   |nil=>trivial
   |cons p ps=>simp only[List.all_cons,LzC]at hp;exact⟨one c p hp.1 H.1,ih ps hp.2 H.2⟩
 cases a with
 |s pv=>
  obtain⟨w,rfl,hw⟩:=H.inv;refine .of ?_;cases w<;>cases pv<;>first|exact hw.elim|skip
  .simp only[wD,PV.cells,List.all_cons,List.all_nil,Yyi]at hp;exact one _ _ hp hw
  exact many _ _ hp hw
 |tup ds=>
  cases v with
  |s _=>trivial
  |tup l=>exact RepSL.mono g H
 |tl p ds=>cases hp
 |bad=>trivial
 |undef=>trivial
def zuG:KOp->PA->PA
 | .bslice _ 0 _ _,.s (.one (.own k))=>.s (.one (.lit k))
 |_,a=>a
def zvG{β:Type}(ko:KOp)(E:En)(lk:Nat->Bool)(N:Nm)(os:List PO)(run:zc->Za->Res)(K:PA->List PO->Option β)(x:β)(nb:Bool):Prop:=
 ∃a os1 o N1,K a (os1++[o])=some x/\Fz N N1/\Stp E lk N os [] N1 os1/\os1.length=os.length/\(nb=true->N1=N)/\solid o/\∃(vf:BN->Zc) (y:Zf),(∀b,blk (vf b)=some b)/\(∀call b T,run call ⟨b,T⟩=some (.s (.one (vf b)),(⟨b,T⟩:Za).new y))/\
  ∀b N',Nx N1 N'->N'.μ os1.length=vf b->¬N'.fz b->N'.h.t.get b=some y->os1.length<N'.n->RepO N' os1.length o/\RepPA N' (.s (.one (vf b))) (zuG ko a)
theorem zuw{β:Type}{lk:Nat->Bool}{N:Nm}{os:List PO}{r:Fr}{ρ:Nat->PA}{k:KT β}{x:β}{sh:Sh}{ko:KOp}(hk:mkK ko=true)(I:Zd E N os)(F:∀i,RepPA N (r i) (ρ i))(e:pOp O lk sh ρ os ko k=some x):
  zvG ko E lk N os (fun call h=>runK r ko call h) (fun a os'=>k a os' [] []) x (soft ko):=by
 have boxy:∀(vs:List Zc) (ps:List PC),RepPL N vs ps->(∀call h,runK r ko call h=zcI h (.cells vs 0) (fun b=>.ptr b 0))->k (pc (.ptr os.length 0)) (os++[.box ps]) [] []=some x->(∀a,zuG ko a=a)->zvG ko E lk N os (fun call h=>runK r ko call h) (fun a os'=>k a os' [] []) x (soft ko):=by intro vs ps H run e hla;exact⟨_,os,.box ps,N,e,.refl N,.refl I,rfl,fun _=>rfl,trivial,fun b=>.ptr b 0,.cells vs 0,fun b=>rfl,fun call b T=>(run call _).trans (zel _ _ _),fun b N' nx hmu hf hg hlt=>⟨⟨_,vs,hmu,hf,hg,H.mono nx⟩,by rw[hla];exact yD (p:=.ptr os.length 0) (c:=.ptr b 0) ⟨hlt,_,hmu,rfl⟩⟩⟩
 cases ko with
 |alloc zs=>have e:za (cDs zs) (fun cs=>k (pc (.ptr os.length 0)) (os++[.box cs]) [] [])=some x:=e;obtain⟨ps,h1,e⟩:=zh e;exact boxy _ _ (qX h1) (fun call h=>rfl) e fun _=>rfl
 |box a=>
  have e:(match pv ρ a with
   |some (.s v)=>k (pc (.ptr os.length 0)) (os++[.box v.cells]) [] []
   |_=>none)=some x:=e
  split at e
  .rename_i p hp;obtain⟨v,ka,ra⟩:=x4 F hp;obtain⟨w,rfl,hw⟩:=ra.inv;exact boxy _ _ hw.cells (fun call h=>by simp only[runK,ka,zx];rfl) e fun _=>rfl
  cases e
 |bslice st len zs parts=>
  have e:za (cDs zs) (fun cs=>za (zfS ρ parts cs) fun cs=>za (frL lk yP os cs) fun p=>bif Nat.beq p.2.length (len*st) then k (pc (.own p.1.length)) (p.1++[.arr st (some (chunks st len p.2))]) [] [] else none)=some x:=e
  obtain⟨ps,h1,e⟩:=zh e;obtain⟨ps',h2,e⟩:=zh e;obtain⟨⟨os1,ds⟩,h3,e⟩:=zh e;obtain⟨l,cs',k1,k2,k3⟩:=zbi F h2 (qX h1);obtain⟨N1,f1,S1,r1⟩:=zi2 I k3 h3;simp only at e;cases hb:Nat.beq ds.length (len*st)
  .grind
  rw[hb]at e;have hd:=Lz1 hb;have hl1:os1.length=os.length:=by rw[<-S1.inv.len,f1.n,I.len]
  have hlc:(chunks st len ds).length=len:=zav st len ds;refine⟨_,os1,.arr st (some (chunks st len ds)),N1,e,f1,S1,hl1,fun h=>(by cases h),trivial,fun b=>.slc b 0 len len true,.cells cs' st,fun b=>rfl,fun call b T=>?_,fun b N' nx hmu hf hg hlt=>⟨⟨b,cs',true,?_,hf,hg,by rw[r1.1,hd,hlc],fun i y hy=>?_⟩,by
    cases len with
    |zero=>exact yD (p:=.lit os1.length) ⟨hlt,b,hmu,rfl⟩
    |succ n=>exact yD (p:=.own os1.length) ⟨hlt,hmu.symm⟩⟩⟩
  .show runK r (.bslice st len zs parts) call ⟨b,T⟩=_;simp only[runK,k1];show (match zan .nil (cP l) zs with|some cs=>zcI ⟨b,T⟩ (.cells cs st) (fun b=>.slc b 0 len len true)|none=>none)=_
   grind[zel]
  .grind
  obtain⟨q1,q2⟩:=zaw st len ds i y hy;subst q1;refine⟨?_,(r1.sub (i*st) st).mono nx.fg⟩;have:=Yzj st (show i+1<=len from q2)
  grind
 |_=>cases hk
end
def zmB(mk:List (Nat×Nat)):List Nat->Bool
 | [k]=>mk.any fun p=>Nat.beq p.2 k
 |_=>false
section
variable (P:Program) (O:Orc) (tab:Nat->Bool) (Y:Inl)
def zg0{β:Type}(lk:Nat->Bool)(nt:Nat)(ops:Array Oper)(bs:List Nat)(es:List Bool):Nat->List Oper->(Nat->PA)->List PO->(Nat->Nat)->List (List Nat)->List (Nat×Nat×List Nat)->List (Nat×Nat)->Bool->((Nat->PA)->List PO->Option β)->Option β
 |_,[],ρ,os,_,ws,ps,_,_,K=>bif ps.all (fun p=>okW ws p.1 p.2.1 p.2.2) then K ρ os else none
 |i,o::l,ρ,os,bo,ws,ps,mk,fr,K=>
  bif j6 o.op then
   match comp P o.op,o.guard with
   |some ko,none=>
    bif mkK ko&&inT nt o.dst then
     pOp O lk (ztb P o.dst o.type) (zG ρ (o.looksAt ops)) os ko fun a os' _ _=>bif uT mk os' then zg0 lk nt ops bs es (Nat.succ i) l (jZ ρ (zuG ko a) o.dst) os' (zdD bo (Nat.succ ws.length) o.dst) ws ps (mk++[(i,os.length)]) (fr&&soft ko) K else none
    else none
   |_,_=>none
  else bif anchor P o.op then
   match zb4 P tab (zG ρ (o.looksAt ops)) o with
   |some (g,az)=>bif inT nt o.dst&&zo5 (wG bs i mk os) then Y g (zqF (wG bs i mk os).length) az (wG bs i mk os) β (fun a os1=>bif uT mk (wo bs i os mk os1) then zg0 lk nt ops bs es (Nat.succ i) l (jZ ρ a o.dst) (wo bs i os mk os1) (zdD bo (Nat.succ ws.length) o.dst) (ws++[List.range (wG bs i mk os).length]) ps mk true K else none) else none
   |none=>
   j0 P O lk nt ops o (zG ρ (o.looksAt ops)) (wG bs i mk os) fun ref a os1 wr _=>bif uT mk (wo bs i os mk os1) then zg0 lk nt ops bs es (Nat.succ i) l (jZ (refine ρ ref) a o.dst) (wo bs i os mk os1) (zdD bo (Nat.succ ws.length) o.dst) (ws++[wr]) ps mk true K else none
  else
   match comp P o.op with
   |none=>none
   |some ko=>
    bif kf ko then
     j0 P O (fun _=>true) nt ops o (zG ρ (o.looksAt ops)) (wG bs i mk os) fun ref a _ _ _=>zg0 lk nt ops bs es (Nat.succ i) l (jZ (refine ρ ref) a o.dst) os (zdD bo (match trk (refine (zG ρ (o.looksAt ops)) ref) ko with|some x=>bOf bo x|none=>bif fr&&wD a then ws.length else Nat.succ ws.length) o.dst) ws ps mk fr K
    else
     match zfF ko with
     |none=>none
     |some x=>
      bif Nat.beq (ce (fun j=>bef bs j i) 0 es) (ce (fun j=>!bef bs i j) 0 es) then
       j0 P O (fun _=>true) nt ops o (zG ρ (o.looksAt ops)) (wG bs i mk os) fun ref a _ _ _=>zg0 lk nt ops bs es (Nat.succ i) l (jZ (refine ρ ref) a o.dst) os (zdD bo (bif fr&&wD a then ws.length else Nat.succ ws.length) o.dst) ws ps mk fr K
      else
       bif Nat.ble (bOf bo x) (ce (fun j=>bef bs j i) 0 es)&&Nat.ble (ce (fun j=>bef bs j i) 0 es) ws.length&&Nat.ble ws.length (ce (fun j=>!bef bs i j) 0 es) then
        j0 P O (fun _=>true) nt ops o (zG ρ (o.looksAt ops)) (wG bs i mk os) fun ref a _ _ rd=>zg0 lk nt ops bs es (Nat.succ i) l (jZ (refine ρ ref) a o.dst) os (zdD bo (bif fr&&wD a then ws.length else Nat.succ ws.length) o.dst) ws (ps++[(ce (fun j=>bef bs j i) 0 es,ce (fun j=>!bef bs i j) 0 es,rd)]) mk fr K
       else bif Nat.ble ws.length (ce (fun j=>!bef bs i j) 0 es) then
        j0 P O (fun _=>true) nt ops o (zG ρ (o.looksAt ops)) (wG bs i mk os) fun ref a _ _ rd=>bif zmB mk rd&&okW ws 0 ws.length rd then zg0 lk nt ops bs es (Nat.succ i) l (jZ (refine ρ ref) a o.dst) os (zdD bo (bif fr&&wD a then ws.length else Nat.succ ws.length) o.dst) ws (ps++[(0,ce (fun j=>!bef bs i j) 0 es,rd)]) mk fr K else none
       else none
end
theorem zsn{tab:Nat->Bool}{Y:Inl}{C:Nat->zc}(hY:Zp tab Y C){β:Type}{E:En}{N:Nm}{os:List PO}{g:Nat}{az:List PA}{vs:List Zb}{K:PA->List PO->Option β}{x:β}(hg:tab g=true)(I:Zd E N os)(hn:zo5 os=true)(A:RepPAL N vs az)(e:Y g (zqF os.length) az os β K=some x):
  ∃a os',K a os'=some x/\Ev (fun n=>C n (.inl g) vs N.h) (fun p=>∃N',N'.h=p.2/\Sim E (zqF os.length) N os (List.range os.length) N' os' p.1 a):=by
 let E':En:=⟨N.h,N.fz,fun b=>∃k,live (og os k)/\blk (N.μ k)=some b⟩
 have I':Zd E' N os:=⟨I.hw,GrX.refl (E:=E'),I.fzlt,fun b hb=>.inl hb,fun b hb=>.inl (I.fzlt b hb),I.len,fun k b hl hb=>.inr ⟨k,hl,hb⟩,I.inj,I.obj,I.lnk⟩;obtain⟨a,os',hK,ev⟩:=hY.o (lk:=zqF os.length) hg I' A (fun j hj=>Lz4 hj) e;refine⟨a,os',hK,ev.mono ?_⟩
 rintro p ⟨N',hh,J,nx,sm,val⟩
 have same:∀j,j<os.length->og os' j=og os j:=fun j hj=>by
  rcases sm j (Yze hj) with h|⟨nt,ρ,ps,A,B,l,n,h,_⟩
  .exact h
  grind[zo5,List.getElem_mem,za3]
 have nwE:∀b,E'.nw b->E.nw b:=fun b h=>by
  rcases h with h|⟨k,hl,hb⟩
  .exact .inl (Yzl I.gr.le h)
  exact I.own k b hl hb
 have old:∀b:BN,b.toNat<N.h.n.toNat->¬E'.xp b->N'.h.t.get b=N.h.t.get b:=J.gr.old;have lt:∀k,live (og os k)->k<os.length:=fun k hl=>wF (by intro h;rw[h]at hl;exact hl);have fz':∀b,N'.fz b->N.fz b\/N.h.n.toNat<=b.toNat:=fun b hb=>by
  rcases J.fzok b hb with h|h|⟨k,hl,hkb⟩
  .grind
  .grind
  have hk:=lt k hl;have hl':live (og os' k):=by grind
  obtain⟨b',y,g1,g2,_⟩:=yZ hl' (J.obj k);rw[nx.mu k (by rw[I.len];exact hk),hkb]at g1
  grind
 refine⟨N',hh,⟨J.hw,⟨Yzl I.gr.le J.gr.le,fun b hb hx=>?_⟩,J.fzlt,fun b hb=>?_,fun b hb=>?_,J.len,fun k b hl hb=>nwE b (J.own k b hl hb),J.inj,J.obj,J.lnk⟩,nx,⟨J.gr.le,fun b hb H=>old b hb ?_⟩,fun j hj=>same j (Lz4 hj),fun k hk=>?_,val⟩
 .rw[old b (Lz9 hb I.gr.le) ?_]
  .exact I.gr.old b hb hx
  rintro⟨k,hl,hkb⟩
  rcases I.own k b hl hkb with h|h<;>grind
 .rcases fz' b hb with h|h
  .exact I.fzok b h
  exact .inr (.inl (Yzl I.gr.le h))
 .rcases fz' b hb with h|h
  .exact(I.fzex b h).imp id fun⟨y,hy⟩=>⟨y,nx.fg.old b y h hy⟩
  rcases J.fzex b hb with h2|h2<;>grind
 .rintro⟨k,hl,hkb⟩
  exact H k (List.mem_range.2 (lt k hl)) (by rw[I.len];grind) hl hkb
 rw[same k (by rw[<-I.len];exact hk)]
 grind
def PendOk2(S:List Sn)(n0:Nat)(mk:List (Nat×Nat))(mks:List (Nat×Nat×Zf))(ps:List (Nat×Nat×List Nat))(q:CkG):Prop:=
 (∀h,∃h',q.1 h=some (q.2.1,h'))\/Nat.beq q.2.2.1 q.2.2.2.1=true\/
  (∃ rd, (q.2.2.1, q.2.2.2.1, rd) ∈ ps /\ ∃ (ne : Nat) (b : BN) (A Al : Sn), q.2.2.1 <= ne /\ ne <= q.2.2.2.1 /\ S[ne]? = some A /\ S[q.2.2.1]? = some Al /\ (∀ j ∈ q.2.2.2.2, b ≠ nm n0 j) /\ (∀ h2, h2.t.get b = A.1.h.t.get b -> ∃ h', q.1 h2 = some (q.2.1, h')) /\
   ((∃j,rd=[j]/\j<Al.1.n/\blk (A.1.μ j)=some b/\held (og A.2 j))\/(Al.1.fz b/\∃y,Al.1.h.t.get b=some y)))\/
  (∃k z,(0,q.2.2.2.1,[k])∈ps/\z∈mks/\(z.2.1,k)∈mk/\(∀j∈q.2.2.2.2,nm n0 z.2.1≠nm n0 j)/\∀h2,h2.t.get (nm n0 z.2.1)=some z.2.2->∃h',q.1 h2=some (q.2.1,h'))
def NW(ws:List (List Nat))(e k:Nat):Prop:=∀i w,i<e->ws[i]? = some w->k∉w
theorem NW.of{ws:List (List Nat)}{e k:Nat}(h:okW ws 0 e [k]=true):NW ws e k:=fun _ _ h1 h2=>zg3 h (Yzn _) h1 h2
structure MV (n0 i:Nat) (ws:List (List Nat)) (S:List Sn) (N:Nm) (mk:List (Nat×Nat)) (mks:List (Nat×Nat×Zf)):Prop where
 val:∀z∈mks,∀k,(z.2.1,k)∈mk->(∀e A,z.1<e->S[e]? = some A->NW ws e k->A.1.h.t.get (nm n0 z.2.1)=some z.2.2)/\(NW ws ws.length k->N.h.t.get (nm n0 z.2.1)=some z.2.2)
 lt:∀z∈mks,z.2.1<i
 uniq:∀z∈mks,∀z'∈mks,z.2.1=z'.2.1->z=z'
 ex:∀p∈mk,∃z∈mks,z.2.1=p.1
theorem qf{run:Za->Res}{v:Zb}{n0:Nat}{hide:List Nat}{mks:List (Nat×Nat×Zf)}:∀{l:List Za} {k0:Nat},(∀m h,l[m]? = some h->∃h',run ⟨h.n,zar n0 hide (kQ n0 (k0+m) mks h.t)⟩=some (v,h'))->zc2 run v n0 hide mks k0 l=true
 | [],_,_=>rfl
 |h::l,k0,H=>by
  obtain⟨h',e⟩:=H 0 h rfl;rw[Yzy]at e;simp only[zc2,e,zje,Yyc];exact qf fun m x hx=>by
   obtain⟨h2,e2⟩:=H (m+1) x (by trivial)
   grind
theorem uK{n0 k:Nat}{b:BN}:∀(mks:List (Nat×Nat×Zf)) (t:Tr Zf),(∀x∈mks,k<=x.1->b≠nm n0 x.2.1)->(kQ n0 k mks t).get b=t.get b
 | [],_,_=>rfl
 |(c,j,o)::l,t,H=>by
  simp only[kQ];rw[uK l _ fun x hx=>H x (Yzi _ hx)]
  grind[zl,Yzk,Lz4]
theorem zfP{n0 k:Nat}{z:Nat×Nat×Zf}(hk:k<=z.1):∀(mks:List (Nat×Nat×Zf)) (t:Tr Zf),z∈mks->(∀z'∈mks,z.2.1=z'.2.1->z=z')->(kQ n0 k mks t).get (nm n0 z.2.1)=some z.2.2
 | [],_,h,_=>by cases h
 |(c,j,o)::l,t,h,hu=>by
  simp only[kQ];by_cases hz:z∈l
  .exact zfP hk l _ hz fun z' h'=>hu z' (Yzi _ h')
  rw[uK l _ fun x hx _ e=>hz (by grind[vT])];rcases Yzv.1 h with rfl|h
  .grind[Yze,zq]
  trivial
section
variable {E:En} {S:List Sn} {ws:List (List Nat)} (hl:S.length=ws.length+1) (ch:zp4 E S ws)
include hl ch
theorem znt{n0 i:Nat}{N:Nm}{mk:List (Nat×Nat)}{mks:List (Nat×Nat×Zf)}(hi:∀A∈S,Zd E A.1 A.2)(hm:∀x∈mks,∀e A,e<=x.1->S[e]? = some A->A.1.h.t.get (nm n0 x.2.1)=none)(mv:MV n0 i ws S N mk mks){ps:List (Nat×Nat×List Nat)}(hps:(ps.all fun p=>okW ws p.1 p.2.1 p.2.2)=true):
  ∀{cs:List CkG},(∀q∈cs,PendOk2 S n0 mk mks ps q)->zhM n0 mks (S.map fun x=>x.1.h) cs=true
 | [],_=>rfl
 |(run,v,lo,hi',hide)::cs,Hc=>by
  have ih:=znt hi hm mv hps (cs:=cs) fun q hq=>Hc q (Yzi _ hq);simp only[zhM,ih,Yyi];have mem:∀(m:Nat) h,(((S.map fun x=>x.1.h).drop lo).take (Nat.sub (Nat.succ hi') lo))[m]? = some h->∃B,lo+m<=hi'/\S[lo+m]? = some B/\h=B.1.h:=fun m h hi2=>by grind
  rcases Hc _ (Yzk ..) with h|h|⟨rd,hp,ne,b,A,Al,h1,h2,h3,h4,h5,h6,h7⟩|⟨k,z,hp,hz,hzk,h5,h6⟩
  .simp_all[qf]
  .grind
  .rw[YzI]at hps;have hwin:=hps _ hp;simp only at hwin h1 h2 h4 h5 h6;rw[qf fun m x hx=>?_,Bool.or_true];obtain⟨B,hd1,hd2,rfl⟩:=mem m x hx;have hne:S[lo+(ne-lo)]? = some A:=by grind
   have fact:B.1.h.t.get b=A.1.h.t.get b/\∃y,B.1.h.t.get b=some y:=by
    rcases h7 with⟨j,rfl,q1,q2,q3⟩|⟨q1,y,q2⟩
    .have e1:=qq hl ch h4 h3 h1 h2 q1 hwin q2 q3 (ne-lo) A (by omega) hne;have e2:=qq hl ch h4 h3 h1 h2 q1 hwin q2 q3 m B hd1 hd2;obtain⟨y,hy⟩:=zb7 q3 ((hi A (Lz3 h3)).obj j) q2
     grind
    have e1:=(xO hl ch h4 (ne-lo) A hne).fg.old b y q1 q2;have e2:=(xO hl ch h4 m B hd2).fg.old b y q1 q2
    grind
   obtain⟨f1,y,f2⟩:=fact;refine h6 _ ?_;show (zar n0 hide (kQ n0 (lo+m) mks B.1.h.t)).get b=_;rw[vX hide _ b h5,uK mks _ fun x hx hle e=>?_]
   .exact f1
   grind
  rw[YzI]at hps;have hwin:=hps _ hp;simp only at hwin h5 h6;rw[qf fun m x hx=>?_,Bool.or_true];obtain⟨B,hd1,hd2,rfl⟩:=mem m x hx;refine h6 _ ?_;show (zar n0 hide (kQ n0 (lo+m) mks B.1.h.t)).get _=_;rw[vX hide _ _ h5];by_cases hle:lo+m<=z.1
  .exact zfP hle mks _ hz (mv.uniq z hz)
  rw[uK mks _ fun x hx hle2 e=>hle (by have:=mv.uniq z hz x hx (vT e);grind)];exact(mv.val z hz k hzk).1 (lo+m) B (by omega) hd2 fun i w h1 h2=>NW.of hwin i w (by omega) h2
end
theorem Aft.refl(N:Nm)(os:List PO):Aft N os [] N os:=⟨.refl N,fun _ _ h _=>h,.refl _ _ _,LzB _⟩
theorem Stp.aft{E:En}{lk:Nat->Bool}{N N':Nm}{os os':List PO}{wr:List Nat}(S:Stp E lk N os wr N' os')(hw:HW N.h):Aft N os wr N' os':=⟨S.nx,S.fr.ex hw,S.ho,S.fr.nle⟩
theorem Aft.trans{A N N':Nm}{oA os os':List PO}{wr:List Nat}(a:Aft A oA [] N os)(hn:∀k b,A.n<=k->k<N.n->blk (N.μ k)=some b->A.h.t.get b=none)(b:Aft N os wr N' os'):Aft A oA wr N' os':=by
 refine⟨a.nx.trans b.nx,fun b0 y hy hw=>?_,fun k hk=>?_,Yzl a.nle b.nle⟩
 .refine b.bk b0 y (a.bk b0 y hy fun j hj=>(by cases hj)) fun j hj hjn hl hjb=>?_;by_cases hA:j<A.n
  .exact hw j hj hA ((a.ho j hA).2.2 hl) (by rw[<-a.nx.mu j hA];exact hjb)
  grind
 have g1:=a.ho k hk;have g2:=b.ho k (Lz9 hk a.nx.le)
 grind
end Go.PE
end
section
namespace Go.PE
open Go Go.CE
section
variable {P:Program} {O:Orc} {C:Nat->zc} {E:En} {tab:Nat->Bool} {Y:Inl}
theorem Zs.up{n0 len i:Nat}{mk:List (Nat×Nat)}{N:Nm}{os:List PO}(M:Zs E n0 len i mk N os):Zs E n0 len (Nat.succ i) mk N os:=
 ⟨M.e0,M.top,fun p hp=>⟨Nat.lt_succ_of_lt (M.mks p hp).1,(M.mks p hp).2⟩,fun j hj h=>M.free j hj (by omega),M.all⟩
theorem zxs{ops:Array Oper}{bs:List Nat}{i:Nat}{mk:List (Nat×Nat)}{n0:Nat}{N:Nm}{os:List PO}(_M:Zs E n0 ops.toList.length i mk N os)(hm:∀p∈mk,∃o,ops.toList[p.1]? = some o/\j6 o.op=true):
  Zu bs i ops.toList.length mk (yp bs i 0 ops.toList):=by
 refine⟨zb6 _ _,fun j hj=>?_,fun j k hjk=>?_⟩<;>grind[ul]
theorem PendOk2.up{S X:List Sn}{n0:Nat}{mk mk':List (Nat×Nat)}{mks mks':List (Nat×Nat×Zf)}{ps ps':List (Nat×Nat×List Nat)}(hps:∀p∈ps,p∈ps')(hmk:∀p∈mk,p∈mk')(hmks:∀p∈mks,p∈mks'){q:CkG}(h:PendOk2 S n0 mk mks ps q):PendOk2 (S++X) n0 mk' mks' ps' q:=by
 rcases h with g|g|⟨rd',g1,ne,b,A,Al,a1,a2,a3,a4,a5⟩|⟨k,z,g1,g2,g3,g4⟩
 .exact .inl g
 .exact .inr (.inl g)
 .refine .inr (.inr (.inl ⟨rd',hps _ g1,ne,b,A,Al,a1,a2,?_,?_,a5⟩))
  .grind
  grind
 exact .inr (.inr (.inr ⟨k,z,hps _ g1,hmks _ g2,hmk _ g3,g4⟩))
set_option maxHeartbeats 1000000 in
theorem zef(hO:uW O C)(hY:Zp tab Y C){β γ:Type}{Q:γ->Prop}{lk:Nat->Bool}{nt:Nat}{ops:Array Oper}{bs:List Nat}{es:List Bool}{n0:Nat}{x:β}{K:(Nat->PA)->List PO->Option β}{kk:Nat->Fr->Za->Option γ}:
    ∀(l:List Oper) (i:Nat) (ρ:Nat->PA) (os:List PO) (N:Nm) (r:Fr) (bo:Nat->Nat) (ws:List (List Nat)) (ps:List (Nat×Nat×List Nat)) (mk:List (Nat×Nat)) (fr:Bool) (S:List Sn) (cs:Nat->List CkG) (mks:List (Nat×Nat×Zf)),
    zg0 P O tab Y lk nt ops bs es i l ρ os bo ws ps mk fr K=some x->Zd E N os->(∀i,RepPA N (r i) (ρ i))->(∀j,lk j=true->j<os.length)->
    (∃pre,ops.toList=pre++l/\pre.length=i)->Zs E n0 ops.toList.length i mk N os->(∀p∈mk,∃o,ops.toList[p.1]? = some o/\j6 o.op=true)->
    S.length=ws.length+1->zp4 E S ws->(∀A∈S,Zd E A.1 A.2)->(∀A∈S,∀j,j<ops.toList.length->i<=j->A.1.h.t.get (nm n0 j)=none)->
    (∃A,S[ws.length]? = some A/\Aft A.1 A.2 [] N os/\(∀k b,A.1.n<=k->k<N.n->blk (N.μ k)=some b->A.1.h.t.get b=none)/\(fr=true->FG N.fz N.h A.1.fz A.1.h))->
    (∀s,bo s<=ws.length+1/\∀A:Sn,S[bo s]? = some A->RepPA A.1 (r s) (ρ s))->
    (∀y∈mks,y.1<=ws.length/\∀e A,e<=y.1->S[e]? = some A->A.1.h.t.get (nm n0 y.2.1)=none)->MV n0 i ws S N mk mks->(∀n,∀q∈cs n,PendOk2 S n0 mk mks ps q)->
    (∀ρ' os' N' r',K ρ' os'=some x->Zd E N' os'->(∀i,RepPA N' (r' i) (ρ' i))->Nx N N'->(∀j,lk j=true->og os' j=og os j)->(∀i,i∉l.filterMap (·.dst)->r' i=r i)->Ev (fun n=>kk n r' N'.h) Q)->
    Ev (fun n=>zcM P nt ops (C n) bs es n0 i l r N.h ws.length (S.map fun x=>x.1.h) (cs n) mks (kk n)) Q
  | [],i,ρ,os,N,r,bo,ws,ps,mk,fr,S,cs,mks,e,I,F,hlk,sfx,M,hmo,hl,ch,hi,hf,la,sl,hms,mv,pe,H=>by
    simp only[zg0]at e;cases hps:(ps.all fun p=>okW ws p.1 p.2.1 p.2.2) with
    |false=>grind
    |true=>
      rw[hps]at e;have run:∀n,zcM P nt ops (C n) bs es n0 i [] r N.h ws.length (S.map fun x=>x.1.h) (cs n) mks (kk n)=kk n r N.h:=fun n=>by simp only[zcM];rw[znt hl ch hi (fun y hy=>(hms y hy).2) mv hps (pe n),Yza]
      simp only[run];exact H ρ os N r e I F (.refl N) (fun _ _=>rfl) (fun _ _=>rfl)
  |o::l,i,ρ,os,N,r,bo,ws,ps,mk,fr,S,cs,mks,e,I,F,hlk,sfx,M,hmo,hl,ch,hi,hf,la,sl,hms,mv,pe,H=>by
    have agree:∀(r2:Fr) (v:Zb),(∀i,i∉l.filterMap (·.dst)->r2 i=vM r v o.dst i)->∀i,i∉(o::l).filterMap (·.dst)->r2 i=r i:=fun r2 v hr i hi=>by grind[xe]
    have FR:=zlD F (o.looksAt ops);obtain⟨pre,hpre,hprel⟩:=sfx;have sfx':∃pre,ops.toList=pre++l/\pre.length=Nat.succ i:=⟨pre++[o],by grind,by grind⟩;have hop:ops.toList[i]? = some o:=by grind
    have hilt:i<ops.toList.length:=(Lz0.1 hop).1;obtain⟨A,eA,aA,nA,gA⟩:=la;have hf':∀A∈S,∀j,j<ops.toList.length->Nat.succ i<=j->A.1.h.t.get (nm n0 j)=none:=fun A hA j hj h=>hf A hA j hj (by omega);simp only[zg0]at e;simp only[zcM];cases hm:j6 o.op
    · rw[hm]at e
      simp only[Yzc]at e ⊢;have D:Zu bs i ops.toList.length mk (yp bs i 0 ops.toList):=zxs M hmo;have IH:=ziY M I D;have nxH:=zhm M I D;have FH:∀s,RepPA (um n0 (yp bs i 0 ops.toList) N) (zI r (o.looksAt ops) s) (zG ρ (o.looksAt ops) s):=fun s=>(FR s).mono nxH;have hlenH:(wG bs i mk os).length=os.length:=jk mk os;cases ha:anchor P o.op
      · rw[ha]at e
        simp only[Yzc]at e ⊢;rcases hc:comp P o.op with _|ko
        · grind
        rw[hc]at e;simp only at e;have go:∀(okr:List Nat->Bool) (nb:Option (Nat×Bool)->PA->Nat) (ps':List Nat->List (Nat×Nat×List Nat)) (hk:kf ko=true\/∃y,zfF ko=some y),(∀ref a,nb ref a<=ws.length+1)->(∀rd,∀p∈ps,p∈ps' rd)->
            (∀ref,(∀s,RepPA (um n0 (yp bs i 0 ops.toList) N) (zI r (o.looksAt ops) s) (refine (zG ρ (o.looksAt ops)) ref s))->∀v a,RepPA N v a->(∀xo,trk (refine (zG ρ (o.looksAt ops)) ref) ko=some xo->∀N':Nm,(∀t,xo=.tmp t->RepPA N' (zI r (o.looksAt ops) t) (refine (zG ρ (o.looksAt ops)) ref t))->RepPA N' v a)->∀B:Sn,S[nb ref a]? = some B->RepPA B.1 v a)->
            (∀ref,(∀s,RepPA (um n0 (yp bs i 0 ops.toList) N) (zI r (o.looksAt ops) s) (refine (zG ρ (o.looksAt ops)) ref s))->∀v rd n,okr rd=true->((∀call h2,∃h',z9 P nt ops o call (zI r (o.looksAt ops)) h2=some (v,h'))\/(∃xo,zfF ko=some xo/\∃b:BN,(∀call h2,h2.t.get b=(um n0 (yp bs i 0 ops.toList) N).h.t.get b->∃h',z9 P nt ops o call (zI r (o.looksAt ops)) h2=some (v,h'))/\
                ((∃ j, rd = [j] /\ j < (um n0 (yp bs i 0 ops.toList) N).n /\ blk ((um n0 (yp bs i 0 ops.toList) N).μ j) = some b /\ held (og (wG bs i mk os) j) /\ ∀ N' : Nm, (∀ t, xo = .tmp t -> RepPA N' (zI r (o.looksAt ops) t) (refine (zG ρ (o.looksAt ops)) ref t)) -> j < N'.n) \/
                 (rd=[]/\∀N':Nm,(∀t,xo=.tmp t->RepPA N' (zI r (o.looksAt ops) t) (refine (zG ρ (o.looksAt ops)) ref t))->N'.fz b/\∃y,N'.h.t.get b=some y))))->
              PendOk2 S n0 mk mks (ps' rd) (z9 P nt ops o (C n) (zI r (o.looksAt ops)),v,ce (fun j=>bef bs j i) 0 es,ce (fun j=>!bef bs i j) 0 es,yp bs i 0 ops.toList))->
            (j0 P O (fun _=>true) nt ops o (zG ρ (o.looksAt ops)) (wG bs i mk os) fun ref a _ _ rd=>bif okr rd then zg0 P O tab Y lk nt ops bs es (Nat.succ i) l (jZ (refine ρ ref) a o.dst) os (zdD bo (nb ref a) o.dst) ws (ps' rd) mk fr K else none)=some x->
            Ev (fun n=>CE.bindR (z9 P nt ops o (C n) (zI r (o.looksAt ops)) ⟨N.h.n,zar n0 (yp bs i 0 ops.toList) N.h.t⟩) fun v h'=>zcM P nt ops (C n) bs es n0 (Nat.succ i) l (vM r v o.dst) N.h ws.length (S.map fun x=>x.1.h) (cs n++[(z9 P nt ops o (C n) (zI r (o.looksAt ops)),v,ce (fun j=>bef bs j i) 0 es,ce (fun j=>!bef bs i j) 0 es,yp bs i 0 ops.toList)]) mks (kk n)) Q:=by
          intro okr nb ps' hk hnb hps hxb hpe e;obtain⟨ref,a,rd,v,e1,F1,rv,run,tr,pend⟩:=zft IH FH hc hk e;have e1:(bif okr rd then zg0 P O tab Y lk nt ops bs es (Nat.succ i) l (jZ (refine ρ ref) a o.dst) os (zdD bo (nb ref a) o.dst) ws (ps' rd) mk fr K else none)=some x:=e1;cases hok:okr rd with
          |false=>grind
          |true=>
          rw[hok]at e1;simp only[Yza]at e1;have:(fun n=>CE.bindR (z9 P nt ops o (C n) (zI r (o.looksAt ops)) ⟨N.h.n,zar n0 (yp bs i 0 ops.toList) N.h.t⟩) fun v h'=>zcM P nt ops (C n) bs es n0 (Nat.succ i) l (vM r v o.dst) N.h ws.length (S.map fun x=>x.1.h) (cs n++[(z9 P nt ops o (C n) (zI r (o.looksAt ops)),v,ce (fun j=>bef bs j i) 0 es,ce (fun j=>!bef bs i j) 0 es,yp bs i 0 ops.toList)]) mks (kk n)) =
              fun n=>zcM P nt ops (C n) bs es n0 (Nat.succ i) l (vM r v o.dst) N.h ws.length (S.map fun x=>x.1.h) (cs n++[(z9 P nt ops o (C n) (zI r (o.looksAt ops)),v,ce (fun j=>bef bs j i) 0 es,ce (fun j=>!bef bs i j) 0 es,yp bs i 0 ops.toList)]) mks (kk n):=by
            funext n
            rw[show (⟨N.h.n,zar n0 (yp bs i 0 ops.toList) N.h.t⟩:Za)=(um n0 (yp bs i 0 ops.toList) N).h from rfl,run];rfl
          rw[this];have F2:∀s,RepPA N (r s) (refine ρ ref s):=fun s=>kI F1 (F s);refine zef hO hY l (Nat.succ i) _ os N (vM r v o.dst) _ ws (ps' rd) mk fr S _ mks e1 I (jI F2 (rv.mono ziX) o.dst) hlk sfx' M.up hmo hl ch hi hf' ⟨A,eA,aA,nA,gA⟩ (fun s=>?_) hms ⟨mv.val,fun z hz=>Nat.lt_succ_of_lt (mv.lt z hz),mv.uniq,mv.ex⟩ (fun n q hqm=>?_) fun ρ2 os2 N2 r2 k1 k2 k3 k4 k5 k6=>H ρ2 os2 N2 r2 k1 k2 k3 k4 k5 (agree r2 v k6)
          · have old:bo s<=ws.length+1/\∀B:Sn,S[bo s]? = some B->RepPA B.1 (r s) (refine ρ ref s):=⟨(sl s).1,fun B hh=>kI F1 ((sl s).2 B hh)⟩
            rcases hd:o.dst with _|d
            · exact old
            show (bif Nat.beq s d then nb ref a else bo s)<=ws.length+1/\∀B:Sn,S[bif Nat.beq s d then nb ref a else bo s]? = some B->RepPA B.1 (bif Nat.beq s d then v else r s) (bif Nat.beq s d then a else refine ρ ref s);cases Nat.beq s d
            · exact old
            exact⟨hnb ref a,hxb ref F1 v a (rv.mono ziX) tr⟩
          rcases List.mem_append.1 hqm with h|h
          · have:=(pe n q h).up (X:=[]) (mk':=mk) (mks':=mks) (hps rd) (fun _ h=>h) (fun _ h=>h)
            grind
          rw[Yz4]at h;subst h;exact hpe ref F1 v rd n hok pend
        have none1:∀B:Sn,S[ws.length+1]? = some B->False:=fun B hB=>by grind
        have here:∀v a,RepPA N v a->∀B:Sn,S[bif fr&&wD a then ws.length else Nat.succ ws.length]? = some B->RepPA B.1 v a:=fun v a rv B hB=>by
          cases hfp:fr&&wD a
          · grind
          rw[hfp]at hB;rw[LzC]at hfp;simp only[Yza]at hB
          grind[zj4]
        have hle1:∀a,(bif fr&&wD a then ws.length else Nat.succ ws.length)<=ws.length+1:=fun a=>by grind
        cases hst:kf ko
        · rw[hst]at e
          simp only[Yzc]at e;rcases hmx:zfF ko with _|y
          · grind
          rw[hmx]at e;simp only at e;cases hb:Nat.beq (ce (fun j=>bef bs j i) 0 es) (ce (fun j=>!bef bs i j) 0 es)
          · rw[hb]at e
            simp only[Yzc]at e;cases hw:(Nat.ble (bOf bo y) (ce (fun j=>bef bs j i) 0 es)&&Nat.ble (ce (fun j=>bef bs j i) 0 es) ws.length&&Nat.ble ws.length (ce (fun j=>!bef bs i j) 0 es))
            · rw[hw]at e
              simp only[Yzc]at e;cases hwl:Nat.ble ws.length (ce (fun j=>!bef bs i j) 0 es)
              · grind
              rw[hwl]at e;simp only[Yza]at e;refine go (fun rd=>zmB mk rd&&okW ws 0 ws.length rd) (fun _ a=>bif fr&&wD a then ws.length else Nat.succ ws.length) (fun rd=>ps++[(0,ce (fun j=>!bef bs i j) 0 es,rd)]) (.inr ⟨y,hmx⟩) (fun _ a=>hle1 a) (fun _ p hp=>YzG _ hp) (fun ref F1 v a rv tr B hh=>here v a rv B hh) (fun ref F1 v rd n hok pend=>?_) e;rcases pend with g|⟨xo,g,b,g2,g1⟩
              · exact .inl fun h=>g (C n) h
              rw[LzC]at hok;rcases g1 with⟨j,q1,q2,q3,q4,q5⟩|⟨q1,q2⟩
              · subst q1
                obtain⟨ok1,ok2⟩:=hok;simp only[zmB,List.any_eq_true]at ok1;obtain⟨⟨jm,k⟩,hp,hpk⟩:=ok1;have hpk:k=j:=Lz1 hpk;subst hpk;obtain⟨z,hz,hzj⟩:=mv.ex _ hp;have hzj:z.2.1=jm:=hzj;subst hzj;obtain⟨_,_,_,_,p5⟩:=M.mks _ hp;obtain⟨w,hw1⟩:=zb7 q4 (IH.obj k) q3;have q3':blk (N.μ k)=some b:=q3;rw[p5]at q3';cases q3';obtain⟨hz1,hz2⟩:=qG hw1;have hv:=(mv.val z hz k hp).2 (NW.of ok2);rw[hz2]at hv;refine .inr (.inr (.inr ⟨k,z,YzM _ (Yzx _),hz,hp,fun j hj e=>hz1 (List.mem_map.2 ⟨j,hj,e.symm⟩),fun h2 hh=>g2 (C n) h2 (by grind)⟩))
              subst q1;cases hok.1
            rw[hw]at e;simp only[LzC]at hw;obtain⟨⟨w1,w2⟩,w3⟩:=hw;have w1:=Lz4 w1;have w2:=Lz4 w2;have w3:=Lz4 w3;refine go (fun _=>true) (fun _ a=>bif fr&&wD a then ws.length else Nat.succ ws.length) (fun rd=>ps++[(ce (fun j=>bef bs j i) 0 es,ce (fun j=>!bef bs i j) 0 es,rd)]) (.inr ⟨y,hmx⟩) (fun _ a=>hle1 a) (fun _ p hp=>YzG _ hp) (fun ref F1 v a rv tr B hh=>here v a rv B hh) (fun ref F1 v rd n hok pend=>?_) e;rcases pend with g|⟨xo,g,b,g2,g1⟩
            · exact .inl fun h=>g (C n) h
            rw[hmx]at g;cases g;obtain⟨Al,elo⟩:∃B:Sn,S[ce (fun j=>bef bs j i) 0 es]? = some B:=⟨_,Lz5 (by omega)⟩;have hrel:∀t,y=.tmp t->RepPA Al.1 (zI r (o.looksAt ops) t) (refine (zG ρ (o.looksAt ops)) ref t):=fun t ht=>by subst ht;refine qi F1 ?_;have hle:bo t<=ce (fun j=>bef bs j i) 0 es:=w1;obtain⟨Ab,eb0⟩:∃B:Sn,S[bo t]? = some B:=⟨_,Lz5 (by omega)⟩;exact((sl t).2 Ab eb0).mono (xO hl ch eb0 (ce (fun j=>bef bs j i) 0 es-bo t) Al (by rw[show bo t+(ce (fun j=>bef bs j i) 0 es-bo t)=ce (fun j=>bef bs j i) 0 es by omega];exact elo))
            have nxlA:Nx Al.1 A.1:=xO hl ch elo (ws.length-ce (fun j=>bef bs j i) 0 es) A (by rw[show ce (fun j=>bef bs j i) 0 es+(ws.length-ce (fun j=>bef bs j i) 0 es)=ws.length by omega];exact eA);have IA:=hi A (Lz3 eA);have nin:b∉(yp bs i 0 ops.toList).map (nm n0)->∀j∈yp bs i 0 ops.toList,b≠nm n0 j:=fun h j hj e=>h (List.mem_map.2 ⟨j,hj,e.symm⟩);rcases g1 with⟨j,q1,q2,q3,q4,q5⟩|⟨q1,q2⟩
            · have hnh:¬Hid bs i mk j:=fun h=>by rw[(yK j mk os).1 h]at q4;exact q4
              obtain⟨z,hz⟩:=zb7 q4 (IH.obj j) q3;obtain⟨hz1,hz2⟩:=qG hz;have q4':held (og os j):=by grind[yK]
              have jl:=q5 Al.1 hrel;have jA:j<A.1.n:=Lz9 jl nxlA.le;have hA:held (og A.2 j):=(aA.ho j jA).1 q4';have hbA:blk (A.1.μ j)=some b:=by rw[<-aA.nx.mu j jA];exact q3
              obtain⟨z',hz'⟩:=zb7 hA (IA.obj j) hbA;have h3:=aA.bk b z' hz' fun j hj=>by cases hj
              rw[hz2]at h3;exact .inr (.inr (.inl ⟨rd,YzM _ (Yzx _),ws.length,b,A,Al,w2,w3,eA,elo,nin hz1,fun h2 hh=>g2 (C n) h2 (by grind),.inl ⟨j,q1,jl,hbA,hA⟩⟩))
            obtain⟨f1,z,f2⟩:=q2 Al.1 hrel;have f3:=nxlA.fg.old b z f1 f2;have f4:=nxlA.fg.sub b z f1 f2;have f5:=aA.nx.fg.old b z f4 f3;have f6:=aA.nx.fg.sub b z f4 f3;have f7:=nxH.fg.old b z f6 f5;exact .inr (.inr (.inl ⟨rd,YzM _ (Yzx _),ws.length,b,A,Al,w2,w3,eA,elo,nin (qG f7).1,fun h2 hh=>g2 (C n) h2 (by grind),.inr ⟨f1,z,f2⟩⟩))
          rw[hb]at e;exact go (fun _=>true) (fun _ a=>bif fr&&wD a then ws.length else Nat.succ ws.length) (fun _=>ps) (.inr ⟨y,hmx⟩) (fun _ a=>hle1 a) (fun _ p hp=>hp) (fun ref F1 v a rv tr B hh=>here v a rv B hh) (fun ref F1 v rd n hok pend=>.inr (.inl hb)) e
        rw[hst]at e;simp only[Yza]at e;refine go (fun _=>true) (fun ref a=>match trk (refine (zG ρ (o.looksAt ops)) ref) ko with|some x=>bOf bo x|none=>bif fr&&wD a then ws.length else Nat.succ ws.length) (fun _=>ps) (.inl hst) ?_ (fun _ p hp=>hp) ?_ ?_ e
        · intro ref a
          rcases htk:trk (refine (zG ρ (o.looksAt ops)) ref) ko with _|y
          · grind
          cases y with
          |tmp t=>exact(sl t).1
          |_=>exact Yzn _
        · intro ref F1 v a rv tr B hh
          rcases htk:trk (refine (zG ρ (o.looksAt ops)) ref) ko with _|y
          · grind
          simp only[htk]at hh;refine tr y htk _ fun t ht=>?_;subst ht;exact qi F1 ((sl t).2 B hh)
        intro ref F1 v rd n hok pend;rcases pend with g|⟨xo,g,_⟩
        · exact .inl fun h=>g (C n) h
        exfalso;cases ko<;>first|exact Bool.noConfusion hst|(simp only[zfF]at g;cases g)
      rw[ha]at e;simp only[Yza]at e ⊢;have got:∃(lk':Nat->Bool) (ref:Option (Nat×Bool)) (a:PA) (os1:List PO) (wr:List Nat),(∀j,lk j=true->lk' j=true)/\
          (bif uT mk (wo bs i os mk os1) then zg0 P O tab Y lk nt ops bs es (Nat.succ i) l (jZ (refine ρ ref) a o.dst) (wo bs i os mk os1) (zdD bo (Nat.succ ws.length) o.dst) (ws++[wr]) ps mk true K else none)=some x/\
          (∀s,RepPA (um n0 (yp bs i 0 ops.toList) N) (zI r (o.looksAt ops) s) (refine (zG ρ (o.looksAt ops)) ref s))/\
          Ev (fun n=>z9 P nt ops o (C n) (zI r (o.looksAt ops)) (um n0 (yp bs i 0 ops.toList) N).h) (fun p=>∃N1,N1.h=p.2/\Sim E lk' (um n0 (yp bs i 0 ops.toList) N) (wG bs i mk os) wr N1 os1 p.1 a):=by
        rcases hL:zb4 P tab (zG ρ (o.looksAt ops)) o with _|ga
        · rw[hL]at e
          simp only at e;obtain⟨ref,a,os1,wr,rd,e1,F1,ev⟩:=zeb hO IH FH (fun j hj=>by grind) e;exact⟨lk,ref,a,os1,wr,fun _ h=>h,e1,F1,ev⟩
        obtain⟨g,az⟩:=ga;rw[hL]at e;simp only at e;cases hT:(inT nt o.dst&&zo5 (wG bs i mk os))
        · grind
        rw[hT]at e;simp only[Yza]at e;rw[LzC]at hT;obtain⟨ht,vs,rvs,run⟩:=qE (ops:=ops) FH hL hT.1;obtain⟨a,os1,e1,ev⟩:=zsn hY ht IH hT.2 rvs e;refine⟨zqF (wG bs i mk os).length,none,a,os1,_,fun j hj=>Yze (show Nat.succ j<=(wG bs i mk os).length by grind),e1,FH,?_⟩
        grind
      obtain⟨lk',ref,a,os1,wr,hlk',e1,F1,ev⟩:=got;refine Ev.bindR (ev.mono ?_)
      rintro⟨v,h'⟩ ⟨N1,hh,Sm⟩
      simp only at hh Sm ⊢;subst hh;obtain⟨t,ht,I2,A2,nx1,lk2,fr2⟩:=zsS M I D Sm;simp only[ht];cases hal:uT mk (wo bs i os mk os1)
      · grind
      rw[hal]at e1;simp only[Yza]at e1
      let N2:Nm:=⟨N1.μ,N1.n,N1.fz,⟨N1.h.n,t⟩⟩
      have F2:∀s,RepPA N (r s) (refine ρ ref s):=fun s=>kI F1 (F s);have hmap:(S.map fun x=>x.1.h)++[(⟨N1.h.n,t⟩:Za)]=(S++[((N2,wo bs i os mk os1):Sn)]).map fun x=>x.1.h:=by simp[N2]
      rw[hmap];have hwl:Nat.succ ws.length=(ws++[wr]).length:=by simp
      have step:∀n,zcM P nt ops (C n) bs es n0 (Nat.succ i) l (vM r v o.dst) ⟨N1.h.n,t⟩ (Nat.succ ws.length) ((S++[((N2,wo bs i os mk os1):Sn)]).map fun x=>x.1.h) (cs n) mks (kk n) =
          zcM P nt ops (C n) bs es n0 (Nat.succ i) l (vM r v o.dst) N2.h (ws++[wr]).length ((S++[((N2,wo bs i os mk os1):Sn)]).map fun x=>x.1.h) (cs n) mks (kk n):=fun n=>by rw[hwl]
      simp only[step];have AT:=aA.trans nA A2;have hmkl:∀p∈mk,solid (og (wo bs i os mk os1) p.2):=fun p hp=>zfK (by grind[uT])
      have hlast:(S++[((N2,wo bs i os mk os1):Sn)])[ws.length+1]? = some (N2,wo bs i os mk os1):=by grind
      refine zef hO hY l (Nat.succ i) _ (wo bs i os mk os1) N2 (vM r v o.dst) _ (ws++[wr]) ps mk true (S++[(N2,wo bs i os mk os1)]) cs mks e1 I2 (jI (fun s=>(F2 s).mono A2.nx) (Sm.val.mono nx1) o.dst) (fun j hj=>?_) sfx'
        ⟨M.e0,Yzl M.top A2.nle,fun p hp=>?_,fun j hj hij=>fr2 j hj (M.free j hj (by omega)),fun j z hj hz=>?_⟩ hmo (by simp[hl]) (fun e w hw B1 B2 b1 b2=>?_) (fun B hB=>?_) (fun B hB j hj hij=>?_)
        ⟨(N2,wo bs i os mk os1),by grind,.refl _ _,fun k b h1 h2 _=>absurd h2 (Nat.not_lt.2 h1),fun _=>.refl _ _⟩ (fun s=>?_) (fun y hy=>?_) ⟨fun z hz k hzk=>?_,fun z hz=>Nat.lt_succ_of_lt (mv.lt z hz),mv.uniq,mv.ex⟩ (fun n q hq=>(pe n q hq).up (fun _ h=>h) (fun _ h=>h) (fun _ h=>h)) fun ρ2 os2 N3 r2 k1 k2 k3 k4 k5 k6=>H ρ2 os2 N3 r2 k1 k2 k3 (A2.nx.trans k4) (fun j hj=>(k5 j hj).trans (lk2 j (hlk' j hj))) (agree r2 v k6)
      · have h1:=Sm.nx.le
        rw[Sm.inv.len,show (um n0 (yp bs i 0 ops.toList) N).n=N.n from rfl,I.len]at h1
        grind[jE]
      · obtain⟨q1,q2,q3,q4,q5⟩:=M.mks p hp
        exact⟨by omega,q2,Lz9 q3 A2.nx.le,hmkl p hp,by rw[A2.nx.mu p.2 q3];exact q5⟩
      · rcases hx:N.h.t.get (nm n0 j) with _|z'
        · grind
        exact M.all j z' hj hx
      · by_cases he:e<ws.length
        · rw[Lz2 he]at hw
          rw[Lz2 (by omega)]at b1;rw[Lz2 (by omega)]at b2;exact ch e w hw B1 B2 b1 b2
        have he2:e=ws.length:=by grind
        subst he2;rw[YzN]at hw;cases hw;rw[Lz2 (by omega),eA]at b1;cases b1;rw[hlast]at b2;cases b2;exact⟨hi A (Lz3 eA),AT.nx,AT.bk,AT.ho⟩
      · grind
      · rcases List.mem_append.1 hB with h|h
        · grind
        rw[Yz4]at h;subst h;exact fr2 j hj (M.free j hj (by omega))
      · have old:bo s<=(ws++[wr]).length+1/\∀B:Sn,(S++[((N2,wo bs i os mk os1):Sn)])[bo s]? = some B->RepPA B.1 (r s) (refine ρ ref s):=by
          refine⟨by grind,fun B hB=>?_⟩;by_cases hbs:bo s<=ws.length
          · rw[Lz2 (by omega)]at hB
            exact kI F1 ((sl s).2 B hB)
          have hbs2:bo s=ws.length+1:=by grind
          rw[hbs2,hlast]at hB;cases hB;exact(F2 s).mono A2.nx
        rcases hd:o.dst with _|d
        · exact old
        show (bif Nat.beq s d then Nat.succ ws.length else bo s)<=(ws++[wr]).length+1/\∀B:Sn,(S++[((N2,wo bs i os mk os1):Sn)])[bif Nat.beq s d then Nat.succ ws.length else bo s]? = some B->RepPA B.1 (bif Nat.beq s d then v else r s) (bif Nat.beq s d then a else refine ρ ref s);cases Nat.beq s d
        · exact old
        refine⟨by simp,fun B hB=>?_⟩;simp only[Yza]at hB ⊢;rw[show Nat.succ ws.length=ws.length+1 from rfl,hlast]at hB;cases hB;exact Sm.val.mono nx1
      · grind
      obtain⟨g1,g2⟩:=mv.val z hz k hzk;have old:∀e,e<=ws.length->NW (ws++[wr]) e k->NW ws e k:=fun e he hn i w h1 h2=>hn i w h1 (by grind);have key:NW (ws++[wr]) (ws.length+1) k->N2.h.t.get (nm n0 z.2.1)=some z.2.2:=fun hn=>by have h1:=g2 (old ws.length (LzB _) fun i w h1 h2=>hn i w (by omega) h2);refine A2.bk _ _ h1 fun k' hk' hkn hlv hkb=>?_;obtain⟨_,_,q3,q4,q5⟩:=M.mks _ hzk;have:=I.inj k' k _ hlv q4.live hkb q5;subst this;exact hn ws.length wr (Nat.lt_succ_self _) YzN hk'
      grind
    rw[hm]at e;simp only[Yza]at e ⊢;rcases hc:comp P o.op with _|ko
    · grind
    cases hg:o.guard
    case some=>grind
    rw[hc,hg]at e;simp only at e;cases hk:mkK ko
    · grind
    rw[hk]at e;cases hT:inT nt o.dst
    · grind
    rw[hT]at e;simp only[Bool.and_self,Yza]at e;obtain⟨a,os1,ob,N1,e1,f1,S1,hlen1,hN1,hob,vf,y,hvf,run,fin⟩:=zuw hk I FR e;have e1:(bif uT mk (os1++[ob]) then zg0 P O tab Y lk nt ops bs es (Nat.succ i) l (jZ ρ (zuG ko a) o.dst) (os1++[ob]) (zdD bo (Nat.succ ws.length) o.dst) ws ps (mk++[(i,os.length)]) (fr&&soft ko) K else none)=some x:=e1;cases hal:uT mk (os1++[ob])
    · grind
    rw[hal]at e1;simp only[Yza]at e1
    let b:BN:=nm n0 i
    have hbt:b.toNat=n0+i:=yw _ _;have hbn:N1.h.t.get b=none:=by rw[f1.h];exact M.free i hilt (LzB _)
    have hE:E.h0.n.toNat<=b.toNat:=by have:=M.e0;omega
    have hnf:¬N1.fz b:=fun h=>by rcases S1.inv.fzex b h with h|⟨z,hz⟩<;>grind
    obtain⟨I2,A2⟩:=S1.inv.newAt (b:=b) (by rw[f1.h];have:=M.top;omega) hbn hE hnf y ob (vf b) (hvf b) (fun N' nx hmu hf hgt hlt=>(fin b N' nx hmu hf hgt hlt).1) fun m h=>by rw[h]at hob;exact hob
    let N2:Nm:=⟨upd N1.μ os1.length (vf b),os1.length+1,N1.fz,⟨N1.h.n,N1.h.t.set b y⟩⟩
    have mu2:∀k,k≠os1.length->N2.μ k=N1.μ k:=fun k hk=>by show (if k=os1.length then vf b else N1.μ k)=_;rw[Yzb hk]
    have muL:N2.μ os1.length=vf b:=by show (if os1.length=os1.length then vf b else _)=_;simp
    have hval:=(fin b N2 A2.nx muL hnf (zq _ _ _) (Nat.lt_succ_self _)).2;have hN:N.n=os1.length:=by rw[hlen1];exact I.len
    have A1:Aft N os [] N1 os1:=S1.aft I.hw;have A12:Aft N os [] N2 (os1++[ob]):=A1.trans (fun k b' h1 h2 _=>by rw[f1.n]at h2;omega) A2;have step:∀n,CE.bindR (z9 P nt ops o (C n) (zI r (o.looksAt ops)) ⟨bn (Nat.add n0 i),N.h.t⟩) (fun v h'=>zcM P nt ops (C n) bs es n0 (Nat.succ i) l (vM r v o.dst) ⟨N.h.n,h'.t⟩ ws.length (S.map fun x=>x.1.h) (cs n) (mks++mk1 n0 ws.length i h'.t) (kk n)) =
        zcM P nt ops (C n) bs es n0 (Nat.succ i) l (vM r (.s (.one (vf b))) o.dst) N2.h ws.length (S.map fun x=>x.1.h) (cs n) (mks++[(ws.length,i,y)]) (kk n):=fun n=>by
      have hr:z9 P nt ops o (C n) (zI r (o.looksAt ops)) ⟨bn (Nat.add n0 i),N.h.t⟩=some (.s (.one (vf b)),(⟨b,N.h.t⟩:Za).new y):=by unfold z9;rw[hT,hg];exact(zaP P _ _ _ hc).trans (run _ b N.h.t)
      rw[hr];simp only[CE.bindR];have h1:((⟨b,N.h.t⟩:Za).new y).t=N.h.t.set b y:=rfl;have h2:mk1 n0 ws.length i (N.h.t.set b y)=[(ws.length,i,y)]:=by unfold mk1;rw[show bn (Nat.add n0 i)=b from rfl,zq]
      rw[h1,h2];show zcM P nt ops (C n) bs es n0 (Nat.succ i) l _ ⟨N.h.n,N.h.t.set b y⟩ _ _ _ _ _=zcM P nt ops (C n) bs es n0 (Nat.succ i) l _ ⟨N1.h.n,N1.h.t.set b y⟩ _ _ _ _ _;rw[f1.h]
    simp only[step];have hmkl:∀p∈mk,solid (og (os1++[ob]) p.2):=fun p hp=>zfK (by grind[uT])
    refine zef hO hY l (Nat.succ i) _ (os1++[ob]) N2 _ _ ws ps (mk++[(i,os.length)]) _ S cs (mks++[(ws.length,i,y)]) e1 I2 (jI (fun s=>(F s).mono A12.nx) hval o.dst) (fun j hj=>?_) sfx' ⟨M.e0,?_,fun p hp=>?_,fun j hj hij=>?_,fun j z hj hz=>?_⟩ (fun p hp=>?_)
      hl ch hi hf' ⟨A,eA,aA.trans nA A12,fun k b' h1 h2 h3=>?_,fun hfr=>?_⟩ (fun s=>?_) (fun z hz=>?_) ⟨fun z hz k hzk=>?_,fun z hz=>?_,fun z hz z' hz' he=>?_,fun p hp=>?_⟩ (fun n q hq=>by have:=(pe n q hq).up (X:=[]) (ps':=ps) (mk':=mk++[(i,os.length)]) (mks':=mks++[(ws.length,i,y)]) (fun _ h=>h) (fun _ h=>YzG _ h) (fun _ h=>YzG _ h);grind) fun ρ2 os2 N3 r2 k1 k2 k3 k4 k5 k6=>H ρ2 os2 N3 r2 k1 k2 k3 (A12.nx.trans k4) (fun j hj=>(k5 j hj).trans ?_) (agree r2 _ k6)
    · grind
    · show _<=N1.h.n.toNat;rw[f1.h];exact M.top
    · rcases List.mem_append.1 hp with hp1|hp1
      · obtain⟨q1,q2,q3,q4,q5⟩:=M.mks p hp1
        refine⟨by omega,q2,by grind,hmkl p hp1,?_⟩;rw[mu2 p.2 (by omega),f1.μ];exact q5
      rw[Yz4]at hp1;subst hp1;refine⟨Nat.lt_succ_self i,hilt,by grind,?_,?_⟩
      · show solid (og (os1++[ob]) os.length)
        rw[yI,Yzd hlen1.symm];exact hob
      grind
    · show (N1.h.t.set b y).get (nm n0 j)=none
      rw[zl _ _ _ _ (fun e=>by grind[vT]),f1.h];exact M.free j hj (by omega)
    · by_cases hji:j=i
      · grind
      have hz:(N1.h.t.set b y).get (nm n0 j)=some z:=hz;rw[zl _ _ _ _ (fun e=>hji (vT e)),f1.h]at hz;obtain⟨k,hk⟩:=M.all j z hj hz
      grind
    · grind
    · by_cases hko:k=os1.length
      · grind
      have h2:k<os1.length+1:=h2;rw[mu2 k hko,f1.μ]at h3
      grind
    · rw[LzC]at hfr
      have hNN:=hN1 hfr.2;have g:=gA hfr.1;have up:∀b' z,N2.fz b'->N2.h.t.get b'=some z->N.fz b'/\N.h.t.get b'=some z:=fun b' z h1 h2=>by grind[zl]
      exact⟨fun b' z h1 h2=>g.sub b' z (up b' z h1 h2).1 (up b' z h1 h2).2,fun b' z h1 h2=>g.old b' z (up b' z h1 h2).1 (up b' z h1 h2).2⟩
    · rcases hd:o.dst with _|d
      · exact sl s
      show (bif Nat.beq s d then Nat.succ ws.length else bo s)<=ws.length+1/\∀A:Sn,S[bif Nat.beq s d then Nat.succ ws.length else bo s]? = some A->RepPA A.1 (bif Nat.beq s d then Zb.s (.one (vf b)) else r s) (bif Nat.beq s d then zuG ko a else ρ s)
      grind
    · grind
    · rcases List.mem_append.1 hz with hz1|hz1
      · have hzi:=mv.lt z hz1
        have hzk2:(z.2.1,k)∈mk:=by grind
        obtain⟨g1,g2⟩:=mv.val z hz1 k hzk2;refine⟨g1,fun hnw=>?_⟩;show (N1.h.t.set b y).get (nm n0 z.2.1)=_;rw[zl _ _ _ _ (fun e=>by grind[vT]),f1.h]
        grind
      grind[zq]
    · rcases List.mem_append.1 hz with hz1|hz1
      · exact Nat.lt_succ_of_lt (mv.lt z hz1)
      grind
    · rcases List.mem_append.1 hz with hz1|hz1<;>rcases List.mem_append.1 hz' with hz2|hz2
      · exact mv.uniq z hz1 z' hz2 he
      · rw[Yz4]at hz2;subst hz2
        have:=mv.lt z hz1
        grind
      · rw[Yz4]at hz1;subst hz1
        have:=mv.lt z' hz2
        grind
      grind
    · rcases List.mem_append.1 hp with hp1|hp1
      · obtain⟨z,h1,h2⟩:=mv.ex p hp1
        grind
      rw[Yz4]at hp1;subst hp1;simp
    have:=hlk j hj;rw[yI,Yzb (by omega)];exact S1.lock j hj
end
end Go.PE
end
section
namespace Go.PE
open Go Go.CE
def zuh(c:Nat):Nat:=Nat.mod c 1000
def zy4(c:Nat):Nat:=Nat.mod (Nat.div c 1000) 1000
def zug(c:Nat):Nat:=Nat.mod (Nat.div c 1000000) 1000
def zuR(c:Nat):Bool:=Nat.ble 1000000000 c
def zwc:List Nat->List Nat
 | []=>[]
 |c::l=>bif zuR c then zwc l else c::zwc l
def zth:List Nat->List Nat
 | []=>[]
 |c::l=>bif zuR c then c::zth l else zth l
def zrv{β:Type}(lk:Nat->Bool)(ρ:Nat->PA)(os:List PO)(c:Nat)(K:List PO->Option β):Option β:=
 bif lk (zuh c) then none else
 match og os (zuh c) with
 | .arr st v=>
  bif Nat.beq st 1 then
   match ρ (zy4 c) with
   | .s (.one (.d d))=>za (yn v d) fun n=>za (j5 v n) fun x=>gdN (atD x 0) (K ((oset (.hol v n (Nat.succ os.length)) os (zuh c)++[.arr (zug c) none])++[.lnk os.length]))
   |_=>none
  else none
 |_=>none
def zru{β:Type}(lk:Nat->Bool)(ρ:Nat->PA):List Nat->List PO->(List PO->Option β)->Option β
 | [],os,K=>K os
 |c::l,os,K=>zrv lk ρ os c fun os'=>zru lk ρ l os' K
def zyZ(v:OC)(n:Nat)(d:DV):Option OC:=
 match v with
 |some xs=>some (some (xs.set n [d]))
 |none=>none
def znr{β:Type}(lk:Nat->Bool)(os:List PO)(k t:Nat)(K:List PO->Option β):Option β:=
 match og os k with
 | .hol v n t'=>
  match og os t with
  | .lnk m=>
   bif Nat.beq t t' && !lk k && !lk t then
    match frC lk yP os (.own m) with
    |some (os1,d)=>za (zyZ v n d) fun w=>K (oset .dead (oset (.arr 1 w) os1 k) t)
    |none=>none
   else none
  |_=>none
 |_=>none
def zf6{β:Type}(lk:Nat->Bool):List (Nat×Nat)->List PO->(List PO->Option β)->Option β
 | [],os,K=>K os
 |p::l,os,K=>znr lk os p.1 p.2 fun os'=>zf6 lk l os' K
def pairs:List Nat->Nat->List (Nat×Nat)
 | [],_=>[]
 |c::l,n=>(zuh c,Nat.succ n)::pairs l (Nat.add n 2)
section
variable {β:Type} {E:En} {lk:Nat->Bool}
structure Vw (E:En) (lk:Nat->Bool) (N:Nm) (os:List PO) (N':Nm) (os':List PO):Prop where
 h:N'.h=N.h
 inv:Zd E N' os'
 nx:Nx N N'
 lock:∀j,lk j=true->og os' j=og os j
 le:os.length<=os'.length
theorem Vw.refl{N:Nm}{os:List PO}(I:Zd E N os):Vw E lk N os N os:=⟨rfl,I,.refl N,fun _ _=>rfl,LzB _⟩
theorem Vw.trans{A B C:Nm}{a b c:List PO}(x:Vw E lk A a B b)(y:Vw E lk B b C c):Vw E lk A a C c:=⟨y.h.trans x.h,y.inv,x.nx.trans y.nx,fun j hj=>(y.lock j hj).trans (x.lock j hj),Yzl x.le y.le⟩
theorem zoS{N:Nm}{os:List PO}{r:Fr}{ρ:Nat->PA}{c:Nat}{K:List PO->Option β}{x:β}(I:Zd E N os)(_F:∀i,RepPA N (r i) (ρ i))(hlk:∀j,lk j=true->j<os.length)(e:zrv lk ρ os c K=some x):
  ∃os' N',K os'=some x/\Vw E lk N os N' os':=by
 unfold zrv at e;generalize zuh c=k at e;cases hlkk:lk k
 case true=>grind
 rw[hlkk]at e;simp only[Yzc]at e;cases ho:og os k with
 |arr st v=>
  rw[ho]at e;simp only at e;cases hs:Nat.beq st 1
  .grind
  rw[hs]at e;have:=Lz1 hs;subst this;simp only[Yza]at e;split at e
  .rename_i d hd;obtain⟨n,hn,e⟩:=zh e;obtain⟨y,hy,e⟩:=zh e;rcases v with _|xs
   .cases hy
   obtain⟨b,vs,ex,h1,h2,h3,h4,h5⟩:=kZ I ho;have hy:xs[n]? = some y:=hy;have hnl:=(Lz0.1 hy).1;obtain⟨g1,g2⟩:=h5 n y hy
   match y,g1,e,g2 with
   | [z],_,e,g2=>
    have e:gdN z (K ((oset (.hol (some xs) n (Nat.succ os.length)) os k++[.arr (zug c) none])++[.lnk os.length]))=some x:=e;cases z<;>simp only[gdN]at e<;>first|(cases e;done)|skip
    have hvn:vs[n]? = some .nils:=by
     have hl:=g2.1;simp only[YzJ,Yz6]at hl;rcases hv:vs[n]? with _|c0
     .grind
     have h0:((vs.drop (n*1)).take 1)[0]? = some c0:=by grind
     have:=g2.2 0 c0 .nils h0 rfl;rw[Rep.scal this rfl]
    have hkl:k<os.length:=wF (by grind)
    let μ':Nat->Zc:=fun j=>if j=os.length then .nils else if j=os.length+1 then .ptr b n else N.μ j
    let N':Nm:=⟨μ',os.length+2,N.fz,N.h⟩
    have mu:∀j,j<os.length->μ' j=N.μ j:=fun j hj=>by grind
    have mu0:μ' os.length=.nils:=by grind
    have mu1:μ' (os.length+1)=.ptr b n:=by grind
    have hNn:=I.len;have nx:Nx N N':=⟨.refl _ _,by grind,fun j hj=>mu j (by omega)⟩
    let os':=(oset (.hol (some xs) n (os.length+1)) os k++[.arr (zug c) none])++[.lnk os.length]
    have l1:(oset (.hol (some xs) n (os.length+1)) os k).length=os.length:=zX _ _ _;have l2:(oset (.hol (some xs) n (os.length+1)) os k++[PO.arr (zug c) none]).length=os.length+1:=by simp[l1]
    have gk:og os' k=.hol (some xs) n (os.length+1):=by show og (_++_) k=_;rw[yI,l2,Yzb (by omega),yI,l1,Yzb (by omega),zw,Yzd ⟨rfl,hkl⟩]
    have g0:og os' os.length=.arr (zug c) none:=by show og (_++_) _=_;rw[yI,l2,Yzb (by omega),yI,l1,Yzd rfl]
    have gt:og os' (os.length+1)=.lnk os.length:=by show og (_++_) _=_;rw[yI,l2,Yzd rfl]
    have gj:∀j,j<os.length->j≠k->og os' j=og os j:=fun j hj hne=>by show og (_++_) j=_;rw[yI,l2,Yzb (by omega),yI,l1,Yzb (by omega),zw,Yzb (fun h=>hne h.1)]
    have gg:∀j,os.length+2<=j->og os' j=.dead:=fun j hj=>zuj (by grind);have lv:∀j,live (og os' j)->j<os.length/\live (og os j):=fun j hl=>by
     by_cases hj:j<os.length
     .refine⟨hj,?_⟩;by_cases hjk:j=k
      .rw[hjk,ho];trivial
      grind
     by_cases h0:j=os.length
     .rw[h0,g0]at hl;trivial
     by_cases h1:j=os.length+1
     .rw[h1,gt]at hl;trivial
     rw[gg j (by omega)]at hl;trivial
    refine⟨os',N',e,rfl,⟨I.hw,I.gr,I.fzlt,I.fzok,I.fzex,by grind,fun j b' hl hb=>?_,fun j j' b' hl hl' hb hb'=>?_,fun j=>?_,fun t m ht=>?_⟩,nx,fun j hj=>gj j (hlk j hj) (fun h=>by grind),by grind⟩
    .obtain⟨q1,q2⟩:=lv j hl;exact I.own j b' q2 (by grind)
    .obtain⟨q1,q2⟩:=lv j hl;obtain⟨q1',q2'⟩:=lv j' hl';exact I.inj j j' b' q2 q2' (by grind) (by grind)
    .by_cases hj:j<os.length
     .by_cases hjk:j=k
      .subst hjk;rw[gk];exact⟨b,vs,ex,(mu j hj).trans h1,h2,h3,h4,hnl,by grind,mu1,fun i z _ hz=>h5 i z hz⟩
      rw[gj j hj hjk];refine (I.obj j).mono nx (mu j hj) fun htd b' hb=>?_;obtain⟨b2,x2,q1,q2,q3⟩:=xf htd (I.obj j)
      grind
     by_cases h0:j=os.length
     .rw[h0,g0];exact mu0
     by_cases h1':j=os.length+1
     .rw[h1',gt];exact⟨by grind,b,n,vs,mu1,h2,h3,hvn.trans (congrArg some mu0.symm)⟩
     rw[gg j (by omega)];trivial
    by_cases hj:t<os.length
    .by_cases hjk:t=k
     .grind
     rw[gj t hj hjk]at ht;obtain⟨k2,v2,n2,q⟩:=I.lnk t m ht
     grind[wF]
    grind
  cases e
 |_=>grind
theorem ziB:∀{l:List Nat} {N:Nm} {os:List PO} {r:Fr} {ρ:Nat->PA} {K:List PO->Option β} {x:β},Zd E N os->(∀i,RepPA N (r i) (ρ i))->(∀j,lk j=true->j<os.length)->zru lk ρ l os K=some x->∃os' N',K os'=some x/\Vw E lk N os N' os'
 | [],N,os,r,ρ,K,x,I,F,hlk,e=>⟨os,N,e,.refl I⟩
 |c::l,N,os,r,ρ,K,x,I,F,hlk,e=>by obtain⟨os1,N1,e1,V1⟩:=zoS I F hlk e;obtain⟨os2,N2,e2,V2⟩:=ziB V1.inv (fun i=>(F i).mono V1.nx) (fun j hj=>Lz9 (hlk j hj) V1.le) e1;exact⟨os2,N2,e2,V1.trans V2⟩
theorem znq{N:Nm}{os:List PO}{k t:Nat}{K:List PO->Option β}{x:β}(I:Zd E N os)(e:znr lk os k t K=some x):∃os' N',K os'=some x/\Vw E lk N os N' os':=by
 unfold znr at e;cases hk:og os k with
 |hol v n t'=>
  rw[hk]at e;simp only at e;cases ht:og os t with
  |lnk m=>
   rw[ht]at e;simp only at e;cases hc:(Nat.beq t t' && !lk k && !lk t)
   .grind
   rw[hc]at e;simp only[Yza]at e;simp only[LzC,Yzr]at hc;obtain⟨⟨c1,c2⟩,c3⟩:=hc;have:=Lz1 c1;subst this;rcases hf:frC lk yP os (.own m) with _|q
   .grind
   obtain⟨os1,d⟩:=q;rw[hf]at e;simp only at e;have hT:=I.obj t;rw[ht]at hT;obtain⟨hm,_⟩:=hT;obtain⟨N1,f1,S1,r1⟩:=zce (c:=N.μ m) (p:=.own m) I ⟨hm,rfl⟩ hf;have hos:∀j,j≠m->og os1 j=og os j:=by
    intro j hj;rw[show yP=99+1 from rfl]at hf
    grind[frC,zw]
   have hmk:k≠m:=fun h=>by
    rw[show yP=99+1 from rfl]at hf
    grind[frC]
   have hmt:t≠m:=fun h=>by
    rw[show yP=99+1 from rfl]at hf
    grind[frC]
   have hk1:og os1 k=.hol v n t:=(hos k hmk).trans hk;have ht1:og os1 t=.lnk m:=(hos t hmt).trans ht;have hkt:k≠t:=fun h=>by grind
   have I1:=S1.inv;have hO:=I1.obj k;rw[hk1]at hO;have hT:=I1.obj t;rw[ht1]at hT;obtain⟨w,hw,e⟩:=zh e;rcases v with _|xs
   .cases hw
   cases hw;obtain⟨b,vs,ex,h1,h2,h3,h4,h5,h6,h7,h8⟩:=hO;obtain⟨_,b2,n2,vs2,g1,g2,g3,g4⟩:=hT;rw[h7]at g1;cases g1;rw[h3]at g3;cases g3;have hkl:k<os1.length:=wF (by grind);have htl:t<(oset (.arr 1 (some (xs.set n [d]))) os1 k).length:=by simp_all[zX,wF]
   let os':=oset .dead (oset (.arr 1 (some (xs.set n [d]))) os1 k) t
   have gk:og os' k=.arr 1 (some (xs.set n [d])):=by show og (oset _ _ _) _=_;rw[zw,Yzb (fun h=>hkt h.1),zw,Yzd ⟨rfl,hkl⟩]
   have gt:og os' t=.dead:=by show og (oset _ _ _) _=_;rw[zw,Yzd ⟨rfl,htl⟩]
   have gj:∀j,j≠k->j≠t->og os' j=og os1 j:=fun j h1 h2=>by grind[zw]
   have lv:∀j,live (og os' j)->live (og os1 j):=fun j hl=>by
    by_cases hjk:j=k
    .rw[hjk,hk1];trivial
    by_cases hjt:j=t
    .rw[hjt,gt]at hl;trivial
    grind
   have hl1:os1.length=os.length:=by rw[<-I1.len,f1.n,I.len]
   refine⟨os',N1,e,f1.h,⟨I1.hw,I1.gr,I1.fzlt,I1.fzok,I1.fzex,I1.len.trans (by grind[zX]),fun j b' hl hb=>I1.own j b' (lv j hl) hb,fun j j' b' hl hl' hb hb'=>I1.inj j j' b' (lv j hl) (lv j' hl') hb hb',fun j=>?_,fun t2 m2 h2'=>?_⟩,S1.nx,fun j hj=>?_,by grind[zX]⟩
   .by_cases hjk:j=k
    .subst hjk;rw[gk];refine⟨b,vs,ex,by grind,h2,h3,by grind,fun i z hz=>?_⟩;rw[List.getElem?_set]at hz;by_cases hin:n=i
     .subst hin;rw[Yzd rfl,Yzd h5]at hz;cases hz;refine⟨rfl,?_⟩;have hd:(vs.drop (n*1)).take 1=[N1.μ m]:=by
       simp_all[List.drop_eq_getElem_cons]
      rw[hd];exact .cons (by rw[f1.μ];exact r1) (.nil _ _)
     grind
    by_cases hjt:j=t
    .rw[hjt,gt];trivial
    rw[gj j hjk hjt];exact I1.obj j
   .by_cases hjk:t2=k
    .grind
    by_cases hjt:t2=t
    .grind
    rw[gj t2 hjk hjt]at h2';obtain⟨k3,v3,n3,q⟩:=I1.lnk t2 m2 h2'
    grind
   rw[gj j (fun h=>by grind) (fun h=>by grind)];exact S1.lock j hj
  |_=>grind
 |_=>grind
theorem zf5:∀{l:List (Nat×Nat)} {N:Nm} {os:List PO} {K:List PO->Option β} {x:β},Zd E N os->zf6 lk l os K=some x->∃os' N',K os'=some x/\Vw E lk N os N' os'
 | [],N,os,K,x,I,e=>⟨os,N,e,.refl I⟩
 |p::l,N,os,K,x,I,e=>by obtain⟨os1,N1,e1,V1⟩:=znq I e;obtain⟨os2,N2,e2,V2⟩:=zf5 V1.inv e1;exact⟨os2,N2,e2,V1.trans V2⟩
theorem zkY{okm:Nat->Bool}{la:LA}{x:Zg}{N:Nm}{os os1:List PO}{r:Fr}{ρ:Nat->PA}{L:List DV}{M:List OC}{ms:List (Option Nat)}(I:Zd E N os)(F:∀i,RepPA N (r i) (ρ i))(e:vec lk okm la x ρ os=some (os1,L,M,ms)):
  (∀t,t∈zep (zkT la x)->∃m,og os1 t=.lnk m)/\(∀m,some m∈ms->∃st v,og os1 m=mkO st v)/\(∀k n,(k,n)∈la.boxes->∃cs,og os1 k=.box cs)/\(∀k st,(k,st)∈la.arrs->∃v,og os1 k=mkO st v):=by
 unfold vec at e;rcases h1:zkS lk ρ (q8 la x) os with _|q
 .grind
 obtain⟨o1,ds⟩:=q;rw[h1]at e;simp only at e;obtain⟨N1,f1,S1,_⟩:=zdN I F h1;split at e
 .rename_i vs ms0 ws h2 h3;cases h4:((jD o1 la.boxes&&zdT okm ms0)&&zaX (q8 la x) o1 0)
  .grind
  rw[h4]at e;cases e;rw[LzC]at h4
  replace h4:=h4.1
  rw[LzC]at h4;obtain⟨lO,lm,rO⟩:=zgC S1.inv (fun i=>(F i).mono S1.nx) h2;obtain⟨lA,rA⟩:=zgD h3;refine⟨fun t ht=>?_,fun m hm=>?_,fun k n hk=>?_,fun k st hk=>?_⟩
  .grind[qB,Yyg]
  .obtain⟨i,hi⟩:=Yyg hm;have hil:=(Lz0.1 hi).1;obtain⟨⟨p,st⟩,hp⟩:∃p,(zkT la x)[i]? = some p:=⟨_,Lz5 (by omega)⟩
   grind
  .grind[zaA]
  grind[Yyg]
 cases e
theorem zmw{st:Nat}{v w:OC}{n t:Nat}(h:mkO st v=.hol w n t):False:=by grind[zfD,ji]
theorem zmT{c:Nat}{s:DV}(h:zv8 c s=true):s=.int .i64 (.ofNat c):=by
 cases s with
 |int k n=>
  cases k<;>first|(cases h;done)|skip
  cases n with
  |ofNat n=>rw[Lz1 h]
  |negSucc n=>cases h
 |_=>cases h
theorem zkZ{r:Fr}{ρ:Nat->PA}:∀{D:List Pl} {N:Nm} {os os1:List PO} {ds:List DV},Zd E N os->(∀i,RepPA N (r i) (ρ i))->zkS lk ρ D os=some (os1,ds)->
  ∀k c,.st k c∈D->lk k=true->∃nt ρ ps a b l,og os k=.lop nt ρ ps a b l (.int .i64 (.ofNat c))
 | [],N,os,os1,ds,I,F,e=>fun k c h=>by cases h
 |p::D,N,os,os1,ds,I,F,e=>fun k c hm hk=>by
  simp only[zkS]at e;rcases h1:zkz ρ os p with _|g
  .grind
  rw[h1]at e;simp only at e;rcases h2:frC lk yP os g with _|q
  .grind
  obtain⟨o1,d⟩:=q;rw[h2]at e;simp only at e;rcases h3:zkS lk ρ D o1 with _|q
  .grind
  obtain⟨v,k1,k2⟩:=zho I F h1;obtain⟨N1,f1,s1,r1⟩:=zce I k2 h2;rcases Yzv.1 hm with rfl|hm
  .grind[zkz,zmT]
  have:=zkZ s1.inv (fun i=>(F i).mono s1.nx) h3 k c hm hk;rw[s1.lock k hk]at this;exact this
theorem zfY{D:List Pl}:∀{os:List PO} {k0:Nat},zaX D os k0=true->∀{j nt ρ ps a b l s},og os j=.lop nt ρ ps a b l s->zej s=true\/∃c,.st (k0+j) c∈D/\s=.int .i64 (.ofNat c)
 | [],k0,e,j,nt,ρ,ps,a,b,l,s,h=>by trivial
 |o::os,k0,e,j,nt,ρ,ps,a,b,l,s,h=>by
  simp only[zaX,LzC]at e;cases j with
  |zero=>
   have ho:o=.lop nt ρ ps a b l s:=by trivial
   subst ho;rcases Bool.or_eq_true_iff.1 e.1 with h1|h1
   .grind
   obtain⟨p,hp,h2⟩:=List.any_eq_true.1 h1;cases p with
   |st k' c=>
    rw[LzC]at h2
    grind[Lz1,zmT]
   |_=>cases h2
  |succ j=>
   have ho:og os j=.lop nt ρ ps a b l s:=by trivial
   have:=zfY e.2 ho
   grind
theorem zoe{okm:Nat->Bool}{la:LA}{x:Zg}{N:Nm}{os os1:List PO}{r:Fr}{ρ:Nat->PA}{L:List DV}{M:List OC}{ms:List (Option Nat)}(I:Zd E N os)(F:∀i,RepPA N (r i) (ρ i))(e:vec lk okm la x ρ os=some (os1,L,M,ms)):
  (∀{j nt ρ ps a b l s},og os1 j=.lop nt ρ ps a b l s->zej s=true\/∃c,.st j c∈q8 la x/\s=.int .i64 (.ofNat c))/\
   ∀k c,.st k c∈q8 la x->lk k=true->∃nt ρ ps a b l,og os k=.lop nt ρ ps a b l (.int .i64 (.ofNat c)):=by
 unfold vec at e;rcases h1:zkS lk ρ (q8 la x) os with _|q
 .grind
 obtain⟨o1,ds⟩:=q;rw[h1]at e;simp only at e;split at e
 .rename_i vs ms0 ws h2 h3;cases h4:((jD o1 la.boxes&&zdT okm ms0)&&zaX (q8 la x) o1 0)
  .grind
  rw[h4]at e;cases e;rw[LzC]at h4;refine⟨fun h=>?_,zkZ I F h1⟩;have:=zfY h4.2 h
  grind
 cases e
theorem un:∀(D:List Pl) (os:List PO),(xR D os).length=os.length
 | [],_=>rfl
 | .st k c::D,os=>by
  simp only[xR];rw[un D]
  grind[zX]
 | .slot _::D,os=>un D os
 | .cell _ _::D,os=>un D os
 | .lnk _::D,os=>un D os
theorem wg:∀(D:List Pl) (os:List PO) (k:Nat),((∀c,.st k c∉D)->og (xR D os) k=og os k)/\
  ((∀nt ρ ps a b l s,og os k≠.lop nt ρ ps a b l s)->og (xR D os) k=og os k)/\
  ∀{nt ρ ps a b l s},og os k=.lop nt ρ ps a b l s->(og (xR D os) k=og os k/\∀c,.st k c∉D)\/∃c,.st k c∈D/\og (xR D os) k=.lop nt ρ ps a b l (.int .i64 (.ofNat c))
 | [],os,k=>⟨fun _=>rfl,fun _=>rfl,fun _=>.inl ⟨rfl,fun _ h=>by cases h⟩⟩
 | .st k' c'::D,os,k=>by
  simp only[xR];cases ho:og os k' with
  |lop nt0 ρ0 ps0 a0 b0 l0 s0=>
   simp only;obtain⟨i1,i2,i3⟩:=wg D (oset (.lop nt0 ρ0 ps0 a0 b0 l0 (.int .i64 (.ofNat c'))) os k') k;have hlt:k'<os.length:=wF (by grind);have hg:og (oset (.lop nt0 ρ0 ps0 a0 b0 l0 (.int .i64 (.ofNat c'))) os k') k=if k=k' then .lop nt0 ρ0 ps0 a0 b0 l0 (.int .i64 (.ofNat c')) else og os k:=by grind[zw]
   grind
  |_=>
   simp only;obtain⟨i1,i2,i3⟩:=wg D os k
   grind
 | .slot _::D,os,k=>by
  obtain⟨i1,i2,i3⟩:=wg D os k
  grind[xR]
 | .cell _ _::D,os,k=>by
  obtain⟨i1,i2,i3⟩:=wg D os k
  grind[xR]
 | .lnk _::D,os,k=>by
  obtain⟨i1,i2,i3⟩:=wg D os k
  grind[xR]
end
end Go.PE
end
section
namespace Go.PE
open Go Go.CE
def zoK(tab:Nat->Bool)(ρ:Nat->PA)(g:Operand):Option (Nat×List PA):=
 match pv ρ g with
 |some (.s (.one (.clo gf caps)))=>bif tab gf then some (gf,znx caps) else none
 |some (.s (.one (.d (.fn gf caps))))=>bif tab gf then some (gf,caps.map fun x=>pd (.fp x 0)) else none
 |_=>none
def zvm(nt:Nat)(ρ:Nat->PA):Nat->PA:=fun i=>bif Nat.ble (Nat.succ i) nt then ρ i else .bad
def zx8{β:Type}(K:Zg->List PO->Option β)(k:Nat)(os:List PO):Option β:=
 match og os k with
 | .lop _ _ _ _ _ _ (.int .i64 (.ofNat 0))=>K .ret (oset .dead os k)
 | .lop _ _ _ _ _ _ (.int .i64 (.ofNat (e+1)))=>K (.exit e) (oset .dead os k)
 | .lop _ _ _ _ _ _ (.int .i64 (.negSucc 0))=>K .normal (oset .dead os k)
 |_=>none
def zyi(l:List Pl):Bool:=l.all fun p=>match p with | .st _ _=>false|_=>true
section
variable (P:Program) (O:Orc) (tab:Nat->Bool) (Y:Inl)
noncomputable def wI(nt:Nat)(an:Nat->Option LA)(fn:Nat)(top:Bool):Code->(Nat->Bool)->Nat->{β:Type}->(Nat->PA)->List PO->(Zg->(Nat->PA)->List PO->Option β)->Option β
 | .skip,_,_,_,ρ,os,K=>K .normal ρ os
 | .region _ ops draw,lk,_,_,ρ,os,K=>bif draw then(bif P.follows .mixedOrders&&qT P ops (y5 ops.toList) then pDr P O tab Y lk nt ops (y5 ops.toList) (qS P ops.toList) 0 ops.toList ρ os (fun _=>0) [] [] (fun ρ os=>K .normal ρ os) else bif P.follows .mixedOrders&&uP P ops (y5 ops.toList) then zg0 P O tab Y lk nt ops (y5 ops.toList) (jG P ops.toList) 0 ops.toList ρ os (fun _=>0) [] [] [] true (fun ρ os=>K .normal ρ os) else none) else zj6 P O tab Y lk nt ops ops.toList ρ os (fun ρ os=>K .normal ρ os)
 | .seq a b,lk,i,_,ρ,os,K=>wI nt an fn top a lk i ρ os (zwp (fun ρ os=>wI nt an fn top b lk (i+jg a) ρ os K) K)
 | .cond c a b,lk,i,_,ρ,os,K=>
  match pv ρ c with
  |some (.s (.one (.d v)))=>ifB v (wI nt an fn top a lk i (refine ρ (zq3 c true)) os K) (wI nt an fn top b lk (i+jg a) (refine ρ (zq3 c false)) os K)
  |_=>none
 | .block id c,lk,i,_,ρ,os,K=>wI nt an fn top c lk i ρ os (zyd id K)
 | .loop c,lk,i,_,ρ,os,K=>
  match an i with
  |some la=>
   bif free lk la&&zyi la.data then
    match zkB lk (zwc la.frz) os with
    |none=>none
    |some os=>
    zru lk ρ (zth la.frz) os fun oz=>
    match vec lk (fun m=>!lk m && !listed la m) la .normal ρ oz with
    |some (os1,L0,M0,ms)=>
     xa (z6 (fun L M=>wI nt an fn top c (zeq la oz.length) (i+1) (hFr la.data la.own (writes c) ρ oz.length L) (hOs la.data la.own la (kill ms os1) oz.length L M) (zof (zeq la oz.length) oz.length la)) L0 M0)
      (fun id L M=>zf6 lk (pairs (zth la.frz) os.length) (hOs la.xdata la.xown la (xR la.xdata (kill ms os1)) oz.length L M) fun o3=>K (.exit id) (hFr la.xdata la.xown (writes c) ρ oz.length L) o3)
      (fun L M=>bif kq c then zf6 lk (pairs (zth la.frz) os.length) (hOs la.rdata la.rown la (xR la.rdata (kill ms os1)) oz.length L M) fun o3=>K .ret (hFr la.rdata la.rown (writes c) ρ oz.length L) o3 else none)
    |none=>none
   else none
  |none=>none
 | .rangeFunc g ps assign body,lk,i,β,ρ,os,K=>
  bif top then
   match zoK tab ρ g with
   |some (gf,cs)=>Y gf lk (pc (.own os.length)::cs) (os++[.lop nt (zvm nt ρ) ps.toList assign body (fn*1000+i) (.int .i64 (.negSucc 0))]) β (fun _ os2=>zx8 (fun e os3=>K e ρ os3) os.length os2)
   |none=>none
  else none
 | .exit id,_,_,_,ρ,os,K=>K (.exit id) ρ os
 | .ret,_,_,_,ρ,os,K=>K .ret ρ os
 |_,_,_,_,_,_,_=>none
end
def zcB(m:Nat)(N:Nm):Nm:=⟨N.μ,N.n,N.fz,⟨bn (Nat.add N.h.n.toNat m),N.h.t⟩⟩
theorem Zd.bump{E:En}{N:Nm}{os:List PO}(I:Zd E N os)(m:Nat):Zd E (zcB m N) os/\Nx N (zcB m N):=by have hn:(zcB m N).h.n.toNat=N.h.n.toNat+m:=zF _;have nx:Nx N (zcB m N):=⟨⟨fun _ _ h _=>h,fun _ _ _ h=>h⟩,LzB _,fun _ _=>rfl⟩;refine⟨⟨fun b y hy=>by rw[hn];have:=I.hw b y hy;omega,⟨by rw[hn];have:=I.gr.le;omega,I.gr.old⟩,fun b hb=>by rw[hn];have:=I.fzlt b hb;omega,I.fzok,I.fzex,I.len,I.own,I.inj,fun k=>(I.obj k).mono nx rfl fun hl b hb=>?_,I.lnk⟩,nx⟩;obtain⟨b',x',h1,h2,h3⟩:=xf hl (I.obj k);rw[h1]at hb;cases hb;trivial
section
variable {P:Program} {O:Orc} {tab:Nat->Bool} {Y:Inl} {C:Nat->zc} {E:En} {nt:Nat} {an:Nat->Option LA}
structure Dk (E:En) (N0 N:Nm) (top:Bool) (d:List BN):Prop where
 nx:Nx N0 N
 nd:d.Nodup
 em:top=false->d=[]
 ok:∀b∈d,N.fz b/\N.h.t.get b=some .defer/\E.h0.n.toNat<=b.toNat/\∀y,N0.h.t.get b=some y->¬N0.fz b
theorem Dk.mono{N0 N N':Nm}{top:Bool}{d:List BN}(D:Dk E N0 N top d)(g:Nx N N'):Dk E N0 N' top d:=⟨D.nx.trans g,D.nd,D.em,fun b hb=>by obtain⟨h1,h2,h3,h4⟩:=D.ok b hb;exact⟨g.fg.sub _ _ h1 h2,g.fg.old _ _ h1 h2,h3,h4⟩⟩
theorem Ev.rangeK{γ:Type}{l:BN}{m:Nat->Res}{k:Nat->Zg->Za->Option γ}{Q:γ->Prop}
  (h:Ev m (fun p=>∃S pend lf ln lt lps la lb ld,p.2.t.get l=some (.loop S pend lf ln lt lps la lb ld)/\S≠.busy/\Ev (fun n=>k n (pend.getD .normal) (p.2.put l (.loop .exhausted pend lf ln lt lps la lb ld))) Q)):Ev (fun n=>CE.rangeK l (k n) (m n)) Q:=by
 obtain⟨⟨v,h'⟩,⟨S,pend,lf,ln,lt,lps,la,lb,ld,h1,hS,x,hx,N1,h2⟩,N2,h3⟩:=h;refine⟨x,hx,max N1 N2,fun n hn=>?_⟩;show CE.rangeK l (k n) (m n)=_;rw[h3 n (by omega)];unfold CE.rangeK
 grind
theorem zoJ{N:Nm}{r:Fr}{ρ:Nat->PA}{g:Operand}{gf:Nat}{cs:List PA}(F:∀i,RepPA N (r i) (ρ i))(e:zoK tab ρ g=some (gf,cs)):
  tab gf=true/\∃caps:List (BN×Nat),coK r g=some (zn (.s (.one (.fn gf caps))))/\RepPAL N (caps.map fun(p:BN×Nat)=>Zb.s (.one (.ptr p.1 p.2))) cs:=by
 unfold zoK at e;split at e
 .rename_i gf' caps h1;cases ht:tab gf'
  .grind
  rw[ht]at e;cases e;obtain⟨v,k1,k2⟩:=x4 F h1;obtain⟨w,rfl,hw⟩:=zQ k2;obtain⟨ps,rfl,hps⟩:=hw
  grind[yf,zbl]
 .rename_i gf' caps h1;cases ht:tab gf'
  .grind
  rw[ht]at e;cases e;obtain⟨v,k1,k2⟩:=x4 F h1;obtain⟨w,rfl,hw⟩:=wa k2;obtain⟨ps,rfl,hps⟩:=Rep.fn_inv hw
  grind[yf,zjs]
 cases e
theorem zkX{lk okm:Nat->Bool}{la:LA}{b:Zg}{N:Nm}{os os1:List PO}{r:Fr}{ρ:Nat->PA}{L:List DV}{M:List OC}{ms:List (Option Nat)}(I:Zd E N os)(F:∀i,RepPA N (r i) (ρ i))(e:vec lk okm la b ρ os=some (os1,L,M,ms)):
  (∃N1,Fz N N1/\Stp E lk N os [] N1 os1)/\∀m,some m∈ms->okm m=true:=by
 unfold vec at e;rcases h1:zkS lk ρ (q8 la b) os with _|q
 .grind
 obtain⟨o1,ds⟩:=q;rw[h1]at e;simp only at e;obtain⟨N1,f1,S1,_⟩:=zdN I F h1;split at e
 .rename_i vs ms0 ws h2 h3;cases h4:((jD o1 la.boxes&&zdT okm ms0)&&zaX (q8 la b) o1 0)
  .grind
  rw[h4]at e;cases e;rw[LzC]at h4
  replace h4:=h4.1
  rw[LzC]at h4
  grind[Yyg,za8]
 cases e
theorem zqP{lk:Nat->Bool}{n0:Nat}{la:LA}{e e1:Zg}{ρ:Nat->PA}{os:List PO}{L:List DV}{M:List OC}(h:zof lk n0 la e ρ os=some (e1,L,M)):e=e1/\∃os1 ms,vec lk (fun m=>Nat.ble n0 m) la e ρ os=some (os1,L,M,ms):=by grind[zof]
set_option maxHeartbeats 1000000 in
theorem qn{fn fk:Nat}{top:Bool}{N0:Nm}(hO:uW O C)(hY:Zp tab Y C):∀(c:Code) {β γ:Type} {Q:γ->Prop} {x:β} (lk:Nat->Bool) (i:Nat) (ρ:Nat->PA) (os:List PO) (N:Nm) (r:Fr) (d:List BN) (K:Zg->(Nat->PA)->List PO->Option β) (kk:Nat->KK γ),
  wI P O tab Y nt an fn top c lk i ρ os K=some x->Zd E N os->(∀i,RepPA N (r i) (ρ i))->(∀j,lk j=true->j<os.length)->Dk E N0 N top d->
  (∀e ρ' os' N' r' d',K e ρ' os'=some x->Zd E N' os'->(∀i,RepPA N' (r' i) (ρ' i))->Nx N N'->(∀j,lk j=true->sameO (og os j) (og os' j))->(∀i,i∉writes c->r' i=r i)->Dk E N0 N' top d'->Ev (fun n=>kk n e r' N'.h d') Q)->
  Ev (fun n=>yG P nt (C n) n fk top c r N.h d (kk n)) Q:=by
 intro c
 induction c with
 |skip=>exact fun lk i ρ os N r d K kk e I F hlk D H=>H .normal ρ os N r d e I F (.refl N) (fun _ _=>.refl _) (fun _ _=>rfl) D
 |exit id=>exact fun lk i ρ os N r d K kk e I F hlk D H=>H (.exit id) ρ os N r d e I F (.refl N) (fun _ _=>.refl _) (fun _ _=>rfl) D
 |ret=>exact fun lk i ρ os N r d K kk e I F hlk D H=>H .ret ρ os N r d e I F (.refl N) (fun _ _=>.refl _) (fun _ _=>rfl) D
 |region id ops draw=>
  intro β γ Q x lk i ρ os N r d K kk e I F hlk D H;simp only[wI]at e;cases draw
  .simp only[Yzc]at e;have:(fun n=>yG P nt (C n) n fk top (.region id ops false) r N.h d (kk n))=fun n=>zew P nt ops (C n) ops.toList r N.h (fun r h=>kk n .normal r h d):=by
    rfl
   rw[this];exact zbI hO hY ops.toList ρ os N r e I F hlk fun ρ' os' N' r' h1 h2 h3 h4 h5 h6=>H .normal ρ' os' N' r' d h1 h2 h3 h4 h5 h6 (D.mono h4)
  simp only[Yza]at e;cases hd:(P.follows .mixedOrders&&qT P ops (y5 ops.toList))
  .rw[hd]at e;simp only[Yzc]at e;cases hd2:(P.follows .mixedOrders&&uP P ops (y5 ops.toList))
   .grind
   rw[hd2]at e;simp only[Yza]at e;obtain⟨IB,xB⟩:=I.bump ops.toList.length;have hnB:(zcB ops.toList.length N).h.n.toNat=N.h.n.toNat+ops.toList.length:=zF _;have hno:∀j,N.h.t.get (nm N.h.n.toNat j)=none:=fun j=>by
    rcases hx:N.h.t.get (nm N.h.n.toNat j) with _|y
    .rfl
    have:=I.hw _ _ hx;grind[yw]
   have:(fun n=>yG P nt (C n) n fk top (.region id ops true) r N.h d (kk n))=fun n=>zcM P nt ops (C n) (y5 ops.toList) (jG P ops.toList) N.h.n.toNat 0 ops.toList r (zcB ops.toList.length N).h 0 [(zcB ops.toList.length N).h] [] [] (fun r h=>kk n .normal r h d):=by funext n;simp only[yG,Yza,Yzc,hd,hd2];rfl
   rw[this];have hS:∀(e:Nat) (A:Sn),([(zcB ops.toList.length N,os)]:List Sn)[e]? = some A->A=(zcB ops.toList.length N,os):=fun e A hA=>Yz4.1 (Lz3 hA);refine zef hO hY (n0:=N.h.n.toNat) (kk:=fun n r h=>kk n .normal r h d) ops.toList 0 ρ os (zcB ops.toList.length N) r (fun _=>0) [] [] [] true [(zcB ops.toList.length N,os)] (fun _=>[]) [] e IB (fun s=>(F s).mono xB) hlk ⟨[],rfl,rfl⟩
    ⟨I.gr.le,by omega,fun p hp=>(by cases hp),fun j _ _=>hno j,fun j y _ hy=>?_⟩ (fun p hp=>by cases hp) rfl (fun e w hw=>by simp at hw) (fun A hA=>by grind) (fun A hA j _ _=>by rw[Yz4.1 hA];exact hno j)
    ⟨_,rfl,.refl _ _,fun k b h1 h2 _=>absurd h2 (Nat.not_lt.2 h1),fun _=>.refl _ _⟩ (fun s=>⟨Yzn _,fun A hA=>by rw[hS _ _ hA];exact(F s).mono xB⟩) (fun y hy=>by cases hy) ⟨fun z hz=>(by cases hz),fun z hz=>(by cases hz),fun z hz=>(by cases hz),fun p hp=>(by cases hp)⟩ (fun n q hq=>by cases hq) fun ρ' os' N' r' h1 h2 h3 h4 h5 h6=>H .normal ρ' os' N' r' d h1 h2 h3 (xB.trans h4) (fun j hj=>.of (h5 j hj)) h6 (D.mono (xB.trans h4))
   have hy:N.h.t.get (nm N.h.n.toNat j)=some y:=hy
   grind
  rw[hd]at e;simp only[Yza]at e;have:(fun n=>yG P nt (C n) n fk top (.region id ops true) r N.h d (kk n))=fun n=>kDr P nt ops (C n) (y5 ops.toList) (qS P ops.toList) 0 ops.toList r N.h [] [] (fun r h=>kk n .normal r h d):=by simp_all[yG]
  rw[this];refine zlZ hO hY (kk:=fun n r h=>kk n .normal r h d) ops.toList 0 ρ os N r (fun _=>0) [] [] [] (fun _=>[]) e I F hlk rfl (fun e w hw=>by simp at hw) (fun s=>⟨LzB _,fun A hh=>?_⟩) (fun n q hq=>by cases hq) fun ρ' os' N' r' h1 h2 h3 h4 h5 h6=>H .normal ρ' os' N' r' d h1 h2 h3 h4 h5 h6 (D.mono h4)
  grind
 |seq a b iha ihb=>
  intro β γ Q x lk i ρ os N r d K kk e I F hlk D H;simp only[wI]at e;have:(fun n=>yG P nt (C n) n fk top (.seq a b) r N.h d (kk n))=fun n=>yG P nt (C n) n fk top a r N.h d (zqW (fun r h d=>yG P nt (C n) n fk top b r h d (kk n)) (kk n)):=by rfl
  rw[this];refine iha lk i ρ os N r d _ (fun n=>zqW (fun r h d=>yG P nt (C n) n fk top b r h d (kk n)) (kk n)) e I F hlk D fun ex ρ1 os1 N1 r1 d1 h1 h2 h3 h4 h5 h6 h7=>?_;have hag:∀r2:Fr,(∀i,i∉writes b->r2 i=r1 i)->∀i,i∉writes (.seq a b)->r2 i=r i:=fun r2 hr i hi=>by simp_all[writes]
  cases ex with
  |normal=>
   refine ihb lk (i+jg a) ρ1 os1 N1 r1 d1 K kk h1 h2 h3 (fun j hj=>?_) h7 fun e2 ρ2 os2 N2 r2 d2 k1 k2 k3 k4 k5 k6 k7=>H e2 ρ2 os2 N2 r2 d2 k1 k2 k3 (h4.trans k4) (fun j hj=>(h5 j hj).trans (k5 j hj)) (hag r2 k6) k7;have:=h4.le;rw[h2.len,I.len]at this
   grind
  |exit id=>exact H (.exit id) ρ1 os1 N1 r1 d1 h1 h2 h3 h4 h5 (hag r1 (fun _ _=>rfl)) h7
  |ret=>exact H .ret ρ1 os1 N1 r1 d1 h1 h2 h3 h4 h5 (hag r1 (fun _ _=>rfl)) h7
 |cond c a b iha ihb=>
  intro β γ Q x lk i ρ os N r d K kk e I F hlk D H;simp only[wI]at e;split at e
  .rename_i v hv;obtain⟨q,rfl,e⟩:=zb5 e;obtain⟨w,k1,k2⟩:=x4 F hv;have hw:=z7 k2 (c:=.bool q) rfl;subst hw;have hco:coK r c=some (zn (.s (.one (.bool q)))):=by grind[yf]
   have F':∀i,RepPA N (r i) (refine ρ (zq3 c q) i):=by
    cases c with
    |tmp t=>exact jW F (Option.some.inj k1)
    |_=>exact F
   have run:∀n,yG P nt (C n) n fk top (.cond c a b) r N.h d (kk n)=bif q then yG P nt (C n) n fk top a r N.h d (kk n) else yG P nt (C n) n fk top b r N.h d (kk n):=fun n=>by simp only[yG,hco];rfl
   cases q
   .simp only[run,Yzc];exact ihb lk _ _ os N r d K kk e I F' hlk D fun e2 ρ2 os2 N2 r2 d2 k1 k2 k3 k4 k5 k6 k7=>H e2 ρ2 os2 N2 r2 d2 k1 k2 k3 k4 k5 (fun i hi=>k6 i (fun h=>hi (by simp[writes,h]))) k7
   simp only[run,Yza];exact iha lk i _ os N r d K kk e I F' hlk D fun e2 ρ2 os2 N2 r2 d2 k1 k2 k3 k4 k5 k6 k7=>H e2 ρ2 os2 N2 r2 d2 k1 k2 k3 k4 k5 (fun i hi=>k6 i (fun h=>hi (by simp[writes,h]))) k7
  cases e
 |block id c ih=>
  intro β γ Q x lk i ρ os N r d K kk e I F hlk D H;simp only[wI]at e;have:(fun n=>yG P nt (C n) n fk top (.block id c) r N.h d (kk n))=fun n=>yG P nt (C n) n fk top c r N.h d (zue id (kk n)):=by rfl
  rw[this];refine ih lk i ρ os N r d _ (fun n=>zue id (kk n)) e I F hlk D fun ex ρ1 os1 N1 r1 d1 h1 h2 h3 h4 h5 h6 h7=>?_;cases ex with
  |normal=>exact H .normal ρ1 os1 N1 r1 d1 h1 h2 h3 h4 h5 h6 h7
  |exit id'=>
   simp only[zyd]at h1;simp only[zue];cases hq:Nat.beq id' id
   case true=>rw[hq]at h1;exact H .normal ρ1 os1 N1 r1 d1 h1 h2 h3 h4 h5 h6 h7
   rw[hq]at h1;exact H (.exit id') ρ1 os1 N1 r1 d1 h1 h2 h3 h4 h5 h6 h7
  |ret=>exact H .ret ρ1 os1 N1 r1 d1 h1 h2 h3 h4 h5 h6 h7
 |loop c ih=>
  intro β γ Q x lk i ρ os N r d K kk e I F hlk D H;simp only[wI]at e;rcases ha:an i with _|la
  .grind
  rw[ha]at e;simp only at e;cases hfr:(free lk la&&zyi la.data)
  .grind
  rw[hfr]at e;simp only[Yza]at e;rw[LzC]at hfr;obtain⟨hfr,hns⟩:=hfr;have hnoSt:∀k c,(.st k c:Pl)∉la.data:=fun k c h=>by have:=YzI.1 hns _ h;cases this
  have core:∀(K:Zg->(Nat->PA)->List PO->Option β) (os:List PO) (N:Nm),Zd E N os->(∀i,RepPA N (r i) (ρ i))->(∀j,lk j=true->j<os.length)->Dk E N0 N top d->
    (match vec lk (fun m => !lk m && !listed la m) la .normal ρ os with
     |some (os1,L0,M0,ms)=>
      xa (z6 (fun L M=>wI P O tab Y nt an fn top c (zeq la os.length) (i+1) (hFr la.data la.own (writes c) ρ os.length L) (hOs la.data la.own la (kill ms os1) os.length L M) (zof (zeq la os.length) os.length la)) L0 M0)
       (fun id L M=>K (.exit id) (hFr la.xdata la.xown (writes c) ρ os.length L) (hOs la.xdata la.xown la (xR la.xdata (kill ms os1)) os.length L M))
       (fun L M=>bif kq c then K .ret (hFr la.rdata la.rown (writes c) ρ os.length L) (hOs la.rdata la.rown la (xR la.rdata (kill ms os1)) os.length L M) else none)
     |none=>none)=some x->
    (∀e ρ' os' N' r' d',K e ρ' os'=some x->Zd E N' os'->(∀i,RepPA N' (r' i) (ρ' i))->Nx N N'->(∀j,lk j=true->sameO (og os j) (og os' j))->(∀i,i∉writes (.loop c)->r' i=r i)->Dk E N0 N' top d'->Ev (fun n=>kk n e r' N'.h d') Q)->
    Ev (fun n=>yG P nt (C n) n fk top (.loop c) r N.h d (kk n)) Q:=by
   clear e hlk F I H D N os K;intro K os N I F hlk D e H;rcases hv:vec lk (fun m=>!lk m && !listed la m) la .normal ρ os with _|q
   .grind
   obtain⟨os1,L0,M0,ms⟩:=q;rw[hv]at e;simp only at e;obtain⟨⟨N1,f1,S1⟩,hms⟩:=zkX I F hv;have hl1:os1.length=os.length:=by rw[<-S1.inv.len,f1.n,I.len]
   have hBl:(kill ms os1).length=os.length:=by rw[zev,hl1]
   generalize hB:kill ms os1=B at e hBl;rw[<-hBl]at e;have hRep:∀k,∃(N':Nm) (o':PO),N'.n=B.length/\RepO N' k o'/\simO (og B k) o':=fun k=>by
    refine⟨N1,og B k,by rw[f1.n,I.len,hBl],?_,.inl rfl⟩;rw[<-hB];rcases wU ms os1 k with⟨_,h2⟩|⟨_,h2⟩
    .rw[h2];trivial
    rw[h2];exact S1.inv.obj k
   have hBnl:∀D:List Pl,(∀k,(∀nt ρ ps a b l s,og B k≠.lop nt ρ ps a b l s)->og (xR D B) k=og B k):=fun D k=>(wg D B k).2.1;have hBsim:∀(D:List Pl) k,simO (og (xR D B) k) (og B k):=fun D k=>by
    cases ho:og B k with
    |lop nt ρ ps a b l s=>
     rcases (wg D B k).2.2 ho with⟨h1,_⟩|⟨c,_,h1⟩
     .exact .inl (by rw[h1,ho])
     exact .inr ⟨nt,ρ,ps,a,b,l,_,s,h1,rfl⟩
    |_=>exact .inl (by grind)
   have hRepX:∀(D:List Pl) k,∃(N':Nm) (o':PO),N'.n=B.length/\RepO N' k o'/\simO (og (xR D B) k) o':=fun D k=>by
    refine⟨N1,og B k,by rw[f1.n,I.len,hBl],?_,hBsim D k⟩;rw[<-hB];rcases wU ms os1 k with⟨_,h2⟩|⟨_,h2⟩
    .rw[h2];trivial
    rw[h2];exact S1.inv.obj k
   have hBdata:xR la.data B=B:=by
    refine List.ext_getElem (un _ _) fun k h1 h2=>?_;have:=(wg la.data B k).1 (fun c=>hnoSt k c)
    grind[za3]
   have hBlX:∀D,(xR D B).length=B.length:=fun D=>un D B;obtain⟨kT,kM,kB,kA⟩:=zkY I F hv;have hkeep:∀k,(∀st v,og os1 k≠mkO st v)->og B k=og os1 k:=fun k hne=>by rw[<-hB];rcases wU ms os1 k with⟨h1,_⟩|⟨_,h2⟩<;>grind
   have hT:∀t,t∈zep la.own->∃m,og B t=.lnk m:=fun t ht=>by
    obtain⟨m,hm⟩:=kT t ht
    grind[zhd]
   have hL:∀t m,og B t=.lnk m->∃k v n,k<B.length/\listed la k=false/\og B k=.hol v n t:=fun t m ht=>by
    have ht1:og os1 t=.lnk m:=by rw[<-hB]at ht;rcases wU ms os1 t with⟨_,h2⟩|⟨_,h2⟩<;>grind
    obtain⟨k,v,n,hk⟩:=S1.inv.lnk t m ht1;refine⟨k,v,n,by rw[hBl,<-hl1];exact wF (by grind),?_,(hkeep k fun st w h=>zmw (h.symm.trans hk)).trans hk⟩
    grind[listed,Lz1,zmw]
   have hTX:∀(D:List Pl) t,t∈zep la.own->∃m,og (xR D B) t=.lnk m:=fun D t ht=>by grind
   have hLX:∀(D:List Pl) t m,og (xR D B) t=.lnk m->∃k v n,k<(xR D B).length/\listed la k=false/\og (xR D B) k=.hol v n t:=fun D t m ht=>by
    have ht':og B t=.lnk m:=by rcases hBsim D t with h|⟨_,_,_,_,_,_,_,_,h,_⟩<;>grind
    grind
   have hBk:∀k,og B k=.dead\/og B k=og os1 k:=fun k=>by rw[<-hB];rcases wU ms os1 k with⟨_,h2⟩|⟨_,h2⟩<;>grind
   obtain⟨N2,e2h,i2,F2,nx2,_⟩:=zmY (W:=writes c) I F hv (I.len.trans hBl.symm) (.refl N) F (fun _ _=>rfl)
    (fun k hk hul=>(hBk k).imp id fun h=>⟨h,hRep k⟩) hT hL
    (fun m hm hmB => by
     have hm':=hms m hm;rw[LzC,Yzr,Yzr]at hm';refine⟨?_,hm'.2⟩;rw[<-hB];rcases wU ms os1 m with⟨_,h2⟩|⟨h1,_⟩
     .rw[h2];exact fun h=>h
     trivial)
   simp only[q8,zkT]at i2 F2;have hlp:∃ex Lx Mx n,ex≠.normal/\wp (fun L M=>wI P O tab Y nt an fn top c (zeq la B.length) (i+1) (hFr la.data la.own (writes c) ρ B.length L) (hOs la.data la.own la B B.length L M) (zof (zeq la B.length) B.length la)) n L0 M0=some (ex,Lx,Mx)/\
     K ex (hFr (q8 la ex) (zkT la ex) (writes c) ρ B.length Lx) (hOs (q8 la ex) (zkT la ex) la (xR (q8 la ex) B) B.length Lx Mx)=some x:=by
    rcases hp:z6 (fun L M=>wI P O tab Y nt an fn top c (zeq la B.length) (i+1) (hFr la.data la.own (writes c) ρ B.length L) (hOs la.data la.own la B B.length L M) (zof (zeq la B.length) B.length la)) L0 M0 with _|q
    .rw[hp]at e;cases e
    obtain⟨ex,Lx,Mx⟩:=q;rw[hp]at e;obtain⟨n,hn⟩:=zbD.1 hp;cases ex with
    |normal=>cases e
    |exit id=>exact⟨.exit id,Lx,Mx,n,by simp,hn,e⟩
    |ret=>
     simp only[xa]at e;cases hR:kq c
     .grind
     rw[hR]at e;exact⟨.ret,Lx,Mx,n,by simp,hn,e⟩
   obtain⟨ex,Lx,Mx,n,hne,hpl,hK⟩:=hlp;have run:(fun n=>yG P nt (C n) n fk top (.loop c) r N.h d (kk n))=fun n=>bindX (za4 ((fun n ys h d=>yG P nt (C n) n fk top c (zkl (writes c) 0 r ys) h d (fun e s h d=>some (e,(writes c).map s,h,d))) n) n ((writes c).map r) N.h d)
     (fun id ys h d=>kk n (.exit id) (zkl (writes c) 0 r ys) h d) (fun ys h d=>kk n .ret (zkl (writes c) 0 r ys) h d):=by
    rfl
   rw[run];refine Ev.bindX ((Ev.loop (Q:=fun p=>p.1=ex/\∃N' r',p.2.1=(writes c).map r'/\(∀i,i∉writes c->r' i=r i)/\N'.h=p.2.2.1/\Zd E N' (hOs (q8 la ex) (zkT la ex) la (xR (q8 la ex) B) B.length Lx Mx)/\(∀i,RepPA N' (r' i) (hFr (q8 la ex) (zkT la ex) (writes c) ρ B.length Lx i))/\Nx N N'/\Dk E N0 N' top p.2.2.2/\∀k,k<B.length->listed la k=false->sameO (og B k) (og (xR (q8 la ex) B) k))
    (fun k ys h d => ∃ L M N' r', wp (fun L M => wI P O tab Y nt an fn top c (zeq la B.length) (i + 1) (hFr la.data la.own (writes c) ρ B.length L) (hOs la.data la.own la B B.length L M) (zof (zeq la B.length) B.length la)) k L M = some (ex, Lx, Mx) /\
     ys=(writes c).map r'/\(∀i,i∉writes c->r' i=r i)/\N'.h=h/\Zd E N' (hOs la.data la.own la B B.length L M)/\(∀i,RepPA N' (r' i) (hFr la.data la.own (writes c) ρ B.length L i))/\Nx N N'/\Dk E N0 N' top d)
    ?_ n _ _ _ ⟨L0,M0,N2,r,hpl,rfl,fun _ _=>rfl,e2h,i2,F2,nx2,D.mono nx2⟩).mono ?_)
   .rintro k ys h dd ⟨L,M,N',r',h1,rfl,h3,rfl,h5,h6,h7,hD⟩
    cases k with
    |zero=>cases h1
    |succ k=>
     have hstep:∃e1 L1 M1,wI P O tab Y nt an fn top c (zeq la B.length) (i+1) (hFr la.data la.own (writes c) ρ B.length L) (hOs la.data la.own la B B.length L M) (zof (zeq la B.length) B.length la)=some (e1,L1,M1)/\
       ((e1=.normal/\wp (fun L M=>wI P O tab Y nt an fn top c (zeq la B.length) (i+1) (hFr la.data la.own (writes c) ρ B.length L) (hOs la.data la.own la B B.length L M) (zof (zeq la B.length) B.length la)) k L1 M1=some (ex,Lx,Mx))\/(e1≠.normal/\e1=ex/\L1=Lx/\M1=Mx)):=by
      grind[wp]
     obtain⟨e1,L1,M1,hb,hor⟩:=hstep;have hmix:zkl (writes c) 0 r ((writes c).map r')=r':=zbY h3;simp only[hmix];refine ih (zeq la B.length) (i+1) _ _ N' r' dd _ (fun n e s h d=>some (e,(writes c).map s,h,d)) hb h5 h6 (fun j hj=>Lz9 (zrR hj).1 (zsA rfl)) hD fun e3 ρ3 os3 N3 r3 d3 k1 k2 k3 k4 k5 k6 k7=>?_;obtain⟨rfl,os1',ms',hv'⟩:=zqP k1;obtain⟨⟨N1',f1',S1'⟩,hms'⟩:=zkX k2 k3 hv';have hag:∀i,i∉writes c->r3 i=r i:=fun i hi=>(k6 i hi).trans (h3 i hi);obtain⟨lp1,lp2⟩:=zoe k2 k3 hv';have hun:∀k,k<B.length->listed la k=false->og (xR (q8 la e3) B) k=og os1' k/\sameO (og B k) (og (xR (q8 la e3) B) k):=fun k hk hul=>by
      have hlkk:zeq la B.length k=true:=by grind[zeq,Yze]
      have ho1:=S1'.lock k hlkk;have hsm:=k5 k hlkk;rw[jo hk hul]at hsm;cases hoB:og B k with
      |lop nt0 ρ0 ps0 a0 b0 l0 s0=>
       have h3s:∃s,og os3 k=.lop nt0 ρ0 ps0 a0 b0 l0 s:=by rcases hsm with h|⟨_,_,_,_,_,_,_,h,h'⟩<;>grind
       obtain⟨s,hs⟩:=h3s;rcases (wg (q8 la e3) B k).2.2 hoB with⟨q1,q2⟩|⟨cc,q1,q2⟩
       .have hnd:zej s=true:=by
         grind
        have heq:og os3 k=og B k:=by
         rcases hsm with h|⟨_,_,_,_,_,_,n',h,h'⟩
         .exact h
         rw[hs]at h';cases h';cases hnd
        grind
       grind
      |_=>
       have hnl:=hBnl (q8 la e3) k (by simp[hoB]);have heq:og os3 k=og B k:=by rcases hsm with h|⟨_,_,_,_,_,_,n',h,h'⟩<;>grind
       grind
     obtain⟨N4,g1,g2,g3,g4,g5⟩:=zmY (W:=writes c) (B:=xR (q8 la e3) B) k2 k3 hv' (by rw[hBlX];exact I.len.trans hBl.symm) (h7.trans k4) F hag
      (fun k hk hul=>.inr ⟨(hun k (by grind) hul).1,by rw[hBlX];exact hRepX _ k⟩) (hTX _) (hLX _)
      (fun m hm hmB => by rw[hBlX]at hmB;have:=Lz4 (hms' m hm);omega)
     rw[hBlX]at g2 g3;refine Ev.some ?_;have hD4:Dk E N0 N4 top d3:=by refine⟨D.nx.trans g4,k7.nd,k7.em,fun b hb=>?_⟩;obtain⟨m1,m2,m3,m4⟩:=k7.ok b hb;exact⟨g5.sub _ _ m1 m2,g5.old _ _ m1 m2,m3,m4⟩
     rcases hor with⟨rfl,hrest⟩|⟨hn1,rfl,rfl,rfl⟩
     .simp only[q8,zkT]at g2 g3
      grind
     grind
   rintro⟨e4,ys,h4,d4⟩ ⟨hex,N',r',hys,hag,hh,i4,F4,nx4,D4,hsm4⟩
   simp only at hex hys hh;subst hex hys hh;have hmix:zkl (writes c) 0 r ((writes c).map r')=r':=zbY hag;have hfin:=H e4 _ _ N' r' d4 hK i4 F4 nx4 (fun j hj=>by
    have hj1:=hlk j hj;have hul:listed la j=false:=by
     unfold free at hfr;rw[LzC,LzC,YzI,YzI,YzI]at hfr
     grind[listed,Lz1]
    have hBj:og B j=og os j:=by
     rw[<-hB];rcases wU ms os1 j with⟨h1,_⟩|⟨_,h2⟩
     .grind
     rw[h2];exact S1.lock j hj
    grind[jo]) hag D4
   grind
  rcases hfa:zkB lk (zwc la.frz) os with _|os0
  .grind
  rw[hfa]at e;obtain⟨Nz,fz0,Sz⟩:=zi4 I hfa;have hl0:∀j,lk j=true->j<os0.length:=fun j hj=>by
   have:=Sz.inv.len;rw[fz0.n,I.len]at this
   grind
  obtain⟨oz,No,e,Vo⟩:=ziB Sz.inv (fun i=>(F i).mono Sz.nx) hl0 e;rw[<-fz0.h,<-Vo.h];refine core (fun ex ρ' o2=>zf6 lk (pairs (zth la.frz) os0.length) o2 fun o3=>K ex ρ' o3) oz No Vo.inv (fun i=>((F i).mono Sz.nx).mono Vo.nx) (fun j hj=>Lz9 (hl0 j hj) Vo.le) ((D.mono Sz.nx).mono Vo.nx) e fun e ρ' os' N' r' d' a1 a2 a3 a4 a5 a6 a7=>?_;obtain⟨o3,N3,b1,V3⟩:=zf5 a2 a1;rw[<-V3.h];exact H e ρ' o3 N3 r' d' b1 V3.inv (fun i=>(a3 i).mono V3.nx) (((Sz.nx.trans Vo.nx).trans a4).trans V3.nx) (fun j hj=>(sameO.of ((Vo.lock j hj).trans (Sz.lock j hj))).trans ((a5 j hj).trans (.of (V3.lock j hj)))) a6 (a7.mono V3.nx)
 |rangeFunc g ps assign body _ _=>
  intro β γ Q x lk i ρ os N r d K kk e I F hlk D H;simp only[wI]at e;cases top with
  |false=>cases e
  |true=>
  simp only[Yza]at e;rcases hg:zoK tab ρ g with _|q
  .grind
  obtain⟨gf,cs⟩:=q;rw[hg]at e;simp only at e;obtain⟨ht,caps,hco,rcs⟩:=zoJ F hg;have run:(fun n=>yG P nt (C n) n fk true (.rangeFunc g ps assign body) r N.h d (kk n))=fun n=>CE.rangeK (N.h.new .defer).n (fun e h'=>kk n e r h' (N.h.n::d)) (C n (.inl gf) ([.s (.one (.yld (N.h.new .defer).n))]++caps.map fun p=>.s (.one (.ptr p.1 p.2))) ((N.h.new .defer).new (.loop .ready none fk nt (xY r nt) ps assign body N.h.n))):=by
   funext n
   simp only[yG,hco,Yza];rfl
  rw[run];obtain⟨IA,xA⟩:=I.grow (I.hw.new .defer) (Gr.new N.h .defer);generalize hNA:(Nm.mk N.μ N.n (fun b=>N.fz b\/(N.h.n.toNat<=b.toNat/\∃y,(N.h.new .defer).t.get b=some y)) (N.h.new .defer))=NA at IA xA;have hAh:NA.h=N.h.new .defer:=by grind
  have hAf:NA.fz N.h.n:=by rw[<-hNA];exact .inr ⟨LzB _,_,zq _ _ _⟩
  have hAg:NA.h.t.get N.h.n=some .defer:=by rw[hAh];exact zq _ _ _
  have hcr:∀(N':Nm),Nx N N'->∀j,RepPA N' (zaF (bn j) (xY r nt)) (zvm nt ρ j):=fun N' g j=>by
   unfold zvm;cases hj:Nat.ble (Nat.succ j) nt
   .trivial
   have:zaF (bn j) (xY r nt)=r j:=by unfold zaF;rw[uy,Yzd (show j<nt from Lz4 hj)]
   rw[this];exact(F j).mono g
  have hxB:Nx NA ⟨upd NA.μ os.length (.yld NA.h.n),os.length+1,NA.fz,NA.h.new (.loop .ready none fk nt (xY r nt) ps assign body N.h.n)⟩:=⟨⟨fun _ _ h _=>h,fun b y _ hy=>(Gr.new NA.h _).get IA.hw hy⟩,by have:=IA.len;grind,fun k hk=>by
   have:=IA.len
   grind[upd]⟩
  obtain⟨IB,xB,_⟩:=IA.new (.loop .ready none fk nt (xY r nt) ps assign body N.h.n) (.lop nt (zvm nt ρ) ps.toList assign body (fn*1000+i) (.int .i64 (.negSucc 0))) (.yld NA.h.n) rfl
   ⟨NA.h.n,.ready,none,fk,xY r nt,ps,N.h.n,by simp[upd],fun h=>absurd (IA.fzlt _ h) (Nat.lt_irrefl _),zq _ _ _,rfl,.inl ⟨rfl,rfl,rfl⟩,hcr _ (xA.trans hxB)⟩
  generalize hNB:(Nm.mk (upd NA.μ os.length (.yld NA.h.n)) (os.length+1) NA.fz (NA.h.new (.loop .ready none fk nt (xY r nt) ps assign body N.h.n)))=NB at IB xB;have hBh:NB.h=NA.h.new (.loop .ready none fk nt (xY r nt) ps assign body N.h.n):=by grind
  have hBm:NB.μ os.length=.yld NA.h.n:=by rw[<-hNB];simp[upd]
  have hBn:NB.n=os.length+1:=by grind
  have hal:RepPAL NB ([.s (.one (.yld NA.h.n))]++caps.map fun(p:BN×Nat)=>Zb.s (.one (.ptr p.1 p.2))) (pc (.own os.length)::cs):=by refine⟨RepPA.of (v:=.one (.yld NA.h.n)) (p:=.one (.own os.length)) ⟨by omega,hBm.symm⟩,?_⟩;exact rcs.mono (xA.trans xB)
  obtain⟨a,os2,e1,ev⟩:=hY.o ht IB hal (fun j hj=>by grind) e;have hev:Ev (fun n=>C n (.inl gf) ([.s (.one (.yld (N.h.new .defer).n))]++caps.map fun p=>.s (.one (.ptr p.1 p.2))) ((N.h.new .defer).new (.loop .ready none fk nt (xY r nt) ps assign body N.h.n))) (fun p=>∃N',N'.h=p.2/\Zd E N' os2/\Nx NB N'/\(∀j,lk j=true->sameO (og (os++[.lop nt (zvm nt ρ) ps.toList assign body (fn*1000+i) (.int .i64 (.negSucc 0))]) j) (og os2 j))/\RepPA N' p.1 a):=by grind
  refine Ev.rangeK (k:=fun n e h'=>kk n e r h' (N.h.n::d)) (hev.mono ?_)
  rintro⟨v,h'⟩ ⟨N',hh,I',x',lo',rv⟩
  simp only at hh;subst hh;have hmu':N'.μ os.length=.yld NA.h.n:=by rw[x'.mu _ (by omega),hBm]
  have hAn:NA.h.n=(N.h.new .defer).n:=by rw[hAh]
  have xN:Nx N N':=(xA.trans xB).trans x';have hD':Dk E N0 N' true (N.h.n::d):=by
   refine⟨D.nx.trans xN,List.nodup_cons.2 ⟨fun hm=>?_,D.nd⟩,fun h=>(by cases h),fun b hb=>?_⟩
   .exact absurd (I.hw _ _ (D.ok _ hm).2.1) (Nat.lt_irrefl _)
   rcases Yzv.1 hb with rfl|hb
   .have x2:=xB.trans x';exact⟨x2.fg.sub _ _ hAf hAg,x2.fg.old _ _ hAf hAg,I.gr.le,fun y hy hf=>absurd (I.hw _ _ (D.nx.fg.old _ _ hf hy)) (Nat.lt_irrefl _)⟩
   exact(D.mono xN).ok b hb
  have fin:∀(ex:Zg) (nt':Nat) (ρ':Nat->PA) (ps':List Nat) (A' B':Code) (lb':Nat) (st:DV) (S:LoopState) (pend:Option Zg) (lf:Nat) (lt:Tr Zb) (psA:Array Tmp) (ld:BN),og os2 os.length=.lop nt' ρ' ps' A' B' lb' st->N'.h.t.get NA.h.n=some (.loop S pend lf nt' lt psA A' B' ld)->S≠.busy->pend.getD .normal=ex->K ex ρ (oset .dead os2 os.length)=some x->
    ∃S pend lf ln lt lps la lb ld,N'.h.t.get (N.h.new .defer).n=some (.loop S pend lf ln lt lps la lb ld)/\S≠.busy/\Ev (fun n=>kk n (pend.getD .normal) r (N'.h.put (N.h.new .defer).n (.loop .exhausted pend lf ln lt lps la lb ld)) (N.h.n::d)) Q:=by
   intro ex nt' ρ' ps' A' B' lb' st S pend lf lt psA ld ho hg1 hS hp hK;refine⟨S,pend,lf,nt',lt,psA,A',B',ld,by grind,hS,?_⟩;rw[hp,<-hAn];obtain⟨I3,x3,_⟩:=I'.put (k:=os.length) (by rw[ho];trivial) (b:=NA.h.n) (by rw[hmu'];rfl) (.loop .exhausted pend lf nt' lt psA A' B' ld) .dead trivial;refine H ex ρ _ _ r _ hK I3 (fun i=>((F i).mono xN).mono x3) (xN.trans x3) (fun j hj=>?_) (fun _ _=>rfl) (hD'.mono x3);have hj1:=hlk j hj;have:=lo' j hj;rw[zg4 _ _ j hj1]at this;rw[zw,Yzb (by omega)];exact this
  unfold zx8 at e1;have hRO:=I'.obj os.length;split at e1
  .rename_i nt' ρ' ps' A' B' lb' ho;rw[ho]at hRO;obtain⟨l,S,pend,lf,lt,psA,ld,q1,q2,q3,q4,q5,q6⟩:=hRO;rw[hmu']at q1;cases q1;rcases q5 with⟨h,_⟩|⟨h,_⟩|⟨rfl,e',rfl,hne,hc⟩
   .cases h
   .cases h
   cases e' with
   |normal=>trivial
   |ret=>grind
   |exit id=>cases hc
  .rename_i nt' ρ' ps' A' B' lb' ee ho;rw[ho]at hRO;obtain⟨l,S,pend,lf,lt,psA,ld,q1,q2,q3,q4,q5,q6⟩:=hRO;rw[hmu']at q1;cases q1;rcases q5 with⟨h,_⟩|⟨h,_⟩|⟨rfl,e',rfl,hne,hc⟩
   .cases h
   .cases h
   cases e' with
   |normal=>trivial
   |ret=>cases hc
   |exit id=>
    have:id=ee:=by grind[zvp]
    grind
  .rename_i nt' ρ' ps' A' B' lb' ho;rw[ho]at hRO;obtain⟨l,S,pend,lf,lt,psA,ld,q1,q2,q3,q4,q5,q6⟩:=hRO;rw[hmu']at q1;cases q1;rcases q5 with⟨_,rfl,rfl⟩|⟨h,_⟩|⟨_,e',_,hne,hc⟩
   .grind
   .cases h
   cases e' with
   |normal=>trivial
   |ret=>cases hc
   |exit id=>trivial
  cases e1
 |_=>grind[wI]
end
end Go.PE
end
section
namespace Go.PE
open Go Go.CE
section
variable {fz:BN->Prop} {h h':Za} (H:∀b o,h.t.get b=some o->o≠.defer->h'.t.get b=some o)
include H
theorem Rep.wk{c:Zc}{d:DV}(R:Rep fz h c d):Rep fz h' c d:=by
 induction R with
 |bool b=>exact .bool b
 |int k n=>exact .int k n
 |str s=>exact .str s
 |nils=>exact .nils
 |nilf=>exact .nilf
 |nilp=>exact .nilp
 |nilm=>exact .nilm
 |nili=>exact .nili
 |u c=>exact .u c
 |lst cs hb hg hc ha h1 h2 ih=>exact .lst cs hb (H _ _ hg (by rintro rfl;cases ha)) hc ha h1 ih
 |fp cs hb hg h1 h2 ih=>exact .fp cs hb (H _ _ hg (by rintro rfl;cases h1)) h1 ih
 |fn css os hl h1 h2 ih=>exact .fn css os hl (fun i p x hp hx=>by obtain⟨a,b,c⟩:=h1 i p x hp hx;exact⟨a,H _ _ b (by intro e;rw[e]at c;cases c),c⟩) ih
theorem RepL.wk{cs:List Zc}{ds:List DV}(R:RepL fz h cs ds):RepL fz h' cs ds:=⟨R.1,fun j c d a b=>(R.2 j c d a b).wk H⟩
theorem RepS.wk{c:SVal}{d:DS}(R:RepS fz h c d):RepS fz h' c d:=by cases c<;>cases d<;>simp only[RepS]at R ⊢<;>grind[Rep.wk,RepL.wk]
theorem RepSL.wk:∀{c:List SVal} {d:List DS},RepSL fz h c d->RepSL fz h' c d
 | [],[],_=>trivial
 |_::_,_::_,R=>⟨RepS.wk H R.1,RepSL.wk R.2⟩
 | [],_::_,R=>R.elim
 |_::_,[],R=>R.elim
end
section
variable {N:Nm} {h':Za} (H:∀b o,N.h.t.get b=some o->o≠.defer->h'.t.get b=some o)
include H
theorem RepCaps.wk:∀{ps:List (BN×Nat)} {xs:List (Nat⊕List DV)},RepCaps N ps xs->RepCaps ⟨N.μ,N.n,N.fz,h'⟩ ps xs
 | [],[],_=>trivial
 |_::_,.inl _::_,R=>⟨R.1,RepCaps.wk R.2⟩
 |_::_,.inr _::_,R=>⟨Rep.wk (fz:=N.fz) H R.1,RepCaps.wk R.2⟩
 | [],_::_,R=>R.elim
 |_::_,[],R=>R.elim
theorem RepPC.wk{c:Zc}{p:PC}(R:RepPC N c p):RepPC ⟨N.μ,N.n,N.fz,h'⟩ c p:=by
 cases p with
 |d v=>exact Rep.wk (fz:=N.fz) H R
 |clo f caps=>obtain⟨ps,h1,h2⟩:=R;exact⟨ps,h1,RepCaps.wk H h2⟩
 |_=>exact R
theorem RepPL.wk:∀{cs:List Zc} {ps:List PC},RepPL N cs ps->RepPL ⟨N.μ,N.n,N.fz,h'⟩ cs ps
 | [],[],_=>trivial
 |_::_,_::_,R=>⟨RepPC.wk H R.1,RepPL.wk R.2⟩
 | [],_::_,R=>R.elim
 |_::_,[],R=>R.elim
theorem RepPA.wk{v:Zb}{p:PA}(R:RepPA N v p):RepPA ⟨N.μ,N.n,N.fz,h'⟩ v p:=by
 cases p with
 |bad=>trivial
 |undef=>exact R
 |s p=>obtain⟨w,rfl,h⟩:=R.inv;refine RepPA.of ?_;cases w<;>cases p<;>simp only[RepPV]at h ⊢<;>grind[RepPC.wk,RepPL.wk]
 |tup ds=>
  cases v with
  |s v=>exact R
  |tup l=>exact RepSL.wk (fz:=N.fz) H R
 |tl p ds=>
  cases v with
  |s v=>exact R
  |tup l=>
   cases l with
   |nil=>exact R
   |cons w l=>refine⟨?_,RepSL.wk (fz:=N.fz) H R.2⟩;have h:=R.1;cases w<;>cases p<;>simp only[RepPV]at h ⊢<;>grind[RepPC.wk,RepPL.wk]
theorem RepO.wk{k:Nat}{o:PO}(R:RepO N k o):RepO ⟨N.μ,N.n,N.fz,h'⟩ k o:=by
 cases o with
 |box cs=>obtain⟨b,vs,h1,h2,h3,h4⟩:=R;exact⟨b,vs,h1,h2,H _ _ h3 (by simp),RepPL.wk H h4⟩
 |arr st v=>
  rcases v with _|xs
  .exact R
  obtain⟨b,vs,ex,h1,h2,h3,h4,h5⟩:=R;exact⟨b,vs,ex,h1,h2,H _ _ h3 (by simp),h4,fun i x hx=>⟨(h5 i x hx).1,RepL.wk (fz:=N.fz) H (h5 i x hx).2⟩⟩
 |frz v=>exact Rep.wk (fz:=N.fz) H R
 |fbox ds=>obtain⟨b,h1,h2⟩:=R;exact⟨b,h1,Rep.wk (fz:=N.fz) H h2⟩
 |mp st xs=>obtain⟨b,es,h1,h2,h3,h4,h5⟩:=R;exact⟨b,es,h1,h2,H _ _ h3 (by simp),h4,fun i e x he hx=>⟨RepS.wk (fz:=N.fz) H (h5 i e x he hx).1,RepS.wk (fz:=N.fz) H (h5 i e x he hx).2⟩⟩
 |hol v n t=>
  rcases v with _|xs
  .exact R
  obtain⟨b,vs,ex,h1,h2,h3,h4,h5,h6,h7,h8⟩:=R;exact⟨b,vs,ex,h1,h2,H _ _ h3 (by simp),h4,h5,h6,h7,fun i x hi hx=>⟨(h8 i x hi hx).1,RepL.wk (fz:=N.fz) H (h8 i x hi hx).2⟩⟩
 |lnk m=>obtain⟨h0,b,n,vs,h1,h2,h3,h4⟩:=R;exact⟨h0,b,n,vs,h1,h2,H _ _ h3 (by simp),h4⟩
 |lop nt ρ ps a b lbl st=>obtain⟨l,S,pend,lf,lt,psA,ld,h1,h2,h3,h4,h5,h6⟩:=R;exact⟨l,S,pend,lf,lt,psA,ld,h1,h2,H _ _ h3 (by simp),h4,h5,fun i=>RepPA.wk H (h6 i)⟩
 |dead=>trivial
end
theorem zdV{E:En}{N0:Nm}{top:Bool}{os:List PO}{r:Fr}{ρ:Nat->PA}:∀{d:List BN} {N:Nm},Dk E N0 N top d->Zd E N os->(∀i,RepPA N (r i) (ρ i))->
  ∃N',shut d N.h=some N'.h/\Zd E N' os/\(∀i,RepPA N' (r i) (ρ i))/\Nx N0 N'
 | [],N,D,I,F=>⟨N,rfl,I,F,D.nx⟩
 |b::d,N,D,I,F=>by
  obtain⟨h1,h2,h3,h4⟩:=D.ok b (Yzk ..);have hne:∀c,c≠b->(N.h.put b .dead).t.get c=N.h.t.get c:=fun c hc=>xn _ _ hc;have H:∀c o,N.h.t.get c=some o->o≠.defer->(N.h.put b .dead).t.get c=some o:=fun c o hg ho=>by grind
  have hex:∀c y,N.h.t.get c=some y->∃y,(N.h.put b .dead).t.get c=some y:=fun c y hg=>by grind[wx]
  have hnx:Nx N0 ⟨N.μ,N.n,N.fz,N.h.put b .dead⟩:=⟨⟨D.nx.fg.sub,fun c o hf hg=>by
   have:=D.nx.fg.old c o hf hg
   grind⟩,D.nx.le,D.nx.mu⟩
  have hnd:=List.nodup_cons.1 D.nd;have D':Dk E N0 ⟨N.μ,N.n,N.fz,N.h.put b .dead⟩ top d:=⟨hnx,hnd.2,fun ht=>(by have:=D.em ht;cases this),fun c hc=>by
   obtain⟨k1,k2,k3,k4⟩:=D.ok c (Yzi _ hc)
   grind⟩
  have I':Zd E ⟨N.μ,N.n,N.fz,N.h.put b .dead⟩ os:=⟨I.hw.put h2,I.gr.put (.inl h3),I.fzlt,I.fzok,fun c hc=>(I.fzex c hc).imp id fun⟨y,hy⟩=>hex c y hy,I.len,I.own,I.inj,fun k=>RepO.wk H (I.obj k),I.lnk⟩;obtain⟨N',g1,g2,g3,g4⟩:=zdV D' I' (fun i=>RepPA.wk H (F i))
  grind[shut]
end Go.PE
end
section
namespace Go.PE
open Go Go.CE
def paOf:DA->PA
 | .s (.one d)=>.s (.one (.d d))
 | .s (.agg l)=>.s (.agg (l.map .d))
 | .tup l=>.tup l
def zjh(args:List DA):Nat->PA:=fun i=>match args[i]? with|some a=>paOf a|none=>.bad
section
variable (P:Program)
def zj1(lk:Nat->Bool)(ρ:Nat->PA)(os:List PO):ResultVar->Option (List PO×DS)
 | .tmp i=>match ρ i with | .s v=>frV lk os v|_=>none
 | .cell i t=>
  match xP P t,ρ i with
  |some n,.s (.one (.ptr k off))=>
   match og os k with
   | .box cs=>
    match n with
    |none=>match cs[off]? with|some c=>frV lk os (.one c)|none=>none
    |some n=>bif Nat.ble (off+n) cs.length then frV lk os (.agg ((cs.drop off).take n)) else none
   |_=>none
  |_,_=>none
def uZ(lk:Nat->Bool)(ρ:Nat->PA):List PO->List ResultVar->Option (List DS×List PO)
 |os,[]=>some ([],os)
 |os,x::l=>
  match zj1 P lk ρ os x with
  |some (os',d)=>match uZ lk ρ os' l with|some (ds,os'')=>some (d::ds,os'')|none=>none
  |none=>none
def ztm:List DS->DA
 | [d]=>.s d
 |l=>.tup l
def ztl(rs:List ResultVar):Zg->(Nat->PA)->List PO->Option DA
 | .exit _,_,_=>none
 | .normal,ρ,os=>match uZ P (fun _=>false) ρ os rs with|some (l,_)=>some (ztm l)|none=>none
 | .ret,ρ,os=>match uZ P (fun _=>false) ρ os rs with|some (l,_)=>some (ztm l)|none=>none
def zvT(lk:Nat->Bool)(ρ:Nat->PA)(os:List PO):List ResultVar->Option (PA×List PO)
 | [.tmp i]=>match ρ i with | .s v=>some (.s v,os)|_=>none
 | [.cell i t]=>
  match xP P t,ρ i with
  |some n,.s (.one (.ptr k off))=>
   match og os k with
   | .box cs=>
    match n with
    |none=>match cs[off]? with|some c=>some (.s (.one c),os)|none=>none
    |some n=>bif Nat.ble (off+n) cs.length then some (.s (.agg ((cs.drop off).take n)),os) else none
   |_=>none
  |_,_=>none
 |rs=>match uZ P lk ρ os rs with|some (l,os')=>some (.tup l,os')|none=>none
def zt5(live:Bool)(lk:Nat->Bool)(ρ:Nat->PA)(os:List PO)(rs:List ResultVar):Option (PA×List PO):=
 bif live then
  match rs with
  |x::y::l=>
   match uZ P lk ρ os (y::l) with
   |some (ds,os1)=>
    match zvT P lk ρ os1 [x] with
    |some (.s p,os2)=>some (.tl p ds,os2)
    |_=>none
   |none=>none
  |_=>none
 else zvT P lk ρ os rs
def zaq(az:List PA):Nat->PA:=fun i=>match az[i]? with|some a=>a|none=>.bad
structure Red where
 r:Nat->List PA->Option (Bool×Nat×List PA)
 s:Nat->Option Srt
def zw0:Red:=⟨fun _ _=>none,zwZ⟩
def zyh:DV->Option Int
 | .int .i64 n=>some n
 |_=>none
def zsD:List DV->Option (List Int)
 | []=>some []
 |d::l=>match zyh d,zsD l with|some n,some ns=>some (n::ns)|_,_=>none
def zlC(st:Nat):List (List DV)->Option (List (List Int))
 | []=>some []
 |x::l=>match zsD x,zlC st l with|some r,some rs=>bif Nat.beq r.length st&&inZ r then some (r::rs) else none|_,_=>none
def enZ(r:List Int):List DV:=r.map (DV.int .i64)
def zx5(st:Nat):OC->Option OC
 |none=>some none
 |some xs=>match zlC st xs with|some l=>bif Nat.ble (l.length+1) 4611686018427387904 then some (some ((zcK l).map enZ)) else none|none=>none
def zti(l:List Nat):PC->Bool
 | .d (.fn f' [])=>l.any (Nat.beq f')
 |_=>false
def zws{β:Type}(t:Srt)(lk:Nat->Bool)(az:List PA)(os:List PO)(K:PA->List PO->Option β):Option β:=
 match az with
 | [.s (.one (.d .nils)),.s (.one c)]=>bif zti t.f c then K (.tup []) os else none
 | [.s (.one (.own k)),.s (.one c)]=>
  bif zti t.f c && !lk k then
   match og os k with
   | .arr st v=>bif Nat.beq st t.st then za (zx5 st v) fun v'=>K (.tup []) (oset (.arr st v') os k) else none
   |_=>none
  else none
 |_=>none
noncomputable def zxq(O:Orc)(tab:Nat->Bool)(Y:Inl)(an:Nat->List PA->Nat->Nat->Option LA)(R:Red)(g:Nat)(lk:Nat->Bool)(az:List PA)(os:List PO){β:Type}(K:PA->List PO->Option β):Option β:=
 match az with
 | .s (.one (.own j))::rest=>
  match og os j with
  | .arr st v=>
   bif lk j then none else
   match frA (fun i=>lk i||Nat.beq i j) os rest with
   |some (os1,ds)=>
    match R.s g with
    |some _=>none
    |none=>
    match P.funcs[g]? with
    |some fn=>
     match fn.body with
     |some c=>
      bif (ze0 P fn.results.toList).isNone||fn.name == "runtime.NumGoroutine" then none else bif Nat.ble az.length fn.ntmps then
       wI P O tab Y fn.ntmps (an (zkM+g) az 1) g true c (fun _=>false) 0 (zaq (pc (.own 0)::ds.map paOf)) [.arr st v] (fun ex ρ os2=>
        match ztl P fn.results.toList ex ρ os2 with
        |some d=>K (paOf d) (oset .dead os1 j)
        |none=>none)
      else none
     |none=>none
    |none=>none
   |none=>none
  |_=>none
 |_=>none
def psP(nt:Nat)(ρ:Nat->PA):List Nat->List PA->Option (Nat->PA)
 | [],[]=>some ρ
 |p::ps,a::az=>bif Nat.ble (Nat.succ p) nt then psP nt (jZ ρ a (some p)) ps az else none
 |_,_=>none
def zsQ:Zg->Int
 | .normal=>.negSucc 0
 | .ret=>.ofNat 0
 | .exit id=>.ofNat (id+1)
def zv9:Zg->Bool
 | .normal=>true
 |_=>false
noncomputable def zxp(O:Orc)(tab:Nat->Bool)(Y:Inl)(an:Nat->List PA->Nat->Nat->Option LA)(k:Nat)(lk:Nat->Bool)(az:List PA)(os:List PO){β:Type}(K:PA->List PO->Option β):Option β:=
 match og os k with
 | .lop nt ρ0 ps A B lbl (.int .i64 (.negSucc 0))=>
  match psP nt ρ0 ps az with
  |some ρ1=>
   wI P O tab Y nt (an (zhT+lbl) [] os.length) 0 false A (fun j=>lk j||Nat.beq j k) 0 ρ1 os (fun e ρ2 os2=>
    bif zv9 e then
     match og os2 k with
     | .lop _ _ _ _ _ _ (.int .i64 (.negSucc 0))=>wI P O tab Y nt (an (zhT+lbl) [] os.length) 0 false B (fun j=>lk j||Nat.beq j k) (jg A) ρ2 (oset (.lop nt ρ0 ps A B lbl (.int .i64 (.negSucc 1))) os2 k) (fun e _ os3=>K (pd (.bool (zv9 e))) (oset (.lop nt ρ0 ps A B lbl (.int .i64 (zsQ e))) os3 k))
     |_=>none
    else none)
  |none=>none
 |_=>none
noncomputable def inl(O:Orc)(tab:Nat->Bool)(an:Nat->List PA->Nat->Nat->Option LA)(R:Red):Nat->Inl
 |0=>fun _ _ _ _ _ _=>none
 |k+1=>fun g lk az os β K=>
  bif Nat.ble zhT g then zxp P O tab (inl O tab an R k) an (Nat.sub g zhT) lk az os K else
  bif Nat.ble zkM g then zxq P O tab (inl O tab an R k) an R (Nat.sub g zkM) lk az os K else
  match R.s g with
  |some t=>zws t lk az os K
  |none=>
  match R.r g az with
  |some (b,g',as')=>bif b then inl O tab an R k g' lk as' os β (fun _ os'=>K (.tup []) os') else none
  |none=>
  match P.funcs[g]? with
  |some fn=>
   match fn.body with
   |some c=>
    bif (ze0 P fn.results.toList).isNone||fn.name == "runtime.NumGoroutine" then none else bif Nat.ble az.length fn.ntmps then
     wI P O tab (inl O tab an R k) fn.ntmps (an g az os.length) g true c lk 0 (zaq az) os (fun ex ρ os'=>
      match ex with
      | .exit _=>none
      |_=>match zt5 P (an g [] 0 999).isSome lk ρ os' fn.results.toList with|some (a,os'')=>K a os''|none=>none)
    else none
   |none=>none
  |none=>none
noncomputable def zte(O:Orc)(tab:Nat->Bool)(Y:Inl)(an:Nat->Option LA)(g:Nat)(args:List DA):Option DA:=
 match P.funcs[g]? with
 |some fn=>
  match fn.body with
  |some c=>bif (ze0 P fn.results.toList).isNone||fn.name == "runtime.NumGoroutine" then none else bif Nat.ble args.length fn.ntmps then wI P O tab Y fn.ntmps an g true c (fun _=>false) 0 (zjh args) [] (ztl P fn.results.toList) else none
  |none=>none
 |none=>none
end
section
variable {P:Program} {E:En}
theorem RepPA.paOf{N:Nm}{v:Zb}{d:DA}(H:RepA N.fz N.h v d):RepPA N v (PE.paOf d):=by
 cases d with
 |s d=>
  obtain⟨w,rfl,hw⟩:=H.inv;cases d with
  |one d=>
   cases w with
   |one c=>trivial
   |agg l=>trivial
  |agg ds=>
   cases w with
   |one c=>trivial
   |agg l=>exact RepPA.of (v:=.agg l) (p:=.agg _) (RepPL.ofD hw)
 |tup l=>
  cases v with
  |s v=>trivial
  |tup vs=>exact H
theorem RepAL.get{fz:BN->Prop}{h:Za}:∀{vs:List Zb} {ds:List DA},RepAL fz h vs ds->vs.length=ds.length/\∀(i:Nat) (v:Zb) (d:DA),vs[i]? = some v->ds[i]? = some d->RepA fz h v d
 | [],[],_=>⟨rfl,fun i v d e=>by simp at e⟩
 |v::vs,d::ds,H=>by
  obtain⟨a,b⟩:=RepAL.get H.2;refine⟨by simp[a],fun i v' d' hv hd=>?_⟩;cases i with
  |zero=>simp only[Yzf,Option.some.injEq]at hv hd;subst hv;subst hd;exact H.1
  |succ i=>exact b i v' d' (by simpa using hv) (by simpa using hd)
 | [],_::_,H=>H.elim
 |_::_,[],H=>H.elim
theorem zds(args:List Zb)(i:Nat):xC (wj .z .nil args) i=(args[i]?).getD zP:=by
 have h:=zap args 0 .nil i;have hn:(Tr.nil:Tr Zb).get (bn i)=none:=by simp
 rw[Yzb (by omega),hn,Nat.sub_zero,Option.or_none]at h;show zaF (bn i) (wj .z .nil args)=_;unfold zaF;rw[show (wj .z .nil args).get (bn i)=args[i]? from h]
 grind
theorem zes:∀(l:List Zb) (n:Nat),l.length<=n->zpm l n=true
 | [],_,_=>rfl
 |_::l,0,h=>by simp at h
 |_::l,n+1,h=>by show (bif Nat.beq (n+1) 0 then false else zpm l n)=true;rw[zes l n (by grind)];rfl
theorem zri{lk:Nat->Bool}{os os':List PO}{N:Nm}{r:Fr}{ρ:Nat->PA}{x:ResultVar}{d:DS}(I:Zd E N os)(F:∀i,RepPA N (r i) (ρ i))(e:zj1 P lk ρ os x=some (os',d)):
  ∃N' sv,Fz N N'/\Stp E lk N os [] N' os'/\zaa P r N.h x=some sv/\RepS N'.fz N'.h sv d:=by
 cases x with
 |tmp i=>
  simp only[zj1]at e;split at e
  .rename_i p hp;have:=F i;rw[hp]at this;obtain⟨w,hw,hv⟩:=this.inv
   grind[zfR,zaa,zvR]
  cases e
 |cell i t=>
  simp only[zj1]at e;split at e
  .rename_i n k off hn hp;have:=F i;rw[hp]at this;obtain⟨w,hw,hk,b,hb,rfl⟩:=zQ this;split at e
   .rename_i cs ho;obtain⟨b',vs,h1,h2,h3,h4⟩:=uR I ho;rw[hb]at h1;cases h1;have hl:=h4.len;have run:zaa P r N.h (.cell i t)=uE n off (some (.cells vs 0)):=by
     grind[zaa,zvS]
    rcases n with _|n
    .simp only at e;rcases hc:cs[off]? with _|c
     .grind
     rw[hc]at e;have hi:=(Lz0.1 hc).1;obtain⟨v,hv⟩:∃v,vs[off]? = some v:=⟨_,Lz5 (by omega)⟩;obtain⟨N',f,S,R⟩:=zfR (v:=.one v) (p:=.one c) I (h4.get hv hc) e
     grind[uE,xi]
    simp only at e;cases hle:Nat.ble (off+n) cs.length
    .grind
    rw[hle]at e;have hle:=Lz4 hle;obtain⟨N',f,S,R⟩:=zfR (v:=.agg ((vs.drop off).take n)) (p:=.agg ((cs.drop off).take n)) I ((h4.drop off).take n) e
    grind[uE,zcp]
   cases e
  cases e
theorem uD{lk:Nat->Bool}{r:Fr}{ρ:Nat->PA}:∀{l:List ResultVar} {os os':List PO} {N:Nm} {ds:List DS},Zd E N os->(∀i,RepPA N (r i) (ρ i))->uZ P lk ρ os l=some (ds,os')->
  ∃N' svs,Fz N N'/\Zd E N' os'/\Nx N N'/\(∀j,lk j=true->og os' j=og os j)/\jX P r N.h l=some svs/\RepSL N'.fz N'.h svs ds
 | [],os,os',N,ds,I,F,e=>by cases e;exact⟨N,[],.refl N,I,.refl N,fun _ _=>rfl,rfl,trivial⟩
 |x::l,os,os',N,ds,I,F,e=>by
  simp only[uZ]at e;rcases h1:zj1 P lk ρ os x with _|q
  .grind
  obtain⟨os1,d⟩:=q;rw[h1]at e;simp only at e;rcases h2:uZ P lk ρ os1 l with _|q2
  .grind
  obtain⟨ds2,os2⟩:=q2;rw[h2]at e;cases e;obtain⟨N1,sv,f1,S1,k1,R1⟩:=zri I F h1;obtain⟨N2,svs,f2,i2,x2,l2,k2,R2⟩:=uD S1.inv (fun i=>(F i).mono S1.nx) h2;refine⟨N2,sv::svs,f1.trans f2,i2,S1.nx.trans x2,fun j hj=>(l2 j hj).trans (S1.lock j hj),?_,R1.mono x2.fg,R2⟩;rw[f1.h]at k2
  grind[jX,zkF,x6]
theorem zja{h:Za}{fz:BN->Prop}{h':Za}{svs:List SVal}{ds:List DS}(H:RepSL fz h' svs ds):∃v,zeL h (some svs)=some (v,h)/\RepA fz h' v (ztm ds):=by
 match svs,ds,H with
 | [],[],_=>exact⟨.tup [],rfl,trivial⟩
 | [v],[d],H=>exact⟨.s v,rfl,H.1⟩
 |v::w::vs,d::e::ds,H=>exact⟨.tup (v::w::vs),rfl,H⟩
theorem zm7{h:Za}{fz:BN->Prop}{h':Za}{svs:List SVal}{ds:List DS}(H:RepSL fz h' svs ds)(hl:ds.length≠1):zeL h (some svs)=some (.tup svs,h):=by
 match svs,ds,H with
 | [],[],_=>rfl
 | [v],[d],_=>trivial
 |v::w::vs,d::e::ds,H=>rfl
theorem zbz{lk:Nat->Bool}{ρ:Nat->PA}:∀{l:List ResultVar} {os os':List PO} {ds:List DS},uZ P lk ρ os l=some (ds,os')->ds.length=l.length
 | [],_,_,_,e=>by cases e;rfl
 |x::l,os,os',ds,e=>by
  simp only[uZ]at e;rcases h1:zj1 P lk ρ os x with _|q
  .grind
  obtain⟨os1,d⟩:=q;rw[h1]at e;simp only at e;rcases h2:uZ P lk ρ os1 l with _|q2
  .grind
  obtain⟨ds2,os2⟩:=q2;rw[h2]at e;cases e;simp[zbz h2]
theorem zlF{lk:Nat->Bool}{os os':List PO}{N:Nm}{r:Fr}{ρ:Nat->PA}{l:List ResultVar}{a:PA}(I:Zd E N os)(F:∀i,RepPA N (r i) (ρ i))(e:zvT P lk ρ os l=some (a,os')):
  ∃N' svs v,N'.h=N.h/\Zd E N' os'/\Nx N N'/\(∀j,lk j=true->og os' j=og os j)/\jX P r N.h l=some svs/\zeL N.h (some svs)=some (v,N.h)/\RepPA N' v a:=by
 unfold zvT at e;split at e
 .rename_i i;split at e
  .rename_i v hp;cases e;have:=F i;rw[hp]at this;obtain⟨w,hw,hv⟩:=this.inv;exact⟨N,[w],.s w,rfl,I,.refl N,fun _ _=>rfl,by grind[jX,zaa,zvR,zkF,x6],rfl,RepPA.of hv⟩
  cases e
 .rename_i i t;split at e
  .rename_i n k off hn hp;have:=F i;rw[hp]at this;obtain⟨w,hw,hk,b,hb,rfl⟩:=zQ this;split at e
   .rename_i cs ho;obtain⟨b',vs,h1,h2,h3,h4⟩:=uR I ho;rw[hb]at h1;cases h1;have hl:=h4.len;have run:zaa P r N.h (.cell i t)=uE n off (some (.cells vs 0)):=by
     grind[zaa,zvS]
    rcases n with _|n
    .simp only at e;rcases hc:cs[off]? with _|c
     .grind
     rw[hc]at e;cases e;have hi:=(Lz0.1 hc).1;obtain⟨v,hv⟩:∃v,vs[off]? = some v:=⟨_,Lz5 (by omega)⟩;refine⟨N,[.one v],.s (.one v),rfl,I,.refl N,fun _ _=>rfl,?_,rfl,RepPA.of (v:=.one v) (p:=.one c) (h4.get hv hc)⟩
     grind[jX,uE,xi,zkF,x6]
    simp only at e;cases hle:Nat.ble (off+n) cs.length
    .grind
    rw[hle]at e;cases e;have hle:=Lz4 hle;refine⟨N,[.agg ((vs.drop off).take n)],.s (.agg ((vs.drop off).take n)),rfl,I,.refl N,fun _ _=>rfl,?_,rfl,RepPA.of (v:=.agg ((vs.drop off).take n)) (p:=.agg ((cs.drop off).take n)) ((h4.drop off).take n)⟩
    grind[jX,uE,zcp,zkF,x6]
   cases e
  cases e
 rename_i h1 h2;rcases h3:uZ P lk ρ os l with _|q
 .grind
 obtain⟨ds,os2⟩:=q;rw[h3]at e;cases e;obtain⟨N',svs,f,i,x,lo,k,R⟩:=uD I F h3;have hne:ds.length≠1:=by
  rw[zbz h3];intro hl
  match l,hl with
  | [.tmp i],_=>grind
  | [.cell i t],_=>grind
 exact⟨N',svs,.tup svs,f.h,i,x,lo,k,zm7 R hne,R⟩
theorem zlE{live:Bool}{lk:Nat->Bool}{os os':List PO}{N:Nm}{r:Fr}{ρ:Nat->PA}{l:List ResultVar}{a:PA}(I:Zd E N os)(F:∀i,RepPA N (r i) (ρ i))(e:zt5 P live lk ρ os l=some (a,os')):
  ∃N' svs v,N'.h=N.h/\Zd E N' os'/\Nx N N'/\(∀j,lk j=true->og os' j=og os j)/\jX P r N.h l=some svs/\zeL N.h (some svs)=some (v,N.h)/\RepPA N' v a:=by
 cases live
 .exact zlF I F e
 simp only[zt5,Yza]at e;split at e
 .rename_i x y l;rcases h1:uZ P lk ρ os (y::l) with _|q
  .grind
  obtain⟨ds,os1⟩:=q;rw[h1]at e;simp only at e;obtain⟨N1,svs,f1,i1,x1,l1,k1,R1⟩:=uD I F h1;split at e
  .rename_i p os2 h2;cases e;obtain⟨N2,ws,v,g1,g2,g3,g4,g5,g6,g7⟩:=zlF (P:=P) i1 (fun i=>(F i).mono x1) h2;rw[f1.h]at g5;obtain⟨w,rfl,hw⟩:=g7.inv
   match ws,svs,R1,k1,g5,g6 with
   | [],_,_,_,g5,g6=>cases g6
   |_::_::_,_,_,_,g5,g6=>cases g6
   | [u],sv::svs,R1,k1,g5,g6=>
    cases g6;refine⟨N2,w::sv::svs,.tup (w::sv::svs),g1.trans f1.h,g2,x1.trans g3,fun j hj=>(g4 j hj).trans (l1 j hj),?_,rfl,hw,RepSL.mono g3.fg R1⟩;have hx:zaa P r N.h x=some w:=by
     simp only[jX]at g5;rcases hk:zaa P r N.h x with _|u
     .rw[hk]at g5;cases g5
     rw[hk]at g5;cases g5;rfl
    show zkF (zaa P r N.h x) (jX P r N.h (y::l))=_;rw[hx,k1];rfl
   | [_],[],R1,_,_,_=>
    have:=zbz h1;cases ds with
    |nil=>cases this
    |cons _ _=>trivial
  cases e
 cases e
theorem zi1{_fn:Func}{vs:List Zb}{az:List PA}{N:Nm}(H:RepPAL N vs az):(∀i,RepPA N (xC (wj .z .nil vs) i) (zaq az i))/\vs.length=az.length:=by
 have key:∀{vs:List Zb} {az:List PA},RepPAL N vs az->vs.length=az.length/\∀(i:Nat) (v:Zb) (d:PA),vs[i]? = some v->az[i]? = some d->RepPA N v d:=by
  intro vs
  induction vs with
  |nil=>intro az H;cases az with|nil=>simp|cons _ _=>trivial
  |cons v vs ih=>
   intro az H;cases az with
   |nil=>trivial
   |cons d ds=>
    obtain⟨a,b⟩:=ih H.2;refine⟨by simp[a],fun i v' d' hv hd=>?_⟩;cases i with
    |zero=>simp only[Yzf,Option.some.injEq]at hv hd;subst hv;subst hd;exact H.1
    |succ i=>grind
 obtain⟨hl,hg⟩:=key H;refine⟨fun i=>?_,hl⟩;rw[zds];unfold zaq;cases ha:az[i]?
 case some=>grind
 trivial
theorem jr{g:Nat}{vs:List Zb}{h:Za}:∀{sums:List Sum},(∀s∈sums,Nat.beq g s.g=false)->xS g vs h sums=none
 | [],_=>rfl
 |s::l,hs=>by simp only[xS];rw[hs s (Yzk ..),Bool.false_and,Yzc];exact jr fun s' h'=>hs s' (Yzi _ h')
def zs1(tab:Nat->Bool)(R:Red)(C:Nat->zc):Prop:=
 ∀{N:Nm} {g g':Nat} {az as':List PA} {vs:List Zb},R.r g az=some (true,g',as')->RepPAL N vs az->tab g'=true/\∃vs',RepPAL N vs' as'/\∀Q,Ev (fun n=>C n (.inl g') vs' N.h) Q->Ev (fun n=>C n (.inl g) vs N.h) (fun p=>p.1=.tup []/\∃v,Q (v,p.2))
theorem zp5:∀{l:List DV} {r:List Int},zsD l=some r->l=enZ r
 | [],r,e=>by cases e;rfl
 |d::l,r,e=>by
  unfold zsD at e;split at e
  .rename_i n ns hd hl;cases e;have h1:d=.int .i64 n:=by
    unfold zyh at hd
    grind
   rw[h1,zp5 hl];rfl
  cases e
theorem zij{st:Nat}:∀{xs:List (List DV)} {l:List (List Int)},zlC st xs=some l->xs=l.map enZ/\∀r∈l,zvE st r
 | [],l,e=>by cases e<;>grind
 |x::xs,l,e=>by
  unfold zlC at e;split at e
  .rename_i r rs hx hl;cases hq:(Nat.beq r.length st&&inZ r)
   .grind
   rw[hq,Yza]at e;cases e;rw[LzC]at hq;obtain⟨h1,h2⟩:=zij hl;refine⟨by grind[zp5],fun y hy=>?_⟩;rcases Yzv.1 hy with rfl|hy
   .exact⟨Lz1 hq.1,hq.2⟩
   grind
  cases e
theorem zil{fz:BN->Prop}{h:Za}:∀{cs:List Zc} {r:List Int},RepL fz h cs (enZ r)->cs=r.map (Zc.int .i64)
 | [],[],_=>rfl
 |c::cs,n::r,H=>by
  obtain⟨h1,h2⟩:=RepL.inv H;have:c=.int .i64 n:=by cases h1;rfl
  rw[this,zil h2];rfl
 | [],_::_,H=>by have:=H.1;trivial
 |_::_,[],H=>by have:=H.1;trivial
theorem ziK(fz:BN->Prop)(h:Za):∀r:List Int,RepL fz h (r.map (Zc.int .i64)) (enZ r)
 | []=>RepL.nil _ _
 |_::r=>RepL.cons (.int _ _) (ziK fz h r)
theorem zcv(r:List Int)(l:List (List Int)):vI (r::l)=r.map (Zc.int .i64)++vI l:=by grind[vI]
theorem zjq{fz:BN->Prop}{h:Za}{st:Nat}:∀(l:List (List Int)) (vs:List Zc),vs.length=l.length*st->(∀(i:Nat) (r:List Int),l[i]? = some r->r.length=st/\RepL fz h ((vs.drop (i*st)).take st) (enZ r))->vs=vI l
 | [],vs,hl,_=>by simp at hl;trivial
 |r::l,vs,hl,H=>by
  obtain⟨h1,h2⟩:=H 0 r rfl;rw[Nat.zero_mul,List.drop_zero]at h2;have e1:=zil h2;have e2:=zjq (fz:=fz) (h:=h) (st:=st) l (vs.drop st) (by grind[Yyd]) fun i x hx=>by
   obtain⟨q1,q2⟩:=H (i+1) x (by trivial)
   grind[YzE]
  grind[zcv,List.take_append_drop]
theorem ziH{st:Nat}:∀(l:List (List Int)),(∀r∈l,r.length=st)->(vI l).length=l.length*st/\∀(i:Nat) (r:List Int),l[i]? = some r->((vI l).drop (i*st)).take st=r.map (Zc.int .i64)
 | [],_=>⟨by simp[vI],fun i r h=>by simp at h⟩
 |x::l,H=>by have hx:=H x (Yzk ..);obtain⟨h1,h2⟩:=ziH l fun r hr=>H r (Yzi _ hr);rw[zcv];refine⟨by grind,fun i r hr=>?_⟩;cases i<;>simp_all[Yyd,List.drop_append,List.drop_eq_nil_of_le]
theorem zlj(l:List (List Int)):(zcK l).length=l.length:=(List.mergeSort_perm l _).length_eq
theorem zfg{st:Nat}{l:List (List Int)}(h:∀r∈l,r.length=st):∀r∈zcK l,r.length=st:=fun r hr=>h r ((List.mergeSort_perm l _).mem_iff.1 hr)
theorem zq1{sums:List Sum}{srt:Nat->Option Srt}{g:Nat}{t:Srt}(hT:srt g=some t){β:Type}{E:En}{lk:Nat->Bool}{N:Nm}{os:List PO}{az:List PA}{vs:List Zb}{K:PA->List PO->Option β}{x:β}(I:Zd E N os)(RR:RepPAL N vs az)(_hlk:∀j,lk j=true->j<os.length)
  (e:zws t lk az os K=some x):∃a os',K a os'=some x/\Ev (fun n=>zJ (zH P) (cFs (yL P)) sums srt n (.inl g) vs N.h) (fun p=>∃N',N'.h=p.2/\Zd E N' os'/\Nx N N'/\(∀j,lk j=true->og os' j=og os j)/\RepPA N' p.1 a):=by
 have fnc:∀{v:Zb} {c:PC},RepPA N v (.s (.one c))->zti t.f c=true->∃f∈t.f,v=.s (.one (.fn f [])):=fun {v c} hv hf=>by
  obtain⟨w,rfl,hw⟩:=hv.inv;unfold zti at hf;split at hf
  .rename_i f';rw[List.any_eq_true]at hf;obtain⟨f,hf,hq⟩:=hf;have hq:=Lz1 hq;subst hq;refine⟨_,hf,?_⟩;cases w with
   |agg l=>trivial
   |one y=>have hw:Rep N.fz N.h y (.fn f' []):=hw;cases hw<;>grind
  cases hf
 have two:∀{a b:PA},RepPAL N vs [a,b]->∃v w,vs=[v,w]/\RepPA N v a/\RepPA N w b:=fun {a b} H=>by
  match vs,H with
  | [v,w],H=>exact⟨v,w,rfl,H.1,H.2.1⟩
  | [],H=>trivial
  | [_],H=>exact H.2.elim
  |_::_::_::_,H=>exact H.2.2.elim
 unfold zws at e;split at e
 .rename_i c;obtain⟨v,w,rfl,hv,hw⟩:=two RR;cases hf:zti t.f c
  .grind
  rw[hf,Yza]at e;obtain⟨f,hff,rfl⟩:=fnc hw hf;obtain⟨y,rfl,hy⟩:=hv.inv;have:y=.one .nils:=by
   cases y with
   |agg l=>trivial
   |one y=>have hy:Rep N.fz N.h y .nils:=hy;cases hy;rfl
  subst this;refine⟨.tup [],os,e,(Ev.sort hT (zcV hff N.h)).mono ?_⟩
  rintro _ rfl
  exact⟨N,rfl,I,.refl N,fun _ _=>rfl,trivial⟩
 .rename_i k c;obtain⟨v,w,rfl,hv,hw⟩:=two RR;cases hf:(zti t.f c && !lk k)
  .grind
  rw[hf,Yza]at e;rw[LzC]at hf;obtain⟨hf,hlkk⟩:=hf;obtain⟨f,hff,rfl⟩:=fnc hw hf;obtain⟨y,rfl,hy⟩:=hv.inv;have hyk:k<N.n/\y=.one (N.μ k):=by
   cases y with
   |agg l=>trivial
   |one y=>have hy:k<N.n/\y=N.μ k:=hy;grind
  obtain⟨hk,rfl⟩:=hyk;split at e
  .rename_i st o ho;cases hq:Nat.beq st t.st
   .grind
   rw[hq,Yza]at e;have hq:=Lz1 hq;subst hq;have hobj:=I.obj k;rw[ho]at hobj;have hlk':∀o' j,lk j=true->og (oset o' os k) j=og os j:=fun o' j hj=>by
    rw[zw,Yzb]
    grind
   rcases o with _|xs
   .have hobj:N.μ k=.nils:=hobj;have e:K (.tup []) (oset (.arr t.st none) os k)=some x:=e;rw[<-ho,zbK]at e;rw[hobj];refine⟨.tup [],os,e,(Ev.sort hT (zcV hff N.h)).mono ?_⟩
    rintro _ rfl
    exact⟨N,rfl,I,.refl N,fun _ _=>rfl,trivial⟩
   obtain⟨b,ws,ex,h1,h2,h3,h4,h5⟩:=hobj;unfold zx5 at e;simp only at e;rcases hr:zlC t.st xs with _|l
   .rw[hr]at e;cases e
   rw[hr]at e;simp only at e;cases hb:Nat.ble (l.length+1) 4611686018427387904
   .rw[hb]at e;cases e
   rw[hb,Yza]at e;have hb:=Lz4 hb;have e:K (.tup []) (oset (.arr t.st (some ((zcK l).map enZ))) os k)=some x:=e;obtain⟨rfl,hrow⟩:=zij hr;have hcs:ws=vI l:=zjq (fz:=N.fz) (h:=N.h) (st:=t.st) l ws (by grind) fun i r hi=>by grind[enZ]
   subst hcs;have ans:=zjS (t:=t) hff (b:=b) (cap:=bif ex then(l.map enZ).length else 0) (ex:=ex) (h:=N.h) (l:=l) (len:=(l.map enZ).length) (by rw[Yzh]) hrow h3 (by grind);have hrw:∀r∈l,r.length=t.st:=fun r hr=>(hrow r hr).1;obtain⟨k1,k2⟩:=ziH (zcK l) (zfg hrw);have hlive:solid (og os k):=by rw[ho];trivial
   obtain⟨i1,i2,_⟩:=I.put hlive (b:=b) (by rw[h1];rfl) (.cells (vI (zcK l)) t.st) (.arr t.st (some ((zcK l).map enZ))) ⟨b,vI (zcK l),ex,by
    grind[zlj],h2,wx _ _ _,by grind,fun i z hz=>by
     rw[Lz6,Yz7]at hz;obtain⟨r,hr,rfl⟩:=hz;refine⟨by unfold enZ;rw[Yzh];exact zfg hrw r (Lz3 hr),?_⟩
     grind[ziK]⟩
   rw[h1];refine⟨.tup [],_,e,(Ev.sort hT ans).mono ?_⟩
   rintro _ rfl
   exact⟨_,rfl,i1,i2,hlk' _,trivial⟩
  cases e
 cases e
theorem RepPAL.ofA{N:Nm}:∀{vs:List Zb} {ds:List DA},RepAL N.fz N.h vs ds->RepPAL N vs (ds.map PE.paOf)
 | [],[],_=>trivial
 |_::_,_::_,H=>⟨RepPA.paOf H.1,RepPAL.ofA H.2⟩
 | [],_::_,H=>H.elim
 |_::_,[],H=>H.elim
theorem Dk.nil{E:En}{N0:Nm}{top:Bool}:Dk E N0 N0 top []:=⟨.refl _,List.nodup_nil,fun _=>rfl,fun b hb=>by cases hb⟩
theorem zqg{N:Nm}{nt:Nat}:∀{ps:List Nat} {az:List PA} {vs:List Zb} {ρ ρ':Nat->PA} {t:Tr Zb},(∀i,RepPA N (xC t i) (ρ i))->RepPAL N vs az->psP nt ρ ps az=some ρ'->∃t',zgQ nt t ps vs=some t'/\∀i,RepPA N (xC t' i) (ρ' i)
 | [],[],[],ρ,ρ',t,F,_,e=>by cases e;exact⟨t,rfl,F⟩
 |p::ps,a::az,v::vs,ρ,ρ',t,F,RR,e=>by
  simp only[psP]at e;simp only[zgQ];cases hb:Nat.ble (Nat.succ p) nt
  .grind
  rw[hb,Yza]at e;rw[Yza];refine zqg (fun i=>?_) RR.2 e;have:=jI F RR.1 (some p) i;rw[<-wi]at this;exact this
 | [],[],_::_,_,_,_,_,RR,_=>RR.elim
 |_::_,_::_,[],_,_,_,_,RR,_=>RR.elim
 | [],_::_,_,_,_,_,_,_,e=>by cases e
 |_::_,[],_,_,_,_,_,_,e=>by cases e
theorem zsq{sums:List Sum}{O:Orc}{tab:Nat->Bool}{Y:Inl}{an:Nat->List PA->Nat->Nat->Option LA}{srt:Nat->Option Srt}(hO:uW O (fun n=>zJ (zH P) (cFs (yL P)) sums srt n))(hY:Zp tab Y (fun n=>zJ (zH P) (cFs (yL P)) sums srt n))
  {β:Type} {E:En} {lk:Nat->Bool} {N:Nm} {os:List PO} {k nt lbl:Nat} {ρ:Nat->PA} {ps:List Nat} {A B:Code} {st:DV} {l:BN} {az:List PA} {vs:List Zb} {K:PA->List PO->Option β} {x:β} (ho:og os k=.lop nt ρ ps A B lbl st) (hl:N.μ k=.yld l) (I:Zd E N os) (RR:RepPAL N vs az) (hlk:∀j,lk j=true->j<os.length) (e:zxp P O tab Y an k lk az os K=some x):
  ∃a os',K a os'=some x/\Ev (fun n=>zJ (zH P) (cFs (yL P)) sums srt n (.inr l) vs N.h) (fun p=>∃N',N'.h=p.2/\Zd E N' os'/\Nx N N'/\(∀j,lk j=true->sameO (og os j) (og os' j))/\RepPA N' p.1 a):=by
 unfold zxp at e;rw[ho]at e;split at e
 .rename_i nt0 ρ0 ps0 A0 B0 lbl0 heq;cases heq;rcases hps:psP nt ρ ps az with _|ρ1
  .grind
  rw[hps]at e;simp only at e;have hk:k<os.length:=wF (by grind);have hR:=I.obj k;rw[ho]at hR;obtain⟨l',S,pend,lf,lt,psA,ld,q1,q2,q3,q4,q5,q6⟩:=hR;rw[hl]at q1;cases q1;have hS:S=.ready/\pend=none:=by
   rcases q5 with⟨_,h1,h2⟩|⟨h,_⟩|⟨_,e',_,hne,hc⟩
   .trivial
   .cases h
   cases e' with
   |normal=>trivial
   |ret=>cases hc
   |exit id=>trivial
  obtain⟨rfl,rfl⟩:=hS;obtain⟨t,ht,Ft⟩:=zqg (N:=N) (fun i=>q6 i) RR hps;have run:(fun n=>zdp P (zJ (zH P) (cFs (yL P)) sums srt n) n l vs N.h)=fun n=>yG P nt (zJ (zH P) (cFs (yL P)) sums srt n) n lf false A (xC t) N.h [] (fun e r1 h1 d1=>
    match e,d1 with
    | .normal,[]=>
     match zcC l h1 with
     |some h2=>yG P nt (zJ (zH P) (cFs (yL P)) sums srt n) n lf false B r1 h2 [] (fun e _ h3 d2=>
       match d2 with
       | []=>Go.CE.endR l e h3
       |_=>none)
     |none=>none
    |_,_=>none):=by
   funext n
   unfold zdp;rw[q3];simp only;rw[q4,ht];rfl
  have hlk':∀j,(lk j||Nat.beq j k)=true->j<os.length:=fun j hj=>by
   rcases Bool.or_eq_true_iff.1 hj with h|h
   .grind
   simp_all
  have hkk:(lk k||Nat.beq k k)=true:=by simp
  have ev:Ev (fun n=>zdp P (zJ (zH P) (cFs (yL P)) sums srt n) n l vs N.h) (fun p=>∃a os',K a os'=some x/\∃N',N'.h=p.2/\Zd E N' os'/\Nx N N'/\(∀j,lk j=true->sameO (og os j) (og os' j))/\RepPA N' p.1 a):=by
   rw[run];refine qn (E:=E) (N0:=N) (fk:=lf) hO hY A _ 0 ρ1 os N (xC t) [] _ (fun n e r1 h1 d1=>
    match e,d1 with
    | .normal,[]=>
     match zcC l h1 with
     |some h2=>yG P nt (zJ (zH P) (cFs (yL P)) sums srt n) n lf false B r1 h2 [] (fun e _ h3 d2=>
       match d2 with
       | []=>Go.CE.endR l e h3
       |_=>none)
     |none=>none
    |_,_=>none) e I Ft hlk' Dk.nil fun e1 ρ2 os2 N2 r2 d2 h1 h2 h3 h4 h5 _ hD=>?_
   cases e1 with
   |exit id=>cases h1
   |ret=>cases h1
   |normal=>
   simp only[zv9,Yza]at h1;obtain rfl:=hD.em rfl;split at h1
   .rename_i nt2 ρ02 ps2 A2 B2 lbl2 ho2;have hs2:=h5 k hkk;rw[ho,ho2]at hs2;have heq:og os2 k=.lop nt ρ ps A B lbl (.int .i64 (.negSucc 0)):=by
     rcases hs2 with h|⟨_,_,_,_,_,_,n,h,h'⟩<;>grind
    have hR2:=h2.obj k;rw[heq]at hR2;obtain⟨l2,S2,pend2,lf2,lt2,psA2,ld2,w1,w2,w3,w4,w5,w6⟩:=hR2;have hmu2:N2.μ k=.yld l:=by rw[h4.mu k (by rw[I.len];exact hk),hl]
    rw[hmu2]at w1;cases w1;have hS2:S2=.ready/\pend2=none:=by
     rcases w5 with⟨_,h1,h2⟩|⟨h,_⟩|⟨_,e',_,hne,hc⟩
     .trivial
     .cases h
     cases e' with
     |normal=>trivial
     |ret=>cases hc
     |exit id=>trivial
    obtain⟨rfl,rfl⟩:=hS2;have hbeg:zcC l N2.h=some (N2.h.put l (.loop .busy none lf2 nt lt2 psA2 A B ld2)):=by grind[zcC]
    simp only[hbeg];have hnx0:Nx N2 ⟨N2.μ,N2.n,N2.fz,N2.h.put l (.loop .busy none lf2 nt lt2 psA2 A B ld2)⟩:=⟨⟨fun _ _ h _=>h,fun b o hf hg=>by grind[xn]⟩,LzB _,fun _ _=>rfl⟩
    obtain⟨I3,x3,_⟩:=h2.put (k:=k) (by rw[heq];trivial) (b:=l) (by rw[hmu2];rfl) (.loop .busy none lf2 nt lt2 psA2 A B ld2) (.lop nt ρ ps A B lbl (.int .i64 (.negSucc 1)))
     ⟨l,.busy,none,lf2,lt2,psA2,ld2,hmu2,w2,wx _ _ _,w4,.inr (.inl ⟨rfl,rfl,rfl⟩),fun i=>(w6 i).mono hnx0⟩
    have hlen2:os2.length=N2.n:=h2.len.symm;have hk2:k<os2.length:=wF (by grind);refine qn (E:=E) (N0:=⟨N2.μ,N2.n,N2.fz,N2.h.put l (.loop .busy none lf2 nt lt2 psA2 A B ld2)⟩) (fk:=lf) hO hY B _ (jg A) ρ2 _ ⟨N2.μ,N2.n,N2.fz,N2.h.put l (.loop .busy none lf2 nt lt2 psA2 A B ld2)⟩ r2 [] _ (fun n e _ h3 d2=>
       match d2 with
       | []=>Go.CE.endR l e h3
       |_=>none) h1 I3 (fun i=>(h3 i).mono x3) (fun j hj=>by
      have h6:=hlk' j hj;have h7:=h4.le;rw[zX,hlen2];rw[I.len]at h7;omega) Dk.nil fun e4 ρ4 os4 N4 r4 d4 k1 k2 k3 k4 k5 _ kD=>?_
    obtain rfl:=kD.em rfl;have hs4:=k5 k hkk;rw[zw,Yzd ⟨rfl,hk2⟩]at hs4;have heq4:og os4 k=.lop nt ρ ps A B lbl (.int .i64 (.negSucc 1)):=by rcases hs4 with h|⟨_,_,_,_,_,_,n,h,h'⟩<;>grind
    have hR4:=k2.obj k;rw[heq4]at hR4;obtain⟨l4,S4,pend4,lf4,lt4,psA4,ld4,v1,v2,v3,v4,v5,v6⟩:=hR4;have hmu4:N4.μ k=.yld l:=by rw[k4.mu k (by grind)];exact hmu2
    rw[hmu4]at v1;cases v1;have hk4:k<os4.length:=wF (by grind);have nx5:∀o,Nx N4 ⟨N4.μ,N4.n,N4.fz,N4.h.put l o⟩:=fun o=>⟨⟨fun _ _ h _=>h,fun b o hf hg=>by grind[xn]⟩,LzB _,fun _ _=>rfl⟩
    have fin:∀(S:LoopState) (pe:Option Zg),stR (.int .i64 (zsQ e4)) S pe->Go.CE.endR l e4 N4.h=some (.s (.one (.bool (zv9 e4))),N4.h.put l (.loop S pe lf4 nt lt4 psA4 A B ld4))->Ev (fun _=>Go.CE.endR l e4 N4.h) (fun p=>∃a os',K a os'=some x/\∃N',N'.h=p.2/\Zd E N' os'/\Nx N N'/\(∀j,lk j=true->sameO (og os j) (og os' j))/\RepPA N' p.1 a):=by
     intro S pe hst hend;rw[hend];obtain⟨I5,x5,_⟩:=k2.put (k:=k) (by rw[heq4];trivial) (b:=l) (by rw[hmu4];rfl) (.loop S pe lf4 nt lt4 psA4 A B ld4) (.lop nt ρ ps A B lbl (.int .i64 (zsQ e4)))
      ⟨l,S,pe,lf4,lt4,psA4,ld4,hmu4,v2,wx _ _ _,v4,hst,fun i=>(v6 i).mono (nx5 _)⟩
     refine Ev.some ⟨_,_,k1,_,rfl,I5,((h4.trans x3).trans k4).trans x5,fun j hj=>?_,yA rfl⟩;by_cases hjk:j=k
     .subst hjk;rw[ho,zw,Yzd ⟨rfl,hk4⟩];cases e4 with
      |normal=>exact .refl _
      |ret=>exact .inr ⟨_,_,_,_,_,_,0,rfl,rfl⟩
      |exit id=>exact .inr ⟨_,_,_,_,_,_,id+1,rfl,rfl⟩
     have hj':(lk j||Nat.beq j k)=true:=by grind
     have a1:=h5 j hj';have a2:=k5 j hj';rw[zw,Yzb (fun h=>hjk h.1)]at a2;rw[zw,Yzb (fun h=>hjk h.1)];exact a1.trans a2
    cases e4 with
    |normal=>exact fin .ready none (.inl ⟨rfl,rfl,rfl⟩) (by unfold Go.CE.endR;rw[v3];rfl)
    |ret=>exact fin .done (some .ret) (.inr (.inr ⟨rfl,.ret,rfl,by simp,rfl⟩)) (by unfold Go.CE.endR;rw[v3];rfl)
    |exit id=>exact fin .done (some (.exit id)) (.inr (.inr ⟨rfl,.exit id,rfl,by simp,rfl⟩)) (by unfold Go.CE.endR;rw[v3];rfl)
   cases h1
  obtain⟨p,⟨a,os',q1,q2⟩,M,hM⟩:=ev;exact⟨a,os',q1,Ev.round ⟨p,q2,M,hM⟩⟩
 cases e
theorem zsr{sums:List Sum}{O:Orc}{tab:Nat->Bool}{Y:Inl}{an:Nat->List PA->Nat->Nat->Option LA}{R:Red}(hO:uW O (fun n=>zJ (zH P) (cFs (yL P)) sums R.s n))(hY:Zp tab Y (fun n=>zJ (zH P) (cFs (yL P)) sums R.s n))(hs:∀g,tab g=true->∀s∈sums,Nat.beq g s.g=false)
  {β:Type} {E:En} {lk:Nat->Bool} {N:Nm} {os:List PO} {g j:Nat} {az:List PA} {vs:List Zb} {K:PA->List PO->Option β} {x:β} (ht:tab g=true) (I:Zd E N os) (RR:RepPAL N vs (pc (.own j)::az)) (e:zxq P O tab Y an R g lk (pc (.own j)::az) os K=some x):
  ∃a os',K a os'=some x/\Ev (fun n=>zJ (zH P) (cFs (yL P)) sums R.s n (.inl g) vs N.h) (fun p=>∃N',N'.h=p.2/\Sim E lk N os [j] N' os' p.1 a):=by
 unfold zxq at e;simp only at e;cases ho:og os j with
 |arr st v=>
  rw[ho]at e;simp only at e;cases hlj:lk j
  case true=>grind
  rw[hlj]at e;simp only[Yzc]at e;rcases hfa:frA (fun i=>lk i||Nat.beq i j) os az with _|q
  .grind
  obtain⟨os1,ds⟩:=q;rw[hfa]at e;simp only at e;cases hT:R.s g
  case some=>grind
  rw[hT]at e;simp only at e
  match vs,RR with
  | [],RR=>trivial
  |v0::vr,RR=>
  obtain⟨w0,rfl,hjn,hw0⟩:=zQ RR.1;subst hw0;obtain⟨N1,f1,S1,rds⟩:=zi5 (lk:=fun i=>lk i||Nat.beq i j) I RR.2 hfa;have hoj1:og os1 j=.arr st v:=(S1.lock j (by simp)).trans ho;have I1:=S1.inv;have hh:N1.h=N.h:=f1.h;have hμ:N1.μ=N.μ:=f1.μ;have hjl1:j<os1.length:=wF (by grind);have hO1:=I1.obj j;rw[hoj1]at hO1;have hnfb:∀b,blk (N.μ j)=some b->¬N1.fz b/\v≠none/\∃y,N.h.t.get b=some y:=fun b hb=>by
   rcases v with _|xs
   .rw[<-hμ,show N1.μ j=.nils from hO1]at hb;cases hb
   obtain⟨b',ws,ex,h1,h2,h3,_⟩:=hO1;rw[<-hμ,h1]at hb;cases hb<;>grind
  have hlive:∀b,blk (N.μ j)=some b->live (og os1 j):=fun b hb=>by
   rw[hoj1];rcases v with _|xs
   .grind
   trivial
  rcases hf:P.funcs[g]? with _|fn
  .grind
  rw[hf]at e;simp only at e;rcases hb:fn.body with _|c
  .grind
  rw[hb]at e;simp only at e;cases hc:((ze0 P fn.results.toList).isNone||fn.name == "runtime.NumGoroutine")
  case true=>grind
  rw[hc]at e;simp only[Yzc]at e;cases hl:Nat.ble (pc (.own j)::az).length fn.ntmps
  .grind
  rw[hl]at e;simp only[Yza]at e;have hll:=Lz4 hl
  let E0:En:=⟨N.h,N1.fz,fun b=>blk (N.μ j)=some b⟩
  let N0:Nm:=⟨fun _=>N.μ j,1,N1.fz,N.h⟩
  have hfzlt:∀b,N1.fz b->b.toNat<N.h.n.toNat:=fun b hb=>by rw[<-hh];exact I1.fzlt b hb
  have g0:∀k,live (og [PO.arr st v] k)->k=0:=fun k hl=>by
   cases k with
   |zero=>rfl
   |succ k=>trivial
  have I0:Zd E0 N0 [.arr st v]:=⟨I.hw,.refl,hfzlt,fun b hb=>.inl hb,fun b hb=>.inl (hfzlt b hb),rfl,fun k b _ hb=>.inr hb,fun k k' b hl hl' _ _=>(g0 k hl).trans (g0 k' hl').symm,fun k=>by
   cases k with
   |zero=>exact RepO.arr_re (N1:=N1) (N2:=N0) (show N.μ j=N1.μ j by rw[hμ]) rfl hh.symm hO1
   |succ k=>exact trivial,fun t m h=>by
   cases t with
   |zero=>cases h
   |succ t=>cases h⟩
  have rds0:RepAL N0.fz N0.h vr ds:=by grind
  have RR0:RepPAL N0 (.s (.one (N.μ j))::vr) (pc (.own 0)::ds.map PE.paOf):=⟨yD (p:=.own 0) ⟨Nat.zero_lt_one,rfl⟩,RepPAL.ofA rds0⟩;obtain⟨F0,hlen⟩:=zi1 (_fn:=fn) RR0;have hlen2:(Zb.s (.one (N.μ j))::vr).length<=fn.ntmps:=by
   have:=RR.2;have hla:∀{a:List Zb} {b:List PA},RepPAL N a b->a.length=b.length:=by
    intro a
    induction a with
    |nil=>intro b H;cases b with|nil=>rfl|cons _ _=>trivial
    |cons _ _ ih=>intro b H;cases b with|nil=>trivial|cons _ _=>simp[ih H.2]
   grind
  have run:(fun n=>zpq P g (zJ (zH P) (cFs (yL P)) sums R.s n) n (.s (.one (N.μ j))::vr) N.h)=fun n=>yG P fn.ntmps (zJ (zH P) (cFs (yL P)) sums R.s n) n g true c (xC (wj .z .nil (.s (.one (N.μ j))::vr))) N.h [] (zfV P fn.results.toList):=by
   funext n
   unfold zpq;rw[hf];simp only[hb,hc,Yzc];simp_all[zes]
  have ev:Ev (fun n=>yG P fn.ntmps (zJ (zH P) (cFs (yL P)) sums R.s n) n g true c (xC (wj .z .nil (.s (.one (N.μ j))::vr))) N.h [] (zfV P fn.results.toList))
    (fun p=>∃d fz2,K (PE.paOf d) (oset .dead os1 j)=some x/\HW p.2/\GrX E0 p.2/\(∀b,fz2 b->N1.fz b\/E0.nw b)/\RepA fz2 p.2 p.1 d):=by
   refine qn (E:=E0) hO hY c (fun _=>false) 0 (zaq (pc (.own 0)::ds.map PE.paOf)) [.arr st v] N0 _ [] _ (fun _=>zfV P fn.results.toList) e I0 F0 (fun j hj=>by cases hj) (Dk.nil (N0:=N0)) fun ex ρ1 os2 N2 r1 d1 h1 h2 h3 h4 _ _ hD=>?_;obtain⟨N2,hsh,h2,h3,h4⟩:=zdV hD h2 h3;have fin:∀l os3,uZ P (fun _=>false) ρ1 os2 fn.results.toList=some (l,os3)->K (PE.paOf (ztm l)) (oset .dead os1 j)=some x->Ev (fun _=>zeL N2.h (jX P r1 N2.h fn.results.toList)) (fun p=>∃d fz2,K (PE.paOf d) (oset .dead os1 j)=some x/\HW p.2/\GrX E0 p.2/\(∀b,fz2 b->N1.fz b\/E0.nw b)/\RepA fz2 p.2 p.1 d):=by intro l os3 hl hd;obtain⟨N3,svs,f3,i3,x3,_,k3,R3⟩:=uD (P:=P) h2 h3 hl;obtain⟨v,g1,g2⟩:=zja (h:=N2.h) R3;rw[k3,g1];exact Ev.some ⟨ztm l,N3.fz,hd,h2.hw,h2.gr,fun b hb=>i3.fzok b hb,by rw[<-f3.h];exact g2⟩
   cases ex<;>grind[ztl,zfV]
  obtain⟨⟨v9,h9⟩,⟨d,fz2,hK,hw9,gr9,hfz2,rep9⟩,M,hM⟩:=ev;simp only at hw9 gr9 rep9;refine⟨PE.paOf d,oset .dead os1 j,hK,Ev.call hT (jr (hs g ht)) ?_⟩;rw[run];refine⟨(v9,h9),?_,M,hM⟩;have keep:∀b,b.toNat<N.h.n.toNat->blk (N.μ j)≠some b->h9.t.get b=N.h.t.get b:=fun b hb hne=>gr9.old b hb hne;have hle9:N.h.n.toNat<=h9.n.toNat:=gr9.le
  let fz9:BN->Prop:=fun b=>N1.fz b\/((N.h.n.toNat<=b.toNat\/blk (N.μ j)=some b)/\∃y,h9.t.get b=some y)
  let N':Nm:=⟨N.μ,N.n,fz9,h9⟩
  have nx1:Nx N1 N':=⟨⟨fun _ _ h _=>.inl h,fun b o hf hy=>by grind⟩,by rw[f1.n];exact LzB _,fun k _=>by rw[hμ]⟩
  have own1:∀k b,live (og os1 k)->blk (N.μ k)=some b->E.nw b:=fun k b hl hb=>I1.own k b hl (by grind);have inv':Zd E N' (oset .dead os1 j):=by
   have lv:∀k,live (og (oset .dead os1 j) k)->k≠j/\live (og os1 k):=fun k hl=>by
    by_cases hk:k=j
    .subst hk;rw[zw,Yzd ⟨rfl,hjl1⟩]at hl;trivial
    simp_all[zw]
   refine⟨hw9,⟨Yzl I.gr.le hle9,fun b hb hx=>?_⟩,fun b hb=>?_,fun b hb=>?_,fun b hb=>?_,by show N.n=_;rw[zX,<-I1.len,f1.n],fun k b hl hb=>own1 k b (lv k hl).2 hb,fun k k' b hl hl' hb hb'=>I1.inj k k' b (lv k hl).2 (lv k' hl').2 (by grind) (by grind),fun k=>?_,fun t m htm=>?_⟩
   .have hbn:=Lz9 hb I.gr.le;rw[show N'.h.t.get b=h9.t.get b from rfl,keep b hbn (fun hbj=>by
     rcases own1 j b (hlive b hbj) hbj with h|h<;>grind)]
    exact I.gr.old b hb hx
   .rcases hb with hb|⟨_,y,hy⟩
    .grind
    exact hw9 b y hy
   .rcases hb with hb|⟨hb|hb,_⟩
    .exact I1.fzok b hb
    .exact .inr (.inl (Yzl I.gr.le hb))
    grind
   .rcases hb with hb|⟨_,hy⟩
    .refine (I1.fzex b hb).imp id fun⟨y,hy⟩=>⟨y,?_⟩
     grind
    grind
   .by_cases hk:k=j
    .subst hk;rw[zw,Yzd ⟨rfl,hjl1⟩];trivial
    rw[zw,Yzb (fun h=>hk h.1)];refine (I1.obj k).mono nx1 (by rw[hμ]) fun htd b hb=>?_;obtain⟨b1,x1,k1,k2,k3⟩:=xf htd (I1.obj k);rw[k1]at hb;cases hb;have hblt:b.toNat<N.h.n.toNat:=by rw[hh]at k3;exact I.hw _ _ k3
    have hne:blk (N.μ j)≠some b:=fun hbj=>by
     rcases htd with hl|⟨m,hm⟩
     .exact hk (I1.inj k j b hl (hlive b hbj) k1 (by grind))
     obtain⟨k',v',n',q1,q2⟩:=I1.lnk_blk hm;have:=I1.inj k' j b (by rw[q1];trivial) (hlive b hbj) (by grind) (by grind)
     grind
    grind
   by_cases hk:t=j
   .subst hk;rw[zw,Yzd ⟨rfl,hjl1⟩]at htm;cases htm
   rw[zw,Yzb (fun h=>hk h.1)]at htm;obtain⟨k',v',n',q⟩:=I1.lnk t m htm;exact⟨k',v',n',by rw[zw,Yzb (fun h=>by grind)];exact q⟩
  refine⟨N',rfl,inv',S1.nx.trans nx1,⟨hle9,fun b hb H=>?_⟩,fun i hi=>?_,S1.ho.trans (w1:=[]) (w2:=[j]) (.oset (fun h=>h.elim) (fun _=>.inr (Yzx j)) (fun h=>h.elim)),RepPA.paOf (rep9.mono ⟨fun b o hb hy=>?_,fun _ _ _ hy=>hy⟩)⟩
  .grind
  .rw[zw,Yzb (fun h=>by grind)];exact S1.lock i (by simp[hi])
  rcases hfz2 b hb with h|h|h<;>grind
 |_=>grind
theorem zuS{sums:List Sum}{O:Orc}{tab:Nat->Bool}{an:Nat->List PA->Nat->Nat->Option LA}{R:Red}(hR:zs1 tab R (fun n=>zJ (zH P) (cFs (yL P)) sums R.s n))(hO:uW O (fun n=>zJ (zH P) (cFs (yL P)) sums R.s n))(hs:∀g,tab g=true->∀s∈sums,Nat.beq g s.g=false)(hG:∀g,tab g=true->Nat.ble zkM g=false):
  ∀k,Zp tab (inl P O tab an R k) (fun n=>zJ (zH P) (cFs (yL P)) sums R.s n):=by
 intro k
 induction k with
 |zero=>
  refine⟨?_,?_,?_⟩
  .intro β E lk N os g az vs K x _ _ _ _ e;cases e
  .intro β E lk N os g j az vs K x _ _ _ e;cases e
  intro β E lk N os k nt lbl ρ ps A B st l az vs K x _ _ _ _ _ e;cases e
 |succ k ihk=>
  have hG':∀g,tab g=true->Nat.ble zhT g=false/\Nat.ble zhT (zkM+g)=false:=fun g hg=>by grind[zkM,Yze,zhT,Lz4]
  refine⟨?_,?_,?_⟩
  rotate_left
  rotate_left
  .intro β E lk N os k' nt lbl ρ ps A B st l az vs K x ho hl I RR hlk e;simp only[inl]at e;rw[Yze (Nat.le_add_right zhT k'),Yza,show Nat.sub (zhT+k') zhT=k' from Yz5 _ _]at e
   grind[zsq]
  rotate_left
  .intro β E lk N os g j az vs K x ht I RR e;simp only[inl]at e;rw[(hG' g ht).2,Yzc]at e;rw[Yze (Nat.le_add_right zkM g),Yza,show Nat.sub (zkM+g) zkM=g from Yz5 _ _]at e
   grind[zsr]
  intro β E lk N os g az vs K x ht I RR hlk e;simp only[inl]at e;rw[(hG' g ht).1,Yzc,hG g ht,Yzc]at e;cases hT:R.s g with
  |some t=>rw[hT]at e;obtain⟨a,os',g1,g2⟩:=zq1 hT I RR hlk e;exact⟨a,os',g1,g2.mono fun p ⟨N',a1,a2,a3,a4,a5⟩=>⟨N',a1,a2,a3,fun j hj=>.of (a4 j hj),a5⟩⟩
  |none=>
  rw[hT]at e;simp only at e;cases hr:R.r g az with
  |some q=>
   obtain⟨b,g',as'⟩:=q;rw[hr]at e;cases b
   .cases e
   obtain⟨ht',vs',r',h'⟩:=hR hr RR;obtain⟨a,os',q1,q2⟩:=ihk.o ht' I r' hlk e;refine⟨.tup [],os',q1,(h' _ q2).mono ?_⟩
   rintro⟨v,h1⟩ ⟨e1,w,N',e2,i2,x2,l2,_⟩
   cases e1;exact⟨N',e2,i2,x2,l2,trivial⟩
  |none=>
  rw[hr]at e;simp only at e;rcases hf:P.funcs[g]? with _|fn
  .grind
  rw[hf]at e;simp only at e;rcases hb:fn.body with _|c
  .grind
  rw[hb]at e;simp only at e;cases hc:((ze0 P fn.results.toList).isNone||fn.name == "runtime.NumGoroutine")
  case true=>grind
  rw[hc]at e;simp only[Yzc]at e;cases hl:Nat.ble az.length fn.ntmps
  .grind
  rw[hl]at e;simp only[Yza]at e;have hll:=Lz4 hl;obtain⟨F0,hlen⟩:=zi1 (_fn:=fn) RR;have run:(fun n=>zpq P g (zJ (zH P) (cFs (yL P)) sums R.s n) n vs N.h)=fun n=>yG P fn.ntmps (zJ (zH P) (cFs (yL P)) sums R.s n) n g true c (xC (wj .z .nil vs)) N.h [] (zfV P fn.results.toList):=by
   funext n
   unfold zpq;rw[hf];simp only[hb,hc,Yzc];simp_all[zes]
  have ev:Ev (fun n=>yG P fn.ntmps (zJ (zH P) (cFs (yL P)) sums R.s n) n g true c (xC (wj .z .nil vs)) N.h [] (zfV P fn.results.toList)) (fun p=>∃a os' N',K a os'=some x/\N'.h=p.2/\Zd E N' os'/\Nx N N'/\(∀j,lk j=true->sameO (og os j) (og os' j))/\RepPA N' p.1 a):=by
   refine qn (E:=E) hO ihk c lk 0 (zaq az) os N _ [] _ (fun _=>zfV P fn.results.toList) e I F0 hlk (Dk.nil (N0:=N)) fun ex ρ1 os1 N1 r1 d1 h1 h2 h3 h4 h5 _ hD=>?_;obtain⟨N1,hsh,h2,h3,h4⟩:=zdV hD h2 h3;cases ex with
   |exit id=>cases h1
   |normal=>
    simp only at h1;rcases hr:zt5 P (an g [] 0 999).isSome lk ρ1 os1 fn.results.toList with _|q
    .grind
    obtain⟨a,os2⟩:=q;rw[hr]at h1;obtain⟨N2,svs,v,g1,g2,g3,g4,g5,g6,g7⟩:=zlE (P:=P) h2 h3 hr;show Ev (fun _=>zfV P fn.results.toList _ r1 _ d1) _;simp only[zfV,hsh];rw[g5,g6];exact Ev.some ⟨a,os2,N2,h1,g1,g2,h4.trans g3,fun j hj=>(h5 j hj).trans (.of (g4 j hj)),g7⟩
   |ret=>
    simp only at h1;rcases hr:zt5 P (an g [] 0 999).isSome lk ρ1 os1 fn.results.toList with _|q
    .grind
    obtain⟨a,os2⟩:=q;rw[hr]at h1;obtain⟨N2,svs,v,g1,g2,g3,g4,g5,g6,g7⟩:=zlE (P:=P) h2 h3 hr;show Ev (fun _=>zfV P fn.results.toList _ r1 _ d1) _;simp only[zfV,hsh];rw[g5,g6];exact Ev.some ⟨a,os2,N2,h1,g1,g2,h4.trans g3,fun j hj=>(h5 j hj).trans (.of (g4 j hj)),g7⟩
  obtain⟨p,⟨a,os',N',q1,q2,q3,q4,q5,q6⟩,M,hM⟩:=ev;refine⟨a,os',q1,Ev.call hT (jr (hs g ht)) ?_⟩;rw[run];exact⟨p,⟨N',q2,q3,q4,q5,q6⟩,M,hM⟩
theorem zrr{sums:List Sum}{R:Red}{O:Orc}{tab:Nat->Bool}{Y:Inl}{an:Nat->Option LA}{g:Nat}{args:List DA}{res:DA}(hO:uW O (fun n=>zJ (zH P) (cFs (yL P)) sums R.s n))(hY:Zp tab Y (fun n=>zJ (zH P) (cFs (yL P)) sums R.s n))(hs:∀s∈sums,Nat.beq g s.g=false)(hT:R.s g=none)
  (e:zte P O tab Y an g args=some res):zqJ (fun n=>zJ (zH P) (cFs (yL P)) sums R.s n) g args res:=by
 intro fz h vs hw hfz hrep;obtain⟨hlen,hget⟩:=hrep.get;have hfs:xS g vs h sums=none:=by
  clear hrep hlen hget e hO hY
  induction sums<;>simp_all[xS]
 refine Ev.call hT hfs ?_;unfold zte at e;rcases hf:P.funcs[g]? with _|fn
 .grind
 rw[hf]at e;simp only at e;rcases hb:fn.body with _|c
 .grind
 rw[hb]at e;simp only at e;cases hc:((ze0 P fn.results.toList).isNone||fn.name == "runtime.NumGoroutine")
 case true=>grind
 rw[hc]at e;simp only[Yzc]at e;cases hl:Nat.ble args.length fn.ntmps
 .grind
 rw[hl]at e;simp only[Yza]at e;have hll:=Lz4 hl;have run:(fun n=>zpq P g (zJ (zH P) (cFs (yL P)) sums R.s n) n vs h)=fun n=>yG P fn.ntmps (zJ (zH P) (cFs (yL P)) sums R.s n) n g true c (xC (wj .z .nil vs)) h [] (zfV P fn.results.toList):=by
  funext n
  unfold zpq;rw[hf];simp only[hb,hc,Yzc];simp_all[zes]
 rw[run]
 let E0:En:=⟨h,fz,fun _=>False⟩
 let N0:Nm:=⟨fun _=>.nilp,0,fz,h⟩
 have I0:Zd E0 N0 []:=⟨hw,.refl,hfz,fun b hb=>.inl hb,fun b hb=>.inl (hfz b hb),rfl,fun k b hl=>hl.elim,fun k k' b hl=>hl.elim,fun k=>trivial,fun t m h=>(by cases h)⟩;have F0:∀i,RepPA N0 (xC (wj .z .nil vs) i) (zjh args i):=fun i=>by
  rw[zds];unfold zjh;rcases ha:args[i]? with _|a
  .trivial
  grind[RepPA.paOf]
 refine qn (E:=E0) hO hY c (fun _=>false) 0 (zjh args) [] N0 _ [] (ztl P fn.results.toList) (fun _=>zfV P fn.results.toList) e I0 F0 (fun j hj=>by cases hj) (Dk.nil (N0:=N0)) fun ex ρ1 os1 N1 r1 d1 h1 h2 h3 h4 _ _ hD=>?_;obtain⟨N1,hsh,h2,h3,h4⟩:=zdV hD h2 h3;have fin:∀l os2,uZ P (fun _=>false) ρ1 os1 fn.results.toList=some (l,os2)->ztm l=res->Ev (fun _=>zeL N1.h (jX P r1 N1.h fn.results.toList)) (fun p=>HW p.2/\Gr h p.2/\RepA (fzN fz h p.2) p.2 p.1 res):=by
  intro l os2 hl hd;obtain⟨N2,svs,f2,i2,x2,_,k2,R2⟩:=uD (P:=P) h2 h3 hl;obtain⟨v,g1,g2⟩:=zja (h:=N1.h) R2;rw[k2,g1];refine Ev.some ⟨h2.hw,⟨h2.gr.le,fun b hb=>h2.gr.old b hb id⟩,?_⟩;rw[<-hd,<-f2.h];refine g2.mono ⟨fun b _ hb _=>?_,fun _ _ _ h=>h⟩;rcases i2.fzok b hb with h'|h'
  .exact .inl h'
  exact .inr ⟨h'.elim id False.elim,i2.fzlt b hb⟩
 cases ex with
 |exit id=>cases h1
 |normal=>
  simp only[ztl]at h1;rcases hl:uZ P (fun _=>false) ρ1 os1 fn.results.toList with _|q
  .grind
  obtain⟨l,os2⟩:=q;rw[hl]at h1;cases h1;simp only[zfV,hsh];grind
 |ret=>
  simp only[ztl]at h1;rcases hl:uZ P (fun _=>false) ρ1 os1 fn.results.toList with _|q
  .grind
  obtain⟨l,os2⟩:=q;rw[hl]at h1;cases h1;simp only[zfV,hsh];grind
end
end Go.PE
end
section
namespace Go.PE
open Go Go.CE
end Go.PE
end
section
namespace Go.PE
open Go Go.CE
section
variable (P:Program) (sums:List CE.Sum) (B:Orc) (an:Nat->Nat->Option LA) (tab:Nat->Bool) (anI:Nat->Nat->List PA->Nat->Nat->Option LA) (R:Red) (d:Nat)
noncomputable def deep:Nat->Orc
 |0=>B
 |k+1=>fun g args=>
  match B g args with
  |some r=>some r
  |none=>bif sums.all (fun s=>!Nat.beq g s.g)&&(R.s g).isNone then zte P (deep k) tab (inl P (deep k) tab (anI g) R d) (an g) g args else none
end
section
variable {P:Program} {B:Orc} {an:Nat->Nat->Option LA} {sums:List CE.Sum} {tab:Nat->Bool} {anI:Nat->Nat->List PA->Nat->Nat->Option LA} {R:Red} {d:Nat}
theorem zhG(hR:zs1 tab R (fun n=>zJ (zH P) (cFs (yL P)) sums R.s n))(hT:∀g,tab g=true->∀s∈sums,Nat.beq g s.g=false)(hG:∀g,tab g=true->Nat.ble zkM g=false)(hB:uW B (fun n=>zJ (zH P) (cFs (yL P)) sums R.s n)):∀k,uW (deep P sums B an tab anI R d k) (fun n=>zJ (zH P) (cFs (yL P)) sums R.s n)
 |0=>hB
 |k+1=>fun g args res e=>by
  simp only[deep]at e;split at e
  .rename_i r hr;cases e;exact hB g args _ hr
  cases hs:(sums.all (fun s=>!Nat.beq g s.g)&&(R.s g).isNone)
  .grind
  rw[hs]at e;rw[LzC,YzI]at hs;exact zrr (zhG hR hT hG hB k) (zuS hR (zhG hR hT hG hB k) hT hG d) (fun s h=>by grind) (Option.isNone_iff_eq_none.1 hs.2) e
theorem zfZ{k g:Nat}{args:List DA}{r:DA}(h:B g args=some r):deep P sums B an tab anI R d k g args=some r:=by cases k<;>simp_all[deep]
theorem znm{k g:Nat}{args:List DA}(h:B g args=none)(hs:sums.all (fun s=>!Nat.beq g s.g)=true)(hr:(R.s g).isNone=true:=by rfl):deep P sums B an tab anI R d (k+1) g args=zte P (deep P sums B an tab anI R d k) tab (inl P (deep P sums B an tab anI R d k) tab (anI g) R d) (an g) g args:=by simp only[deep,h,hs,hr,Bool.and_self,Yza]
end
end Go.PE
end
section
namespace Go.PE
open Go Go.CE
abbrev I6(n:Int):DV:=.int .i64 n
theorem xj(k:IntKind):eqK k k=true:=by cases k<;>rfl
theorem wrap64{n:Int}(h1:-9223372036854775808<=n)(h2:n<=9223372036854775807):xZ .i64 n=n:=by
 cases n with
 |ofNat m=>
  show (bif Nat.ble m 9223372036854775807 then(Int.ofNat m) else IntKind.wrap .i64 (.ofNat m))=_
  grind[Yze]
 |negSucc m=>
  show (bif Nat.ble m 9223372036854775807 then(Int.negSucc m) else IntKind.wrap .i64 (.negSucc m))=_
  grind[Yze]
section
variable (k:IntKind) (a b:Int)
theorem zr:zg .lss (.int k a) (.int k b)=some (.bool (decide (a<b))):=by simp_all[zg,xj,uk,zyn,oD,qA]
theorem qo:zg .leq (.int k a) (.int k b)=some (.bool (decide (a<=b))):=by simp_all[zg,xj,uk,zyo,oD,ziS]
theorem yd:zg .gtr (.int k a) (.int k b)=some (.bool (decide (b<a))):=by simp_all[zg,xj,uk,zyp,oD,qA]
theorem qp:zg .geq (.int k a) (.int k b)=some (.bool (decide (b<=a))):=by simp_all[zg,xj,uk,zyq,oD,ziS]
theorem we:zg .eql (.int k a) (.int k b)=some (.bool (a==b)):=by simp_all[zg,xj,uk,zyr,oD,ju]
theorem yC:zg .neq (.int k a) (.int k b)=some (.bool (!(a==b))):=by simp_all[zg,xj,uk,zym,oD,ju]
theorem zoR:zg .add (.int k a) (.int k b)=some (.int k (xZ k (a+b))):=by simp_all[zg,xj,uk,zu8,oD]
theorem ziy:zg .sub (.int k a) (.int k b)=some (.int k (xZ k (a-b))):=by simp only[zg,xj,Yza,uk,zu5,oD];rfl
theorem zoQ:zg .mul (.int k a) (.int k b)=some (.int k (xZ k (a*b))):=by simp_all[zg,xj,uk,zu7,oD]
theorem zoP(h:b≠0):zg .quo (.int k a) (.int k b)=some (.int k (xZ k (a.tdiv b))):=by
 have:(b==0)=false:=by grind
 simp only[zg,xj,Yza,uk,zsG,ju,this,Yzc,oD]
theorem zbd(h:b≠0):zg .rem (.int k a) (.int k b)=some (.int k (a.tmod b)):=by
 have:(b==0)=false:=by grind
 simp only[zg,xj,Yza,uk,zsF,ju,this,Yzc,oD]
theorem zj9(h1:-9223372036854775808<=a+b)(h2:a+b<=9223372036854775807):zg .add (I6 a) (I6 b)=some (I6 (a+b)):=by grind[zoR,wrap64]
theorem zj8(h1:-9223372036854775808<=a-b)(h2:a-b<=9223372036854775807):zg .sub (I6 a) (I6 b)=some (I6 (a-b)):=by grind[ziy,wrap64]
theorem zrt(k':IntKind)(h1:-9223372036854775808<=a)(h2:a<=9223372036854775807):zZ .i64 (.int k' a)=some (I6 a):=by
 show some (DV.int .i64 (xZ .i64 a))=_
 grind[wrap64]
end
theorem zu{β:Type}(q:Bool)(a b:Option β):ifB (.bool q) a b=if q=true then a else b:=by cases q<;>rfl
theorem zb{α β:Type}(a:α)(k:α->Option β):za (some a) k=k a:=rfl
theorem zV{β:Type}(d:DV)(k:DV->Option β):b1 (some (.s (.one d))) k=k d:=rfl
theorem zxS{β:Type}(b:Bool)(k:DV->Option β):b1s (some (.s (.one (.bool b)))) k=k (.bool b):=rfl
theorem zsW{β:Type}(t:IntKind)(n:Int)(k:DV->Option β):b1s (some (.s (.one (.int t n)))) k=k (.int t n):=rfl
theorem zsT{β:Type}(l:List DV)(k:List DV->Option β):bA l.length (some (.s (.agg l))) k=k l:=by show (bif Nat.beq l.length l.length then k l else none)=_;simp
end Go.PE
end
section
namespace Go.PE
open Go Go.CE
abbrev U8(n:Int):DV:=.int .u8 n
abbrev U64(n:Int):DV:=.int .u64 n
abbrev S1(d:DV):DA:=.s (.one d)
abbrev SA(l:List DV):DA:=.s (.agg l)
abbrev Bo(b:Bool):DV:=.bool b
abbrev St(s:ByteArray):DV:=.str s
attribute [simp] zr qo yd qp we yC zb zV zu
@[simp] theorem zto{α β:Type}(k:α->Option β):za none k=none:=rfl
@[simp] theorem zxT{β:Type}(k:DV->Option β):b1 none k=none:=rfl
@[simp] theorem wb(q:Bool):zec (.bool q)=some (.bool (!q)):=rfl
@[simp] theorem zlY:xl .nils=some (I6 0):=rfl
@[simp] theorem zvY(st:Nat)(xs:List (List DV)):xl (.lst st xs)=some (I6 (xs.length:Int)):=rfl
@[simp] theorem zvX(st:Nat)(v:OC):xl (mkL st v)=some (I6 (xu v:Int)):=by cases v<;>rfl
@[simp] theorem ztd:zed .nils=some true:=rfl
@[simp] theorem zt8(st:Nat)(xs:List (List DV)):zed (.lst st xs)=some false:=rfl
@[simp] theorem zrs(st:Nat):vR st .nils=some []:=rfl
@[simp] theorem ztg(st:Nat)(xs:List (List DV)):vR st (.lst st xs)=some xs:=by show (bif Nat.beq st st then some xs else none)=_;rw[Yzz];rfl
@[simp] theorem ztf(st:Nat)(v:OC):vR st (mkL st v)=some (zL v):=by cases v<;>simp[mkL,zL]
@[simp] theorem zbJ(s:ByteArray):zj7 (.str s)=some (I6 (s.size:Int)):=rfl
@[simp] theorem vC(n:Nat):Int.ofNat n=(n:Int):=rfl
@[simp] theorem zuH:xu none=0:=rfl
@[simp] theorem xL(xs:List (List DV)):xu (some xs)=xs.length:=rfl
@[simp] theorem zsM:zL none=[]:=rfl
@[simp] theorem xx(xs:List (List DV)):zL (some xs)=xs:=rfl
@[simp] theorem zv6(st:Nat):mkL st none=.nils:=rfl
@[simp] theorem zv5(st:Nat)(xs:List (List DV)):mkL st (some xs)=.lst st xs:=rfl
@[simp] theorem zwi(v:OC):zT v []=v:=rfl
@[simp] theorem zvB(v:OC)(x:List DV)(l:List (List DV)):zT v (x::l)=some (zL v++(x::l)):=rfl
@[simp] theorem wv{β:Type}(k:Option β):gd true k=k:=rfl
@[simp] theorem y3{β:Type}(id:Nat)(L:List DV)(M:List OC)(kx:Nat->List DV->List OC->Option β)(kr:List DV->List OC->Option β):xa (some (.exit id,L,M)) kx kr=kx id L M:=rfl
@[simp] theorem zuC{β:Type}(L:List DV)(M:List OC)(kx:Nat->List DV->List OC->Option β)(kr:List DV->List OC->Option β):xa (some (.ret,L,M)) kx kr=kr L M:=rfl
@[simp] theorem zK(d:DV)(l:List DV):zy (d::l) 0=d:=rfl
@[simp] theorem xI(d:DV)(l:List DV)(n:Nat):zy (d::l) (n+1)=zy l n:=rfl
@[simp] theorem y6(d:OC)(l:List OC):zU (d::l) 0=d:=rfl
@[simp] theorem uj(d:OC)(l:List OC)(n:Nat):zU (d::l) (n+1)=zU l n:=rfl
@[simp] theorem xU(d:DV)(l:List DV):atD (d::l) 0=d:=rfl
@[simp] theorem vK(d:DV)(l:List DV)(n:Nat):atD (d::l) (n+1)=atD l n:=rfl
@[simp] theorem znk(d:DS)(l:List DS):wX (d::l) 0=d:=rfl
@[simp] theorem zyx(d:DS)(l:List DS)(n:Nat):wX (d::l) (n+1)=wX l n:=rfl
@[simp] theorem zhE(d:DV):dsO (.one d)=d:=rfl
@[simp] theorem zxM(l:List DV):dsA (.agg l)=l:=rfl
theorem zxR{β:Type}{n:Nat}{l:List DV}(h:l.length=n)(k:List DV->Option β):bA n (some (.s (.agg l))) k=k l:=by grind[zsT]
@[simp] theorem zxQ{β:Type}(r:DA)(k:Option β):bN (some r) k=k:=rfl
@[simp] theorem zwU:okT [] []=true:=rfl
@[simp] theorem zwT(shs:List (Option Nat))(d:DV)(l:List DS):okT (none::shs) (.one d::l)=okT shs l:=rfl
@[simp] theorem zwV(shs:List (Option Nat))(n:Nat)(ds:List DV)(l:List DS):okT (some n::shs) (.agg ds::l)=(Nat.beq ds.length n&&okT shs l):=rfl
@[simp] theorem zvW(k:IntKind)(n:Int):zua (.int k n)=some (.int k (xZ k (-n))):=by show some (DV.int k (xZ k (0-n)))=_;rw[Int.zero_sub]
theorem y8{b n:Nat}(hb:b<=4096)(h:n<=1000000000):fits b n=true:=by
 unfold fits;rw[LzC,Nat.ble_eq,Nat.ble_eq];refine⟨?_,by omega⟩;have:n*b<=1000000000*4096:=Nat.mul_le_mul h hb
 grind
theorem zqL(n:Int):xZ .u64 n=n % 18446744073709551616:=wO .u64 n
theorem zjG(n:Int):xZ .u8 n=n % 256:=wO .u8 n
theorem yW{a b:Int}(h1:-9223372036854775808<=a+b:=by omega)(h2:a+b<=9223372036854775807:=by omega):zg .add (I6 a) (I6 b)=some (I6 (a+b)):=zj9 a b h1 h2
theorem zk9{a b:Int}(h1:-9223372036854775808<=a-b:=by omega)(h2:a-b<=9223372036854775807:=by omega):zg .sub (I6 a) (I6 b)=some (I6 (a-b)):=zj8 a b h1 h2
theorem zg7{a b:Int}(h1:-9223372036854775808<=a*b)(h2:a*b<=9223372036854775807):zg .mul (I6 a) (I6 b)=some (I6 (a*b)):=by grind[zoQ,wrap64]
theorem wN{k:IntKind}{a:Int}(h1:-9223372036854775808<=a:=by omega)(h2:a<=9223372036854775807:=by omega):zZ .i64 (.int k a)=some (I6 a):=zrt a k h1 h2
theorem zub(k:IntKind)(a b:Int):uG false (.int k a) [.int k b]=some (.int k (min a b)):=by
 simp only[uG,minD,xj,Yza,Yzc,qA]
 grind
theorem zuc(k:IntKind)(a b:Int):uG true (.int k a) [.int k b]=some (.int k (max a b)):=by
 simp only[uG,minD,xj,Yza,qA]
 grind
attribute [simp] zub zuc
abbrev Sl(α:Type):=Option (List α)
abbrev Sl.els{α:Type}(s:Sl α):List α:=s.getD []
def enL{α:Type}(st:Nat)(f:α->List DV):Sl α->DV
 |none=>.nils
 |some l=>.lst st (l.map f)
section
variable {α:Type} {st:Nat} {f:α->List DV}
@[simp] theorem zwf:enL st f none=.nils:=rfl
theorem wW(l:List α):enL st f (some l)=.lst st (l.map f):=rfl
@[simp] theorem zxB(v:Sl α):mkL st (v.map (List.map f))=enL st f v:=by cases v<;>rfl
@[simp] theorem zR(v:Sl α):xl (enL st f v)=some (I6 (v.els.length:Int)):=by cases v<;>simp[enL]
@[simp] theorem zdc(v:Sl α):vR st (enL st f v)=some (v.els.map f):=by cases v<;>simp[enL]
@[simp] theorem zt9(v:Sl α):zed (enL st f v)=some v.isNone:=by cases v<;>rfl
theorem zoO(k:IntKind)(xs:List (List DV))(i:Nat):uh st (.lst st xs) (.int k (i:Int))=xs[i]?:=by show (bif Nat.beq st st then xs[i]? else none)=_;simp
theorem zbb(k:IntKind)(v:Sl α)(i:Nat):uh st (enL st f v) (.int k (i:Int))=(v.els[i]?).map f:=by
 rcases v with _|l
 .rfl
 grind[wW,zoO]
theorem xh{l:List α}{i:Nat}{x:α}{r:List α}(h:l.drop i=x::r):l[i]? = some x:=by
 have:=Yzo (xs:=l) (i:=i) (j:=0)
 grind
theorem y7{l:List α}{i:Nat}{x:α}{r:List α}(h:l.drop i=x::r):i<l.length:=(Lz0.1 (xh h)).1
theorem yl{l:List α}{i:Nat}{x:α}{r:List α}(h:l.drop i=x::r):l.drop (i+1)=r:=by rw[<-YzE,h];rfl
theorem yz{l:List α}{i:Nat}(h:l.drop i=[]):l.length<=i:=by simp_all
theorem yq{v:Sl α}{i:Nat}{x:α}{r:List α}(h:v.els.drop i=x::r)(k:IntKind):uh st (enL st f v) (.int k (i:Int))=some (f x):=by rw[zbb,xh h];rfl
end
theorem zaO{i n:Nat}(h:i<n):decide ((i:Int)<(n:Int))=true:=decide_eq_true (by omega)
theorem vE{i n:Nat}(h:n<=i):decide ((i:Int)<(n:Int))=false:=decide_eq_false (by omega)
def ocL{α:Type}(f:α->List DV)(v:Sl α):OC:=v.map (List.map f)
section
variable {α:Type} {st:Nat} {f:α->List DV}
@[simp] theorem zv2:ocL f (none:Sl α)=none:=rfl
@[simp] theorem jO(v:Sl α):xu (ocL f v)=v.els.length:=by cases v<;>simp[ocL]
@[simp] theorem w7(v:Sl α):zL (ocL f v)=v.els.map f:=by cases v<;>simp[ocL]
@[simp] theorem zmx(v:Sl α):mkL st (ocL f v)=enL st f v:=by cases v<;>rfl
theorem uH(v:Sl α)(x:α):(some (v.els.map f++[f x]):OC)=ocL f (some (v.els++[x])):=by simp[ocL]
end
@[simp] theorem y9{α:Type}(l:List α):Sl.els (some l)=l:=rfl
@[simp] theorem zwg{α:Type}:Sl.els (none:Sl α)=[]:=rfl
theorem zaH{k:IntKind}{a b:Nat}(h:b≠0):zg .rem (.int k (a:Int)) (.int k (b:Int))=some (.int k ((a % b:Nat):Int)):=by grind[zbd]
theorem zy2{k:IntKind}{a b:Nat}(h:b≠0)(hw:xZ k ((a / b:Nat):Int)=((a / b:Nat):Int)):zg .quo (.int k (a:Int)) (.int k (b:Int))=some (.int k ((a / b:Nat):Int)):=by grind[zoP]
theorem zbc{k:IntKind}{n i:Nat}(h:i<n):j4 n (.int k (i:Int))=some i:=by
 show (bif Nat.ble (i+1) n then some i else none)=_
 grind[Yze]
theorem wy{k:IntKind}{xs:List (List DV)}{i:Nat}(h:i<xs.length):yn (some xs) (.int k (i:Int))=some i:=by
 show (bif Nat.ble (i+1) xs.length then some i else none)=_
 grind[Yze]
theorem zW{f:List DV->List OC->Option PX}{L L':List DV}{M M':List OC}(h:f L M=some (.normal,L',M')):z6 f L M=z6 f L' M':=by rw[zad,h]
theorem zz{f:List DV->List OC->Option PX}{L L':List DV}{M M':List OC}{id:Nat}(h:f L M=some (.exit id,L',M')):z6 f L M=some (.exit id,L',M'):=by rw[zad,h]
theorem zC{f:List DV->List OC->Option PX}{L L':List DV}{M M':List OC}(h:f L M=some (.ret,L',M')):z6 f L M=some (.ret,L',M'):=by rw[zad,h]
end Go.PE
end
noncomputable section
namespace Go.PE
open Go Go.CE
def zid:List DV->Option (List Zc)
 | []=>some []
 |d::l=>match d.scal,zid l with|some c,some cs=>some (c::cs)|_,_=>none
def avS:DS->Option SVal
 | .one d=>match d.scal with|some c=>some (.one c)|none=>none
 | .agg ds=>match zid ds with|some cs=>some (.agg cs)|none=>none
def avs:List DA->Option (List Zb)
 | []=>some []
 | .s d::l=>match avS d,avs l with|some v,some vs=>some (.s v::vs)|_,_=>none
 | .tup _::_=>none
def ofC:Zc->Option DV
 | .bool b=>some (.bool b)
 | .int k n=>some (.int k n)
 | .str s=>some (.str s)
 | .nils=>some .nils
 | .nilf=>some .nilf
 | .nilp=>some .nilp
 | .nilm=>some .nilm
 | .nili=>some .nili
 |_=>none
def zv1:List Zc->Option (List DV)
 | []=>some []
 |c::cs=>match ofC c,zv1 cs with|some d,some ds=>some (d::ds)|_,_=>none
def ofS:SVal->Option DS
 | .one c=>match ofC c with|some d=>some (.one d)|none=>none
 | .agg cs=>match zv1 cs with|some ds=>some (.agg ds)|none=>none
def zv0:List SVal->Option (List DS)
 | []=>some []
 |v::vs=>match ofS v,zv0 vs with|some d,some ds=>some (d::ds)|_,_=>none
def ofA:Zb->Option DA
 | .s v=>match ofS v with|some d=>some (.s d)|none=>none
 | .tup vs=>match zv0 vs with|some ds=>some (.tup ds)|none=>none
def zs9(ids:List Nat)(sums:List CE.Sum):Orc:=fun g args=>
 bif ids.any (Nat.beq g) then
  match avs args with
  |some vs=>match xS g vs ⟨.z,.nil⟩ sums with|some v=>ofA v|none=>none
  |none=>none
 else none
theorem zc0{d:DV}{c:Zc}(h:d.scal=some c):xV c=true:=by cases d<;>simp only[DV.scal]at h<;>first|cases h;rfl|cases h
theorem ziR{m m':Mt}{c c':Zc}(hp:xV c'=true)(h:mC m c c'=some m'):m'=m:=by
 unfold mC at h
 grind[xV]
theorem zfG:∀{cs cs':List Zc} {m m':Mt},(∀c∈cs',xV c=true)->mCs cs cs' m=some m'->m'=m
 | [],[],_,_,_,h=>by cases h;rfl
 |c::cs,c'::cs',m,m',hp,h=>by
  simp only[mCs]at h;split at h
  .rename_i m1 h1;rw[zfG (fun c hc=>hp c (Yzi _ hc)) h]
   grind[ziR,Yzk]
  cases h
 | [],_::_,_,_,_,h=>by cases h
 |_::_,[],_,_,_,h=>by cases h
def plS:SVal->Prop
 | .one c=>xV c=true
 | .agg cs=>∀c∈cs,xV c=true
def plA:Zb->Prop
 | .s v=>plS v
 | .tup _=>False
theorem zpg{m m':Mt}{v v':SVal}(hp:plS v')(h:mS m v v'=some m'):m'=m:=by
 cases v<;>cases v'<;>simp only[mS]at h
 .exact ziR hp h
 .cases h
 .cases h
 exact zfG hp h
theorem zph:∀{vs vs':List Zb} {m m':Mt},(∀v∈vs',plA v)->mA vs vs' m=some m'->m'=m:=by
 intro vs
 induction vs with
 |nil=>grind[mA]
 |cons v vs ih=>
  intro vs' m m' hp h;cases vs' with
  |nil=>cases v<;>cases h
  |cons v' vs'=>
   cases v with
   |tup l=>cases h
   |s v=>
    cases v' with
    |tup l=>cases h
    |s v'=>
     simp only[mA]at h;split at h
     .rename_i m1 h1;rw[ih (fun c hc=>hp c (Yzi _ hc)) h];exact zpg (hp (.s v') (Yzk ..)) h1
     cases h
theorem zm3{s:CE.Sum}{vs:List Zb}(hp:∀v∈vs,plA v)(h h':Za):s.fits vs h=s.fits vs h':=by
 unfold Sum.fits;rcases hm:mA s.args vs ⟨.nil,.nil,[]⟩ with _|m
 .rfl
 rw[zph hp hm];rfl
theorem zaT{g:Nat}{vs:List Zb}(hp:∀v∈vs,plA v)(h h':Za):∀l:List CE.Sum,xS g vs h l=xS g vs h' l
 | []=>rfl
 |s::l=>by simp only[xS,zm3 hp h h',zaT hp h h' l]
theorem zfm{fz:BN->Prop}{h:Za}:∀{ds:List DV} {cs cs':List Zc},zid ds=some cs'->RepL fz h cs ds->cs=cs'/\∀c∈cs',xV c=true
 | [],cs,cs',e,H=>by
  cases e;have:=H.1
  grind
 |d::ds,cs,cs',e,H=>by
  simp only[zid]at e;split at e
  .rename_i c1 cs1 h1 h2;cases e;cases cs with
   |nil=>have:=H.1;trivial
   |cons c cs=>
    obtain⟨ha,hb⟩:=H.inv;obtain⟨k1,k2⟩:=zfm h2 hb;refine⟨by rw[ha.scal h1,k1],fun x hx=>?_⟩;rcases Yzv.1 hx with rfl|hx
    .exact zc0 h1
    grind
  cases e
theorem zvA{fz:BN->Prop}{h:Za}{d:DS}{v v':SVal}(e:avS d=some v')(H:RepS fz h v d):v=v'/\plS v':=by
 cases d with
 |one d=>
  simp only[avS]at e;split at e
  .rename_i c hc;cases e;cases v with
   |one x=>exact⟨by rw[Rep.scal H hc],zc0 hc⟩
   |agg l=>trivial
  cases e
 |agg ds=>
  simp only[avS]at e;split at e
  .rename_i cs hc;cases e;cases v with
   |one x=>trivial
   |agg l=>obtain⟨k1,k2⟩:=zfm hc H;exact⟨by rw[k1],k2⟩
  cases e
theorem zqD{fz:BN->Prop}{h:Za}:∀{ds:List DA} {vs vs':List Zb},avs ds=some vs'->RepAL fz h vs ds->vs=vs'/\∀v∈vs',plA v
 | [],vs,vs',e,H=>by
  cases e;cases vs with
  |nil=>simp
  |cons v l=>trivial
 | .tup _::_,_,_,e,_=>by cases e
 | .s d::ds,vs,vs',e,H=>by
  simp only[avs]at e;split at e
  .rename_i v1 vs1 h1 h2;cases e;cases vs with
   |nil=>trivial
   |cons v vs=>
    obtain⟨ha,hb⟩:=H;obtain⟨w,rfl,hw⟩:=RepA.inv ha;obtain⟨k1,k2⟩:=zqD h2 hb;obtain⟨k3,k4⟩:=zvA h1 hw;refine⟨by rw[k1,k3],fun x hx=>?_⟩;rcases Yzv.1 hx with rfl|hx
    .exact k4
    grind
  cases e
theorem zqj{fz:BN->Prop}{h:Za}{c:Zc}{d:DV}(e:ofC c=some d):Rep fz h c d:=by
 cases c<;>simp only[ofC]at e<;>cases e
 .exact .bool _
 .exact .int _ _
 .exact .str _
 .exact .nilp
 .exact .nils
 .exact .nilm
 .exact .nilf
 exact .nili
theorem zl6{fz:BN->Prop}{h:Za}:∀{cs:List Zc} {ds:List DV},zv1 cs=some ds->RepL fz h cs ds
 | [],_,e=>by cases e;exact RepL.nil _ _
 |c::cs,ds,e=>by
  simp only[zv1]at e;split at e
  .rename_i d1 ds1 h1 h2;cases e;exact RepL.cons (zqj h1) (zl6 h2)
  cases e
theorem zqi{fz:BN->Prop}{h:Za}{v:SVal}{d:DS}(e:ofS v=some d):RepS fz h v d:=by
 cases v<;>simp only[ofS]at e<;>split at e
 .rename_i h1;cases e;exact zqj h1
 .cases e
 .rename_i h1;cases e;exact zl6 h1
 cases e
theorem zl5{fz:BN->Prop}{h:Za}:∀{vs:List SVal} {ds:List DS},zv0 vs=some ds->RepSL fz h vs ds
 | [],_,e=>by cases e;trivial
 |c::cs,ds,e=>by
  simp only[zv0]at e;split at e
  .rename_i d1 ds1 h1 h2;cases e;exact⟨zqi h1,zl5 h2⟩
  cases e
theorem zuk{fz:BN->Prop}{h:Za}{v:Zb}{d:DA}(e:ofA v=some d):RepA fz h v d:=by
 cases v<;>simp only[ofA]at e<;>split at e
 .rename_i h1;cases e;exact zqi h1
 .cases e
 .rename_i h1;cases e;exact zl5 h1
 cases e
theorem zq0{P:Program}{ids:List Nat}{sums:List CE.Sum}{srt:Nat->Option Srt}(hi:ids.all (fun g=>(srt g).isNone)=true):uW (zs9 ids sums) (fun n=>zJ (zH P) (cFs (yL P)) sums srt n):=by
 intro g args res e fz h vs hw hfz H;unfold zs9 at e;cases hj:ids.any (Nat.beq g)
 .grind
 rw[hj]at e;have hT:srt g=none:=by simp_all
 simp only[Yza]at e;split at e
 .rename_i vs' hvs;split at e
  .rename_i v hv;obtain⟨rfl,hp⟩:=zqD hvs H;rw[zaT hp _ h]at hv;refine (Ev.sum hT hv).mono ?_
   rintro _ rfl
   exact⟨hw,.refl h,zuk e⟩
  cases e
 cases e
end Go.PE
end
section
namespace Go.PE
open Go Go.CE Go.RowKit
section
variable {P:Program} {sums:List CE.Sum} {srt:Nat->Option Srt} {O:Orc}
theorem zpR(hs:∀s∈sums,ke P s)(ht:∀g t,srt g=some t->zpY P g t)(hO:uW O (fun n=>zJ (zH P) (cFs (yL P)) sums srt n)){w:World}(hG:GOk w){g:Nat}{vs:List Zb}{ds:List DA}
  (hr:RepAL (fun b=>b.toNat<(ym w).n.toNat) (ym w) vs ds) (hw:∀x∈vs,wfA (φ0 w) (ym w).n.toNat x) {b:Bool} (e:O g ds=some (.s (.one (.bool b)))):
  CallsIn (FR none) 0 P g (vs.map (zm (φ0 w))).toArray w (fun e w2=>e=.returned (.bool b)/\Below w.heap.size w w2):=by
 obtain⟨⟨v,h2⟩,⟨_,hg,hv⟩,N,hN⟩:=hO g ds _ e (fun b=>b.toNat<(ym w).n.toNat) (ym w) vs (zfN w) (fun b hb=>hb) hr;refine (zhN w (zjt (zlQ P) hs ht N) hG hw (hN N (LzB _)) hg).mono ?_
 rintro e9 w9 ⟨φ,rfl,hb⟩
 obtain⟨v',hv',h1⟩:=RepA.inv hv;simp only at hv';subst hv';cases v' with
 |agg l=>trivial
 |one c=>rw[Rep.scal h1 rfl];trivial
end
end Go.PE
end
section
namespace Go.PE
open Go Go.CE Go.RowKit
def zf1(P:Program):List Field->Nat->Option Nat
 | [],o=>some o
 |f::l,o=>bif Nat.beq f.offset o then zf1 P l (o+P.cellsOf f.type) else none
def zas(P:Program):Nat->TypeId->Bool
 |0,_=>false
 |n+1,t=>
  match P.underlying t with
  |some .bool=>Nat.beq (P.cellsOf t) 1
  |some (.int _)=>Nat.beq (P.cellsOf t) 1
  |some .string=>Nat.beq (P.cellsOf t) 1
  |some (.slice e)=>zas P n e&&Nat.ble 1 (P.cellsOf e)&&Nat.beq (P.cellsOf t) 1
  |some (.struct fs)=>(fs.toList.all fun f=>zas P n f.type)&&(match zf1 P fs.toList 0 with|some m=>Nat.beq m (P.cellsOf t)|none=>false)
  |some (.array k e)=>zas P n e&&Nat.beq (P.cellsOf t) (k*P.cellsOf e)
  |_=>false
def zs0(T:TypeId->List DV->Prop):List TypeId->List DV->Prop
 | [],ds=>ds=[]
 |t::l,ds=>∃a b,ds=a++b/\T t a/\zs0 T l b
def Ty(P:Program):Nat->TypeId->List DV->Prop
 |0,_,_=>False
 |n+1,t,ds=>
  match P.underlying t with
  |some .bool=>∃b,ds=[.bool b]
  |some (.int k)=>∃m,ds=[.int k m]/\(Lit.int k m).wf=true
  |some .string=>∃s,ds=[.str s]/\s.size<=maxLen
  |some (.slice e)=>ds=[.nils]\/∃xs,ds=[.lst (P.cellsOf e) xs]/\xs.length<=maxLen/\∀x∈xs,Ty P n e x
  |some (.struct fs)=>zs0 (Ty P n) (fs.toList.map (·.type)) ds
  |some (.array k e)=>zs0 (Ty P n) (List.replicate k e) ds
  |_=>False
def AbsL(w:World)(cs:List Value)(vs:List Zc):Prop:=cs.map (znL w)=vs.map some
theorem AbsL.len{w:World}{cs:List Value}{vs:List Zc}(h:AbsL w cs vs):cs.length=vs.length:=by have:=congrArg List.length h;grind
theorem AbsL.get{w:World}{cs:List Value}{vs:List Zc}(h:AbsL w cs vs){i:Nat}{v:Value}(hi:cs[i]? = some v):∃c,vs[i]? = some c/\znL w v=some c:=by
 have:=congrArg (·[i]?) h
 grind
theorem AbsL.app{w:World}{a b:List Value}{x y:List Zc}(h:AbsL w a x)(k:AbsL w b y):AbsL w (a++b) (x++y):=by grind[AbsL]
theorem AbsL.conc{w:World}:∀{cs:List Value} {vs:List Zc},AbsL w cs vs->vs.map (zf (φ0 w))=cs/\∀c∈vs,wfC (φ0 w) (ym w).n.toNat c
 | [],[],_=>⟨rfl,fun c h=>by cases h⟩
 |v::cs,c::vs,h=>by
  simp only[AbsL,Yzu,List.cons.injEq]at h;obtain⟨k1,k2⟩:=zqG w h.1;obtain⟨k3,k4⟩:=AbsL.conc (show AbsL w cs vs from h.2)
  grind
 | [],_::_,h=>by cases h
 |_::_,[],h=>by cases h
def okV(w:World)(v:Value):Prop:=∀a,v=.slice (some a) 0 0->(zcn w a.block=true/\a.spot=none)\/a∈ze9 w
theorem ziG{w:World}{a:Addr}{v:Value}(h:w.cell? a=some v):okV w v/\a.spot=none/\∃arr e fr,w.heap[a.block]? = some (.cells arr e fr)/\arr[a.off]? = some v:=by
 have key:a.spot=none/\∃arr e fr,w.heap[a.block]? = some (.cells arr e fr)/\arr[a.off]? = some v:=by unfold World.cell? at h;split at h<;>simp_all
 obtain⟨h1,arr,e,fr,h2,h3⟩:=key;exact⟨fun b hb=>by grind[zo0],h1,arr,e,fr,h2,h3⟩
theorem ziQ{α β:Type}{f:α->Option β}:∀{l:List α} {r:List β},l.mapM f=some r->r.length=l.length/\∀(i:Nat) (x:α),l[i]? = some x->∃y,r[i]? = some y/\f x=some y
 | [],r,h=>by grind
 |a::l,r,h=>by
  simp only[List.mapM_cons,YzD,Option.bind_eq_some_iff,Yz1,Option.some.injEq]at h;obtain⟨b,hb,bs,hbs,rfl⟩:=h;obtain⟨k1,k2⟩:=ziQ hbs
  grind
section
variable {H:Type} {enc:TypeId×Value->H} {P:Program} {w:World} {base:Nat} {held:Bool}
def zjE(P:Program)(w:World)(m:Nat)(t:TypeId)(cs:List Value):Prop:=
 ∃vs ds,AbsL w cs vs/\RepL (fun b=>b.toNat<(ym w).n.toNat) (ym w) vs ds/\Ty P m t ds
theorem zf7{a:Addr}{n:Nat}{cs:List Value}(h:w.cells? base a n=some cs):cs.length=n/\∀j,j<n->∃v,cs[j]? = some v/\w.cell? (a.add j)=some v:=by
 unfold World.cells? at h;split at h
 .obtain⟨k1,k2⟩:=ziQ h;refine⟨by grind,fun j hj=>?_⟩;exact k2 j j (by rw[List.getElem?_range hj])
 cases h
theorem zbs{a:Addr}{len cap st:Nat}(hst:1<=st)(hlc:len<=cap){arr:Array Value}{e:TypeId}{fr:Nat×Nat}(hb:w.heap[a.block]? = some (.cells arr e fr))(hsp:a.spot=none)
  (C:Nat->List Zc) (X:Nat->List DV) (hC:∀i,i<len->(C i).length=st/\(X i).length=st/\(∀j c,(C i)[j]? = some c->(arr[a.off+(i*st+j)]?).bind (znL w)=some c)/\RepL (fun b=>b.toNat<(ym w).n.toNat) (ym w) (C i) (X i)):
  ∃c,znL w (.slice (some a) len cap)=some c/\Rep (fun b=>b.toNat<(ym w).n.toNat) (ym w) c (.lst st ((List.range len).map X)):=by
 have hd:zcn w a.block=true:=by grind[zcn]
 have hlt:=zjl hd;refine⟨.slc (bn a.block) a.off len cap true,?_,?_⟩
 .show (bif decide (zcn w a.block=true/\a.spot=none/\len<=cap) then _ else _)=_
  grind
 have hg:(ym w).t.get (bn a.block)=some (zrf w (.cells arr e fr)):=zaR w (by grind[zF])
 let L:=(List.range (len*st)).map fun j=>((C (j / st))[j % st]?).getD .nilp
 have hLl:L.length=len*st:=by simp[L]
 have hLg:∀i j,i<len->j<st->∃c,L[i*st+j]? = some c/\(C i)[j]? = some c:=fun i j hi hj=>by
  obtain⟨c,hc⟩:∃c,(C i)[j]? = some c:=⟨_,Lz5 (by grind)⟩;refine⟨c,?_,hc⟩;have h1:i*st+j<len*st:=by
   have:(i+1)*st<=len*st:=Yzj st hi
   grind
  have e1:(i*st+j) / st=i:=by rw[Nat.mul_comm,Nat.mul_add_div (by omega),Nat.div_eq_of_lt hj,Yzy]
  grind[Nat.mul_comm,Nat.mul_add_mod,Nat.mod_eq_of_lt]
 have hrd:rd (((List.range len).map X).length*st) a.off (zrf w (.cells arr e fr))=some L:=by
  rw[Yzh,List.length_range];refine zhH hLl fun j c hj=>?_;have hjl:j<len*st:=by grind
  have hi:j / st<len:=Nat.div_lt_of_lt_mul (by grind);have hr:j % st<st:=Yzt _ (by omega);have hj':j / st*st+j % st=j:=by grind[Nat.div_add_mod]
  obtain⟨c',k1,k2⟩:=hLg (j / st) (j % st) hi hr;rw[hj',hj]at k1;cases k1;have:=(hC _ hi).2.2.1 _ _ k2;simp_all
 have hX:∀(i:Nat) (x:List DV),((List.range len).map X)[i]? = some x->i<len/\x=X i:=fun i x hx=>by grind
 have:=Rep.lst (fz:=fun b=>b.toNat<(ym w).n.toNat) (h:=ym w) (b:=bn a.block) (o:=zrf w (.cells arr e fr)) (off:=a.off) (cap:=cap) (ex:=true) (st:=st) (xs:=(List.range len).map X) L
  (by grind[zF,qH]) hg (fun _=>by grind) hrd (fun i x hx=>by grind)
  (fun i x j c d hx hc hd => by
   obtain⟨hi,rfl⟩:=hX i x hx;have hj:j<st:=by grind
   obtain⟨c',k1,k2⟩:=hLg i j hi hj;rw[hc]at k1;cases k1;exact(hC i hi).2.2.2.2 j c d k2 hd)
 grind
theorem zge{m n:Nat}{held:Bool}(ih:∀{t:TypeId} {cs:List Value} {x:DataW H×List MemPlace},zas P m t=true->DataW.trod enc P w base (fun _=>true) held n t cs=some x->(∀v∈cs,okV w v)->zjE P w m t cs/\cs.length=P.cellsOf t):
  ∀(fs:List Field) (o e:Nat) (cs:List Value),(fs.all fun f=>zas P m f.type)=true->zf1 P fs o=some e->e=cs.length->o<=e->
   (∀f∈fs,∃y,DataW.trod enc P w base (fun _=>true) held n f.type ((cs.drop f.offset).take (P.cellsOf f.type))=some y)->(∀v∈cs,okV w v)->
   ∃vs ds,AbsL w (cs.drop o) vs/\RepL (fun b=>b.toNat<(ym w).n.toNat) (ym w) vs ds/\zs0 (Ty P m) (fs.map (·.type)) ds
 | [],o,e,cs,_,hc,he,_,_,_=>by cases hc;subst he;exact⟨[],[],by simp[AbsL],RepL.nil _ _,rfl⟩
 |f::fs,o,e,cs,hd,hc,he,hle,hm,hok=>by
  simp only[List.all_cons,LzC]at hd;simp only[zf1]at hc;cases hb:Nat.beq f.offset o
  .grind
  rw[hb,Yza]at hc;have ho:=Lz1 hb;obtain⟨x,hx⟩:=hm f (Yzk ..);rw[ho]at hx;obtain⟨⟨v1,d1,a1,r1,t1⟩,hl⟩:=ih hd.1 hx (fun v hv=>hok v (List.mem_of_mem_drop (List.mem_of_mem_take hv)));have hle2:o+P.cellsOf f.type<=cs.length:=by grind
  obtain⟨v2,d2,a2,r2,t2⟩:=zge ih fs (o+P.cellsOf f.type) e cs hd.2 hc he (by omega) (fun g hg=>hm g (Yzi _ hg)) hok;refine⟨v1++v2,d1++d2,?_,r1.app r2,d1,d2,rfl,t1,t2⟩;have:cs.drop o=(cs.drop o).take (P.cellsOf f.type)++cs.drop (o+P.cellsOf f.type):=by rw[<-YzE,List.take_append_drop]
  rw[this];exact a1.app a2
theorem zjC{m n:Nat}{held:Bool}{e:TypeId}(ih:∀{t:TypeId} {cs:List Value} {x:DataW H×List MemPlace},zas P m t=true->DataW.trod enc P w base (fun _=>true) held n t cs=some x->(∀v∈cs,okV w v)->zjE P w m t cs/\cs.length=P.cellsOf t)
  (hd:zas P m e=true):∀(k:Nat) (cs:List Value),cs.length=k*P.cellsOf e->(∀i,i<k->∃x,DataW.trod enc P w base (fun _=>true) held n e ((cs.drop (i*P.cellsOf e)).take (P.cellsOf e))=some x)->(∀v∈cs,okV w v)->
   ∃vs ds,AbsL w cs vs/\RepL (fun b=>b.toNat<(ym w).n.toNat) (ym w) vs ds/\zs0 (Ty P m) (List.replicate k e) ds
 |0,cs,hl,_,_=>by have:cs=[]:=List.length_eq_zero_iff.1 (by omega);subst this;exact⟨[],[],by simp[AbsL],RepL.nil _ _,rfl⟩
 |k+1,cs,hl,hx,hok=>by
  obtain⟨x,h0⟩:=hx 0 (by omega);rw[Nat.zero_mul,List.drop_zero]at h0;obtain⟨⟨v1,d1,a1,r1,t1⟩,_⟩:=ih hd h0 (fun v hv=>hok v (List.mem_of_mem_take hv));rw[Yz2]at hl;obtain⟨v2,d2,a2,r2,t2⟩:=zjC ih hd k (cs.drop (P.cellsOf e)) (by simp;omega) (fun i hi=>by grind[YzE]) (fun v hv=>hok v (List.mem_of_mem_drop hv))
  refine⟨v1++v2,d1++d2,?_,r1.app r2,d1,d2,rfl,t1,t2⟩;rw[<-List.take_append_drop (P.cellsOf e) cs];exact a1.app a2
theorem zfw:∀(m:Nat) {q:Nat} {t:TypeId} {cs:List Value} {x:DataW H×List MemPlace},zas P m t=true->DataW.trod enc P w base (fun _=>true) held q t cs=some x->(∀v∈cs,okV w v)->zjE P w m t cs/\cs.length=P.cellsOf t
 |0,_,_,_,_,h,_,_=>by cases h
 |m+1,fu,t,cs,x,hd,ht,hok=>by
  have ih:=@zfw m;unfold zas at hd;unfold zjE;unfold Ty;rcases hu:P.underlying t with _|d
  .grind
  rw[hu]at hd;cases d<;>first|(cases (show false=true from hd);done)|skip
  case bool=>have h1:=Lz1 hd;obtain⟨b,rfl,_⟩:=DataW.trod_bool hu ht;exact⟨⟨[_],[_],rfl,RepL.cons (.bool _) (RepL.nil _ _),b,rfl⟩,h1.symm⟩
  case int k=>have h1:=Lz1 hd;obtain⟨n,rfl,_,hw⟩:=DataW.trod_int hu ht;exact⟨⟨[_],[_],rfl,RepL.cons (.int _ _) (RepL.nil _ _),n,rfl,hw⟩,h1.symm⟩
  case string=>have h1:=Lz1 hd;obtain⟨s,rfl,_,hw⟩:=DataW.trod_string hu ht;exact⟨⟨[_],[_],rfl,RepL.cons (.str _) (RepL.nil _ _),s,rfl,hw⟩,h1.symm⟩
  case slice e=>
   simp only[LzC]at hd;obtain⟨⟨hd1,hst⟩,hc1⟩:=hd;have hst:=Lz4 hst;have hc1:=Lz1 hc1;rcases DataW.trod_slice hu ht with⟨rfl,_⟩|⟨a,len,cap,elems,rest,n,hn,rfl,_,_,hlc,hcap,hel,hE,hR,_⟩
   .exact⟨⟨[_],[_],rfl,RepL.cons .nils (RepL.nil _ _),.inl rfl⟩,hc1.symm⟩
   subst hn;have hok:=hok _ (Yzk ..);refine⟨?_,hc1.symm⟩;have one:∀i,i<len->∃vs ds,(vs.length=P.cellsOf e/\ds.length=P.cellsOf e/\(∀j c,vs[j]? = some c->∃v,w.cell? ((a.add (i*P.cellsOf e)).add j)=some v/\znL w v=some c))/\RepL (fun b=>b.toNat<(ym w).n.toNat) (ym w) vs ds/\Ty P m e ds:=fun i hi=>by
    have h:=hE i hi;obtain⟨y,hy⟩:∃y,elems[i]? = some y:=⟨_,Lz5 (by omega)⟩;rw[hy,Option.bind_eq_some_iff]at h;obtain⟨cs,h1,h2⟩:=h;obtain⟨k1,k2⟩:=zf7 h1;obtain⟨⟨vs,ds,a1,r1,t1⟩,hl⟩:=ih hd1 h2 (fun v hv=>by obtain⟨j,hj⟩:=List.mem_iff_getElem?.1 hv;obtain⟨v',g1,g2⟩:=k2 j (by grind);rw[hj]at g1;cases g1;exact(ziG g2).1)
    refine⟨vs,ds,⟨by rw[<-a1.len,hl],by rw[<-r1.1,<-a1.len,hl],fun j c hj=>?_⟩,r1,t1⟩;obtain⟨v',g1,g2⟩:=k2 j (by rw[<-k1,a1.len];grind);obtain⟨c',q1,q2⟩:=a1.get g1
    grind
   by_cases hc0:cap=0
   .have hl0:len=0:=by omega
    subst hc0 hl0;rcases hok a rfl with⟨hdb,hsp⟩|hm
    .obtain⟨arr,el,fr,hb⟩:=zcm hdb;obtain⟨c,q1,q2⟩:=zbs (len:=0) (cap:=0) hst (LzB _) hb hsp (fun _=>[]) (fun _=>[]) (fun i hi=>by omega);exact⟨[c],[.lst (P.cellsOf e) []],by grind[AbsL],RepL.cons q2 (RepL.nil _ _),.inr ⟨[],rfl,by simp,fun x hx=>by cases hx⟩⟩
    by_cases hdb:zcn w a.block=true/\a.spot=none
    .obtain⟨arr,el,fr,hb⟩:=zcm hdb.1;obtain⟨c,q1,q2⟩:=zbs (len:=0) (cap:=0) hst (LzB _) hb hdb.2 (fun _=>[]) (fun _=>[]) (fun i hi=>by omega);exact⟨[c],[.lst (P.cellsOf e) []],by grind[AbsL],RepL.cons q2 (RepL.nil _ _),.inr ⟨[],rfl,by simp,fun x hx=>by cases hx⟩⟩
    have hi:=zeE hm;have hlt:=(Lz0.1 hi).1;refine⟨[.slc (bn (w.heap.size+zuU a (ze9 w))) 0 0 0 true],[.lst (P.cellsOf e) []],?_,RepL.cons ?_ (RepL.nil _ _),.inr ⟨[],rfl,by simp,fun x hx=>by cases hx⟩⟩
    .grind[znL,AbsL]
    exact Rep.lst (o:=.void) (xs:=[]) [] (by grind[zF,qH]) (zkw w hlt) (fun _=>LzB _) (by simp[rd]) (fun i x hx=>by simp at hx) (fun i x j c d hx=>by simp at hx)
   have hthere:a.spot=none/\∃arr el fr,w.heap[a.block]? = some (.cells arr el fr):=by
    have go:∀cs,w.cells? base (a.add (0*P.cellsOf e)) (P.cellsOf e)=some cs->a.spot=none/\∃arr el fr,w.heap[a.block]? = some (.cells arr el fr):=fun cs h=>by
     obtain⟨v,_,g2⟩:=(zf7 h).2 0 (by omega);have e0:(a.add (0*P.cellsOf e)).add 0=a:=by rw[Nat.zero_mul];rfl
     rw[e0]at g2;obtain⟨_,g3,arr,el,fr,g4,_⟩:=ziG g2
     grind
    by_cases hl0:0<len
    .grind[Option.bind_eq_some_iff]
    obtain⟨hrl,hr⟩:=hR rfl;have h:=hr 0 (by omega)
    grind[Option.bind_eq_some_iff]
   obtain⟨hsp,arr,el,fr,hb⟩:=hthere;have hch:∃(C:Nat->List Zc) (X:Nat->List DV),∀i,i<len->((C i).length=P.cellsOf e/\(X i).length=P.cellsOf e/\(∀j c,(C i)[j]? = some c->∃v,w.cell? ((a.add (i*P.cellsOf e)).add j)=some v/\znL w v=some c))/\RepL (fun b=>b.toNat<(ym w).n.toNat) (ym w) (C i) (X i)/\Ty P m e (X i):=by
    have:∀i:Nat,∃q:List Zc×List DV,i<len->(q.1.length=P.cellsOf e/\q.2.length=P.cellsOf e/\(∀j c,q.1[j]? = some c->∃v,w.cell? ((a.add (i*P.cellsOf e)).add j)=some v/\znL w v=some c))/\RepL (fun b=>b.toNat<(ym w).n.toNat) (ym w) q.1 q.2/\Ty P m e q.2:=fun i=>by
     by_cases hi:i<len
     .simp_all
     exact⟨([],[]),fun h=>absurd h hi⟩
    obtain⟨q,hq⟩:=Classical.axiomOfChoice this;exact⟨fun i=>(q i).1,fun i=>(q i).2,hq⟩
   obtain⟨C,X,hCX⟩:=hch;obtain⟨c,q1,q2⟩:=zbs hst hlc hb hsp C X (fun i hi=>by
    obtain⟨⟨g1,g2,g3⟩,g4,_⟩:=hCX i hi;refine⟨g1,g2,fun j c hj=>?_,g4⟩;obtain⟨v,k1,k2⟩:=g3 j c hj;have e1:(a.add (i*P.cellsOf e)).add j=⟨a.block,a.off+(i*P.cellsOf e+j),none⟩:=by
     obtain⟨ab,ao,az⟩:=a
     grind[Addr.add]
    grind[zjr])
   refine⟨[c],[.lst (P.cellsOf e) ((List.range len).map X)],by grind[AbsL],RepL.cons q2 (RepL.nil _ _),.inr ⟨_,rfl,by simp;omega,fun x hx=>?_⟩⟩
   grind
  case struct fs=>
   simp only[LzC]at hd;obtain⟨xs,n,hn,_,hl,hxl,hx⟩:=DataW.trod_struct hu ht;subst hn;refine⟨?_,hl⟩;rcases hc:zf1 P fs.toList 0 with _|q
   .grind
   rw[hc]at hd;have hq:=Lz1 hd.2;have:=zge (held:=held) (fun a b c=>ih a b c) fs.toList 0 q cs hd.1 hc (by rw[hq,hl]) (Yzn _) (fun f hf=>by
    obtain⟨i,hi⟩:=List.mem_iff_getElem?.1 hf;have h1:=hx i f (by grind);have hlt:i<xs.length:=by grind
    exact⟨_,h1.trans (Lz5 hlt)⟩) hok
   trivial
  case array k e=>simp only[LzC]at hd;obtain⟨xs,n,hn,_,hl,hxl,hx⟩:=DataW.trod_array hu ht;subst hn;refine⟨?_,hl⟩;exact zjC (held:=held) (fun a b c=>ih a b c) hd.1 k cs (by simp_all) (fun i hi=>⟨_,(hx i hi).trans (Lz5 (by omega))⟩) hok
theorem zry{P:Program}{w:World}{base:Nat}{t:TypeId}{v:Value}(h:Cell.okWide P w .any base t v):okV w v:=by
 intro a ha;subst ha
 left
 have h:Cell.ok P w .any base t (.slice (some a) 0 0):=by simp_all[Cell.okWide]
 unfold Cell.ok at h;split at h<;>first|(rename_i hh;cases hh;done)|skip
 all_goals simp_all
 obtain⟨_,_,_,h1,row,cells,h2,_⟩:=h
 grind[World.shape?,zcn]
theorem open_row{t:TypeId}{v:Value}{d:DataW H}{p:List MemPlace}(m:Nat)(hu:(match P.underlying t with|some (.struct _)|some (.array _ _)=>true|_=>false)=true)(hd:zas P m t=true)
  (hv:Value.okWide P w .any base t v) (h:DataW.Trod enc P w 0 (fun _=>true) held t v d p):
  ∃vs ds,v=zm (φ0 w) (.s (.agg vs))/\RepL (fun b=>b.toNat<(ym w).n.toNat) (ym w) vs ds/\wfA (φ0 w) (ym w).n.toNat (.s (.agg vs))/\Ty P m t ds:=by
 have:∃cs,v=.agg cs/\cs.size=P.cellsOf t/\Row.okWide P w .any base t cs:=by grind[Value.okWide]
 obtain⟨cs,rfl,hsz,ts,_,_,hc⟩:=this;obtain⟨q,hq⟩:=h;obtain⟨⟨vs,ds,a,r,ty⟩,_⟩:=zfw m hd hq (fun v hv=>by obtain⟨i,hi⟩:=List.mem_iff_getElem?.1 hv;obtain⟨u,_,ho⟩:=hc i v (by rw[<-LzA];exact hi);exact zry ho)
 obtain⟨k1,k2⟩:=a.conc;refine⟨vs,ds,?_,r,k2,ty⟩;show Value.agg cs=.agg ((vs.map (zf (φ0 w))).toArray);rw[k1];rfl
end
end Go.PE
end
section
namespace Go.CE
open Go Go.RowKit Go.Shelf Go.Sort
open Go.Proofs (sortWorldK)
theorem zpr(k:Nat):inZ (List.replicate k 0)=true:=by grind[inZ]
abbrev Rw(k:Nat):={l:List Int // zvE k l}
instance (k:Nat):Inhabited (Rw k):=⟨⟨List.replicate k 0,Yyf,zpr k⟩⟩
end Go.CE
end
section
namespace Go.CE
open Go Go.RowKit Go.Shelf Go.Sort
open Go.Proofs (sortWorldK)
end Go.CE
end
