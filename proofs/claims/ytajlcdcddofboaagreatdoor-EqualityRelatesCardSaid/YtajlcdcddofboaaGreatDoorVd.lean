/-
  Lemmas. No condition.
-/
import Derived.Test.YtajlcdcddofboaaGreatDoorVc
section
namespace Go.PE
open Go Go.CE
section
variable {β:Type} {C:Nat→zg} {E:En} {lk:Nat→Bool} {N:Nm} {os:List PO} {r:Fr} {ρ:Nat→PA} {k:KT β} {x:β}
theorem zl5:∀(l:List (BN×Nat)),zx1 .nil (cL (l.map fun(p:BN×Nat)=>Zb.s (.one (.ptr p.1 p.2))))=some l
 | []=>rfl
 |p::l=>by
  show (match (zu (.s (.one (.ptr p.1 p.2))):Opd) .nil with | .s (.one (.ptr b off))=>wo (b,off) (zx1 .nil (cL (l.map fun(p:BN×Nat)=>Zb.s (.one (.ptr p.1 p.2)))))|_=>none)=_;simp only[zu,zl5 l,wo]
theorem zfa(F:∀i,RepPA N (r i) (ρ i)):∀{xs:List Operand} {l:List (Nat⊕List DV)},znR ρ xs=some l→∃ps:List (BN×Nat),kvs r xs=some (ps.map fun(p:BN×Nat)=>Zb.s (.one (.ptr p.1 p.2)))∧RepCaps N ps l
 | [],l,e=>by cases e;exact⟨[],rfl,trivial⟩
 |a::xs,l,e=>by
  simp only[znR]at e;split at e
  ·rename_i j l' h1 h2;cases e;obtain⟨v,ka,ra⟩:=wM F h1;obtain⟨ps,k1,k2⟩:=zfa F h2;obtain⟨w,rfl,hj,b,hb,rfl⟩:=yk ra;exact⟨(b,0)::ps,by simp only[kvs,ka,k1,Yzp],⟨hj,hb,rfl⟩,k2⟩
  ·rename_i y l' h1 h2;cases e;obtain⟨v,ka,ra⟩:=wM F h1;obtain⟨ps,k1,k2⟩:=zfa F h2;obtain⟨w,rfl,hw⟩:=wN ra;have hw':=hw;obtain⟨b,o,base,cs,rfl,_⟩:=hw.fp_inv;exact⟨(b,base+0)::ps,by simp only[kvs,ka,k1,Yzp],hw',k2⟩
  ·cases e
theorem zqx(I:Zf E N os)(F:∀i,RepPA N (r i) (ρ i)){f:Nat}{caps:List Operand} (e:za (znR ρ caps) (fun l=>
  match l with
  | []=>k (pd (.fn f [])) os [] []
  |x::l=>k (pc (.clo f (x::l))) os [] [])=some x):GoalQ N os r ρ (.mkfn f caps) k x:=by
 have hh:=zm e;clear e;obtain⟨l,hl,e⟩:=hh;obtain⟨ps,k1,k2⟩:=zfa F hl;have run:∀call,runK r (.mkfn f caps) call N.h=some (.s (.one (.fn f ps)),N.h):=fun call=>by
  simp only[runK,k1];show (match zx1 .nil (cL (ps.map fun(p:BN×Nat)=>Zb.s (.one (.ptr p.1 p.2)))) with|some l=>some (Zb.s (.one (.fn f l)),N.h)|none=>none)=_;rw[zl5]
 cases l with
 |nil=>
  cases ps with
  |nil=>exact .quiet I run (uk (.fn_mk (.nil _ _))) e
  |cons p ps=>exact k2.elim
 |cons a l=>exact .quiet I run (y4 (p:=.clo f (a::l)) ⟨ps,rfl,k2⟩) e
theorem ziX{fz:BN→Prop}{h:Za}:∀{xs:List (List DV)} {cs:List Zc} {ns:List Int},zky xs=some ns→cs.length=xs.length→(∀(i:Nat) (x:List DV),xs[i]? = some x→RepL fz h ((cs.drop i).take 1) x)→za0 cs=some ns
 | [],cs,ns,e,hl,_=>by
  cases e;rw[List.length_eq_zero_iff.1 hl];rfl
 |x::xs,cs,ns,e,hl,H=>by
  unfold zky at e;split at e
  ·rename_i h;cases h
  ·rename_i n cs' h;cases h;cases hn:zky xs with
   |none=>rw[hn]at e;cases e
   |some l=>
    rw[hn]at e;cases e;cases cs with
    |nil=>simp at hl
    |cons c cs=>
     have h0:=H 0 _ rfl;simp only[YyM,List.take_succ_cons,List.take_zero]at h0;have:=(h0.inv.1).scal rfl;subst this;have ih:=ziX hn (by simpa using hl) (fun i y hy=>by have:=H (i+1) y (by simpa using hy);simpa using this);show wo n (za0 cs)=_;rw[ih];rfl
  ·cases e
theorem zqS{fz:BN→Prop}{h:Za}{w:Zc}{v z:DV}(H:Rep fz h w v)(e:zx3 v=some z):∃c,qI (zu (.s (.one w))) yv .nil h=some (.s (.one c),h)∧z.scal=some c:=by
 unfold zx3 at e;split at e
 ·cases e;rw[H.scal rfl];exact⟨_,rfl,rfl⟩
 ·rename_i xs;cases hn:zky xs with
  |none=>rw[hn]at e;cases e
  |some ns=>
   rw[hn]at e;cases e;obtain⟨b,o,off,cap,ex,cs,rfl,h1,h2,h3,h4,h5⟩:=H.lst_inv;have hns:=ziX (cs:=cs) hn (by rw[zdg h4];omega) fun i x hx=>by
    have:=(h5 i x hx).2
    rwa [YyL]at this
   refine⟨_,?_,rfl⟩;rw[YyL]at h4;show (match h.t.get b with
    |some (.cells cs _)=>zxc h (cut xs.length cs off)
    |some (.ro _ f)=>zxc h (zxf f xs.length off)
    |some (.tcells cs _ _)=>zxc h (cut xs.length cs off)
    |some .void=>zxc h (bif Nat.beq xs.length 0 then some [] else none)
    |_=>none)=_
   rw[h2];cases o with
   |cells l st=>show zxc h (cut xs.length l off)=_;rw[show cut xs.length l off=some cs from h4];simp only[zxc,hns]
   |ro y f=>show zxc h (zxf f xs.length off)=_;rw[show zxf f xs.length off=some cs from h4];simp only[zxc,hns]
   |void=>show zxc h (bif Nat.beq xs.length 0 then some [] else none)=_;rw[show (bif Nat.beq xs.length 0 then some [] else none)=some cs from h4];simp only[zxc,hns]
   |_=>cases h4
 ·cases e
theorem zt2(I:Zf E N os)(F:∀i,RepPA N (r i) (ρ i)){a:Operand} (e:w1 (pv ρ a) (fun c=>
  match c with
  | .d v=>za (zx3 v) fun z=>k (pd z) os [] []
  | .own j=>
   match og os j with
   | .arr st v=>za (zx3 (mkL st v)) fun z=>k (pd z) os [] [j]
   |_=>none
  |_=>none)=some x):GoalQ N os r ρ (.b2s a) k x:=by
 have hh:=uE F e;clear e;obtain⟨c,v,e,ka,ra,pka⟩:=hh;cases c<;>first|cases e|skip
 ·rename_i d;simp only at e;have hh:=zm e;clear e;obtain⟨z,hz,e⟩:=hh;obtain⟨w,rfl,hw⟩:=wN ra;obtain⟨c,h1,h2⟩:=zqS hw hz;refine .quiet I (fun call=>by simp only[runK,ka,zH];exact h1) (yP h2) e (hm:=fun xo hx=>?_);cases hx;refine⟨_,ka,?_⟩;cases hw with
  |lst cs g1 g2=>
   refine .inr ⟨_,rfl,.inr ⟨rfl,fun N' H=>?_⟩⟩;obtain⟨w',hw',hr'⟩:=wN (H _ _ ka pka);cases hw';obtain⟨b2,o2,off2,cap2,ex2,cs2,q1,q2,q3,_⟩:=hr'.lst_inv;cases q1;exact⟨q2,_,q3⟩
  |nils=>exact .inl rfl
  |_=>cases hz
 ·rename_i j;simp only at e;obtain⟨c,rfl,hj,hc⟩:=yk ra;cases ho:og os j with
  |arr st vo=>
   rw[ho]at e;simp only at e;have hh:=zm e;clear e;obtain⟨z,hz,e⟩:=hh;have hO:=I.obj j;rw[ho]at hO;have:=zib (fz':=fun _=>True) ⟨fun _ _ _ _=>trivial,fun _ _ _ h=>h⟩ hO (fun _ _ _=>trivial);obtain⟨c',h1,h2⟩:=zqS this hz;refine .quiet I (fun call=>by simp only[runK,ka,zH];rw[hc];exact h1) (yP h2) e (hm:=fun xo hx=>?_);cases hx;refine⟨_,ka,?_⟩;cases vo with
   |none=>exact .inl (by rw[hc,show N.μ j=.nils from hO];rfl)
   |some xs=>
    obtain⟨b,vs,ex,q1,_⟩:=hO;exact .inr ⟨b,by rw[hc,q1];rfl,.inl ⟨j,rfl,hj,by rw[q1];rfl,by rw[ho];trivial,fun N' H=>(yk (H _ _ ka pka)).elim fun _ q=>q.2.1⟩⟩
  |_=>rw[ho]at e;cases e
theorem zqP{t:Tr Zb}{x:Option DV}{o:Option Zb}{d y y' i:Nat}(hx:∀v,x=some v→∃w,o=some w∧RepPA N w (pd v))(hn:x=none→o=none)(e:zxb x d y=some i)(hy:y≤y'):bnd t (cO o) d y'=some i:=by
 refine uC hx hn ?_;cases x with
 |none=>exact e
 |some v=>
  cases v<;>first|cases e|skip
  rename_i kk n;cases n with
  |negSucc n=>cases e
  |ofNat n=>
   simp only[zxb]at e ⊢;cases hb:Nat.ble n y with
   |false=>rw[hb]at e;cases e
   |true=>
    rw[hb]at e;have:=Lz4 hb;rw[Yzm (by omega:n≤y')];exact e
theorem zaO{x:Option DV}{d y i:Nat}(e:zxb x d y=some i)(hd:d≤y):i≤y:=by
 cases x with
 |none=>cases e;exact hd
 |some v=>
  cases v<;>first|cases e|skip
  rename_i kk n;cases n with
  |negSucc n=>cases e
  |ofNat n=>
   simp only[zxb]at e;cases hb:Nat.ble n y with
   |false=>rw[hb]at e;cases e
   |true=>rw[hb]at e;cases e;exact Lz4 hb
theorem zoK{st:Nat}{w:Zc}{v z:DV}{lo hi:Option DV}{ol oh:Option Zb}(H:Rep N.fz N.h w v)(l1:∀v,lo=some v→∃w,ol=some w∧RepPA N w (pd v))(l2:lo=none→ol=none)(h1:∀v,hi=some v→∃w,oh=some w∧RepPA N w (pd v))(h2:hi=none→oh=none)
  (e:jk st v lo hi=some z):∃c,uV st (.s (.one w)) ol oh none N.h=some (.s (.one c),N.h)∧Rep N.fz N.h c z:=by
 unfold jk at e;split at e
 ·split at e
  ·rename_i a b ha hb;cases e;rw[H.scal rfl];refine⟨.nils,?_,.nils⟩;show xL (cO ol) (cO oh) (cO none) .nil N.h=_;unfold xL;rw[uC h1 h2 ha,uC l1 l2 hb];rfl
  ·cases e
 ·rename_i st' xs;cases hs:Nat.beq st st' with
  |false=>rw[hs]at e;cases e
  |true=>
   rw[hs]at e;have:=Lz1 hs;subst this;simp only[Yza]at e;cases hh:zxb hi xs.length xs.length with
   |none=>rw[hh]at e;cases e
   |some y=>
    rw[hh]at e;simp only at e;cases hl:zxb lo 0 y with
    |none=>rw[hl]at e;cases e
    |some l=>
     rw[hl]at e;simp only at e;cases hc:(Nat.beq l 0 || !Nat.beq l y) with
     |false=>rw[hc]at e;cases e
     |true=>
      rw[hc]at e;cases e;obtain⟨b,o,off,cap,ex,cs,rfl,g1,g2,g3,g4,g5⟩:=H.lst_inv;have hy:=zaO hh (LzB _);have hly:=zaO hl (YzC _);have hlen:((xs.drop l).take (y-l)).length=y-l:=by simp;omega
      have ml:l*st≤y*st:=Yzq st hly;have my:y*st≤xs.length*st:=Yzq st hy;have rep:∀(cap':Nat) (ex':Bool),(ex'=true→y-l≤cap')→Rep N.fz N.h (.slc b (off+l*st) (y-l) cap' ex') (.lst st ((xs.drop l).take (y-l))):=by
       intro cap' ex' hcap;have:=Rep.lst_mk (off:=off+l*st) (cap:=cap') (ex:=ex') (xs:=(xs.drop l).take (y-l)) (cs:=(cs.drop (l*st)).take ((y-l)*st)) g1 g2 (by rw[hlen];exact hcap)
        (by rw [hlen]; exact zdf g4 (by rw [Nat.mul_sub_right_distrib]; omega)) (fun i z hz => by
         rw[Yzo]at hz;split at hz
         ·rename_i hi;rw[Yzr]at hz;obtain⟨q1,q2⟩:=g5 _ _ hz;refine⟨q1,?_⟩;have e1:List.take st (List.drop (i*st) (List.take ((y-l)*st) (List.drop (l*st) cs)))=List.take st (List.drop ((l+i)*st) cs):=by
           have:=Yzq st (show i+1≤y-l from hi);rw[YzJ]at this;rw[List.drop_take,Yyd,List.take_take,Yz6,Nat.min_eq_left (by omega)]
          rw[e1];exact q2
         ·cases hz)
       rwa [hlen]at this
      cases ex with
      |true=>
       have hcap:=g3 rfl;have run:uV st (.s (.one (.slc b off xs.length cap true))) ol oh none N.h=some (.s (.one (.slc b (bif Nat.beq cap l then off else off+l*st) (y-l) (cap-l) true)),N.h):=by
        show xu st (cO ol) (cO oh) (cO none) .nil N.h b off xs.length cap=_;unfold xu;have hm:bnd .nil (cO none) cap cap=some cap:=(id rfl);rw[hm];simp only;rw[zqP h1 h2 hh hcap];simp only;rw[uC l1 l2 hl];simp only;rw[Yzm (by omega:y≤cap)];rfl
       refine⟨_,run,?_⟩;cases hq:Nat.beq cap l with
       |false=>exact rep _ _ (fun _=>by omega)
       |true=>
        have hq:=Lz1 hq;have hly2:l=y:=by omega
        have hl0:l=0:=by
         rw[YzL]at hc;rcases hc with hc|hc
         ·exact Lz1 hc
         ·rw[hly2,Yzu]at hc;cases hc
        have:=rep (cap-l) true (fun _=>by omega);rw[show off+l*st=off by rw[hl0];omega]at this;exact this
      |false=>
       have run:uV st (.s (.one (.slc b off xs.length cap false))) ol oh none N.h=some (.s (.one (.slc b (off+l*st) (y-l) (cap+l) false)),N.h):=by
        show xj st (cO ol) (cO oh) (cO none) .nil N.h b off xs.length cap=_;unfold xj;show (match bnd .nil (cO oh) xs.length xs.length with
         |some hh=>match bnd .nil (cO ol) 0 hh with
          |some l=>bif Nat.beq l 0 || !Nat.beq l hh then some (Zb.s (.one (.slc b (off+l*st) (hh-l) (cap+l) false)),N.h) else none
          |none=>none
         |none=>none)=_
        rw[uC h1 h2 hh];simp only;rw[uC l1 l2 hl];simp only;rw[hc];rfl
       exact⟨_,run,rep _ _ (fun h=>by cases h)⟩
 ·cases e
theorem zef(zs:List Zc):∀n,(zwX zs n).length=n*zs.length
 |0=>by simp[zwX]
 |n+1=>by rw[zwX,Yzz,zef zs n,YzJ,YyN]
theorem zeg(zs:List Zc):∀(n i:Nat),i<n→((zwX zs n).drop (i*zs.length)).take zs.length=zs
 |0,i,h=>by omega
 |n+1,0,_=>by simp[zwX]
 |n+1,i+1,h=>by
  rw[zwX,YzJ,YyN,←Yyd];rw[List.drop_left];exact zeg zs n i (by omega)
theorem zc1{st off len cap l n:Nat}{ex:Bool}{b:BN}{lo hi:Option DV}{ol oh:Option Zb}(hex:ex=true→len≤cap)(l1:∀v,lo=some v→∃w,ol=some w∧RepPA N w (pd v))(l2:lo=none→ol=none)(h1:∀v,hi=some v→∃w,oh=some w∧RepPA N w (pd v))(h2:hi=none→oh=none)
  (e:vwB lo hi len=some (l,n)) (h:Za):l+n≤len∧∃cap' ex',uV st (.s (.one (.slc b off len cap ex))) ol oh none h=some (.s (.one (.slc b (off+l*st) n cap' ex')),h)∧(ex'=true→n≤cap'):=by
 unfold vwB at e;cases hh:zxb hi len len with
 |none=>rw[hh]at e;cases e
 |some y=>
  rw[hh]at e;simp only at e;cases hl:zxb lo 0 y with
  |none=>rw[hl]at e;cases e
  |some l0=>
   rw[hl]at e;simp only at e;cases hc:(Nat.beq l0 0 || !Nat.beq l0 y) with
   |false=>rw[hc]at e;cases e
   |true=>
    rw[hc]at e;cases e;have hy:=zaO hh (LzB _);have hly:=zaO hl (YzC _);refine⟨by omega,?_⟩;cases ex with
    |true=>
     have hcap:=hex rfl;have run:uV st (.s (.one (.slc b off len cap true))) ol oh none h=some (.s (.one (.slc b (bif Nat.beq cap l then off else off+l*st) (y-l) (cap-l) true)),h):=by
      show xu st (cO ol) (cO oh) (cO none) .nil h b off len cap=_;unfold xu;have hm:bnd .nil (cO none) cap cap=some cap:=(id rfl);rw[hm];simp only;rw[zqP h1 h2 hh hcap];simp only;rw[uC l1 l2 hl];simp only;rw[Yzm (by omega:y≤cap)];rfl
     refine⟨cap-l,true,run.trans ?_,fun _=>by omega⟩;cases hq:Nat.beq cap l with
     |false=>rfl
     |true=>
      have hq:=Lz1 hq;have hly2:l=y:=by omega
      have hl0:l=0:=by
       rw[YzL]at hc;rcases hc with hc|hc
       ·exact Lz1 hc
       ·rw[hly2,Yzu]at hc;cases hc
      rw[hl0,Nat.zero_mul];rfl
    |false=>
     refine⟨cap+l,false,?_,fun h=>by cases h⟩;show xj st (cO ol) (cO oh) (cO none) .nil h b off len cap=_;unfold xj;show (match bnd .nil (cO oh) len len with
      |some hh=>match bnd .nil (cO ol) 0 hh with
       |some l=>bif Nat.beq l 0 || !Nat.beq l hh then some (Zb.s (.one (.slc b (off+l*st) (hh-l) (cap+l) false)),h) else none
       |none=>none
      |none=>none)=_
     rw[uC h1 h2 hh];simp only;rw[uC l1 l2 hl];simp only;rw[hc];rfl
theorem zc2{st l n:Nat}{lo hi:Option DV}{ol oh:Option Zb}(l1:∀v,lo=some v→∃w,ol=some w∧RepPA N w (pd v))(l2:lo=none→ol=none)(h1:∀v,hi=some v→∃w,oh=some w∧RepPA N w (pd v))(h2:hi=none→oh=none)
  (e:vwB lo hi 0=some (l,n)) (h:Za):l=0∧n=0∧uV st (.s (.one .nils)) ol oh none h=some (.s (.one .nils),h):=by
 unfold vwB at e;cases hh:zxb hi 0 0 with
 |none=>rw[hh]at e;cases e
 |some y=>
  have hy:=zaO hh (LzB _);obtain rfl:y=0:=by omega
  rw[hh]at e;simp only at e;cases hl:zxb lo 0 0 with
  |none=>rw[hl]at e;cases e
  |some l0=>
   have hy:=zaO hl (LzB _);obtain rfl:l0=0:=by omega
   rw[hl]at e;cases e;refine⟨rfl,rfl,?_⟩;show xL (cO ol) (cO oh) (cO none) .nil h=_;unfold xL;rw[uC h1 h2 hh,uC l1 l2 hl];rfl
theorem zmm(I:Zf E N os)(F:∀i,RepPA N (r i) (ρ i)){st:Nat}{a:Operand}{lo hi mx:Option Operand} (e:(match mx with
  |none=>w1 (pv ρ a) fun c=>za (pvo ρ lo) fun lo=>za (pvo ρ hi) fun hi=>zen os st c lo hi k
  |some _=>none)=some x):GoalQ N os r ρ (.slice st a lo hi mx) k x:=by
 cases mx with
 |some m=>cases e
 |none=>
  simp only at e;have hh:=uE F e;clear e;obtain⟨c,v,e,ka,ra,pka⟩:=hh;have hq:=zm e;clear e;obtain⟨l,hl,e⟩:=hq;have hq:=zm e;clear e;obtain⟨h,hh,e⟩:=hq;obtain⟨ol,kl,l1,l2⟩:=ziH F hl;obtain⟨oh,kh,h1,h2⟩:=ziH F hh;have run:∀call,runK r (.slice st a lo hi none) call N.h=uV st v ol oh none N.h:=fun call=>by
   show zH (kv r a) (fun x=>match kvo r lo,kvo r hi,(some none:Option (Option Zb)) with|some lo,some hi,some mx=>uV st x lo hi mx N.h|_,_,_=>none)=_;rw[ka,kl,kh];rfl
  have data:∀(w:Zc) (d:DV),v=.s (.one w)→Rep N.fz N.h w d→za (jk st d l h) (fun z=>k (pd z) os [] [])=some x→GoalQ N os r ρ (.slice st a lo hi none) k x:=by
   intro w d hv hw e;have hq:=zm e;clear e;obtain⟨z,hz,e⟩:=hq;obtain⟨c',q1,q2⟩:=zoK hw l1 l2 h1 h2 hz;exact .quiet I (v:=.s (.one c')) (fun call=>by rw[run,hv];exact q1) (uk q2) e
  cases c with
  |d d=>
   obtain⟨w,hv,hw⟩:=wN ra;exact data w d hv hw e
  |own j=>
   obtain⟨w,hv,hj,hw⟩:=yk ra;simp only[zen]at e;cases ho:og os j with
   |frz d=>
    rw[ho]at e;have hO:=I.obj j;rw[ho]at hO;exact data w d hv (by rw[hw];exact hO) e
   |arr st' vo=>
    rw[ho]at e;simp only at e;cases hs:Nat.beq st st' with
    |false=>rw[hs]at e;cases e
    |true=>
     rw[hs]at e;have:=Lz1 hs;subst this;simp only[Yza]at e;have hq:=zm e;clear e;obtain⟨⟨p1,p2⟩,hp,e⟩:=hq;cases vo with
     |none=>
      have hO:=I.obj j;rw[ho]at hO;have hO:N.μ j=.nils:=hO;obtain⟨rfl,rfl,q⟩:=zc2 (st:=st) l1 l2 h1 h2 hp N.h;exact .quiet I (v:=.s (.one .nils)) (fun call=>by rw[run,hv,hw,hO];exact q) (y4 (p:=.vw j st 0 0) ⟨hj,.inl ⟨hO,rfl,rfl,rfl⟩⟩) e
     |some xs=>
      obtain⟨b,vs,ex,g1,_⟩:=zaR I ho;obtain⟨q0,cap',ex',q1,q2⟩:=zc1 (st:=st) (off:=0) (b:=b) (cap:=bif ex then xs.length else 0) (ex:=ex) (fun h=>by rw[h];exact LzB _) l1 l2 h1 h2 hp N.h;refine .quiet I (v:=.s (.one (.slc b (p1*st) p2 cap' ex'))) (fun call=>?_) (y4 (p:=.vw j st p1 p2) ⟨hj,.inr ⟨b,_,_,_,cap',ex',g1,rfl,q0,q2⟩⟩) e;rw[run,hv,hw,g1];rw[Yze]at q1;exact q1
   |_=>rw[ho]at e;cases e
  |vw j st' lo2 n2=>
   obtain⟨w,hv,hj,hw⟩:=yk ra;simp only[zen]at e;cases hs:Nat.beq st st' with
   |false=>rw[hs]at e;cases e
   |true=>
    rw[hs]at e;have:=Lz1 hs;subst this;simp only[Yza]at e;have hq:=zm e;clear e;obtain⟨⟨p1,p2⟩,hp,e⟩:=hq;rcases hw with⟨g1,rfl,rfl,rfl⟩|⟨b,l0,cap,ex,cap',ex',g1,rfl,g2,g3⟩
    ·obtain⟨rfl,rfl,q⟩:=zc2 (st:=st) l1 l2 h1 h2 hp N.h;exact .quiet I (v:=.s (.one .nils)) (fun call=>by rw[run,hv];exact q) (y4 (p:=.vw j st (0+0) 0) ⟨hj,.inl ⟨g1,rfl,rfl,rfl⟩⟩) e
    ·obtain⟨q0,cap2,ex2,q1,q2⟩:=zc1 (st:=st) (off:=lo2*st) (b:=b) (cap:=cap') (ex:=ex') g3 l1 l2 h1 h2 hp N.h;refine .quiet I (v:=.s (.one (.slc b ((lo2+p1)*st) p2 cap2 ex2))) (fun call=>?_) (y4 (p:=.vw j st (lo2+p1) p2) ⟨hj,.inr ⟨b,_,_,_,cap2,ex2,g1,rfl,by omega,q2⟩⟩) e;rw[run,hv,q1,Yz6]
  |_=>cases e
theorem zrO(I:Zf E N os)(F:∀i,RepPA N (r i) (ρ i)){st:Nat}{zs:List Zc}{a:Operand}(e:w1 (pv ρ a) (fun c=>zmf lk os st zs c k)=some x):Goal C E lk N os r (.clear st zs a) k x:=by
 have hh:=uE F e;clear e;obtain⟨c,v,e,ka,ra,pka⟩:=hh;cases c<;>first|cases e|skip
 rename_i j st' lo len;simp only[zmf]at e;obtain⟨w,rfl,hj,hw⟩:=yk ra;cases ho:og os j with
 |arr st'' vo=>
  rw[ho]at e;simp only at e;cases hlj:lk j with
  |true=>rw[hlj]at e;cases e
  |false=>
   rw[hlj]at e;simp only[Yzc]at e;cases hs:(Nat.beq st st'&&Nat.beq st st''&&Nat.beq zs.length st) with
   |false=>rw[hs]at e;cases e
   |true=>
    rw[hs]at e;simp only[Yza]at e;rw[LzC,LzC]at hs;have t1:=Lz1 hs.1.1;have t2:=Lz1 hs.1.2;have t3:=Lz1 hs.2;subst t1 t2;have hh:=zm e;clear e;obtain⟨ps,hp,e⟩:=hh;have hh:=zm e;clear e;obtain⟨ds,hd,e⟩:=hh;have hz:RepL N.fz N.h zs ds:=zaS hd (zaj (N:=N) hp);have run:∀call,runK r (.clear st zs a) call N.h=zqg st zs (.s (.one w)) N.h:=fun call=>by simp only[runK,ka,zH]
    have hjl:j<os.length:=un (by rw[ho];intro h;cases h);cases vo with
    |none=>
     have hO:=I.obj j;rw[ho]at hO;have hO:N.μ j=.nils:=hO;rcases hw with⟨g1,rfl,rfl,rfl⟩|⟨b,l0,cap,ex,cap',ex',g1,rfl,g2,g3⟩
     ·refine⟨_,_,_,_,e,⟨(yh,N.h),⟨N,rfl,⟨I.turn j _ (fun h=>h) hO (by rw[ho];intro _ _ _ h;cases h),.refl N,⟨LzB _,fun _ _ _=>rfl⟩,fun j' hj'=>?_,.oset (fun h=>h.elim) (fun h=>by rw[ho]at h;exact h.elim) (fun h=>h.elim),.bad _⟩⟩,0,fun n _=>?_⟩⟩
      ·rw[zJ,Yzb (fun e=>by rw[e.1,hlj]at hj';cases hj')]
      ·exact run (C n)
     ·rw[hO]at g1;cases g1
    |some xs=>
     obtain⟨b',vs,ex2,k1,k2,k3,k4,k5⟩:=zaR I ho;rcases hw with⟨g1,rfl,rfl,rfl⟩|⟨b,l0,cap,ex,cap',ex',g1,rfl,g2,g3⟩
     ·rw[g1]at k1;cases k1
     ·rw[g1]at k1;cases k1;by_cases hl:len=0
      ·subst hl;have hs:oset (.arr st (zyk (some xs) lo 0 ds)) os j=os:=by
        have:PO.arr st (zyk (some xs) lo 0 ds)=og os j:=by rw[ho];simp[zyk]
        rw[this,zbY]
       rw[hs]at e;refine⟨_,_,_,_,e,⟨(yh,N.h),⟨N,rfl,⟨I,.refl N,.same rfl,fun _ _=>rfl,.refl _ _ _,.bad _⟩⟩,0,fun n _=>?_⟩⟩;exact run (C n)
      have hlv:live (og os j):=by rw[ho];trivial
      have hbk:blk (N.μ j)=some b':=by rw[g1];rfl
      have rl:(zwX zs len).length=len*st:=by rw[zef,t3]
      have m1:(lo+len)*st≤xs.length*st:=Yzq st g2;rw[Yz6]at m1
      let X:=vs.take (lo*st)++zwX zs len++vs.drop (lo*st+(zwX zs len).length)
      have hX:X.length=xs.length*st:=by simp[X,rl];omega
      have hn:(xs.take lo++List.replicate len ds++xs.drop (lo+len)).length=xs.length:=by simp;omega
      have fg:FG N.fz N.h N.fz (N.h.put b' (.cells X st)):=⟨fun _ _ h _=>h,fun b2 z hf2 hz=>by
       rw[xT _ _ (fun(e:b2=b')=>k2 (by rw[←e];exact hf2))];exact hz⟩
      obtain⟨i1,i2,i3⟩:=I.put (by rw[ho];trivial) hbk (.cells X st) (.arr st (some (xs.take lo++List.replicate len ds++xs.drop (lo+len))))
       ⟨b', X, _, by rw [hn]; exact g1, k2, uI _ _ _, by rw [hn]; exact hX, fun t z hzt => by
        have ht:t<xs.length:=by have:=(Lz0.1 hzt).1;omega
        have mt:=Yzq st (show t+1≤xs.length from ht);rw[YzJ]at mt;by_cases c1:t<lo
        ·rw[Yzs,Lz2 (by simp;omega),Yzo,Yzd c1]at hzt;obtain⟨q1,q2⟩:=k5 t z hzt;refine⟨q1,?_⟩;have mt2:=Yzq st (show t+1≤lo from c1);rw[YzJ]at mt2;show RepL _ _ ((X.drop (t*st)).take st) _;have:(X.drop (t*st)).take st=(vs.drop (t*st)).take st:=by
          show List.take st (List.drop (t*st) (vs.take (lo*st)++zwX zs len++vs.drop (lo*st+(zwX zs len).length)))=_;rw[Yzs,List.drop_append_of_le_length (by simp;omega),Yyq (by simp;omega),List.drop_take,List.take_take,Nat.min_eq_left (by omega)]
         rw[this];exact q2.mono fg
        ·by_cases c2:t<lo+len
         ·rw[Yzs,Lz8 (by simp;omega),Lz2 (by simp;omega),List.getElem?_replicate,Yzd (by simp;omega)]at hzt;cases hzt;refine⟨by rw[←hz.1,t3],?_⟩;have mt2:=Yzq st (show t-lo+1≤len by omega);rw[YzJ]at mt2;have mt3:t*st=lo*st+(t-lo)*st:=by rw[←Yz6];congr 1;omega
          show RepL _ _ ((X.drop (t*st)).take st) _;have:(X.drop (t*st)).take st=zs:=by
           show List.take st (List.drop (t*st) (vs.take (lo*st)++zwX zs len++vs.drop (lo*st+(zwX zs len).length)))=_;have hl0:(vs.take (lo*st)).length=lo*st:=by simp;omega
           rw[Yzs,mt3,←Yyd,List.drop_left' hl0,List.drop_append_of_le_length (by omega),Yyq (by simp;omega)];have:=zeg zs len (t-lo) (by omega)
           rwa [t3]at this
          rw[this];exact hz.mono fg
         ·have hl0:(xs.take lo++List.replicate len ds).length=lo+len:=by simp;omega
          rw[Lz8 (by omega),hl0,Yzr]at hzt;rw[show lo+len+(t-(lo+len))=t by omega]at hzt;obtain⟨q1,q2⟩:=k5 t z hzt;refine⟨q1,?_⟩;have mt2:=Yzq st (show lo+len≤t by omega);rw[Yz6]at mt2;show RepL _ _ ((X.drop (t*st)).take st) _;have:(X.drop (t*st)).take st=(vs.drop (t*st)).take st:=by
           show List.take st (List.drop (t*st) (vs.take (lo*st)++zwX zs len++vs.drop (lo*st+(zwX zs len).length)))=_;have hl1:(vs.take (lo*st)++zwX zs len).length=lo*st+len*st:=by simp[rl];omega
           rw[show t*st=(lo*st+len*st)+(t*st-(lo*st+len*st)) by omega,←Yyd,List.drop_left' hl1,Yyd,rl]
          rw[this];exact q2.mono fg⟩
      refine⟨_,_,_,_,e,⟨(yh,N.h.put b' (.cells X st)),⟨⟨N.μ,N.n,N.fz,N.h.put b' (.cells X st)⟩,rfl,⟨i1,i2,Bk.put rfl (by rw[I.len];exact hjl) hlv hbk,fun j' hj'=>?_,.oset (fun _=>by rw[ho];trivial) (fun _=>.inl trivial) (fun _=>by rw[ho];trivial),.bad _⟩⟩,0,fun n _=>?_⟩⟩
      ·rw[zJ,Yzb (fun e=>by rw[e.1,hlj]at hj';cases hj')]
      ·refine (run (C n)).trans ?_;show (bif Nat.beq len 0 then some (yh,N.h) else ze7 st zs N.h b' (lo*st) len (N.h.t.get b'))=_;have hb0:Nat.beq len 0=false:=by
        cases hq:Nat.beq len 0 with
        |false=>rfl
        |true=>exact absurd (Lz1 hq) hl
       rw[hb0,k3,Yzc];simp only[ze7];rw[t3,Yzu,Yza,j4 (zwX zs len) vs (lo*st) (by omega)];rfl
 |_=>rw[ho]at e;cases e
theorem qW{st:Nat}{vs ws:List Zc}{xs ys:List (List DV)}{fz:BN→Prop}{h:Za}(hl:vs.length=xs.length*st)(hw:ws.length=ys.length*st)
  (H:∀(i:Nat) (x:List DV),xs[i]? = some x→x.length=st∧RepL fz h ((vs.drop (i*st)).take st) x) (K:∀(i:Nat) (x:List DV),ys[i]? = some x→x.length=st∧RepL fz h ((ws.drop (i*st)).take st) x):
  (vs++ws).length=(xs++ys).length*st∧∀(i:Nat) (x:List DV),(xs++ys)[i]? = some x→x.length=st∧RepL fz h (((vs++ws).drop (i*st)).take st) x:=by
 refine⟨by simp[hl,hw,Yz6],fun i x hx=>?_⟩;by_cases hi:i<xs.length
 ·rw[Lz2 hi]at hx;obtain⟨a,b⟩:=H i x hx;refine⟨a,?_⟩;have:=Yzq st (show i+1≤xs.length from hi);rw[YzJ]at this;rw[List.drop_append_of_le_length (by omega),Yyq (by simp;omega)];exact b
 ·rw[Lz8 (by omega)]at hx;obtain⟨a,b⟩:=K _ x hx;refine⟨a,?_⟩;have hle:xs.length*st≤i*st:=Yzq st (by omega);rw[List.drop_append,List.drop_of_length_le (by omega),YzI,hl];rw[Nat.mul_sub_right_distrib]at b;exact b
theorem ze2{fz:BN→Prop}{h:Za}{st:Nat}{w:Zc}{v:DV}{xs:List (List DV)}(H:Rep fz h w v)(e:jn st v=some xs):∃cs,zfq false st h (.s (.one w))=some (cs,xs.length)∧cs.length=xs.length*st∧
  ∀(i:Nat) (x:List DV),xs[i]? = some x→x.length=st∧RepL fz h ((cs.drop (i*st)).take st) x:=by
 cases v<;>simp only[jn]at e<;>first|cases e|skip
 ·rw[H.scal rfl];exact⟨[],rfl,by simp,fun i x hx=>by simp at hx⟩
 ·rename_i st' ys;cases hs:Nat.beq st st' with
  |false=>rw[hs]at e;cases e
  |true=>
   rw[hs]at e;cases e;have:=Lz1 hs;subst this;obtain⟨b,o,off,cap,ex,cs,rfl,g1,g2,g3,g4,g5⟩:=H.lst_inv;refine⟨cs,?_,zdg g4,g5⟩;show (match h.t.get b with
    |some (.cells l _)=>match cut (Nat.mul xs.length st) l off with|some l=>some (l,xs.length)|none=>none
    |some (.ro _ f)=>match zxf f (Nat.mul xs.length st) off with|some l=>some (l,xs.length)|none=>none
    |some (.tcells l _ _)=>match cut (Nat.mul xs.length st) l off with|some l=>some (l,xs.length)|none=>none
    |some .void=>bif Nat.beq (Nat.mul xs.length st) 0 then some ([],xs.length) else none
    |_=>none)=_
   rw[g2];cases o with
   |cells l s=>simp only;rw[show cut (Nat.mul xs.length st) l off=some cs from g4]
   |ro y f=>simp only;rw[show zxf f (Nat.mul xs.length st) off=some cs from g4]
   |void=>obtain⟨k1,k2⟩:=zeh g4;subst k2;simp only;rw[show Nat.beq (Nat.mul xs.length st) 0=true by rw[show Nat.mul xs.length st=0 from k1];rfl];rfl
   |_=>cases g4
theorem ztm(I:Zf E N os){st:Nat}{c:PC}{v:Zb}{K:List (List DV)→Option β}(ra:RepPA N v (pc c))(e:zzG os st c K=some x):∃new cs,K new=some x∧zfq false st N.h v=some (cs,new.length)∧cs.length=new.length*st∧
  ∀(i:Nat) (x:List DV),new[i]? = some x→x.length=st∧RepL N.fz N.h ((cs.drop (i*st)).take st) x:=by
 obtain⟨w,rfl,hw⟩:=yk ra;cases c<;>simp only[zzG]at e<;>first|cases e|skip
 ·obtain⟨new,hn,e⟩:=zm e;obtain⟨cs,h1,h2,h3⟩:=ze2 hw hn;exact⟨new,cs,e,h1,h2,h3⟩
 ·rename_i j;obtain⟨hj,rfl⟩:=hw;have hO:=I.obj j;cases ho:og os j with
  |arr st' vo=>
   rw[ho]at e hO;simp only at e;cases hs:Nat.beq st st' with
   |false=>rw[hs]at e;cases e
   |true=>
    rw[hs]at e;have:=Lz1 hs;subst this;cases vo with
    |none=>refine⟨[],[],e,?_,by simp,fun i x hx=>by simp at hx⟩;rw[show N.μ j=.nils from hO];rfl
    |some xs=>
     have:=hO;obtain⟨b,vs,ex,h1,h2,h3,h4,h5⟩:=this;refine⟨xs,vs,e,?_,h4,h5⟩;have hr:=zib (fz':=fun _=>True) ⟨fun _ _ _ _=>trivial,fun _ _ _ h=>h⟩ hO (fun _ _ _=>trivial);obtain⟨cs,q1,q2,_⟩:=ze2 (st:=st) (xs:=xs) hr (by simp[mkL,jn]);rw[q1];have:cs=vs:=by
      rw[h1]at q1;have:(match N.h.t.get b with
       |some (.cells l _)=>match cut (Nat.mul xs.length st) l 0 with|some l=>some (l,xs.length)|none=>none
       |some (.ro _ f)=>match zxf f (Nat.mul xs.length st) 0 with|some l=>some (l,xs.length)|none=>none
       |some (.tcells l _ _)=>match cut (Nat.mul xs.length st) l 0 with|some l=>some (l,xs.length)|none=>none
       |some .void=>bif Nat.beq (Nat.mul xs.length st) 0 then some ([],xs.length) else none
       |_=>none)=some (cs,xs.length):=q1
      rw[h3]at this;simp only at this;rw[show cut (Nat.mul xs.length st) vs 0=some vs by show cut (xs.length*st) vs 0=_;rw[←h4];exact ze4 vs]at this;cases this;rfl
     rw[this]
  |frz d=>
   rw[ho]at e hO;simp only at e;obtain⟨new,hn,e⟩:=zm e;obtain⟨cs,h1,h2,h3⟩:=ze2 (show Rep N.fz N.h (N.μ j) d from hO) hn;exact⟨new,cs,e,h1,h2,h3⟩
  |_=>rw[ho]at e;cases e
theorem Zf.name(I:Zf E N os)(hlk:∀j,lk j=true→j<os.length){j st:Nat}{v:OC}(hj:j<os.length)(hlj:lk j=false)(ho:og os j=.arr st v):
  ∃N',N'.h=N.h∧N'.n=os.length+1∧Stp E lk N os [j] N' (oset .dead os j++[.arr st v])∧RepPA N' (.s (.one (N.μ j))) (pc (.own os.length)):=by
 have hO:=I.obj j;rw[ho]at hO
 let N':Nm:=⟨upd N.μ os.length (N.μ j),os.length+1,N.fz,N.h⟩
 have mu:∀k,k≠os.length→N'.μ k=N.μ k:=fun k hk=>by show (if k=os.length then _ else N.μ k)=_;rw[Yzb hk]
 have muL:N'.μ os.length=N.μ j:=by show (if os.length=os.length then _ else _)=_;rw[Yzd rfl]
 have nx:Nx N N':=⟨.refl _ _,by have:=I.len;show N.n≤os.length+1;omega,fun k hk=>mu k (by have:=I.len;omega)⟩;have hlen:=yf .dead os j;have t:∀i,live (og (oset .dead os j++[.arr st v]) i)→(i=os.length∧live (og os j))∨(i≠os.length∧i≠j∧live (og os i)):=fun i hi=>by
  rw[yY,hlen]at hi;by_cases h1:i=os.length
  ·rw[Yzd h1]at hi;exact .inl ⟨h1,by rw[ho];exact hi⟩
  ·rw[Yzb h1,zJ]at hi;by_cases h2:i=j
   ·rw[Yzd ⟨h2,hj⟩]at hi;exact hi.elim
   ·rw[Yzb (fun e=>h2 e.1)]at hi;exact .inr ⟨h1,h2,hi⟩
 refine⟨N',rfl,rfl,⟨⟨I.hw,I.gr,I.fzlt,I.fzok,I.fzex,by show os.length+1=_;simp[hlen],?_,?_,?_,fun t' m ht=>?_⟩,nx,Bk.same rfl,fun j' hj'=>?_,Ho.trans (w1:=[j]) (w2:=[]) (Ho.oset (o:=.dead) (fun h=>h.elim) (fun _=>.inr (YzE j)) (fun h=>h.elim)) (.app (by rw[hlen];exact Nat.le_of_eq I.len))⟩,y4 (p:=.own os.length) ⟨by show os.length<os.length+1;omega,muL.symm⟩⟩
 ·intro k b hl hb;rcases t k hl with⟨h1,h2⟩|⟨h1,h2,h3⟩
  ·rw[h1,muL]at hb;exact I.own j b h2 hb
  ·rw[mu k h1]at hb;exact I.own k b h3 hb
 ·intro k k' b hl hl' hb hb';rcases t k hl with⟨h1,h2⟩|⟨h1,h2,h3⟩<;>rcases t k' hl' with⟨g1,g2⟩|⟨g1,g2,g3⟩
  ·rw[h1,g1]
  ·rw[h1,muL]at hb;rw[mu k' g1]at hb';exact absurd (I.inj k' j b g3 h2 hb' hb) g2
  ·rw[g1,muL]at hb';rw[mu k h1]at hb;exact absurd (I.inj k j b h3 g2 hb hb') h2
  ·rw[mu k h1]at hb;rw[mu k' g1]at hb';exact I.inj k k' b h3 g3 hb hb'
 ·intro k;rw[yY,hlen];by_cases h1:k=os.length
  ·rw[Yzd h1,h1];cases v with
   |none=>exact muL.trans hO
   |some xs=>
    obtain⟨b,vs,ex,q1,q2⟩:=hO;exact⟨b,vs,ex,muL.trans q1,q2⟩
  ·rw[Yzb h1,zJ];split
   ·trivial
   ·exact(I.obj k).mono nx (mu k h1) fun hl b hb=>by
     obtain⟨b',x',q1,q2,q3⟩:=xK hl (I.obj k);rw[q1]at hb;cases hb;exact⟨q2,rfl⟩
 ·rw[yY,hlen]at ht;by_cases h1:t'=os.length
  ·rw[Yzd h1]at ht;cases ht
  ·rw[Yzb h1,zJ]at ht;split at ht
   ·cases ht
   ·obtain⟨k',v',n',q⟩:=I.lnk t' m ht;have hl:k'<os.length:=un (by rw[q];intro e;cases e);exact⟨k',v',n',by rw[yY,hlen,Yzb (by omega),zJ,Yzb (fun e=>by rw[e.1,ho]at q;cases q)];exact q⟩
 ·rw[yY,hlen,Yzb (by have:=hlk j' hj';omega),zJ,Yzb (fun e=>by rw[e.1,hlj]at hj';cases hj')]
noncomputable def zp8(st bytes:Nat)(h:Za)(cs:List Zc)(n:Nat)(v:Zb):Res:=
 match v with
 | .s (.one .nils)=>bif Nat.beq n 0 then some (.s (.one .nils),h) else bif fits bytes n then grown h st n [] cs else none
 | .s (.one (.slc b off len cap ex))=>
  bif Nat.beq n 0 then some (.s (.one (.slc b off len cap ex)),h) else
  bif fits bytes (Nat.add len n) then vX st h cs n b off len cap ex (h.t.get b) else none
 |_=>none
theorem zpd(I:Zf E N os)(F:∀i,RepPA N (r i) (ρ i))(hlk:∀j,lk j=true→j<os.length){st bytes:Nat}{a b:Operand}(e:w1 (pv ρ a) (fun s=>w1 (pv ρ b) fun y=>zhl lk os st bytes s y k)=some x):Goal C E lk N os r (.append st bytes a b) k x:=by
 have hh:=uE F e;clear e;obtain⟨c,v,e,ka,ra,pka⟩:=hh;have hh:=uE F e;clear e;obtain⟨d,u,e,kb,rb,pkb⟩:=hh;unfold zhl at e;have hh:=ztm I rb e;clear e;obtain⟨new,cs,e,hsrc,hcl,hcs⟩:=hh;have run:∀call,runK r (.append st bytes a b) call N.h=zp8 st bytes N.h cs new.length v:=fun call=>by
  simp only[runK,ka,kb,zH];show (match zfq false st N.h u with
   |none=>none
   |some (new,n)=>match v with
    | .s (.one .nils)=>bif Nat.beq n 0 then some (Zb.s (.one .nils),N.h) else bif fits bytes n then grown N.h st n [] new else none
    | .s (.one (.slc b off len cap ex))=>
     bif Nat.beq n 0 then some (Zb.s (.one (.slc b off len cap ex)),N.h) else
     bif fits bytes (Nat.add len n) then vX st N.h new n b off len cap ex (N.h.t.get b) else none
    |_=>none)=_
  rw[hsrc];rfl
 have fresh:∀(os1:List PO) (w1:List Nat) (S1:Stp E lk N os w1 N os1) (hl1:os1.length=os.length),new≠[]→v=Zb.s (.one .nils)→fits bytes new.length=true→
   k (pc (.own os.length)) (os1++[.arr st (zyf none new)]) w1 []=some x→Goal C E lk N os r (.append st bytes a b) k x:=by
  intro os1 w1 S1 hl1 hne hv hfit hk;obtain⟨N2,h4,h5,S2,r2⟩:=zcb (lk:=lk) (ex:=false) S1.inv (fun j hj=>by rw[hl1];exact hlk j hj) hcl hcs;have he:zyf none new=some new:=by
   cases new with
   |nil=>exact absurd rfl hne
   |cons y l=>rfl
  rw[he]at hk;rw[hl1]at r2;have S:=S1.trans S2 rfl;rw[YzD]at S;refine⟨_,_,_,_,hk,⟨(.s (.one (.slc N.h.n 0 new.length 0 false)),N.h.new (.cells cs st)),⟨N2,h4,S.sim r2⟩,0,fun n _=>?_⟩⟩;show runK r (.append st bytes a b) (C n) N.h=_;rw[run,hv];have:Nat.beq new.length 0=false:=by
   cases new with
   |nil=>exact absurd rfl hne
   |cons y l=>rfl
  simp only[zp8,this,Yzc,hfit,Yza];exact ub _ _ _
 cases c with
 |d dv=>
  cases dv<;>simp only[gdN]at e<;>first|(cases e;done)|skip
  cases hfit:fits bytes new.length with
  |false=>rw[hfit]at e;cases e
  |true=>
   rw[hfit]at e;have hv:=yn ra (c:=.nils) rfl;cases hnew:new with
   |nil=>
    subst hnew;obtain⟨N2,h4,h5,S2⟩:∃N',N'.h=N.h∧RepPA N' (.s (.one .nils)) (pc (.own os.length))∧Stp E lk N os [] N' (os++[.arr st none]):=by
     have I0:=I
     let N':Nm:=⟨upd N.μ os.length .nils,os.length+1,N.fz,N.h⟩
     have mu:∀k,k≠os.length→N'.μ k=N.μ k:=fun k hk=>by show (if k=os.length then _ else N.μ k)=_;rw[Yzb hk]
     have muL:N'.μ os.length=.nils:=by show (if os.length=os.length then _ else _)=_;rw[Yzd rfl]
     have nx:Nx N N':=⟨.refl _ _,by have:=I.len;show N.n≤os.length+1;omega,fun k hk=>mu k (by have:=I.len;omega)⟩;have t:∀i,live (og (os++[.arr st none]) i)→i≠os.length∧live (og os i):=fun i hi=>by
      rw[yY]at hi;by_cases h1:i=os.length
      ·rw[Yzd h1]at hi;exact hi.elim
      ·rw[Yzb h1]at hi;exact⟨h1,hi⟩
     refine⟨N',rfl,y4 (p:=.own os.length) ⟨by show os.length<os.length+1;omega,muL.symm⟩,⟨⟨I.hw,I.gr,I.fzlt,I.fzok,I.fzex,by show os.length+1=_;simp,?_,?_,?_,fun t' m ht=>?_⟩,nx,Bk.same rfl,fun j' hj'=>?_,.app (Nat.le_of_eq I.len)⟩⟩
     ·intro k b hl hb;rw[mu k (t k hl).1]at hb;exact I.own k b (t k hl).2 hb
     ·intro k k' b hl hl' hb hb';rw[mu k (t k hl).1]at hb;rw[mu k' (t k' hl').1]at hb';exact I.inj k k' b (t k hl).2 (t k' hl').2 hb hb'
     ·intro k;rw[yY];by_cases h1:k=os.length
      ·rw[Yzd h1,h1];exact muL
      ·rw[Yzb h1];exact(I.obj k).mono nx (mu k h1) fun hl b hb=>by
        obtain⟨b',x',q1,q2,q3⟩:=xK hl (I.obj k);rw[q1]at hb;cases hb;exact⟨q2,rfl⟩
     ·rw[yY]at ht;by_cases h1:t'=os.length
      ·rw[Yzd h1]at ht;cases ht
      ·rw[Yzb h1]at ht;obtain⟨k',v',n',q⟩:=I.lnk t' m ht;have hl:k'<os.length:=un (by rw[q];intro e;cases e);exact⟨k',v',n',by rw[yY,Yzb (by omega)];exact q⟩
     ·rw[yY,Yzb (by have:=hlk j' hj';omega)]
    refine⟨_,_,_,_,e,⟨(.s (.one .nils),N.h),⟨N2,h4,S2.sim h5⟩,0,fun n _=>?_⟩⟩;show runK r (.append st bytes a b) (C n) N.h=_;rw[run,hv];rfl
   |cons y l=>exact fresh os [] (.refl I) rfl (by rw[hnew];simp) hv hfit e
 |own j=>
  simp only at e;obtain⟨w,rfl,hj,rfl⟩:=yk ra;cases ho:og os j with
  |arr st' vo=>
   rw[ho]at e;simp only at e;cases hlj:lk j with
   |true=>rw[hlj]at e;cases e
   |false=>
    rw[hlj]at e;simp only[Yzc]at e;cases hs:Nat.beq st st' with
    |false=>rw[hs]at e;cases e
    |true=>
     rw[hs]at e;have:=Lz1 hs;subst this;simp only[Yza]at e;cases hfit:fits bytes (zwW vo+new.length) with
     |false=>rw[hfit]at e;cases e
     |true=>
      rw[hfit]at e;have hjl:j<os.length:=un (by rw[ho];intro h;cases h);have hO:=I.obj j;rw[ho]at hO;by_cases hnew:new=[]
      ·subst hnew;obtain⟨N2,h4,h5,S2,r2⟩:=Zf.name (lk:=lk) I hlk hjl hlj ho;refine⟨_,_,_,_,e,⟨(.s (.one (N.μ j)),N.h),⟨N2,h4,S2.sim r2⟩,0,fun n _=>?_⟩⟩;show runK r (.append st bytes a b) (C n) N.h=_;rw[run];cases vo with
       |none=>rw[show N.μ j=.nils from hO];rfl
       |some xs=>obtain⟨b',vs,ex,h1,_⟩:=hO;rw[h1];rfl
      ·have hlock:∀j',lk j'=true→og (oset .dead os j) j'=og os j':=fun j' hj'=>by rw[zJ,Yzb (fun e=>by rw[e.1,hlj]at hj';cases hj')]
       cases vo with
       |none=>
        refine fresh (oset .dead os j) [j] ⟨I.turn j .dead (fun e=>e) trivial (by rw[ho];intro _ _ _ h;cases h),.refl N,Bk.same rfl,hlock,Ho.oset (o:=.dead) (fun h=>h.elim) (fun _=>.inr (YzE j)) (fun h=>h.elim)⟩ (yf _ _ _) hnew (by rw[show N.μ j=.nils from hO]) (by simpa[zwW] using hfit) e
       |some xs=>
        obtain⟨b',vs,ex,h1,h2,h3,h4,h5⟩:=hO;have he:zyf (some xs) new=some (xs++new):=by
         cases new with
         |nil=>exact absurd rfl hnew
         |cons y l=>rfl
        have hn0:Nat.beq new.length 0=false:=by
         cases new with
         |nil=>exact absurd rfl hnew
         |cons y l=>rfl
        have hcut:cut (Nat.mul xs.length st) vs 0=some vs:=by show cut (xs.length*st) vs 0=_;rw[←h4];exact ze4 vs
        rw[he]at e;cases ex with
        |true=>
         have S1:Stp E lk N os [j] N (oset .dead os j):=⟨I.turn j .dead (fun e=>e) trivial (by rw[ho];intro _ _ _ h;cases h),.refl N,Bk.same rfl,hlock,Ho.oset (o:=.dead) (fun h=>h.elim) (fun _=>.inr (YzE j)) (fun h=>h.elim)⟩;obtain⟨f1,f2⟩:=qW h4 hcl h5 hcs;obtain⟨N2,g4,g5,S2,r2⟩:=zcb (lk:=lk) (ex:=false) S1.inv (fun j hj=>by rw[yf];exact hlk j hj) f1 f2;rw[yf]at r2;have S:=S1.trans S2 rfl;refine⟨_,_,_,_,e,⟨(.s (.one (.slc N.h.n 0 (xs++new).length 0 false)),N.h.new (.cells (vs++cs) st)),⟨N2,g4,S.sim r2⟩,0,fun n _=>?_⟩⟩;show runK r (.append st bytes a b) (C n) N.h=_;rw[run,h1];simp only[zp8,hn0,Yzc];rw[show fits bytes (Nat.add xs.length new.length)=true from hfit,h3];simp only[Yza,vX,hcut];have:Nat.ble (Nat.add xs.length new.length) xs.length=false:=by
          cases hb:Nat.ble (Nat.add xs.length new.length) xs.length with
          |false=>rfl
          |true=>
           have:=Lz4 hb;have hpos:new.length≠0:=fun h=>hnew (List.length_eq_zero_iff.1 h);simp only[Nat.add_eq]at this;omega
         rw[this,Yzc,Yzz];exact ub _ _ _
        |false=>
         have hlv:live (og os j):=by rw[ho];trivial
         have hbk:blk (N.μ j)=some b':=by rw[h1];rfl
         obtain⟨i1,i2,i3⟩:=I.put (by rw[ho];trivial) hbk .dead .dead trivial;have S1:Stp E lk N os [j] ⟨N.μ,N.n,N.fz,N.h.put b' .dead⟩ (oset .dead os j):=⟨i1,i2,Bk.put rfl (by rw[I.len];exact hjl) hlv hbk,hlock,Ho.oset (o:=.dead) (fun h=>h.elim) (fun _=>.inr (YzE j)) (fun h=>h.elim)⟩;obtain⟨f1,f2⟩:=qW (fz:=N.fz) (h:=N.h.put b' .dead) h4 hcl (fun i y hy=>⟨(h5 i y hy).1,(h5 i y hy).2.mono i2.fg⟩) (fun i y hy=>⟨(hcs i y hy).1,(hcs i y hy).2.mono i2.fg⟩);obtain⟨N2,g4,g5,S2,r2⟩:=zcb (lk:=lk) (ex:=false) S1.inv (fun j hj=>by rw[yf];exact hlk j hj) f1 f2;rw[yf]at r2;have S:=S1.trans S2 rfl;refine⟨_,_,_,_,e,⟨(.s (.one (.slc N.h.n 0 (xs++new).length 0 false)),(N.h.put b' .dead).new (.cells (vs++cs) st)),⟨N2,g4,S.sim r2⟩,0,fun n _=>?_⟩⟩;show runK r (.append st bytes a b) (C n) N.h=_;rw[run,h1];simp only[zp8,hn0,Yzc];rw[show fits bytes (Nat.add xs.length new.length)=true from hfit,h3];simp only[Yza,vX,hcut];rw[Yzc,show (Nat.beq st st&&Nat.beq 0 (Nat.mul 0 st))=true by simp,Yza,Yzz];exact ub _ _ _
  |_=>rw[ho]at e;cases e
 |_=>cases e
theorem zjH:∀(p l:List DS) (shs:List (Option Nat)),okT shs l=true→zbm (p++l) shs p.length=l:=by
 have at_:∀(p l:List DS) (d:DS),zwV (p++d::l) p.length=d:=by
  intro p l d
  induction p with
  |nil=>rfl
  |cons a p ih=>exact ih
 intro p l shs
 induction shs generalizing p l with
 |nil=>
  intro e;cases l with
  |nil=>rfl
  |cons d l=>cases e
 |cons s shs ih=>
  intro e;cases l with
  |nil=>cases s<;>cases e
  |cons d l=>
   have step:okT shs l=true→zbm (p++d::l) shs (Nat.succ p.length)=l:=fun h=>by
    have:=ih (p++[d]) l h
    simpa using this
   cases s with
   |none=>
    cases d with
    |agg ds=>cases e
    |one d=>simp only[zbm,at_,dsO];rw[step e]
   |some n=>
    cases d with
    |one d=>cases e
    |agg ds=>
     simp only[okT,LzC]at e;have hn:=Lz1 e.1;simp only[zbm,at_,dsA];rw[step e.2,←hn,zju]
theorem zqk{res:Option DA}{K:PA→Option β}(e:b1 res (fun d=>K (pd d))=some x):∃d a,res=some d∧K a=some x∧∀(M:Nm) v,RepA M.fz M.h v d→RepPA M v a:=by
 cases res with
 |none=>cases e
 |some d=>
  cases d with
  |tup l=>cases e
  |s d=>
   cases d with
   |agg l=>cases e
   |one d=>
    refine⟨_,_,rfl,e,fun M v H=>?_⟩;obtain⟨w,rfl,hw⟩:=H.inv;cases w with
    |one c=>exact uk hw
    |agg l=>exact hw.elim
theorem zqj{shs:List (Option Nat)}{res:Option DA}{K:PA→Option β}(e:bT shs res (fun l=>K (.tup (zbm l shs 0)))=some x):∃d a,res=some d∧K a=some x∧∀(M:Nm) v,RepA M.fz M.h v d→RepPA M v a:=by
 cases res with
 |none=>cases e
 |some d=>
  cases d with
  |s d=>cases e
  |tup l=>
   simp only[bT]at e;cases ho:okT shs l with
   |false=>rw[ho]at e;cases e
   |true=>
    rw[ho]at e;refine⟨_,_,rfl,e,fun M v H=>?_⟩;have hc:=zjH [] l shs ho;rw[YzI]at hc;show RepPA M v (.tup (zbm l shs ([]:List DS).length));rw[hc];cases v with
    |s v=>exact H.elim
    |tup vs=>exact H
theorem zlD{sh:Sh}{res:Option DA}{K:PA→Option β}(e:bSh sh res K=some x):∃d a,res=some d∧K a=some x∧∀(M:Nm) v,RepA M.fz M.h v d→RepPA M v a:=by
 cases sh with
 |one=>exact zqk e
 |sc=>exact zqk e
 |tup shs=>exact zqj e
 |tsc n=>exact zqj e
 |agg n=>
  cases res with
  |none=>cases e
  |some d=>
   cases d with
   |tup l=>cases e
   |s d=>
    cases d with
    |one d=>cases e
    |agg l=>
     simp only[bSh,bA]at e;cases hn:Nat.beq l.length n with
     |false=>rw[hn]at e;cases e
     |true=>
      rw[hn]at e;have hn:=Lz1 hn;refine⟨_,_,rfl,e,fun M v H=>?_⟩;obtain⟨w,rfl,hw⟩:=H.inv;cases w with
      |one c=>exact hw.elim
      |agg cs=>
       rw[←hn,zju];exact RepPA.of (v:=.agg cs) (p:=.agg _) (RepPL.ofD hw)
 |no=>
  cases res with
  |none=>cases e
  |some d=>exact⟨d,.bad,rfl,e,fun M v _=>.bad v⟩
theorem zix{fz fz':BN→Prop}{h h':Za}{c:Zc}{d:DV}(hs:zfA d=true)(H:Rep fz h c d):Rep fz' h' c d:=by
 cases d<;>first|(cases hs;done)|(rw[H.scal rfl];constructor)
theorem zfz{fz fz':BN→Prop}{h h':Za}:∀{cs:List SVal} {ds:List DS},zlI ds=true→RepSL fz h cs ds→RepSL fz' h' cs ds
 | [],[],_,_=>trivial
 | .one c::cs,.one d::ds,hs,H=>by
  simp only[zlI,LzC]at hs;exact⟨zix hs.1 H.1,zfz hs.2 H.2⟩
 | .agg _::_,.one _::_,_,H=>H.1.elim
 |_,.agg _::_,hs,_=>by cases hs
 | [],_::_,_,H=>H.elim
 |_::_,[],_,H=>H.elim
theorem ztn{sh:Sh}{res:Option DA}{K:PA→Option β}(e:zyP sh res K=some x):∃d a,res=some d∧K a=some x∧∀(fz:BN→Prop) (h:Za) (M:Nm) v,RepA fz h v d→RepPA M v a:=by
 cases sh with
 |sc=>
  cases res with
  |none=>cases e
  |some d=>
   cases d with
   |tup l=>cases e
   |s d=>
    cases d with
    |agg l=>cases e
    |one d=>
     simp only[zyP,b1s]at e;cases hs:zfA d with
     |false=>rw[hs]at e;cases e
     |true=>
      rw[hs]at e;refine⟨_,_,rfl,e,fun fz h M v H=>?_⟩;obtain⟨w,rfl,hw⟩:=H.inv;cases w with
      |one c=>exact uk (zix hs hw)
      |agg l=>exact hw.elim
 |tsc n=>
  cases res with
  |none=>cases e
  |some d=>
   cases d with
   |s d=>cases e
   |tup l=>
    simp only[zyP,bTs]at e;cases ho:(okT (zfS n) l&&zlI l) with
    |false=>rw[ho]at e;cases e
    |true=>
     rw[ho]at e;rw[LzC]at ho;refine⟨_,_,rfl,e,fun fz h M v H=>?_⟩;have hc:=zjH [] l (zfS n) ho.1;rw[YzI]at hc;show RepPA M v (.tup (zbm l (zfS n) ([]:List DS).length));rw[hc];cases v with
     |s v=>exact H.elim
     |tup vs=>exact zfz ho.2 H
 |_=>cases e
theorem zjN:∀(l:List Zb),(cL l).map (fun x=>x .nil)=l
 | []=>rfl
 |v::l=>by
  show zu v .nil::(cL l).map (fun x=>x .nil)=_;rw[zjN l];rfl
theorem zcF{fz:BN→Prop}{h:Za}:∀{ps:List (BN×Nat)} {caps:List (List DV)},RepL fz h (ps.map fun p=>.ptr p.1 p.2) (caps.map fun x=>.fp x 0)→RepAL fz h (ps.map fun(p:BN×Nat)=>Zb.s (.one (.ptr p.1 p.2))) (caps.map fun x=>.s (.one (.fp x 0)))
 | [],[],_=>trivial
 |p::ps,y::caps,H=>⟨H.inv.1,zcF H.inv.2⟩
 | [],_::_,H=>by have:=H.1;simp at this
 |_::_,[],H=>by have:=H.1;simp at this
theorem zrP{O:Orc}(hO:u7 O C){sh:Sh}(I:Zf E N os)(F:∀i,RepPA N (r i) (ρ i)){f:Operand}{args:List Operand}(e:w1 (pv ρ f) (fun c=>za (pvs ρ args) fun as=>za (frA lk os as) fun p=>za (frC lk y7 p.1 c) fun q=>bSh sh (zxi O q.2 p.2) fun a=>k a q.1 [] [])=some x):Goal C E lk N os r (.call f args) k x:=by
 have hh:=uE F e;clear e;obtain⟨c,v,e,ka,ra,pka⟩:=hh;obtain⟨as,h1,e⟩:=zm e;obtain⟨⟨os1,ds⟩,h2,e⟩:=zm e;obtain⟨⟨os2,fv⟩,h3,e⟩:=zm e;simp only at h3 e;obtain⟨vs,kvs1,rvs⟩:=zfG F h1;obtain⟨w,rfl,hw⟩:=yk ra;obtain⟨N1,f1,S1,r1⟩:=zjq I rvs h2;obtain⟨N2,f2,S2,r2⟩:=zdH S1.inv (RepPC.mono S1.nx hw) h3;have S12:=S1.trans S2 f1.n;have hh2:N2.h=N.h:=f2.h.trans f1.h;unfold zxi at e;cases fv<;>first|(cases sh<;>cases e)|skip
 rename_i g caps;simp only at e;obtain⟨ps,rfl,hps⟩:=r2.fn_inv;have harg:RepAL N2.fz N2.h (vs++ps.map fun(p:BN×Nat)=>Zb.s (.one (.ptr p.1 p.2))) (ds++caps.map fun x=>.s (.one (.fp x 0))):=RepAL.app (r1.mono S2.nx.fg) (zcF hps);have key:∀res,O g (ds++caps.map fun x=>.s (.one (.fp x 0)))=some res→∀a,(∀(N':Nm) v,RepA N'.fz N'.h v res→RepPA N' v a)→k a os2 [] []=some x→Goal C E lk N os r (.call f args) k x:=by
  intro res hres a ha hk;have ev:=hO g _ res hres N2.fz N2.h _ S12.inv.hw S12.inv.fzlt harg;rw[hh2]at ev;refine⟨a,os2,[],[],hk,?_⟩;have run:∀call,runK r (.call f args) call N.h=call (.inl g) (vs++ps.map fun(p:BN×Nat)=>Zb.s (.one (.ptr p.1 p.2))) N.h:=fun call=>by
   simp only[runK,ka,kvs1,zH];show call (.inl g) ((cL vs).map (fun x=>x .nil)++ps.map fun(p:BN×Nat)=>Zb.s (.one (.ptr p.1 p.2))) N.h=_;rw[zjN]
  obtain⟨p,⟨q1,q2,q3⟩,M,hM⟩:=ev;refine⟨p,?_,M,fun n hn=>(run (C n)).trans (hM n hn)⟩;have G:Gr N2.h p.2:=by rw[hh2];exact q2
  obtain⟨i1,i2⟩:=S12.inv.grow q1 G;refine⟨_,rfl,⟨i1,S12.nx.trans i2,Bk.gr q2,S12.lock,S12.ho,?_⟩⟩
  ·refine ha _ _ ?_;refine q3.mono ⟨fun b o hb ho=>hb.imp id fun h=>⟨?_,o,ho⟩,fun _ _ _ h=>h⟩;rw[hh2];exact h.1
 obtain⟨res,a,hres,hk,ha⟩:=zlD e;exact key res hres a ha hk
theorem ztX{O:Orc}(hO:u7 O C){sh:Sh}(I:Zf E N os)(F:∀i,RepPA N (r i) (ρ i)){f:Operand}{args:List Operand}(e:w1 (pv ρ f) (fun c=>za (pvs ρ args) fun as=>za (frA (fun _=>false) os as) fun p=>za (frC (fun _=>false) y7 p.1 c) fun q=>zyP sh (zxi O q.2 p.2) fun a=>k a os [] [])=some x):Goal C E lk N os r (.call f args) k x:=by
 have hh:=uE F e;clear e;obtain⟨c,v,e,ka,ra,pka⟩:=hh;obtain⟨as,h1,e⟩:=zm e;obtain⟨⟨os1,ds⟩,h2,e⟩:=zm e;obtain⟨⟨os2,fv⟩,h3,e⟩:=zm e;simp only at h3 e;obtain⟨vs,kvs1,rvs⟩:=zfG F h1;obtain⟨w,rfl,hw⟩:=yk ra;obtain⟨N1,f1,S1,r1⟩:=zjq I rvs h2;obtain⟨N2,f2,S2,r2⟩:=zdH S1.inv (RepPC.mono S1.nx hw) h3;have S12:=S1.trans S2 f1.n;have hh2:N2.h=N.h:=f2.h.trans f1.h;unfold zxi at e;cases fv<;>first|(cases sh<;>cases e)|skip
 rename_i g caps;simp only at e;obtain⟨ps,rfl,hps⟩:=r2.fn_inv;have harg:RepAL N2.fz N2.h (vs++ps.map fun(p:BN×Nat)=>Zb.s (.one (.ptr p.1 p.2))) (ds++caps.map fun x=>.s (.one (.fp x 0))):=RepAL.app (r1.mono S2.nx.fg) (zcF hps);have key:∀res,O g (ds++caps.map fun x=>.s (.one (.fp x 0)))=some res→∀a,(∀(fz:BN→Prop) (h:Za) (N':Nm) v,RepA fz h v res→RepPA N' v a)→k a os [] []=some x→Goal C E lk N os r (.call f args) k x:=by
  intro res hres a ha hk;have ev:=hO g _ res hres N2.fz N2.h _ S12.inv.hw S12.inv.fzlt harg;rw[hh2]at ev;refine⟨a,os,[],[],hk,?_⟩;have run:∀call,runK r (.call f args) call N.h=call (.inl g) (vs++ps.map fun(p:BN×Nat)=>Zb.s (.one (.ptr p.1 p.2))) N.h:=fun call=>by
   simp only[runK,ka,kvs1,zH];show call (.inl g) ((cL vs).map (fun x=>x .nil)++ps.map fun(p:BN×Nat)=>Zb.s (.one (.ptr p.1 p.2))) N.h=_;rw[zjN]
  obtain⟨p,⟨q1,q2,q3⟩,M,hM⟩:=ev;refine⟨p,?_,M,fun n hn=>(run (C n)).trans (hM n hn)⟩;obtain⟨i1,i2⟩:=I.grow q1 q2;exact⟨_,rfl,⟨i1,i2,Bk.gr q2,fun _ _=>rfl,.refl _ _ _,ha _ _ _ _ q3⟩⟩
 obtain⟨res,a,hres,hk,ha⟩:=ztn e;exact key res hres a ha hk
theorem zt0{O:Orc}(hO:u7 O C){sh:Sh}(I:Zf E N os)(F:∀i,RepPA N (r i) (ρ i)){f:Operand}{args:List Operand}(e:w1 (pv ρ f) (fun c=>za (pvs ρ args) fun as=>bif zzJ sh&&(zzn os c||zyR os as) then za (frA (fun _=>false) os as) (fun p=>za (frC (fun _=>false) y7 p.1 c) fun q=>zyP sh (zxi O q.2 p.2) fun a=>k a os [] []) else za (frA lk os as) fun p=>za (frC lk y7 p.1 c) fun q=>bSh sh (zxi O q.2 p.2) fun a=>k a q.1 [] [])=some x):Goal C E lk N os r (.call f args) k x:=by
 have hh:=uE F e;obtain⟨c,v,e',ka,ra,pka⟩:=hh;obtain⟨as,h1,e'⟩:=zm e';cases hb:(zzJ sh&&(zzn os c||zyR os as)) with
 |false=>
  rw[hb]at e';exact zrP hO I F (f:=f) (args:=args) (sh:=sh) (by rw[pka,h1];exact e')
 |true=>
  rw[hb]at e';exact ztX hO I F (f:=f) (args:=args) (sh:=sh) (by rw[pka,h1];exact e')
theorem zmp(I:Zf E N os)(F:∀i,RepPA N (r i) (ρ i))(hlk:∀j,lk j=true→j<os.length){st bytes:Nat}{zs:List Zc}{a b:Operand}
  (e:wd (pv ρ a) (fun l=>wd (pv ρ b) fun c=>za (mkN bytes l c) fun n=>za (cDs zs) fun ps=>za (zxV ps) fun ds=>bif Nat.beq zs.length st then k (pc (.own os.length)) (os++[.arr st (some (List.replicate n ds))]) [] [] else none)=some x):Goal C E lk N os r (.mkslice st zs bytes a b) k x:=by
 have hh:=wX F e;clear e;obtain⟨l,w,e,ka,ra⟩:=hh;have hh:=wX F e;clear e;obtain⟨c,w2,e,kb,rb⟩:=hh;have hh:=zm e;clear e;obtain⟨n,hn,e⟩:=hh;have hh:=zm e;clear e;obtain⟨ps,hp,e⟩:=hh;have hh:=zm e;clear e;obtain⟨ds,hd,e⟩:=hh;have hz:RepL N.fz N.h zs ds:=zaS hd (zaj (N:=N) hp);cases hst:Nat.beq zs.length st with
 |false=>rw[hst]at e;cases e
 |true=>
 rw[hst,Yza]at e;have hst:=Lz1 hst;unfold mkN at hn;split at hn
 ·rename_i kl m kc q;cases hb:(Nat.beq m q&&Nat.ble q 1073741824&&Nat.ble (bytes*q) 281474976710656) with
  |false=>rw[hb]at hn;cases hn
  |true=>
   rw[hb]at hn;cases hn;rw[LzC,LzC]at hb;obtain⟨⟨h1,h2⟩,h3⟩:=hb;have h1:q=n:=(Lz1 h1).symm;rw[h1]at rb h2 h3;have ew:=yn ra (c:=.int kl (.ofNat n)) rfl;have ew2:=yn rb (c:=.int kc (.ofNat n)) rfl;subst ew ew2;subst hst;obtain⟨N2,h4,h5,S2,r2⟩:=zcb (lk:=lk) (ex:=true) I hlk (st:=zs.length) (vs:=zwX zs n) (xs:=List.replicate n ds) (by rw[zef,YyG]) fun i y hy=>by
    have hi:i<n:=by have:=(Lz0.1 hy).1;simpa using this
    rw[List.getElem?_replicate,Yzd hi]at hy;cases hy;exact⟨hz.1.symm,by rw[zeg zs n i hi];exact hz⟩
   refine⟨_,_,_,_,e,⟨(.s (.one (.slc N.h.n 0 n n true)),N.h.new (.cells (zwX zs n) zs.length)),⟨N2,h4,?_⟩,0,fun _ _=>?_⟩⟩
   ·rw[YyG]at r2;exact S2.sim r2
   ·show runK r (.mkslice zs.length zs bytes a b) (C _) N.h=_;simp only[runK,ka,kb,zH];show (bif Nat.ble n n&&Nat.ble n 1073741824&&Nat.ble (bytes*n) 281474976710656 then zxe N.h (.cells (zwX zs n) zs.length) (fun b=>.slc b 0 n n true) else none)=_;rw[Yzm (LzB n),h2,h3];show zxe N.h (.cells (zwX zs n) zs.length) (fun b=>.slc b 0 n n true)=_;exact ub _ _ _
 ·cases hn
theorem zvQ(I:Zf E N os)(F:∀i,RepPA N (r i) (ρ i)){a:Operand}(e:wd (pv ρ a) (fun v=>za (zzK v) fun z=>k (pd z) os [] [])=some x):Goal C E lk N os r (.s2b a) k x:=by
 have hh:=wX F e;clear e;obtain⟨v,w,e,ka,ra⟩:=hh;have hh:=zm e;clear e;obtain⟨z,hz,e⟩:=hh;unfold zzK at hz;split at hz
 ·rename_i s;cases hz;have ew:=yn ra (c:=.str s) rfl;subst ew;have hw:=I.hw.new (.ro none (ue (bytesOf s)));have G:=Gr.new N.h (.ro none (ue (bytesOf s)));obtain⟨i1,i2⟩:=I.grow hw G;have hget:(N.h.new (.ro none (ue (bytesOf s)))).t.get N.h.n=some (.ro none (ue (bytesOf s))):=by simp only[Za.new];exact zz _ _ _
  refine⟨_,_,_,_,e,⟨(.s (.one (.slc N.h.n 0 s.size 0 false)),N.h.new (.ro none (ue (bytesOf s)))),⟨_,rfl,⟨i1,i2,Bk.gr G,fun _ _=>rfl,.refl _ _ _,?_⟩⟩,0,fun n _=>?_⟩⟩
  ·refine uk ?_;have hl:s.size=(s.data.toList.map fun c=>([.int .u8 (.ofNat c.toNat)]:List DV)).length:=by
    rw[Yzj];exact(YyP (xs:=s.data)).symm
   rw[hl];have hlen:(bytesOf s).length=s.data.toList.length:=by unfold bytesOf;rw[Yzj]
   refine Rep.lst (o:=.ro none (ue (bytesOf s))) (bytesOf s) (.inr ⟨LzB _,_,hget⟩) hget (fun h=>by cases h) ?_ (fun i y hy=>?_) (fun i y j c d hy hc hd=>?_)
   ·refine zhW (by rw[hlen,Yzj,YyL]) fun j c hj=>?_;rw[Yze,xO];exact hj
   ·rw[Lz6,Yz3]at hy;obtain⟨q,_,rfl⟩:=hy;rfl
   ·rw[Lz6,Yz3]at hy;obtain⟨q,hq,rfl⟩:=hy;cases j with
    |succ j=>simp at hd
    |zero=>
     simp only[Yzg,Option.some.injEq]at hd;subst hd;rw[YyL,Yzw]at hc;unfold bytesOf at hc;rw[Lz6,hq]at hc;cases hc;exact .int _ _
  ·show runK r (.s2b a) (C n) N.h=_;simp only[runK,ka,zH];show zxe N.h (.ro none (ue (bytesOf s))) (fun b=>.slc b 0 s.size 0 false)=_;exact ub _ _ _
 ·cases hz
theorem zqs{O:Orc}(hO:u7 O C){sh:Sh}(I:Zf E N os)(F:∀i,RepPA N (r i) (ρ i))(hlk:∀j,lk j=true→j<os.length){ko:KOp}(e:pOp O lk sh ρ os ko k=some x):Goal C E lk N os r ko k x:=by
 cases ko with
 |mv a=>exact(zAp I F e).goal I
 |pick c a b=>exact(zqv I F e).goal I
 |alloc zs=>exact zrQ I hlk e
 |box a=>exact zvR I F hlk e
 |build zs parts=>exact(zmu I F e).goal I
 |bslice st len zs parts=>exact zpc I F hlk e
 |load n a=>exact(zqy I F e).goal I
 |store n a b=>exact zrM I F e
 |nilck a=>exact(zmo I F e).goal I
 |bin op a b=>exact(zt1 I F e).goal I
 |shift l a b=>exact(zmn I F e).goal I
 |str op a b=>exact(ztT I F e).goal I
 |nilS neg a b=>exact(zqw I F e).goal I
 |eq q neg a b=>exact(zAq I F e).goal I
 |not a=>exact(ztU I F e).goal I
 |neg a=>exact(ztV I F e).goal I
 |conv t a=>exact(zqC I F e).goal I
 |b2s a=>exact(zt2 I F e).goal I
 |mkfn f caps=>exact(zqx I F e).goal I
 |slice st a lo hi mx=>exact(zmm I F e).goal I
 |clear st zs a=>exact zrO I F e
 |sslice a lo hi=>exact(ziV I F e).goal I
 |foff a off=>exact(zqB I F e).goal I
 |field a off n=>exact(zmt I F e).goal I
 |ixs st a i=>exact(ztZ I F e).goal I
 |ixarr len st a i=>exact(zmr I F e).goal I
 |ixagg len st n a i=>exact(zms I F e).goal I
 |ixstr a i=>exact(zmq I F e).goal I
 |extract a i=>exact(zfR I F e).goal I
 |lenS a=>exact(zqz I F e).goal I
 |lenL a=>exact(zqA I F e).goal I
 |append st bytes s a=>exact zpd I F hlk e
 |minmax m a xs=>exact(ziW I F e).goal I
 |mkslice st zs bytes a b=>exact zmp I F hlk e
 |s2b a=>exact zvQ I F e
 |call f args=>exact zt0 hO I F e
 |mkmap st=>exact zrN I hlk e
 |lookup q z ok a b=>exact zpb I F e
 |mupd q a b c=>exact ztW I F e
 |lenM a=>exact ztY I F e
end
end Go.PE
end
section
namespace Go.PE
open Go Go.CE
inductive Pl where
 |slot (i:Nat)
 |cell (k j:Nat)
 |lnk (t:Nat)
def zzB:Pl→Pl→Bool
 | .slot i,.slot j=>Nat.beq i j
 | .cell k i,.cell l j=>Nat.beq k l&&Nat.beq i j
 | .lnk i,.lnk j=>Nat.beq i j
 |_,_=>false
theorem zsL{a b:Pl}(h:zzB a b=true):a=b:=by
 cases a<;>cases b<;>simp only[zzB]at h<;>first|(cases h;done)|skip
 ·rw[Lz1 h]
 ·rw[LzC]at h;rw[Lz1 h.1,Lz1 h.2]
 ·rw[Lz1 h]
def zx4(x:Pl):List Pl→Nat→Option Nat
 | [],_=>none
 |y::l,i=>bif zzB x y then some i else zx4 x l (Nat.succ i)
theorem zeM{x:Pl}:∀{l:List Pl} {i p:Nat},zx4 x l i=some p→∃q,p=i+q∧l[q]? = some x
 | [],i,p,e=>by cases e
 |y::l,i,p,e=>by
  simp only[zx4]at e;cases hb:zzB x y with
  |true=>rw[hb]at e;cases e;exact⟨0,rfl,by rw[zsL hb];rfl⟩
  |false=>
   rw[hb]at e;obtain⟨q,h1,h2⟩:=zeM e;exact⟨q+1,by omega,by simpa using h2⟩
structure LA where
 data:List Pl
 own:List (Pl×Nat)
 boxes:List (Nat×Nat)
 arrs:List (Nat×Nat)
 xdata:List Pl
 xown:List (Pl×Nat)
 rdata:List Pl
 rown:List (Pl×Nat)
 frz:List Nat
def zx0(la:LA):Zh→List Pl
 | .normal=>la.data
 | .exit _=>la.xdata
 | .ret=>la.rdata
def zxZ(la:LA):Zh→List (Pl×Nat)
 | .normal=>la.own
 | .exit _=>la.xown
 | .ret=>la.rown
def zwK:List DV→Nat→DV
 | [],_=>.u
 |d::l,i=>bif Nat.beq i 0 then d else zwK l (Nat.sub i 1)
def zwL:List OC→Nat→OC
 | [],_=>none
 |d::l,i=>bif Nat.beq i 0 then d else zwL l (Nat.sub i 1)
theorem zmx:∀(l:List DV) (i:Nat),zwK l i=(l[i]?).getD .u
 | [],i=>by simp[zwK]
 |d::l,0=>by simp[zwK]
 |d::l,i+1=>by
  have:=zmx l i;show zwK l i=_;rw[this];simp
theorem zho:∀(l:List OC) (i:Nat),zwL l i=(l[i]?).getD none
 | [],i=>by simp[zwL]
 |d::l,0=>by simp[zwL]
 |d::l,i+1=>by
  have:=zho l i;show zwL l i=_;rw[this];simp
def zyd(ρ:Nat→PA)(os:List PO):Pl→Option PC
 | .slot i=>match ρ i with | .s (.one c)=>some c|_=>none
 | .cell k j=>match og os k with | .box cs=>cs[j]? |_=>none
 | .lnk t=>match og os t with | .lnk m=>some (.own m)|_=>none
def zxt(st:Nat):Bool:=Nat.ble 1048576 st
def mkO(st:Nat)(v:OC):PO:=bif zxt st then .mp st (zQ v) else .arr st v
theorem jz{st:Nat}{v:OC}(h:zxt st=false):mkO st v=.arr st v:=by simp only[mkO,h,Yzc]
theorem zfW{st:Nat}{v:OC}(h:zxt st=true):mkO st v=.mp st (zQ v):=by simp only[mkO,h,Yza]
def zyn(lk:Nat→Bool)(ρ:Nat→PA):List Pl→List PO→Option (List PO×List DV)
 | [],os=>some (os,[])
 |p::l,os=>
  match zyd ρ os p with
  |some c=>
   match frC lk y7 os c with
   |some (os',d)=>
    match zyn lk ρ l os' with
    |some (os'',ds)=>some (os'',d::ds)
    |none=>none
   |none=>none
  |none=>none
def zzH(os:List PO)(st:Nat):PC→Option (OC×Option Nat)
 | .own m=>
  match og os m with
  | .arr st' v=>bif Nat.beq st st' && !zxt st then some (v,some m) else none
  | .mp st' xs=>bif Nat.beq st st'&&zxt st then some (some xs,some m) else none
  |_=>none
 | .d .nils=>bif zxt st then none else some (none,none)
 |_=>none
def zyG(ρ:Nat→PA)(os:List PO):List (Pl×Nat)→Option (List OC×List (Option Nat))
 | []=>some ([],[])
 |(p,st)::l=>
  match zyd ρ os p with
  |some c=>
   match zzH os st c with
   |some (v,m)=>
    match zyG ρ os l with
    |some (vs,ms)=>some (v::vs,m::ms)
    |none=>none
   |none=>none
  |none=>none
def zyo(os:List PO):List (Nat×Nat)→Option (List OC)
 | []=>some []
 |(k,st)::l=>
  match og os k with
  | .arr st' v=>bif Nat.beq st st' && !zxt st then(match zyo os l with|some vs=>some (v::vs)|none=>none) else none
  | .mp st' xs=>bif Nat.beq st st'&&zxt st then(match zyo os l with|some vs=>some (some xs::vs)|none=>none) else none
  |_=>none
def qm(os:List PO):List (Nat×Nat)→Bool
 | []=>true
 |(k,n)::l=>(match og os k with | .box cs=>Nat.beq cs.length n|_=>false)&&qm os l
def zfp(okm:Nat→Bool):List (Option Nat)→Bool
 | []=>true
 |none::l=>zfp okm l
 |some m::l=>okm m && !(l.any fun x=>match x with|some m'=>Nat.beq m m'|none=>false)&&zfp okm l
def zkY(lk:Nat→Bool):List Nat→List PO→Option (List PO)
 | [],os=>some os
 |k::l,os=>
  match frC lk y7 os (match og os k with | .box _=>.ptr k 0|_=>.own k) with
  |some (os',_)=>zkY lk l os'
  |none=>none
def vec(lk:Nat→Bool)(okm:Nat→Bool)(la:LA)(x:Zh)(ρ:Nat→PA)(os:List PO):Option (List PO×List DV×List OC×List (Option Nat)):=
 match zyn lk ρ (zx0 la x) os with
 |some (os1,ds)=>
  match zyG ρ os1 (zxZ la x),zyo os1 la.arrs with
  |some (vs,ms),some ws=>bif qm os1 la.boxes&&zfp okm ms then some (os1,ds,vs++ws,ms) else none
  |_,_=>none
 |none=>none
def plP(D:List Pl)(Ow:List (Pl×Nat))(L:List DV)(n0:Nat)(p:Pl):Option PC:=
 match zx4 p D 0 with
 |some i=>some (.d (zwK L i))
 |none=>match zx4 p (Ow.map (·.1)) 0 with|some i=>some (.own (n0+i))|none=>none
def hFr(D:List Pl)(Ow:List (Pl×Nat))(W:List Nat)(ρ:Nat→PA)(n0:Nat)(L:List DV):Nat→PA:=fun i=>
 match plP D Ow L n0 (.slot i) with
 |some c=>pc c
 |none=>bif zxR i W then .bad else ρ i
def qS(D:List Pl)(Ow:List (Pl×Nat))(L:List DV)(n0 k:Nat):Nat→Nat→List PC
 |0,_=>[]
 |n+1,j=>(match plP D Ow L n0 (.cell k j) with|some c=>c|none=>.d .u)::qS D Ow L n0 k n (Nat.succ j)
def wP(D:List Pl)(Ow:List (Pl×Nat))(L:List DV)(n0:Nat):List (Nat×Nat)→List PO→List PO
 | [],os=>os
 |(k,n)::l,os=>wP D Ow L n0 l (oset (.box (qS D Ow L n0 k n 0)) os k)
def qb(M:List OC):List (Nat×Nat)→Nat→List PO→List PO
 | [],_,os=>os
 |(k,st)::l,i,os=>qb M l (Nat.succ i) (oset (mkO st (zwL M i)) os k)
def zx5(M:List OC):List (Pl×Nat)→Nat→List PO
 | [],_=>[]
 |(_,st)::l,i=>mkO st (zwL M i)::zx5 M l (Nat.succ i)
def zxj:List (Pl×Nat)→List Nat
 | []=>[]
 |(.lnk t,_)::l=>t::zxj l
 |_::l=>zxj l
def zcp(Ow:List (Pl×Nat))(n0:Nat):List Nat→List PO→List PO
 | [],os=>os
 |t::l,os=>zcp Ow n0 l (oset (match zx4 (.lnk t) (Ow.map (·.1)) 0 with|some i=>.lnk (n0+i)|none=>.dead) os t)
def hOs(D:List Pl)(Ow:List (Pl×Nat))(la:LA)(B:List PO)(n0:Nat)(L:List DV)(M:List OC):List PO:=
 zcp Ow n0 (zxj la.own) (qb M la.arrs Ow.length (wP D Ow L n0 la.boxes B))++zx5 M Ow 0
def listed(la:LA)(k:Nat):Bool:=(la.boxes.any fun x=>Nat.beq k x.1)||(la.arrs.any fun x=>Nat.beq k x.1)||((zxj la.own).any fun t=>Nat.beq k t)
def kill:List (Option Nat)→List PO→List PO
 | [],os=>os
 |none::l,os=>kill l os
 |some m::l,os=>kill l (oset .dead os m)
section
variable {E:En} {lk:Nat→Bool}
def cvAt(N:Nm)(r:Fr):Pl→Zc→Prop
 | .slot i,c=>r i=.s (.one c)
 | .cell k j,c=>∃b vs,N.μ k=.ptr b 0∧N.h.t.get b=some (.cells vs 0)∧vs[j]? = some c
 | .lnk t,c=>∃b n vs,N.μ t=.ptr b n∧N.h.t.get b=some (.cells vs 1)∧vs[n]? = some c
theorem cvAt.fz{N N':Nm}(f:Fz N N'){r:Fr}{p:Pl}{c:Zc}(H:cvAt N r p c):cvAt N' r p c:=by
 cases p with
 |slot i=>exact H
 |cell k j=>obtain⟨b,vs,h1,h2,h3⟩:=H;exact⟨b,vs,by rw[f.μ];exact h1,by rw[f.h];exact h2,h3⟩
 |lnk t=>obtain⟨b,n,vs,h1,h2,h3⟩:=H;exact⟨b,n,vs,by rw[f.μ];exact h1,by rw[f.h];exact h2,h3⟩
theorem zno{N:Nm}{os:List PO}{r:Fr}{ρ:Nat→PA}(I:Zf E N os)(F:∀i,RepPA N (r i) (ρ i)){p:Pl}{c:PC}(e:zyd ρ os p=some c):∃v,cvAt N r p v∧RepPC N v c:=by
 cases p with
 |slot i=>
  simp only[zyd]at e;split at e
  ·rename_i c' h;cases e;have:=F i;rw[h]at this;obtain⟨w,h1,h2⟩:=yk this;exact⟨w,h1,h2⟩
  ·cases e
 |cell k j=>
  simp only[zyd]at e;cases ho:og os k with
  |box cs=>
   rw[ho]at e;obtain⟨b,vs,h1,h2,h3,h4⟩:=uU I ho;have hj:=(Lz0.1 e).1;have hl:=h4.len;obtain⟨v,hv⟩:∃v,vs[j]? = some v:=⟨_,Lz5 (by omega)⟩;exact⟨v,⟨b,vs,h1,h3,hv⟩,h4.get hv e⟩
  |_=>rw[ho]at e;cases e
 |lnk t=>
  simp only[zyd]at e;cases ho:og os t with
  |lnk m=>
   rw[ho]at e;cases e;have hO:=I.obj t;rw[ho]at hO;obtain⟨h0,b,n,vs,h1,h2,h3,h4⟩:=hO;exact⟨N.μ m,⟨b,n,vs,h1,h3,h4⟩,h0,rfl⟩
  |_=>rw[ho]at e;cases e
theorem zpP{os:List PO}{ρ:Nat→PA}{t:Nat}{c:PC}(e:zyd ρ os (.lnk t)=some c):∃m,og os t=.lnk m:=by
 simp only[zyd]at e;split at e
 ·rename_i m h;exact⟨m,h⟩
 ·cases e
theorem zjp:∀{l:List Nat} {os os':List PO} {N:Nm},Zf E N os→zkY lk l os=some os'→∃N',Fz N N'∧Stp E lk N os [] N' os'
 | [],os,os',N,I,e=>by cases e;exact⟨N,.refl N,.refl I⟩
 |k::l,os,os',N,I,e=>by
  simp only[zkY]at e;have key:∀p,(∀os1 d,frC lk y7 os p=some (os1,d)→∃c,RepPC N c p)→(match frC lk y7 os p with|some (os',_)=>zkY lk l os'|none=>none)=some os'→∃N',Fz N N'∧Stp E lk N os [] N' os':=by
   intro p hp e;cases h:frC lk y7 os p with
   |none=>rw[h]at e;cases e
   |some q=>
    obtain⟨os1,d⟩:=q;rw[h]at e;obtain⟨c,hc⟩:=hp os1 d h;obtain⟨N1,f1,s1,_⟩:=zdH I hc h;obtain⟨N2,f2,s2⟩:=zjp s1.inv e;exact⟨N2,f1.trans f2,s1.trans s2 f1.n⟩
  have lt:og os k≠.dead→k<N.n:=fun h=>by rw[I.len];exact un h
  cases ho:og os k with
  |box cs=>
   rw[ho]at e;obtain⟨b,vs,h1,_⟩:=uU I ho;exact key (.ptr k 0) (fun _ _ _=>⟨.ptr b 0,lt (by rw[ho];intro h;cases h),b,h1,rfl⟩) e
  |arr st v=>rw[ho]at e;exact key (.own k) (fun _ _ _=>⟨N.μ k,lt (by rw[ho];intro h;cases h),rfl⟩) e
  |frz v=>rw[ho]at e;exact key (.own k) (fun _ _ _=>⟨N.μ k,lt (by rw[ho];intro h;cases h),rfl⟩) e
  |mp st xs=>
   rw[ho]at e;refine key (.own k) (fun os1 d h=>?_) e;have:frC lk y7 os (.own k)=none:=by
    rw[show y7=99+1 from rfl];simp only[frC,ho]
   rw[this]at h;cases h
  |fbox ds=>rw[ho]at e;exact key (.own k) (fun _ _ _=>⟨N.μ k,lt (by rw[ho];intro h;cases h),rfl⟩) e
  |hol v n t=>rw[ho]at e;exact key (.own k) (fun _ _ _=>⟨N.μ k,lt (by rw[ho];intro h;cases h),rfl⟩) e
  |lnk m=>rw[ho]at e;exact key (.own k) (fun _ _ _=>⟨N.μ k,lt (by rw[ho];intro h;cases h),rfl⟩) e
  |dead=>
   rw[ho]at e;refine key (.own k) (fun os1 d h=>?_) e;have:frC lk y7 os (.own k)=none:=by
    rw[show y7=99+1 from rfl];simp only[frC,ho]
   rw[this]at h;cases h
theorem zd2{r:Fr}{ρ:Nat→PA}:∀{D:List Pl} {N:Nm} {os os1:List PO} {ds:List DV},Zf E N os→(∀i,RepPA N (r i) (ρ i))→zyn lk ρ D os=some (os1,ds)→
  ∃N1,Fz N N1∧Stp E lk N os [] N1 os1∧ds.length=D.length∧∀(i:Nat) (p:Pl) (d:DV),D[i]? = some p→ds[i]? = some d→∃c,cvAt N1 r p c∧Rep N1.fz N1.h c d
 | [],N,os,os1,ds,I,F,e=>by cases e;exact⟨N,.refl N,.refl I,rfl,fun i p d h=>by simp at h⟩
 |p::D,N,os,os1,ds,I,F,e=>by
  simp only[zyn]at e;cases h1:zyd ρ os p with
  |none=>rw[h1]at e;cases e
  |some c=>
   rw[h1]at e;simp only at e;cases h2:frC lk y7 os c with
   |none=>rw[h2]at e;cases e
   |some q=>
    obtain⟨o1,d⟩:=q;rw[h2]at e;simp only at e;cases h3:zyn lk ρ D o1 with
    |none=>rw[h3]at e;cases e
    |some q=>
     obtain⟨o2,ds2⟩:=q;rw[h3]at e;cases e;obtain⟨v,k1,k2⟩:=zno I F h1;obtain⟨N1,f1,s1,r1⟩:=zdH I k2 h2;obtain⟨N2,f2,s2,l2,r2⟩:=zd2 s1.inv (fun i=>(F i).mono s1.nx) h3;refine⟨N2,f1.trans f2,s1.trans s2 f1.n,by simp[l2],fun i p' d' hp hd=>?_⟩;cases i with
     |zero=>simp only[Yzg,Option.some.injEq]at hp hd;subst hp;subst hd;exact⟨v,(k1.fz f1).fz f2,r1.mono s2.nx.fg⟩
     |succ i=>exact r2 i p' d' (by simpa using hp) (by simpa using hd)
theorem zgY{N:Nm}{os:List PO}{r:Fr}{ρ:Nat→PA}(I:Zf E N os)(F:∀i,RepPA N (r i) (ρ i)):∀{Ow:List (Pl×Nat)} {vs:List OC} {ms:List (Option Nat)},zyG ρ os Ow=some (vs,ms)→
  vs.length=Ow.length∧ms.length=Ow.length∧∀(i:Nat) (p:Pl) (st:Nat),Ow[i]? = some (p,st)→∃v m c,vs[i]? = some v∧ms[i]? = some m∧cvAt N r p c∧((m=none∧v=none∧c=.nils∧zxt st=false)∨∃q,m=some q∧og os q=mkO st v∧c=N.μ q∧q<N.n)∧(∀t,p=.lnk t→∃m,og os t=.lnk m)
 | [],vs,ms,e=>by cases e;exact⟨rfl,rfl,fun i p st h=>by simp at h⟩
 |(p,st)::Ow,vs,ms,e=>by
  simp only[zyG]at e;cases h1:zyd ρ os p with
  |none=>rw[h1]at e;cases e
  |some c=>
   rw[h1]at e;simp only at e;cases h2:zzH os st c with
   |none=>rw[h2]at e;cases e
   |some q=>
    obtain⟨v,m⟩:=q;rw[h2]at e;simp only at e;cases h3:zyG ρ os Ow with
    |none=>rw[h3]at e;cases e
    |some q=>
     obtain⟨vs2,ms2⟩:=q;rw[h3]at e;cases e;obtain⟨w,k1,k2⟩:=zno I F h1;obtain⟨l1,l2,H⟩:=zgY I F h3;refine⟨by simp[l1],by simp[l2],fun i p' st' hp=>?_⟩;cases i with
     |zero=>
      simp only[Yzg,Option.some.injEq,Prod.mk.injEq]at hp;obtain⟨rfl,rfl⟩:=hp;refine⟨v,m,w,rfl,rfl,k1,?_,fun t ht=>by subst ht;exact zpP h1⟩;cases c with
      |d dv=>
       cases dv with
       |nils=>
        have h2':(bif zxt st then none else some ((none:OC),(none:Option Nat)))=some (v,m):=h2;cases hm:zxt st with
        |true=>rw[hm]at h2';cases h2'
        |false=>
         rw[hm]at h2';cases h2';exact .inl ⟨rfl,rfl,Rep.scal k2 rfl,rfl⟩
       |_=>cases h2
      |own q=>
       simp only[zzH]at h2;cases ho:og os q with
       |arr st' v'=>
        rw[ho]at h2;simp only at h2;cases hs:(Nat.beq st st' && !zxt st) with
        |false=>rw[hs]at h2;cases h2
        |true=>
         rw[hs]at h2;cases h2;simp only[LzC,YzN]at hs;have he:=Lz1 hs.1;subst he;exact .inr ⟨q,rfl,by rw[jz hs.2];exact ho,k2.2,k2.1⟩
       |mp st' xs=>
        rw[ho]at h2;simp only at h2;cases hs:(Nat.beq st st'&&zxt st) with
        |false=>rw[hs]at h2;cases h2
        |true=>
         rw[hs]at h2;cases h2;rw[LzC]at hs;have he:=Lz1 hs.1;subst he;exact .inr ⟨q,rfl,by rw[zfW hs.2];exact ho,k2.2,k2.1⟩
       |_=>rw[ho]at h2;cases h2
      |_=>cases h2
     |succ i=>
      obtain⟨v',m',c',a1,a2,a3⟩:=H i p' st' (by simpa using hp);exact⟨v',m',c',by simpa using a1,by simpa using a2,a3⟩
theorem zgZ{os:List PO}:∀{l:List (Nat×Nat)} {ws:List OC},zyo os l=some ws→ws.length=l.length∧∀(i k st:Nat),l[i]? = some (k,st)→∃v,ws[i]? = some v∧og os k=mkO st v
 | [],ws,e=>by cases e;exact⟨rfl,fun i k st h=>by simp at h⟩
 |(k,st)::l,ws,e=>by
  simp only[zyo]at e;have key:∀v,og os k=mkO st v→(match zyo os l with|some vs=>some (v::vs)|none=>none)=some ws→ws.length=((k,st)::l).length∧∀(i k' st':Nat),((k,st)::l)[i]? = some (k',st')→∃v,ws[i]? = some v∧og os k'=mkO st' v:=by
   intro v ho e;cases h2:zyo os l with
   |none=>rw[h2]at e;cases e
   |some vs=>
    rw[h2]at e;cases e;obtain⟨a,b⟩:=zgZ h2;refine⟨by simp[a],fun i k' st' h=>?_⟩;cases i with
    |zero=>
     simp only[Yzg,Option.some.injEq,Prod.mk.injEq]at h;obtain⟨rfl,rfl⟩:=h;exact⟨v,rfl,ho⟩
    |succ i=>obtain⟨v',b1,b2⟩:=b i k' st' (by simpa using h);exact⟨v',by simpa using b1,b2⟩
  cases ho:og os k with
  |arr st' v=>
   rw[ho]at e;simp only at e;cases hs:(Nat.beq st st' && !zxt st) with
   |false=>rw[hs]at e;cases e
   |true=>
    rw[hs]at e;simp only[LzC,YzN]at hs;have he:=Lz1 hs.1;subst he;exact key v (by rw[jz hs.2];exact ho) e
  |mp st' xs=>
   rw[ho]at e;simp only at e;cases hs:(Nat.beq st st'&&zxt st) with
   |false=>rw[hs]at e;cases e
   |true=>
    rw[hs]at e;rw[LzC]at hs;have he:=Lz1 hs.1;subst he;exact key (some xs) (by rw[zfW hs.2];exact ho) e
  |_=>rw[ho]at e;cases e
theorem zaN{os:List PO}:∀{l:List (Nat×Nat)},qm os l=true→∀k n,(k,n)∈l→∃cs,og os k=.box cs∧cs.length=n
 |(k0,n0)::l,e,k,n,h=>by
  simp only[qm,LzC]at e;rcases YzO.1 h with h|h
  ·rw[Prod.mk.injEq]at h;obtain⟨h1,h2⟩:=h;subst h1;subst h2;cases ho:og os k with
   |box cs=>have:=e.1;rw[ho]at this;exact⟨cs,rfl,Lz1 this⟩
   |_=>have:=e.1;rw[ho]at this;cases this
  ·exact zaN e.2 k n h
theorem zbo{okm:Nat→Bool}:∀{ms:List (Option Nat)},zfp okm ms=true→(∀(i m:Nat),ms[i]? = some (some m)→okm m=true)∧∀(i j m:Nat),ms[i]? = some (some m)→ms[j]? = some (some m)→i=j
 | [],_=>⟨fun i m h=>by simp at h,fun i j m h=>by simp at h⟩
 |none::l,e=>by
  obtain⟨a,b⟩:=zbo (ms:=l) e;refine⟨fun i m h=>?_,fun i j m h h'=>?_⟩
  ·cases i with
   |zero=>simp at h
   |succ i=>exact a i m (by simpa using h)
  ·cases i with
   |zero=>simp at h
   |succ i=>
    cases j with
    |zero=>simp at h'
    |succ j=>rw[b i j m (by simpa using h) (by simpa using h')]
 |some q::l,e=>by
  simp only[zfp,LzC,YzN]at e;obtain⟨⟨e1,e2⟩,e3⟩:=e;obtain⟨a,b⟩:=zbo (ms:=l) e3;have ne:∀j:Nat,l[j]?≠some (some q):=fun j h=>by
   have:=Lz3 h;have h3:(l.any fun x=>match x with|some m'=>Nat.beq q m'|none=>false)=true:=List.any_eq_true.2 ⟨_,this,Yzu q⟩;rw[h3]at e2;cases e2
  refine⟨fun i m h=>?_,fun i j m h h'=>?_⟩
  ·cases i with
   |zero=>simp at h;subst h;exact e1
   |succ i=>exact a i m (by simpa using h)
  ·cases i with
   |zero=>
    cases j with
    |zero=>rfl
    |succ j=>simp at h;subst h;exact absurd (by simpa using h') (ne j)
   |succ i=>
    cases j with
    |zero=>simp at h';subst h';exact absurd (by simpa using h) (ne i)
    |succ j=>rw[b i j m (by simpa using h) (by simpa using h')]
theorem ut(D:List Pl)(Ow:List (Pl×Nat))(L:List DV)(n0:Nat):∀(l:List (Nat×Nat)) (os:List PO),(wP D Ow L n0 l os).length=os.length
 | [],_=>rfl
 |(k,n)::l,os=>by simp only[wP];rw[ut D Ow L n0 l,yf]
theorem qT(M:List OC):∀(l:List (Nat×Nat)) (i:Nat) (os:List PO),(qb M l i os).length=os.length
 | [],_,_=>rfl
 |(k,st)::l,i,os=>by simp only[qb];rw[qT M l,yf]
theorem qR(Ow:List (Pl×Nat))(n0:Nat):∀(l:List Nat) (os:List PO),(zcp Ow n0 l os).length=os.length
 | [],_=>rfl
 |t::l,os=>by simp only[zcp];rw[qR Ow n0 l,yf]
theorem zco(Ow:List (Pl×Nat))(n0:Nat):∀(l:List Nat) (os:List PO) (k:Nat),
  (k∈l∧k<os.length∧og (zcp Ow n0 l os) k=match zx4 (.lnk k) (Ow.map (·.1)) 0 with|some i=>.lnk (n0+i)|none=>.dead)∨((k∈l→¬k<os.length)∧og (zcp Ow n0 l os) k=og os k)
 | [],os,k=>.inr ⟨fun h=>(by cases h),rfl⟩
 |t::l,os,k=>by
  simp only[zcp];rcases zco Ow n0 l (oset (match zx4 (.lnk t) (Ow.map (·.1)) 0 with|some i=>.lnk (n0+i)|none=>.dead) os t) k with⟨h1,h2,h3⟩|⟨h1,h2⟩
  ·exact .inl ⟨Yzf _ h1,by rwa [yf]at h2,h3⟩
  ·rw[zJ]at h2;by_cases hk:k=t∧t<os.length
   ·rw[Yzd hk]at h2;have h0:=hk.1;subst h0;exact .inl ⟨Yzi ..,hk.2,h2⟩
   ·rw[Yzb hk]at h2;refine .inr ⟨fun hm hlt=>?_,h2⟩;rcases YzO.1 hm with h|h
    ·exact hk ⟨h,by rw[←h];exact hlt⟩
    ·exact h1 h (by rw[yf];exact hlt)
theorem zjj(M:List OC):∀(l:List (Pl×Nat)) (i:Nat),(zx5 M l i).length=l.length
 | [],_=>rfl
 |(_,st)::l,i=>by simp[zx5,zjj M l]
theorem zjk(M:List OC):∀(l:List (Pl×Nat)) (i j:Nat),(zx5 M l i)[j]? = (l[j]?).map fun x=>mkO x.2 (zwL M (i+j))
 | [],i,j=>by simp[zx5]
 |(p,st)::l,i,0=>by simp[zx5]
 |(p,st)::l,i,j+1=>by
  have:=zjk M l (i+1) j;simp only[zx5,Yzl];rw[this,show i+1+j=i+(j+1) by omega]
theorem zaB(D:List Pl)(Ow:List (Pl×Nat))(L:List DV)(n0:Nat):∀(l:List (Nat×Nat)) (os:List PO) (k:Nat),
  (∃n,(k,n)∈l∧k<os.length∧og (wP D Ow L n0 l os) k=.box (qS D Ow L n0 k n 0))∨((∀n,(k,n)∈l→¬k<os.length)∧og (wP D Ow L n0 l os) k=og os k)
 | [],os,k=>.inr ⟨fun n h=>(by cases h),rfl⟩
 |(k0,n)::l,os,k=>by
  simp only[wP];rcases zaB D Ow L n0 l (oset (.box (qS D Ow L n0 k0 n 0)) os k0) k with⟨m,h1,h2,h3⟩|⟨h1,h2⟩
  ·exact .inl ⟨m,Yzf _ h1,by rwa [yf]at h2,h3⟩
  ·rw[zJ]at h2;split at h2
   ·rename_i hk;rw[hk.1]at h2 ⊢;exact .inl ⟨n,Yzi ..,hk.2,h2⟩
   ·rename_i hk;refine .inr ⟨fun m hm hlt=>?_,h2⟩;rcases YzO.1 hm with h|h
    ·cases h;exact hk ⟨rfl,hlt⟩
    ·exact h1 m h (by rw[yf];exact hlt)
theorem zcq(M:List OC):∀(l:List (Nat×Nat)) (i:Nat) (os:List PO) (k:Nat),
  (∃j st,l[j]? = some (k,st)∧k<os.length∧og (qb M l i os) k=mkO st (zwL M (i+j)))∨((∀st,(k,st)∈l→¬k<os.length)∧og (qb M l i os) k=og os k)
 | [],i,os,k=>.inr ⟨fun n h=>(by cases h),rfl⟩
 |(k0,st)::l,i,os,k=>by
  simp only[qb];rcases zcq M l (Nat.succ i) (oset (mkO st (zwL M i)) os k0) k with⟨j,s,h1,h2,h3⟩|⟨h1,h2⟩
  ·exact .inl ⟨j+1,s,by simpa using h1,by rwa [yf]at h2,by rw[h3,show Nat.succ i+j=i+(j+1) by omega]⟩
  ·rw[zJ]at h2;split at h2
   ·rename_i hk;rw[hk.1]at h2 ⊢;exact .inl ⟨0,st,rfl,hk.2,h2⟩
   ·rename_i hk;refine .inr ⟨fun m hm hlt=>?_,h2⟩;rcases YzO.1 hm with h|h
    ·cases h;exact hk ⟨rfl,hlt⟩
    ·exact h1 m h (by rw[yf];exact hlt)
theorem zdF(D:List Pl)(Ow:List (Pl×Nat))(L:List DV)(n0 k:Nat):∀(n i j:Nat),j<n→(qS D Ow L n0 k n i)[j]? = some (match plP D Ow L n0 (.cell k (i+j)) with|some c=>c|none=>.d .u)
 |0,i,j,h=>by omega
 |n+1,i,0,_=>rfl
 |n+1,i,j+1,h=>by
  have:=zdF D Ow L n0 k n (i+1) j (by omega);simp only[qS,Yzl];rw[this,show i+1+j=i+(j+1) by omega]
theorem zdE(D:List Pl)(Ow:List (Pl×Nat))(L:List DV)(n0 k:Nat):∀(n i:Nat),(qS D Ow L n0 k n i).length=n
 |0,_=>rfl
 |n+1,i=>by simp[qS,zdE D Ow L n0 k n]
theorem Zf.reidx{N:Nm}{os:List PO}(I:Zf E N os)(os':List PO)(μ':Nat→Zc)(s:Nat→Nat)(hs:∀k,live (og os' k)→live (og os (s k))∧μ' k=N.μ (s k))
  (hi:∀k k',live (og os' k)→live (og os' k')→s k=s k'→k=k') (ho:∀k,RepO ⟨μ',os'.length,N.fz,N.h⟩ k (og os' k)) (hn:∀t m,og os' t=.lnk m→∃k v n,og os' k=.hol v n t):Zf E ⟨μ',os'.length,N.fz,N.h⟩ os':=
 ⟨I.hw, I.gr, I.fzlt, I.fzok, I.fzex, rfl, fun k b hl hb => by
  obtain⟨h1,h2⟩:=hs k hl;rw[show (Nm.mk μ' os'.length N.fz N.h).μ k=N.μ (s k) from h2]at hb;exact I.own _ b h1 hb,fun k k' b hl hl' hb hb'=>by
  obtain⟨h1,h2⟩:=hs k hl;obtain⟨g1,g2⟩:=hs k' hl';rw[show (Nm.mk μ' os'.length N.fz N.h).μ k=N.μ (s k) from h2]at hb;rw[show (Nm.mk μ' os'.length N.fz N.h).μ k'=N.μ (s k') from g2]at hb';exact hi k k' hl hl' (I.inj _ _ b h1 g1 hb hb'),ho,hn⟩
end
end Go.PE
end
section
namespace Go.PE
open Go Go.CE
section
variable {E:En} {lk okm:Nat→Bool}
theorem zmj(a b:List PO)(k:Nat)(h:k<a.length):og (a++b) k=og a k:=by
 rw[zex,zex,Lz2 h]
theorem zo8(a b:List PO)(k:Nat)(h:a.length≤k):og (a++b) k=(b[k-a.length]?).getD .dead:=by
 rw[zex,Lz8 h]
theorem RepCaps.re{N0 N1 N2:Nm}(hle:N0.n≤N2.n)(hmu:∀k,k<N0.n→N2.μ k=N1.μ k)(hfz:N2.fz=N1.fz)(hh:N2.h=N1.h):∀{ps0 ps:List (BN×Nat)} {caps:List (Nat⊕List DV)},RepCaps N0 ps0 caps→RepCaps N1 ps caps→RepCaps N2 ps caps
 | [],[],[],_,_=>trivial
 |_::_,_::_,.inl k::_,H0,H=>⟨⟨Lz9 H0.1.1 hle,(hmu k H0.1.1).trans H.1.2.1,H.1.2.2⟩,RepCaps.re hle hmu hfz hh H0.2 H.2⟩
 |_::_,_::_,.inr xs::_,H0,H=>⟨by show Rep _ _ _ _;rw[hfz,hh];exact H.1,RepCaps.re hle hmu hfz hh H0.2 H.2⟩
 |_,[],_::_,_,H=>H.elim
 |_,_::_,[],_,H=>H.elim
 | [],_,_::_,H0,_=>H0.elim
 |_::_,_,[],H0,_=>H0.elim
theorem RepPC.re{N0 N1 N2:Nm}(hle:N0.n≤N2.n)(hmu:∀k,k<N0.n→N2.μ k=N1.μ k)(hfz:N2.fz=N1.fz)(hh:N2.h=N1.h){c0 c:Zc}{p:PC}(H0:RepPC N0 c0 p)(H:RepPC N1 c p):RepPC N2 c p:=by
 cases p with
 |d v=>show Rep _ _ _ _;rw[hfz,hh];exact H
 |own k=>exact⟨Lz9 H0.1 hle,H.2.trans (hmu k H0.1).symm⟩
 |ptr k off=>obtain⟨_,b,h2,h3⟩:=H;exact⟨Lz9 H0.1 hle,b,(hmu k H0.1).trans h2,h3⟩
 |ep k st i off=>obtain⟨_,b,l,cap,ex,h2,h3,h4⟩:=H;exact⟨Lz9 H0.1 hle,b,l,cap,ex,(hmu k H0.1).trans h2,h3,h4⟩
 |ip k off len st i o=>obtain⟨_,b,h2,h3,h4⟩:=H;exact⟨Lz9 H0.1 hle,b,(hmu k H0.1).trans h2,h3,h4⟩
 |vw k st lo len=>exact⟨Lz9 H0.1 hle,by rw[hmu k H0.1];exact H.2⟩
 |clo f caps=>
  obtain⟨ps,rfl,hc⟩:=H;obtain⟨ps0,_,hc0⟩:=H0;exact⟨ps,rfl,RepCaps.re hle hmu hfz hh hc0 hc⟩
theorem RepPL.re{N0 N1 N2:Nm}(hle:N0.n≤N2.n)(hmu:∀k,k<N0.n→N2.μ k=N1.μ k)(hfz:N2.fz=N1.fz)(hh:N2.h=N1.h):∀{v0 v:List Zc} {ps:List PC},RepPL N0 v0 ps→RepPL N1 v ps→RepPL N2 v ps
 | [],[],[],_,_=>trivial
 |_::_,_::_,_::_,H0,H=>⟨RepPC.re hle hmu hfz hh H0.1 H.1,RepPL.re hle hmu hfz hh H0.2 H.2⟩
 |_,[],_::_,_,H=>H.elim
 |_,_::_,[],_,H=>H.elim
 | [],_,_::_,H0,_=>H0.elim
 |_::_,_,[],H0,_=>H0.elim
theorem RepO.arr_re{N1 N2:Nm}{k m st:Nat}{v:OC}(hmu:N2.μ k=N1.μ m)(hfz:N2.fz=N1.fz)(hh:N2.h=N1.h)(H:RepO N1 m (.arr st v)):RepO N2 k (.arr st v):=by
 cases v with
 |none=>exact hmu.trans H
 |some xs=>
  obtain⟨b,vs,ex,h1,h2,h3,h4,h5⟩:=H;exact⟨b,vs,ex,hmu.trans h1,by rw[hfz];exact h2,by rw[hh];exact h3,h4,fun i x hx=>by rw[hfz,hh];exact h5 i x hx⟩
theorem RepO.mkO_re{N1 N2:Nm}{k m st:Nat}{v:OC}(hmu:N2.μ k=N1.μ m)(hfz:N2.fz=N1.fz)(hh:N2.h=N1.h)(H:RepO N1 m (mkO st v)):RepO N2 k (mkO st v):=by
 cases hm:zxt st with
 |false=>rw[jz hm]at H ⊢;exact RepO.arr_re hmu hfz hh H
 |true=>
  rw[zfW hm]at H ⊢;obtain⟨b,es,h1,h2,h3,h4,h5⟩:=H;exact⟨b,es,hmu.trans h1,by rw[hfz];exact h2,by rw[hh];exact h3,h4,fun i e x he hx=>by rw[hfz,hh];exact h5 i e x he hx⟩
theorem zn2{l:List (Nat×Nat)}{k:Nat}(h:(l.any fun x=>Nat.beq k x.1)=false):∀n,(k,n)∉l:=fun n hn=>by
 have:(l.any fun x=>Nat.beq k x.1)=true:=List.any_eq_true.2 ⟨(k,n),hn,Yzu k⟩;rw[h]at this;cases this
theorem zhv{st:Nat}{v:OC}{m:Nat}(h:mkO st v=.lnk m):False:=by
 cases hm:zxt st with
 |true=>rw[zfW hm]at h;cases h
 |false=>rw[jz hm]at h;cases h
theorem zbv{t:Nat}:∀{l:List (Pl×Nat)},t∈zxj l→∃st:Nat,(.lnk t,st)∈l
 | [],h=>by cases h
 |(.lnk t',st)::l,h=>by
  simp only[zxj]at h;rcases YzO.1 h with rfl|h
  ·exact⟨st,Yzi ..⟩
  ·obtain⟨st,h⟩:=zbv h;exact⟨st,Yzf _ h⟩
 |(.slot _,_)::l,h=>by obtain⟨st,h⟩:=zbv (l:=l) h;exact⟨st,Yzf _ h⟩
 |(.cell _ _,_)::l,h=>by obtain⟨st,h⟩:=zbv (l:=l) h;exact⟨st,Yzf _ h⟩
theorem zs1{l:List Nat}{k:Nat}(h:(l.any fun t=>Nat.beq k t)=false):k∉l:=fun hn=>by
 have:(l.any fun t=>Nat.beq k t)=true:=List.any_eq_true.2 ⟨k,hn,Yzu k⟩;rw[h]at this;cases this
theorem j9{la:LA}{k:Nat}(h:listed la k=false):(∀n,(k,n)∉la.boxes)∧(∀n,(k,n)∉la.arrs)∧k∉zxj la.own:=by
 unfold listed at h;rw[Yz4,Yz4]at h;exact⟨zn2 h.1.1,zn2 h.1.2,zs1 h.2⟩
theorem jG{D:List Pl}{Ow:List (Pl×Nat)}{la:LA}{B:List PO}{L:List DV}{M:List OC}{k:Nat}(h:k<B.length)(hl:listed la k=false):og (hOs D Ow la B B.length L M) k=og B k:=by
 unfold hOs;obtain⟨l1,l2,l3⟩:=j9 hl;rw[zmj _ _ k (by rw[qR,qT,ut];exact h)];rcases zco Ow B.length (zxj la.own) (qb M la.arrs Ow.length (wP D Ow L B.length la.boxes B)) k with⟨a1,_⟩|⟨_,a2⟩
 ·exact absurd a1 l3
 ·rw[a2];rcases zcq M la.arrs Ow.length (wP D Ow L B.length la.boxes B) k with⟨j,st,a1,_,_⟩|⟨_,a2⟩
  ·exact absurd (Lz3 a1) (l2 st)
  ·rw[a2];rcases zaB D Ow L B.length la.boxes B k with⟨n,c1,_,_⟩|⟨_,c2⟩
   ·exact absurd c1 (l1 n)
   ·exact c2
theorem znl{la:LA}{x:Zh}{N0 N:Nm}{B os os1:List PO}{r r0:Fr}{ρ ρ0:Nat→PA}{W:List Nat}{L:List DV}{M:List OC}{ms:List (Option Nat)}
  (I:Zf E N os) (F:∀i,RepPA N (r i) (ρ i)) (e:vec lk okm la x ρ os=some (os1,L,M,ms)) (hn0:N0.n=B.length) (nx0:Nx N0 N) (F0:∀i,RepPA N0 (r0 i) (ρ0 i)) (hW:∀i,i∉W→r i=r0 i)
  (hB:∀k,k<B.length→listed la k=false→og B k=.dead∨(og B k=og os1 k∧∃(N':Nm),N'.n=B.length∧RepO N' k (og B k)))
  (hT:∀t,t∈zxj la.own→∃m,og B t=.lnk m) (hL:∀t m,og B t=.lnk m→∃k v n,k<B.length∧listed la k=false∧og B k=.hol v n t)
  (hok:∀m,some m∈ms→m<B.length→¬live (og B m)∧listed la m=false):
  ∃N2,N2.h=N.h∧Zf E N2 (hOs (zx0 la x) (zxZ la x) la B B.length L M)∧
   (∀i,RepPA N2 (r i) (hFr (zx0 la x) (zxZ la x) W ρ0 B.length L i))∧Nx N0 N2:=by
 unfold vec at e;generalize hD:(zx0 la x)=D at e ⊢;generalize hOw:(zxZ la x)=Ow at e ⊢;cases h1:zyn lk ρ D os with
 |none=>rw[h1]at e;cases e
 |some q=>
  obtain⟨o1,ds⟩:=q;rw[h1]at e;simp only at e;cases h2:zyG ρ o1 Ow with
  |none=>rw[h2]at e;cases e
  |some q=>
   obtain⟨vs,ms0⟩:=q;cases h3:zyo o1 la.arrs with
   |none=>rw[h2,h3]at e;cases e
   |some ws=>
    rw[h2,h3]at e;simp only at e;cases h4:(qm o1 la.boxes&&zfp okm ms0) with
    |false=>rw[h4]at e;cases e
    |true=>
     rw[h4]at e;cases e;rw[LzC]at h4;obtain⟨N1,f1,S1,lD,rD⟩:=zd2 I F h1;have F1:∀i,RepPA N1 (r i) (ρ i):=fun i=>(F i).mono S1.nx;have I1:=S1.inv;obtain⟨lO,lms,rO⟩:=zgY I1 F1 h2;obtain⟨lA,rA⟩:=zgZ h3;have bO:=zaN h4.1;obtain⟨sA,sB⟩:=zbo h4.2
     let os2:=hOs D Ow la B B.length L (vs++ws)
     have hl0:(qb (vs++ws) la.arrs Ow.length (wP D Ow L B.length la.boxes B)).length=B.length:=by rw[qT,ut]
     have hl1:(zcp Ow B.length (zxj la.own) (qb (vs++ws) la.arrs Ow.length (wP D Ow L B.length la.boxes B))).length=B.length:=by rw[qR,hl0]
     have hlen:os2.length=B.length+Ow.length:=(Yzz (as:=zcp Ow B.length (zxj la.own) (qb (vs++ws) la.arrs Ow.length (wP D Ow L B.length la.boxes B))) (bs:=zx5 (vs++ws) Ow 0)).trans (by rw[hl1,zjj])
     let μ2:Nat→Zc:=fun k=>if k<B.length then N1.μ k else match ms[k-B.length]? with|some (some m)=>N1.μ m|_=>.nils
     let s:Nat→Nat:=fun k=>if k<B.length then k else match ms[k-B.length]? with|some (some m)=>m|_=>0
     let N2:Nm:=⟨μ2,os2.length,N1.fz,N1.h⟩
     have mulo:∀k,k<B.length→μ2 k=N1.μ k:=fun k hk=>by show (if k<B.length then _ else _)=_;rw[Yzd hk]
     have slo:∀k,k<B.length→s k=k:=fun k hk=>by show (if k<B.length then _ else _)=_;rw[Yzd hk]
     have muhi:∀q,μ2 (B.length+q)=match ms[q]? with|some (some m)=>N1.μ m|_=>.nils:=fun q=>by
      show (if B.length+q<B.length then _ else _)=_;rw[Yzb (by omega),Yyc]
     have shi:∀q m,ms[q]? = some (some m)→s (B.length+q)=m:=fun q m hm=>by
      show (if B.length+q<B.length then _ else _)=_;rw[Yzb (by omega),Yyc,hm]
     have nthO1:∀q v,vs[q]? = some v→zwL (vs++ws) q=v:=fun q v hq=>by
      have:=(Lz0.1 hq).1;rw[zho,Lz2 this,hq];rfl
     have nthO2:∀j v,ws[j]? = some v→zwL (vs++ws) (Ow.length+j)=v:=fun j v hj=>by
      rw[zho,Lz8 (by omega),←lO,Yyc,hj];rfl
     have nx2:Nx N0 N2:=⟨nx0.fg.trans S1.nx.fg,by show N0.n≤os2.length;rw[hn0,hlen];omega,fun k hk=>by
      have hk':k<B.length:=by rw[←hn0];exact hk
      show μ2 k=_;rw[mulo k hk',f1.μ];exact nx0.mu k hk⟩
     have place:∀p c,plP D Ow L B.length p=some c→∃v,cvAt N1 r p v∧RepPC N2 v c:=by
      intro p c hp;unfold plP at hp;cases hd:zx4 p D 0 with
      |some i=>
       rw[hd]at hp;cases hp;obtain⟨q,rfl,hq⟩:=zeM hd;have hqd:=(Lz0.1 hq).1;obtain⟨d,hdd⟩:∃d,L[q]? = some d:=⟨_,Lz5 (by omega)⟩;obtain⟨v,k1,k2⟩:=rD q p d hq hdd;refine⟨v,k1,?_⟩;show Rep _ _ _ _;rw[Yze,zmx,hdd];exact k2
      |none=>
       rw[hd]at hp;simp only at hp;cases ho:zx4 p (Ow.map (·.1)) 0 with
       |none=>rw[ho]at hp;cases hp
       |some i=>
        rw[ho]at hp;cases hp;obtain⟨q,rfl,hq⟩:=zeM ho;simp only[Lz6,Yz3]at hq;obtain⟨⟨p',st⟩,hq,rfl⟩:=hq;obtain⟨v,m,c,k1,k2,k3,k4,_⟩:=rO q p' st hq;refine⟨c,k3,?_,?_⟩
        ·show B.length+(0+q)<os2.length;have:=(Lz0.1 hq).1;rw[hlen];omega
        ·show c=μ2 (B.length+(0+q));rw[Yze,muhi,k2];rcases k4 with⟨rfl,_,rfl,_⟩|⟨m',rfl,_,rfl,_⟩
         ·rfl
         ·rfl
     have obj:∀k,(k<B.length∧((∃(j st:Nat) (v:OC),la.arrs[j]? = some (k,st)∧ws[j]? = some v∧og os2 k=mkO st v∧og os1 k=mkO st v)∨
       (∃ (n : Nat) (cs : List PC), (k, n) ∈ la.boxes ∧ og os2 k = .box (qS D Ow L B.length k n 0) ∧ og os1 k = .box cs ∧ cs.length = n) ∨ (listed la k = false ∧ og os2 k = og B k) ∨
        (k∈zxj la.own∧(og os2 k=.dead∨∃(q st:Nat) (m:Option Nat) (c:Zc),Ow[q]? = some (.lnk k,st)∧ms[q]? = some m∧cvAt N1 r (.lnk k) c∧((m=none∧c=.nils)∨∃q',m=some q'∧c=N1.μ q')∧(∃m',og os1 k=.lnk m')∧og os2 k=.lnk (B.length+q)))))∨
       (∃(q:Nat),k=B.length+q∧((∃(p:Pl) (st:Nat) (v:OC) (m:Option Nat) (c:Zc),Ow[q]? = some (p,st)∧vs[q]? = some v∧ms[q]? = some m∧cvAt N1 r p c∧((m=none∧v=none∧c=.nils∧zxt st=false)∨∃q',m=some q'∧og os1 q'=mkO st v∧c=N1.μ q'∧q'<N1.n)∧og os2 k=mkO st v)∨og os2 k=.dead)):=by
      intro k;by_cases hk:k<B.length
      ·refine .inl ⟨hk,?_⟩;have e1:og os2 k=og (zcp Ow B.length (zxj la.own) (qb (vs++ws) la.arrs Ow.length (wP D Ow L B.length la.boxes B))) k:=zmj _ _ k (by rw[hl1];exact hk);rcases zco Ow B.length (zxj la.own) (qb (vs++ws) la.arrs Ow.length (wP D Ow L B.length la.boxes B)) k with⟨z1,_,z3⟩|⟨z1,z2⟩
       ·refine .inr (.inr (.inr ⟨z1,?_⟩));cases hi:zx4 (.lnk k) (Ow.map (·.1)) 0 with
        |none=>rw[hi]at z3;exact .inl (e1.trans z3)
        |some i=>
         rw[hi]at z3;obtain⟨q,rfl,hq⟩:=zeM hi;simp only[Lz6,Yz3]at hq;obtain⟨⟨p',st⟩,hq,rfl⟩:=hq;obtain⟨v,m,c,k1,k2,k3,k4,k5⟩:=rO q _ st hq;refine .inr ⟨q,st,m,c,hq,k2,k3,?_,k5 k rfl,by rw[e1,z3,Yze]⟩;rcases k4 with⟨w1,_,w3,_⟩|⟨q',w1,_,w3,_⟩
         ·exact .inl ⟨w1,w3⟩
         ·exact .inr ⟨q',w1,w3⟩
       have hnl:k∉zxj la.own:=fun h=>z1 h (by rw[hl0];exact hk);have e0:og os2 k=og (qb (vs++ws) la.arrs Ow.length (wP D Ow L B.length la.boxes B)) k:=e1.trans z2;rcases zcq (vs++ws) la.arrs Ow.length (wP D Ow L B.length la.boxes B) k with⟨j,st,a1,a2,a3⟩|⟨a1,a2⟩
       ·obtain⟨v,b1,b2⟩:=rA j k st a1;exact .inl ⟨j,st,v,a1,b1,by rw[e0,a3,nthO2 j v b1],b2⟩
       ·rcases zaB D Ow L B.length la.boxes B k with⟨n,c1,c2,c3⟩|⟨c1,c2⟩
        ·obtain⟨cs,d1,d2⟩:=bO k n c1;exact .inr (.inl ⟨n,cs,c1,by rw[e0,a2,c3],d1,d2⟩)
        ·refine .inr (.inr (.inl ⟨?_,by rw[e0,a2,c2]⟩));unfold listed;rw[Yz4,Yz4];refine⟨⟨?_,?_⟩,?_⟩
         ·cases hb:(la.boxes.any fun x=>Nat.beq k x.1) with
          |false=>rfl
          |true=>
           obtain⟨⟨k',n⟩,h,h'⟩:=List.any_eq_true.1 hb;have:=Lz1 h';simp only at this;subst this;exact absurd hk (c1 n h)
         ·cases hb:(la.arrs.any fun x=>Nat.beq k x.1) with
          |false=>rfl
          |true=>
           obtain⟨⟨k',n⟩,h,h'⟩:=List.any_eq_true.1 hb;have:=Lz1 h';simp only at this;subst this;exact absurd (by rw[ut];exact hk) (a1 n h)
         ·cases hb:((zxj la.own).any fun t=>Nat.beq k t) with
          |false=>rfl
          |true=>
           obtain⟨k',h,h'⟩:=List.any_eq_true.1 hb;exact absurd (by rw[Lz1 h'];exact h) hnl
      ·refine .inr ⟨k-B.length,by omega,?_⟩;have e0:og os2 k=((zx5 (vs++ws) Ow 0)[k-B.length]?).getD .dead:=by
        have:=zo8 (zcp Ow B.length (zxj la.own) (qb (vs++ws) la.arrs Ow.length (wP D Ow L B.length la.boxes B))) (zx5 (vs++ws) Ow 0) k (by rw[hl1];omega);rw[hl1]at this;exact this
       rw[zjk]at e0;cases hq:Ow[k-B.length]? with
       |none=>rw[hq]at e0;exact .inr e0
       |some y=>
        obtain⟨p,st⟩:=y;obtain⟨v,m,c,k1,k2,k3,k4,_⟩:=rO _ p st hq;rw[hq]at e0;refine .inl ⟨p,st,v,m,c,rfl,k1,k2,k3,k4,?_⟩;rw[e0,Yze];show mkO st (zwL (vs++ws) (k-B.length))=_;rw[nthO1 _ v k1]
     have inv:Zf E N2 os2:=by
      refine I1.reidx os2 μ2 s ?_ ?_ ?_ ?_
      ·intro k hl;rcases obj k with⟨hk,⟨j,st,v,a1,a2,a3,a4⟩|⟨n,cs,a1,a2,a3,a4⟩|⟨a1,a2⟩|⟨_,a1|⟨q,st,m,c,a1,a2,a3,a4,a5,a6⟩⟩⟩|⟨q,rfl,⟨p,st,v,m,c,a1,a2,a3,a4,a5,a6⟩|a1⟩
       ·rw[slo k hk,mulo k hk,a4];rw[a3]at hl;exact⟨hl,rfl⟩
       ·rw[slo k hk,mulo k hk,a3];exact⟨trivial,rfl⟩
       ·rw[slo k hk,mulo k hk];rcases hB k hk a1 with h|⟨h,_⟩
        ·rw[a2,h]at hl;exact hl.elim
        ·rw[a2,h]at hl;exact⟨hl,rfl⟩
       ·rw[a1]at hl;exact hl.elim
       ·rw[a6]at hl;exact hl.elim
       ·rcases a5 with⟨rfl,rfl,_,hmp⟩|⟨m',rfl,b1,b2,b3⟩
        ·rw[a6,jz hmp]at hl;exact hl.elim
        ·rw[shi q m' a3,muhi,a3,b1];rw[a6]at hl;exact⟨hl,rfl⟩
       ·rw[a1]at hl;exact hl.elim
      ·have high:∀k,live (og os2 k)→¬k<B.length→∃q m,k=B.length+q∧ms[q]? = some (some m):=fun k hl hk=>by
        rcases obj k with⟨hk',_⟩|⟨q,rfl,⟨p,st,v,m,c,a1,a2,a3,a4,a5,a6⟩|a1⟩
        ·exact absurd hk' hk
        ·rcases a5 with⟨rfl,rfl,_,hmp⟩|⟨m',rfl,_⟩
         ·rw[a6,jz hmp]at hl;exact hl.elim
         ·exact⟨q,m',rfl,a3⟩
        ·rw[a1]at hl;exact hl.elim
       have mixed:∀k k',live (og os2 k)→live (og os2 k')→k<B.length→¬k'<B.length→s k≠s k':=fun k k' hl hl' hk hk' heq=>by
        obtain⟨q,m,rfl,hm⟩:=high k' hl' hk';rw[slo k hk,shi q m hm]at heq;subst heq;obtain⟨g1,g2⟩:=hok k (Lz3 hm) hk;rcases obj k with⟨_,⟨j,st,v,a1,a2,a3,a4⟩|⟨n,cs,a1,a2,a3,a4⟩|⟨a1,a2⟩|⟨a1,_⟩⟩|⟨q',h,_⟩
        ·exact(j9 g2).2.1 st (Lz3 a1)
        ·exact(j9 g2).1 n a1
        ·rw[a2]at hl;exact g1 hl
        ·exact(j9 g2).2.2 a1
        ·omega
       intro k k' hl hl' heq;by_cases hk:k<B.length<;>by_cases hk':k'<B.length
       ·rwa [slo k hk,slo k' hk']at heq
       ·exact absurd heq (mixed k k' hl hl' hk hk')
       ·exact absurd heq.symm (mixed k' k hl' hl hk' hk)
       ·obtain⟨q,m,rfl,hm⟩:=high k hl hk;obtain⟨q',m',rfl,hm'⟩:=high k' hl' hk';rw[shi q m hm,shi q' m' hm']at heq;subst heq;rw[sB q q' m hm hm']
      ·intro k;rcases obj k with⟨hk,⟨j,st,v,a1,a2,a3,a4⟩|⟨n,cs,a1,a2,a3,a4⟩|⟨a1,a2⟩|⟨_,a1|⟨q,st,m,c,a1,a2,a3,a4,⟨m',a5⟩,a6⟩⟩⟩|⟨q,rfl,⟨p,st,v,m,c,a1,a2,a3,a4,a5,a6⟩|a1⟩
       ·rw[a3];have:=I1.obj k;rw[a4]at this;exact RepO.mkO_re (N2:=N2) (mulo k hk) rfl rfl this
       ·rw[a2];obtain⟨b,us,b1,b2,b3,b4⟩:=uU I1 a3;have hul:=b4.len;refine⟨b,us,(mulo k hk).trans b1,b2,b3,RepPL.of (by rw[zdE];omega) fun j c p hc hp=>?_⟩;have hj:=(Lz0.1 hc).1;rw[zdF D Ow L B.length k n 0 j (by omega),Yze]at hp;cases hp;cases hpl:plP D Ow L B.length (.cell k j) with
        |none=>exact Rep.u c
        |some c'=>
         obtain⟨v,w1,w2⟩:=place _ _ hpl;obtain⟨b',us',x1,x2,x3⟩:=w1;rw[b1]at x1;cases x1;rw[b3]at x2;cases x2;rw[hc]at x3;cases x3;exact w2
       ·rw[a2];rcases hB k hk a1 with h|⟨h,hbx⟩
        ·rw[h];trivial
        ·have:=I1.obj k;rw[←h]at this;generalize hoB:og B k=ob at this hbx;cases ob with
         |box cs=>
          obtain⟨N',hnn,_,vs0,_,_,_,hv0⟩:=hbx;obtain⟨b,us,b1,b2,b3,b4⟩:=this;exact⟨b,us,(mulo k hk).trans b1,b2,b3,RepPL.re (N0:=N') (N1:=N1) (N2:=N2) (by rw[hnn];show B.length≤os2.length;rw[hlen];omega) (fun i hi=>mulo i (by rw[←hnn];exact hi)) rfl rfl hv0 b4⟩
         |arr st v=>exact RepO.arr_re (N2:=N2) (mulo k hk) rfl rfl this
         |frz v=>show Rep N1.fz N1.h (μ2 k) v;rw[mulo k hk];exact this
         |fbox ds=>obtain⟨b,b1,b2⟩:=this;exact⟨b,(mulo k hk).trans b1,b2⟩
         |mp st xs=>
          obtain⟨b,es,h1,h2,h3,h4,h5⟩:=this;exact⟨b,es,(mulo k hk).trans h1,h2,h3,h4,h5⟩
         |hol v n t=>
          cases v with
          |none=>exact this
          |some xs=>
           obtain⟨N',hnn,_,_,_,_,_,_,_,_,ht,_⟩:=hbx;obtain⟨b,us,ex,h1,h2,h3,h4,h5,h6,h7,h8⟩:=this;exact⟨b,us,ex,(mulo k hk).trans h1,h2,h3,h4,h5,by show t<os2.length;rw[hlen];omega,(mulo t (by omega)).trans h7,h8⟩
         |lnk m=>
          obtain⟨N',hnn,hm,_⟩:=hbx;obtain⟨h0,b,n,us,h1,h2,h3,h4⟩:=this;exact⟨by show m<os2.length;rw[hlen];omega,b,n,us,(mulo k hk).trans h1,h2,h3,h4.trans (congrArg some (mulo m (by omega)).symm)⟩
         |dead=>trivial
       ·rw[a1];trivial
       ·rw[a6];have:=I1.obj k;rw[a5]at this;obtain⟨_,b,n,us,h1,h2,h3,h4⟩:=this;have hqo:=(Lz0.1 a1).1;obtain⟨b',n',us',g1,g2,g3⟩:=a3;rw[h1]at g1;cases g1;rw[h3]at g2;cases g2;refine⟨by show B.length+q<os2.length;rw[hlen];omega,b,n,us,(mulo k hk).trans h1,h2,h3,?_⟩;show us[n]? = some (μ2 (B.length+q));rw[muhi,a2,g3];rcases a4 with⟨rfl,rfl⟩|⟨q',rfl,rfl⟩<;>rfl
       ·rw[a6];rcases a5 with⟨rfl,rfl,_,hmp⟩|⟨m',rfl,b1,b2,b3⟩
        ·rw[jz hmp];show μ2 (B.length+q)=.nils;rw[muhi,a3]
        ·have:=I1.obj m';rw[b1]at this;refine RepO.mkO_re (N1:=N1) (N2:=N2) ?_ rfl rfl this;show μ2 (B.length+q)=_;rw[muhi,a3]
       ·rw[a1];trivial
      ·intro t m ht;have fin:∀m',og B t=.lnk m'→∃k v n,og os2 k=.hol v n t:=fun m' h=>by
        obtain⟨k,v,n,h1,h2,h3⟩:=hL t m' h;exact⟨k,v,n,(jG h1 h2).trans h3⟩
       rcases obj t with⟨hk,⟨j,st,v,a1,a2,a3,a4⟩|⟨n,cs,a1,a2,a3,a4⟩|⟨a1,a2⟩|⟨a1,_⟩⟩|⟨q,rfl,⟨p,st,v,m,c,a1,a2,a3,a4,a5,a6⟩|a1⟩
       ·rw[a3]at ht;exact(zhv ht).elim
       ·rw[a2]at ht;cases ht
       ·exact fin m (a2.symm.trans ht)
       ·obtain⟨m',h⟩:=hT t a1;exact fin m' h
       ·rw[a6]at ht;exact(zhv ht).elim
       ·rw[a1]at ht;cases ht
     refine⟨N2,f1.h,inv,fun i=>?_,nx2⟩;unfold hFr;cases hp:plP D Ow L B.length (.slot i) with
     |some c=>
      obtain⟨v,w1,w2⟩:=place _ _ hp;simp only;rw[show r i=.s (.one v) from w1];exact y4 w2
     |none=>
      simp only;cases hm:zxR i W with
      |true=>exact .bad _
      |false=>
       rw[hW i (fun h=>by rw[(qL i W).2 h]at hm;cases hm)];exact(F0 i).mono nx2
end
end Go.PE
end
section
namespace Go.PE
open Go Go.CE
def zxn(ρ:Nat→PA)(a:PA):Option Nat→Nat→PA
 |none=>ρ
 |some d=>fun i=>bif Nat.beq i d then a else ρ i
def refine(ρ:Nat→PA):Option (Nat×Bool)→Nat→PA
 |none=>ρ
 |some (d,b)=>fun i=>bif Nat.beq i d then pd (.bool b) else ρ i
def zrh:Operand→Bool→Option (Nat×Bool)
 | .tmp t,b=>some (t,b)
 |_,_=>none
def scT(P:Program)(t:TypeId):Bool:=
 match P.underlying t with
 |some .bool=>true
 |some .string=>true
 |some (.int _)=>true
 |_=>false
def zyH(P:Program)(dst:Option Nat)(t:TypeId):Sh:=
 match dst with
 |none=>.no
 |some _=>
  match P.underlying t with
  |some (.tuple ts)=>bif ts.toList.all (scT P) then .tsc ts.toList.length else .tup (ts.toList.map fun t=>match xY P t with|some n=>n|none=>none)
  |_=>bif scT P t then .sc else match xY P t with|some none=>.one|some (some n)=>.agg n|none=>.no
section
variable (P:Program) (O:Orc)
def kE{β:Type}(lk:Nat→Bool)(nt:Nat)(ops:Array Oper)(o:Oper)(ρ:Nat→PA)(os:List PO)(K:Option (Nat×Bool)→KT β):Option β:=
 bif inT nt o.dst then
  match comp P o.op with
  |some ko=>
   match o.guard with
   |none=>pOp O lk (zyH P o.dst o.type) ρ os ko (K none)
   |some (j,b)=>
    match (ops[j]?).bind (·.dst) with
    |some d=>
     bif Nat.ble (Nat.succ d) nt then
      match ρ d with
      | .s (.one (.d v))=>
       bif b then ifB v (pOp O lk (zyH P o.dst o.type) (refine ρ (some (d,true))) os ko (K (some (d,true)))) (K (some (d,false)) .undef os [] [])
       else ifB v (K (some (d,true)) .undef os [] []) (pOp O lk (zyH P o.dst o.type) (refine ρ (some (d,false))) os ko (K (some (d,false))))
      | .undef=>K none .undef os [] []
      |_=>none
     else none
    |none=>none
  |none=>none
 else none
abbrev Inl:=Nat→(Nat→Bool)→List PA→List PO→(β:Type)→(PA→List PO→Option β)→Option β
def zp1:List (Nat⊕List DV)→List PA
 | []=>[]
 | .inl k::l=>pc (.ptr k 0)::zp1 l
 | .inr xs::l=>pd (.fp xs 0)::zp1 l
def zhD(tab:Nat→Bool)(ρ:Nat→PA)(o:Oper):Option (Nat×List PA):=
 match o.guard with
 |some _=>none
 |none=>
  match comp P o.op with
  |some (.call f args)=>
   match f with
   | .func g=>bif tab g then match pvs ρ args with|some as=>some (g,as)|none=>none else none
   |f=>
    match pv ρ f,pvs ρ args with
    |some (.s (.one (.clo g caps))),some as=>bif tab g then some (g,as++zp1 caps) else none
    |_,_=>none
  |_=>none
def zyX(tab:Nat→Bool)(Y:Inl){β:Type}(lk:Nat→Bool)(nt:Nat)(ops:Array Oper):List Oper→(Nat→PA)→List PO→((Nat→PA)→List PO→Option β)→Option β
 | [],ρ,os,K=>K ρ os
 |o::l,ρ,os,K=>
  match zhD P tab ρ o with
  |some (g,as)=>bif inT nt o.dst then Y g lk as os β (fun a os'=>zyX tab Y lk nt ops l (zxn ρ a o.dst) os' K) else none
  |none=>kE P O lk nt ops o ρ os fun ref a os' _ _=>zyX tab Y lk nt ops l (zxn (refine ρ ref) a o.dst) os' K
def zvv{β:Type}(a:(Nat→PA)→List PO→Option β)(k:Zh→(Nat→PA)→List PO→Option β):Zh→(Nat→PA)→List PO→Option β
 | .normal,ρ,os=>a ρ os
 | .exit id,ρ,os=>k (.exit id) ρ os
 | .ret,ρ,os=>k .ret ρ os
def zAl{β:Type}(id:Nat)(k:Zh→(Nat→PA)→List PO→Option β):Zh→(Nat→PA)→List PO→Option β
 | .exit id',ρ,os=>bif Nat.beq id' id then k .normal ρ os else k (.exit id') ρ os
 | .normal,ρ,os=>k .normal ρ os
 | .ret,ρ,os=>k .ret ρ os
def qJ:Code→Nat
 | .seq a b=>qJ a+qJ b
 | .cond _ a b=>qJ a+qJ b
 | .block _ c=>qJ c
 | .loop c=>qJ c+1
 |_=>0
def qQ:Code→Bool
 | .seq a b=>qQ a||qQ b
 | .cond _ a b=>qQ a||qQ b
 | .block _ c=>qQ c
 | .loop c=>qQ c
 | .ret=>true
 |_=>false
abbrev PX:=Zh×List DV×List OC
def ww(f:List DV→List OC→Option PX):Nat→List DV→List OC→Option PX
 |0,_,_=>none
 |n+1,L,M=>
  match f L M with
  |some (.normal,L',M')=>ww f n L' M'
  |x=>x
open Classical in
noncomputable def zL(f:List DV→List OC→Option PX)(L:List DV)(M:List OC):Option PX:=
 if h:∃n y,ww f n L M=some y then some (Classical.choose (Yyp h)) else none
def yL{β:Type}(x:Option PX)(kx:Nat→List DV→List OC→Option β)(kr:List DV→List OC→Option β):Option β:=
 match x with
 |some (.exit id,L,M)=>kx id L M
 |some (.ret,L,M)=>kr L M
 |_=>none
def zxs(la:LA)(n0:Nat)(k:Nat):Bool:=Nat.ble (Nat.succ k) n0 && !listed la k
def free(lk:Nat→Bool)(la:LA):Bool:=(la.boxes.all fun x=>!lk x.1)&&(la.arrs.all fun x=>!lk x.1)&&((zxj la.own).all fun t=>!lk t)
def zyg(lk:Nat→Bool)(n0:Nat)(la:LA)(e:Zh)(ρ:Nat→PA)(os:List PO):Option PX:=
 match vec lk (fun m=>Nat.ble n0 m) la e ρ os with
 |some (_,L,M,_)=>some (e,L,M)
 |none=>none
end
theorem zdj{f:List DV→List OC→Option PX}:∀{n m:Nat} {L:List DV} {M:List OC} {x y:PX},ww f n L M=some x→ww f m L M=some y→x=y
 |0,_,_,_,_,_,e,_=>by cases e
 |_+1,0,_,_,_,_,_,e=>by cases e
 |n+1,m+1,L,M,x,y,e,e'=>by
  simp only[ww]at e e';cases h:f L M with
  |none=>rw[h]at e;cases e
  |some q=>
   obtain⟨ex,L',M'⟩:=q;rw[h]at e e';cases ex with
   |normal=>exact zdj e e'
   |exit id=>cases e;cases e';rfl
   |ret=>cases e;cases e';rfl
theorem zbT{f:List DV→List OC→Option PX}{L:List DV}{M:List OC}{x:PX}:zL f L M=some x↔∃n,ww f n L M=some x:=by
 unfold zL
 constructor
 ·intro e;split at e
  ·rename_i h;cases e;have h1:=Yyp h;exact⟨_,Yyp h1⟩
  ·cases e
 ·rintro⟨n,e⟩
  have h:∃n y,ww f n L M=some y:=⟨n,x,e⟩;rw[dif_pos h];have h1:=Yyp (Yyp h);rw[zdj h1 e]
theorem zap(f:List DV→List OC→Option PX)(L:List DV)(M:List OC):zL f L M=match f L M with|some (.normal,L',M')=>zL f L' M'|x=>x:=by
  apply Option.ext;intro y;rw[zbT];cases h:f L M with
  | none => simp only; constructor
            · rintro⟨n,e⟩;cases n<;>simp[ww,h]at e
            · intro e;cases e
  |some q=>
    obtain⟨ex,L',M'⟩:=q;cases ex with
    |normal=>
      simp only[zbT]
      constructor
      · rintro⟨n,e⟩
        cases n with
        |zero=>cases e
        |succ n=>simp only[ww,h]at e;exact⟨n,e⟩
      · rintro⟨n,e⟩;exact⟨n+1,by simp only[ww,h];exact e⟩
    |exit id=>
      simp only
      constructor
      · rintro⟨n,e⟩
        cases n with
        |zero=>cases e
        |succ n=>simp only[ww,h]at e;exact e
      · intro e;exact⟨1,by simp only[ww,h];exact e⟩
    |ret=>
      simp only
      constructor
      · rintro⟨n,e⟩
        cases n with
        |zero=>cases e
        |succ n=>simp only[ww,h]at e;exact e
      · intro e;exact⟨1,by simp only[ww,h];exact e⟩
section
variable {P:Program} {O:Orc} {C:Nat→zg} {E:En}
theorem zbD{N:Nm}{r:Fr}{ρ:Nat→PA}(F:∀i,RepPA N (r i) (ρ i)){d:Nat}{b:Bool}(h:r d=.s (.one (.bool b))):∀i,RepPA N (r i) (refine ρ (some (d,b)) i):=by
 intro i;show RepPA N (r i) (bif Nat.beq i d then pd (.bool b) else ρ i);cases hb:Nat.beq i d with
 |false=>exact F i
 |true=>
  have:=Lz1 hb;subst this;rw[h];exact yP rfl
theorem zbg{N:Nm}{r:Fr}{ρ:Nat→PA}(F:∀i,RepPA N (r i) (ρ i)){v:Zb}{a:PA}(h:RepPA N v a)(dst:Option Nat):∀i,RepPA N (zw0 r v dst i) (zxn ρ a dst i):=by
 intro i;cases dst with
 |none=>exact F i
 |some d=>
  show RepPA N (bif Nat.beq i d then v else r i) (bif Nat.beq i d then a else ρ i);cases Nat.beq i d
  ·exact F i
  ·exact h
theorem zf5{β:Type}{v:DV}{a b:Option β}{x:β}(e:ifB v a b=some x):∃q,v=.bool q∧(bif q then a else b)=some x:=by
 cases v<;>first|cases e|skip
 rename_i q;exact⟨q,rfl,e⟩
theorem zeo(hO:u7 O C){β:Type}{lk:Nat→Bool}{nt:Nat}{ops:Array Oper}{o:Oper}{ρ:Nat→PA}{os:List PO}{N:Nm}{r:Fr}{K:Option (Nat×Bool)→KT β}{x:β}(I:Zf E N os)(F:∀i,RepPA N (r i) (ρ i))(hlk:∀j,lk j=true→j<os.length)
  (e : kE P O lk nt ops o ρ os K = some x) : ∃ ref a os' wr rd, K ref a os' wr rd = some x ∧ (∀ i, RepPA N (r i) (refine ρ ref i)) ∧
   Ev (fun n=>yu P nt ops o (C n) r N.h) (fun p=>∃N',N'.h=p.2∧Sim E lk N os wr N' os' p.1 a):=by
 unfold kE at e;cases hT:inT nt o.dst with
 |false=>rw[hT]at e;cases e
 |true=>
  rw[hT]at e;simp only[Yza]at e;cases hc:comp P o.op with
  |none=>rw[hc]at e;cases e
  |some ko=>
   rw[hc]at e;simp only at e;cases hg:o.guard with
   |none=>
    rw[hg]at e;obtain⟨a,os',wr,rd,h1,h2⟩:=zqs hO I F hlk e;refine⟨none,a,os',wr,rd,h1,F,?_⟩;have:(fun n=>yu P nt ops o (C n) r N.h)=fun n=>runK r ko (C n) N.h:=by
     funext n
     unfold yu;rw[hT,hg];exact zdA P r (C n) N.h hc
    rw[this];exact h2
   |some gb=>
    obtain⟨j,b⟩:=gb;rw[hg]at e;simp only at e;cases hd:(ops[j]?).bind (·.dst) with
    |none=>rw[hd]at e;cases e
    |some d=>
     rw[hd]at e;simp only at e;cases hb:Nat.ble (Nat.succ d) nt with
     |false=>rw[hb]at e;cases e
     |true=>
      rw[hb]at e;simp only[Yza]at e;have run:∀call,yu P nt ops o call r N.h=bif zfi (r d) b then runK r ko call N.h else some (yh,N.h):=fun call=>by
       unfold yu;rw[hT,hg];simp only[Yza];rw[hd];simp only;rw[hb];simp only[Yza];rw[zdA P r call N.h hc]
      split at e
      ·rename_i v hρ;have hrd:=F d;rw[hρ]at hrd;have key:∀q,v=.bool q→(if q=b then pOp O lk (zyH P o.dst o.type) (refine ρ (some (d,q))) os ko (K (some (d,q))) else K (some (d,q)) .undef os [] [])=some x→(∃ref a os' wr rd,K ref a os' wr rd=some x∧(∀i,RepPA N (r i) (refine ρ ref i))∧
         Ev (fun n=>yu P nt ops o (C n) r N.h) (fun p=>∃N',N'.h=p.2∧Sim E lk N os wr N' os' p.1 a)):=fun q hq e2=>by
        subst hq;have hr:=yn hrd (c:=.bool q) rfl;have F':=zbD F hr;by_cases hqb:q=b
        ·rw[Yzd hqb]at e2;obtain⟨a,os',wr,rd,h1,h2⟩:=zqs hO I F' hlk e2;refine⟨some (d,q),a,os',wr,rd,h1,F',?_⟩;have:(fun n=>yu P nt ops o (C n) r N.h)=fun n=>runK r ko (C n) N.h:=by
          funext n
          rw[run,hr,hqb];simp only[zfi,Yyr,Yza]
         rw[this];exact h2
        ·rw[Yzb hqb]at e2;refine⟨some (d,q),.undef,os,[],[],e2,F',⟨(yh,N.h),⟨N,rfl,.quiet I rfl⟩,0,fun n _=>?_⟩⟩;show yu P nt ops o (C n) r N.h=_;rw[run,hr];have:zfi (.s (.one (.bool q))) b=false:=by
          cases q<;>cases b<;>first|rfl|exact absurd rfl hqb
         rw[this];rfl
       cases b with
       |true=>
        obtain⟨q,rfl,e⟩:=zf5 e;exact key q rfl (by cases q<;>exact e)
       |false=>
        obtain⟨q,rfl,e⟩:=zf5 e;exact key q rfl (by cases q<;>exact e)
      ·rename_i hρ;have hrd:r d=yh:=by
        have:=F d;rw[hρ]at this;cases hh:r d with
        |s w=>rw[hh]at this;exact this
        |tup l=>rw[hh]at this;exact this
       refine⟨none,.undef,os,[],[],e,F,⟨(yh,N.h),⟨N,rfl,.quiet I rfl⟩,0,fun n _=>?_⟩⟩;show yu P nt ops o (C n) r N.h=_;rw[run,hrd];rfl
      ·cases e
def zx8:Nat:=1000000
structure Zs (tab:Nat→Bool) (Y:Inl) (C:Nat→zg):Prop where
 o:∀{β:Type} {E:En} {lk:Nat→Bool} {N:Nm} {os:List PO} {g:Nat} {as:List PA} {vs:List Zb} {K:PA→List PO→Option β} {x:β},tab g=true→Zf E N os→RepPAL N vs as→(∀j,lk j=true→j<os.length)→Y g lk as os β K=some x→
  ∃a os',K a os'=some x∧Ev (fun n=>C n (.inl g) vs N.h) (fun p=>∃N',N'.h=p.2∧Zf E N' os'∧Nx N N'∧(∀j,lk j=true→og os' j=og os j)∧RepPA N' p.1 a)
 m:∀{β:Type} {E:En} {lk:Nat→Bool} {N:Nm} {os:List PO} {g j:Nat} {as:List PA} {vs:List Zb} {K:PA→List PO→Option β} {x:β},tab g=true→Zf E N os→RepPAL N vs (pc (.own j)::as)→Y (zx8+g) lk (pc (.own j)::as) os β K=some x→
  ∃a os',K a os'=some x∧Ev (fun n=>C n (.inl g) vs N.h) (fun p=>∃N',N'.h=p.2∧Sim E lk N os [j] N' os' p.1 a)
theorem RepPAL.app{N:Nm}:∀{a b:List Zb} {x y:List PA},RepPAL N a x→RepPAL N b y→RepPAL N (a++b) (x++y)
 | [],_,[],_,_,H=>H
 |_::_,_,_::_,_,H,K=>⟨H.1,RepPAL.app H.2 K⟩
 | [],_,_::_,_,H,_=>H.elim
 |_::_,_,[],_,H,_=>H.elim
theorem zfb{N:Nm}:∀{ps:List (BN×Nat)} {xs:List (Nat⊕List DV)},RepCaps N ps xs→RepPAL N (ps.map fun(p:BN×Nat)=>Zb.s (.one (.ptr p.1 p.2))) (zp1 xs)
 | [],[],_=>trivial
 |p::ps,.inl k::xs,H=>⟨RepPA.of (v:=.one (.ptr p.1 p.2)) (p:=.one (.ptr k 0)) ⟨H.1.1,p.1,H.1.2.1,by rw[H.1.2.2]⟩,zfb H.2⟩
 |p::ps,.inr y::xs,H=>⟨RepPA.of (v:=.one (.ptr p.1 p.2)) (p:=.one (.d (.fp y 0))) H.1,zfb H.2⟩
 | [],_::_,H=>H.elim
 |_::_,[],H=>H.elim
theorem zeL{tab:Nat→Bool}{N:Nm}{r:Fr}{ρ:Nat→PA}{o:Oper}{g nt:Nat}{as:List PA}{ops:Array Oper}(F:∀i,RepPA N (r i) (ρ i))(e:zhD P tab ρ o=some (g,as))(hT:inT nt o.dst=true):
  tab g=true∧∃vs,RepPAL N vs as∧∀call h,yu P nt ops o call r h=call (.inl g) vs h:=by
 unfold zhD at e;cases hg:o.guard with
 |some _=>rw[hg]at e;cases e
 |none=>
  rw[hg]at e;simp only at e;cases hc:comp P o.op with
  |none=>rw[hc]at e;cases e
  |some ko=>
   rw[hc]at e;have step:∀call h,yu P nt ops o call r h=runK r ko call h:=fun call h=>by
    unfold yu;rw[hT,hg];exact zdA P r call h hc
   cases ko<;>first|(cases (show (none:Option (Nat×List PA))=some (g,as) from e);done)|skip
   rename_i f args;have fin:∀(g':Nat) (ps:List (BN×Nat)) (vs:List Zb),kv r f=some (.s (.one (.fn g' ps)))→kvs r args=some vs→∀call h,runK r (.call f args) call h=call (.inl g') (vs++ps.map fun(p:BN×Nat)=>Zb.s (.one (.ptr p.1 p.2))) h:=by
    intro g' ps vs h1 h2 call h;simp only[runK,h1,h2,zH];show call (.inl g') ((cL vs).map (fun x=>x .nil)++ps.map fun(p:BN×Nat)=>Zb.s (.one (.ptr p.1 p.2))) h=_;rw[zjN]
   simp only at e;split at e
   ·rename_i g';cases ht:tab g' with
    |false=>rw[ht]at e;cases e
    |true=>
     rw[ht]at e;simp only[Yza]at e;cases h2:pvs ρ args with
     |none=>rw[h2]at e;cases e
     |some as'=>
      rw[h2]at e;cases e;obtain⟨v,k1,k2⟩:=wM (x:=.func g) (a:=pd (.fn g [])) F rfl;obtain⟨vs,k3,k4⟩:=zfG F h2;obtain⟨w,rfl,hw⟩:=wN k2;obtain⟨ps,rfl,hps⟩:=Rep.fn_inv hw;cases ps with
      |cons p ps=>have:=hps.1;simp at this
      |nil=>
       refine⟨ht,_,k4,fun call h=>(step call h).trans ((fin _ _ _ k1 k3 call h).trans ?_)⟩;rw[Yyf,YzD]
   ·split at e
    ·rename_i g' caps as' h1 h2;cases ht:tab g' with
     |false=>rw[ht]at e;cases e
     |true=>
      rw[ht]at e;cases e;obtain⟨v,k1,k2⟩:=wM F h1;obtain⟨vs,k3,k4⟩:=zfG F h2;obtain⟨w,rfl,hw⟩:=yk k2;obtain⟨ps,rfl,hps⟩:=hw;exact⟨ht,_,k4.app (zfb hps),fun call h=>(step call h).trans (fin _ _ _ k1 k3 call h)⟩
    ·cases e
theorem zhi(hO:u7 O C){tab:Nat→Bool}{Y:Inl}(hY:Zs tab Y C){β γ:Type}{Q:γ→Prop}{lk:Nat→Bool}{nt:Nat}{ops:Array Oper}{x:β}{K:(Nat→PA)→List PO→Option β}{kk:Nat→Fr→Za→Option γ}:∀(l:List Oper) (ρ:Nat→PA) (os:List PO) (N:Nm) (r:Fr),
  zyX P O tab Y lk nt ops l ρ os K=some x→Zf E N os→(∀i,RepPA N (r i) (ρ i))→(∀j,lk j=true→j<os.length)→
  (∀ρ' os' N' r',K ρ' os'=some x→Zf E N' os'→(∀i,RepPA N' (r' i) (ρ' i))→Nx N N'→(∀j,lk j=true→og os' j=og os j)→(∀i,i∉l.filterMap (·.dst)→r' i=r i)→Ev (fun n=>kk n r' N'.h) Q)→
  Ev (fun n=>zxS P nt ops (C n) l r N.h (kk n)) Q
 | [],ρ,os,N,r,e,I,F,hlk,H=>H ρ os N r e I F (.refl N) (fun _ _=>rfl) (fun _ _=>rfl)
 |o::l,ρ,os,N,r,e,I,F,hlk,H=>by
  simp only[zyX]at e;cases hi:zhD P tab ρ o with
  |some q=>
   obtain⟨g,as⟩:=q;rw[hi]at e;simp only at e;cases hT:inT nt o.dst with
   |false=>rw[hT]at e;cases e
   |true=>
    rw[hT,Yza]at e;obtain⟨ht,vs,rvs,run⟩:=zeL (ops:=ops) F hi hT;obtain⟨a,os',e1,ev⟩:=hY.o ht I rvs hlk e;have:(fun n=>zxS P nt ops (C n) (o::l) r N.h (kk n))=fun n=>CE.bindR (C n (.inl g) vs N.h) fun v h'=>zxS P nt ops (C n) l (zw0 r v o.dst) h' (kk n):=by
     funext n;rw[←run (C n) N.h];exact zcj ops (C n) o l r N.h (kk n)
    rw[this];refine Ev.bindR (ev.mono ?_)
    rintro⟨v,h'⟩ ⟨N',hh,i1,i2,i3,i4⟩
    simp only at hh i4 ⊢;subst hh;refine zhi hO hY l _ os' N' (zw0 r v o.dst) e1 i1 (zbg (fun i=>(F i).mono i2) i4 o.dst) (fun j hj=>?_) (fun ρ2 os2 N2 r2 k1 k2 k3 k4 k5 k6=>?_)
    ·have h1:=i2.le;rw[i1.len,I.len]at h1;exact Lz9 (hlk j hj) h1
    ·refine H ρ2 os2 N2 r2 k1 k2 k3 (i2.trans k4) (fun j hj=>(k5 j hj).trans (i3 j hj)) (fun i hi=>?_);simp only[Yz9]at hi;rw[k6 i (fun hm=>hi (by cases o.dst<;>simp[hm]))];exact wk (fun hd=>hi (by rw[hd];simp))
  |none=>
  rw[hi]at e;simp only at e;obtain⟨ref,a,os',wr,rd,e1,F1,ev⟩:=zeo hO I F hlk e;have:(fun n=>zxS P nt ops (C n) (o::l) r N.h (kk n))=fun n=>CE.bindR (yu P nt ops o (C n) r N.h) fun v h'=>zxS P nt ops (C n) l (zw0 r v o.dst) h' (kk n):=by
   funext n;exact zcj ops (C n) o l r N.h (kk n)
  rw[this];refine Ev.bindR (ev.mono ?_)
  rintro⟨v,h'⟩ ⟨N',hh,S⟩
  simp only at hh S ⊢;subst hh;refine zhi hO hY l _ os' N' (zw0 r v o.dst) e1 S.inv (zbg (fun i=>(F1 i).mono S.nx) S.val o.dst) (fun j hj=>?_) (fun ρ2 os2 N2 r2 k1 k2 k3 k4 k5 k6=>?_)
  ·have h1:=S.nx.le;rw[S.inv.len,I.len]at h1;exact Lz9 (hlk j hj) h1
  ·refine H ρ2 os2 N2 r2 k1 k2 k3 (S.nx.trans k4) (fun j hj=>(k5 j hj).trans (S.lock j hj)) (fun i hi=>?_);simp only[Yz9]at hi;rw[k6 i (fun hm=>hi (by cases o.dst<;>simp[hm]))];exact wk (fun hd=>hi (by rw[hd];simp))
theorem zrZ{la:LA}{n0 k:Nat}(h:zxs la n0 k=true):k<n0∧listed la k=false:=by
 unfold zxs at h;rw[LzC,YzN]at h;exact⟨Lz4 h.1,h.2⟩
theorem zsF{D:List Pl}{Ow:List (Pl×Nat)}{la:LA}{B:List PO}{L:List DV}{M:List OC}{n0:Nat}(h:B.length=n0):n0≤(hOs D Ow la B n0 L M).length:=by
 unfold hOs;rw[Yzz,qR,qT,ut];omega
theorem zeG:∀(ms:List (Option Nat)) (os:List PO),(kill ms os).length=os.length
 | [],_=>rfl
 |none::ms,os=>zeG ms os
 |some m::ms,os=>by simp only[kill];rw[zeG ms,yf]
theorem vS:∀(ms:List (Option Nat)) (os:List PO) (k:Nat),(some k∈ms∧og (kill ms os) k=.dead)∨(some k∉ms∧og (kill ms os) k=og os k)
 | [],os,k=>.inr ⟨by simp,rfl⟩
 |none::ms,os,k=>by
  simp only[kill];rcases vS ms os k with⟨a,b⟩|⟨a,b⟩
  ·exact .inl ⟨Yzf _ a,b⟩
  ·exact .inr ⟨by simpa using a,b⟩
 |some m::ms,os,k=>by
  simp only[kill];rcases vS ms (oset .dead os m) k with⟨a,b⟩|⟨a,b⟩
  ·exact .inl ⟨Yzf _ a,b⟩
  ·rw[zJ]at b;by_cases hk:k=m
   ·subst hk;refine .inl ⟨Yzi ..,?_⟩;rw[b];split
    ·rfl
    ·rename_i h;rw[zex,Yyb (by simp at h;exact h)];rfl
   ·rw[Yzb (fun h=>hk h.1)]at b;exact .inr ⟨by simp[hk,a],b⟩
end
end Go.PE
end
section
namespace Go.PE
open Go Go.CE
theorem kW{h h2 h':Za}{c:Option Zc}{v:Zb}(e:zw8 h c=some (v,h')):zw8 h2 c=some (v,h2):=by
 cases c<;>cases e;rfl
theorem zhd{h h2 h':Za}{c:Option (List Zc)}{v:Zb}(e:zxr h c=some (v,h')):zxr h2 c=some (v,h2):=by
 cases c<;>cases e;rfl
theorem zek{h h2 h':Za}{n:Option Nat}{cs:List Zc}{off:Nat}{v:Zb}(e:CE.part n cs off h=some (v,h')):CE.part n cs off h2=some (v,h2):=by
 cases n with
 |none=>exact kW e
 |some n=>exact zhd e
theorem yE{h h2 h':Za}{w v:Zb}(e:some (w,h)=some (v,h')):(some (w,h2):Res)=some (v,h2):=by
 cases e;rfl
theorem zbf{h' h2:Za}{b:Bool}{x y:Res}{v:Zb}(e:(bif b then x else none)=some (v,h'))(H:x=some (v,h')→y=some (v,h2)):(bif b then y else none)=some (v,h2):=by
 cases b with
 |true=>exact H e
 |false=>cases e
section
variable {h h2 h':Za} {v:Zb}
theorem zsx{c a b:Zb}(e:zot c a b h=some (v,h')):zot c a b h2=some (v,h2):=by
 unfold zot jp zu at e ⊢;split at e
 ·exact yE e
 ·cases e
theorem zpO{zs:List Zc}{l:List (Nat×Nat×Zb)}(e:zlm zs l h=some (v,h')):zlm zs l h2=some (v,h2):=zhd e
theorem zpJ{x:Zb}(e:zim x h=some (v,h')):zim x h2=some (v,h2):=by
 unfold zim vC zu at e ⊢;split at e
 ·exact yE e
 ·exact yE e
 ·exact yE e
 ·cases e
theorem zur{g:IntKind→Int→Int→Option Zc}{x y:Zb}(e:zzj g x y h=some (v,h')):zzj g x y h2=some (v,h2):=by
 unfold zzj zbi zu at e ⊢;split at e
 ·split at e
  ·exact zbf e kW
  ·cases e
 ·cases e
theorem zpI{g:IntKind→Int→Int→Option Zc}{x y:Zb}(e:zil g x y h=some (v,h')):zil g x y h2=some (v,h2):=by
 unfold zil wA zu at e ⊢;split at e
 ·split at e
  ·exact kW e
  ·cases e
 ·cases e
theorem zun{op:BinOp}{x y:Zb}(e:zzf op x y h=some (v,h')):zzf op x y h2=some (v,h2):=by
 unfold zzf zb1 zu at e ⊢;split at e
 ·exact kW e
 ·cases e
theorem zsy{neg:Bool}{x y:Zb}(e:zlk neg x y h=some (v,h')):zlk neg x y h2=some (v,h2):=by
 unfold zlk um zu at e ⊢;split at e
 ·split at e
  ·exact yE e
  ·exact yE e
  ·cases e
 ·cases e
theorem zwe{q:Nat⊕List Nat}{neg:Bool}{x y:Zb}(e:vEq q neg x y h=some (v,h')):vEq q neg x y h2=some (v,h2):=by
 unfold vEq zxK zu at e ⊢;split at e
 ·split at e
  ·exact yE e
  ·cases e
 ·cases e
theorem zuo{x:Zb}(e:zzg x h=some (v,h')):zzg x h2=some (v,h2):=by
 unfold zzg zb2 zu at e ⊢;split at e
 ·exact yE e
 ·cases e
theorem zup{x:Zb}(e:zzh x h=some (v,h')):zzh x h2=some (v,h2):=by
 unfold zzh zb3 zu at e ⊢;split at e
 ·exact yE e
 ·cases e
theorem zsE{t:IntKind}{x:Zb}(e:zoz t x h=some (v,h')):zoz t x h2=some (v,h2):=by
 unfold zoz jw zu at e ⊢;split at e
 ·exact yE e
 ·cases e
theorem zsz{f:Nat}{l:List Zb}(e:zov f l h=some (v,h')):zov f l h2=some (v,h2):=by
 unfold zov jr at e ⊢;split at e
 ·exact yE e
 ·cases e
theorem zkT{st:Nat}{lo hi mx:Option Opd}{t:Tr Zb}{b:BN}{off len cap:Nat}(e:xu st lo hi mx t h b off len cap=some (v,h')):xu st lo hi mx t h2 b off len cap=some (v,h2):=by
 unfold xu at e ⊢;split at e
 ·split at e
  ·split at e
   ·exact zbf e yE
   ·cases e
  ·cases e
 ·cases e
theorem zkS{st:Nat}{lo hi mx:Option Opd}{t:Tr Zb}{b:BN}{off len cap:Nat}(e:xj st lo hi mx t h b off len cap=some (v,h')):xj st lo hi mx t h2 b off len cap=some (v,h2):=by
 unfold xj at e ⊢;split at e
 ·split at e
  ·split at e
   ·split at e
    ·split at e
     ·exact yE e
     ·cases e
    ·cases e
   ·cases e
  ·cases e
 ·split at e
  ·split at e
   ·exact zbf e yE
   ·cases e
  ·cases e
theorem zpH{st:Nat}{x:Zb}{lo hi mx:Option Zb}(e:uV st x lo hi mx h=some (v,h')):uV st x lo hi mx h2=some (v,h2):=by
 unfold uV vA zu at e ⊢;split at e
 ·unfold xL at e ⊢;split at e
  ·exact yE e
  ·cases e
 ·rename_i ex;cases ex with
  |true=>exact zkT e
  |false=>exact zkS e
 ·cases e
theorem zni{x:Zb}{lo hi:Option Zb}(e:zd3 x lo hi h=some (v,h')):zd3 x lo hi h2=some (v,h2):=by
 unfold zd3 xM zu at e ⊢;split at e
 ·split at e
  ·split at e
   ·exact yE e
   ·cases e
  ·cases e
 ·cases e
theorem zsC{x:Zb}{off:Nat}(e:zoy x off h=some (v,h')):zoy x off h2=some (v,h2):=by
 unfold zoy jv zu at e ⊢;split at e
 ·exact yE e
 ·cases e
theorem zpN{x:Zb}{off:Nat}{n:Option Nat}(e:zir x off n h=some (v,h')):zir x off n h2=some (v,h2):=by
 unfold zir vH zu at e ⊢;split at e
 ·exact zek e
 ·cases e
theorem zuq{st:Nat}{x i:Zb}(e:zzi st x i h=some (v,h')):zzi st x i h2=some (v,h2):=by
 unfold zzi zb6 zu at e ⊢;split at e
 ·split at e
  ·exact zbf e yE
  ·cases e
 ·cases e
theorem zpL{len st:Nat}{x i:Zb}(e:zio len st x i h=some (v,h')):zio len st x i h2=some (v,h2):=by
 unfold zio vF zu at e ⊢;split at e
 ·split at e
  ·exact zbf e yE
  ·cases e
 ·split at e
  ·exact zbf e yE
  ·cases e
 ·cases e
theorem zpM{len st:Nat}{n:Option Nat}{x i:Zb}(e:ziq len st n x i h=some (v,h')):ziq len st n x i h2=some (v,h2):=by
 unfold ziq vG zu at e ⊢;split at e
 ·split at e
  ·exact zbf e zek
  ·cases e
 ·cases e
theorem zpK{x i:Zb}(e:zin x i h=some (v,h')):zin x i h2=some (v,h2):=by
 unfold zin vE zu at e ⊢;split at e
 ·split at e
  ·exact kW e
  ·cases e
 ·cases e
theorem zkU{x:Zb}{i:Nat}(e:zbn x i h=some (v,h')):zbn x i h2=some (v,h2):=by
 unfold zbn xE zu at e ⊢;split at e
 ·split at e
  ·exact yE e
  ·cases e
 ·cases e
theorem zsA{x:Zb}(e:zox x h=some (v,h')):zox x h2=some (v,h2):=by
 unfold zox jt zu at e ⊢;split at e
 ·exact yE e
 ·cases e
theorem zsB{x:Zb}(e:zll x h=some (v,h')):zll x h2=some (v,h2):=by
 unfold zll ju zu at e ⊢;split at e
 ·exact yE e
 ·exact yE e
 ·cases e
theorem znj{m:Bool}{x:Zb}{xs:List Zb}(e:zd4 m x xs h=some (v,h')):zd4 m x xs h2=some (v,h2):=by
 unfold zd4 xe zu at e ⊢;split at e
 ·split at e
  ·exact yE e
  ·cases e
 ·cases e
theorem xR{x:Option Zb}{K K2:Zb→Res}(e:zH x K=some (v,h'))(H:∀a,K a=some (v,h')→K2 a=some (v,h2)):zH x K2=some (v,h2):=by
 cases x with
 |none=>cases e
 |some a=>exact H a e
end
def kJ:KOp→Bool
 | .mv _ | .pick .. | .build .. | .nilck _ | .bin .. | .shift .. | .str .. | .nilS .. | .eq .. | .not _ | .neg _ | .conv .. | .mkfn .. | .slice .. | .sslice .. | .foff .. | .field .. | .ixs .. | .ixarr .. | .ixagg .. | .ixstr .. | .extract .. | .lenS _ | .lenL _ | .minmax ..=>true
 |_=>false
theorem zoJ{r:Fr}{ko:KOp}(hs:kJ ko=true){call call2:zg}{h h2 h':Za}{v:Zb}(e:runK r ko call h=some (v,h')):runK r ko call2 h2=some (v,h2):=by
 cases ko<;>first|(exfalso;exact Bool.noConfusion hs)|skip
 ·exact xR e fun _=>yE
 ·exact xR e fun _ e=>xR e fun _ e=>xR e fun _=>zsx
 ·simp only[runK]at e ⊢;split at e
  ·exact zpO e
  ·cases e
 ·exact xR e fun _=>zpJ
 ·exact xR e fun _ e=>xR e fun _=>zur
 ·exact xR e fun _ e=>xR e fun _=>zpI
 ·exact xR e fun _ e=>xR e fun _=>zun
 ·exact xR e fun _ e=>xR e fun _=>zsy
 ·exact xR e fun _ e=>xR e fun _=>zwe
 ·exact xR e fun _=>zuo
 ·exact xR e fun _=>zup
 ·exact xR e fun _=>zsE
 ·simp only[runK]at e ⊢;split at e
  ·exact zsz e
  ·cases e
 ·refine xR e fun _ e=>?_;split at e
  ·exact zpH e
  ·cases e
 ·refine xR e fun _ e=>?_;split at e
  ·exact zni e
  ·cases e
 ·exact xR e fun _=>zsC
 ·exact xR e fun _=>zpN
 ·exact xR e fun _ e=>xR e fun _=>zuq
 ·exact xR e fun _ e=>xR e fun _=>zpL
 ·exact xR e fun _ e=>xR e fun _=>zpM
 ·exact xR e fun _ e=>xR e fun _=>zpK
 ·exact xR e fun _=>zkU
 ·exact xR e fun _=>zsA
 ·exact xR e fun _=>zsB
 ·refine xR e fun _ e=>?_;split at e
  ·exact znj e
  ·cases e
theorem zpx{n:Option Nat}{x v:Zb}{h h2 h':Za}(e:zow n x h=some (v,h'))(H:∀b off,x=.s (.one (.ptr b off))→h2.t.get b=h.t.get b):zow n x h2=some (v,h2):=by
 unfold zow js zu at e ⊢;split at e
 ·rename_i b off;have:=H b off rfl;rw[this];unfold loadAt at e ⊢;split at e
  ·exact zek e
  ·cases n with
   |none=>exact kW e
   |some n=>exact zhd e
  ·exact zek e
  ·cases e
 ·exact zbf e kW
 ·cases e
theorem zec{h h2 h':Za}{v:Zb}{l:Option (List Zc)}(e:zxc h l=some (v,h')):zxc h2 l=some (v,h2):=by
 unfold zxc at e ⊢;split at e
 ·split at e
  ·exact yE e
  ·cases e
 ·cases e
theorem zs0{x v:Zb}{h h2 h':Za}(e:qI (zu x) yv .nil h=some (v,h'))(H:∀b off len cap ex,x=.s (.one (.slc b off len cap ex))→h2.t.get b=h.t.get b):qI (zu x) yv .nil h2=some (v,h2):=by
 unfold qI zu at e ⊢;split at e
 ·exact yE e
 ·rename_i b off len cap ex;have:=H b off len cap ex rfl;rw[this];split at e
  ·exact zec e
  ·exact zec e
  ·exact zec e
  ·exact zec e
  ·cases e
 ·cases e
end Go.PE
end
section
namespace Go.PE
open Go Go.CE
def zS(ρ:Nat→PA)(l:List Nat):Nat→PA:=fun i=>bif zxR i l then ρ i else .bad
def zxB(bo:Nat→Nat)(n:Nat):Option Nat→Nat→Nat
 |none=>bo
 |some d=>fun i=>bif Nat.beq i d then n else bo i
def bOf(bo:Nat→Nat):Operand→Nat
 | .tmp t=>bo t
 |_=>0
def okW(ws:List (List Nat))(lo hi:Nat)(rd:List Nat):Bool:=((ws.drop lo).take (hi-lo)).all fun w=>rd.all fun k=>!zxR k w
section
variable (P:Program) (O:Orc) (tab:Nat→Bool) (Y:Inl)
def zue(ρ:Nat→PA)(o:Oper):List Oper→Option (Nat×List PA)
 | []=>zhD P tab ρ o
 |_::_=>none
def zzN(ρ:Nat→PA)(o:Oper):Option (Nat×Nat×List PA):=
 match zhD P tab ρ o with
 |some (g,as)=>
  match as with
  | .s (.one (.own j))::rest=>some (g,j,rest)
  |_=>none
 |none=>none
def pDr{β:Type}(lk:Nat→Bool)(nt:Nat)(ops:Array Oper)(bs:List Nat)(es:List Bool):Nat→List Oper→(Nat→PA)→List PO→(Nat→Nat)→List (List Nat)→List (Nat×Nat×List Nat)→((Nat→PA)→List PO→Option β)→Option β
 |_,[],ρ,os,_,ws,ps,K=>bif ps.all (fun p=>okW ws p.1 p.2.1 p.2.2) then K ρ os else none
 |i,o::l,ρ,os,bo,ws,ps,K=>
  bif yF P o.op then
   match comp P o.op with
   |none=>none
   |some ko=>
    bif kJ ko then
     kE P O (fun _=>true) nt ops o (zS ρ (o.looksAt ops)) os fun ref a _ _ _=>
      pDr lk nt ops bs es (Nat.succ i) l (zxn (refine ρ ref) a o.dst) os (zxB bo (match trk (refine (zS ρ (o.looksAt ops)) ref) ko with|some x=>bOf bo x|none=>ws.length) o.dst) ws ps K
    else
     match zxA ko with
     |none=>none
     |some x=>
      bif Nat.beq (ce (fun j=>bef bs j i) 0 es) (ce (fun j=>!bef bs i j) 0 es) then
       kE P O (fun _=>true) nt ops o (zS ρ (o.looksAt ops)) os fun ref a _ _ _=>
        pDr lk nt ops bs es (Nat.succ i) l (zxn (refine ρ ref) a o.dst) os (zxB bo ws.length o.dst) ws ps K
      else
       bif Nat.ble (bOf bo x) (ce (fun j=>bef bs j i) 0 es)&&Nat.ble (ce (fun j=>bef bs j i) 0 es) ws.length&&Nat.ble ws.length (ce (fun j=>!bef bs i j) 0 es) then
        kE P O (fun _=>true) nt ops o (zS ρ (o.looksAt ops)) os fun ref a _ _ rd=>
         pDr lk nt ops bs es (Nat.succ i) l (zxn (refine ρ ref) a o.dst) os (zxB bo ws.length o.dst) ws (ps++[(ce (fun j=>bef bs j i) 0 es,ce (fun j=>!bef bs i j) 0 es,rd)]) K
       else none
  else
   match zue P tab (zS ρ (o.looksAt ops)) o l with
   |some (g,as)=>bif inT nt o.dst&&ps.all (fun p=>okW ws p.1 p.2.1 p.2.2&&Nat.ble p.2.1 ws.length) then Y g lk as os β (fun a os'=>K (zxn ρ a o.dst) os') else none
   |none=>
   match zzN P tab (zS ρ (o.looksAt ops)) o with
   |some (g,j,as)=>bif inT nt o.dst then Y (zx8+g) lk (pc (.own j)::as) os β (fun a os'=>pDr lk nt ops bs es (Nat.succ i) l (zxn ρ a o.dst) os' (zxB bo (Nat.succ ws.length) o.dst) (ws++[[j]]) ps K) else none
   |none=>
   kE P O lk nt ops o (zS ρ (o.looksAt ops)) os fun ref a os' wr _=>
    pDr lk nt ops bs es (Nat.succ i) l (zxn (refine ρ ref) a o.dst) os' (zxB bo (Nat.succ ws.length) o.dst) (ws++[wr]) ps K
end
section
variable {P:Program} {O:Orc} {C:Nat→zg} {E:En}
theorem zrC{β:Type}{N:Nm}{os:List PO}{r:Fr}{ρ:Nat→PA}{k:KT β}{x:β}{sh:Sh}(I:Zf E N os)(F:∀i,RepPA N (r i) (ρ i)){ko:KOp}(hq:kJ ko=true∨∃y,zxA ko=some y)(e:pOp O (fun _=>true) sh ρ os ko k=some x):GoalQ N os r ρ ko k x:=by
 cases ko with
 |mv a=>exact zAp I F e
 |pick c a b=>exact zqv I F e
 |build zs parts=>exact zmu I F e
 |load n a=>exact zqy I F e
 |nilck a=>exact zmo I F e
 |bin op a b=>exact zt1 I F e
 |shift l a b=>exact zmn I F e
 |str op a b=>exact ztT I F e
 |nilS neg a b=>exact zqw I F e
 |eq q neg a b=>exact zAq I F e
 |not a=>exact ztU I F e
 |neg a=>exact ztV I F e
 |conv t a=>exact zqC I F e
 |b2s a=>exact zt2 I F e
 |mkfn f caps=>exact zqx I F e
 |slice st a lo hi mx=>exact zmm I F e
 |sslice a lo hi=>exact ziV I F e
 |foff a off=>exact zqB I F e
 |field a off n=>exact zmt I F e
 |ixs st a i=>exact ztZ I F e
 |ixarr len st a i=>exact zmr I F e
 |ixagg len st n a i=>exact zms I F e
 |ixstr a i=>exact zmq I F e
 |extract a i=>exact zfR I F e
 |lenS a=>exact zqz I F e
 |lenL a=>exact zqA I F e
 |minmax m a xs=>exact ziW I F e
 |_=>rcases hq with h|⟨y,h⟩<;>cases h
def zzR(P:Program){β:Type}(nt:Nat)(ops:Array Oper)(o:Oper)(ko:KOp)(N:Nm)(os:List PO)(r:Fr)(ρ:Nat→PA)(K:Option (Nat×Bool)→KT β)(x:β):Prop:=
  ∃ref a rd v,K ref a os [] rd=some x∧(∀i,RepPA N (r i) (refine ρ ref i))∧RepPA N v a∧(∀call,yu P nt ops o call r N.h=some (v,N.h))∧
    (∀xo,trk (refine ρ ref) ko=some xo→∀N':Nm,(∀t,xo=.tmp t→RepPA N' (r t) (refine ρ ref t))→RepPA N' v a)∧
    ((∀ call h2, ∃ h', yu P nt ops o call r h2 = some (v, h')) ∨ (∃ xo, zxA ko = some xo ∧ ∃ b : BN, (∀ call h2, h2.t.get b = N.h.t.get b → ∃ h', yu P nt ops o call r h2 = some (v, h')) ∧
      ((∃ j, rd = [j] ∧ j < N.n ∧ blk (N.μ j) = some b ∧ held (og os j) ∧ ∀ N' : Nm, (∀ t, xo = .tmp t → RepPA N' (r t) (refine ρ ref t)) → j < N'.n) ∨
       (rd=[]∧∀N':Nm,(∀t,xo=.tmp t→RepPA N' (r t) (refine ρ ref t))→N'.fz b∧∃y,N'.h.t.get b=some y))))
theorem zgk{r:Fr}{ρ:Nat→PA}{xo:Operand}{N':Nm}(H:∀t,xo=Operand.tmp t→RepPA N' (r t) (ρ t)){u:Zb}{pa:PA}(hu:kv r xo=some u)(hpa:pv ρ xo=some pa):RepPA N' u pa:=by
 cases xo with
 |tmp t=>cases hu;cases hpa;exact H t rfl
 |const cv=>
  simp only[kv]at hu;simp only[pv]at hpa;cases hcv:zxX cv with
  |none=>rw[hcv]at hu;cases hu
  |some sv=>
   rw[hcv]at hu hpa;cases hu;simp only at hpa;cases hps:pvS sv with
   |none=>rw[hps]at hpa;cases hpa
   |some q=>rw[hps]at hpa;cases hpa;exact .of (zl1 hps)
 |func f=>cases hu;cases hpa;exact uk (.fn_mk (.nil _ _))
 |global g=>cases hpa
theorem ziG{β:Type}{nt:Nat}{ops:Array Oper}{o:Oper}{ρ:Nat→PA}{os:List PO}{N:Nm}{r:Fr}{K:Option (Nat×Bool)→KT β}{x:β}{sh:Sh}(I:Zf E N os){ko:KOp}(hq:kJ ko=true∨∃y,zxA ko=some y)
  (ref:Option (Nat×Bool)) (F':∀i,RepPA N (r i) (refine ρ ref i)) (run:∀call h,yu P nt ops o call r h=runK r ko call h) (e:pOp O (fun _=>true) sh (refine ρ ref) os ko (K ref)=some x):zzR P nt ops o ko N os r ρ K x:=by
 obtain⟨v,a,rd,h1,h2,h3,h4,h5⟩:=zrC I F' hq e;refine⟨ref,a,rd,v,h1,F',h3,fun call=>(run call N.h).trans (h2 call),?_,?_⟩
 ·intro xo hxo N' H;have hk:∃u pa,kv r xo=some u∧pv (refine ρ ref) xo=some pa:=by
   cases hp:pv (refine ρ ref) xo with
   |some pa=>obtain⟨u,hu,_⟩:=wM F' hp;exact⟨u,pa,hu,rfl⟩
   |none=>
    exfalso;have:∀y,trk (refine ρ ref) ko=some y→pv (refine ρ ref) y=none→False:=by
     intro y hy hp;cases ko<;>simp only[trk]at hy<;>first|cases hy|skip
     all_goals first
      |(simp only[pOp,hp,w1,za]at e;cases e;done)
      |(split at hy<;>first|(cases hy;simp only[pOp,hp,w1]at e;cases e;done)|cases hy)
    exact this xo hxo hp
  obtain⟨u,pa,hu,hpa⟩:=hk;exact h4 xo hxo N' u pa hu hpa (zgk H hu hpa)
 ·rcases hq with hs|⟨y,hy⟩
  ·exact .inl fun call h2'=>⟨h2',by rw[run];exact zoJ hs (h2 call)⟩
  ·obtain⟨w,kw,hw⟩:=h5 y hy;have cr:∀N':Nm,(∀t,y=.tmp t→RepPA N' (r t) (refine ρ ref t))→∀u pa,kv r y=some u→pv (refine ρ ref) y=some pa→RepPA N' u pa:=fun N' H u pa hu hpa=>zgk H hu hpa;have loc:∀call h2',(∀b,blk w=some b→h2'.t.get b=N.h.t.get b)→runK r ko call h2'=some (v,h2'):=by
    intro call h2' H;have hr:=h2 call;cases ko<;>simp only[zxA]at hy<;>cases hy
    ·simp only[runK,kw,zH]at hr ⊢;exact zpx hr fun b off he=>by cases he;exact H b rfl
    ·simp only[runK,kw,zH]at hr ⊢;exact zs0 hr fun b o' l' c' e' he=>by cases he;exact H b rfl
   rcases hw with hw|⟨b,hb,hsrc⟩
   ·exact .inl fun call h2'=>⟨h2',by rw[run];exact loc call h2' fun b hb=>by rw[hw]at hb;cases hb⟩
   ·refine .inr ⟨y,hy,b,fun call h2' hh=>⟨h2',by rw[run];exact loc call h2' fun b' hb'=>by rw[hb]at hb';cases hb';exact hh⟩,?_⟩;rcases hsrc with⟨j,q1,q2,q3,q4,q5⟩|⟨q1,q2⟩
    ·exact .inl ⟨j,q1,q2,q3,q4,fun N' H=>q5 N' (cr N' H)⟩
    ·exact .inr ⟨q1,fun N' H=>q2 N' (cr N' H)⟩
theorem zfL{β:Type}{nt:Nat}{ops:Array Oper}{o:Oper}{ρ:Nat→PA}{os:List PO}{N:Nm}{r:Fr}{K:Option (Nat×Bool)→KT β}{x:β}(I:Zf E N os)(F:∀i,RepPA N (r i) (ρ i))
  {ko:KOp} (hc:comp P o.op=some ko) (hq:kJ ko=true∨∃y,zxA ko=some y) (e:kE P O (fun _=>true) nt ops o ρ os K=some x):zzR P nt ops o ko N os r ρ K x:=by
 unfold kE at e;cases hT:inT nt o.dst with
 |false=>rw[hT]at e;cases e
 |true=>
  rw[hT]at e;simp only[Yza]at e;rw[hc]at e;simp only at e;cases hg:o.guard with
  |none=>
   rw[hg]at e;refine ziG I hq none F (fun call h=>?_) e;unfold yu;rw[hT,hg];exact zdA P r call h hc
  |some gb=>
   obtain⟨j,b⟩:=gb;rw[hg]at e;simp only at e;cases hd:(ops[j]?).bind (·.dst) with
   |none=>rw[hd]at e;cases e
   |some d=>
    rw[hd]at e;simp only at e;cases hb:Nat.ble (Nat.succ d) nt with
    |false=>rw[hb]at e;cases e
    |true=>
     rw[hb]at e;simp only[Yza]at e;have run:∀call h,yu P nt ops o call r h=bif zfi (r d) b then runK r ko call h else some (yh,h):=fun call h=>by
      unfold yu;rw[hT,hg];simp only[Yza];rw[hd];simp only;rw[hb];simp only[Yza];rw[zdA P r call h hc]
     split at e
     ·rename_i v hρ;have hrd:=F d;rw[hρ]at hrd;have key:∀q,v=.bool q→(if q=b then pOp O (fun _=>true) (zyH P o.dst o.type) (refine ρ (some (d,q))) os ko (K (some (d,q))) else K (some (d,q)) .undef os [] [])=some x→zzR P nt ops o ko N os r ρ K x:=fun q hq2 e2=>by
       subst hq2;have hr:=yn hrd (c:=.bool q) rfl;have F':=zbD F hr;by_cases hqb:q=b
       ·rw[Yzd hqb]at e2;refine ziG I hq (some (d,q)) F' (fun call h=>?_) e2;rw[run,hr,hqb];simp only[zfi,Yyr,Yza]
       ·rw[Yzb hqb]at e2;have hr2:∀call h,yu P nt ops o call r h=some (yh,h):=fun call h=>by
         rw[run,hr];have:zfi (.s (.one (.bool q))) b=false:=by
          cases q<;>cases b<;>first|rfl|exact absurd rfl hqb
         rw[this];rfl
        exact⟨some (d,q),.undef,[],yh,e2,F',rfl,fun call=>hr2 call N.h,fun _ _ _ _=>rfl,.inl fun call h2=>⟨h2,hr2 call h2⟩⟩
      cases b with
      |true=>
       obtain⟨q,rfl,e⟩:=zf5 e;exact key q rfl (by cases q<;>exact e)
      |false=>
       obtain⟨q,rfl,e⟩:=zf5 e;exact key q rfl (by cases q<;>exact e)
     ·rename_i hρ;have hrd:r d=yh:=by
       have:=F d;rw[hρ]at this;cases hh:r d with
       |s w=>rw[hh]at this;exact this
       |tup l=>rw[hh]at this;exact this
      have hr2:∀call h,yu P nt ops o call r h=some (yh,h):=fun call h=>by rw[run,hrd];rfl
      exact⟨none,.undef,[],yh,e,F,rfl,fun call=>hr2 call N.h,fun _ _ _ _=>rfl,.inl fun call h2=>⟨h2,hr2 call h2⟩⟩
     ·cases e
end
end Go.PE
end
section
namespace Go.PE
open Go Go.CE
abbrev CkE:=(Za→Res)×Zb×Nat×Nat
abbrev Sn:=Nm×List PO
def zjX(S:List Sn)(ps:List (Nat×Nat×List Nat))(q:CkE):Prop:=
 (∀ h, ∃ h', q.1 h = some (q.2.1, h')) ∨ Nat.beq q.2.2.1 q.2.2.2 = true ∨
  (∃ rd, (q.2.2.1, q.2.2.2, rd) ∈ ps ∧ ∃ (ne : Nat) (b : BN) (A Al : Sn), q.2.2.1 ≤ ne ∧ ne ≤ q.2.2.2 ∧ S[ne]? = some A ∧ S[q.2.2.1]? = some Al ∧ (∀ h2, h2.t.get b = A.1.h.t.get b → ∃ h', q.1 h2 = some (q.2.1, h')) ∧
   ((∃j,rd=[j]∧j<Al.1.n∧blk (A.1.μ j)=some b∧held (og A.2 j))∨(Al.1.fz b∧∃y,Al.1.h.t.get b=some y)))
def zqd(E:En)(S:List Sn)(ws:List (List Nat)):Prop:=∀(e:Nat) (w:List Nat),ws[e]? = some w→∀A B,S[e]? = some A→S[e+1]? = some B→Zf E A.1 A.2∧Nx A.1 B.1∧BkE A.1 A.2 B.1 w∧Ho A.1.n A.2 B.2 w
theorem zea{run:Za→Res}{v:Zb}:∀{l:List Za},(∀h∈l,∃h',run h=some (v,h'))→zkl run v l=true
 | [],_=>rfl
 |h::l,H=>by
  obtain⟨h',e⟩:=H h (Yzi ..);simp only[zkl,e,zjx,Yye];exact zea fun x hx=>H x (Yzf _ hx)
theorem zhn{ws:List (List Nat)}{lo hi j:Nat}(h:okW ws lo hi [j]=true){e:Nat}{w:List Nat}(h1:lo≤e)(h2:e<hi)(hw:ws[e]? = some w):j∉w:=by
 unfold okW at h;rw[Yz1]at h;have:((ws.drop lo).take (hi-lo))[e-lo]? = some w:=by
  rw[Yzo,Yzd (by omega),Yzr,show lo+(e-lo)=e by omega,hw]
 have:=h w (Lz3 this);simp only[List.all_cons,List.all_nil,YyH,YzN]at this;intro hm;rw[(qL j w).2 hm]at this;cases this
section
variable {E:En} {S:List Sn} {ws:List (List Nat)} (hl:S.length=ws.length+1) (ch:zqd E S ws)
include hl ch
theorem zbA{e:Nat}{B:Sn}(eB:S[e+1]? = some B):∃A w,S[e]? = some A∧ws[e]? = some w∧Zf E A.1 A.2∧Nx A.1 B.1∧BkE A.1 A.2 B.1 w∧Ho A.1.n A.2 B.2 w:=by
 have hlt:=(Lz0.1 eB).1;obtain⟨A,eA⟩:∃A,S[e]? = some A:=⟨_,Lz5 (by omega)⟩;obtain⟨w,ew⟩:∃w,ws[e]? = some w:=⟨_,Lz5 (by omega)⟩;exact⟨A,w,eA,ew,ch e w ew A B eA eB⟩
theorem xX{lo:Nat}{Al:Sn}(el:S[lo]? = some Al):∀(d:Nat) (B:Sn),S[lo+d]? = some B→Nx Al.1 B.1
 |0,B,e=>by rw[Yzw,el]at e;cases e;exact .refl _
 |d+1,B,e=>by
  obtain⟨A,w,eA,_,_,nx,_⟩:=zbA hl ch (e:=lo+d) e;exact(xX el d A eA).trans nx
theorem zf6{lo j:Nat}{Al:Sn}(el:S[lo]? = some Al)(hj:j<Al.1.n):∀(d e:Nat) (A B:Sn),S[lo+e]? = some A→S[lo+e+d]? = some B→held (og B.2 j)→held (og A.2 j)
 |0,e,A,B,eA,eB,h=>by rw[Yzw,eA]at eB;cases eB;exact h
 |d+1,e,A,B,eA,eB,h=>by
  obtain⟨B',w,eB',_,_,_,_,ho⟩:=zbA hl ch (e:=lo+e+d) eB;have hn:=(xX hl ch el (e+d) B' (by rw[show lo+(e+d)=lo+e+d by omega];exact eB')).le;exact zf6 el hj d e A B' eA eB' ((ho j (Lz9 hj hn)).1 h)
theorem znk{lo hi j:Nat}{Al:Sn}(el:S[lo]? = some Al)(hj:j<Al.1.n)(hw:okW ws lo hi [j]=true):∀(d e:Nat) (A B:Sn),lo+e+d≤hi→S[lo+e]? = some A→S[lo+e+d]? = some B→held (og A.2 j)→held (og B.2 j)
 |0,e,A,B,_,eA,eB,h=>by rw[Yzw,eA]at eB;cases eB;exact h
 |d+1,e,A,B,hh,eA,eB,h=>by
  obtain⟨B',w,eB',ew,_,_,_,ho⟩:=zbA hl ch (e:=lo+e+d) eB;have hn:=(xX hl ch el (e+d) B' (by rw[show lo+(e+d)=lo+e+d by omega];exact eB')).le;have:=znk el hj hw d e A B' (by omega) eA eB' h;exact((ho j (Lz9 hj hn)).2.1 this).elim id fun hm=>absurd hm (zhn hw (by omega) (by omega) ew)
theorem qF{lo hi ne j:Nat}{Al A:Sn}{b:BN}(el:S[lo]? = some Al)(en:S[ne]? = some A)(h1:lo≤ne)(h2:ne≤hi)(hj:j<Al.1.n)(hw:okW ws lo hi [j]=true)(hb:blk (A.1.μ j)=some b)(hh:held (og A.2 j)):
  ∀(d:Nat) (B:Sn),lo+d≤hi→S[lo+d]? = some B→B.1.h.t.get b=Al.1.h.t.get b
 |0,B,_,e=>by rw[Yzw,el]at e;cases e;rfl
 |d+1,B,hd,e=>by
  obtain⟨A',w,eA',ew,I,nx,bk,ho⟩:=zbA hl ch (e:=lo+d) e;have ih:=qF el en h1 h2 hj hw hb hh d A' (by omega) eA';have nx1:=xX hl ch el d A' eA';have nx2:=xX hl ch el (ne-lo) A (by rw[show lo+(ne-lo)=ne by omega];exact en);have hjA:j<A'.1.n:=Lz9 hj nx1.le;have hbA:blk (A'.1.μ j)=some b:=by rw[nx1.mu j hj,←nx2.mu j hj];exact hb
  have hA:held (og A'.2 j):=by
   by_cases hc:lo+d≤ne
   ·exact zf6 hl ch el hj (ne-(lo+d)) d A' A eA' (by rw[show lo+d+(ne-(lo+d))=ne by omega];exact en) hh
   ·exact znk hl ch el hj hw (lo+d-ne) (ne-lo) A A' (by omega) (by rw[show lo+(ne-lo)=ne by omega];exact en) (by rw[show lo+(ne-lo)+(lo+d-ne)=lo+d by omega];exact eA') hh
  obtain⟨y,hy⟩:=zcn hA (I.obj j) hbA;rw[←ih,hy];refine bk b y hy fun k hk hkn hkl hkb=>?_;have hjw:=zhn hw (by omega) (by omega) ew;obtain⟨b',x',k1,k2,_⟩:=xx hkl (I.obj k);rw[hkb]at k1;cases k1;have hO:=I.obj j;cases hoj:og A'.2 j with
  |box cs=>
   have:=I.inj k j b hkl (by rw[hoj];trivial) hkb hbA;exact hjw (this▸hk)
  |arr st v=>
   cases v with
   |none=>rw[hoj]at hA;exact hA
   |some xs=>
    have:=I.inj k j b hkl (by rw[hoj];trivial) hkb hbA;exact hjw (this▸hk)
  |mp st xs=>
   have:=I.inj k j b hkl (by rw[hoj];trivial) hkb hbA;exact hjw (this▸hk)
  |frz v=>
   rw[hoj]at hA hO;obtain⟨st,xs,rfl⟩:=hA;obtain⟨b2,o2,off2,cap2,ex2,cs2,q1,q2,_⟩:=Rep.lst_inv hO;rw[q1]at hbA;cases hbA;exact k2 q2
  |fbox ds=>
   rw[hoj]at hO;obtain⟨b2,q1,q2⟩:=hO;rw[q1]at hbA;cases hbA;obtain⟨b3,o3,base3,cs3,p1,p2,_⟩:=q2.fp_inv;cases p1;exact k2 p2
  |hol v n t=>
   have:=I.inj k j b hkl (by rw[hoj];trivial) hkb hbA;exact hjw (this▸hk)
  |lnk m=>rw[hoj]at hA;exact hA
  |dead=>rw[hoj]at hA;exact hA
theorem zh1(T:List Za){ps:List (Nat×Nat×List Nat)}(hps:(ps.all fun p=>okW ws p.1 p.2.1 p.2.2)=true)(hT:T=[]∨∀p∈ps,p.2.1<S.length):∀{cs:List CkE},(∀q∈cs,zjX S ps q)→zyu ((S.map fun x=>x.1.h)++T) cs=true
 | [],_=>rfl
 |(run,v,lo,hi)::cs,Hc=>by
  have ih:=zh1 T hps hT (cs:=cs) fun q hq=>Hc q (Yzf _ hq);simp only[zyu,ih,YyH];have mem:(T=[]∨hi<S.length)→∀h∈(((S.map fun x=>x.1.h)++T).drop lo).take (Nat.sub (Nat.succ hi) lo),∃d B,lo+d≤hi∧S[lo+d]? = some B∧h=B.1.h:=fun hT h hh=>by
   obtain⟨i,hi'⟩:=Yyk hh;rw[Yzo]at hi';split at hi'
   ·rename_i hlt;have hlt:i<hi+1-lo:=hlt;rw[Yzr]at hi';have:((S.map fun x=>x.1.h)++T)[lo+i]? = (S.map fun x=>x.1.h)[lo+i]?:=by
     rcases hT with rfl|hT
     ·rw[YzD]
     ·exact Lz2 (by rw[Yzj];omega)
    rw[this,Lz6,Yz3]at hi';obtain⟨B,hB,rfl⟩:=hi';exact⟨i,B,by omega,hB,rfl⟩
   ·cases hi'
  rcases Hc _ (Yzi ..) with h|h|⟨rd,hp,ne,b,A,Al,h1,h2,h3,h4,h6,h7⟩
  ·rw[zea fun x _=>h x,Bool.or_true]
  ·rw[show Nat.beq lo hi=true from h,Bool.true_or]
  ·rw[Yz1]at hps;have hwin:=hps _ hp;simp only at hwin h1 h2 h4 h6;rw[zea fun x hx=>?_,Bool.or_true];obtain⟨d,B,hd1,hd2,rfl⟩:=mem (hT.imp id fun h=>h _ hp) x hx;refine h6 _ ?_;rcases h7 with⟨j,rfl,q1,q2,q3⟩|⟨q1,y,q2⟩
   ·have e1:=qF hl ch h4 h3 h1 h2 q1 hwin q2 q3 (ne-lo) A (by omega) (by rw[show lo+(ne-lo)=ne by omega];exact h3);have e2:=qF hl ch h4 h3 h1 h2 q1 hwin q2 q3 d B hd1 hd2;rw[e1,e2]
   ·have e1:=(xX hl ch h4 (ne-lo) A (by rw[show lo+(ne-lo)=ne by omega];exact h3)).fg.old b y q1 q2;have e2:=(xX hl ch h4 d B hd2).fg.old b y q1 q2;rw[e1,e2]
theorem zjI{ps:List (Nat×Nat×List Nat)}(hps:(ps.all fun p=>okW ws p.1 p.2.1 p.2.2)=true){cs:List CkE}(H:∀q∈cs,zjX S ps q):zyu (S.map fun x=>x.1.h) cs=true:=by
 have:=zh1 hl ch [] hps (.inl rfl) H
 rwa [YzD]at this
end
section
variable {P:Program} {O:Orc} {C:Nat→zg} {E:En} {tab:Nat→Bool} {Y:Inl}
theorem zlV{N:Nm}{r:Fr}{ρ:Nat→PA}(F:∀i,RepPA N (r i) (ρ i))(l:List Nat):∀i,RepPA N (zR r l i) (zS ρ l i):=fun i=>by
 unfold zR zS;cases zxR i l with
 |true=>exact F i
 |false=>exact .bad _
theorem ziF{N:Nm}{r:Fr}{ρ:Nat→PA}{l:List Nat}{d:Nat}{b:Bool}(F1:∀i,RepPA N (zR r l i) (refine (zS ρ l) (some (d,b)) i)):r d=.s (.one (.bool b)):=by
 have:=F1 d;rw[show refine (zS ρ l) (some (d,b)) d=pd (.bool b) by show (bif Nat.beq d d then _ else _)=_;rw[Yzu];rfl]at this;have h:=yn this (c:=.bool b) rfl;unfold zR at h;cases hm:zxR d l with
 |true=>rw[hm]at h;exact h
 |false=>rw[hm]at h;cases h
theorem zfE{N:Nm}{r:Fr}{ρ:Nat→PA}{l:List Nat}{ref:Option (Nat×Bool)}(F:∀i,RepPA N (r i) (ρ i))(F1:∀i,RepPA N (zR r l i) (refine (zS ρ l) ref i)):∀i,RepPA N (r i) (refine ρ ref i):=by
 cases ref with
 |none=>exact F
 |some db=>
  obtain⟨d,b⟩:=db;exact zbD F (ziF F1)
theorem kX{N N':Nm}{r:Fr}{ρ:Nat→PA}{l:List Nat}{ref:Option (Nat×Bool)}(F1:∀i,RepPA N (zR r l i) (refine (zS ρ l) ref i)){i:Nat}(H:RepPA N' (r i) (ρ i)):RepPA N' (r i) (refine ρ ref i):=by
 cases ref with
 |none=>exact H
 |some db=>
  obtain⟨d,b⟩:=db;show RepPA N' (r i) (bif Nat.beq i d then pd (.bool b) else ρ i);cases hb:Nat.beq i d with
  |false=>exact H
  |true=>
   have:=Lz1 hb;subst this;rw[ziF F1];exact yP rfl
theorem qB{N N':Nm}{r:Fr}{ρ:Nat→PA}{l:List Nat}{ref:Option (Nat×Bool)}(F1:∀i,RepPA N (zR r l i) (refine (zS ρ l) ref i)){i:Nat}(H:RepPA N' (r i) (ρ i)):RepPA N' (zR r l i) (refine (zS ρ l) ref i):=by
 have h:=kX F1 H;cases hm:zxR i l with
 |true=>
  have e1:refine (zS ρ l) ref i=refine ρ ref i:=by
   cases ref with
   |none=>show zS ρ l i=ρ i;unfold zS;rw[hm];rfl
   |some db=>
    show (bif Nat.beq i db.1 then pd (.bool db.2) else zS ρ l i)=(bif Nat.beq i db.1 then pd (.bool db.2) else ρ i);unfold zS;rw[hm];rfl
  have e2:zR r l i=r i:=by unfold zR;rw[hm];rfl
  rw[e1,e2];exact h
 |false=>
  have e2:zR r l i=yh:=by unfold zR;rw[hm];rfl
  have F1i:=F1 i;rw[e2]at F1i ⊢;cases ref with
  |none=>
   have:refine (zS ρ l) none i=.bad:=by show zS ρ l i=.bad;unfold zS;rw[hm];rfl
   rw[this];exact .bad _
  |some db=>
   have:refine (zS ρ l) (some db) i=(bif Nat.beq i db.1 then pd (.bool db.2) else .bad):=by
    show (bif Nat.beq i db.1 then pd (.bool db.2) else zS ρ l i)=_;unfold zS;rw[hm];rfl
   rw[this]at F1i ⊢;cases hb:Nat.beq i db.1 with
   |false=>exact .bad _
   |true=>rw[hb]at F1i;exact F1i.elim
theorem zme(hO:u7 O C)(hY:Zs tab Y C){β γ:Type}{Q:γ→Prop}{lk:Nat→Bool}{nt:Nat}{ops:Array Oper}{bs:List Nat}{es:List Bool}{x:β}{K:(Nat→PA)→List PO→Option β}{kk:Nat→Fr→Za→Option γ}:
    ∀(l:List Oper) (i:Nat) (ρ:Nat→PA) (os:List PO) (N:Nm) (r:Fr) (bo:Nat→Nat) (ws:List (List Nat)) (ps:List (Nat×Nat×List Nat)) (S:List Sn) (cs:Nat→List CkE),
    pDr P O tab Y lk nt ops bs es i l ρ os bo ws ps K=some x→Zf E N os→(∀i,RepPA N (r i) (ρ i))→(∀j,lk j=true→j<os.length)→
    S.length=ws.length→zqd E (S++[(N,os)]) ws→(∀s,bo s≤ws.length∧∀A:Sn,(S++[(N,os)])[bo s]? = some A→RepPA A.1 (r s) (ρ s))→(∀n,∀q∈cs n,zjX (S++[(N,os)]) ps q)→
    (∀ρ' os' N' r',K ρ' os'=some x→Zf E N' os'→(∀i,RepPA N' (r' i) (ρ' i))→Nx N N'→(∀j,lk j=true→og os' j=og os j)→(∀i,i∉l.filterMap (·.dst)→r' i=r i)→Ev (fun n=>kk n r' N'.h) Q)→
    Ev (fun n=>kDr P nt ops (C n) bs es i l r N.h (S.map fun x=>x.1.h) (cs n) (kk n)) Q
  | [],i,ρ,os,N,r,bo,ws,ps,S,cs,e,I,F,hlk,hl,ch,sl,pe,H=>by
    simp only[pDr]at e;cases hps:(ps.all fun p=>okW ws p.1 p.2.1 p.2.2) with
    |false=>rw[hps]at e;cases e
    |true=>
      rw[hps]at e;have run:∀n,kDr P nt ops (C n) bs es i [] r N.h (S.map fun x=>x.1.h) (cs n) (kk n)=kk n r N.h:=fun n=>by
        simp only[kDr];have:=zjI (S:=S++[(N,os)]) (by simp[hl]) ch hps (pe n);rw[YzH,Yzp,Yyf]at this;rw[this,Yza]
      simp only[run];exact H ρ os N r e I F (.refl N) (fun _ _=>rfl) (fun _ _=>rfl)
  |o::l,i,ρ,os,N,r,bo,ws,ps,S,cs,e,I,F,hlk,hl,ch,sl,pe,H=>by
    have step:(fun n=>kDr P nt ops (C n) bs es i (o::l) r N.h (S.map fun x=>x.1.h) (cs n) (kk n))=fun n=>CE.bindR (yu P nt ops o (C n) (zR r (o.looksAt ops)) N.h) fun v h'=>
        bif yF P o.op then kDr P nt ops (C n) bs es (Nat.succ i) l (zw0 r v o.dst) N.h (S.map fun x=>x.1.h) (cs n++[(yu P nt ops o (C n) (zR r (o.looksAt ops)),v,ce (fun j=>bef bs j i) 0 es,ce (fun j=>!bef bs i j) 0 es)]) (kk n)
        else kDr P nt ops (C n) bs es (Nat.succ i) l (zw0 r v o.dst) h' ((S.map fun x=>x.1.h)++[N.h]) (cs n) (kk n):=by
      funext n;exact zjd ops (C n) bs es i o l r N.h _ (cs n) (kk n)
    rw[step];have agree:∀(r2:Fr) (v:Zb),(∀i,i∉l.filterMap (·.dst)→r2 i=zw0 r v o.dst i)→∀i,i∉(o::l).filterMap (·.dst)→r2 i=r i:=fun r2 v hr i hi=>by
      simp only[Yz9]at hi;rw[hr i (fun hm=>hi (by cases o.dst<;>simp[hm]))];exact wk (fun hd=>hi (by rw[hd];simp))
    have FR:=zlV F (o.looksAt ops);simp only[pDr]at e;cases hq:yF P o.op with
    |true=>
      rw[hq]at e;simp only[Yza]at e ⊢;cases hc:comp P o.op with
      |none=>rw[hc]at e;cases e
      |some ko=>
        rw[hc]at e;simp only at e;have go:∀(nb:Option (Nat×Bool)→Nat) (ps':List Nat→List (Nat×Nat×List Nat)) (hk:kJ ko=true∨∃y,zxA ko=some y),(∀ref,nb ref≤ws.length)→(∀rd,∀p∈ps,p∈ps' rd)→
            (∀ref,(∀i,RepPA N (zR r (o.looksAt ops) i) (refine (zS ρ (o.looksAt ops)) ref i))→∀v a,RepPA N v a→(∀xo,trk (refine (zS ρ (o.looksAt ops)) ref) ko=some xo→∀N':Nm,(∀t,xo=.tmp t→RepPA N' (zR r (o.looksAt ops) t) (refine (zS ρ (o.looksAt ops)) ref t))→RepPA N' v a)→∀A:Sn,(S++[(N,os)])[nb ref]? = some A→RepPA A.1 v a)→
            (∀ref,(∀i,RepPA N (zR r (o.looksAt ops) i) (refine (zS ρ (o.looksAt ops)) ref i))→∀v rd n,((∀call h2,∃h',yu P nt ops o call (zR r (o.looksAt ops)) h2=some (v,h'))∨(∃xo,zxA ko=some xo∧∃b:BN,(∀call h2,h2.t.get b=N.h.t.get b→∃h',yu P nt ops o call (zR r (o.looksAt ops)) h2=some (v,h'))∧
                ((∃ j, rd = [j] ∧ j < N.n ∧ blk (N.μ j) = some b ∧ held (og os j) ∧ ∀ N' : Nm, (∀ t, xo = .tmp t → RepPA N' (zR r (o.looksAt ops) t) (refine (zS ρ (o.looksAt ops)) ref t)) → j < N'.n) ∨
                 (rd=[]∧∀N':Nm,(∀t,xo=.tmp t→RepPA N' (zR r (o.looksAt ops) t) (refine (zS ρ (o.looksAt ops)) ref t))→N'.fz b∧∃y,N'.h.t.get b=some y))))→
              zjX (S++[(N,os)]) (ps' rd) (yu P nt ops o (C n) (zR r (o.looksAt ops)),v,ce (fun j=>bef bs j i) 0 es,ce (fun j=>!bef bs i j) 0 es))→
            (kE P O (fun _=>true) nt ops o (zS ρ (o.looksAt ops)) os fun ref a _ _ rd=>pDr P O tab Y lk nt ops bs es (Nat.succ i) l (zxn (refine ρ ref) a o.dst) os (zxB bo (nb ref) o.dst) ws (ps' rd) K)=some x→
            Ev (fun n=>CE.bindR (yu P nt ops o (C n) (zR r (o.looksAt ops)) N.h) fun v h'=>kDr P nt ops (C n) bs es (Nat.succ i) l (zw0 r v o.dst) N.h (S.map fun x=>x.1.h) (cs n++[(yu P nt ops o (C n) (zR r (o.looksAt ops)),v,ce (fun j=>bef bs j i) 0 es,ce (fun j=>!bef bs i j) 0 es)]) (kk n)) Q:=by
          intro nb ps' hk hnb hps hxb hpe e;obtain⟨ref,a,rd,v,e1,F1,rv,run,tr,pend⟩:=zfL I FR hc hk e;have:(fun n=>CE.bindR (yu P nt ops o (C n) (zR r (o.looksAt ops)) N.h) fun v h'=>kDr P nt ops (C n) bs es (Nat.succ i) l (zw0 r v o.dst) N.h (S.map fun x=>x.1.h) (cs n++[(yu P nt ops o (C n) (zR r (o.looksAt ops)),v,ce (fun j=>bef bs j i) 0 es,ce (fun j=>!bef bs i j) 0 es)]) (kk n)) =
              fun n=>kDr P nt ops (C n) bs es (Nat.succ i) l (zw0 r v o.dst) N.h (S.map fun x=>x.1.h) (cs n++[(yu P nt ops o (C n) (zR r (o.looksAt ops)),v,ce (fun j=>bef bs j i) 0 es,ce (fun j=>!bef bs i j) 0 es)]) (kk n):=by
            funext n;rw[run];rfl
          rw[this];refine zme hO hY l (Nat.succ i) _ os N (zw0 r v o.dst) _ ws (ps' rd) S _ e1 I (zbg (zfE F F1) rv o.dst) hlk hl ch (fun s=>?_) (fun n q hqm=>?_) fun ρ2 os2 N2 r2 k1 k2 k3 k4 k5 k6=>H ρ2 os2 N2 r2 k1 k2 k3 k4 k5 (agree r2 v k6)
          · have old:bo s≤ws.length∧∀A:Sn,(S++[(N,os)])[bo s]? = some A→RepPA A.1 (r s) (refine ρ ref s):=⟨(sl s).1,fun A hh=>kX F1 ((sl s).2 A hh)⟩
            cases hd:o.dst with
            |none=>exact old
            |some d=>
              show (bif Nat.beq s d then nb ref else bo s)≤ws.length∧∀A:Sn,(S++[(N,os)])[bif Nat.beq s d then nb ref else bo s]? = some A→RepPA A.1 (bif Nat.beq s d then v else r s) (bif Nat.beq s d then a else refine ρ ref s);cases Nat.beq s d with
              |false=>exact old
              |true=>exact⟨hnb ref,hxb ref F1 v a rv tr⟩
          · rcases Yys.1 hqm with h|h
            · rcases pe n q h with g|g|⟨rd',g1,g2⟩
              · exact .inl g
              · exact .inr (.inl g)
              · exact .inr (.inr ⟨rd',hps rd _ g1,g2⟩)
            · rw[YzB]at h
              subst h;exact hpe ref F1 v rd n pend
        have here:∀v a,RepPA N v a→∀A:Sn,(S++[(N,os)])[ws.length]? = some A→RepPA A.1 v a:=fun v a rv A hh=>by
          rw[←hl,YzM]at hh;cases hh;exact rv
        cases hst:kJ ko with
        |true=>
          rw[hst]at e;simp only[Yza]at e;refine go (fun ref=>match trk (refine (zS ρ (o.looksAt ops)) ref) ko with|some x=>bOf bo x|none=>ws.length) (fun _=>ps) (.inl hst) ?_ (fun _ p hp=>hp) ?_ ?_ e
          · intro ref
            cases htk:trk (refine (zS ρ (o.looksAt ops)) ref) ko with
            |none=>exact LzB _
            |some y=>
              cases y with
              |tmp t=>exact(sl t).1
              |_=>exact YzC _
          · intro ref F1 v a rv tr A hh
            cases htk:trk (refine (zS ρ (o.looksAt ops)) ref) ko with
            |none=>simp only[htk]at hh;exact here v a rv A hh
            |some y=>
              simp only[htk]at hh;refine tr y htk _ fun t ht=>?_;subst ht;exact qB F1 ((sl t).2 A hh)
          · intro ref F1 v rd n pend
            rcases pend with g|⟨xo,g,_⟩
            · exact .inl fun h=>g (C n) h
            · exfalso
              cases ko<;>first|exact Bool.noConfusion hst|(simp only[zxA]at g;cases g)
        |false=>
          rw[hst]at e;simp only[Yzc]at e;cases hm:zxA ko with
          |none=>rw[hm]at e;cases e
          |some y=>
            rw[hm]at e;simp only at e;cases hb:Nat.beq (ce (fun j=>bef bs j i) 0 es) (ce (fun j=>!bef bs i j) 0 es) with
            |true=>
              rw[hb]at e;exact go (fun _=>ws.length) (fun _=>ps) (.inr ⟨y,hm⟩) (fun _=>LzB _) (fun _ p hp=>hp) (fun ref F1 v a rv tr A hh=>here v a rv A hh) (fun ref F1 v rd n pend=>.inr (.inl hb)) e
            |false=>
              rw[hb]at e;simp only[Yzc]at e;cases hw:(Nat.ble (bOf bo y) (ce (fun j=>bef bs j i) 0 es)&&Nat.ble (ce (fun j=>bef bs j i) 0 es) ws.length&&Nat.ble ws.length (ce (fun j=>!bef bs i j) 0 es)) with
              |false=>rw[hw]at e;cases e
              |true=>
                rw[hw]at e;simp only[LzC]at hw;obtain⟨⟨w1,w2⟩,w3⟩:=hw;have w1:=Lz4 w1;have w2:=Lz4 w2;have w3:=Lz4 w3;refine go (fun _=>ws.length) (fun rd=>ps++[(ce (fun j=>bef bs j i) 0 es,ce (fun j=>!bef bs i j) 0 es,rd)]) (.inr ⟨y,hm⟩) (fun _=>LzB _) (fun _ p hp=>Yzx _ hp) (fun ref F1 v a rv tr A hh=>here v a rv A hh) (fun ref F1 v rd n pend=>?_) e;rcases pend with g|⟨xo,g,b,g2,g1⟩
                · exact .inl fun h=>g (C n) h
                · rw[hm]at g
                  cases g;obtain⟨Al,elo⟩:∃A:Sn,(S++[(N,os)])[ce (fun j=>bef bs j i) 0 es]? = some A:=⟨_,Lz5 (by simp[hl];omega)⟩;have hrel:∀t,y=.tmp t→RepPA Al.1 (zR r (o.looksAt ops) t) (refine (zS ρ (o.looksAt ops)) ref t):=fun t ht=>by
                    subst ht;refine qB F1 ?_;obtain⟨Ab,eb0⟩:∃A:Sn,(S++[(N,os)])[bo t]? = some A:=⟨_,Lz5 (by have:=(sl t).1;simp[hl];omega)⟩;have hle:bo t≤ce (fun j=>bef bs j i) 0 es:=w1;exact((sl t).2 Ab eb0).mono (xX (by simp[hl]) ch eb0 (ce (fun j=>bef bs j i) 0 es-bo t) Al (by rw[show bo t+(ce (fun j=>bef bs j i) 0 es-bo t)=ce (fun j=>bef bs j i) 0 es by omega];exact elo))
                  refine .inr (.inr ⟨rd,YzF _ (YzE _),ws.length,b,(N,os),Al,w2,w3,by rw[←hl];exact YzM,elo,fun h2 hh=>g2 (C n) h2 hh,?_⟩);rcases g1 with⟨j,q1,q2,q3,q4,q5⟩|⟨q1,q2⟩
                  · exact .inl ⟨j,q1,q5 Al.1 hrel,q3,q4⟩
                  · exact .inr (q2 Al.1 hrel)
    |false=>
      rw[hq]at e;simp only[Yzc]at e ⊢;cases hL:zue P tab (zS ρ (o.looksAt ops)) o l with
      |some q=>
        obtain⟨g,as⟩:=q;rw[hL]at e;cases l with
        |cons o2 l2=>cases hL
        |nil=>
        simp only at e;cases hT:(inT nt o.dst&&ps.all fun p=>okW ws p.1 p.2.1 p.2.2&&Nat.ble p.2.1 ws.length) with
        |false=>rw[hT]at e;cases e
        |true=>
          rw[hT,Yza]at e;rw[LzC,Yz1]at hT;obtain⟨hT,hps⟩:=hT;obtain⟨ht,vs,rvs,run⟩:=zeL (ops:=ops) FR hL hT;obtain⟨a,os',e1,ev⟩:=hY.o ht I rvs hlk e;have:∀n,yu P nt ops o (C n) (zR r (o.looksAt ops)) N.h=C n (.inl g) vs N.h:=fun n=>run (C n) N.h;simp only[this];refine Ev.bindR (ev.mono ?_)
          rintro⟨v,h'⟩ ⟨N',hh,i1,i2,i3,i4⟩
          simp only at hh i4 ⊢;subst hh;have run2:∀n,kDr P nt ops (C n) bs es (Nat.succ i) [] (zw0 r v o.dst) N'.h ((S.map fun x=>x.1.h)++[N.h]) (cs n) (kk n)=kk n (zw0 r v o.dst) N'.h:=fun n=>by
            simp only[kDr];have hw:(ps.all fun p=>okW ws p.1 p.2.1 p.2.2)=true:=Yz1.2 fun p hp=>by
              have:=hps p hp;rw[LzC]at this;exact this.1
            have:=zh1 (S:=S++[(N,os)]) (by simp[hl]) ch [N'.h] hw (.inr fun p hp=>by
              have:=hps p hp;rw[LzC]at this;have:=Lz4 this.2;simp[hl];omega) (pe n)
            rw[YzH,Yzp,Yyf]at this;rw[this,Yza]
          simp only[run2];exact H _ os' N' (zw0 r v o.dst) e1 i1 (zbg (fun i=>(F i).mono i2) i4 o.dst) i2 i3 (agree _ v (fun _ _=>rfl))
      |none=>
      rw[hL]at e;simp only at e;have tail:∀(ref:Option (Nat×Bool)) (a:PA) (os':List PO) (wr:List Nat),pDr P O tab Y lk nt ops bs es (Nat.succ i) l (zxn (refine ρ ref) a o.dst) os' (zxB bo (Nat.succ ws.length) o.dst) (ws++[wr]) ps K=some x→(∀i,RepPA N (zR r (o.looksAt ops) i) (refine (zS ρ (o.looksAt ops)) ref i))→
          Ev (fun n=>yu P nt ops o (C n) (zR r (o.looksAt ops)) N.h) (fun p=>∃N',N'.h=p.2∧Sim E lk N os wr N' os' p.1 a)→
          Ev (fun n=>CE.bindR (yu P nt ops o (C n) (zR r (o.looksAt ops)) N.h) fun v h'=>kDr P nt ops (C n) bs es (Nat.succ i) l (zw0 r v o.dst) h' ((S.map fun x=>x.1.h)++[N.h]) (cs n) (kk n)) Q:=by
        intro ref a os' wr e1 F1 ev;refine Ev.bindR (ev.mono ?_)
        rintro⟨v,h'⟩ ⟨N',hh,Sm⟩
        simp only at hh Sm ⊢;subst hh;have F2:=zfE F F1;have hlen2:(S++[(N,os)]).length=(ws++[wr]).length:=by simp[hl]
        have hmap:(S.map fun x=>x.1.h)++[N.h]=(S++[(N,os)]).map fun x=>x.1.h:=by simp
        rw[hmap];refine zme hO hY l (Nat.succ i) _ os' N' (zw0 r v o.dst) _ (ws++[wr]) ps (S++[(N,os)]) cs e1 Sm.inv (zbg (fun i=>(F2 i).mono Sm.nx) Sm.val o.dst) (fun j hj=>?_) hlen2 ?_ (fun s=>?_) (fun n q hqm=>?_) fun ρ2 os2 N2 r2 k1 k2 k3 k4 k5 k6=>
          H ρ2 os2 N2 r2 k1 k2 k3 (Sm.nx.trans k4) (fun j hj=>(k5 j hj).trans (Sm.lock j hj)) (agree r2 v k6)
        · have h1:=Sm.nx.le
          rw[Sm.inv.len,I.len]at h1;exact Lz9 (hlk j hj) h1
        · intro e w hw A B a1 a2
          by_cases he:e<ws.length
          · rw[Lz2 he]at hw
            rw[Lz2 (by simp[hl];omega)]at a1;rw[Lz2 (by simp[hl];omega)]at a2;exact ch e w hw A B a1 a2
          · have he2:e=ws.length:=by
              have:=(Lz0.1 hw).1;simp at this;omega
            subst he2;rw[YzM]at hw;cases hw;rw[←hl]at a1 a2;rw[Lz2 (by simp),YzM]at a1;cases a1;rw[show S.length+1=(S++[(N,os)]).length by simp,YzM]at a2;cases a2;exact⟨I,Sm.nx,Sm.fr.ex I.hw,Sm.ho⟩
        · have old:bo s≤(ws++[wr]).length∧∀A:Sn,(S++[(N,os)]++[(N',os')])[bo s]? = some A→RepPA A.1 (r s) (refine ρ ref s):=
            ⟨by have:=(sl s).1;simp;omega,fun A hh=>kX F1 ((sl s).2 A (by rwa [Lz2 (by have:=(sl s).1;simp[hl];omega)]at hh))⟩
          cases hd:o.dst with
          |none=>exact old
          |some d=>
            show (bif Nat.beq s d then Nat.succ ws.length else bo s)≤(ws++[wr]).length∧∀A:Sn,(S++[(N,os)]++[(N',os')])[bif Nat.beq s d then Nat.succ ws.length else bo s]? = some A→RepPA A.1 (bif Nat.beq s d then v else r s) (bif Nat.beq s d then a else refine ρ ref s);cases Nat.beq s d with
            |false=>exact old
            |true=>
              refine⟨by simp,fun A hh=>?_⟩;simp only[Yza]at hh ⊢;rw[show Nat.succ ws.length=(S++[(N,os)]).length by simp[hl],YzM]at hh;cases hh;exact Sm.val
        · rcases pe n q hqm with g|g|⟨rd',g1,ne,b,A,Al,a1,a2,a3,a4,a5⟩
          · exact .inl g
          · exact .inr (.inl g)
          · refine .inr (.inr ⟨rd',g1,ne,b,A,Al,a1,a2,?_,?_,a5⟩)
            · rw[Lz2 (Lz0.1 a3).1];exact a3
            · rw[Lz2 (Lz0.1 a4).1];exact a4
      suffices hs:∃ref a os' wr,pDr P O tab Y lk nt ops bs es (Nat.succ i) l (zxn (refine ρ ref) a o.dst) os' (zxB bo (Nat.succ ws.length) o.dst) (ws++[wr]) ps K=some x∧(∀i,RepPA N (zR r (o.looksAt ops) i) (refine (zS ρ (o.looksAt ops)) ref i))∧
          Ev (fun n=>yu P nt ops o (C n) (zR r (o.looksAt ops)) N.h) (fun p=>∃N',N'.h=p.2∧Sim E lk N os wr N' os' p.1 a) by
        obtain⟨ref,a,os',wr,e1,F1,ev⟩:=hs;exact tail ref a os' wr e1 F1 ev
      cases hM:zzN P tab (zS ρ (o.looksAt ops)) o with
      |some q=>
        obtain⟨g,j,as⟩:=q;rw[hM]at e;simp only at e;cases hT:inT nt o.dst with
        |false=>rw[hT]at e;cases e
        |true=>
          rw[hT,Yza]at e;have hin:zhD P tab (zS ρ (o.looksAt ops)) o=some (g,pc (.own j)::as):=by
            unfold zzN at hM;split at hM
            · rename_i g2 as2 h2
              split at hM
              · cases hM;exact h2
              · cases hM
            · cases hM
          obtain⟨ht,vs,rvs,run⟩:=zeL (ops:=ops) FR hin hT;obtain⟨a,os',e1,ev⟩:=hY.m ht I rvs e;exact⟨none,a,os',[j],e1,FR,by simpa only[run] using ev⟩
      |none=>
        rw[hM]at e;simp only at e;obtain⟨ref,a,os',wr,rd,e1,F1,ev⟩:=zeo hO I FR hlk e;exact⟨ref,a,os',wr,e1,F1,ev⟩
end
end Go.PE
end
section
namespace Go.PE
open Go Go.CE
theorem zpX{n0:Nat}(l:List Nat)(t:Tr Ze)(b:BN):(b∈l.map (nm n0)→(zxa n0 l t).get b=none)∧(b∉l.map (nm n0)→(zxa n0 l t).get b=t.get b):=by
 constructor
 ·intro h;obtain⟨j,hj,rfl⟩:=List.mem_map.1 h;exact zcy l t j hj
 ·intro h;exact vU l t b fun j hj e=>h (List.mem_map.2 ⟨j,hj,e.symm⟩)
theorem zaQ{n0:Nat}{h:Tr Ze}:∀(l:List Nat) (t:Tr Ze),l.Nodup→(∀j∈l,t.get (nm n0 j)=none)→∃t',zff n0 h l t=some t'
 | [],t,_,_=>⟨t,rfl⟩
 |j::l,t,hd,hn=>by
  unfold zff;have h0:=hn j (Yzi ..);rw[show t.get (bn (Nat.add n0 j))=none from h0];simp only;have hnd:=List.nodup_cons.1 hd;cases ho:h.get (bn (Nat.add n0 j)) with
  |none=>exact zaQ l t hnd.2 fun i hi=>hn i (Yzf _ hi)
  |some o=>
   refine zaQ l _ hnd.2 fun i hi=>?_;rw[zp _ _ _ _ (fun e=>hnd.1 (by have:=vR (n0:=n0) (i:=i) (j:=j) e;rw[←this];exact hi))];exact hn i (Yzf _ hi)
theorem zpG{bs:List Nat}{i:Nat}:∀(os:List Oper) (off j:Nat),j∈yG bs i off os→off≤j:=fun os off j h=>by
 obtain⟨m,_,_,h2,_⟩:=(vJ os off j).1 h;omega
theorem zcm{bs:List Nat}{i:Nat}:∀(os:List Oper) (off:Nat),(yG bs i off os).Nodup
 | [],_=>List.nodup_nil
 |o::os,off=>by
  unfold yG;have ih:=zcm (bs:=bs) (i:=i) os (Nat.succ off);cases (zw2 o.op&&bef bs off i) with
  |true=>exact ih
  |false=>exact List.nodup_cons.2 ⟨fun h=>by have:=zpG _ _ _ h;omega,ih⟩
def u5(bs:List Nat)(i:Nat):List (Nat×Nat)→List PO→List PO
 | [],os=>os
 |(j,k)::mk,os=>bif bef bs j i then u5 bs i mk os else oset .dead (u5 bs i mk os) k
def wU(bs:List Nat)(i:Nat)(os0:List PO):List (Nat×Nat)→List PO→List PO
 | [],os=>os
 |(j,k)::mk,os=>bif bef bs j i then wU bs i os0 mk os else oset (og os0 k) (wU bs i os0 mk os) k
def isLive:PO→Bool
 | .box _=>true
 | .arr _ (some _)=>true
 | .mp _ _=>true
 |_=>false
def qp(mk:List (Nat×Nat))(os:List PO):Bool:=mk.all fun p=>isLive (og os p.2)
theorem zf4{o:PO}(h:isLive o=true):solid o:=by
 cases o with
 |box _=>trivial
 |arr _ v=>cases v with
  |none=>cases h
  |some _=>trivial
 |mp _ _=>trivial
 |_=>cases h
def Hid(bs:List Nat)(i:Nat)(mk:List (Nat×Nat))(k:Nat):Prop:=∃j,(j,k)∈mk∧bef bs j i=false
theorem uq{bs:List Nat}{i:Nat}:∀(mk:List (Nat×Nat)) (os:List PO),(u5 bs i mk os).length=os.length
 | [],_=>rfl
 |(j,k)::mk,os=>by
  unfold u5;cases bef bs j i with
  |true=>exact uq mk os
  |false=>exact(yf _ _ _).trans (uq mk os)
theorem jW{bs:List Nat}{i:Nat}{os0:List PO}:∀(mk:List (Nat×Nat)) (os:List PO),(wU bs i os0 mk os).length=os.length
 | [],_=>rfl
 |(j,k)::mk,os=>by
  unfold wU;cases bef bs j i with
  |true=>exact jW mk os
  |false=>exact(yf _ _ _).trans (jW mk os)
theorem ztR{os:List PO}{k:Nat}(h:os.length≤k):og os k=.dead:=by
 rw[zex,Yyb h];rfl
theorem yZ{bs:List Nat}{i:Nat}(k:Nat):∀(mk:List (Nat×Nat)) (os:List PO),(Hid bs i mk k→og (u5 bs i mk os) k=.dead)∧(¬Hid bs i mk k→og (u5 bs i mk os) k=og os k)
 | [],_=>⟨fun⟨_,h,_⟩=>(by cases h),fun _=>rfl⟩
 |(j,k')::mk,os=>by
  obtain⟨ih1,ih2⟩:=yZ (bs:=bs) (i:=i) k mk os;unfold u5;have up:Hid bs i mk k→Hid bs i ((j,k')::mk) k:=fun⟨a,b,c⟩=>⟨a,Yzf _ b,c⟩;cases hb:bef bs j i with
  |true=>
   simp only[Yza];refine⟨fun hx=>?_,fun h=>ih2 fun g=>h (up g)⟩;obtain⟨a,h1,h2⟩:=hx;rcases YzO.1 h1 with h1|h1
   ·cases h1;rw[hb]at h2;cases h2
   ·exact ih1 ⟨a,h1,h2⟩
  |false=>
   simp only[Yzc];rw[zJ,uq];by_cases hk:k=k'
   ·subst hk;refine⟨fun _=>?_,fun h=>absurd ⟨j,Yzi ..,hb⟩ h⟩;by_cases hl:k<os.length
    ·rw[Yzd ⟨rfl,hl⟩]
    ·rw[Yzb (fun e=>hl e.2)];exact ztR (by rw[uq];omega)
   ·rw[Yzb (fun e=>hk e.1)];refine⟨fun hx=>?_,fun h=>ih2 fun g=>h (up g)⟩;obtain⟨a,h1,h2⟩:=hx;rcases YzO.1 h1 with h1|h1
    ·cases h1;exact absurd rfl hk
    ·exact ih1 ⟨a,h1,h2⟩
theorem xq{bs:List Nat}{i:Nat}{os0:List PO}(k:Nat):∀(mk:List (Nat×Nat)) (os:List PO),(∀p∈mk,p.2<os.length)→(Hid bs i mk k→og (wU bs i os0 mk os) k=og os0 k)∧(¬Hid bs i mk k→og (wU bs i os0 mk os) k=og os k)
 | [],_,_=>⟨fun⟨_,h,_⟩=>(by cases h),fun _=>rfl⟩
 |(j,k')::mk,os,hr=>by
  obtain⟨ih1,ih2⟩:=xq (bs:=bs) (i:=i) (os0:=os0) k mk os fun p hp=>hr p (Yzf _ hp);unfold wU;have up:Hid bs i mk k→Hid bs i ((j,k')::mk) k:=fun⟨a,b,c⟩=>⟨a,Yzf _ b,c⟩;cases hb:bef bs j i with
  |true=>
   simp only[Yza];refine⟨fun hx=>?_,fun h=>ih2 fun g=>h (up g)⟩;obtain⟨a,h1,h2⟩:=hx;rcases YzO.1 h1 with h1|h1
   ·cases h1;rw[hb]at h2;cases h2
   ·exact ih1 ⟨a,h1,h2⟩
  |false=>
   simp only[Yzc];rw[zJ,jW];by_cases hk:k=k'
   ·subst hk;refine⟨fun _=>by rw[Yzd ⟨rfl,hr (j,k) (Yzi ..)⟩],fun h=>absurd ⟨j,Yzi ..,hb⟩ h⟩
   ·rw[Yzb (fun e=>hk e.1)];refine⟨fun hx=>?_,fun h=>ih2 fun g=>h (up g)⟩;obtain⟨a,h1,h2⟩:=hx;rcases YzO.1 h1 with h1|h1
    ·cases h1;exact absurd rfl hk
    ·exact ih1 ⟨a,h1,h2⟩
structure Zt (E:En) (n0 len i:Nat) (mk:List (Nat×Nat)) (N:Nm) (os:List PO):Prop where
 e0:E.h0.n.toNat≤n0
 top:n0+len≤N.h.n.toNat
 mks:∀p∈mk,p.1<i∧p.1<len∧p.2<N.n∧solid (og os p.2)∧blk (N.μ p.2)=some (nm n0 p.1)
 free:∀j,j<len→i≤j→N.h.t.get (nm n0 j)=none
 all:∀j y,j<len→N.h.t.get (nm n0 j)=some y→∃k,(j,k)∈mk
section
variable {E:En} {N:Nm} {os:List PO} {n0 len i:Nat} {mk:List (Nat×Nat)}
theorem Zt.nfz(M:Zt E n0 len i mk N os)(I:Zf E N os){j:Nat}(hj:j<len):¬N.fz (nm n0 j):=fun hf=>by
 rcases I.fzex _ hf with h|⟨y,hy⟩
 ·rw[yB]at h;have:=M.e0;omega
 ·obtain⟨k,hk⟩:=M.all j y hj hy;obtain⟨_,_,_,h3,h4⟩:=M.mks _ hk;obtain⟨b,x,g1,g2,_⟩:=xx h3.live (I.obj k);rw[h4]at g1;cases g1;exact g2 hf
structure Zv (bs:List Nat) (i len:Nat) (mk:List (Nat×Nat)) (H:List Nat):Prop where
 nd:H.Nodup
 lt:∀j∈H,j<len
 hid:∀j k,(j,k)∈mk→(j∈H↔bef bs j i=false)
variable {bs:List Nat} {H:List Nat}
noncomputable def jF(n0:Nat)(H:List Nat)(N:Nm):Nm:=⟨N.μ,N.n,N.fz,⟨N.h.n,zxa n0 H N.h.t⟩⟩
theorem ve(b:BN):(b∈H.map (nm n0)→(jF n0 H N).h.t.get b=none)∧(b∉H.map (nm n0)→(jF n0 H N).h.t.get b=N.h.t.get b):=zpX H N.h.t b
theorem qO{b:BN}{y:Ze}(h:(jF n0 H N).h.t.get b=some y):b∉H.map (nm n0)∧N.h.t.get b=some y:=by
 by_cases hb:b∈H.map (nm n0)
 ·rw[(ve b).1 hb]at h;cases h
 ·exact⟨hb,by rw[←(ve (N:=N) b).2 hb];exact h⟩
theorem zhF(M:Zt E n0 len i mk N os)(I:Zf E N os)(D:Zv bs i len mk H):Nx N (jF n0 H N):=
 ⟨⟨fun _ _ h _ => h, fun b o hf hy => by
  rw[(ve b).2 ?_]
  ·exact hy
  ·intro hm;obtain⟨j,hj,rfl⟩:=List.mem_map.1 hm;exact M.nfz I (D.lt j hj) hf⟩,LzB _,fun _ _=>rfl⟩
theorem zjh:Nx (jF n0 H N) N:=⟨⟨fun _ _ h _=>h,fun _ _ _ hy=>(qO hy).2⟩,LzB _,fun _ _=>rfl⟩
theorem zji(M:Zt E n0 len i mk N os)(I:Zf E N os)(D:Zv bs i len mk H):Zf E (jF n0 H N) (u5 bs i mk os):=by
 have t:∀k,live (og (u5 bs i mk os) k)→¬Hid bs i mk k∧live (og os k):=fun k hl=>by
  by_cases hh:Hid bs i mk k
  ·rw[(yZ k mk os).1 hh]at hl;exact hl.elim
  ·rw[(yZ k mk os).2 hh]at hl;exact⟨hh,hl⟩
 refine⟨fun b y hy=>I.hw b y (qO hy).2,⟨I.gr.le,fun b hb hx=>?_⟩,I.fzlt,I.fzok,fun b hb=>?_,I.len.trans (uq mk os).symm,fun k b hl hb=>I.own k b (t k hl).2 hb,fun k k' b hl hl' hb hb'=>I.inj k k' b (t k hl).2 (t k' hl').2 hb hb',fun k=>?_,fun k m hk=>?_⟩
 ·rw[(ve b).2 ?_]
  ·exact I.gr.old b hb hx
  ·intro hm;obtain⟨j,hj,rfl⟩:=List.mem_map.1 hm;rw[yB]at hb;have:=M.e0;omega
 ·refine (I.fzex b hb).imp id fun⟨y,hy⟩=>⟨y,?_⟩;rw[(ve b).2 ?_]
  ·exact hy
  ·intro hm;obtain⟨j,hj,rfl⟩:=List.mem_map.1 hm;exact M.nfz I (D.lt j hj) hb
 ·by_cases hh:Hid bs i mk k
  ·rw[(yZ k mk os).1 hh];trivial
  ·rw[(yZ k mk os).2 hh];refine (I.obj k).mono (zhF M I D) rfl fun hl b hb=>?_;obtain⟨b',x,g1,g2,g3⟩:=xK hl (I.obj k);rw[g1]at hb;cases hb;refine⟨g2,(ve _).2 fun hm=>?_⟩;obtain⟨j,hj,rfl⟩:=List.mem_map.1 hm;obtain⟨k',hk'⟩:=M.all j x (D.lt j hj) g3;obtain⟨_,_,_,h3,h4⟩:=M.mks _ hk';rcases hl with hl|⟨m,hlm⟩
   ·have:=I.inj k k' _ hl h3.live g1 h4;subst this;exact hh ⟨j,hk',(D.hid j k hk').1 hj⟩
   ·obtain⟨k2,v2,n2,q1,q2⟩:=I.lnk_blk hlm;have:=I.inj k2 k' _ (by rw[q1];trivial) h3.live (by rw[←q2];exact g1) h4;subst this;exact h3.hol _ _ _ q1
 ·by_cases hh:Hid bs i mk k
  ·rw[(yZ k mk os).1 hh]at hk;cases hk
  ·rw[(yZ k mk os).2 hh]at hk;obtain⟨k2,v2,n2,q⟩:=I.lnk k m hk;have hnh:¬Hid bs i mk k2:=fun⟨j,h1,_⟩=>(M.mks _ h1).2.2.2.1.hol _ _ _ q;exact⟨k2,v2,n2,((yZ k2 mk os).2 hnh).trans q⟩
structure Aft (N:Nm) (os:List PO) (wr:List Nat) (N':Nm) (os':List PO):Prop where
 nx:Nx N N'
 bk:BkE N os N' wr
 ho:Ho N.n os os' wr
 nle:N.h.n.toNat≤N'.h.n.toNat
theorem zsW(M:Zt E n0 len i mk N os)(I:Zf E N os)(D:Zv bs i len mk H){N1:Nm}{os1:List PO}{wr:List Nat}{lk:Nat→Bool}{v:Zb}{a:PA}(S:Sim E lk (jF n0 H N) (u5 bs i mk os) wr N1 os1 v a):
  ∃t,zff n0 N.h.t H N1.h.t=some t∧Zf E ⟨N1.μ,N1.n,N1.fz,⟨N1.h.n,t⟩⟩ (wU bs i os mk os1)∧Aft N os wr ⟨N1.μ,N1.n,N1.fz,⟨N1.h.n,t⟩⟩ (wU bs i os mk os1)∧Nx N1 ⟨N1.μ,N1.n,N1.fz,⟨N1.h.n,t⟩⟩∧
   (∀j,lk j=true→og (wU bs i os mk os1) j=og os j)∧(∀j,j<len→N.h.t.get (nm n0 j)=none→t.get (nm n0 j)=none):=by
 have IH:=zji M I D;have old:∀b,b.toNat<N.h.n.toNat→(jF n0 H N).h.t.get b=none→N1.h.t.get b=none:=fun b hb hn=>by
  rw[S.fr.eq b hb fun k hk hkn hl hkb=>?_]
  ·exact hn
  ·obtain⟨b',x,g1,_,g3⟩:=xx hl (IH.obj k);rw[g1]at hkb;cases hkb;rw[hn]at g3;cases g3
 have nlt:∀j,j<len→(nm n0 j).toNat<N.h.n.toNat:=fun j hj=>by rw[yB];have:=M.top;omega
 have hnone:∀j∈H,N1.h.t.get (nm n0 j)=none:=fun j hj=>old _ (nlt j (D.lt j hj)) ((ve _).1 (List.mem_map.2 ⟨j,hj,rfl⟩));obtain⟨t,ht⟩:=zaQ (h:=N.h.t) H N1.h.t D.nd hnone;obtain⟨b1,b2,_⟩:=ky H N1.h.t t ht;have b2:∀b,b∉H.map (nm n0)→t.get b=N1.h.t.get b:=fun b hb=>b2 b fun j hj e=>hb (List.mem_map.2 ⟨j,hj,e.symm⟩);have up:∀b y,N1.h.t.get b=some y→t.get b=some y:=fun b y hy=>by
  rw[b2 b ?_]
  ·exact hy
  ·intro hm;obtain⟨j,hj,rfl⟩:=List.mem_map.1 hm;rw[hnone j hj]at hy;cases hy
 have dn:∀b y,t.get b=some y→N1.h.t.get b=some y∨(b∈H.map (nm n0)∧N.h.t.get b=some y):=fun b y hy=>by
  by_cases hm:b∈H.map (nm n0)
  ·refine .inr ⟨hm,?_⟩;obtain⟨j,hj,rfl⟩:=List.mem_map.1 hm;rw[b1 j hj]at hy;exact hy
  ·rw[b2 b hm]at hy;exact .inl hy
 have nfz1:∀j∈H,¬N1.fz (nm n0 j):=fun j hj hf=>by
  rcases S.inv.fzex _ hf with h|⟨y,hy⟩
  ·rw[yB]at h;have:=M.e0;omega
  ·rw[hnone j hj]at hy;cases hy
 let N2:Nm:=⟨N1.μ,N1.n,N1.fz,⟨N1.h.n,t⟩⟩
 have nx1:Nx N1 N2:=⟨⟨fun _ _ h _=>h,fun b o _ hy=>up b o hy⟩,LzB _,fun _ _=>rfl⟩;have nx0:Nx N N2:=((zhF M I D).trans S.nx).trans nx1;have hr:∀p∈mk,p.2<os1.length:=fun p hp=>by
  have:=(M.mks p hp).2.2.1;have h2:N.n≤N1.n:=S.nx.le;rw[S.inv.len]at h2;omega
 have hsol:∀k,Hid bs i mk k→k<N.n∧solid (og os k):=fun k ⟨j,h1,h2⟩=>⟨(M.mks _ h1).2.2.1,(M.mks _ h1).2.2.2.1⟩;have hidden:∀k,Hid bs i mk k→∃j∈H,k<N.n∧live (og os k)∧blk (N.μ k)=some (nm n0 j)∧N1.μ k=N.μ k:=fun k ⟨j,h1,h2⟩=>by
  obtain⟨_,_,g1,g2,g3⟩:=M.mks _ h1;exact⟨j,(D.hid j k h1).2 h2,g1,g2.live,g3,S.nx.mu k g1⟩
 have key:∀k,live (og (wU bs i os mk os1) k)→(Hid bs i mk k∧live (og os k))∨(¬Hid bs i mk k∧live (og os1 k)):=fun k hl=>by
  by_cases hh:Hid bs i mk k
  ·rw[(xq k mk os1 hr).1 hh]at hl;exact .inl ⟨hh,hl⟩
  ·rw[(xq k mk os1 hr).2 hh]at hl;exact .inr ⟨hh,hl⟩
 have cross:∀k k' b,Hid bs i mk k→live (og os1 k')→blk (N1.μ k)=some b→blk (N1.μ k')=some b→False:=fun k k' b hh hl hb hb'=>by
  obtain⟨j,hj,g1,g2,g3,g4⟩:=hidden k hh;rw[g4,g3]at hb;cases hb;obtain⟨b',x,q1,_,q3⟩:=xx hl (S.inv.obj k');rw[q1]at hb';cases hb';rw[hnone j hj]at q3;cases q3
 refine⟨t,ht,⟨fun b y hy=>?_,⟨YzA I.gr.le S.fr.nle,fun b hb hx=>?_⟩,S.inv.fzlt,S.inv.fzok,fun b hb=>?_,S.inv.len.trans (jW mk os1).symm,fun k b hl hb=>?_,fun k k' b hl hl' hb hb'=>?_,fun k=>?_,fun k m hk=>?_⟩,
  ⟨nx0,fun b y hy hw=>?_,fun k hk=>?_,S.fr.nle⟩,nx1,fun j hj=>?_,fun j hj=>?_⟩
 ·rcases dn b y hy with h|⟨_,h⟩
  ·exact S.inv.hw b y h
  ·exact Lz9 (I.hw b y h) S.fr.nle
 ·show t.get b=_;rw[b2 b ?_]
  ·exact S.inv.gr.old b hb hx
  ·intro hm;obtain⟨j,hj,rfl⟩:=List.mem_map.1 hm;rw[yB]at hb;have:=M.e0;omega
 ·exact(S.inv.fzex b hb).imp id fun⟨y,hy⟩=>⟨y,up b y hy⟩
 ·rcases key k hl with⟨hh,hl⟩|⟨_,hl⟩
  ·obtain⟨j,_,_,_,g3,g4⟩:=hidden k hh;rw[show N2.μ k=N1.μ k from rfl,g4,g3]at hb;cases hb;exact .inl (by rw[yB];have:=M.e0;omega)
  ·exact S.inv.own k b hl hb
 ·rcases key k hl with⟨hh,h1⟩|⟨hh,h1⟩<;>rcases key k' hl' with⟨hh',h1'⟩|⟨hh',h1'⟩
  ·obtain⟨_,_,_,_,_,g4⟩:=hidden k hh;obtain⟨_,_,_,_,_,g4'⟩:=hidden k' hh';rw[show N2.μ k=N1.μ k from rfl,g4]at hb;rw[show N2.μ k'=N1.μ k' from rfl,g4']at hb';exact I.inj k k' b h1 h1' hb hb'
  ·exact(cross k k' b hh h1' hb hb').elim
  ·exact(cross k' k b hh' h1 hb' hb).elim
  ·exact S.inv.inj k k' b h1 h1' hb hb'
 ·by_cases hh:Hid bs i mk k
  ·rw[(xq k mk os1 hr).1 hh];obtain⟨j,hj,g1,g2,g3,g4⟩:=hidden k hh;refine (I.obj k).mono nx0 g4 fun _ b hb=>?_;rw[g3]at hb;cases hb;exact⟨nfz1 j hj,b1 j hj⟩
  ·rw[(xq k mk os1 hr).2 hh];refine (S.inv.obj k).mono nx1 rfl fun hl b hb=>?_;obtain⟨b',x,q1,q2,q3⟩:=xK hl (S.inv.obj k);rw[q1]at hb;cases hb;exact⟨q2,(up _ _ q3).trans q3.symm⟩
 ·by_cases hh:Hid bs i mk k
  ·rw[(xq k mk os1 hr).1 hh]at hk;have:=(hsol k hh).2;rw[hk]at this;exact this.elim
  ·rw[(xq k mk os1 hr).2 hh]at hk;obtain⟨k2,v2,n2,q⟩:=S.inv.lnk k m hk;have hnh:¬Hid bs i mk k2:=fun h2=>by
    have:=(S.ho k2 (hsol k2 h2).1).2.2 (by rw[q];trivial);rw[(yZ k2 mk os).1 h2]at this;exact this
   exact⟨k2,v2,n2,((xq k2 mk os1 hr).2 hnh).trans q⟩
 ·by_cases hm:b∈H.map (nm n0)
  ·obtain⟨j,hj,rfl⟩:=List.mem_map.1 hm;exact(b1 j hj).trans hy
  ·refine up b y ?_;have hy2:(jF n0 H N).h.t.get b=some y:=((ve b).2 hm).trans hy;rw[S.fr.eq b (I.hw b y hy) fun k hk hkn hl hkb=>?_]
   ·exact hy2
   ·by_cases hh:Hid bs i mk k
    ·rw[(yZ k mk os).1 hh]at hl;exact hl
    ·rw[(yZ k mk os).2 hh]at hl;exact hw k hk hkn hl hkb
 ·by_cases hh:Hid bs i mk k
  ·rw[(xq k mk os1 hr).1 hh];exact⟨id,.inl,id⟩
  ·rw[(xq k mk os1 hr).2 hh];have:=S.ho k hk;rw[(yZ k mk os).2 hh]at this;exact this
 ·by_cases hh:Hid bs i mk j
  ·rw[(xq j mk os1 hr).1 hh]
  ·rw[(xq j mk os1 hr).2 hh,S.lock j hj,(yZ j mk os).2 hh]
 ·by_cases hm:j∈H
  ·rw[b1 j hm];exact id
  ·have hm2:nm n0 j∉H.map (nm n0):=fun h=>by
    obtain⟨j',h1,h2⟩:=List.mem_map.1 h;exact hm (vR h2▸h1)
   rw[b2 _ hm2];exact fun h=>old _ (nlt j hj) (((ve _).2 hm2).trans h)
end
end Go.PE
end
section
namespace Go.PE
open Go Go.CE
section
variable {P:Program} {O:Orc} {C:Nat→zg} {E:En}
theorem Zf.newAt{N:Nm}{os:List PO}(I:Zf E N os){b:BN}(hlt:b.toNat<N.h.n.toNat)(hn:N.h.t.get b=none)(h0:E.h0.n.toNat≤b.toNat)(hnf:¬N.fz b)(y:Ze)(o:PO)(c:Zc)(hc:blk c=some b)
  (ho:∀N',Nx N N'→N'.μ os.length=c→¬N'.fz b→N'.h.t.get b=some y→os.length<N'.n→RepO N' os.length o) (hnl:∀m,o≠.lnk m):
  Zf E ⟨upd N.μ os.length c,os.length+1,N.fz,⟨N.h.n,N.h.t.set b y⟩⟩ (os++[o])∧Aft N os [] ⟨upd N.μ os.length c,os.length+1,N.fz,⟨N.h.n,N.h.t.set b y⟩⟩ (os++[o]):=by
 have old:∀b' z,N.h.t.get b'=some z→(N.h.t.set b y).get b'=some z:=fun b' z hz=>by
  rw[zp _ _ _ _ (fun e=>by rw[e,hn]at hz;cases hz)];exact hz
 have mu:∀k,k≠os.length→upd N.μ os.length c k=N.μ k:=fun k hk=>by show (if k=os.length then c else N.μ k)=_;rw[Yzb hk]
 have muL:upd N.μ os.length c os.length=c:=by show (if os.length=os.length then c else _)=_;rw[Yzd rfl]
 have hlen:=I.len;have nx:Nx N ⟨upd N.μ os.length c,os.length+1,N.fz,⟨N.h.n,N.h.t.set b y⟩⟩:=⟨⟨fun _ _ h _=>h,fun b' z _ hz=>old b' z hz⟩,by show N.n≤os.length+1;omega,fun k hk=>mu k (by omega)⟩;have nb:∀k,live (og os k)→blk (N.μ k)≠some b:=fun k hl hb=>by
  obtain⟨b',x',h1,_,h3⟩:=xx hl (I.obj k);rw[h1]at hb;cases hb;rw[hn]at h3;cases h3
 refine⟨⟨fun b' z hz=>?_,⟨I.gr.le,fun b' hb' hx=>?_⟩,I.fzlt,I.fzok,fun b' hb'=>(I.fzex b' hb').imp id fun⟨z,hz⟩=>⟨z,old b' z hz⟩,by simp,fun k b' hl hb=>?_,fun k k' b' hl hl' hb hb'=>?_,fun k=>?_,fun t m ht=>?_⟩,
  ⟨nx,fun b' z hz _=>old b' z hz,.app (Nat.le_of_eq hlen),LzB _⟩⟩
 ·show b'.toNat<N.h.n.toNat;by_cases hb:b'=b
  ·rw[hb];exact hlt
  ·exact I.hw b' z (by rwa [show (Za.mk N.h.n (N.h.t.set b y)).t=N.h.t.set b y from rfl,zp _ _ _ _ hb]at hz)
 ·show (N.h.t.set b y).get b'=_;rw[zp _ _ _ _ (fun e=>by rw[e]at hb';omega)];exact I.gr.old b' hb' hx
 ·by_cases hk:k=os.length
  ·subst hk;rw[show (Nm.mk (upd N.μ os.length c) (os.length+1) N.fz ⟨N.h.n,N.h.t.set b y⟩).μ os.length=c from muL,hc]at hb;cases hb;exact .inl h0
  ·rw[yY,Yzb hk]at hl;rw[show (Nm.mk (upd N.μ os.length c) (os.length+1) N.fz ⟨N.h.n,N.h.t.set b y⟩).μ k=N.μ k from mu k hk]at hb;exact I.own k b' hl hb
 ·rw[yY]at hl hl';simp only at hb hb';by_cases hk:k=os.length<;>by_cases hk':k'=os.length
  ·rw[hk,hk']
  ·subst hk;rw[muL,hc]at hb;rw[Yzb hk']at hl';rw[mu k' hk']at hb';cases hb;exact(nb k' hl' hb').elim
  ·subst hk';rw[muL,hc]at hb';rw[Yzb hk]at hl;rw[mu k hk]at hb;cases hb';exact(nb k hl hb).elim
  ·rw[Yzb hk]at hl;rw[Yzb hk']at hl';rw[mu k hk]at hb;rw[mu k' hk']at hb';exact I.inj k k' b' hl hl' hb hb'
 ·rw[yY];by_cases hk:k=os.length
  ·rw[Yzd hk,hk];exact ho _ nx muL hnf (zz _ _ _) (by show os.length<os.length+1;omega)
  ·rw[Yzb hk];refine (I.obj k).mono nx (mu k hk) fun hl b' hb=>?_;obtain⟨b2,x',h1,h2,h3⟩:=xK hl (I.obj k);rw[h1]at hb;cases hb;exact⟨h2,(old _ _ h3).trans h3.symm⟩
 ·rw[yY]at ht;by_cases hk:t=os.length
  ·rw[Yzd hk]at ht;exact absurd ht (hnl m)
  ·rw[Yzb hk]at ht;obtain⟨k,v,n,h⟩:=I.lnk t m ht;have hl:k<os.length:=un (by rw[h];intro e;cases e);exact⟨k,v,n,by rw[yY,Yzb (by omega)];exact h⟩
def mkK:KOp→Bool
 | .alloc _=>true
 | .box _=>true
 | .bslice ..=>true
 |_=>false
def soft:KOp→Bool
 | .bslice ..=>false
 |_=>true
def isD:PC→Bool
 | .d _=>true
 |_=>false
def wx:PA→Bool
 | .s v=>v.cells.all isD
 |_=>true
theorem zks{N A:Nm}(g:FG N.fz N.h A.fz A.h){v:Zb}{a:PA}(hp:wx a=true)(H:RepPA N v a):RepPA A v a:=by
 have one:∀(c:Zc) (p:PC),isD p=true→RepPC N c p→RepPC A c p:=fun c p hp H=>by
  cases p with
  |d d=>exact Rep.mono g H
  |_=>cases hp
 have many:∀(cs:List Zc) (ps:List PC),ps.all isD=true→RepPL N cs ps→RepPL A cs ps:=by
  intro cs
  induction cs with
  |nil=>intro ps _ H;cases ps with
   |nil=>trivial
   |cons _ _=>exact H.elim
  |cons c cs ih=>intro ps hp H;cases ps with
   |nil=>exact H.elim
   |cons p ps=>
    simp only[List.all_cons,LzC]at hp;exact⟨one c p hp.1 H.1,ih ps hp.2 H.2⟩
 cases a with
 |s pv=>
  obtain⟨w,rfl,hw⟩:=H.inv;refine .of ?_;cases w<;>cases pv<;>first|exact hw.elim|skip
  ·simp only[wx,PV.cells,List.all_cons,List.all_nil,YyH]at hp;exact one _ _ hp hw
  ·exact many _ _ hp hw
 |tup ds=>
  cases v with
  |s _=>exact H.elim
  |tup l=>exact RepSL.mono g H
 |bad=>exact .bad v
 |undef=>cases v<;>exact H
def zvg{β:Type}(E:En)(lk:Nat→Bool)(N:Nm)(os:List PO)(run:zg→Za→Res)(K:PA→List PO→Option β)(x:β)(nb:Bool):Prop:=
 ∃a os1 o N1,K a (os1++[o])=some x∧Fz N N1∧Stp E lk N os [] N1 os1∧os1.length=os.length∧(nb=true→N1=N)∧solid o∧∃(vf:BN→Zc) (y:Ze),(∀b,blk (vf b)=some b)∧(∀call b T,run call ⟨b,T⟩=some (.s (.one (vf b)),(⟨b,T⟩:Za).new y))∧
  ∀b N',Nx N1 N'→N'.μ os1.length=vf b→¬N'.fz b→N'.h.t.get b=some y→os1.length<N'.n→RepO N' os1.length o∧RepPA N' (.s (.one (vf b))) a
theorem zt6{β:Type}{lk:Nat→Bool}{N:Nm}{os:List PO}{r:Fr}{ρ:Nat→PA}{k:KT β}{x:β}{sh:Sh}{ko:KOp}(hk:mkK ko=true)(I:Zf E N os)(F:∀i,RepPA N (r i) (ρ i))(e:pOp O lk sh ρ os ko k=some x):
  zvg E lk N os (fun call h=>runK r ko call h) (fun a os'=>k a os' [] []) x (soft ko):=by
 have boxy:∀(vs:List Zc) (ps:List PC),RepPL N vs ps→(∀call h,runK r ko call h=zxe h (.cells vs 0) (fun b=>.ptr b 0))→k (pc (.ptr os.length 0)) (os++[.box ps]) [] []=some x→zvg E lk N os (fun call h=>runK r ko call h) (fun a os'=>k a os' [] []) x (soft ko):=by
  intro vs ps H run e;exact⟨_,os,.box ps,N,e,.refl N,.refl I,rfl,fun _=>rfl,trivial,fun b=>.ptr b 0,.cells vs 0,fun b=>rfl,fun call b T=>(run call _).trans (ub _ _ _),fun b N' nx hmu hf hg hlt=>
   ⟨⟨_,vs,hmu,hf,hg,H.mono nx⟩,y4 (p:=.ptr os.length 0) (c:=.ptr b 0) ⟨hlt,_,hmu,rfl⟩⟩⟩
 cases ko with
 |alloc zs=>
  have e:za (cDs zs) (fun cs=>k (pc (.ptr os.length 0)) (os++[.box cs]) [] [])=some x:=e;obtain⟨ps,h1,e⟩:=zm e;exact boxy _ _ (zaj h1) (fun call h=>rfl) e
 |box a=>
  have e:(match pv ρ a with
   |some (.s v)=>k (pc (.ptr os.length 0)) (os++[.box v.cells]) [] []
   |_=>none)=some x:=e
  split at e
  ·rename_i p hp;obtain⟨v,ka,ra⟩:=wM F hp;obtain⟨w,rfl,hw⟩:=ra.inv;exact boxy _ _ hw.cells (fun call h=>by simp only[runK,ka,zH];rfl) e
  ·cases e
 |bslice st len zs parts=>
  have e:za (cDs zs) (fun cs=>za (zgd ρ parts cs) fun cs=>za (frL lk y7 os cs) fun p=>
   bif Nat.beq p.2.length (len*st) then k (pc (.own p.1.length)) (p.1++[.arr st (some (chunks st len p.2))]) [] [] else none)=some x:=e
  obtain⟨ps,h1,e⟩:=zm e;obtain⟨ps',h2,e⟩:=zm e;obtain⟨⟨os1,ds⟩,h3,e⟩:=zm e;obtain⟨l,cs',k1,k2,k3⟩:=zby F h2 (zaj h1);obtain⟨N1,f1,S1,r1⟩:=zjn I k3 h3;simp only at e;cases hb:Nat.beq ds.length (len*st) with
  |false=>rw[hb]at e;cases e
  |true=>
   rw[hb]at e;have hd:=Lz1 hb;have hl1:os1.length=os.length:=by rw[←S1.inv.len,f1.n,I.len]
   have hlc:(chunks st len ds).length=len:=zaI st len ds;refine⟨_,os1,.arr st (some (chunks st len ds)),N1,e,f1,S1,hl1,fun h=>(by cases h),trivial,fun b=>.slc b 0 len len true,.cells cs' st,fun b=>rfl,fun call b T=>?_,fun b N' nx hmu hf hg hlt=>⟨⟨b,cs',true,?_,hf,hg,by rw[r1.1,hd,hlc],fun i y hy=>?_⟩,y4 (p:=.own os1.length) ⟨hlt,hmu.symm⟩⟩⟩
   ·show runK r (.bslice st len zs parts) call ⟨b,T⟩=_;simp only[runK,k1];show (match q8 .nil (cP l) zs with|some cs=>zxe ⟨b,T⟩ (.cells cs st) (fun b=>.slc b 0 len len true)|none=>none)=_;rw[k2];exact ub _ _ _
   ·rw[hlc];exact hmu
   ·obtain⟨q1,q2⟩:=zaJ st len ds i y hy;subst q1;refine⟨?_,(r1.sub (i*st) st).mono nx.fg⟩;have:=Yzq st (show i+1≤len from q2);rw[YzJ]at this;simp;omega
 |_=>cases hk
end
def zmS(mk:List (Nat×Nat)):List Nat→Bool
 | [k]=>mk.any fun p=>Nat.beq p.2 k
 |_=>false
section
variable (P:Program) (O:Orc)
def zxP{β:Type}(lk:Nat→Bool)(nt:Nat)(ops:Array Oper)(bs:List Nat)(es:List Bool):Nat→List Oper→(Nat→PA)→List PO→(Nat→Nat)→List (List Nat)→List (Nat×Nat×List Nat)→List (Nat×Nat)→Bool→((Nat→PA)→List PO→Option β)→Option β
 |_,[],ρ,os,_,ws,ps,_,_,K=>bif ps.all (fun p=>okW ws p.1 p.2.1 p.2.2) then K ρ os else none
 |i,o::l,ρ,os,bo,ws,ps,mk,fr,K=>
  bif zw2 o.op then
   match comp P o.op,o.guard with
   |some ko,none=>
    bif mkK ko&&inT nt o.dst then
     pOp O lk (zyH P o.dst o.type) (zS ρ (o.looksAt ops)) os ko fun a os' _ _=>
      bif qp mk os' then zxP lk nt ops bs es (Nat.succ i) l (zxn ρ a o.dst) os' (zxB bo (Nat.succ ws.length) o.dst) ws ps (mk++[(i,os.length)]) (fr&&soft ko) K else none
    else none
   |_,_=>none
  else bif anchor P o.op then
   kE P O lk nt ops o (zS ρ (o.looksAt ops)) (u5 bs i mk os) fun ref a os1 wr _=>
    bif qp mk (wU bs i os mk os1) then zxP lk nt ops bs es (Nat.succ i) l (zxn (refine ρ ref) a o.dst) (wU bs i os mk os1) (zxB bo (Nat.succ ws.length) o.dst) (ws++[wr]) ps mk true K else none
  else
   match comp P o.op with
   |none=>none
   |some ko=>
    bif kJ ko then
     kE P O (fun _=>true) nt ops o (zS ρ (o.looksAt ops)) (u5 bs i mk os) fun ref a _ _ _=>
      zxP lk nt ops bs es (Nat.succ i) l (zxn (refine ρ ref) a o.dst) os (zxB bo (match trk (refine (zS ρ (o.looksAt ops)) ref) ko with|some x=>bOf bo x|none=>bif fr&&wx a then ws.length else Nat.succ ws.length) o.dst) ws ps mk fr K
    else
     match zxA ko with
     |none=>none
     |some x=>
      bif Nat.beq (ce (fun j=>bef bs j i) 0 es) (ce (fun j=>!bef bs i j) 0 es) then
       kE P O (fun _=>true) nt ops o (zS ρ (o.looksAt ops)) (u5 bs i mk os) fun ref a _ _ _=>
        zxP lk nt ops bs es (Nat.succ i) l (zxn (refine ρ ref) a o.dst) os (zxB bo (bif fr&&wx a then ws.length else Nat.succ ws.length) o.dst) ws ps mk fr K
      else
       bif Nat.ble (bOf bo x) (ce (fun j=>bef bs j i) 0 es)&&Nat.ble (ce (fun j=>bef bs j i) 0 es) ws.length&&Nat.ble ws.length (ce (fun j=>!bef bs i j) 0 es) then
        kE P O (fun _=>true) nt ops o (zS ρ (o.looksAt ops)) (u5 bs i mk os) fun ref a _ _ rd=>
         zxP lk nt ops bs es (Nat.succ i) l (zxn (refine ρ ref) a o.dst) os (zxB bo (bif fr&&wx a then ws.length else Nat.succ ws.length) o.dst) ws (ps++[(ce (fun j=>bef bs j i) 0 es,ce (fun j=>!bef bs i j) 0 es,rd)]) mk fr K
       else bif Nat.ble ws.length (ce (fun j=>!bef bs i j) 0 es) then
        kE P O (fun _=>true) nt ops o (zS ρ (o.looksAt ops)) (u5 bs i mk os) fun ref a _ _ rd=>
         bif zmS mk rd&&okW ws 0 ws.length rd then zxP lk nt ops bs es (Nat.succ i) l (zxn (refine ρ ref) a o.dst) os (zxB bo (bif fr&&wx a then ws.length else Nat.succ ws.length) o.dst) ws (ps++[(0,ce (fun j=>!bef bs i j) 0 es,rd)]) mk fr K else none
       else none
end
def PendOk2(S:List Sn)(n0:Nat)(mk:List (Nat×Nat))(mks:List (Nat×Nat×Ze))(ps:List (Nat×Nat×List Nat))(q:CkG):Prop:=
 (∀ h, ∃ h', q.1 h = some (q.2.1, h')) ∨ Nat.beq q.2.2.1 q.2.2.2.1 = true ∨
  (∃ rd, (q.2.2.1, q.2.2.2.1, rd) ∈ ps ∧ ∃ (ne : Nat) (b : BN) (A Al : Sn), q.2.2.1 ≤ ne ∧ ne ≤ q.2.2.2.1 ∧ S[ne]? = some A ∧ S[q.2.2.1]? = some Al ∧ (∀ j ∈ q.2.2.2.2, b ≠ nm n0 j) ∧ (∀ h2, h2.t.get b = A.1.h.t.get b → ∃ h', q.1 h2 = some (q.2.1, h')) ∧
   ((∃j,rd=[j]∧j<Al.1.n∧blk (A.1.μ j)=some b∧held (og A.2 j))∨(Al.1.fz b∧∃y,Al.1.h.t.get b=some y)))∨
  (∃k z,(0,q.2.2.2.1,[k])∈ps∧z∈mks∧(z.2.1,k)∈mk∧(∀j∈q.2.2.2.2,nm n0 z.2.1≠nm n0 j)∧∀h2,h2.t.get (nm n0 z.2.1)=some z.2.2→∃h',q.1 h2=some (q.2.1,h'))
def NW(ws:List (List Nat))(e k:Nat):Prop:=∀i w,i<e→ws[i]? = some w→k∉w
theorem NW.of{ws:List (List Nat)}{e k:Nat}(h:okW ws 0 e [k]=true):NW ws e k:=fun _ _ h1 h2=>zhn h (YzC _) h1 h2
structure MV (n0 i:Nat) (ws:List (List Nat)) (S:List Sn) (N:Nm) (mk:List (Nat×Nat)) (mks:List (Nat×Nat×Ze)):Prop where
 val:∀z∈mks,∀k,(z.2.1,k)∈mk→(∀e A,z.1<e→S[e]? = some A→NW ws e k→A.1.h.t.get (nm n0 z.2.1)=some z.2.2)∧(NW ws ws.length k→N.h.t.get (nm n0 z.2.1)=some z.2.2)
 lt:∀z∈mks,z.2.1<i
 uniq:∀z∈mks,∀z'∈mks,z.2.1=z'.2.1→z=z'
 ex:∀p∈mk,∃z∈mks,z.2.1=p.1
theorem qx{run:Za→Res}{v:Zb}{n0:Nat}{hide:List Nat}{mks:List (Nat×Nat×Ze)}:∀{l:List Za} {k0:Nat},(∀m h,l[m]? = some h→∃h',run ⟨h.n,zxa n0 hide (qc n0 (k0+m) mks h.t)⟩=some (v,h'))→zdb run v n0 hide mks k0 l=true
 | [],_,_=>rfl
 |h::l,k0,H=>by
  obtain⟨h',e⟩:=H 0 h rfl;rw[Yzw]at e;simp only[zdb,e,zjx,Yye];exact qx fun m x hx=>by
   obtain⟨h2,e2⟩:=H (m+1) x (by simpa using hx);exact⟨h2,by rw[show Nat.succ k0+m=k0+(m+1) by omega];exact e2⟩
theorem uP{n0 k:Nat}{b:BN}:∀(mks:List (Nat×Nat×Ze)) (t:Tr Ze),(∀x∈mks,k≤x.1→b≠nm n0 x.2.1)→(qc n0 k mks t).get b=t.get b
 | [],_,_=>rfl
 |(c,j,o)::l,t,H=>by
  simp only[qc];rw[uP l _ fun x hx=>H x (Yzf _ hx)];cases hb:Nat.ble k c with
  |false=>rfl
  |true=>exact zp _ _ _ _ (H (c,j,o) (Yzi ..) (Lz4 hb))
theorem zf9{n0 k:Nat}{z:Nat×Nat×Ze}(hk:k≤z.1):∀(mks:List (Nat×Nat×Ze)) (t:Tr Ze),z∈mks→(∀z'∈mks,z.2.1=z'.2.1→z=z')→(qc n0 k mks t).get (nm n0 z.2.1)=some z.2.2
 | [],_,h,_=>by cases h
 |(c,j,o)::l,t,h,hu=>by
  simp only[qc];by_cases hz:z∈l
  ·exact zf9 hk l _ hz fun z' h'=>hu z' (Yzf _ h')
  ·rw[uP l _ fun x hx _ e=>hz (by have:=hu x (Yzf _ hx) (vR e);rw[this];exact hx)];rcases YzO.1 h with rfl|h
   ·rw[Yzm hk];exact zz _ _ _
   ·exact absurd h hz
section
variable {E:En} {S:List Sn} {ws:List (List Nat)} (hl:S.length=ws.length+1) (ch:zqd E S ws)
include hl ch
theorem znO{n0 i:Nat}{N:Nm}{mk:List (Nat×Nat)}{mks:List (Nat×Nat×Ze)}(hi:∀A∈S,Zf E A.1 A.2)(hm:∀x∈mks,∀e A,e≤x.1→S[e]? = some A→A.1.h.t.get (nm n0 x.2.1)=none)(mv:MV n0 i ws S N mk mks){ps:List (Nat×Nat×List Nat)}(hps:(ps.all fun p=>okW ws p.1 p.2.1 p.2.2)=true):
  ∀{cs:List CkG},(∀q∈cs,PendOk2 S n0 mk mks ps q)→zh2 n0 mks (S.map fun x=>x.1.h) cs=true
 | [],_=>rfl
 |(run,v,lo,hi',hide)::cs,Hc=>by
  have ih:=znO hi hm mv hps (cs:=cs) fun q hq=>Hc q (Yzf _ hq);simp only[zh2,ih,YyH];have mem:∀(m:Nat) h,(((S.map fun x=>x.1.h).drop lo).take (Nat.sub (Nat.succ hi') lo))[m]? = some h→∃B,lo+m≤hi'∧S[lo+m]? = some B∧h=B.1.h:=fun m h hi2=>by
   rw[Yzo]at hi2;split at hi2
   ·rename_i hlt;rw[Yzr,Lz6,Yz3]at hi2;obtain⟨B,hB,rfl⟩:=hi2;have:m<hi'+1-lo:=hlt;exact⟨B,by omega,hB,rfl⟩
   ·cases hi2
  rcases Hc _ (Yzi ..) with h|h|⟨rd,hp,ne,b,A,Al,h1,h2,h3,h4,h5,h6,h7⟩|⟨k,z,hp,hz,hzk,h5,h6⟩
  ·rw[qx fun m x _=>h _,Bool.or_true]
  ·rw[show Nat.beq lo hi'=true from h,Bool.true_or]
  ·rw[Yz1]at hps;have hwin:=hps _ hp;simp only at hwin h1 h2 h4 h5 h6;rw[qx fun m x hx=>?_,Bool.or_true];obtain⟨B,hd1,hd2,rfl⟩:=mem m x hx;have hne:S[lo+(ne-lo)]? = some A:=by rw[show lo+(ne-lo)=ne by omega];exact h3
   have fact:B.1.h.t.get b=A.1.h.t.get b∧∃y,B.1.h.t.get b=some y:=by
    rcases h7 with⟨j,rfl,q1,q2,q3⟩|⟨q1,y,q2⟩
    ·have e1:=qF hl ch h4 h3 h1 h2 q1 hwin q2 q3 (ne-lo) A (by omega) hne;have e2:=qF hl ch h4 h3 h1 h2 q1 hwin q2 q3 m B hd1 hd2;obtain⟨y,hy⟩:=zcn q3 ((hi A (Lz3 h3)).obj j) q2;exact⟨by rw[e1,e2],y,by rw[e2,←e1];exact hy⟩
    ·have e1:=(xX hl ch h4 (ne-lo) A hne).fg.old b y q1 q2;have e2:=(xX hl ch h4 m B hd2).fg.old b y q1 q2;exact⟨by rw[e1,e2],y,e2⟩
   obtain⟨f1,y,f2⟩:=fact;refine h6 _ ?_;show (zxa n0 hide (qc n0 (lo+m) mks B.1.h.t)).get b=_;rw[vU hide _ b h5,uP mks _ fun x hx hle e=>?_]
   ·exact f1
   ·rw[e,hm x hx (lo+m) B hle hd2]at f2;cases f2
  ·rw[Yz1]at hps;have hwin:=hps _ hp;simp only at hwin h5 h6;rw[qx fun m x hx=>?_,Bool.or_true];obtain⟨B,hd1,hd2,rfl⟩:=mem m x hx;refine h6 _ ?_;show (zxa n0 hide (qc n0 (lo+m) mks B.1.h.t)).get _=_;rw[vU hide _ _ h5];by_cases hle:lo+m≤z.1
   ·exact zf9 hle mks _ hz (mv.uniq z hz)
   ·rw[uP mks _ fun x hx hle2 e=>hle (by have:=mv.uniq z hz x hx (vR e);rw[this];exact hle2)];exact(mv.val z hz k hzk).1 (lo+m) B (by omega) hd2 fun i w h1 h2=>NW.of hwin i w (by omega) h2
end
theorem Aft.refl(N:Nm)(os:List PO):Aft N os [] N os:=⟨.refl N,fun _ _ h _=>h,.refl _ _ _,LzB _⟩
theorem Stp.aft{E:En}{lk:Nat→Bool}{N N':Nm}{os os':List PO}{wr:List Nat}(S:Stp E lk N os wr N' os')(hw:HW N.h):Aft N os wr N' os':=⟨S.nx,S.fr.ex hw,S.ho,S.fr.nle⟩
theorem Aft.trans{A N N':Nm}{oA os os':List PO}{wr:List Nat}(a:Aft A oA [] N os)(hn:∀k b,A.n≤k→k<N.n→blk (N.μ k)=some b→A.h.t.get b=none)(b:Aft N os wr N' os'):Aft A oA wr N' os':=by
 refine⟨a.nx.trans b.nx,fun b0 y hy hw=>?_,fun k hk=>?_,YzA a.nle b.nle⟩
 ·refine b.bk b0 y (a.bk b0 y hy fun j hj=>(by cases hj)) fun j hj hjn hl hjb=>?_;by_cases hA:j<A.n
  ·exact hw j hj hA ((a.ho j hA).2.2 hl) (by rw[←a.nx.mu j hA];exact hjb)
  ·rw[hn j b0 (by omega) hjn hjb]at hy;cases hy
 ·have g1:=a.ho k hk;have g2:=b.ho k (Lz9 hk a.nx.le);exact⟨fun x=>g1.1 (g2.1 x),fun x=>(g1.2.1 x).elim (fun y=>g2.2.1 y) (fun y=>by cases y),fun x=>g1.2.2 (g2.2.2 x)⟩
end Go.PE
end
section
namespace Go.PE
open Go Go.CE
section
variable {P:Program} {O:Orc} {C:Nat→zg} {E:En}
theorem Zt.up{n0 len i:Nat}{mk:List (Nat×Nat)}{N:Nm}{os:List PO}(M:Zt E n0 len i mk N os):Zt E n0 len (Nat.succ i) mk N os:=
 ⟨M.e0,M.top,fun p hp=>⟨Nat.lt_succ_of_lt (M.mks p hp).1,(M.mks p hp).2⟩,fun j hj h=>M.free j hj (by omega),M.all⟩
theorem zwf{ops:Array Oper}{bs:List Nat}{i:Nat}{mk:List (Nat×Nat)}{n0:Nat}{N:Nm}{os:List PO}(_M:Zt E n0 ops.toList.length i mk N os)(hm:∀p∈mk,∃o,ops.toList[p.1]? = some o∧zw2 o.op=true):
  Zv bs i ops.toList.length mk (yG bs i 0 ops.toList):=by
 refine⟨zcm _ _,fun j hj=>?_,fun j k hjk=>?_⟩
 ·obtain⟨m,o,h1,h2,_⟩:=(vJ _ _ _).1 hj;have:=(Lz0.1 h1).1;omega
 ·obtain⟨o,h1,h2⟩:=hm _ hjk;rw[vJ]
  constructor
  ·rintro⟨m,o',g1,g2,g3⟩
   have:m=j:=by omega
   subst this;rw[h1]at g1;cases g1;rw[Yze,h2,Yye]at g3;exact g3
  ·intro hb;exact⟨j,o,h1,by omega,by rw[Yze,hb,Bool.and_false]⟩
theorem PendOk2.up{S X:List Sn}{n0:Nat}{mk mk':List (Nat×Nat)}{mks mks':List (Nat×Nat×Ze)}{ps ps':List (Nat×Nat×List Nat)}(hps:∀p∈ps,p∈ps')(hmk:∀p∈mk,p∈mk')(hmks:∀p∈mks,p∈mks'){q:CkG}(h:PendOk2 S n0 mk mks ps q):PendOk2 (S++X) n0 mk' mks' ps' q:=by
 rcases h with g|g|⟨rd',g1,ne,b,A,Al,a1,a2,a3,a4,a5⟩|⟨k,z,g1,g2,g3,g4⟩
 ·exact .inl g
 ·exact .inr (.inl g)
 ·refine .inr (.inr (.inl ⟨rd',hps _ g1,ne,b,A,Al,a1,a2,?_,?_,a5⟩))
  ·rw[Lz2 (Lz0.1 a3).1];exact a3
  ·rw[Lz2 (Lz0.1 a4).1];exact a4
 ·exact .inr (.inr (.inr ⟨k,z,hps _ g1,hmks _ g2,hmk _ g3,g4⟩))
theorem zes(hO:u7 O C){β γ:Type}{Q:γ→Prop}{lk:Nat→Bool}{nt:Nat}{ops:Array Oper}{bs:List Nat}{es:List Bool}{n0:Nat}{x:β}{K:(Nat→PA)→List PO→Option β}{kk:Nat→Fr→Za→Option γ}:
    ∀(l:List Oper) (i:Nat) (ρ:Nat→PA) (os:List PO) (N:Nm) (r:Fr) (bo:Nat→Nat) (ws:List (List Nat)) (ps:List (Nat×Nat×List Nat)) (mk:List (Nat×Nat)) (fr:Bool) (S:List Sn) (cs:Nat→List CkG) (mks:List (Nat×Nat×Ze)),
    zxP P O lk nt ops bs es i l ρ os bo ws ps mk fr K=some x→Zf E N os→(∀i,RepPA N (r i) (ρ i))→(∀j,lk j=true→j<os.length)→
    (∃pre,ops.toList=pre++l∧pre.length=i)→Zt E n0 ops.toList.length i mk N os→(∀p∈mk,∃o,ops.toList[p.1]? = some o∧zw2 o.op=true)→
    S.length=ws.length+1→zqd E S ws→(∀A∈S,Zf E A.1 A.2)→(∀A∈S,∀j,j<ops.toList.length→i≤j→A.1.h.t.get (nm n0 j)=none)→
    (∃A,S[ws.length]? = some A∧Aft A.1 A.2 [] N os∧(∀k b,A.1.n≤k→k<N.n→blk (N.μ k)=some b→A.1.h.t.get b=none)∧(fr=true→FG N.fz N.h A.1.fz A.1.h))→
    (∀s,bo s≤ws.length+1∧∀A:Sn,S[bo s]? = some A→RepPA A.1 (r s) (ρ s))→
    (∀y∈mks,y.1≤ws.length∧∀e A,e≤y.1→S[e]? = some A→A.1.h.t.get (nm n0 y.2.1)=none)→MV n0 i ws S N mk mks→(∀n,∀q∈cs n,PendOk2 S n0 mk mks ps q)→
    (∀ρ' os' N' r',K ρ' os'=some x→Zf E N' os'→(∀i,RepPA N' (r' i) (ρ' i))→Nx N N'→(∀j,lk j=true→og os' j=og os j)→(∀i,i∉l.filterMap (·.dst)→r' i=r i)→Ev (fun n=>kk n r' N'.h) Q)→
    Ev (fun n=>zxp P nt ops (C n) bs es n0 i l r N.h ws.length (S.map fun x=>x.1.h) (cs n) mks (kk n)) Q
  | [],i,ρ,os,N,r,bo,ws,ps,mk,fr,S,cs,mks,e,I,F,hlk,sfx,M,hmo,hl,ch,hi,hf,la,sl,hms,mv,pe,H=>by
    simp only[zxP]at e;cases hps:(ps.all fun p=>okW ws p.1 p.2.1 p.2.2) with
    |false=>rw[hps]at e;cases e
    |true=>
      rw[hps]at e;have run:∀n,zxp P nt ops (C n) bs es n0 i [] r N.h ws.length (S.map fun x=>x.1.h) (cs n) mks (kk n)=kk n r N.h:=fun n=>by
        simp only[zxp];rw[znO hl ch hi (fun y hy=>(hms y hy).2) mv hps (pe n),Yza]
      simp only[run];exact H ρ os N r e I F (.refl N) (fun _ _=>rfl) (fun _ _=>rfl)
  |o::l,i,ρ,os,N,r,bo,ws,ps,mk,fr,S,cs,mks,e,I,F,hlk,sfx,M,hmo,hl,ch,hi,hf,la,sl,hms,mv,pe,H=>by
    have agree:∀(r2:Fr) (v:Zb),(∀i,i∉l.filterMap (·.dst)→r2 i=zw0 r v o.dst i)→∀i,i∉(o::l).filterMap (·.dst)→r2 i=r i:=fun r2 v hr i hi=>by
      simp only[Yz9]at hi;rw[hr i (fun hm=>hi (by cases o.dst<;>simp[hm]))];exact wk (fun hd=>hi (by rw[hd];simp))
    have FR:=zlV F (o.looksAt ops);obtain⟨pre,hpre,hprel⟩:=sfx;have sfx':∃pre,ops.toList=pre++l∧pre.length=Nat.succ i:=⟨pre++[o],by rw[hpre];simp,by simp[hprel]⟩;have hop:ops.toList[i]? = some o:=by rw[hpre,←hprel,Lz8 (LzB _),Nat.sub_self];rfl
    have hilt:i<ops.toList.length:=(Lz0.1 hop).1;obtain⟨A,eA,aA,nA,gA⟩:=la;have hf':∀A∈S,∀j,j<ops.toList.length→Nat.succ i≤j→A.1.h.t.get (nm n0 j)=none:=fun A hA j hj h=>hf A hA j hj (by omega);simp only[zxP]at e;simp only[zxp];cases hm:zw2 o.op with
    |true=>
      rw[hm]at e;simp only[Yza]at e ⊢;cases hc:comp P o.op with
      |none=>rw[hc]at e;cases e
      |some ko=>
        cases hg:o.guard with
        |some g=>rw[hc,hg]at e;cases e
        |none=>
          rw[hc,hg]at e;simp only at e;cases hk:mkK ko with
          |false=>rw[hk]at e;cases e
          |true=>
            rw[hk]at e;cases hT:inT nt o.dst with
            |false=>rw[hT]at e;cases e
            |true=>
              rw[hT]at e;simp only[YyA,Yza]at e;obtain⟨a,os1,ob,N1,e1,f1,S1,hlen1,hN1,hob,vf,y,hvf,run,fin⟩:=zt6 hk I FR e;have e1:(bif qp mk (os1++[ob]) then zxP P O lk nt ops bs es (Nat.succ i) l (zxn ρ a o.dst) (os1++[ob]) (zxB bo (Nat.succ ws.length) o.dst) ws ps (mk++[(i,os.length)]) (fr&&soft ko) K else none)=some x:=e1;cases hal:qp mk (os1++[ob]) with
              |false=>rw[hal]at e1;cases e1
              |true=>
                rw[hal]at e1;simp only[Yza]at e1
                let b:BN:=nm n0 i
                have hbt:b.toNat=n0+i:=yB _ _;have hbn:N1.h.t.get b=none:=by rw[f1.h];exact M.free i hilt (LzB _)
                have hE:E.h0.n.toNat≤b.toNat:=by have:=M.e0;omega
                have hnf:¬N1.fz b:=fun h=>by
                  rcases S1.inv.fzex b h with h|⟨z,hz⟩
                  · have:=M.e0;omega
                  · rw[hbn]at hz;cases hz
                obtain⟨I2,A2⟩:=S1.inv.newAt (b:=b) (by rw[f1.h];have:=M.top;omega) hbn hE hnf y ob (vf b) (hvf b) (fun N' nx hmu hf hgt hlt=>(fin b N' nx hmu hf hgt hlt).1) fun m h=>by rw[h]at hob;exact hob
                let N2:Nm:=⟨upd N1.μ os1.length (vf b),os1.length+1,N1.fz,⟨N1.h.n,N1.h.t.set b y⟩⟩
                have mu2:∀k,k≠os1.length→N2.μ k=N1.μ k:=fun k hk=>by show (if k=os1.length then vf b else N1.μ k)=_;rw[Yzb hk]
                have muL:N2.μ os1.length=vf b:=by show (if os1.length=os1.length then vf b else _)=_;rw[Yzd rfl]
                have hval:=(fin b N2 A2.nx muL hnf (zz _ _ _) (YyC _)).2;have hN:N.n=os1.length:=by rw[hlen1];exact I.len
                have A1:Aft N os [] N1 os1:=S1.aft I.hw;have A12:Aft N os [] N2 (os1++[ob]):=A1.trans (fun k b' h1 h2 _=>by rw[f1.n]at h2;omega) A2;have step:∀n,CE.bindR (yu P nt ops o (C n) (zR r (o.looksAt ops)) ⟨bn (Nat.add n0 i),N.h.t⟩) (fun v h'=>zxp P nt ops (C n) bs es n0 (Nat.succ i) l (zw0 r v o.dst) ⟨N.h.n,h'.t⟩ ws.length (S.map fun x=>x.1.h) (cs n) (mks++mk1 n0 ws.length i h'.t) (kk n)) =
                    zxp P nt ops (C n) bs es n0 (Nat.succ i) l (zw0 r (.s (.one (vf b))) o.dst) N2.h ws.length (S.map fun x=>x.1.h) (cs n) (mks++[(ws.length,i,y)]) (kk n):=fun n=>by
                  have hr:yu P nt ops o (C n) (zR r (o.looksAt ops)) ⟨bn (Nat.add n0 i),N.h.t⟩=some (.s (.one (vf b)),(⟨b,N.h.t⟩:Za).new y):=by
                    unfold yu;rw[hT,hg];exact(zdA P _ _ _ hc).trans (run _ b N.h.t)
                  rw[hr];simp only[CE.bindR];have h1:((⟨b,N.h.t⟩:Za).new y).t=N.h.t.set b y:=rfl;have h2:mk1 n0 ws.length i (N.h.t.set b y)=[(ws.length,i,y)]:=by
                    unfold mk1;rw[show bn (Nat.add n0 i)=b from rfl,zz]
                  rw[h1,h2];show zxp P nt ops (C n) bs es n0 (Nat.succ i) l _ ⟨N.h.n,N.h.t.set b y⟩ _ _ _ _ _=zxp P nt ops (C n) bs es n0 (Nat.succ i) l _ ⟨N1.h.n,N1.h.t.set b y⟩ _ _ _ _ _;rw[f1.h]
                simp only[step];have hmkl:∀p∈mk,solid (og (os1++[ob]) p.2):=fun p hp=>zf4 (by
                  unfold qp at hal;rw[Yz1]at hal;exact hal p hp)
                refine zes hO l (Nat.succ i) _ (os1++[ob]) N2 _ _ ws ps (mk++[(i,os.length)]) _ S cs (mks++[(ws.length,i,y)]) e1 I2 (zbg (fun s=>(F s).mono A12.nx) hval o.dst) (fun j hj=>?_) sfx' ⟨M.e0,?_,fun p hp=>?_,fun j hj hij=>?_,fun j z hj hz=>?_⟩ (fun p hp=>?_)
                  hl ch hi hf' ⟨A,eA,aA.trans nA A12,fun k b' h1 h2 h3=>?_,fun hfr=>?_⟩ (fun s=>?_) (fun z hz=>?_) ⟨fun z hz k hzk=>?_,fun z hz=>?_,fun z hz z' hz' he=>?_,fun p hp=>?_⟩ (fun n q hq=>by have:=(pe n q hq).up (X:=[]) (ps':=ps) (mk':=mk++[(i,os.length)]) (mks':=mks++[(ws.length,i,y)]) (fun _ h=>h) (fun _ h=>Yzx _ h) (fun _ h=>Yzx _ h);rwa [YzD]at this) fun ρ2 os2 N3 r2 k1 k2 k3 k4 k5 k6=>H ρ2 os2 N3 r2 k1 k2 k3 (A12.nx.trans k4) (fun j hj=>(k5 j hj).trans ?_) (agree r2 _ k6)
                · have:=hlk j hj;simp;omega
                · show _≤N1.h.n.toNat;rw[f1.h];exact M.top
                · rcases Yys.1 hp with hp1|hp1
                  · obtain⟨q1,q2,q3,q4,q5⟩:=M.mks p hp1
                    refine⟨by omega,q2,by show p.2<os1.length+1;omega,hmkl p hp1,?_⟩;rw[mu2 p.2 (by omega),f1.μ];exact q5
                  · rw[YzB]at hp1
                    subst hp1;refine⟨YyC i,hilt,by show os.length<os1.length+1;omega,?_,?_⟩
                    · show solid (og (os1++[ob]) os.length)
                      rw[yY,Yzd hlen1.symm];exact hob
                    · show blk (N2.μ os.length)=some b
                      rw[←hlen1,muL];exact hvf b
                · show (N1.h.t.set b y).get (nm n0 j)=none
                  rw[zp _ _ _ _ (fun e=>by have:=vR e;omega),f1.h];exact M.free j hj (by omega)
                · by_cases hji:j=i
                  · exact⟨os.length,by rw[hji];simp⟩
                  · have hz:(N1.h.t.set b y).get (nm n0 j)=some z:=hz
                    rw[zp _ _ _ _ (fun e=>hji (vR e)),f1.h]at hz;obtain⟨k,hk⟩:=M.all j z hj hz;exact⟨k,Yzx _ hk⟩
                · rcases Yys.1 hp with hp1|hp1
                  · exact hmo p hp1
                  · rw[YzB]at hp1
                    subst hp1;exact⟨o,hop,hm⟩
                · by_cases hko:k=os1.length
                  · rw[hko,muL,hvf b]at h3
                    cases h3;exact hf A (Lz3 eA) i hilt (LzB _)
                  · have h2:k<os1.length+1:=h2
                    rw[mu2 k hko,f1.μ]at h3;exact nA k b' h1 (by omega) h3
                · rw[LzC]at hfr
                  have hNN:=hN1 hfr.2;have g:=gA hfr.1;have up:∀b' z,N2.fz b'→N2.h.t.get b'=some z→N.fz b'∧N.h.t.get b'=some z:=fun b' z h1 h2=>by
                    have h1:N1.fz b':=h1;have h2:(N1.h.t.set b y).get b'=some z:=h2;have hbb:b'≠b:=fun e=>hnf (by rw[←e];exact h1);rw[zp _ _ _ _ hbb]at h2;rw[hNN]at h1 h2;exact⟨h1,h2⟩
                  exact⟨fun b' z h1 h2=>g.sub b' z (up b' z h1 h2).1 (up b' z h1 h2).2,fun b' z h1 h2=>g.old b' z (up b' z h1 h2).1 (up b' z h1 h2).2⟩
                · cases hd:o.dst with
                  |none=>exact sl s
                  |some d=>
                    show (bif Nat.beq s d then Nat.succ ws.length else bo s)≤ws.length+1∧∀A:Sn,S[bif Nat.beq s d then Nat.succ ws.length else bo s]? = some A→RepPA A.1 (bif Nat.beq s d then Zb.s (.one (vf b)) else r s) (bif Nat.beq s d then a else ρ s);cases Nat.beq s d with
                    |false=>exact sl s
                    |true=>exact⟨LzB _,fun A hA=>by have:=(Lz0.1 hA).1;simp at this;omega⟩
                · rcases Yys.1 hz with hz1|hz1
                  · exact hms z hz1
                  · rw[YzB]at hz1
                    subst hz1;exact⟨LzB _,fun e A he hA=>hf A (Lz3 hA) i hilt (LzB _)⟩
                · rcases Yys.1 hz with hz1|hz1
                  · have hzi:=mv.lt z hz1
                    have hzk2:(z.2.1,k)∈mk:=by
                      rcases Yys.1 hzk with h|h
                      · exact h
                      · rw[YzB]at h
                        have:z.2.1=i:=congrArg Prod.fst h;omega
                    obtain⟨g1,g2⟩:=mv.val z hz1 k hzk2;refine⟨g1,fun hnw=>?_⟩;show (N1.h.t.set b y).get (nm n0 z.2.1)=_;rw[zp _ _ _ _ (fun e=>by have:=vR e;omega),f1.h];exact g2 hnw
                  · rw[YzB]at hz1
                    subst hz1;refine⟨fun e A he hA=>?_,fun _=>zz _ _ _⟩;have:=(Lz0.1 hA).1;have he:ws.length<e:=he;omega
                · rcases Yys.1 hz with hz1|hz1
                  · exact Nat.lt_succ_of_lt (mv.lt z hz1)
                  · rw[YzB]at hz1;subst hz1;exact YyC i
                · rcases Yys.1 hz with hz1|hz1<;>rcases Yys.1 hz' with hz2|hz2
                  · exact mv.uniq z hz1 z' hz2 he
                  · rw[YzB]at hz2;subst hz2
                    have:=mv.lt z hz1;have he:z.2.1=i:=he;omega
                  · rw[YzB]at hz1;subst hz1
                    have:=mv.lt z' hz2;have he:i=z'.2.1:=he;omega
                  · rw[YzB]at hz1 hz2;rw[hz1,hz2]
                · rcases Yys.1 hp with hp1|hp1
                  · obtain⟨z,h1,h2⟩:=mv.ex p hp1
                    exact⟨z,Yzx _ h1,h2⟩
                  · rw[YzB]at hp1;subst hp1
                    exact⟨_,YzF _ (YzE _),rfl⟩
                · have:=hlk j hj
                  rw[yY,Yzb (by omega)];exact S1.lock j hj
    |false=>
      rw[hm]at e;simp only[Yzc]at e ⊢;have D:Zv bs i ops.toList.length mk (yG bs i 0 ops.toList):=zwf M hmo;have IH:=zji M I D;have nxH:=zhF M I D;have FH:∀s,RepPA (jF n0 (yG bs i 0 ops.toList) N) (zR r (o.looksAt ops) s) (zS ρ (o.looksAt ops) s):=fun s=>(FR s).mono nxH;have hlenH:(u5 bs i mk os).length=os.length:=uq mk os;cases ha:anchor P o.op with
      |true=>
        rw[ha]at e;simp only[Yza]at e ⊢;obtain⟨ref,a,os1,wr,rd,e1,F1,ev⟩:=zeo hO IH FH (fun j hj=>by rw[hlenH];exact hlk j hj) e;refine Ev.bindR (ev.mono ?_)
        rintro⟨v,h'⟩ ⟨N1,hh,Sm⟩
        simp only at hh Sm ⊢;subst hh;obtain⟨t,ht,I2,A2,nx1,lk2,fr2⟩:=zsW M I D Sm;simp only[ht];cases hal:qp mk (wU bs i os mk os1) with
        |false=>rw[hal]at e1;cases e1
        |true=>
          rw[hal]at e1;simp only[Yza]at e1
          let N2:Nm:=⟨N1.μ,N1.n,N1.fz,⟨N1.h.n,t⟩⟩
          have F2:∀s,RepPA N (r s) (refine ρ ref s):=fun s=>kX F1 (F s);have hmap:(S.map fun x=>x.1.h)++[(⟨N1.h.n,t⟩:Za)]=(S++[((N2,wU bs i os mk os1):Sn)]).map fun x=>x.1.h:=by simp[N2]
          rw[hmap];have hwl:Nat.succ ws.length=(ws++[wr]).length:=by simp
          have step:∀n,zxp P nt ops (C n) bs es n0 (Nat.succ i) l (zw0 r v o.dst) ⟨N1.h.n,t⟩ (Nat.succ ws.length) ((S++[((N2,wU bs i os mk os1):Sn)]).map fun x=>x.1.h) (cs n) mks (kk n) =
              zxp P nt ops (C n) bs es n0 (Nat.succ i) l (zw0 r v o.dst) N2.h (ws++[wr]).length ((S++[((N2,wU bs i os mk os1):Sn)]).map fun x=>x.1.h) (cs n) mks (kk n):=fun n=>by rw[hwl]
          simp only[step];have AT:=aA.trans nA A2;have hmkl:∀p∈mk,solid (og (wU bs i os mk os1) p.2):=fun p hp=>zf4 (by
            unfold qp at hal;rw[Yz1]at hal;exact hal p hp)
          have hlast:(S++[((N2,wU bs i os mk os1):Sn)])[ws.length+1]? = some (N2,wU bs i os mk os1):=by rw[←hl];exact YzM
          refine zes hO l (Nat.succ i) _ (wU bs i os mk os1) N2 (zw0 r v o.dst) _ (ws++[wr]) ps mk true (S++[(N2,wU bs i os mk os1)]) cs mks e1 I2 (zbg (fun s=>(F2 s).mono A2.nx) (Sm.val.mono nx1) o.dst) (fun j hj=>?_) sfx'
            ⟨M.e0,YzA M.top A2.nle,fun p hp=>?_,fun j hj hij=>fr2 j hj (M.free j hj (by omega)),fun j z hj hz=>?_⟩ hmo (by simp[hl]) (fun e w hw B1 B2 b1 b2=>?_) (fun B hB=>?_) (fun B hB j hj hij=>?_)
            ⟨(N2,wU bs i os mk os1),by rw[←hwl];exact hlast,.refl _ _,fun k b h1 h2 _=>absurd h2 (Nat.not_lt.2 h1),fun _=>.refl _ _⟩ (fun s=>?_) (fun y hy=>?_) ⟨fun z hz k hzk=>?_,fun z hz=>Nat.lt_succ_of_lt (mv.lt z hz),mv.uniq,mv.ex⟩ (fun n q hq=>(pe n q hq).up (fun _ h=>h) (fun _ h=>h) (fun _ h=>h)) fun ρ2 os2 N3 r2 k1 k2 k3 k4 k5 k6=>H ρ2 os2 N3 r2 k1 k2 k3 (A2.nx.trans k4) (fun j hj=>(k5 j hj).trans (lk2 j hj)) (agree r2 v k6)
          · have h1:=Sm.nx.le
            rw[Sm.inv.len,show (jF n0 (yG bs i 0 ops.toList) N).n=N.n from rfl,I.len]at h1;rw[jW];exact Lz9 (hlk j hj) h1
          · obtain⟨q1,q2,q3,q4,q5⟩:=M.mks p hp
            exact⟨by omega,q2,Lz9 q3 A2.nx.le,hmkl p hp,by rw[A2.nx.mu p.2 q3];exact q5⟩
          · cases hx:N.h.t.get (nm n0 j) with
            |none=>
              have hz:t.get (nm n0 j)=some z:=hz;rw[fr2 j hj hx]at hz;cases hz
            |some z'=>exact M.all j z' hj hx
          · by_cases he:e<ws.length
            · rw[Lz2 he]at hw
              rw[Lz2 (by omega)]at b1;rw[Lz2 (by omega)]at b2;exact ch e w hw B1 B2 b1 b2
            · have he2:e=ws.length:=by
                have:=(Lz0.1 hw).1;simp at this;omega
              subst he2;rw[YzM]at hw;cases hw;rw[Lz2 (by omega),eA]at b1;cases b1;rw[hlast]at b2;cases b2;exact⟨hi A (Lz3 eA),AT.nx,AT.bk,AT.ho⟩
          · rcases Yys.1 hB with h|h
            · exact hi B h
            · rw[YzB]at h;subst h;exact I2
          · rcases Yys.1 hB with h|h
            · exact hf' B h j hj hij
            · rw[YzB]at h;subst h;exact fr2 j hj (M.free j hj (by omega))
          · have old:bo s≤(ws++[wr]).length+1∧∀B:Sn,(S++[((N2,wU bs i os mk os1):Sn)])[bo s]? = some B→RepPA B.1 (r s) (refine ρ ref s):=by
              refine⟨by have:=(sl s).1;simp;omega,fun B hB=>?_⟩;by_cases hbs:bo s≤ws.length
              · rw[Lz2 (by omega)]at hB
                exact kX F1 ((sl s).2 B hB)
              · have hbs2:bo s=ws.length+1:=by have:=(sl s).1;omega
                rw[hbs2,hlast]at hB;cases hB;exact(F2 s).mono A2.nx
            cases hd:o.dst with
            |none=>exact old
            |some d=>
              show (bif Nat.beq s d then Nat.succ ws.length else bo s)≤(ws++[wr]).length+1∧∀B:Sn,(S++[((N2,wU bs i os mk os1):Sn)])[bif Nat.beq s d then Nat.succ ws.length else bo s]? = some B→RepPA B.1 (bif Nat.beq s d then v else r s) (bif Nat.beq s d then a else refine ρ ref s);cases Nat.beq s d with
              |false=>exact old
              |true=>
                refine⟨by simp,fun B hB=>?_⟩;simp only[Yza]at hB ⊢;rw[show Nat.succ ws.length=ws.length+1 from rfl,hlast]at hB;cases hB;exact Sm.val.mono nx1
          · obtain⟨h1,h2⟩:=hms y hy
            refine⟨by simp;omega,fun e B he hB=>h2 e B he ?_⟩;rw[Lz2 (by omega)]at hB;exact hB
          · obtain⟨g1,g2⟩:=mv.val z hz k hzk
            have old:∀e,e≤ws.length→NW (ws++[wr]) e k→NW ws e k:=fun e he hn i w h1 h2=>hn i w h1 (by rw[Lz2 (by omega)];exact h2);have key:NW (ws++[wr]) (ws.length+1) k→N2.h.t.get (nm n0 z.2.1)=some z.2.2:=fun hn=>by
              have h1:=g2 (old ws.length (LzB _) fun i w h1 h2=>hn i w (by omega) h2);refine A2.bk _ _ h1 fun k' hk' hkn hlv hkb=>?_;obtain⟨_,_,q3,q4,q5⟩:=M.mks _ hzk;have:=I.inj k' k _ hlv q4.live hkb q5;subst this;exact hn ws.length wr (YyC _) YzM hk'
            refine⟨fun e B he hB hn=>?_,fun hn=>key (by simpa using hn)⟩;by_cases hle:e≤ws.length
            · rw[Lz2 (by omega)]at hB
              exact g1 e B he hB (old e hle hn)
            · have h1:=(Lz0.1 hB).1
              simp at h1;have h2:e=ws.length+1:=by omega
              subst h2;rw[hlast]at hB;cases hB;exact key hn
      |false=>
        rw[ha]at e;simp only[Yzc]at e ⊢;cases hc:comp P o.op with
        |none=>rw[hc]at e;cases e
        |some ko=>
          rw[hc]at e;simp only at e;have go:∀(okr:List Nat→Bool) (nb:Option (Nat×Bool)→PA→Nat) (ps':List Nat→List (Nat×Nat×List Nat)) (hk:kJ ko=true∨∃y,zxA ko=some y),(∀ref a,nb ref a≤ws.length+1)→(∀rd,∀p∈ps,p∈ps' rd)→
              (∀ref,(∀s,RepPA (jF n0 (yG bs i 0 ops.toList) N) (zR r (o.looksAt ops) s) (refine (zS ρ (o.looksAt ops)) ref s))→∀v a,RepPA N v a→(∀xo,trk (refine (zS ρ (o.looksAt ops)) ref) ko=some xo→∀N':Nm,(∀t,xo=.tmp t→RepPA N' (zR r (o.looksAt ops) t) (refine (zS ρ (o.looksAt ops)) ref t))→RepPA N' v a)→∀B:Sn,S[nb ref a]? = some B→RepPA B.1 v a)→
              (∀ref,(∀s,RepPA (jF n0 (yG bs i 0 ops.toList) N) (zR r (o.looksAt ops) s) (refine (zS ρ (o.looksAt ops)) ref s))→∀v rd n,okr rd=true→((∀call h2,∃h',yu P nt ops o call (zR r (o.looksAt ops)) h2=some (v,h'))∨(∃xo,zxA ko=some xo∧∃b:BN,(∀call h2,h2.t.get b=(jF n0 (yG bs i 0 ops.toList) N).h.t.get b→∃h',yu P nt ops o call (zR r (o.looksAt ops)) h2=some (v,h'))∧
                  ((∃ j, rd = [j] ∧ j < (jF n0 (yG bs i 0 ops.toList) N).n ∧ blk ((jF n0 (yG bs i 0 ops.toList) N).μ j) = some b ∧ held (og (u5 bs i mk os) j) ∧ ∀ N' : Nm, (∀ t, xo = .tmp t → RepPA N' (zR r (o.looksAt ops) t) (refine (zS ρ (o.looksAt ops)) ref t)) → j < N'.n) ∨
                   (rd=[]∧∀N':Nm,(∀t,xo=.tmp t→RepPA N' (zR r (o.looksAt ops) t) (refine (zS ρ (o.looksAt ops)) ref t))→N'.fz b∧∃y,N'.h.t.get b=some y))))→
                PendOk2 S n0 mk mks (ps' rd) (yu P nt ops o (C n) (zR r (o.looksAt ops)),v,ce (fun j=>bef bs j i) 0 es,ce (fun j=>!bef bs i j) 0 es,yG bs i 0 ops.toList))→
              (kE P O (fun _=>true) nt ops o (zS ρ (o.looksAt ops)) (u5 bs i mk os) fun ref a _ _ rd=>bif okr rd then zxP P O lk nt ops bs es (Nat.succ i) l (zxn (refine ρ ref) a o.dst) os (zxB bo (nb ref a) o.dst) ws (ps' rd) mk fr K else none)=some x→
              Ev (fun n=>CE.bindR (yu P nt ops o (C n) (zR r (o.looksAt ops)) ⟨N.h.n,zxa n0 (yG bs i 0 ops.toList) N.h.t⟩) fun v h'=>zxp P nt ops (C n) bs es n0 (Nat.succ i) l (zw0 r v o.dst) N.h ws.length (S.map fun x=>x.1.h) (cs n++[(yu P nt ops o (C n) (zR r (o.looksAt ops)),v,ce (fun j=>bef bs j i) 0 es,ce (fun j=>!bef bs i j) 0 es,yG bs i 0 ops.toList)]) mks (kk n)) Q:=by
            intro okr nb ps' hk hnb hps hxb hpe e;obtain⟨ref,a,rd,v,e1,F1,rv,run,tr,pend⟩:=zfL IH FH hc hk e;have e1:(bif okr rd then zxP P O lk nt ops bs es (Nat.succ i) l (zxn (refine ρ ref) a o.dst) os (zxB bo (nb ref a) o.dst) ws (ps' rd) mk fr K else none)=some x:=e1;cases hok:okr rd with
            |false=>rw[hok]at e1;cases e1
            |true=>
            rw[hok]at e1;simp only[Yza]at e1;have:(fun n=>CE.bindR (yu P nt ops o (C n) (zR r (o.looksAt ops)) ⟨N.h.n,zxa n0 (yG bs i 0 ops.toList) N.h.t⟩) fun v h'=>zxp P nt ops (C n) bs es n0 (Nat.succ i) l (zw0 r v o.dst) N.h ws.length (S.map fun x=>x.1.h) (cs n++[(yu P nt ops o (C n) (zR r (o.looksAt ops)),v,ce (fun j=>bef bs j i) 0 es,ce (fun j=>!bef bs i j) 0 es,yG bs i 0 ops.toList)]) mks (kk n)) =
                fun n=>zxp P nt ops (C n) bs es n0 (Nat.succ i) l (zw0 r v o.dst) N.h ws.length (S.map fun x=>x.1.h) (cs n++[(yu P nt ops o (C n) (zR r (o.looksAt ops)),v,ce (fun j=>bef bs j i) 0 es,ce (fun j=>!bef bs i j) 0 es,yG bs i 0 ops.toList)]) mks (kk n):=by
              funext n
              rw[show (⟨N.h.n,zxa n0 (yG bs i 0 ops.toList) N.h.t⟩:Za)=(jF n0 (yG bs i 0 ops.toList) N).h from rfl,run];rfl
            rw[this];have F2:∀s,RepPA N (r s) (refine ρ ref s):=fun s=>kX F1 (F s);refine zes hO l (Nat.succ i) _ os N (zw0 r v o.dst) _ ws (ps' rd) mk fr S _ mks e1 I (zbg F2 (rv.mono zjh) o.dst) hlk sfx' M.up hmo hl ch hi hf' ⟨A,eA,aA,nA,gA⟩ (fun s=>?_) hms ⟨mv.val,fun z hz=>Nat.lt_succ_of_lt (mv.lt z hz),mv.uniq,mv.ex⟩ (fun n q hqm=>?_) fun ρ2 os2 N2 r2 k1 k2 k3 k4 k5 k6=>H ρ2 os2 N2 r2 k1 k2 k3 k4 k5 (agree r2 v k6)
            · have old:bo s≤ws.length+1∧∀B:Sn,S[bo s]? = some B→RepPA B.1 (r s) (refine ρ ref s):=⟨(sl s).1,fun B hh=>kX F1 ((sl s).2 B hh)⟩
              cases hd:o.dst with
              |none=>exact old
              |some d=>
                show (bif Nat.beq s d then nb ref a else bo s)≤ws.length+1∧∀B:Sn,S[bif Nat.beq s d then nb ref a else bo s]? = some B→RepPA B.1 (bif Nat.beq s d then v else r s) (bif Nat.beq s d then a else refine ρ ref s);cases Nat.beq s d with
                |false=>exact old
                |true=>exact⟨hnb ref a,hxb ref F1 v a (rv.mono zjh) tr⟩
            · rcases Yys.1 hqm with h|h
              · have:=(pe n q h).up (X:=[]) (mk':=mk) (mks':=mks) (hps rd) (fun _ h=>h) (fun _ h=>h)
                rwa [YzD]at this
              · rw[YzB]at h
                subst h;exact hpe ref F1 v rd n hok pend
          have none1:∀B:Sn,S[ws.length+1]? = some B→False:=fun B hB=>by have:=(Lz0.1 hB).1;omega
          have here:∀v a,RepPA N v a→∀B:Sn,S[bif fr&&wx a then ws.length else Nat.succ ws.length]? = some B→RepPA B.1 v a:=fun v a rv B hB=>by
            cases hfp:fr&&wx a with
            |false=>rw[hfp]at hB;exact(none1 B hB).elim
            |true=>
              rw[hfp]at hB;rw[LzC]at hfp;simp only[Yza]at hB;rw[eA]at hB;cases hB;exact zks (gA hfp.1) hfp.2 rv
          have hle1:∀a,(bif fr&&wx a then ws.length else Nat.succ ws.length)≤ws.length+1:=fun a=>by
            cases (fr&&wx a) with
            |true=>exact Yyt _
            |false=>exact LzB _
          cases hst:kJ ko with
          |true=>
            rw[hst]at e;simp only[Yza]at e;refine go (fun _=>true) (fun ref a=>match trk (refine (zS ρ (o.looksAt ops)) ref) ko with|some x=>bOf bo x|none=>bif fr&&wx a then ws.length else Nat.succ ws.length) (fun _=>ps) (.inl hst) ?_ (fun _ p hp=>hp) ?_ ?_ e
            · intro ref a
              cases htk:trk (refine (zS ρ (o.looksAt ops)) ref) ko with
              |none=>exact hle1 a
              |some y=>
                cases y with
                |tmp t=>exact(sl t).1
                |_=>exact YzC _
            · intro ref F1 v a rv tr B hh
              cases htk:trk (refine (zS ρ (o.looksAt ops)) ref) ko with
              |none=>simp only[htk]at hh;exact here v a rv B hh
              |some y=>
                simp only[htk]at hh;refine tr y htk _ fun t ht=>?_;subst ht;exact qB F1 ((sl t).2 B hh)
            · intro ref F1 v rd n hok pend
              rcases pend with g|⟨xo,g,_⟩
              · exact .inl fun h=>g (C n) h
              · exfalso
                cases ko<;>first|exact Bool.noConfusion hst|(simp only[zxA]at g;cases g)
          |false=>
            rw[hst]at e;simp only[Yzc]at e;cases hmx:zxA ko with
            |none=>rw[hmx]at e;cases e
            |some y=>
              rw[hmx]at e;simp only at e;cases hb:Nat.beq (ce (fun j=>bef bs j i) 0 es) (ce (fun j=>!bef bs i j) 0 es) with
              |true=>
                rw[hb]at e;exact go (fun _=>true) (fun _ a=>bif fr&&wx a then ws.length else Nat.succ ws.length) (fun _=>ps) (.inr ⟨y,hmx⟩) (fun _ a=>hle1 a) (fun _ p hp=>hp) (fun ref F1 v a rv tr B hh=>here v a rv B hh) (fun ref F1 v rd n hok pend=>.inr (.inl hb)) e
              |false=>
                rw[hb]at e;simp only[Yzc]at e;cases hw:(Nat.ble (bOf bo y) (ce (fun j=>bef bs j i) 0 es)&&Nat.ble (ce (fun j=>bef bs j i) 0 es) ws.length&&Nat.ble ws.length (ce (fun j=>!bef bs i j) 0 es)) with
                |false=>
                  rw[hw]at e;simp only[Yzc]at e;cases hwl:Nat.ble ws.length (ce (fun j=>!bef bs i j) 0 es) with
                  |false=>rw[hwl]at e;cases e
                  |true=>
                    rw[hwl]at e;simp only[Yza]at e;refine go (fun rd=>zmS mk rd&&okW ws 0 ws.length rd) (fun _ a=>bif fr&&wx a then ws.length else Nat.succ ws.length) (fun rd=>ps++[(0,ce (fun j=>!bef bs i j) 0 es,rd)]) (.inr ⟨y,hmx⟩) (fun _ a=>hle1 a) (fun _ p hp=>Yzx _ hp) (fun ref F1 v a rv tr B hh=>here v a rv B hh) (fun ref F1 v rd n hok pend=>?_) e;rcases pend with g|⟨xo,g,b,g2,g1⟩
                    · exact .inl fun h=>g (C n) h
                    · rw[LzC]at hok
                      rcases g1 with⟨j,q1,q2,q3,q4,q5⟩|⟨q1,q2⟩
                      · subst q1
                        obtain⟨ok1,ok2⟩:=hok;simp only[zmS,List.any_eq_true]at ok1;obtain⟨⟨jm,k⟩,hp,hpk⟩:=ok1;have hpk:k=j:=Lz1 hpk;subst hpk;obtain⟨z,hz,hzj⟩:=mv.ex _ hp;have hzj:z.2.1=jm:=hzj;subst hzj;obtain⟨_,_,_,_,p5⟩:=M.mks _ hp;obtain⟨w,hw1⟩:=zcn q4 (IH.obj k) q3;have q3':blk (N.μ k)=some b:=q3;rw[p5]at q3';cases q3';obtain⟨hz1,hz2⟩:=qO hw1;have hv:=(mv.val z hz k hp).2 (NW.of ok2);rw[hz2]at hv;refine .inr (.inr (.inr ⟨k,z,YzF _ (YzE _),hz,hp,fun j hj e=>hz1 (List.mem_map.2 ⟨j,hj,e.symm⟩),fun h2 hh=>g2 (C n) h2 (by rw[hh,hw1,hv])⟩))
                      · subst q1
                        cases hok.1
                |true=>
                  rw[hw]at e;simp only[LzC]at hw;obtain⟨⟨w1,w2⟩,w3⟩:=hw;have w1:=Lz4 w1;have w2:=Lz4 w2;have w3:=Lz4 w3;refine go (fun _=>true) (fun _ a=>bif fr&&wx a then ws.length else Nat.succ ws.length) (fun rd=>ps++[(ce (fun j=>bef bs j i) 0 es,ce (fun j=>!bef bs i j) 0 es,rd)]) (.inr ⟨y,hmx⟩) (fun _ a=>hle1 a) (fun _ p hp=>Yzx _ hp) (fun ref F1 v a rv tr B hh=>here v a rv B hh) (fun ref F1 v rd n hok pend=>?_) e;rcases pend with g|⟨xo,g,b,g2,g1⟩
                  · exact .inl fun h=>g (C n) h
                  · rw[hmx]at g
                    cases g;obtain⟨Al,elo⟩:∃B:Sn,S[ce (fun j=>bef bs j i) 0 es]? = some B:=⟨_,Lz5 (by omega)⟩;have hrel:∀t,y=.tmp t→RepPA Al.1 (zR r (o.looksAt ops) t) (refine (zS ρ (o.looksAt ops)) ref t):=fun t ht=>by
                      subst ht;refine qB F1 ?_;have hle:bo t≤ce (fun j=>bef bs j i) 0 es:=w1;obtain⟨Ab,eb0⟩:∃B:Sn,S[bo t]? = some B:=⟨_,Lz5 (by omega)⟩;exact((sl t).2 Ab eb0).mono (xX hl ch eb0 (ce (fun j=>bef bs j i) 0 es-bo t) Al (by rw[show bo t+(ce (fun j=>bef bs j i) 0 es-bo t)=ce (fun j=>bef bs j i) 0 es by omega];exact elo))
                    have nxlA:Nx Al.1 A.1:=xX hl ch elo (ws.length-ce (fun j=>bef bs j i) 0 es) A (by rw[show ce (fun j=>bef bs j i) 0 es+(ws.length-ce (fun j=>bef bs j i) 0 es)=ws.length by omega];exact eA);have IA:=hi A (Lz3 eA);have nin:b∉(yG bs i 0 ops.toList).map (nm n0)→∀j∈yG bs i 0 ops.toList,b≠nm n0 j:=fun h j hj e=>h (List.mem_map.2 ⟨j,hj,e.symm⟩);rcases g1 with⟨j,q1,q2,q3,q4,q5⟩|⟨q1,q2⟩
                    · have hnh:¬Hid bs i mk j:=fun h=>by rw[(yZ j mk os).1 h]at q4;exact q4
                      obtain⟨z,hz⟩:=zcn q4 (IH.obj j) q3;obtain⟨hz1,hz2⟩:=qO hz;have q4':held (og os j):=by rw[(yZ j mk os).2 hnh]at q4;exact q4
                      have jl:=q5 Al.1 hrel;have jA:j<A.1.n:=Lz9 jl nxlA.le;have hA:held (og A.2 j):=(aA.ho j jA).1 q4';have hbA:blk (A.1.μ j)=some b:=by rw[←aA.nx.mu j jA];exact q3
                      obtain⟨z',hz'⟩:=zcn hA (IA.obj j) hbA;have h3:=aA.bk b z' hz' fun j hj=>by cases hj
                      rw[hz2]at h3;exact .inr (.inr (.inl ⟨rd,YzF _ (YzE _),ws.length,b,A,Al,w2,w3,eA,elo,nin hz1,fun h2 hh=>g2 (C n) h2 (by rw[hh,hz',hz,h3]),.inl ⟨j,q1,jl,hbA,hA⟩⟩))
                    · obtain⟨f1,z,f2⟩:=q2 Al.1 hrel
                      have f3:=nxlA.fg.old b z f1 f2;have f4:=nxlA.fg.sub b z f1 f2;have f5:=aA.nx.fg.old b z f4 f3;have f6:=aA.nx.fg.sub b z f4 f3;have f7:=nxH.fg.old b z f6 f5;exact .inr (.inr (.inl ⟨rd,YzF _ (YzE _),ws.length,b,A,Al,w2,w3,eA,elo,nin (qO f7).1,fun h2 hh=>g2 (C n) h2 (by rw[hh,f3,f7]),.inr ⟨f1,z,f2⟩⟩))
end
end Go.PE
end
section
namespace Go.PE
open Go Go.CE
def zy2(c:Nat):Nat:=Nat.mod c 1000
def zBp(c:Nat):Nat:=Nat.mod (Nat.div c 1000) 1000
def zy1(c:Nat):Nat:=Nat.mod (Nat.div c 1000000) 1000
def zul(c:Nat):Bool:=Nat.ble 1000000000 c
def zzA:List Nat→List Nat
 | []=>[]
 |c::l=>bif zul c then zzA l else c::zzA l
def zyJ:List Nat→List Nat
 | []=>[]
 |c::l=>bif zul c then c::zyJ l else zyJ l
def zrI{β:Type}(lk:Nat→Bool)(ρ:Nat→PA)(os:List PO)(c:Nat)(K:List PO→Option β):Option β:=
 bif lk (zy2 c) then none else
 match og os (zy2 c) with
 | .arr st v=>
  bif Nat.beq st 1 then
   match ρ (zBp c) with
   | .s (.one (.d d))=>za (xA v d) fun n=>za (zw7 v n) fun x=>gdN (atD x 0) (K ((oset (.hol v n (Nat.succ os.length)) os (zy2 c)++[.arr (zy1 c) none])++[.lnk os.length]))
   |_=>none
  else none
 |_=>none
def zrH{β:Type}(lk:Nat→Bool)(ρ:Nat→PA):List Nat→List PO→(List PO→Option β)→Option β
 | [],os,K=>K os
 |c::l,os,K=>zrI lk ρ os c fun os'=>zrH lk ρ l os' K
def zyU(v:OC)(n:Nat)(d:DV):Option OC:=
 match v with
 |some xs=>some (some (xs.set n [d]))
 |none=>none
def znM{β:Type}(lk:Nat→Bool)(os:List PO)(k t:Nat)(K:List PO→Option β):Option β:=
 match og os k with
 | .hol v n t'=>
  match og os t with
  | .lnk m=>
   bif Nat.beq t t' && !lk k && !lk t then
    match frC lk y7 os (.own m) with
    |some (os1,d)=>za (zyU v n d) fun w=>K (oset .dead (oset (.arr 1 w) os1 k) t)
    |none=>none
   else none
  |_=>none
 |_=>none
def zgo{β:Type}(lk:Nat→Bool):List (Nat×Nat)→List PO→(List PO→Option β)→Option β
 | [],os,K=>K os
 |p::l,os,K=>znM lk os p.1 p.2 fun os'=>zgo lk l os' K
def pairs:List Nat→Nat→List (Nat×Nat)
 | [],_=>[]
 |c::l,n=>(zy2 c,Nat.succ n)::pairs l (Nat.add n 2)
section
variable {β:Type} {E:En} {lk:Nat→Bool}
structure Vw (E:En) (lk:Nat→Bool) (N:Nm) (os:List PO) (N':Nm) (os':List PO):Prop where
 h:N'.h=N.h
 inv:Zf E N' os'
 nx:Nx N N'
 lock:∀j,lk j=true→og os' j=og os j
 le:os.length≤os'.length
theorem Vw.refl{N:Nm}{os:List PO}(I:Zf E N os):Vw E lk N os N os:=⟨rfl,I,.refl N,fun _ _=>rfl,LzB _⟩
theorem Vw.trans{A B C:Nm}{a b c:List PO}(x:Vw E lk A a B b)(y:Vw E lk B b C c):Vw E lk A a C c:=⟨y.h.trans x.h,y.inv,x.nx.trans y.nx,fun j hj=>(y.lock j hj).trans (x.lock j hj),YzA x.le y.le⟩
theorem zo3{N:Nm}{os:List PO}{r:Fr}{ρ:Nat→PA}{c:Nat}{K:List PO→Option β}{x:β}(I:Zf E N os)(_F:∀i,RepPA N (r i) (ρ i))(hlk:∀j,lk j=true→j<os.length)(e:zrI lk ρ os c K=some x):
  ∃os' N',K os'=some x∧Vw E lk N os N' os':=by
 unfold zrI at e;generalize zy2 c=k at e;cases hlkk:lk k with
 |true=>rw[hlkk]at e;cases e
 |false=>
  rw[hlkk]at e;simp only[Yzc]at e;cases ho:og os k with
  |arr st v=>
   rw[ho]at e;simp only at e;cases hs:Nat.beq st 1 with
   |false=>rw[hs]at e;cases e
   |true=>
    rw[hs]at e;have:=Lz1 hs;subst this;simp only[Yza]at e;split at e
    ·rename_i d hd;obtain⟨n,hn,e⟩:=zm e;obtain⟨y,hy,e⟩:=zm e;cases v with
     |none=>cases hy
     |some xs=>
      obtain⟨b,vs,ex,h1,h2,h3,h4,h5⟩:=zaR I ho;have hy:xs[n]? = some y:=hy;have hnl:=(Lz0.1 hy).1;obtain⟨g1,g2⟩:=h5 n y hy
      match y,g1,e,g2 with
      | [z],_,e,g2=>
       have e:gdN z (K ((oset (.hol (some xs) n (Nat.succ os.length)) os k++[.arr (zy1 c) none])++[.lnk os.length]))=some x:=e;cases z<;>simp only[gdN]at e<;>first|(cases e;done)|skip
       have hvn:vs[n]? = some .nils:=by
        have hl:=g2.1;simp only[Yzk,Yz7]at hl;cases hv:vs[n]? with
        |none=>
         rw[List.getElem?_eq_none_iff]at hv;omega
        |some c0=>
         have h0:((vs.drop (n*1)).take 1)[0]? = some c0:=by rw[Yzo,Yzd (by omega),Yzr,YyL,Yzw];exact hv
         have:=g2.2 0 c0 .nils h0 rfl;rw[Rep.scal this rfl]
       have hkl:k<os.length:=un (by rw[ho];intro h;cases h)
       let μ':Nat→Zc:=fun j=>if j=os.length then .nils else if j=os.length+1 then .ptr b n else N.μ j
       let N':Nm:=⟨μ',os.length+2,N.fz,N.h⟩
       have mu:∀j,j<os.length→μ' j=N.μ j:=fun j hj=>by show (if j=os.length then _ else if j=os.length+1 then _ else _)=_;rw[Yzb (by omega),Yzb (by omega)]
       have mu0:μ' os.length=.nils:=by show (if os.length=os.length then _ else _)=_;rw[Yzd rfl]
       have mu1:μ' (os.length+1)=.ptr b n:=by show (if os.length+1=os.length then _ else if os.length+1=os.length+1 then _ else _)=_;rw[Yzb (by omega),Yzd rfl]
       have hNn:=I.len;have nx:Nx N N':=⟨.refl _ _,by show N.n≤os.length+2;omega,fun j hj=>mu j (by omega)⟩
       let os':=(oset (.hol (some xs) n (os.length+1)) os k++[.arr (zy1 c) none])++[.lnk os.length]
       have l1:(oset (.hol (some xs) n (os.length+1)) os k).length=os.length:=yf _ _ _;have l2:(oset (.hol (some xs) n (os.length+1)) os k++[PO.arr (zy1 c) none]).length=os.length+1:=by simp[l1]
       have gk:og os' k=.hol (some xs) n (os.length+1):=by show og (_++_) k=_;rw[yY,l2,Yzb (by omega),yY,l1,Yzb (by omega),zJ,Yzd ⟨rfl,hkl⟩]
       have g0:og os' os.length=.arr (zy1 c) none:=by show og (_++_) _=_;rw[yY,l2,Yzb (by omega),yY,l1,Yzd rfl]
       have gt:og os' (os.length+1)=.lnk os.length:=by show og (_++_) _=_;rw[yY,l2,Yzd rfl]
       have gj:∀j,j<os.length→j≠k→og os' j=og os j:=fun j hj hne=>by show og (_++_) j=_;rw[yY,l2,Yzb (by omega),yY,l1,Yzb (by omega),zJ,Yzb (fun h=>hne h.1)]
       have gg:∀j,os.length+2≤j→og os' j=.dead:=fun j hj=>ztR (by show (_++_:List PO).length≤j;simp[l1];omega);have lv:∀j,live (og os' j)→j<os.length∧live (og os j):=fun j hl=>by
        by_cases hj:j<os.length
        ·refine⟨hj,?_⟩;by_cases hjk:j=k
         ·rw[hjk,ho];trivial
         ·rwa [gj j hj hjk]at hl
        ·by_cases h0:j=os.length
         ·rw[h0,g0]at hl;exact hl.elim
         ·by_cases h1:j=os.length+1
          ·rw[h1,gt]at hl;exact hl.elim
          ·rw[gg j (by omega)]at hl;exact hl.elim
       refine⟨os',N',e,rfl,⟨I.hw,I.gr,I.fzlt,I.fzok,I.fzex,by show os.length+2=(_++_:List PO).length;simp[l1],fun j b' hl hb=>?_,fun j j' b' hl hl' hb hb'=>?_,fun j=>?_,fun t m ht=>?_⟩,nx,fun j hj=>gj j (hlk j hj) (fun h=>by rw[h,hlkk]at hj;cases hj),by show os.length≤(_++_:List PO).length;simp[l1]⟩
       ·obtain⟨q1,q2⟩:=lv j hl;exact I.own j b' q2 (by rw[←mu j q1];exact hb)
       ·obtain⟨q1,q2⟩:=lv j hl;obtain⟨q1',q2'⟩:=lv j' hl';exact I.inj j j' b' q2 q2' (by rw[←mu j q1];exact hb) (by rw[←mu j' q1'];exact hb')
       ·by_cases hj:j<os.length
        ·by_cases hjk:j=k
         ·subst hjk;rw[gk];exact⟨b,vs,ex,(mu j hj).trans h1,h2,h3,h4,hnl,by show os.length+1<os.length+2;omega,mu1,fun i z _ hz=>h5 i z hz⟩
         ·rw[gj j hj hjk];refine (I.obj j).mono nx (mu j hj) fun htd b' hb=>?_;obtain⟨b2,x2,q1,q2,q3⟩:=xK htd (I.obj j);rw[q1]at hb;cases hb;exact⟨q2,rfl⟩
        ·by_cases h0:j=os.length
         ·rw[h0,g0];exact mu0
         ·by_cases h1':j=os.length+1
          ·rw[h1',gt];exact⟨by show os.length<os.length+2;omega,b,n,vs,mu1,h2,h3,hvn.trans (congrArg some mu0.symm)⟩
          ·rw[gg j (by omega)];trivial
       ·by_cases hj:t<os.length
        ·by_cases hjk:t=k
         ·rw[hjk,gk]at ht;cases ht
         ·rw[gj t hj hjk]at ht;obtain⟨k2,v2,n2,q⟩:=I.lnk t m ht;have hk2:k2<os.length:=un (by rw[q];intro h;cases h);exact⟨k2,v2,n2,by rw[gj k2 hk2 (fun h=>by rw[h,ho]at q;cases q)];exact q⟩
        ·by_cases h0:t=os.length
         ·rw[h0,g0]at ht;cases ht
         ·by_cases h1':t=os.length+1
          ·exact⟨k,some xs,n,by rw[gk,h1']⟩
          ·rw[gg t (by omega)]at ht;cases ht
    ·cases e
  |_=>rw[ho]at e;cases e
theorem ziR:∀{l:List Nat} {N:Nm} {os:List PO} {r:Fr} {ρ:Nat→PA} {K:List PO→Option β} {x:β},Zf E N os→(∀i,RepPA N (r i) (ρ i))→(∀j,lk j=true→j<os.length)→zrH lk ρ l os K=some x→∃os' N',K os'=some x∧Vw E lk N os N' os'
 | [],N,os,r,ρ,K,x,I,F,hlk,e=>⟨os,N,e,.refl I⟩
 |c::l,N,os,r,ρ,K,x,I,F,hlk,e=>by
  obtain⟨os1,N1,e1,V1⟩:=zo3 I F hlk e;obtain⟨os2,N2,e2,V2⟩:=ziR V1.inv (fun i=>(F i).mono V1.nx) (fun j hj=>Lz9 (hlk j hj) V1.le) e1;exact⟨os2,N2,e2,V1.trans V2⟩
theorem znL{N:Nm}{os:List PO}{k t:Nat}{K:List PO→Option β}{x:β}(I:Zf E N os)(e:znM lk os k t K=some x):∃os' N',K os'=some x∧Vw E lk N os N' os':=by
 unfold znM at e;cases hk:og os k with
 |hol v n t'=>
  rw[hk]at e;simp only at e;cases ht:og os t with
  |lnk m=>
   rw[ht]at e;simp only at e;cases hc:(Nat.beq t t' && !lk k && !lk t) with
   |false=>rw[hc]at e;cases e
   |true=>
    rw[hc]at e;simp only[Yza]at e;simp only[LzC,YzN]at hc;obtain⟨⟨c1,c2⟩,c3⟩:=hc;have:=Lz1 c1;subst this;cases hf:frC lk y7 os (.own m) with
    |none=>rw[hf]at e;cases e
    |some q=>
     obtain⟨os1,d⟩:=q;rw[hf]at e;simp only at e;have hT:=I.obj t;rw[ht]at hT;obtain⟨hm,_⟩:=hT;obtain⟨N1,f1,S1,r1⟩:=zdH (c:=N.μ m) (p:=.own m) I ⟨hm,rfl⟩ hf;have hos:∀j,j≠m→og os1 j=og os j:=by
      intro j hj;rw[show y7=99+1 from rfl]at hf;simp only[frC]at hf;cases hom:og os m with
      |frz v=>rw[hom]at hf;cases hf;rfl
      |arr st v=>
       rw[hom]at hf;simp only at hf;cases hlm:lk m with
       |true=>rw[hlm]at hf;cases hf
       |false=>rw[hlm]at hf;cases hf;rw[zJ,Yzb (fun h=>hj h.1)]
      |_=>rw[hom]at hf;cases hf
     have hmk:k≠m:=fun h=>by
      rw[show y7=99+1 from rfl]at hf;simp only[frC]at hf;rw[←h,hk]at hf;cases hf
     have hmt:t≠m:=fun h=>by
      rw[show y7=99+1 from rfl]at hf;simp only[frC]at hf;rw[←h,ht]at hf;cases hf
     have hk1:og os1 k=.hol v n t:=(hos k hmk).trans hk;have ht1:og os1 t=.lnk m:=(hos t hmt).trans ht;have hkt:k≠t:=fun h=>by rw[h,ht]at hk;cases hk
     have I1:=S1.inv;have hO:=I1.obj k;rw[hk1]at hO;have hT:=I1.obj t;rw[ht1]at hT;obtain⟨w,hw,e⟩:=zm e;cases v with
     |none=>cases hw
     |some xs=>
      cases hw;obtain⟨b,vs,ex,h1,h2,h3,h4,h5,h6,h7,h8⟩:=hO;obtain⟨_,b2,n2,vs2,g1,g2,g3,g4⟩:=hT;rw[h7]at g1;cases g1;rw[h3]at g3;cases g3;have hkl:k<os1.length:=un (by rw[hk1];intro h;cases h);have htl:t<(oset (.arr 1 (some (xs.set n [d]))) os1 k).length:=by rw[yf];exact un (by rw[ht1];intro h;cases h)
      let os':=oset .dead (oset (.arr 1 (some (xs.set n [d]))) os1 k) t
      have gk:og os' k=.arr 1 (some (xs.set n [d])):=by show og (oset _ _ _) _=_;rw[zJ,Yzb (fun h=>hkt h.1),zJ,Yzd ⟨rfl,hkl⟩]
      have gt:og os' t=.dead:=by show og (oset _ _ _) _=_;rw[zJ,Yzd ⟨rfl,htl⟩]
      have gj:∀j,j≠k→j≠t→og os' j=og os1 j:=fun j h1 h2=>by show og (oset _ _ _) _=_;rw[zJ,Yzb (fun h=>h2 h.1),zJ,Yzb (fun h=>h1 h.1)]
      have lv:∀j,live (og os' j)→live (og os1 j):=fun j hl=>by
       by_cases hjk:j=k
       ·rw[hjk,hk1];trivial
       ·by_cases hjt:j=t
        ·rw[hjt,gt]at hl;exact hl.elim
        ·rwa [gj j hjk hjt]at hl
      have hl1:os1.length=os.length:=by rw[←I1.len,f1.n,I.len]
      refine⟨os',N1,e,f1.h,⟨I1.hw,I1.gr,I1.fzlt,I1.fzok,I1.fzex,I1.len.trans (by show _=(oset _ _ _).length;rw[yf,yf]),fun j b' hl hb=>I1.own j b' (lv j hl) hb,fun j j' b' hl hl' hb hb'=>I1.inj j j' b' (lv j hl) (lv j' hl') hb hb',fun j=>?_,fun t2 m2 h2'=>?_⟩,S1.nx,fun j hj=>?_,by show _≤(oset _ _ _).length;rw[yf,yf,hl1];exact LzB _⟩
      ·by_cases hjk:j=k
       ·subst hjk;rw[gk];refine⟨b,vs,ex,by rw[List.length_set];exact h1,h2,h3,by rw[List.length_set];exact h4,fun i z hz=>?_⟩;rw[List.getElem?_set]at hz;by_cases hin:n=i
        ·subst hin;rw[Yzd rfl,Yzd h5]at hz;cases hz;refine⟨rfl,?_⟩;have hd:(vs.drop (n*1)).take 1=[N1.μ m]:=by
          rw[YyL];have hnv:=(Lz0.1 g4).1;rw[List.drop_eq_getElem_cons hnv,List.take_succ_cons,List.take_zero,(Lz0.1 g4).2]
         rw[hd];exact .cons (by rw[f1.μ];exact r1) (.nil _ _)
        ·rw[Yzb hin]at hz;exact h8 i z (fun h=>hin h.symm) hz
       ·by_cases hjt:j=t
        ·rw[hjt,gt];trivial
        ·rw[gj j hjk hjt];exact I1.obj j
      ·by_cases hjk:t2=k
       ·rw[hjk,gk]at h2';cases h2'
       ·by_cases hjt:t2=t
        ·rw[hjt,gt]at h2';cases h2'
        ·rw[gj t2 hjk hjt]at h2';obtain⟨k3,v3,n3,q⟩:=I1.lnk t2 m2 h2';refine⟨k3,v3,n3,?_⟩;rw[gj k3 (fun h=>?_) (fun h=>?_)]
         ·exact q
         ·rw[h,hk1]at q;cases q;exact hjt rfl
         ·rw[h,ht1]at q;cases q
      ·rw[gj j (fun h=>by rw[h,c2]at hj;cases hj) (fun h=>by rw[h,c3]at hj;cases hj)];exact S1.lock j hj
  |_=>rw[ht]at e;cases e
 |_=>rw[hk]at e;cases e
theorem zgn:∀{l:List (Nat×Nat)} {N:Nm} {os:List PO} {K:List PO→Option β} {x:β},Zf E N os→zgo lk l os K=some x→∃os' N',K os'=some x∧Vw E lk N os N' os'
 | [],N,os,K,x,I,e=>⟨os,N,e,.refl I⟩
 |p::l,N,os,K,x,I,e=>by
  obtain⟨os1,N1,e1,V1⟩:=znL I e;obtain⟨os2,N2,e2,V2⟩:=zgn V1.inv e1;exact⟨os2,N2,e2,V1.trans V2⟩
theorem zlj{okm:Nat→Bool}{la:LA}{x:Zh}{N:Nm}{os os1:List PO}{r:Fr}{ρ:Nat→PA}{L:List DV}{M:List OC}{ms:List (Option Nat)}(I:Zf E N os)(F:∀i,RepPA N (r i) (ρ i))(e:vec lk okm la x ρ os=some (os1,L,M,ms)):
  (∀t,t∈zxj (zxZ la x)→∃m,og os1 t=.lnk m)∧(∀m,some m∈ms→∃st v,og os1 m=mkO st v)∧(∀k n,(k,n)∈la.boxes→∃cs,og os1 k=.box cs)∧(∀k st,(k,st)∈la.arrs→∃v,og os1 k=mkO st v):=by
 unfold vec at e;cases h1:zyn lk ρ (zx0 la x) os with
 |none=>rw[h1]at e;cases e
 |some q=>
  obtain⟨o1,ds⟩:=q;rw[h1]at e;simp only at e;obtain⟨N1,f1,S1,_⟩:=zd2 I F h1;split at e
  ·rename_i vs ms0 ws h2 h3;cases h4:(qm o1 la.boxes&&zfp okm ms0) with
   |false=>rw[h4]at e;cases e
   |true=>
    rw[h4]at e;cases e;rw[LzC]at h4;obtain⟨lO,lm,rO⟩:=zgY S1.inv (fun i=>(F i).mono S1.nx) h2;obtain⟨lA,rA⟩:=zgZ h3;refine⟨fun t ht=>?_,fun m hm=>?_,fun k n hk=>?_,fun k st hk=>?_⟩
    ·obtain⟨st,hst⟩:=zbv ht;obtain⟨i,hi⟩:=Yyk hst;obtain⟨_,_,_,_,_,_,_,h5⟩:=rO i _ st hi;exact h5 t rfl
    ·obtain⟨i,hi⟩:=Yyk hm;have hil:=(Lz0.1 hi).1;obtain⟨⟨p,st⟩,hp⟩:∃p,(zxZ la x)[i]? = some p:=⟨_,Lz5 (by omega)⟩;obtain⟨v,m',c,_,k2,_,k4,_⟩:=rO i p st hp;rw[hi]at k2;cases k2;rcases k4 with⟨h,_⟩|⟨q,h,hq,_⟩
     ·cases h
     ·cases h;exact⟨st,v,hq⟩
    ·obtain⟨cs,h,_⟩:=zaN h4.1 k n hk;exact⟨cs,h⟩
    ·obtain⟨i,hi⟩:=Yyk hk;obtain⟨v,_,h⟩:=rA i k st hi;exact⟨v,h⟩
  ·cases e
theorem zmM{st:Nat}{v w:OC}{n t:Nat}(h:mkO st v=.hol w n t):False:=by
 cases hm:zxt st with
 |true=>rw[zfW hm]at h;cases h
 |false=>rw[jz hm]at h;cases h
end
end Go.PE
end
section
namespace Go.PE
open Go Go.CE
section
variable (P:Program) (O:Orc) (tab:Nat→Bool) (Y:Inl)
noncomputable def vO(nt:Nat)(an:Nat→Option LA):Code→(Nat→Bool)→Nat→{β:Type}→(Nat→PA)→List PO→(Zh→(Nat→PA)→List PO→Option β)→Option β
 | .skip,_,_,_,ρ,os,K=>K .normal ρ os
 | .region _ ops draw,lk,_,_,ρ,os,K=>bif draw then(bif P.follows .mixedOrders&&zac P ops (zwR ops.toList) then pDr P O tab Y lk nt ops (zwR ops.toList) (zw4 P ops.toList) 0 ops.toList ρ os (fun _=>0) [] [] (fun ρ os=>K .normal ρ os) else bif P.follows .mixedOrders&&uS P ops (zwR ops.toList) then zxP P O lk nt ops (zwR ops.toList) (zw3 P ops.toList) 0 ops.toList ρ os (fun _=>0) [] [] [] true (fun ρ os=>K .normal ρ os) else none) else zyX P O tab Y lk nt ops ops.toList ρ os (fun ρ os=>K .normal ρ os)
 | .seq a b,lk,i,_,ρ,os,K=>vO nt an a lk i ρ os (zvv (fun ρ os=>vO nt an b lk (i+qJ a) ρ os K) K)
 | .cond c a b,lk,i,_,ρ,os,K=>
  match pv ρ c with
  |some (.s (.one (.d v)))=>
   ifB v (vO nt an a lk i (refine ρ (zrh c true)) os K) (vO nt an b lk (i+qJ a) (refine ρ (zrh c false)) os K)
  |_=>none
 | .block id c,lk,i,_,ρ,os,K=>vO nt an c lk i ρ os (zAl id K)
 | .loop c,lk,i,_,ρ,os,K=>
  match an i with
  |some la=>
   bif free lk la then
    match zkY lk (zzA la.frz) os with
    |none=>none
    |some os=>
    zrH lk ρ (zyJ la.frz) os fun oz=>
    match vec lk (fun m=>!lk m && !listed la m) la .normal ρ oz with
    |some (os1,L0,M0,ms)=>
     yL (zL (fun L M=>vO nt an c (zxs la oz.length) (i+1) (hFr la.data la.own (writes c) ρ oz.length L) (hOs la.data la.own la (kill ms os1) oz.length L M) (zyg (zxs la oz.length) oz.length la)) L0 M0)
      (fun id L M=>zgo lk (pairs (zyJ la.frz) os.length) (hOs la.xdata la.xown la (kill ms os1) oz.length L M) fun o3=>K (.exit id) (hFr la.xdata la.xown (writes c) ρ oz.length L) o3)
      (fun L M=>bif qQ c then zgo lk (pairs (zyJ la.frz) os.length) (hOs la.rdata la.rown la (kill ms os1) oz.length L M) fun o3=>K .ret (hFr la.rdata la.rown (writes c) ρ oz.length L) o3 else none)
    |none=>none
   else none
  |none=>none
 | .exit id,_,_,_,ρ,os,K=>K (.exit id) ρ os
 | .ret,_,_,_,ρ,os,K=>K .ret ρ os
 |_,_,_,_,_,_,_=>none
end
def zcK(m:Nat)(N:Nm):Nm:=⟨N.μ,N.n,N.fz,⟨bn (Nat.add N.h.n.toNat m),N.h.t⟩⟩
theorem Zf.bump{E:En}{N:Nm}{os:List PO}(I:Zf E N os)(m:Nat):Zf E (zcK m N) os∧Nx N (zcK m N):=by
 have hn:(zcK m N).h.n.toNat=N.h.n.toNat+m:=zK _;have nx:Nx N (zcK m N):=⟨⟨fun _ _ h _=>h,fun _ _ _ h=>h⟩,LzB _,fun _ _=>rfl⟩;refine⟨⟨fun b y hy=>by rw[hn];have:=I.hw b y hy;omega,⟨by rw[hn];have:=I.gr.le;omega,I.gr.old⟩,fun b hb=>by rw[hn];have:=I.fzlt b hb;omega,I.fzok,I.fzex,I.len,I.own,I.inj,fun k=>(I.obj k).mono nx rfl fun hl b hb=>?_,I.lnk⟩,nx⟩;obtain⟨b',x',h1,h2,h3⟩:=xK hl (I.obj k);rw[h1]at hb;cases hb;exact⟨h2,rfl⟩
section
variable {P:Program} {O:Orc} {tab:Nat→Bool} {Y:Inl} {C:Nat→zg} {E:En} {nt:Nat} {an:Nat→Option LA}
theorem zli{lk okm:Nat→Bool}{la:LA}{b:Zh}{N:Nm}{os os1:List PO}{r:Fr}{ρ:Nat→PA}{L:List DV}{M:List OC}{ms:List (Option Nat)}(I:Zf E N os)(F:∀i,RepPA N (r i) (ρ i))(e:vec lk okm la b ρ os=some (os1,L,M,ms)):
  (∃N1,Fz N N1∧Stp E lk N os [] N1 os1)∧∀m,some m∈ms→okm m=true:=by
 unfold vec at e;cases h1:zyn lk ρ (zx0 la b) os with
 |none=>rw[h1]at e;cases e
 |some q=>
  obtain⟨o1,ds⟩:=q;rw[h1]at e;simp only at e;obtain⟨N1,f1,S1,_⟩:=zd2 I F h1;split at e
  ·rename_i vs ms0 ws h2 h3;cases h4:(qm o1 la.boxes&&zfp okm ms0) with
   |false=>rw[h4]at e;cases e
   |true=>
    rw[h4]at e;cases e;rw[LzC]at h4;refine⟨⟨N1,f1,S1⟩,fun m hm=>?_⟩;obtain⟨i,hi⟩:=Yyk hm;exact(zbo h4.2).1 i m hi
  ·cases e
theorem zq3{lk:Nat→Bool}{n0:Nat}{la:LA}{e e1:Zh}{ρ:Nat→PA}{os:List PO}{L:List DV}{M:List OC}(h:zyg lk n0 la e ρ os=some (e1,L,M)):e=e1∧∃os1 ms,vec lk (fun m=>Nat.ble n0 m) la e ρ os=some (os1,L,M,ms):=by
 unfold zyg at h;split at h
 ·rename_i os1 L' M' ms hv;cases h;exact⟨rfl,os1,ms,hv⟩
 ·cases h
theorem zet(hO:u7 O C)(hY:Zs tab Y C):∀(c:Code) {β γ:Type} {Q:γ→Prop} {x:β} (lk:Nat→Bool) (i:Nat) (ρ:Nat→PA) (os:List PO) (N:Nm) (r:Fr) (K:Zh→(Nat→PA)→List PO→Option β) (kk:Nat→Zh→Fr→Za→Option γ),
  vO P O tab Y nt an c lk i ρ os K=some x→Zf E N os→(∀i,RepPA N (r i) (ρ i))→(∀j,lk j=true→j<os.length)→
  (∀e ρ' os' N' r',K e ρ' os'=some x→Zf E N' os'→(∀i,RepPA N' (r' i) (ρ' i))→Nx N N'→(∀j,lk j=true→og os' j=og os j)→(∀i,i∉writes c→r' i=r i)→Ev (fun n=>kk n e r' N'.h) Q)→
  Ev (fun n=>y6 P nt (C n) n c r N.h (kk n)) Q:=by
 intro c
 induction c with
 |skip=>exact fun lk i ρ os N r K kk e I F hlk H=>H .normal ρ os N r e I F (.refl N) (fun _ _=>rfl) (fun _ _=>rfl)
 |exit id=>exact fun lk i ρ os N r K kk e I F hlk H=>H (.exit id) ρ os N r e I F (.refl N) (fun _ _=>rfl) (fun _ _=>rfl)
 |ret=>exact fun lk i ρ os N r K kk e I F hlk H=>H .ret ρ os N r e I F (.refl N) (fun _ _=>rfl) (fun _ _=>rfl)
 |region id ops draw=>
  intro β γ Q x lk i ρ os N r K kk e I F hlk H;simp only[vO]at e;cases draw with
  |true=>
   simp only[Yza]at e;cases hd:(P.follows .mixedOrders&&zac P ops (zwR ops.toList)) with
   |false=>
    rw[hd]at e;simp only[Yzc]at e;cases hd2:(P.follows .mixedOrders&&uS P ops (zwR ops.toList)) with
    |false=>rw[hd2]at e;cases e
    |true=>
     rw[hd2]at e;simp only[Yza]at e;obtain⟨IB,xB⟩:=I.bump ops.toList.length;have hnB:(zcK ops.toList.length N).h.n.toNat=N.h.n.toNat+ops.toList.length:=zK _;have hno:∀j,N.h.t.get (nm N.h.n.toNat j)=none:=fun j=>by
      cases hx:N.h.t.get (nm N.h.n.toNat j) with
      |none=>rfl
      |some y=>have:=I.hw _ _ hx;rw[yB]at this;omega
     have:(fun n=>y6 P nt (C n) n (.region id ops true) r N.h (kk n))=fun n=>zxp P nt ops (C n) (zwR ops.toList) (zw3 P ops.toList) N.h.n.toNat 0 ops.toList r (zcK ops.toList.length N).h 0 [(zcK ops.toList.length N).h] [] [] (fun r h=>kk n .normal r h):=by
      funext n;simp only[y6,Yza,Yzc,hd,hd2];rfl
     rw[this];have hS:∀(e:Nat) (A:Sn),([(zcK ops.toList.length N,os)]:List Sn)[e]? = some A→A=(zcK ops.toList.length N,os):=fun e A hA=>YzB.1 (Lz3 hA);refine zes hO (n0:=N.h.n.toNat) (kk:=fun n r h=>kk n .normal r h) ops.toList 0 ρ os (zcK ops.toList.length N) r (fun _=>0) [] [] [] true [(zcK ops.toList.length N,os)] (fun _=>[]) [] e IB (fun s=>(F s).mono xB) hlk ⟨[],rfl,rfl⟩
      ⟨I.gr.le,by rw[hnB];exact LzB _,fun p hp=>(by cases hp),fun j _ _=>hno j,fun j y _ hy=>?_⟩ (fun p hp=>by cases hp) rfl (fun e w hw=>by simp at hw) (fun A hA=>by rw[YzB.1 hA];exact IB) (fun A hA j _ _=>by rw[YzB.1 hA];exact hno j)
      ⟨_,rfl,.refl _ _,fun k b h1 h2 _=>absurd h2 (Nat.not_lt.2 h1),fun _=>.refl _ _⟩ (fun s=>⟨YzC _,fun A hA=>by rw[hS _ _ hA];exact(F s).mono xB⟩) (fun y hy=>by cases hy) ⟨fun z hz=>(by cases hz),fun z hz=>(by cases hz),fun z hz=>(by cases hz),fun p hp=>(by cases hp)⟩ (fun n q hq=>by cases hq) fun ρ' os' N' r' h1 h2 h3 h4 h5 h6=>H .normal ρ' os' N' r' h1 h2 h3 (xB.trans h4) h5 h6
     have hy:N.h.t.get (nm N.h.n.toNat j)=some y:=hy;rw[hno j]at hy;cases hy
   |true=>
    rw[hd]at e;simp only[Yza]at e;have:(fun n=>y6 P nt (C n) n (.region id ops true) r N.h (kk n))=fun n=>kDr P nt ops (C n) (zwR ops.toList) (zw4 P ops.toList) 0 ops.toList r N.h [] [] (fun r h=>kk n .normal r h):=by
     funext n;simp only[y6,Yza,hd]
    rw[this];refine zme hO hY (kk:=fun n r h=>kk n .normal r h) ops.toList 0 ρ os N r (fun _=>0) [] [] [] (fun _=>[]) e I F hlk rfl (fun e w hw=>by simp at hw) (fun s=>⟨LzB _,fun A hh=>?_⟩) (fun n q hq=>by cases hq) fun ρ' os' N' r' h1 h2 h3 h4 h5 h6=>H .normal ρ' os' N' r' h1 h2 h3 h4 h5 h6;simp only[YzI,Yzg,Option.some.injEq]at hh;subst hh;exact F s
  |false=>
   simp only[Yzc]at e;have:(fun n=>y6 P nt (C n) n (.region id ops false) r N.h (kk n))=fun n=>zxS P nt ops (C n) ops.toList r N.h (fun r h=>kk n .normal r h):=by
    funext n;simp only[y6,Yzc]
   rw[this];exact zhi hO hY ops.toList ρ os N r e I F hlk fun ρ' os' N' r' h1 h2 h3 h4 h5 h6=>H .normal ρ' os' N' r' h1 h2 h3 h4 h5 h6
 |seq a b iha ihb=>
  intro β γ Q x lk i ρ os N r K kk e I F hlk H;simp only[vO]at e;have:(fun n=>y6 P nt (C n) n (.seq a b) r N.h (kk n))=fun n=>y6 P nt (C n) n a r N.h (zra (fun r h=>y6 P nt (C n) n b r h (kk n)) (kk n)):=by
   funext n;simp only[y6]
  rw[this];refine iha lk i ρ os N r _ (fun n=>zra (fun r h=>y6 P nt (C n) n b r h (kk n)) (kk n)) e I F hlk fun ex ρ1 os1 N1 r1 h1 h2 h3 h4 h5 h6=>?_;have hag:∀r2:Fr,(∀i,i∉writes b→r2 i=r1 i)→∀i,i∉writes (.seq a b)→r2 i=r i:=fun r2 hr i hi=>by
   simp only[writes,Yys,not_or]at hi;rw[hr i hi.2,h6 i hi.1]
  cases ex with
  |normal=>
   refine ihb lk (i+qJ a) ρ1 os1 N1 r1 K kk h1 h2 h3 (fun j hj=>?_) fun e2 ρ2 os2 N2 r2 k1 k2 k3 k4 k5 k6=>H e2 ρ2 os2 N2 r2 k1 k2 k3 (h4.trans k4) (fun j hj=>(k5 j hj).trans (h5 j hj)) (hag r2 k6);have:=h4.le;rw[h2.len,I.len]at this;exact Lz9 (hlk j hj) this
  |exit id=>exact H (.exit id) ρ1 os1 N1 r1 h1 h2 h3 h4 h5 (hag r1 (fun _ _=>rfl))
  |ret=>exact H .ret ρ1 os1 N1 r1 h1 h2 h3 h4 h5 (hag r1 (fun _ _=>rfl))
 |cond c a b iha ihb=>
  intro β γ Q x lk i ρ os N r K kk e I F hlk H;simp only[vO]at e;split at e
  ·rename_i v hv;obtain⟨q,rfl,e⟩:=zf5 e;obtain⟨w,k1,k2⟩:=wM F hv;have hw:=yn k2 (c:=.bool q) rfl;subst hw;have hco:coK r c=some (zu (.s (.one (.bool q)))):=by rw[yy,k1];rfl
   have F':∀i,RepPA N (r i) (refine ρ (zrh c q) i):=by
    cases c with
    |tmp t=>exact zbD F (Option.some.inj k1)
    |_=>exact F
   have run:∀n,y6 P nt (C n) n (.cond c a b) r N.h (kk n)=bif q then y6 P nt (C n) n a r N.h (kk n) else y6 P nt (C n) n b r N.h (kk n):=fun n=>by
    simp only[y6,hco];rfl
   cases q with
   |true=>
    simp only[run,Yza];exact iha lk i _ os N r K kk e I F' hlk fun e2 ρ2 os2 N2 r2 k1 k2 k3 k4 k5 k6=>H e2 ρ2 os2 N2 r2 k1 k2 k3 k4 k5 (fun i hi=>k6 i (fun h=>hi (by simp[writes,h])))
   |false=>
    simp only[run,Yzc];exact ihb lk _ _ os N r K kk e I F' hlk fun e2 ρ2 os2 N2 r2 k1 k2 k3 k4 k5 k6=>H e2 ρ2 os2 N2 r2 k1 k2 k3 k4 k5 (fun i hi=>k6 i (fun h=>hi (by simp[writes,h])))
  ·cases e
 |block id c ih=>
  intro β γ Q x lk i ρ os N r K kk e I F hlk H;simp only[vO]at e;have:(fun n=>y6 P nt (C n) n (.block id c) r N.h (kk n))=fun n=>y6 P nt (C n) n c r N.h (zy0 id (kk n)):=by
   funext n;simp only[y6]
  rw[this];refine ih lk i ρ os N r _ (fun n=>zy0 id (kk n)) e I F hlk fun ex ρ1 os1 N1 r1 h1 h2 h3 h4 h5 h6=>?_;cases ex with
  |normal=>exact H .normal ρ1 os1 N1 r1 h1 h2 h3 h4 h5 h6
  |exit id'=>
   simp only[zAl]at h1;simp only[zy0];cases hq:Nat.beq id' id with
   |true=>rw[hq]at h1;exact H .normal ρ1 os1 N1 r1 h1 h2 h3 h4 h5 h6
   |false=>rw[hq]at h1;exact H (.exit id') ρ1 os1 N1 r1 h1 h2 h3 h4 h5 h6
  |ret=>exact H .ret ρ1 os1 N1 r1 h1 h2 h3 h4 h5 h6
 |loop c ih=>
  intro β γ Q x lk i ρ os N r K kk e I F hlk H;simp only[vO]at e;cases ha:an i with
  |none=>rw[ha]at e;cases e
  |some la=>
   rw[ha]at e;simp only at e;cases hfr:free lk la with
   |false=>rw[hfr]at e;cases e
   |true=>
    rw[hfr]at e;simp only[Yza]at e;have core:∀(K:Zh→(Nat→PA)→List PO→Option β) (os:List PO) (N:Nm),Zf E N os→(∀i,RepPA N (r i) (ρ i))→(∀j,lk j=true→j<os.length)→
      (match vec lk (fun m => !lk m && !listed la m) la .normal ρ os with
       |some (os1,L0,M0,ms)=>
        yL (zL (fun L M=>vO P O tab Y nt an c (zxs la os.length) (i+1) (hFr la.data la.own (writes c) ρ os.length L) (hOs la.data la.own la (kill ms os1) os.length L M) (zyg (zxs la os.length) os.length la)) L0 M0)
         (fun id L M=>K (.exit id) (hFr la.xdata la.xown (writes c) ρ os.length L) (hOs la.xdata la.xown la (kill ms os1) os.length L M))
         (fun L M=>bif qQ c then K .ret (hFr la.rdata la.rown (writes c) ρ os.length L) (hOs la.rdata la.rown la (kill ms os1) os.length L M) else none)
       |none=>none)=some x→
      (∀e ρ' os' N' r',K e ρ' os'=some x→Zf E N' os'→(∀i,RepPA N' (r' i) (ρ' i))→Nx N N'→(∀j,lk j=true→og os' j=og os j)→(∀i,i∉writes (.loop c)→r' i=r i)→Ev (fun n=>kk n e r' N'.h) Q)→
      Ev (fun n=>y6 P nt (C n) n (.loop c) r N.h (kk n)) Q:=by
     clear e hlk F I H N os K;intro K os N I F hlk e H;cases hv:vec lk (fun m=>!lk m && !listed la m) la .normal ρ os with
     |none=>rw[hv]at e;cases e
     |some q=>
      obtain⟨os1,L0,M0,ms⟩:=q;rw[hv]at e;simp only at e;obtain⟨⟨N1,f1,S1⟩,hms⟩:=zli I F hv;have hl1:os1.length=os.length:=by rw[←S1.inv.len,f1.n,I.len]
      have hBl:(kill ms os1).length=os.length:=by rw[zeG,hl1]
      generalize hB:kill ms os1=B at e hBl;rw[←hBl]at e;have hRep:∀k,∃(N':Nm),N'.n=B.length∧RepO N' k (og B k):=fun k=>by
       refine⟨N1,by rw[f1.n,I.len,hBl],?_⟩;rw[←hB];rcases vS ms os1 k with⟨_,h2⟩|⟨_,h2⟩
       ·rw[h2];trivial
       ·rw[h2];exact S1.inv.obj k
      obtain⟨kT,kM,kB,kA⟩:=zlj I F hv;have hkeep:∀k,(∀st v,og os1 k≠mkO st v)→og B k=og os1 k:=fun k hne=>by
       rw[←hB];rcases vS ms os1 k with⟨h1,_⟩|⟨_,h2⟩
       ·obtain⟨st,v,h⟩:=kM k h1;exact absurd h (hne st v)
       ·exact h2
      have hT:∀t,t∈zxj la.own→∃m,og B t=.lnk m:=fun t ht=>by
       obtain⟨m,hm⟩:=kT t ht;exact⟨m,(hkeep t fun st v h=>zhv (h.symm.trans hm)).trans hm⟩
      have hL:∀t m,og B t=.lnk m→∃k v n,k<B.length∧listed la k=false∧og B k=.hol v n t:=fun t m ht=>by
       have ht1:og os1 t=.lnk m:=by
        rw[←hB]at ht;rcases vS ms os1 t with⟨_,h2⟩|⟨_,h2⟩
        ·rw[h2]at ht;cases ht
        ·rw[h2]at ht;exact ht
       obtain⟨k,v,n,hk⟩:=S1.inv.lnk t m ht1;refine⟨k,v,n,by rw[hBl,←hl1];exact un (by rw[hk];intro h;cases h),?_,(hkeep k fun st w h=>zmM (h.symm.trans hk)).trans hk⟩;unfold listed;rw[Yz4,Yz4];refine⟨⟨?_,?_⟩,?_⟩
       ·cases hb:(la.boxes.any fun x=>Nat.beq k x.1) with
        |false=>rfl
        |true=>
         obtain⟨⟨k',n'⟩,h,h'⟩:=List.any_eq_true.1 hb;have:=Lz1 h';simp only at this;subst this;obtain⟨cs,hc⟩:=kB k n' h;rw[hk]at hc;cases hc
       ·cases hb:(la.arrs.any fun x=>Nat.beq k x.1) with
        |false=>rfl
        |true=>
         obtain⟨⟨k',n'⟩,h,h'⟩:=List.any_eq_true.1 hb;have:=Lz1 h';simp only at this;subst this;obtain⟨w,hc⟩:=kA k n' h;exact(zmM (hc.symm.trans hk)).elim
       ·cases hb:((zxj la.own).any fun t=>Nat.beq k t) with
        |false=>rfl
        |true=>
         obtain⟨k',h,h'⟩:=List.any_eq_true.1 hb;have:=Lz1 h';subst this;obtain⟨m',hc⟩:=kT k h;rw[hk]at hc;cases hc
      have hBk:∀k,og B k=.dead∨og B k=og os1 k:=fun k=>by
       rw[←hB];rcases vS ms os1 k with⟨_,h2⟩|⟨_,h2⟩
       ·exact .inl h2
       ·exact .inr h2
      obtain⟨N2,e2h,i2,F2,nx2⟩:=znl (W:=writes c) I F hv (I.len.trans hBl.symm) (.refl N) F (fun _ _=>rfl)
       (fun k hk hul=>(hBk k).imp id fun h=>⟨h,hRep k⟩) hT hL
       (fun m hm hmB => by
        have hm':=hms m hm;rw[LzC,YzN,YzN]at hm';refine⟨?_,hm'.2⟩;rw[←hB];rcases vS ms os1 m with⟨_,h2⟩|⟨h1,_⟩
        ·rw[h2];exact fun h=>h
        ·exact absurd hm h1)
      simp only[zx0,zxZ]at i2 F2;have hlp:∃ex Lx Mx n,ex≠.normal∧ww (fun L M=>vO P O tab Y nt an c (zxs la B.length) (i+1) (hFr la.data la.own (writes c) ρ B.length L) (hOs la.data la.own la B B.length L M) (zyg (zxs la B.length) B.length la)) n L0 M0=some (ex,Lx,Mx)∧
        K ex (hFr (zx0 la ex) (zxZ la ex) (writes c) ρ B.length Lx) (hOs (zx0 la ex) (zxZ la ex) la B B.length Lx Mx)=some x:=by
       cases hp:zL (fun L M=>vO P O tab Y nt an c (zxs la B.length) (i+1) (hFr la.data la.own (writes c) ρ B.length L) (hOs la.data la.own la B B.length L M) (zyg (zxs la B.length) B.length la)) L0 M0 with
       |none=>rw[hp]at e;cases e
       |some q=>
        obtain⟨ex,Lx,Mx⟩:=q;rw[hp]at e;obtain⟨n,hn⟩:=zbT.1 hp;cases ex with
        |normal=>cases e
        |exit id=>exact⟨.exit id,Lx,Mx,n,by simp,hn,e⟩
        |ret=>
         simp only[yL]at e;cases hR:qQ c with
         |false=>rw[hR]at e;cases e
         |true=>rw[hR]at e;exact⟨.ret,Lx,Mx,n,by simp,hn,e⟩
      obtain⟨ex,Lx,Mx,n,hne,hpl,hK⟩:=hlp;have run:(fun n=>y6 P nt (C n) n (.loop c) r N.h (kk n))=fun n=>bindX (zbj ((fun n ys h=>y6 P nt (C n) n c (zxQ (writes c) 0 r ys) h (fun e s h=>some (e,(writes c).map s,h))) n) n ((writes c).map r) N.h)
        (fun id ys h=>kk n (.exit id) (zxQ (writes c) 0 r ys) h) (fun ys h=>kk n .ret (zxQ (writes c) 0 r ys) h):=by
       funext n;simp only[y6]
      rw[run];refine Ev.bindX ((Ev.loop (Q:=fun p=>p.1=ex∧∃N' r',p.2.1=(writes c).map r'∧(∀i,i∉writes c→r' i=r i)∧N'.h=p.2.2∧Zf E N' (hOs (zx0 la ex) (zxZ la ex) la B B.length Lx Mx)∧(∀i,RepPA N' (r' i) (hFr (zx0 la ex) (zxZ la ex) (writes c) ρ B.length Lx i))∧Nx N N')
       (fun k ys h => ∃ L M N' r', ww (fun L M => vO P O tab Y nt an c (zxs la B.length) (i + 1) (hFr la.data la.own (writes c) ρ B.length L) (hOs la.data la.own la B B.length L M) (zyg (zxs la B.length) B.length la)) k L M = some (ex, Lx, Mx) ∧
        ys=(writes c).map r'∧(∀i,i∉writes c→r' i=r i)∧N'.h=h∧Zf E N' (hOs la.data la.own la B B.length L M)∧(∀i,RepPA N' (r' i) (hFr la.data la.own (writes c) ρ B.length L i))∧Nx N N')
       ?_ n _ _ ⟨L0,M0,N2,r,hpl,rfl,fun _ _=>rfl,e2h,i2,F2,nx2⟩).mono ?_)
      ·rintro k ys h ⟨L,M,N',r',h1,rfl,h3,rfl,h5,h6,h7⟩
       cases k with
       |zero=>cases h1
       |succ k=>
        have hstep:∃e1 L1 M1,vO P O tab Y nt an c (zxs la B.length) (i+1) (hFr la.data la.own (writes c) ρ B.length L) (hOs la.data la.own la B B.length L M) (zyg (zxs la B.length) B.length la)=some (e1,L1,M1)∧
          ((e1=.normal∧ww (fun L M=>vO P O tab Y nt an c (zxs la B.length) (i+1) (hFr la.data la.own (writes c) ρ B.length L) (hOs la.data la.own la B B.length L M) (zyg (zxs la B.length) B.length la)) k L1 M1=some (ex,Lx,Mx))∨(e1≠.normal∧e1=ex∧L1=Lx∧M1=Mx)):=by
         simp only[ww]at h1;split at h1
         ·rename_i L' M' hb;exact⟨.normal,L',M',hb,.inl ⟨rfl,h1⟩⟩
         ·rename_i hnn;exact⟨ex,Lx,Mx,h1,.inr ⟨hne,rfl,rfl,rfl⟩⟩
        obtain⟨e1,L1,M1,hb,hor⟩:=hstep;have hmix:zxQ (writes c) 0 r ((writes c).map r')=r':=zce h3;simp only[hmix];refine ih (zxs la B.length) (i+1) _ _ N' r' _ (fun n e s h=>some (e,(writes c).map s,h)) hb h5 h6 (fun j hj=>Lz9 (zrZ hj).1 (zsF rfl)) fun e3 ρ3 os3 N3 r3 k1 k2 k3 k4 k5 k6=>?_;obtain⟨rfl,os1',ms',hv'⟩:=zq3 k1;obtain⟨⟨N1',f1',S1'⟩,hms'⟩:=zli k2 k3 hv';have hag:∀i,i∉writes c→r3 i=r i:=fun i hi=>(k6 i hi).trans (h3 i hi);obtain⟨N4,g1,g2,g3,g4⟩:=znl (W:=writes c) k2 k3 hv' (I.len.trans hBl.symm) (h7.trans k4) F hag
         (fun k hk hul => by
          have hlkk:zxs la B.length k=true:=by
           unfold zxs;rw[hul,Yzm hk];rfl
          refine .inr ⟨?_,hRep k⟩;rw[S1'.lock k hlkk,k5 k hlkk,jG hk hul]) hT hL
         (fun m hm hmB => by
          have:=Lz4 (hms' m hm);omega)
        refine Ev.some ?_;rcases hor with⟨rfl,hrest⟩|⟨hn1,rfl,rfl,rfl⟩
        ·exact⟨k,YyC k,L1,M1,N4,r3,hrest,rfl,hag,g1,g2,g3,g4⟩
        ·cases e3 with
         |normal=>exact absurd rfl hn1
         |exit id=>exact⟨rfl,N4,r3,rfl,hag,g1,g2,g3,g4⟩
         |ret=>exact⟨rfl,N4,r3,rfl,hag,g1,g2,g3,g4⟩
      ·rintro⟨e4,ys,h4⟩ ⟨hex,N',r',hys,hag,hh,i4,F4,nx4⟩
       simp only at hex hys hh;subst hex hys hh;have hmix:zxQ (writes c) 0 r ((writes c).map r')=r':=zce hag;have hfin:=H e4 _ _ N' r' hK i4 F4 nx4 (fun j hj=>by
        have hj1:=hlk j hj;have hul:listed la j=false:=by
         unfold free at hfr;rw[LzC,LzC,Yz1,Yz1,Yz1]at hfr;unfold listed;rw[Yz4,Yz4];refine⟨⟨?_,?_⟩,?_⟩
         ·cases hb:(la.boxes.any fun x=>Nat.beq j x.1) with
          |false=>rfl
          |true=>
           obtain⟨y,h,h'⟩:=List.any_eq_true.1 hb;have:=hfr.1.1 y h;rw[←Lz1 h',hj]at this;cases this
         ·cases hb:(la.arrs.any fun x=>Nat.beq j x.1) with
          |false=>rfl
          |true=>
           obtain⟨y,h,h'⟩:=List.any_eq_true.1 hb;have:=hfr.1.2 y h;rw[←Lz1 h',hj]at this;cases this
         ·cases hb:((zxj la.own).any fun t=>Nat.beq j t) with
          |false=>rfl
          |true=>
           obtain⟨y,h,h'⟩:=List.any_eq_true.1 hb;have:=hfr.2 y h;rw[←Lz1 h',hj]at this;cases this
        rw[jG (by rw[hBl];exact hj1) hul,←hB];rcases vS ms os1 j with⟨h1,_⟩|⟨_,h2⟩
        ·have:=hms j h1;rw[hj]at this;cases this
        ·rw[h2];exact S1.lock j hj) hag
       cases e4 with
       |normal=>exact absurd rfl hne
       |exit id=>simp only[hmix];exact hfin
       |ret=>simp only[hmix];exact hfin
    cases hfa:zkY lk (zzA la.frz) os with
    |none=>rw[hfa]at e;cases e
    |some os0=>
     rw[hfa]at e;obtain⟨Nz,fz0,Sz⟩:=zjp I hfa;have hl0:∀j,lk j=true→j<os0.length:=fun j hj=>by
      have:=Sz.inv.len;rw[fz0.n,I.len]at this;rw[←this];exact hlk j hj
     obtain⟨oz,No,e,Vo⟩:=ziR Sz.inv (fun i=>(F i).mono Sz.nx) hl0 e;rw[←fz0.h,←Vo.h];refine core (fun ex ρ' o2=>zgo lk (pairs (zyJ la.frz) os0.length) o2 fun o3=>K ex ρ' o3) oz No Vo.inv (fun i=>((F i).mono Sz.nx).mono Vo.nx) (fun j hj=>Lz9 (hl0 j hj) Vo.le) e fun e ρ' os' N' r' a1 a2 a3 a4 a5 a6=>?_;obtain⟨o3,N3,b1,V3⟩:=zgn a2 a1;rw[←V3.h];exact H e ρ' o3 N3 r' b1 V3.inv (fun i=>(a3 i).mono V3.nx) (((Sz.nx.trans Vo.nx).trans a4).trans V3.nx) (fun j hj=>(V3.lock j hj).trans ((a5 j hj).trans ((Vo.lock j hj).trans (Sz.lock j hj)))) a6
 |_=>
  intro β γ Q x lk i ρ os N r K kk e;simp only[vO]at e;cases e
end
end Go.PE
end
