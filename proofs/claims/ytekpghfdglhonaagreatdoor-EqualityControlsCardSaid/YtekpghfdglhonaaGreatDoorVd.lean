/-
  Lemmas: PEi, PEj, PEk, PEl, PEo, PEp, PEq, PEr, PEs, PEt, PEm, PEn, PEna, PEu, PEv, PEw, PEx, PEy. No condition.
-/
import Derived.Test.YtekpghfdglhonaaGreatDoorVc
section
namespace Go.PE
open Go Go.CE
section
variable {β:Type} {C:Nat→zh} {E:En} {lk:Nat→Bool} {N:Nm} {os:List PO} {r:Fr} {ρ:Nat→PA} {k:KT β} {x:β}
theorem zjU:∀(l:List (BN×Nat)),ptrs .nil (cL (l.map fun(p:BN×Nat)=>AVal.s (.one (.ptr p.1 p.2))))=some l
 | []=>rfl
 |p::l=>by
  show (match (zr (.s (.one (.ptr p.1 p.2))):Opd) .nil with | .s (.one (.ptr b off))=>xW (b,off) (ptrs .nil (cL (l.map fun(p:BN×Nat)=>AVal.s (.one (.ptr p.1 p.2)))))|_=>none)=_
  simp only[zr,zjU l,xW]
theorem zdV(F:∀i,RepPA N (r i) (ρ i)):∀{xs:List Operand} {l:List (Nat⊕List DV)},zlx ρ xs=some l→∃ps:List (BN×Nat),kvs r xs=some (ps.map fun(p:BN×Nat)=>AVal.s (.one (.ptr p.1 p.2)))∧RepCaps N ps l
 | [],l,e=>by cases e;exact⟨[],rfl,trivial⟩
 |a::xs,l,e=>by
  simp only[zlx]at e;split at e
  ·rename_i j l' h1 h2;cases e;obtain⟨v,ka,ra⟩:=wq F h1;obtain⟨ps,k1,k2⟩:=zdV F h2;obtain⟨w,rfl,hj,b,hb,rfl⟩:=yl ra;exact⟨(b,0)::ps,by simp only[kvs,ka,k1,List.map_cons],⟨hj,hb,rfl⟩,k2⟩
  ·rename_i y l' h1 h2;cases e;obtain⟨v,ka,ra⟩:=wq F h1;obtain⟨ps,k1,k2⟩:=zdV F h2;obtain⟨w,rfl,hw⟩:=wt ra;have hw':=hw;obtain⟨b,o,base,cs,rfl,_⟩:=hw.fp_inv;exact⟨(b,base+0)::ps,by simp only[kvs,ka,k1,List.map_cons],hw',k2⟩
  ·cases e
theorem zn3(I:InvO E N os)(F:∀i,RepPA N (r i) (ρ i)){f:Nat}{caps:List Operand} (e:za (zlx ρ caps) (fun l=>
  match l with
  | []=>k (pd (.fn f [])) os [] []
  |x::l=>k (pc (.clo f (x::l))) os [] [])=some x):GoalQ N os r ρ (.mkfn f caps) k x:=by
 have hh:=zj e;clear e;obtain⟨l,hl,e⟩:=hh;obtain⟨ps,k1,k2⟩:=zdV F hl;have run:∀call,runK r (.mkfn f caps) call N.h=some (.s (.one (.fn f ps)),N.h):=fun call=>by
  simp only[runK,k1];show (match ptrs .nil (cL (ps.map fun(p:BN×Nat)=>AVal.s (.one (.ptr p.1 p.2)))) with|some l=>some (AVal.s (.one (.fn f l)),N.h)|none=>none)=_
  rw[zjU]
 cases l with
 |nil=>
  cases ps with
  |nil=>exact .quiet I run (vQ (.fn_mk (.nil _ _))) e
  |cons p ps=>exact k2.elim
 |cons a l=>exact .quiet I run (y7 (p:=.clo f (a::l)) ⟨ps,rfl,k2⟩) e
theorem zhd{fz:BN→Prop}{h:AHeap}:∀{xs:List (List DV)} {cs:List CVal} {ns:List Int},ziz xs=some ns→cs.length=xs.length→(∀(i:Nat) (x:List DV),xs[i]? = some x→RepL fz h ((cs.drop i).take 1) x)→qX cs=some ns
 | [],cs,ns,e,hl,_=>by
  cases e;rw[List.length_eq_zero_iff.1 hl];rfl
 |x::xs,cs,ns,e,hl,H=>by
  unfold ziz at e;split at e
  ·rename_i h;cases h
  ·rename_i n cs' h;cases h;cases hn:ziz xs with
   |none=>rw[hn]at e;cases e
   |some l=>
    rw[hn]at e;cases e;cases cs with
    |nil=>simp at hl
    |cons c cs=>
     have h0:=H 0 _ rfl;simp only[List.drop_zero,List.take_succ_cons,List.take_zero]at h0;have:=(h0.inv.1).scal rfl;subst this;have ih:=zhd hn (by simpa using hl) (fun i y hy=>by have:=H (i+1) y (by simpa using hy);simpa using this)
     show xW n (qX cs)=_;rw[ih];rfl
  ·cases e
theorem zom{fz:BN→Prop}{h:AHeap}{w:CVal}{v z:DV}(H:Rep fz h w v)(e:pB2s v=some z):∃c,kH (zr (.s (.one w))) yh .nil h=some (.s (.one c),h)∧z.scal=some c:=by
 unfold pB2s at e;split at e
 ·cases e;rw[H.scal rfl];exact⟨_,rfl,rfl⟩
 ·rename_i xs;cases hn:ziz xs with
  |none=>rw[hn]at e;cases e
  |some ns=>
   rw[hn]at e;cases e;obtain⟨b,o,off,cap,ex,cs,rfl,h1,h2,h3,h4,h5⟩:=H.lst_inv;have hns:=zhd (cs:=cs) hn (by rw[zce h4];omega) fun i x hx=>by
    have:=(h5 i x hx).2
    rwa [Nat.mul_one]at this
   refine⟨_,?_,rfl⟩;rw[Nat.mul_one]at h4;show (match h.t.get b with
    |some (.cells cs _)=>retS h (cut xs.length cs off)
    |some (.ro _ f)=>retS h (cutF f xs.length off)
    |some (.tcells cs _ _)=>retS h (cut xs.length cs off)
    |some .void=>retS h (bif Nat.beq xs.length 0 then some [] else none)
    |_=>none)=_
   rw[h2];cases o with
   |cells l st=>show retS h (cut xs.length l off)=_;rw[show cut xs.length l off=some cs from h4];simp only[retS,hns]
   |ro y f=>show retS h (cutF f xs.length off)=_;rw[show cutF f xs.length off=some cs from h4];simp only[retS,hns]
   |void=>show retS h (bif Nat.beq xs.length 0 then some [] else none)=_;rw[show (bif Nat.beq xs.length 0 then some [] else none)=some cs from h4];simp only[retS,hns]
   |_=>cases h4
 ·cases e
theorem zrg(I:InvO E N os)(F:∀i,RepPA N (r i) (ρ i)){a:Operand} (e:w1 (pv ρ a) (fun c=>
  match c with
  | .d v=>za (pB2s v) fun z=>k (pd z) os [] []
  | .own j=>
   match og os j with
   | .arr st v=>za (pB2s (mkL st v)) fun z=>k (pd z) os [] [j]
   |_=>none
  |_=>none)=some x):GoalQ N os r ρ (.b2s a) k x:=by
 have hh:=ug F e;clear e;obtain⟨c,v,e,ka,ra,pka⟩:=hh;cases c<;>first|cases e|skip
 ·rename_i d;simp only at e;have hh:=zj e;clear e;obtain⟨z,hz,e⟩:=hh;obtain⟨w,rfl,hw⟩:=wt ra;obtain⟨c,h1,h2⟩:=zom hw hz;refine .quiet I (fun call=>by simp only[runK,ka,zC];exact h1) (yG h2) e (hm:=fun xo hx=>?_)
  cases hx;refine⟨_,ka,?_⟩;cases hw with
  |lst cs g1 g2=>
   refine .inr ⟨_,rfl,.inr ⟨rfl,fun N' H=>?_⟩⟩
   obtain⟨w',hw',hr'⟩:=wt (H _ _ ka pka);cases hw';obtain⟨b2,o2,off2,cap2,ex2,cs2,q1,q2,q3,_⟩:=hr'.lst_inv;cases q1;exact⟨q2,_,q3⟩
  |nils=>exact .inl rfl
  |_=>cases hz
 ·rename_i j;simp only at e;obtain⟨c,rfl,hj,hc⟩:=yl ra;cases ho:og os j with
  |arr st vo=>
   rw[ho]at e;simp only at e;have hh:=zj e;clear e;obtain⟨z,hz,e⟩:=hh;have hO:=I.obj j;rw[ho]at hO;have:=zgA (fz':=fun _=>True) ⟨fun _ _ _ _=>trivial,fun _ _ _ h=>h⟩ hO (fun _ _ _=>trivial)
   obtain⟨c',h1,h2⟩:=zom this hz;refine .quiet I (fun call=>by simp only[runK,ka,zC];rw[hc];exact h1) (yG h2) e (hm:=fun xo hx=>?_)
   cases hx;refine⟨_,ka,?_⟩;cases vo with
   |none=>exact .inl (by rw[hc,show N.μ j=.nils from hO];rfl)
   |some xs=>
    obtain⟨b,vs,ex,q1,_⟩:=hO;exact .inr ⟨b,by rw[hc,q1];rfl,.inl ⟨j,rfl,hj,by rw[q1];rfl,by rw[ho];trivial,fun N' H=>(yl (H _ _ ka pka)).elim fun _ q=>q.2.1⟩⟩
  |_=>rw[ho]at e;cases e
theorem zoi{t:Tr AVal}{x:Option DV}{o:Option AVal}{d y y' i:Nat}(hx:∀v,x=some v→∃w,o=some w∧RepPA N w (pd v))(hn:x=none→o=none)(e:bndD x d y=some i)(hy:y≤y'):bnd t (cO o) d y'=some i:=by
 refine ue hx hn ?_;cases x with
 |none=>exact e
 |some v=>
  cases v<;>first|cases e|skip
  rename_i kk n;cases n with
  |negSucc n=>cases e
  |ofNat n=>
   simp only[bndD]at e ⊢;cases hb:Nat.ble n y with
   |false=>rw[hb]at e;cases e
   |true=>
    rw[hb]at e;have:=Lz4 hb;rw[Nat.ble_eq_true_of_le (by omega:n≤y')]
    exact e
theorem qN{x:Option DV}{d y i:Nat}(e:bndD x d y=some i)(hd:d≤y):i≤y:=by
 cases x with
 |none=>cases e;exact hd
 |some v=>
  cases v<;>first|cases e|skip
  rename_i kk n;cases n with
  |negSucc n=>cases e
  |ofNat n=>
   simp only[bndD]at e;cases hb:Nat.ble n y with
   |false=>rw[hb]at e;cases e
   |true=>rw[hb]at e;cases e;exact Lz4 hb
theorem zms{st:Nat}{w:CVal}{v z:DV}{lo hi:Option DV}{ol oh:Option AVal}(H:Rep N.fz N.h w v)(l1:∀v,lo=some v→∃w,ol=some w∧RepPA N w (pd v))(l2:lo=none→ol=none)(h1:∀v,hi=some v→∃w,oh=some w∧RepPA N w (pd v))(h2:hi=none→oh=none)
  (e:uE st v lo hi=some z):∃c,ux st (.s (.one w)) ol oh none N.h=some (.s (.one c),N.h)∧Rep N.fz N.h c z:=by
 unfold uE at e;split at e
 ·split at e
  ·rename_i a b ha hb;cases e;rw[H.scal rfl];refine⟨.nils,?_,.nils⟩;show xu (cO ol) (cO oh) (cO none) .nil N.h=_;unfold xu;rw[ue h1 h2 ha,ue l1 l2 hb];rfl
  ·cases e
 ·rename_i st' xs;cases hs:Nat.beq st st' with
  |false=>rw[hs]at e;cases e
  |true=>
   rw[hs]at e;have:=Lz1 hs;subst this;simp only[cond_true]at e;cases hh:bndD hi xs.length xs.length with
   |none=>rw[hh]at e;cases e
   |some y=>
    rw[hh]at e;simp only at e;cases hl:bndD lo 0 y with
    |none=>rw[hl]at e;cases e
    |some l=>
     rw[hl]at e;simp only at e;cases hc:(Nat.beq l 0 || !Nat.beq l y) with
     |false=>rw[hc]at e;cases e
     |true=>
      rw[hc]at e;cases e;obtain⟨b,o,off,cap,ex,cs,rfl,g1,g2,g3,g4,g5⟩:=H.lst_inv;have hy:=qN hh (LzB _);have hly:=qN hl (Nat.zero_le _);have hlen:((xs.drop l).take (y-l)).length=y-l:=by simp;omega
      have ml:l*st≤y*st:=Nat.mul_le_mul_right st hly;have my:y*st≤xs.length*st:=Nat.mul_le_mul_right st hy;have rep:∀(cap':Nat) (ex':Bool),(ex'=true→y-l≤cap')→Rep N.fz N.h (.slc b (off+l*st) (y-l) cap' ex') (.lst st ((xs.drop l).take (y-l))):=by
       intro cap' ex' hcap;have:=Rep.lst_mk (off:=off+l*st) (cap:=cap') (ex:=ex') (xs:=(xs.drop l).take (y-l)) (cs:=(cs.drop (l*st)).take ((y-l)*st)) g1 g2 (by rw[hlen];exact hcap)
        (by rw [hlen]; exact zcd g4 (by rw [Nat.mul_sub_right_distrib]; omega)) (fun i z hz => by
         rw[List.getElem?_take]at hz;split at hz
         ·rename_i hi;rw[List.getElem?_drop]at hz;obtain⟨q1,q2⟩:=g5 _ _ hz;refine⟨q1,?_⟩;have e1:List.take st (List.drop (i*st) (List.take ((y-l)*st) (List.drop (l*st) cs)))=List.take st (List.drop ((l+i)*st) cs):=by
           have:=Nat.mul_le_mul_right st (show i+1≤y-l from hi)
           rw[Nat.succ_mul]at this;rw[List.drop_take,List.drop_drop,List.take_take,Nat.add_mul,Nat.min_eq_left (by omega)]
          rw[e1];exact q2
         ·cases hz)
       rwa [hlen]at this
      cases ex with
      |true=>
       have hcap:=g3 rfl;have run:ux st (.s (.one (.slc b off xs.length cap true))) ol oh none N.h=some (.s (.one (.slc b (bif Nat.beq cap l then off else off+l*st) (y-l) (cap-l) true)),N.h):=by
        show xd st (cO ol) (cO oh) (cO none) .nil N.h b off xs.length cap=_;unfold xd;have hm:bnd .nil (cO none) cap cap=some cap:=(id rfl);rw[hm];simp only;rw[zoi h1 h2 hh hcap];simp only;rw[ue l1 l2 hl];simp only;rw[Nat.ble_eq_true_of_le (by omega:y≤cap)]
        rfl
       refine⟨_,run,?_⟩;cases hq:Nat.beq cap l with
       |false=>exact rep _ _ (fun _=>by omega)
       |true=>
        have hq:=Lz1 hq;have hly2:l=y:=by omega
        have hl0:l=0:=by
         rw[Bool.or_eq_true]at hc;rcases hc with hc|hc
         ·exact Lz1 hc
         ·rw[hly2,Nat.beq_refl]at hc;cases hc
        have:=rep (cap-l) true (fun _=>by omega)
        rw[show off+l*st=off by rw[hl0];omega]at this
        exact this
      |false=>
       have run:ux st (.s (.one (.slc b off xs.length cap false))) ol oh none N.h=some (.s (.one (.slc b (off+l*st) (y-l) (cap+l) false)),N.h):=by
        show y9 st (cO ol) (cO oh) (cO none) .nil N.h b off xs.length cap=_;unfold y9;show (match bnd .nil (cO oh) xs.length xs.length with
         |some hh=>match bnd .nil (cO ol) 0 hh with
          |some l=>bif Nat.beq l 0 || !Nat.beq l hh then some (AVal.s (.one (.slc b (off+l*st) (hh-l) (cap+l) false)),N.h) else none
          |none=>none
         |none=>none)=_
        rw[ue h1 h2 hh];simp only;rw[ue l1 l2 hl];simp only;rw[hc];rfl
       exact⟨_,run,rep _ _ (fun h=>by cases h)⟩
 ·cases e
theorem zc6(zs:List CVal):∀n,(repl zs n).length=n*zs.length
 |0=>by simp[repl]
 |n+1=>by rw[repl,List.length_append,zc6 zs n,Nat.succ_mul,Nat.add_comm]
theorem zc7(zs:List CVal):∀(n i:Nat),i<n→((repl zs n).drop (i*zs.length)).take zs.length=zs
 |0,i,h=>by omega
 |n+1,0,_=>by simp[repl]
 |n+1,i+1,h=>by
  rw[repl,Nat.succ_mul,Nat.add_comm,←List.drop_drop];rw[List.drop_left];exact zc7 zs n i (by omega)
theorem zbZ{st off len cap l n:Nat}{ex:Bool}{b:BN}{lo hi:Option DV}{ol oh:Option AVal}(hex:ex=true→len≤cap)(l1:∀v,lo=some v→∃w,ol=some w∧RepPA N w (pd v))(l2:lo=none→ol=none)(h1:∀v,hi=some v→∃w,oh=some w∧RepPA N w (pd v))(h2:hi=none→oh=none)
  (e:vwB lo hi len=some (l,n)) (h:AHeap):l+n≤len∧∃cap' ex',ux st (.s (.one (.slc b off len cap ex))) ol oh none h=some (.s (.one (.slc b (off+l*st) n cap' ex')),h)∧(ex'=true→n≤cap'):=by
 unfold vwB at e;cases hh:bndD hi len len with
 |none=>rw[hh]at e;cases e
 |some y=>
  rw[hh]at e;simp only at e;cases hl:bndD lo 0 y with
  |none=>rw[hl]at e;cases e
  |some l0=>
   rw[hl]at e;simp only at e;cases hc:(Nat.beq l0 0 || !Nat.beq l0 y) with
   |false=>rw[hc]at e;cases e
   |true=>
    rw[hc]at e;cases e;have hy:=qN hh (LzB _);have hly:=qN hl (Nat.zero_le _);refine⟨by omega,?_⟩
    cases ex with
    |true=>
     have hcap:=hex rfl;have run:ux st (.s (.one (.slc b off len cap true))) ol oh none h=some (.s (.one (.slc b (bif Nat.beq cap l then off else off+l*st) (y-l) (cap-l) true)),h):=by
      show xd st (cO ol) (cO oh) (cO none) .nil h b off len cap=_;unfold xd;have hm:bnd .nil (cO none) cap cap=some cap:=(id rfl);rw[hm];simp only;rw[zoi h1 h2 hh hcap];simp only;rw[ue l1 l2 hl];simp only;rw[Nat.ble_eq_true_of_le (by omega:y≤cap)]
      rfl
     refine⟨cap-l,true,run.trans ?_,fun _=>by omega⟩
     cases hq:Nat.beq cap l with
     |false=>rfl
     |true=>
      have hq:=Lz1 hq;have hly2:l=y:=by omega
      have hl0:l=0:=by
       rw[Bool.or_eq_true]at hc;rcases hc with hc|hc
       ·exact Lz1 hc
       ·rw[hly2,Nat.beq_refl]at hc;cases hc
      rw[hl0,Nat.zero_mul];rfl
    |false=>
     refine⟨cap+l,false,?_,fun h=>by cases h⟩
     show y9 st (cO ol) (cO oh) (cO none) .nil h b off len cap=_;unfold y9;show (match bnd .nil (cO oh) len len with
      |some hh=>match bnd .nil (cO ol) 0 hh with
       |some l=>bif Nat.beq l 0 || !Nat.beq l hh then some (AVal.s (.one (.slc b (off+l*st) (hh-l) (cap+l) false)),h) else none
       |none=>none
      |none=>none)=_
     rw[ue h1 h2 hh];simp only;rw[ue l1 l2 hl];simp only;rw[hc];rfl
theorem zb0{st l n:Nat}{lo hi:Option DV}{ol oh:Option AVal}(l1:∀v,lo=some v→∃w,ol=some w∧RepPA N w (pd v))(l2:lo=none→ol=none)(h1:∀v,hi=some v→∃w,oh=some w∧RepPA N w (pd v))(h2:hi=none→oh=none)
  (e:vwB lo hi 0=some (l,n)) (h:AHeap):l=0∧n=0∧ux st (.s (.one .nils)) ol oh none h=some (.s (.one .nils),h):=by
 unfold vwB at e;cases hh:bndD hi 0 0 with
 |none=>rw[hh]at e;cases e
 |some y=>
  have hy:=qN hh (LzB _);obtain rfl:y=0:=by omega
  rw[hh]at e;simp only at e;cases hl:bndD lo 0 0 with
  |none=>rw[hl]at e;cases e
  |some l0=>
   have hy:=qN hl (LzB _);obtain rfl:l0=0:=by omega
   rw[hl]at e;cases e;refine⟨rfl,rfl,?_⟩;show xu (cO ol) (cO oh) (cO none) .nil h=_;unfold xu;rw[ue h1 h2 hh,ue l1 l2 hl];rfl
theorem zkc(I:InvO E N os)(F:∀i,RepPA N (r i) (ρ i)){st:Nat}{a:Operand}{lo hi mx:Option Operand} (e:(match mx with
  |none=>w1 (pv ρ a) fun c=>za (pvo ρ lo) fun lo=>za (pvo ρ hi) fun hi=>zde os st c lo hi k
  |some _=>none)=some x):GoalQ N os r ρ (.slice st a lo hi mx) k x:=by
 cases mx with
 |some m=>cases e
 |none=>
  simp only at e;have hh:=ug F e;clear e;obtain⟨c,v,e,ka,ra,pka⟩:=hh;have hq:=zj e;clear e;obtain⟨l,hl,e⟩:=hq;have hq:=zj e;clear e;obtain⟨h,hh,e⟩:=hq;obtain⟨ol,kl,l1,l2⟩:=zgY F hl;obtain⟨oh,kh,h1,h2⟩:=zgY F hh;have run:∀call,runK r (.slice st a lo hi none) call N.h=ux st v ol oh none N.h:=fun call=>by
   show zC (kv r a) (fun x=>match kvo r lo,kvo r hi,(some none:Option (Option AVal)) with|some lo,some hi,some mx=>ux st x lo hi mx N.h|_,_,_=>none)=_
   rw[ka,kl,kh];rfl
  have data:∀(w:CVal) (d:DV),v=.s (.one w)→Rep N.fz N.h w d→za (uE st d l h) (fun z=>k (pd z) os [] [])=some x→GoalQ N os r ρ (.slice st a lo hi none) k x:=by
   intro w d hv hw e;have hq:=zj e;clear e;obtain⟨z,hz,e⟩:=hq;obtain⟨c',q1,q2⟩:=zms hw l1 l2 h1 h2 hz;exact .quiet I (v:=.s (.one c')) (fun call=>by rw[run,hv];exact q1) (vQ q2) e
  cases c with
  |d d=>
   obtain⟨w,hv,hw⟩:=wt ra;exact data w d hv hw e
  |own j=>
   obtain⟨w,hv,hj,hw⟩:=yl ra;simp only[zde]at e;cases ho:og os j with
   |frz d=>
    rw[ho]at e;have hO:=I.obj j;rw[ho]at hO;exact data w d hv (by rw[hw];exact hO) e
   |arr st' vo=>
    rw[ho]at e;simp only at e;cases hs:Nat.beq st st' with
    |false=>rw[hs]at e;cases e
    |true=>
     rw[hs]at e;have:=Lz1 hs;subst this;simp only[cond_true]at e;have hq:=zj e;clear e;obtain⟨⟨p1,p2⟩,hp,e⟩:=hq;cases vo with
     |none=>
      have hO:=I.obj j;rw[ho]at hO;have hO:N.μ j=.nils:=hO;obtain⟨rfl,rfl,q⟩:=zb0 (st:=st) l1 l2 h1 h2 hp N.h;exact .quiet I (v:=.s (.one .nils)) (fun call=>by rw[run,hv,hw,hO];exact q) (y7 (p:=.vw j st 0 0) ⟨hj,.inl ⟨hO,rfl,rfl,rfl⟩⟩) e
     |some xs=>
      obtain⟨b,vs,ex,g1,_⟩:=zbO I ho;obtain⟨q0,cap',ex',q1,q2⟩:=zbZ (st:=st) (off:=0) (b:=b) (cap:=bif ex then xs.length else 0) (ex:=ex) (fun h=>by rw[h];exact LzB _) l1 l2 h1 h2 hp N.h
      refine .quiet I (v:=.s (.one (.slc b (p1*st) p2 cap' ex'))) (fun call=>?_) (y7 (p:=.vw j st p1 p2) ⟨hj,.inr ⟨b,_,_,_,cap',ex',g1,rfl,q0,q2⟩⟩) e
      rw[run,hv,hw,g1];rw[Nat.zero_add]at q1;exact q1
   |_=>rw[ho]at e;cases e
  |vw j st' lo2 n2=>
   obtain⟨w,hv,hj,hw⟩:=yl ra;simp only[zde]at e;cases hs:Nat.beq st st' with
   |false=>rw[hs]at e;cases e
   |true=>
    rw[hs]at e;have:=Lz1 hs;subst this;simp only[cond_true]at e;have hq:=zj e;clear e;obtain⟨⟨p1,p2⟩,hp,e⟩:=hq;rcases hw with⟨g1,rfl,rfl,rfl⟩|⟨b,l0,cap,ex,cap',ex',g1,rfl,g2,g3⟩
    ·obtain⟨rfl,rfl,q⟩:=zb0 (st:=st) l1 l2 h1 h2 hp N.h;exact .quiet I (v:=.s (.one .nils)) (fun call=>by rw[run,hv];exact q) (y7 (p:=.vw j st (0+0) 0) ⟨hj,.inl ⟨g1,rfl,rfl,rfl⟩⟩) e
    ·obtain⟨q0,cap2,ex2,q1,q2⟩:=zbZ (st:=st) (off:=lo2*st) (b:=b) (cap:=cap') (ex:=ex') g3 l1 l2 h1 h2 hp N.h;refine .quiet I (v:=.s (.one (.slc b ((lo2+p1)*st) p2 cap2 ex2))) (fun call=>?_) (y7 (p:=.vw j st (lo2+p1) p2) ⟨hj,.inr ⟨b,_,_,_,cap2,ex2,g1,rfl,by omega,q2⟩⟩) e
     rw[run,hv,q1,Nat.add_mul]
  |_=>cases e
theorem zo9(I:InvO E N os)(F:∀i,RepPA N (r i) (ρ i)){st:Nat}{zs:List CVal}{a:Operand}(e:w1 (pv ρ a) (fun c=>zj5 lk os st zs c k)=some x):Goal C E lk N os r (.clear st zs a) k x:=by
 have hh:=ug F e;clear e;obtain⟨c,v,e,ka,ra,pka⟩:=hh;cases c<;>first|cases e|skip
 rename_i j st' lo len;simp only[zj5]at e;obtain⟨w,rfl,hj,hw⟩:=yl ra;cases ho:og os j with
 |arr st'' vo=>
  rw[ho]at e;simp only at e;cases hlj:lk j with
  |true=>rw[hlj]at e;cases e
  |false=>
   rw[hlj]at e;simp only[cond_false]at e;cases hs:(Nat.beq st st'&&Nat.beq st st''&&Nat.beq zs.length st) with
   |false=>rw[hs]at e;cases e
   |true=>
    rw[hs]at e;simp only[cond_true]at e;rw[LzC,LzC]at hs;have t1:=Lz1 hs.1.1;have t2:=Lz1 hs.1.2;have t3:=Lz1 hs.2;subst t1 t2;have hh:=zj e;clear e;obtain⟨ps,hp,e⟩:=hh;have hh:=zj e;clear e;obtain⟨ds,hd,e⟩:=hh;have hz:RepL N.fz N.h zs ds:=qQ hd (qg (N:=N) hp);have run:∀call,runK r (.clear st zs a) call N.h=znO st zs (.s (.one w)) N.h:=fun call=>by simp only[runK,ka,zC]
    have hjl:j<os.length:=zey (by rw[ho];intro h;cases h)
    cases vo with
    |none=>
     have hO:=I.obj j;rw[ho]at hO;have hO:N.μ j=.nils:=hO;rcases hw with⟨g1,rfl,rfl,rfl⟩|⟨b,l0,cap,ex,cap',ex',g1,rfl,g2,g3⟩
     ·refine⟨_,_,_,_,e,⟨(z7,N.h),⟨N,rfl,⟨I.turn j _ (fun h=>h) hO,.refl N,⟨LzB _,fun _ _ _=>rfl⟩,fun j' hj'=>?_,.oset (fun h=>h.elim) (fun h=>by rw[ho]at h;exact h.elim) (fun h=>h.elim),.bad _⟩⟩,0,fun n _=>?_⟩⟩
      ·rw[yy,if_neg (fun e=>by rw[e.1,hlj]at hj';cases hj')]
      ·exact run (C n)
     ·rw[hO]at g1;cases g1
    |some xs=>
     obtain⟨b',vs,ex2,k1,k2,k3,k4,k5⟩:=zbO I ho;rcases hw with⟨g1,rfl,rfl,rfl⟩|⟨b,l0,cap,ex,cap',ex',g1,rfl,g2,g3⟩
     ·rw[g1]at k1;cases k1
     ·rw[g1]at k1;cases k1;by_cases hl:len=0
      ·subst hl;have hs:oset (.arr st (clrO (some xs) lo 0 ds)) os j=os:=by
        have:PO.arr st (clrO (some xs) lo 0 ds)=og os j:=by rw[ho];simp[clrO]
        rw[this,zet]
       rw[hs]at e;refine⟨_,_,_,_,e,⟨(z7,N.h),⟨N,rfl,⟨I,.refl N,.same rfl,fun _ _=>rfl,.refl _ _ _,.bad _⟩⟩,0,fun n _=>?_⟩⟩
       exact run (C n)
      have hlv:live (og os j):=by rw[ho];trivial
      have hbk:blk (N.μ j)=some b':=by rw[g1];rfl
      have rl:(repl zs len).length=len*st:=by rw[zc6,t3]
      have m1:(lo+len)*st≤xs.length*st:=Nat.mul_le_mul_right st g2;rw[Nat.add_mul]at m1
      let X:=vs.take (lo*st)++repl zs len++vs.drop (lo*st+(repl zs len).length)
      have hX:X.length=xs.length*st:=by simp[X,rl];omega
      have hn:(xs.take lo++List.replicate len ds++xs.drop (lo+len)).length=xs.length:=by simp;omega
      have fg:FG N.fz N.h N.fz (N.h.put b' (.cells X st)):=⟨fun _ _ h _=>h,fun b2 z hf2 hz=>by
       rw[wT _ _ (fun(e:b2=b')=>k2 (by rw[←e];exact hf2))];exact hz⟩
      obtain⟨i1,i2,i3⟩:=I.put hlv hbk (.cells X st) (.arr st (some (xs.take lo++List.replicate len ds++xs.drop (lo+len))))
       ⟨b', X, _, by rw [hn]; exact g1, k2, zav _ _ _, by rw [hn]; exact hX, fun t z hzt => by
        have ht:t<xs.length:=by have:=(Lz0.1 hzt).1;omega
        have mt:=Nat.mul_le_mul_right st (show t+1≤xs.length from ht)
        rw[Nat.succ_mul]at mt;by_cases c1:t<lo
        ·rw[List.append_assoc,Lz2 (by simp;omega),List.getElem?_take,if_pos c1]at hzt
         obtain⟨q1,q2⟩:=k5 t z hzt;refine⟨q1,?_⟩;have mt2:=Nat.mul_le_mul_right st (show t+1≤lo from c1)
         rw[Nat.succ_mul]at mt2;show RepL _ _ ((X.drop (t*st)).take st) _;have:(X.drop (t*st)).take st=(vs.drop (t*st)).take st:=by
          show List.take st (List.drop (t*st) (vs.take (lo*st)++repl zs len++vs.drop (lo*st+(repl zs len).length)))=_;rw[List.append_assoc,List.drop_append_of_le_length (by simp;omega),List.take_append_of_le_length (by simp;omega),List.drop_take,List.take_take,Nat.min_eq_left (by omega)]
         rw[this];exact q2.mono fg
        ·by_cases c2:t<lo+len
         ·rw[List.append_assoc,Lz8 (by simp;omega),Lz2 (by simp;omega),List.getElem?_replicate,if_pos (by simp;omega)]at hzt
          cases hzt;refine⟨by rw[←hz.1,t3],?_⟩
          have mt2:=Nat.mul_le_mul_right st (show t-lo+1≤len by omega)
          rw[Nat.succ_mul]at mt2;have mt3:t*st=lo*st+(t-lo)*st:=by rw[←Nat.add_mul];congr 1;omega
          show RepL _ _ ((X.drop (t*st)).take st) _;have:(X.drop (t*st)).take st=zs:=by
           show List.take st (List.drop (t*st) (vs.take (lo*st)++repl zs len++vs.drop (lo*st+(repl zs len).length)))=_;have hl0:(vs.take (lo*st)).length=lo*st:=by simp;omega
           rw[List.append_assoc,mt3,←List.drop_drop,List.drop_left' hl0,List.drop_append_of_le_length (by omega),List.take_append_of_le_length (by simp;omega)]
           have:=zc7 zs len (t-lo) (by omega)
           rwa [t3]at this
          rw[this];exact hz.mono fg
         ·have hl0:(xs.take lo++List.replicate len ds).length=lo+len:=by simp;omega
          rw[Lz8 (by omega),hl0,List.getElem?_drop]at hzt
          rw[show lo+len+(t-(lo+len))=t by omega]at hzt
          obtain⟨q1,q2⟩:=k5 t z hzt;refine⟨q1,?_⟩;have mt2:=Nat.mul_le_mul_right st (show lo+len≤t by omega)
          rw[Nat.add_mul]at mt2;show RepL _ _ ((X.drop (t*st)).take st) _;have:(X.drop (t*st)).take st=(vs.drop (t*st)).take st:=by
           show List.take st (List.drop (t*st) (vs.take (lo*st)++repl zs len++vs.drop (lo*st+(repl zs len).length)))=_;have hl1:(vs.take (lo*st)++repl zs len).length=lo*st+len*st:=by simp[rl];omega
           rw[show t*st=(lo*st+len*st)+(t*st-(lo*st+len*st)) by omega,←List.drop_drop,List.drop_left' hl1,List.drop_drop,rl]
          rw[this];exact q2.mono fg⟩
      refine⟨_,_,_,_,e,⟨(z7,N.h.put b' (.cells X st)),⟨⟨N.μ,N.n,N.fz,N.h.put b' (.cells X st)⟩,rfl,⟨i1,i2,Bk.put rfl (by rw[I.len];exact hjl) hlv hbk,fun j' hj'=>?_,.oset (fun _=>by rw[ho];trivial) (fun _=>.inl trivial) (fun _=>by rw[ho];trivial),.bad _⟩⟩,0,fun n _=>?_⟩⟩
      ·rw[yy,if_neg (fun e=>by rw[e.1,hlj]at hj';cases hj')]
      ·refine (run (C n)).trans ?_;show (bif Nat.beq len 0 then some (z7,N.h) else zdS st zs N.h b' (lo*st) len (N.h.t.get b'))=_
       have hb0:Nat.beq len 0=false:=by
        cases hq:Nat.beq len 0 with
        |false=>rfl
        |true=>exact absurd (Lz1 hq) hl
       rw[hb0,k3,cond_false];simp only[zdS];rw[t3,Nat.beq_refl,cond_true,zaw (repl zs len) vs (lo*st) (by omega)]
       rfl
 |_=>rw[ho]at e;cases e
theorem zhy{st:Nat}{vs ws:List CVal}{xs ys:List (List DV)}{fz:BN→Prop}{h:AHeap}(hl:vs.length=xs.length*st)(hw:ws.length=ys.length*st)
  (H:∀(i:Nat) (x:List DV),xs[i]? = some x→x.length=st∧RepL fz h ((vs.drop (i*st)).take st) x) (K:∀(i:Nat) (x:List DV),ys[i]? = some x→x.length=st∧RepL fz h ((ws.drop (i*st)).take st) x):
  (vs++ws).length=(xs++ys).length*st∧∀(i:Nat) (x:List DV),(xs++ys)[i]? = some x→x.length=st∧RepL fz h (((vs++ws).drop (i*st)).take st) x:=by
 refine⟨by simp[hl,hw,Nat.add_mul],fun i x hx=>?_⟩
 by_cases hi:i<xs.length
 ·rw[Lz2 hi]at hx;obtain⟨a,b⟩:=H i x hx;refine⟨a,?_⟩;have:=Nat.mul_le_mul_right st (show i+1≤xs.length from hi)
  rw[Nat.succ_mul]at this;rw[List.drop_append_of_le_length (by omega),List.take_append_of_le_length (by simp;omega)]
  exact b
 ·rw[Lz8 (by omega)]at hx
  obtain⟨a,b⟩:=K _ x hx;refine⟨a,?_⟩;have hle:xs.length*st≤i*st:=Nat.mul_le_mul_right st (by omega)
  rw[List.drop_append,List.drop_of_length_le (by omega),List.nil_append,hl]
  rw[Nat.mul_sub_right_distrib]at b;exact b
theorem zdO{fz:BN→Prop}{h:AHeap}{st:Nat}{w:CVal}{v:DV}{xs:List (List DV)}(H:Rep fz h w v)(e:uF st v=some xs):∃cs,zea false st h (.s (.one w))=some (cs,xs.length)∧cs.length=xs.length*st∧
  ∀(i:Nat) (x:List DV),xs[i]? = some x→x.length=st∧RepL fz h ((cs.drop (i*st)).take st) x:=by
 cases v<;>simp only[uF]at e<;>first|cases e|skip
 ·rw[H.scal rfl];exact⟨[],rfl,by simp,fun i x hx=>by simp at hx⟩
 ·rename_i st' ys;cases hs:Nat.beq st st' with
  |false=>rw[hs]at e;cases e
  |true=>
   rw[hs]at e;cases e;have:=Lz1 hs;subst this;obtain⟨b,o,off,cap,ex,cs,rfl,g1,g2,g3,g4,g5⟩:=H.lst_inv;refine⟨cs,?_,zce g4,g5⟩;show (match h.t.get b with
    |some (.cells l _)=>match cut (Nat.mul xs.length st) l off with|some l=>some (l,xs.length)|none=>none
    |some (.ro _ f)=>match cutF f (Nat.mul xs.length st) off with|some l=>some (l,xs.length)|none=>none
    |some (.tcells l _ _)=>match cut (Nat.mul xs.length st) l off with|some l=>some (l,xs.length)|none=>none
    |some .void=>bif Nat.beq (Nat.mul xs.length st) 0 then some ([],xs.length) else none
    |_=>none)=_
   rw[g2];cases o with
   |cells l s=>simp only;rw[show cut (Nat.mul xs.length st) l off=some cs from g4]
   |ro y f=>simp only;rw[show cutF f (Nat.mul xs.length st) off=some cs from g4]
   |void=>obtain⟨k1,k2⟩:=zc8 g4;subst k2;simp only;rw[show Nat.beq (Nat.mul xs.length st) 0=true by rw[show Nat.mul xs.length st=0 from k1];rfl];rfl
   |_=>cases g4
theorem zqB(I:InvO E N os){st:Nat}{c:PC}{v:AVal}{K:List (List DV)→Option β}(ra:RepPA N v (pc c))(e:srcP os st c K=some x):∃new cs,K new=some x∧zea false st N.h v=some (cs,new.length)∧cs.length=new.length*st∧
  ∀(i:Nat) (x:List DV),new[i]? = some x→x.length=st∧RepL N.fz N.h ((cs.drop (i*st)).take st) x:=by
 obtain⟨w,rfl,hw⟩:=yl ra;cases c<;>simp only[srcP]at e<;>first|cases e|skip
 ·obtain⟨new,hn,e⟩:=zj e;obtain⟨cs,h1,h2,h3⟩:=zdO hw hn;exact⟨new,cs,e,h1,h2,h3⟩
 ·rename_i j;obtain⟨hj,rfl⟩:=hw;have hO:=I.obj j;cases ho:og os j with
  |arr st' vo=>
   rw[ho]at e hO;simp only at e;cases hs:Nat.beq st st' with
   |false=>rw[hs]at e;cases e
   |true=>
    rw[hs]at e;have:=Lz1 hs;subst this;cases vo with
    |none=>refine⟨[],[],e,?_,by simp,fun i x hx=>by simp at hx⟩;rw[show N.μ j=.nils from hO];rfl
    |some xs=>
     have:=hO;obtain⟨b,vs,ex,h1,h2,h3,h4,h5⟩:=this;refine⟨xs,vs,e,?_,h4,h5⟩;have hr:=zgA (fz':=fun _=>True) ⟨fun _ _ _ _=>trivial,fun _ _ _ h=>h⟩ hO (fun _ _ _=>trivial)
     obtain⟨cs,q1,q2,_⟩:=zdO (st:=st) (xs:=xs) hr (by simp[mkL,uF])
     rw[q1];have:cs=vs:=by
      rw[h1]at q1;have:(match N.h.t.get b with
       |some (.cells l _)=>match cut (Nat.mul xs.length st) l 0 with|some l=>some (l,xs.length)|none=>none
       |some (.ro _ f)=>match cutF f (Nat.mul xs.length st) 0 with|some l=>some (l,xs.length)|none=>none
       |some (.tcells l _ _)=>match cut (Nat.mul xs.length st) l 0 with|some l=>some (l,xs.length)|none=>none
       |some .void=>bif Nat.beq (Nat.mul xs.length st) 0 then some ([],xs.length) else none
       |_=>none)=some (cs,xs.length):=q1
      rw[h3]at this;simp only at this;rw[show cut (Nat.mul xs.length st) vs 0=some vs by show cut (xs.length*st) vs 0=_;rw[←h4];exact zdP vs]at this
      cases this;rfl
     rw[this]
  |frz d=>
   rw[ho]at e hO;simp only at e;obtain⟨new,hn,e⟩:=zj e;obtain⟨cs,h1,h2,h3⟩:=zdO (show Rep N.fz N.h (N.μ j) d from hO) hn
   exact⟨new,cs,e,h1,h2,h3⟩
  |_=>rw[ho]at e;cases e
theorem InvO.name(I:InvO E N os)(hlk:∀j,lk j=true→j<os.length){j st:Nat}{v:OC}(hj:j<os.length)(hlj:lk j=false)(ho:og os j=.arr st v):
  ∃N',N'.h=N.h∧N'.n=os.length+1∧Stp E lk N os [j] N' (oset .dead os j++[.arr st v])∧RepPA N' (.s (.one (N.μ j))) (pc (.own os.length)):=by
 have hO:=I.obj j;rw[ho]at hO
 let N':Nm:=⟨upd N.μ os.length (N.μ j),os.length+1,N.fz,N.h⟩
 have mu:∀k,k≠os.length→N'.μ k=N.μ k:=fun k hk=>by show (if k=os.length then _ else N.μ k)=_;rw[if_neg hk]
 have muL:N'.μ os.length=N.μ j:=by show (if os.length=os.length then _ else _)=_;rw[if_pos rfl]
 have nx:Nx N N':=⟨.refl _ _,by have:=I.len;show N.n≤os.length+1;omega,fun k hk=>mu k (by have:=I.len;omega)⟩
 have hlen:=yK .dead os j;have t:∀i,live (og (oset .dead os j++[.arr st v]) i)→(i=os.length∧live (og os j))∨(i≠os.length∧i≠j∧live (og os i)):=fun i hi=>by
  rw[wC,hlen]at hi;by_cases h1:i=os.length
  ·rw[if_pos h1]at hi;exact .inl ⟨h1,by rw[ho];exact hi⟩
  ·rw[if_neg h1,yy]at hi;by_cases h2:i=j
   ·rw[if_pos ⟨h2,hj⟩]at hi;exact hi.elim
   ·rw[if_neg (fun e=>h2 e.1)]at hi;exact .inr ⟨h1,h2,hi⟩
 refine⟨N',rfl,rfl,⟨⟨I.hw,I.gr,I.fzlt,I.fzok,I.fzex,by show os.length+1=_;simp[hlen],?_,?_,?_⟩,nx,Bk.same rfl,fun j' hj'=>?_,Ho.trans (w1:=[j]) (w2:=[]) (Ho.oset (o:=.dead) (fun h=>h.elim) (fun _=>.inr (List.mem_singleton_self j)) (fun h=>h.elim)) (.app (by rw[hlen];exact Nat.le_of_eq I.len))⟩,y7 (p:=.own os.length) ⟨by show os.length<os.length+1;omega,muL.symm⟩⟩
 ·intro k b hl hb;rcases t k hl with⟨h1,h2⟩|⟨h1,h2,h3⟩
  ·rw[h1,muL]at hb;exact I.own j b h2 hb
  ·rw[mu k h1]at hb;exact I.own k b h3 hb
 ·intro k k' b hl hl' hb hb';rcases t k hl with⟨h1,h2⟩|⟨h1,h2,h3⟩<;>rcases t k' hl' with⟨g1,g2⟩|⟨g1,g2,g3⟩
  ·rw[h1,g1]
  ·rw[h1,muL]at hb;rw[mu k' g1]at hb';exact absurd (I.inj k' j b g3 h2 hb' hb) g2
  ·rw[g1,muL]at hb';rw[mu k h1]at hb;exact absurd (I.inj k j b h3 g2 hb hb') h2
  ·rw[mu k h1]at hb;rw[mu k' g1]at hb';exact I.inj k k' b h3 g3 hb hb'
 ·intro k;rw[wC,hlen];by_cases h1:k=os.length
  ·rw[if_pos h1,h1];cases v with
   |none=>exact muL.trans hO
   |some xs=>
    obtain⟨b,vs,ex,q1,q2⟩:=hO;exact⟨b,vs,ex,muL.trans q1,q2⟩
  ·rw[if_neg h1,yy];split
   ·trivial
   ·exact(I.obj k).mono nx (mu k h1) fun hl b hb=>by
     obtain⟨b',x',q1,q2,q3⟩:=yA hl (I.obj k);rw[q1]at hb;cases hb;exact⟨q2,rfl⟩
 ·rw[wC,hlen,if_neg (by have:=hlk j' hj';omega),yy,if_neg (fun e=>by rw[e.1,hlj]at hj';cases hj')]
noncomputable def znH(st bytes:Nat)(h:AHeap)(cs:List CVal)(n:Nat)(v:AVal):Res:=
 match v with
 | .s (.one .nils)=>bif Nat.beq n 0 then some (.s (.one .nils),h) else bif fits bytes n then grown h st n [] cs else none
 | .s (.one (.slc b off len cap ex))=>
  bif Nat.beq n 0 then some (.s (.one (.slc b off len cap ex)),h) else
  bif fits bytes (Nat.add len n) then vC st h cs n b off len cap ex (h.t.get b) else none
 |_=>none
theorem zmU(I:InvO E N os)(F:∀i,RepPA N (r i) (ρ i))(hlk:∀j,lk j=true→j<os.length){st bytes:Nat}{a b:Operand}(e:w1 (pv ρ a) (fun s=>w1 (pv ρ b) fun y=>zfG lk os st bytes s y k)=some x):Goal C E lk N os r (.append st bytes a b) k x:=by
 have hh:=ug F e;clear e;obtain⟨c,v,e,ka,ra,pka⟩:=hh;have hh:=ug F e;clear e;obtain⟨d,u,e,kb,rb,pkb⟩:=hh;unfold zfG at e;have hh:=zqB I rb e;clear e;obtain⟨new,cs,e,hsrc,hcl,hcs⟩:=hh;have run:∀call,runK r (.append st bytes a b) call N.h=znH st bytes N.h cs new.length v:=fun call=>by
  simp only[runK,ka,kb,zC];show (match zea false st N.h u with
   |none=>none
   |some (new,n)=>match v with
    | .s (.one .nils)=>bif Nat.beq n 0 then some (AVal.s (.one .nils),N.h) else bif fits bytes n then grown N.h st n [] new else none
    | .s (.one (.slc b off len cap ex))=>
     bif Nat.beq n 0 then some (AVal.s (.one (.slc b off len cap ex)),N.h) else
     bif fits bytes (Nat.add len n) then vC st N.h new n b off len cap ex (N.h.t.get b) else none
    |_=>none)=_
  rw[hsrc];rfl
 have fresh:∀(os1:List PO) (w1:List Nat) (S1:Stp E lk N os w1 N os1) (hl1:os1.length=os.length),new≠[]→v=AVal.s (.one .nils)→fits bytes new.length=true→
   k (pc (.own os.length)) (os1++[.arr st (appO none new)]) w1 []=some x→Goal C E lk N os r (.append st bytes a b) k x:=by
  intro os1 w1 S1 hl1 hne hv hfit hk;obtain⟨N2,h4,h5,S2,r2⟩:=zbe (lk:=lk) (ex:=false) S1.inv (fun j hj=>by rw[hl1];exact hlk j hj) hcl hcs
  have he:appO none new=some new:=by
   cases new with
   |nil=>exact absurd rfl hne
   |cons y l=>rfl
  rw[he]at hk;rw[hl1]at r2;have S:=S1.trans S2 rfl;rw[List.append_nil]at S;refine⟨_,_,_,_,hk,⟨(.s (.one (.slc N.h.n 0 new.length 0 false)),N.h.new (.cells cs st)),⟨N2,h4,S.sim r2⟩,0,fun n _=>?_⟩⟩
  show runK r (.append st bytes a b) (C n) N.h=_;rw[run,hv];have:Nat.beq new.length 0=false:=by
   cases new with
   |nil=>exact absurd rfl hne
   |cons y l=>rfl
  simp only[znH,this,cond_false,hfit,cond_true];exact vI _ _ _
 cases c with
 |d dv=>
  cases dv<;>simp only[gdN]at e<;>first|(cases e;done)|skip
  cases hfit:fits bytes new.length with
  |false=>rw[hfit]at e;cases e
  |true=>
   rw[hfit]at e;have hv:=ye ra (c:=.nils) rfl;cases hnew:new with
   |nil=>
    subst hnew;obtain⟨N2,h4,h5,S2⟩:∃N',N'.h=N.h∧RepPA N' (.s (.one .nils)) (pc (.own os.length))∧Stp E lk N os [] N' (os++[.arr st none]):=by
     have I0:=I
     let N':Nm:=⟨upd N.μ os.length .nils,os.length+1,N.fz,N.h⟩
     have mu:∀k,k≠os.length→N'.μ k=N.μ k:=fun k hk=>by show (if k=os.length then _ else N.μ k)=_;rw[if_neg hk]
     have muL:N'.μ os.length=.nils:=by show (if os.length=os.length then _ else _)=_;rw[if_pos rfl]
     have nx:Nx N N':=⟨.refl _ _,by have:=I.len;show N.n≤os.length+1;omega,fun k hk=>mu k (by have:=I.len;omega)⟩
     have t:∀i,live (og (os++[.arr st none]) i)→i≠os.length∧live (og os i):=fun i hi=>by
      rw[wC]at hi;by_cases h1:i=os.length
      ·rw[if_pos h1]at hi;exact hi.elim
      ·rw[if_neg h1]at hi;exact⟨h1,hi⟩
     refine⟨N',rfl,y7 (p:=.own os.length) ⟨by show os.length<os.length+1;omega,muL.symm⟩,⟨⟨I.hw,I.gr,I.fzlt,I.fzok,I.fzex,by show os.length+1=_;simp,?_,?_,?_⟩,nx,Bk.same rfl,fun j' hj'=>?_,.app (Nat.le_of_eq I.len)⟩⟩
     ·intro k b hl hb;rw[mu k (t k hl).1]at hb;exact I.own k b (t k hl).2 hb
     ·intro k k' b hl hl' hb hb';rw[mu k (t k hl).1]at hb;rw[mu k' (t k' hl').1]at hb';exact I.inj k k' b (t k hl).2 (t k' hl').2 hb hb'
     ·intro k;rw[wC];by_cases h1:k=os.length
      ·rw[if_pos h1,h1];exact muL
      ·rw[if_neg h1];exact(I.obj k).mono nx (mu k h1) fun hl b hb=>by
        obtain⟨b',x',q1,q2,q3⟩:=yA hl (I.obj k);rw[q1]at hb;cases hb;exact⟨q2,rfl⟩
     ·rw[wC,if_neg (by have:=hlk j' hj';omega)]
    refine⟨_,_,_,_,e,⟨(.s (.one .nils),N.h),⟨N2,h4,S2.sim h5⟩,0,fun n _=>?_⟩⟩
    show runK r (.append st bytes a b) (C n) N.h=_;rw[run,hv];rfl
   |cons y l=>exact fresh os [] (.refl I) rfl (by rw[hnew];simp) hv hfit e
 |own j=>
  simp only at e;obtain⟨w,rfl,hj,rfl⟩:=yl ra;cases ho:og os j with
  |arr st' vo=>
   rw[ho]at e;simp only at e;cases hlj:lk j with
   |true=>rw[hlj]at e;cases e
   |false=>
    rw[hlj]at e;simp only[cond_false]at e;cases hs:Nat.beq st st' with
    |false=>rw[hs]at e;cases e
    |true=>
     rw[hs]at e;have:=Lz1 hs;subst this;simp only[cond_true]at e;cases hfit:fits bytes (lenO vo+new.length) with
     |false=>rw[hfit]at e;cases e
     |true=>
      rw[hfit]at e;have hjl:j<os.length:=zey (by rw[ho];intro h;cases h)
      have hO:=I.obj j;rw[ho]at hO;by_cases hnew:new=[]
      ·subst hnew;obtain⟨N2,h4,h5,S2,r2⟩:=InvO.name (lk:=lk) I hlk hjl hlj ho;refine⟨_,_,_,_,e,⟨(.s (.one (N.μ j)),N.h),⟨N2,h4,S2.sim r2⟩,0,fun n _=>?_⟩⟩
       show runK r (.append st bytes a b) (C n) N.h=_;rw[run];cases vo with
       |none=>rw[show N.μ j=.nils from hO];rfl
       |some xs=>obtain⟨b',vs,ex,h1,_⟩:=hO;rw[h1];rfl
      ·have hlock:∀j',lk j'=true→og (oset .dead os j) j'=og os j':=fun j' hj'=>by rw[yy,if_neg (fun e=>by rw[e.1,hlj]at hj';cases hj')]
       cases vo with
       |none=>
        refine fresh (oset .dead os j) [j] ⟨I.turn j .dead (fun e=>e) trivial,.refl N,Bk.same rfl,hlock,Ho.oset (o:=.dead) (fun h=>h.elim) (fun _=>.inr (List.mem_singleton_self j)) (fun h=>h.elim)⟩ (yK _ _ _) hnew (by rw[show N.μ j=.nils from hO]) (by simpa[lenO] using hfit) e
       |some xs=>
        obtain⟨b',vs,ex,h1,h2,h3,h4,h5⟩:=hO;have he:appO (some xs) new=some (xs++new):=by
         cases new with
         |nil=>exact absurd rfl hnew
         |cons y l=>rfl
        have hn0:Nat.beq new.length 0=false:=by
         cases new with
         |nil=>exact absurd rfl hnew
         |cons y l=>rfl
        have hcut:cut (Nat.mul xs.length st) vs 0=some vs:=by show cut (xs.length*st) vs 0=_;rw[←h4];exact zdP vs
        rw[he]at e;cases ex with
        |true=>
         have S1:Stp E lk N os [j] N (oset .dead os j):=⟨I.turn j .dead (fun e=>e) trivial,.refl N,Bk.same rfl,hlock,Ho.oset (o:=.dead) (fun h=>h.elim) (fun _=>.inr (List.mem_singleton_self j)) (fun h=>h.elim)⟩
         obtain⟨f1,f2⟩:=zhy h4 hcl h5 hcs;obtain⟨N2,g4,g5,S2,r2⟩:=zbe (lk:=lk) (ex:=false) S1.inv (fun j hj=>by rw[yK];exact hlk j hj) f1 f2
         rw[yK]at r2;have S:=S1.trans S2 rfl;refine⟨_,_,_,_,e,⟨(.s (.one (.slc N.h.n 0 (xs++new).length 0 false)),N.h.new (.cells (vs++cs) st)),⟨N2,g4,S.sim r2⟩,0,fun n _=>?_⟩⟩
         show runK r (.append st bytes a b) (C n) N.h=_;rw[run,h1];simp only[znH,hn0,cond_false];rw[show fits bytes (Nat.add xs.length new.length)=true from hfit,h3]
         simp only[cond_true,vC,hcut];have:Nat.ble (Nat.add xs.length new.length) xs.length=false:=by
          cases hb:Nat.ble (Nat.add xs.length new.length) xs.length with
          |false=>rfl
          |true=>
           have:=Lz4 hb;have hpos:new.length≠0:=fun h=>hnew (List.length_eq_zero_iff.1 h)
           simp only[Nat.add_eq]at this;omega
         rw[this,cond_false,List.length_append];exact vI _ _ _
        |false=>
         have hlv:live (og os j):=by rw[ho];trivial
         have hbk:blk (N.μ j)=some b':=by rw[h1];rfl
         obtain⟨i1,i2,i3⟩:=I.put hlv hbk .dead .dead trivial;have S1:Stp E lk N os [j] ⟨N.μ,N.n,N.fz,N.h.put b' .dead⟩ (oset .dead os j):=⟨i1,i2,Bk.put rfl (by rw[I.len];exact hjl) hlv hbk,hlock,Ho.oset (o:=.dead) (fun h=>h.elim) (fun _=>.inr (List.mem_singleton_self j)) (fun h=>h.elim)⟩
         obtain⟨f1,f2⟩:=zhy (fz:=N.fz) (h:=N.h.put b' .dead) h4 hcl (fun i y hy=>⟨(h5 i y hy).1,(h5 i y hy).2.mono i2.fg⟩) (fun i y hy=>⟨(hcs i y hy).1,(hcs i y hy).2.mono i2.fg⟩)
         obtain⟨N2,g4,g5,S2,r2⟩:=zbe (lk:=lk) (ex:=false) S1.inv (fun j hj=>by rw[yK];exact hlk j hj) f1 f2
         rw[yK]at r2;have S:=S1.trans S2 rfl;refine⟨_,_,_,_,e,⟨(.s (.one (.slc N.h.n 0 (xs++new).length 0 false)),(N.h.put b' .dead).new (.cells (vs++cs) st)),⟨N2,g4,S.sim r2⟩,0,fun n _=>?_⟩⟩
         show runK r (.append st bytes a b) (C n) N.h=_;rw[run,h1];simp only[znH,hn0,cond_false];rw[show fits bytes (Nat.add xs.length new.length)=true from hfit,h3]
         simp only[cond_true,vC,hcut];rw[cond_false,show (Nat.beq st st&&Nat.beq 0 (Nat.mul 0 st))=true by simp,cond_true,List.length_append]
         exact vI _ _ _
  |_=>rw[ho]at e;cases e
 |_=>cases e
theorem zhP:∀(p l:List DS) (shs:List (Option Nat)),okT shs l=true→zar (p++l) shs p.length=l:=by
 have at_:∀(p l:List DS) (d:DS),dsAt (p++d::l) p.length=d:=by
  intro p l d
  induction p with
  |nil=>rfl
  |cons a p ih=>exact ih
 intro p l shs
 induction shs generalizing p l with
 |nil=>
  intro e;cases l with
  |nil=>rfl
  |cons d l=>cases e
 |cons s shs ih=>
  intro e;cases l with
  |nil=>cases s<;>cases e
  |cons d l=>
   have step:okT shs l=true→zar (p++d::l) shs (Nat.succ p.length)=l:=fun h=>by
    have:=ih (p++[d]) l h
    simpa using this
   cases s with
   |none=>
    cases d with
    |agg ds=>cases e
    |one d=>simp only[zar,at_,dsO];rw[step e]
   |some n=>
    cases d with
    |one d=>cases e
    |agg ds=>
     simp only[okT,LzC]at e;have hn:=Lz1 e.1;simp only[zar,at_,dsA];rw[step e.2,←hn,zhB]
theorem znR{res:Option DA}{K:PA→Option β}(e:b1 res (fun d=>K (pd d))=some x):∃d a,res=some d∧K a=some x∧∀(M:Nm) v,RepA M.fz M.h v d→RepPA M v a:=by
 cases res with
 |none=>cases e
 |some d=>
  cases d with
  |tup l=>cases e
  |s d=>
   cases d with
   |agg l=>cases e
   |one d=>
    refine⟨_,_,rfl,e,fun M v H=>?_⟩
    obtain⟨w,rfl,hw⟩:=H.inv;cases w with
    |one c=>exact vQ hw
    |agg l=>exact hw.elim
theorem znQ{shs:List (Option Nat)}{res:Option DA}{K:PA→Option β}(e:bT shs res (fun l=>K (.tup (zar l shs 0)))=some x):∃d a,res=some d∧K a=some x∧∀(M:Nm) v,RepA M.fz M.h v d→RepPA M v a:=by
 cases res with
 |none=>cases e
 |some d=>
  cases d with
  |s d=>cases e
  |tup l=>
   simp only[bT]at e;cases ho:okT shs l with
   |false=>rw[ho]at e;cases e
   |true=>
    rw[ho]at e;refine⟨_,_,rfl,e,fun M v H=>?_⟩
    have hc:=zhP [] l shs ho;rw[List.nil_append]at hc;show RepPA M v (.tup (zar l shs ([]:List DS).length));rw[hc];cases v with
    |s v=>exact H.elim
    |tup vs=>exact H
theorem zjw{sh:Sh}{res:Option DA}{K:PA→Option β}(e:bSh sh res K=some x):∃d a,res=some d∧K a=some x∧∀(M:Nm) v,RepA M.fz M.h v d→RepPA M v a:=by
 cases sh with
 |one=>exact znR e
 |sc=>exact znR e
 |tup shs=>exact znQ e
 |tsc n=>exact znQ e
 |agg n=>
  cases res with
  |none=>cases e
  |some d=>
   cases d with
   |tup l=>cases e
   |s d=>
    cases d with
    |one d=>cases e
    |agg l=>
     simp only[bSh,bA]at e;cases hn:Nat.beq l.length n with
     |false=>rw[hn]at e;cases e
     |true=>
      rw[hn]at e;have hn:=Lz1 hn;refine⟨_,_,rfl,e,fun M v H=>?_⟩
      obtain⟨w,rfl,hw⟩:=H.inv;cases w with
      |one c=>exact hw.elim
      |agg cs=>
       rw[←hn,zhB];exact RepPA.of (v:=.agg cs) (p:=.agg _) (RepPL.ofD hw)
 |no=>
  cases res with
  |none=>cases e
  |some d=>exact⟨d,.bad,rfl,e,fun M v _=>.bad v⟩
theorem zgR{fz fz':BN→Prop}{h h':AHeap}{c:CVal}{d:DV}(hs:zmu d=true)(H:Rep fz h c d):Rep fz' h' c d:=by
 cases d<;>first|(cases hs;done)|(rw[H.scal rfl];constructor)
theorem zeh{fz fz':BN→Prop}{h h':AHeap}:∀{cs:List SVal} {ds:List DS},zjA ds=true→RepSL fz h cs ds→RepSL fz' h' cs ds
 | [],[],_,_=>trivial
 | .one c::cs,.one d::ds,hs,H=>by
  simp only[zjA,LzC]at hs;exact⟨zgR hs.1 H.1,zeh hs.2 H.2⟩
 | .agg _::_,.one _::_,_,H=>H.1.elim
 |_,.agg _::_,hs,_=>by cases hs
 | [],_::_,_,H=>H.elim
 |_::_,[],_,H=>H.elim
theorem zqC{sh:Sh}{res:Option DA}{K:PA→Option β}(e:bShS sh res K=some x):∃d a,res=some d∧K a=some x∧∀(fz:BN→Prop) (h:AHeap) (M:Nm) v,RepA fz h v d→RepPA M v a:=by
 cases sh with
 |sc=>
  cases res with
  |none=>cases e
  |some d=>
   cases d with
   |tup l=>cases e
   |s d=>
    cases d with
    |agg l=>cases e
    |one d=>
     simp only[bShS,b1s]at e;cases hs:zmu d with
     |false=>rw[hs]at e;cases e
     |true=>
      rw[hs]at e;refine⟨_,_,rfl,e,fun fz h M v H=>?_⟩
      obtain⟨w,rfl,hw⟩:=H.inv;cases w with
      |one c=>exact vQ (zgR hs hw)
      |agg l=>exact hw.elim
 |tsc n=>
  cases res with
  |none=>cases e
  |some d=>
   cases d with
   |s d=>cases e
   |tup l=>
    simp only[bShS,bTs]at e;cases ho:(okT (zeA n) l&&zjA l) with
    |false=>rw[ho]at e;cases e
    |true=>
     rw[ho]at e;rw[LzC]at ho;refine⟨_,_,rfl,e,fun fz h M v H=>?_⟩
     have hc:=zhP [] l (zeA n) ho.1;rw[List.nil_append]at hc;show RepPA M v (.tup (zar l (zeA n) ([]:List DS).length));rw[hc];cases v with
     |s v=>exact H.elim
     |tup vs=>exact zeh ho.2 H
 |_=>cases e
theorem zhU:∀(l:List AVal),(cL l).map (fun x=>x .nil)=l
 | []=>rfl
 |v::l=>by
  show zr v .nil::(cL l).map (fun x=>x .nil)=_
  rw[zhU l];rfl
theorem zbG{fz:BN→Prop}{h:AHeap}:∀{ps:List (BN×Nat)} {caps:List (List DV)},RepL fz h (ps.map fun p=>.ptr p.1 p.2) (caps.map fun x=>.fp x 0)→RepAL fz h (ps.map fun(p:BN×Nat)=>AVal.s (.one (.ptr p.1 p.2))) (caps.map fun x=>.s (.one (.fp x 0)))
 | [],[],_=>trivial
 |p::ps,y::caps,H=>⟨H.inv.1,zbG H.inv.2⟩
 | [],_::_,H=>by have:=H.1;simp at this
 |_::_,[],H=>by have:=H.1;simp at this
theorem zpa{O:Orc}(hO:jB O C){sh:Sh}(I:InvO E N os)(F:∀i,RepPA N (r i) (ρ i)){f:Operand}{args:List Operand}(e:w1 (pv ρ f) (fun c=>za (pvs ρ args) fun as=>za (frA lk os as) fun p=>za (frC lk xg p.1 c) fun q=>bSh sh (appF O q.2 p.2) fun a=>k a q.1 [] [])=some x):Goal C E lk N os r (.call f args) k x:=by
 have hh:=ug F e;clear e;obtain⟨c,v,e,ka,ra,pka⟩:=hh;obtain⟨as,h1,e⟩:=zj e;obtain⟨⟨os1,ds⟩,h2,e⟩:=zj e;obtain⟨⟨os2,fv⟩,h3,e⟩:=zj e;simp only at h3 e;obtain⟨vs,kvs1,rvs⟩:=zem F h1;obtain⟨w,rfl,hw⟩:=yl ra;obtain⟨N1,f1,S1,r1⟩:=zk6 I rvs h2;obtain⟨N2,f2,S2,r2⟩:=zeS S1.inv (RepPC.mono S1.nx hw) h3;have S12:=S1.trans S2 f1.n;have hh2:N2.h=N.h:=f2.h.trans f1.h;unfold appF at e;cases fv<;>first|(cases sh<;>cases e)|skip
 rename_i g caps;simp only at e;obtain⟨ps,rfl,hps⟩:=r2.fn_inv;have harg:RepAL N2.fz N2.h (vs++ps.map fun(p:BN×Nat)=>AVal.s (.one (.ptr p.1 p.2))) (ds++caps.map fun x=>.s (.one (.fp x 0))):=RepAL.app (r1.mono S2.nx.fg) (zbG hps)
 have key:∀res,O g (ds++caps.map fun x=>.s (.one (.fp x 0)))=some res→∀a,(∀(N':Nm) v,RepA N'.fz N'.h v res→RepPA N' v a)→k a os2 [] []=some x→Goal C E lk N os r (.call f args) k x:=by
  intro res hres a ha hk;have ev:=hO g _ res hres N2.fz N2.h _ S12.inv.hw S12.inv.fzlt harg;rw[hh2]at ev;refine⟨a,os2,[],[],hk,?_⟩;have run:∀call,runK r (.call f args) call N.h=call (.inl g) (vs++ps.map fun(p:BN×Nat)=>AVal.s (.one (.ptr p.1 p.2))) N.h:=fun call=>by
   simp only[runK,ka,kvs1,zC];show call (.inl g) ((cL vs).map (fun x=>x .nil)++ps.map fun(p:BN×Nat)=>AVal.s (.one (.ptr p.1 p.2))) N.h=_
   rw[zhU]
  obtain⟨p,⟨q1,q2,q3⟩,M,hM⟩:=ev;refine⟨p,?_,M,fun n hn=>(run (C n)).trans (hM n hn)⟩
  have G:Gr N2.h p.2:=by rw[hh2];exact q2
  obtain⟨i1,i2⟩:=S12.inv.grow q1 G;refine⟨_,rfl,⟨i1,S12.nx.trans i2,Bk.gr q2,S12.lock,S12.ho,?_⟩⟩
  ·refine ha _ _ ?_;refine q3.mono ⟨fun b o hb ho=>hb.imp id fun h=>⟨?_,o,ho⟩,fun _ _ _ h=>h⟩
   rw[hh2];exact h.1
 obtain⟨res,a,hres,hk,ha⟩:=zjw e;exact key res hres a ha hk
theorem zrb{O:Orc}(hO:jB O C){sh:Sh}(I:InvO E N os)(F:∀i,RepPA N (r i) (ρ i)){f:Operand}{args:List Operand}(e:w1 (pv ρ f) (fun c=>za (pvs ρ args) fun as=>za (frA (fun _=>false) os as) fun p=>za (frC (fun _=>false) xg p.1 c) fun q=>bShS sh (appF O q.2 p.2) fun a=>k a os [] [])=some x):Goal C E lk N os r (.call f args) k x:=by
 have hh:=ug F e;clear e;obtain⟨c,v,e,ka,ra,pka⟩:=hh;obtain⟨as,h1,e⟩:=zj e;obtain⟨⟨os1,ds⟩,h2,e⟩:=zj e;obtain⟨⟨os2,fv⟩,h3,e⟩:=zj e;simp only at h3 e;obtain⟨vs,kvs1,rvs⟩:=zem F h1;obtain⟨w,rfl,hw⟩:=yl ra;obtain⟨N1,f1,S1,r1⟩:=zk6 I rvs h2;obtain⟨N2,f2,S2,r2⟩:=zeS S1.inv (RepPC.mono S1.nx hw) h3;have S12:=S1.trans S2 f1.n;have hh2:N2.h=N.h:=f2.h.trans f1.h;unfold appF at e;cases fv<;>first|(cases sh<;>cases e)|skip
 rename_i g caps;simp only at e;obtain⟨ps,rfl,hps⟩:=r2.fn_inv;have harg:RepAL N2.fz N2.h (vs++ps.map fun(p:BN×Nat)=>AVal.s (.one (.ptr p.1 p.2))) (ds++caps.map fun x=>.s (.one (.fp x 0))):=RepAL.app (r1.mono S2.nx.fg) (zbG hps)
 have key:∀res,O g (ds++caps.map fun x=>.s (.one (.fp x 0)))=some res→∀a,(∀(fz:BN→Prop) (h:AHeap) (N':Nm) v,RepA fz h v res→RepPA N' v a)→k a os [] []=some x→Goal C E lk N os r (.call f args) k x:=by
  intro res hres a ha hk;have ev:=hO g _ res hres N2.fz N2.h _ S12.inv.hw S12.inv.fzlt harg;rw[hh2]at ev;refine⟨a,os,[],[],hk,?_⟩;have run:∀call,runK r (.call f args) call N.h=call (.inl g) (vs++ps.map fun(p:BN×Nat)=>AVal.s (.one (.ptr p.1 p.2))) N.h:=fun call=>by
   simp only[runK,ka,kvs1,zC];show call (.inl g) ((cL vs).map (fun x=>x .nil)++ps.map fun(p:BN×Nat)=>AVal.s (.one (.ptr p.1 p.2))) N.h=_
   rw[zhU]
  obtain⟨p,⟨q1,q2,q3⟩,M,hM⟩:=ev;refine⟨p,?_,M,fun n hn=>(run (C n)).trans (hM n hn)⟩
  obtain⟨i1,i2⟩:=I.grow q1 q2;exact⟨_,rfl,⟨i1,i2,Bk.gr q2,fun _ _=>rfl,.refl _ _ _,ha _ _ _ _ q3⟩⟩
 obtain⟨res,a,hres,hk,ha⟩:=zqC e;exact key res hres a ha hk
theorem zre{O:Orc}(hO:jB O C){sh:Sh}(I:InvO E N os)(F:∀i,RepPA N (r i) (ρ i)){f:Operand}{args:List Operand}(e:w1 (pv ρ f) (fun c=>za (pvs ρ args) fun as=>bif scSh sh&&(tchC os c||tchA os as) then za (frA (fun _=>false) os as) (fun p=>za (frC (fun _=>false) xg p.1 c) fun q=>bShS sh (appF O q.2 p.2) fun a=>k a os [] []) else za (frA lk os as) fun p=>za (frC lk xg p.1 c) fun q=>bSh sh (appF O q.2 p.2) fun a=>k a q.1 [] [])=some x):Goal C E lk N os r (.call f args) k x:=by
 have hh:=ug F e;obtain⟨c,v,e',ka,ra,pka⟩:=hh;obtain⟨as,h1,e'⟩:=zj e';cases hb:(scSh sh&&(tchC os c||tchA os as)) with
 |false=>
  rw[hb]at e';exact zpa hO I F (f:=f) (args:=args) (sh:=sh) (by rw[pka,h1];exact e')
 |true=>
  rw[hb]at e';exact zrb hO I F (f:=f) (args:=args) (sh:=sh) (by rw[pka,h1];exact e')
theorem zkf(I:InvO E N os)(F:∀i,RepPA N (r i) (ρ i))(hlk:∀j,lk j=true→j<os.length){st bytes:Nat}{zs:List CVal}{a b:Operand}
  (e:wd (pv ρ a) (fun l=>wd (pv ρ b) fun c=>za (mkN bytes l c) fun n=>za (cDs zs) fun ps=>za (allD ps) fun ds=>bif Nat.beq zs.length st then k (pc (.own os.length)) (os++[.arr st (some (List.replicate n ds))]) [] [] else none)=some x):Goal C E lk N os r (.mkslice st zs bytes a b) k x:=by
 have hh:=wF F e;clear e;obtain⟨l,w,e,ka,ra⟩:=hh;have hh:=wF F e;clear e;obtain⟨c,w2,e,kb,rb⟩:=hh;have hh:=zj e;clear e;obtain⟨n,hn,e⟩:=hh;have hh:=zj e;clear e;obtain⟨ps,hp,e⟩:=hh;have hh:=zj e;clear e;obtain⟨ds,hd,e⟩:=hh;have hz:RepL N.fz N.h zs ds:=qQ hd (qg (N:=N) hp);cases hst:Nat.beq zs.length st with
 |false=>rw[hst]at e;cases e
 |true=>
 rw[hst,cond_true]at e;have hst:=Lz1 hst;unfold mkN at hn;split at hn
 ·rename_i kl m kc q;cases hb:(Nat.beq m q&&Nat.ble q 1073741824&&Nat.ble (bytes*q) 281474976710656) with
  |false=>rw[hb]at hn;cases hn
  |true=>
   rw[hb]at hn;cases hn;rw[LzC,LzC]at hb;obtain⟨⟨h1,h2⟩,h3⟩:=hb;have h1:q=n:=(Lz1 h1).symm;rw[h1]at rb h2 h3;have ew:=ye ra (c:=.int kl (.ofNat n)) rfl;have ew2:=ye rb (c:=.int kc (.ofNat n)) rfl;subst ew ew2;subst hst;obtain⟨N2,h4,h5,S2,r2⟩:=zbe (lk:=lk) (ex:=true) I hlk (st:=zs.length) (vs:=repl zs n) (xs:=List.replicate n ds) (by rw[zc6,List.length_replicate]) fun i y hy=>by
    have hi:i<n:=by have:=(Lz0.1 hy).1;simpa using this
    rw[List.getElem?_replicate,if_pos hi]at hy;cases hy;exact⟨hz.1.symm,by rw[zc7 zs n i hi];exact hz⟩
   refine⟨_,_,_,_,e,⟨(.s (.one (.slc N.h.n 0 n n true)),N.h.new (.cells (repl zs n) zs.length)),⟨N2,h4,?_⟩,0,fun _ _=>?_⟩⟩
   ·rw[List.length_replicate]at r2;exact S2.sim r2
   ·show runK r (.mkslice zs.length zs bytes a b) (C _) N.h=_;simp only[runK,ka,kb,zC];show (bif Nat.ble n n&&Nat.ble n 1073741824&&Nat.ble (bytes*n) 281474976710656 then newB N.h (.cells (repl zs n) zs.length) (fun b=>.slc b 0 n n true) else none)=_
    rw[Nat.ble_eq_true_of_le (LzB n),h2,h3];show newB N.h (.cells (repl zs n) zs.length) (fun b=>.slc b 0 n n true)=_
    exact vI _ _ _
 ·cases hn
theorem zsQ(I:InvO E N os)(F:∀i,RepPA N (r i) (ρ i)){a:Operand}(e:wd (pv ρ a) (fun v=>za (pS2b v) fun z=>k (pd z) os [] [])=some x):Goal C E lk N os r (.s2b a) k x:=by
 have hh:=wF F e;clear e;obtain⟨v,w,e,ka,ra⟩:=hh;have hh:=zj e;clear e;obtain⟨z,hz,e⟩:=hh;unfold pS2b at hz;split at hz
 ·rename_i s;cases hz;have ew:=ye ra (c:=.str s) rfl;subst ew;have hw:=I.hw.new (.ro none (vY (bytesOf s)));have G:=Gr.new N.h (.ro none (vY (bytesOf s)));obtain⟨i1,i2⟩:=I.grow hw G;have hget:(N.h.new (.ro none (vY (bytesOf s)))).t.get N.h.n=some (.ro none (vY (bytesOf s))):=by simp only[AHeap.new];exact zw _ _ _
  refine⟨_,_,_,_,e,⟨(.s (.one (.slc N.h.n 0 s.size 0 false)),N.h.new (.ro none (vY (bytesOf s)))),⟨_,rfl,⟨i1,i2,Bk.gr G,fun _ _=>rfl,.refl _ _ _,?_⟩⟩,0,fun n _=>?_⟩⟩
  ·refine vQ ?_;have hl:s.size=(s.data.toList.map fun c=>([.int .u8 (.ofNat c.toNat)]:List DV)).length:=by
    rw[List.length_map];exact(Array.length_toList (xs:=s.data)).symm
   rw[hl];have hlen:(bytesOf s).length=s.data.toList.length:=by unfold bytesOf;rw[List.length_map]
   refine Rep.lst (o:=.ro none (vY (bytesOf s))) (bytesOf s) (.inr ⟨LzB _,_,hget⟩) hget (fun h=>by cases h) ?_ (fun i y hy=>?_) (fun i y j c d hy hc hd=>?_)
   ·refine zgk (by rw[hlen,List.length_map,Nat.mul_one]) fun j c hj=>?_
    rw[Nat.zero_add,xK];exact hj
   ·rw[Lz6,Option.map_eq_some_iff]at hy;obtain⟨q,_,rfl⟩:=hy;rfl
   ·rw[Lz6,Option.map_eq_some_iff]at hy;obtain⟨q,hq,rfl⟩:=hy;cases j with
    |succ j=>simp at hd
    |zero=>
     simp only[List.getElem?_cons_zero,Option.some.injEq]at hd;subst hd;rw[Nat.mul_one,Nat.add_zero]at hc;unfold bytesOf at hc;rw[Lz6,hq]at hc;cases hc;exact .int _ _
  ·show runK r (.s2b a) (C n) N.h=_;simp only[runK,ka,zC];show newB N.h (.ro none (vY (bytesOf s))) (fun b=>.slc b 0 s.size 0 false)=_
   exact vI _ _ _
 ·cases hz
theorem znY{O:Orc}(hO:jB O C){sh:Sh}(I:InvO E N os)(F:∀i,RepPA N (r i) (ρ i))(hlk:∀j,lk j=true→j<os.length){ko:KOp}(e:pOp O lk sh ρ os ko k=some x):Goal C E lk N os r ko k x:=by
 cases ko with
 |mv a=>exact(o_mv I F e).goal I
 |pick c a b=>exact(zn1 I F e).goal I
 |alloc zs=>exact zpb I hlk e
 |box a=>exact zsR I F hlk e
 |build zs parts=>exact(zkk I F e).goal I
 |bslice st len zs parts=>exact zmT I F hlk e
 |load n a=>exact(zn4 I F e).goal I
 |store n a b=>exact zo7 I F e
 |nilck a=>exact(zke I F e).goal I
 |bin op a b=>exact(zrf I F e).goal I
 |shift l a b=>exact(zkd I F e).goal I
 |str op a b=>exact(zq7 I F e).goal I
 |nilS neg a b=>exact(zn2 I F e).goal I
 |eq q neg a b=>exact(o_eq I F e).goal I
 |not a=>exact(zq8 I F e).goal I
 |neg a=>exact(zq9 I F e).goal I
 |conv t a=>exact(zn8 I F e).goal I
 |b2s a=>exact(zrg I F e).goal I
 |mkfn f caps=>exact(zn3 I F e).goal I
 |slice st a lo hi mx=>exact(zkc I F e).goal I
 |clear st zs a=>exact zo9 I F e
 |sslice a lo hi=>exact(zhb I F e).goal I
 |foff a off=>exact(zn7 I F e).goal I
 |field a off n=>exact(zkj I F e).goal I
 |ixs st a i=>exact(zrd I F e).goal I
 |ixarr len st a i=>exact(zkh I F e).goal I
 |ixagg len st n a i=>exact(zki I F e).goal I
 |ixstr a i=>exact(zkg I F e).goal I
 |extract a i=>exact(zez I F e).goal I
 |lenS a=>exact(zn5 I F e).goal I
 |lenL a=>exact(zn6 I F e).goal I
 |append st bytes s a=>exact zmU I F hlk e
 |minmax m a xs=>exact(zhc I F e).goal I
 |mkslice st zs bytes a b=>exact zkf I F hlk e
 |s2b a=>exact zsQ I F e
 |call f args=>exact zre hO I F e
 |mkmap st=>exact zo8 I hlk e
 |lookup q z ok a b=>exact zmS I F e
 |mupd q a b c=>exact zra I F e
 |lenM a=>exact zrc I F e
end
end Go.PE
end
section
namespace Go.PE
open Go Go.CE
inductive Pl where
 |slot (i:Nat)
 |cell (k j:Nat)
def eqPl:Pl→Pl→Bool
 | .slot i,.slot j=>Nat.beq i j
 | .cell k i,.cell l j=>Nat.beq k l&&Nat.beq i j
 |_,_=>false
theorem zp3{a b:Pl}(h:eqPl a b=true):a=b:=by
 cases a<;>cases b<;>simp only[eqPl]at h
 ·rw[Lz1 h]
 ·cases h
 ·cases h
 ·rw[LzC]at h;rw[Lz1 h.1,Lz1 h.2]
def idxP(x:Pl):List Pl→Nat→Option Nat
 | [],_=>none
 |y::l,i=>bif eqPl x y then some i else idxP x l (Nat.succ i)
theorem zf0{x:Pl}:∀{l:List Pl} {i p:Nat},idxP x l i=some p→∃q,p=i+q∧l[q]? = some x
 | [],i,p,e=>by cases e
 |y::l,i,p,e=>by
  simp only[idxP]at e;cases hb:eqPl x y with
  |true=>rw[hb]at e;cases e;exact⟨0,rfl,by rw[zp3 hb];rfl⟩
  |false=>
   rw[hb]at e;obtain⟨q,h1,h2⟩:=zf0 e;exact⟨q+1,by omega,by simpa using h2⟩
structure LA where
 data:List Pl
 own:List (Pl×Nat)
 boxes:List (Nat×Nat)
 arrs:List (Nat×Nat)
 xdata:List Pl
 xown:List (Pl×Nat)
 rdata:List Pl
 rown:List (Pl×Nat)
 frz:List Nat
def selD(la:LA):RExit→List Pl
 | .normal=>la.data
 | .exit _=>la.xdata
 | .ret=>la.rdata
def selO(la:LA):RExit→List (Pl×Nat)
 | .normal=>la.own
 | .exit _=>la.xown
 | .ret=>la.rown
def nthD:List DV→Nat→DV
 | [],_=>.u
 |d::l,i=>bif Nat.beq i 0 then d else nthD l (Nat.sub i 1)
def nthM:List OC→Nat→OC
 | [],_=>none
 |d::l,i=>bif Nat.beq i 0 then d else nthM l (Nat.sub i 1)
theorem zkm:∀(l:List DV) (i:Nat),nthD l i=(l[i]?).getD .u
 | [],i=>by simp[nthD]
 |d::l,0=>by simp[nthD]
 |d::l,i+1=>by
  have:=zkm l i;show nthD l i=_;rw[this];simp
theorem zfK:∀(l:List OC) (i:Nat),nthM l i=(l[i]?).getD none
 | [],i=>by simp[nthM]
 |d::l,0=>by simp[nthM]
 |d::l,i+1=>by
  have:=zfK l i;show nthM l i=_;rw[this];simp
def getP(ρ:Nat→PA)(os:List PO):Pl→Option PC
 | .slot i=>match ρ i with | .s (.one c)=>some c|_=>none
 | .cell k j=>match og os k with | .box cs=>cs[j]? |_=>none
def isMp(st:Nat):Bool:=Nat.ble 1048576 st
def mkO(st:Nat)(v:OC):PO:=bif isMp st then .mp st (zI v) else .arr st v
theorem qw{st:Nat}{v:OC}(h:isMp st=false):mkO st v=.arr st v:=by simp only[mkO,h,cond_false]
theorem zkB{st:Nat}{v:OC}(h:isMp st=true):mkO st v=.mp st (zI v):=by simp only[mkO,h,cond_true]
def vecD(lk:Nat→Bool)(ρ:Nat→PA):List Pl→List PO→Option (List PO×List DV)
 | [],os=>some (os,[])
 |p::l,os=>
  match getP ρ os p with
  |some c=>
   match frC lk xg os c with
   |some (os',d)=>
    match vecD lk ρ l os' with
    |some (os'',ds)=>some (os'',d::ds)
    |none=>none
   |none=>none
  |none=>none
def srcO(os:List PO)(st:Nat):PC→Option (OC×Option Nat)
 | .own m=>
  match og os m with
  | .arr st' v=>bif Nat.beq st st' && !isMp st then some (v,some m) else none
  | .mp st' xs=>bif Nat.beq st st'&&isMp st then some (some xs,some m) else none
  |_=>none
 | .d .nils=>bif isMp st then none else some (none,none)
 |_=>none
def vecO(ρ:Nat→PA)(os:List PO):List (Pl×Nat)→Option (List OC×List (Option Nat))
 | []=>some ([],[])
 |(p,st)::l=>
  match getP ρ os p with
  |some c=>
   match srcO os st c with
   |some (v,m)=>
    match vecO ρ os l with
    |some (vs,ms)=>some (v::vs,m::ms)
    |none=>none
   |none=>none
  |none=>none
def vecA(os:List PO):List (Nat×Nat)→Option (List OC)
 | []=>some []
 |(k,st)::l=>
  match og os k with
  | .arr st' v=>bif Nat.beq st st' && !isMp st then(match vecA os l with|some vs=>some (v::vs)|none=>none) else none
  | .mp st' xs=>bif Nat.beq st st'&&isMp st then(match vecA os l with|some vs=>some (some xs::vs)|none=>none) else none
  |_=>none
def qM(os:List PO):List (Nat×Nat)→Bool
 | []=>true
 |(k,n)::l=>(match og os k with | .box cs=>Nat.beq cs.length n|_=>false)&&qM os l
def zfw(okm:Nat→Bool):List (Option Nat)→Bool
 | []=>true
 |none::l=>zfw okm l
 |some m::l=>okm m && !(l.any fun x=>match x with|some m'=>Nat.beq m m'|none=>false)&&zfw okm l
def ziT(lk:Nat→Bool):List Nat→List PO→Option (List PO)
 | [],os=>some os
 |k::l,os=>
  match frC lk xg os (match og os k with | .box _=>.ptr k 0|_=>.own k) with
  |some (os',_)=>ziT lk l os'
  |none=>none
def vec(lk:Nat→Bool)(okm:Nat→Bool)(la:LA)(x:RExit)(ρ:Nat→PA)(os:List PO):Option (List PO×List DV×List OC×List (Option Nat)):=
 match vecD lk ρ (selD la x) os with
 |some (os1,ds)=>
  match vecO ρ os1 (selO la x),vecA os1 la.arrs with
  |some (vs,ms),some ws=>bif qM os1 la.boxes&&zfw okm ms then some (os1,ds,vs++ws,ms) else none
  |_,_=>none
 |none=>none
def plP(D:List Pl)(Ow:List (Pl×Nat))(L:List DV)(n0:Nat)(p:Pl):Option PC:=
 match idxP p D 0 with
 |some i=>some (.d (nthD L i))
 |none=>match idxP p (Ow.map (·.1)) 0 with|some i=>some (.own (n0+i))|none=>none
def hFr(D:List Pl)(Ow:List (Pl×Nat))(W:List Nat)(ρ:Nat→PA)(n0:Nat)(L:List DV):Nat→PA:=fun i=>
 match plP D Ow L n0 (.slot i) with
 |some c=>pc c
 |none=>bif memB i W then .bad else ρ i
def kR(D:List Pl)(Ow:List (Pl×Nat))(L:List DV)(n0 k:Nat):Nat→Nat→List PC
 |0,_=>[]
 |n+1,j=>(match plP D Ow L n0 (.cell k j) with|some c=>c|none=>.d .u)::kR D Ow L n0 k n (Nat.succ j)
def vV(D:List Pl)(Ow:List (Pl×Nat))(L:List DV)(n0:Nat):List (Nat×Nat)→List PO→List PO
 | [],os=>os
 |(k,n)::l,os=>vV D Ow L n0 l (oset (.box (kR D Ow L n0 k n 0)) os k)
def zbt(M:List OC):List (Nat×Nat)→Nat→List PO→List PO
 | [],_,os=>os
 |(k,st)::l,i,os=>zbt M l (Nat.succ i) (oset (mkO st (nthM M i)) os k)
def hOwn(M:List OC):List (Pl×Nat)→Nat→List PO
 | [],_=>[]
 |(_,st)::l,i=>mkO st (nthM M i)::hOwn M l (Nat.succ i)
def hOs(D:List Pl)(Ow:List (Pl×Nat))(la:LA)(B:List PO)(n0:Nat)(L:List DV)(M:List OC):List PO:=
 zbt M la.arrs Ow.length (vV D Ow L n0 la.boxes B)++hOwn M Ow 0
def listed(la:LA)(k:Nat):Bool:=(la.boxes.any fun x=>Nat.beq k x.1)||(la.arrs.any fun x=>Nat.beq k x.1)
def kill:List (Option Nat)→List PO→List PO
 | [],os=>os
 |none::l,os=>kill l os
 |some m::l,os=>kill l (oset .dead os m)
section
variable {E:En} {lk:Nat→Bool}
def cvAt(N:Nm)(r:Fr):Pl→CVal→Prop
 | .slot i,c=>r i=.s (.one c)
 | .cell k j,c=>∃b vs,N.μ k=.ptr b 0∧N.h.t.get b=some (.cells vs 0)∧vs[j]? = some c
theorem cvAt.fz{N N':Nm}(f:Fz N N'){r:Fr}{p:Pl}{c:CVal}(H:cvAt N r p c):cvAt N' r p c:=by
 cases p with
 |slot i=>exact H
 |cell k j=>obtain⟨b,vs,h1,h2,h3⟩:=H;exact⟨b,vs,by rw[f.μ];exact h1,by rw[f.h];exact h2,h3⟩
theorem zk3{N:Nm}{os:List PO}{r:Fr}{ρ:Nat→PA}(I:InvO E N os)(F:∀i,RepPA N (r i) (ρ i)){p:Pl}{c:PC}(e:getP ρ os p=some c):∃v,cvAt N r p v∧RepPC N v c:=by
 cases p with
 |slot i=>
  simp only[getP]at e;split at e
  ·rename_i c' h;cases e;have:=F i;rw[h]at this;obtain⟨w,h1,h2⟩:=yl this;exact⟨w,h1,h2⟩
  ·cases e
 |cell k j=>
  simp only[getP]at e;cases ho:og os k with
  |box cs=>
   rw[ho]at e;obtain⟨b,vs,h1,h2,h3,h4⟩:=uw I ho;have hj:=(Lz0.1 e).1;have hl:=h4.len;obtain⟨v,hv⟩:∃v,vs[j]? = some v:=⟨_,Lz5 (by omega)⟩
   exact⟨v,⟨b,vs,h1,h3,hv⟩,h4.get hv e⟩
  |_=>rw[ho]at e;cases e
theorem zhx:∀{l:List Nat} {os os':List PO} {N:Nm},InvO E N os→ziT lk l os=some os'→∃N',Fz N N'∧Stp E lk N os [] N' os'
 | [],os,os',N,I,e=>by cases e;exact⟨N,.refl N,.refl I⟩
 |k::l,os,os',N,I,e=>by
  simp only[ziT]at e;have key:∀p,(∀os1 d,frC lk xg os p=some (os1,d)→∃c,RepPC N c p)→(match frC lk xg os p with|some (os',_)=>ziT lk l os'|none=>none)=some os'→∃N',Fz N N'∧Stp E lk N os [] N' os':=by
   intro p hp e;cases h:frC lk xg os p with
   |none=>rw[h]at e;cases e
   |some q=>
    obtain⟨os1,d⟩:=q;rw[h]at e;obtain⟨c,hc⟩:=hp os1 d h;obtain⟨N1,f1,s1,_⟩:=zeS I hc h;obtain⟨N2,f2,s2⟩:=zhx s1.inv e;exact⟨N2,f1.trans f2,s1.trans s2 f1.n⟩
  have lt:og os k≠.dead→k<N.n:=fun h=>by rw[I.len];exact zey h
  cases ho:og os k with
  |box cs=>
   rw[ho]at e;obtain⟨b,vs,h1,_⟩:=uw I ho;exact key (.ptr k 0) (fun _ _ _=>⟨.ptr b 0,lt (by rw[ho];intro h;cases h),b,h1,rfl⟩) e
  |arr st v=>rw[ho]at e;exact key (.own k) (fun _ _ _=>⟨N.μ k,lt (by rw[ho];intro h;cases h),rfl⟩) e
  |frz v=>rw[ho]at e;exact key (.own k) (fun _ _ _=>⟨N.μ k,lt (by rw[ho];intro h;cases h),rfl⟩) e
  |mp st xs=>
   rw[ho]at e;refine key (.own k) (fun os1 d h=>?_) e
   have:frC lk xg os (.own k)=none:=by
    rw[show xg=99+1 from rfl]
    simp only[frC,ho]
   rw[this]at h;cases h
  |fbox ds=>rw[ho]at e;exact key (.own k) (fun _ _ _=>⟨N.μ k,lt (by rw[ho];intro h;cases h),rfl⟩) e
  |dead=>
   rw[ho]at e;refine key (.own k) (fun os1 d h=>?_) e
   have:frC lk xg os (.own k)=none:=by
    rw[show xg=99+1 from rfl]
    simp only[frC,ho]
   rw[this]at h;cases h
theorem zfo{r:Fr}{ρ:Nat→PA}:∀{D:List Pl} {N:Nm} {os os1:List PO} {ds:List DV},InvO E N os→(∀i,RepPA N (r i) (ρ i))→vecD lk ρ D os=some (os1,ds)→
  ∃N1,Fz N N1∧Stp E lk N os [] N1 os1∧ds.length=D.length∧∀(i:Nat) (p:Pl) (d:DV),D[i]? = some p→ds[i]? = some d→∃c,cvAt N1 r p c∧Rep N1.fz N1.h c d
 | [],N,os,os1,ds,I,F,e=>by cases e;exact⟨N,.refl N,.refl I,rfl,fun i p d h=>by simp at h⟩
 |p::D,N,os,os1,ds,I,F,e=>by
  simp only[vecD]at e;cases h1:getP ρ os p with
  |none=>rw[h1]at e;cases e
  |some c=>
   rw[h1]at e;simp only at e;cases h2:frC lk xg os c with
   |none=>rw[h2]at e;cases e
   |some q=>
    obtain⟨o1,d⟩:=q;rw[h2]at e;simp only at e;cases h3:vecD lk ρ D o1 with
    |none=>rw[h3]at e;cases e
    |some q=>
     obtain⟨o2,ds2⟩:=q;rw[h3]at e;cases e;obtain⟨v,k1,k2⟩:=zk3 I F h1;obtain⟨N1,f1,s1,r1⟩:=zeS I k2 h2;obtain⟨N2,f2,s2,l2,r2⟩:=zfo s1.inv (fun i=>(F i).mono s1.nx) h3
     refine⟨N2,f1.trans f2,s1.trans s2 f1.n,by simp[l2],fun i p' d' hp hd=>?_⟩
     cases i with
     |zero=>simp only[List.getElem?_cons_zero,Option.some.injEq]at hp hd;subst hp;subst hd;exact⟨v,(k1.fz f1).fz f2,r1.mono s2.nx.fg⟩
     |succ i=>exact r2 i p' d' (by simpa using hp) (by simpa using hd)
theorem zjb{N:Nm}{os:List PO}{r:Fr}{ρ:Nat→PA}(I:InvO E N os)(F:∀i,RepPA N (r i) (ρ i)):∀{Ow:List (Pl×Nat)} {vs:List OC} {ms:List (Option Nat)},vecO ρ os Ow=some (vs,ms)→
  vs.length=Ow.length∧ms.length=Ow.length∧∀(i:Nat) (p:Pl) (st:Nat),Ow[i]? = some (p,st)→∃v m c,vs[i]? = some v∧ms[i]? = some m∧cvAt N r p c∧((m=none∧v=none∧c=.nils∧isMp st=false)∨∃q,m=some q∧og os q=mkO st v∧c=N.μ q∧q<N.n)
 | [],vs,ms,e=>by cases e;exact⟨rfl,rfl,fun i p st h=>by simp at h⟩
 |(p,st)::Ow,vs,ms,e=>by
  simp only[vecO]at e;cases h1:getP ρ os p with
  |none=>rw[h1]at e;cases e
  |some c=>
   rw[h1]at e;simp only at e;cases h2:srcO os st c with
   |none=>rw[h2]at e;cases e
   |some q=>
    obtain⟨v,m⟩:=q;rw[h2]at e;simp only at e;cases h3:vecO ρ os Ow with
    |none=>rw[h3]at e;cases e
    |some q=>
     obtain⟨vs2,ms2⟩:=q;rw[h3]at e;cases e;obtain⟨w,k1,k2⟩:=zk3 I F h1;obtain⟨l1,l2,H⟩:=zjb I F h3;refine⟨by simp[l1],by simp[l2],fun i p' st' hp=>?_⟩
     cases i with
     |zero=>
      simp only[List.getElem?_cons_zero,Option.some.injEq,Prod.mk.injEq]at hp;obtain⟨rfl,rfl⟩:=hp;refine⟨v,m,w,rfl,rfl,k1,?_⟩;cases c with
      |d dv=>
       cases dv with
       |nils=>
        have h2':(bif isMp st then none else some ((none:OC),(none:Option Nat)))=some (v,m):=h2
        cases hm:isMp st with
        |true=>rw[hm]at h2';cases h2'
        |false=>
         rw[hm]at h2';cases h2';exact .inl ⟨rfl,rfl,Rep.scal k2 rfl,rfl⟩
       |_=>cases h2
      |own q=>
       simp only[srcO]at h2;cases ho:og os q with
       |arr st' v'=>
        rw[ho]at h2;simp only at h2;cases hs:(Nat.beq st st' && !isMp st) with
        |false=>rw[hs]at h2;cases h2
        |true=>
         rw[hs]at h2;cases h2;simp only[LzC,Bool.not_eq_true']at hs;have he:=Lz1 hs.1;subst he;exact .inr ⟨q,rfl,by rw[qw hs.2];exact ho,k2.2,k2.1⟩
       |mp st' xs=>
        rw[ho]at h2;simp only at h2;cases hs:(Nat.beq st st'&&isMp st) with
        |false=>rw[hs]at h2;cases h2
        |true=>
         rw[hs]at h2;cases h2;rw[LzC]at hs;have he:=Lz1 hs.1;subst he;exact .inr ⟨q,rfl,by rw[zkB hs.2];exact ho,k2.2,k2.1⟩
       |_=>rw[ho]at h2;cases h2
      |_=>cases h2
     |succ i=>
      obtain⟨v',m',c',a1,a2,a3⟩:=H i p' st' (by simpa using hp)
      exact⟨v',m',c',by simpa using a1,by simpa using a2,a3⟩
theorem zjc{os:List PO}:∀{l:List (Nat×Nat)} {ws:List OC},vecA os l=some ws→ws.length=l.length∧∀(i k st:Nat),l[i]? = some (k,st)→∃v,ws[i]? = some v∧og os k=mkO st v
 | [],ws,e=>by cases e;exact⟨rfl,fun i k st h=>by simp at h⟩
 |(k,st)::l,ws,e=>by
  simp only[vecA]at e;have key:∀v,og os k=mkO st v→(match vecA os l with|some vs=>some (v::vs)|none=>none)=some ws→ws.length=((k,st)::l).length∧∀(i k' st':Nat),((k,st)::l)[i]? = some (k',st')→∃v,ws[i]? = some v∧og os k'=mkO st' v:=by
   intro v ho e;cases h2:vecA os l with
   |none=>rw[h2]at e;cases e
   |some vs=>
    rw[h2]at e;cases e;obtain⟨a,b⟩:=zjc h2;refine⟨by simp[a],fun i k' st' h=>?_⟩
    cases i with
    |zero=>
     simp only[List.getElem?_cons_zero,Option.some.injEq,Prod.mk.injEq]at h;obtain⟨rfl,rfl⟩:=h;exact⟨v,rfl,ho⟩
    |succ i=>obtain⟨v',b1,b2⟩:=b i k' st' (by simpa using h);exact⟨v',by simpa using b1,b2⟩
  cases ho:og os k with
  |arr st' v=>
   rw[ho]at e;simp only at e;cases hs:(Nat.beq st st' && !isMp st) with
   |false=>rw[hs]at e;cases e
   |true=>
    rw[hs]at e;simp only[LzC,Bool.not_eq_true']at hs;have he:=Lz1 hs.1;subst he;exact key v (by rw[qw hs.2];exact ho) e
  |mp st' xs=>
   rw[ho]at e;simp only at e;cases hs:(Nat.beq st st'&&isMp st) with
   |false=>rw[hs]at e;cases e
   |true=>
    rw[hs]at e;rw[LzC]at hs;have he:=Lz1 hs.1;subst he;exact key (some xs) (by rw[zkB hs.2];exact ho) e
  |_=>rw[ho]at e;cases e
theorem zcM{os:List PO}:∀{l:List (Nat×Nat)},qM os l=true→∀k n,(k,n)∈l→∃cs,og os k=.box cs∧cs.length=n
 |(k0,n0)::l,e,k,n,h=>by
  simp only[qM,LzC]at e;rcases List.mem_cons.1 h with h|h
  ·rw[Prod.mk.injEq]at h;obtain⟨h1,h2⟩:=h;subst h1;subst h2;cases ho:og os k with
   |box cs=>have:=e.1;rw[ho]at this;exact⟨cs,rfl,Lz1 this⟩
   |_=>have:=e.1;rw[ho]at this;cases this
  ·exact zcM e.2 k n h
theorem zat{okm:Nat→Bool}:∀{ms:List (Option Nat)},zfw okm ms=true→(∀(i m:Nat),ms[i]? = some (some m)→okm m=true)∧∀(i j m:Nat),ms[i]? = some (some m)→ms[j]? = some (some m)→i=j
 | [],_=>⟨fun i m h=>by simp at h,fun i j m h=>by simp at h⟩
 |none::l,e=>by
  obtain⟨a,b⟩:=zat (ms:=l) e;refine⟨fun i m h=>?_,fun i j m h h'=>?_⟩
  ·cases i with
   |zero=>simp at h
   |succ i=>exact a i m (by simpa using h)
  ·cases i with
   |zero=>simp at h
   |succ i=>
    cases j with
    |zero=>simp at h'
    |succ j=>rw[b i j m (by simpa using h) (by simpa using h')]
 |some q::l,e=>by
  simp only[zfw,LzC,Bool.not_eq_true']at e;obtain⟨⟨e1,e2⟩,e3⟩:=e;obtain⟨a,b⟩:=zat (ms:=l) e3;have ne:∀j:Nat,l[j]?≠some (some q):=fun j h=>by
   have:=Lz3 h;have h3:(l.any fun x=>match x with|some m'=>Nat.beq q m'|none=>false)=true:=List.any_eq_true.2 ⟨_,this,Nat.beq_refl q⟩
   rw[h3]at e2;cases e2
  refine⟨fun i m h=>?_,fun i j m h h'=>?_⟩
  ·cases i with
   |zero=>simp at h;subst h;exact e1
   |succ i=>exact a i m (by simpa using h)
  ·cases i with
   |zero=>
    cases j with
    |zero=>rfl
    |succ j=>simp at h;subst h;exact absurd (by simpa using h') (ne j)
   |succ i=>
    cases j with
    |zero=>simp at h';subst h';exact absurd (by simpa using h) (ne i)
    |succ j=>rw[b i j m (by simpa using h) (by simpa using h')]
theorem vU(D:List Pl)(Ow:List (Pl×Nat))(L:List DV)(n0:Nat):∀(l:List (Nat×Nat)) (os:List PO),(vV D Ow L n0 l os).length=os.length
 | [],_=>rfl
 |(k,n)::l,os=>by simp only[vV];rw[vU D Ow L n0 l,yK]
theorem kS(M:List OC):∀(l:List (Nat×Nat)) (i:Nat) (os:List PO),(zbt M l i os).length=os.length
 | [],_,_=>rfl
 |(k,st)::l,i,os=>by simp only[zbt];rw[kS M l,yK]
theorem zht(M:List OC):∀(l:List (Pl×Nat)) (i:Nat),(hOwn M l i).length=l.length
 | [],_=>rfl
 |(_,st)::l,i=>by simp[hOwn,zht M l]
theorem zhu(M:List OC):∀(l:List (Pl×Nat)) (i j:Nat),(hOwn M l i)[j]? = (l[j]?).map fun x=>mkO x.2 (nthM M (i+j))
 | [],i,j=>by simp[hOwn]
 |(p,st)::l,i,0=>by simp[hOwn]
 |(p,st)::l,i,j+1=>by
  have:=zhu M l (i+1) j;simp only[hOwn,List.getElem?_cons_succ];rw[this,show i+1+j=i+(j+1) by omega]
theorem qA(D:List Pl)(Ow:List (Pl×Nat))(L:List DV)(n0:Nat):∀(l:List (Nat×Nat)) (os:List PO) (k:Nat),
  (∃n,(k,n)∈l∧k<os.length∧og (vV D Ow L n0 l os) k=.box (kR D Ow L n0 k n 0))∨((∀n,(k,n)∈l→¬k<os.length)∧og (vV D Ow L n0 l os) k=og os k)
 | [],os,k=>.inr ⟨fun n h=>(by cases h),rfl⟩
 |(k0,n)::l,os,k=>by
  simp only[vV];rcases qA D Ow L n0 l (oset (.box (kR D Ow L n0 k0 n 0)) os k0) k with⟨m,h1,h2,h3⟩|⟨h1,h2⟩
  ·exact .inl ⟨m,List.mem_cons_of_mem _ h1,by rwa [yK]at h2,h3⟩
  ·rw[yy]at h2;split at h2
   ·rename_i hk;rw[hk.1]at h2 ⊢;exact .inl ⟨n,List.mem_cons_self ..,hk.2,h2⟩
   ·rename_i hk;refine .inr ⟨fun m hm hlt=>?_,h2⟩
    rcases List.mem_cons.1 hm with h|h
    ·cases h;exact hk ⟨rfl,hlt⟩
    ·exact h1 m h (by rw[yK];exact hlt)
theorem zbs(M:List OC):∀(l:List (Nat×Nat)) (i:Nat) (os:List PO) (k:Nat),
  (∃j st,l[j]? = some (k,st)∧k<os.length∧og (zbt M l i os) k=mkO st (nthM M (i+j)))∨((∀st,(k,st)∈l→¬k<os.length)∧og (zbt M l i os) k=og os k)
 | [],i,os,k=>.inr ⟨fun n h=>(by cases h),rfl⟩
 |(k0,st)::l,i,os,k=>by
  simp only[zbt];rcases zbs M l (Nat.succ i) (oset (mkO st (nthM M i)) os k0) k with⟨j,s,h1,h2,h3⟩|⟨h1,h2⟩
  ·exact .inl ⟨j+1,s,by simpa using h1,by rwa [yK]at h2,by rw[h3,show Nat.succ i+j=i+(j+1) by omega]⟩
  ·rw[yy]at h2;split at h2
   ·rename_i hk;rw[hk.1]at h2 ⊢;exact .inl ⟨0,st,rfl,hk.2,h2⟩
   ·rename_i hk;refine .inr ⟨fun m hm hlt=>?_,h2⟩
    rcases List.mem_cons.1 hm with h|h
    ·cases h;exact hk ⟨rfl,hlt⟩
    ·exact h1 m h (by rw[yK];exact hlt)
theorem zcy(D:List Pl)(Ow:List (Pl×Nat))(L:List DV)(n0 k:Nat):∀(n i j:Nat),j<n→(kR D Ow L n0 k n i)[j]? = some (match plP D Ow L n0 (.cell k (i+j)) with|some c=>c|none=>.d .u)
 |0,i,j,h=>by omega
 |n+1,i,0,_=>rfl
 |n+1,i,j+1,h=>by
  have:=zcy D Ow L n0 k n (i+1) j (by omega)
  simp only[kR,List.getElem?_cons_succ];rw[this,show i+1+j=i+(j+1) by omega]
theorem zcx(D:List Pl)(Ow:List (Pl×Nat))(L:List DV)(n0 k:Nat):∀(n i:Nat),(kR D Ow L n0 k n i).length=n
 |0,_=>rfl
 |n+1,i=>by simp[kR,zcx D Ow L n0 k n]
theorem InvO.reidx{N:Nm}{os:List PO}(I:InvO E N os)(os':List PO)(μ':Nat→CVal)(s:Nat→Nat)(hs:∀k,live (og os' k)→live (og os (s k))∧μ' k=N.μ (s k))
  (hi:∀k k',live (og os' k)→live (og os' k')→s k=s k'→k=k') (ho:∀k,RepO ⟨μ',os'.length,N.fz,N.h⟩ k (og os' k)):InvO E ⟨μ',os'.length,N.fz,N.h⟩ os':=
 ⟨I.hw, I.gr, I.fzlt, I.fzok, I.fzex, rfl, fun k b hl hb => by
  obtain⟨h1,h2⟩:=hs k hl;rw[show (Nm.mk μ' os'.length N.fz N.h).μ k=N.μ (s k) from h2]at hb
  exact I.own _ b h1 hb,fun k k' b hl hl' hb hb'=>by
  obtain⟨h1,h2⟩:=hs k hl;obtain⟨g1,g2⟩:=hs k' hl';rw[show (Nm.mk μ' os'.length N.fz N.h).μ k=N.μ (s k) from h2]at hb
  rw[show (Nm.mk μ' os'.length N.fz N.h).μ k'=N.μ (s k') from g2]at hb'
  exact hi k k' hl hl' (I.inj _ _ b h1 g1 hb hb'),ho⟩
end
end Go.PE
end
section
namespace Go.PE
open Go Go.CE
section
variable {E:En} {lk okm:Nat→Bool}
theorem zj9(a b:List PO)(k:Nat)(h:k<a.length):og (a++b) k=og a k:=by
 rw[zdl,zdl,Lz2 h]
theorem zmQ(a b:List PO)(k:Nat)(h:a.length≤k):og (a++b) k=(b[k-a.length]?).getD .dead:=by
 rw[zdl,Lz8 h]
theorem RepCaps.re{N0 N1 N2:Nm}(hle:N0.n≤N2.n)(hmu:∀k,k<N0.n→N2.μ k=N1.μ k)(hfz:N2.fz=N1.fz)(hh:N2.h=N1.h):∀{ps0 ps:List (BN×Nat)} {caps:List (Nat⊕List DV)},RepCaps N0 ps0 caps→RepCaps N1 ps caps→RepCaps N2 ps caps
 | [],[],[],_,_=>trivial
 |_::_,_::_,.inl k::_,H0,H=>⟨⟨Lz9 H0.1.1 hle,(hmu k H0.1.1).trans H.1.2.1,H.1.2.2⟩,RepCaps.re hle hmu hfz hh H0.2 H.2⟩
 |_::_,_::_,.inr xs::_,H0,H=>⟨by show Rep _ _ _ _;rw[hfz,hh];exact H.1,RepCaps.re hle hmu hfz hh H0.2 H.2⟩
 |_,[],_::_,_,H=>H.elim
 |_,_::_,[],_,H=>H.elim
 | [],_,_::_,H0,_=>H0.elim
 |_::_,_,[],H0,_=>H0.elim
theorem RepPC.re{N0 N1 N2:Nm}(hle:N0.n≤N2.n)(hmu:∀k,k<N0.n→N2.μ k=N1.μ k)(hfz:N2.fz=N1.fz)(hh:N2.h=N1.h){c0 c:CVal}{p:PC}(H0:RepPC N0 c0 p)(H:RepPC N1 c p):RepPC N2 c p:=by
 cases p with
 |d v=>show Rep _ _ _ _;rw[hfz,hh];exact H
 |own k=>exact⟨Lz9 H0.1 hle,H.2.trans (hmu k H0.1).symm⟩
 |ptr k off=>obtain⟨_,b,h2,h3⟩:=H;exact⟨Lz9 H0.1 hle,b,(hmu k H0.1).trans h2,h3⟩
 |ep k st i off=>obtain⟨_,b,l,cap,ex,h2,h3,h4⟩:=H;exact⟨Lz9 H0.1 hle,b,l,cap,ex,(hmu k H0.1).trans h2,h3,h4⟩
 |ip k off len st i o=>obtain⟨_,b,h2,h3,h4⟩:=H;exact⟨Lz9 H0.1 hle,b,(hmu k H0.1).trans h2,h3,h4⟩
 |vw k st lo len=>exact⟨Lz9 H0.1 hle,by rw[hmu k H0.1];exact H.2⟩
 |clo f caps=>
  obtain⟨ps,rfl,hc⟩:=H;obtain⟨ps0,_,hc0⟩:=H0;exact⟨ps,rfl,RepCaps.re hle hmu hfz hh hc0 hc⟩
theorem RepPL.re{N0 N1 N2:Nm}(hle:N0.n≤N2.n)(hmu:∀k,k<N0.n→N2.μ k=N1.μ k)(hfz:N2.fz=N1.fz)(hh:N2.h=N1.h):∀{v0 v:List CVal} {ps:List PC},RepPL N0 v0 ps→RepPL N1 v ps→RepPL N2 v ps
 | [],[],[],_,_=>trivial
 |_::_,_::_,_::_,H0,H=>⟨RepPC.re hle hmu hfz hh H0.1 H.1,RepPL.re hle hmu hfz hh H0.2 H.2⟩
 |_,[],_::_,_,H=>H.elim
 |_,_::_,[],_,H=>H.elim
 | [],_,_::_,H0,_=>H0.elim
 |_::_,_,[],H0,_=>H0.elim
theorem RepO.arr_re{N1 N2:Nm}{k m st:Nat}{v:OC}(hmu:N2.μ k=N1.μ m)(hfz:N2.fz=N1.fz)(hh:N2.h=N1.h)(H:RepO N1 m (.arr st v)):RepO N2 k (.arr st v):=by
 cases v with
 |none=>exact hmu.trans H
 |some xs=>
  obtain⟨b,vs,ex,h1,h2,h3,h4,h5⟩:=H;exact⟨b,vs,ex,hmu.trans h1,by rw[hfz];exact h2,by rw[hh];exact h3,h4,fun i x hx=>by rw[hfz,hh];exact h5 i x hx⟩
theorem RepO.mkO_re{N1 N2:Nm}{k m st:Nat}{v:OC}(hmu:N2.μ k=N1.μ m)(hfz:N2.fz=N1.fz)(hh:N2.h=N1.h)(H:RepO N1 m (mkO st v)):RepO N2 k (mkO st v):=by
 cases hm:isMp st with
 |false=>rw[qw hm]at H ⊢;exact RepO.arr_re hmu hfz hh H
 |true=>
  rw[zkB hm]at H ⊢;obtain⟨b,es,h1,h2,h3,h4,h5⟩:=H;exact⟨b,es,hmu.trans h1,by rw[hfz];exact h2,by rw[hh];exact h3,h4,fun i e x he hx=>by rw[hfz,hh];exact h5 i e x he hx⟩
theorem zd1{l:List (Nat×Nat)}{k:Nat}(h:(l.any fun x=>Nat.beq k x.1)=false):∀n,(k,n)∉l:=fun n hn=>by
 have:(l.any fun x=>Nat.beq k x.1)=true:=List.any_eq_true.2 ⟨(k,n),hn,Nat.beq_refl k⟩
 rw[h]at this;cases this
theorem zk1{la:LA}{x:RExit}{N0 N:Nm}{B os os1:List PO}{r r0:Fr}{ρ ρ0:Nat→PA}{W:List Nat}{L:List DV}{M:List OC}{ms:List (Option Nat)}
  (I:InvO E N os) (F:∀i,RepPA N (r i) (ρ i)) (e:vec lk okm la x ρ os=some (os1,L,M,ms)) (hn0:N0.n=B.length) (nx0:Nx N0 N) (F0:∀i,RepPA N0 (r0 i) (ρ0 i)) (hW:∀i,i∉W→r i=r0 i)
  (hB:∀k,k<B.length→listed la k=false→og B k=.dead∨(og B k=og os1 k∧∀cs,og B k=.box cs→∃(N':Nm) (vs0:List CVal),N'.n=B.length∧RepPL N' vs0 cs))
  (hok:∀m,some m∈ms→m<B.length→¬live (og B m)∧listed la m=false):
  ∃N2,N2.h=N.h∧InvO E N2 (hOs (selD la x) (selO la x) la B B.length L M)∧
   (∀i,RepPA N2 (r i) (hFr (selD la x) (selO la x) W ρ0 B.length L i))∧Nx N0 N2:=by
 unfold vec at e;generalize hD:(selD la x)=D at e ⊢;generalize hOw:(selO la x)=Ow at e ⊢;cases h1:vecD lk ρ D os with
 |none=>rw[h1]at e;cases e
 |some q=>
  obtain⟨o1,ds⟩:=q;rw[h1]at e;simp only at e;cases h2:vecO ρ o1 Ow with
  |none=>rw[h2]at e;cases e
  |some q=>
   obtain⟨vs,ms0⟩:=q;cases h3:vecA o1 la.arrs with
   |none=>rw[h2,h3]at e;cases e
   |some ws=>
    rw[h2,h3]at e;simp only at e;cases h4:(qM o1 la.boxes&&zfw okm ms0) with
    |false=>rw[h4]at e;cases e
    |true=>
     rw[h4]at e;cases e;rw[LzC]at h4;obtain⟨N1,f1,S1,lD,rD⟩:=zfo I F h1;have F1:∀i,RepPA N1 (r i) (ρ i):=fun i=>(F i).mono S1.nx
     have I1:=S1.inv;obtain⟨lO,lms,rO⟩:=zjb I1 F1 h2;obtain⟨lA,rA⟩:=zjc h3;have bO:=zcM h4.1;obtain⟨sA,sB⟩:=zat h4.2
     let os2:=hOs D Ow la B B.length L (vs++ws)
     have hl1:(zbt (vs++ws) la.arrs Ow.length (vV D Ow L B.length la.boxes B)).length=B.length:=by rw[kS,vU]
     have hlen:os2.length=B.length+Ow.length:=(List.length_append (as:=zbt (vs++ws) la.arrs Ow.length (vV D Ow L B.length la.boxes B)) (bs:=hOwn (vs++ws) Ow 0)).trans (by rw[hl1,zht])
     let μ2:Nat→CVal:=fun k=>if k<B.length then N1.μ k else match ms[k-B.length]? with|some (some m)=>N1.μ m|_=>.nils
     let s:Nat→Nat:=fun k=>if k<B.length then k else match ms[k-B.length]? with|some (some m)=>m|_=>0
     let N2:Nm:=⟨μ2,os2.length,N1.fz,N1.h⟩
     have mulo:∀k,k<B.length→μ2 k=N1.μ k:=fun k hk=>by show (if k<B.length then _ else _)=_;rw[if_pos hk]
     have slo:∀k,k<B.length→s k=k:=fun k hk=>by show (if k<B.length then _ else _)=_;rw[if_pos hk]
     have muhi:∀q,μ2 (B.length+q)=match ms[q]? with|some (some m)=>N1.μ m|_=>.nils:=fun q=>by
      show (if B.length+q<B.length then _ else _)=_
      rw[if_neg (by omega),Nat.add_sub_cancel_left]
     have shi:∀q m,ms[q]? = some (some m)→s (B.length+q)=m:=fun q m hm=>by
      show (if B.length+q<B.length then _ else _)=_
      rw[if_neg (by omega),Nat.add_sub_cancel_left,hm]
     have nthO1:∀q v,vs[q]? = some v→nthM (vs++ws) q=v:=fun q v hq=>by
      have:=(Lz0.1 hq).1;rw[zfK,Lz2 this,hq];rfl
     have nthO2:∀j v,ws[j]? = some v→nthM (vs++ws) (Ow.length+j)=v:=fun j v hj=>by
      rw[zfK,Lz8 (by omega),←lO,Nat.add_sub_cancel_left,hj];rfl
     have nx2:Nx N0 N2:=⟨nx0.fg.trans S1.nx.fg,by show N0.n≤os2.length;rw[hn0,hlen];omega,fun k hk=>by
      have hk':k<B.length:=by rw[←hn0];exact hk
      show μ2 k=_;rw[mulo k hk',f1.μ];exact nx0.mu k hk⟩
     have place:∀p c,plP D Ow L B.length p=some c→∃v,cvAt N1 r p v∧RepPC N2 v c:=by
      intro p c hp;unfold plP at hp;cases hd:idxP p D 0 with
      |some i=>
       rw[hd]at hp;cases hp;obtain⟨q,rfl,hq⟩:=zf0 hd;have hqd:=(Lz0.1 hq).1;obtain⟨d,hdd⟩:∃d,L[q]? = some d:=⟨_,Lz5 (by omega)⟩
       obtain⟨v,k1,k2⟩:=rD q p d hq hdd;refine⟨v,k1,?_⟩;show Rep _ _ _ _;rw[Nat.zero_add,zkm,hdd];exact k2
      |none=>
       rw[hd]at hp;simp only at hp;cases ho:idxP p (Ow.map (·.1)) 0 with
       |none=>rw[ho]at hp;cases hp
       |some i=>
        rw[ho]at hp;cases hp;obtain⟨q,rfl,hq⟩:=zf0 ho;simp only[Lz6,Option.map_eq_some_iff]at hq;obtain⟨⟨p',st⟩,hq,rfl⟩:=hq;obtain⟨v,m,c,k1,k2,k3,k4⟩:=rO q p' st hq;refine⟨c,k3,?_,?_⟩
        ·show B.length+(0+q)<os2.length;have:=(Lz0.1 hq).1;rw[hlen];omega
        ·show c=μ2 (B.length+(0+q));rw[Nat.zero_add,muhi,k2];rcases k4 with⟨rfl,_,rfl,_⟩|⟨m',rfl,_,rfl,_⟩
         ·rfl
         ·rfl
     have obj:∀k,(k<B.length∧((∃(j st:Nat) (v:OC),la.arrs[j]? = some (k,st)∧ws[j]? = some v∧og os2 k=mkO st v∧og os1 k=mkO st v)∨
       (∃(n:Nat) (cs:List PC),(k,n)∈la.boxes∧og os2 k=.box (kR D Ow L B.length k n 0)∧og os1 k=.box cs∧cs.length=n)∨(listed la k=false∧og os2 k=og B k)))∨
       (∃(q:Nat),k=B.length+q∧((∃(p:Pl) (st:Nat) (v:OC) (m:Option Nat) (c:CVal),Ow[q]? = some (p,st)∧vs[q]? = some v∧ms[q]? = some m∧cvAt N1 r p c∧((m=none∧v=none∧c=.nils∧isMp st=false)∨∃q',m=some q'∧og os1 q'=mkO st v∧c=N1.μ q'∧q'<N1.n)∧og os2 k=mkO st v)∨og os2 k=.dead)):=by
      intro k;by_cases hk:k<B.length
      ·refine .inl ⟨hk,?_⟩;have e0:og os2 k=og (zbt (vs++ws) la.arrs Ow.length (vV D Ow L B.length la.boxes B)) k:=zj9 _ _ k (by rw[hl1];exact hk)
       rcases zbs (vs++ws) la.arrs Ow.length (vV D Ow L B.length la.boxes B) k with⟨j,st,a1,a2,a3⟩|⟨a1,a2⟩
       ·obtain⟨v,b1,b2⟩:=rA j k st a1;exact .inl ⟨j,st,v,a1,b1,by rw[e0,a3,nthO2 j v b1],b2⟩
       ·rcases qA D Ow L B.length la.boxes B k with⟨n,c1,c2,c3⟩|⟨c1,c2⟩
        ·obtain⟨cs,d1,d2⟩:=bO k n c1;exact .inr (.inl ⟨n,cs,c1,by rw[e0,a2,c3],d1,d2⟩)
        ·refine .inr (.inr ⟨?_,by rw[e0,a2,c2]⟩)
         unfold listed;rw[Bool.or_eq_false_iff]
         constructor
         ·cases hb:(la.boxes.any fun x=>Nat.beq k x.1) with
          |false=>rfl
          |true=>
           obtain⟨⟨k',n⟩,h,h'⟩:=List.any_eq_true.1 hb;have:=Lz1 h';simp only at this;subst this;exact absurd hk (c1 n h)
         ·cases hb:(la.arrs.any fun x=>Nat.beq k x.1) with
          |false=>rfl
          |true=>
           obtain⟨⟨k',n⟩,h,h'⟩:=List.any_eq_true.1 hb;have:=Lz1 h';simp only at this;subst this;exact absurd (by rw[vU];exact hk) (a1 n h)
      ·refine .inr ⟨k-B.length,by omega,?_⟩
       have e0:og os2 k=((hOwn (vs++ws) Ow 0)[k-B.length]?).getD .dead:=by
        have:=zmQ (zbt (vs++ws) la.arrs Ow.length (vV D Ow L B.length la.boxes B)) (hOwn (vs++ws) Ow 0) k (by rw[hl1];omega)
        rw[hl1]at this;exact this
       rw[zhu]at e0;cases hq:Ow[k-B.length]? with
       |none=>rw[hq]at e0;exact .inr e0
       |some y=>
        obtain⟨p,st⟩:=y;obtain⟨v,m,c,k1,k2,k3,k4⟩:=rO _ p st hq;rw[hq]at e0;refine .inl ⟨p,st,v,m,c,rfl,k1,k2,k3,k4,?_⟩;rw[e0,Nat.zero_add];show mkO st (nthM (vs++ws) (k-B.length))=_;rw[nthO1 _ v k1]
     have inv:InvO E N2 os2:=by
      refine I1.reidx os2 μ2 s ?_ ?_ ?_
      ·intro k hl;rcases obj k with⟨hk,⟨j,st,v,a1,a2,a3,a4⟩|⟨n,cs,a1,a2,a3,a4⟩|⟨a1,a2⟩⟩|⟨q,rfl,⟨p,st,v,m,c,a1,a2,a3,a4,a5,a6⟩|a1⟩
       ·rw[slo k hk,mulo k hk,a4];rw[a3]at hl;exact⟨hl,rfl⟩
       ·rw[slo k hk,mulo k hk,a3];exact⟨trivial,rfl⟩
       ·rw[slo k hk,mulo k hk];rcases hB k hk a1 with h|⟨h,_⟩
        ·rw[a2,h]at hl;exact hl.elim
        ·rw[a2,h]at hl;exact⟨hl,rfl⟩
       ·rcases a5 with⟨rfl,rfl,_,hmp⟩|⟨m',rfl,b1,b2,b3⟩
        ·rw[a6,qw hmp]at hl;exact hl.elim
        ·rw[shi q m' a3,muhi,a3,b1];rw[a6]at hl;exact⟨hl,rfl⟩
       ·rw[a1]at hl;exact hl.elim
      ·have high:∀k,live (og os2 k)→¬k<B.length→∃q m,k=B.length+q∧ms[q]? = some (some m):=fun k hl hk=>by
        rcases obj k with⟨hk',_⟩|⟨q,rfl,⟨p,st,v,m,c,a1,a2,a3,a4,a5,a6⟩|a1⟩
        ·exact absurd hk' hk
        ·rcases a5 with⟨rfl,rfl,_,hmp⟩|⟨m',rfl,_⟩
         ·rw[a6,qw hmp]at hl;exact hl.elim
         ·exact⟨q,m',rfl,a3⟩
        ·rw[a1]at hl;exact hl.elim
       have mixed:∀k k',live (og os2 k)→live (og os2 k')→k<B.length→¬k'<B.length→s k≠s k':=fun k k' hl hl' hk hk' heq=>by
        obtain⟨q,m,rfl,hm⟩:=high k' hl' hk';rw[slo k hk,shi q m hm]at heq;subst heq;obtain⟨g1,g2⟩:=hok k (Lz3 hm) hk;rcases obj k with⟨_,⟨j,st,v,a1,a2,a3,a4⟩|⟨n,cs,a1,a2,a3,a4⟩|⟨a1,a2⟩⟩|⟨q',h,_⟩
        ·have:(k,st)∈la.arrs:=Lz3 a1;unfold listed at g2;rw[Bool.or_eq_false_iff]at g2;exact zd1 g2.2 st this
        ·unfold listed at g2;rw[Bool.or_eq_false_iff]at g2;exact zd1 g2.1 n a1
        ·rw[a2]at hl;exact g1 hl
        ·omega
       intro k k' hl hl' heq;by_cases hk:k<B.length<;>by_cases hk':k'<B.length
       ·rwa [slo k hk,slo k' hk']at heq
       ·exact absurd heq (mixed k k' hl hl' hk hk')
       ·exact absurd heq.symm (mixed k' k hl' hl hk' hk)
       ·obtain⟨q,m,rfl,hm⟩:=high k hl hk;obtain⟨q',m',rfl,hm'⟩:=high k' hl' hk';rw[shi q m hm,shi q' m' hm']at heq;subst heq;rw[sB q q' m hm hm']
      ·intro k;rcases obj k with⟨hk,⟨j,st,v,a1,a2,a3,a4⟩|⟨n,cs,a1,a2,a3,a4⟩|⟨a1,a2⟩⟩|⟨q,rfl,⟨p,st,v,m,c,a1,a2,a3,a4,a5,a6⟩|a1⟩
       ·rw[a3];have:=I1.obj k;rw[a4]at this;exact RepO.mkO_re (N2:=N2) (mulo k hk) rfl rfl this
       ·rw[a2];obtain⟨b,us,b1,b2,b3,b4⟩:=uw I1 a3;have hul:=b4.len;refine⟨b,us,(mulo k hk).trans b1,b2,b3,RepPL.of (by rw[zcx];omega) fun j c p hc hp=>?_⟩
        have hj:=(Lz0.1 hc).1;rw[zcy D Ow L B.length k n 0 j (by omega),Nat.zero_add]at hp
        cases hp;cases hpl:plP D Ow L B.length (.cell k j) with
        |none=>exact Rep.u c
        |some c'=>
         obtain⟨v,w1,w2⟩:=place _ _ hpl;obtain⟨b',us',x1,x2,x3⟩:=w1;rw[b1]at x1;cases x1;rw[b3]at x2;cases x2;rw[hc]at x3;cases x3;exact w2
       ·rw[a2];rcases hB k hk a1 with h|⟨h,hbx⟩
        ·rw[h];trivial
        ·have:=I1.obj k;rw[←h]at this;generalize hoB:og B k=ob at this hbx;cases ob with
         |box cs=>
          obtain⟨N',vs0,hnn,hv0⟩:=hbx cs rfl;obtain⟨b,us,b1,b2,b3,b4⟩:=this;exact⟨b,us,(mulo k hk).trans b1,b2,b3,RepPL.re (N0:=N') (N1:=N1) (N2:=N2) (by rw[hnn];show B.length≤os2.length;rw[hlen];omega) (fun i hi=>mulo i (by rw[←hnn];exact hi)) rfl rfl hv0 b4⟩
         |arr st v=>exact RepO.arr_re (N2:=N2) (mulo k hk) rfl rfl this
         |frz v=>show Rep N1.fz N1.h (μ2 k) v;rw[mulo k hk];exact this
         |fbox ds=>obtain⟨b,b1,b2⟩:=this;exact⟨b,(mulo k hk).trans b1,b2⟩
         |mp st xs=>
          obtain⟨b,es,h1,h2,h3,h4,h5⟩:=this;exact⟨b,es,(mulo k hk).trans h1,h2,h3,h4,h5⟩
         |dead=>trivial
       ·rw[a6];rcases a5 with⟨rfl,rfl,_,hmp⟩|⟨m',rfl,b1,b2,b3⟩
        ·rw[qw hmp];show μ2 (B.length+q)=.nils;rw[muhi,a3]
        ·have:=I1.obj m';rw[b1]at this;refine RepO.mkO_re (N1:=N1) (N2:=N2) ?_ rfl rfl this;show μ2 (B.length+q)=_;rw[muhi,a3]
       ·rw[a1];trivial
     refine⟨N2,f1.h,inv,fun i=>?_,nx2⟩
     unfold hFr;cases hp:plP D Ow L B.length (.slot i) with
     |some c=>
      obtain⟨v,w1,w2⟩:=place _ _ hp;simp only;rw[show r i=.s (.one v) from w1]
      exact y7 w2
     |none=>
      simp only;cases hm:memB i W with
      |true=>exact .bad _
      |false=>
       rw[hW i (fun h=>by rw[(kL i W).2 h]at hm;cases hm)]
       exact(F0 i).mono nx2
end
end Go.PE
end
section
namespace Go.PE
open Go Go.CE
def pset(ρ:Nat→PA)(a:PA):Option Nat→Nat→PA
 |none=>ρ
 |some d=>fun i=>bif Nat.beq i d then a else ρ i
def refine(ρ:Nat→PA):Option (Nat×Bool)→Nat→PA
 |none=>ρ
 |some (d,b)=>fun i=>bif Nat.beq i d then pd (.bool b) else ρ i
def zoG:Operand→Bool→Option (Nat×Bool)
 | .tmp t,b=>some (t,b)
 |_,_=>none
def scT(P:Program)(t:TypeId):Bool:=
 match P.underlying t with
 |some .bool=>true
 |some .string=>true
 |some (.int _)=>true
 |_=>false
def shOf(P:Program)(dst:Option Nat)(t:TypeId):Sh:=
 match dst with
 |none=>.no
 |some _=>
  match P.underlying t with
  |some (.tuple ts)=>bif ts.toList.all (scT P) then .tsc ts.toList.length else .tup (ts.toList.map fun t=>match xN P t with|some n=>n|none=>none)
  |_=>bif scT P t then .sc else match xN P t with|some none=>.one|some (some n)=>.agg n|none=>.no
section
variable (P:Program) (O:Orc)
def jx{β:Type}(lk:Nat→Bool)(nt:Nat)(ops:Array Oper)(o:Oper)(ρ:Nat→PA)(os:List PO)(K:Option (Nat×Bool)→KT β):Option β:=
 bif inT nt o.dst then
  match comp P o.op with
  |some ko=>
   match o.guard with
   |none=>pOp O lk (shOf P o.dst o.type) ρ os ko (K none)
   |some (j,b)=>
    match (ops[j]?).bind (·.dst) with
    |some d=>
     bif Nat.ble (Nat.succ d) nt then
      match ρ d with
      | .s (.one (.d v))=>
       bif b then ifB v (pOp O lk (shOf P o.dst o.type) (refine ρ (some (d,true))) os ko (K (some (d,true)))) (K (some (d,false)) .undef os [] [])
       else ifB v (K (some (d,true)) .undef os [] []) (pOp O lk (shOf P o.dst o.type) (refine ρ (some (d,false))) os ko (K (some (d,false))))
      | .undef=>K none .undef os [] []
      |_=>none
     else none
    |none=>none
  |none=>none
 else none
abbrev Inl:=Nat→(Nat→Bool)→List PA→List PO→(β:Type)→(PA→List PO→Option β)→Option β
def znD:List (Nat⊕List DV)→List PA
 | []=>[]
 | .inl k::l=>pc (.ptr k 0)::znD l
 | .inr xs::l=>pd (.fp xs 0)::znD l
def zkX(tab:Nat→Bool)(ρ:Nat→PA)(o:Oper):Option (Nat×List PA):=
 match o.guard with
 |some _=>none
 |none=>
  match comp P o.op with
  |some (.call f args)=>
   match f with
   | .func g=>bif tab g then match pvs ρ args with|some as=>some (g,as)|none=>none else none
   |f=>
    match pv ρ f,pvs ρ args with
    |some (.s (.one (.clo g caps))),some as=>bif tab g then some (g,as++znD caps) else none
    |_,_=>none
  |_=>none
def pOps(tab:Nat→Bool)(Y:Inl){β:Type}(lk:Nat→Bool)(nt:Nat)(ops:Array Oper):List Oper→(Nat→PA)→List PO→((Nat→PA)→List PO→Option β)→Option β
 | [],ρ,os,K=>K ρ os
 |o::l,ρ,os,K=>
  match zkX P tab ρ o with
  |some (g,as)=>bif inT nt o.dst then Y g lk as os β (fun a os'=>pOps tab Y lk nt ops l (pset ρ a o.dst) os' K) else none
  |none=>jx P O lk nt ops o ρ os fun ref a os' _ _=>pOps tab Y lk nt ops l (pset (refine ρ ref) a o.dst) os' K
def zst{β:Type}(a:(Nat→PA)→List PO→Option β)(k:RExit→(Nat→PA)→List PO→Option β):RExit→(Nat→PA)→List PO→Option β
 | .normal,ρ,os=>a ρ os
 | .exit id,ρ,os=>k (.exit id) ρ os
 | .ret,ρ,os=>k .ret ρ os
def outP{β:Type}(id:Nat)(k:RExit→(Nat→PA)→List PO→Option β):RExit→(Nat→PA)→List PO→Option β
 | .exit id',ρ,os=>bif Nat.beq id' id then k .normal ρ os else k (.exit id') ρ os
 | .normal,ρ,os=>k .normal ρ os
 | .ret,ρ,os=>k .ret ρ os
def kI:Code→Nat
 | .seq a b=>kI a+kI b
 | .cond _ a b=>kI a+kI b
 | .block _ c=>kI c
 | .loop c=>kI c+1
 |_=>0
def kQ:Code→Bool
 | .seq a b=>kQ a||kQ b
 | .cond _ a b=>kQ a||kQ b
 | .block _ c=>kQ c
 | .loop c=>kQ c
 | .ret=>true
 |_=>false
abbrev PX:=RExit×List DV×List OC
def wb(f:List DV→List OC→Option PX):Nat→List DV→List OC→Option PX
 |0,_,_=>none
 |n+1,L,M=>
  match f L M with
  |some (.normal,L',M')=>wb f n L' M'
  |x=>x
open Classical in
noncomputable def zP(f:List DV→List OC→Option PX)(L:List DV)(M:List OC):Option PX:=
 if h:∃n y,wb f n L M=some y then some (Classical.choose (Classical.choose_spec h)) else none
def y4{β:Type}(x:Option PX)(kx:Nat→List DV→List OC→Option β)(kr:List DV→List OC→Option β):Option β:=
 match x with
 |some (.exit id,L,M)=>kx id L M
 |some (.ret,L,M)=>kr L M
 |_=>none
def lkIn(la:LA)(n0:Nat)(k:Nat):Bool:=Nat.ble (Nat.succ k) n0 && !listed la k
def free(lk:Nat→Bool)(la:LA):Bool:=(la.boxes.all fun x=>!lk x.1)&&(la.arrs.all fun x=>!lk x.1)
def vecX(lk:Nat→Bool)(n0:Nat)(la:LA)(e:RExit)(ρ:Nat→PA)(os:List PO):Option PX:=
 match vec lk (fun m=>Nat.ble n0 m) la e ρ os with
 |some (_,L,M,_)=>some (e,L,M)
 |none=>none
end
theorem zcg{f:List DV→List OC→Option PX}:∀{n m:Nat} {L:List DV} {M:List OC} {x y:PX},wb f n L M=some x→wb f m L M=some y→x=y
 |0,_,_,_,_,_,e,_=>by cases e
 |_+1,0,_,_,_,_,_,e=>by cases e
 |n+1,m+1,L,M,x,y,e,e'=>by
  simp only[wb]at e e';cases h:f L M with
  |none=>rw[h]at e;cases e
  |some q=>
   obtain⟨ex,L',M'⟩:=q;rw[h]at e e';cases ex with
   |normal=>exact zcg e e'
   |exit id=>cases e;cases e';rfl
   |ret=>cases e;cases e';rfl
theorem zaX{f:List DV→List OC→Option PX}{L:List DV}{M:List OC}{x:PX}:zP f L M=some x↔∃n,wb f n L M=some x:=by
 unfold zP
 constructor
 ·intro e;split at e
  ·rename_i h;cases e;have h1:=Classical.choose_spec h;exact⟨_,Classical.choose_spec h1⟩
  ·cases e
 ·rintro⟨n,e⟩
  have h:∃n y,wb f n L M=some y:=⟨n,x,e⟩;rw[dif_pos h];have h1:=Classical.choose_spec (Classical.choose_spec h);rw[zcg h1 e]
theorem qo(f:List DV→List OC→Option PX)(L:List DV)(M:List OC):zP f L M=match f L M with|some (.normal,L',M')=>zP f L' M'|x=>x:=by
  apply Option.ext;intro y;rw[zaX];cases h:f L M with
  | none => simp only; constructor
            · rintro⟨n,e⟩;cases n<;>simp[wb,h]at e
            · intro e;cases e
  |some q=>
    obtain⟨ex,L',M'⟩:=q;cases ex with
    |normal=>
      simp only[zaX]
      constructor
      · rintro⟨n,e⟩
        cases n with
        |zero=>cases e
        |succ n=>simp only[wb,h]at e;exact⟨n,e⟩
      · rintro⟨n,e⟩;exact⟨n+1,by simp only[wb,h];exact e⟩
    |exit id=>
      simp only
      constructor
      · rintro⟨n,e⟩
        cases n with
        |zero=>cases e
        |succ n=>simp only[wb,h]at e;exact e
      · intro e;exact⟨1,by simp only[wb,h];exact e⟩
    |ret=>
      simp only
      constructor
      · rintro⟨n,e⟩
        cases n with
        |zero=>cases e
        |succ n=>simp only[wb,h]at e;exact e
      · intro e;exact⟨1,by simp only[wb,h];exact e⟩
section
variable {P:Program} {O:Orc} {C:Nat→zh} {E:En}
theorem zaI{N:Nm}{r:Fr}{ρ:Nat→PA}(F:∀i,RepPA N (r i) (ρ i)){d:Nat}{b:Bool}(h:r d=.s (.one (.bool b))):∀i,RepPA N (r i) (refine ρ (some (d,b)) i):=by
 intro i;show RepPA N (r i) (bif Nat.beq i d then pd (.bool b) else ρ i)
 cases hb:Nat.beq i d with
 |false=>exact F i
 |true=>
  have:=Lz1 hb;subst this;rw[h];exact yG rfl
theorem zam{N:Nm}{r:Fr}{ρ:Nat→PA}(F:∀i,RepPA N (r i) (ρ i)){v:AVal}{a:PA}(h:RepPA N v a)(dst:Option Nat):∀i,RepPA N (fset r v dst i) (pset ρ a dst i):=by
 intro i;cases dst with
 |none=>exact F i
 |some d=>
  show RepPA N (bif Nat.beq i d then v else r i) (bif Nat.beq i d then a else ρ i)
  cases Nat.beq i d
  ·exact F i
  ·exact h
theorem zeL{β:Type}{v:DV}{a b:Option β}{x:β}(e:ifB v a b=some x):∃q,v=.bool q∧(bif q then a else b)=some x:=by
 cases v<;>first|cases e|skip
 rename_i q;exact⟨q,rfl,e⟩
theorem zdg(hO:jB O C){β:Type}{lk:Nat→Bool}{nt:Nat}{ops:Array Oper}{o:Oper}{ρ:Nat→PA}{os:List PO}{N:Nm}{r:Fr}{K:Option (Nat×Bool)→KT β}{x:β}(I:InvO E N os)(F:∀i,RepPA N (r i) (ρ i))(hlk:∀j,lk j=true→j<os.length)
  (e : jx P O lk nt ops o ρ os K = some x) : ∃ ref a os' wr rd, K ref a os' wr rd = some x ∧ (∀ i, RepPA N (r i) (refine ρ ref i)) ∧
   Ev (fun n=>yk P nt ops o (C n) r N.h) (fun p=>∃N',N'.h=p.2∧Sim E lk N os wr N' os' p.1 a):=by
 unfold jx at e;cases hT:inT nt o.dst with
 |false=>rw[hT]at e;cases e
 |true=>
  rw[hT]at e;simp only[cond_true]at e;cases hc:comp P o.op with
  |none=>rw[hc]at e;cases e
  |some ko=>
   rw[hc]at e;simp only at e;cases hg:o.guard with
   |none=>
    rw[hg]at e;obtain⟨a,os',wr,rd,h1,h2⟩:=znY hO I F hlk e;refine⟨none,a,os',wr,rd,h1,F,?_⟩;have:(fun n=>yk P nt ops o (C n) r N.h)=fun n=>runK r ko (C n) N.h:=by
     funext n
     unfold yk;rw[hT,hg];exact zct P r (C n) N.h hc
    rw[this];exact h2
   |some gb=>
    obtain⟨j,b⟩:=gb;rw[hg]at e;simp only at e;cases hd:(ops[j]?).bind (·.dst) with
    |none=>rw[hd]at e;cases e
    |some d=>
     rw[hd]at e;simp only at e;cases hb:Nat.ble (Nat.succ d) nt with
     |false=>rw[hb]at e;cases e
     |true=>
      rw[hb]at e;simp only[cond_true]at e;have run:∀call,yk P nt ops o call r N.h=bif zd4 (r d) b then runK r ko call N.h else some (z7,N.h):=fun call=>by
       unfold yk;rw[hT,hg];simp only[cond_true];rw[hd];simp only;rw[hb];simp only[cond_true];rw[zct P r call N.h hc]
      split at e
      ·rename_i v hρ;have hrd:=F d;rw[hρ]at hrd;have key:∀q,v=.bool q→(if q=b then pOp O lk (shOf P o.dst o.type) (refine ρ (some (d,q))) os ko (K (some (d,q))) else K (some (d,q)) .undef os [] [])=some x→(∃ref a os' wr rd,K ref a os' wr rd=some x∧(∀i,RepPA N (r i) (refine ρ ref i))∧
         Ev (fun n=>yk P nt ops o (C n) r N.h) (fun p=>∃N',N'.h=p.2∧Sim E lk N os wr N' os' p.1 a)):=fun q hq e2=>by
        subst hq;have hr:=ye hrd (c:=.bool q) rfl;have F':=zaI F hr;by_cases hqb:q=b
        ·rw[if_pos hqb]at e2;obtain⟨a,os',wr,rd,h1,h2⟩:=znY hO I F' hlk e2;refine⟨some (d,q),a,os',wr,rd,h1,F',?_⟩;have:(fun n=>yk P nt ops o (C n) r N.h)=fun n=>runK r ko (C n) N.h:=by
          funext n
          rw[run,hr,hqb];simp only[zd4,beq_self_eq_true,cond_true]
         rw[this];exact h2
        ·rw[if_neg hqb]at e2;refine⟨some (d,q),.undef,os,[],[],e2,F',⟨(z7,N.h),⟨N,rfl,.quiet I rfl⟩,0,fun n _=>?_⟩⟩
         show yk P nt ops o (C n) r N.h=_;rw[run,hr];have:zd4 (.s (.one (.bool q))) b=false:=by
          cases q<;>cases b<;>first|rfl|exact absurd rfl hqb
         rw[this];rfl
       cases b with
       |true=>
        obtain⟨q,rfl,e⟩:=zeL e;exact key q rfl (by cases q<;>exact e)
       |false=>
        obtain⟨q,rfl,e⟩:=zeL e;exact key q rfl (by cases q<;>exact e)
      ·rename_i hρ;have hrd:r d=z7:=by
        have:=F d;rw[hρ]at this;cases hh:r d with
        |s w=>rw[hh]at this;exact this
        |tup l=>rw[hh]at this;exact this
       refine⟨none,.undef,os,[],[],e,F,⟨(z7,N.h),⟨N,rfl,.quiet I rfl⟩,0,fun n _=>?_⟩⟩
       show yk P nt ops o (C n) r N.h=_;rw[run,hrd];rfl
      ·cases e
def zlL(tab:Nat→Bool)(Y:Inl)(C:Nat→zh):Prop:=
 ∀{β:Type} {E:En} {lk:Nat→Bool} {N:Nm} {os:List PO} {g:Nat} {as:List PA} {vs:List AVal} {K:PA→List PO→Option β} {x:β},tab g=true→InvO E N os→RepPAL N vs as→(∀j,lk j=true→j<os.length)→Y g lk as os β K=some x→
  ∃a os',K a os'=some x∧Ev (fun n=>C n (.inl g) vs N.h) (fun p=>∃N',N'.h=p.2∧InvO E N' os'∧Nx N N'∧(∀j,lk j=true→og os' j=og os j)∧RepPA N' p.1 a)
theorem RepPAL.app{N:Nm}:∀{a b:List AVal} {x y:List PA},RepPAL N a x→RepPAL N b y→RepPAL N (a++b) (x++y)
 | [],_,[],_,_,H=>H
 |_::_,_,_::_,_,H,K=>⟨H.1,RepPAL.app H.2 K⟩
 | [],_,_::_,_,H,_=>H.elim
 |_::_,_,[],_,H,_=>H.elim
theorem zdW{N:Nm}:∀{ps:List (BN×Nat)} {xs:List (Nat⊕List DV)},RepCaps N ps xs→RepPAL N (ps.map fun(p:BN×Nat)=>AVal.s (.one (.ptr p.1 p.2))) (znD xs)
 | [],[],_=>trivial
 |p::ps,.inl k::xs,H=>⟨RepPA.of (v:=.one (.ptr p.1 p.2)) (p:=.one (.ptr k 0)) ⟨H.1.1,p.1,H.1.2.1,by rw[H.1.2.2]⟩,zdW H.2⟩
 |p::ps,.inr y::xs,H=>⟨RepPA.of (v:=.one (.ptr p.1 p.2)) (p:=.one (.d (.fp y 0))) H.1,zdW H.2⟩
 | [],_::_,H=>H.elim
 |_::_,[],H=>H.elim
theorem zhq{tab:Nat→Bool}{N:Nm}{r:Fr}{ρ:Nat→PA}{o:Oper}{g nt:Nat}{as:List PA}{ops:Array Oper}(F:∀i,RepPA N (r i) (ρ i))(e:zkX P tab ρ o=some (g,as))(hT:inT nt o.dst=true):
  tab g=true∧∃vs,RepPAL N vs as∧∀call h,yk P nt ops o call r h=call (.inl g) vs h:=by
 unfold zkX at e;cases hg:o.guard with
 |some _=>rw[hg]at e;cases e
 |none=>
  rw[hg]at e;simp only at e;cases hc:comp P o.op with
  |none=>rw[hc]at e;cases e
  |some ko=>
   rw[hc]at e;have step:∀call h,yk P nt ops o call r h=runK r ko call h:=fun call h=>by
    unfold yk;rw[hT,hg];exact zct P r call h hc
   cases ko<;>first|(cases (show (none:Option (Nat×List PA))=some (g,as) from e);done)|skip
   rename_i f args;have fin:∀(g':Nat) (ps:List (BN×Nat)) (vs:List AVal),kv r f=some (.s (.one (.fn g' ps)))→kvs r args=some vs→∀call h,runK r (.call f args) call h=call (.inl g') (vs++ps.map fun(p:BN×Nat)=>AVal.s (.one (.ptr p.1 p.2))) h:=by
    intro g' ps vs h1 h2 call h;simp only[runK,h1,h2,zC];show call (.inl g') ((cL vs).map (fun x=>x .nil)++ps.map fun(p:BN×Nat)=>AVal.s (.one (.ptr p.1 p.2))) h=_
    rw[zhU]
   simp only at e;split at e
   ·rename_i g';cases ht:tab g' with
    |false=>rw[ht]at e;cases e
    |true=>
     rw[ht]at e;simp only[cond_true]at e;cases h2:pvs ρ args with
     |none=>rw[h2]at e;cases e
     |some as'=>
      rw[h2]at e;cases e;obtain⟨v,k1,k2⟩:=wq (x:=.func g) (a:=pd (.fn g [])) F rfl;obtain⟨vs,k3,k4⟩:=zem F h2;obtain⟨w,rfl,hw⟩:=wt k2;obtain⟨ps,rfl,hps⟩:=Rep.fn_inv hw;cases ps with
      |cons p ps=>have:=hps.1;simp at this
      |nil=>
       refine⟨ht,_,k4,fun call h=>(step call h).trans ((fin _ _ _ k1 k3 call h).trans ?_)⟩
       rw[List.map_nil,List.append_nil]
   ·split at e
    ·rename_i g' caps as' h1 h2;cases ht:tab g' with
     |false=>rw[ht]at e;cases e
     |true=>
      rw[ht]at e;cases e;obtain⟨v,k1,k2⟩:=wq F h1;obtain⟨vs,k3,k4⟩:=zem F h2;obtain⟨w,rfl,hw⟩:=yl k2;obtain⟨ps,rfl,hps⟩:=hw;exact⟨ht,_,k4.app (zdW hps),fun call h=>(step call h).trans (fin _ _ _ k1 k3 call h)⟩
    ·cases e
theorem zfE(hO:jB O C){tab:Nat→Bool}{Y:Inl}(hY:zlL tab Y C){β γ:Type}{Q:γ→Prop}{lk:Nat→Bool}{nt:Nat}{ops:Array Oper}{x:β}{K:(Nat→PA)→List PO→Option β}{kk:Nat→Fr→AHeap→Option γ}:∀(l:List Oper) (ρ:Nat→PA) (os:List PO) (N:Nm) (r:Fr),
  pOps P O tab Y lk nt ops l ρ os K=some x→InvO E N os→(∀i,RepPA N (r i) (ρ i))→(∀j,lk j=true→j<os.length)→
  (∀ρ' os' N' r',K ρ' os'=some x→InvO E N' os'→(∀i,RepPA N' (r' i) (ρ' i))→Nx N N'→(∀j,lk j=true→og os' j=og os j)→(∀i,i∉l.filterMap (·.dst)→r' i=r i)→Ev (fun n=>kk n r' N'.h) Q)→
  Ev (fun n=>kOps P nt ops (C n) l r N.h (kk n)) Q
 | [],ρ,os,N,r,e,I,F,hlk,H=>H ρ os N r e I F (.refl N) (fun _ _=>rfl) (fun _ _=>rfl)
 |o::l,ρ,os,N,r,e,I,F,hlk,H=>by
  simp only[pOps]at e;cases hi:zkX P tab ρ o with
  |some q=>
   obtain⟨g,as⟩:=q;rw[hi]at e;simp only at e;cases hT:inT nt o.dst with
   |false=>rw[hT]at e;cases e
   |true=>
    rw[hT,cond_true]at e;obtain⟨ht,vs,rvs,run⟩:=zhq (ops:=ops) F hi hT;obtain⟨a,os',e1,ev⟩:=hY ht I rvs hlk e;have:(fun n=>kOps P nt ops (C n) (o::l) r N.h (kk n))=fun n=>CE.bindR (C n (.inl g) vs N.h) fun v h'=>kOps P nt ops (C n) l (fset r v o.dst) h' (kk n):=by
     funext n;rw[←run (C n) N.h];exact zbm ops (C n) o l r N.h (kk n)
    rw[this];refine Ev.bindR (ev.mono ?_)
    rintro⟨v,h'⟩ ⟨N',hh,i1,i2,i3,i4⟩
    simp only at hh i4 ⊢;subst hh;refine zfE hO hY l _ os' N' (fset r v o.dst) e1 i1 (zam (fun i=>(F i).mono i2) i4 o.dst) (fun j hj=>?_) (fun ρ2 os2 N2 r2 k1 k2 k3 k4 k5 k6=>?_)
    ·have h1:=i2.le;rw[i1.len,I.len]at h1;exact Lz9 (hlk j hj) h1
    ·refine H ρ2 os2 N2 r2 k1 k2 k3 (i2.trans k4) (fun j hj=>(k5 j hj).trans (i3 j hj)) (fun i hi=>?_)
     simp only[List.filterMap_cons]at hi;rw[k6 i (fun hm=>hi (by cases o.dst<;>simp[hm]))]
     exact xT (fun hd=>hi (by rw[hd];simp))
  |none=>
  rw[hi]at e;simp only at e;obtain⟨ref,a,os',wr,rd,e1,F1,ev⟩:=zdg hO I F hlk e;have:(fun n=>kOps P nt ops (C n) (o::l) r N.h (kk n))=fun n=>CE.bindR (yk P nt ops o (C n) r N.h) fun v h'=>kOps P nt ops (C n) l (fset r v o.dst) h' (kk n):=by
   funext n;exact zbm ops (C n) o l r N.h (kk n)
  rw[this];refine Ev.bindR (ev.mono ?_)
  rintro⟨v,h'⟩ ⟨N',hh,S⟩
  simp only at hh S ⊢;subst hh;refine zfE hO hY l _ os' N' (fset r v o.dst) e1 S.inv (zam (fun i=>(F1 i).mono S.nx) S.val o.dst) (fun j hj=>?_) (fun ρ2 os2 N2 r2 k1 k2 k3 k4 k5 k6=>?_)
  ·have h1:=S.nx.le;rw[S.inv.len,I.len]at h1;exact Lz9 (hlk j hj) h1
  ·refine H ρ2 os2 N2 r2 k1 k2 k3 (S.nx.trans k4) (fun j hj=>(k5 j hj).trans (S.lock j hj)) (fun i hi=>?_)
   simp only[List.filterMap_cons]at hi;rw[k6 i (fun hm=>hi (by cases o.dst<;>simp[hm]))]
   exact xT (fun hd=>hi (by rw[hd];simp))
theorem zpk{la:LA}{n0 k:Nat}(h:lkIn la n0 k=true):k<n0∧listed la k=false:=by
 unfold lkIn at h;rw[LzC,Bool.not_eq_true']at h;exact⟨Lz4 h.1,h.2⟩
theorem zpY{D:List Pl}{Ow:List (Pl×Nat)}{la:LA}{B:List PO}{L:List DV}{M:List OC}{n0:Nat}(h:B.length=n0):n0≤(hOs D Ow la B n0 L M).length:=by
 unfold hOs;rw[List.length_append,kS,vU];omega
theorem zac{D:List Pl}{Ow:List (Pl×Nat)}{la:LA}{B:List PO}{L:List DV}{M:List OC}{k:Nat}(h:k<B.length)(hl:listed la k=false):og (hOs D Ow la B B.length L M) k=og B k:=by
 unfold hOs;unfold listed at hl;rw[Bool.or_eq_false_iff]at hl;rw[zj9 _ _ k (by rw[kS,vU];exact h)]
 rcases zbs M la.arrs Ow.length (vV D Ow L B.length la.boxes B) k with⟨j,st,a1,_,_⟩|⟨_,a2⟩
 ·exact absurd (Lz3 a1) (zd1 hl.2 st)
 ·rw[a2];rcases qA D Ow L B.length la.boxes B k with⟨n,c1,_,_⟩|⟨_,c2⟩
  ·exact absurd c1 (zd1 hl.1 n)
  ·exact c2
theorem zds:∀(ms:List (Option Nat)) (os:List PO),(kill ms os).length=os.length
 | [],_=>rfl
 |none::ms,os=>zds ms os
 |some m::ms,os=>by simp only[kill];rw[zds ms,yK]
theorem jp:∀(ms:List (Option Nat)) (os:List PO) (k:Nat),(some k∈ms∧og (kill ms os) k=.dead)∨(some k∉ms∧og (kill ms os) k=og os k)
 | [],os,k=>.inr ⟨by simp,rfl⟩
 |none::ms,os,k=>by
  simp only[kill];rcases jp ms os k with⟨a,b⟩|⟨a,b⟩
  ·exact .inl ⟨List.mem_cons_of_mem _ a,b⟩
  ·exact .inr ⟨by simpa using a,b⟩
 |some m::ms,os,k=>by
  simp only[kill];rcases jp ms (oset .dead os m) k with⟨a,b⟩|⟨a,b⟩
  ·exact .inl ⟨List.mem_cons_of_mem _ a,b⟩
  ·rw[yy]at b;by_cases hk:k=m
   ·subst hk;refine .inl ⟨List.mem_cons_self ..,?_⟩;rw[b];split
    ·rfl
    ·rename_i h;rw[zdl,List.getElem?_eq_none (by simp at h;exact h)];rfl
   ·rw[if_neg (fun h=>hk h.1)]at b
    exact .inr ⟨by simp[hk,a],b⟩
end
end Go.PE
end
section
namespace Go.PE
open Go Go.CE
theorem jN{h h2 h':AHeap}{c:Option CVal}{v:AVal}(e:retC h c=some (v,h')):retC h2 c=some (v,h2):=by
 cases c<;>cases e;rfl
theorem zfA{h h2 h':AHeap}{c:Option (List CVal)}{v:AVal}(e:retA h c=some (v,h')):retA h2 c=some (v,h2):=by
 cases c<;>cases e;rfl
theorem zdb{h h2 h':AHeap}{n:Option Nat}{cs:List CVal}{off:Nat}{v:AVal}(e:CE.part n cs off h=some (v,h')):CE.part n cs off h2=some (v,h2):=by
 cases n with
 |none=>exact jN e
 |some n=>exact zfA e
theorem yw{h h2 h':AHeap}{w v:AVal}(e:some (w,h)=some (v,h')):(some (w,h2):Res)=some (v,h2):=by
 cases e;rfl
theorem zal{h' h2:AHeap}{b:Bool}{x y:Res}{v:AVal}(e:(bif b then x else none)=some (v,h'))(H:x=some (v,h')→y=some (v,h2)):(bif b then y else none)=some (v,h2):=by
 cases b with
 |true=>exact H e
 |false=>cases e
section
variable {h h2 h':AHeap} {v:AVal}
theorem zpR{c a b:AVal}(e:zmd c a b h=some (v,h')):zmd c a b h2=some (v,h2):=by
 unfold zmd uH zr at e ⊢;split at e
 ·exact yw e
 ·cases e
theorem zns{zs:List CVal}{l:List (Nat×Nat×AVal)}(e:zjf zs l h=some (v,h')):zjf zs l h2=some (v,h2):=zfA e
theorem znn{x:AVal}(e:zgI x h=some (v,h')):zgI x h2=some (v,h2):=by
 unfold zgI wX zr at e ⊢;split at e
 ·exact yw e
 ·exact yw e
 ·exact yw e
 ·cases e
theorem zrA{g:IntKind→Int→Int→Option CVal}{x y:AVal}(e:vInt g x y h=some (v,h')):vInt g x y h2=some (v,h2):=by
 unfold vInt zao zr at e ⊢;split at e
 ·split at e
  ·exact zal e jN
  ·cases e
 ·cases e
theorem znm{g:IntKind→Int→Int→Option CVal}{x y:AVal}(e:zgH g x y h=some (v,h')):zgH g x y h2=some (v,h2):=by
 unfold zgH wg zr at e ⊢;split at e
 ·split at e
  ·exact jN e
  ·cases e
 ·cases e
theorem zrw{op:BinOp}{x y:AVal}(e:vStr op x y h=some (v,h')):vStr op x y h2=some (v,h2):=by
 unfold vStr za5 zr at e ⊢;split at e
 ·exact jN e
 ·cases e
theorem zpS{neg:Bool}{x y:AVal}(e:zjd neg x y h=some (v,h')):zjd neg x y h2=some (v,h2):=by
 unfold zjd vS zr at e ⊢;split at e
 ·split at e
  ·exact yw e
  ·exact yw e
  ·cases e
 ·cases e
theorem zte{q:Nat⊕List Nat}{neg:Bool}{x y:AVal}(e:vEq q neg x y h=some (v,h')):vEq q neg x y h2=some (v,h2):=by
 unfold vEq opEq zr at e ⊢;split at e
 ·split at e
  ·exact yw e
  ·cases e
 ·cases e
theorem zrx{x:AVal}(e:vNot x h=some (v,h')):vNot x h2=some (v,h2):=by
 unfold vNot za6 zr at e ⊢;split at e
 ·exact yw e
 ·cases e
theorem zry{x:AVal}(e:vNeg x h=some (v,h')):vNeg x h2=some (v,h2):=by
 unfold vNeg za7 zr at e ⊢;split at e
 ·exact yw e
 ·cases e
theorem zpX{t:IntKind}{x:AVal}(e:zmj t x h=some (v,h')):zmj t x h2=some (v,h2):=by
 unfold zmj uO zr at e ⊢;split at e
 ·exact yw e
 ·cases e
theorem zpT{f:Nat}{l:List AVal}(e:zmf f l h=some (v,h')):zmf f l h2=some (v,h2):=by
 unfold zmf uJ at e ⊢;split at e
 ·exact yw e
 ·cases e
theorem ziO{st:Nat}{lo hi mx:Option Opd}{t:Tr AVal}{b:BN}{off len cap:Nat}(e:xd st lo hi mx t h b off len cap=some (v,h')):xd st lo hi mx t h2 b off len cap=some (v,h2):=by
 unfold xd at e ⊢;split at e
 ·split at e
  ·split at e
   ·exact zal e yw
   ·cases e
  ·cases e
 ·cases e
theorem ziN{st:Nat}{lo hi mx:Option Opd}{t:Tr AVal}{b:BN}{off len cap:Nat}(e:y9 st lo hi mx t h b off len cap=some (v,h')):y9 st lo hi mx t h2 b off len cap=some (v,h2):=by
 unfold y9 at e ⊢;split at e
 ·split at e
  ·split at e
   ·split at e
    ·split at e
     ·exact yw e
     ·cases e
    ·cases e
   ·cases e
  ·cases e
 ·split at e
  ·split at e
   ·exact zal e yw
   ·cases e
  ·cases e
theorem znl{st:Nat}{x:AVal}{lo hi mx:Option AVal}(e:ux st x lo hi mx h=some (v,h')):ux st x lo hi mx h2=some (v,h2):=by
 unfold ux wV zr at e ⊢;split at e
 ·unfold xu at e ⊢;split at e
  ·exact yw e
  ·cases e
 ·rename_i ex;cases ex with
  |true=>exact ziO e
  |false=>exact ziN e
 ·cases e
theorem zkY{x:AVal}{lo hi:Option AVal}(e:zcT x lo hi h=some (v,h')):zcT x lo hi h2=some (v,h2):=by
 unfold zcT xy zr at e ⊢;split at e
 ·split at e
  ·split at e
   ·exact yw e
   ·cases e
  ·cases e
 ·cases e
theorem zpW{x:AVal}{off:Nat}(e:zmi x off h=some (v,h')):zmi x off h2=some (v,h2):=by
 unfold zmi uN zr at e ⊢;split at e
 ·exact yw e
 ·cases e
theorem znr{x:AVal}{off:Nat}{n:Option Nat}(e:zgM x off n h=some (v,h')):zgM x off n h2=some (v,h2):=by
 unfold zgM w7 zr at e ⊢;split at e
 ·exact zdb e
 ·cases e
theorem zrz{st:Nat}{x i:AVal}(e:vIxs st x i h=some (v,h')):vIxs st x i h2=some (v,h2):=by
 unfold vIxs zba zr at e ⊢;split at e
 ·split at e
  ·exact zal e yw
  ·cases e
 ·cases e
theorem znp{len st:Nat}{x i:AVal}(e:zgK len st x i h=some (v,h')):zgK len st x i h2=some (v,h2):=by
 unfold zgK wZ zr at e ⊢;split at e
 ·split at e
  ·exact zal e yw
  ·cases e
 ·split at e
  ·exact zal e yw
  ·cases e
 ·cases e
theorem znq{len st:Nat}{n:Option Nat}{x i:AVal}(e:zgL len st n x i h=some (v,h')):zgL len st n x i h2=some (v,h2):=by
 unfold zgL w6 zr at e ⊢;split at e
 ·split at e
  ·exact zal e zdb
  ·cases e
 ·cases e
theorem zno{x i:AVal}(e:zgJ x i h=some (v,h')):zgJ x i h2=some (v,h2):=by
 unfold zgJ wY zr at e ⊢;split at e
 ·split at e
  ·exact jN e
  ·cases e
 ·cases e
theorem ziP{x:AVal}{i:Nat}(e:zas x i h=some (v,h')):zas x i h2=some (v,h2):=by
 unfold zas xl zr at e ⊢;split at e
 ·split at e
  ·exact yw e
  ·cases e
 ·cases e
theorem zpU{x:AVal}(e:zmh x h=some (v,h')):zmh x h2=some (v,h2):=by
 unfold zmh uL zr at e ⊢;split at e
 ·exact yw e
 ·cases e
theorem zpV{x:AVal}(e:zje x h=some (v,h')):zje x h2=some (v,h2):=by
 unfold zje uM zr at e ⊢;split at e
 ·exact yw e
 ·exact yw e
 ·cases e
theorem zkZ{m:Bool}{x:AVal}{xs:List AVal}(e:zcU m x xs h=some (v,h')):zcU m x xs h2=some (v,h2):=by
 unfold zcU y0 zr at e ⊢;split at e
 ·split at e
  ·exact yw e
  ·cases e
 ·cases e
theorem xG{x:Option AVal}{K K2:AVal→Res}(e:zC x K=some (v,h'))(H:∀a,K a=some (v,h')→K2 a=some (v,h2)):zC x K2=some (v,h2):=by
 cases x with
 |none=>cases e
 |some a=>exact H a e
end
def jC:KOp→Bool
 | .mv _ | .pick .. | .build .. | .nilck _ | .bin .. | .shift .. | .str .. | .nilS .. | .eq .. | .not _ | .neg _ | .conv .. | .mkfn .. | .slice .. | .sslice .. | .foff .. | .field .. | .ixs .. | .ixarr .. | .ixagg .. | .ixstr .. | .extract .. | .lenS _ | .lenL _ | .minmax ..=>true
 |_=>false
theorem zmr{r:Fr}{ko:KOp}(hs:jC ko=true){call call2:zh}{h h2 h':AHeap}{v:AVal}(e:runK r ko call h=some (v,h')):runK r ko call2 h2=some (v,h2):=by
 cases ko<;>first|(exfalso;exact Bool.noConfusion hs)|skip
 ·exact xG e fun _=>yw
 ·exact xG e fun _ e=>xG e fun _ e=>xG e fun _=>zpR
 ·simp only[runK]at e ⊢;split at e
  ·exact zns e
  ·cases e
 ·exact xG e fun _=>znn
 ·exact xG e fun _ e=>xG e fun _=>zrA
 ·exact xG e fun _ e=>xG e fun _=>znm
 ·exact xG e fun _ e=>xG e fun _=>zrw
 ·exact xG e fun _ e=>xG e fun _=>zpS
 ·exact xG e fun _ e=>xG e fun _=>zte
 ·exact xG e fun _=>zrx
 ·exact xG e fun _=>zry
 ·exact xG e fun _=>zpX
 ·simp only[runK]at e ⊢;split at e
  ·exact zpT e
  ·cases e
 ·refine xG e fun _ e=>?_
  split at e
  ·exact znl e
  ·cases e
 ·refine xG e fun _ e=>?_
  split at e
  ·exact zkY e
  ·cases e
 ·exact xG e fun _=>zpW
 ·exact xG e fun _=>znr
 ·exact xG e fun _ e=>xG e fun _=>zrz
 ·exact xG e fun _ e=>xG e fun _=>znp
 ·exact xG e fun _ e=>xG e fun _=>znq
 ·exact xG e fun _ e=>xG e fun _=>zno
 ·exact xG e fun _=>ziP
 ·exact xG e fun _=>zpU
 ·exact xG e fun _=>zpV
 ·refine xG e fun _ e=>?_
  split at e
  ·exact zkZ e
  ·cases e
theorem znd{n:Option Nat}{x v:AVal}{h h2 h':AHeap}(e:zmg n x h=some (v,h'))(H:∀b off,x=.s (.one (.ptr b off))→h2.t.get b=h.t.get b):zmg n x h2=some (v,h2):=by
 unfold zmg uK zr at e ⊢;split at e
 ·rename_i b off;have:=H b off rfl;rw[this];unfold loadAt at e ⊢;split at e
  ·exact zdb e
  ·cases n with
   |none=>exact jN e
   |some n=>exact zfA e
  ·exact zdb e
  ·cases e
 ·exact zal e jN
 ·cases e
theorem zc3{h h2 h':AHeap}{v:AVal}{l:Option (List CVal)}(e:retS h l=some (v,h')):retS h2 l=some (v,h2):=by
 unfold retS at e ⊢;split at e
 ·split at e
  ·exact yw e
  ·cases e
 ·cases e
theorem zqg{x v:AVal}{h h2 h':AHeap}(e:kH (zr x) yh .nil h=some (v,h'))(H:∀b off len cap ex,x=.s (.one (.slc b off len cap ex))→h2.t.get b=h.t.get b):kH (zr x) yh .nil h2=some (v,h2):=by
 unfold kH zr at e ⊢;split at e
 ·exact yw e
 ·rename_i b off len cap ex;have:=H b off len cap ex rfl;rw[this];split at e
  ·exact zc3 e
  ·exact zc3 e
  ·exact zc3 e
  ·exact zc3 e
  ·cases e
 ·cases e
end Go.PE
end
section
namespace Go.PE
open Go Go.CE
def zO(ρ:Nat→PA)(l:List Nat):Nat→PA:=fun i=>bif memB i l then ρ i else .bad
def bset(bo:Nat→Nat)(n:Nat):Option Nat→Nat→Nat
 |none=>bo
 |some d=>fun i=>bif Nat.beq i d then n else bo i
def bOf(bo:Nat→Nat):Operand→Nat
 | .tmp t=>bo t
 |_=>0
def okW(ws:List (List Nat))(lo hi:Nat)(rd:List Nat):Bool:=((ws.drop lo).take (hi-lo)).all fun w=>rd.all fun k=>!memB k w
section
variable (P:Program) (O:Orc) (tab:Nat→Bool) (Y:Inl)
def zrr(ρ:Nat→PA)(o:Oper):List Oper→Option (Nat×List PA)
 | []=>zkX P tab ρ o
 |_::_=>none
def pDr{β:Type}(lk:Nat→Bool)(nt:Nat)(ops:Array Oper)(bs:List Nat)(es:List Bool):Nat→List Oper→(Nat→PA)→List PO→(Nat→Nat)→List (List Nat)→List (Nat×Nat×List Nat)→((Nat→PA)→List PO→Option β)→Option β
 |_,[],ρ,os,_,ws,ps,K=>bif ps.all (fun p=>okW ws p.1 p.2.1 p.2.2) then K ρ os else none
 |i,o::l,ρ,os,bo,ws,ps,K=>
  bif yx P o.op then
   match comp P o.op with
   |none=>none
   |some ko=>
    bif jC ko then
     jx P O (fun _=>true) nt ops o (zO ρ (o.looksAt ops)) os fun ref a _ _ _=>
      pDr lk nt ops bs es (Nat.succ i) l (pset (refine ρ ref) a o.dst) os (bset bo (match trk (refine (zO ρ (o.looksAt ops)) ref) ko with|some x=>bOf bo x|none=>ws.length) o.dst) ws ps K
    else
     match memX ko with
     |none=>none
     |some x=>
      bif Nat.beq (ce (fun j=>bef bs j i) 0 es) (ce (fun j=>!bef bs i j) 0 es) then
       jx P O (fun _=>true) nt ops o (zO ρ (o.looksAt ops)) os fun ref a _ _ _=>
        pDr lk nt ops bs es (Nat.succ i) l (pset (refine ρ ref) a o.dst) os (bset bo ws.length o.dst) ws ps K
      else
       bif Nat.ble (bOf bo x) (ce (fun j=>bef bs j i) 0 es)&&Nat.ble (ce (fun j=>bef bs j i) 0 es) ws.length&&Nat.ble ws.length (ce (fun j=>!bef bs i j) 0 es) then
        jx P O (fun _=>true) nt ops o (zO ρ (o.looksAt ops)) os fun ref a _ _ rd=>
         pDr lk nt ops bs es (Nat.succ i) l (pset (refine ρ ref) a o.dst) os (bset bo ws.length o.dst) ws (ps++[(ce (fun j=>bef bs j i) 0 es,ce (fun j=>!bef bs i j) 0 es,rd)]) K
       else none
  else
   match zrr P tab (zO ρ (o.looksAt ops)) o l with
   |some (g,as)=>bif inT nt o.dst&&ps.all (fun p=>okW ws p.1 p.2.1 p.2.2&&Nat.ble p.2.1 ws.length) then Y g lk as os β (fun a os'=>K (pset ρ a o.dst) os') else none
   |none=>
   jx P O lk nt ops o (zO ρ (o.looksAt ops)) os fun ref a os' wr _=>
    pDr lk nt ops bs es (Nat.succ i) l (pset (refine ρ ref) a o.dst) os' (bset bo (Nat.succ ws.length) o.dst) (ws++[wr]) ps K
end
section
variable {P:Program} {O:Orc} {C:Nat→zh} {E:En}
theorem zoZ{β:Type}{N:Nm}{os:List PO}{r:Fr}{ρ:Nat→PA}{k:KT β}{x:β}{sh:Sh}(I:InvO E N os)(F:∀i,RepPA N (r i) (ρ i)){ko:KOp}(hq:jC ko=true∨∃y,memX ko=some y)(e:pOp O (fun _=>true) sh ρ os ko k=some x):GoalQ N os r ρ ko k x:=by
 cases ko with
 |mv a=>exact o_mv I F e
 |pick c a b=>exact zn1 I F e
 |build zs parts=>exact zkk I F e
 |load n a=>exact zn4 I F e
 |nilck a=>exact zke I F e
 |bin op a b=>exact zrf I F e
 |shift l a b=>exact zkd I F e
 |str op a b=>exact zq7 I F e
 |nilS neg a b=>exact zn2 I F e
 |eq q neg a b=>exact o_eq I F e
 |not a=>exact zq8 I F e
 |neg a=>exact zq9 I F e
 |conv t a=>exact zn8 I F e
 |b2s a=>exact zrg I F e
 |mkfn f caps=>exact zn3 I F e
 |slice st a lo hi mx=>exact zkc I F e
 |sslice a lo hi=>exact zhb I F e
 |foff a off=>exact zn7 I F e
 |field a off n=>exact zkj I F e
 |ixs st a i=>exact zrd I F e
 |ixarr len st a i=>exact zkh I F e
 |ixagg len st n a i=>exact zki I F e
 |ixstr a i=>exact zkg I F e
 |extract a i=>exact zez I F e
 |lenS a=>exact zn5 I F e
 |lenL a=>exact zn6 I F e
 |minmax m a xs=>exact zhc I F e
 |_=>rcases hq with h|⟨y,h⟩<;>cases h
def QOut(P:Program){β:Type}(nt:Nat)(ops:Array Oper)(o:Oper)(ko:KOp)(N:Nm)(os:List PO)(r:Fr)(ρ:Nat→PA)(K:Option (Nat×Bool)→KT β)(x:β):Prop:=
  ∃ref a rd v,K ref a os [] rd=some x∧(∀i,RepPA N (r i) (refine ρ ref i))∧RepPA N v a∧(∀call,yk P nt ops o call r N.h=some (v,N.h))∧
    (∀xo,trk (refine ρ ref) ko=some xo→∀N':Nm,(∀t,xo=.tmp t→RepPA N' (r t) (refine ρ ref t))→RepPA N' v a)∧
    ((∀ call h2, ∃ h', yk P nt ops o call r h2 = some (v, h')) ∨ (∃ xo, memX ko = some xo ∧ ∃ b : BN, (∀ call h2, h2.t.get b = N.h.t.get b → ∃ h', yk P nt ops o call r h2 = some (v, h')) ∧
      ((∃ j, rd = [j] ∧ j < N.n ∧ blk (N.μ j) = some b ∧ held (og os j) ∧ ∀ N' : Nm, (∀ t, xo = .tmp t → RepPA N' (r t) (refine ρ ref t)) → j < N'.n) ∨
       (rd=[]∧∀N':Nm,(∀t,xo=.tmp t→RepPA N' (r t) (refine ρ ref t))→N'.fz b∧∃y,N'.h.t.get b=some y))))
theorem zeZ{r:Fr}{ρ:Nat→PA}{xo:Operand}{N':Nm}(H:∀t,xo=Operand.tmp t→RepPA N' (r t) (ρ t)){u:AVal}{pa:PA}(hu:kv r xo=some u)(hpa:pv ρ xo=some pa):RepPA N' u pa:=by
 cases xo with
 |tmp t=>cases hu;cases hpa;exact H t rfl
 |const cv=>
  simp only[kv]at hu;simp only[pv]at hpa;cases hcv:cVal cv with
  |none=>rw[hcv]at hu;cases hu
  |some sv=>
   rw[hcv]at hu hpa;cases hu;simp only at hpa;cases hps:pvS sv with
   |none=>rw[hps]at hpa;cases hpa
   |some q=>rw[hps]at hpa;cases hpa;exact .of (zjR hps)
 |func f=>cases hu;cases hpa;exact vQ (.fn_mk (.nil _ _))
 |global g=>cases hpa
theorem zgX{β:Type}{nt:Nat}{ops:Array Oper}{o:Oper}{ρ:Nat→PA}{os:List PO}{N:Nm}{r:Fr}{K:Option (Nat×Bool)→KT β}{x:β}{sh:Sh}(I:InvO E N os){ko:KOp}(hq:jC ko=true∨∃y,memX ko=some y)
  (ref:Option (Nat×Bool)) (F':∀i,RepPA N (r i) (refine ρ ref i)) (run:∀call h,yk P nt ops o call r h=runK r ko call h) (e:pOp O (fun _=>true) sh (refine ρ ref) os ko (K ref)=some x):QOut P nt ops o ko N os r ρ K x:=by
 obtain⟨v,a,rd,h1,h2,h3,h4,h5⟩:=zoZ I F' hq e;refine⟨ref,a,rd,v,h1,F',h3,fun call=>(run call N.h).trans (h2 call),?_,?_⟩
 ·intro xo hxo N' H;have hk:∃u pa,kv r xo=some u∧pv (refine ρ ref) xo=some pa:=by
   cases hp:pv (refine ρ ref) xo with
   |some pa=>obtain⟨u,hu,_⟩:=wq F' hp;exact⟨u,pa,hu,rfl⟩
   |none=>
    exfalso;have:∀y,trk (refine ρ ref) ko=some y→pv (refine ρ ref) y=none→False:=by
     intro y hy hp;cases ko<;>simp only[trk]at hy<;>first|cases hy|skip
     all_goals first
      |(simp only[pOp,hp,w1,za]at e;cases e;done)
      |(split at hy<;>first|(cases hy;simp only[pOp,hp,w1]at e;cases e;done)|cases hy)
    exact this xo hxo hp
  obtain⟨u,pa,hu,hpa⟩:=hk;exact h4 xo hxo N' u pa hu hpa (zeZ H hu hpa)
 ·rcases hq with hs|⟨y,hy⟩
  ·exact .inl fun call h2'=>⟨h2',by rw[run];exact zmr hs (h2 call)⟩
  ·obtain⟨w,kw,hw⟩:=h5 y hy;have cr:∀N':Nm,(∀t,y=.tmp t→RepPA N' (r t) (refine ρ ref t))→∀u pa,kv r y=some u→pv (refine ρ ref) y=some pa→RepPA N' u pa:=fun N' H u pa hu hpa=>zeZ H hu hpa
   have loc:∀call h2',(∀b,blk w=some b→h2'.t.get b=N.h.t.get b)→runK r ko call h2'=some (v,h2'):=by
    intro call h2' H;have hr:=h2 call;cases ko<;>simp only[memX]at hy<;>cases hy
    ·simp only[runK,kw,zC]at hr ⊢;exact znd hr fun b off he=>by cases he;exact H b rfl
    ·simp only[runK,kw,zC]at hr ⊢;exact zqg hr fun b o' l' c' e' he=>by cases he;exact H b rfl
   rcases hw with hw|⟨b,hb,hsrc⟩
   ·exact .inl fun call h2'=>⟨h2',by rw[run];exact loc call h2' fun b hb=>by rw[hw]at hb;cases hb⟩
   ·refine .inr ⟨y,hy,b,fun call h2' hh=>⟨h2',by rw[run];exact loc call h2' fun b' hb'=>by rw[hb]at hb';cases hb';exact hh⟩,?_⟩
    rcases hsrc with⟨j,q1,q2,q3,q4,q5⟩|⟨q1,q2⟩
    ·exact .inl ⟨j,q1,q2,q3,q4,fun N' H=>q5 N' (cr N' H)⟩
    ·exact .inr ⟨q1,fun N' H=>q2 N' (cr N' H)⟩
theorem zeq{β:Type}{nt:Nat}{ops:Array Oper}{o:Oper}{ρ:Nat→PA}{os:List PO}{N:Nm}{r:Fr}{K:Option (Nat×Bool)→KT β}{x:β}(I:InvO E N os)(F:∀i,RepPA N (r i) (ρ i))
  {ko:KOp} (hc:comp P o.op=some ko) (hq:jC ko=true∨∃y,memX ko=some y) (e:jx P O (fun _=>true) nt ops o ρ os K=some x):QOut P nt ops o ko N os r ρ K x:=by
 unfold jx at e;cases hT:inT nt o.dst with
 |false=>rw[hT]at e;cases e
 |true=>
  rw[hT]at e;simp only[cond_true]at e;rw[hc]at e;simp only at e;cases hg:o.guard with
  |none=>
   rw[hg]at e;refine zgX I hq none F (fun call h=>?_) e
   unfold yk;rw[hT,hg];exact zct P r call h hc
  |some gb=>
   obtain⟨j,b⟩:=gb;rw[hg]at e;simp only at e;cases hd:(ops[j]?).bind (·.dst) with
   |none=>rw[hd]at e;cases e
   |some d=>
    rw[hd]at e;simp only at e;cases hb:Nat.ble (Nat.succ d) nt with
    |false=>rw[hb]at e;cases e
    |true=>
     rw[hb]at e;simp only[cond_true]at e;have run:∀call h,yk P nt ops o call r h=bif zd4 (r d) b then runK r ko call h else some (z7,h):=fun call h=>by
      unfold yk;rw[hT,hg];simp only[cond_true];rw[hd];simp only;rw[hb];simp only[cond_true];rw[zct P r call h hc]
     split at e
     ·rename_i v hρ;have hrd:=F d;rw[hρ]at hrd;have key:∀q,v=.bool q→(if q=b then pOp O (fun _=>true) (shOf P o.dst o.type) (refine ρ (some (d,q))) os ko (K (some (d,q))) else K (some (d,q)) .undef os [] [])=some x→QOut P nt ops o ko N os r ρ K x:=fun q hq2 e2=>by
       subst hq2;have hr:=ye hrd (c:=.bool q) rfl;have F':=zaI F hr;by_cases hqb:q=b
       ·rw[if_pos hqb]at e2;refine zgX I hq (some (d,q)) F' (fun call h=>?_) e2
        rw[run,hr,hqb];simp only[zd4,beq_self_eq_true,cond_true]
       ·rw[if_neg hqb]at e2;have hr2:∀call h,yk P nt ops o call r h=some (z7,h):=fun call h=>by
         rw[run,hr];have:zd4 (.s (.one (.bool q))) b=false:=by
          cases q<;>cases b<;>first|rfl|exact absurd rfl hqb
         rw[this];rfl
        exact⟨some (d,q),.undef,[],z7,e2,F',rfl,fun call=>hr2 call N.h,fun _ _ _ _=>rfl,.inl fun call h2=>⟨h2,hr2 call h2⟩⟩
      cases b with
      |true=>
       obtain⟨q,rfl,e⟩:=zeL e;exact key q rfl (by cases q<;>exact e)
      |false=>
       obtain⟨q,rfl,e⟩:=zeL e;exact key q rfl (by cases q<;>exact e)
     ·rename_i hρ;have hrd:r d=z7:=by
       have:=F d;rw[hρ]at this;cases hh:r d with
       |s w=>rw[hh]at this;exact this
       |tup l=>rw[hh]at this;exact this
      have hr2:∀call h,yk P nt ops o call r h=some (z7,h):=fun call h=>by rw[run,hrd];rfl
      exact⟨none,.undef,[],z7,e,F,rfl,fun call=>hr2 call N.h,fun _ _ _ _=>rfl,.inl fun call h2=>⟨h2,hr2 call h2⟩⟩
     ·cases e
end
end Go.PE
end
section
namespace Go.PE
open Go Go.CE
abbrev CkE:=(AHeap→Res)×AVal×Nat×Nat
abbrev Sn:=Nm×List PO
def zh3(S:List Sn)(ps:List (Nat×Nat×List Nat))(q:CkE):Prop:=
 (∀ h, ∃ h', q.1 h = some (q.2.1, h')) ∨ Nat.beq q.2.2.1 q.2.2.2 = true ∨
  (∃ rd, (q.2.2.1, q.2.2.2, rd) ∈ ps ∧ ∃ (ne : Nat) (b : BN) (A Al : Sn), q.2.2.1 ≤ ne ∧ ne ≤ q.2.2.2 ∧ S[ne]? = some A ∧ S[q.2.2.1]? = some Al ∧ (∀ h2, h2.t.get b = A.1.h.t.get b → ∃ h', q.1 h2 = some (q.2.1, h')) ∧
   ((∃j,rd=[j]∧j<Al.1.n∧blk (A.1.μ j)=some b∧held (og A.2 j))∨(Al.1.fz b∧∃y,Al.1.h.t.get b=some y)))
def znM(E:En)(S:List Sn)(ws:List (List Nat)):Prop:=∀(e:Nat) (w:List Nat),ws[e]? = some w→∀A B,S[e]? = some A→S[e+1]? = some B→InvO E A.1 A.2∧Nx A.1 B.1∧BkE A.1 A.2 B.1 w∧Ho A.1.n A.2 B.2 w
theorem zc1{run:AHeap→Res}{v:AVal}:∀{l:List AHeap},(∀h∈l,∃h',run h=some (v,h'))→zil run v l=true
 | [],_=>rfl
 |h::l,H=>by
  obtain⟨h',e⟩:=H h (List.mem_cons_self ..);simp only[zil,e,zhF,Bool.true_and];exact zc1 fun x hx=>H x (List.mem_cons_of_mem _ hx)
theorem zfJ{ws:List (List Nat)}{lo hi j:Nat}(h:okW ws lo hi [j]=true){e:Nat}{w:List Nat}(h1:lo≤e)(h2:e<hi)(hw:ws[e]? = some w):j∉w:=by
 unfold okW at h;rw[List.all_eq_true]at h;have:((ws.drop lo).take (hi-lo))[e-lo]? = some w:=by
  rw[List.getElem?_take,if_pos (by omega),List.getElem?_drop,show lo+(e-lo)=e by omega,hw]
 have:=h w (Lz3 this);simp only[List.all_cons,List.all_nil,Bool.and_true,Bool.not_eq_true']at this;intro hm;rw[(kL j w).2 hm]at this;cases this
section
variable {E:En} {S:List Sn} {ws:List (List Nat)} (hl:S.length=ws.length+1) (ch:znM E S ws)
include hl ch
theorem zaG{e:Nat}{B:Sn}(eB:S[e+1]? = some B):∃A w,S[e]? = some A∧ws[e]? = some w∧InvO E A.1 A.2∧Nx A.1 B.1∧BkE A.1 A.2 B.1 w∧Ho A.1.n A.2 B.2 w:=by
 have hlt:=(Lz0.1 eB).1;obtain⟨A,eA⟩:∃A,S[e]? = some A:=⟨_,Lz5 (by omega)⟩
 obtain⟨w,ew⟩:∃w,ws[e]? = some w:=⟨_,Lz5 (by omega)⟩
 exact⟨A,w,eA,ew,ch e w ew A B eA eB⟩
theorem xM{lo:Nat}{Al:Sn}(el:S[lo]? = some Al):∀(d:Nat) (B:Sn),S[lo+d]? = some B→Nx Al.1 B.1
 |0,B,e=>by rw[Nat.add_zero,el]at e;cases e;exact .refl _
 |d+1,B,e=>by
  obtain⟨A,w,eA,_,_,nx,_⟩:=zaG hl ch (e:=lo+d) e;exact(xM el d A eA).trans nx
theorem zeM{lo j:Nat}{Al:Sn}(el:S[lo]? = some Al)(hj:j<Al.1.n):∀(d e:Nat) (A B:Sn),S[lo+e]? = some A→S[lo+e+d]? = some B→held (og B.2 j)→held (og A.2 j)
 |0,e,A,B,eA,eB,h=>by rw[Nat.add_zero,eA]at eB;cases eB;exact h
 |d+1,e,A,B,eA,eB,h=>by
  obtain⟨B',w,eB',_,_,_,_,ho⟩:=zaG hl ch (e:=lo+e+d) eB;have hn:=(xM hl ch el (e+d) B' (by rw[show lo+(e+d)=lo+e+d by omega];exact eB')).le
  exact zeM el hj d e A B' eA eB' ((ho j (Lz9 hj hn)).1 h)
theorem zk0{lo hi j:Nat}{Al:Sn}(el:S[lo]? = some Al)(hj:j<Al.1.n)(hw:okW ws lo hi [j]=true):∀(d e:Nat) (A B:Sn),lo+e+d≤hi→S[lo+e]? = some A→S[lo+e+d]? = some B→held (og A.2 j)→held (og B.2 j)
 |0,e,A,B,_,eA,eB,h=>by rw[Nat.add_zero,eA]at eB;cases eB;exact h
 |d+1,e,A,B,hh,eA,eB,h=>by
  obtain⟨B',w,eB',ew,_,_,_,ho⟩:=zaG hl ch (e:=lo+e+d) eB;have hn:=(xM hl ch el (e+d) B' (by rw[show lo+(e+d)=lo+e+d by omega];exact eB')).le
  have:=zk0 el hj hw d e A B' (by omega) eA eB' h
  exact((ho j (Lz9 hj hn)).2.1 this).elim id fun hm=>absurd hm (zfJ hw (by omega) (by omega) ew)
theorem kE{lo hi ne j:Nat}{Al A:Sn}{b:BN}(el:S[lo]? = some Al)(en:S[ne]? = some A)(h1:lo≤ne)(h2:ne≤hi)(hj:j<Al.1.n)(hw:okW ws lo hi [j]=true)(hb:blk (A.1.μ j)=some b)(hh:held (og A.2 j)):
  ∀(d:Nat) (B:Sn),lo+d≤hi→S[lo+d]? = some B→B.1.h.t.get b=Al.1.h.t.get b
 |0,B,_,e=>by rw[Nat.add_zero,el]at e;cases e;rfl
 |d+1,B,hd,e=>by
  obtain⟨A',w,eA',ew,I,nx,bk,ho⟩:=zaG hl ch (e:=lo+d) e;have ih:=kE el en h1 h2 hj hw hb hh d A' (by omega) eA'
  have nx1:=xM hl ch el d A' eA';have nx2:=xM hl ch el (ne-lo) A (by rw[show lo+(ne-lo)=ne by omega];exact en)
  have hjA:j<A'.1.n:=Lz9 hj nx1.le;have hbA:blk (A'.1.μ j)=some b:=by rw[nx1.mu j hj,←nx2.mu j hj];exact hb
  have hA:held (og A'.2 j):=by
   by_cases hc:lo+d≤ne
   ·exact zeM hl ch el hj (ne-(lo+d)) d A' A eA' (by rw[show lo+d+(ne-(lo+d))=ne by omega];exact en) hh
   ·exact zk0 hl ch el hj hw (lo+d-ne) (ne-lo) A A' (by omega) (by rw[show lo+(ne-lo)=ne by omega];exact en) (by rw[show lo+(ne-lo)+(lo+d-ne)=lo+d by omega];exact eA') hh
  obtain⟨y,hy⟩:=zbr hA (I.obj j) hbA;rw[←ih,hy];refine bk b y hy fun k hk hkn hkl hkb=>?_
  have hjw:=zfJ hw (by omega) (by omega) ew
  obtain⟨b',x',k1,k2,_⟩:=yA hkl (I.obj k);rw[hkb]at k1;cases k1;have hO:=I.obj j;cases hoj:og A'.2 j with
  |box cs=>
   have:=I.inj k j b hkl (by rw[hoj];trivial) hkb hbA
   exact hjw (this▸hk)
  |arr st v=>
   cases v with
   |none=>rw[hoj]at hA;exact hA
   |some xs=>
    have:=I.inj k j b hkl (by rw[hoj];trivial) hkb hbA
    exact hjw (this▸hk)
  |mp st xs=>
   have:=I.inj k j b hkl (by rw[hoj];trivial) hkb hbA
   exact hjw (this▸hk)
  |frz v=>
   rw[hoj]at hA hO;obtain⟨st,xs,rfl⟩:=hA;obtain⟨b2,o2,off2,cap2,ex2,cs2,q1,q2,_⟩:=Rep.lst_inv hO;rw[q1]at hbA;cases hbA;exact k2 q2
  |fbox ds=>
   rw[hoj]at hO;obtain⟨b2,q1,q2⟩:=hO;rw[q1]at hbA;cases hbA;obtain⟨b3,o3,base3,cs3,p1,p2,_⟩:=q2.fp_inv;cases p1;exact k2 p2
  |dead=>rw[hoj]at hA;exact hA
theorem zgp(T:List AHeap){ps:List (Nat×Nat×List Nat)}(hps:(ps.all fun p=>okW ws p.1 p.2.1 p.2.2)=true)(hT:T=[]∨∀p∈ps,p.2.1<S.length):∀{cs:List CkE},(∀q∈cs,zh3 S ps q)→chkK ((S.map fun x=>x.1.h)++T) cs=true
 | [],_=>rfl
 |(run,v,lo,hi)::cs,Hc=>by
  have ih:=zgp T hps hT (cs:=cs) fun q hq=>Hc q (List.mem_cons_of_mem _ hq)
  simp only[chkK,ih,Bool.and_true];have mem:(T=[]∨hi<S.length)→∀h∈(((S.map fun x=>x.1.h)++T).drop lo).take (Nat.sub (Nat.succ hi) lo),∃d B,lo+d≤hi∧S[lo+d]? = some B∧h=B.1.h:=fun hT h hh=>by
   obtain⟨i,hi'⟩:=List.getElem?_of_mem hh;rw[List.getElem?_take]at hi';split at hi'
   ·rename_i hlt;have hlt:i<hi+1-lo:=hlt;rw[List.getElem?_drop]at hi';have:((S.map fun x=>x.1.h)++T)[lo+i]? = (S.map fun x=>x.1.h)[lo+i]?:=by
     rcases hT with rfl|hT
     ·rw[List.append_nil]
     ·exact Lz2 (by rw[List.length_map];omega)
    rw[this,Lz6,Option.map_eq_some_iff]at hi';obtain⟨B,hB,rfl⟩:=hi';exact⟨i,B,by omega,hB,rfl⟩
   ·cases hi'
  rcases Hc _ (List.mem_cons_self ..) with h|h|⟨rd,hp,ne,b,A,Al,h1,h2,h3,h4,h6,h7⟩
  ·rw[zc1 fun x _=>h x,Bool.or_true]
  ·rw[show Nat.beq lo hi=true from h,Bool.true_or]
  ·rw[List.all_eq_true]at hps;have hwin:=hps _ hp;simp only at hwin h1 h2 h4 h6;rw[zc1 fun x hx=>?_,Bool.or_true]
   obtain⟨d,B,hd1,hd2,rfl⟩:=mem (hT.imp id fun h=>h _ hp) x hx
   refine h6 _ ?_;rcases h7 with⟨j,rfl,q1,q2,q3⟩|⟨q1,y,q2⟩
   ·have e1:=kE hl ch h4 h3 h1 h2 q1 hwin q2 q3 (ne-lo) A (by omega) (by rw[show lo+(ne-lo)=ne by omega];exact h3)
    have e2:=kE hl ch h4 h3 h1 h2 q1 hwin q2 q3 d B hd1 hd2;rw[e1,e2]
   ·have e1:=(xM hl ch h4 (ne-lo) A (by rw[show lo+(ne-lo)=ne by omega];exact h3)).fg.old b y q1 q2
    have e2:=(xM hl ch h4 d B hd2).fg.old b y q1 q2;rw[e1,e2]
theorem zhQ{ps:List (Nat×Nat×List Nat)}(hps:(ps.all fun p=>okW ws p.1 p.2.1 p.2.2)=true){cs:List CkE}(H:∀q∈cs,zh3 S ps q):chkK (S.map fun x=>x.1.h) cs=true:=by
 have:=zgp hl ch [] hps (.inl rfl) H
 rwa [List.append_nil]at this
end
section
variable {P:Program} {O:Orc} {C:Nat→zh} {E:En} {tab:Nat→Bool} {Y:Inl}
theorem zjL{N:Nm}{r:Fr}{ρ:Nat→PA}(F:∀i,RepPA N (r i) (ρ i))(l:List Nat):∀i,RepPA N (zM r l i) (zO ρ l i):=fun i=>by
 unfold zM zO;cases memB i l with
 |true=>exact F i
 |false=>exact .bad _
theorem zgW{N:Nm}{r:Fr}{ρ:Nat→PA}{l:List Nat}{d:Nat}{b:Bool}(F1:∀i,RepPA N (zM r l i) (refine (zO ρ l) (some (d,b)) i)):r d=.s (.one (.bool b)):=by
 have:=F1 d;rw[show refine (zO ρ l) (some (d,b)) d=pd (.bool b) by show (bif Nat.beq d d then _ else _)=_;rw[Nat.beq_refl];rfl]at this
 have h:=ye this (c:=.bool b) rfl;unfold zM at h;cases hm:memB d l with
 |true=>rw[hm]at h;exact h
 |false=>rw[hm]at h;cases h
theorem zej{N:Nm}{r:Fr}{ρ:Nat→PA}{l:List Nat}{ref:Option (Nat×Bool)}(F:∀i,RepPA N (r i) (ρ i))(F1:∀i,RepPA N (zM r l i) (refine (zO ρ l) ref i)):∀i,RepPA N (r i) (refine ρ ref i):=by
 cases ref with
 |none=>exact F
 |some db=>
  obtain⟨d,b⟩:=db;exact zaI F (zgW F1)
theorem jQ{N N':Nm}{r:Fr}{ρ:Nat→PA}{l:List Nat}{ref:Option (Nat×Bool)}(F1:∀i,RepPA N (zM r l i) (refine (zO ρ l) ref i)){i:Nat}(H:RepPA N' (r i) (ρ i)):RepPA N' (r i) (refine ρ ref i):=by
 cases ref with
 |none=>exact H
 |some db=>
  obtain⟨d,b⟩:=db;show RepPA N' (r i) (bif Nat.beq i d then pd (.bool b) else ρ i)
  cases hb:Nat.beq i d with
  |false=>exact H
  |true=>
   have:=Lz1 hb;subst this;rw[zgW F1];exact yG rfl
theorem kz{N N':Nm}{r:Fr}{ρ:Nat→PA}{l:List Nat}{ref:Option (Nat×Bool)}(F1:∀i,RepPA N (zM r l i) (refine (zO ρ l) ref i)){i:Nat}(H:RepPA N' (r i) (ρ i)):RepPA N' (zM r l i) (refine (zO ρ l) ref i):=by
 have h:=jQ F1 H;cases hm:memB i l with
 |true=>
  have e1:refine (zO ρ l) ref i=refine ρ ref i:=by
   cases ref with
   |none=>show zO ρ l i=ρ i;unfold zO;rw[hm];rfl
   |some db=>
    show (bif Nat.beq i db.1 then pd (.bool db.2) else zO ρ l i)=(bif Nat.beq i db.1 then pd (.bool db.2) else ρ i)
    unfold zO;rw[hm];rfl
  have e2:zM r l i=r i:=by unfold zM;rw[hm];rfl
  rw[e1,e2];exact h
 |false=>
  have e2:zM r l i=z7:=by unfold zM;rw[hm];rfl
  have F1i:=F1 i;rw[e2]at F1i ⊢;cases ref with
  |none=>
   have:refine (zO ρ l) none i=.bad:=by show zO ρ l i=.bad;unfold zO;rw[hm];rfl
   rw[this];exact .bad _
  |some db=>
   have:refine (zO ρ l) (some db) i=(bif Nat.beq i db.1 then pd (.bool db.2) else .bad):=by
    show (bif Nat.beq i db.1 then pd (.bool db.2) else zO ρ l i)=_
    unfold zO;rw[hm];rfl
   rw[this]at F1i ⊢;cases hb:Nat.beq i db.1 with
   |false=>exact .bad _
   |true=>rw[hb]at F1i;exact F1i.elim
theorem zj4(hO:jB O C)(hY:zlL tab Y C){β γ:Type}{Q:γ→Prop}{lk:Nat→Bool}{nt:Nat}{ops:Array Oper}{bs:List Nat}{es:List Bool}{x:β}{K:(Nat→PA)→List PO→Option β}{kk:Nat→Fr→AHeap→Option γ}:
    ∀(l:List Oper) (i:Nat) (ρ:Nat→PA) (os:List PO) (N:Nm) (r:Fr) (bo:Nat→Nat) (ws:List (List Nat)) (ps:List (Nat×Nat×List Nat)) (S:List Sn) (cs:Nat→List CkE),
    pDr P O tab Y lk nt ops bs es i l ρ os bo ws ps K=some x→InvO E N os→(∀i,RepPA N (r i) (ρ i))→(∀j,lk j=true→j<os.length)→
    S.length=ws.length→znM E (S++[(N,os)]) ws→(∀s,bo s≤ws.length∧∀A:Sn,(S++[(N,os)])[bo s]? = some A→RepPA A.1 (r s) (ρ s))→(∀n,∀q∈cs n,zh3 (S++[(N,os)]) ps q)→
    (∀ρ' os' N' r',K ρ' os'=some x→InvO E N' os'→(∀i,RepPA N' (r' i) (ρ' i))→Nx N N'→(∀j,lk j=true→og os' j=og os j)→(∀i,i∉l.filterMap (·.dst)→r' i=r i)→Ev (fun n=>kk n r' N'.h) Q)→
    Ev (fun n=>kDr P nt ops (C n) bs es i l r N.h (S.map fun x=>x.1.h) (cs n) (kk n)) Q
  | [],i,ρ,os,N,r,bo,ws,ps,S,cs,e,I,F,hlk,hl,ch,sl,pe,H=>by
    simp only[pDr]at e;cases hps:(ps.all fun p=>okW ws p.1 p.2.1 p.2.2) with
    |false=>rw[hps]at e;cases e
    |true=>
      rw[hps]at e;have run:∀n,kDr P nt ops (C n) bs es i [] r N.h (S.map fun x=>x.1.h) (cs n) (kk n)=kk n r N.h:=fun n=>by
        simp only[kDr];have:=zhQ (S:=S++[(N,os)]) (by simp[hl]) ch hps (pe n)
        rw[List.map_append,List.map_cons,List.map_nil]at this;rw[this,cond_true]
      simp only[run];exact H ρ os N r e I F (.refl N) (fun _ _=>rfl) (fun _ _=>rfl)
  |o::l,i,ρ,os,N,r,bo,ws,ps,S,cs,e,I,F,hlk,hl,ch,sl,pe,H=>by
    have step:(fun n=>kDr P nt ops (C n) bs es i (o::l) r N.h (S.map fun x=>x.1.h) (cs n) (kk n))=fun n=>CE.bindR (yk P nt ops o (C n) (zM r (o.looksAt ops)) N.h) fun v h'=>
        bif yx P o.op then kDr P nt ops (C n) bs es (Nat.succ i) l (fset r v o.dst) N.h (S.map fun x=>x.1.h) (cs n++[(yk P nt ops o (C n) (zM r (o.looksAt ops)),v,ce (fun j=>bef bs j i) 0 es,ce (fun j=>!bef bs i j) 0 es)]) (kk n)
        else kDr P nt ops (C n) bs es (Nat.succ i) l (fset r v o.dst) h' ((S.map fun x=>x.1.h)++[N.h]) (cs n) (kk n):=by
      funext n;exact zhn ops (C n) bs es i o l r N.h _ (cs n) (kk n)
    rw[step];have agree:∀(r2:Fr) (v:AVal),(∀i,i∉l.filterMap (·.dst)→r2 i=fset r v o.dst i)→∀i,i∉(o::l).filterMap (·.dst)→r2 i=r i:=fun r2 v hr i hi=>by
      simp only[List.filterMap_cons]at hi;rw[hr i (fun hm=>hi (by cases o.dst<;>simp[hm]))]
      exact xT (fun hd=>hi (by rw[hd];simp))
    have FR:=zjL F (o.looksAt ops);simp only[pDr]at e;cases hq:yx P o.op with
    |true=>
      rw[hq]at e;simp only[cond_true]at e ⊢;cases hc:comp P o.op with
      |none=>rw[hc]at e;cases e
      |some ko=>
        rw[hc]at e;simp only at e;have go:∀(nb:Option (Nat×Bool)→Nat) (ps':List Nat→List (Nat×Nat×List Nat)) (hk:jC ko=true∨∃y,memX ko=some y),(∀ref,nb ref≤ws.length)→(∀rd,∀p∈ps,p∈ps' rd)→
            (∀ref,(∀i,RepPA N (zM r (o.looksAt ops) i) (refine (zO ρ (o.looksAt ops)) ref i))→∀v a,RepPA N v a→(∀xo,trk (refine (zO ρ (o.looksAt ops)) ref) ko=some xo→∀N':Nm,(∀t,xo=.tmp t→RepPA N' (zM r (o.looksAt ops) t) (refine (zO ρ (o.looksAt ops)) ref t))→RepPA N' v a)→∀A:Sn,(S++[(N,os)])[nb ref]? = some A→RepPA A.1 v a)→
            (∀ref,(∀i,RepPA N (zM r (o.looksAt ops) i) (refine (zO ρ (o.looksAt ops)) ref i))→∀v rd n,((∀call h2,∃h',yk P nt ops o call (zM r (o.looksAt ops)) h2=some (v,h'))∨(∃xo,memX ko=some xo∧∃b:BN,(∀call h2,h2.t.get b=N.h.t.get b→∃h',yk P nt ops o call (zM r (o.looksAt ops)) h2=some (v,h'))∧
                ((∃ j, rd = [j] ∧ j < N.n ∧ blk (N.μ j) = some b ∧ held (og os j) ∧ ∀ N' : Nm, (∀ t, xo = .tmp t → RepPA N' (zM r (o.looksAt ops) t) (refine (zO ρ (o.looksAt ops)) ref t)) → j < N'.n) ∨
                 (rd=[]∧∀N':Nm,(∀t,xo=.tmp t→RepPA N' (zM r (o.looksAt ops) t) (refine (zO ρ (o.looksAt ops)) ref t))→N'.fz b∧∃y,N'.h.t.get b=some y))))→
              zh3 (S++[(N,os)]) (ps' rd) (yk P nt ops o (C n) (zM r (o.looksAt ops)),v,ce (fun j=>bef bs j i) 0 es,ce (fun j=>!bef bs i j) 0 es))→
            (jx P O (fun _=>true) nt ops o (zO ρ (o.looksAt ops)) os fun ref a _ _ rd=>pDr P O tab Y lk nt ops bs es (Nat.succ i) l (pset (refine ρ ref) a o.dst) os (bset bo (nb ref) o.dst) ws (ps' rd) K)=some x→
            Ev (fun n=>CE.bindR (yk P nt ops o (C n) (zM r (o.looksAt ops)) N.h) fun v h'=>kDr P nt ops (C n) bs es (Nat.succ i) l (fset r v o.dst) N.h (S.map fun x=>x.1.h) (cs n++[(yk P nt ops o (C n) (zM r (o.looksAt ops)),v,ce (fun j=>bef bs j i) 0 es,ce (fun j=>!bef bs i j) 0 es)]) (kk n)) Q:=by
          intro nb ps' hk hnb hps hxb hpe e;obtain⟨ref,a,rd,v,e1,F1,rv,run,tr,pend⟩:=zeq I FR hc hk e;have:(fun n=>CE.bindR (yk P nt ops o (C n) (zM r (o.looksAt ops)) N.h) fun v h'=>kDr P nt ops (C n) bs es (Nat.succ i) l (fset r v o.dst) N.h (S.map fun x=>x.1.h) (cs n++[(yk P nt ops o (C n) (zM r (o.looksAt ops)),v,ce (fun j=>bef bs j i) 0 es,ce (fun j=>!bef bs i j) 0 es)]) (kk n)) =
              fun n=>kDr P nt ops (C n) bs es (Nat.succ i) l (fset r v o.dst) N.h (S.map fun x=>x.1.h) (cs n++[(yk P nt ops o (C n) (zM r (o.looksAt ops)),v,ce (fun j=>bef bs j i) 0 es,ce (fun j=>!bef bs i j) 0 es)]) (kk n):=by
            funext n;rw[run];rfl
          rw[this];refine zj4 hO hY l (Nat.succ i) _ os N (fset r v o.dst) _ ws (ps' rd) S _ e1 I (zam (zej F F1) rv o.dst) hlk hl ch (fun s=>?_) (fun n q hqm=>?_) fun ρ2 os2 N2 r2 k1 k2 k3 k4 k5 k6=>H ρ2 os2 N2 r2 k1 k2 k3 k4 k5 (agree r2 v k6)
          · have old:bo s≤ws.length∧∀A:Sn,(S++[(N,os)])[bo s]? = some A→RepPA A.1 (r s) (refine ρ ref s):=⟨(sl s).1,fun A hh=>jQ F1 ((sl s).2 A hh)⟩
            cases hd:o.dst with
            |none=>exact old
            |some d=>
              show (bif Nat.beq s d then nb ref else bo s)≤ws.length∧∀A:Sn,(S++[(N,os)])[bif Nat.beq s d then nb ref else bo s]? = some A→RepPA A.1 (bif Nat.beq s d then v else r s) (bif Nat.beq s d then a else refine ρ ref s)
              cases Nat.beq s d with
              |false=>exact old
              |true=>exact⟨hnb ref,hxb ref F1 v a rv tr⟩
          · rcases List.mem_append.1 hqm with h|h
            · rcases pe n q h with g|g|⟨rd',g1,g2⟩
              · exact .inl g
              · exact .inr (.inl g)
              · exact .inr (.inr ⟨rd',hps rd _ g1,g2⟩)
            · rw[List.mem_singleton]at h
              subst h;exact hpe ref F1 v rd n pend
        have here:∀v a,RepPA N v a→∀A:Sn,(S++[(N,os)])[ws.length]? = some A→RepPA A.1 v a:=fun v a rv A hh=>by
          rw[←hl,List.getElem?_concat_length]at hh;cases hh;exact rv
        cases hst:jC ko with
        |true=>
          rw[hst]at e;simp only[cond_true]at e;refine go (fun ref=>match trk (refine (zO ρ (o.looksAt ops)) ref) ko with|some x=>bOf bo x|none=>ws.length) (fun _=>ps) (.inl hst) ?_ (fun _ p hp=>hp) ?_ ?_ e
          · intro ref
            cases htk:trk (refine (zO ρ (o.looksAt ops)) ref) ko with
            |none=>exact LzB _
            |some y=>
              cases y with
              |tmp t=>exact(sl t).1
              |_=>exact Nat.zero_le _
          · intro ref F1 v a rv tr A hh
            cases htk:trk (refine (zO ρ (o.looksAt ops)) ref) ko with
            |none=>simp only[htk]at hh;exact here v a rv A hh
            |some y=>
              simp only[htk]at hh;refine tr y htk _ fun t ht=>?_
              subst ht;exact kz F1 ((sl t).2 A hh)
          · intro ref F1 v rd n pend
            rcases pend with g|⟨xo,g,_⟩
            · exact .inl fun h=>g (C n) h
            · exfalso
              cases ko<;>first|exact Bool.noConfusion hst|(simp only[memX]at g;cases g)
        |false=>
          rw[hst]at e;simp only[cond_false]at e;cases hm:memX ko with
          |none=>rw[hm]at e;cases e
          |some y=>
            rw[hm]at e;simp only at e;cases hb:Nat.beq (ce (fun j=>bef bs j i) 0 es) (ce (fun j=>!bef bs i j) 0 es) with
            |true=>
              rw[hb]at e;exact go (fun _=>ws.length) (fun _=>ps) (.inr ⟨y,hm⟩) (fun _=>LzB _) (fun _ p hp=>hp) (fun ref F1 v a rv tr A hh=>here v a rv A hh) (fun ref F1 v rd n pend=>.inr (.inl hb)) e
            |false=>
              rw[hb]at e;simp only[cond_false]at e;cases hw:(Nat.ble (bOf bo y) (ce (fun j=>bef bs j i) 0 es)&&Nat.ble (ce (fun j=>bef bs j i) 0 es) ws.length&&Nat.ble ws.length (ce (fun j=>!bef bs i j) 0 es)) with
              |false=>rw[hw]at e;cases e
              |true=>
                rw[hw]at e;simp only[LzC]at hw;obtain⟨⟨w1,w2⟩,w3⟩:=hw;have w1:=Lz4 w1;have w2:=Lz4 w2;have w3:=Lz4 w3;refine go (fun _=>ws.length) (fun rd=>ps++[(ce (fun j=>bef bs j i) 0 es,ce (fun j=>!bef bs i j) 0 es,rd)]) (.inr ⟨y,hm⟩) (fun _=>LzB _) (fun _ p hp=>List.mem_append_left _ hp) (fun ref F1 v a rv tr A hh=>here v a rv A hh) (fun ref F1 v rd n pend=>?_) e
                rcases pend with g|⟨xo,g,b,g2,g1⟩
                · exact .inl fun h=>g (C n) h
                · rw[hm]at g
                  cases g;obtain⟨Al,elo⟩:∃A:Sn,(S++[(N,os)])[ce (fun j=>bef bs j i) 0 es]? = some A:=⟨_,Lz5 (by simp[hl];omega)⟩
                  have hrel:∀t,y=.tmp t→RepPA Al.1 (zM r (o.looksAt ops) t) (refine (zO ρ (o.looksAt ops)) ref t):=fun t ht=>by
                    subst ht;refine kz F1 ?_;obtain⟨Ab,eb0⟩:∃A:Sn,(S++[(N,os)])[bo t]? = some A:=⟨_,Lz5 (by have:=(sl t).1;simp[hl];omega)⟩
                    have hle:bo t≤ce (fun j=>bef bs j i) 0 es:=w1
                    exact((sl t).2 Ab eb0).mono (xM (by simp[hl]) ch eb0 (ce (fun j=>bef bs j i) 0 es-bo t) Al (by rw[show bo t+(ce (fun j=>bef bs j i) 0 es-bo t)=ce (fun j=>bef bs j i) 0 es by omega];exact elo))
                  refine .inr (.inr ⟨rd,List.mem_append_right _ (List.mem_singleton_self _),ws.length,b,(N,os),Al,w2,w3,by rw[←hl];exact List.getElem?_concat_length,elo,fun h2 hh=>g2 (C n) h2 hh,?_⟩)
                  rcases g1 with⟨j,q1,q2,q3,q4,q5⟩|⟨q1,q2⟩
                  · exact .inl ⟨j,q1,q5 Al.1 hrel,q3,q4⟩
                  · exact .inr (q2 Al.1 hrel)
    |false=>
      rw[hq]at e;simp only[cond_false]at e ⊢;cases hL:zrr P tab (zO ρ (o.looksAt ops)) o l with
      |some q=>
        obtain⟨g,as⟩:=q;rw[hL]at e;cases l with
        |cons o2 l2=>cases hL
        |nil=>
        simp only at e;cases hT:(inT nt o.dst&&ps.all fun p=>okW ws p.1 p.2.1 p.2.2&&Nat.ble p.2.1 ws.length) with
        |false=>rw[hT]at e;cases e
        |true=>
          rw[hT,cond_true]at e;rw[LzC,List.all_eq_true]at hT;obtain⟨hT,hps⟩:=hT;obtain⟨ht,vs,rvs,run⟩:=zhq (ops:=ops) FR hL hT;obtain⟨a,os',e1,ev⟩:=hY ht I rvs hlk e;have:∀n,yk P nt ops o (C n) (zM r (o.looksAt ops)) N.h=C n (.inl g) vs N.h:=fun n=>run (C n) N.h
          simp only[this];refine Ev.bindR (ev.mono ?_)
          rintro⟨v,h'⟩ ⟨N',hh,i1,i2,i3,i4⟩
          simp only at hh i4 ⊢;subst hh;have run2:∀n,kDr P nt ops (C n) bs es (Nat.succ i) [] (fset r v o.dst) N'.h ((S.map fun x=>x.1.h)++[N.h]) (cs n) (kk n)=kk n (fset r v o.dst) N'.h:=fun n=>by
            simp only[kDr];have hw:(ps.all fun p=>okW ws p.1 p.2.1 p.2.2)=true:=List.all_eq_true.2 fun p hp=>by
              have:=hps p hp;rw[LzC]at this;exact this.1
            have:=zgp (S:=S++[(N,os)]) (by simp[hl]) ch [N'.h] hw (.inr fun p hp=>by
              have:=hps p hp;rw[LzC]at this;have:=Lz4 this.2;simp[hl];omega) (pe n)
            rw[List.map_append,List.map_cons,List.map_nil]at this;rw[this,cond_true]
          simp only[run2];exact H _ os' N' (fset r v o.dst) e1 i1 (zam (fun i=>(F i).mono i2) i4 o.dst) i2 i3 (agree _ v (fun _ _=>rfl))
      |none=>
      rw[hL]at e;simp only at e;obtain⟨ref,a,os',wr,rd,e1,F1,ev⟩:=zdg hO I FR hlk e;refine Ev.bindR (ev.mono ?_)
      rintro⟨v,h'⟩ ⟨N',hh,Sm⟩
      simp only at hh Sm ⊢;subst hh;have F2:=zej F F1;have hlen2:(S++[(N,os)]).length=(ws++[wr]).length:=by simp[hl]
      have hmap:(S.map fun x=>x.1.h)++[N.h]=(S++[(N,os)]).map fun x=>x.1.h:=by simp
      rw[hmap];refine zj4 hO hY l (Nat.succ i) _ os' N' (fset r v o.dst) _ (ws++[wr]) ps (S++[(N,os)]) cs e1 Sm.inv (zam (fun i=>(F2 i).mono Sm.nx) Sm.val o.dst) (fun j hj=>?_) hlen2 ?_ (fun s=>?_) (fun n q hqm=>?_) fun ρ2 os2 N2 r2 k1 k2 k3 k4 k5 k6=>
        H ρ2 os2 N2 r2 k1 k2 k3 (Sm.nx.trans k4) (fun j hj=>(k5 j hj).trans (Sm.lock j hj)) (agree r2 v k6)
      · have h1:=Sm.nx.le
        rw[Sm.inv.len,I.len]at h1;exact Lz9 (hlk j hj) h1
      · intro e w hw A B a1 a2
        by_cases he:e<ws.length
        · rw[Lz2 he]at hw
          rw[Lz2 (by simp[hl];omega)]at a1
          rw[Lz2 (by simp[hl];omega)]at a2
          exact ch e w hw A B a1 a2
        · have he2:e=ws.length:=by
            have:=(Lz0.1 hw).1;simp at this;omega
          subst he2;rw[List.getElem?_concat_length]at hw;cases hw;rw[←hl]at a1 a2;rw[Lz2 (by simp),List.getElem?_concat_length]at a1
          cases a1;rw[show S.length+1=(S++[(N,os)]).length by simp,List.getElem?_concat_length]at a2
          cases a2;exact⟨I,Sm.nx,Sm.fr.ex I.hw,Sm.ho⟩
      · have old:bo s≤(ws++[wr]).length∧∀A:Sn,(S++[(N,os)]++[(N',os')])[bo s]? = some A→RepPA A.1 (r s) (refine ρ ref s):=
          ⟨by have:=(sl s).1;simp;omega,fun A hh=>jQ F1 ((sl s).2 A (by rwa [Lz2 (by have:=(sl s).1;simp[hl];omega)]at hh))⟩
        cases hd:o.dst with
        |none=>exact old
        |some d=>
          show (bif Nat.beq s d then Nat.succ ws.length else bo s)≤(ws++[wr]).length∧∀A:Sn,(S++[(N,os)]++[(N',os')])[bif Nat.beq s d then Nat.succ ws.length else bo s]? = some A→RepPA A.1 (bif Nat.beq s d then v else r s) (bif Nat.beq s d then a else refine ρ ref s)
          cases Nat.beq s d with
          |false=>exact old
          |true=>
            refine⟨by simp,fun A hh=>?_⟩
            simp only[cond_true]at hh ⊢;rw[show Nat.succ ws.length=(S++[(N,os)]).length by simp[hl],List.getElem?_concat_length]at hh
            cases hh;exact Sm.val
      · rcases pe n q hqm with g|g|⟨rd',g1,ne,b,A,Al,a1,a2,a3,a4,a5⟩
        · exact .inl g
        · exact .inr (.inl g)
        · refine .inr (.inr ⟨rd',g1,ne,b,A,Al,a1,a2,?_,?_,a5⟩)
          · rw[Lz2 (Lz0.1 a3).1];exact a3
          · rw[Lz2 (Lz0.1 a4).1];exact a4
end
end Go.PE
end
section
namespace Go.PE
open Go Go.CE
theorem znB{n0:Nat}(l:List Nat)(t:Tr AObj)(b:BN):(b∈l.map (nm n0)→(delH n0 l t).get b=none)∧(b∉l.map (nm n0)→(delH n0 l t).get b=t.get b):=by
 constructor
 ·intro h;obtain⟨j,hj,rfl⟩:=List.mem_map.1 h;exact zbA l t j hj
 ·intro h;exact vz l t b fun j hj e=>h (List.mem_map.2 ⟨j,hj,e.symm⟩)
theorem qP{n0:Nat}{h:Tr AObj}:∀(l:List Nat) (t:Tr AObj),l.Nodup→(∀j∈l,t.get (nm n0 j)=none)→∃t',zdZ n0 h l t=some t'
 | [],t,_,_=>⟨t,rfl⟩
 |j::l,t,hd,hn=>by
  unfold zdZ;have h0:=hn j (List.mem_cons_self ..);rw[show t.get (bn (Nat.add n0 j))=none from h0]
  simp only;have hnd:=List.nodup_cons.1 hd;cases ho:h.get (bn (Nat.add n0 j)) with
  |none=>exact qP l t hnd.2 fun i hi=>hn i (List.mem_cons_of_mem _ hi)
  |some o=>
   refine qP l _ hnd.2 fun i hi=>?_
   rw[zo _ _ _ _ (fun e=>hnd.1 (by have:=vr (n0:=n0) (i:=i) (j:=j) e;rw[←this];exact hi))]
   exact hn i (List.mem_cons_of_mem _ hi)
theorem znk{bs:List Nat}{i:Nat}:∀(os:List Oper) (off j:Nat),j∈yz bs i off os→off≤j:=fun os off j h=>by
 obtain⟨m,_,_,h2,_⟩:=(ve os off j).1 h;omega
theorem zbq{bs:List Nat}{i:Nat}:∀(os:List Oper) (off:Nat),(yz bs i off os).Nodup
 | [],_=>List.nodup_nil
 |o::os,off=>by
  unfold yz;have ih:=zbq (bs:=bs) (i:=i) os (Nat.succ off);cases (mkOp o.op&&bef bs off i) with
  |true=>exact ih
  |false=>exact List.nodup_cons.2 ⟨fun h=>by have:=znk _ _ _ h;omega,ih⟩
def uA(bs:List Nat)(i:Nat):List (Nat×Nat)→List PO→List PO
 | [],os=>os
 |(j,k)::mk,os=>bif bef bs j i then uA bs i mk os else oset .dead (uA bs i mk os) k
def wB(bs:List Nat)(i:Nat)(os0:List PO):List (Nat×Nat)→List PO→List PO
 | [],os=>os
 |(j,k)::mk,os=>bif bef bs j i then wB bs i os0 mk os else oset (og os0 k) (wB bs i os0 mk os) k
def isLive:PO→Bool
 | .box _=>true
 | .arr _ (some _)=>true
 | .mp _ _=>true
 |_=>false
def j8(mk:List (Nat×Nat))(os:List PO):Bool:=mk.all fun p=>isLive (og os p.2)
theorem zeK{o:PO}(h:isLive o=true):live o:=by
 cases o with
 |box _=>trivial
 |arr _ v=>cases v with
  |none=>cases h
  |some _=>trivial
 |mp _ _=>trivial
 |_=>cases h
def Hid(bs:List Nat)(i:Nat)(mk:List (Nat×Nat))(k:Nat):Prop:=∃j,(j,k)∈mk∧bef bs j i=false
theorem vT{bs:List Nat}{i:Nat}:∀(mk:List (Nat×Nat)) (os:List PO),(uA bs i mk os).length=os.length
 | [],_=>rfl
 |(j,k)::mk,os=>by
  unfold uA;cases bef bs j i with
  |true=>exact vT mk os
  |false=>exact(yK _ _ _).trans (vT mk os)
theorem jb{bs:List Nat}{i:Nat}{os0:List PO}:∀(mk:List (Nat×Nat)) (os:List PO),(wB bs i os0 mk os).length=os.length
 | [],_=>rfl
 |(j,k)::mk,os=>by
  unfold wB;cases bef bs j i with
  |true=>exact jb mk os
  |false=>exact(yK _ _ _).trans (jb mk os)
theorem zsP{os:List PO}{k:Nat}(h:os.length≤k):og os k=.dead:=by
 rw[zdl,List.getElem?_eq_none h];rfl
theorem xn{bs:List Nat}{i:Nat}(k:Nat):∀(mk:List (Nat×Nat)) (os:List PO),(Hid bs i mk k→og (uA bs i mk os) k=.dead)∧(¬Hid bs i mk k→og (uA bs i mk os) k=og os k)
 | [],_=>⟨fun⟨_,h,_⟩=>(by cases h),fun _=>rfl⟩
 |(j,k')::mk,os=>by
  obtain⟨ih1,ih2⟩:=xn (bs:=bs) (i:=i) k mk os;unfold uA;have up:Hid bs i mk k→Hid bs i ((j,k')::mk) k:=fun⟨a,b,c⟩=>⟨a,List.mem_cons_of_mem _ b,c⟩
  cases hb:bef bs j i with
  |true=>
   simp only[cond_true];refine⟨fun hx=>?_,fun h=>ih2 fun g=>h (up g)⟩
   obtain⟨a,h1,h2⟩:=hx;rcases List.mem_cons.1 h1 with h1|h1
   ·cases h1;rw[hb]at h2;cases h2
   ·exact ih1 ⟨a,h1,h2⟩
  |false=>
   simp only[cond_false];rw[yy,vT];by_cases hk:k=k'
   ·subst hk;refine⟨fun _=>?_,fun h=>absurd ⟨j,List.mem_cons_self ..,hb⟩ h⟩
    by_cases hl:k<os.length
    ·rw[if_pos ⟨rfl,hl⟩]
    ·rw[if_neg (fun e=>hl e.2)];exact zsP (by rw[vT];omega)
   ·rw[if_neg (fun e=>hk e.1)]
    refine⟨fun hx=>?_,fun h=>ih2 fun g=>h (up g)⟩
    obtain⟨a,h1,h2⟩:=hx;rcases List.mem_cons.1 h1 with h1|h1
    ·cases h1;exact absurd rfl hk
    ·exact ih1 ⟨a,h1,h2⟩
theorem x5{bs:List Nat}{i:Nat}{os0:List PO}(k:Nat):∀(mk:List (Nat×Nat)) (os:List PO),(∀p∈mk,p.2<os.length)→(Hid bs i mk k→og (wB bs i os0 mk os) k=og os0 k)∧(¬Hid bs i mk k→og (wB bs i os0 mk os) k=og os k)
 | [],_,_=>⟨fun⟨_,h,_⟩=>(by cases h),fun _=>rfl⟩
 |(j,k')::mk,os,hr=>by
  obtain⟨ih1,ih2⟩:=x5 (bs:=bs) (i:=i) (os0:=os0) k mk os fun p hp=>hr p (List.mem_cons_of_mem _ hp)
  unfold wB;have up:Hid bs i mk k→Hid bs i ((j,k')::mk) k:=fun⟨a,b,c⟩=>⟨a,List.mem_cons_of_mem _ b,c⟩
  cases hb:bef bs j i with
  |true=>
   simp only[cond_true];refine⟨fun hx=>?_,fun h=>ih2 fun g=>h (up g)⟩
   obtain⟨a,h1,h2⟩:=hx;rcases List.mem_cons.1 h1 with h1|h1
   ·cases h1;rw[hb]at h2;cases h2
   ·exact ih1 ⟨a,h1,h2⟩
  |false=>
   simp only[cond_false];rw[yy,jb];by_cases hk:k=k'
   ·subst hk;refine⟨fun _=>by rw[if_pos ⟨rfl,hr (j,k) (List.mem_cons_self ..)⟩],fun h=>absurd ⟨j,List.mem_cons_self ..,hb⟩ h⟩
   ·rw[if_neg (fun e=>hk e.1)]
    refine⟨fun hx=>?_,fun h=>ih2 fun g=>h (up g)⟩
    obtain⟨a,h1,h2⟩:=hx;rcases List.mem_cons.1 h1 with h1|h1
    ·cases h1;exact absurd rfl hk
    ·exact ih1 ⟨a,h1,h2⟩
structure MkOk (E:En) (n0 len i:Nat) (mk:List (Nat×Nat)) (N:Nm) (os:List PO):Prop where
 e0:E.h0.n.toNat≤n0
 top:n0+len≤N.h.n.toNat
 mks:∀p∈mk,p.1<i∧p.1<len∧p.2<N.n∧live (og os p.2)∧blk (N.μ p.2)=some (nm n0 p.1)
 free:∀j,j<len→i≤j→N.h.t.get (nm n0 j)=none
 all:∀j y,j<len→N.h.t.get (nm n0 j)=some y→∃k,(j,k)∈mk
section
variable {E:En} {N:Nm} {os:List PO} {n0 len i:Nat} {mk:List (Nat×Nat)}
theorem MkOk.nfz(M:MkOk E n0 len i mk N os)(I:InvO E N os){j:Nat}(hj:j<len):¬N.fz (nm n0 j):=fun hf=>by
 rcases I.fzex _ hf with h|⟨y,hy⟩
 ·rw[yq]at h;have:=M.e0;omega
 ·obtain⟨k,hk⟩:=M.all j y hj hy;obtain⟨_,_,_,h3,h4⟩:=M.mks _ hk;obtain⟨b,x,g1,g2,_⟩:=yA h3 (I.obj k);rw[h4]at g1;cases g1;exact g2 hf
structure HdOk (bs:List Nat) (i len:Nat) (mk:List (Nat×Nat)) (H:List Nat):Prop where
 nd:H.Nodup
 lt:∀j∈H,j<len
 hid:∀j k,(j,k)∈mk→(j∈H↔bef bs j i=false)
variable {bs:List Nat} {H:List Nat}
noncomputable def uT(n0:Nat)(H:List Nat)(N:Nm):Nm:=⟨N.μ,N.n,N.fz,⟨N.h.n,delH n0 H N.h.t⟩⟩
theorem wK(b:BN):(b∈H.map (nm n0)→(uT n0 H N).h.t.get b=none)∧(b∉H.map (nm n0)→(uT n0 H N).h.t.get b=N.h.t.get b):=znB H N.h.t b
theorem kO{b:BN}{y:AObj}(h:(uT n0 H N).h.t.get b=some y):b∉H.map (nm n0)∧N.h.t.get b=some y:=by
 by_cases hb:b∈H.map (nm n0)
 ·rw[(wK b).1 hb]at h;cases h
 ·exact⟨hb,by rw[←(wK (N:=N) b).2 hb];exact h⟩
theorem zf2(M:MkOk E n0 len i mk N os)(I:InvO E N os)(D:HdOk bs i len mk H):Nx N (uT n0 H N):=
 ⟨⟨fun _ _ h _ => h, fun b o hf hy => by
  rw[(wK b).2 ?_]
  ·exact hy
  ·intro hm;obtain⟨j,hj,rfl⟩:=List.mem_map.1 hm;exact M.nfz I (D.lt j hj) hf⟩,LzB _,fun _ _=>rfl⟩
theorem zhr:Nx (uT n0 H N) N:=⟨⟨fun _ _ h _=>h,fun _ _ _ hy=>(kO hy).2⟩,LzB _,fun _ _=>rfl⟩
theorem zhs(M:MkOk E n0 len i mk N os)(I:InvO E N os)(D:HdOk bs i len mk H):InvO E (uT n0 H N) (uA bs i mk os):=by
 have t:∀k,live (og (uA bs i mk os) k)→¬Hid bs i mk k∧live (og os k):=fun k hl=>by
  by_cases hh:Hid bs i mk k
  ·rw[(xn k mk os).1 hh]at hl;exact hl.elim
  ·rw[(xn k mk os).2 hh]at hl;exact⟨hh,hl⟩
 refine⟨fun b y hy=>I.hw b y (kO hy).2,⟨I.gr.le,fun b hb=>?_⟩,I.fzlt,I.fzok,fun b hb=>?_,I.len.trans (vT mk os).symm,fun k b hl hb=>I.own k b (t k hl).2 hb,fun k k' b hl hl' hb hb'=>I.inj k k' b (t k hl).2 (t k' hl').2 hb hb',fun k=>?_⟩
 ·rw[(wK b).2 ?_]
  ·exact I.gr.old b hb
  ·intro hm;obtain⟨j,hj,rfl⟩:=List.mem_map.1 hm;rw[yq]at hb;have:=M.e0;omega
 ·refine (I.fzex b hb).imp id fun⟨y,hy⟩=>⟨y,?_⟩
  rw[(wK b).2 ?_]
  ·exact hy
  ·intro hm;obtain⟨j,hj,rfl⟩:=List.mem_map.1 hm;exact M.nfz I (D.lt j hj) hb
 ·by_cases hh:Hid bs i mk k
  ·rw[(xn k mk os).1 hh];trivial
  ·rw[(xn k mk os).2 hh];refine (I.obj k).mono (zf2 M I D) rfl fun hl b hb=>?_
   obtain⟨b',x,g1,g2,g3⟩:=yA hl (I.obj k);rw[g1]at hb;cases hb;refine⟨g2,(wK _).2 fun hm=>?_⟩
   obtain⟨j,hj,rfl⟩:=List.mem_map.1 hm;obtain⟨k',hk'⟩:=M.all j x (D.lt j hj) g3;obtain⟨_,_,_,h3,h4⟩:=M.mks _ hk';have:=I.inj k k' _ hl h3 g1 h4;subst this;exact hh ⟨j,hk',(D.hid j k hk').1 hj⟩
structure Aft (N:Nm) (os:List PO) (wr:List Nat) (N':Nm) (os':List PO):Prop where
 nx:Nx N N'
 bk:BkE N os N' wr
 ho:Ho N.n os os' wr
 nle:N.h.n.toNat≤N'.h.n.toNat
theorem zqc(M:MkOk E n0 len i mk N os)(I:InvO E N os)(D:HdOk bs i len mk H){N1:Nm}{os1:List PO}{wr:List Nat}{lk:Nat→Bool}{v:AVal}{a:PA}(S:Sim E lk (uT n0 H N) (uA bs i mk os) wr N1 os1 v a):
  ∃t,zdZ n0 N.h.t H N1.h.t=some t∧InvO E ⟨N1.μ,N1.n,N1.fz,⟨N1.h.n,t⟩⟩ (wB bs i os mk os1)∧Aft N os wr ⟨N1.μ,N1.n,N1.fz,⟨N1.h.n,t⟩⟩ (wB bs i os mk os1)∧Nx N1 ⟨N1.μ,N1.n,N1.fz,⟨N1.h.n,t⟩⟩∧
   (∀j,lk j=true→og (wB bs i os mk os1) j=og os j)∧(∀j,j<len→N.h.t.get (nm n0 j)=none→t.get (nm n0 j)=none):=by
 have IH:=zhs M I D;have old:∀b,b.toNat<N.h.n.toNat→(uT n0 H N).h.t.get b=none→N1.h.t.get b=none:=fun b hb hn=>by
  rw[S.fr.eq b hb fun k hk hkn hl hkb=>?_]
  ·exact hn
  ·obtain⟨b',x,g1,_,g3⟩:=yA hl (IH.obj k);rw[g1]at hkb;cases hkb;rw[hn]at g3;cases g3
 have nlt:∀j,j<len→(nm n0 j).toNat<N.h.n.toNat:=fun j hj=>by rw[yq];have:=M.top;omega
 have hnone:∀j∈H,N1.h.t.get (nm n0 j)=none:=fun j hj=>old _ (nlt j (D.lt j hj)) ((wK _).1 (List.mem_map.2 ⟨j,hj,rfl⟩))
 obtain⟨t,ht⟩:=qP (h:=N.h.t) H N1.h.t D.nd hnone;obtain⟨b1,b2,_⟩:=jv H N1.h.t t ht;have b2:∀b,b∉H.map (nm n0)→t.get b=N1.h.t.get b:=fun b hb=>b2 b fun j hj e=>hb (List.mem_map.2 ⟨j,hj,e.symm⟩)
 have up:∀b y,N1.h.t.get b=some y→t.get b=some y:=fun b y hy=>by
  rw[b2 b ?_]
  ·exact hy
  ·intro hm;obtain⟨j,hj,rfl⟩:=List.mem_map.1 hm;rw[hnone j hj]at hy;cases hy
 have dn:∀b y,t.get b=some y→N1.h.t.get b=some y∨(b∈H.map (nm n0)∧N.h.t.get b=some y):=fun b y hy=>by
  by_cases hm:b∈H.map (nm n0)
  ·refine .inr ⟨hm,?_⟩;obtain⟨j,hj,rfl⟩:=List.mem_map.1 hm;rw[b1 j hj]at hy;exact hy
  ·rw[b2 b hm]at hy;exact .inl hy
 have nfz1:∀j∈H,¬N1.fz (nm n0 j):=fun j hj hf=>by
  rcases S.inv.fzex _ hf with h|⟨y,hy⟩
  ·rw[yq]at h;have:=M.e0;omega
  ·rw[hnone j hj]at hy;cases hy
 let N2:Nm:=⟨N1.μ,N1.n,N1.fz,⟨N1.h.n,t⟩⟩
 have nx1:Nx N1 N2:=⟨⟨fun _ _ h _=>h,fun b o _ hy=>up b o hy⟩,LzB _,fun _ _=>rfl⟩
 have nx0:Nx N N2:=((zf2 M I D).trans S.nx).trans nx1;have hr:∀p∈mk,p.2<os1.length:=fun p hp=>by
  have:=(M.mks p hp).2.2.1;have h2:N.n≤N1.n:=S.nx.le;rw[S.inv.len]at h2;omega
 have hidden:∀k,Hid bs i mk k→∃j∈H,k<N.n∧live (og os k)∧blk (N.μ k)=some (nm n0 j)∧N1.μ k=N.μ k:=fun k ⟨j,h1,h2⟩=>by
  obtain⟨_,_,g1,g2,g3⟩:=M.mks _ h1;exact⟨j,(D.hid j k h1).2 h2,g1,g2,g3,S.nx.mu k g1⟩
 have key:∀k,live (og (wB bs i os mk os1) k)→(Hid bs i mk k∧live (og os k))∨(¬Hid bs i mk k∧live (og os1 k)):=fun k hl=>by
  by_cases hh:Hid bs i mk k
  ·rw[(x5 k mk os1 hr).1 hh]at hl;exact .inl ⟨hh,hl⟩
  ·rw[(x5 k mk os1 hr).2 hh]at hl;exact .inr ⟨hh,hl⟩
 have cross:∀k k' b,Hid bs i mk k→live (og os1 k')→blk (N1.μ k)=some b→blk (N1.μ k')=some b→False:=fun k k' b hh hl hb hb'=>by
  obtain⟨j,hj,g1,g2,g3,g4⟩:=hidden k hh;rw[g4,g3]at hb;cases hb;obtain⟨b',x,q1,_,q3⟩:=yA hl (S.inv.obj k');rw[q1]at hb';cases hb';rw[hnone j hj]at q3;cases q3
 refine⟨t,ht,⟨fun b y hy=>?_,⟨Nat.le_trans I.gr.le S.fr.nle,fun b hb=>?_⟩,S.inv.fzlt,S.inv.fzok,fun b hb=>?_,S.inv.len.trans (jb mk os1).symm,fun k b hl hb=>?_,fun k k' b hl hl' hb hb'=>?_,fun k=>?_⟩,
  ⟨nx0,fun b y hy hw=>?_,fun k hk=>?_,S.fr.nle⟩,nx1,fun j hj=>?_,fun j hj=>?_⟩
 ·rcases dn b y hy with h|⟨_,h⟩
  ·exact S.inv.hw b y h
  ·exact Lz9 (I.hw b y h) S.fr.nle
 ·show t.get b=_;rw[b2 b ?_]
  ·exact S.inv.gr.old b hb
  ·intro hm;obtain⟨j,hj,rfl⟩:=List.mem_map.1 hm;rw[yq]at hb;have:=M.e0;omega
 ·exact(S.inv.fzex b hb).imp id fun⟨y,hy⟩=>⟨y,up b y hy⟩
 ·rcases key k hl with⟨hh,hl⟩|⟨_,hl⟩
  ·obtain⟨j,_,_,_,g3,g4⟩:=hidden k hh;rw[show N2.μ k=N1.μ k from rfl,g4,g3]at hb;cases hb
   rw[yq];have:=M.e0;omega
  ·exact S.inv.own k b hl hb
 ·rcases key k hl with⟨hh,h1⟩|⟨hh,h1⟩<;>rcases key k' hl' with⟨hh',h1'⟩|⟨hh',h1'⟩
  ·obtain⟨_,_,_,_,_,g4⟩:=hidden k hh;obtain⟨_,_,_,_,_,g4'⟩:=hidden k' hh';rw[show N2.μ k=N1.μ k from rfl,g4]at hb
   rw[show N2.μ k'=N1.μ k' from rfl,g4']at hb'
   exact I.inj k k' b h1 h1' hb hb'
  ·exact(cross k k' b hh h1' hb hb').elim
  ·exact(cross k' k b hh' h1 hb' hb).elim
  ·exact S.inv.inj k k' b h1 h1' hb hb'
 ·by_cases hh:Hid bs i mk k
  ·rw[(x5 k mk os1 hr).1 hh];obtain⟨j,hj,g1,g2,g3,g4⟩:=hidden k hh;refine (I.obj k).mono nx0 g4 fun _ b hb=>?_
   rw[g3]at hb;cases hb;exact⟨nfz1 j hj,b1 j hj⟩
  ·rw[(x5 k mk os1 hr).2 hh];refine (S.inv.obj k).mono nx1 rfl fun hl b hb=>?_
   obtain⟨b',x,q1,q2,q3⟩:=yA hl (S.inv.obj k);rw[q1]at hb;cases hb;exact⟨q2,(up _ _ q3).trans q3.symm⟩
 ·by_cases hm:b∈H.map (nm n0)
  ·obtain⟨j,hj,rfl⟩:=List.mem_map.1 hm;exact(b1 j hj).trans hy
  ·refine up b y ?_;have hy2:(uT n0 H N).h.t.get b=some y:=((wK b).2 hm).trans hy;rw[S.fr.eq b (I.hw b y hy) fun k hk hkn hl hkb=>?_]
   ·exact hy2
   ·by_cases hh:Hid bs i mk k
    ·rw[(xn k mk os).1 hh]at hl;exact hl
    ·rw[(xn k mk os).2 hh]at hl;exact hw k hk hkn hl hkb
 ·by_cases hh:Hid bs i mk k
  ·rw[(x5 k mk os1 hr).1 hh];exact⟨id,.inl,id⟩
  ·rw[(x5 k mk os1 hr).2 hh];have:=S.ho k hk;rw[(xn k mk os).2 hh]at this;exact this
 ·by_cases hh:Hid bs i mk j
  ·rw[(x5 j mk os1 hr).1 hh]
  ·rw[(x5 j mk os1 hr).2 hh,S.lock j hj,(xn j mk os).2 hh]
 ·by_cases hm:j∈H
  ·rw[b1 j hm];exact id
  ·have hm2:nm n0 j∉H.map (nm n0):=fun h=>by
    obtain⟨j',h1,h2⟩:=List.mem_map.1 h;exact hm (vr h2▸h1)
   rw[b2 _ hm2];exact fun h=>old _ (nlt j hj) (((wK _).2 hm2).trans h)
end
end Go.PE
end
section
namespace Go.PE
open Go Go.CE
section
variable {P:Program} {O:Orc} {C:Nat→zh} {E:En}
theorem InvO.newAt{N:Nm}{os:List PO}(I:InvO E N os){b:BN}(hlt:b.toNat<N.h.n.toNat)(hn:N.h.t.get b=none)(h0:E.h0.n.toNat≤b.toNat)(hnf:¬N.fz b)(y:AObj)(o:PO)(c:CVal)(hc:blk c=some b)
  (ho:∀N',Nx N N'→N'.μ os.length=c→¬N'.fz b→N'.h.t.get b=some y→os.length<N'.n→RepO N' os.length o):
  InvO E ⟨upd N.μ os.length c,os.length+1,N.fz,⟨N.h.n,N.h.t.set b y⟩⟩ (os++[o])∧Aft N os [] ⟨upd N.μ os.length c,os.length+1,N.fz,⟨N.h.n,N.h.t.set b y⟩⟩ (os++[o]):=by
 have old:∀b' z,N.h.t.get b'=some z→(N.h.t.set b y).get b'=some z:=fun b' z hz=>by
  rw[zo _ _ _ _ (fun e=>by rw[e,hn]at hz;cases hz)];exact hz
 have mu:∀k,k≠os.length→upd N.μ os.length c k=N.μ k:=fun k hk=>by show (if k=os.length then c else N.μ k)=_;rw[if_neg hk]
 have muL:upd N.μ os.length c os.length=c:=by show (if os.length=os.length then c else _)=_;rw[if_pos rfl]
 have hlen:=I.len;have nx:Nx N ⟨upd N.μ os.length c,os.length+1,N.fz,⟨N.h.n,N.h.t.set b y⟩⟩:=⟨⟨fun _ _ h _=>h,fun b' z _ hz=>old b' z hz⟩,by show N.n≤os.length+1;omega,fun k hk=>mu k (by omega)⟩
 have nb:∀k,live (og os k)→blk (N.μ k)≠some b:=fun k hl hb=>by
  obtain⟨b',x',h1,_,h3⟩:=yA hl (I.obj k);rw[h1]at hb;cases hb;rw[hn]at h3;cases h3
 refine⟨⟨fun b' z hz=>?_,⟨I.gr.le,fun b' hb'=>?_⟩,I.fzlt,I.fzok,fun b' hb'=>(I.fzex b' hb').imp id fun⟨z,hz⟩=>⟨z,old b' z hz⟩,by simp,fun k b' hl hb=>?_,fun k k' b' hl hl' hb hb'=>?_,fun k=>?_⟩,
  ⟨nx,fun b' z hz _=>old b' z hz,.app (Nat.le_of_eq hlen),LzB _⟩⟩
 ·show b'.toNat<N.h.n.toNat;by_cases hb:b'=b
  ·rw[hb];exact hlt
  ·exact I.hw b' z (by rwa [show (AHeap.mk N.h.n (N.h.t.set b y)).t=N.h.t.set b y from rfl,zo _ _ _ _ hb]at hz)
 ·show (N.h.t.set b y).get b'=_;rw[zo _ _ _ _ (fun e=>by rw[e]at hb';omega)]
  exact I.gr.old b' hb'
 ·by_cases hk:k=os.length
  ·subst hk;rw[show (Nm.mk (upd N.μ os.length c) (os.length+1) N.fz ⟨N.h.n,N.h.t.set b y⟩).μ os.length=c from muL,hc]at hb
   cases hb;exact h0
  ·rw[wC,if_neg hk]at hl;rw[show (Nm.mk (upd N.μ os.length c) (os.length+1) N.fz ⟨N.h.n,N.h.t.set b y⟩).μ k=N.μ k from mu k hk]at hb
   exact I.own k b' hl hb
 ·rw[wC]at hl hl';simp only at hb hb';by_cases hk:k=os.length<;>by_cases hk':k'=os.length
  ·rw[hk,hk']
  ·subst hk;rw[muL,hc]at hb;rw[if_neg hk']at hl';rw[mu k' hk']at hb';cases hb;exact(nb k' hl' hb').elim
  ·subst hk';rw[muL,hc]at hb';rw[if_neg hk]at hl;rw[mu k hk]at hb;cases hb';exact(nb k hl hb).elim
  ·rw[if_neg hk]at hl;rw[if_neg hk']at hl';rw[mu k hk]at hb;rw[mu k' hk']at hb';exact I.inj k k' b' hl hl' hb hb'
 ·rw[wC];by_cases hk:k=os.length
  ·rw[if_pos hk,hk];exact ho _ nx muL hnf (zw _ _ _) (by show os.length<os.length+1;omega)
  ·rw[if_neg hk];refine (I.obj k).mono nx (mu k hk) fun hl b' hb=>?_
   obtain⟨b2,x',h1,h2,h3⟩:=yA hl (I.obj k);rw[h1]at hb;cases hb;exact⟨h2,(old _ _ h3).trans h3.symm⟩
def mkK:KOp→Bool
 | .alloc _=>true
 | .box _=>true
 | .bslice ..=>true
 |_=>false
def soft:KOp→Bool
 | .bslice ..=>false
 |_=>true
def isD:PC→Bool
 | .d _=>true
 |_=>false
def wc:PA→Bool
 | .s v=>v.cells.all isD
 |_=>true
theorem zit{N A:Nm}(g:FG N.fz N.h A.fz A.h){v:AVal}{a:PA}(hp:wc a=true)(H:RepPA N v a):RepPA A v a:=by
 have one:∀(c:CVal) (p:PC),isD p=true→RepPC N c p→RepPC A c p:=fun c p hp H=>by
  cases p with
  |d d=>exact Rep.mono g H
  |_=>cases hp
 have many:∀(cs:List CVal) (ps:List PC),ps.all isD=true→RepPL N cs ps→RepPL A cs ps:=by
  intro cs
  induction cs with
  |nil=>intro ps _ H;cases ps with
   |nil=>trivial
   |cons _ _=>exact H.elim
  |cons c cs ih=>intro ps hp H;cases ps with
   |nil=>exact H.elim
   |cons p ps=>
    simp only[List.all_cons,LzC]at hp;exact⟨one c p hp.1 H.1,ih ps hp.2 H.2⟩
 cases a with
 |s pv=>
  obtain⟨w,rfl,hw⟩:=H.inv;refine .of ?_;cases w<;>cases pv<;>first|exact hw.elim|skip
  ·simp only[wc,PV.cells,List.all_cons,List.all_nil,Bool.and_true]at hp;exact one _ _ hp hw
  ·exact many _ _ hp hw
 |tup ds=>
  cases v with
  |s _=>exact H.elim
  |tup l=>exact RepSL.mono g H
 |bad=>exact .bad v
 |undef=>cases v<;>exact H
def zsf{β:Type}(E:En)(lk:Nat→Bool)(N:Nm)(os:List PO)(run:zh→AHeap→Res)(K:PA→List PO→Option β)(x:β)(nb:Bool):Prop:=
 ∃a os1 o N1,K a (os1++[o])=some x∧Fz N N1∧Stp E lk N os [] N1 os1∧os1.length=os.length∧(nb=true→N1=N)∧live o∧∃(vf:BN→CVal) (y:AObj),(∀b,blk (vf b)=some b)∧(∀call b T,run call ⟨b,T⟩=some (.s (.one (vf b)),(⟨b,T⟩:AHeap).new y))∧
  ∀b N',Nx N1 N'→N'.μ os1.length=vf b→¬N'.fz b→N'.h.t.get b=some y→os1.length<N'.n→RepO N' os1.length o∧RepPA N' (.s (.one (vf b))) a
theorem zri{β:Type}{lk:Nat→Bool}{N:Nm}{os:List PO}{r:Fr}{ρ:Nat→PA}{k:KT β}{x:β}{sh:Sh}{ko:KOp}(hk:mkK ko=true)(I:InvO E N os)(F:∀i,RepPA N (r i) (ρ i))(e:pOp O lk sh ρ os ko k=some x):
  zsf E lk N os (fun call h=>runK r ko call h) (fun a os'=>k a os' [] []) x (soft ko):=by
 have boxy:∀(vs:List CVal) (ps:List PC),RepPL N vs ps→(∀call h,runK r ko call h=newB h (.cells vs 0) (fun b=>.ptr b 0))→k (pc (.ptr os.length 0)) (os++[.box ps]) [] []=some x→zsf E lk N os (fun call h=>runK r ko call h) (fun a os'=>k a os' [] []) x (soft ko):=by
  intro vs ps H run e;exact⟨_,os,.box ps,N,e,.refl N,.refl I,rfl,fun _=>rfl,trivial,fun b=>.ptr b 0,.cells vs 0,fun b=>rfl,fun call b T=>(run call _).trans (vI _ _ _),fun b N' nx hmu hf hg hlt=>
   ⟨⟨_,vs,hmu,hf,hg,H.mono nx⟩,y7 (p:=.ptr os.length 0) (c:=.ptr b 0) ⟨hlt,_,hmu,rfl⟩⟩⟩
 cases ko with
 |alloc zs=>
  have e:za (cDs zs) (fun cs=>k (pc (.ptr os.length 0)) (os++[.box cs]) [] [])=some x:=e
  obtain⟨ps,h1,e⟩:=zj e;exact boxy _ _ (qg h1) (fun call h=>rfl) e
 |box a=>
  have e:(match pv ρ a with
   |some (.s v)=>k (pc (.ptr os.length 0)) (os++[.box v.cells]) [] []
   |_=>none)=some x:=e
  split at e
  ·rename_i p hp;obtain⟨v,ka,ra⟩:=wq F hp;obtain⟨w,rfl,hw⟩:=ra.inv;exact boxy _ _ hw.cells (fun call h=>by simp only[runK,ka,zC];rfl) e
  ·cases e
 |bslice st len zs parts=>
  have e:za (cDs zs) (fun cs=>za (zeT ρ parts cs) fun cs=>za (frL lk xg os cs) fun p=>
   bif Nat.beq p.2.length (len*st) then k (pc (.own p.1.length)) (p.1++[.arr st (some (chunks st len p.2))]) [] [] else none)=some x:=e
  obtain⟨ps,h1,e⟩:=zj e;obtain⟨ps',h2,e⟩:=zj e;obtain⟨⟨os1,ds⟩,h3,e⟩:=zj e;obtain⟨l,cs',k1,k2,k3⟩:=zaF F h2 (qg h1);obtain⟨N1,f1,S1,r1⟩:=zhv I k3 h3;simp only at e;cases hb:Nat.beq ds.length (len*st) with
  |false=>rw[hb]at e;cases e
  |true=>
   rw[hb]at e;have hd:=Lz1 hb;have hl1:os1.length=os.length:=by rw[←S1.inv.len,f1.n,I.len]
   have hlc:(chunks st len ds).length=len:=qH st len ds;refine⟨_,os1,.arr st (some (chunks st len ds)),N1,e,f1,S1,hl1,fun h=>(by cases h),trivial,fun b=>.slc b 0 len len true,.cells cs' st,fun b=>rfl,fun call b T=>?_,fun b N' nx hmu hf hg hlt=>⟨⟨b,cs',true,?_,hf,hg,by rw[r1.1,hd,hlc],fun i y hy=>?_⟩,y7 (p:=.own os1.length) ⟨hlt,hmu.symm⟩⟩⟩
   ·show runK r (.bslice st len zs parts) call ⟨b,T⟩=_;simp only[runK,k1];show (match kZ .nil (cP l) zs with|some cs=>newB ⟨b,T⟩ (.cells cs st) (fun b=>.slc b 0 len len true)|none=>none)=_
    rw[k2];exact vI _ _ _
   ·rw[hlc];exact hmu
   ·obtain⟨q1,q2⟩:=qI st len ds i y hy;subst q1;refine⟨?_,(r1.sub (i*st) st).mono nx.fg⟩;have:=Nat.mul_le_mul_right st (show i+1≤len from q2)
    rw[Nat.succ_mul]at this;simp;omega
 |_=>cases hk
end
def zkG(mk:List (Nat×Nat)):List Nat→Bool
 | [k]=>mk.any fun p=>Nat.beq p.2 k
 |_=>false
section
variable (P:Program) (O:Orc)
def pDr2{β:Type}(lk:Nat→Bool)(nt:Nat)(ops:Array Oper)(bs:List Nat)(es:List Bool):Nat→List Oper→(Nat→PA)→List PO→(Nat→Nat)→List (List Nat)→List (Nat×Nat×List Nat)→List (Nat×Nat)→Bool→((Nat→PA)→List PO→Option β)→Option β
 |_,[],ρ,os,_,ws,ps,_,_,K=>bif ps.all (fun p=>okW ws p.1 p.2.1 p.2.2) then K ρ os else none
 |i,o::l,ρ,os,bo,ws,ps,mk,fr,K=>
  bif mkOp o.op then
   match comp P o.op,o.guard with
   |some ko,none=>
    bif mkK ko&&inT nt o.dst then
     pOp O lk (shOf P o.dst o.type) (zO ρ (o.looksAt ops)) os ko fun a os' _ _=>
      bif j8 mk os' then pDr2 lk nt ops bs es (Nat.succ i) l (pset ρ a o.dst) os' (bset bo (Nat.succ ws.length) o.dst) ws ps (mk++[(i,os.length)]) (fr&&soft ko) K else none
    else none
   |_,_=>none
  else bif anchor P o.op then
   jx P O lk nt ops o (zO ρ (o.looksAt ops)) (uA bs i mk os) fun ref a os1 wr _=>
    bif j8 mk (wB bs i os mk os1) then pDr2 lk nt ops bs es (Nat.succ i) l (pset (refine ρ ref) a o.dst) (wB bs i os mk os1) (bset bo (Nat.succ ws.length) o.dst) (ws++[wr]) ps mk true K else none
  else
   match comp P o.op with
   |none=>none
   |some ko=>
    bif jC ko then
     jx P O (fun _=>true) nt ops o (zO ρ (o.looksAt ops)) (uA bs i mk os) fun ref a _ _ _=>
      pDr2 lk nt ops bs es (Nat.succ i) l (pset (refine ρ ref) a o.dst) os (bset bo (match trk (refine (zO ρ (o.looksAt ops)) ref) ko with|some x=>bOf bo x|none=>bif fr&&wc a then ws.length else Nat.succ ws.length) o.dst) ws ps mk fr K
    else
     match memX ko with
     |none=>none
     |some x=>
      bif Nat.beq (ce (fun j=>bef bs j i) 0 es) (ce (fun j=>!bef bs i j) 0 es) then
       jx P O (fun _=>true) nt ops o (zO ρ (o.looksAt ops)) (uA bs i mk os) fun ref a _ _ _=>
        pDr2 lk nt ops bs es (Nat.succ i) l (pset (refine ρ ref) a o.dst) os (bset bo (bif fr&&wc a then ws.length else Nat.succ ws.length) o.dst) ws ps mk fr K
      else
       bif Nat.ble (bOf bo x) (ce (fun j=>bef bs j i) 0 es)&&Nat.ble (ce (fun j=>bef bs j i) 0 es) ws.length&&Nat.ble ws.length (ce (fun j=>!bef bs i j) 0 es) then
        jx P O (fun _=>true) nt ops o (zO ρ (o.looksAt ops)) (uA bs i mk os) fun ref a _ _ rd=>
         pDr2 lk nt ops bs es (Nat.succ i) l (pset (refine ρ ref) a o.dst) os (bset bo (bif fr&&wc a then ws.length else Nat.succ ws.length) o.dst) ws (ps++[(ce (fun j=>bef bs j i) 0 es,ce (fun j=>!bef bs i j) 0 es,rd)]) mk fr K
       else bif Nat.ble ws.length (ce (fun j=>!bef bs i j) 0 es) then
        jx P O (fun _=>true) nt ops o (zO ρ (o.looksAt ops)) (uA bs i mk os) fun ref a _ _ rd=>
         bif zkG mk rd&&okW ws 0 ws.length rd then pDr2 lk nt ops bs es (Nat.succ i) l (pset (refine ρ ref) a o.dst) os (bset bo (bif fr&&wc a then ws.length else Nat.succ ws.length) o.dst) ws (ps++[(0,ce (fun j=>!bef bs i j) 0 es,rd)]) mk fr K else none
       else none
end
def PendOk2(S:List Sn)(n0:Nat)(mk:List (Nat×Nat))(mks:List (Nat×Nat×AObj))(ps:List (Nat×Nat×List Nat))(q:CkG):Prop:=
 (∀ h, ∃ h', q.1 h = some (q.2.1, h')) ∨ Nat.beq q.2.2.1 q.2.2.2.1 = true ∨
  (∃ rd, (q.2.2.1, q.2.2.2.1, rd) ∈ ps ∧ ∃ (ne : Nat) (b : BN) (A Al : Sn), q.2.2.1 ≤ ne ∧ ne ≤ q.2.2.2.1 ∧ S[ne]? = some A ∧ S[q.2.2.1]? = some Al ∧ (∀ j ∈ q.2.2.2.2, b ≠ nm n0 j) ∧ (∀ h2, h2.t.get b = A.1.h.t.get b → ∃ h', q.1 h2 = some (q.2.1, h')) ∧
   ((∃j,rd=[j]∧j<Al.1.n∧blk (A.1.μ j)=some b∧held (og A.2 j))∨(Al.1.fz b∧∃y,Al.1.h.t.get b=some y)))∨
  (∃k z,(0,q.2.2.2.1,[k])∈ps∧z∈mks∧(z.2.1,k)∈mk∧(∀j∈q.2.2.2.2,nm n0 z.2.1≠nm n0 j)∧∀h2,h2.t.get (nm n0 z.2.1)=some z.2.2→∃h',q.1 h2=some (q.2.1,h'))
def NW(ws:List (List Nat))(e k:Nat):Prop:=∀i w,i<e→ws[i]? = some w→k∉w
theorem NW.of{ws:List (List Nat)}{e k:Nat}(h:okW ws 0 e [k]=true):NW ws e k:=fun _ _ h1 h2=>zfJ h (Nat.zero_le _) h1 h2
structure MV (n0 i:Nat) (ws:List (List Nat)) (S:List Sn) (N:Nm) (mk:List (Nat×Nat)) (mks:List (Nat×Nat×AObj)):Prop where
 val:∀z∈mks,∀k,(z.2.1,k)∈mk→(∀e A,z.1<e→S[e]? = some A→NW ws e k→A.1.h.t.get (nm n0 z.2.1)=some z.2.2)∧(NW ws ws.length k→N.h.t.get (nm n0 z.2.1)=some z.2.2)
 lt:∀z∈mks,z.2.1<i
 uniq:∀z∈mks,∀z'∈mks,z.2.1=z'.2.1→z=z'
 ex:∀p∈mk,∃z∈mks,z.2.1=p.1
theorem ki{run:AHeap→Res}{v:AVal}{n0:Nat}{hide:List Nat}{mks:List (Nat×Nat×AObj)}:∀{l:List AHeap} {k0:Nat},(∀m h,l[m]? = some h→∃h',run ⟨h.n,delH n0 hide (jV n0 (k0+m) mks h.t)⟩=some (v,h'))→zb9 run v n0 hide mks k0 l=true
 | [],_,_=>rfl
 |h::l,k0,H=>by
  obtain⟨h',e⟩:=H 0 h rfl;rw[Nat.add_zero]at e;simp only[zb9,e,zhF,Bool.true_and];exact ki fun m x hx=>by
   obtain⟨h2,e2⟩:=H (m+1) x (by simpa using hx)
   exact⟨h2,by rw[show Nat.succ k0+m=k0+(m+1) by omega];exact e2⟩
theorem uq{n0 k:Nat}{b:BN}:∀(mks:List (Nat×Nat×AObj)) (t:Tr AObj),(∀x∈mks,k≤x.1→b≠nm n0 x.2.1)→(jV n0 k mks t).get b=t.get b
 | [],_,_=>rfl
 |(c,j,o)::l,t,H=>by
  simp only[jV];rw[uq l _ fun x hx=>H x (List.mem_cons_of_mem _ hx)]
  cases hb:Nat.ble k c with
  |false=>rfl
  |true=>exact zo _ _ _ _ (H (c,j,o) (List.mem_cons_self ..) (Lz4 hb))
theorem zeP{n0 k:Nat}{z:Nat×Nat×AObj}(hk:k≤z.1):∀(mks:List (Nat×Nat×AObj)) (t:Tr AObj),z∈mks→(∀z'∈mks,z.2.1=z'.2.1→z=z')→(jV n0 k mks t).get (nm n0 z.2.1)=some z.2.2
 | [],_,h,_=>by cases h
 |(c,j,o)::l,t,h,hu=>by
  simp only[jV];by_cases hz:z∈l
  ·exact zeP hk l _ hz fun z' h'=>hu z' (List.mem_cons_of_mem _ h')
  ·rw[uq l _ fun x hx _ e=>hz (by have:=hu x (List.mem_cons_of_mem _ hx) (vr e);rw[this];exact hx)]
   rcases List.mem_cons.1 h with rfl|h
   ·rw[Nat.ble_eq_true_of_le hk];exact zw _ _ _
   ·exact absurd h hz
section
variable {E:En} {S:List Sn} {ws:List (List Nat)} (hl:S.length=ws.length+1) (ch:znM E S ws)
include hl ch
theorem zlu{n0 i:Nat}{N:Nm}{mk:List (Nat×Nat)}{mks:List (Nat×Nat×AObj)}(hi:∀A∈S,InvO E A.1 A.2)(hm:∀x∈mks,∀e A,e≤x.1→S[e]? = some A→A.1.h.t.get (nm n0 x.2.1)=none)(mv:MV n0 i ws S N mk mks){ps:List (Nat×Nat×List Nat)}(hps:(ps.all fun p=>okW ws p.1 p.2.1 p.2.2)=true):
  ∀{cs:List CkG},(∀q∈cs,PendOk2 S n0 mk mks ps q)→zgq n0 mks (S.map fun x=>x.1.h) cs=true
 | [],_=>rfl
 |(run,v,lo,hi',hide)::cs,Hc=>by
  have ih:=zlu hi hm mv hps (cs:=cs) fun q hq=>Hc q (List.mem_cons_of_mem _ hq)
  simp only[zgq,ih,Bool.and_true];have mem:∀(m:Nat) h,(((S.map fun x=>x.1.h).drop lo).take (Nat.sub (Nat.succ hi') lo))[m]? = some h→∃B,lo+m≤hi'∧S[lo+m]? = some B∧h=B.1.h:=fun m h hi2=>by
   rw[List.getElem?_take]at hi2;split at hi2
   ·rename_i hlt;rw[List.getElem?_drop,Lz6,Option.map_eq_some_iff]at hi2;obtain⟨B,hB,rfl⟩:=hi2;have:m<hi'+1-lo:=hlt;exact⟨B,by omega,hB,rfl⟩
   ·cases hi2
  rcases Hc _ (List.mem_cons_self ..) with h|h|⟨rd,hp,ne,b,A,Al,h1,h2,h3,h4,h5,h6,h7⟩|⟨k,z,hp,hz,hzk,h5,h6⟩
  ·rw[ki fun m x _=>h _,Bool.or_true]
  ·rw[show Nat.beq lo hi'=true from h,Bool.true_or]
  ·rw[List.all_eq_true]at hps;have hwin:=hps _ hp;simp only at hwin h1 h2 h4 h5 h6;rw[ki fun m x hx=>?_,Bool.or_true]
   obtain⟨B,hd1,hd2,rfl⟩:=mem m x hx;have hne:S[lo+(ne-lo)]? = some A:=by rw[show lo+(ne-lo)=ne by omega];exact h3
   have fact:B.1.h.t.get b=A.1.h.t.get b∧∃y,B.1.h.t.get b=some y:=by
    rcases h7 with⟨j,rfl,q1,q2,q3⟩|⟨q1,y,q2⟩
    ·have e1:=kE hl ch h4 h3 h1 h2 q1 hwin q2 q3 (ne-lo) A (by omega) hne
     have e2:=kE hl ch h4 h3 h1 h2 q1 hwin q2 q3 m B hd1 hd2;obtain⟨y,hy⟩:=zbr q3 ((hi A (Lz3 h3)).obj j) q2;exact⟨by rw[e1,e2],y,by rw[e2,←e1];exact hy⟩
    ·have e1:=(xM hl ch h4 (ne-lo) A hne).fg.old b y q1 q2;have e2:=(xM hl ch h4 m B hd2).fg.old b y q1 q2;exact⟨by rw[e1,e2],y,e2⟩
   obtain⟨f1,y,f2⟩:=fact;refine h6 _ ?_;show (delH n0 hide (jV n0 (lo+m) mks B.1.h.t)).get b=_;rw[vz hide _ b h5,uq mks _ fun x hx hle e=>?_]
   ·exact f1
   ·rw[e,hm x hx (lo+m) B hle hd2]at f2;cases f2
  ·rw[List.all_eq_true]at hps;have hwin:=hps _ hp;simp only at hwin h5 h6;rw[ki fun m x hx=>?_,Bool.or_true]
   obtain⟨B,hd1,hd2,rfl⟩:=mem m x hx;refine h6 _ ?_;show (delH n0 hide (jV n0 (lo+m) mks B.1.h.t)).get _=_;rw[vz hide _ _ h5];by_cases hle:lo+m≤z.1
   ·exact zeP hle mks _ hz (mv.uniq z hz)
   ·rw[uq mks _ fun x hx hle2 e=>hle (by have:=mv.uniq z hz x hx (vr e);rw[this];exact hle2)]
    exact(mv.val z hz k hzk).1 (lo+m) B (by omega) hd2 fun i w h1 h2=>NW.of hwin i w (by omega) h2
end
theorem Aft.refl(N:Nm)(os:List PO):Aft N os [] N os:=⟨.refl N,fun _ _ h _=>h,.refl _ _ _,LzB _⟩
theorem Stp.aft{E:En}{lk:Nat→Bool}{N N':Nm}{os os':List PO}{wr:List Nat}(S:Stp E lk N os wr N' os')(hw:HW N.h):Aft N os wr N' os':=⟨S.nx,S.fr.ex hw,S.ho,S.fr.nle⟩
theorem Aft.trans{A N N':Nm}{oA os os':List PO}{wr:List Nat}(a:Aft A oA [] N os)(hn:∀k b,A.n≤k→k<N.n→blk (N.μ k)=some b→A.h.t.get b=none)(b:Aft N os wr N' os'):Aft A oA wr N' os':=by
 refine⟨a.nx.trans b.nx,fun b0 y hy hw=>?_,fun k hk=>?_,Nat.le_trans a.nle b.nle⟩
 ·refine b.bk b0 y (a.bk b0 y hy fun j hj=>(by cases hj)) fun j hj hjn hl hjb=>?_
  by_cases hA:j<A.n
  ·exact hw j hj hA ((a.ho j hA).2.2 hl) (by rw[←a.nx.mu j hA];exact hjb)
  ·rw[hn j b0 (by omega) hjn hjb]at hy;cases hy
 ·have g1:=a.ho k hk;have g2:=b.ho k (Lz9 hk a.nx.le);exact⟨fun x=>g1.1 (g2.1 x),fun x=>(g1.2.1 x).elim (fun y=>g2.2.1 y) (fun y=>by cases y),fun x=>g1.2.2 (g2.2.2 x)⟩
end Go.PE
end
section
namespace Go.PE
open Go Go.CE
section
variable {P:Program} {O:Orc} {C:Nat→zh} {E:En}
theorem MkOk.up{n0 len i:Nat}{mk:List (Nat×Nat)}{N:Nm}{os:List PO}(M:MkOk E n0 len i mk N os):MkOk E n0 len (Nat.succ i) mk N os:=
 ⟨M.e0,M.top,fun p hp=>⟨Nat.lt_succ_of_lt (M.mks p hp).1,(M.mks p hp).2⟩,fun j hj h=>M.free j hj (by omega),M.all⟩
theorem ztf{ops:Array Oper}{bs:List Nat}{i:Nat}{mk:List (Nat×Nat)}{n0:Nat}{N:Nm}{os:List PO}(_M:MkOk E n0 ops.toList.length i mk N os)(hm:∀p∈mk,∃o,ops.toList[p.1]? = some o∧mkOp o.op=true):
  HdOk bs i ops.toList.length mk (yz bs i 0 ops.toList):=by
 refine⟨zbq _ _,fun j hj=>?_,fun j k hjk=>?_⟩
 ·obtain⟨m,o,h1,h2,_⟩:=(ve _ _ _).1 hj;have:=(Lz0.1 h1).1;omega
 ·obtain⟨o,h1,h2⟩:=hm _ hjk;rw[ve]
  constructor
  ·rintro⟨m,o',g1,g2,g3⟩
   have:m=j:=by omega
   subst this;rw[h1]at g1;cases g1;rw[Nat.zero_add,h2,Bool.true_and]at g3;exact g3
  ·intro hb;exact⟨j,o,h1,by omega,by rw[Nat.zero_add,hb,Bool.and_false]⟩
theorem PendOk2.up{S X:List Sn}{n0:Nat}{mk mk':List (Nat×Nat)}{mks mks':List (Nat×Nat×AObj)}{ps ps':List (Nat×Nat×List Nat)}(hps:∀p∈ps,p∈ps')(hmk:∀p∈mk,p∈mk')(hmks:∀p∈mks,p∈mks'){q:CkG}(h:PendOk2 S n0 mk mks ps q):PendOk2 (S++X) n0 mk' mks' ps' q:=by
 rcases h with g|g|⟨rd',g1,ne,b,A,Al,a1,a2,a3,a4,a5⟩|⟨k,z,g1,g2,g3,g4⟩
 ·exact .inl g
 ·exact .inr (.inl g)
 ·refine .inr (.inr (.inl ⟨rd',hps _ g1,ne,b,A,Al,a1,a2,?_,?_,a5⟩))
  ·rw[Lz2 (Lz0.1 a3).1];exact a3
  ·rw[Lz2 (Lz0.1 a4).1];exact a4
 ·exact .inr (.inr (.inr ⟨k,z,hps _ g1,hmks _ g2,hmk _ g3,g4⟩))
theorem zdi(hO:jB O C){β γ:Type}{Q:γ→Prop}{lk:Nat→Bool}{nt:Nat}{ops:Array Oper}{bs:List Nat}{es:List Bool}{n0:Nat}{x:β}{K:(Nat→PA)→List PO→Option β}{kk:Nat→Fr→AHeap→Option γ}:
    ∀(l:List Oper) (i:Nat) (ρ:Nat→PA) (os:List PO) (N:Nm) (r:Fr) (bo:Nat→Nat) (ws:List (List Nat)) (ps:List (Nat×Nat×List Nat)) (mk:List (Nat×Nat)) (fr:Bool) (S:List Sn) (cs:Nat→List CkG) (mks:List (Nat×Nat×AObj)),
    pDr2 P O lk nt ops bs es i l ρ os bo ws ps mk fr K=some x→InvO E N os→(∀i,RepPA N (r i) (ρ i))→(∀j,lk j=true→j<os.length)→
    (∃pre,ops.toList=pre++l∧pre.length=i)→MkOk E n0 ops.toList.length i mk N os→(∀p∈mk,∃o,ops.toList[p.1]? = some o∧mkOp o.op=true)→
    S.length=ws.length+1→znM E S ws→(∀A∈S,InvO E A.1 A.2)→(∀A∈S,∀j,j<ops.toList.length→i≤j→A.1.h.t.get (nm n0 j)=none)→
    (∃A,S[ws.length]? = some A∧Aft A.1 A.2 [] N os∧(∀k b,A.1.n≤k→k<N.n→blk (N.μ k)=some b→A.1.h.t.get b=none)∧(fr=true→FG N.fz N.h A.1.fz A.1.h))→
    (∀s,bo s≤ws.length+1∧∀A:Sn,S[bo s]? = some A→RepPA A.1 (r s) (ρ s))→
    (∀y∈mks,y.1≤ws.length∧∀e A,e≤y.1→S[e]? = some A→A.1.h.t.get (nm n0 y.2.1)=none)→MV n0 i ws S N mk mks→(∀n,∀q∈cs n,PendOk2 S n0 mk mks ps q)→
    (∀ρ' os' N' r',K ρ' os'=some x→InvO E N' os'→(∀i,RepPA N' (r' i) (ρ' i))→Nx N N'→(∀j,lk j=true→og os' j=og os j)→(∀i,i∉l.filterMap (·.dst)→r' i=r i)→Ev (fun n=>kk n r' N'.h) Q)→
    Ev (fun n=>kDr2 P nt ops (C n) bs es n0 i l r N.h ws.length (S.map fun x=>x.1.h) (cs n) mks (kk n)) Q
  | [],i,ρ,os,N,r,bo,ws,ps,mk,fr,S,cs,mks,e,I,F,hlk,sfx,M,hmo,hl,ch,hi,hf,la,sl,hms,mv,pe,H=>by
    simp only[pDr2]at e;cases hps:(ps.all fun p=>okW ws p.1 p.2.1 p.2.2) with
    |false=>rw[hps]at e;cases e
    |true=>
      rw[hps]at e;have run:∀n,kDr2 P nt ops (C n) bs es n0 i [] r N.h ws.length (S.map fun x=>x.1.h) (cs n) mks (kk n)=kk n r N.h:=fun n=>by
        simp only[kDr2];rw[zlu hl ch hi (fun y hy=>(hms y hy).2) mv hps (pe n),cond_true]
      simp only[run];exact H ρ os N r e I F (.refl N) (fun _ _=>rfl) (fun _ _=>rfl)
  |o::l,i,ρ,os,N,r,bo,ws,ps,mk,fr,S,cs,mks,e,I,F,hlk,sfx,M,hmo,hl,ch,hi,hf,la,sl,hms,mv,pe,H=>by
    have agree:∀(r2:Fr) (v:AVal),(∀i,i∉l.filterMap (·.dst)→r2 i=fset r v o.dst i)→∀i,i∉(o::l).filterMap (·.dst)→r2 i=r i:=fun r2 v hr i hi=>by
      simp only[List.filterMap_cons]at hi;rw[hr i (fun hm=>hi (by cases o.dst<;>simp[hm]))]
      exact xT (fun hd=>hi (by rw[hd];simp))
    have FR:=zjL F (o.looksAt ops);obtain⟨pre,hpre,hprel⟩:=sfx;have sfx':∃pre,ops.toList=pre++l∧pre.length=Nat.succ i:=⟨pre++[o],by rw[hpre];simp,by simp[hprel]⟩
    have hop:ops.toList[i]? = some o:=by rw[hpre,←hprel,Lz8 (LzB _),Nat.sub_self];rfl
    have hilt:i<ops.toList.length:=(Lz0.1 hop).1;obtain⟨A,eA,aA,nA,gA⟩:=la;have hf':∀A∈S,∀j,j<ops.toList.length→Nat.succ i≤j→A.1.h.t.get (nm n0 j)=none:=fun A hA j hj h=>hf A hA j hj (by omega)
    simp only[pDr2]at e;simp only[kDr2];cases hm:mkOp o.op with
    |true=>
      rw[hm]at e;simp only[cond_true]at e ⊢;cases hc:comp P o.op with
      |none=>rw[hc]at e;cases e
      |some ko=>
        cases hg:o.guard with
        |some g=>rw[hc,hg]at e;cases e
        |none=>
          rw[hc,hg]at e;simp only at e;cases hk:mkK ko with
          |false=>rw[hk]at e;cases e
          |true=>
            rw[hk]at e;cases hT:inT nt o.dst with
            |false=>rw[hT]at e;cases e
            |true=>
              rw[hT]at e;simp only[Bool.and_self,cond_true]at e;obtain⟨a,os1,ob,N1,e1,f1,S1,hlen1,hN1,hob,vf,y,hvf,run,fin⟩:=zri hk I FR e;have e1:(bif j8 mk (os1++[ob]) then pDr2 P O lk nt ops bs es (Nat.succ i) l (pset ρ a o.dst) (os1++[ob]) (bset bo (Nat.succ ws.length) o.dst) ws ps (mk++[(i,os.length)]) (fr&&soft ko) K else none)=some x:=e1
              cases hal:j8 mk (os1++[ob]) with
              |false=>rw[hal]at e1;cases e1
              |true=>
                rw[hal]at e1;simp only[cond_true]at e1
                let b:BN:=nm n0 i
                have hbt:b.toNat=n0+i:=yq _ _;have hbn:N1.h.t.get b=none:=by rw[f1.h];exact M.free i hilt (LzB _)
                have hE:E.h0.n.toNat≤b.toNat:=by have:=M.e0;omega
                have hnf:¬N1.fz b:=fun h=>by
                  rcases S1.inv.fzex b h with h|⟨z,hz⟩
                  · have:=M.e0;omega
                  · rw[hbn]at hz;cases hz
                obtain⟨I2,A2⟩:=S1.inv.newAt (b:=b) (by rw[f1.h];have:=M.top;omega) hbn hE hnf y ob (vf b) (hvf b) fun N' nx hmu hf hgt hlt=>(fin b N' nx hmu hf hgt hlt).1
                let N2:Nm:=⟨upd N1.μ os1.length (vf b),os1.length+1,N1.fz,⟨N1.h.n,N1.h.t.set b y⟩⟩
                have mu2:∀k,k≠os1.length→N2.μ k=N1.μ k:=fun k hk=>by show (if k=os1.length then vf b else N1.μ k)=_;rw[if_neg hk]
                have muL:N2.μ os1.length=vf b:=by show (if os1.length=os1.length then vf b else _)=_;rw[if_pos rfl]
                have hval:=(fin b N2 A2.nx muL hnf (zw _ _ _) (Nat.lt_succ_self _)).2;have hN:N.n=os1.length:=by rw[hlen1];exact I.len
                have A1:Aft N os [] N1 os1:=S1.aft I.hw;have A12:Aft N os [] N2 (os1++[ob]):=A1.trans (fun k b' h1 h2 _=>by rw[f1.n]at h2;omega) A2
                have step:∀n,CE.bindR (yk P nt ops o (C n) (zM r (o.looksAt ops)) ⟨bn (Nat.add n0 i),N.h.t⟩) (fun v h'=>kDr2 P nt ops (C n) bs es n0 (Nat.succ i) l (fset r v o.dst) ⟨N.h.n,h'.t⟩ ws.length (S.map fun x=>x.1.h) (cs n) (mks++mk1 n0 ws.length i h'.t) (kk n)) =
                    kDr2 P nt ops (C n) bs es n0 (Nat.succ i) l (fset r (.s (.one (vf b))) o.dst) N2.h ws.length (S.map fun x=>x.1.h) (cs n) (mks++[(ws.length,i,y)]) (kk n):=fun n=>by
                  have hr:yk P nt ops o (C n) (zM r (o.looksAt ops)) ⟨bn (Nat.add n0 i),N.h.t⟩=some (.s (.one (vf b)),(⟨b,N.h.t⟩:AHeap).new y):=by
                    unfold yk;rw[hT,hg];exact(zct P _ _ _ hc).trans (run _ b N.h.t)
                  rw[hr];simp only[CE.bindR];have h1:((⟨b,N.h.t⟩:AHeap).new y).t=N.h.t.set b y:=rfl;have h2:mk1 n0 ws.length i (N.h.t.set b y)=[(ws.length,i,y)]:=by
                    unfold mk1;rw[show bn (Nat.add n0 i)=b from rfl,zw]
                  rw[h1,h2];show kDr2 P nt ops (C n) bs es n0 (Nat.succ i) l _ ⟨N.h.n,N.h.t.set b y⟩ _ _ _ _ _=kDr2 P nt ops (C n) bs es n0 (Nat.succ i) l _ ⟨N1.h.n,N1.h.t.set b y⟩ _ _ _ _ _;rw[f1.h]
                simp only[step];have hmkl:∀p∈mk,live (og (os1++[ob]) p.2):=fun p hp=>zeK (by
                  unfold j8 at hal;rw[List.all_eq_true]at hal;exact hal p hp)
                refine zdi hO l (Nat.succ i) _ (os1++[ob]) N2 _ _ ws ps (mk++[(i,os.length)]) _ S cs (mks++[(ws.length,i,y)]) e1 I2 (zam (fun s=>(F s).mono A12.nx) hval o.dst) (fun j hj=>?_) sfx' ⟨M.e0,?_,fun p hp=>?_,fun j hj hij=>?_,fun j z hj hz=>?_⟩ (fun p hp=>?_)
                  hl ch hi hf' ⟨A,eA,aA.trans nA A12,fun k b' h1 h2 h3=>?_,fun hfr=>?_⟩ (fun s=>?_) (fun z hz=>?_) ⟨fun z hz k hzk=>?_,fun z hz=>?_,fun z hz z' hz' he=>?_,fun p hp=>?_⟩ (fun n q hq=>by have:=(pe n q hq).up (X:=[]) (ps':=ps) (mk':=mk++[(i,os.length)]) (mks':=mks++[(ws.length,i,y)]) (fun _ h=>h) (fun _ h=>List.mem_append_left _ h) (fun _ h=>List.mem_append_left _ h);rwa [List.append_nil]at this) fun ρ2 os2 N3 r2 k1 k2 k3 k4 k5 k6=>H ρ2 os2 N3 r2 k1 k2 k3 (A12.nx.trans k4) (fun j hj=>(k5 j hj).trans ?_) (agree r2 _ k6)
                · have:=hlk j hj;simp;omega
                · show _≤N1.h.n.toNat;rw[f1.h];exact M.top
                · rcases List.mem_append.1 hp with hp1|hp1
                  · obtain⟨q1,q2,q3,q4,q5⟩:=M.mks p hp1
                    refine⟨by omega,q2,by show p.2<os1.length+1;omega,hmkl p hp1,?_⟩
                    rw[mu2 p.2 (by omega),f1.μ];exact q5
                  · rw[List.mem_singleton]at hp1
                    subst hp1;refine⟨Nat.lt_succ_self i,hilt,by show os.length<os1.length+1;omega,?_,?_⟩
                    · show live (og (os1++[ob]) os.length)
                      rw[wC,if_pos hlen1.symm];exact hob
                    · show blk (N2.μ os.length)=some b
                      rw[←hlen1,muL];exact hvf b
                · show (N1.h.t.set b y).get (nm n0 j)=none
                  rw[zo _ _ _ _ (fun e=>by have:=vr e;omega),f1.h]
                  exact M.free j hj (by omega)
                · by_cases hji:j=i
                  · exact⟨os.length,by rw[hji];simp⟩
                  · have hz:(N1.h.t.set b y).get (nm n0 j)=some z:=hz
                    rw[zo _ _ _ _ (fun e=>hji (vr e)),f1.h]at hz
                    obtain⟨k,hk⟩:=M.all j z hj hz;exact⟨k,List.mem_append_left _ hk⟩
                · rcases List.mem_append.1 hp with hp1|hp1
                  · exact hmo p hp1
                  · rw[List.mem_singleton]at hp1
                    subst hp1;exact⟨o,hop,hm⟩
                · by_cases hko:k=os1.length
                  · rw[hko,muL,hvf b]at h3
                    cases h3;exact hf A (Lz3 eA) i hilt (LzB _)
                  · have h2:k<os1.length+1:=h2
                    rw[mu2 k hko,f1.μ]at h3;exact nA k b' h1 (by omega) h3
                · rw[LzC]at hfr
                  have hNN:=hN1 hfr.2;have g:=gA hfr.1;have up:∀b' z,N2.fz b'→N2.h.t.get b'=some z→N.fz b'∧N.h.t.get b'=some z:=fun b' z h1 h2=>by
                    have h1:N1.fz b':=h1;have h2:(N1.h.t.set b y).get b'=some z:=h2;have hbb:b'≠b:=fun e=>hnf (by rw[←e];exact h1)
                    rw[zo _ _ _ _ hbb]at h2;rw[hNN]at h1 h2;exact⟨h1,h2⟩
                  exact⟨fun b' z h1 h2=>g.sub b' z (up b' z h1 h2).1 (up b' z h1 h2).2,fun b' z h1 h2=>g.old b' z (up b' z h1 h2).1 (up b' z h1 h2).2⟩
                · cases hd:o.dst with
                  |none=>exact sl s
                  |some d=>
                    show (bif Nat.beq s d then Nat.succ ws.length else bo s)≤ws.length+1∧∀A:Sn,S[bif Nat.beq s d then Nat.succ ws.length else bo s]? = some A→RepPA A.1 (bif Nat.beq s d then AVal.s (.one (vf b)) else r s) (bif Nat.beq s d then a else ρ s)
                    cases Nat.beq s d with
                    |false=>exact sl s
                    |true=>exact⟨LzB _,fun A hA=>by have:=(Lz0.1 hA).1;simp at this;omega⟩
                · rcases List.mem_append.1 hz with hz1|hz1
                  · exact hms z hz1
                  · rw[List.mem_singleton]at hz1
                    subst hz1;exact⟨LzB _,fun e A he hA=>hf A (Lz3 hA) i hilt (LzB _)⟩
                · rcases List.mem_append.1 hz with hz1|hz1
                  · have hzi:=mv.lt z hz1
                    have hzk2:(z.2.1,k)∈mk:=by
                      rcases List.mem_append.1 hzk with h|h
                      · exact h
                      · rw[List.mem_singleton]at h
                        have:z.2.1=i:=congrArg Prod.fst h;omega
                    obtain⟨g1,g2⟩:=mv.val z hz1 k hzk2;refine⟨g1,fun hnw=>?_⟩
                    show (N1.h.t.set b y).get (nm n0 z.2.1)=_;rw[zo _ _ _ _ (fun e=>by have:=vr e;omega),f1.h]
                    exact g2 hnw
                  · rw[List.mem_singleton]at hz1
                    subst hz1;refine⟨fun e A he hA=>?_,fun _=>zw _ _ _⟩
                    have:=(Lz0.1 hA).1;have he:ws.length<e:=he;omega
                · rcases List.mem_append.1 hz with hz1|hz1
                  · exact Nat.lt_succ_of_lt (mv.lt z hz1)
                  · rw[List.mem_singleton]at hz1;subst hz1;exact Nat.lt_succ_self i
                · rcases List.mem_append.1 hz with hz1|hz1<;>rcases List.mem_append.1 hz' with hz2|hz2
                  · exact mv.uniq z hz1 z' hz2 he
                  · rw[List.mem_singleton]at hz2;subst hz2
                    have:=mv.lt z hz1;have he:z.2.1=i:=he;omega
                  · rw[List.mem_singleton]at hz1;subst hz1
                    have:=mv.lt z' hz2;have he:i=z'.2.1:=he;omega
                  · rw[List.mem_singleton]at hz1 hz2;rw[hz1,hz2]
                · rcases List.mem_append.1 hp with hp1|hp1
                  · obtain⟨z,h1,h2⟩:=mv.ex p hp1
                    exact⟨z,List.mem_append_left _ h1,h2⟩
                  · rw[List.mem_singleton]at hp1;subst hp1
                    exact⟨_,List.mem_append_right _ (List.mem_singleton_self _),rfl⟩
                · have:=hlk j hj
                  rw[wC,if_neg (by omega)]
                  exact S1.lock j hj
    |false=>
      rw[hm]at e;simp only[cond_false]at e ⊢;have D:HdOk bs i ops.toList.length mk (yz bs i 0 ops.toList):=ztf M hmo;have IH:=zhs M I D;have nxH:=zf2 M I D;have FH:∀s,RepPA (uT n0 (yz bs i 0 ops.toList) N) (zM r (o.looksAt ops) s) (zO ρ (o.looksAt ops) s):=fun s=>(FR s).mono nxH
      have hlenH:(uA bs i mk os).length=os.length:=vT mk os;cases ha:anchor P o.op with
      |true=>
        rw[ha]at e;simp only[cond_true]at e ⊢;obtain⟨ref,a,os1,wr,rd,e1,F1,ev⟩:=zdg hO IH FH (fun j hj=>by rw[hlenH];exact hlk j hj) e
        refine Ev.bindR (ev.mono ?_)
        rintro⟨v,h'⟩ ⟨N1,hh,Sm⟩
        simp only at hh Sm ⊢;subst hh;obtain⟨t,ht,I2,A2,nx1,lk2,fr2⟩:=zqc M I D Sm;simp only[ht];cases hal:j8 mk (wB bs i os mk os1) with
        |false=>rw[hal]at e1;cases e1
        |true=>
          rw[hal]at e1;simp only[cond_true]at e1
          let N2:Nm:=⟨N1.μ,N1.n,N1.fz,⟨N1.h.n,t⟩⟩
          have F2:∀s,RepPA N (r s) (refine ρ ref s):=fun s=>jQ F1 (F s)
          have hmap:(S.map fun x=>x.1.h)++[(⟨N1.h.n,t⟩:AHeap)]=(S++[((N2,wB bs i os mk os1):Sn)]).map fun x=>x.1.h:=by simp[N2]
          rw[hmap];have hwl:Nat.succ ws.length=(ws++[wr]).length:=by simp
          have step:∀n,kDr2 P nt ops (C n) bs es n0 (Nat.succ i) l (fset r v o.dst) ⟨N1.h.n,t⟩ (Nat.succ ws.length) ((S++[((N2,wB bs i os mk os1):Sn)]).map fun x=>x.1.h) (cs n) mks (kk n) =
              kDr2 P nt ops (C n) bs es n0 (Nat.succ i) l (fset r v o.dst) N2.h (ws++[wr]).length ((S++[((N2,wB bs i os mk os1):Sn)]).map fun x=>x.1.h) (cs n) mks (kk n):=fun n=>by rw[hwl]
          simp only[step];have AT:=aA.trans nA A2;have hmkl:∀p∈mk,live (og (wB bs i os mk os1) p.2):=fun p hp=>zeK (by
            unfold j8 at hal;rw[List.all_eq_true]at hal;exact hal p hp)
          have hlast:(S++[((N2,wB bs i os mk os1):Sn)])[ws.length+1]? = some (N2,wB bs i os mk os1):=by rw[←hl];exact List.getElem?_concat_length
          refine zdi hO l (Nat.succ i) _ (wB bs i os mk os1) N2 (fset r v o.dst) _ (ws++[wr]) ps mk true (S++[(N2,wB bs i os mk os1)]) cs mks e1 I2 (zam (fun s=>(F2 s).mono A2.nx) (Sm.val.mono nx1) o.dst) (fun j hj=>?_) sfx'
            ⟨M.e0,Nat.le_trans M.top A2.nle,fun p hp=>?_,fun j hj hij=>fr2 j hj (M.free j hj (by omega)),fun j z hj hz=>?_⟩ hmo (by simp[hl]) (fun e w hw B1 B2 b1 b2=>?_) (fun B hB=>?_) (fun B hB j hj hij=>?_)
            ⟨(N2,wB bs i os mk os1),by rw[←hwl];exact hlast,.refl _ _,fun k b h1 h2 _=>absurd h2 (Nat.not_lt.2 h1),fun _=>.refl _ _⟩ (fun s=>?_) (fun y hy=>?_) ⟨fun z hz k hzk=>?_,fun z hz=>Nat.lt_succ_of_lt (mv.lt z hz),mv.uniq,mv.ex⟩ (fun n q hq=>(pe n q hq).up (fun _ h=>h) (fun _ h=>h) (fun _ h=>h)) fun ρ2 os2 N3 r2 k1 k2 k3 k4 k5 k6=>H ρ2 os2 N3 r2 k1 k2 k3 (A2.nx.trans k4) (fun j hj=>(k5 j hj).trans (lk2 j hj)) (agree r2 v k6)
          · have h1:=Sm.nx.le
            rw[Sm.inv.len,show (uT n0 (yz bs i 0 ops.toList) N).n=N.n from rfl,I.len]at h1
            rw[jb];exact Lz9 (hlk j hj) h1
          · obtain⟨q1,q2,q3,q4,q5⟩:=M.mks p hp
            exact⟨by omega,q2,Lz9 q3 A2.nx.le,hmkl p hp,by rw[A2.nx.mu p.2 q3];exact q5⟩
          · cases hx:N.h.t.get (nm n0 j) with
            |none=>
              have hz:t.get (nm n0 j)=some z:=hz;rw[fr2 j hj hx]at hz;cases hz
            |some z'=>exact M.all j z' hj hx
          · by_cases he:e<ws.length
            · rw[Lz2 he]at hw
              rw[Lz2 (by omega)]at b1
              rw[Lz2 (by omega)]at b2
              exact ch e w hw B1 B2 b1 b2
            · have he2:e=ws.length:=by
                have:=(Lz0.1 hw).1;simp at this;omega
              subst he2;rw[List.getElem?_concat_length]at hw;cases hw;rw[Lz2 (by omega),eA]at b1
              cases b1;rw[hlast]at b2;cases b2;exact⟨hi A (Lz3 eA),AT.nx,AT.bk,AT.ho⟩
          · rcases List.mem_append.1 hB with h|h
            · exact hi B h
            · rw[List.mem_singleton]at h;subst h;exact I2
          · rcases List.mem_append.1 hB with h|h
            · exact hf' B h j hj hij
            · rw[List.mem_singleton]at h;subst h;exact fr2 j hj (M.free j hj (by omega))
          · have old:bo s≤(ws++[wr]).length+1∧∀B:Sn,(S++[((N2,wB bs i os mk os1):Sn)])[bo s]? = some B→RepPA B.1 (r s) (refine ρ ref s):=by
              refine⟨by have:=(sl s).1;simp;omega,fun B hB=>?_⟩
              by_cases hbs:bo s≤ws.length
              · rw[Lz2 (by omega)]at hB
                exact jQ F1 ((sl s).2 B hB)
              · have hbs2:bo s=ws.length+1:=by have:=(sl s).1;omega
                rw[hbs2,hlast]at hB;cases hB;exact(F2 s).mono A2.nx
            cases hd:o.dst with
            |none=>exact old
            |some d=>
              show (bif Nat.beq s d then Nat.succ ws.length else bo s)≤(ws++[wr]).length+1∧∀B:Sn,(S++[((N2,wB bs i os mk os1):Sn)])[bif Nat.beq s d then Nat.succ ws.length else bo s]? = some B→RepPA B.1 (bif Nat.beq s d then v else r s) (bif Nat.beq s d then a else refine ρ ref s)
              cases Nat.beq s d with
              |false=>exact old
              |true=>
                refine⟨by simp,fun B hB=>?_⟩
                simp only[cond_true]at hB ⊢;rw[show Nat.succ ws.length=ws.length+1 from rfl,hlast]at hB
                cases hB;exact Sm.val.mono nx1
          · obtain⟨h1,h2⟩:=hms y hy
            refine⟨by simp;omega,fun e B he hB=>h2 e B he ?_⟩
            rw[Lz2 (by omega)]at hB
            exact hB
          · obtain⟨g1,g2⟩:=mv.val z hz k hzk
            have old:∀e,e≤ws.length→NW (ws++[wr]) e k→NW ws e k:=fun e he hn i w h1 h2=>hn i w h1 (by rw[Lz2 (by omega)];exact h2)
            have key:NW (ws++[wr]) (ws.length+1) k→N2.h.t.get (nm n0 z.2.1)=some z.2.2:=fun hn=>by
              have h1:=g2 (old ws.length (LzB _) fun i w h1 h2=>hn i w (by omega) h2)
              refine A2.bk _ _ h1 fun k' hk' hkn hlv hkb=>?_
              obtain⟨_,_,q3,q4,q5⟩:=M.mks _ hzk;have:=I.inj k' k _ hlv q4 hkb q5;subst this;exact hn ws.length wr (Nat.lt_succ_self _) List.getElem?_concat_length hk'
            refine⟨fun e B he hB hn=>?_,fun hn=>key (by simpa using hn)⟩
            by_cases hle:e≤ws.length
            · rw[Lz2 (by omega)]at hB
              exact g1 e B he hB (old e hle hn)
            · have h1:=(Lz0.1 hB).1
              simp at h1;have h2:e=ws.length+1:=by omega
              subst h2;rw[hlast]at hB;cases hB;exact key hn
      |false=>
        rw[ha]at e;simp only[cond_false]at e ⊢;cases hc:comp P o.op with
        |none=>rw[hc]at e;cases e
        |some ko=>
          rw[hc]at e;simp only at e;have go:∀(okr:List Nat→Bool) (nb:Option (Nat×Bool)→PA→Nat) (ps':List Nat→List (Nat×Nat×List Nat)) (hk:jC ko=true∨∃y,memX ko=some y),(∀ref a,nb ref a≤ws.length+1)→(∀rd,∀p∈ps,p∈ps' rd)→
              (∀ref,(∀s,RepPA (uT n0 (yz bs i 0 ops.toList) N) (zM r (o.looksAt ops) s) (refine (zO ρ (o.looksAt ops)) ref s))→∀v a,RepPA N v a→(∀xo,trk (refine (zO ρ (o.looksAt ops)) ref) ko=some xo→∀N':Nm,(∀t,xo=.tmp t→RepPA N' (zM r (o.looksAt ops) t) (refine (zO ρ (o.looksAt ops)) ref t))→RepPA N' v a)→∀B:Sn,S[nb ref a]? = some B→RepPA B.1 v a)→
              (∀ref,(∀s,RepPA (uT n0 (yz bs i 0 ops.toList) N) (zM r (o.looksAt ops) s) (refine (zO ρ (o.looksAt ops)) ref s))→∀v rd n,okr rd=true→((∀call h2,∃h',yk P nt ops o call (zM r (o.looksAt ops)) h2=some (v,h'))∨(∃xo,memX ko=some xo∧∃b:BN,(∀call h2,h2.t.get b=(uT n0 (yz bs i 0 ops.toList) N).h.t.get b→∃h',yk P nt ops o call (zM r (o.looksAt ops)) h2=some (v,h'))∧
                  ((∃ j, rd = [j] ∧ j < (uT n0 (yz bs i 0 ops.toList) N).n ∧ blk ((uT n0 (yz bs i 0 ops.toList) N).μ j) = some b ∧ held (og (uA bs i mk os) j) ∧ ∀ N' : Nm, (∀ t, xo = .tmp t → RepPA N' (zM r (o.looksAt ops) t) (refine (zO ρ (o.looksAt ops)) ref t)) → j < N'.n) ∨
                   (rd=[]∧∀N':Nm,(∀t,xo=.tmp t→RepPA N' (zM r (o.looksAt ops) t) (refine (zO ρ (o.looksAt ops)) ref t))→N'.fz b∧∃y,N'.h.t.get b=some y))))→
                PendOk2 S n0 mk mks (ps' rd) (yk P nt ops o (C n) (zM r (o.looksAt ops)),v,ce (fun j=>bef bs j i) 0 es,ce (fun j=>!bef bs i j) 0 es,yz bs i 0 ops.toList))→
              (jx P O (fun _=>true) nt ops o (zO ρ (o.looksAt ops)) (uA bs i mk os) fun ref a _ _ rd=>bif okr rd then pDr2 P O lk nt ops bs es (Nat.succ i) l (pset (refine ρ ref) a o.dst) os (bset bo (nb ref a) o.dst) ws (ps' rd) mk fr K else none)=some x→
              Ev (fun n=>CE.bindR (yk P nt ops o (C n) (zM r (o.looksAt ops)) ⟨N.h.n,delH n0 (yz bs i 0 ops.toList) N.h.t⟩) fun v h'=>kDr2 P nt ops (C n) bs es n0 (Nat.succ i) l (fset r v o.dst) N.h ws.length (S.map fun x=>x.1.h) (cs n++[(yk P nt ops o (C n) (zM r (o.looksAt ops)),v,ce (fun j=>bef bs j i) 0 es,ce (fun j=>!bef bs i j) 0 es,yz bs i 0 ops.toList)]) mks (kk n)) Q:=by
            intro okr nb ps' hk hnb hps hxb hpe e;obtain⟨ref,a,rd,v,e1,F1,rv,run,tr,pend⟩:=zeq IH FH hc hk e;have e1:(bif okr rd then pDr2 P O lk nt ops bs es (Nat.succ i) l (pset (refine ρ ref) a o.dst) os (bset bo (nb ref a) o.dst) ws (ps' rd) mk fr K else none)=some x:=e1
            cases hok:okr rd with
            |false=>rw[hok]at e1;cases e1
            |true=>
            rw[hok]at e1;simp only[cond_true]at e1;have:(fun n=>CE.bindR (yk P nt ops o (C n) (zM r (o.looksAt ops)) ⟨N.h.n,delH n0 (yz bs i 0 ops.toList) N.h.t⟩) fun v h'=>kDr2 P nt ops (C n) bs es n0 (Nat.succ i) l (fset r v o.dst) N.h ws.length (S.map fun x=>x.1.h) (cs n++[(yk P nt ops o (C n) (zM r (o.looksAt ops)),v,ce (fun j=>bef bs j i) 0 es,ce (fun j=>!bef bs i j) 0 es,yz bs i 0 ops.toList)]) mks (kk n)) =
                fun n=>kDr2 P nt ops (C n) bs es n0 (Nat.succ i) l (fset r v o.dst) N.h ws.length (S.map fun x=>x.1.h) (cs n++[(yk P nt ops o (C n) (zM r (o.looksAt ops)),v,ce (fun j=>bef bs j i) 0 es,ce (fun j=>!bef bs i j) 0 es,yz bs i 0 ops.toList)]) mks (kk n):=by
              funext n
              rw[show (⟨N.h.n,delH n0 (yz bs i 0 ops.toList) N.h.t⟩:AHeap)=(uT n0 (yz bs i 0 ops.toList) N).h from rfl,run];rfl
            rw[this];have F2:∀s,RepPA N (r s) (refine ρ ref s):=fun s=>jQ F1 (F s)
            refine zdi hO l (Nat.succ i) _ os N (fset r v o.dst) _ ws (ps' rd) mk fr S _ mks e1 I (zam F2 (rv.mono zhr) o.dst) hlk sfx' M.up hmo hl ch hi hf' ⟨A,eA,aA,nA,gA⟩ (fun s=>?_) hms ⟨mv.val,fun z hz=>Nat.lt_succ_of_lt (mv.lt z hz),mv.uniq,mv.ex⟩ (fun n q hqm=>?_) fun ρ2 os2 N2 r2 k1 k2 k3 k4 k5 k6=>H ρ2 os2 N2 r2 k1 k2 k3 k4 k5 (agree r2 v k6)
            · have old:bo s≤ws.length+1∧∀B:Sn,S[bo s]? = some B→RepPA B.1 (r s) (refine ρ ref s):=⟨(sl s).1,fun B hh=>jQ F1 ((sl s).2 B hh)⟩
              cases hd:o.dst with
              |none=>exact old
              |some d=>
                show (bif Nat.beq s d then nb ref a else bo s)≤ws.length+1∧∀B:Sn,S[bif Nat.beq s d then nb ref a else bo s]? = some B→RepPA B.1 (bif Nat.beq s d then v else r s) (bif Nat.beq s d then a else refine ρ ref s)
                cases Nat.beq s d with
                |false=>exact old
                |true=>exact⟨hnb ref a,hxb ref F1 v a (rv.mono zhr) tr⟩
            · rcases List.mem_append.1 hqm with h|h
              · have:=(pe n q h).up (X:=[]) (mk':=mk) (mks':=mks) (hps rd) (fun _ h=>h) (fun _ h=>h)
                rwa [List.append_nil]at this
              · rw[List.mem_singleton]at h
                subst h;exact hpe ref F1 v rd n hok pend
          have none1:∀B:Sn,S[ws.length+1]? = some B→False:=fun B hB=>by have:=(Lz0.1 hB).1;omega
          have here:∀v a,RepPA N v a→∀B:Sn,S[bif fr&&wc a then ws.length else Nat.succ ws.length]? = some B→RepPA B.1 v a:=fun v a rv B hB=>by
            cases hfp:fr&&wc a with
            |false=>rw[hfp]at hB;exact(none1 B hB).elim
            |true=>
              rw[hfp]at hB;rw[LzC]at hfp;simp only[cond_true]at hB;rw[eA]at hB;cases hB;exact zit (gA hfp.1) hfp.2 rv
          have hle1:∀a,(bif fr&&wc a then ws.length else Nat.succ ws.length)≤ws.length+1:=fun a=>by
            cases (fr&&wc a) with
            |true=>exact Nat.le_succ _
            |false=>exact LzB _
          cases hst:jC ko with
          |true=>
            rw[hst]at e;simp only[cond_true]at e;refine go (fun _=>true) (fun ref a=>match trk (refine (zO ρ (o.looksAt ops)) ref) ko with|some x=>bOf bo x|none=>bif fr&&wc a then ws.length else Nat.succ ws.length) (fun _=>ps) (.inl hst) ?_ (fun _ p hp=>hp) ?_ ?_ e
            · intro ref a
              cases htk:trk (refine (zO ρ (o.looksAt ops)) ref) ko with
              |none=>exact hle1 a
              |some y=>
                cases y with
                |tmp t=>exact(sl t).1
                |_=>exact Nat.zero_le _
            · intro ref F1 v a rv tr B hh
              cases htk:trk (refine (zO ρ (o.looksAt ops)) ref) ko with
              |none=>simp only[htk]at hh;exact here v a rv B hh
              |some y=>
                simp only[htk]at hh;refine tr y htk _ fun t ht=>?_
                subst ht;exact kz F1 ((sl t).2 B hh)
            · intro ref F1 v rd n hok pend
              rcases pend with g|⟨xo,g,_⟩
              · exact .inl fun h=>g (C n) h
              · exfalso
                cases ko<;>first|exact Bool.noConfusion hst|(simp only[memX]at g;cases g)
          |false=>
            rw[hst]at e;simp only[cond_false]at e;cases hmx:memX ko with
            |none=>rw[hmx]at e;cases e
            |some y=>
              rw[hmx]at e;simp only at e;cases hb:Nat.beq (ce (fun j=>bef bs j i) 0 es) (ce (fun j=>!bef bs i j) 0 es) with
              |true=>
                rw[hb]at e;exact go (fun _=>true) (fun _ a=>bif fr&&wc a then ws.length else Nat.succ ws.length) (fun _=>ps) (.inr ⟨y,hmx⟩) (fun _ a=>hle1 a) (fun _ p hp=>hp) (fun ref F1 v a rv tr B hh=>here v a rv B hh) (fun ref F1 v rd n hok pend=>.inr (.inl hb)) e
              |false=>
                rw[hb]at e;simp only[cond_false]at e;cases hw:(Nat.ble (bOf bo y) (ce (fun j=>bef bs j i) 0 es)&&Nat.ble (ce (fun j=>bef bs j i) 0 es) ws.length&&Nat.ble ws.length (ce (fun j=>!bef bs i j) 0 es)) with
                |false=>
                  rw[hw]at e;simp only[cond_false]at e;cases hwl:Nat.ble ws.length (ce (fun j=>!bef bs i j) 0 es) with
                  |false=>rw[hwl]at e;cases e
                  |true=>
                    rw[hwl]at e;simp only[cond_true]at e;refine go (fun rd=>zkG mk rd&&okW ws 0 ws.length rd) (fun _ a=>bif fr&&wc a then ws.length else Nat.succ ws.length) (fun rd=>ps++[(0,ce (fun j=>!bef bs i j) 0 es,rd)]) (.inr ⟨y,hmx⟩) (fun _ a=>hle1 a) (fun _ p hp=>List.mem_append_left _ hp) (fun ref F1 v a rv tr B hh=>here v a rv B hh) (fun ref F1 v rd n hok pend=>?_) e
                    rcases pend with g|⟨xo,g,b,g2,g1⟩
                    · exact .inl fun h=>g (C n) h
                    · rw[LzC]at hok
                      rcases g1 with⟨j,q1,q2,q3,q4,q5⟩|⟨q1,q2⟩
                      · subst q1
                        obtain⟨ok1,ok2⟩:=hok;simp only[zkG,List.any_eq_true]at ok1;obtain⟨⟨jm,k⟩,hp,hpk⟩:=ok1;have hpk:k=j:=Lz1 hpk;subst hpk;obtain⟨z,hz,hzj⟩:=mv.ex _ hp;have hzj:z.2.1=jm:=hzj;subst hzj;obtain⟨_,_,_,_,p5⟩:=M.mks _ hp;obtain⟨w,hw1⟩:=zbr q4 (IH.obj k) q3;have q3':blk (N.μ k)=some b:=q3;rw[p5]at q3';cases q3';obtain⟨hz1,hz2⟩:=kO hw1;have hv:=(mv.val z hz k hp).2 (NW.of ok2);rw[hz2]at hv;refine .inr (.inr (.inr ⟨k,z,List.mem_append_right _ (List.mem_singleton_self _),hz,hp,fun j hj e=>hz1 (List.mem_map.2 ⟨j,hj,e.symm⟩),fun h2 hh=>g2 (C n) h2 (by rw[hh,hw1,hv])⟩))
                      · subst q1
                        cases hok.1
                |true=>
                  rw[hw]at e;simp only[LzC]at hw;obtain⟨⟨w1,w2⟩,w3⟩:=hw;have w1:=Lz4 w1;have w2:=Lz4 w2;have w3:=Lz4 w3;refine go (fun _=>true) (fun _ a=>bif fr&&wc a then ws.length else Nat.succ ws.length) (fun rd=>ps++[(ce (fun j=>bef bs j i) 0 es,ce (fun j=>!bef bs i j) 0 es,rd)]) (.inr ⟨y,hmx⟩) (fun _ a=>hle1 a) (fun _ p hp=>List.mem_append_left _ hp) (fun ref F1 v a rv tr B hh=>here v a rv B hh) (fun ref F1 v rd n hok pend=>?_) e
                  rcases pend with g|⟨xo,g,b,g2,g1⟩
                  · exact .inl fun h=>g (C n) h
                  · rw[hmx]at g
                    cases g;obtain⟨Al,elo⟩:∃B:Sn,S[ce (fun j=>bef bs j i) 0 es]? = some B:=⟨_,Lz5 (by omega)⟩
                    have hrel:∀t,y=.tmp t→RepPA Al.1 (zM r (o.looksAt ops) t) (refine (zO ρ (o.looksAt ops)) ref t):=fun t ht=>by
                      subst ht;refine kz F1 ?_;have hle:bo t≤ce (fun j=>bef bs j i) 0 es:=w1
                      obtain⟨Ab,eb0⟩:∃B:Sn,S[bo t]? = some B:=⟨_,Lz5 (by omega)⟩
                      exact((sl t).2 Ab eb0).mono (xM hl ch eb0 (ce (fun j=>bef bs j i) 0 es-bo t) Al (by rw[show bo t+(ce (fun j=>bef bs j i) 0 es-bo t)=ce (fun j=>bef bs j i) 0 es by omega];exact elo))
                    have nxlA:Nx Al.1 A.1:=xM hl ch elo (ws.length-ce (fun j=>bef bs j i) 0 es) A (by rw[show ce (fun j=>bef bs j i) 0 es+(ws.length-ce (fun j=>bef bs j i) 0 es)=ws.length by omega];exact eA)
                    have IA:=hi A (Lz3 eA);have nin:b∉(yz bs i 0 ops.toList).map (nm n0)→∀j∈yz bs i 0 ops.toList,b≠nm n0 j:=fun h j hj e=>h (List.mem_map.2 ⟨j,hj,e.symm⟩)
                    rcases g1 with⟨j,q1,q2,q3,q4,q5⟩|⟨q1,q2⟩
                    · have hnh:¬Hid bs i mk j:=fun h=>by rw[(xn j mk os).1 h]at q4;exact q4
                      obtain⟨z,hz⟩:=zbr q4 (IH.obj j) q3;obtain⟨hz1,hz2⟩:=kO hz;have q4':held (og os j):=by rw[(xn j mk os).2 hnh]at q4;exact q4
                      have jl:=q5 Al.1 hrel;have jA:j<A.1.n:=Lz9 jl nxlA.le;have hA:held (og A.2 j):=(aA.ho j jA).1 q4';have hbA:blk (A.1.μ j)=some b:=by rw[←aA.nx.mu j jA];exact q3
                      obtain⟨z',hz'⟩:=zbr hA (IA.obj j) hbA;have h3:=aA.bk b z' hz' fun j hj=>by cases hj
                      rw[hz2]at h3;exact .inr (.inr (.inl ⟨rd,List.mem_append_right _ (List.mem_singleton_self _),ws.length,b,A,Al,w2,w3,eA,elo,nin hz1,fun h2 hh=>g2 (C n) h2 (by rw[hh,hz',hz,h3]),.inl ⟨j,q1,jl,hbA,hA⟩⟩))
                    · obtain⟨f1,z,f2⟩:=q2 Al.1 hrel
                      have f3:=nxlA.fg.old b z f1 f2;have f4:=nxlA.fg.sub b z f1 f2;have f5:=aA.nx.fg.old b z f4 f3;have f6:=aA.nx.fg.sub b z f4 f3;have f7:=nxH.fg.old b z f6 f5;exact .inr (.inr (.inl ⟨rd,List.mem_append_right _ (List.mem_singleton_self _),ws.length,b,A,Al,w2,w3,eA,elo,nin (kO f7).1,fun h2 hh=>g2 (C n) h2 (by rw[hh,f3,f7]),.inr ⟨f1,z,f2⟩⟩))
end
end Go.PE
end
section
namespace Go.PE
open Go Go.CE
section
variable (P:Program) (O:Orc) (tab:Nat→Bool) (Y:Inl)
noncomputable def vH(nt:Nat)(an:Nat→Option LA):Code→(Nat→Bool)→Nat→{β:Type}→(Nat→PA)→List PO→(RExit→(Nat→PA)→List PO→Option β)→Option β
 | .skip,_,_,_,ρ,os,K=>K .normal ρ os
 | .region _ ops draw,lk,_,_,ρ,os,K=>bif draw then(bif P.follows .mixedOrders&&k8 P ops (befs ops.toList) then pDr P O tab Y lk nt ops (befs ops.toList) (effs P ops.toList) 0 ops.toList ρ os (fun _=>0) [] [] (fun ρ os=>K .normal ρ os) else bif P.follows .mixedOrders&&uu P ops (befs ops.toList) then pDr2 P O lk nt ops (befs ops.toList) (ancs P ops.toList) 0 ops.toList ρ os (fun _=>0) [] [] [] true (fun ρ os=>K .normal ρ os) else none) else pOps P O tab Y lk nt ops ops.toList ρ os (fun ρ os=>K .normal ρ os)
 | .seq a b,lk,i,_,ρ,os,K=>vH nt an a lk i ρ os (zst (fun ρ os=>vH nt an b lk (i+kI a) ρ os K) K)
 | .cond c a b,lk,i,_,ρ,os,K=>
  match pv ρ c with
  |some (.s (.one (.d v)))=>
   ifB v (vH nt an a lk i (refine ρ (zoG c true)) os K) (vH nt an b lk (i+kI a) (refine ρ (zoG c false)) os K)
  |_=>none
 | .block id c,lk,i,_,ρ,os,K=>vH nt an c lk i ρ os (outP id K)
 | .loop c,lk,i,_,ρ,os,K=>
  match an i with
  |some la=>
   bif free lk la then
    match ziT lk la.frz os with
    |none=>none
    |some os=>
    match vec lk (fun m=>!lk m && !listed la m) la .normal ρ os with
    |some (os1,L0,M0,ms)=>
     y4 (zP (fun L M=>vH nt an c (lkIn la os.length) (i+1) (hFr la.data la.own (writes c) ρ os.length L) (hOs la.data la.own la (kill ms os1) os.length L M) (vecX (lkIn la os.length) os.length la)) L0 M0)
      (fun id L M=>K (.exit id) (hFr la.xdata la.xown (writes c) ρ os.length L) (hOs la.xdata la.xown la (kill ms os1) os.length L M))
      (fun L M=>bif kQ c then K .ret (hFr la.rdata la.rown (writes c) ρ os.length L) (hOs la.rdata la.rown la (kill ms os1) os.length L M) else none)
    |none=>none
   else none
  |none=>none
 | .exit id,_,_,_,ρ,os,K=>K (.exit id) ρ os
 | .ret,_,_,_,ρ,os,K=>K .ret ρ os
 |_,_,_,_,_,_,_=>none
end
def zbL(m:Nat)(N:Nm):Nm:=⟨N.μ,N.n,N.fz,⟨bn (Nat.add N.h.n.toNat m),N.h.t⟩⟩
theorem InvO.bump{E:En}{N:Nm}{os:List PO}(I:InvO E N os)(m:Nat):InvO E (zbL m N) os∧Nx N (zbL m N):=by
 have hn:(zbL m N).h.n.toNat=N.h.n.toNat+m:=zD _;have nx:Nx N (zbL m N):=⟨⟨fun _ _ h _=>h,fun _ _ _ h=>h⟩,LzB _,fun _ _=>rfl⟩
 refine⟨⟨fun b y hy=>by rw[hn];have:=I.hw b y hy;omega,⟨by rw[hn];have:=I.gr.le;omega,I.gr.old⟩,fun b hb=>by rw[hn];have:=I.fzlt b hb;omega,I.fzok,I.fzex,I.len,I.own,I.inj,fun k=>(I.obj k).mono nx rfl fun hl b hb=>?_⟩,nx⟩
 obtain⟨b',x',h1,h2,h3⟩:=yA hl (I.obj k);rw[h1]at hb;cases hb;exact⟨h2,rfl⟩
section
variable {P:Program} {O:Orc} {tab:Nat→Bool} {Y:Inl} {C:Nat→zh} {E:En} {nt:Nat} {an:Nat→Option LA}
theorem zja{lk okm:Nat→Bool}{la:LA}{b:RExit}{N:Nm}{os os1:List PO}{r:Fr}{ρ:Nat→PA}{L:List DV}{M:List OC}{ms:List (Option Nat)}(I:InvO E N os)(F:∀i,RepPA N (r i) (ρ i))(e:vec lk okm la b ρ os=some (os1,L,M,ms)):
  (∃N1,Fz N N1∧Stp E lk N os [] N1 os1)∧∀m,some m∈ms→okm m=true:=by
 unfold vec at e;cases h1:vecD lk ρ (selD la b) os with
 |none=>rw[h1]at e;cases e
 |some q=>
  obtain⟨o1,ds⟩:=q;rw[h1]at e;simp only at e;obtain⟨N1,f1,S1,_⟩:=zfo I F h1;split at e
  ·rename_i vs ms0 ws h2 h3;cases h4:(qM o1 la.boxes&&zfw okm ms0) with
   |false=>rw[h4]at e;cases e
   |true=>
    rw[h4]at e;cases e;rw[LzC]at h4;refine⟨⟨N1,f1,S1⟩,fun m hm=>?_⟩
    obtain⟨i,hi⟩:=List.getElem?_of_mem hm;exact(zat h4.2).1 i m hi
  ·cases e
theorem zov{lk:Nat→Bool}{n0:Nat}{la:LA}{e e1:RExit}{ρ:Nat→PA}{os:List PO}{L:List DV}{M:List OC}(h:vecX lk n0 la e ρ os=some (e1,L,M)):e=e1∧∃os1 ms,vec lk (fun m=>Nat.ble n0 m) la e ρ os=some (os1,L,M,ms):=by
 unfold vecX at h;split at h
 ·rename_i os1 L' M' ms hv;cases h;exact⟨rfl,os1,ms,hv⟩
 ·cases h
theorem zg7(hO:jB O C)(hY:zlL tab Y C):∀(c:Code) {β γ:Type} {Q:γ→Prop} {x:β} (lk:Nat→Bool) (i:Nat) (ρ:Nat→PA) (os:List PO) (N:Nm) (r:Fr) (K:RExit→(Nat→PA)→List PO→Option β) (kk:Nat→RExit→Fr→AHeap→Option γ),
  vH P O tab Y nt an c lk i ρ os K=some x→InvO E N os→(∀i,RepPA N (r i) (ρ i))→(∀j,lk j=true→j<os.length)→
  (∀e ρ' os' N' r',K e ρ' os'=some x→InvO E N' os'→(∀i,RepPA N' (r' i) (ρ' i))→Nx N N'→(∀j,lk j=true→og os' j=og os j)→(∀i,i∉writes c→r' i=r i)→Ev (fun n=>kk n e r' N'.h) Q)→
  Ev (fun n=>yY P nt (C n) n c r N.h (kk n)) Q:=by
 intro c
 induction c with
 |skip=>exact fun lk i ρ os N r K kk e I F hlk H=>H .normal ρ os N r e I F (.refl N) (fun _ _=>rfl) (fun _ _=>rfl)
 |exit id=>exact fun lk i ρ os N r K kk e I F hlk H=>H (.exit id) ρ os N r e I F (.refl N) (fun _ _=>rfl) (fun _ _=>rfl)
 |ret=>exact fun lk i ρ os N r K kk e I F hlk H=>H .ret ρ os N r e I F (.refl N) (fun _ _=>rfl) (fun _ _=>rfl)
 |region id ops draw=>
  intro β γ Q x lk i ρ os N r K kk e I F hlk H;simp only[vH]at e;cases draw with
  |true=>
   simp only[cond_true]at e;cases hd:(P.follows .mixedOrders&&k8 P ops (befs ops.toList)) with
   |false=>
    rw[hd]at e;simp only[cond_false]at e;cases hd2:(P.follows .mixedOrders&&uu P ops (befs ops.toList)) with
    |false=>rw[hd2]at e;cases e
    |true=>
     rw[hd2]at e;simp only[cond_true]at e;obtain⟨IB,xB⟩:=I.bump ops.toList.length;have hnB:(zbL ops.toList.length N).h.n.toNat=N.h.n.toNat+ops.toList.length:=zD _;have hno:∀j,N.h.t.get (nm N.h.n.toNat j)=none:=fun j=>by
      cases hx:N.h.t.get (nm N.h.n.toNat j) with
      |none=>rfl
      |some y=>have:=I.hw _ _ hx;rw[yq]at this;omega
     have:(fun n=>yY P nt (C n) n (.region id ops true) r N.h (kk n))=fun n=>kDr2 P nt ops (C n) (befs ops.toList) (ancs P ops.toList) N.h.n.toNat 0 ops.toList r (zbL ops.toList.length N).h 0 [(zbL ops.toList.length N).h] [] [] (fun r h=>kk n .normal r h):=by
      funext n;simp only[yY,cond_true,cond_false,hd,hd2];rfl
     rw[this];have hS:∀(e:Nat) (A:Sn),([(zbL ops.toList.length N,os)]:List Sn)[e]? = some A→A=(zbL ops.toList.length N,os):=fun e A hA=>List.mem_singleton.1 (Lz3 hA)
     refine zdi hO (n0:=N.h.n.toNat) (kk:=fun n r h=>kk n .normal r h) ops.toList 0 ρ os (zbL ops.toList.length N) r (fun _=>0) [] [] [] true [(zbL ops.toList.length N,os)] (fun _=>[]) [] e IB (fun s=>(F s).mono xB) hlk ⟨[],rfl,rfl⟩
      ⟨I.gr.le,by rw[hnB];exact LzB _,fun p hp=>(by cases hp),fun j _ _=>hno j,fun j y _ hy=>?_⟩ (fun p hp=>by cases hp) rfl (fun e w hw=>by simp at hw) (fun A hA=>by rw[List.mem_singleton.1 hA];exact IB) (fun A hA j _ _=>by rw[List.mem_singleton.1 hA];exact hno j)
      ⟨_,rfl,.refl _ _,fun k b h1 h2 _=>absurd h2 (Nat.not_lt.2 h1),fun _=>.refl _ _⟩ (fun s=>⟨Nat.zero_le _,fun A hA=>by rw[hS _ _ hA];exact(F s).mono xB⟩) (fun y hy=>by cases hy) ⟨fun z hz=>(by cases hz),fun z hz=>(by cases hz),fun z hz=>(by cases hz),fun p hp=>(by cases hp)⟩ (fun n q hq=>by cases hq) fun ρ' os' N' r' h1 h2 h3 h4 h5 h6=>H .normal ρ' os' N' r' h1 h2 h3 (xB.trans h4) h5 h6
     have hy:N.h.t.get (nm N.h.n.toNat j)=some y:=hy;rw[hno j]at hy;cases hy
   |true=>
    rw[hd]at e;simp only[cond_true]at e;have:(fun n=>yY P nt (C n) n (.region id ops true) r N.h (kk n))=fun n=>kDr P nt ops (C n) (befs ops.toList) (effs P ops.toList) 0 ops.toList r N.h [] [] (fun r h=>kk n .normal r h):=by
     funext n;simp only[yY,cond_true,hd]
    rw[this];refine zj4 hO hY (kk:=fun n r h=>kk n .normal r h) ops.toList 0 ρ os N r (fun _=>0) [] [] [] (fun _=>[]) e I F hlk rfl (fun e w hw=>by simp at hw) (fun s=>⟨LzB _,fun A hh=>?_⟩) (fun n q hq=>by cases hq) fun ρ' os' N' r' h1 h2 h3 h4 h5 h6=>H .normal ρ' os' N' r' h1 h2 h3 h4 h5 h6
    simp only[List.nil_append,List.getElem?_cons_zero,Option.some.injEq]at hh;subst hh;exact F s
  |false=>
   simp only[cond_false]at e;have:(fun n=>yY P nt (C n) n (.region id ops false) r N.h (kk n))=fun n=>kOps P nt ops (C n) ops.toList r N.h (fun r h=>kk n .normal r h):=by
    funext n;simp only[yY,cond_false]
   rw[this];exact zfE hO hY ops.toList ρ os N r e I F hlk fun ρ' os' N' r' h1 h2 h3 h4 h5 h6=>H .normal ρ' os' N' r' h1 h2 h3 h4 h5 h6
 |seq a b iha ihb=>
  intro β γ Q x lk i ρ os N r K kk e I F hlk H;simp only[vH]at e;have:(fun n=>yY P nt (C n) n (.seq a b) r N.h (kk n))=fun n=>yY P nt (C n) n a r N.h (zoC (fun r h=>yY P nt (C n) n b r h (kk n)) (kk n)):=by
   funext n;simp only[yY]
  rw[this];refine iha lk i ρ os N r _ (fun n=>zoC (fun r h=>yY P nt (C n) n b r h (kk n)) (kk n)) e I F hlk fun ex ρ1 os1 N1 r1 h1 h2 h3 h4 h5 h6=>?_
  have hag:∀r2:Fr,(∀i,i∉writes b→r2 i=r1 i)→∀i,i∉writes (.seq a b)→r2 i=r i:=fun r2 hr i hi=>by
   simp only[writes,List.mem_append,not_or]at hi;rw[hr i hi.2,h6 i hi.1]
  cases ex with
  |normal=>
   refine ihb lk (i+kI a) ρ1 os1 N1 r1 K kk h1 h2 h3 (fun j hj=>?_) fun e2 ρ2 os2 N2 r2 k1 k2 k3 k4 k5 k6=>H e2 ρ2 os2 N2 r2 k1 k2 k3 (h4.trans k4) (fun j hj=>(k5 j hj).trans (h5 j hj)) (hag r2 k6)
   have:=h4.le;rw[h2.len,I.len]at this;exact Lz9 (hlk j hj) this
  |exit id=>exact H (.exit id) ρ1 os1 N1 r1 h1 h2 h3 h4 h5 (hag r1 (fun _ _=>rfl))
  |ret=>exact H .ret ρ1 os1 N1 r1 h1 h2 h3 h4 h5 (hag r1 (fun _ _=>rfl))
 |cond c a b iha ihb=>
  intro β γ Q x lk i ρ os N r K kk e I F hlk H;simp only[vH]at e;split at e
  ·rename_i v hv;obtain⟨q,rfl,e⟩:=zeL e;obtain⟨w,k1,k2⟩:=wq F hv;have hw:=ye k2 (c:=.bool q) rfl;subst hw;have hco:coK r c=some (zr (.s (.one (.bool q)))):=by rw[ym,k1];rfl
   have F':∀i,RepPA N (r i) (refine ρ (zoG c q) i):=by
    cases c with
    |tmp t=>exact zaI F (Option.some.inj k1)
    |_=>exact F
   have run:∀n,yY P nt (C n) n (.cond c a b) r N.h (kk n)=bif q then yY P nt (C n) n a r N.h (kk n) else yY P nt (C n) n b r N.h (kk n):=fun n=>by
    simp only[yY,hco];rfl
   cases q with
   |true=>
    simp only[run,cond_true];exact iha lk i _ os N r K kk e I F' hlk fun e2 ρ2 os2 N2 r2 k1 k2 k3 k4 k5 k6=>H e2 ρ2 os2 N2 r2 k1 k2 k3 k4 k5 (fun i hi=>k6 i (fun h=>hi (by simp[writes,h])))
   |false=>
    simp only[run,cond_false];exact ihb lk _ _ os N r K kk e I F' hlk fun e2 ρ2 os2 N2 r2 k1 k2 k3 k4 k5 k6=>H e2 ρ2 os2 N2 r2 k1 k2 k3 k4 k5 (fun i hi=>k6 i (fun h=>hi (by simp[writes,h])))
  ·cases e
 |block id c ih=>
  intro β γ Q x lk i ρ os N r K kk e I F hlk H;simp only[vH]at e;have:(fun n=>yY P nt (C n) n (.block id c) r N.h (kk n))=fun n=>yY P nt (C n) n c r N.h (outK id (kk n)):=by
   funext n;simp only[yY]
  rw[this];refine ih lk i ρ os N r _ (fun n=>outK id (kk n)) e I F hlk fun ex ρ1 os1 N1 r1 h1 h2 h3 h4 h5 h6=>?_
  cases ex with
  |normal=>exact H .normal ρ1 os1 N1 r1 h1 h2 h3 h4 h5 h6
  |exit id'=>
   simp only[outP]at h1;simp only[outK];cases hq:Nat.beq id' id with
   |true=>rw[hq]at h1;exact H .normal ρ1 os1 N1 r1 h1 h2 h3 h4 h5 h6
   |false=>rw[hq]at h1;exact H (.exit id') ρ1 os1 N1 r1 h1 h2 h3 h4 h5 h6
  |ret=>exact H .ret ρ1 os1 N1 r1 h1 h2 h3 h4 h5 h6
 |loop c ih=>
  intro β γ Q x lk i ρ os N r K kk e I F hlk H;simp only[vH]at e;cases ha:an i with
  |none=>rw[ha]at e;cases e
  |some la=>
   rw[ha]at e;simp only at e;cases hfr:free lk la with
   |false=>rw[hfr]at e;cases e
   |true=>
    rw[hfr]at e;simp only[cond_true]at e;have core:∀(os:List PO) (N:Nm),InvO E N os→(∀i,RepPA N (r i) (ρ i))→(∀j,lk j=true→j<os.length)→
      (match vec lk (fun m => !lk m && !listed la m) la .normal ρ os with
       |some (os1,L0,M0,ms)=>
        y4 (zP (fun L M=>vH P O tab Y nt an c (lkIn la os.length) (i+1) (hFr la.data la.own (writes c) ρ os.length L) (hOs la.data la.own la (kill ms os1) os.length L M) (vecX (lkIn la os.length) os.length la)) L0 M0)
         (fun id L M=>K (.exit id) (hFr la.xdata la.xown (writes c) ρ os.length L) (hOs la.xdata la.xown la (kill ms os1) os.length L M))
         (fun L M=>bif kQ c then K .ret (hFr la.rdata la.rown (writes c) ρ os.length L) (hOs la.rdata la.rown la (kill ms os1) os.length L M) else none)
       |none=>none)=some x→
      (∀e ρ' os' N' r',K e ρ' os'=some x→InvO E N' os'→(∀i,RepPA N' (r' i) (ρ' i))→Nx N N'→(∀j,lk j=true→og os' j=og os j)→(∀i,i∉writes (.loop c)→r' i=r i)→Ev (fun n=>kk n e r' N'.h) Q)→
      Ev (fun n=>yY P nt (C n) n (.loop c) r N.h (kk n)) Q:=by
     clear e hlk F I H N os;intro os N I F hlk e H;cases hv:vec lk (fun m=>!lk m && !listed la m) la .normal ρ os with
     |none=>rw[hv]at e;cases e
     |some q=>
      obtain⟨os1,L0,M0,ms⟩:=q;rw[hv]at e;simp only at e;obtain⟨⟨N1,f1,S1⟩,hms⟩:=zja I F hv;have hl1:os1.length=os.length:=by rw[←S1.inv.len,f1.n,I.len]
      have hBl:(kill ms os1).length=os.length:=by rw[zds,hl1]
      generalize hB:kill ms os1=B at e hBl;rw[←hBl]at e;have hBox:∀k,∀cs,og B k=.box cs→∃(N':Nm) (vs0:List CVal),N'.n=B.length∧RepPL N' vs0 cs:=fun k cs hk=>by
       rw[←hB]at hk;rcases jp ms os1 k with⟨_,h2⟩|⟨_,h2⟩
       ·rw[h2]at hk;cases hk
       ·rw[h2]at hk;obtain⟨b,vs,_,_,_,h4⟩:=uw S1.inv hk;exact⟨N1,vs,by rw[f1.n,I.len,hBl],h4⟩
      have hBk:∀k,og B k=.dead∨og B k=og os1 k:=fun k=>by
       rw[←hB];rcases jp ms os1 k with⟨_,h2⟩|⟨_,h2⟩
       ·exact .inl h2
       ·exact .inr h2
      obtain⟨N2,e2h,i2,F2,nx2⟩:=zk1 (W:=writes c) I F hv (I.len.trans hBl.symm) (.refl N) F (fun _ _=>rfl)
       (fun k hk hul=>(hBk k).imp id fun h=>⟨h,hBox k⟩)
       (fun m hm hmB => by
        have hm':=hms m hm;rw[LzC,Bool.not_eq_true',Bool.not_eq_true']at hm';refine⟨?_,hm'.2⟩;rw[←hB];rcases jp ms os1 m with⟨_,h2⟩|⟨h1,_⟩
        ·rw[h2];exact fun h=>h
        ·exact absurd hm h1)
      simp only[selD,selO]at i2 F2;have hlp:∃ex Lx Mx n,ex≠.normal∧wb (fun L M=>vH P O tab Y nt an c (lkIn la B.length) (i+1) (hFr la.data la.own (writes c) ρ B.length L) (hOs la.data la.own la B B.length L M) (vecX (lkIn la B.length) B.length la)) n L0 M0=some (ex,Lx,Mx)∧
        K ex (hFr (selD la ex) (selO la ex) (writes c) ρ B.length Lx) (hOs (selD la ex) (selO la ex) la B B.length Lx Mx)=some x:=by
       cases hp:zP (fun L M=>vH P O tab Y nt an c (lkIn la B.length) (i+1) (hFr la.data la.own (writes c) ρ B.length L) (hOs la.data la.own la B B.length L M) (vecX (lkIn la B.length) B.length la)) L0 M0 with
       |none=>rw[hp]at e;cases e
       |some q=>
        obtain⟨ex,Lx,Mx⟩:=q;rw[hp]at e;obtain⟨n,hn⟩:=zaX.1 hp;cases ex with
        |normal=>cases e
        |exit id=>exact⟨.exit id,Lx,Mx,n,by simp,hn,e⟩
        |ret=>
         simp only[y4]at e;cases hR:kQ c with
         |false=>rw[hR]at e;cases e
         |true=>rw[hR]at e;exact⟨.ret,Lx,Mx,n,by simp,hn,e⟩
      obtain⟨ex,Lx,Mx,n,hne,hpl,hK⟩:=hlp;have run:(fun n=>yY P nt (C n) n (.loop c) r N.h (kk n))=fun n=>bindX (zap ((fun n ys h=>yY P nt (C n) n c (mixL (writes c) 0 r ys) h (fun e s h=>some (e,(writes c).map s,h))) n) n ((writes c).map r) N.h)
        (fun id ys h=>kk n (.exit id) (mixL (writes c) 0 r ys) h) (fun ys h=>kk n .ret (mixL (writes c) 0 r ys) h):=by
       funext n;simp only[yY]
      rw[run];refine Ev.bindX ((Ev.loop (Q:=fun p=>p.1=ex∧∃N' r',p.2.1=(writes c).map r'∧(∀i,i∉writes c→r' i=r i)∧N'.h=p.2.2∧InvO E N' (hOs (selD la ex) (selO la ex) la B B.length Lx Mx)∧(∀i,RepPA N' (r' i) (hFr (selD la ex) (selO la ex) (writes c) ρ B.length Lx i))∧Nx N N')
       (fun k ys h => ∃ L M N' r', wb (fun L M => vH P O tab Y nt an c (lkIn la B.length) (i + 1) (hFr la.data la.own (writes c) ρ B.length L) (hOs la.data la.own la B B.length L M) (vecX (lkIn la B.length) B.length la)) k L M = some (ex, Lx, Mx) ∧
        ys=(writes c).map r'∧(∀i,i∉writes c→r' i=r i)∧N'.h=h∧InvO E N' (hOs la.data la.own la B B.length L M)∧(∀i,RepPA N' (r' i) (hFr la.data la.own (writes c) ρ B.length L i))∧Nx N N')
       ?_ n _ _ ⟨L0,M0,N2,r,hpl,rfl,fun _ _=>rfl,e2h,i2,F2,nx2⟩).mono ?_)
      ·rintro k ys h ⟨L,M,N',r',h1,rfl,h3,rfl,h5,h6,h7⟩
       cases k with
       |zero=>cases h1
       |succ k=>
        have hstep:∃e1 L1 M1,vH P O tab Y nt an c (lkIn la B.length) (i+1) (hFr la.data la.own (writes c) ρ B.length L) (hOs la.data la.own la B B.length L M) (vecX (lkIn la B.length) B.length la)=some (e1,L1,M1)∧
          ((e1=.normal∧wb (fun L M=>vH P O tab Y nt an c (lkIn la B.length) (i+1) (hFr la.data la.own (writes c) ρ B.length L) (hOs la.data la.own la B B.length L M) (vecX (lkIn la B.length) B.length la)) k L1 M1=some (ex,Lx,Mx))∨(e1≠.normal∧e1=ex∧L1=Lx∧M1=Mx)):=by
         simp only[wb]at h1;split at h1
         ·rename_i L' M' hb;exact⟨.normal,L',M',hb,.inl ⟨rfl,h1⟩⟩
         ·rename_i hnn;exact⟨ex,Lx,Mx,h1,.inr ⟨hne,rfl,rfl,rfl⟩⟩
        obtain⟨e1,L1,M1,hb,hor⟩:=hstep;have hmix:mixL (writes c) 0 r ((writes c).map r')=r':=zbi h3;simp only[hmix];refine ih (lkIn la B.length) (i+1) _ _ N' r' _ (fun n e s h=>some (e,(writes c).map s,h)) hb h5 h6 (fun j hj=>Lz9 (zpk hj).1 (zpY rfl)) fun e3 ρ3 os3 N3 r3 k1 k2 k3 k4 k5 k6=>?_
        obtain⟨rfl,os1',ms',hv'⟩:=zov k1;obtain⟨⟨N1',f1',S1'⟩,hms'⟩:=zja k2 k3 hv';have hag:∀i,i∉writes c→r3 i=r i:=fun i hi=>(k6 i hi).trans (h3 i hi)
        obtain⟨N4,g1,g2,g3,g4⟩:=zk1 (W:=writes c) k2 k3 hv' (I.len.trans hBl.symm) (h7.trans k4) F hag
         (fun k hk hul => by
          have hlkk:lkIn la B.length k=true:=by
           unfold lkIn;rw[hul,Nat.ble_eq_true_of_le hk];rfl
          refine .inr ⟨?_,hBox k⟩;rw[S1'.lock k hlkk,k5 k hlkk,zac hk hul])
         (fun m hm hmB => by
          have:=Lz4 (hms' m hm);omega)
        refine Ev.some ?_;rcases hor with⟨rfl,hrest⟩|⟨hn1,rfl,rfl,rfl⟩
        ·exact⟨k,Nat.lt_succ_self k,L1,M1,N4,r3,hrest,rfl,hag,g1,g2,g3,g4⟩
        ·cases e3 with
         |normal=>exact absurd rfl hn1
         |exit id=>exact⟨rfl,N4,r3,rfl,hag,g1,g2,g3,g4⟩
         |ret=>exact⟨rfl,N4,r3,rfl,hag,g1,g2,g3,g4⟩
      ·rintro⟨e4,ys,h4⟩ ⟨hex,N',r',hys,hag,hh,i4,F4,nx4⟩
       simp only at hex hys hh;subst hex hys hh;have hmix:mixL (writes c) 0 r ((writes c).map r')=r':=zbi hag;have hfin:=H e4 _ _ N' r' hK i4 F4 nx4 (fun j hj=>by
        have hj1:=hlk j hj;have hul:listed la j=false:=by
         unfold free at hfr;rw[LzC,List.all_eq_true,List.all_eq_true]at hfr;unfold listed;rw[Bool.or_eq_false_iff]
         constructor
         ·cases hb:(la.boxes.any fun x=>Nat.beq j x.1) with
          |false=>rfl
          |true=>
           obtain⟨y,h,h'⟩:=List.any_eq_true.1 hb;have:=hfr.1 y h;rw[←Lz1 h',hj]at this;cases this
         ·cases hb:(la.arrs.any fun x=>Nat.beq j x.1) with
          |false=>rfl
          |true=>
           obtain⟨y,h,h'⟩:=List.any_eq_true.1 hb;have:=hfr.2 y h;rw[←Lz1 h',hj]at this;cases this
        rw[zac (by rw[hBl];exact hj1) hul,←hB]
        rcases jp ms os1 j with⟨h1,_⟩|⟨_,h2⟩
        ·have:=hms j h1;rw[hj]at this;cases this
        ·rw[h2];exact S1.lock j hj) hag
       cases e4 with
       |normal=>exact absurd rfl hne
       |exit id=>simp only[hmix];exact hfin
       |ret=>simp only[hmix];exact hfin
    cases hfa:ziT lk la.frz os with
    |none=>rw[hfa]at e;cases e
    |some os0=>
     rw[hfa]at e;obtain⟨Nz,fz0,Sz⟩:=zhx I hfa;rw[←fz0.h];exact core os0 Nz Sz.inv (fun i=>(F i).mono Sz.nx) (fun j hj=>by
      have:=Sz.inv.len;rw[fz0.n,I.len]at this;rw[←this];exact hlk j hj) e fun e ρ' os' N' r' a1 a2 a3 a4 a5 a6=>H e ρ' os' N' r' a1 a2 a3 (Sz.nx.trans a4) (fun j hj=>(a5 j hj).trans (Sz.lock j hj)) a6
 |_=>
  intro β γ Q x lk i ρ os N r K kk e;simp only[vH]at e;cases e
end
end Go.PE
end
section
namespace Go.PE
open Go Go.CE
def paOf:DA→PA
 | .s (.one d)=>.s (.one (.d d))
 | .s (.agg l)=>.s (.agg (l.map .d))
 | .tup l=>.tup l
def zhI(args:List DA):Nat→PA:=fun i=>match args[i]? with|some a=>paOf a|none=>.bad
section
variable (P:Program)
def ziq(lk:Nat→Bool)(ρ:Nat→PA)(os:List PO):ResultVar→Option (List PO×DS)
 | .tmp i=>match ρ i with | .s v=>frV lk os v|_=>none
 | .cell i t=>
  match xN P t,ρ i with
  |some n,.s (.one (.ptr k off))=>
   match og os k with
   | .box cs=>
    match n with
    |none=>match cs[off]? with|some c=>frV lk os (.one c)|none=>none
    |some n=>bif Nat.ble (off+n) cs.length then frV lk os (.agg ((cs.drop off).take n)) else none
   |_=>none
  |_,_=>none
def ky(lk:Nat→Bool)(ρ:Nat→PA):List PO→List ResultVar→Option (List DS×List PO)
 |os,[]=>some ([],os)
 |os,x::l=>
  match ziq P lk ρ os x with
  |some (os',d)=>match ky lk ρ os' l with|some (ds,os'')=>some (d::ds,os'')|none=>none
  |none=>none
def daOf:List DS→DA
 | [d]=>.s d
 |l=>.tup l
def endP(rs:List ResultVar):RExit→(Nat→PA)→List PO→Option DA
 | .exit _,_,_=>none
 | .normal,ρ,os=>match ky P (fun _=>false) ρ os rs with|some (l,_)=>some (daOf l)|none=>none
 | .ret,ρ,os=>match ky P (fun _=>false) ρ os rs with|some (l,_)=>some (daOf l)|none=>none
def resI(lk:Nat→Bool)(ρ:Nat→PA)(os:List PO):List ResultVar→Option (PA×List PO)
 | [.tmp i]=>match ρ i with | .s v=>some (.s v,os)|_=>none
 | [.cell i t]=>
  match xN P t,ρ i with
  |some n,.s (.one (.ptr k off))=>
   match og os k with
   | .box cs=>
    match n with
    |none=>match cs[off]? with|some c=>some (.s (.one c),os)|none=>none
    |some n=>bif Nat.ble (off+n) cs.length then some (.s (.agg ((cs.drop off).take n)),os) else none
   |_=>none
  |_,_=>none
 |rs=>match ky P lk ρ os rs with|some (l,os')=>some (.tup l,os')|none=>none
def zdL(as:List PA):Nat→PA:=fun i=>match as[i]? with|some a=>a|none=>.bad
abbrev Red:=Nat→List PA→Option (Bool×Nat×List PA)
def zrh:Red:=fun _ _=>none
noncomputable def inl(O:Orc)(tab:Nat→Bool)(an:Nat→List PA→Nat→Nat→Option LA)(R:Red):Nat→Inl
 |0=>fun _ _ _ _ _ _=>none
 |k+1=>fun g lk as os β K=>
  match R g as with
  |some (b,g',as')=>bif b then inl O tab an R k g' lk as' os β (fun _ os'=>K (.tup []) os') else none
  |none=>
  match P.funcs[g]? with
  |some fn=>
   match fn.body with
   |some c=>
    bif (cRes P fn.results.toList).isNone||fn.name == "runtime.NumGoroutine" then none else bif Nat.ble as.length fn.ntmps then
     vH P O tab (inl O tab an R k) fn.ntmps (an g as os.length) c lk 0 (zdL as) os (fun ex ρ os'=>
      match ex with
      | .exit _=>none
      |_=>match resI P lk ρ os' fn.results.toList with|some (a,os'')=>K a os''|none=>none)
    else none
   |none=>none
  |none=>none
noncomputable def pFun(O:Orc)(tab:Nat→Bool)(Y:Inl)(an:Nat→Option LA)(g:Nat)(args:List DA):Option DA:=
 match P.funcs[g]? with
 |some fn=>
  match fn.body with
  |some c=>bif (cRes P fn.results.toList).isNone||fn.name == "runtime.NumGoroutine" then none else bif Nat.ble args.length fn.ntmps then vH P O tab Y fn.ntmps an c (fun _=>false) 0 (zhI args) [] (endP P fn.results.toList) else none
  |none=>none
 |none=>none
end
section
variable {P:Program} {E:En}
theorem RepPA.paOf{N:Nm}{v:AVal}{d:DA}(H:RepA N.fz N.h v d):RepPA N v (PE.paOf d):=by
 cases d with
 |s d=>
  obtain⟨w,rfl,hw⟩:=H.inv;cases d with
  |one d=>
   cases w with
   |one c=>exact vQ hw
   |agg l=>exact hw.elim
  |agg ds=>
   cases w with
   |one c=>exact hw.elim
   |agg l=>exact RepPA.of (v:=.agg l) (p:=.agg _) (RepPL.ofD hw)
 |tup l=>
  cases v with
  |s v=>exact H.elim
  |tup vs=>exact H
theorem RepAL.get{fz:BN→Prop}{h:AHeap}:∀{vs:List AVal} {ds:List DA},RepAL fz h vs ds→vs.length=ds.length∧∀(i:Nat) (v:AVal) (d:DA),vs[i]? = some v→ds[i]? = some d→RepA fz h v d
 | [],[],_=>⟨rfl,fun i v d e=>by simp at e⟩
 |v::vs,d::ds,H=>by
  obtain⟨a,b⟩:=RepAL.get H.2;refine⟨by simp[a],fun i v' d' hv hd=>?_⟩
  cases i with
  |zero=>simp only[List.getElem?_cons_zero,Option.some.injEq]at hv hd;subst hv;subst hd;exact H.1
  |succ i=>exact b i v' d' (by simpa using hv) (by simpa using hd)
 | [],_::_,H=>H.elim
 |_::_,[],H=>H.elim
theorem zcz(args:List AVal)(i:Nat):frOf (ww .z .nil args) i=(args[i]?).getD z7:=by
 have h:=qC args 0 .nil i;have hn:(Tr.nil:Tr AVal).get (bn i)=none:=by cases bn i<;>rfl
 rw[if_neg (by omega),hn,Nat.sub_zero,Option.or_none]at h
 show tmpF (bn i) (ww .z .nil args)=_;unfold tmpF;rw[show (ww .z .nil args).get (bn i)=args[i]? from h]
 cases args[i]?<;>rfl
theorem zfV:∀(l:List AVal) (n:Nat),l.length≤n→lenA l n=true
 | [],_,_=>rfl
 |_::l,0,h=>by simp at h
 |_::l,n+1,h=>by
  show (bif Nat.beq (n+1) 0 then false else lenA l n)=true
  rw[zfV l n (by simpa using h)];rfl
theorem zoT{lk:Nat→Bool}{os os':List PO}{N:Nm}{r:Fr}{ρ:Nat→PA}{x:ResultVar}{d:DS}(I:InvO E N os)(F:∀i,RepPA N (r i) (ρ i))(e:ziq P lk ρ os x=some (os',d)):
  ∃N' sv,Fz N N'∧Stp E lk N os [] N' os'∧zbS P r N.h x=some sv∧RepS N'.fz N'.h sv d:=by
 cases x with
 |tmp i=>
  simp only[ziq]at e;split at e
  ·rename_i p hp;have:=F i;rw[hp]at this;obtain⟨w,hw,hv⟩:=this.inv;obtain⟨N',f,S,R⟩:=zeR I hv e;exact⟨N',w,f,S,by simp only[zbS,hw,resV],R⟩
  ·cases e
 |cell i t=>
  simp only[ziq]at e;split at e
  ·rename_i n k off hn hp;have:=F i;rw[hp]at this;obtain⟨w,hw,hk,b,hb,rfl⟩:=yl this;split at e
   ·rename_i cs ho;obtain⟨b',vs,h1,h2,h3,h4⟩:=uw I ho;rw[hb]at h1;cases h1;have hl:=h4.len;have run:zbS P r N.h (.cell i t)=uj n off (some (.cells vs 0)):=by
     simp only[zbS,hn,hw,resP,h3]
    cases n with
    |none=>
     simp only at e;cases hc:cs[off]? with
     |none=>rw[hc]at e;cases e
     |some c=>
      rw[hc]at e;have hi:=(Lz0.1 hc).1;obtain⟨v,hv⟩:∃v,vs[off]? = some v:=⟨_,Lz5 (by omega)⟩
      obtain⟨N',f,S,R⟩:=zeR (v:=.one v) (p:=.one c) I (h4.get hv hc) e;refine⟨N',.one v,f,S,?_,R⟩;rw[run];simp only[uj,xK,hv]
    |some n=>
     simp only at e;cases hle:Nat.ble (off+n) cs.length with
     |false=>rw[hle]at e;cases e
     |true=>
      rw[hle]at e;have hle:=Lz4 hle;obtain⟨N',f,S,R⟩:=zeR (v:=.agg ((vs.drop off).take n)) (p:=.agg ((cs.drop off).take n)) I ((h4.drop off).take n) e;refine⟨N',_,f,S,?_,R⟩;rw[run];simp only[uj,zbB vs n off (by omega)]
   ·cases e
  ·cases e
theorem jO{lk:Nat→Bool}{r:Fr}{ρ:Nat→PA}:∀{l:List ResultVar} {os os':List PO} {N:Nm} {ds:List DS},InvO E N os→(∀i,RepPA N (r i) (ρ i))→ky P lk ρ os l=some (ds,os')→
  ∃N' svs,Fz N N'∧InvO E N' os'∧Nx N N'∧(∀j,lk j=true→og os' j=og os j)∧jP P r N.h l=some svs∧RepSL N'.fz N'.h svs ds
 | [],os,os',N,ds,I,F,e=>by cases e;exact⟨N,[],.refl N,I,.refl N,fun _ _=>rfl,rfl,trivial⟩
 |x::l,os,os',N,ds,I,F,e=>by
  simp only[ky]at e;cases h1:ziq P lk ρ os x with
  |none=>rw[h1]at e;cases e
  |some q=>
   obtain⟨os1,d⟩:=q;rw[h1]at e;simp only at e;cases h2:ky P lk ρ os1 l with
   |none=>rw[h2]at e;cases e
   |some q2=>
    obtain⟨ds2,os2⟩:=q2;rw[h2]at e;cases e;obtain⟨N1,sv,f1,S1,k1,R1⟩:=zoT I F h1;obtain⟨N2,svs,f2,i2,x2,l2,k2,R2⟩:=jO S1.inv (fun i=>(F i).mono S1.nx) h2
    refine⟨N2,sv::svs,f1.trans f2,i2,S1.nx.trans x2,fun j hj=>(l2 j hj).trans (S1.lock j hj),?_,R1.mono x2.fg,R2⟩
    rw[f1.h]at k2;simp only[jP,k1,k2,zlr,xW]
theorem znw{h:AHeap}{fz:BN→Prop}{h':AHeap}{svs:List SVal}{ds:List DS}(H:RepSL fz h' svs ds):∃v,zbX h (some svs)=some (v,h)∧RepA fz h' v (daOf ds):=by
 match svs,ds,H with
 | [],[],_=>exact⟨.tup [],rfl,trivial⟩
 | [v],[d],H=>exact⟨.s v,rfl,H.1⟩
 |v::w::vs,d::e::ds,H=>exact⟨.tup (v::w::vs),rfl,H⟩
theorem zlb{h:AHeap}{fz:BN→Prop}{h':AHeap}{svs:List SVal}{ds:List DS}(H:RepSL fz h' svs ds)(hl:ds.length≠1):zbX h (some svs)=some (.tup svs,h):=by
 match svs,ds,H with
 | [],[],_=>rfl
 | [v],[d],_=>exact absurd rfl hl
 |v::w::vs,d::e::ds,H=>rfl
theorem zek{lk:Nat→Bool}{ρ:Nat→PA}:∀{l:List ResultVar} {os os':List PO} {ds:List DS},ky P lk ρ os l=some (ds,os')→ds.length=l.length
 | [],_,_,_,e=>by cases e;rfl
 |x::l,os,os',ds,e=>by
  simp only[ky]at e;cases h1:ziq P lk ρ os x with
  |none=>rw[h1]at e;cases e
  |some q=>
   obtain⟨os1,d⟩:=q;rw[h1]at e;simp only at e;cases h2:ky P lk ρ os1 l with
   |none=>rw[h2]at e;cases e
   |some q2=>obtain⟨ds2,os2⟩:=q2;rw[h2]at e;cases e;simp[zek h2]
theorem zjM{lk:Nat→Bool}{os os':List PO}{N:Nm}{r:Fr}{ρ:Nat→PA}{l:List ResultVar}{a:PA}(I:InvO E N os)(F:∀i,RepPA N (r i) (ρ i))(e:resI P lk ρ os l=some (a,os')):
  ∃N' svs v,N'.h=N.h∧InvO E N' os'∧Nx N N'∧(∀j,lk j=true→og os' j=og os j)∧jP P r N.h l=some svs∧zbX N.h (some svs)=some (v,N.h)∧RepPA N' v a:=by
 unfold resI at e;split at e
 ·rename_i i;split at e
  ·rename_i v hp;cases e;have:=F i;rw[hp]at this;obtain⟨w,hw,hv⟩:=this.inv;exact⟨N,[w],.s w,rfl,I,.refl N,fun _ _=>rfl,by simp only[jP,zbS,hw,resV,zlr,xW],rfl,RepPA.of hv⟩
  ·cases e
 ·rename_i i t;split at e
  ·rename_i n k off hn hp;have:=F i;rw[hp]at this;obtain⟨w,hw,hk,b,hb,rfl⟩:=yl this;split at e
   ·rename_i cs ho;obtain⟨b',vs,h1,h2,h3,h4⟩:=uw I ho;rw[hb]at h1;cases h1;have hl:=h4.len;have run:zbS P r N.h (.cell i t)=uj n off (some (.cells vs 0)):=by
     simp only[zbS,hn,hw,resP,h3]
    cases n with
    |none=>
     simp only at e;cases hc:cs[off]? with
     |none=>rw[hc]at e;cases e
     |some c=>
      rw[hc]at e;cases e;have hi:=(Lz0.1 hc).1;obtain⟨v,hv⟩:∃v,vs[off]? = some v:=⟨_,Lz5 (by omega)⟩
      refine⟨N,[.one v],.s (.one v),rfl,I,.refl N,fun _ _=>rfl,?_,rfl,RepPA.of (v:=.one v) (p:=.one c) (h4.get hv hc)⟩
      simp only[jP,run,uj,xK,hv,zlr,xW]
    |some n=>
     simp only at e;cases hle:Nat.ble (off+n) cs.length with
     |false=>rw[hle]at e;cases e
     |true=>
      rw[hle]at e;cases e;have hle:=Lz4 hle;refine⟨N,[.agg ((vs.drop off).take n)],.s (.agg ((vs.drop off).take n)),rfl,I,.refl N,fun _ _=>rfl,?_,rfl,RepPA.of (v:=.agg ((vs.drop off).take n)) (p:=.agg ((cs.drop off).take n)) ((h4.drop off).take n)⟩
      simp only[jP,run,uj,zbB vs n off (by omega),zlr,xW]
   ·cases e
  ·cases e
 ·rename_i h1 h2;cases h3:ky P lk ρ os l with
  |none=>rw[h3]at e;cases e
  |some q=>
   obtain⟨ds,os2⟩:=q;rw[h3]at e;cases e;obtain⟨N',svs,f,i,x,lo,k,R⟩:=jO I F h3;have hne:ds.length≠1:=by
    rw[zek h3];intro hl
    match l,hl with
    | [.tmp i],_=>exact h1 i rfl
    | [.cell i t],_=>exact h2 i t rfl
   exact⟨N',svs,.tup svs,f.h,i,x,lo,k,zlb R hne,R⟩
theorem znt{_fn:Func}{vs:List AVal}{as:List PA}{N:Nm}(H:RepPAL N vs as):(∀i,RepPA N (frOf (ww .z .nil vs) i) (zdL as i))∧vs.length=as.length:=by
 have key:∀{vs:List AVal} {as:List PA},RepPAL N vs as→vs.length=as.length∧∀(i:Nat) (v:AVal) (d:PA),vs[i]? = some v→as[i]? = some d→RepPA N v d:=by
  intro vs
  induction vs with
  |nil=>intro as H;cases as with|nil=>exact⟨rfl,fun i v d e=>by simp at e⟩|cons _ _=>exact H.elim
  |cons v vs ih=>
   intro as H;cases as with
   |nil=>exact H.elim
   |cons d ds=>
    obtain⟨a,b⟩:=ih H.2;refine⟨by simp[a],fun i v' d' hv hd=>?_⟩
    cases i with
    |zero=>simp only[List.getElem?_cons_zero,Option.some.injEq]at hv hd;subst hv;subst hd;exact H.1
    |succ i=>exact b i v' d' (by simpa using hv) (by simpa using hd)
 obtain⟨hl,hg⟩:=key H;refine⟨fun i=>?_,hl⟩
 rw[zcz];unfold zdL;cases ha:as[i]? with
 |none=>exact .bad _
 |some a=>
  have hi:=(Lz0.1 ha).1;obtain⟨v,hv⟩:∃v,vs[i]? = some v:=⟨_,Lz5 (by omega)⟩
  rw[hv];exact hg i v a hv ha
theorem zae{g:Nat}{vs:List AVal}{h:AHeap}:∀{sums:List Sum},(∀s∈sums,Nat.beq g s.g=false)→xQ g vs h sums=none
 | [],_=>rfl
 |s::l,hs=>by
  simp only[xQ];rw[hs s (List.mem_cons_self ..),Bool.false_and,cond_false];exact zae fun s' h'=>hs s' (List.mem_cons_of_mem _ h')
def znI(tab:Nat→Bool)(R:Red)(C:Nat→zh):Prop:=
 ∀{N:Nm} {g g':Nat} {as as':List PA} {vs:List AVal},R g as=some (true,g',as')→RepPAL N vs as→tab g'=true∧∃vs',RepPAL N vs' as'∧∀Q,Ev (fun n=>C n (.inl g') vs' N.h) Q→Ev (fun n=>C n (.inl g) vs N.h) (fun p=>p.1=.tup []∧∃v,Q (v,p.2))
theorem zmV{tab:Nat→Bool}{C:Nat→zh}:znI tab zrh C:=by
 intro N g g' as as' vs e;cases e
theorem zrv{sums:List Sum}{O:Orc}{tab:Nat→Bool}{an:Nat→List PA→Nat→Nat→Option LA}{R:Red}(hR:znI tab R (fun n=>yu (z5 P) (cFs (xX P)) sums n))(hO:jB O (fun n=>yu (z5 P) (cFs (xX P)) sums n))(hs:∀g,tab g=true→∀s∈sums,Nat.beq g s.g=false):
  ∀k,zlL tab (inl P O tab an R k) (fun n=>yu (z5 P) (cFs (xX P)) sums n):=by
 intro k
 induction k with
 |zero=>intro β E lk N os g as vs K x _ _ _ _ e;cases e
 |succ k ihk=>
  intro β E lk N os g as vs K x ht I RR hlk e;simp only[inl]at e;cases hr:R g as with
  |some q=>
   obtain⟨b,g',as'⟩:=q;rw[hr]at e;cases b with
   |false=>cases e
   |true=>
    obtain⟨ht',vs',r',h'⟩:=hR hr RR;obtain⟨a,os',q1,q2⟩:=ihk ht' I r' hlk e;refine⟨.tup [],os',q1,(h' _ q2).mono ?_⟩
    rintro⟨v,h1⟩ ⟨e1,w,N',e2,i2,x2,l2,_⟩
    cases e1;exact⟨N',e2,i2,x2,l2,trivial⟩
  |none=>
  rw[hr]at e;simp only at e;cases hf:P.funcs[g]? with
  |none=>rw[hf]at e;cases e
  |some fn=>
   rw[hf]at e;simp only at e;cases hb:fn.body with
   |none=>rw[hb]at e;cases e
   |some c=>
    rw[hb]at e;simp only at e;cases hc:((cRes P fn.results.toList).isNone||fn.name == "runtime.NumGoroutine") with
    |true=>rw[hc]at e;cases e
    |false=>
     rw[hc]at e;simp only[cond_false]at e;cases hl:Nat.ble as.length fn.ntmps with
     |false=>rw[hl]at e;cases e
     |true=>
      rw[hl]at e;simp only[cond_true]at e;have hll:=Lz4 hl;obtain⟨F0,hlen⟩:=znt (_fn:=fn) RR;have run:(fun n=>kFun P g (yu (z5 P) (cFs (xX P)) sums n) n vs N.h)=fun n=>yY P fn.ntmps (yu (z5 P) (cFs (xX P)) sums n) n c (frOf (ww .z .nil vs)) N.h (endK P fn.results.toList):=by
       funext n
       unfold kFun;rw[hf];simp only[hb,hc,cond_false];rw[zfV vs fn.ntmps (by omega),cond_true]
      have ev:Ev (fun n=>yY P fn.ntmps (yu (z5 P) (cFs (xX P)) sums n) n c (frOf (ww .z .nil vs)) N.h (endK P fn.results.toList)) (fun p=>∃a os' N',K a os'=some x∧N'.h=p.2∧InvO E N' os'∧Nx N N'∧(∀j,lk j=true→og os' j=og os j)∧RepPA N' p.1 a):=by
       refine zg7 (E:=E) hO ihk c lk 0 (zdL as) os N _ _ (fun _=>endK P fn.results.toList) e I F0 hlk fun ex ρ1 os1 N1 r1 h1 h2 h3 h4 h5 _=>?_
       cases ex with
       |exit id=>cases h1
       |normal=>
        simp only at h1;cases hr:resI P lk ρ1 os1 fn.results.toList with
        |none=>rw[hr]at h1;cases h1
        |some q=>
         obtain⟨a,os2⟩:=q;rw[hr]at h1;obtain⟨N2,svs,v,g1,g2,g3,g4,g5,g6,g7⟩:=zjM (P:=P) h2 h3 hr;show Ev (fun _=>zbX N1.h (jP P r1 N1.h fn.results.toList)) _
         rw[g5,g6];exact Ev.some ⟨a,os2,N2,h1,g1,g2,h4.trans g3,fun j hj=>(g4 j hj).trans (h5 j hj),g7⟩
       |ret=>
        simp only at h1;cases hr:resI P lk ρ1 os1 fn.results.toList with
        |none=>rw[hr]at h1;cases h1
        |some q=>
         obtain⟨a,os2⟩:=q;rw[hr]at h1;obtain⟨N2,svs,v,g1,g2,g3,g4,g5,g6,g7⟩:=zjM (P:=P) h2 h3 hr;show Ev (fun _=>zbX N1.h (jP P r1 N1.h fn.results.toList)) _
         rw[g5,g6];exact Ev.some ⟨a,os2,N2,h1,g1,g2,h4.trans g3,fun j hj=>(g4 j hj).trans (h5 j hj),g7⟩
      obtain⟨p,⟨a,os',N',q1,q2,q3,q4,q5,q6⟩,M,hM⟩:=ev;refine⟨a,os',q1,Ev.call (zae (hs g ht)) ?_⟩;rw[run];exact⟨p,⟨N',q2,q3,q4,q5,q6⟩,M,hM⟩
theorem zo1{sums:List Sum}{O:Orc}{tab:Nat→Bool}{Y:Inl}{an:Nat→Option LA}{g:Nat}{args:List DA}{res:DA}(hO:jB O (fun n=>yu (z5 P) (cFs (xX P)) sums n))(hY:zlL tab Y (fun n=>yu (z5 P) (cFs (xX P)) sums n))(hs:∀s∈sums,Nat.beq g s.g=false)
  (e:pFun P O tab Y an g args=some res):zoq (fun n=>yu (z5 P) (cFs (xX P)) sums n) g args res:=by
 intro fz h vs hw hfz hrep;obtain⟨hlen,hget⟩:=hrep.get;have hfs:xQ g vs h sums=none:=by
  clear hrep hlen hget e hO hY
  induction sums with
  |nil=>rfl
  |cons s l ih=>
   simp only[xQ];rw[hs s (List.mem_cons_self ..),Bool.false_and,cond_false];exact ih fun s' h'=>hs s' (List.mem_cons_of_mem _ h')
 refine Ev.call hfs ?_;unfold pFun at e;cases hf:P.funcs[g]? with
 |none=>rw[hf]at e;cases e
 |some fn=>
  rw[hf]at e;simp only at e;cases hb:fn.body with
  |none=>rw[hb]at e;cases e
  |some c=>
   rw[hb]at e;simp only at e;cases hc:((cRes P fn.results.toList).isNone||fn.name == "runtime.NumGoroutine") with
   |true=>rw[hc]at e;cases e
   |false=>
    rw[hc]at e;simp only[cond_false]at e;cases hl:Nat.ble args.length fn.ntmps with
    |false=>rw[hl]at e;cases e
    |true=>
     rw[hl]at e;simp only[cond_true]at e;have hll:=Lz4 hl;have run:(fun n=>kFun P g (yu (z5 P) (cFs (xX P)) sums n) n vs h)=fun n=>yY P fn.ntmps (yu (z5 P) (cFs (xX P)) sums n) n c (frOf (ww .z .nil vs)) h (endK P fn.results.toList):=by
      funext n
      unfold kFun;rw[hf];simp only[hb,hc,cond_false];rw[zfV vs fn.ntmps (by omega),cond_true]
     rw[run]
     let E0:En:=⟨h,fz⟩
     let N0:Nm:=⟨fun _=>.nilp,0,fz,h⟩
     have I0:InvO E0 N0 []:=⟨hw,.refl h,hfz,fun b hb=>.inl hb,fun b hb=>.inl (hfz b hb),rfl,fun k b hl=>hl.elim,fun k k' b hl=>hl.elim,fun k=>trivial⟩
     have F0:∀i,RepPA N0 (frOf (ww .z .nil vs) i) (zhI args i):=fun i=>by
      rw[zcz];unfold zhI;cases ha:args[i]? with
      |none=>exact .bad _
      |some a=>
       have hi:=(Lz0.1 ha).1;obtain⟨v,hv⟩:∃v,vs[i]? = some v:=⟨_,Lz5 (by omega)⟩
       rw[hv];exact RepPA.paOf (N:=N0) (hget i v a hv ha)
     refine zg7 (E:=E0) hO hY c (fun _=>false) 0 (zhI args) [] N0 _ (endP P fn.results.toList) (fun _=>endK P fn.results.toList) e I0 F0 (fun j hj=>by cases hj) fun ex ρ1 os1 N1 r1 h1 h2 h3 h4 _ _=>?_
     have fin:∀l os2,ky P (fun _=>false) ρ1 os1 fn.results.toList=some (l,os2)→daOf l=res→Ev (fun _=>zbX N1.h (jP P r1 N1.h fn.results.toList)) (fun p=>HW p.2∧Gr h p.2∧RepA (fzN fz h p.2) p.2 p.1 res):=by
      intro l os2 hl hd;obtain⟨N2,svs,f2,i2,x2,_,k2,R2⟩:=jO (P:=P) h2 h3 hl;obtain⟨v,g1,g2⟩:=znw (h:=N1.h) R2;rw[k2,g1];refine Ev.some ⟨h2.hw,h2.gr,?_⟩;rw[←hd,←f2.h];refine g2.mono ⟨fun b _ hb _=>?_,fun _ _ _ h=>h⟩
      rcases i2.fzok b hb with h'|h'
      ·exact .inl h'
      ·exact .inr ⟨h',i2.fzlt b hb⟩
     cases ex with
     |exit id=>cases h1
     |normal=>
      simp only[endP]at h1;cases hl:ky P (fun _=>false) ρ1 os1 fn.results.toList with
      |none=>rw[hl]at h1;cases h1
      |some q=>obtain⟨l,os2⟩:=q;rw[hl]at h1;cases h1;exact fin l os2 hl rfl
     |ret=>
      simp only[endP]at h1;cases hl:ky P (fun _=>false) ρ1 os1 fn.results.toList with
      |none=>rw[hl]at h1;cases h1
      |some q=>obtain⟨l,os2⟩:=q;rw[hl]at h1;cases h1;exact fin l os2 hl rfl
end
end Go.PE
end
section
namespace Go.PE
open Go Go.CE
end Go.PE
end
section
namespace Go.PE
open Go Go.CE
section
variable (P:Program) (sums:List CE.Sum) (B:Orc) (an:Nat→Nat→Option LA) (tab:Nat→Bool) (anI:Nat→Nat→List PA→Nat→Nat→Option LA) (R:Red) (d:Nat)
noncomputable def deep:Nat→Orc
 |0=>B
 |k+1=>fun g args=>
  match B g args with
  |some r=>some r
  |none=>bif sums.all (fun s=>!Nat.beq g s.g) then pFun P (deep k) tab (inl P (deep k) tab (anI g) R d) (an g) g args else none
end
section
variable {P:Program} {B:Orc} {an:Nat→Nat→Option LA} {sums:List CE.Sum} {tab:Nat→Bool} {anI:Nat→Nat→List PA→Nat→Nat→Option LA} {R:Red} {d:Nat}
theorem zgj(hR:znI tab R (fun n=>yu (z5 P) (cFs (xX P)) sums n))(hT:∀g,tab g=true→∀s∈sums,Nat.beq g s.g=false)(hB:jB B (fun n=>yu (z5 P) (cFs (xX P)) sums n)):∀k,jB (deep P sums B an tab anI R d k) (fun n=>yu (z5 P) (cFs (xX P)) sums n)
 |0=>hB
 |k+1=>fun g args res e=>by
  simp only[deep]at e;split at e
  ·rename_i r hr;cases e;exact hB g args _ hr
  ·cases hs:sums.all (fun s=>!Nat.beq g s.g) with
   |false=>rw[hs]at e;cases e
   |true=>
    rw[hs]at e;rw[List.all_eq_true]at hs;exact zo1 (zgj hR hT hB k) (zrv hR (zgj hR hT hB k) hT d) (fun s h=>by simpa using hs s h) e
theorem zeX{k g:Nat}{args:List DA}{r:DA}(h:B g args=some r):deep P sums B an tab anI R d k g args=some r:=by
 cases k with
 |zero=>exact h
 |succ k=>simp only[deep,h]
theorem zlp{k g:Nat}{args:List DA}(h:B g args=none)(hs:sums.all (fun s=>!Nat.beq g s.g)=true):deep P sums B an tab anI R d (k+1) g args=pFun P (deep P sums B an tab anI R d k) tab (inl P (deep P sums B an tab anI R d k) tab (anI g) R d) (an g) g args:=by
 simp only[deep,h,hs,cond_true]
end
end Go.PE
end
section
namespace Go.PE
open Go Go.CE
abbrev I6(n:Int):DV:=.int .i64 n
theorem y1(k:IntKind):eqK k k=true:=by cases k<;>rfl
theorem wrap64{n:Int}(h1:-9223372036854775808≤n)(h2:n≤9223372036854775807):wp .i64 n=n:=by
 cases n with
 |ofNat m=>
  show (bif Nat.ble m 9223372036854775807 then(Int.ofNat m) else IntKind.wrap .i64 (.ofNat m))=_
  rw[Nat.ble_eq_true_of_le (by have:(m:Int)≤9223372036854775807:=h2;omega)];rfl
 |negSucc m=>
  show (bif Nat.ble m 9223372036854775807 then(Int.negSucc m) else IntKind.wrap .i64 (.negSucc m))=_
  rw[Nat.ble_eq_true_of_le (by omega)];rfl
section
variable (k:IntKind) (a b:Int)
theorem zl:pBin .lss (.int k a) (.int k b)=some (.bool (decide (a<b))):=by
 simp only[pBin,y1,cond_true,vK,evLt,oD,uR]
theorem zaz:pBin .leq (.int k a) (.int k b)=some (.bool (decide (a≤b))):=by
 simp only[pBin,y1,cond_true,vK,evLe,oD,zhm]
theorem yC:pBin .gtr (.int k a) (.int k b)=some (.bool (decide (b<a))):=by
 simp only[pBin,y1,cond_true,vK,evGt,oD,uR]
theorem jh:pBin .geq (.int k a) (.int k b)=some (.bool (decide (b≤a))):=by
 simp only[pBin,y1,cond_true,vK,evGe,oD,zhm]
theorem xx:pBin .eql (.int k a) (.int k b)=some (.bool (a==b)):=by
 simp only[pBin,y1,cond_true,vK,evEq,oD,uZ]
theorem yf:pBin .neq (.int k a) (.int k b)=some (.bool (!(a==b))):=by
 simp only[pBin,y1,cond_true,vK,evNe,oD,uZ]
theorem zmL:pBin .add (.int k a) (.int k b)=some (.int k (wp k (a+b))):=by
 simp only[pBin,y1,cond_true,vK,zrL,oD];rfl
theorem zg8:pBin .sub (.int k a) (.int k b)=some (.int k (wp k (a-b))):=by
 simp only[pBin,y1,cond_true,vK,zrG,oD];rfl
theorem zmK:pBin .mul (.int k a) (.int k b)=some (.int k (wp k (a*b))):=by
 simp only[pBin,y1,cond_true,vK,zrJ,oD];rfl
theorem zay(h:b≠0):pBin .rem (.int k a) (.int k b)=some (.int k (a.tmod b)):=by
 have:(b==0)=false:=by simpa using h
 simp only[pBin,y1,cond_true,vK,zp2,uZ,this,cond_false,oD]
theorem zix(h1:-9223372036854775808≤a+b)(h2:a+b≤9223372036854775807):pBin .add (I6 a) (I6 b)=some (I6 (a+b)):=by rw[zmL,wrap64 h1 h2]
theorem ziw(h1:-9223372036854775808≤a-b)(h2:a-b≤9223372036854775807):pBin .sub (I6 a) (I6 b)=some (I6 (a-b)):=by rw[zg8,wrap64 h1 h2]
theorem zo3(k':IntKind)(h1:-9223372036854775808≤a)(h2:a≤9223372036854775807):yg .i64 (.int k' a)=some (I6 a):=by
 show some (DV.int .i64 (wp .i64 a))=_;rw[wrap64 h1 h2]
end
theorem zq{β:Type}(q:Bool)(a b:Option β):ifB (.bool q) a b=if q=true then a else b:=by cases q<;>rfl
theorem zb{α β:Type}(a:α)(k:α→Option β):za (some a) k=k a:=rfl
theorem yc{β:Type}(d:DV)(k:DV→Option β):b1 (some (.s (.one d))) k=k d:=rfl
theorem ztB{β:Type}(b:Bool)(k:DV→Option β):b1s (some (.s (.one (.bool b)))) k=k (.bool b):=rfl
theorem zqh{β:Type}(t:IntKind)(n:Int)(k:DV→Option β):b1s (some (.s (.one (.int t n)))) k=k (.int t n):=rfl
theorem zqe{β:Type}(l:List DV)(k:List DV→Option β):bA l.length (some (.s (.agg l))) k=k l:=by
 show (bif Nat.beq l.length l.length then k l else none)=_
 rw[Nat.beq_refl];rfl
end Go.PE
end
section
namespace Go.PE
open Go Go.CE
abbrev U8(n:Int):DV:=.int .u8 n
abbrev U64(n:Int):DV:=.int .u64 n
abbrev S1(d:DV):DA:=.s (.one d)
abbrev SA(l:List DV):DA:=.s (.agg l)
abbrev Bo(b:Bool):DV:=.bool b
abbrev St(s:ByteArray):DV:=.str s
attribute [simp] zl zaz yC jh xx yf zb yc zq
@[simp] theorem zqr{α β:Type}(k:α→Option β):za none k=none:=rfl
@[simp] theorem ztC{β:Type}(k:DV→Option β):b1 none k=none:=rfl
@[simp] theorem xa(q:Bool):pNot (.bool q)=some (.bool (!q)):=rfl
@[simp] theorem zq3:pLen .nils=some (I6 0):=rfl
@[simp] theorem zsi(st:Nat)(xs:List (List DV)):pLen (.lst st xs)=some (I6 (xs.length:Int)):=rfl
@[simp] theorem zsh(st:Nat)(v:OC):pLen (mkL st v)=some (I6 (lenO v:Int)):=by cases v<;>rfl
@[simp] theorem zqn:za1 .nils=some true:=rfl
@[simp] theorem zq0(st:Nat)(xs:List (List DV)):za1 (.lst st xs)=some false:=rfl
@[simp] theorem zo2(st:Nat):uF st .nils=some []:=rfl
@[simp] theorem zqp(st:Nat)(xs:List (List DV)):uF st (.lst st xs)=some xs:=by
 show (bif Nat.beq st st then some xs else none)=_
 rw[Nat.beq_refl];rfl
@[simp] theorem zqo(st:Nat)(v:OC):uF st (mkL st v)=some (zI v):=by cases v<;>simp[mkL,zI]
@[simp] theorem za2(s:ByteArray):ziv (.str s)=some (I6 (s.size:Int)):=rfl
@[simp] theorem zq5(n:Nat):Int.ofNat n=(n:Int):=rfl
@[simp] theorem zrq:lenO none=0:=rfl
@[simp] theorem zrp(xs:List (List DV)):lenO (some xs)=xs.length:=rfl
@[simp] theorem zp4:zI none=[]:=rfl
@[simp] theorem j0(xs:List (List DV)):zI (some xs)=xs:=rfl
@[simp] theorem zsk(st:Nat):mkL st none=.nils:=rfl
@[simp] theorem jj(st:Nat)(xs:List (List DV)):mkL st (some xs)=.lst st xs:=rfl
@[simp] theorem zsn(v:OC):appO v []=v:=rfl
@[simp] theorem zsa(v:OC)(x:List DV)(l:List (List DV)):appO v (x::l)=some (zI v++(x::l)):=rfl
@[simp] theorem xP{β:Type}(k:Option β):gd true k=k:=rfl
@[simp] theorem yn{β:Type}(id:Nat)(L:List DV)(M:List OC)(kx:Nat→List DV→List OC→Option β)(kr:List DV→List OC→Option β):y4 (some (.exit id,L,M)) kx kr=kx id L M:=rfl
@[simp] theorem zeH{β:Type}(L:List DV)(M:List OC)(kx:Nat→List DV→List OC→Option β)(kr:List DV→List OC→Option β):y4 (some (.ret,L,M)) kx kr=kr L M:=rfl
@[simp] theorem zx(d:DV)(l:List DV):nthD (d::l) 0=d:=rfl
@[simp] theorem xb(d:DV)(l:List DV)(n:Nat):nthD (d::l) (n+1)=nthD l n:=rfl
@[simp] theorem z6(d:OC)(l:List OC):nthM (d::l) 0=d:=rfl
@[simp] theorem qY(d:OC)(l:List OC)(n:Nat):nthM (d::l) (n+1)=nthM l n:=rfl
@[simp] theorem xJ(d:DV)(l:List DV):atD (d::l) 0=d:=rfl
@[simp] theorem wN(d:DV)(l:List DV)(n:Nat):atD (d::l) (n+1)=atD l n:=rfl
@[simp] theorem zcH(d:DS)(l:List DS):dsAt (d::l) 0=d:=rfl
@[simp] theorem zoh(d:DS)(l:List DS)(n:Nat):dsAt (d::l) (n+1)=dsAt l n:=rfl
@[simp] theorem qD(d:DV):dsO (.one d)=d:=rfl
@[simp] theorem zln(l:List DV):dsA (.agg l)=l:=rfl
theorem ztA{β:Type}{n:Nat}{l:List DV}(h:l.length=n)(k:List DV→Option β):bA n (some (.s (.agg l))) k=k l:=by subst h;exact zqe l k
@[simp] theorem ztz{β:Type}(r:DA)(k:Option β):bN (some r) k=k:=rfl
@[simp] theorem zsN:okT [] []=true:=rfl
@[simp] theorem zsM(shs:List (Option Nat))(d:DV)(l:List DS):okT (none::shs) (.one d::l)=okT shs l:=rfl
@[simp] theorem zsO(shs:List (Option Nat))(n:Nat)(ds:List DV)(l:List DS):okT (some n::shs) (.agg ds::l)=(Nat.beq ds.length n&&okT shs l):=rfl
@[simp] theorem zmI(k:IntKind)(n:Int):pNeg (.int k n)=some (.int k (wp k (-n))):=by
 show some (DV.int k (wp k (0-n)))=_;rw[Int.zero_sub]
theorem xp{b n:Nat}(hb:b≤4096)(h:n≤1000000000):fits b n=true:=by
 unfold fits;rw[LzC,Nat.ble_eq,Nat.ble_eq];refine⟨?_,by omega⟩
 have:n*b≤1000000000*4096:=Nat.mul_le_mul h hb;show (n*b)*2≤_;omega
theorem zos(n:Int):wp .u64 n=n % 18446744073709551616:=wE .u64 n
theorem zmb(n:Int):wp .u8 n=n % 256:=wE .u8 n
theorem yS{a b:Int}(h1:-9223372036854775808≤a+b:=by omega)(h2:a+b≤9223372036854775807:=by omega):pBin .add (I6 a) (I6 b)=some (I6 (a+b)):=zix a b h1 h2
theorem zjj{a b:Int}(h1:-9223372036854775808≤a-b:=by omega)(h2:a-b≤9223372036854775807:=by omega):pBin .sub (I6 a) (I6 b)=some (I6 (a-b)):=ziw a b h1 h2
theorem zfM{a b:Int}(h1:-9223372036854775808≤a*b)(h2:a*b≤9223372036854775807):pBin .mul (I6 a) (I6 b)=some (I6 (a*b)):=by rw[zmK,wrap64 h1 h2]
theorem jJ{k:IntKind}{a:Int}(h1:-9223372036854775808≤a:=by omega)(h2:a≤9223372036854775807:=by omega):yg .i64 (.int k a)=some (I6 a):=zo3 a k h1 h2
theorem zq1(k:IntKind)(a b:Int):ul false (.int k a) [.int k b]=some (.int k (min a b)):=by
 simp only[ul,minD,y1,cond_true,cond_false,uR]
 congr 2
 by_cases h:b<a
 ·rw[decide_eq_true h];simp only[cond_true];omega
 ·rw[decide_eq_false h];simp only[cond_false];omega
theorem zq2(k:IntKind)(a b:Int):ul true (.int k a) [.int k b]=some (.int k (max a b)):=by
 simp only[ul,minD,y1,cond_true,uR]
 congr 2
 by_cases h:a<b
 ·rw[decide_eq_true h];simp only[cond_true];omega
 ·rw[decide_eq_false h];simp only[cond_false];omega
attribute [simp] zq1 zq2
abbrev Sl(α:Type):=Option (List α)
abbrev Sl.els{α:Type}(s:Sl α):List α:=s.getD []
def enL{α:Type}(st:Nat)(f:α→List DV):Sl α→DV
 |none=>.nils
 |some l=>.lst st (l.map f)
section
variable {α:Type} {st:Nat} {f:α→List DV}
@[simp] theorem zsl:enL st f none=.nils:=rfl
theorem xZ(l:List α):enL st f (some l)=.lst st (l.map f):=rfl
@[simp] theorem ztj(v:Sl α):mkL st (v.map (List.map f))=enL st f v:=by cases v<;>rfl
@[simp] theorem zH(v:Sl α):pLen (enL st f v)=some (I6 (v.els.length:Int)):=by cases v<;>simp[enL]
@[simp] theorem zch(v:Sl α):uF st (enL st f v)=some (v.els.map f):=by cases v<;>simp[enL]
@[simp] theorem zer(v:Sl α):za1 (enL st f v)=some v.isNone:=by cases v<;>rfl
theorem zmJ(k:IntKind)(xs:List (List DV))(i:Nat):pIdx st (.lst st xs) (.int k (i:Int))=xs[i]?:=by
 show (bif Nat.beq st st then xs[i]? else none)=_
 rw[Nat.beq_refl];rfl
theorem kC(k:IntKind)(v:Sl α)(i:Nat):pIdx st (enL st f v) (.int k (i:Int))=(v.els[i]?).map f:=by
 cases v with
 |none=>rfl
 |some l=>rw[xZ,zmJ,Lz6];rfl
theorem yF{l:List α}{i:Nat}{x:α}{r:List α}(h:l.drop i=x::r):l[i]? = some x:=by
 have:=List.getElem?_drop (xs:=l) (i:=i) (j:=0);rw[h]at this
 simpa using this.symm
theorem yH{l:List α}{i:Nat}{x:α}{r:List α}(h:l.drop i=x::r):i<l.length:=(Lz0.1 (yF h)).1
theorem zN{l:List α}{i:Nat}{x:α}{r:List α}(h:l.drop i=x::r):l.drop (i+1)=r:=by
 rw[←List.drop_drop,h];rfl
theorem yb{l:List α}{i:Nat}(h:l.drop i=[]):l.length≤i:=by simpa using h
theorem zR{v:Sl α}{i:Nat}{x:α}{r:List α}(h:v.els.drop i=x::r)(k:IntKind):pIdx st (enL st f v) (.int k (i:Int))=some (f x):=by rw[kC,yF h];rfl
end
theorem lt_i{i n:Nat}(h:i<n):decide ((i:Int)<(n:Int))=true:=decide_eq_true (by omega)
theorem xC{i n:Nat}(h:n≤i):decide ((i:Int)<(n:Int))=false:=decide_eq_false (by omega)
def ocL{α:Type}(f:α→List DV)(v:Sl α):OC:=v.map (List.map f)
section
variable {α:Type} {st:Nat} {f:α→List DV}
@[simp] theorem zsj:ocL f (none:Sl α)=none:=rfl
@[simp] theorem xD(v:Sl α):lenO (ocL f v)=v.els.length:=by cases v<;>simp[ocL]
@[simp] theorem yN(v:Sl α):zI (ocL f v)=v.els.map f:=by cases v<;>simp[ocL]
@[simp] theorem qx(v:Sl α):mkL st (ocL f v)=enL st f v:=by cases v<;>rfl
theorem xA(v:Sl α)(x:α):(some (v.els.map f++[f x]):OC)=ocL f (some (v.els++[x])):=by simp[ocL]
end
@[simp] theorem yD{α:Type}(l:List α):Sl.els (some l)=l:=rfl
@[simp] theorem zsm{α:Type}:Sl.els (none:Sl α)=[]:=rfl
theorem remN{k:IntKind}{a b:Nat}(h:b≠0):pBin .rem (.int k (a:Int)) (.int k (b:Int))=some (.int k ((a % b:Nat):Int)):=by
 rw[zay k _ _ (by omega)];rfl
theorem zg6{k:IntKind}{n i:Nat}(h:i<n):jz n (.int k (i:Int))=some i:=by
 show (bif Nat.ble (i+1) n then some i else none)=_
 rw[Nat.ble_eq_true_of_le h];rfl
theorem zax{k:IntKind}{xs:List (List DV)}{i:Nat}(h:i<xs.length):jy (some xs) (.int k (i:Int))=some i:=by
 show (bif Nat.ble (i+1) xs.length then some i else none)=_
 rw[Nat.ble_eq_true_of_le h];rfl
theorem zS{f:List DV→List OC→Option PX}{L L':List DV}{M M':List OC}(h:f L M=some (.normal,L',M')):zP f L M=zP f L' M':=by rw[qo,h]
theorem zz{f:List DV→List OC→Option PX}{L L':List DV}{M M':List OC}{id:Nat}(h:f L M=some (.exit id,L',M')):zP f L M=some (.exit id,L',M'):=by rw[qo,h]
theorem zE{f:List DV→List OC→Option PX}{L L':List DV}{M M':List OC}(h:f L M=some (.ret,L',M')):zP f L M=some (.ret,L',M'):=by rw[qo,h]
end Go.PE
end
noncomputable section
namespace Go.PE
open Go Go.CE
def zgQ:List DV→Option (List CVal)
 | []=>some []
 |d::l=>match d.scal,zgQ l with|some c,some cs=>some (c::cs)|_,_=>none
def avS:DS→Option SVal
 | .one d=>match d.scal with|some c=>some (.one c)|none=>none
 | .agg ds=>match zgQ ds with|some cs=>some (.agg cs)|none=>none
def avs:List DA→Option (List AVal)
 | []=>some []
 | .s d::l=>match avS d,avs l with|some v,some vs=>some (.s v::vs)|_,_=>none
 | .tup _::_=>none
def ofC:CVal→Option DV
 | .bool b=>some (.bool b)
 | .int k n=>some (.int k n)
 | .str s=>some (.str s)
 | .nils=>some .nils
 | .nilf=>some .nilf
 | .nilp=>some .nilp
 | .nilm=>some .nilm
 | .nili=>some .nili
 |_=>none
def ofCs:List CVal→Option (List DV)
 | []=>some []
 |c::cs=>match ofC c,ofCs cs with|some d,some ds=>some (d::ds)|_,_=>none
def ofS:SVal→Option DS
 | .one c=>match ofC c with|some d=>some (.one d)|none=>none
 | .agg cs=>match ofCs cs with|some ds=>some (.agg ds)|none=>none
def ofSs:List SVal→Option (List DS)
 | []=>some []
 |v::vs=>match ofS v,ofSs vs with|some d,some ds=>some (d::ds)|_,_=>none
def ofA:AVal→Option DA
 | .s v=>match ofS v with|some d=>some (.s d)|none=>none
 | .tup vs=>match ofSs vs with|some ds=>some (.tup ds)|none=>none
def sumB(ids:List Nat)(sums:List CE.Sum):Orc:=fun g args=>
 bif ids.any (Nat.beq g) then
  match avs args with
  |some vs=>match xQ g vs ⟨.z,.nil⟩ sums with|some v=>ofA v|none=>none
  |none=>none
 else none
theorem zb7{d:DV}{c:CVal}(h:d.scal=some c):xk c=true:=by
 cases d<;>simp only[DV.scal]at h<;>first|cases h;rfl|cases h
theorem zhl{m m':Mt}{c c':CVal}(hp:xk c'=true)(h:mC m c c'=some m'):m'=m:=by
 unfold mC at h;split at h
 ·cases c'<;>simp[xk]at hp h
 ·cases c'<;>simp[xk]at hp h
 ·cases hb:(xk c&&eqV c c') with
  |true=>rw[hb]at h;cases h;rfl
  |false=>rw[hb]at h;cases h
theorem zeG:∀{cs cs':List CVal} {m m':Mt},(∀c∈cs',xk c=true)→mCs cs cs' m=some m'→m'=m
 | [],[],_,_,_,h=>by cases h;rfl
 |c::cs,c'::cs',m,m',hp,h=>by
  simp only[mCs]at h;split at h
  ·rename_i m1 h1;rw[zeG (fun c hc=>hp c (List.mem_cons_of_mem _ hc)) h]
   exact zhl (hp c' (List.mem_cons_self ..)) h1
  ·cases h
 | [],_::_,_,_,_,h=>by cases h
 |_::_,[],_,_,_,h=>by cases h
def plS:SVal→Prop
 | .one c=>xk c=true
 | .agg cs=>∀c∈cs,xk c=true
def plA:AVal→Prop
 | .s v=>plS v
 | .tup _=>False
theorem zm9{m m':Mt}{v v':SVal}(hp:plS v')(h:mS m v v'=some m'):m'=m:=by
 cases v<;>cases v'<;>simp only[mS]at h
 ·exact zhl hp h
 ·cases h
 ·cases h
 ·exact zeG hp h
theorem zna:∀{vs vs':List AVal} {m m':Mt},(∀v∈vs',plA v)→mA vs vs' m=some m'→m'=m:=by
 intro vs
 induction vs with
 |nil=>
  intro vs' m m' _ h;cases vs' with
  |nil=>cases h;rfl
  |cons v l=>simp only[mA]at h;cases h
 |cons v vs ih=>
  intro vs' m m' hp h;cases vs' with
  |nil=>cases v<;>cases h
  |cons v' vs'=>
   cases v with
   |tup l=>cases h
   |s v=>
    cases v' with
    |tup l=>cases h
    |s v'=>
     simp only[mA]at h;split at h
     ·rename_i m1 h1;rw[ih (fun c hc=>hp c (List.mem_cons_of_mem _ hc)) h]
      exact zm9 (hp (.s v') (List.mem_cons_self ..)) h1
     ·cases h
theorem zk8{s:CE.Sum}{vs:List AVal}(hp:∀v∈vs,plA v)(h h':AHeap):s.fits vs h=s.fits vs h':=by
 unfold Sum.fits;cases hm:mA s.args vs ⟨.nil,.nil,[]⟩ with
 |none=>rfl
 |some m=>rw[zna hp hm];rfl
theorem zaf{g:Nat}{vs:List AVal}(hp:∀v∈vs,plA v)(h h':AHeap):∀l:List CE.Sum,xQ g vs h l=xQ g vs h' l
 | []=>rfl
 |s::l=>by simp only[xQ,zk8 hp h h',zaf hp h h' l]
theorem zeg{fz:BN→Prop}{h:AHeap}:∀{ds:List DV} {cs cs':List CVal},zgQ ds=some cs'→RepL fz h cs ds→cs=cs'∧∀c∈cs',xk c=true
 | [],cs,cs',e,H=>by
  cases e;have:=H.1;exact⟨List.length_eq_zero_iff.1 (by simpa using this),fun c hc=>by cases hc⟩
 |d::ds,cs,cs',e,H=>by
  simp only[zgQ]at e;split at e
  ·rename_i c1 cs1 h1 h2;cases e;cases cs with
   |nil=>have:=H.1;simp at this
   |cons c cs=>
    obtain⟨ha,hb⟩:=H.inv;obtain⟨k1,k2⟩:=zeg h2 hb;refine⟨by rw[ha.scal h1,k1],fun x hx=>?_⟩
    rcases List.mem_cons.1 hx with rfl|hx
    ·exact zb7 h1
    ·exact k2 x hx
  ·cases e
theorem zr8{fz:BN→Prop}{h:AHeap}{d:DS}{v v':SVal}(e:avS d=some v')(H:RepS fz h v d):v=v'∧plS v':=by
 cases d with
 |one d=>
  simp only[avS]at e;split at e
  ·rename_i c hc;cases e;cases v with
   |one x=>exact⟨by rw[Rep.scal H hc],zb7 hc⟩
   |agg l=>exact H.elim
  ·cases e
 |agg ds=>
  simp only[avS]at e;split at e
  ·rename_i cs hc;cases e;cases v with
   |one x=>exact H.elim
   |agg l=>obtain⟨k1,k2⟩:=zeg hc H;exact⟨by rw[k1],k2⟩
  ·cases e
theorem zon{fz:BN→Prop}{h:AHeap}:∀{ds:List DA} {vs vs':List AVal},avs ds=some vs'→RepAL fz h vs ds→vs=vs'∧∀v∈vs',plA v
 | [],vs,vs',e,H=>by
  cases e;cases vs with
  |nil=>exact⟨rfl,fun v hv=>by cases hv⟩
  |cons v l=>exact H.elim
 | .tup _::_,_,_,e,_=>by cases e
 | .s d::ds,vs,vs',e,H=>by
  simp only[avs]at e;split at e
  ·rename_i v1 vs1 h1 h2;cases e;cases vs with
   |nil=>exact H.elim
   |cons v vs=>
    obtain⟨ha,hb⟩:=H;obtain⟨w,rfl,hw⟩:=RepA.inv ha;obtain⟨k1,k2⟩:=zon h2 hb;obtain⟨k3,k4⟩:=zr8 h1 hw;refine⟨by rw[k1,k3],fun x hx=>?_⟩
    rcases List.mem_cons.1 hx with rfl|hx
    ·exact k4
    ·exact k2 x hx
  ·cases e
theorem zn0{fz:BN→Prop}{h:AHeap}{c:CVal}{d:DV}(e:ofC c=some d):Rep fz h c d:=by
 cases c<;>simp only[ofC]at e<;>cases e
 ·exact .bool _
 ·exact .int _ _
 ·exact .str _
 ·exact .nilp
 ·exact .nils
 ·exact .nilm
 ·exact .nilf
 ·exact .nili
theorem zkb{fz:BN→Prop}{h:AHeap}:∀{cs:List CVal} {ds:List DV},ofCs cs=some ds→RepL fz h cs ds
 | [],_,e=>by cases e;exact RepL.nil _ _
 |c::cs,ds,e=>by
  simp only[ofCs]at e;split at e
  ·rename_i d1 ds1 h1 h2;cases e;exact RepL.cons (zn0 h1) (zkb h2)
  ·cases e
theorem znZ{fz:BN→Prop}{h:AHeap}{v:SVal}{d:DS}(e:ofS v=some d):RepS fz h v d:=by
 cases v<;>simp only[ofS]at e<;>split at e
 ·rename_i h1;cases e;exact zn0 h1
 ·cases e
 ·rename_i h1;cases e;exact zkb h1
 ·cases e
theorem zka{fz:BN→Prop}{h:AHeap}:∀{vs:List SVal} {ds:List DS},ofSs vs=some ds→RepSL fz h vs ds
 | [],_,e=>by cases e;trivial
 |c::cs,ds,e=>by
  simp only[ofSs]at e;split at e
  ·rename_i d1 ds1 h1 h2;cases e;exact⟨znZ h1,zka h2⟩
  ·cases e
theorem zq6{fz:BN→Prop}{h:AHeap}{v:AVal}{d:DA}(e:ofA v=some d):RepA fz h v d:=by
 cases v<;>simp only[ofA]at e<;>split at e
 ·rename_i h1;cases e;exact znZ h1
 ·cases e
 ·rename_i h1;cases e;exact zka h1
 ·cases e
theorem zoF{P:Program}{ids:List Nat}{sums:List CE.Sum}:jB (sumB ids sums) (fun n=>yu (z5 P) (cFs (xX P)) sums n):=by
 intro g args res e fz h vs hw hfz H;unfold sumB at e;cases hi:ids.any (Nat.beq g) with
 |false=>rw[hi]at e;cases e
 |true=>
  rw[hi]at e;simp only[cond_true]at e;split at e
  ·rename_i vs' hvs;split at e
   ·rename_i v hv;obtain⟨rfl,hp⟩:=zon hvs H;rw[zaf hp _ h]at hv;refine (Ev.sum hv).mono ?_
    rintro _ rfl
    exact⟨hw,.refl h,zq6 e⟩
   ·cases e
  ·cases e
end Go.PE
end
section
namespace Go.PE
open Go Go.CE Go.RowKit
section
variable {P:Program} {sums:List CE.Sum} {O:Orc}
theorem znE(hs:∀s∈sums,jf P s)(hO:jB O (fun n=>yu (z5 P) (cFs (xX P)) sums n)){w:World}(hG:GOk w){g:Nat}{vs:List AVal}{ds:List DA}
  (hr:RepAL (fun b=>b.toNat<(yp w).n.toNat) (yp w) vs ds) (hw:∀x∈vs,wfA (φ0 w) (yp w).n.toNat x) {b:Bool} (e:O g ds=some (.s (.one (.bool b)))):
  CallsIn (FR none) 0 P g (vs.map (zp (φ0 w))).toArray w (fun e w2=>e=.returned (.bool b)∧Below w.heap.size w w2):=by
 obtain⟨⟨v,h2⟩,⟨_,hg,hv⟩,N,hN⟩:=hO g ds _ e (fun b=>b.toNat<(yp w).n.toNat) (yp w) vs (zeN w) (fun b hb=>hb) hr
 refine (zgr w (zdX (zjW P) hs N) hG hw (hN N (LzB _)) hg).mono ?_
 rintro e9 w9 ⟨φ,rfl,hb⟩
 obtain⟨v',hv',h1⟩:=RepA.inv hv;simp only at hv';subst hv';cases v' with
 |agg l=>exact h1.elim
 |one c=>rw[Rep.scal h1 rfl];exact⟨rfl,hb⟩
end
end Go.PE
end
