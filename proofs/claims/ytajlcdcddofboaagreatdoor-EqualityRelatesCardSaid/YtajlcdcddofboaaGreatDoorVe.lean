/-
  Lemmas. No condition.
-/
import Derived.Test.YtajlcdcddofboaaGreatDoorVd
import Derived.Shelf.SlSortCmp.InsertionK
import Derived.Shelf.SlSortCmp.WholeK
section
namespace Go.PE
open Go Go.CE
def paOf:DA→PA
 | .s (.one d)=>.s (.one (.d d))
 | .s (.agg l)=>.s (.agg (l.map .d))
 | .tup l=>.tup l
def zjA(args:List DA):Nat→PA:=fun i=>match args[i]? with|some a=>paOf a|none=>.bad
section
variable (P:Program)
def zkp(lk:Nat→Bool)(ρ:Nat→PA)(os:List PO):ResultVar→Option (List PO×DS)
 | .tmp i=>match ρ i with | .s v=>frV lk os v|_=>none
 | .cell i t=>
  match xY P t,ρ i with
  |some n,.s (.one (.ptr k off))=>
   match og os k with
   | .box cs=>
    match n with
    |none=>match cs[off]? with|some c=>frV lk os (.one c)|none=>none
    |some n=>bif Nat.ble (off+n) cs.length then frV lk os (.agg ((cs.drop off).take n)) else none
   |_=>none
  |_,_=>none
def jg(lk:Nat→Bool)(ρ:Nat→PA):List PO→List ResultVar→Option (List DS×List PO)
 |os,[]=>some ([],os)
 |os,x::l=>
  match zkp P lk ρ os x with
  |some (os',d)=>match jg lk ρ os' l with|some (ds,os'')=>some (d::ds,os'')|none=>none
  |none=>none
def zyN:List DS→DA
 | [d]=>.s d
 |l=>.tup l
def zyD(rs:List ResultVar):Zh→(Nat→PA)→List PO→Option DA
 | .exit _,_,_=>none
 | .normal,ρ,os=>match jg P (fun _=>false) ρ os rs with|some (l,_)=>some (zyN l)|none=>none
 | .ret,ρ,os=>match jg P (fun _=>false) ρ os rs with|some (l,_)=>some (zyN l)|none=>none
def zyW(lk:Nat→Bool)(ρ:Nat→PA)(os:List PO):List ResultVar→Option (PA×List PO)
 | [.tmp i]=>match ρ i with | .s v=>some (.s v,os)|_=>none
 | [.cell i t]=>
  match xY P t,ρ i with
  |some n,.s (.one (.ptr k off))=>
   match og os k with
   | .box cs=>
    match n with
    |none=>match cs[off]? with|some c=>some (.s (.one c),os)|none=>none
    |some n=>bif Nat.ble (off+n) cs.length then some (.s (.agg ((cs.drop off).take n)),os) else none
   |_=>none
  |_,_=>none
 |rs=>match jg P lk ρ os rs with|some (l,os')=>some (.tup l,os')|none=>none
def zaE(az:List PA):Nat→PA:=fun i=>match az[i]? with|some a=>a|none=>.bad
structure Red where
 r:Nat→List PA→Option (Bool×Nat×List PA)
 s:Nat→Option Srt
def zt4:Red:=⟨fun _ _=>none,zt3⟩
def zAr:DV→Option Int
 | .int .i64 n=>some n
 |_=>none
def zsD:List DV→Option (List Int)
 | []=>some []
 |d::l=>match zAr d,zsD l with|some n,some ns=>some (n::ns)|_,_=>none
def zhc(st:Nat):List (List DV)→Option (List (List Int))
 | []=>some []
 |x::l=>match zsD x,zhc st l with|some r,some rs=>bif Nat.beq r.length st then some (r::rs) else none|_,_=>none
def enZ(r:List Int):List DV:=r.map (DV.int .i64)
def zyx(st:Nat):OC→Option OC
 |none=>some none
 |some xs=>match zhc st xs with|some l=>bif Nat.ble (l.length+1) 4611686018427387904 then some (some ((kV l).map enZ)) else none|none=>none
def zyK(l:List Nat):PC→Bool
 | .d (.fn f' [])=>l.any (Nat.beq f')
 |_=>false
def zzF{β:Type}(t:Srt)(lk:Nat→Bool)(az:List PA)(os:List PO)(K:PA→List PO→Option β):Option β:=
 match az with
 | [.s (.one (.d .nils)),.s (.one c)]=>bif zyK t.f c then K (.tup []) os else none
 | [.s (.one (.own k)),.s (.one c)]=>
  bif zyK t.f c && !lk k then
   match og os k with
   | .arr st v=>bif Nat.beq st t.st then za (zyx st v) fun v'=>K (.tup []) (oset (.arr st v') os k) else none
   |_=>none
  else none
 |_=>none
noncomputable def zzP(O:Orc)(tab:Nat→Bool)(Y:Inl)(an:Nat→List PA→Nat→Nat→Option LA)(R:Red)(g:Nat)(lk:Nat→Bool)(az:List PA)(os:List PO){β:Type}(K:PA→List PO→Option β):Option β:=
 match az with
 | .s (.one (.own j))::rest=>
  match og os j with
  | .arr st v=>
   bif lk j then none else
   match frA (fun i=>lk i||Nat.beq i j) os rest with
   |some (os1,ds)=>
    match R.s g with
    |some _=>none
    |none=>
    match P.funcs[g]? with
    |some fn=>
     match fn.body with
     |some c=>
      bif (zxu P fn.results.toList).isNone||fn.name == "runtime.NumGoroutine" then none else bif Nat.ble az.length fn.ntmps then
       vO P O tab Y fn.ntmps (an (zx8+g) az 1) c (fun _=>false) 0 (zaE (pc (.own 0)::ds.map paOf)) [.arr st v] (fun ex ρ os2=>
        match zyD P fn.results.toList ex ρ os2 with
        |some d=>K (paOf d) (oset .dead os1 j)
        |none=>none)
      else none
     |none=>none
    |none=>none
   |none=>none
  |_=>none
 |_=>none
noncomputable def inl(O:Orc)(tab:Nat→Bool)(an:Nat→List PA→Nat→Nat→Option LA)(R:Red):Nat→Inl
 |0=>fun _ _ _ _ _ _=>none
 |k+1=>fun g lk az os β K=>
  bif Nat.ble zx8 g then zzP P O tab (inl O tab an R k) an R (Nat.sub g zx8) lk az os K else
  match R.s g with
  |some t=>zzF t lk az os K
  |none=>
  match R.r g az with
  |some (b,g',as')=>bif b then inl O tab an R k g' lk as' os β (fun _ os'=>K (.tup []) os') else none
  |none=>
  match P.funcs[g]? with
  |some fn=>
   match fn.body with
   |some c=>
    bif (zxu P fn.results.toList).isNone||fn.name == "runtime.NumGoroutine" then none else bif Nat.ble az.length fn.ntmps then
     vO P O tab (inl O tab an R k) fn.ntmps (an g az os.length) c lk 0 (zaE az) os (fun ex ρ os'=>
      match ex with
      | .exit _=>none
      |_=>match zyW P lk ρ os' fn.results.toList with|some (a,os'')=>K a os''|none=>none)
    else none
   |none=>none
  |none=>none
noncomputable def zyb(O:Orc)(tab:Nat→Bool)(Y:Inl)(an:Nat→Option LA)(g:Nat)(args:List DA):Option DA:=
 match P.funcs[g]? with
 |some fn=>
  match fn.body with
  |some c=>bif (zxu P fn.results.toList).isNone||fn.name == "runtime.NumGoroutine" then none else bif Nat.ble args.length fn.ntmps then vO P O tab Y fn.ntmps an c (fun _=>false) 0 (zjA args) [] (zyD P fn.results.toList) else none
  |none=>none
 |none=>none
end
section
variable {P:Program} {E:En}
theorem RepPA.paOf{N:Nm}{v:Zb}{d:DA}(H:RepA N.fz N.h v d):RepPA N v (PE.paOf d):=by
 cases d with
 |s d=>
  obtain⟨w,rfl,hw⟩:=H.inv;cases d with
  |one d=>
   cases w with
   |one c=>exact uk hw
   |agg l=>exact hw.elim
  |agg ds=>
   cases w with
   |one c=>exact hw.elim
   |agg l=>exact RepPA.of (v:=.agg l) (p:=.agg _) (RepPL.ofD hw)
 |tup l=>
  cases v with
  |s v=>exact H.elim
  |tup vs=>exact H
theorem RepAL.get{fz:BN→Prop}{h:Za}:∀{vs:List Zb} {ds:List DA},RepAL fz h vs ds→vs.length=ds.length∧∀(i:Nat) (v:Zb) (d:DA),vs[i]? = some v→ds[i]? = some d→RepA fz h v d
 | [],[],_=>⟨rfl,fun i v d e=>by simp at e⟩
 |v::vs,d::ds,H=>by
  obtain⟨a,b⟩:=RepAL.get H.2;refine⟨by simp[a],fun i v' d' hv hd=>?_⟩;cases i with
  |zero=>simp only[Yzg,Option.some.injEq]at hv hd;subst hv;subst hd;exact H.1
  |succ i=>exact b i v' d' (by simpa using hv) (by simpa using hd)
 | [],_::_,H=>H.elim
 |_::_,[],H=>H.elim
theorem zdG(args:List Zb)(i:Nat):zwU (wt .z .nil args) i=(args[i]?).getD yh:=by
 have h:=zaD args 0 .nil i;have hn:(Tr.nil:Tr Zb).get (bn i)=none:=by cases bn i<;>rfl
 rw[Yzb (by omega),hn,Nat.sub_zero,Option.or_none]at h;show zxO (bn i) (wt .z .nil args)=_;unfold zxO;rw[show (wt .z .nil args).get (bn i)=args[i]? from h];cases args[i]?<;>rfl
theorem zeE:∀(l:List Zb) (n:Nat),l.length≤n→zyi l n=true
 | [],_,_=>rfl
 |_::l,0,h=>by simp at h
 |_::l,n+1,h=>by
  show (bif Nat.beq (n+1) 0 then false else zyi l n)=true;rw[zeE l n (by simpa using h)];rfl
theorem zru{lk:Nat→Bool}{os os':List PO}{N:Nm}{r:Fr}{ρ:Nat→PA}{x:ResultVar}{d:DS}(I:Zf E N os)(F:∀i,RepPA N (r i) (ρ i))(e:zkp P lk ρ os x=some (os',d)):
  ∃N' sv,Fz N N'∧Stp E lk N os [] N' os'∧zcU P r N.h x=some sv∧RepS N'.fz N'.h sv d:=by
 cases x with
 |tmp i=>
  simp only[zkp]at e;split at e
  ·rename_i p hp;have:=F i;rw[hp]at this;obtain⟨w,hw,hv⟩:=this.inv;obtain⟨N',f,S,R⟩:=zgb I hv e;exact⟨N',w,f,S,by simp only[zcU,hw,zzo],R⟩
  ·cases e
 |cell i t=>
  simp only[zkp]at e;split at e
  ·rename_i n k off hn hp;have:=F i;rw[hp]at this;obtain⟨w,hw,hk,b,hb,rfl⟩:=yk this;split at e
   ·rename_i cs ho;obtain⟨b',vs,h1,h2,h3,h4⟩:=uU I ho;rw[hb]at h1;cases h1;have hl:=h4.len;have run:zcU P r N.h (.cell i t)=uH n off (some (.cells vs 0)):=by
     simp only[zcU,hn,hw,zzp,h3]
    cases n with
    |none=>
     simp only at e;cases hc:cs[off]? with
     |none=>rw[hc]at e;cases e
     |some c=>
      rw[hc]at e;have hi:=(Lz0.1 hc).1;obtain⟨v,hv⟩:∃v,vs[off]? = some v:=⟨_,Lz5 (by omega)⟩;obtain⟨N',f,S,R⟩:=zgb (v:=.one v) (p:=.one c) I (h4.get hv hc) e;refine⟨N',.one v,f,S,?_,R⟩;rw[run];simp only[uH,xO,hv]
    |some n=>
     simp only at e;cases hle:Nat.ble (off+n) cs.length with
     |false=>rw[hle]at e;cases e
     |true=>
      rw[hle]at e;have hle:=Lz4 hle;obtain⟨N',f,S,R⟩:=zgb (v:=.agg ((vs.drop off).take n)) (p:=.agg ((cs.drop off).take n)) I ((h4.drop off).take n) e;refine⟨N',_,f,S,?_,R⟩;rw[run];simp only[uH,zcz vs n off (by omega)]
   ·cases e
  ·cases e
theorem jh{lk:Nat→Bool}{r:Fr}{ρ:Nat→PA}:∀{l:List ResultVar} {os os':List PO} {N:Nm} {ds:List DS},Zf E N os→(∀i,RepPA N (r i) (ρ i))→jg P lk ρ os l=some (ds,os')→
  ∃N' svs,Fz N N'∧Zf E N' os'∧Nx N N'∧(∀j,lk j=true→og os' j=og os j)∧kC P r N.h l=some svs∧RepSL N'.fz N'.h svs ds
 | [],os,os',N,ds,I,F,e=>by cases e;exact⟨N,[],.refl N,I,.refl N,fun _ _=>rfl,rfl,trivial⟩
 |x::l,os,os',N,ds,I,F,e=>by
  simp only[jg]at e;cases h1:zkp P lk ρ os x with
  |none=>rw[h1]at e;cases e
  |some q=>
   obtain⟨os1,d⟩:=q;rw[h1]at e;simp only at e;cases h2:jg P lk ρ os1 l with
   |none=>rw[h2]at e;cases e
   |some q2=>
    obtain⟨ds2,os2⟩:=q2;rw[h2]at e;cases e;obtain⟨N1,sv,f1,S1,k1,R1⟩:=zru I F h1;obtain⟨N2,svs,f2,i2,x2,l2,k2,R2⟩:=jh S1.inv (fun i=>(F i).mono S1.nx) h2;refine⟨N2,sv::svs,f1.trans f2,i2,S1.nx.trans x2,fun j hj=>(l2 j hj).trans (S1.lock j hj),?_,R1.mono x2.fg,R2⟩;rw[f1.h]at k2;simp only[kC,k1,k2,znI,wo]
theorem zjv{h:Za}{fz:BN→Prop}{h':Za}{svs:List SVal}{ds:List DS}(H:RepSL fz h' svs ds):∃v,zcu h (some svs)=some (v,h)∧RepA fz h' v (zyN ds):=by
 match svs,ds,H with
 | [],[],_=>exact⟨.tup [],rfl,trivial⟩
 | [v],[d],H=>exact⟨.s v,rfl,H.1⟩
 |v::w::vs,d::e::ds,H=>exact⟨.tup (v::w::vs),rfl,H⟩
theorem znv{h:Za}{fz:BN→Prop}{h':Za}{svs:List SVal}{ds:List DS}(H:RepSL fz h' svs ds)(hl:ds.length≠1):zcu h (some svs)=some (.tup svs,h):=by
 match svs,ds,H with
 | [],[],_=>rfl
 | [v],[d],_=>exact absurd rfl hl
 |v::w::vs,d::e::ds,H=>rfl
theorem zfF{lk:Nat→Bool}{ρ:Nat→PA}:∀{l:List ResultVar} {os os':List PO} {ds:List DS},jg P lk ρ os l=some (ds,os')→ds.length=l.length
 | [],_,_,_,e=>by cases e;rfl
 |x::l,os,os',ds,e=>by
  simp only[jg]at e;cases h1:zkp P lk ρ os x with
  |none=>rw[h1]at e;cases e
  |some q=>
   obtain⟨os1,d⟩:=q;rw[h1]at e;simp only at e;cases h2:jg P lk ρ os1 l with
   |none=>rw[h2]at e;cases e
   |some q2=>obtain⟨ds2,os2⟩:=q2;rw[h2]at e;cases e;simp[zfF h2]
theorem zlW{lk:Nat→Bool}{os os':List PO}{N:Nm}{r:Fr}{ρ:Nat→PA}{l:List ResultVar}{a:PA}(I:Zf E N os)(F:∀i,RepPA N (r i) (ρ i))(e:zyW P lk ρ os l=some (a,os')):
  ∃N' svs v,N'.h=N.h∧Zf E N' os'∧Nx N N'∧(∀j,lk j=true→og os' j=og os j)∧kC P r N.h l=some svs∧zcu N.h (some svs)=some (v,N.h)∧RepPA N' v a:=by
 unfold zyW at e;split at e
 ·rename_i i;split at e
  ·rename_i v hp;cases e;have:=F i;rw[hp]at this;obtain⟨w,hw,hv⟩:=this.inv;exact⟨N,[w],.s w,rfl,I,.refl N,fun _ _=>rfl,by simp only[kC,zcU,hw,zzo,znI,wo],rfl,RepPA.of hv⟩
  ·cases e
 ·rename_i i t;split at e
  ·rename_i n k off hn hp;have:=F i;rw[hp]at this;obtain⟨w,hw,hk,b,hb,rfl⟩:=yk this;split at e
   ·rename_i cs ho;obtain⟨b',vs,h1,h2,h3,h4⟩:=uU I ho;rw[hb]at h1;cases h1;have hl:=h4.len;have run:zcU P r N.h (.cell i t)=uH n off (some (.cells vs 0)):=by
     simp only[zcU,hn,hw,zzp,h3]
    cases n with
    |none=>
     simp only at e;cases hc:cs[off]? with
     |none=>rw[hc]at e;cases e
     |some c=>
      rw[hc]at e;cases e;have hi:=(Lz0.1 hc).1;obtain⟨v,hv⟩:∃v,vs[off]? = some v:=⟨_,Lz5 (by omega)⟩;refine⟨N,[.one v],.s (.one v),rfl,I,.refl N,fun _ _=>rfl,?_,rfl,RepPA.of (v:=.one v) (p:=.one c) (h4.get hv hc)⟩;simp only[kC,run,uH,xO,hv,znI,wo]
    |some n=>
     simp only at e;cases hle:Nat.ble (off+n) cs.length with
     |false=>rw[hle]at e;cases e
     |true=>
      rw[hle]at e;cases e;have hle:=Lz4 hle;refine⟨N,[.agg ((vs.drop off).take n)],.s (.agg ((vs.drop off).take n)),rfl,I,.refl N,fun _ _=>rfl,?_,rfl,RepPA.of (v:=.agg ((vs.drop off).take n)) (p:=.agg ((cs.drop off).take n)) ((h4.drop off).take n)⟩;simp only[kC,run,uH,zcz vs n off (by omega),znI,wo]
   ·cases e
  ·cases e
 ·rename_i h1 h2;cases h3:jg P lk ρ os l with
  |none=>rw[h3]at e;cases e
  |some q=>
   obtain⟨ds,os2⟩:=q;rw[h3]at e;cases e;obtain⟨N',svs,f,i,x,lo,k,R⟩:=jh I F h3;have hne:ds.length≠1:=by
    rw[zfF h3];intro hl
    match l,hl with
    | [.tmp i],_=>exact h1 i rfl
    | [.cell i t],_=>exact h2 i t rfl
   exact⟨N',svs,.tup svs,f.h,i,x,lo,k,znv R hne,R⟩
theorem zjm{_fn:Func}{vs:List Zb}{az:List PA}{N:Nm}(H:RepPAL N vs az):(∀i,RepPA N (zwU (wt .z .nil vs) i) (zaE az i))∧vs.length=az.length:=by
 have key:∀{vs:List Zb} {az:List PA},RepPAL N vs az→vs.length=az.length∧∀(i:Nat) (v:Zb) (d:PA),vs[i]? = some v→az[i]? = some d→RepPA N v d:=by
  intro vs
  induction vs with
  |nil=>intro az H;cases az with|nil=>exact⟨rfl,fun i v d e=>by simp at e⟩|cons _ _=>exact H.elim
  |cons v vs ih=>
   intro az H;cases az with
   |nil=>exact H.elim
   |cons d ds=>
    obtain⟨a,b⟩:=ih H.2;refine⟨by simp[a],fun i v' d' hv hd=>?_⟩;cases i with
    |zero=>simp only[Yzg,Option.some.injEq]at hv hd;subst hv;subst hd;exact H.1
    |succ i=>exact b i v' d' (by simpa using hv) (by simpa using hd)
 obtain⟨hl,hg⟩:=key H;refine⟨fun i=>?_,hl⟩;rw[zdG];unfold zaE;cases ha:az[i]? with
 |none=>exact .bad _
 |some a=>
  have hi:=(Lz0.1 ha).1;obtain⟨v,hv⟩:∃v,vs[i]? = some v:=⟨_,Lz5 (by omega)⟩;rw[hv];exact hg i v a hv ha
theorem jK{g:Nat}{vs:List Zb}{h:Za}:∀{sums:List Sum},(∀s∈sums,Nat.beq g s.g=false)→wh g vs h sums=none
 | [],_=>rfl
 |s::l,hs=>by
  simp only[wh];rw[hs s (Yzi ..),Bool.false_and,Yzc];exact jK fun s' h'=>hs s' (Yzf _ h')
def zqa(tab:Nat→Bool)(R:Red)(C:Nat→zg):Prop:=
 ∀{N:Nm} {g g':Nat} {az as':List PA} {vs:List Zb},R.r g az=some (true,g',as')→RepPAL N vs az→tab g'=true∧∃vs',RepPAL N vs' as'∧∀Q,Ev (fun n=>C n (.inl g') vs' N.h) Q→Ev (fun n=>C n (.inl g) vs N.h) (fun p=>p.1=.tup []∧∃v,Q (v,p.2))
theorem zpe{tab:Nat→Bool}{C:Nat→zg}:zqa tab zt4 C:=by
 intro N g g' az as' vs e;cases e
theorem zqe:∀{l:List DV} {r:List Int},zsD l=some r→l=enZ r
 | [],r,e=>by cases e;rfl
 |d::l,r,e=>by
  unfold zsD at e;split at e
  ·rename_i n ns hd hl;cases e;have h1:d=.int .i64 n:=by
    unfold zAr at hd;split at hd
    ·cases hd;rfl
    ·cases hd
   rw[h1,zqe hl];rfl
  ·cases e
theorem ziC{st:Nat}:∀{xs:List (List DV)} {l:List (List Int)},zhc st xs=some l→xs=l.map enZ∧∀r∈l,r.length=st
 | [],l,e=>by cases e;exact⟨rfl,fun r h=>by cases h⟩
 |x::xs,l,e=>by
  unfold zhc at e;split at e
  ·rename_i r rs hx hl;cases hq:Nat.beq r.length st with
   |false=>rw[hq]at e;cases e
   |true=>
    rw[hq,Yza]at e;cases e;obtain⟨h1,h2⟩:=ziC hl;refine⟨by rw[zqe hx,h1];rfl,fun y hy=>?_⟩;rcases YzO.1 hy with rfl|hy
    ·exact Lz1 hq
    ·exact h2 y hy
  ·cases e
theorem ziE{fz:BN→Prop}{h:Za}:∀{cs:List Zc} {r:List Int},RepL fz h cs (enZ r)→cs=r.map (Zc.int .i64)
 | [],[],_=>rfl
 |c::cs,n::r,H=>by
  obtain⟨h1,h2⟩:=RepL.inv H;have:c=.int .i64 n:=by cases h1;rfl
  rw[this,ziE h2];rfl
 | [],_::_,H=>by have:=H.1;simp[enZ]at this
 |_::_,[],H=>by have:=H.1;simp[enZ]at this
theorem j6(fz:BN→Prop)(h:Za):∀r:List Int,RepL fz h (r.map (Zc.int .i64)) (enZ r)
 | []=>RepL.nil _ _
 |_::r=>RepL.cons (.int _ _) (j6 fz h r)
theorem zcE(r:List Int)(l:List (List Int)):y0 (r::l)=r.map (Zc.int .i64)++y0 l:=by
 unfold y0;rw[List.flatten_cons,YzH]
theorem zjJ{fz:BN→Prop}{h:Za}{st:Nat}:∀(l:List (List Int)) (vs:List Zc),vs.length=l.length*st→(∀(i:Nat) (r:List Int),l[i]? = some r→r.length=st∧RepL fz h ((vs.drop (i*st)).take st) (enZ r))→vs=y0 l
 | [],vs,hl,_=>by
  simp at hl;rw[hl];rfl
 |r::l,vs,hl,H=>by
  obtain⟨h1,h2⟩:=H 0 r rfl;rw[Nat.zero_mul,YyM]at h2;have e1:=ziE h2;have e2:=zjJ (fz:=fz) (h:=h) (st:=st) l (vs.drop st) (by rw[List.length_drop,hl,Yzk,Yz6];omega) fun i x hx=>by
   obtain⟨q1,q2⟩:=H (i+1) x (by simpa using hx);rw[Yyd,show st+i*st=(i+1)*st by rw[Yz6];omega];exact⟨q1,q2⟩
  rw[zcE,←e1,←e2,List.take_append_drop]
theorem ziU{st:Nat}:∀(l:List (List Int)),(∀r∈l,r.length=st)→(y0 l).length=l.length*st∧∀(i:Nat) (r:List Int),l[i]? = some r→((y0 l).drop (i*st)).take st=r.map (Zc.int .i64)
 | [],_=>⟨by simp[y0],fun i r h=>by simp at h⟩
 |x::l,H=>by
  have hx:=H x (Yzi ..);obtain⟨h1,h2⟩:=ziU l fun r hr=>H r (Yzf _ hr);rw[zcE];refine⟨by rw[Yzz,Yzj,h1,hx,Yzk,Yz6];omega,fun i r hr=>?_⟩;cases i with
  |zero=>
   simp only[Yzg,Option.some.injEq]at hr;subst hr;rw[Nat.zero_mul,YyM,Yyq (by rw[Yzj];omega),Yyu (by rw[Yzj];omega)]
  |succ i=>
   have e:(i+1)*st=(x.map (Zc.int .i64)).length+i*st:=by rw[Yzj,hx,Yz6];omega
   rw[e,List.drop_append,List.drop_eq_nil_of_le (by omega),Yyc,YzI];exact h2 i r (by simpa using hr)
theorem zlz(l:List (List Int)):(kV l).length=l.length:=(List.mergeSort_perm l _).length_eq
theorem zfr{st:Nat}{l:List (List Int)}(h:∀r∈l,r.length=st):∀r∈kV l,r.length=st:=fun r hr=>h r ((List.mergeSort_perm l _).mem_iff.1 hr)
theorem zrf{sums:List Sum}{srt:Nat→Option Srt}{g:Nat}{t:Srt}(hT:srt g=some t){β:Type}{E:En}{lk:Nat→Bool}{N:Nm}{os:List PO}{az:List PA}{vs:List Zb}{K:PA→List PO→Option β}{x:β}(I:Zf E N os)(RR:RepPAL N vs az)(_hlk:∀j,lk j=true→j<os.length)
  (e:zzF t lk az os K=some x):∃a os',K a os'=some x∧Ev (fun n=>z6 (zX P) (cFs (xm P)) sums srt n (.inl g) vs N.h) (fun p=>∃N',N'.h=p.2∧Zf E N' os'∧Nx N N'∧(∀j,lk j=true→og os' j=og os j)∧RepPA N' p.1 a):=by
 have fnc:∀{v:Zb} {c:PC},RepPA N v (.s (.one c))→zyK t.f c=true→∃f∈t.f,v=.s (.one (.fn f [])):=fun {v c} hv hf=>by
  obtain⟨w,rfl,hw⟩:=hv.inv;unfold zyK at hf;split at hf
  ·rename_i f';rw[List.any_eq_true]at hf;obtain⟨f,hf,hq⟩:=hf;have hq:=Lz1 hq;subst hq;refine⟨_,hf,?_⟩;cases w with
   |agg l=>exact hw.elim
   |one y=>
    have hw:Rep N.fz N.h y (.fn f' []):=hw;cases hw with
    | @fn f ps _ css os' hl h1 h2=>
     have:ps=[]:=List.eq_nil_of_length_eq_zero hl;rw[this]
  ·cases hf
 have two:∀{a b:PA},RepPAL N vs [a,b]→∃v w,vs=[v,w]∧RepPA N v a∧RepPA N w b:=fun {a b} H=>by
  match vs,H with
  | [v,w],H=>exact⟨v,w,rfl,H.1,H.2.1⟩
  | [],H=>exact H.elim
  | [_],H=>exact H.2.elim
  |_::_::_::_,H=>exact H.2.2.elim
 unfold zzF at e;split at e
 ·rename_i c;obtain⟨v,w,rfl,hv,hw⟩:=two RR;cases hf:zyK t.f c with
  |false=>rw[hf]at e;cases e
  |true=>
   rw[hf,Yza]at e;obtain⟨f,hff,rfl⟩:=fnc hw hf;obtain⟨y,rfl,hy⟩:=hv.inv;have:y=.one .nils:=by
    cases y with
    |agg l=>exact hy.elim
    |one y=>have hy:Rep N.fz N.h y .nils:=hy;cases hy;rfl
   subst this;refine⟨.tup [],os,e,(Ev.sort hT (zc6 hff N.h)).mono ?_⟩
   rintro _ rfl
   exact⟨N,rfl,I,.refl N,fun _ _=>rfl,trivial⟩
 ·rename_i k c;obtain⟨v,w,rfl,hv,hw⟩:=two RR;cases hf:(zyK t.f c && !lk k) with
  |false=>rw[hf]at e;cases e
  |true=>
   rw[hf,Yza]at e;rw[LzC]at hf;obtain⟨hf,hlkk⟩:=hf;obtain⟨f,hff,rfl⟩:=fnc hw hf;obtain⟨y,rfl,hy⟩:=hv.inv;have hyk:k<N.n∧y=.one (N.μ k):=by
    cases y with
    |agg l=>exact hy.elim
    |one y=>have hy:k<N.n∧y=N.μ k:=hy;exact⟨hy.1,by rw[hy.2]⟩
   obtain⟨hk,rfl⟩:=hyk;split at e
   ·rename_i st o ho;cases hq:Nat.beq st t.st with
    |false=>rw[hq]at e;cases e
    |true=>
     rw[hq,Yza]at e;have hq:=Lz1 hq;subst hq;have hobj:=I.obj k;rw[ho]at hobj;have hlk':∀o' j,lk j=true→og (oset o' os k) j=og os j:=fun o' j hj=>by
      rw[zJ,Yzb]
      rintro⟨rfl,_⟩
      rw[hj]at hlkk;cases hlkk
     cases o with
     |none=>
      have hobj:N.μ k=.nils:=hobj;have e:K (.tup []) (oset (.arr t.st none) os k)=some x:=e;rw[←ho,zbY]at e;rw[hobj];refine⟨.tup [],os,e,(Ev.sort hT (zc6 hff N.h)).mono ?_⟩
      rintro _ rfl
      exact⟨N,rfl,I,.refl N,fun _ _=>rfl,trivial⟩
     |some xs=>
      obtain⟨b,ws,ex,h1,h2,h3,h4,h5⟩:=hobj;unfold zyx at e;simp only at e;cases hr:zhc t.st xs with
      |none=>rw[hr]at e;cases e
      |some l=>
       rw[hr]at e;simp only at e;cases hb:Nat.ble (l.length+1) 4611686018427387904 with
       |false=>rw[hb]at e;cases e
       |true=>
        rw[hb,Yza]at e;have hb:=Lz4 hb;have e:K (.tup []) (oset (.arr t.st (some ((kV l).map enZ))) os k)=some x:=e;obtain⟨rfl,hrow⟩:=ziC hr;have hcs:ws=y0 l:=zjJ (fz:=N.fz) (h:=N.h) (st:=t.st) l ws (by rw[h4,Yzj]) fun i r hi=>by
         obtain⟨q1,q2⟩:=h5 i (enZ r) (by rw[Lz6,hi];rfl);exact⟨hrow r (Lz3 hi),q2⟩
        subst hcs;have ans:=zke (t:=t) hff (b:=b) (cap:=bif ex then(l.map enZ).length else 0) (ex:=ex) (h:=N.h) (l:=l) (len:=(l.map enZ).length) (by rw[Yzj]) hrow h3 (by rw[Yzj];omega);obtain⟨k1,k2⟩:=ziU (kV l) (zfr hrow);have hlive:solid (og os k):=by rw[ho];trivial
        obtain⟨i1,i2,_⟩:=I.put hlive (b:=b) (by rw[h1];rfl) (.cells (y0 (kV l)) t.st) (.arr t.st (some ((kV l).map enZ))) ⟨b,y0 (kV l),ex,by
         show N.μ k=_;rw[h1,Yzj,Yzj,zlz],h2,uI _ _ _,by rw[k1,Yzj],fun i z hz=>by
          rw[Lz6,Yz3]at hz;obtain⟨r,hr,rfl⟩:=hz;refine⟨by unfold enZ;rw[Yzj];exact zfr hrow r (Lz3 hr),?_⟩;rw[k2 i r hr];exact j6 _ _ r⟩
        rw[h1];refine⟨.tup [],_,e,(Ev.sort hT ans).mono ?_⟩
        rintro _ rfl
        exact⟨_,rfl,i1,i2,hlk' _,trivial⟩
   ·cases e
 ·cases e
theorem RepPAL.ofA{N:Nm}:∀{vs:List Zb} {ds:List DA},RepAL N.fz N.h vs ds→RepPAL N vs (ds.map PE.paOf)
 | [],[],_=>trivial
 |_::_,_::_,H=>⟨RepPA.paOf H.1,RepPAL.ofA H.2⟩
 | [],_::_,H=>H.elim
 |_::_,[],H=>H.elim
theorem zsv{sums:List Sum}{O:Orc}{tab:Nat→Bool}{Y:Inl}{an:Nat→List PA→Nat→Nat→Option LA}{R:Red}(hO:u7 O (fun n=>z6 (zX P) (cFs (xm P)) sums R.s n))(hY:Zs tab Y (fun n=>z6 (zX P) (cFs (xm P)) sums R.s n))(hs:∀g,tab g=true→∀s∈sums,Nat.beq g s.g=false)
  {β:Type} {E:En} {lk:Nat→Bool} {N:Nm} {os:List PO} {g j:Nat} {az:List PA} {vs:List Zb} {K:PA→List PO→Option β} {x:β} (ht:tab g=true) (I:Zf E N os) (RR:RepPAL N vs (pc (.own j)::az)) (e:zzP P O tab Y an R g lk (pc (.own j)::az) os K=some x):
  ∃a os',K a os'=some x∧Ev (fun n=>z6 (zX P) (cFs (xm P)) sums R.s n (.inl g) vs N.h) (fun p=>∃N',N'.h=p.2∧Sim E lk N os [j] N' os' p.1 a):=by
 unfold zzP at e;simp only at e;cases ho:og os j with
 |arr st v=>
  rw[ho]at e;simp only at e;cases hlj:lk j with
  |true=>rw[hlj]at e;cases e
  |false=>
   rw[hlj]at e;simp only[Yzc]at e;cases hfa:frA (fun i=>lk i||Nat.beq i j) os az with
   |none=>rw[hfa]at e;cases e
   |some q=>
    obtain⟨os1,ds⟩:=q;rw[hfa]at e;simp only at e;cases hT:R.s g with
    |some t=>rw[hT]at e;cases e
    |none=>
     rw[hT]at e;simp only at e
     match vs,RR with
     | [],RR=>exact RR.elim
     |v0::vr,RR=>
     obtain⟨w0,rfl,hjn,hw0⟩:=yk RR.1;subst hw0;obtain⟨N1,f1,S1,rds⟩:=zjq (lk:=fun i=>lk i||Nat.beq i j) I RR.2 hfa;have hoj1:og os1 j=.arr st v:=(S1.lock j (by simp)).trans ho;have I1:=S1.inv;have hh:N1.h=N.h:=f1.h;have hμ:N1.μ=N.μ:=f1.μ;have hjl1:j<os1.length:=un (by rw[hoj1];intro h;cases h);have hO1:=I1.obj j;rw[hoj1]at hO1;have hnfb:∀b,blk (N.μ j)=some b→¬N1.fz b∧v≠none∧∃y,N.h.t.get b=some y:=fun b hb=>by
      cases v with
      |none=>rw[←hμ,show N1.μ j=.nils from hO1]at hb;cases hb
      |some xs=>
       obtain⟨b',ws,ex,h1,h2,h3,_⟩:=hO1;rw[←hμ,h1]at hb;cases hb;exact⟨h2,by simp,_,by rw[←hh];exact h3⟩
     have hlive:∀b,blk (N.μ j)=some b→live (og os1 j):=fun b hb=>by
      rw[hoj1];cases v with
      |none=>exact absurd rfl (hnfb b hb).2.1
      |some xs=>trivial
     cases hf:P.funcs[g]? with
     |none=>rw[hf]at e;cases e
     |some fn=>
      rw[hf]at e;simp only at e;cases hb:fn.body with
      |none=>rw[hb]at e;cases e
      |some c=>
       rw[hb]at e;simp only at e;cases hc:((zxu P fn.results.toList).isNone||fn.name == "runtime.NumGoroutine") with
       |true=>rw[hc]at e;cases e
       |false=>
        rw[hc]at e;simp only[Yzc]at e;cases hl:Nat.ble (pc (.own j)::az).length fn.ntmps with
        |false=>rw[hl]at e;cases e
        |true=>
         rw[hl]at e;simp only[Yza]at e;have hll:=Lz4 hl
         let E0:En:=⟨N.h,N1.fz,fun b=>blk (N.μ j)=some b⟩
         let N0:Nm:=⟨fun _=>N.μ j,1,N1.fz,N.h⟩
         have hfzlt:∀b,N1.fz b→b.toNat<N.h.n.toNat:=fun b hb=>by rw[←hh];exact I1.fzlt b hb
         have g0:∀k,live (og [PO.arr st v] k)→k=0:=fun k hl=>by
          cases k with
          |zero=>rfl
          |succ k=>exact hl.elim
         have I0:Zf E0 N0 [.arr st v]:=⟨I.hw,.refl,hfzlt,fun b hb=>.inl hb,fun b hb=>.inl (hfzlt b hb),rfl,fun k b _ hb=>.inr hb,fun k k' b hl hl' _ _=>(g0 k hl).trans (g0 k' hl').symm,fun k=>by
          cases k with
          |zero=>exact RepO.arr_re (N1:=N1) (N2:=N0) (show N.μ j=N1.μ j by rw[hμ]) rfl hh.symm hO1
          |succ k=>exact trivial,fun t m h=>by
          cases t with
          |zero=>cases h
          |succ t=>cases h⟩
         have rds0:RepAL N0.fz N0.h vr ds:=by
          show RepAL N1.fz N.h vr ds;rw[←hh];exact rds
         have RR0:RepPAL N0 (.s (.one (N.μ j))::vr) (pc (.own 0)::ds.map PE.paOf):=⟨y4 (p:=.own 0) ⟨Nat.zero_lt_one,rfl⟩,RepPAL.ofA rds0⟩;obtain⟨F0,hlen⟩:=zjm (_fn:=fn) RR0;have hlen2:(Zb.s (.one (N.μ j))::vr).length≤fn.ntmps:=by
          have:=RR.2;have hla:∀{a:List Zb} {b:List PA},RepPAL N a b→a.length=b.length:=by
           intro a
           induction a with
           |nil=>intro b H;cases b with|nil=>rfl|cons _ _=>exact H.elim
           |cons _ _ ih=>intro b H;cases b with|nil=>exact H.elim|cons _ _=>simp[ih H.2]
          have:=hla this;simp at hll ⊢;omega
         have run:(fun n=>zyj P g (z6 (zX P) (cFs (xm P)) sums R.s n) n (.s (.one (N.μ j))::vr) N.h)=fun n=>y6 P fn.ntmps (z6 (zX P) (cFs (xm P)) sums R.s n) n c (zwU (wt .z .nil (.s (.one (N.μ j))::vr))) N.h (zx7 P fn.results.toList):=by
          funext n
          unfold zyj;rw[hf];simp only[hb,hc,Yzc];rw[zeE _ fn.ntmps hlen2,Yza]
         have ev:Ev (fun n=>y6 P fn.ntmps (z6 (zX P) (cFs (xm P)) sums R.s n) n c (zwU (wt .z .nil (.s (.one (N.μ j))::vr))) N.h (zx7 P fn.results.toList))
           (fun p=>∃d fz2,K (PE.paOf d) (oset .dead os1 j)=some x∧HW p.2∧GrX E0 p.2∧(∀b,fz2 b→N1.fz b∨E0.nw b)∧RepA fz2 p.2 p.1 d):=by
          refine zet (E:=E0) hO hY c (fun _=>false) 0 (zaE (pc (.own 0)::ds.map PE.paOf)) [.arr st v] N0 _ _ (fun _=>zx7 P fn.results.toList) e I0 F0 (fun j hj=>by cases hj) fun ex ρ1 os2 N2 r1 h1 h2 h3 h4 _ _=>?_;have fin:∀l os3,jg P (fun _=>false) ρ1 os2 fn.results.toList=some (l,os3)→K (PE.paOf (zyN l)) (oset .dead os1 j)=some x→Ev (fun _=>zcu N2.h (kC P r1 N2.h fn.results.toList)) (fun p=>∃d fz2,K (PE.paOf d) (oset .dead os1 j)=some x∧HW p.2∧GrX E0 p.2∧(∀b,fz2 b→N1.fz b∨E0.nw b)∧RepA fz2 p.2 p.1 d):=by
           intro l os3 hl hd;obtain⟨N3,svs,f3,i3,x3,_,k3,R3⟩:=jh (P:=P) h2 h3 hl;obtain⟨v,g1,g2⟩:=zjv (h:=N2.h) R3;rw[k3,g1];exact Ev.some ⟨zyN l,N3.fz,hd,h2.hw,h2.gr,fun b hb=>i3.fzok b hb,by rw[←f3.h];exact g2⟩
          cases ex with
          |exit id=>cases h1
          |normal=>
           simp only[zyD]at h1;cases hl:jg P (fun _=>false) ρ1 os2 fn.results.toList with
           |none=>rw[hl]at h1;cases h1
           |some q=>obtain⟨l,os3⟩:=q;rw[hl]at h1;exact fin l os3 hl h1
          |ret=>
           simp only[zyD]at h1;cases hl:jg P (fun _=>false) ρ1 os2 fn.results.toList with
           |none=>rw[hl]at h1;cases h1
           |some q=>obtain⟨l,os3⟩:=q;rw[hl]at h1;exact fin l os3 hl h1
         obtain⟨⟨v9,h9⟩,⟨d,fz2,hK,hw9,gr9,hfz2,rep9⟩,M,hM⟩:=ev;simp only at hw9 gr9 rep9;refine⟨PE.paOf d,oset .dead os1 j,hK,Ev.call hT (jK (hs g ht)) ?_⟩;rw[run];refine⟨(v9,h9),?_,M,hM⟩;have keep:∀b,b.toNat<N.h.n.toNat→blk (N.μ j)≠some b→h9.t.get b=N.h.t.get b:=fun b hb hne=>gr9.old b hb hne;have hle9:N.h.n.toNat≤h9.n.toNat:=gr9.le
         let fz9:BN→Prop:=fun b=>N1.fz b∨((N.h.n.toNat≤b.toNat∨blk (N.μ j)=some b)∧∃y,h9.t.get b=some y)
         let N':Nm:=⟨N.μ,N.n,fz9,h9⟩
         have nx1:Nx N1 N':=⟨⟨fun _ _ h _=>.inl h,fun b o hf hy=>by
          show h9.t.get b=some o;rw[hh]at hy;rw[keep b (hfzlt b hf) (fun hb=>(hnfb b hb).1 hf)];exact hy⟩,by rw[f1.n];exact LzB _,fun k _=>by rw[hμ]⟩
         have own1:∀k b,live (og os1 k)→blk (N.μ k)=some b→E.nw b:=fun k b hl hb=>I1.own k b hl (by rw[hμ];exact hb);have inv':Zf E N' (oset .dead os1 j):=by
          have lv:∀k,live (og (oset .dead os1 j) k)→k≠j∧live (og os1 k):=fun k hl=>by
           by_cases hk:k=j
           ·subst hk;rw[zJ,Yzd ⟨rfl,hjl1⟩]at hl;exact hl.elim
           ·rw[zJ,Yzb (fun h=>hk h.1)]at hl;exact⟨hk,hl⟩
          refine⟨hw9,⟨YzA I.gr.le hle9,fun b hb hx=>?_⟩,fun b hb=>?_,fun b hb=>?_,fun b hb=>?_,by show N.n=_;rw[yf,←I1.len,f1.n],fun k b hl hb=>own1 k b (lv k hl).2 hb,fun k k' b hl hl' hb hb'=>I1.inj k k' b (lv k hl).2 (lv k' hl').2 (by rw[hμ];exact hb) (by rw[hμ];exact hb'),fun k=>?_,fun t m htm=>?_⟩
          ·have hbn:=Lz9 hb I.gr.le;rw[show N'.h.t.get b=h9.t.get b from rfl,keep b hbn (fun hbj=>by
            rcases own1 j b (hlive b hbj) hbj with h|h
            ·omega
            ·exact hx h)]
           exact I.gr.old b hb hx
          ·rcases hb with hb|⟨_,y,hy⟩
           ·exact Lz9 (hfzlt b hb) hle9
           ·exact hw9 b y hy
          ·rcases hb with hb|⟨hb|hb,_⟩
           ·exact I1.fzok b hb
           ·exact .inr (.inl (YzA I.gr.le hb))
           ·exact .inr (own1 j b (hlive b hb) hb)
          ·rcases hb with hb|⟨_,hy⟩
           ·refine (I1.fzex b hb).imp id fun⟨y,hy⟩=>⟨y,?_⟩;exact nx1.fg.old b y hb hy
           ·exact .inr hy
          ·by_cases hk:k=j
           ·subst hk;rw[zJ,Yzd ⟨rfl,hjl1⟩];trivial
           ·rw[zJ,Yzb (fun h=>hk h.1)];refine (I1.obj k).mono nx1 (by rw[hμ]) fun htd b hb=>?_;obtain⟨b1,x1,k1,k2,k3⟩:=xK htd (I1.obj k);rw[k1]at hb;cases hb;have hblt:b.toNat<N.h.n.toNat:=by rw[hh]at k3;exact I.hw _ _ k3
            have hne:blk (N.μ j)≠some b:=fun hbj=>by
             rcases htd with hl|⟨m,hm⟩
             ·exact hk (I1.inj k j b hl (hlive b hbj) k1 (by rw[hμ];exact hbj))
             ·obtain⟨k',v',n',q1,q2⟩:=I1.lnk_blk hm;have:=I1.inj k' j b (by rw[q1];trivial) (hlive b hbj) (by rw[←q2];exact k1) (by rw[hμ];exact hbj);subst this;rw[hoj1]at q1;cases q1
            refine⟨fun h=>?_,?_⟩
            ·rcases h with h|⟨h|h,_⟩
             ·exact k2 h
             ·omega
             ·exact hne h
            ·show h9.t.get b=N1.h.t.get b;rw[hh];exact keep b hblt hne
          ·by_cases hk:t=j
           ·subst hk;rw[zJ,Yzd ⟨rfl,hjl1⟩]at htm;cases htm
           ·rw[zJ,Yzb (fun h=>hk h.1)]at htm;obtain⟨k',v',n',q⟩:=I1.lnk t m htm;exact⟨k',v',n',by rw[zJ,Yzb (fun h=>by rw[h.1,hoj1]at q;cases q)];exact q⟩
         refine⟨N',rfl,inv',S1.nx.trans nx1,⟨hle9,fun b hb H=>?_⟩,fun i hi=>?_,S1.ho.trans (w1:=[]) (w2:=[j]) (.oset (fun h=>h.elim) (fun _=>.inr (YzE j)) (fun h=>h.elim)),RepPA.paOf (rep9.mono ⟨fun b o hb hy=>?_,fun _ _ _ hy=>hy⟩)⟩
         ·refine keep b hb fun hbj=>?_;refine H j (YzE j) hjn ?_ hbj;rw[ho,←hoj1];exact hlive b hbj
         ·rw[zJ,Yzb (fun h=>by rw[h.1,hlj]at hi;cases hi)];exact S1.lock i (by simp[hi])
         ·rcases hfz2 b hb with h|h|h
          ·exact .inl h
          ·exact .inr ⟨.inl h,o,hy⟩
          ·exact .inr ⟨.inr h,o,hy⟩
 |_=>rw[ho]at e;cases e
theorem zum{sums:List Sum}{O:Orc}{tab:Nat→Bool}{an:Nat→List PA→Nat→Nat→Option LA}{R:Red}(hR:zqa tab R (fun n=>z6 (zX P) (cFs (xm P)) sums R.s n))(hO:u7 O (fun n=>z6 (zX P) (cFs (xm P)) sums R.s n))(hs:∀g,tab g=true→∀s∈sums,Nat.beq g s.g=false)(hG:∀g,tab g=true→Nat.ble zx8 g=false):
  ∀k,Zs tab (inl P O tab an R k) (fun n=>z6 (zX P) (cFs (xm P)) sums R.s n):=by
 intro k
 induction k with
 |zero=>
  refine⟨?_,?_⟩
  ·intro β E lk N os g az vs K x _ _ _ _ e;cases e
  ·intro β E lk N os g j az vs K x _ _ _ e;cases e
 |succ k ihk=>
  refine⟨?_,?_⟩
  rotate_left
  ·intro β E lk N os g j az vs K x ht I RR e;simp only[inl]at e;rw[Yzm (Nat.le_add_right zx8 g),Yza,show Nat.sub (zx8+g) zx8=g from Yyc _ _]at e;exact zsv hO ihk hs ht I RR e
  intro β E lk N os g az vs K x ht I RR hlk e;simp only[inl]at e;rw[hG g ht,Yzc]at e;cases hT:R.s g with
  |some t=>
   rw[hT]at e;exact zrf hT I RR hlk e
  |none=>
  rw[hT]at e;simp only at e;cases hr:R.r g az with
  |some q=>
   obtain⟨b,g',as'⟩:=q;rw[hr]at e;cases b with
   |false=>cases e
   |true=>
    obtain⟨ht',vs',r',h'⟩:=hR hr RR;obtain⟨a,os',q1,q2⟩:=ihk.o ht' I r' hlk e;refine⟨.tup [],os',q1,(h' _ q2).mono ?_⟩
    rintro⟨v,h1⟩ ⟨e1,w,N',e2,i2,x2,l2,_⟩
    cases e1;exact⟨N',e2,i2,x2,l2,trivial⟩
  |none=>
  rw[hr]at e;simp only at e;cases hf:P.funcs[g]? with
  |none=>rw[hf]at e;cases e
  |some fn=>
   rw[hf]at e;simp only at e;cases hb:fn.body with
   |none=>rw[hb]at e;cases e
   |some c=>
    rw[hb]at e;simp only at e;cases hc:((zxu P fn.results.toList).isNone||fn.name == "runtime.NumGoroutine") with
    |true=>rw[hc]at e;cases e
    |false=>
     rw[hc]at e;simp only[Yzc]at e;cases hl:Nat.ble az.length fn.ntmps with
     |false=>rw[hl]at e;cases e
     |true=>
      rw[hl]at e;simp only[Yza]at e;have hll:=Lz4 hl;obtain⟨F0,hlen⟩:=zjm (_fn:=fn) RR;have run:(fun n=>zyj P g (z6 (zX P) (cFs (xm P)) sums R.s n) n vs N.h)=fun n=>y6 P fn.ntmps (z6 (zX P) (cFs (xm P)) sums R.s n) n c (zwU (wt .z .nil vs)) N.h (zx7 P fn.results.toList):=by
       funext n
       unfold zyj;rw[hf];simp only[hb,hc,Yzc];rw[zeE vs fn.ntmps (by omega),Yza]
      have ev:Ev (fun n=>y6 P fn.ntmps (z6 (zX P) (cFs (xm P)) sums R.s n) n c (zwU (wt .z .nil vs)) N.h (zx7 P fn.results.toList)) (fun p=>∃a os' N',K a os'=some x∧N'.h=p.2∧Zf E N' os'∧Nx N N'∧(∀j,lk j=true→og os' j=og os j)∧RepPA N' p.1 a):=by
       refine zet (E:=E) hO ihk c lk 0 (zaE az) os N _ _ (fun _=>zx7 P fn.results.toList) e I F0 hlk fun ex ρ1 os1 N1 r1 h1 h2 h3 h4 h5 _=>?_;cases ex with
       |exit id=>cases h1
       |normal=>
        simp only at h1;cases hr:zyW P lk ρ1 os1 fn.results.toList with
        |none=>rw[hr]at h1;cases h1
        |some q=>
         obtain⟨a,os2⟩:=q;rw[hr]at h1;obtain⟨N2,svs,v,g1,g2,g3,g4,g5,g6,g7⟩:=zlW (P:=P) h2 h3 hr;show Ev (fun _=>zcu N1.h (kC P r1 N1.h fn.results.toList)) _;rw[g5,g6];exact Ev.some ⟨a,os2,N2,h1,g1,g2,h4.trans g3,fun j hj=>(g4 j hj).trans (h5 j hj),g7⟩
       |ret=>
        simp only at h1;cases hr:zyW P lk ρ1 os1 fn.results.toList with
        |none=>rw[hr]at h1;cases h1
        |some q=>
         obtain⟨a,os2⟩:=q;rw[hr]at h1;obtain⟨N2,svs,v,g1,g2,g3,g4,g5,g6,g7⟩:=zlW (P:=P) h2 h3 hr;show Ev (fun _=>zcu N1.h (kC P r1 N1.h fn.results.toList)) _;rw[g5,g6];exact Ev.some ⟨a,os2,N2,h1,g1,g2,h4.trans g3,fun j hj=>(g4 j hj).trans (h5 j hj),g7⟩
      obtain⟨p,⟨a,os',N',q1,q2,q3,q4,q5,q6⟩,M,hM⟩:=ev;refine⟨a,os',q1,Ev.call hT (jK (hs g ht)) ?_⟩;rw[run];exact⟨p,⟨N',q2,q3,q4,q5,q6⟩,M,hM⟩
theorem zrE{sums:List Sum}{R:Red}{O:Orc}{tab:Nat→Bool}{Y:Inl}{an:Nat→Option LA}{g:Nat}{args:List DA}{res:DA}(hO:u7 O (fun n=>z6 (zX P) (cFs (xm P)) sums R.s n))(hY:Zs tab Y (fun n=>z6 (zX P) (cFs (xm P)) sums R.s n))(hs:∀s∈sums,Nat.beq g s.g=false)(hT:R.s g=none)
  (e:zyb P O tab Y an g args=some res):zqY (fun n=>z6 (zX P) (cFs (xm P)) sums R.s n) g args res:=by
 intro fz h vs hw hfz hrep;obtain⟨hlen,hget⟩:=hrep.get;have hfs:wh g vs h sums=none:=by
  clear hrep hlen hget e hO hY
  induction sums with
  |nil=>rfl
  |cons s l ih=>
   simp only[wh];rw[hs s (Yzi ..),Bool.false_and,Yzc];exact ih fun s' h'=>hs s' (Yzf _ h')
 refine Ev.call hT hfs ?_;unfold zyb at e;cases hf:P.funcs[g]? with
 |none=>rw[hf]at e;cases e
 |some fn=>
  rw[hf]at e;simp only at e;cases hb:fn.body with
  |none=>rw[hb]at e;cases e
  |some c=>
   rw[hb]at e;simp only at e;cases hc:((zxu P fn.results.toList).isNone||fn.name == "runtime.NumGoroutine") with
   |true=>rw[hc]at e;cases e
   |false=>
    rw[hc]at e;simp only[Yzc]at e;cases hl:Nat.ble args.length fn.ntmps with
    |false=>rw[hl]at e;cases e
    |true=>
     rw[hl]at e;simp only[Yza]at e;have hll:=Lz4 hl;have run:(fun n=>zyj P g (z6 (zX P) (cFs (xm P)) sums R.s n) n vs h)=fun n=>y6 P fn.ntmps (z6 (zX P) (cFs (xm P)) sums R.s n) n c (zwU (wt .z .nil vs)) h (zx7 P fn.results.toList):=by
      funext n
      unfold zyj;rw[hf];simp only[hb,hc,Yzc];rw[zeE vs fn.ntmps (by omega),Yza]
     rw[run]
     let E0:En:=⟨h,fz,fun _=>False⟩
     let N0:Nm:=⟨fun _=>.nilp,0,fz,h⟩
     have I0:Zf E0 N0 []:=⟨hw,.refl,hfz,fun b hb=>.inl hb,fun b hb=>.inl (hfz b hb),rfl,fun k b hl=>hl.elim,fun k k' b hl=>hl.elim,fun k=>trivial,fun t m h=>(by cases h)⟩;have F0:∀i,RepPA N0 (zwU (wt .z .nil vs) i) (zjA args i):=fun i=>by
      rw[zdG];unfold zjA;cases ha:args[i]? with
      |none=>exact .bad _
      |some a=>
       have hi:=(Lz0.1 ha).1;obtain⟨v,hv⟩:∃v,vs[i]? = some v:=⟨_,Lz5 (by omega)⟩;rw[hv];exact RepPA.paOf (N:=N0) (hget i v a hv ha)
     refine zet (E:=E0) hO hY c (fun _=>false) 0 (zjA args) [] N0 _ (zyD P fn.results.toList) (fun _=>zx7 P fn.results.toList) e I0 F0 (fun j hj=>by cases hj) fun ex ρ1 os1 N1 r1 h1 h2 h3 h4 _ _=>?_;have fin:∀l os2,jg P (fun _=>false) ρ1 os1 fn.results.toList=some (l,os2)→zyN l=res→Ev (fun _=>zcu N1.h (kC P r1 N1.h fn.results.toList)) (fun p=>HW p.2∧Gr h p.2∧RepA (fzN fz h p.2) p.2 p.1 res):=by
      intro l os2 hl hd;obtain⟨N2,svs,f2,i2,x2,_,k2,R2⟩:=jh (P:=P) h2 h3 hl;obtain⟨v,g1,g2⟩:=zjv (h:=N1.h) R2;rw[k2,g1];refine Ev.some ⟨h2.hw,⟨h2.gr.le,fun b hb=>h2.gr.old b hb id⟩,?_⟩;rw[←hd,←f2.h];refine g2.mono ⟨fun b _ hb _=>?_,fun _ _ _ h=>h⟩;rcases i2.fzok b hb with h'|h'
      ·exact .inl h'
      ·exact .inr ⟨h'.elim id False.elim,i2.fzlt b hb⟩
     cases ex with
     |exit id=>cases h1
     |normal=>
      simp only[zyD]at h1;cases hl:jg P (fun _=>false) ρ1 os1 fn.results.toList with
      |none=>rw[hl]at h1;cases h1
      |some q=>obtain⟨l,os2⟩:=q;rw[hl]at h1;cases h1;exact fin l os2 hl rfl
     |ret=>
      simp only[zyD]at h1;cases hl:jg P (fun _=>false) ρ1 os1 fn.results.toList with
      |none=>rw[hl]at h1;cases h1
      |some q=>obtain⟨l,os2⟩:=q;rw[hl]at h1;cases h1;exact fin l os2 hl rfl
end
end Go.PE
end
section
namespace Go.PE
open Go Go.CE
end Go.PE
end
section
namespace Go.PE
open Go Go.CE
section
variable (P:Program) (sums:List CE.Sum) (B:Orc) (an:Nat→Nat→Option LA) (tab:Nat→Bool) (anI:Nat→Nat→List PA→Nat→Nat→Option LA) (R:Red) (d:Nat)
noncomputable def deep:Nat→Orc
 |0=>B
 |k+1=>fun g args=>
  match B g args with
  |some r=>some r
  |none=>bif sums.all (fun s=>!Nat.beq g s.g)&&(R.s g).isNone then zyb P (deep k) tab (inl P (deep k) tab (anI g) R d) (an g) g args else none
end
section
variable {P:Program} {B:Orc} {an:Nat→Nat→Option LA} {sums:List CE.Sum} {tab:Nat→Bool} {anI:Nat→Nat→List PA→Nat→Nat→Option LA} {R:Red} {d:Nat}
theorem ze3(hR:zqa tab R (fun n=>z6 (zX P) (cFs (xm P)) sums R.s n))(hT:∀g,tab g=true→∀s∈sums,Nat.beq g s.g=false)(hG:∀g,tab g=true→Nat.ble zx8 g=false)(hB:u7 B (fun n=>z6 (zX P) (cFs (xm P)) sums R.s n)):∀k,u7 (deep P sums B an tab anI R d k) (fun n=>z6 (zX P) (cFs (xm P)) sums R.s n)
 |0=>hB
 |k+1=>fun g args res e=>by
  simp only[deep]at e;split at e
  ·rename_i r hr;cases e;exact hB g args _ hr
  ·cases hs:(sums.all (fun s=>!Nat.beq g s.g)&&(R.s g).isNone) with
   |false=>rw[hs]at e;cases e
   |true=>
    rw[hs]at e;rw[LzC,Yz1]at hs;exact zrE (ze3 hR hT hG hB k) (zum hR (ze3 hR hT hG hB k) hT hG d) (fun s h=>by simpa using hs.1 s h) (Option.isNone_iff_eq_none.1 hs.2) e
theorem zgh{k g:Nat}{args:List DA}{r:DA}(h:B g args=some r):deep P sums B an tab anI R d k g args=some r:=by
 cases k with
 |zero=>exact h
 |succ k=>simp only[deep,h]
theorem uy{k g:Nat}{args:List DA}(h:B g args=none)(hs:sums.all (fun s=>!Nat.beq g s.g)=true)(hr:(R.s g).isNone=true:=by rfl):deep P sums B an tab anI R d (k+1) g args=zyb P (deep P sums B an tab anI R d k) tab (inl P (deep P sums B an tab anI R d k) tab (anI g) R d) (an g) g args:=by
 simp only[deep,h,hs,hr,YyA,Yza]
end
end Go.PE
end
section
namespace Go.PE
open Go Go.CE
abbrev I6(n:Int):DV:=.int .i64 n
theorem xl(k:IntKind):eqK k k=true:=by cases k<;>rfl
theorem wrap64{n:Int}(h1:-9223372036854775808≤n)(h2:n≤9223372036854775807):wv .i64 n=n:=by
 cases n with
 |ofNat m=>
  show (bif Nat.ble m 9223372036854775807 then(Int.ofNat m) else IntKind.wrap .i64 (.ofNat m))=_;rw[Yzm (by have:(m:Int)≤9223372036854775807:=h2;omega)];rfl
 |negSucc m=>
  show (bif Nat.ble m 9223372036854775807 then(Int.negSucc m) else IntKind.wrap .i64 (.negSucc m))=_;rw[Yzm (by omega)];rfl
section
variable (k:IntKind) (a b:Int)
theorem zi:zwJ .lss (.int k a) (.int k b)=some (.bool (decide (a<b))):=by
 simp only[zwJ,xl,Yza,ur,zAx,oD,jC]
theorem wF:zwJ .leq (.int k a) (.int k b)=some (.bool (decide (a≤b))):=by
 simp only[zwJ,xl,Yza,ur,zAy,oD,zjc]
theorem yH:zwJ .gtr (.int k a) (.int k b)=some (.bool (decide (b<a))):=by
 simp only[zwJ,xl,Yza,ur,zAz,oD,jC]
theorem wG:zwJ .geq (.int k a) (.int k b)=some (.bool (decide (b≤a))):=by
 simp only[zwJ,xl,Yza,ur,zAA,oD,zjc]
theorem wZ:zwJ .eql (.int k a) (.int k b)=some (.bool (a==b)):=by
 simp only[zwJ,xl,Yza,ur,zAB,oD,jO]
theorem ya:zwJ .neq (.int k a) (.int k b)=some (.bool (!(a==b))):=by
 simp only[zwJ,xl,Yza,ur,zAw,oD,jO]
theorem ziQ:zwJ .add (.int k a) (.int k b)=some (.int k (wv k (a+b))):=by
 simp only[zwJ,xl,Yza,ur,zuC,oD];rfl
theorem zeu:zwJ .sub (.int k a) (.int k b)=some (.int k (wv k (a-b))):=by
 simp only[zwJ,xl,Yza,ur,zux,oD];rfl
theorem zo2:zwJ .mul (.int k a) (.int k b)=some (.int k (wv k (a*b))):=by
 simp only[zwJ,xl,Yza,ur,zuA,oD];rfl
theorem zbr(h:b≠0):zwJ .rem (.int k a) (.int k b)=some (.int k (a.tmod b)):=by
 have:(b==0)=false:=by simpa using h
 simp only[zwJ,xl,Yza,ur,zsK,jO,this,Yzc,oD]
theorem zkw(h1:-9223372036854775808≤a+b)(h2:a+b≤9223372036854775807):zwJ .add (I6 a) (I6 b)=some (I6 (a+b)):=by rw[ziQ,wrap64 h1 h2]
theorem zkv(h1:-9223372036854775808≤a-b)(h2:a-b≤9223372036854775807):zwJ .sub (I6 a) (I6 b)=some (I6 (a-b)):=by rw[zeu,wrap64 h1 h2]
theorem zrG(k':IntKind)(h1:-9223372036854775808≤a)(h2:a≤9223372036854775807):yQ .i64 (.int k' a)=some (I6 a):=by
 show some (DV.int .i64 (wv .i64 a))=_;rw[wrap64 h1 h2]
end
theorem zl{β:Type}(q:Bool)(a b:Option β):ifB (.bool q) a b=if q=true then a else b:=by cases q<;>rfl
theorem zb{α β:Type}(a:α)(k:α→Option β):za (some a) k=k a:=rfl
theorem zW{β:Type}(d:DV)(k:DV→Option β):b1 (some (.s (.one d))) k=k d:=rfl
theorem zwF{β:Type}(b:Bool)(k:DV→Option β):b1s (some (.s (.one (.bool b)))) k=k (.bool b):=rfl
theorem zh9{β:Type}(t:IntKind)(n:Int)(k:DV→Option β):b1s (some (.s (.one (.int t n)))) k=k (.int t n):=rfl
theorem zsX{β:Type}(l:List DV)(k:List DV→Option β):bA l.length (some (.s (.agg l))) k=k l:=by
 show (bif Nat.beq l.length l.length then k l else none)=_;rw[Yzu];rfl
end Go.PE
end
section
namespace Go.PE
open Go Go.CE
abbrev U8(n:Int):DV:=.int .u8 n
abbrev U64(n:Int):DV:=.int .u64 n
abbrev S1(d:DV):DA:=.s (.one d)
abbrev SA(l:List DV):DA:=.s (.agg l)
abbrev Bo(b:Bool):DV:=.bool b
abbrev St(s:ByteArray):DV:=.str s
attribute [simp] zi wF yH wG wZ ya zb zW zl
@[simp] theorem ztb{α β:Type}(k:α→Option β):za none k=none:=rfl
@[simp] theorem zwG{β:Type}(k:DV→Option β):b1 none k=none:=rfl
@[simp] theorem yI(q:Bool):zxd (.bool q)=some (.bool (!q)):=rfl
@[simp] theorem ztP:zwO .nils=some (I6 0):=rfl
@[simp] theorem zvl(st:Nat)(xs:List (List DV)):zwO (.lst st xs)=some (I6 (xs.length:Int)):=rfl
@[simp] theorem zvk(st:Nat)(v:OC):zwO (mkL st v)=some (I6 (zwW v:Int)):=by cases v<;>rfl
@[simp] theorem zs7:zep .nils=some true:=rfl
@[simp] theorem ztL(st:Nat)(xs:List (List DV)):zep (.lst st xs)=some false:=rfl
@[simp] theorem zrF(st:Nat):jn st .nils=some []:=rfl
@[simp] theorem zs9(st:Nat)(xs:List (List DV)):jn st (.lst st xs)=some xs:=by
 show (bif Nat.beq st st then some xs else none)=_;rw[Yzu];rfl
@[simp] theorem zs8(st:Nat)(v:OC):jn st (mkL st v)=some (zQ v):=by cases v<;>simp[mkL,zQ]
@[simp] theorem zbX(s:ByteArray):zku (.str s)=some (I6 (s.size:Int)):=rfl
@[simp] theorem wq(n:Nat):Int.ofNat n=(n:Int):=rfl
@[simp] theorem zuc:zwW none=0:=rfl
@[simp] theorem zmZ(xs:List (List DV)):zwW (some xs)=xs.length:=rfl
@[simp] theorem zsM:zQ none=[]:=rfl
@[simp] theorem qh(xs:List (List DV)):zQ (some xs)=xs:=rfl
@[simp] theorem zvn(st:Nat):mkL st none=.nils:=rfl
@[simp] theorem zpr(st:Nat)(xs:List (List DV)):mkL st (some xs)=.lst st xs:=rfl
@[simp] theorem zvp(v:OC):zyf v []=v:=rfl
@[simp] theorem zu1(v:OC)(x:List DV)(l:List (List DV)):zyf v (x::l)=some (zQ v++(x::l)):=rfl
@[simp] theorem we{β:Type}(k:Option β):gd true k=k:=rfl
@[simp] theorem z8{β:Type}(id:Nat)(L:List DV)(M:List OC)(kx:Nat→List DV→List OC→Option β)(kr:List DV→List OC→Option β):yL (some (.exit id,L,M)) kx kr=kx id L M:=rfl
@[simp] theorem jD{β:Type}(L:List DV)(M:List OC)(kx:Nat→List DV→List OC→Option β)(kr:List DV→List OC→Option β):yL (some (.ret,L,M)) kx kr=kr L M:=rfl
@[simp] theorem zt(d:DV)(l:List DV):zwK (d::l) 0=d:=rfl
@[simp] theorem yD(d:DV)(l:List DV)(n:Nat):zwK (d::l) (n+1)=zwK l n:=rfl
@[simp] theorem zZ(d:OC)(l:List OC):zwL (d::l) 0=d:=rfl
@[simp] theorem za1(d:OC)(l:List OC)(n:Nat):zwL (d::l) (n+1)=zwL l n:=rfl
@[simp] theorem y3(d:DV)(l:List DV):atD (d::l) 0=d:=rfl
@[simp] theorem xJ(d:DV)(l:List DV)(n:Nat):atD (d::l) (n+1)=atD l n:=rfl
@[simp] theorem zdP(d:DS)(l:List DS):zwV (d::l) 0=d:=rfl
@[simp] theorem zqO(d:DS)(l:List DS)(n:Nat):zwV (d::l) (n+1)=zwV l n:=rfl
@[simp] theorem zaF(d:DV):dsO (.one d)=d:=rfl
@[simp] theorem zsQ(l:List DV):dsA (.agg l)=l:=rfl
theorem zuX{β:Type}{n:Nat}{l:List DV}(h:l.length=n)(k:List DV→Option β):bA n (some (.s (.agg l))) k=k l:=by subst h;exact zsX l k
theorem zwC{β:Type}{shs:List (Option Nat)}{l:List DS}(h:okT shs l=true)(k:List DS→Option β):bT shs (some (.tup l)) k=k l:=by
 show (bif okT shs l then k l else none)=_;rw[h];rfl
@[simp] theorem zwE{β:Type}(r:DA)(k:Option β):bN (some r) k=k:=rfl
@[simp] theorem zvO:okT [] []=true:=rfl
@[simp] theorem zvN(shs:List (Option Nat))(d:DV)(l:List DS):okT (none::shs) (.one d::l)=okT shs l:=rfl
@[simp] theorem zvP(shs:List (Option Nat))(n:Nat)(ds:List DV)(l:List DS):okT (some n::shs) (.agg ds::l)=(Nat.beq ds.length n&&okT shs l):=rfl
@[simp] theorem zo0(k:IntKind)(n:Int):zyY (.int k n)=some (.int k (wv k (-n))):=by
 show some (DV.int k (wv k (0-n)))=_;rw[Int.zero_sub]
theorem wg{b n:Nat}(hb:b≤4096)(h:n≤1000000000):fits b n=true:=by
 unfold fits;rw[LzC,Nat.ble_eq,Nat.ble_eq];refine⟨?_,by omega⟩;have:n*b≤1000000000*4096:=Nat.mul_le_mul h hb;show (n*b)*2≤_;omega
theorem zq0(n:Int):wv .u64 n=n % 18446744073709551616:=wW .u64 n
theorem zoq(n:Int):wv .u8 n=n % 256:=wW .u8 n
theorem yJ{a b:Int}(h1:-9223372036854775808≤a+b:=by omega)(h2:a+b≤9223372036854775807:=by omega):zwJ .add (I6 a) (I6 b)=some (I6 (a+b)):=zkw a b h1 h2
theorem zfj{a b:Int}(h1:-9223372036854775808≤a-b:=by omega)(h2:a-b≤9223372036854775807:=by omega):zwJ .sub (I6 a) (I6 b)=some (I6 (a-b)):=zkv a b h1 h2
theorem zhp{a b:Int}(h1:-9223372036854775808≤a*b)(h2:a*b≤9223372036854775807):zwJ .mul (I6 a) (I6 b)=some (I6 (a*b)):=by rw[zo2,wrap64 h1 h2]
theorem kP{k:IntKind}{a:Int}(h1:-9223372036854775808≤a:=by omega)(h2:a≤9223372036854775807:=by omega):yQ .i64 (.int k a)=some (I6 a):=zrG a k h1 h2
theorem ztN(k:IntKind)(a b:Int):uK false (.int k a) [.int k b]=some (.int k (min a b)):=by
 simp only[uK,minD,xl,Yza,Yzc,jC]
 congr 2
 by_cases h:b<a
 ·rw[decide_eq_true h];simp only[Yza];omega
 ·rw[decide_eq_false h];simp only[Yzc];omega
theorem ztO(k:IntKind)(a b:Int):uK true (.int k a) [.int k b]=some (.int k (max a b)):=by
 simp only[uK,minD,xl,Yza,jC]
 congr 2
 by_cases h:a<b
 ·rw[decide_eq_true h];simp only[Yza];omega
 ·rw[decide_eq_false h];simp only[Yzc];omega
attribute [simp] ztN ztO
abbrev Sl(α:Type):=Option (List α)
abbrev Sl.els{α:Type}(s:Sl α):List α:=s.getD []
def enL{α:Type}(st:Nat)(f:α→List DV):Sl α→DV
 |none=>.nils
 |some l=>.lst st (l.map f)
section
variable {α:Type} {st:Nat} {f:α→List DV}
@[simp] theorem zvo:enL st f none=.nils:=rfl
theorem zbz(l:List α):enL st f (some l)=.lst st (l.map f):=rfl
@[simp] theorem zwk(v:Sl α):mkL st (v.map (List.map f))=enL st f v:=by cases v<;>rfl
@[simp] theorem zF(v:Sl α):zwO (enL st f v)=some (I6 (v.els.length:Int)):=by cases v<;>simp[enL]
@[simp] theorem zdk(v:Sl α):jn st (enL st f v)=some (v.els.map f):=by cases v<;>simp[enL]
@[simp] theorem ztM(v:Sl α):zep (enL st f v)=some v.isNone:=by cases v<;>rfl
theorem zo1(k:IntKind)(xs:List (List DV))(i:Nat):zwP st (.lst st xs) (.int k (i:Int))=xs[i]?:=by
 show (bif Nat.beq st st then xs[i]? else none)=_;rw[Yzu];rfl
theorem yA(k:IntKind)(v:Sl α)(i:Nat):zwP st (enL st f v) (.int k (i:Int))=(v.els[i]?).map f:=by
 cases v with
 |none=>rfl
 |some l=>rw[zbz,zo1,Lz6];rfl
theorem zU{l:List α}{i:Nat}{x:α}{r:List α}(h:l.drop i=x::r):l[i]? = some x:=by
 have:=Yzr (xs:=l) (i:=i) (j:=0);rw[h]at this
 simpa using this.symm
theorem yq{l:List α}{i:Nat}{x:α}{r:List α}(h:l.drop i=x::r):i<l.length:=(Lz0.1 (zU h)).1
theorem zA{l:List α}{i:Nat}{x:α}{r:List α}(h:l.drop i=x::r):l.drop (i+1)=r:=by
 rw[←Yyd,h];rfl
theorem zN{l:List α}{i:Nat}(h:l.drop i=[]):l.length≤i:=by simpa using h
theorem zV{v:Sl α}{i:Nat}{x:α}{r:List α}(h:v.els.drop i=x::r)(k:IntKind):zwP st (enL st f v) (.int k (i:Int))=some (f x):=by rw[yA,zU h];rfl
end
theorem zwZ{i n:Nat}(h:i<n):decide ((i:Int)<(n:Int))=true:=decide_eq_true (by omega)
theorem xh{i n:Nat}(h:n≤i):decide ((i:Int)<(n:Int))=false:=decide_eq_false (by omega)
def ocL{α:Type}(f:α→List DV)(v:Sl α):OC:=v.map (List.map f)
section
variable {α:Type} {st:Nat} {f:α→List DV}
@[simp] theorem zvm:ocL f (none:Sl α)=none:=rfl
theorem zpa(l:List α):ocL f (some l)=some (l.map f):=rfl
@[simp] theorem y5(v:Sl α):zwW (ocL f v)=v.els.length:=by cases v<;>simp[ocL]
@[simp] theorem yO(v:Sl α):zQ (ocL f v)=v.els.map f:=by cases v<;>simp[ocL]
@[simp] theorem wB(v:Sl α):mkL st (ocL f v)=enL st f v:=by cases v<;>rfl
theorem wJ(v:Sl α)(x:α):(some (v.els.map f++[f x]):OC)=ocL f (some (v.els++[x])):=by simp[ocL]
end
@[simp] theorem yC{α:Type}(l:List α):Sl.els (some l)=l:=rfl
@[simp] theorem ze1{α:Type}:Sl.els (none:Sl α)=[]:=rfl
theorem zxI{k:IntKind}{a b:Nat}(h:b≠0):zwJ .rem (.int k (a:Int)) (.int k (b:Int))=some (.int k ((a % b:Nat):Int)):=by
 rw[zbr k _ _ (by omega)];rfl
theorem zbq{k:IntKind}{n i:Nat}(h:i<n):ul n (.int k (i:Int))=some i:=by
 show (bif Nat.ble (i+1) n then some i else none)=_;rw[Yzm h];rfl
theorem j5{k:IntKind}{xs:List (List DV)}{i:Nat}(h:i<xs.length):xA (some xs) (.int k (i:Int))=some i:=by
 show (bif Nat.ble (i+1) xs.length then some i else none)=_;rw[Yzm h];rfl
theorem zD{f:List DV→List OC→Option PX}{L L':List DV}{M M':List OC}(h:f L M=some (.normal,L',M')):zL f L M=zL f L' M':=by rw[zap,h]
theorem zr{f:List DV→List OC→Option PX}{L L':List DV}{M M':List OC}{id:Nat}(h:f L M=some (.exit id,L',M')):zL f L M=some (.exit id,L',M'):=by rw[zap,h]
theorem zy{f:List DV→List OC→Option PX}{L L':List DV}{M M':List OC}(h:f L M=some (.ret,L',M')):zL f L M=some (.ret,L',M'):=by rw[zap,h]
end Go.PE
end
noncomputable section
namespace Go.PE
open Go Go.CE
def ziw:List DV→Option (List Zc)
 | []=>some []
 |d::l=>match d.scal,ziw l with|some c,some cs=>some (c::cs)|_,_=>none
def avS:DS→Option SVal
 | .one d=>match d.scal with|some c=>some (.one c)|none=>none
 | .agg ds=>match ziw ds with|some cs=>some (.agg cs)|none=>none
def avs:List DA→Option (List Zb)
 | []=>some []
 | .s d::l=>match avS d,avs l with|some v,some vs=>some (.s v::vs)|_,_=>none
 | .tup _::_=>none
def ofC:Zc→Option DV
 | .bool b=>some (.bool b)
 | .int k n=>some (.int k n)
 | .str s=>some (.str s)
 | .nils=>some .nils
 | .nilf=>some .nilf
 | .nilp=>some .nilp
 | .nilm=>some .nilm
 | .nili=>some .nili
 |_=>none
def zzv:List Zc→Option (List DV)
 | []=>some []
 |c::cs=>match ofC c,zzv cs with|some d,some ds=>some (d::ds)|_,_=>none
def ofS:SVal→Option DS
 | .one c=>match ofC c with|some d=>some (.one d)|none=>none
 | .agg cs=>match zzv cs with|some ds=>some (.agg ds)|none=>none
def zzu:List SVal→Option (List DS)
 | []=>some []
 |v::vs=>match ofS v,zzu vs with|some d,some ds=>some (d::ds)|_,_=>none
def ofA:Zb→Option DA
 | .s v=>match ofS v with|some d=>some (.s d)|none=>none
 | .tup vs=>match zzu vs with|some ds=>some (.tup ds)|none=>none
def zyS(ids:List Nat)(sums:List CE.Sum):Orc:=fun g args=>
 bif ids.any (Nat.beq g) then
  match avs args with
  |some vs=>match wh g vs ⟨.z,.nil⟩ sums with|some v=>ofA v|none=>none
  |none=>none
 else none
theorem zc9{d:DV}{c:Zc}(h:d.scal=some c):xD c=true:=by
 cases d<;>simp only[DV.scal]at h<;>first|cases h;rfl|cases h
theorem zi9{m m':Mt}{c c':Zc}(hp:xD c'=true)(h:mC m c c'=some m'):m'=m:=by
 unfold mC at h;split at h
 ·cases c'<;>simp[xD]at hp h
 ·cases c'<;>simp[xD]at hp h
 ·cases hb:(xD c&&eqV c c') with
  |true=>rw[hb]at h;cases h;rfl
  |false=>rw[hb]at h;cases h
theorem zfZ:∀{cs cs':List Zc} {m m':Mt},(∀c∈cs',xD c=true)→mCs cs cs' m=some m'→m'=m
 | [],[],_,_,_,h=>by cases h;rfl
 |c::cs,c'::cs',m,m',hp,h=>by
  simp only[mCs]at h;split at h
  ·rename_i m1 h1;rw[zfZ (fun c hc=>hp c (Yzf _ hc)) h];exact zi9 (hp c' (Yzi ..)) h1
  ·cases h
 | [],_::_,_,_,_,h=>by cases h
 |_::_,[],_,_,_,h=>by cases h
def plS:SVal→Prop
 | .one c=>xD c=true
 | .agg cs=>∀c∈cs,xD c=true
def plA:Zb→Prop
 | .s v=>plS v
 | .tup _=>False
theorem zpt{m m':Mt}{v v':SVal}(hp:plS v')(h:mS m v v'=some m'):m'=m:=by
 cases v<;>cases v'<;>simp only[mS]at h
 ·exact zi9 hp h
 ·cases h
 ·cases h
 ·exact zfZ hp h
theorem zpu:∀{vs vs':List Zb} {m m':Mt},(∀v∈vs',plA v)→mA vs vs' m=some m'→m'=m:=by
 intro vs
 induction vs with
 |nil=>
  intro vs' m m' _ h;cases vs' with
  |nil=>cases h;rfl
  |cons v l=>simp only[mA]at h;cases h
 |cons v vs ih=>
  intro vs' m m' hp h;cases vs' with
  |nil=>cases v<;>cases h
  |cons v' vs'=>
   cases v with
   |tup l=>cases h
   |s v=>
    cases v' with
    |tup l=>cases h
    |s v'=>
     simp only[mA]at h;split at h
     ·rename_i m1 h1;rw[ih (fun c hc=>hp c (Yzf _ hc)) h];exact zpt (hp (.s v') (Yzi ..)) h1
     ·cases h
theorem zns{s:CE.Sum}{vs:List Zb}(hp:∀v∈vs,plA v)(h h':Za):s.fits vs h=s.fits vs h':=by
 unfold Sum.fits;cases hm:mA s.args vs ⟨.nil,.nil,[]⟩ with
 |none=>rfl
 |some m=>rw[zpu hp hm];rfl
theorem za8{g:Nat}{vs:List Zb}(hp:∀v∈vs,plA v)(h h':Za):∀l:List CE.Sum,wh g vs h l=wh g vs h' l
 | []=>rfl
 |s::l=>by simp only[wh,zns hp h h',za8 hp h h' l]
theorem zfy{fz:BN→Prop}{h:Za}:∀{ds:List DV} {cs cs':List Zc},ziw ds=some cs'→RepL fz h cs ds→cs=cs'∧∀c∈cs',xD c=true
 | [],cs,cs',e,H=>by
  cases e;have:=H.1;exact⟨List.length_eq_zero_iff.1 (by simpa using this),fun c hc=>by cases hc⟩
 |d::ds,cs,cs',e,H=>by
  simp only[ziw]at e;split at e
  ·rename_i c1 cs1 h1 h2;cases e;cases cs with
   |nil=>have:=H.1;simp at this
   |cons c cs=>
    obtain⟨ha,hb⟩:=H.inv;obtain⟨k1,k2⟩:=zfy h2 hb;refine⟨by rw[ha.scal h1,k1],fun x hx=>?_⟩;rcases YzO.1 hx with rfl|hx
    ·exact zc9 h1
    ·exact k2 x hx
  ·cases e
theorem zuY{fz:BN→Prop}{h:Za}{d:DS}{v v':SVal}(e:avS d=some v')(H:RepS fz h v d):v=v'∧plS v':=by
 cases d with
 |one d=>
  simp only[avS]at e;split at e
  ·rename_i c hc;cases e;cases v with
   |one x=>exact⟨by rw[Rep.scal H hc],zc9 hc⟩
   |agg l=>exact H.elim
  ·cases e
 |agg ds=>
  simp only[avS]at e;split at e
  ·rename_i cs hc;cases e;cases v with
   |one x=>exact H.elim
   |agg l=>obtain⟨k1,k2⟩:=zfy hc H;exact⟨by rw[k1],k2⟩
  ·cases e
theorem zqT{fz:BN→Prop}{h:Za}:∀{ds:List DA} {vs vs':List Zb},avs ds=some vs'→RepAL fz h vs ds→vs=vs'∧∀v∈vs',plA v
 | [],vs,vs',e,H=>by
  cases e;cases vs with
  |nil=>exact⟨rfl,fun v hv=>by cases hv⟩
  |cons v l=>exact H.elim
 | .tup _::_,_,_,e,_=>by cases e
 | .s d::ds,vs,vs',e,H=>by
  simp only[avs]at e;split at e
  ·rename_i v1 vs1 h1 h2;cases e;cases vs with
   |nil=>exact H.elim
   |cons v vs=>
    obtain⟨ha,hb⟩:=H;obtain⟨w,rfl,hw⟩:=RepA.inv ha;obtain⟨k1,k2⟩:=zqT h2 hb;obtain⟨k3,k4⟩:=zuY h1 hw;refine⟨by rw[k1,k3],fun x hx=>?_⟩;rcases YzO.1 hx with rfl|hx
    ·exact k4
    ·exact k2 x hx
  ·cases e
theorem zqu{fz:BN→Prop}{h:Za}{c:Zc}{d:DV}(e:ofC c=some d):Rep fz h c d:=by
 cases c<;>simp only[ofC]at e<;>cases e
 ·exact .bool _
 ·exact .int _ _
 ·exact .str _
 ·exact .nilp
 ·exact .nils
 ·exact .nilm
 ·exact .nilf
 ·exact .nili
theorem zml{fz:BN→Prop}{h:Za}:∀{cs:List Zc} {ds:List DV},zzv cs=some ds→RepL fz h cs ds
 | [],_,e=>by cases e;exact RepL.nil _ _
 |c::cs,ds,e=>by
  simp only[zzv]at e;split at e
  ·rename_i d1 ds1 h1 h2;cases e;exact RepL.cons (zqu h1) (zml h2)
  ·cases e
theorem zqt{fz:BN→Prop}{h:Za}{v:SVal}{d:DS}(e:ofS v=some d):RepS fz h v d:=by
 cases v<;>simp only[ofS]at e<;>split at e
 ·rename_i h1;cases e;exact zqu h1
 ·cases e
 ·rename_i h1;cases e;exact zml h1
 ·cases e
theorem zmk{fz:BN→Prop}{h:Za}:∀{vs:List SVal} {ds:List DS},zzu vs=some ds→RepSL fz h vs ds
 | [],_,e=>by cases e;trivial
 |c::cs,ds,e=>by
  simp only[zzu]at e;split at e
  ·rename_i d1 ds1 h1 h2;cases e;exact⟨zqt h1,zmk h2⟩
  ·cases e
theorem ztS{fz:BN→Prop}{h:Za}{v:Zb}{d:DA}(e:ofA v=some d):RepA fz h v d:=by
 cases v<;>simp only[ofA]at e<;>split at e
 ·rename_i h1;cases e;exact zqt h1
 ·cases e
 ·rename_i h1;cases e;exact zmk h1
 ·cases e
theorem zre{P:Program}{ids:List Nat}{sums:List CE.Sum}{srt:Nat→Option Srt}(hi:ids.all (fun g=>(srt g).isNone)=true):u7 (zyS ids sums) (fun n=>z6 (zX P) (cFs (xm P)) sums srt n):=by
 intro g args res e fz h vs hw hfz H;unfold zyS at e;cases hj:ids.any (Nat.beq g) with
 |false=>rw[hj]at e;cases e
 |true=>
  rw[hj]at e;have hT:srt g=none:=by
   rw[List.any_eq_true]at hj;obtain⟨i,h1,h2⟩:=hj;rw[Lz1 h2];exact Option.isNone_iff_eq_none.1 (Yz1.1 hi i h1)
  simp only[Yza]at e;split at e
  ·rename_i vs' hvs;split at e
   ·rename_i v hv;obtain⟨rfl,hp⟩:=zqT hvs H;rw[za8 hp _ h]at hv;refine (Ev.sum hT hv).mono ?_
    rintro _ rfl
    exact⟨hw,.refl h,ztS e⟩
   ·cases e
  ·cases e
end Go.PE
end
section
namespace Go.PE
open Go Go.CE Go.RowKit
section
variable {P:Program} {sums:List CE.Sum} {srt:Nat→Option Srt} {O:Orc}
theorem zp2(hs:∀s∈sums,u6 P s)(ht:∀g t,srt g=some t→zid P g t)(hO:u7 O (fun n=>z6 (zX P) (cFs (xm P)) sums srt n)){w:World}(hG:GOk w){g:Nat}{vs:List Zb}{ds:List DA}
  (hr:RepAL (fun b=>b.toNat<(yz w).n.toNat) (yz w) vs ds) (hw:∀x∈vs,wfA (φ0 w) (yz w).n.toNat x) {b:Bool} (e:O g ds=some (.s (.one (.bool b)))):
  CallsIn (FR none) 0 P g (vs.map (zq (φ0 w))).toArray w (fun e w2=>e=.returned (.bool b)∧Below w.heap.size w w2):=by
 obtain⟨⟨v,h2⟩,⟨_,hg,hv⟩,N,hN⟩:=hO g ds _ e (fun b=>b.toNat<(yz w).n.toNat) (yz w) vs (zf7 w) (fun b hb=>hb) hr;refine (zh3 w (zbC (zbS P) hs ht N) hG hw (hN N (LzB _)) hg).mono ?_
 rintro e9 w9 ⟨φ,rfl,hb⟩
 obtain⟨v',hv',h1⟩:=RepA.inv hv;simp only at hv';subst hv';cases v' with
 |agg l=>exact h1.elim
 |one c=>rw[Rep.scal h1 rfl];exact⟨rfl,hb⟩
end
end Go.PE
end
section
namespace Go.PE
open Go Go.CE Go.RowKit
def zgj(P:Program):List Field→Nat→Option Nat
 | [],o=>some o
 |f::l,o=>bif Nat.beq f.offset o then zgj P l (o+P.cellsOf f.type) else none
def zbl(P:Program):Nat→TypeId→Bool
 |0,_=>false
 |n+1,t=>
  match P.underlying t with
  |some .bool=>Nat.beq (P.cellsOf t) 1
  |some (.int _)=>Nat.beq (P.cellsOf t) 1
  |some .string=>Nat.beq (P.cellsOf t) 1
  |some (.slice e)=>zbl P n e&&Nat.ble 1 (P.cellsOf e)&&Nat.beq (P.cellsOf t) 1
  |some (.struct fs)=>(fs.toList.all fun f=>zbl P n f.type)&&(match zgj P fs.toList 0 with|some m=>Nat.beq m (P.cellsOf t)|none=>false)
  |some (.array k e)=>zbl P n e&&Nat.beq (P.cellsOf t) (k*P.cellsOf e)
  |_=>false
def zyE(T:TypeId→List DV→Prop):List TypeId→List DV→Prop
 | [],ds=>ds=[]
 |t::l,ds=>∃a b,ds=a++b∧T t a∧zyE T l b
def Ty(P:Program):Nat→TypeId→List DV→Prop
 |0,_,_=>False
 |n+1,t,ds=>
  match P.underlying t with
  |some .bool=>∃b,ds=[.bool b]
  |some (.int k)=>∃m,ds=[.int k m]∧(Lit.int k m).wf=true
  |some .string=>∃s,ds=[.str s]∧s.size≤maxLen
  |some (.slice e)=>ds=[.nils]∨∃xs,ds=[.lst (P.cellsOf e) xs]∧xs.length≤maxLen∧∀x∈xs,Ty P n e x
  |some (.struct fs)=>zyE (Ty P n) (fs.toList.map (·.type)) ds
  |some (.array k e)=>zyE (Ty P n) (List.replicate k e) ds
  |_=>False
def AbsL(w:World)(cs:List Value)(vs:List Zc):Prop:=cs.map (zxY w)=vs.map some
theorem AbsL.len{w:World}{cs:List Value}{vs:List Zc}(h:AbsL w cs vs):cs.length=vs.length:=by have:=congrArg List.length h;simpa using this
theorem AbsL.get{w:World}{cs:List Value}{vs:List Zc}(h:AbsL w cs vs){i:Nat}{v:Value}(hi:cs[i]? = some v):∃c,vs[i]? = some c∧zxY w v=some c:=by
 have:=congrArg (·[i]?) h;simp only[Lz6,hi,Yzv]at this;cases hv:vs[i]? with
 |none=>rw[hv]at this;cases this
 |some c=>rw[hv]at this;exact⟨c,rfl,by simpa using this⟩
theorem AbsL.app{w:World}{a b:List Value}{x y:List Zc}(h:AbsL w a x)(k:AbsL w b y):AbsL w (a++b) (x++y):=by
 unfold AbsL at *;rw[YzH,YzH,h,k]
theorem AbsL.conc{w:World}:∀{cs:List Value} {vs:List Zc},AbsL w cs vs→vs.map (zj (φ0 w))=cs∧∀c∈vs,wfC (φ0 w) (yz w).n.toNat c
 | [],[],_=>⟨rfl,fun c h=>by cases h⟩
 |v::cs,c::vs,h=>by
  simp only[AbsL,Yzp,List.cons.injEq]at h;obtain⟨k1,k2⟩:=zqU w h.1;obtain⟨k3,k4⟩:=AbsL.conc (show AbsL w cs vs from h.2);refine⟨by rw[Yzp,k1,k3],fun x hx=>?_⟩;rcases YzO.1 hx with rfl|hx
  ·exact k2
  ·exact k4 x hx
 | [],_::_,h=>by cases h
 |_::_,[],h=>by cases h
def okV(w:World)(v:Value):Prop:=∀a,v=.slice (some a) 0 0→(zbk w a.block=true∧a.spot=none)∨a∈zxh w
theorem ziT{w:World}{a:Addr}{v:Value}(h:w.cell? a=some v):okV w v∧a.spot=none∧∃arr e fr,w.heap[a.block]? = some (.cells arr e fr)∧arr[a.off]? = some v:=by
 have key:a.spot=none∧∃arr e fr,w.heap[a.block]? = some (.cells arr e fr)∧arr[a.off]? = some v:=by
  unfold World.cell? at h;split at h
  ·rename_i arr e fr hx;split at h
   ·cases h
   ·rename_i hs;exact⟨by simpa using hs,arr,e,fr,hx,h⟩
  ·cases h
 obtain⟨h1,arr,e,fr,h2,h3⟩:=key;exact⟨fun b hb=>by subst hb;exact .inr (zo9 h2 h3),h1,arr,e,fr,h2,h3⟩
theorem zi8{α β:Type}{f:α→Option β}:∀{l:List α} {r:List β},l.mapM f=some r→r.length=l.length∧∀(i:Nat) (x:α),l[i]? = some x→∃y,r[i]? = some y∧f x=some y
 | [],r,h=>by simp at h;subst h;exact⟨rfl,fun i x hi=>by simp at hi⟩
 |a::l,r,h=>by
  simp only[List.mapM_cons,Yz8,Option.bind_eq_some_iff,Yyn,Option.some.injEq]at h;obtain⟨b,hb,bs,hbs,rfl⟩:=h;obtain⟨k1,k2⟩:=zi8 hbs;refine⟨by simp[k1],fun i x hi=>?_⟩;cases i with
  |zero=>simp at hi;subst hi;exact⟨b,rfl,hb⟩
  |succ i=>simp at hi;obtain⟨y,h1,h2⟩:=k2 i x hi;exact⟨y,by simpa using h1,h2⟩
section
variable {H:Type} {enc:TypeId×Value→H} {P:Program} {w:World} {base:Nat} {held:Bool}
def zjY(P:Program)(w:World)(m:Nat)(t:TypeId)(cs:List Value):Prop:=
 ∃vs ds,AbsL w cs vs∧RepL (fun b=>b.toNat<(yz w).n.toNat) (yz w) vs ds∧Ty P m t ds
theorem zgp{a:Addr}{n:Nat}{cs:List Value}(h:w.cells? base a n=some cs):cs.length=n∧∀j,j<n→∃v,cs[j]? = some v∧w.cell? (a.add j)=some v:=by
 unfold World.cells? at h;split at h
 ·obtain⟨k1,k2⟩:=zi8 h;refine⟨by simpa using k1,fun j hj=>?_⟩;exact k2 j j (by rw[YyO hj])
 ·cases h
theorem zbK{a:Addr}{len cap st:Nat}(hst:1≤st)(hlc:len≤cap){arr:Array Value}{e:TypeId}{fr:Nat×Nat}(hb:w.heap[a.block]? = some (.cells arr e fr))(hsp:a.spot=none)
  (C:Nat→List Zc) (X:Nat→List DV) (hC:∀i,i<len→(C i).length=st∧(X i).length=st∧(∀j c,(C i)[j]? = some c→(arr[a.off+(i*st+j)]?).bind (zxY w)=some c)∧RepL (fun b=>b.toNat<(yz w).n.toNat) (yz w) (C i) (X i)):
  ∃c,zxY w (.slice (some a) len cap)=some c∧Rep (fun b=>b.toNat<(yz w).n.toNat) (yz w) c (.lst st ((List.range len).map X)):=by
 have hd:zbk w a.block=true:=by unfold zbk;rw[hb]
 have hlt:=zjD hd;refine⟨.slc (bn a.block) a.off len cap true,?_,?_⟩
 ·show (bif decide (zbk w a.block=true∧a.spot=none∧len≤cap) then _ else _)=_;rw[decide_eq_true ⟨hd,hsp,hlc⟩];rfl
 ·have hg:(yz w).t.get (bn a.block)=some (zyy w (.cells arr e fr)):=za6 w (by rw[zK];exact hb)
  let L:=(List.range (len*st)).map fun j=>((C (j / st))[j % st]?).getD .nilp
  have hLl:L.length=len*st:=by simp[L]
  have hLg:∀i j,i<len→j<st→∃c,L[i*st+j]? = some c∧(C i)[j]? = some c:=fun i j hi hj=>by
   obtain⟨c,hc⟩:∃c,(C i)[j]? = some c:=⟨_,Lz5 (by rw[(hC i hi).1];exact hj)⟩;refine⟨c,?_,hc⟩;have h1:i*st+j<len*st:=by
    have:(i+1)*st≤len*st:=Yzq st hi;rw[YzJ]at this;omega
   have e1:(i*st+j) / st=i:=by rw[Nat.mul_comm,Nat.mul_add_div (by omega),Nat.div_eq_of_lt hj,Yzw]
   have e2:(i*st+j) % st=j:=by rw[Nat.mul_comm,Nat.mul_add_mod,Nat.mod_eq_of_lt hj]
   simp only[L,Lz6,YyO h1,Yzv,e1,e2,hc,Yyg]
  have hrd:rd (((List.range len).map X).length*st) a.off (zyy w (.cells arr e fr))=some L:=by
   rw[Yzj,List.length_range];refine zhW hLl fun j c hj=>?_;have hjl:j<len*st:=by rw[←hLl];exact(Lz0.1 hj).1
   have hi:j / st<len:=Nat.div_lt_of_lt_mul (by rw[Nat.mul_comm];exact hjl);have hr:j % st<st:=Yz2 _ (by omega);have hj':j / st*st+j % st=j:=by rw[Nat.mul_comm];exact Nat.div_add_mod j st
   obtain⟨c',k1,k2⟩:=hLg (j / st) (j % st) hi hr;rw[hj',hj]at k1;cases k1;have:=(hC _ hi).2.2.1 _ _ k2;rw[hj']at this;exact this
  have hX:∀(i:Nat) (x:List DV),((List.range len).map X)[i]? = some x→i<len∧x=X i:=fun i x hx=>by
   rw[Lz6]at hx;cases hr:(List.range len)[i]? with
   |none=>rw[hr]at hx;cases hx
   |some q=>
    rw[hr]at hx;have hi:i<len:=by have:=(Lz0.1 hr).1;simpa using this
    rw[YyO hi]at hr;cases hr;cases hx;exact⟨hi,rfl⟩
  have:=Rep.lst (fz:=fun b=>b.toNat<(yz w).n.toNat) (h:=yz w) (b:=bn a.block) (o:=zyy w (.cells arr e fr)) (off:=a.off) (cap:=cap) (ex:=true) (st:=st) (xs:=(List.range len).map X) L
   (by rw[zK,qP];omega) hg (fun _=>by simpa using hlc) hrd (fun i x hx=>by obtain⟨hi,rfl⟩:=hX i x hx;exact(hC i hi).2.1)
   (fun i x j c d hx hc hd => by
    obtain⟨hi,rfl⟩:=hX i x hx;have hj:j<st:=by rw[←(hC i hi).2.1];exact(Lz0.1 hd).1
    obtain⟨c',k1,k2⟩:=hLg i j hi hj;rw[hc]at k1;cases k1;exact(hC i hi).2.2.2.2 j c d k2 hd)
  rw[Yzj,List.length_range]at this;exact this
theorem zgw{m n:Nat}{held:Bool}(ih:∀{t:TypeId} {cs:List Value} {x:DataW H×List MemPlace},zbl P m t=true→DataW.trod enc P w base (fun _=>true) held n t cs=some x→(∀v∈cs,okV w v)→zjY P w m t cs∧cs.length=P.cellsOf t):
  ∀(fs:List Field) (o e:Nat) (cs:List Value),(fs.all fun f=>zbl P m f.type)=true→zgj P fs o=some e→e=cs.length→o≤e→
   (∀f∈fs,∃y,DataW.trod enc P w base (fun _=>true) held n f.type ((cs.drop f.offset).take (P.cellsOf f.type))=some y)→(∀v∈cs,okV w v)→
   ∃vs ds,AbsL w (cs.drop o) vs∧RepL (fun b=>b.toNat<(yz w).n.toNat) (yz w) vs ds∧zyE (Ty P m) (fs.map (·.type)) ds
 | [],o,e,cs,_,hc,he,_,_,_=>by
  cases hc;subst he;exact⟨[],[],by simp[AbsL],RepL.nil _ _,rfl⟩
 |f::fs,o,e,cs,hd,hc,he,hle,hm,hok=>by
  simp only[List.all_cons,LzC]at hd;simp only[zgj]at hc;cases hb:Nat.beq f.offset o with
  |false=>rw[hb]at hc;cases hc
  |true=>
   rw[hb,Yza]at hc;have ho:=Lz1 hb;obtain⟨x,hx⟩:=hm f (Yzi ..);rw[ho]at hx;obtain⟨⟨v1,d1,a1,r1,t1⟩,hl⟩:=ih hd.1 hx (fun v hv=>hok v (YyK (YyJ hv)));have hle2:o+P.cellsOf f.type≤cs.length:=by
    simp only[List.length_take,List.length_drop]at hl;rcases Yyw (P.cellsOf f.type) with h0|h0
    ·omega
    ·omega
   obtain⟨v2,d2,a2,r2,t2⟩:=zgw ih fs (o+P.cellsOf f.type) e cs hd.2 hc he (by omega) (fun g hg=>hm g (Yzf _ hg)) hok;refine⟨v1++v2,d1++d2,?_,r1.app r2,d1,d2,rfl,t1,t2⟩;have:cs.drop o=(cs.drop o).take (P.cellsOf f.type)++cs.drop (o+P.cellsOf f.type):=by
    rw[←Yyd,List.take_append_drop]
   rw[this];exact a1.app a2
theorem zjW{m n:Nat}{held:Bool}{e:TypeId}(ih:∀{t:TypeId} {cs:List Value} {x:DataW H×List MemPlace},zbl P m t=true→DataW.trod enc P w base (fun _=>true) held n t cs=some x→(∀v∈cs,okV w v)→zjY P w m t cs∧cs.length=P.cellsOf t)
  (hd : zbl P m e = true) : ∀ (k : Nat) (cs : List Value), cs.length = k * P.cellsOf e → (∀ i, i < k → ∃ x, DataW.trod enc P w base (fun _ => true) held n e ((cs.drop (i * P.cellsOf e)).take (P.cellsOf e)) = some x) → (∀ v ∈ cs, okV w v) →
   ∃vs ds,AbsL w cs vs∧RepL (fun b=>b.toNat<(yz w).n.toNat) (yz w) vs ds∧zyE (Ty P m) (List.replicate k e) ds
 |0,cs,hl,_,_=>by
  have:cs=[]:=List.length_eq_zero_iff.1 (by simpa using hl);subst this;exact⟨[],[],by simp[AbsL],RepL.nil _ _,rfl⟩
 |k+1,cs,hl,hx,hok=>by
  obtain⟨x,h0⟩:=hx 0 (by omega);rw[Nat.zero_mul,YyM]at h0;obtain⟨⟨v1,d1,a1,r1,t1⟩,_⟩:=ih hd h0 (fun v hv=>hok v (YyJ hv));rw[YzJ]at hl;obtain⟨v2,d2,a2,r2,t2⟩:=zjW ih hd k (cs.drop (P.cellsOf e)) (by simp;omega) (fun i hi=>by
   obtain⟨y,hy⟩:=hx (i+1) (by omega);refine⟨y,?_⟩;rw[Yyd,show P.cellsOf e+i*P.cellsOf e=(i+1)*P.cellsOf e by rw[YzJ,YyN]];exact hy) (fun v hv=>hok v (YyK hv))
  refine⟨v1++v2,d1++d2,?_,r1.app r2,d1,d2,rfl,t1,t2⟩;rw[←List.take_append_drop (P.cellsOf e) cs];exact a1.app a2
theorem zfN:∀(m:Nat) {q:Nat} {t:TypeId} {cs:List Value} {x:DataW H×List MemPlace},zbl P m t=true→DataW.trod enc P w base (fun _=>true) held q t cs=some x→(∀v∈cs,okV w v)→zjY P w m t cs∧cs.length=P.cellsOf t
 |0,_,_,_,_,h,_,_=>by cases h
 |m+1,fu,t,cs,x,hd,ht,hok=>by
  have ih:=@zfN m;unfold zbl at hd;unfold zjY;unfold Ty;cases hu:P.underlying t with
  |none=>rw[hu]at hd;cases hd
  |some d=>
   rw[hu]at hd;cases d<;>first|(cases (show false=true from hd);done)|skip
   case bool=>
    have h1:=Lz1 hd;obtain⟨b,rfl,_⟩:=DataW.trod_bool hu ht;exact⟨⟨[_],[_],rfl,RepL.cons (.bool _) (RepL.nil _ _),b,rfl⟩,h1.symm⟩
   case int k=>
    have h1:=Lz1 hd;obtain⟨n,rfl,_,hw⟩:=DataW.trod_int hu ht;exact⟨⟨[_],[_],rfl,RepL.cons (.int _ _) (RepL.nil _ _),n,rfl,hw⟩,h1.symm⟩
   case string=>
    have h1:=Lz1 hd;obtain⟨s,rfl,_,hw⟩:=DataW.trod_string hu ht;exact⟨⟨[_],[_],rfl,RepL.cons (.str _) (RepL.nil _ _),s,rfl,hw⟩,h1.symm⟩
   case slice e=>
    simp only[LzC]at hd;obtain⟨⟨hd1,hst⟩,hc1⟩:=hd;have hst:=Lz4 hst;have hc1:=Lz1 hc1;rcases DataW.trod_slice hu ht with⟨rfl,_⟩|⟨a,len,cap,elems,rest,n,hn,rfl,_,_,hlc,hcap,hel,hE,hR,_⟩
    ·exact⟨⟨[_],[_],rfl,RepL.cons .nils (RepL.nil _ _),.inl rfl⟩,hc1.symm⟩
    ·subst hn;have hok:=hok _ (Yzi ..);refine⟨?_,hc1.symm⟩;have one:∀i,i<len→∃vs ds,(vs.length=P.cellsOf e∧ds.length=P.cellsOf e∧(∀j c,vs[j]? = some c→∃v,w.cell? ((a.add (i*P.cellsOf e)).add j)=some v∧zxY w v=some c))∧RepL (fun b=>b.toNat<(yz w).n.toNat) (yz w) vs ds∧Ty P m e ds:=fun i hi=>by
      have h:=hE i hi;obtain⟨y,hy⟩:∃y,elems[i]? = some y:=⟨_,Lz5 (by omega)⟩;rw[hy,Option.bind_eq_some_iff]at h;obtain⟨cs,h1,h2⟩:=h;obtain⟨k1,k2⟩:=zgp h1;obtain⟨⟨vs,ds,a1,r1,t1⟩,hl⟩:=ih hd1 h2 (fun v hv=>by
       obtain⟨j,hj⟩:=List.mem_iff_getElem?.1 hv;obtain⟨v',g1,g2⟩:=k2 j (by rw[←k1];exact(Lz0.1 hj).1);rw[hj]at g1;cases g1;exact(ziT g2).1)
      refine⟨vs,ds,⟨by rw[←a1.len,hl],by rw[←r1.1,←a1.len,hl],fun j c hj=>?_⟩,r1,t1⟩;obtain⟨v',g1,g2⟩:=k2 j (by rw[←k1,a1.len];exact(Lz0.1 hj).1);obtain⟨c',q1,q2⟩:=a1.get g1;rw[hj]at q1;cases q1;exact⟨v',g2,q2⟩
     by_cases hc0:cap=0
     ·have hl0:len=0:=by omega
      subst hc0 hl0;rcases hok a rfl with⟨hdb,hsp⟩|hm
      ·obtain⟨arr,el,fr,hb⟩:=zcx hdb;obtain⟨c,q1,q2⟩:=zbK (len:=0) (cap:=0) hst (LzB _) hb hsp (fun _=>[]) (fun _=>[]) (fun i hi=>by omega);exact⟨[c],[.lst (P.cellsOf e) []],by simp only[AbsL,Yzp,Yyf,q1],RepL.cons q2 (RepL.nil _ _),.inr ⟨[],rfl,by simp,fun x hx=>by cases hx⟩⟩
      ·by_cases hdb:zbk w a.block=true∧a.spot=none
       ·obtain⟨arr,el,fr,hb⟩:=zcx hdb.1;obtain⟨c,q1,q2⟩:=zbK (len:=0) (cap:=0) hst (LzB _) hb hdb.2 (fun _=>[]) (fun _=>[]) (fun i hi=>by omega);exact⟨[c],[.lst (P.cellsOf e) []],by simp only[AbsL,Yzp,Yyf,q1],RepL.cons q2 (RepL.nil _ _),.inr ⟨[],rfl,by simp,fun x hx=>by cases hx⟩⟩
       ·have hi:=zeO hm;have hlt:=(Lz0.1 hi).1;refine⟨[.slc (bn (w.heap.size+zyL a (zxh w))) 0 0 0 true],[.lst (P.cellsOf e) []],?_,RepL.cons ?_ (RepL.nil _ _),.inr ⟨[],rfl,by simp,fun x hx=>by cases hx⟩⟩
        ·have:zxY w (.slice (some a) 0 0)=some (.slc (bn (w.heap.size+zyL a (zxh w))) 0 0 0 true):=by
          show (bif decide (zbk w a.block=true∧a.spot=none∧0≤0) then _ else bif decide (0=0∧0=0∧a∈zxh w) then _ else _)=_;rw[decide_eq_false (fun hh=>hdb ⟨hh.1,hh.2.1⟩),decide_eq_true ⟨rfl,rfl,hm⟩];rfl
         simp only[AbsL,Yzp,Yyf,this]
        ·exact Rep.lst (o:=.void) (xs:=[]) [] (by rw[zK,qP];omega) (zkW w hlt) (fun _=>LzB _) (by simp[rd]) (fun i x hx=>by simp at hx) (fun i x j c d hx=>by simp at hx)
     ·
      have hthere:a.spot=none∧∃arr el fr,w.heap[a.block]? = some (.cells arr el fr):=by
       have go:∀cs,w.cells? base (a.add (0*P.cellsOf e)) (P.cellsOf e)=some cs→a.spot=none∧∃arr el fr,w.heap[a.block]? = some (.cells arr el fr):=fun cs h=>by
        obtain⟨v,_,g2⟩:=(zgp h).2 0 (by omega);have e0:(a.add (0*P.cellsOf e)).add 0=a:=by rw[Nat.zero_mul];rfl
        rw[e0]at g2;obtain⟨_,g3,arr,el,fr,g4,_⟩:=ziT g2;exact⟨g3,arr,el,fr,g4⟩
       by_cases hl0:0<len
       ·have h:=hE 0 hl0;obtain⟨y,hy⟩:∃y,elems[0]? = some y:=⟨_,Lz5 (by omega)⟩;rw[hy,Option.bind_eq_some_iff]at h;obtain⟨cs,h1,_⟩:=h;exact go cs h1
       ·obtain⟨hrl,hr⟩:=hR rfl;have h:=hr 0 (by omega);obtain⟨y,hy⟩:∃y,rest[0]? = some y:=⟨_,Lz5 (by omega)⟩;rw[hy,Option.bind_eq_some_iff]at h;obtain⟨cs,h1,_⟩:=h;rw[show len+0=0 by omega]at h1;exact go cs h1
      obtain⟨hsp,arr,el,fr,hb⟩:=hthere;have hch:∃(C:Nat→List Zc) (X:Nat→List DV),∀i,i<len→((C i).length=P.cellsOf e∧(X i).length=P.cellsOf e∧(∀j c,(C i)[j]? = some c→∃v,w.cell? ((a.add (i*P.cellsOf e)).add j)=some v∧zxY w v=some c))∧RepL (fun b=>b.toNat<(yz w).n.toNat) (yz w) (C i) (X i)∧Ty P m e (X i):=by
       have:∀i:Nat,∃q:List Zc×List DV,i<len→(q.1.length=P.cellsOf e∧q.2.length=P.cellsOf e∧(∀j c,q.1[j]? = some c→∃v,w.cell? ((a.add (i*P.cellsOf e)).add j)=some v∧zxY w v=some c))∧RepL (fun b=>b.toNat<(yz w).n.toNat) (yz w) q.1 q.2∧Ty P m e q.2:=fun i=>by
        by_cases hi:i<len
        ·obtain⟨vs,ds,h1,h2,h3⟩:=one i hi;exact⟨(vs,ds),fun _=>⟨h1,h2,h3⟩⟩
        ·exact⟨([],[]),fun h=>absurd h hi⟩
       obtain⟨q,hq⟩:=Classical.axiomOfChoice this;exact⟨fun i=>(q i).1,fun i=>(q i).2,hq⟩
      obtain⟨C,X,hCX⟩:=hch;obtain⟨c,q1,q2⟩:=zbK hst hlc hb hsp C X (fun i hi=>by
       obtain⟨⟨g1,g2,g3⟩,g4,_⟩:=hCX i hi;refine⟨g1,g2,fun j c hj=>?_,g4⟩;obtain⟨v,k1,k2⟩:=g3 j c hj;have e1:(a.add (i*P.cellsOf e)).add j=⟨a.block,a.off+(i*P.cellsOf e+j),none⟩:=by
        obtain⟨ab,ao,az⟩:=a;simp only at hsp;subst hsp;unfold Addr.add;split<;>split<;>simp_all [Yyj]
       rw[e1]at k1;obtain⟨arr2,el2,fr2,z1,z2⟩:=zjK k1;rw[hb]at z1;cases z1;rw[z2];exact k2)
      refine⟨[c],[.lst (P.cellsOf e) ((List.range len).map X)],by simp only[AbsL,Yzp,Yyf,q1],RepL.cons q2 (RepL.nil _ _),.inr ⟨_,rfl,by simp;omega,fun x hx=>?_⟩⟩;obtain⟨i,hi,rfl⟩:=List.mem_map.1 hx;exact(hCX i (by simpa using hi)).2.2
   case struct fs=>
    simp only[LzC]at hd;obtain⟨xs,n,hn,_,hl,hxl,hx⟩:=DataW.trod_struct hu ht;subst hn;refine⟨?_,hl⟩;cases hc:zgj P fs.toList 0 with
    |none=>rw[hc]at hd;cases hd.2
    |some q=>
     rw[hc]at hd;have hq:=Lz1 hd.2;have:=zgw (held:=held) (fun a b c=>ih a b c) fs.toList 0 q cs hd.1 hc (by rw[hq,hl]) (YzC _) (fun f hf=>by
      obtain⟨i,hi⟩:=List.mem_iff_getElem?.1 hf;have h1:=hx i f (by rw[←LzA];exact hi);have hlt:i<xs.length:=by rw[hxl];have:=(Lz0.1 hi).1;simpa using this
      exact⟨_,h1.trans (Lz5 hlt)⟩) hok
     rw[YyM]at this;exact this
   case array k e=>
    simp only[LzC]at hd;obtain⟨xs,n,hn,_,hl,hxl,hx⟩:=DataW.trod_array hu ht;subst hn;refine⟨?_,hl⟩;exact zjW (held:=held) (fun a b c=>ih a b c) hd.1 k cs (by rw[hl];exact Lz1 hd.2) (fun i hi=>⟨_,(hx i hi).trans (Lz5 (by omega))⟩) hok
theorem zrL{P:Program}{w:World}{base:Nat}{t:TypeId}{v:Value}(h:Cell.okWide P w .any base t v):okV w v:=by
 intro a ha;subst ha
 left
 have h:Cell.ok P w .any base t (.slice (some a) 0 0):=by
  unfold Cell.okWide at h;split at h<;>first|(rename_i hh;cases hh;done)|skip
  all_goals first|exact h|(exfalso;simp_all)
 unfold Cell.ok at h;split at h<;>first|(rename_i hh;cases hh;done)|skip
 all_goals simp_all
 obtain⟨_,_,_,h1,row,cells,h2,_⟩:=h;refine⟨?_,h1⟩;unfold World.shape? at h2;unfold zbk;split at h2
 ·rename_i hh;rw[hh]
 ·cases h2
theorem open_row{t:TypeId}{v:Value}{d:DataW H}{p:List MemPlace}(m:Nat)(hu:(match P.underlying t with|some (.struct _)|some (.array _ _)=>true|_=>false)=true)(hd:zbl P m t=true)
  (hv:Value.okWide P w .any base t v) (h:DataW.Trod enc P w 0 (fun _=>true) held t v d p):
  ∃vs ds,v=zq (φ0 w) (.s (.agg vs))∧RepL (fun b=>b.toNat<(yz w).n.toNat) (yz w) vs ds∧wfA (φ0 w) (yz w).n.toNat (.s (.agg vs))∧Ty P m t ds:=by
 have:∃cs,v=.agg cs∧cs.size=P.cellsOf t∧Row.okWide P w .any base t cs:=by
  unfold Value.okWide at hv;split at hv
  ·exact hv
  ·exact hv
  ·rename_i h1 h2;exfalso;split at hu
   ·rename_i fs h3;exact h1 fs h3
   ·rename_i n e h3;exact h2 n e h3
   ·cases hu
 obtain⟨cs,rfl,hsz,ts,_,_,hc⟩:=this;obtain⟨q,hq⟩:=h;obtain⟨⟨vs,ds,a,r,ty⟩,_⟩:=zfN m hd hq (fun v hv=>by
  obtain⟨i,hi⟩:=List.mem_iff_getElem?.1 hv;obtain⟨u,_,ho⟩:=hc i v (by rw[←LzA];exact hi);exact zrL ho)
 obtain⟨k1,k2⟩:=a.conc;refine⟨vs,ds,?_,r,k2,ty⟩;show Value.agg cs=.agg ((vs.map (zj (φ0 w))).toArray);rw[k1];rfl
end
end Go.PE
end
section
namespace Go.CE
open Go Go.RowKit Go.Shelf Go.Sort
open Go.Proofs (sortWorldK)
theorem zdy:∀l,ltZ l l=false
 | []=>rfl
 |a::l=>by
  rw[ltZ,Yzb (by omega),Yzb (by omega)];exact zdy l
theorem zf0:∀a b c:List Int,a.length=b.length→b.length=c.length→ltZ a b=true→ltZ b c=true→ltZ a c=true
 | [],[],_,_,_,h,_=>by cases h
 |x::a,y::b,[],_,h,_,_=>by simp at h
 |x::a,y::b,z::c,h1,h2,h3,h4=>by
  rw[ltZ]at h3 h4 ⊢;by_cases p1:x<y
  ·by_cases q1:y<z
   ·rw[Yzd (by omega)]
   ·rw[Yzb q1]at h4;by_cases q2:z<y
    ·rw[Yzd q2]at h4;cases h4
    ·rw[Yzd (by omega)]
  ·rw[Yzb p1]at h3;by_cases p2:y<x
   ·rw[Yzd p2]at h3;cases h3
   ·rw[Yzb p2]at h3;by_cases q1:y<z
    ·rw[Yzd (by omega)]
    ·rw[Yzb q1]at h4;by_cases q2:z<y
     ·rw[Yzd q2]at h4;cases h4
     ·rw[Yzb q2]at h4;rw[Yzb (by omega),Yzb (by omega)];exact zf0 a b c (by simpa using h1) (by simpa using h2) h3 h4
 | [],_::_,_,h,_,_,_=>by simp at h
 |_::_,[],_,h,_,_,_=>by simp at h
theorem zdx:∀a b c:List Int,a.length=b.length→b.length=c.length→ltZ a b=false→ltZ b c=false→ltZ a c=false
 | [],[],_,_,_,_,_=>by unfold ltZ;rfl
 |x::a,y::b,[],_,h,_,_=>by simp at h
 |x::a,y::b,z::c,h1,h2,h3,h4=>by
  rw[ltZ]at h3 h4 ⊢;by_cases p1:x<y
  ·rw[Yzd p1]at h3;cases h3
  ·rw[Yzb p1]at h3;by_cases q1:y<z
   ·rw[Yzd q1]at h4;cases h4
   ·rw[Yzb q1]at h4;rw[Yzb (by omega)];by_cases p2:y<x
    ·rw[Yzd (by omega)]
    ·rw[Yzb p2]at h3;by_cases q2:z<y
     ·rw[Yzd (by omega)]
     ·rw[Yzb q2]at h4;rw[Yzb (by omega)];exact zdx a b c (by simpa using h1) (by simpa using h2) h3 h4
 | [],_::_,_,h,_,_,_=>by simp at h
 |_::_,[],_,h,_,_,_=>by simp at h
theorem zja:∀a b:List Int,a.length=b.length→ltZ a b=false→ltZ b a=false→a=b
 | [],[],_,_,_=>rfl
 |x::a,y::b,h,h1,h2=>by
  rw[ltZ]at h1 h2;by_cases p1:x<y
  ·rw[Yzd p1]at h1;cases h1
  ·rw[Yzb p1]at h1;by_cases p2:y<x
   ·rw[Yzd p2]at h2;cases h2
   ·rw[Yzb p2]at h1 h2;rw[Yzb p1]at h2;rw[zja a b (by simpa using h) h1 h2,show x=y by omega]
 | [],_::_,h,_,_=>by simp at h
 |_::_,[],h,_,_=>by simp at h
abbrev Rw(k:Nat):={l:List Int // l.length=k}
instance (k:Nat):Inhabited (Rw k):=⟨⟨List.replicate k 0,YyG⟩⟩
def zxM{k:Nat}(x:Rw k):List Value:=x.1.map (Value.int .i64)
def cfR{k:Nat}(x y:Rw k):Int:=zys x.1 y.1
theorem w8{k:Nat}(x y:Rw k):Go.Proofs.ltOf cfR x y=ltZ x.1 y.1:=by
 unfold Go.Proofs.ltOf cfR zys;cases h1:ltZ x.1 y.1<;>cases h2:ltZ y.1 x.1<;>simp
theorem zlp{k:Nat}:SWO (Go.Proofs.ltOf (cfR (k:=k))):=by
 refine⟨fun x=>?_,fun x y z=>?_,fun x y z=>?_⟩
 ·rw[w8];exact zdy _
 ·rw[w8,w8,w8];exact zf0 _ _ _ (x.2.trans y.2.symm) (y.2.trans z.2.symm)
 ·rw[w8,w8,w8];exact zdx _ _ _ (x.2.trans y.2.symm) (y.2.trans z.2.symm)
def zxH{k:Nat}(d:Array (Rw k)):List (List Int):=d.toList.map (·.1)
theorem zik{k:Nat}(d:Array (Rw k)):(zxH d).length=d.size:=by simp[zxH]
theorem zij{k:Nat}(d:Array (Rw k)):∀r∈zxH d,r.length=k:=by
 intro r hr;obtain⟨x,_,rfl⟩:=List.mem_map.1 hr;exact x.2
def zlS{k:Nat}:(l:List (List Int))→(∀r∈l,r.length=k)→List (Rw k)
 | [],_=>[]
 |r::l,h=>⟨r,h r (Yzi ..)⟩::zlS l fun x hx=>h x (Yzf _ hx)
theorem zfD{k:Nat}:∀(l:List (List Int)) (h:∀r∈l,r.length=k),(zlS l h).map (·.1)=l
 | [],_=>rfl
 |r::l,h=>by rw[zlS,Yzp,zfD l]
theorem qW{k:Nat}(hk:0<k):∀(l:List (List Int)),(∀r∈l,r.length=k)→∀t,l.flatten[t]? = (l[t / k]?).bind fun r=>r[t % k]?
 | [],_,t=>by simp
 |r::l,h,t=>by
  have hr:=h r (Yzi ..);rw[List.flatten_cons];by_cases ht:t<k
  ·rw[Lz2 (by omega),Nat.div_eq_of_lt ht,Nat.mod_eq_of_lt ht];rfl
  ·have e1:t / k=(t-k) / k+1:=Nat.div_eq_sub_div hk (by omega);have e2:t % k=(t-k) % k:=Nat.mod_eq_sub_mod (by omega);rw[Lz8 (by omega),hr,qW hk l (fun x hx=>h x (Yzf _ hx)) (t-k),e1,e2];rfl
theorem zjr{k:Nat}:∀(l:List (List Int)),(∀r∈l,r.length=k)→l.flatten.length=l.length*k
 | [],_=>by simp
 |r::l,h=>by
  rw[List.flatten_cons,Yzz,zjr l (fun x hx=>h x (Yzf _ hx)),h r (Yzi ..),Yzk,Yz6];omega
theorem vn{k:Nat}(d:Array (Rw k)):(y0 (zxH d)).length=d.size*k:=by
 unfold y0;rw[Yzj,zjr _ (zij d),zik]
theorem zgc{k:Nat}(d:Array (Rw k)){t:Nat}(ht:t<d.size*k)(_φ:Phi):∃n,(y0 (zxH d))[t]? = some (.int .i64 n)∧(flatK zxM k d)[t]! = Value.int .i64 n:=by
 have hk:0<k:=by
  rcases Yyw k with h|h
  ·subst h;simp at ht
  ·exact h
 have h1:t / k<d.size:=Nat.div_lt_of_lt_mul (by rwa [Nat.mul_comm]at ht);have h2:t % k<k:=Yz2 _ hk;have h3:(zxH d)[t / k]? = some d[t / k].1:=by
  unfold zxH;rw[Lz6,LzA,Yzt h1];rfl
 have h4:t % k<d[t / k].1.length:=by rw[d[t / k].2];exact h2
 refine⟨d[t / k].1[t % k],?_,?_⟩
 ·unfold y0;rw[Lz6,qW hk _ (zij d),h3];show ((d[t / k].1)[t % k]?).map _=_;rw[Lz5 h4];rfl
 ·rw[get_flatK _ _ _ _ ht,getElem!_pos d _ h1];unfold zxM;rw[getElem!_pos _ _ (by rw[Yzj];exact h4),List.getElem_map]
section
variable {P:Program} {w0:World} {S:Nat→Prop} {φ:Phi} {h:Za} {w:World}
theorem Zd.grown(H:Zd w0 S φ h w)(os:Array Obj):Zd w0 S φ h (grow w os):=by
 have old:∀k,k<w.heap.size→(grow w os).heap[k]? = w.heap[k]?:=fun k hk=>by
  show (w.heap++os)[k]? = _;rw[Yyl hk]
 refine⟨H.keys,H.okb,fun b o hb=>(H.obj b o hb).world fun hl=>old _ ((H.obj b o hb).there hl),H.inj,H.own,H.os,H.tape,H.output,?_,H.drawn,fun k hk hS=>?_,H.glob.other fun g off c _ hg=>old g hg,H.flat,H.ng⟩
 ·have:=H.size;rw[size_grow];omega
 ·rw[old k (Lz9 hk H.size)];exact H.kept k hk hS
theorem Zd.after(H:Zd w0 S φ h w){φ2:Phi}{h2:Za}{w2:World}(H2:Zd w (fun _=>False) φ2 h2 w2):Zd w0 S φ h w2:=by
 have old:∀k,k<w.heap.size→w2.heap[k]? = w.heap[k]?:=fun k hk=>H2.kept k hk (fun hh=>hh);refine⟨H.keys,H.okb,fun b o hb=>(H.obj b o hb).world fun hl=>old _ ((H.obj b o hb).there hl),H.inj,H.own,H2.os.trans H.os,H2.tape.trans H.tape,H2.output.trans H.output,YzA H.size H2.size,YzA H.drawn H2.drawn,fun k hk hS=>?_,H2.glob,H.flat,H.ng⟩;rw[old k (Lz9 hk H.size)];exact H.kept k hk hS
theorem Zd.none(hG:GOk w):Zd w (fun _=>False) (fun _=>⟨0,0,0,true,.none⟩) ⟨.z,.nil⟩ w:=by
 have hnil:∀b,(Tr.nil:Tr Ze).get b=Option.none:=by intro b;cases b<;>rfl
 refine⟨?_,?_,?_,?_,?_,rfl,rfl,rfl,LzB _,LzB _,fun _ _ _=>rfl,hG,?_,?_⟩
 ·intro b o hb;rw[hnil]at hb;cases hb
 ·intro b o hb;rfl
 ·intro b o hb;rw[hnil]at hb;cases hb
 ·intro b b' o o' hb;rw[hnil]at hb;cases hb
 ·intro b o hb;rw[hnil]at hb;cases hb
 ·intro b o hb;rw[hnil]at hb;cases hb
 ·intro b o hb;rw[hnil]at hb;cases hb
theorem zsH{φ2:Phi}{h2:Za}{w2:World}(H2:Zd w (fun _=>False) φ2 h2 w2):∃q os,w2=grow (w.drewN q) os:=by
 refine⟨w2.drawn-w.drawn,w2.heap.extract w.heap.size w2.heap.size,?_⟩;have e1:w.heap++w2.heap.extract w.heap.size w2.heap.size=w2.heap:=by
  apply Array.ext_getElem?;intro k;by_cases hk:k<w.heap.size
  ·rw[Yyl hk];exact(H2.kept k hk (fun hh=>hh)).symm
  ·rw[Array.getElem?_append_right (by omega),Array.getElem?_extract];split
   ·congr 1;omega
   ·rename_i hh;rw[Yz5 (by omega)]
 have e2:w.drawn+(w2.drawn-w.drawn)=w2.drawn:=by have:=H2.drawn;omega
 have e3:=H2.os;have e4:=H2.tape;have e5:=H2.output;show w2={ (w.drewN (w2.drawn-w.drawn)) with heap:=(w.drewN (w2.drawn-w.drawn)).heap++w2.heap.extract w.heap.size w2.heap.size };unfold World.drewN;cases w2;simp only at e1 e2 e3 e4 e5 ⊢;rw[e1,e2,e3,e4,e5]
theorem Zd.sorts(H:Zd w0 S φ h w){b:BN}{k:Nat}{l:List (List Int)}(hb:h.t.get b=some (.cells (y0 l) k))(d:Array (Rw k))(hd:(y0 (zxH d)).length=(y0 l).length)(m:Nat)(os:Array Obj):
  Zd w0 S φ (h.put b (.cells (y0 (zxH d)) k)) (sortWorldK zxM k w (φ b).blk (φ b).base m d os):=by
 obtain⟨arr,e,g1,g2,g3,g4⟩:=H.obj b _ hb;refine Zd.grown ?_ os;have hF:(flatK zxM k d).size=(y0 (zxH d)).length:=by rw[size_flatK,vn]
 have hin:(φ b).base+(y0 l).length≤arr.size:=by
  rcases Yyw (y0 l).length with h0|h0
  ·rw[h0];omega
  ·obtain⟨c,hc⟩:∃c,(y0 l)[(y0 l).length-1]? = some c:=⟨_,Lz5 (by omega)⟩;have:=(Lz7.1 (g2 _ c hc)).1;omega
 refine H.put hb trivial (fun j hj=>?_) ?_ rfl rfl rfl ⟨putCells id (φ b).base (flatK zxM k d) arr,e,?_,fun i c hc=>?_,?_,fun c hc=>?_⟩ (Nat.le_add_right _ _)
 ·show (w.heap.modify (φ b).blk _)[j]? = _;rw[Yyo,Yzb (Ne.symm hj)]
 ·show (w.heap.modify (φ b).blk _).size=_;rw[Array.size_modify]
 ·show (w.heap.modify (φ b).blk _)[(φ b).blk]? = _;rw[Yyo,Yzd rfl,g1];rfl
 ·have hi:=(Lz0.1 hc).1;obtain⟨n,q1,q2⟩:=zgc d (t:=i) (by rw[←vn];exact hi) φ;rw[hc]at q1;cases q1;have hlt:(φ b).base+i<arr.size:=by omega
  unfold putCells;rw[Array.getElem?_mapIdx,Yzt hlt,Yzv,Yzd ⟨by omega,by omega⟩,Yyc,q2];rfl
 ·unfold putCells;rw[Array.size_mapIdx];exact g3
 ·unfold y0 at hc;obtain⟨n,_,rfl⟩:=List.mem_map.1 hc;trivial
end
end Go.CE
end
section
namespace Go.CE
open Go Go.RowKit Go.Shelf Go.Sort
open Go.Proofs (sortWorldK)
theorem zg0{k:Nat}{d d':Array (Rw k)}(hp:PermIn 0 d.size d d')(hs:SortedIn (Go.Proofs.ltOf cfR) 0 d.size d'):zxH d'=kV (zxH d):=by
 have h:=sorted_unique_holds (lt:=Go.Proofs.ltOf (cfR (k:=k))) zlp (fun x y h1 h2=>by
  rw[w8]at h1 h2;exact Subtype.ext (zja _ _ (x.2.trans y.2.symm) h1 h2)) d d' hp hs
 unfold zxH kV;rw[h];refine List.map_mergeSort fun a _ b _=>?_;show (!Go.Proofs.ltOf cfR b a)=leZ a.1 b.1;rw[w8];rfl
theorem ztk{P:Program}{ρ:Ren}{t:Srt}(L:Go.Proofs.SlLaysF0.n6 P ρ)(aE:∀w,(isAgg (ρ.t 24)).run P w=.ok true w)(zE:∀w,(Go.sizeOf (ρ.t 24)).run P w=.ok t.st w)
  (hc:∀f∈t.f,∀x y:List Int,x.length=t.st→y.length=t.st→∃call h2,yT P call∧call (.inl f) [.s (.agg (x.map (Zc.int .i64))),.s (.agg (y.map (Zc.int .i64)))] ⟨.z,.nil⟩=some (.s (.one (.int .i64 (zys x y))),h2))
  (hn:∀f∈t.f,∃call h2,yT P call∧call (.inl (ρ.f 6)) [.s (.one .nils),.s (.one (.fn f []))] ⟨.z,.nil⟩=some (.tup [],h2)):zid P (ρ.f 6) t:=by
 intro w0 S φ h w args v h2 H hw e;have e0:=zkf e;clear e;obtain⟨hv0,f,hf,e⟩:=e0;have hc:=hc f hf;have hn:=hn f hf;subst hv0;have enter:∀vs w',(callFunc (ρ.f 6) vs).run P w'=.ok (.enter (ρ.f 6) vs) w':=by
  obtain⟨call,h3,C,e3⟩:=hn;exact((C w _ _ _ w _ _ h3 (Zd.none H.glob) (fun x hx=>by
   simp only[YzO,YzK,or_false]at hx;rcases hx with rfl|rfl
   ·trivial
   ·exact fun p hp=>by cases hp)).1 _ e3).1
 refine⟨enter,?_⟩;rcases e with⟨rfl,rfl⟩|⟨b,len,cap,ex,l,rfl,hl,hr,hb,hlen,rfl⟩
 ·obtain⟨call,h3,C,e3⟩:=hn;have c:=((C w _ _ _ w _ _ h3 (Zd.none H.glob) (fun x hx=>by
   simp only[YzO,YzK,or_false]at hx;rcases hx with rfl|rfl
   ·trivial
   ·exact fun p hp=>by cases hp)).1 _ e3).2
  refine c.mono ?_
  rintro e9 w9 ⟨φ2,rfl,_,H2,_,_⟩
  exact⟨φ,rfl,Ext.refl _ _,H.after H2,(fun v hv=>by cases hv),LzB _⟩
 ·let d:Array (Rw t.st):=(zlS l hr).toArray
  have hd:zxH d=l:=by
   show ((zlS l hr).toArray.toList).map (·.1)=l;rw[List.toList_toArray,zfD]
  have hsz:d.size=len:=by rw[←zik,hd,hl]
  obtain⟨arr,el,g1,g2,g3,g4⟩:=H.obj b _ hb;have hlive:(φ b).blk<w.heap.size:=(H.obj b _ hb).there trivial;have hH:HoldsK zxM t.st w (φ b).blk (φ b).base d:=by
   intro j hj;rw[size_flatK]at hj;obtain⟨n,q1,q2⟩:=zgc d hj φ;rw[hd]at q1;have hc:=g2 j _ q1;refine⟨?_,?_⟩
   ·rw[q2];unfold World.cell?;simp only[g1];exact hc
   ·unfold World.frozen?;simp only[g1];simp
  have cmp:Go.Proofs.CmpLays P f #[] (zxM (k:=t.st)) t.st cfR (φ b).blk (φ b).base d.size w:=by
   intro m os dk hk x y;obtain⟨call,h3,C,e3⟩:=hc x.1 y.1 x.2 y.2;have HW:=H.sorts hb dk (by rw[vn,hk,←vn,hd]) m os;have c:=((C _ _ _ _ _ _ _ h3 (Zd.none HW.glob) (fun z hz=>by
    simp only[YzO,YzK,or_false]at hz;rcases hz with rfl|rfl
    ·intro c hc;obtain⟨n,_,rfl⟩:=List.mem_map.1 hc;trivial
    ·intro c hc;obtain⟨n,_,rfl⟩:=List.mem_map.1 hc;trivial)).1 _ e3).2
   have c:=callsIn_wide.1 c;have ea:(#[.agg (zxM x).toArray,.agg (zxM y).toArray] ++ #[]:Array Value)=([Zb.s (.agg (x.1.map (Zc.int .i64))),Zb.s (.agg (y.1.map (Zc.int .i64)))].map (zq fun _=>⟨0,0,0,true,none⟩)).toArray:=by
    have e1:∀z:Rw t.st,(zxM z)=(z.1.map (Zc.int .i64)).map (zj fun _=>⟨0,0,0,true,none⟩):=fun z=>by
     unfold zxM;rw[YyD];rfl
    simp only[Yzp,Yyf,zq,zI,e1];rfl
   rw[ea];refine c.mono ?_
   rintro e9 w9 ⟨φ2,rfl,_,H2,_,_⟩
   exact⟨rfl,zsH H2⟩
  have eg:∀vs w',(callFunc f vs).run P w'=.ok (.enter f vs) w':=by
   obtain⟨call,h3,C,e3⟩:=hc (List.replicate t.st 0) (List.replicate t.st 0) YyG YyG;exact((C w _ _ _ w _ _ h3 (Zd.none H.glob) (fun z hz=>by
    simp only[YzO,YzK,or_false]at hz;rcases hz with rfl|rfl
    ·intro c hc;obtain⟨n,_,rfl⟩:=List.mem_map.1 hc;trivial
    ·intro c hc;obtain⟨n,_,rfl⟩:=List.mem_map.1 hc;trivial)).1 _ e3).1
  have main:=Go.Proofs.AnyQ.slices_SortFunc L t.st aE zE zxM (fun x=>by unfold zxM;rw[Yzj];exact x.2) (fun x v hv=>by
   unfold zxM at hv;obtain⟨n,_,rfl⟩:=List.mem_map.1 hv;rfl) cfR zlp f #[] (φ b).blk (φ b).base (bif ex then cap else(φ b).cap-cap) d w eg cmp hH hlive (by omega)
  refine callsIn_wide.2 ?_;have ea:([Zb.s (.one (.slc b 0 len cap ex)),Zb.s (.one (.fn f []))].map (zq φ)).toArray=#[.slice (some ⟨(φ b).blk,(φ b).base,none⟩) d.size (bif ex then cap else(φ b).cap-cap),.func (.func f) #[] #[]]:=by
   have:=H.adr hb trivial 0;rw[Yzw]at this;simp only[Yzp,Yyf,zq,zI,zj,this,hsz]
  rw[ea];refine main.mono ?_
  rintro e9 w9 ⟨rfl,d',n,os,hp,hs,rfl⟩
  have hv:=zg0 hp hs;rw[hd]at hv;have HW:=H.sorts hb d' (by rw[vn,hp.1,←vn,hd]) n os;rw[hv]at HW;exact⟨φ,rfl,Ext.refl _ _,HW,(fun v hv=>by cases hv),LzB _⟩
end Go.CE
end
