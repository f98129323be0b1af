/-
  Lemmas. No condition.
-/
import Derived.Test.YtgfllfooijgdfaaGreatDoorVa
import Derived.RangeFuncRecord
import Derived.RangeFuncNested
import Derived.LoopNIn
import Derived.OrdersIn
import Derived.RangeFuncLeaves
import Derived.RangeFuncIn
import Derived.Laws.Sem
import Derived.ProofKit
import Derived.OpenShut
import Derived.FnData
import Derived.MakeChecks
section
namespace Go.CE
open Go.RowKit
def zva:Zg→Exit
 | .normal=>.normal
 | .exit id=>.exit id
 | .ret=>.ret
def marks(φ:Phi)(d:List BN):List Deferred:=d.map fun b=>{ target:=.collected (φ b).blk,args:=#[] }
structure Zs (w0:World) (S:Nat→Prop) (φ:Phi) (nt:Nat) (s:St) (a:Act) (w:World):Prop where
 H:Zd w0 S φ s.h w
 T:Zh φ nt s.h.n.toNat s.t a.tmps
 D:a.defers=marks φ s.d
 dn:∀b∈s.d,okB φ s.h.n.toNat b
def After(w0:World)(S:Nat→Prop)(φ:Phi)(nt:Nat)(h:Za)(s2:St)(a2:Act)(w2:World):Prop:=
 ∃φ2,Ext h.n.toNat φ φ2∧Zs w0 S φ2 nt s2 a2 w2∧h.n.toNat≤s2.h.n.toNat
def RoRel(φ:Phi)(n:Nat):Option BN→Option Nat→Prop
 |none,ro=>ro=none
 |some l,ro=>ro=some (φ l).blk∧okB φ n l
theorem RoRel.ext{φ φ2:Phi}{n m:Nat}{round:Option BN}{ro:Option Nat}(h:RoRel φ n round ro)(he:Ext n φ φ2)(hn:n≤m):RoRel φ2 m round ro:=by
 cases round with
 |none=>exact h
 |some l=>exact⟨by rw[he l h.2.1];exact h.1,okB.ext he hn h.2⟩
theorem zaK{φ φ2:Phi}{n:Nat}(he:Ext n φ φ2){d:List BN}(hd:∀b∈d,okB φ n b):marks φ2 d=marks φ d:=
 YzG fun b hb=>by rw[he b (hd b hb).1]
theorem After.trans{w0:World}{S:Nat→Prop}{φ φ1:Phi}{nt:Nat}{h h1:Za}{s2:St}{a2:Act}{w2:World}(he:Ext h.n.toNat φ φ1)(hn:h.n.toNat≤h1.n.toNat)(hA:After w0 S φ1 nt h1 s2 a2 w2):After w0 S φ nt h s2 a2 w2:=by obtain⟨φ2,he2,hs,hle⟩:=hA;exact⟨φ2,he.trans he2 hn,hs,Yzp hn hle⟩
section
variable {P:Program} {w0:World} {S:Nat→Prop} {nt:Nat} {call:zb}
def wS(P:Program)(w0:World)(S:Nat→Prop)(nt:Nat)(call:zb)(c:Code):Prop:=
 ∀(f fn:Nat) (round:Option BN) (ro:Option Nat) (φ:Phi) (s s2:St) (e:Zg) (a:Act) (w:World) (Q:Exit→Act→World→Prop),zH P nt c call f fn round s=some (e,s2)→Zs w0 S φ nt s a w→RoRel φ s.h.n.toNat round ro→
  (∀a2 w2,After w0 S φ nt s.h s2 a2 w2→Q (zva e) a2 w2)→c.wpIn (FR ro) 0 P Q a w
theorem Zs.after{φ:Phi}{s:St}{a:Act}{w:World}(R:Zs w0 S φ nt s a w):After w0 S φ nt s.h s a w:=⟨φ,Ext.refl _ _,R,LzB _⟩
theorem kR{φ:Phi}{s:St}{a a2:Act}{w w2:World}{t2:Tr Zb}{h2:Za}(R:Zs w0 S φ nt s a w)(hn:Next1 w0 S φ nt s.h t2 h2 a a2 w2):After w0 S φ nt s.h ⟨t2,s.d,h2⟩ a2 w2:=by obtain⟨φ2,he,H2,T2,hd,hle⟩:=hn;exact⟨φ2,he,⟨H2,T2,by rw[hd,R.D,zaK he R.dn],fun b hb=>okB.ext he hle (R.dn b hb)⟩,hle⟩
theorem zj6(C:yW P call)(id:Nat)(ops:Array Oper):wS P w0 S nt call (.region id ops false):=by
 intro f fn round ro φ s s2 e a w Q hc R hr hQ;have hc:ztz (ops.toList.map (ym P nt ops)) call f fn round s=some (e,s2):=hc;obtain⟨t,d,h⟩:=s;simp only[ztz]at hc;cases he:ziN call (ops.toList.map (ym P nt ops)) t h with
 |none=>rw[he]at hc;cases hc
 |some p=>obtain⟨t2,h2⟩:=p;rw[he]at hc;cases hc;exact wpIn_region_list (zj4 C ops.toList R.H R.T he fun a2 w2 hn=>hQ a2 w2 (kR R hn))
theorem zsi{x y:Code}(hx:wS P w0 S nt call x)(hy:wS P w0 S nt call y):wS P w0 S nt call (.seq x y):=by
 intro f fn round ro φ s s2 e a w Q hc R hr hQ;have hc:zrD call f fn round (zH P nt y) (zH P nt x call f fn round s)=some (e,s2):=hc;cases h1:zH P nt x call f fn round s with
 |none=>rw[h1]at hc;cases hc
 |some p=>
  obtain⟨e1,s1⟩:=p;rw[h1]at hc;refine wpIn_seq (hx f fn round ro φ s s1 e1 a w _ h1 R hr fun a1 w1 hA=>?_);cases e1 with
  |normal=>obtain⟨φ1,he1,R1,hle1⟩:=hA;show y.wpIn (FR ro) 0 P Q a1 w1;exact hy f fn round ro φ1 s1 s2 e a1 w1 Q hc R1 (hr.ext he1 hle1) fun a2 w2 hA2=>hQ a2 w2 (hA2.trans he1 hle1)
  |exit id=>cases hc;exact hQ a1 w1 hA
  |ret=>cases hc;exact hQ a1 w1 hA
theorem zpG{c:Operand}{x y:Code}(hx:wS P w0 S nt call x)(hy:wS P w0 S nt call y):wS P w0 S nt call (.cond c x y):=by
 intro f fn round ro φ s s2 e a w Q hc R hr hQ;cases hf:zG c with
 |none=>simp only[zH,hf]at hc;cases hc
 |some g=>
  simp only[zH,hf]at hc;obtain⟨t,d,h⟩:=s;simp only[zqX]at hc;split at hc
  ·rename_i q hq;have ho:=(zh R.T hf).1;simp only at ho;rw[hq]at ho;refine wpIn_cond (t:=q) ho ?_;cases q
   ·exact hy f fn round ro φ _ s2 e a w Q hc R hr hQ
   ·exact hx f fn round ro φ _ s2 e a w Q hc R hr hQ
  ·cases hc
theorem zm8{id:Nat}{x:Code}(hx:wS P w0 S nt call x):wS P w0 S nt call (.block id x):=by
 intro f fn round ro φ s s2 e a w Q hc R hr hQ;have hc:ztE id (zH P nt x call f fn round s)=some (e,s2):=hc;cases h1:zH P nt x call f fn round s with
 |none=>rw[h1]at hc;cases hc
 |some p=>
  obtain⟨e1,s1⟩:=p;rw[h1]at hc;refine wpIn_block (hx f fn round ro φ s s1 e1 a w _ h1 R hr fun a1 w1 hA=>?_);cases e1 with
  |normal=>cases hc;exact hQ a1 w1 hA
  |ret=>cases hc;exact hQ a1 w1 hA
  |exit id'=>
   simp only[ztE]at hc;show (if id'=id then Q .normal a1 w1 else Q (.exit id') a1 w1);cases hb:Nat.beq id' id with
   |true=>rw[hb]at hc;cases hc;rw[Yzd (beq_true hb)];exact hQ a1 w1 hA
   |false=>rw[hb]at hc;cases hc;rw[Yzc (beq_false hb)];exact hQ a1 w1 hA
theorem ziy(c:St→Option (Zg×St))(n:Nat)(s:St):zeh c (n+1) s=match c s with|some (.normal,s2)=>zeh c n s2|r=>r:=rfl
theorem zpF{x:Code}(hx:wS P w0 S nt call x):wS P w0 S nt call (.loop x):=by
 intro f fn round ro φ s s2 e a w Q hc R hr hQ;have hc:zeh (zH P nt x call f fn round) f s=some (e,s2):=hc;have key:∀(n:Nat) (φ:Phi) (s:St) (a:Act) (w:World),zeh (zH P nt x call f fn round) n s=some (e,s2)→Zs w0 S φ nt s a w→RoRel φ s.h.n.toNat round ro→
   (∀a2 w2,After w0 S φ nt s.h s2 a2 w2→Q (zva e) a2 w2)→Code.roundsIn (FR ro) 0 P x Q n a w:=by
  intro n
  induction n with
  |zero=>intro φ s a w hc;cases hc
  |succ n ih=>
   intro φ s a w hc R hr hQ;rw[ziy]at hc;cases h1:zH P nt x call f fn round s with
   |none=>grind
   |some p=>
    obtain⟨e1,s1⟩:=p;rw[h1]at hc;rw[roundsIn_succ];refine hx f fn round ro φ s s1 e1 a w _ h1 R hr fun a1 w1 hA=>?_;cases e1 with
    |normal=>obtain⟨φ1,he1,R1,hle1⟩:=hA;show Code.roundsIn (FR ro) 0 P x Q n a1 w1;exact ih φ1 s1 a1 w1 hc R1 (hr.ext he1 hle1) fun a2 w2 hA2=>hQ a2 w2 (hA2.trans he1 hle1)
    |exit id=>cases hc;exact hQ a1 w1 hA
    |ret=>cases hc;exact hQ a1 w1 hA
 grind[wpIn_loop_rounds]
theorem zib{t:Tr Zb}{ds:List BN}{l:BN}{r:Res}{e:Zg}{s2:St}(hc:zjJ t ds l r=some (e,s2)):
  ∃x h st pend lf ln lt lps la lb ld,r=some (x,h)∧h.t.get l=some (.loop st pend lf ln lt lps la lb ld)∧st≠.busy∧e=pend.getD .normal∧s2=⟨t,ds,h.put l (.loop .exhausted pend lf ln lt lps la lb ld)⟩:=by
 unfold zjJ at hc
 grind
theorem zi5{ro:Option Nat}{Q:Exit→Act→World→Prop}{a:Act}{w:World}(e:Zg)(h:Q (zva e) a w):(qv e).wpIn (FR ro) 0 P Q a w:=by
 cases e with
 |normal=>exact wpIn_skip h
 |exit id=>exact wpIn_exit h
 |ret=>exact wpIn_ret h
theorem zm6(C:yW P call){g:Operand}{ps:Array Tmp}{assign body:Code}:wS P w0 S nt call (.rangeFunc g ps assign body):=by
 intro f fn round ro φ s s2 e a w Q hc R hr hQ;cases hg:zG g with
 |none=>simp only[zH,hg]at hc;cases hc
 |some gg=>
  simp only[zH,hg]at hc;obtain⟨t,d,h⟩:=s;simp only[zou]at hc;have R':=R;obtain⟨H,T,D,dn⟩:=R;simp only at H T D dn;split at hc
  ·cases hc
  ·rename_i bd ds h0 hD;split at hc
   ·rename_i gf caps hgv;obtain⟨xv,h3,st,pend,lf,ln,lt,lps,la,lb,ld,hcall,hl3,hnb,he,hs2⟩:=zib hc;refine wpIn_rangeFunc fun fn' _=>?_;obtain⟨φ0,mark,w0',hE0,H0,hn0,hbd,hmark,hrunE⟩:∃(φ0:Phi) (mark:List Deferred) (w1:World),Ext h.n.toNat φ φ0∧Zd w0 S φ0 h0 w1∧h.n.toNat≤h0.n.toNat∧okB φ0 h0.n.toNat bd∧
      (marks φ0 ds=mark++a.defers∧∀b∈ds,okB φ0 h0.n.toNat b)∧
      (Instr.enterLoop fn' a.tmps ps assign body ro).run P w=.ok (w1.heap.size,mark) (w1.alloc (.loop { state:=.ready,pending:=none,fn:=fn',tmps:=a.tmps,params:=ps,assign:=assign,body:=body,defers:=(φ0 bd).blk })):=by
     cases round with
     |none=>
      have hro:ro=none:=hr;subst hro;simp only[zjK]at hD;cases hD;refine⟨upd φ h.n ⟨w.heap.size,0,0,true,none⟩,[{ target:=.collected w.heap.size,args:=#[] }],w.alloc (.deferred (some [])),zV _ _ _,H.new _ _ _ rfl ?_,by grind[ya],⟨by grind[ya],by rw[zi]⟩,⟨?_,?_⟩,?_⟩
      ·show _=_;grind[zi,heap_alloc_new]
      ·show marks _ (h.n::d)=_;simp only[marks,Yzv,zi];have:=zaK (zV φ h.n ⟨w.heap.size,0,0,true,none⟩) dn
       grind[marks]
      ·intro b hb;rw[ya];cases hb with
       |head=>grind[zi]
       |tail _ hm=>exact okB.ext (zV _ _ _) (Yz6 _) (dn b hm)
      ·simp_all[zi,run_enterLoop_outer]
     |some l=>
      obtain⟨hro,hln⟩:=hr;subst hro;simp only[zjK]at hD;split at hD
      ·rename_i st9 p9 f9 n9 t9 ps9 a9 b9 d9 hl9;cases hD;obtain⟨arr,f8,g1,g2,g3⟩:=H.obj l _ hl9;refine⟨φ,[],w,Ext.refl _ _,H,LzB _,g3,⟨by rw[D];rfl,dn⟩,?_⟩;simp_all[run_enterLoop_inner]
      ·cases hD
    have T0:Zh φ0 nt h0.n.toNat t a.tmps:=T.ext hE0 hn0;have H1:Zd w0 S (upd φ0 h0.n ⟨w0'.heap.size,0,0,true,none⟩) (h0.new (.loop .ready none fn nt t ps assign body bd)) (w0'.alloc (.loop { state:=.ready,pending:=none,fn:=fn',tmps:=a.tmps,params:=ps,assign:=assign,body:=body,defers:=(φ0 bd).blk })):=by
     refine H0.new _ _ ⟨w0'.heap.size,0,0,true,none⟩ rfl ?_;refine⟨a.tmps,fn',?_,T0.ext (zV _ _ _) (Yz6 _),okB.ext (zV _ _ _) (Yz6 _) hbd⟩;rw[zi,zV φ0 h0.n _ bd hbd.1]
     grind[heap_alloc_new]
    have hE1:Ext h.n.toNat φ (upd φ0 h0.n ⟨w0'.heap.size,0,0,true,none⟩):=hE0.trans (zV _ _ _) hn0;have hn1:(h0.new (.loop .ready none fn nt t ps assign body bd)).n.toNat=h0.n.toNat+1:=ya _ _;have og:=zh T0 hg;rw[hgv]at og;have hwcaps:∀x∈([Zb.s (.one (.yld h0.n))]++caps.map fun p=>Zb.s (.one (.ptr p.1 p.2))),wfA (upd φ0 h0.n ⟨w0'.heap.size,0,0,true,none⟩) (h0.new (.loop .ready none fn nt t ps assign body bd)).n.toNat x:=by
     intro x hx;rw[hn1];rcases List.mem_append.1 hx with hx|hx
     ·simp only[YzP]at hx;subst hx;exact⟨Yyg _,by rw[zi]⟩
     ·obtain⟨p,hp,rfl⟩:=List.mem_map.1 hx;exact okB.ext (zV _ _ _) (Yz6 _) (og.2 p hp)
    obtain⟨hcf,hcl⟩:=(C w0 S _ _ _ _ xv h3 H1 hwcaps).1 gf hcall;have hargs:(([Zb.s (.one (.yld h0.n))]++caps.map fun p=>Zb.s (.one (.ptr p.1 p.2))).map (zj (upd φ0 h0.n ⟨w0'.heap.size,0,0,true,none⟩))).toArray=#[Value.func (.yield w0'.heap.size) #[] #[]]++(caps.map fun p=>Value.pointer (some (adr φ0 p.1 p.2))).toArray:=by
     rw[List.map_append,←List.append_toArray]
     congr 1
     ·simp[zj,zz,zc,zi]
     ·simp only[List.map_map,Function.comp_def]
      congr 1
      refine YzG fun p hp=>?_;have:=zV φ0 h0.n ⟨w0'.heap.size,0,0,true,none⟩ p.1 (og.2 p hp).1
      grind[zj,zz,zc,adr]
    rw[hargs]at hcl;have hgval:a.eval g=.func (.func gf) #[] (caps.map fun p=>Value.pointer (some (adr φ0 p.1 p.2))).toArray:=og.1;refine⟨w0'.heap.size,mark,_,{ target:=.fn (.func gf) (caps.map fun p=>Value.pointer (some (adr φ0 p.1 p.2))).toArray,args:=#[Value.func (.yield w0'.heap.size) #[] #[]] },w0'.alloc (.loop { state:=.ready,pending:=none,fn:=fn',tmps:=a.tmps,params:=ps,assign:=assign,body:=body,defers:=(φ0 bd).blk }),gf,
     #[Value.func (.yield w0'.heap.size) #[] #[]]++(caps.map fun p=>Value.pointer (some (adr φ0 p.1 p.2))).toArray,w0'.alloc (.loop { state:=.ready,pending:=none,fn:=fn',tmps:=a.tmps,params:=ps,assign:=assign,body:=body,defers:=(φ0 bd).blk }),hrunE,?_,fun _ _=>trivial,?_,fun hh=>by trivial,zhN hcl |>.mono ?_⟩
    ·grind[resolve,Deferred.ofValue,Sem.run_pure,Act.eval]
    ·grind[invoke]
    ·rintro e9 w9 ⟨φ3,rfl,he3,H3,_,hle3⟩
     rw[hn1]at he3 hle3;obtain⟨arr,f8,g1,g2,g3⟩:=H3.obj h0.n _ hl3;have eb:(φ3 h0.n).blk=w0'.heap.size:=by
      have:=he3 h0.n (Yyg _)
      grind[zi]
     rw[eb]at g1;have hend:=run_endLoop (P:=P) g1 hnb;have hlt:w0'.heap.size<w9.heap.size:=(Lz7.1 g1).1;have H4:Zd w0 S φ3 (h3.put h0.n (.loop .exhausted pend lf ln lt lps la lb ld)) (w9.putObj w0'.heap.size (.loop { state:=.exhausted,pending:=pend.map qv,fn:=f8,tmps:=arr,params:=lps,assign:=la,body:=lb,defers:=(φ3 ld).blk })):=by
      refine H3.put hl3 trivial (fun k hk=>?_) (by simp) rfl rfl rfl ⟨arr,f8,?_,g2,g3⟩
      ·grind[World.putObj_heap_other]
      ·grind[World.putObj_heap_same]
     have hE3:Ext h.n.toNat φ φ3:=hE1.trans he3 (by omega);have hA:After w0 S φ nt h s2 { a with defers:=mark++a.defers } (w9.putObj w0'.heap.size (.loop { state:=.exhausted,pending:=pend.map qv,fn:=f8,tmps:=arr,params:=lps,assign:=la,body:=lb,defers:=(φ3 ld).blk })):=by
      subst hs2;refine⟨φ3,hE3,⟨H4,?_,?_,?_⟩,?_⟩
      ·exact T0.ext (fun b hb=>(he3 b (by omega)).trans (zV _ _ _ b hb)) (by show h0.n.toNat≤h3.n.toNat;omega)
      ·show mark++a.defers=marks φ3 ds;rw[←hmark.1];refine (zaK (n:=h0.n.toNat) (fun b hb=>?_) hmark.2).symm;exact(he3 b (by omega)).trans (zV _ _ _ b hb)
      ·intro b hb;have:=okB.ext (zV φ0 h0.n ⟨w0'.heap.size,0,0,true,none⟩) (Yz6 _) (hmark.2 b hb);exact okB.ext he3 (by trivial) this
      ·show h.n.toNat≤h3.n.toNat;omega
     refine⟨_,_,hend,?_⟩;subst he;cases pend with
     |none=>exact hQ _ _ hA
     |some e1=>grind[zi5]
   ·cases hc
end
end Go.CE
end
section
namespace Go.CE
open Go.RowKit
def zS(f:zbw):Prop:=∀call t h v h2,f call t h=some (v,h2)→h2=h
theorem zw:zS (zx none):=fun _ _ _ _ _ e=>by cases e
theorem yf{f:zbw}(hf:zS f):zS (zx (some f)):=hf
theorem zh1{α:Type}{a:Option α}{g:α→Option zbw}(hg:∀x,zS (zx (g x))):zS (zx (a.bind g)):=by cases a<;>grind[zw]
theorem zn{α:Type}{a:Option α}{g:α→Option zbw}(hg:∀x,zS (zx (g x))):zS (zx (a >>= g)):=zh1 hg
theorem zdJ{α:Type}{a:Option α}{g:α→zbw}(hg:∀x,zS (g x)):zS (zx (a.map g)):=by cases a<;>grind[zw,zx]
theorem yI{b:Bool}{x y:Option zbw}(hx:zS (zx x))(hy:zS (zx y)):zS (zx (bif b then x else y)):=by grind
theorem xx{h h2:Za}{c:Option Zc}{v:Zb}(e:kI h c=some (v,h2)):h2=h:=by cases c<;>cases e;rfl
theorem ub{h h2:Za}{c:Option (List Zc)}{v:Zb}(e:zcC h c=some (v,h2)):h2=h:=by cases c<;>cases e;rfl
theorem xT{h h2:Za}{n:Option Nat}{cs:List Zc}{off:Nat}{v:Zb}(e:part n cs off h=some (v,h2)):h2=h:=by
 cases n
 ·exact xx e
 ·exact ub e
theorem uG{h h2:Za}{b:Bool}{x y:Res}{v:Zb}(hx:x=some (v,h2)→h2=h)(hy:y=some (v,h2)→h2=h)(e:(bif b then x else y)=some (v,h2)):h2=h:=by grind
theorem zdP{st:Nat}{lo hi mx:Option Opd}{t:Tr Zb}{h h2:Za}{b:BN}{off len cap:Nat}{v:Zb}(e:yR st lo hi mx t h b off len cap=some (v,h2)):h2=h:=by
 unfold yR at e
 grind
theorem zjr{st:Nat}{lo hi mx:Option Opd}{t:Tr Zb}{h h2:Za}{b:BN}{off len cap:Nat}{v:Zb}(e:yN st lo hi mx t h b off len cap=some (v,h2)):h2=h:=by
 unfold yN at e
 (repeat' split at e)<;>first|(cases e;done)|(cases e;rfl)|exact uG (fun e=>by cases e;rfl) (fun e=>by cases e) e
theorem zh4{lo hi mx:Option Opd}{t:Tr Zb}{h h2:Za}{v:Zb}(e:y5 lo hi mx t h=some (v,h2)):h2=h:=by grind[y5]
theorem zcv(x:Opd):zS (zgN x):=by
 intro call t h v h2 e;unfold zgN at e
 grind
theorem zhR(x y z:Opd):zS (uf x y z):=by
 intro call t h v h2 e;unfold uf at e
 grind
theorem zag(zs ps):zS (ww zs ps):=by intro call t h v h2 e;exact ub e
theorem zhV(n x):zS (ui n x):=by
 intro call t h v h2 e;unfold ui loadAt at e
 (repeat' split at e)<;>first|(cases e;done)|exact xT e|(unfold zd2 at e;split at e;exact xx e;exact ub e)|exact uG xx (fun e=>by cases e) e
theorem ze3(x):zS (wp x):=by
 intro call t h v h2 e;unfold wp at e
 grind
theorem zjl(g x y):zS (qI g x y):=by
 intro call t h v h2 e;unfold qI at e
 (repeat' split at e)<;>first|(cases e;done)|(cases e;rfl)|exact xx e|exact ub e|exact xT e|exact uG (fun e=>by first|(cases e;rfl)|exact xx e|exact xT e) (fun e=>by cases e) e
theorem ze1(g x y):zS (xE g x y):=by
 intro call t h v h2 e;unfold xE at e
 (repeat' split at e)<;>first|(cases e;done)|(cases e;rfl)|exact xx e|exact ub e|exact xT e|exact uG (fun e=>by first|(cases e;rfl)|exact xx e|exact xT e) (fun e=>by cases e) e
theorem zjg(g x y):zS (zaw g x y):=by
 intro call t h v h2 e;unfold zaw at e
 (repeat' split at e)<;>first|(cases e;done)|(cases e;rfl)|exact xx e|exact ub e|exact xT e|exact uG (fun e=>by first|(cases e;rfl)|exact xx e|exact xT e) (fun e=>by cases e) e
theorem zmF(g n x y):zS (zgO g n x y):=by
 intro call t h v h2 e;unfold zgO at e
 grind
theorem zhS(n x y):zS (vh n x y):=by
 intro call t h v h2 e;unfold vh at e
 grind
theorem zhT(n x y):zS (ug n x y):=by
 intro call t h v h2 e;unfold ug at e
 grind
theorem zji(x):zS (zax x):=by
 intro call t h v h2 e;unfold zax at e
 grind
theorem zjj(x):zS (zay x):=by
 intro call t h v h2 e;unfold zay at e
 grind
theorem zh0(k x):zS (um k x):=by
 intro call t h v h2 e;unfold um at e
 grind
theorem zr2{h h2:Za}{c:Option (List Zc)}{v:Zb}(e:qT h c=some (v,h2)):h2=h:=by
 unfold qT at e
 grind
theorem zjn(x):zS (jU x):=by
 intro call t h v h2 e
 grind[jU,zr2]
theorem zjh(x):zS (zcU x):=by
 intro call t h v h2 e;unfold zcU at e
 grind
theorem zjf(u n x):zS (zcT u n x):=by
 intro call t h v h2 e;unfold zcT at e
 grind
theorem ze2(n x y):zS (wo n x y):=by
 intro call t h v h2 e
 grind[wo]
theorem zdI(l st x lo hi mx):zS (x8 l st x lo hi mx):=by
 intro call t h v h2 e
 grind[x8,zdP]
theorem zhU(f x):zS (uh f x):=by
 intro call t h v h2 e;unfold uh at e
 grind
theorem ze0(st x lo hi mx):zS (wn st x lo hi mx):=by
 intro call t h v h2 e;unfold wn at e;split at e
 ·exact zh4 e
 ·exact uG zdP zjr e
 ·cases e
theorem zdH(x lo hi):zS (y7 x lo hi):=by
 intro call t h v h2 e;unfold y7 at e
 grind
theorem zhZ(x o):zS (ul x o):=by
 intro call t h v h2 e;unfold ul at e
 grind
theorem ze7(x o n):zS (wv x o n):=by
 intro call t h v h2 e;unfold wv at e
 (repeat' split at e)<;>first|(cases e;done)|(cases e;rfl)|exact xx e|exact ub e|exact xT e|exact uG (fun e=>by first|(cases e;rfl)|exact xx e|exact xT e) (fun e=>by cases e) e
theorem zjk(st x i):zS (zaB st x i):=by
 intro call t h v h2 e;unfold zaB at e
 (repeat' split at e)<;>first|(cases e;done)|(cases e;rfl)|exact xx e|exact ub e|exact xT e|exact uG (fun e=>by first|(cases e;rfl)|exact xx e|exact xT e) (fun e=>by cases e) e
theorem ze5(l st x i):zS (wt l st x i):=by
 intro call t h v h2 e;unfold wt at e
 (repeat' split at e)<;>first|(cases e;done)|(cases e;rfl)|exact xx e|exact ub e|exact xT e|exact uG (fun e=>by first|(cases e;rfl)|exact xx e|exact xT e) (fun e=>by cases e) e
theorem ze6(l st n x i):zS (wu l st n x i):=by
 intro call t h v h2 e;unfold wu at e
 (repeat' split at e)<;>first|(cases e;done)|(cases e;rfl)|exact xx e|exact ub e|exact xT e|exact uG (fun e=>by first|(cases e;rfl)|exact xx e|exact xT e) (fun e=>by cases e) e
theorem ze4(x i):zS (wq x i):=by
 intro call t h v h2 e;unfold wq at e
 (repeat' split at e)<;>first|(cases e;done)|(cases e;rfl)|exact xx e|exact ub e|exact xT e|exact uG (fun e=>by first|(cases e;rfl)|exact xx e|exact xT e) (fun e=>by cases e) e
theorem zdK(q z ok m k):zS (xL q z ok m k):=by
 intro call t h v h2 e;unfold xL at e
 grind
theorem zcw(x i):zS (yZ x i):=by
 intro call t h v h2 e;unfold yZ at e
 grind
theorem zhW(x):zS (uj x):=by
 intro call t h v h2 e;unfold uj at e
 grind
theorem zhY(x):zS (uk x):=by
 intro call t h v h2 e;unfold uk at e
 grind
theorem zhX(x):zS (jd x):=by
 intro call t h v h2 e;unfold jd at e
 grind
theorem qp(b x xs):zS (yE b x xs):=by
 intro call t h v h2 e;unfold yE at e
 grind
theorem zjm(P:Program)(o:Op)(hq:yc P o=true):zS (cOp P o):=by
 cases o with
 |move x=>exact zdJ zcv
 |assign x=>exact zdJ zcv
 |pick c x y=>exact zn fun _=>zn fun _=>zn fun _=>yf (zhR _ _ _)
 |build t parts=>
  unfold cOp;simp only;split
  ·exact yI (zn fun _=>yf (zag _ _)) zw
  ·grind[zn,zag,zw,zx]
  ·exact zw
 |load t x=>exact zn fun _=>zn fun _=>yf (zhV _ _)
 |nilCheck x=>exact zn fun _=>yf (ze3 _)
 |binOp op t x y u=>
  unfold cOp;simp only;split
  ·grind[zn,ze1,zjl,zx]
  ·grind[zn,zjg,zx]
  ·grind[zn,zhS,zw,zx]
  ·refine yI ?_ zw
   grind[zn,ze2,zw,zx]
  ·grind[zn,zhT,zw,zx]
  ·refine yI zw ?_
   grind[zn,zmF,zw,zx]
  ·exact zw
 |unOp u t x=>
  cases u with
  |not=>exact zn fun _=>yf (zji _)
  |neg=>exact zn fun _=>yf (zjj _)
  |_=>exact zw
 |convert a b x=>
  unfold cOp;simp only;split
  ·grind[zn,zh0,zx]
  ·grind[yc,zlp,zdb]
  ·exact yI (zn fun _=>yf (zjn _)) zw
  ·exact yI (zn fun _=>yf (zjh _)) zw
  ·exact yI (zn fun _=>yf (zjf _ _ _)) zw
  ·exact zw
 |makeFunc f first captured=>
  cases f with
  |func f=>exact yI (zn fun _=>yf (zhU _ _)) zw
  |_=>exact zw
 |slice t x lo hi mx=>
  unfold cOp;simp only;split
  ·split
   ·exact yI zw (zn fun _=>zn fun _=>zn fun _=>zn fun _=>yf (ze0 _ _ _ _ _))
   ·exact zw
  ·split
   ·exact yI zw (zn fun _=>zn fun _=>zn fun _=>zn fun _=>yf (zdI _ _ _ _ _ _))
   ·exact zw
  ·exact yI zw (zn fun _=>zn fun _=>zn fun _=>yf (zdH _ _ _))
  ·exact zw
 |fieldAddr t x f=>
  unfold cOp;simp only;split
  ·split
   ·split
    ·exact yI zw (zn fun _=>yf (zhZ _ _))
    ·exact zw
   ·exact zw
  ·exact zw
 |field t x f=>
  unfold cOp
  grind[zn,ze7,zw,zx]
 |indexAddr t x i=>
  unfold cOp
  grind[zn,zjk,zw,ze5,zx]
 |index t x i=>unfold cOp;simp only;split<;>grind[zn,ze6,zw,ze4,zx]
 |lookup t m k ok=>
  unfold cOp
  grind[zn,zdK,zw,zx]
 |extract x i=>exact zn fun _=>yf (zcw _ _)
 |call c=>
  obtain⟨callee,args,ts⟩:=c;cases callee with
  |builtin b=>
   cases b with
   |len=>grind[cOp,zn,zhW,zhY,zhX,zcv,zw,zx]
   |max=>grind[cOp,qp,zw,zx]
   |min=>grind[cOp,qp,zw,zx]
   |_=>cases hq
  |_=>cases hq
 |_=>cases hq
end Go.CE
end
section
namespace Go.CE
open Go.RowKit
theorem w7{a b:Bool}(h:(a&&b)=true):a=true∧b=true:=by grind
theorem uE:∀{a b:BN},ziO a b=true→a=b
 | .z,.z,_=>rfl
 | .o a,.o b,h=>by rw[uE (a:=a) (b:=b) h]
 | .d a,.d b,h=>by rw[uE (a:=a) (b:=b) h]
 | .z,.o _,h=>by cases h
 | .z,.d _,h=>by cases h
 | .o _,.z,h=>by cases h
 | .o _,.d _,h=>by cases h
 | .d _,.z,h=>by cases h
 | .d _,.o _,h=>by cases h
theorem zlO{a b:Bool}(h:eqB a b=true):a=b:=by cases a<;>cases b<;>first|rfl|cases h
theorem zlK:∀{a b:List (BN×Nat)},zs5 a b=true→a=b
 | [],[],_=>rfl
 |(b,o)::l,(b',o')::l',h=>by obtain⟨h1,h2⟩:=w7 h;obtain⟨h3,h4⟩:=w7 h1;rw[uE h3,beq_true h4,zlK h2]
 | [],_::_,h=>by cases h
 |_::_,[],h=>by cases h
theorem zoN:∀{a b:List UInt8},eqU a b=true→a=b
 | [],[],_=>rfl
 |a::l,b::l',h=>by obtain⟨h1,h2⟩:=w7 h;rw[UInt8.toNat_inj.1 (beq_true h1),zoN h2]
 | [],_::_,h=>by cases h
 |_::_,[],h=>by cases h
theorem znZ{a b:ByteArray}(h:eqU a.data.toList b.data.toList=true):a=b:=by have:=zoN h;cases a<;>simp_all
theorem zwO{a b:Int}(h:eqI a b=true):a=b:=by grind[uC]
theorem zlH{a b:Zc}(h:eqV a b=true):a=b:=by
 cases a<;>cases b<;>first
  |rfl
  |(cases h;done)
  |skip
 ·exact congrArg _ (zlO h)
 ·obtain⟨h1,h2⟩:=w7 h
  grind[zfM,zwO]
 ·exact congrArg _ (znZ h)
 ·obtain⟨h1,h2⟩:=w7 h
  grind[uE,beq_true]
 ·obtain⟨h1,h2⟩:=w7 h;obtain⟨h1,h3⟩:=w7 h1;obtain⟨h1,h4⟩:=w7 h1;obtain⟨h1,h5⟩:=w7 h1
  grind[uE,beq_true,zlO]
 ·exact congrArg _ (uE h)
 ·obtain⟨h1,h2⟩:=w7 h
  grind[beq_true,zlK]
 ·exact congrArg _ (uE h)
 ·obtain⟨h1,h2⟩:=w7 h;simp_all
theorem zfK:∀{a b:List Zc},zro a b=true→a=b
 | [],[],_=>rfl
 |a::l,b::l',h=>by obtain⟨h1,h2⟩:=w7 h;rw[zlH h1,zfK h2]
 | [],_::_,h=>by cases h
 |_::_,[],h=>by cases h
theorem zlI{a b:SVal}(h:zs3 a b=true):a=b:=by
 cases a<;>cases b<;>first
  |(cases h;done)
  |exact congrArg _ (zlH h)
  |exact congrArg _ (zfK h)
theorem zlJ:∀{a b:List SVal},zs4 a b=true→a=b
 | [],[],_=>rfl
 |a::l,b::l',h=>by obtain⟨h1,h2⟩:=w7 h;rw[zlI h1,zlJ h2]
 | [],_::_,h=>by cases h
 |_::_,[],h=>by cases h
theorem zhp{a b:Zb}(h:eqA a b=true):a=b:=by
 cases a<;>cases b<;>first
  |(cases h;done)
  |exact congrArg _ (zlI h)
  |exact congrArg _ (zlJ h)
noncomputable def frL(L:Nat→Bool):Nat→List (Option BN×Zb)→Tr Zb→Tr Zb
 |_,[],t=>t
 |i,(d,v)::r,t=>frL L (i+1) r (bif L i then zak t v d else t)
open Classical in
noncomputable def lw(L:Nat→Bool)(s:BN):Nat→List (Option BN×Zb)→Option Zb
 |_,[]=>none
 |i,(d,v)::r=>(lw L s (i+1) r).or (if L i=true∧d=some s then some v else none)
theorem zcy(t:Tr Zb)(v:Zb)(d:Option BN)(s:BN)[Decidable (d=some s)]:(zak t v d).get s=if d=some s then some v else t.get s:=by
 cases d with
 |none=>simp[zak]
 |some d=>
  by_cases h:d=s
  ·grind[zak,zr]
  ·rw[Yzc (fun hh=>h (Option.some.inj hh))];exact zl _ _ _ _ (fun hh=>h hh.symm)
section
variable {L L':Nat→Bool} {s:BN}
open Classical in
theorem vR:∀(r:List (Option BN×Zb)) (i:Nat) (t:Tr Zb),(frL L i r t).get s=(lw L s i r).or (t.get s)
 | [],i,t=>rfl
 |(d,v)::r,i,t=>by
  unfold frL lw;rw[vR r (i+1),Option.or_assoc]
  congr 1
  cases hL:L i with
  |false=>simp
  |true=>
   simp only[Yza,true_and]
   grind[zcy]
theorem jX:∀(r:List (Option BN×Zb)) (i:Nat),(∀j d v,r[j]? = some (d,v)→d=some s→L (i+j)=L' (i+j))→lw L s i r=lw L' s i r
 | [],i,_=>rfl
 |(d,v)::r,i,h=>by
  unfold lw;rw[jX r (i+1) fun j d v hj hd=>by have:=h (j+1) d v (by trivial) hd;grind]
  congr 1
  by_cases hd:d=some s
  ·have:=h 0 d v (by simp) hd
   grind
  grind
theorem zkF:∀(r:List (Option BN×Zb)) (i:Nat),(∀j d v,r[j]? = some (d,v)→d=some s→L (i+j)=false)→lw L s i r=none
 | [],i,_=>rfl
 |(d,v)::r,i,h=>by
  unfold lw;rw[zkF r (i+1) fun j d v hj hd=>by have:=h (j+1) d v (by trivial) hd;grind];by_cases hd:d=some s
  ·have:=h 0 d v (by simp) hd
   grind
  grind
theorem zfv:∀(r:List (Option BN×Zb)) (i k:Nat) (v:Zb),r[k]? = some (some s,v)→L (i+k)=true→(∀j d u,k<j→r[j]? = some (d,u)→d=some s→L (i+j)=false)→lw L s i r=some v
 | [],i,k,v,hk,_,_=>by simp at hk
 |(d,u)::r,i,0,v,hk,hL,h=>by
  simp only[Yzf,Option.some.injEq,Prod.mk.injEq]at hk;obtain⟨rfl,rfl⟩:=hk;unfold lw;rw[zkF r (i+1) fun j d v hj hd=>by have:=h (j+1) d v (by omega) (by trivial) hd;grind]
  grind
 |(d,u)::r,i,k+1,v,hk,hL,h=>by
  unfold lw;rw[zfv r (i+1) k v (by trivial) (by grind) fun j d v hj hjr hd=>by have:=h (j+1) d v (by omega) (by trivial) hd;grind]
  rfl
theorem zhe(d:Option BN)(v:Zb)(r:List (Option BN×Zb))(i:Nat)(t:Tr Zb):frL L i ((d,v)::r) t=frL L (i+1) r (bif L i then zak t v d else t):=rfl
theorem zl1(e:Bool)(es:List Bool)(i:Nat):ce L i (e::es)=bif L i&&e then ce L (i+1) es+1 else ce L (i+1) es:=rfl
theorem zaZ:∀(r:List (Option BN×Zb)) (i:Nat) (t:Tr Zb),frL L (i+1) r t=frL (fun k=>L (k+1)) i r t
 | [],i,t=>rfl
 |(d,v)::r,i,t=>by unfold frL;exact zaZ r (i+1) _
theorem ke:∀(r:List (Option BN×Zb)) (i:Nat) (t:Tr Zb),(∀j,j<r.length→L (i+j)=L' (i+j))→frL L i r t=frL L' i r t
 | [],i,t,_=>rfl
 |(d,v)::r,i,t,h=>by unfold frL;have h0:=h 0 (by simp);simp only[Yzx]at h0;rw[h0];exact ke r (i+1) _ fun j hj=>by have:=h (j+1) (by grind);grind
theorem zdu:∀(es:List Bool) (i:Nat),ce L (i+1) es=ce (fun k=>L (k+1)) i es
 | [],i=>rfl
 |e::es,i=>by unfold ce;rw[Yyh,Yyh,zdu es (i+1)]
theorem xN:∀(es:List Bool) (i:Nat),(∀j,es[j]? = some true→L (i+j)=L' (i+j))→ce L i es=ce L' i es
 | [],i,_=>rfl
 |e::es,i,h=>by
  unfold ce;have ih:=xN es (i+1) fun j hj=>by have:=h (j+1) (by trivial);grind
  rw[Yyh,ih];cases e with
  |false=>simp
  |true=>
   have h0:=h 0 (by simp)
   grind
theorem xA:∀(es:List Bool) (i:Nat),(∀j,es[j]? = some true→L (i+j)=true→L' (i+j)=true)→ce L i es≤ce L' i es
 | [],i,_=>LzB _
 |e::es,i,h=>by
  unfold ce;have ih:=xA es (i+1) fun j hj hL=>by have:=h (j+1) (by trivial) (by grind);grind
  simp only[Yyh];cases e with
  |false=>grind
  |true=>
   have h0:=h 0 (by simp)
   grind
theorem zeI:∀(es:List Bool) (i k:Nat),es[k]? = some true→L (i+k)=false→L' (i+k)=true→(∀j,j≠i+k→L' j=L j)→ce L' i es=ce L i es+1
 | [],i,k,hk,_,_,_=>by simp at hk
 |e::es,i,0,hk,h1,h2,h3=>by
  simp only[Yzf,Option.some.injEq]at hk;subst hk;simp only[Yzx]at h1 h2 h3;unfold ce;rw[h1,h2];simp only[Yyh,Yz8,Yza,Yzb]
  grind[xN]
 |e::es,i,k+1,hk,h1,h2,h3=>by
  unfold ce;have ih:=zeI es (i+1) k (by trivial) (by grind) (by grind) fun j hj=>h3 j (by omega)
  grind
end
theorem wk(t:Tr Zb)(s:BN)[DecidableEq BN]:∀(l:List BN),(vK t l).get s=if s∈l then t.get s else none
 | []=>by cases s<;>rfl
 |x::l=>by
  unfold vK;split
  ·rename_i v hv;by_cases hx:s=x
   ·grind[zr]
   ·rw[zl _ _ _ _ hx,wk t s l];simp[hx]
  ·rename_i hv;rw[wk t s l]
   grind
def dv(x:Zi×Tr Zb×Zb):Option BN×Zb:=(x.1.rop.dst,x.2.2)
theorem zdl(call:zb):∀(ds:List Zi) (t:Tr Zb) (h:Za) (l:List (Zi×Tr Zb×Zb)) (t2:Tr Zb) (hs:List Za),evD call ds t h=some (l,t2,hs)→
  l.map (·.1)=ds∧hs[0]? = some h∧hs.length=ce (fun _=>true) 0 (ds.map (·.eff))+1∧t2=frL (fun _=>true) 0 (l.map dv) t∧
  ∀j d tr v,l[j]? = some (d,tr,v)→tr=vK (frL (fun k=>decide (k<j)) 0 (l.map dv) t) d.looks∧
   ∃hk h',hs[ce (fun k=>decide (k<j)) 0 (ds.map (·.eff))]? = some hk∧yY call d.rop tr hk=some (v,h')∧(d.eff=true→hs[ce (fun k=>decide (k<j)) 0 (ds.map (·.eff))+1]? = some h')
 | [],t,h,l,t2,hs,e=>by cases e;exact⟨rfl,rfl,rfl,rfl,fun j d tr v hj=>by simp at hj⟩
 |d::ds,t,h,l,t2,hs,e=>by
  unfold evD at e;split at e
  ·rename_i v0 h0 hv0;cases hr:evD call ds (zak t v0 d.rop.dst) (bif d.eff then h0 else h) with
   |none=>rw[hr]at e;cases e
   |some p=>
    obtain⟨l',t',hs'⟩:=p;rw[hr]at e;simp only[zta,Option.some.injEq,Prod.mk.injEq]at e;obtain⟨rfl,rfl,rfl⟩:=e;obtain⟨g1,g2,g3,g4,g5⟩:=zdl call ds _ _ l' _ hs' hr;have hsh:∀(L:Nat→Bool),ce L 0 ((d::ds).map (·.eff))=(bif L 0&&d.eff then 1 else 0)+ce (fun k=>L (k+1)) 0 (ds.map (·.eff)):=by grind[zl1,zdu]
    have hfr:∀(L:Nat→Bool),frL L 0 (((d,vK t d.looks,v0)::l').map dv) t=frL (fun k=>L (k+1)) 0 (l'.map dv) (bif L 0 then zak t v0 d.rop.dst else t):=by grind[dv,zhe,zaZ]
    refine⟨by simp[g1],?_,?_,?_,?_⟩
    ·grind
    ·grind
    ·grind
    ·intro j dj tr v hj;cases j with
     |zero=>
      simp only[Yzf,Option.some.injEq,Prod.mk.injEq]at hj;obtain⟨rfl,rfl,rfl⟩:=hj;have hz:ce (fun k=>decide (k<0)) 0 ((d::ds).map (·.eff))=0:=by
       rw[hsh];simp only[Nat.not_lt_zero,decide_false,Bool.false_and,Yzb,Yzh];have:∀(es:List Bool) (i:Nat),ce (fun _=>false) i es=0:=by
        intro es
        induction es<;>grind[ce]
       grind
      refine⟨?_,h,h0,?_,hv0,?_⟩
      ·rw[hfr];simp only[Nat.not_lt_zero,decide_false,Yzb]
       congr 1
       have:∀(r:List (Option BN×Zb)) (i:Nat) (t:Tr Zb),frL (fun _=>false) i r t=t:=by
        intro r
        induction r<;>grind[frL]
       grind
      ·grind
      ·grind
     |succ j=>grind
  ·cases e
theorem zal{call:zb}{o:Zk}{tr:Tr Zb}{v:Zb}:∀(hs:List Za),sameAt call o tr v hs=true→∀(k:Nat) (hk:Za),hs[k]? = some hk→∃h',yY call o tr hk=some (v,h')
 | [],_,k,hk,hh=>by simp at hh
 |h::hs,e,k,hk,hh=>by
  unfold sameAt at e;split at e
  ·rename_i v' h' hv;obtain⟨e1,e2⟩:=w7 e;cases k with
   |zero=>grind[zhp]
   |succ k=>exact zal hs e2 k hk (by trivial)
  ·cases e
theorem zbb{call:zb}{hs:List Za}:∀(l:List (Zi×Tr Zb×Zb)),wQ call hs l=true→∀(j:Nat) (d:Zi) (tr:Tr Zb) (v:Zb),l[j]? = some (d,tr,v)→d.eff=false→
  d.lo=d.hi∨∀k hk,d.lo≤k→k≤d.hi→hs[k]? = some hk→∃h',yY call d.rop tr hk=some (v,h')
 | [],_,j,d,tr,v,hj,_=>by simp at hj
 |(d0,tr0,v0)::l,e,j,d,tr,v,hj,hd=>by
  obtain⟨e1,e2⟩:=w7 e;cases j with
  |zero=>
   simp only[Yzf,Option.some.injEq,Prod.mk.injEq]at hj;obtain⟨rfl,rfl,rfl⟩:=hj;rw[hd]at e1;simp only[Yz3,Yzu]at e1;rcases e1 with e1|e1
   ·simp_all
   ·refine .inr fun k hk h1 h2 h3=>?_;refine zal _ e1 (k-d0.lo) hk ?_
    grind
  |succ j=>exact zbb l e2 j d tr v (by trivial) hd
theorem zc6:∀(hs:List Za) (h:Za),hs≠[]→hs[hs.length-1]? = some (zc7 h hs)
 | [],_,h=>absurd rfl h
 | [x],_,_=>rfl
 |x::y::hs,h,_=>by have:=zc6 (y::hs) x (by simp);trivial
theorem zbe(P:Program)(nt:Nat)(ops:Array Oper)(bs:List Nat)(es:List Bool):∀(os:List Oper) (i j:Nat),(w4 P nt ops bs es i os)[j]? = (os[j]?).map fun o=>
  (⟨ym P nt ops o,(o.looksAt ops).map bn,!yc P o.op,ce (fun k=>bef bs k (i+j)) 0 es,ce (fun k=>!bef bs (i+j) k) 0 es⟩:Zi)
 | [],i,j=>by simp[w4]
 |o::os,i,0=>by simp[w4]
 |o::os,i,j+1=>by simp only[w4,Yzl];rw[zbe P nt ops bs es os (Nat.succ i) j,show Nat.succ i+j=i+(j+1) by omega]
theorem zbf(P:Program)(nt:Nat)(ops:Array Oper)(bs:List Nat)(es:List Bool):∀(os:List Oper) (i:Nat),(w4 P nt ops bs es i os).map (·.eff)=ky P os
 | [],i=>rfl
 |o::os,i=>by have:=zbf P nt ops bs es os (Nat.succ i);simp only[w4,Yzv,this];rfl
theorem wC{p:Nat→Oper→Bool}:∀(os:List Oper) (i:Nat),allI p i os=true→∀(j:Nat) (o:Oper),os[j]? = some o→p (i+j) o=true
 | [],_,_,j,o,hj=>by simp at hj
 |o::os,i,e,0,o',hj=>by simp only[Yzf,Option.some.injEq]at hj;subst hj;exact(w7 e).1
 |o::os,i,e,j+1,o',hj=>by
  have:=wC os (Nat.succ i) (w7 e).2 j o' (by trivial)
  grind
section
variable {ops:Array Oper}
def Rdy(ops:Array Oper)(L:Nat→Bool)(i:Nat):Prop:=∀o e,ops[i]? = some o→e∈o.after.toList→Region.binds .any e=true→L e.on=true
def Clo(ops:Array Oper)(L:Nat→Bool):Prop:=∀i,L i=true→Rdy ops L i
def zq9(ops:Array Oper)(acc:List Nat):Prop:=∀(i x:Nat),acc[i]? = some x→∀(j:Nat),Nat.testBit x j=true→∀(L:Nat→Bool),Clo ops L→Rdy ops L i→L j=true
theorem qk{acc:List Nat}{j:Nat}:∀(es:List Edge),Nat.testBit (zf8 acc es) j=true→∃e∈es,Region.binds .any e=true∧(e.on=j∨∃x,acc[e.on]? = some x∧Nat.testBit x j=true)
 | [],h=>by grind[zf8]
 |e::es,h=>by
  unfold zf8 at h;cases hb:Region.binds .any e with
  |false=>
   rw[hb]at h;obtain⟨e',h1,h2⟩:=qk es h
   grind
  |true=>
   rw[hb]at h;simp only[Yza]at h;have h:Nat.testBit ((2^e.on ||| (acc[e.on]?).getD 0) ||| zf8 acc es) j=true:=h;rw[Nat.testBit_or,Nat.testBit_or,Yzu,Yzu]at h;rcases h with (h|h)|h
   ·grind
   ·grind
   ·obtain⟨e',h1,h2⟩:=qk es h
    grind
theorem zbk:∀(os pre:List Oper) (acc:List Nat),ops.toList=pre++os→acc.length=pre.length→zq9 ops acc→zq9 ops (zhI os acc)
 | [],_,acc,_,_,hg=>hg
 |o::os,pre,acc,hp,hl,hg=>by
  unfold zhI;refine zbk os (pre++[o]) _ (by simp[hp]) (by simp[hl]) ?_;intro i x hi j hj L hC hR;by_cases hlt:i<acc.length
  ·rw[Lz2 hlt]at hi;exact hg i x hi j hj L hC hR
  ·rw[Lz8 (by omega)]at hi;have h0:i-acc.length=0:=by
    grind
   rw[h0]at hi;simp only[Yzf,Option.some.injEq]at hi;subst hi;obtain⟨e,he,hb,hh⟩:=qk _ hj;have ho:ops[i]? = some o:=by
    rw[←LzA,hp,Lz8 (by omega)]
    grind
   have hon:=hR o e ho he hb;rcases hh with hh|⟨x,hx,hh⟩
   ·grind
   ·exact hg _ x hx j hh L hC (hC _ hon)
theorem wg{i j:Nat}(h:bef (yK ops.toList) j i=true){L:Nat→Bool}(hC:Clo ops L)(hR:Rdy ops L i):L j=true:=by
 have hg:zq9 ops (yK ops.toList):=zbk ops.toList [] [] rfl rfl (fun i x hi=>by simp at hi);unfold bef at h;cases hx:(yK ops.toList)[i]? with
 |none=>grind
 |some x=>rw[hx]at h;exact hg i x hx j h L hC hR
def lst(listed:Array Bool)(i:Nat):Bool:=listed.getD i false
theorem mem_ready{listed:Array Bool}{i:Nat}(h:i∈Region.ready .any ops listed):∃o,ops[i]? = some o∧i<listed.size∧lst listed i=false∧Rdy ops (lst listed) i:=by
 unfold Region.ready at h;rw[List.mem_filter]at h;obtain⟨h1,h2⟩:=h;obtain⟨h3,h4⟩:=w7 h2;have hlt:i<listed.size:=by grind
 cases ho:ops[i]? with
 |none=>grind
 |some o=>
  rw[ho]at h4;refine⟨o,rfl,hlt,?_,?_⟩
  ·grind[lst]
  ·intro o' e ho' he hb
   grind[Array.all_eq_true',lst]
theorem zjH{listed:Array Bool}(hsz:listed.size=ops.size){i:Nat}{o:Oper}(ho:ops[i]? = some o)(hl:lst listed i=false)(hR:Rdy ops (lst listed) i):i∈Region.ready .any ops listed:=by
 have hi:i<ops.size:=(Lz7.1 ho).1;unfold Region.ready;rw[List.mem_filter];refine⟨by grind,?_⟩;rw[LzC]
 constructor
 ·grind[lst]
 ·rw[ho];simp only[YzE,Option.getD_some,Array.all_eq_true'];intro e he;cases hb:Region.binds .any e with
  |false=>rfl
  |true=>simpa[lst] using hR o e ho (by grind) hb
theorem zci{listed:Array Bool}(hsz:listed.size=ops.size)(hA:∀(i:Nat) (o:Oper) (e:Edge),ops[i]? = some o→e∈o.after.toList→Region.binds .any e=true→e.on<i)
  (hnil:Region.ready .any ops listed=[]):∀i,i<ops.size→lst listed i=true:=by
 intro i
 induction i using Nat.strongRecOn with
 |_ i ih=>
  intro hi;cases hl:lst listed i with
  |true=>rfl
  |false=>
   have:=zjH (ops:=ops) hsz (Yzy hi) hl (fun o e ho he hb=>by grind)
   grind
theorem xW{listed:Array Bool}{i:Nat}(hi:i<listed.size)(j:Nat):lst (listed.setIfInBounds i true) j=(decide (j=i)||lst listed j):=by
 unfold lst;rw[Yzq,Yzq,Array.getElem?_setIfInBounds]
 grind
def unl(listed:Array Bool):Nat:=listed.toList.count false
theorem zjb{listed:Array Bool}{i:Nat}(hi:i<listed.size)(hl:lst listed i=false):unl (listed.setIfInBounds i true)+1=unl listed:=by
 unfold unl;rw[Array.toList_setIfInBounds,List.count_set (by omega)];have hg:listed.toList[i]'(by omega)=false:=by simp_all[lst]
 grind
theorem zgn{listed:Array Bool}(h:unl listed=0){i:Nat}(hi:i<listed.size):lst listed i=true:=by
 unfold unl at h;rw[List.count_eq_zero]at h;unfold lst;rw[Yzq,Yzy hi]
 grind
end
end Go.CE
end
section
namespace Go.CE
open Go.RowKit
section
variable {P:Program} {w0:World} {S:Nat→Prop} {nt:Nat} {call:zb} {ops:Array Oper}
theorem Zh.of_get{φ:Phi}{n:Nat}{t t':Tr Zb}{arr:Array Value}(T:Zh φ nt n t arr)(h:∀s,t'.get s=t.get s):Zh φ nt n t' arr:=
 ⟨T.size,fun i hi=>by rw[h];exact T.get i hi,fun i hi=>by rw[h];exact T.out i hi,fun i v hv=>T.wf i v (by grind)⟩
noncomputable def xX(φ:Phi)(nt:Nat)(t:Tr Zb):Array Value:=Array.ofFn (n:=nt) fun i=>zj φ ((t.get (bn i.val)).getD zO)
theorem zeC{φ:Phi}{n:Nat}{t:Tr Zb}(h1:∀i,nt≤i→t.get (bn i)=none)(h2:∀i v,t.get i=some v→wfA φ n v):Zh φ nt n t (xX φ nt t):=
 ⟨by simp[xX],fun i hi=>by simp[xX,hi],h1,h2⟩
theorem zev{φ:Phi}{t:Tr Zb}{h h2:Za}{a:Act}{v:Zb}{o:Oper}(e:yY call (ym P nt ops o) t h=some (v,h2))(T:Zh φ nt h.n.toNat t a.tmps):
  (Region.wanted o (yielded ops a.tmps)=true∧cOp P o.op call t h=some (v,h2))∨(Region.wanted o (yielded ops a.tmps)=false∧v=zO∧h2=h):=by
 unfold ym at e;have bad:∀{o':Zk},o'=⟨none,yA,none⟩→yY call o' t h=some (v,h2)→False:=by intro o' ho' e;subst ho';cases e
 cases hd:inT nt o.dst with
 |false=>grind
 |true=>
  rw[hd]at e;simp only[Yza]at e;have fin:∀g,yY call ⟨o.dst.map bn,cOp P o.op,g⟩ t h=some (v,h2)→(want t g=true∧cOp P o.op call t h=some (v,h2))∨(want t g=false∧v=zO∧h2=h):=by
   intro g e;unfold yY at e
   grind
  split at e
  ·rename_i hg;rcases fin none e with hh|⟨hw,_⟩
   ·grind[Region.wanted]
   ·cases hw
  ·rename_i j b hg;split at e
   ·rename_i d hjd;cases hb:Nat.ble (Nat.succ d) nt with
    |false=>grind
    |true=>grind[kJ,zR,Region.wanted]
   ·trivial
theorem kq{t:Tr Zb}{h:Za}{r:Zb×Za}{o:Oper}(e:yY call (ym P nt ops o) t h=some r):(ym P nt ops o).dst=o.dst.map bn∧inT nt o.dst=true:=by
 have bad:∀{o':Zk},o'=⟨none,yA,none⟩→yY call o' t h=some r→False:=by intro o' ho' e;subst ho';cases e
 unfold ym at e ⊢
 grind
theorem zfU(hok:kz P ops (yK ops.toList)=true):(∀(i:Nat) (o:Oper),ops[i]? = some o→(∀cs b,o.op≠.select cs b)∧∀e∈o.after.toList,Region.binds .any e=true→e.on<i)∧
  ∀(i j:Nat) (oi oj:Oper),ops[i]? = some oi→ops[j]? = some oj→i<j→bef (yK ops.toList) i j=true∨(oi.apart ops oj=true∧(yc P oi.op=true∨yc P oj.op=true)):=by
 obtain⟨h1,h2⟩:=w7 hok
 constructor
 ·intro i o ho;have:=wC _ 0 h1 i o (by grind);rw[Yzh]at this;obtain⟨g1,g2⟩:=w7 this;refine⟨(fun cs b hh=>by rw[hh]at g1;cases g1),fun e he hb=>?_⟩;rw[YzF]at g2;have:=g2 e he;rw[hb]at this;exact zR (by trivial)
 ·intro i j oi oj hi hj hlt;have:=wC _ 0 h2 j oj (by grind);rw[Yzh]at this;have:=wC _ 0 this i oi (by grind);rw[Yzh]at this;simp only[Yzu]at this;rcases this with (this|this)|this
  ·grind[Yze]
  ·grind
  ·grind
theorem zlS(C:yW P call){Q:Exit→Act→World→Prop}{a0:Act}{t t2:Tr Zb}{h:Za}{φ0:Phi}{l:List (Zi×Tr Zb×Zb)}{hs:List Za}{ro:Option Nat}
  (hok:kz P ops (yK ops.toList)=true) (hev:evD call (qE P nt ops) t h=some (l,t2,hs)) (hch:wQ call hs l=true)
  (hQ:∀a2 w2,Next1 w0 S φ0 nt h t2 (zc7 h hs) a0 a2 w2→Q .normal a2 w2):
  ∀(fuel:Nat) (listed:Array Bool) (φ:Phi) (a:Act) (w:World) (Hk:Za),listed.size=ops.size→unl listed≤fuel→Clo ops (lst listed)→Ext h.n.toNat φ0 φ→
   hs[ce (lst listed) 0 (ky P ops.toList)]? = some Hk→Zd w0 S φ Hk w→h.n.toNat≤Hk.n.toNat→Zh φ nt Hk.n.toNat (frL (lst listed) 0 (l.map dv) t) a.tmps→a.defers=a0.defers→
   wpAnyIn (FR ro) 0 P .any ops Q fuel listed a w:=by
 obtain⟨hA,hord⟩:=zfU hok;obtain⟨g1,g2,g3,g4,g5⟩:=zdl call _ _ _ _ _ _ hev;have heff:(qE P nt ops).map (·.eff)=ky P ops.toList:=zbf _ _ _ _ _ _ _;rw[heff]at g3 g5;have hl:∀(j:Nat) (o:Oper),ops[j]? = some o→∃tr v,l[j]? = some ((⟨ym P nt ops o,(o.looksAt ops).map bn,!yc P o.op,ce (fun k=>bef (yK ops.toList) k j) 0 (ky P ops.toList),ce (fun k=>!bef (yK ops.toList) j k) 0 (ky P ops.toList)⟩:Zi),tr,v):=by
  intro j o ho;have h1:(qE P nt ops)[j]? = some ⟨ym P nt ops o,(o.looksAt ops).map bn,!yc P o.op,ce (fun k=>bef (yK ops.toList) k j) 0 (ky P ops.toList),ce (fun k=>!bef (yK ops.toList) j k) 0 (ky P ops.toList)⟩:=by simp_all[qE,zbe]
  grind
 have hlen:l.length=ops.size:=by
  have h1:=congrArg List.length g1;have h2:=congrArg List.length heff
  grind[ky]
 have hdst:∀(j:Nat) (o:Oper) (d:Zi) (tr:Tr Zb) (v:Zb),ops[j]? = some o→l[j]? = some (d,tr,v)→d.rop.dst=o.dst.map bn∧inT nt o.dst=true:=by grind[kq]
 have hdv:∀(j:Nat) (d:Option BN) (v:Zb) (s:BN),(l.map dv)[j]? = some (d,v)→d=some s→∃o sn,ops[j]? = some o∧o.dst=some sn∧bn sn=s:=by
  intro j d v s hj hd;rw[Lz6]at hj;cases hx:l[j]? with
  |none=>grind
  |some x=>
   obtain⟨d',tr,v'⟩:=x;rw[hx]at hj;simp only[YzE,Option.some.injEq,dv,Prod.mk.injEq]at hj;have hjl:j<ops.size:=by grind
   have ho:ops[j]? = some ops[j]:=Yzy hjl;have:=(hdst j _ d' tr v' ho hx).1;simp_all
 have hes:∀(j:Nat),(ky P ops.toList)[j]? = some true→∃o,ops[j]? = some o∧yc P o.op=false:=by
  intro j hj;unfold ky at hj
  grind
 have hes':∀(j:Nat) (o:Oper),ops[j]? = some o→(ky P ops.toList)[j]? = some (!yc P o.op):=by grind
 intro fuel
 induction fuel with
 |zero=>
  intro listed φ a w Hk hsz hu hC hE hH HR hn T hdf;have hall:∀i,i<ops.size→lst listed i=true:=fun i hi=>zgn (by omega) (by omega);have hnil:Region.ready .any ops listed=[]:=by
   cases hr:Region.ready .any ops listed with
   |nil=>rfl
   |cons i r=>
    obtain⟨o,ho,h1,h2,h3⟩:=mem_ready (ops:=ops) (listed:=listed) (i:=i) (by grind)
    grind
  refine⟨hnil,hQ a w ⟨φ,hE,?_,?_,hdf,?_⟩⟩
  all_goals
   have hk:Hk=zc7 h hs:=by have h1:=zc6 hs h (fun hh=>by rw[hh]at g2;cases g2);rw[g3,Nat.add_sub_cancel]at h1;rw[xN (L:=lst listed) (L':=fun _=>true) _ 0 (fun j hj=>by obtain⟨o,ho,_⟩:=hes j hj;rw[Yzh];exact hall j (Lz7.1 ho).1)]at hH;exact Option.some.inj (hH.symm.trans h1)
   subst hk
  ·exact HR
  ·rw[g4,←ke (L:=lst listed) (l.map dv) 0 t (fun j hj=>by grind)];exact T
  ·exact hn
 |succ fuel ih=>
  intro listed φ a w Hk hsz hu hC hE hH HR hn T hdf;refine⟨fun hnil=>?_,fun i hi=>?_⟩
  ·have hall:=zci (ops:=ops) hsz (fun i o e ho he hb=>(hA i o ho).2 e he hb) hnil;have hk:Hk=zc7 h hs:=by
    have h1:=zc6 hs h (fun hh=>by grind);rw[g3,Nat.add_sub_cancel]at h1;rw[xN (L:=lst listed) (L':=fun _=>true) _ 0 (fun j hj=>by grind)]at hH
    grind
   subst hk;refine hQ a w ⟨φ,hE,HR,?_,hdf,hn⟩;rw[g4,←ke (L:=lst listed) (l.map dv) 0 t (fun j hj=>by grind)];exact T
  ·obtain⟨o,ho,hlt,hli,hR⟩:=mem_ready hi;obtain⟨tr,v,hj⟩:=hl i o ho;obtain⟨htr,hk0,h0',hk0s,hone0,heff0⟩:=g5 i _ tr v hj;obtain⟨hnosel,hedge⟩:=hA i o ho;obtain⟨hdd,hdin⟩:=hdst i o _ tr v ho hj;have before:∀j,bef (yK ops.toList) j i=true→lst listed j=true:=fun j hb=>wg hb hC hR;have after:∀j,bef (yK ops.toList) i j=true→lst listed j=false:=by
    intro j hb;cases hj:lst listed j with
    |false=>rfl
    |true=>
     have:=wg hb hC (hC j hj)
     grind
   have hCi:Clo ops (fun k=>decide (k<i)):=by
    intro j hj o' e ho' he hb
    grind
   have hRi:Rdy ops (fun k=>decide (k<i)) i:=by
    intro o' e ho' he hb
    grind
   have hagree:∀s∈(o.looksAt ops).map bn,(frL (fun k=>decide (k<i)) 0 (l.map dv) t).get s=(frL (lst listed) 0 (l.map dv) t).get s:=by
    intro s hs';obtain⟨sn,hsn,rfl⟩:=List.mem_map.1 hs';rw[vR,vR]
    congr 1
    refine jX _ 0 fun j d v hjd hds=>?_;obtain⟨oj,sj,hoj,hsj,hbe⟩:=hdv j d v _ hjd hds;have:=v7 hbe;subst this;rw[Yzh]
    grind[Oper.apart_spec]
   have htrg:∀s,tr.get s=(frL (lst listed) 0 (l.map dv) t).get s∧s∈(o.looksAt ops).map bn∨tr.get s=none:=by
    intro s
    classical
    have:=wk (frL (fun k=>decide (k<i)) 0 (l.map dv) t) s ((o.looksAt ops).map bn)
    grind
   have Tr':Zh φ nt Hk.n.toNat tr (xX φ nt tr):=by
    refine zeC (fun j hj=>?_) (fun s v hv=>?_)
    ·rcases htrg (bn j) with⟨h1,_⟩|h1
     ·rw[h1];exact T.out j hj
     ·exact h1
    ·rcases htrg s with⟨h1,_⟩|h1
     ·rw[h1]at hv;exact T.wf s v hv
     ·grind
   have htmps:∀sn∈o.looksAt ops,a.tmps[sn]? = (xX φ nt tr)[sn]?:=by
    intro sn hsn;by_cases hlt':sn<nt
    ·rw[T.get sn hlt',Tr'.get sn hlt'];have hm:bn sn∈(o.looksAt ops).map bn:=List.mem_map.2 ⟨sn,hsn,rfl⟩;rw[←hagree _ hm]
     classical
     have:=wk (frL (fun k=>decide (k<i)) 0 (l.map dv) t) (bn sn) ((o.looksAt ops).map bn)
     grind
    ·have e1:a.tmps[sn]? = none:=YzM (by rw[T.size];grind);have e2:(xX φ nt tr)[sn]? = none:=YzM (by rw[Tr'.size];grind);rw[e1,e2]
   have hexec:execOp a.eval o=execOp ({ tmps:=xX φ nt tr,defers:=[] }:Act).eval o:=by
    refine execOp_congr o hnosel fun x hx=>?_;cases x with
    |tmp sn=>have:=htmps sn (Yzn _ (List.mem_filterMap.2 ⟨.tmp sn,by grind,rfl⟩));simp only[Act.eval,Yzq,this]
    |_=>rfl
   have hwant:Region.wanted o (yielded ops a.tmps)=Region.wanted o (yielded ops (xX φ nt tr)):=by
    unfold Region.wanted;cases hg:o.guard with
    |none=>rfl
    |some gb=>
     obtain⟨g,b⟩:=gb;simp only;have:yielded ops a.tmps g=yielded ops (xX φ nt tr) g:=by
      unfold yielded;cases hd:(ops[g]?).bind (·.dst) with
      |none=>rfl
      |some sn=>
       have:=htmps sn (Yzr _ (by grind))
       grind
     rw[this]
   have hone:∃h',yY call (ym P nt ops o) tr Hk=some (v,h')∧hs[ce (lst (listed.setIfInBounds i true)) 0 (ky P ops.toList)]? = some h':=by
    cases hq:yc P o.op with
    |false=>
     have hce:ce (lst listed) 0 (ky P ops.toList)=ce (fun k=>decide (k<i)) 0 (ky P ops.toList):=by
      refine xN _ 0 fun j hj=>?_
      grind
     rw[hce]at hH;cases hH.symm.trans hk0s;refine⟨h0',hone0,?_⟩;have:=heff0 (by simp[hq]);rw[←hce]at this;rw[zeI (L:=lst listed) (ky P ops.toList) 0 i (by grind) (by grind) (by grind[xW]) (fun j hj=>by rw[Yzh]at hj;grind[xW])];exact this
    |true=>
     have hsame:ce (lst (listed.setIfInBounds i true)) 0 (ky P ops.toList)=ce (lst listed) 0 (ky P ops.toList):=by
      refine xN _ 0 fun j hj=>?_;rw[Yzh,xW hlt]
      grind
     have hlo:ce (fun k=>bef (yK ops.toList) k i) 0 (ky P ops.toList)≤ce (lst listed) 0 (ky P ops.toList):=xA _ 0 fun j _ hb=>by grind
     have hhi:ce (lst listed) 0 (ky P ops.toList)≤ce (fun k=>!bef (yK ops.toList) i k) 0 (ky P ops.toList):=xA _ 0 fun j _ hb=>by grind
     have hlo0:ce (fun k=>bef (yK ops.toList) k i) 0 (ky P ops.toList)≤ce (fun k=>decide (k<i)) 0 (ky P ops.toList):=xA _ 0 fun j _ hb=>by rw[Yzh]at hb ⊢;grind[wg]
     have hhi0:ce (fun k=>decide (k<i)) 0 (ky P ops.toList)≤ce (fun k=>!bef (yK ops.toList) i k) 0 (ky P ops.toList):=xA _ 0 fun j _ hb=>by
      rw[Yzh]at hb ⊢;cases hbb:bef (yK ops.toList) i j with
      |false=>rfl
      |true=>
       have:=wg hbb hCi (hCi j hb)
       grind
     have hex:∃h',yY call (ym P nt ops o) tr Hk=some (v,h'):=by
      rcases zbb l hch i _ tr v hj (by simp[hq]) with heq|hall
      ·grind
      ·grind
     obtain⟨h',hh'⟩:=hex;refine⟨h',hh',?_⟩;have:h'=Hk:=by
      rcases zev (a:={ tmps:=xX φ nt tr,defers:=[] }) hh' Tr' with⟨_,hc⟩|⟨_,_,hc⟩
      ·exact zjm P o.op hq _ _ _ _ _ hc
      ·exact hc
     grind
   obtain⟨h',hone,hH'⟩:=hone;have hC':Clo ops (lst (listed.setIfInBounds i true)):=by
    intro j hj o' e ho' he hb;rw[xW hlt]at hj ⊢;rw[Yzu]
    right
    simp only[Yzu,Yz0]at hj;rcases hj with hj|hj
    ·subst hj;exact hR o' e ho' he hb
    ·exact hC j hj o' e ho' he hb
   have next:∀(φ2:Phi) (w2:World),Ext Hk.n.toNat φ φ2→Zd w0 S φ2 h' w2→wfA φ2 h'.n.toNat v→Hk.n.toNat≤h'.n.toNat→wpAnyIn (FR ro) 0 P .any ops Q fuel (listed.setIfInBounds i true) (a.put o.dst (zj φ2 v)) w2:=by
    intro φ2 w2 he H2 hv hle;refine ih _ φ2 _ w2 h' (by grind) ?_ hC' (hE.trans he hn) hH' H2 (Yzp hn hle) ?_ ((put_defers _ _ _).trans hdf)
    ·grind[zjb]
    ·refine Zh.of_get (Zh.put (T.ext he hle) hv o.dst hdin) fun s=>?_
     classical
     rw[zcy,vR];have hri:(l.map dv)[i]? = some (o.dst.map bn,v):=by grind[dv]
     by_cases hd:o.dst.map bn=some s
     ·rw[Yzd hd];rw[hd]at hri;rw[zfv (l.map dv) 0 i v hri (by rw[Yzh,xW hlt];simp) (fun j d u hij hjd hds=>?_)]
      ·rfl
      ·rw[Yzh,xW hlt];obtain⟨oj,sj,hoj,hsj,hbe⟩:=hdv j d u _ hjd hds;have hne:¬j=i:=by omega
       simp only[hne,decide_false,Yz3]
       grind[v7,Oper.apart_spec]
     ·rw[Yzc hd,vR]
      congr 1
      refine jX _ 0 fun j d u hjd hds=>?_;rw[Yzh,xW hlt]
      grind
   unfold wpOpIn;simp only[ho];rcases zev (a:={ tmps:=xX φ nt tr,defers:=[] }) hone Tr' with⟨hw,hc⟩|⟨hw,hv,hh⟩
   ·rw[Yzd (by grind)];exact zd7 C HR (ar:={ tmps:=xX φ nt tr,defers:=[] }) Tr' hexec hc next
   ·rw[Yzc (by grind)];subst hv hh;exact⟨fun f _=>trivial,next φ w (Ext.refl _ _) HR (fun _ hv=>by cases hv) (LzB _)⟩
end
end Go.CE
end
section
namespace Go.CE
open Go.RowKit
section
variable {α:Type}
theorem ux:∀(n:BN) (t:Tr α),(t.del n).get n=none:=by
 intro n
 induction n with
 |z=>intro t;cases t<;>rfl
 |o n ih=>intro t;cases t with
  |nil=>rfl
  |node l v r=>exact ih l
 |d n ih=>intro t;cases t with
  |nil=>rfl
  |node l v r=>exact ih r
theorem vO:∀(n m:BN) (t:Tr α),m≠n→(t.del n).get m=t.get m:=by
 intro n
 induction n with
 |z=>intro m t h;cases t with
  |nil=>rfl
  |node l v r=>cases m with
   |z=>trivial
   |o m=>rfl
   |d m=>rfl
 |o n ih=>intro m t h;cases t with
  |nil=>rfl
  |node l v r=>cases m with
   |z=>rfl
   |o m=>exact ih m l (fun e=>h (by rw[e]))
   |d m=>rfl
 |d n ih=>intro m t h;cases t with
  |nil=>rfl
  |node l v r=>cases m with
   |z=>rfl
   |o m=>rfl
   |d m=>exact ih m r (fun e=>h (by rw[e]))
end
abbrev nm(n0 j:Nat):BN:=bn (Nat.add n0 j)
theorem ye(n0 j:Nat):(nm n0 j).toNat=n0+j:=zN _
theorem wJ{n0 i j:Nat}(h:nm n0 i=nm n0 j):i=j:=by
 have:=congrArg BN.toNat h
 grind[ye]
theorem zut{n0:Nat}{b:BN}(h:n0≤b.toNat):b=nm n0 (b.toNat-n0):=by grind[BN.toNat_inj,ye]
theorem za5{n0:Nat}:∀(l:List Nat) (t:Tr Zf) (j:Nat),j∈l→(k8 n0 l t).get (nm n0 j)=none
 | [],_,j,h=>by cases h
 |i::l,t,j,h=>by
  unfold k8;by_cases hj:j∈l
  ·exact za5 l _ j hj
  ·have hji:j=i:=by
    grind
   subst hji;have key:∀(l:List Nat) (t:Tr Zf) (b:BN),t.get b=none→(k8 n0 l t).get b=none:=by
    intro l
    induction l with
    |nil=>intro t b h;exact h
    |cons i l ih=>intro t b h;unfold k8;apply ih;by_cases hb:b=bn (Nat.add n0 i)<;>simp_all[ux,vO]
   grind[ux]
theorem wO{n0:Nat}:∀(l:List Nat) (t:Tr Zf) (b:BN),(∀j∈l,b≠nm n0 j)→(k8 n0 l t).get b=t.get b
 | [],_,_,_=>rfl
 |i::l,t,b,h=>by unfold k8;rw[wO l _ b fun j hj=>h j (by simp[hj]),vO _ _ _ (h i (by simp))]
theorem u3{n0:Nat}{h:Tr Zf}:∀(l:List Nat) (t t':Tr Zf),zdB n0 h l t=some t'→
  (∀j∈l,t'.get (nm n0 j)=h.get (nm n0 j))∧(∀b,(∀j∈l,b≠nm n0 j)→t'.get b=t.get b)∧∀j∈l,t.get (nm n0 j)=none
 | [],t,t',e=>by cases e<;>grind
 |i::l,t,t',e=>by
  unfold zdB at e;split at e
  ·cases e
  ·rename_i hn;split at e
   ·rename_i o ho;obtain⟨g1,g2,g3⟩:=u3 l _ t' e;have hni:∀j∈l,nm n0 i≠nm n0 j:=fun j hj hh=>by
     have:=g3 j hj;rw[←hh]at this;rw[show nm n0 i=bn (Nat.add n0 i) from rfl,zr]at this;cases this
    refine⟨fun j hj=>?_,fun b hb=>?_,fun j hj=>?_⟩
    ·rcases YzL.1 hj with rfl|hj
     ·rw[g2 _ hni,show nm n0 j=bn (Nat.add n0 j) from rfl,zr,ho]
     ·grind
    ·grind[zl]
    ·rcases YzL.1 hj with rfl|hj
     ·exact hn
     ·grind[zl]
   ·rename_i ho;obtain⟨g1,g2,g3⟩:=u3 l _ t' e
    grind
theorem zvH{n0:Nat}(h t:Tr Zf):∀(l:List Nat),∃t':Tr Zf,(∀j∈l,t'.get (nm n0 j)=h.get (nm n0 j))∧∀b,(∀j∈l,b≠nm n0 j)→t'.get b=t.get b
 | []=>⟨t,fun j hj=>(by cases hj),fun _ _=>rfl⟩
 |i::l=>by
  obtain⟨t1,g1,g2⟩:=zvH h t l;have key:∃t2:Tr Zf,t2.get (nm n0 i)=h.get (nm n0 i)∧∀b,b≠nm n0 i→t2.get b=t1.get b:=by
   cases ho:h.get (nm n0 i) with
   |none=>exact⟨t1.del (nm n0 i),ux _ _,fun b hb=>vO _ _ _ hb⟩
   |some o=>exact⟨t1.set (nm n0 i) o,zr _ _ _,fun b hb=>zl _ _ _ _ hb⟩
  obtain⟨t2,k1,k2⟩:=key;refine⟨t2,fun j hj=>?_,fun b hb=>?_⟩
  ·by_cases hji:nm n0 j=nm n0 i
   ·grind
   ·rw[k2 _ hji];rcases YzL.1 hj with rfl|hj
    ·trivial
    ·exact g1 j hj
  ·grind
def Sbh(e h:Za):Prop:=∀b o,e.t.get b=some o→h.t.get b=some o
section
variable {w0:World} {S:Nat→Prop} {φ φ2:Phi} {h e e2 h2:Za} {w w2:World}
def zto(φ:Phi)(e:Za)(k:Nat):Prop:=∃b o,e.t.get b=some o∧live o∧(φ b).blk=k
theorem Zd.sub(H:Zd w0 S φ h w)(hs:Sbh e h)(hn:e.n.toNat=h.n.toNat):Zd w (zto φ e) φ e w:=
 ⟨fun b o hb => by rw [hn]; exact H.keys b o (hs b o hb), fun b o hb => H.okb b o (hs b o hb), fun b o hb => by rw [hn]; exact H.obj b o (hs b o hb),
  fun b b' o o' hb hb' hl hl' he=>H.inj b b' o o' (hs b o hb) (hs b' o' hb') hl hl' he,fun b o hb hl=>.inl ⟨b,o,hb,hl,rfl⟩,rfl,rfl,rfl,LzB _,LzB _,fun _ _ _=>rfl,H.glob,fun b o hb hl=>H.flat b o (hs b o hb) hl,fun b o hb hl=>H.ng b o (hs b o hb) hl⟩
theorem Zd.join(H:Zd w0 S φ h w)(hs:Sbh e h)(_hn:e.n.toNat=h.n.toNat)(H2:Zd w (zto φ e) φ2 e2 w2)(he:Ext h.n.toNat φ φ2)(hle:h.n.toNat≤e2.n.toNat)
  (hn2:h2.n.toNat=e2.n.toNat) (hg:∀b o,h2.t.get b=some o→e2.t.get b=some o∨(h.t.get b=some o∧e.t.get b=none)):Zd w0 S φ2 h2 w2:=by
 have hold:∀b o,h.t.get b=some o→φ2 b=φ b:=fun b o hb=>he b (H.keys b o hb);have hdesc:∀k,zto φ e k→S k∨w0.heap.size≤k:=by
  rintro k ⟨b,o,hb,hl,rfl⟩
  exact H.own b o (hs b o hb) hl
 have hrest:∀b o,h.t.get b=some o→e.t.get b=none→live o→¬zto φ e (φ b).blk:=by
  rintro b o hb hn hl ⟨c,o',hc,hl',hcc⟩
  have:=H.inj c b o' o (hs c o' hc) hb hl' hl hcc
  grind
 have hlt:∀b o,h.t.get b=some o→live o→(φ b).blk<w.heap.size:=fun b o hb hl=>(H.obj b o hb).there hl;refine⟨fun b o hb=>?_,fun b o hb=>?_,fun b o hb=>?_,fun b b' o o' hb hb' hl hl' hh=>?_,fun b o hb hl=>?_,H2.os.trans H.os,H2.tape.trans H.tape,H2.output.trans H.output,Yzp H.size H2.size,Yzp H.drawn H2.drawn,fun k hk hS=>?_,H2.glob,fun b o hb hl=>?_,fun b o hb hl=>?_⟩
 ·rw[hn2];rcases hg b o hb with hb|⟨hb,_⟩
  ·exact H2.keys b o hb
  ·exact Lz9 (H.keys b o hb) hle
 ·rcases hg b o hb with hb|⟨hb,_⟩
  ·exact H2.okb b o hb
  ·rw[hold b o hb];exact H.okb b o hb
 ·rw[hn2];rcases hg b o hb with hb|⟨hb,hnone⟩
  ·exact H2.obj b o hb
  ·exact((H.obj b o hb).world fun hl=>H2.kept _ (hlt b o hb hl) (hrest b o hb hnone hl)).ext (H.okk b o hb) he hle
 ·have hcross:∀b b' o o',e2.t.get b=some o→h.t.get b'=some o'→e.t.get b'=none→live o→live o'→(φ2 b).blk=(φ2 b').blk→False:=by
   intro b b' o o' hb hb' hn hl hl' hh;rw[hold b' o' hb']at hh;rcases H2.own b o hb hl with h1|h1<;>grind
  rcases hg b o hb with hb|⟨hb,hnb⟩<;>rcases hg b' o' hb' with hb'|⟨hb',hnb'⟩
  ·exact H2.inj b b' o o' hb hb' hl hl' hh
  ·grind
  ·grind
  ·rw[hold b o hb,hold b' o' hb']at hh;exact H.inj b b' o o' hb hb' hl hl' hh
 ·rcases hg b o hb with hb|⟨hb,_⟩
  ·rcases H2.own b o hb hl with h1|h1
   ·grind
   ·exact .inr (Yzp H.size h1)
  ·rw[hold b o hb];exact H.own b o hb hl
 ·rw[H2.kept k (Lz9 hk H.size) (fun hd=>by
   grind)]
  exact H.kept k hk hS
 ·rcases hg b o hb with hb|⟨hb,_⟩
  ·exact H2.flat b o hb hl
  ·rw[hold b o hb];exact H.flat b o hb hl
 ·rcases hg b o hb with hb|⟨hb,_⟩
  ·exact H2.ng b o hb hl
  ·rw[hold b o hb];exact H.ng b o hb hl
theorem Zd.of_get(H:Zd w0 S φ h w)(hg:∀b,e.t.get b=h.t.get b)(hn:e.n.toNat=h.n.toNat):Zd w0 S φ e w:=
 ⟨fun b o hb => by rw [hn]; exact H.keys b o (by grind), fun b o hb => H.okb b o (by grind), fun b o hb => by rw [hn]; exact H.obj b o (by grind),
  fun b b' o o' hb hb'=>H.inj b b' o o' (by grind) (by grind),fun b o hb=>H.own b o (by grind),H.os,H.tape,H.output,H.size,H.drawn,H.kept,H.glob,fun b o hb hl=>H.flat b o (by grind) hl,fun b o hb hl=>H.ng b o (by grind) hl⟩
noncomputable def zb0(φ:Phi)(n0 N:Nat):Phi:=fun b=>if n0≤b.toNat∧b.toNat<n0+N then⟨0,0,0,false,none⟩ else φ b
theorem zbZ(φ:Phi)(n0 N:Nat):Ext n0 φ (zb0 φ n0 N):=fun b hb=>by
 unfold zb0
 grind
theorem zkM(φ:Phi)(n0 N j:Nat)(hj:j<N):(zb0 φ n0 N (nm n0 j)).ok=false:=by simp_all[zb0,ye]
theorem Zd.keep(H:Zd w0 S φ h w)(N:Nat):Zd w0 S (zb0 φ h.n.toNat N) ⟨bn (Nat.add h.n.toNat N),h.t⟩ w:=by
 have he:=zbZ φ h.n.toNat N;have hn:(bn (Nat.add h.n.toNat N)).toNat=h.n.toNat+N:=zN _;refine⟨fun b o hb=>?_,fun b o hb=>?_,fun b o hb=>?_,fun b b' o o' hb hb' hl hl' hh=>?_,fun b o hb hl=>?_,H.os,H.tape,H.output,H.size,H.drawn,H.kept,H.glob,fun b o hb hl=>?_,fun b o hb hl=>?_⟩
 ·show b.toNat<(bn (Nat.add h.n.toNat N)).toNat;rw[hn];have:=H.keys b o hb;omega
 ·rw[he b (H.keys b o hb)];exact H.okb b o hb
 ·show ORel _ (bn (Nat.add h.n.toNat N)).toNat w b o;rw[hn];exact(H.obj b o hb).ext (H.okk b o hb) he (by omega)
 ·rw[he b (H.keys b o hb),he b' (H.keys b' o' hb')]at hh;exact H.inj b b' o o' hb hb' hl hl' hh
 ·rw[he b (H.keys b o hb)];exact H.own b o hb hl
 ·rw[he b (H.keys b o hb)];exact H.flat b o hb hl
 ·rw[he b (H.keys b o hb)];exact H.ng b o hb hl
def OWf(φ:Phi)(n:Nat):Zf→Prop
 | .cells cs _=>∀c∈cs,wfC φ n c
 | .ro _ f=>∀i c,f i=some c→wfC φ n c
 | .tcells cs _ _=>∀c∈cs,wfC φ n c
 | .map es=>∀p∈es,wfS φ n p.1∧wfS φ n p.2
 | .loop _ _ _ _ tmps _ _ _ d=>(∀i v,tmps.get i=some v→wfA φ n v)∧okB φ n d
 |_=>True
theorem ORel.wf{n:Nat}{b:BN}{o:Zf}(h:ORel φ n w b o):OWf φ n o:=by
 cases o with
 |cells cs st=>obtain⟨_,_,_,_,_,h4⟩:=h;exact h4
 |ro x f=>obtain⟨_,_,_,_,_,h4⟩:=h;exact fun i c hc=>(h4 i c hc).2
 |tcells cs ty var=>obtain⟨_,_,_,_,_,_,h4⟩:=h;exact h4
 |map es=>obtain⟨_,_,_,_,h3,_⟩:=h;exact h3
 |loop st pend fn nt tmps ps assign body d=>obtain⟨_,_,_,h2,h3⟩:=h;exact⟨h2.wf,h3⟩
 |_=>trivial
theorem ORel.recast{φ1 φ2:Phi}{n n1 n2:Nat}{b b2:BN}{o:Zf}(h:ORel φ1 n1 w b o)(hw:OWf φ n o)(hb:φ2 b2=φ1 b)(e1:zeW n φ φ1)(e2:zeW n φ φ2)(hn2:n≤n2):ORel φ2 n2 w b2 o:=by
 have cc:∀c,wfC φ n c→zc φ2 c=zc φ1 c:=fun c hc=>(xt e2 hc).trans (xt e1 hc).symm;have cs':∀c,wfS φ n c→zz φ2 c=zz φ1 c:=fun c hc=>(vC e2 hc).trans (vC e1 hc).symm;have ca:∀c,wfA φ n c→zj φ2 c=zj φ1 c:=fun c hc=>(qb e2 hc).trans (qb e1 hc).symm;cases o with
 |cells cs st=>
  obtain⟨arr,e,h1,h2,h3,h4⟩:=h;refine⟨arr,e,by grind,fun i c hc=>?_,by grind,fun c hc=>xJ e2 hn2 (hw c hc)⟩;rw[hb,cc c (hw c (Lz3 hc))]
  grind
 |ro x f=>obtain⟨h0,arr,e,fr,h1,h2⟩:=h;refine⟨fun y hy=>by grind,arr,e,fr,by grind,fun i c hc=>?_⟩;obtain⟨k1,_⟩:=h2 i c hc;exact⟨by rw[hb,cc c (hw i c hc)];exact k1,xJ e2 hn2 (hw i c hc)⟩
 |tcells cs ty var=>
  obtain⟨arr,h1,h2,h3,h4,h5,h6⟩:=h;refine⟨arr,by grind,fun i c hc=>?_,by grind,by grind,h5,fun c hc=>xJ e2 hn2 (hw c hc)⟩;rw[cc c (hw c (Lz3 hc))]
  grind
 |dead=>trivial
 |void=>trivial
 |map es=>obtain⟨ents,clock,h1,h2,h3,h4⟩:=h;refine⟨ents,clock,by grind,?_,fun p hp=>⟨vI e2 hn2 (hw p hp).1,vI e2 hn2 (hw p hp).2⟩,h4⟩;rw[h2];exact YzG fun p hp=>by rw[cs' _ (hw p hp).1,cs' _ (hw p hp).2]
 |loop st pend fn nt tmps ps assign body d=>
  obtain⟨arr,f,h1,h2,h3⟩:=h;obtain⟨w1,w2'⟩:=hw;refine⟨arr,f,by rw[hb,(e2 d w2').trans (e1 d w2').symm];exact h1,⟨h2.size,fun i hi=>?_,h2.out,fun i v hv=>zgg e2 hn2 (w1 i v hv)⟩,okB.extW e2 hn2 w2'⟩;rw[h2.get i hi];cases hg:tmps.get (bn i) with
  |none=>rfl
  |some v=>grind
 |defer=>grind[ORel]
theorem Zd.rename(H:Zd w0 S φ h w){o:Zf}{φ1:Phi}(H1:Zd w0 S φ1 (h.new o) w2)(he:Ext h.n.toNat φ φ1)(hw:OWf φ h.n.toNat o){b:BN}(hb:b.toNat<h.n.toNat)(hbad:(φ b).ok=false)(hnone:h.t.get b=none):
  Zd w0 S (upd φ b (φ1 h.n)) (h.put b o) w2∧zeW h.n.toNat φ (upd φ b (φ1 h.n)):=by
 have hnb:∀c o',h.t.get c=some o'→c≠b:=fun c o' hc hh=>by grind
 have hnn:∀c o',h.t.get c=some o'→c≠h.n:=fun c o' hc hh=>by have:=H.keys c o' hc;grind
 have hupd:∀c,c≠b→upd φ b (φ1 h.n) c=φ c:=fun c hc=>by grind[upd]
 have hget:∀c x,(h.put b o).t.get c=some x→(c=b∧x=o)∨(c≠b∧h.t.get c=some x):=by grind[Za.put,uw]
 have hold:∀c x,h.t.get c=some x→(h.new o).t.get c=some x:=fun c x hc=>by grind[Za.new,zl]
 have hnew:(h.new o).t.get h.n=some o:=by grind[Za.new,zr]
 have e2:zeW h.n.toNat φ (upd φ b (φ1 h.n)):=fun c hc=>hupd c fun hh=>by grind
 refine⟨⟨fun c x hc=>?_,fun c x hc=>?_,fun c x hc=>?_,fun c c' x x' hc hc' hl hl' hh=>?_,fun c x hc hl=>?_,H1.os,H1.tape,H1.output,H1.size,H1.drawn,H1.kept,H1.glob,fun c x hc hl=>?_,fun c x hc hl=>?_⟩,e2⟩
 ·rcases hget c x hc with⟨rfl,_⟩|⟨_,hc'⟩
  ·exact hb
  ·exact H.keys c x hc'
 ·rcases hget c x hc with⟨rfl,_⟩|⟨hne,hc'⟩
  ·rw[zi];exact H1.okb _ _ hnew
  ·rw[hupd c hne];exact H.okb c x hc'
 ·rcases hget c x hc with⟨rfl,rfl⟩|⟨hne,hc'⟩
  ·exact(H1.obj _ _ hnew).recast hw (zi _ _ _) he.w e2 (LzB _)
  ·exact(H1.obj _ _ (hold c x hc')).recast (H.obj c x hc').wf ((hupd c hne).trans (he c (H.keys c x hc')).symm) he.w e2 (LzB _)
 ·rcases hget c x hc with⟨rfl,rfl⟩|⟨hne,hc1⟩<;>rcases hget c' x' hc' with⟨rfl,rfl⟩|⟨hne',hc2⟩
  ·rfl
  ·rw[zi,hupd c' hne',←he c' (H.keys c' x' hc2)]at hh;exact absurd (H1.inj _ _ _ _ hnew (hold c' x' hc2) hl hl' hh).symm (hnn c' x' hc2)
  ·rw[zi,hupd c hne,←he c (H.keys c x hc1)]at hh;exact absurd (H1.inj _ _ _ _ (hold c x hc1) hnew hl hl' hh) (hnn c x hc1)
  ·rw[hupd c hne,hupd c' hne']at hh;exact H.inj c c' x x' hc1 hc2 hl hl' hh
 ·rcases hget c x hc with⟨rfl,rfl⟩|⟨hne,hc'⟩
  ·rw[zi];exact H1.own _ _ hnew hl
  ·rw[hupd c hne];exact H.own c x hc' hl
 ·rcases hget c x hc with⟨rfl,rfl⟩|⟨hne,hc'⟩
  ·rw[zi];exact H1.flat _ _ hnew hl
  ·rw[hupd c hne];exact H.flat c x hc' hl
 ·rcases hget c x hc with⟨rfl,rfl⟩|⟨hne,hc'⟩
  ·rw[zi];exact H1.ng _ _ hnew hl
  ·rw[hupd c hne];exact H.ng c x hc' hl
end
end Go.CE
end
section
namespace Go.CE
open Go.RowKit
def yx(f:zbw):Prop:=∀call t h h' v h2,f call t h=some (v,h2)→Sbh h h'→f call t h'=some (v,h')
theorem zD:yx (zx none):=fun _ _ _ _ _ _ e=>by cases e
theorem yu{f:zbw}(hf:yx f):yx (zx (some f)):=hf
theorem zky{α:Type}{a:Option α}{g:α→Option zbw}(hg:∀x,yx (zx (g x))):yx (zx (a.bind g)):=by cases a<;>grind[zD]
theorem zq{α:Type}{a:Option α}{g:α→Option zbw}(hg:∀x,yx (zx (g x))):yx (zx (a >>= g)):=zky hg
theorem zgX{α:Type}{a:Option α}{g:α→zbw}(hg:∀x,yx (g x)):yx (zx (a.map g)):=by cases a<;>grind[zD,zx]
theorem y1{b:Bool}{x y:Option zbw}(hx:yx (zx x))(hy:yx (zx y)):yx (zx (bif b then x else y)):=by grind
section
variable {h h' h2:Za} {v:Zb}
theorem zY{c:Option Zc}(e:kI h c=some (v,h2)):kI h' c=some (v,h'):=by cases c<;>cases e;rfl
theorem zZ{c:Option (List Zc)}(e:zcC h c=some (v,h2)):zcC h' c=some (v,h'):=by cases c<;>cases e;rfl
theorem z6{n:Option Nat}{cs:List Zc}{off:Nat}(e:part n cs off h=some (v,h2)):part n cs off h'=some (v,h'):=by
 cases n
 ·exact zY e
 ·exact zZ e
theorem yQ{b:Bool}{x y x' y':Res}(hx:x=some (v,h2)→x'=some (v,h'))(hy:y=some (v,h2)→y'=some (v,h'))(e:(bif b then x else y)=some (v,h2)):(bif b then x' else y')=some (v,h'):=by grind
theorem zdO{st:Nat}{lo hi mx:Option Opd}{t:Tr Zb}{b:BN}{off len cap:Nat}(e:yR st lo hi mx t h b off len cap=some (v,h2)):yR st lo hi mx t h' b off len cap=some (v,h'):=by
 unfold yR at e ⊢
 (repeat' split at e)<;>first|(cases e;done)|((try simp only[*]);exact yQ (fun e=>by cases e;rfl) (fun e=>by cases e) e)
theorem zjq{st:Nat}{lo hi mx:Option Opd}{t:Tr Zb}{b:BN}{off len cap:Nat}(e:yN st lo hi mx t h b off len cap=some (v,h2)):yN st lo hi mx t h' b off len cap=some (v,h'):=by
 unfold yN at e ⊢
 (repeat' split at e)<;>first|(cases e;done)|(cases e;simp only[*];done)|((try simp only[*]);exact yQ (fun e=>by cases e;rfl) (fun e=>by cases e) e)
theorem zh3{lo hi mx:Option Opd}{t:Tr Zb}(e:y5 lo hi mx t h=some (v,h2)):y5 lo hi mx t h'=some (v,h'):=by grind[y5]
end
theorem zfr(x):yx (zgN x):=by intro call t h h' v h2 e _;simp_all[zgN]
theorem zko(x y z):yx (uf x y z):=by
 intro call t h h' v h2 e _;unfold uf at e ⊢
 (repeat' split at e)<;>first
  |(cases e;done)
  |(cases e;simp only[*];done)
  |((try simp only[*]);first|exact zY e|exact zZ e|exact z6 e|exact yQ (fun e=>by first|(cases e;rfl)|exact zY e|exact zZ e|exact z6 e) (fun e=>by cases e) e)
theorem zbV(zs ps):yx (ww zs ps):=by intro call t h h' v h2 e _;exact zZ e
theorem ziq(x):yx (wp x):=by
 intro call t h h' v h2 e _;unfold wp at e ⊢
 (repeat' split at e)<;>first
  |(cases e;done)
  |(cases e;simp only[*];done)
  |((try simp only[*]);first|exact zY e|exact zZ e|exact z6 e|exact yQ (fun e=>by first|(cases e;rfl)|exact zY e|exact zZ e|exact z6 e) (fun e=>by cases e) e)
theorem znp(g x y):yx (qI g x y):=by
 intro call t h h' v h2 e _;unfold qI at e ⊢
 (repeat' split at e)<;>first
  |(cases e;done)
  |(cases e;simp only[*];done)
  |((try simp only[*]);first|exact zY e|exact zZ e|exact z6 e|exact yQ (fun e=>by first|(cases e;rfl)|exact zY e|exact zZ e|exact z6 e) (fun e=>by cases e) e)
theorem zin(g x y):yx (xE g x y):=by
 intro call t h h' v h2 e _;unfold xE at e ⊢
 (repeat' split at e)<;>first
  |(cases e;done)
  |(cases e;simp only[*];done)
  |((try simp only[*]);first|exact zY e|exact zZ e|exact z6 e|exact yQ (fun e=>by first|(cases e;rfl)|exact zY e|exact zZ e|exact z6 e) (fun e=>by cases e) e)
theorem znk(g x y):yx (zaw g x y):=by
 intro call t h h' v h2 e _;unfold zaw at e ⊢
 (repeat' split at e)<;>first
  |(cases e;done)
  |(cases e;simp only[*];done)
  |((try simp only[*]);first|exact zY e|exact zZ e|exact z6 e|exact yQ (fun e=>by first|(cases e;rfl)|exact zY e|exact zZ e|exact z6 e) (fun e=>by cases e) e)
theorem zpQ(g n x y):yx (zgO g n x y):=by
 intro call t h h' v h2 e _;unfold zgO at e ⊢
 (repeat' split at e)<;>first
  |(cases e;done)
  |(cases e;simp only[*];done)
  |((try simp only[*]);first|exact zY e|exact zZ e|exact z6 e|exact yQ (fun e=>by first|(cases e;rfl)|exact zY e|exact zZ e|exact z6 e) (fun e=>by cases e) e)
theorem zkp(n x y):yx (vh n x y):=by
 intro call t h h' v h2 e _;unfold vh at e ⊢
 grind
theorem zkq(n x y):yx (ug n x y):=by
 intro call t h h' v h2 e _;unfold ug at e ⊢
 grind
theorem znm(x):yx (zax x):=by
 intro call t h h' v h2 e _;unfold zax at e ⊢
 (repeat' split at e)<;>first
  |(cases e;done)
  |(cases e;simp only[*];done)
  |((try simp only[*]);first|exact zY e|exact zZ e|exact z6 e|exact yQ (fun e=>by first|(cases e;rfl)|exact zY e|exact zZ e|exact z6 e) (fun e=>by cases e) e)
theorem znn(x):yx (zay x):=by
 intro call t h h' v h2 e _;unfold zay at e ⊢
 (repeat' split at e)<;>first
  |(cases e;done)
  |(cases e;simp only[*];done)
  |((try simp only[*]);first|exact zY e|exact zZ e|exact z6 e|exact yQ (fun e=>by first|(cases e;rfl)|exact zY e|exact zZ e|exact z6 e) (fun e=>by cases e) e)
theorem zkx(k x):yx (um k x):=by
 intro call t h h' v h2 e _;unfold um at e ⊢
 (repeat' split at e)<;>first
  |(cases e;done)
  |(cases e;simp only[*];done)
  |((try simp only[*]);first|exact zY e|exact zZ e|exact z6 e|exact yQ (fun e=>by first|(cases e;rfl)|exact zY e|exact zZ e|exact z6 e) (fun e=>by cases e) e)
theorem zkr(f x):yx (uh f x):=by
 intro call t h h' v h2 e _;unfold uh at e ⊢
 (repeat' split at e)<;>first
  |(cases e;done)
  |(cases e;simp only[*];done)
  |((try simp only[*]);first|exact zY e|exact zZ e|exact z6 e|exact yQ (fun e=>by first|(cases e;rfl)|exact zY e|exact zZ e|exact z6 e) (fun e=>by cases e) e)
theorem zfp(x lo hi):yx (y7 x lo hi):=by
 intro call t h h' v h2 e _;unfold y7 at e ⊢
 (repeat' split at e)<;>first
  |(cases e;done)
  |(cases e;simp only[*];done)
  |((try simp only[*]);first|exact zY e|exact zZ e|exact z6 e|exact yQ (fun e=>by first|(cases e;rfl)|exact zY e|exact zZ e|exact z6 e) (fun e=>by cases e) e)
theorem zkw(x o):yx (ul x o):=by
 intro call t h h' v h2 e _;unfold ul at e ⊢
 (repeat' split at e)<;>first
  |(cases e;done)
  |(cases e;simp only[*];done)
  |((try simp only[*]);first|exact zY e|exact zZ e|exact z6 e|exact yQ (fun e=>by first|(cases e;rfl)|exact zY e|exact zZ e|exact z6 e) (fun e=>by cases e) e)
theorem ziu(x o n):yx (wv x o n):=by
 intro call t h h' v h2 e _;unfold wv at e ⊢
 (repeat' split at e)<;>first
  |(cases e;done)
  |(cases e;simp only[*];done)
  |((try simp only[*]);first|exact zY e|exact zZ e|exact z6 e|exact yQ (fun e=>by first|(cases e;rfl)|exact zY e|exact zZ e|exact z6 e) (fun e=>by cases e) e)
theorem zno(st x i):yx (zaB st x i):=by
 intro call t h h' v h2 e _;unfold zaB at e ⊢
 (repeat' split at e)<;>first
  |(cases e;done)
  |(cases e;simp only[*];done)
  |((try simp only[*]);first|exact zY e|exact zZ e|exact z6 e|exact yQ (fun e=>by first|(cases e;rfl)|exact zY e|exact zZ e|exact z6 e) (fun e=>by cases e) e)
theorem zis(l st x i):yx (wt l st x i):=by
 intro call t h h' v h2 e _;unfold wt at e ⊢
 (repeat' split at e)<;>first
  |(cases e;done)
  |(cases e;simp only[*];done)
  |((try simp only[*]);first|exact zY e|exact zZ e|exact z6 e|exact yQ (fun e=>by first|(cases e;rfl)|exact zY e|exact zZ e|exact z6 e) (fun e=>by cases e) e)
theorem zit(l st n x i):yx (wu l st n x i):=by
 intro call t h h' v h2 e _;unfold wu at e ⊢
 (repeat' split at e)<;>first
  |(cases e;done)
  |(cases e;simp only[*];done)
  |((try simp only[*]);first|exact zY e|exact zZ e|exact z6 e|exact yQ (fun e=>by first|(cases e;rfl)|exact zY e|exact zZ e|exact z6 e) (fun e=>by cases e) e)
theorem zir(x i):yx (wq x i):=by
 intro call t h h' v h2 e _;unfold wq at e ⊢
 (repeat' split at e)<;>first
  |(cases e;done)
  |(cases e;simp only[*];done)
  |((try simp only[*]);first|exact zY e|exact zZ e|exact z6 e|exact yQ (fun e=>by first|(cases e;rfl)|exact zY e|exact zZ e|exact z6 e) (fun e=>by cases e) e)
theorem zed(x i):yx (yZ x i):=by
 intro call t h h' v h2 e _;unfold yZ at e ⊢
 (repeat' split at e)<;>first
  |(cases e;done)
  |(cases e;simp only[*];done)
  |((try simp only[*]);first|exact zY e|exact zZ e|exact z6 e|exact yQ (fun e=>by first|(cases e;rfl)|exact zY e|exact zZ e|exact z6 e) (fun e=>by cases e) e)
theorem zkt(x):yx (uj x):=by
 intro call t h h' v h2 e _;unfold uj at e ⊢
 (repeat' split at e)<;>first
  |(cases e;done)
  |(cases e;simp only[*];done)
  |((try simp only[*]);first|exact zY e|exact zZ e|exact z6 e|exact yQ (fun e=>by first|(cases e;rfl)|exact zY e|exact zZ e|exact z6 e) (fun e=>by cases e) e)
theorem zkv(x):yx (uk x):=by
 intro call t h h' v h2 e _;unfold uk at e ⊢
 grind
theorem zaH(b x xs):yx (yE b x xs):=by
 intro call t h h' v h2 e _;unfold yE at e ⊢
 (repeat' split at e)<;>first
  |(cases e;done)
  |(cases e;simp only[*];done)
  |((try simp only[*]);first|exact zY e|exact zZ e|exact z6 e|exact yQ (fun e=>by first|(cases e;rfl)|exact zY e|exact zZ e|exact z6 e) (fun e=>by cases e) e)
theorem zim(st x lo hi mx):yx (wn st x lo hi mx):=by
 intro call t h h' v h2 e _;unfold wn at e ⊢;split at e
 ·grind[zh3]
 ·(try simp only[*]);exact yQ zdO zjq e
 ·cases e
theorem zio(n x y):yx (wo n x y):=by
 intro call t h h' v h2 e _
 grind[wo]
theorem zfq(l st x lo hi mx):yx (x8 l st x lo hi mx):=by
 intro call t h h' v h2 e _
 grind[x8,zdO]
theorem znl(x):yx (zcU x):=by
 intro call t h h' v h2 e hs;unfold zcU at e ⊢;split at e
 ·grind
 ·rename_i b o hx;cases hb:h.t.get b with
  |none=>grind
  |some ob=>rw[hb]at e;rw[hs b ob hb];cases ob<;>grind
 ·cases e
theorem znj(u n x):yx (zcT u n x):=by
 intro call t h h' v h2 e hs;unfold zcT at e ⊢;split at e
 ·grind
 ·rename_i b o hx;refine yQ (fun e=>?_) (fun e=>by cases e) e;cases hb:h.t.get b with
  |none=>grind
  |some ob=>rw[hb]at e;rw[hs b ob hb];cases ob<;>grind
 ·cases e
theorem zny{n:Option Nat}{h h' h2:Za}{off:Nat}{o:Zf}{v:Zb}(e:loadAt n h off (some o)=some (v,h2)):loadAt n h' off (some o)=some (v,h'):=by
 cases o with
 |cells cs st=>exact z6 (e:part n cs off h=some (v,h2))
 |tcells cs ty var=>exact z6 (e:part n cs off h=some (v,h2))
 |ro x f=>have e:zd2 n f off h=some (v,h2):=e;show zd2 n f off h'=some (v,h');unfold zd2 at e ⊢;cases n<;>grind[zY,zZ]
 |_=>cases e
theorem zr1{h h' h2:Za}{c:Option (List Zc)}{v:Zb}(e:qT h c=some (v,h2)):qT h' c=some (v,h'):=by
 unfold qT at e ⊢
 (repeat' split at e)<;>first|(cases e;done)|(cases e;rfl)
theorem znr(x):yx (jU x):=by
 intro call t h h' v h2 e hs;unfold jU at e ⊢;split at e
 ·grind
 ·rename_i b off len cap ex hx;cases hb:h.t.get b with
  |none=>grind
  |some o=>rw[hb]at e;rw[hs b o hb];cases o<;>grind[zr1]
 ·cases e
theorem zks(n x):yx (ui n x):=by
 intro call t h h' v h2 e hs;unfold ui at e ⊢;split at e
 ·rename_i b off hx
  try simp only[hx]
  cases hb:h.t.get b with
  |none=>rw[hb]at e;cases e
  |some o=>rw[hb]at e;rw[hs b o hb];exact zny e
 ·exact yQ zY (fun e=>by cases e) e
 ·cases e
theorem zpT{h h':Za}(hs:Sbh h h'){m:Zb}{es:List (SVal×SVal)}(e:mapOf h m=some es):mapOf h' m=some es:=by
 unfold mapOf at e ⊢;split at e
 ·exact e
 ·rename_i b;split at e
  ·rename_i es' hb;rw[hs b _ hb];exact e
  ·cases e
 ·cases e
theorem zfs(q z ok m k):yx (xL q z ok m k):=by
 intro call t h h' v h2 e hs;unfold xL at e ⊢;split at e
 ·rename_i es k' hm hk;rw[zpT hs hm,hk]
  grind
 ·cases e
theorem zku(x):yx (jd x):=by
 intro call t h h' v h2 e hs;unfold jd at e ⊢;split at e
 ·grind
 ·rename_i b hx
  try rw[hx]
  try simp only
  split at e
  ·rename_i es hb;rw[hs b _ hb]
   grind
  ·cases e
 ·cases e
theorem znq(P:Program)(o:Op)(hq:yc P o=true):yx (cOp P o):=by
 cases o with
 |move x=>exact zgX zfr
 |assign x=>exact zgX zfr
 |pick c x y=>exact zq fun _=>zq fun _=>zq fun _=>yu (zko _ _ _)
 |build t parts=>
  unfold cOp;simp only;split
  ·exact y1 (zq fun _=>yu (zbV _ _)) zD
  ·grind[zq,zbV,zD,zx]
  ·exact zD
 |load t x=>exact zq fun _=>zq fun _=>yu (zks _ _)
 |nilCheck x=>exact zq fun _=>yu (ziq _)
 |binOp op t x y u=>
  unfold cOp;simp only;split
  ·grind[zq,zin,znp,zx]
  ·grind[zq,znk,zx]
  ·grind[zq,zkp,zD,zx]
  ·refine y1 ?_ zD
   grind[zq,zio,zD,zx]
  ·grind[zq,zkq,zD,zx]
  ·refine y1 zD ?_
   grind[zq,zpQ,zD,zx]
  ·exact zD
 |unOp u t x=>
  cases u with
  |not=>exact zq fun _=>yu (znm _)
  |neg=>exact zq fun _=>yu (znn _)
  |_=>exact zD
 |convert a b x=>
  unfold cOp;simp only;split
  ·grind[zq,zkx,zx]
  ·grind[yc,zlp,zdb]
  ·exact y1 (zq fun _=>yu (znr _)) zD
  ·exact y1 (zq fun _=>yu (znl _)) zD
  ·exact y1 (zq fun _=>yu (znj _ _ _)) zD
  ·exact zD
 |makeFunc f first captured=>
  cases f with
  |func f=>exact y1 (zq fun _=>yu (zkr _ _)) zD
  |_=>exact zD
 |slice t x lo hi mx=>
  unfold cOp;simp only;split
  ·split
   ·exact y1 zD (zq fun _=>zq fun _=>zq fun _=>zq fun _=>yu (zim _ _ _ _ _))
   ·exact zD
  ·split
   ·exact y1 zD (zq fun _=>zq fun _=>zq fun _=>zq fun _=>yu (zfq _ _ _ _ _ _))
   ·exact zD
  ·exact y1 zD (zq fun _=>zq fun _=>zq fun _=>yu (zfp _ _ _))
  ·exact zD
 |fieldAddr t x f=>
  unfold cOp;simp only;split
  ·split
   ·split
    ·exact y1 zD (zq fun _=>yu (zkw _ _))
    ·exact zD
   ·exact zD
  ·exact zD
 |field t x f=>
  unfold cOp
  grind[zq,ziu,zD,zx]
 |indexAddr t x i=>
  unfold cOp
  grind[zq,zno,zD,zis,zx]
 |index t x i=>unfold cOp;simp only;split<;>grind[zq,zit,zD,zir,zx]
 |lookup t m k ok=>
  unfold cOp
  grind[zq,zfs,zD,zx]
 |extract x i=>exact zq fun _=>yu (zed _ _)
 |call c=>
  obtain⟨callee,args,ts⟩:=c;cases callee with
  |builtin b=>
   cases b with
   |len=>grind[cOp,zq,zkt,zkv,zku,zfr,zD,zx]
   |max=>grind[cOp,zaH,zD,zx]
   |min=>grind[cOp,zaH,zD,zx]
   |_=>cases hq
  |_=>cases hq
 |_=>cases hq
section
variable {P:Program} {t:Tr Zb} {call:zb}
def zq8(f:zbw)(call:zb)(t:Tr Zb)(nt:Nat):Prop:=∃(obj:Zf) (vf:BN→Zc),(∀hh:Za,f call t hh=some (.s (.one (vf hh.n)),hh.new obj))∧
 (∀(φ φ':Phi) b b',φ b=φ' b'→zc φ (vf b)=zc φ' (vf b'))∧(∀φ n b,okB φ n b→wfC φ n (vf b))∧∀φ n arr,Zh φ nt n t arr→OWf φ n obj
theorem qX(hh:Za)(o:Zf)(g:BN→Zc):zbo hh o g=some (.s (.one (g hh.n)),hh.new o):=by rfl
theorem zaj(φ φ':Phi)(b b':BN)(h:φ b=φ' b'):zc φ (.ptr b 0)=zc φ' (.ptr b' 0):=by grind[zc,adr]
theorem zdQ(l c:Nat)(φ φ':Phi)(b b':BN)(h:φ b=φ' b'):zc φ (.slc b 0 l c true)=zc φ' (.slc b' 0 l c true):=by simp_all[zc,adr]
theorem zau{α:Type}{a:Option α}{g:α→Option zbw}{h h2:Za}{v:Zb}(e:zx (a >>= g) call t h=some (v,h2)):∃x,a=some x∧zx (g x) call t h=some (v,h2):=by
 cases a with
 |none=>cases e
 |some x=>grind
theorem zgY{nt:Nat}{o:Op}(hm:ja o=true){h h2:Za}{v:Zb}(e:cOp P o call t h=some (v,h2)):zq8 (cOp P o) call t nt:=by
 cases o with
 |alloc ty=>
  cases hz:zU P ty with
  |none=>simp only[cOp,hz]at e;cases hb:jZ P ty<;>rw[hb]at e<;>cases e
  |some z=>
   cases hb:jZ P ty with
   |false=>
    refine⟨.cells z.cells 0,fun b=>.ptr b 0,fun hh=>?_,zaj,fun φ n b hb=>hb,fun φ n arr _=>?_⟩
    ·simp_all[cOp,zaC,qX,zx]
    ·obtain⟨_,_,_,_,_,hwz⟩:=yn (φ:=φ) hz;exact fun c hc=>yD (Yzo _) (hwz c hc)
   |true=>
    refine⟨.tcells z.cells ty true,fun b=>.ptr b 0,fun hh=>?_,zaj,fun φ n b hb=>hb,fun φ n arr _=>?_⟩
    ·simp_all[cOp,qW,qX,zx]
    ·obtain⟨_,_,_,_,_,hwz⟩:=yn (φ:=φ) hz;exact fun c hc=>yD (Yzo _) (hwz c hc)
 |box ty x=>
  cases hx:zG x with
  |none=>simp only[cOp,hx]at e;cases e
  |some f=>
   simp only[cOp,hx]at e;have e:zcV f call t h=some (v,h2):=e;unfold zcV at e;split at e
   ·rename_i u hu;refine⟨.cells u.cells 0,fun b=>.ptr b 0,fun hh=>?_,zaj,fun φ n b hb=>hb,fun φ n arr T=>?_⟩
    ·simp_all[cOp,zcV,qX,zx]
    ·have:=(zh (a:=⟨arr,[]⟩) T hx).2;rw[hu]at this;exact wi this
   ·cases e
 |buildSlice ty len parts=>
  simp only[cOp]at e;split at e
  ·rename_i el hu;split at e
   ·rename_i i hi;cases hle:Nat.ble (len*i.size) 16777216 with
    |false=>rw[hle]at e;cases e
    |true=>
     rw[hle]at e;simp only[Yza]at e;split at e
     ·rename_i zs hzs;cases hq:Nat.beq (len*i.size) 0||Nat.beq zs.length i.size with
      |false=>rw[hq]at e;cases e
      |true=>
       rw[hq]at e;simp only[Yza]at e;obtain⟨r,hr,e⟩:=zau e;have e:x9 i.size len (wU zs len) r call t h=some (v,h2):=e;unfold x9 at e;split at e
       ·rename_i cs hc;refine⟨.cells cs i.size,fun b=>.slc b 0 len len true,fun hh=>?_,zdQ len len,fun φ n b hb=>⟨hb,(fun hh=>by cases hh),fun _=>LzB _⟩,fun φ n arr T=>?_⟩
        ·simp only[cOp,hu,hi,hle,Yza,hzs,hq,hr];simp_all[x9,qX,zx]
        ·have T':Zh φ nt (Za.n ⟨bn n,.nil⟩).toNat t (Act.tmps ⟨arr,[]⟩):=by
          grind[zN]
         obtain⟨hp,hw⟩:=xg T' i.size hr;have hwz:∀c∈wU zs len,wfC φ (Za.n ⟨bn n,.nil⟩).toNat c:=by
          refine jh (fun c hc=>?_) len;cases h0:Nat.beq (len*i.size) 0 with
          |true=>grind
          |false=>
           rw[h0]at hzs;simp only[Yzb]at hzs;cases hz:zU P el with
           |none=>grind
           |some z=>rw[hz]at hzs;cases hzs;obtain⟨_,_,_,_,_,hwz⟩:=yn (φ:=φ) hz;exact yD (Yzo _) (hwz c hc)
         have hf:=(vz hp hwz hw hc).2.1;intro c hc;have:=hf c hc
         rwa [show (Za.n ⟨bn n,.nil⟩).toNat=n from zN n]at this
       ·cases e
     ·cases e
   ·cases e
  ·cases e
 |makeMap ty r=>
  cases r with
  |some r=>cases e
  |none=>refine⟨.map [],fun b=>.map b,fun hh=>?_,fun φ φ' b b' h=>by grind[zc],fun φ n b hb=>hb,fun φ n arr _ p hp=>by cases hp⟩;rfl
 |makeSlice ty l c=>
  simp only[cOp]at e;split at e
  ·rename_i el hu;split at e
   ·rename_i i z hi hz;cases hq:Nat.beq z.cells.length i.size && !Nat.beq i.size 0 with
    |false=>rw[hq]at e;cases e
    |true=>
     rw[hq]at e;simp only[Yza]at e;obtain⟨fl,hl,e⟩:=zau e;obtain⟨fc,hc,e⟩:=zau e;have e:xc i.size z.cells i.bytes fl fc call t h=some (v,h2):=e;unfold xc at e;split at e
     ·rename_i x y hx hy;cases hb:Nat.ble x y&&Nat.ble y 1073741824&&Nat.ble (i.bytes*y) 281474976710656 with
      |false=>grind
      |true=>
       obtain⟨hb1,_⟩:=w7 hb;obtain⟨hb1,_⟩:=w7 hb1;refine⟨.cells (wU z.cells y) i.size,fun b=>.slc b 0 x y true,fun hh=>?_,zdQ x y,fun φ n b hb=>⟨hb,(fun hh=>by cases hh),fun _=>zR hb1⟩,fun φ n arr T=>?_⟩
       ·simp only[cOp,hu,hi,hz,hq,Yza,hl,hc];show xc i.size z.cells i.bytes fl fc call t hh=_;unfold xc;rw[hx,hy];simp only[hb,Yza];rfl
       ·obtain⟨_,_,_,_,_,hwz⟩:=yn (φ:=φ) hz;exact jh (fun c hc=>yD (Yzo _) (hwz c hc)) y
     ·cases e
   ·cases e
  ·cases e
 |_=>cases hm
end
end Go.CE
end
noncomputable section
namespace Go.CE
open Go.RowKit
def gdv(g:GE):Option BN×Zb:=(g.d.rop.dst,g.v)
def hAt:Za→List GE→Nat→Za
 |h,_,0=>h
 |h,[],_+1=>h
 |_,g::l,j+1=>hAt g.ha l j
theorem zdj:∀(l:List GE) (h:Za) (j:Nat) (g:GE),l[j]? = some g→hAt h l (j+1)=g.ha
 | [],_,j,g,hj=>by simp at hj
 |g0::l,h,0,g,hj=>by simp only[Yzf,Option.some.injEq]at hj;subst hj;cases l<;>rfl
 |g0::l,h,j+1,g,hj=>by simp only[Yzl]at hj;exact zdj l g0.ha j g hj
theorem zhn(call:zb)(n0:Nat):∀(ds:List Zl) (i:Nat) (t:Tr Zb) (h:Za) (l:List GE) (t2:Tr Zb) (h2:Za),evG call n0 i ds t h=some (l,t2,h2)→
  l.map (·.d)=ds∧t2=frL (fun _=>true) 0 (l.map gdv) t∧h2=hAt h l l.length∧
  ∀j g,l[j]? = some g→g.tr=vK (frL (fun k=>decide (k<j)) 0 (l.map gdv) t) g.d.looks∧g.hb=hAt h l j∧stepG call n0 (i+j) g.d g.tr g.hb=some (g.v,g.ha)
 | [],i,t,h,l,t2,h2,e=>by cases e;exact⟨rfl,rfl,rfl,fun j g hj=>by simp at hj⟩
 |d::ds,i,t,h,l,t2,h2,e=>by
  unfold evG at e;split at e
  ·rename_i v0 h0 hv0;cases hr:evG call n0 (Nat.succ i) ds (zak t v0 d.rop.dst) h0 with
   |none=>rw[hr]at e;cases e
   |some p=>
    obtain⟨l',t',h'⟩:=p;rw[hr]at e;simp only[zs9,Option.some.injEq,Prod.mk.injEq]at e;obtain⟨rfl,rfl,rfl⟩:=e;obtain⟨g1,g2,g3,g4⟩:=zhn call n0 ds _ _ _ l' _ _ hr;have hfr:∀(L:Nat→Bool),frL L 0 (((⟨d,vK t d.looks,v0,h,h0⟩:GE)::l').map gdv) t=frL (fun k=>L (k+1)) 0 (l'.map gdv) (bif L 0 then zak t v0 d.rop.dst else t):=by grind[gdv,zhe,zaZ]
    refine⟨by simp[g1],by grind,g3,?_⟩;intro j g hj;cases j with
    |zero=>
     simp only[Yzf,Option.some.injEq]at hj;subst hj;refine⟨?_,rfl,hv0⟩;rw[hfr];simp only[Nat.not_lt_zero,decide_false,Yzb]
     congr 1
     have:∀(r:List (Option BN×Zb)) (i:Nat) (t:Tr Zb),frL (fun _=>false) i r t=t:=by
      intro r
      induction r<;>grind[frL]
     grind
    |succ j=>simp only[Yzl]at hj;obtain⟨k1,k2,k3⟩:=g4 j g hj;refine⟨?_,k2,?_⟩<;>grind
  ·cases e
theorem q9(es:List Bool):∀i,ce (fun _=>false) i es=0:=by induction es<;>grind[ce]
theorem zl0(L:Nat→Bool)(e:Bool)(es:List Bool):ce L 0 (e::es)=(bif L 0&&e then 1 else 0)+ce (fun k=>L (k+1)) 0 es:=by grind[zl1,zdu]
theorem zfB:∀(l:List GE) (j:Nat) (g:GE),l[j]? = some g→g.d.eff=true→(hsG l)[ce (fun k=>decide (k<j)) 0 (l.map (·.d.eff))]? = some g.ha
 | [],j,g,hj,_=>by simp at hj
 |g0::l,0,g,hj,he=>by
  simp only[Yzf,Option.some.injEq]at hj;subst hj;have hz:ce (fun k=>decide (k<0)) 0 ((g0::l).map (·.d.eff))=0:=by rw[show (fun k=>decide (k<0))=(fun _:Nat=>false) from funext fun k=>by simp,q9]
  grind[hsG]
 |g0::l,j+1,g,hj,he=>by
  simp only[Yzl]at hj;have ih:=zfB l j g hj he;simp only[Yzv];rw[zl0];simp only[Nat.zero_lt_succ,decide_true,Yz4,Nat.succ_lt_succ_iff];unfold hsG
  grind
theorem znK(g:GE)(l:List GE):hsG (g::l)=bif g.d.eff then g.ha::hsG l else hsG l:=rfl
def obG(n0:Nat)(l:List GE)(m:Nat):Option Zf:=
 match l[m]? with
 |some g=>bif g.d.mkb then g.ha.t.get (nm n0 m) else none
 |none=>none
def cmG(l:List GE)(m:Nat):Nat:=ce (fun k=>decide (k<m)) 0 (l.map (·.d.eff))
theorem zdq(l:List GE):cmG l 0=0:=by unfold cmG;rw[show (fun k=>decide (k<0))=(fun _:Nat=>false) from funext fun k=>by simp,q9]
theorem zdr(g:GE)(l:List GE)(m:Nat):cmG (g::l) (m+1)=(bif g.d.eff then 1 else 0)+cmG l m:=by grind[cmG,zl0]
theorem zcY{n0:Nat}:∀(l:List GE) (c i:Nat) (x:Nat×Nat×Zf),(∀g∈l,g.d.mkb=true→g.d.eff=false)→x∈zeU n0 c i l→
  ∃m,x.2.1=i+m∧(∃g,l[m]? = some g∧g.d.mkb=true∧g.ha.t.get (nm n0 (i+m))=some x.2.2)∧x.1=c+cmG l m
 | [],c,i,x,_,hx=>by cases hx
 |g::l,c,i,x,hall,hx=>by
  have step:∀c',x∈zeU n0 c' (Nat.succ i) l→c'=c+(bif g.d.eff then 1 else 0)→∃m,x.2.1=i+m∧(∃g',(g::l)[m]? = some g'∧g'.d.mkb=true∧g'.ha.t.get (nm n0 (i+m))=some x.2.2)∧x.1=c+cmG (g::l) m:=by
   intro c' hx' hc;obtain⟨m,k1,⟨g',k2,k3,k4⟩,k5⟩:=zcY l c' (Nat.succ i) x (fun g' hg'=>hall g' (by simp[hg'])) hx';refine⟨m+1,by omega,⟨g',by trivial,k3,by grind⟩,?_⟩
   grind[zdr]
  unfold zeU at hx;cases hm:g.d.mkb with
  |false=>grind
  |true=>
   have he:=hall g (by simp) hm;rw[hm]at hx;simp only[Yza]at hx;split at hx
   ·rename_i o ho;rcases YzL.1 hx with rfl|hx
    ·exact⟨0,rfl,⟨g,rfl,hm,ho⟩,by rw[zdq];rfl⟩
    ·grind
   ·grind
theorem zaX{n0 k:Nat}:∀(l:List (Nat×Nat×Zf)) (t:Tr Zf) (b:BN),(jp n0 k l t).get b=t.get b∨∃x∈l,k≤x.1∧b=nm n0 x.2.1∧(jp n0 k l t).get b=some x.2.2
 | [],t,b=>.inl rfl
 |(c,j,o)::l,t,b=>by
  unfold jp;rcases zaX l (bif Nat.ble k c then t.set (bn (Nat.add n0 j)) o else t) b with h|⟨x,hx,h1,h2,h3⟩
  ·rw[h];cases hk:Nat.ble k c with
   |false=>simp
   |true=>
    simp only[Yza];by_cases hb:b=bn (Nat.add n0 j)
    ·subst hb;exact .inr ⟨(c,j,o),by simp,zR hk,rfl,zr _ _ _⟩
    ·grind[zl]
  ·grind
end Go.CE
end
section
namespace Go.CE
open Go.RowKit
theorem zdh:∀(l:List GE) (k:Nat) (h:Za),(hsG l)[k]? = some h→∃j g,l[j]? = some g∧g.d.eff=true∧cmG l j=k∧g.ha=h
 | [],k,h,e=>by trivial
 |g::l,k,h,e=>by
  rw[znK]at e;cases he:g.d.eff with
  |false=>rw[he]at e;obtain⟨j,g',k1,k2,k3,k4⟩:=zdh l k h e;exact⟨j+1,g',by trivial,k2,by grind[zdr],k4⟩
  |true=>
   rw[he]at e;simp only[Yza]at e;cases k with
   |zero=>simp only[Yzf,Option.some.injEq]at e;exact⟨0,g,rfl,he,zdq _,e⟩
   |succ k=>simp only[Yzl]at e;obtain⟨j,g',k1,k2,k3,k4⟩:=zdh l k h e;exact⟨j+1,g',by trivial,k2,by grind[zdr],k4⟩
theorem wy{bs:List Nat}{i:Nat}:∀(os:List Oper) (off j':Nat),j'∈yd bs i off os↔∃j o,os[j]? = some o∧j'=off+j∧(ja o.op&&bef bs (off+j) i)=false
 | [],off,j'=>by simp[yd]
 |o::os,off,j'=>by
  have ih:=wy (bs:=bs) (i:=i) os (Nat.succ off) j';have tail:(∃j o',os[j]? = some o'∧j'=Nat.succ off+j∧(ja o'.op&&bef bs (Nat.succ off+j) i)=false)↔∃j o',(o::os)[j+1]? = some o'∧j'=off+(j+1)∧(ja o'.op&&bef bs (off+(j+1)) i)=false:=by grind
  unfold yd;cases hq:ja o.op&&bef bs off i with
  |true=>grind
  |false=>
   simp only[Yzb,YzL];rw[ih,tail]
   constructor
   ·rintro (rfl|⟨j,o',h1,h2,h3⟩)<;>grind
   ·grind
theorem qD(P:Program)(nt:Nat)(ops:Array Oper)(bs:List Nat)(es:List Bool):∀(os:List Oper) (i j:Nat),(yH P nt ops bs es i os)[j]? = (os[j]?).map fun o=>
  (⟨ym P nt ops o,(o.looksAt ops).map bn,anchor P o.op,ja o.op,ce (fun k=>bef bs k (i+j)) 0 es,ce (fun k=>!bef bs (i+j) k) 0 es,yd bs (i+j) 0 ops.toList⟩:Zl)
 | [],i,j=>by simp[yH]
 |o::os,i,0=>by simp[yH]
 |o::os,i,j+1=>by simp only[yH,Yzl];rw[qD P nt ops bs es os (Nat.succ i) j,show Nat.succ i+j=i+(j+1) by omega]
structure Spc (n0 N:Nat) (l:List GE) (L:Nat→Bool) (k:Nat) (Hk H:Za):Prop where
 n:H.n.toNat=Hk.n.toNat
 old:∀b:BN,(b.toNat<n0∨n0+N≤b.toNat)→H.t.get b=Hk.t.get b
 res:∀m,m<N→H.t.get (nm n0 m)=if L m=true then(if k≤cmG l m then obG n0 l m else Hk.t.get (nm n0 m)) else none
noncomputable abbrev FG(n0:Nat)(l:List GE)(k:Nat)(Hk:Za)(m:Nat):Option Zf:=if k≤cmG l m then obG n0 l m else Hk.t.get (nm n0 m)
theorem zbU(n0 N:Nat)(b:BN):(b.toNat<n0∨n0+N≤b.toNat)∨∃m,m<N∧b=nm n0 m:=by
 by_cases h:b.toNat<n0∨n0+N≤b.toNat
 ·omega
 ·exact .inr ⟨b.toNat-n0,by omega,zut (by omega)⟩
section
variable {P:Program} {nt:Nat} {call:zb} {ops:Array Oper} {n0:Nat} {t t2:Tr Zb} {h0 h2:Za} {l:List GE}
structure Txt (P:Program) (nt:Nat) (call:zb) (ops:Array Oper) (n0:Nat) (t t2:Tr Zb) (h0 h2:Za) (l:List GE):Prop where
 len:l.length=ops.size
 es:l.map (·.d.eff)=uO P ops.toList
 ent:∀(j:Nat) (o:Oper),ops[j]? = some o→∃g,l[j]? = some g∧g.d=⟨ym P nt ops o,(o.looksAt ops).map bn,anchor P o.op,ja o.op,ce (fun k=>bef (yK ops.toList) k j) 0 (uO P ops.toList),ce (fun k=>!bef (yK ops.toList) j k) 0 (uO P ops.toList),yd (yK ops.toList) j 0 ops.toList⟩
 fr:t2=frL (fun _=>true) 0 (l.map gdv) t
 fin:h2=hAt h0 l ops.size
 step:∀j g,l[j]? = some g→g.tr=vK (frL (fun k=>decide (k<j)) 0 (l.map gdv) t) g.d.looks∧g.hb=hAt h0 l j∧stepG call n0 j g.d g.tr g.hb=some (g.v,g.ha)
 fresh:∀m,m<ops.size→h0.t.get (nm n0 m)=none
theorem zrC(e:evG call n0 0 (wB P nt ops) t h0=some (l,t2,h2))(hf:∀m,m<ops.size→h0.t.get (nm n0 m)=none):Txt P nt call ops n0 t t2 h0 h2 l:=by
 obtain⟨g1,g2,g3,g4⟩:=zhn call n0 _ _ _ _ _ _ _ e;have hget:∀(j:Nat) (o:Oper),ops[j]? = some o→(wB P nt ops)[j]? = some ⟨ym P nt ops o,(o.looksAt ops).map bn,anchor P o.op,ja o.op,ce (fun k=>bef (yK ops.toList) k j) 0 (uO P ops.toList),ce (fun k=>!bef (yK ops.toList) j k) 0 (uO P ops.toList),yd (yK ops.toList) j 0 ops.toList⟩:=by simp_all[wB,qD]
 have hlen:(wB P nt ops).length=ops.size:=by
  have key:∀(os:List Oper) (i:Nat),(yH P nt ops (yK ops.toList) (uO P ops.toList) i os).length=os.length:=by
   intro os
   induction os<;>grind[yH]
  grind[wB]
 have hll:l.length=ops.size:=by grind
 refine⟨hll,?_,fun j o ho=>?_,g2,by grind,fun j g hj=>by grind,hf⟩
 ·rw[show (fun x:GE=>x.d.eff)=Zl.eff ∘ GE.d from rfl,←List.map_map,g1];have key:∀(os:List Oper) (i:Nat),(yH P nt ops (yK ops.toList) (uO P ops.toList) i os).map Zl.eff=uO P os:=by
   intro os
   induction os with
   |nil=>intro i;rfl
   |cons o os ih=>intro i;simp only[yH,Yzv,ih];rfl
  exact key _ _
 ·grind
theorem kW{φ:Phi}{n:Nat}{tr:Tr Zb}{h h2:Za}{a:Act}{v:Zb}{o:Oper}(e:yY call (ym P nt ops o) tr h=some (v,h2))(T:Zh φ nt n tr a.tmps):
  (Region.wanted o (yielded ops a.tmps)=true∧cOp P o.op call tr h=some (v,h2))∨(Region.wanted o (yielded ops a.tmps)=false∧v=zO∧h2=h):=by
 have key:∀hh:Za,hh.n.toNat=n→yY call (ym P nt ops o) tr ⟨hh.n,h.t⟩=yY call (ym P nt ops o) tr ⟨hh.n,h.t⟩→True:=fun _ _ _=>trivial;unfold ym at e;have bad:∀{o':Zk},o'=⟨none,yA,none⟩→yY call o' tr h=some (v,h2)→False:=by intro o' ho' e;subst ho';cases e
 cases hd:inT nt o.dst with
 |false=>grind
 |true=>
  rw[hd]at e;simp only[Yza]at e;have fin:∀g,yY call ⟨o.dst.map bn,cOp P o.op,g⟩ tr h=some (v,h2)→(want tr g=true∧cOp P o.op call tr h=some (v,h2))∨(want tr g=false∧v=zO∧h2=h):=by
   intro g e;unfold yY at e
   grind
  split at e
  ·rename_i hg;rcases fin none e with hh|⟨hw,_⟩
   ·grind[Region.wanted]
   ·cases hw
  ·rename_i j b hg;split at e
   ·rename_i d hjd;cases hb:Nat.ble (Nat.succ d) nt with
    |false=>grind
    |true=>
     rw[hb]at e;have T':Zh φ nt (Za.n ⟨bn n,.nil⟩).toNat tr a.tmps:=by grind[zN]
     have hyd:=kJ T' hjd (zR hb) b
     grind[Region.wanted]
   ·trivial
theorem znX{tr:Tr Zb}{h h2:Za}{v:Zb}{o:Oper}(e:yY call (ym P nt ops o) tr h=some (v,h2)):cOp P o.op call tr h=some (v,h2)∨(v=zO∧h2=h):=by
 unfold ym at e;have fin:∀(d:Option BN) (f:zbw) g,yY call ⟨d,f,g⟩ tr h=some (v,h2)→f call tr h=some (v,h2)∨(v=zO∧h2=h):=by
  intro d f g e;unfold yY at e
  grind
 have bad:∀(g:Option (BN×Bool)),yY call ⟨none,yA,none⟩ tr h=some (v,h2)→False:=fun _ e=>by cases e
 cases hd:inT nt o.dst with
 |false=>simp_all
 |true=>
  rw[hd]at e;simp only[Yza]at e;split at e
  ·grind
  ·split at e
   ·rename_i d _;cases hb:Nat.ble (Nat.succ d) nt with
    |false=>simp_all
    |true=>grind
   ·trivial
theorem wa{o:Op}(h:ja o=true):anchor P o=false:=by simp[anchor,h]
theorem zkL(P:Program)(o:Op):ja o=true∨(ja o=false∧anchor P o=true)∨(ja o=false∧anchor P o=false∧yc P o=true):=by
 cases hm:ja o with
 |true=>simp
 |false=>
  cases hq:yc P o with
  |true=>simp
  |false=>exact .inr (.inl ⟨rfl,by grind[anchor]⟩)
theorem Txt.made(X:Txt P nt call ops n0 t t2 h0 h2 l){j:Nat}{o:Oper}{g:GE}(ho:ops[j]? = some o)(hg:l[j]? = some g)(hm:ja o.op=true):
  g.ha.n=g.hb.n∧(∀b,b≠nm n0 j→g.ha.t.get b=g.hb.t.get b)∧∃h',yY call (ym P nt ops o) g.tr ⟨nm n0 j,g.hb.t⟩=some (g.v,h')∧h'.t=g.ha.t:=by
 obtain⟨g',hg',hd⟩:=X.ent j o ho;cases hg.symm.trans hg';obtain⟨_,_,hs⟩:=X.step j g hg;unfold stepG at hs;rw[hd]at hs;simp only[hm,Yza]at hs;split at hs
 ·rename_i v h' he;simp only[Option.some.injEq,Prod.mk.injEq]at hs;obtain⟨rfl,hs⟩:=hs;rw[←hs];refine⟨rfl,fun b hb=>?_,h',he,rfl⟩;rcases znX he with hc|⟨_,rfl⟩
  ·obtain⟨obj,vf,hsh,_⟩:=zgY (nt:=nt) hm hc;have:=hsh ⟨nm n0 j,g.hb.t⟩;rw[hc]at this;simp only[Option.some.injEq,Prod.mk.injEq]at this;rw[this.2];exact zl _ _ _ _ hb
  ·rfl
 ·cases hs
theorem Txt.quiet(X:Txt P nt call ops n0 t t2 h0 h2 l){j:Nat}{o:Oper}{g:GE}(ho:ops[j]? = some o)(hg:l[j]? = some g)(hm:ja o.op=false)(ha:anchor P o.op=false):
  g.ha=g.hb∧∃h',yY call (ym P nt ops o) g.tr ⟨g.hb.n,k8 n0 (yd (yK ops.toList) j 0 ops.toList) g.hb.t⟩=some (g.v,h'):=by
 obtain⟨g',hg',hd⟩:=X.ent j o ho;cases hg.symm.trans hg';obtain⟨_,_,hs⟩:=X.step j g hg;unfold stepG at hs
 grind
theorem Txt.anchor(X:Txt P nt call ops n0 t t2 h0 h2 l){j:Nat}{o:Oper}{g:GE}(ho:ops[j]? = some o)(hg:l[j]? = some g)(hm:ja o.op=false)(ha:anchor P o.op=true):
  ∃h',yY call (ym P nt ops o) g.tr ⟨g.hb.n,k8 n0 (yd (yK ops.toList) j 0 ops.toList) g.hb.t⟩=some (g.v,h')∧g.ha.n=h'.n∧(∀i∈yd (yK ops.toList) j 0 ops.toList,g.ha.t.get (nm n0 i)=g.hb.t.get (nm n0 i)∧h'.t.get (nm n0 i)=none)∧
   ∀b,(∀i∈yd (yK ops.toList) j 0 ops.toList,b≠nm n0 i)→g.ha.t.get b=h'.t.get b:=by
 obtain⟨g',hg',hd⟩:=X.ent j o ho;cases hg.symm.trans hg';obtain⟨_,_,hs⟩:=X.step j g hg;unfold stepG at hs;rw[hd]at hs;simp only[hm,ha,Yzb,Yza]at hs;split at hs
 ·rename_i v h' he;split at hs
  ·rename_i t' ht;simp only[Option.some.injEq,Prod.mk.injEq]at hs;obtain⟨rfl,hs⟩:=hs;obtain⟨k1,k2,k3⟩:=u3 _ _ _ ht
   grind
  ·cases hs
 ·cases hs
theorem Txt.mkeff(X:Txt P nt call ops n0 t t2 h0 h2 l):∀g∈l,g.d.mkb=true→g.d.eff=false:=by
 intro g hg hm;obtain⟨j,hj⟩:=List.mem_iff_getElem?.1 hg;have hjl:j<ops.size:=by rw[←X.len];grind
 obtain⟨g',hg',hd⟩:=X.ent j _ (Yzy hjl)
 grind[wa]
theorem Txt.ob(X:Txt P nt call ops n0 t t2 h0 h2 l){j:Nat}{o:Oper}{g:GE}(ho:ops[j]? = some o)(hg:l[j]? = some g):obG n0 l j=bif ja o.op then g.ha.t.get (nm n0 j) else none:=by
 obtain⟨g',hg',hd⟩:=X.ent j o ho
 grind[obG]
theorem Txt.spc(X:Txt P nt call ops n0 t t2 h0 h2 l)(hA:∀(i:Nat) (o:Oper),ops[i]? = some o→∀e∈o.after.toList,Region.binds .any e=true→e.on<i):
  ∀j,j≤ops.size→∃Hk,(h0::hsG l)[cmG l j]? = some Hk∧Spc n0 ops.size l (fun m=>decide (m<j)) (cmG l j) Hk (hAt h0 l j):=by
 have hbef:∀i j,bef (yK ops.toList) i j=true→i<j:=by
  intro i j hb;have hC:Clo ops (fun k=>decide (k<j)):=by
   intro q hq o' e ho' he hb'
   grind
  grind[Rdy,wg]
 intro j
 induction j with
 |zero=>
  intro _;have e0:hAt h0 l 0=h0:=by cases l<;>rfl
  rw[e0,zdq];refine⟨h0,rfl,rfl,fun _ _=>rfl,fun m hm=>?_⟩;rw[Yzc (by simp)];exact X.fresh m hm
 |succ j ih=>
  intro hj;obtain⟨Hk,hHk,S⟩:=ih (by omega);have hjs:j<ops.size:=by omega
  have ho:ops[j]? = some ops[j]:=Yzy hjs;generalize ops[j]=o at ho;obtain⟨g,hg,hd⟩:=X.ent j o ho;have hhb:=(X.step j g hg).2.1;have hha:hAt h0 l (j+1)=g.ha:=zdj l h0 j g hg;have heff:(l.map (·.d.eff))[j]? = some (CE.anchor P o.op):=by grind
  have hcm:cmG l (j+1)=cmG l j+(bif CE.anchor P o.op then 1 else 0):=by
   cases ha:CE.anchor P o.op with
   |false=>
    rw[Yzb,Yzx];refine xN _ 0 fun k hk=>?_
    grind
   |true=>rw[Yza];exact zeI _ 0 j (by grind) (by simp) (by simp) (fun k hk=>by grind)
  rw[hha];rcases zkL P o.op with hm|⟨hm,ha⟩|⟨hm,ha,_⟩
  ·
   obtain⟨k1,k2,h',k3,k4⟩:=X.made ho hg hm;rw[hcm,wa hm,Yzb,Yzx];refine⟨Hk,hHk,by rw[k1,hhb];exact S.n,fun b hb=>?_,fun m hmN=>?_⟩
   ·rw[k2 b (fun hh=>by grind[ye]),hhb];exact S.old b hb
   ·by_cases hmj:m=j
    ·subst hmj;rw[Yzd (by simp),Yzd (LzB _),X.ob ho hg,hm];rfl
    ·rw[k2 _ (fun hh=>hmj (wJ hh)),hhb,S.res m hmN]
     grind
  ·
   obtain⟨h',k1,k2,k3,k4⟩:=X.anchor ho hg hm ha;rw[hcm,ha,Yza];refine⟨g.ha,?_,rfl,fun _ _=>rfl,fun m hmN=>?_⟩
   ·rw[Yzl];exact zfB l j g hg (by grind)
   ·by_cases hlt:m<j+1
    ·rw[Yzd (by grind),Yzc];have:cmG l m≤cmG l j:=xA _ 0 fun k _ hk=>by grind
     omega
    ·rw[Yzc (by grind)];have hmem:m∈yd (yK ops.toList) j 0 ops.toList:=by
      rw[wy]
      grind
     rw[(k3 m hmem).1,hhb,S.res m hmN,Yzc (show ¬decide (m<j)=true by grind)]
  ·
   obtain⟨k1,_⟩:=X.quiet ho hg hm ha;rw[hcm,ha,Yzb,Yzx,k1,hhb];refine⟨Hk,hHk,S.n,S.old,fun m hmN=>?_⟩;rw[S.res m hmN];by_cases hmj:m=j
   ·subst hmj;rw[Yzc (show ¬decide (m<m)=true by simp),Yzd (show decide (m<m+1)=true by simp),Yzd (LzB _),X.ob ho hg,hm];rfl
   ·grind
end
end Go.CE
end
section
namespace Go.CE
open Go.RowKit
section
variable {P:Program} {w0:World} {S:Nat→Prop} {nt:Nat} {call:zb} {ops:Array Oper}
theorem zey(hok:vT P ops (yK ops.toList)=true):(∀(i:Nat) (o:Oper),ops[i]? = some o→(∀cs b,o.op≠.select cs b)∧∀e∈o.after.toList,Region.binds .any e=true→e.on<i)∧
  ∀(i j:Nat) (oi oj:Oper),ops[i]? = some oi→ops[j]? = some oj→i<j→bef (yK ops.toList) i j=true∨(oi.apart ops oj=true∧(anchor P oi.op=false∨anchor P oj.op=false)):=by
 obtain⟨h1,h2⟩:=w7 hok
 constructor
 ·intro i o ho;have:=wC _ 0 h1 i o (by grind);rw[Yzh]at this;obtain⟨g1,g2⟩:=w7 this;refine⟨(fun cs b hh=>by rw[hh]at g1;cases g1),fun e he hb=>?_⟩;rw[YzF]at g2;have:=g2 e he;rw[hb]at this;exact zR (by trivial)
 ·intro i j oi oj hi hj hlt;have:=wC _ 0 h2 j oj (by grind);rw[Yzh]at this;have:=wC _ 0 this i oi (by grind);rw[Yzh]at this;simp only[Yzu]at this;rcases this with (this|this)|this
  ·grind[Yze]
  ·grind
  ·grind
theorem zbI{n0:Nat}{d:Zl}{tr:Tr Zb}{v:Zb}{mks:List (Nat×Nat×Zf)}:∀(hs:List Za) (c:Nat),zh7 call n0 d tr v mks c hs=true→∀(k:Nat) (hk:Za),hs[k]? = some hk→
  ∃h',yY call d.rop tr ⟨hk.n,k8 n0 d.hide (jp n0 (c+k) mks hk.t)⟩=some (v,h')
 | [],_,_,k,hk,hh=>by simp at hh
 |h::hs,c,e,k,hk,hh=>by
  unfold zh7 at e;split at e
  ·rename_i v' h' hv;obtain⟨e1,e2⟩:=w7 e;cases k with
   |zero=>simp only[Yzf,Option.some.injEq]at hh;subst hh;exact⟨h',by rw[Yzx,hv,zhp e1]⟩
   |succ k=>
    have:=zbI hs (Nat.succ c) e2 k hk (by trivial)
    grind
  ·cases e
theorem zba{n0:Nat}{mks:List (Nat×Nat×Zf)}{hs:List Za}:∀(l:List GE),wP call n0 mks hs l=true→∀(j:Nat) (g:GE),l[j]? = some g→g.d.eff=false→g.d.mkb=false→
  g.d.lo=g.d.hi∨∀k hk,g.d.lo≤k→k≤g.d.hi→hs[k]? = some hk→∃h',yY call g.d.rop g.tr ⟨hk.n,k8 n0 g.d.hide (jp n0 k mks hk.t)⟩=some (g.v,h')
 | [],_,j,g,hj,_,_=>by simp at hj
 |g0::l,e,j,g,hj,hd,hm=>by
  obtain⟨e1,e2⟩:=w7 e;cases j with
  |zero=>
   simp only[Yzf,Option.some.injEq]at hj;subst hj;rw[hd,hm]at e1;simp only[Yz3,Yzu]at e1;rcases e1 with e1|e1
   ·simp_all
   ·refine .inr fun k hk h1 h2 h3=>?_;have:=zbI _ _ e1 (k-g0.d.lo) hk (by
     grind)
    grind
  |succ j=>exact zba l e2 j g (by trivial) hd hm
set_option maxHeartbeats 1000000 in
theorem ziR(C:yW P call){Q:Exit→Act→World→Prop}{a0:Act}{t t2:Tr Zb}{hh0 h0 h2:Za}{φ0:Phi}{l:List GE}{ro:Option Nat}{n0:Nat}
  (hok:vT P ops (yK ops.toList)=true) (X:Txt P nt call ops n0 t t2 h0 h2 l) (hch:wP call n0 (zeU n0 0 0 l) (h0::hsG l) l=true) (hn0:hh0.n.toNat=n0) (hh0n:h0.n.toNat=n0+ops.size)
  (hQ:∀a2 w2,Next1 w0 S φ0 nt hh0 t2 h2 a0 a2 w2→Q .normal a2 w2):
  ∀(fuel:Nat) (listed:Array Bool) (φ:Phi) (a:Act) (w:World) (Hk H:Za),listed.size=ops.size→unl listed≤fuel→Clo ops (lst listed)→Ext n0 φ0 φ→
   (h0::hsG l)[ce (lst listed) 0 (uO P ops.toList)]? = some Hk→Spc n0 ops.size l (lst listed) (ce (lst listed) 0 (uO P ops.toList)) Hk H→Zd w0 S φ H w→n0+ops.size≤H.n.toNat→
   Zh φ nt H.n.toNat (frL (lst listed) 0 (l.map gdv) t) a.tmps→a.defers=a0.defers→(∀m,m<ops.size→lst listed m=false→(φ (nm n0 m)).ok=false)→
   wpAnyIn (FR ro) 0 P .any ops Q fuel listed a w:=by
 obtain⟨hA,hord⟩:=zey hok;have hA':∀(i:Nat) (o:Oper),ops[i]? = some o→∀e∈o.after.toList,Region.binds .any e=true→e.on<i:=fun i o ho=>(hA i o ho).2;have hbef:∀i j,bef (yK ops.toList) i j=true→i<j:=by
  intro i j hb;have hC:Clo ops (fun k=>decide (k<j)):=by
   intro q hq o' e ho' he hb'
   grind
  grind[Rdy,wg]
 have hspc:=X.spc hA';have hcmE:∀j,cmG l j=ce (fun k=>decide (k<j)) 0 (uO P ops.toList):=fun j=>by unfold cmG;rw[X.es]
 have hdst:∀(j:Nat) (o:Oper) (g:GE),ops[j]? = some o→l[j]? = some g→g.d.rop.dst=o.dst.map bn∧inT nt o.dst=true:=by
  intro j o g ho hj;obtain⟨g',hj',hd⟩:=X.ent j o ho;cases hj.symm.trans hj';rw[hd];rcases zkL P o.op with hm|⟨hm,ha⟩|⟨hm,ha,_⟩
  ·obtain⟨_,_,h',he,_⟩:=X.made ho hj hm;exact kq he
  ·obtain⟨h',he,_⟩:=X.anchor ho hj hm ha;exact kq he
  ·obtain⟨_,h',he⟩:=X.quiet ho hj hm ha;exact kq he
 have hdv:∀(j:Nat) (d:Option BN) (v:Zb) (s:BN),(l.map gdv)[j]? = some (d,v)→d=some s→∃o sn,ops[j]? = some o∧o.dst=some sn∧bn sn=s:=by
  intro j d v s hj hd;rw[Lz6]at hj;cases hx:l[j]? with
  |none=>grind
  |some g=>
   rw[hx]at hj;simp only[YzE,Option.some.injEq,gdv,Prod.mk.injEq]at hj;have hjl:j<ops.size:=by have:=(Lz0.1 hx).1;have:=X.len;omega
   have ho:ops[j]? = some ops[j]:=Yzy hjl;have:=(hdst j _ g ho hx).1;simp_all
 have hes:∀(j:Nat),(uO P ops.toList)[j]? = some true→∃o,ops[j]? = some o∧anchor P o.op=true:=by
  intro j hj;unfold uO at hj
  grind
 have hes':∀(j:Nat) (o:Oper),ops[j]? = some o→(uO P ops.toList)[j]? = some (anchor P o.op):=by grind[uO]
 have hhid:∀(i m:Nat) (om:Oper),ops[m]? = some om→(m∈yd (yK ops.toList) i 0 ops.toList↔(ja om.op&&bef (yK ops.toList) m i)=false):=by
  intro i m om hom;rw[wy]
  grind
 have hhidlt:∀(i m:Nat),m∈yd (yK ops.toList) i 0 ops.toList→m<ops.size:=by grind[wy]
 have hFG:∀(j:Nat) (o:Oper) (g:GE) (Hk:Za) (m:Nat),ops[j]? = some o→l[j]? = some g→ja o.op=false→anchor P o.op=true→(h0::hsG l)[cmG l j]? = some Hk→m∈yd (yK ops.toList) j 0 ops.toList→
   FG n0 l (cmG l j+1) g.ha m=FG n0 l (cmG l j) Hk m:=by
  intro j o g Hk m ho hg hm ha hHk hmem;have hmN:=hhidlt j m hmem;obtain⟨h',k1,k2,k3,k4⟩:=X.anchor ho hg hm ha;have hjN:j<ops.size:=(Lz7.1 ho).1;obtain⟨Hk',hHk',Sp⟩:=hspc j (by omega);cases hHk.symm.trans hHk';have hhb:=(X.step j g hg).2.1;have hgm:g.ha.t.get (nm n0 m)=if decide (m<j)=true then FG n0 l (cmG l j) Hk m else none:=by rw[(k3 m hmem).1,hhb];exact Sp.res m hmN
  show (if cmG l j+1≤cmG l m then obG n0 l m else g.ha.t.get (nm n0 m))=if cmG l j≤cmG l m then obG n0 l m else Hk.t.get (nm n0 m)
  rcases Nat.lt_trichotomy m j with hmj|hmj|hmj
  ·grind
  ·subst hmj;rw[Yzc (by omega),hgm,Yzc (by simp),Yzd (LzB _),X.ob ho hg,hm];rfl
  ·have hle:cmG l j+1≤cmG l m:=by
    have h1:cmG l (j+1)=cmG l j+1:=by refine zeI _ 0 j ?_ (by simp) (by simp) (fun k hk=>by grind);rw[X.es,hes' j o ho,ha]
    have h2:cmG l (j+1)≤cmG l m:=xA _ 0 fun k _ hk=>by grind
    omega
   grind
 have FGu:∀(k:Nat) (Hk:Za) (m:Nat),m<ops.size→(h0::hsG l)[k]? = some Hk→(∀(j:Nat) (oj:Oper),ops[j]? = some oj→anchor P oj.op=true→cmG l j<k→m∈yd (yK ops.toList) j 0 ops.toList)→FG n0 l k Hk m=obG n0 l m:=by
  intro k
  induction k with
  |zero=>simp
  |succ k ih=>
   intro Hk m hmN hHk hall;rw[Yzl]at hHk;obtain⟨j,g,k1,k2,k3,k4⟩:=zdh l k Hk hHk;have hjN:j<ops.size:=by rw[←X.len];grind
   have ho:ops[j]? = some ops[j]:=Yzy hjN;obtain⟨g',hg',hd⟩:=X.ent j _ ho;cases k1.symm.trans hg';have ha:anchor P ops[j].op=true:=by grind
   have hm:ja ops[j].op=false:=by grind[wa]
   obtain⟨Hk',hHk',_⟩:=hspc j (by omega);have:=hFG j _ g Hk' m ho k1 hm ha hHk' (hall j _ ho ha (by omega));rw[k3,k4]at this;rw[this];rw[k3]at hHk';exact ih Hk' m hmN hHk' fun j oj hoj haj hlt=>hall j oj hoj haj (by omega)
 have FGn:∀(k:Nat) (Hk:Za) (m:Nat) (om:Oper),ops[m]? = some om→ja om.op=false→(h0::hsG l)[k]? = some Hk→FG n0 l k Hk m=none:=by intro k Hk m om hom hmk hHk;have hmN:m<ops.size:=(Lz7.1 hom).1;obtain⟨g,hg,_⟩:=X.ent m om hom;rw[FGu k Hk m hmN hHk fun j oj _ _ _=>(hhid j m om hom).2 (by grind),X.ob hom hg,hmk];rfl
 have hkNone:∀(k:Nat) (Hk:Za) (m:Nat),m<ops.size→(h0::hsG l)[k]? = some Hk→k≤cmG l m→Hk.t.get (nm n0 m)=none:=by
  intro k Hk m hmN hHk hle;cases k with
  |zero=>simp only[Yzf,Option.some.injEq]at hHk;subst hHk;exact X.fresh m hmN
  |succ k=>
   rw[Yzl]at hHk;obtain⟨j,g,k1,k2,k3,k4⟩:=zdh l k Hk hHk;have hjN:j<ops.size:=by rw[←X.len];grind
   obtain⟨Hk',_,Sp⟩:=hspc (j+1) (by omega);rw[zdj l h0 j g k1,k4]at Sp;have hmj:¬m<j+1:=fun hh=>by
    have:cmG l m≤cmG l j:=xA _ 0 fun q _ hq=>by grind
    omega
   rw[Sp.res m hmN,Yzc (show ¬decide (m<j+1)=true by grind)]
 have finish:∀(listed:Array Bool) (φ:Phi) (a:Act) (w:World) (Hk H:Za),(∀i,i<ops.size→lst listed i=true)→Ext n0 φ0 φ→
   (h0::hsG l)[ce (lst listed) 0 (uO P ops.toList)]? = some Hk→Spc n0 ops.size l (lst listed) (ce (lst listed) 0 (uO P ops.toList)) Hk H→Zd w0 S φ H w→n0+ops.size≤H.n.toNat→
   Zh φ nt H.n.toNat (frL (lst listed) 0 (l.map gdv) t) a.tmps→a.defers=a0.defers→Q .normal a w:=by
  intro listed φ a w Hk H hall hE hH Sp HR hn T hdf;have hce:ce (lst listed) 0 (uO P ops.toList)=cmG l ops.size:=by
   rw[hcmE];refine xN _ 0 fun j hj=>?_
   grind
  rw[hce]at hH Sp;obtain⟨Hk',hHk',Sp'⟩:=hspc ops.size (LzB _);cases hH.symm.trans hHk';rw[←X.fin]at Sp';have hg:∀b,h2.t.get b=H.t.get b:=by
   intro b;rcases zbU n0 ops.size b with hb|⟨m,hm,rfl⟩
   ·rw[Sp.old b hb,Sp'.old b hb]
   ·rw[Sp.res m hm,Sp'.res m hm,Yzd (hall m hm),Yzd (show decide (m<ops.size)=true by grind)]
  have hnn:h2.n.toNat=H.n.toNat:=by rw[Sp.n,Sp'.n]
  refine hQ a w ⟨φ,by grind,HR.of_get hg hnn,?_,hdf,by omega⟩;rw[hnn,X.fr,←ke (L:=lst listed) (l.map gdv) 0 t (fun j hj=>by rw[Yzh];exact hall j (by simpa[X.len] using hj))];exact T
 intro fuel
 induction fuel with
 |zero=>
  intro listed φ a w Hk H hsz hu hC hE hH Sp HR hn T hdf hbad;have hall:∀i,i<ops.size→lst listed i=true:=fun i hi=>zgn (by omega) (by omega);have hnil:Region.ready .any ops listed=[]:=by
   cases hr:Region.ready .any ops listed with
   |nil=>rfl
   |cons i r=>
    obtain⟨o,ho,h1,h2,h3⟩:=mem_ready (ops:=ops) (listed:=listed) (i:=i) (by grind)
    grind
  exact⟨hnil,finish listed φ a w Hk H hall hE hH Sp HR hn T hdf⟩
 |succ fuel ih=>
  intro listed φ a w Hk H hsz hu hC hE hH Sp HR hn T hdf hbad;refine⟨fun hnil=>finish listed φ a w Hk H (zci (ops:=ops) hsz (fun i o e ho he hb=>hA' i o ho e he hb) hnil) hE hH Sp HR hn T hdf,fun i hi=>?_⟩;obtain⟨o,ho,hlt,hli,hR⟩:=mem_ready hi;have hiN:i<ops.size:=(Lz7.1 ho).1;obtain⟨g,hj,hgd⟩:=X.ent i o ho;obtain⟨htr,hhb,_⟩:=X.step i g hj;obtain⟨hnosel,hedge⟩:=hA i o ho;obtain⟨hdd,hdin⟩:=hdst i o g ho hj;generalize hk:ce (lst listed) 0 (uO P ops.toList)=k at hH Sp;have before:∀j,bef (yK ops.toList) j i=true→lst listed j=true:=fun j hb=>wg hb hC hR;have after:∀j,bef (yK ops.toList) i j=true→lst listed j=false:=by
   intro j hb;cases hj:lst listed j with
   |false=>rfl
   |true=>
    have:=wg hb hC (hC j hj)
    grind
  have hCi:Clo ops (fun k=>decide (k<i)):=by
   intro j hj o' e ho' he hb
   grind
  have hRi:Rdy ops (fun k=>decide (k<i)) i:=by
   intro o' e ho' he hb
   grind
  have hlk:g.d.looks=(o.looksAt ops).map bn:=by rw[hgd]
  rw[hlk]at htr;have hagree:∀s∈(o.looksAt ops).map bn,(frL (fun k=>decide (k<i)) 0 (l.map gdv) t).get s=(frL (lst listed) 0 (l.map gdv) t).get s:=by
   intro s hs';obtain⟨sn,hsn,rfl⟩:=List.mem_map.1 hs';rw[vR,vR]
   congr 1
   refine jX _ 0 fun j d v hjd hds=>?_;obtain⟨oj,sj,hoj,hsj,hbe⟩:=hdv j d v _ hjd hds;have:=v7 hbe;subst this;rw[Yzh];rcases Nat.lt_trichotomy j i with hji|hji|hji
   ·grind[Oper.apart_spec]
   ·grind
   ·grind[Oper.apart_spec]
  have htrg:∀s,g.tr.get s=(frL (lst listed) 0 (l.map gdv) t).get s∧s∈(o.looksAt ops).map bn∨g.tr.get s=none:=by
   intro s
   classical
   have:=wk (frL (fun k=>decide (k<i)) 0 (l.map gdv) t) s ((o.looksAt ops).map bn);rw[←htr]at this;by_cases hm:s∈(o.looksAt ops).map bn<;>grind
  have Tr':Zh φ nt H.n.toNat g.tr (xX φ nt g.tr):=by
   refine zeC (fun j hj=>?_) (fun s v hv=>?_)
   ·rcases htrg (bn j) with⟨h1,_⟩|h1
    ·rw[h1];exact T.out j hj
    ·exact h1
   ·rcases htrg s with⟨h1,_⟩|h1
    ·rw[h1]at hv;exact T.wf s v hv
    ·grind
  have htmps:∀sn∈o.looksAt ops,a.tmps[sn]? = (xX φ nt g.tr)[sn]?:=by
   intro sn hsn;by_cases hlt':sn<nt
   ·rw[T.get sn hlt',Tr'.get sn hlt'];have hm:bn sn∈(o.looksAt ops).map bn:=List.mem_map.2 ⟨sn,hsn,rfl⟩;rw[←hagree _ hm]
    classical
    have:=wk (frL (fun k=>decide (k<i)) 0 (l.map gdv) t) (bn sn) ((o.looksAt ops).map bn)
    grind
   ·have e1:a.tmps[sn]? = none:=YzM (by rw[T.size];grind);have e2:(xX φ nt g.tr)[sn]? = none:=YzM (by rw[Tr'.size];grind);rw[e1,e2]
  have hexec:execOp a.eval o=execOp ({ tmps:=xX φ nt g.tr,defers:=[] }:Act).eval o:=by
   refine execOp_congr o hnosel fun x hx=>?_;cases x with
   |tmp sn=>have:=htmps sn (Yzn _ (List.mem_filterMap.2 ⟨.tmp sn,by grind,rfl⟩));simp only[Act.eval,Yzq,this]
   |_=>rfl
  have hwant:Region.wanted o (yielded ops a.tmps)=Region.wanted o (yielded ops (xX φ nt g.tr)):=by
   unfold Region.wanted;cases hg:o.guard with
   |none=>rfl
   |some gb=>
    obtain⟨q,b⟩:=gb;simp only;have:yielded ops a.tmps q=yielded ops (xX φ nt g.tr) q:=by
     unfold yielded;cases hd:(ops[q]?).bind (·.dst) with
     |none=>rfl
     |some sn=>
      have:=htmps sn (Yzr _ (by grind))
      grind
    rw[this]
  have hC':Clo ops (lst (listed.setIfInBounds i true)):=by
   intro j hj o' e ho' he hb;rw[xW hlt]at hj ⊢;rw[Yzu]
   right
   simp only[Yzu,Yz0]at hj;rcases hj with hj|hj
   ·subst hj;exact hR o' e ho' he hb
   ·exact hC j hj o' e ho' he hb
  have next:∀(φ2:Phi) (w2:World) (Hk' H':Za),zeW H.n.toNat φ φ2→Ext n0 φ φ2→H.n.toNat≤H'.n.toNat→
    (h0::hsG l)[ce (lst (listed.setIfInBounds i true)) 0 (uO P ops.toList)]? = some Hk'→Spc n0 ops.size l (lst (listed.setIfInBounds i true)) (ce (lst (listed.setIfInBounds i true)) 0 (uO P ops.toList)) Hk' H'→
    Zd w0 S φ2 H' w2→wfA φ2 H'.n.toNat g.v→(∀m,m<ops.size→lst (listed.setIfInBounds i true) m=false→(φ2 (nm n0 m)).ok=false)→
    wpAnyIn (FR ro) 0 P .any ops Q fuel (listed.setIfInBounds i true) (a.put o.dst (zj φ2 g.v)) w2:=by
   intro φ2 w2 Hk' H' he he0 hle hH' Sp' H2 hv hbad';refine ih _ φ2 _ w2 Hk' H' (by grind) ?_ hC' (hE.trans he0 (LzB _)) hH' Sp' H2 (Yzp hn hle) ?_ ((put_defers _ _ _).trans hdf) hbad'
   ·grind[zjb]
   ·refine Zh.of_get (Zh.put (T.extW he hle) hv o.dst hdin) fun s=>?_
    classical
    rw[zcy,vR];have hri:(l.map gdv)[i]? = some (o.dst.map bn,g.v):=by grind[gdv]
    by_cases hd:o.dst.map bn=some s
    ·rw[Yzd hd];rw[hd]at hri;rw[zfv (l.map gdv) 0 i g.v hri (by rw[Yzh,xW hlt];simp) (fun j d u hij hjd hds=>?_)]
     ·rfl
     ·rw[Yzh,xW hlt];obtain⟨oj,sj,hoj,hsj,hbe⟩:=hdv j d u _ hjd hds;have hne:¬j=i:=by omega
      simp only[hne,decide_false,Yz3];rcases hord i j o oj ho hoj hij with hb|⟨hap,_⟩
      ·grind
      ·cases hod:o.dst with
       |none=>grind
       |some so=>grind[v7,Oper.apart_spec]
    ·rw[Yzc hd,vR]
     congr 1
     refine jX _ 0 fun j d u hjd hds=>?_;rw[Yzh,xW hlt];have hne:¬j=i:=fun hh=>by grind
     simp[hne]
  have lset:∀m,lst (listed.setIfInBounds i true) m=(decide (m=i)||lst listed m):=xW hlt;have badK:∀(φ2:Phi),(∀m,m<ops.size→m≠i→lst listed m=false→φ2 (nm n0 m)=φ (nm n0 m))→∀m,m<ops.size→lst (listed.setIfInBounds i true) m=false→(φ2 (nm n0 m)).ok=false:=by grind
  unfold wpOpIn;simp only[ho];obtain⟨Hi,hHi,Spi⟩:=hspc i (by omega);rw[←hhb]at Spi;have partOf:∀(t':Tr Zf) (n':BN),(∀b o',(b.toNat<n0∨n0+ops.size≤b.toNat)→t'.get b=some o'→Hk.t.get b=some o')→
    (∀m,m<ops.size→m∉yd (yK ops.toList) i 0 ops.toList→∀o',t'.get (nm n0 m)=some o'→FG n0 l k Hk m=some o')→(∀m∈yd (yK ops.toList) i 0 ops.toList,t'.get (nm n0 m)=none)→Sbh ⟨n',t'⟩ H:=by
   intro t' n' h1 h2 h3 b o' hb;rcases zbU n0 ops.size b with hb'|⟨m,hm,rfl⟩
   ·rw[Sp.old b hb'];grind
   ·by_cases hmem:m∈yd (yK ops.toList) i 0 ops.toList
    ·grind
    ·have hq:(ja ops[m].op&&bef (yK ops.toList) m i)=true:=by
      grind
     rw[Sp.res m hm,Yzd (before m (w7 hq).2)]
     grind
  have hself:Sbh ⟨g.hb.n,k8 n0 (yd (yK ops.toList) i 0 ops.toList) g.hb.t⟩ H∨cmG l i≠k:=by
   by_cases hki:cmG l i=k
   ·left
    rw[hki]at hHi Spi;cases hH.symm.trans hHi;refine partOf _ _ (fun b o' hb hget=>?_) (fun m hmN hmem o' hget=>?_) (fun m hmem=>za5 _ _ m hmem)
    ·rw[wO _ _ b fun j hj hh=>by have:=hhidlt i j hj;rw[hh,ye]at hb;omega]at hget;rw[←Spi.old b hb];exact hget
    ·rw[wO _ _ _ fun j hj hh=>hmem (by grind[wJ]),Spi.res m hmN]at hget
     grind
   ·omega
  have hnE:cmG l i=k→g.hb.n.toNat=H.n.toNat:=by intro hki;rw[hki]at hHi;cases hH.symm.trans hHi;rw[Spi.n,Sp.n]
  have ceSame:anchor P o.op=false→ce (lst (listed.setIfInBounds i true)) 0 (uO P ops.toList)=k:=by
   intro ha;rw[←hk];refine xN _ 0 fun j hj=>?_;rw[Yzh,lset];obtain⟨oj,hoj,haj⟩:=hes j hj;have:j≠i:=fun hh=>by grind
   simp[this]
  have spcSame:anchor P o.op=false→FG n0 l k Hk i=none→Spc n0 ops.size l (lst (listed.setIfInBounds i true)) k Hk H:=by
   intro ha hnone;refine⟨Sp.n,Sp.old,fun m hmN=>?_⟩;rw[Sp.res m hmN,lset];by_cases hmi:m=i
   ·grind
   ·simp only[hmi,decide_false,Yz3]
  rcases zkL P o.op with hm|⟨hm,ha⟩|⟨hm,ha,hq⟩
  ·
   have ha:=wa (P:=P) hm;obtain⟨k1,k2,h',k3,k4⟩:=X.made ho hj hm;have hob:FG n0 l k Hk i=obG n0 l i:=by
    refine FGu k Hk i hiN hH fun j oj hoj haj hlt=>(hhid j i o ho).2 ?_;cases hb:bef (yK ops.toList) i j with
    |false=>simp
    |true=>
     have hlj:=after j hb;exfalso;have hle:ce (lst listed) 0 (uO P ops.toList)≤ce (fun q=>decide (q<j)) 0 (uO P ops.toList):=by
      refine xA _ 0 fun q hq hlq=>?_;rw[Yzh]at hlq ⊢;obtain⟨oq,hoq,haq⟩:=hes q hq;rcases Nat.lt_trichotomy q j with hqj|hqj|hqj
      ·grind
      ·grind
      ·rcases hord j q oj oq hoj hoq hqj with hb'|⟨_,hc|hc⟩
       ·have:=wg hb' hC (hC q hlq)
        grind
       ·grind
       ·grind
     grind
   have hHnone:H.t.get (nm n0 i)=none:=by rw[Sp.res i hiN,Yzc (by grind)]
   have hnmlt:(nm n0 i).toNat<H.n.toNat:=by grind[ye]
   rcases kW (a:={ tmps:=xX φ nt g.tr,defers:=[] }) k3 Tr' with⟨hw,hc⟩|⟨hw,hv,hh⟩
   ·rw[Yzd (by grind)];obtain⟨obj,vf,hsh,hconc,hwf,howf⟩:=zgY (nt:=nt) hm hc;have e1:=hsh ⟨nm n0 i,g.hb.t⟩;rw[hc]at e1;simp only[Option.some.injEq,Prod.mk.injEq]at e1;obtain⟨ev,eh⟩:=e1;have hobj:obG n0 l i=some obj:=by
     rw[X.ob ho hj,hm];show g.ha.t.get (nm n0 i)=some obj;rw[←k4,eh];exact zr _ _ _
    refine zd7 C HR (ar:={ tmps:=xX φ nt g.tr,defers:=[] }) Tr' hexec (hsh H) ?_;intro φ1 w2 he H2 hv hle;obtain⟨HR2,he2⟩:=HR.rename H2 he (howf φ _ _ Tr') hnmlt (hbad i hiN hli) hHnone;have hcv:zj φ1 (.s (.one (vf H.n)))=zj (upd φ (nm n0 i) (φ1 H.n)) g.v:=by rw[ev];exact hconc _ _ _ _ (zi _ _ _).symm
    rw[hcv];refine next _ w2 Hk (H.put (nm n0 i) obj) he2 (fun b hb=>?_) (LzB _) (by grind) ?_ HR2 ?_ (badK _ fun m hmN hmi _=>?_)
    ·have:b≠nm n0 i:=fun hh=>by grind[ye]
     grind[upd]
    ·rw[ceSame ha];refine⟨Sp.n,fun b hb=>?_,fun m hmN=>?_⟩
     ·show (H.t.set (nm n0 i) obj).get b=_;rw[zl _ _ _ _ (fun hh=>by rw[hh,ye]at hb;omega)];exact Sp.old b hb
     ·show (H.t.set (nm n0 i) obj).get (nm n0 m)=_;rw[lset];by_cases hmi:m=i
      ·subst hmi;rw[zr,Yzd (by simp)]
       grind
      ·rw[zl _ _ _ _ (fun hh=>hmi (wJ hh)),Sp.res m hmN];simp only[hmi,decide_false,Yz3]
    ·rw[ev];refine hwf _ _ _ ⟨hnmlt,?_⟩;rw[zi];exact H2.okb H.n obj (by grind[Za.new,zr])
    ·have:nm n0 m≠nm n0 i:=fun hh=>hmi (wJ hh)
     grind[upd]
   ·rw[Yzc (by grind)];have hnone:FG n0 l k Hk i=none:=by
     rw[hob,X.ob ho hj,hm];show g.ha.t.get (nm n0 i)=none;rw[←k4,hh];show g.hb.t.get (nm n0 i)=none;rw[Spi.res i hiN,Yzc (by simp)]
    have hn':=next φ w Hk H (Ext.refl _ _).w (Ext.refl _ _) (LzB _) (by grind) (by grind) HR (by rw[hv];exact fun _ hv=>by cases hv) (badK φ fun _ _ _ _=>rfl)
    rw[hv]at hn';exact⟨fun f _=>trivial,hn'⟩
  ·
   have hki:cmG l i=k:=by
    rw[hcmE,←hk];refine (xN _ 0 fun j hj=>?_).symm;obtain⟨oj,hoj,haj⟩:=hes j hj;rw[Yzh];rcases Nat.lt_trichotomy j i with hji|hji|hji
    ·grind
    ·grind
    ·grind
   have hsub:=hself.resolve_right (fun hh=>hh hki);have hEn:=hnE hki;obtain⟨h',k1,k2,k3,k4⟩:=X.anchor ho hj hm ha;have hce1:ce (lst (listed.setIfInBounds i true)) 0 (uO P ops.toList)=k+1:=by rw[←hk];exact zeI (L:=lst listed) (uO P ops.toList) 0 i (by grind) (by grind) (by grind) (fun j hj=>by rw[Yzh]at hj;rw[lset];simp[hj])
   have hH1:(h0::hsG l)[k+1]? = some g.ha:=by rw[Yzl,←hki];exact zfB l i g hj (by grind)
   have HE:=HR.sub hsub hEn;have go:∀(φ2:Phi) (w2:World),Ext H.n.toNat φ φ2→Zd w (zto φ ⟨g.hb.n,k8 n0 (yd (yK ops.toList) i 0 ops.toList) g.hb.t⟩) φ2 h' w2→wfA φ2 h'.n.toNat g.v→H.n.toNat≤h'.n.toNat→
     wpAnyIn (FR ro) 0 P .any ops Q fuel (listed.setIfInBounds i true) (a.put o.dst (zj φ2 g.v)) w2:=by
    intro φ2 w2 he H2 hv hle;obtain⟨t',m1,m2⟩:=zvH (n0:=n0) H.t h'.t (yd (yK ops.toList) i 0 ops.toList);have HR2:Zd w0 S φ2 ⟨h'.n,t'⟩ w2:=by
     refine HR.join hsub hEn H2 he hle rfl fun b o' hb=>?_;by_cases hmem:∃m∈yd (yK ops.toList) i 0 ops.toList,b=nm n0 m
     ·obtain⟨m,hmem,rfl⟩:=hmem
      grind[za5]
     ·left
      rw[←m2 b fun j hj hh=>hmem ⟨j,hj,hh⟩];exact hb
    refine next φ2 w2 g.ha ⟨h'.n,t'⟩ he.w (he.mono (by omega)) hle (by grind) ?_ HR2 hv (badK φ2 fun m hmN _ _=>he _ (by grind[ye]))
    rw[hce1];refine⟨by rw[k2],fun b hb=>?_,fun m hmN=>?_⟩
    ·have hb':∀j∈yd (yK ops.toList) i 0 ops.toList,b≠nm n0 j:=fun j hj hh=>by have:=hhidlt i j hj;rw[hh,ye]at hb;omega
     show t'.get b=_;rw[m2 b hb',k4 b hb']
    ·show t'.get (nm n0 m)=_;rw[lset];by_cases hmem:m∈yd (yK ops.toList) i 0 ops.toList
     ·have hfg:FG n0 l (k+1) g.ha m=FG n0 l k Hk m:=by
       have:=hFG i o g Hk m ho hj hm ha (by grind) hmem
       rwa [hki]at this
      rw[m1 m hmem,Sp.res m hmN];by_cases hmi:m=i
      ·grind
      ·simp only[hmi,decide_false,Yz3]
       grind
     ·have hq:(ja ops[m].op&&bef (yK ops.toList) m i)=true:=by
       grind
      have hbm:=(w7 hq).2;have hmi:=hbef m i hbm;have hle':cmG l m≤cmG l i:=xA _ 0 fun q _ hq=>by grind
      have hb':∀j∈yd (yK ops.toList) i 0 ops.toList,nm n0 m≠nm n0 j:=fun j hj hh=>hmem (by grind[wJ]);rw[m2 _ hb',Yzd (by grind),Yzc (by omega),k4 _ hb']
   have TrE:Zh φ nt (Za.n ⟨g.hb.n,k8 n0 (yd (yK ops.toList) i 0 ops.toList) g.hb.t⟩).toNat g.tr (xX φ nt g.tr):=by grind
   rcases kW (a:={ tmps:=xX φ nt g.tr,defers:=[] }) k1 Tr' with⟨hw,hc⟩|⟨hw,hv,hh⟩
   ·rw[Yzd (by grind)];refine zd7 C HE (ar:={ tmps:=xX φ nt g.tr,defers:=[] }) TrE hexec hc ?_
    grind
   ·rw[Yzc (by grind)];have:=go φ w (Ext.refl _ _) (by grind) (by rw[hv];exact fun _ hv=>by cases hv) (by grind);rw[hv]at this;exact⟨fun f _=>trivial,this⟩
  ·
   have hex:∃X':Za,Sbh X' H∧∃h',yY call (ym P nt ops o) g.tr X'=some (g.v,h'):=by
    obtain⟨_,h',he⟩:=X.quiet ho hj hm ha;have hlo:ce (fun q=>bef (yK ops.toList) q i) 0 (uO P ops.toList)≤k:=by rw[←hk];exact xA _ 0 fun j _ hb=>by grind
    have hhi:k≤ce (fun q=>!bef (yK ops.toList) i q) 0 (uO P ops.toList):=by
     rw[←hk];refine xA _ 0 fun j _ hb=>?_
     grind
    have hlo0:ce (fun q=>bef (yK ops.toList) q i) 0 (uO P ops.toList)≤cmG l i:=by rw[hcmE];exact xA _ 0 fun j _ hb=>by grind
    have hhi0:cmG l i≤ce (fun q=>!bef (yK ops.toList) i q) 0 (uO P ops.toList):=by
     rw[hcmE];refine xA _ 0 fun j _ hb=>?_
     grind
    rcases zba l hch i g hj (by grind) (by grind) with heq|hall
    ·grind
    ·rw[hgd]at hall;obtain⟨h'',he''⟩:=hall k Hk hlo hhi hH;refine⟨_,partOf _ _ (fun b o' hb hget=>?_) (fun m hmN hmem o' hget=>?_) (fun m hmem=>za5 _ _ m hmem),h'',he''⟩
     ·rw[wO _ _ b fun j hj hh=>by have:=hhidlt i j hj;rw[hh,ye]at hb;omega]at hget;rcases zaX (zeU n0 0 0 l) Hk.t b (n0:=n0) (k:=k) with h1|⟨x,hx,_,h2,_⟩
      ·grind
      ·obtain⟨m,q1,⟨gm,q2,_⟩,_⟩:=zcY l 0 0 x X.mkeff hx;have:m<ops.size:=by rw[←X.len];grind
       rw[h2,ye,q1]at hb;omega
     ·rw[wO _ _ _ fun j hj hh=>hmem (by grind[wJ])]at hget;rcases zaX (zeU n0 0 0 l) Hk.t (nm n0 m) (n0:=n0) (k:=k) with h1|⟨x,hx,hkx,h2,h3⟩
      ·grind
      ·obtain⟨m',q1,⟨gm,q2,q3,q4⟩,q5⟩:=zcY l 0 0 x X.mkeff hx;rw[Yzh]at q1 q4 q5;have hmm:m=m':=by grind[wJ]
       subst hmm;rw[hget]at h3;cases h3;show (if k≤cmG l m then _ else _)=_;rw[Yzd (by omega)];unfold obG
       grind
   obtain⟨X',hsub,h',he⟩:=hex;have hnone:=FGn k Hk i o ho hm hH;rcases kW (a:={ tmps:=xX φ nt g.tr,defers:=[] }) he Tr' with⟨hw,hc⟩|⟨hw,hv,hh⟩
   ·rw[Yzd (by grind)];refine zd7 C HR (ar:={ tmps:=xX φ nt g.tr,defers:=[] }) Tr' hexec (znq P o.op hq _ _ _ _ _ _ hc hsub) ?_;intro φ2 w2 he2 H2 hv hle;exact next φ2 w2 Hk H he2.w (he2.mono (by omega)) hle (by grind) (by grind) H2 hv (badK φ2 fun m hmN _ _=>he2 _ (by grind[ye]))
   ·rw[Yzc (by grind)];have:=next φ w Hk H (Ext.refl _ _).w (Ext.refl _ _) (LzB _) (by grind) (by grind) HR (by rw[hv];exact fun _ hv=>by cases hv) (badK φ fun _ _ _ _=>rfl)
    rw[hv]at this;exact⟨fun f _=>trivial,this⟩
end
end Go.CE
end
section
namespace Go.CE
open Go.RowKit
section
variable {P:Program} {w0:World} {S:Nat→Prop} {nt:Nat} {call:zb}
theorem zm7(C:yW P call)(id:Nat)(ops:Array Oper):wS P w0 S nt call (.region id ops true):=by
 intro f fn round ro φ s s2 e a w Q hc R hr hQ;have hc:(bif P.follows .mixedOrders&&kz P ops (yK ops.toList) then zhu (qE P nt ops) else bif P.follows .mixedOrders&&vT P ops (yK ops.toList) then zht (wB P nt ops) else zte) call f fn round s=some (e,s2):=hc;cases hb:(P.follows .mixedOrders&&kz P ops (yK ops.toList)) with
 |false=>
  rw[hb]at hc;simp only[Yzb]at hc;cases hb2:(P.follows .mixedOrders&&vT P ops (yK ops.toList)) with
  |false=>rw[hb2]at hc;cases hc
  |true=>
   rw[hb2]at hc;obtain⟨hm,hok⟩:=w7 hb2;obtain⟨t,d,h⟩:=s;simp only[Yza,zht]at hc;have hlen:(wB P nt ops).length=ops.size:=by
    have key:∀(os:List Oper) (i:Nat),(yH P nt ops (yK ops.toList) (uO P ops.toList) i os).length=os.length:=by
     intro os
     induction os<;>grind[yH]
    grind[wB]
   rw[hlen]at hc;cases hev:evG call h.n.toNat 0 (wB P nt ops) t ⟨bn (Nat.add h.n.toNat ops.size),h.t⟩ with
   |none=>grind
   |some p=>
    obtain⟨l,t2,h2⟩:=p;rw[hev]at hc;simp only at hc;cases hch:wP call h.n.toNat (zeU h.n.toNat 0 0 l) (⟨bn (Nat.add h.n.toNat ops.size),h.t⟩::hsG l) l with
    |false=>grind
    |true=>
     rw[hch]at hc;cases hc;have hkn:(bn (Nat.add h.n.toNat ops.size)).toNat=h.n.toNat+ops.size:=zN _;have X:=zrC (P:=P) hev (fun m hm=>by
      show h.t.get (nm h.n.toNat m)=none;cases hx:h.t.get (nm h.n.toNat m) with
      |none=>rfl
      |some o=>have:=R.H.keys _ _ hx;grind[ye])
     refine wpIn_region_any hm ?_;have hz:∀i,lst (Array.replicate ops.size false) i=false:=by
      intro i;unfold lst;rw[Yzq,Array.getElem?_replicate]
      grind
     have hzf:lst (Array.replicate ops.size false)=fun _=>false:=funext hz;have hfr:∀(r:List (Option BN×Zb)) (i:Nat) (t:Tr Zb),frL (fun _=>false) i r t=t:=by
      intro r
      induction r<;>grind[frL]
     have he:=zbZ φ h.n.toNat ops.size;refine ziR (hh0:=h) (φ0:=φ) C hok X hch rfl hkn (fun a2 w2 hn=>hQ a2 w2 (kR R hn)) ops.size (Array.replicate ops.size false) (zb0 φ h.n.toNat ops.size) a _ ⟨bn (Nat.add h.n.toNat ops.size),h.t⟩ ⟨bn (Nat.add h.n.toNat ops.size),h.t⟩
      (by simp) (by unfold unl;simp) ?_ he ?_ ?_ (R.H.drew.keep ops.size) (by grind) ?_ rfl (fun m hm _=>zkM φ _ _ m hm)
     ·intro i hi;grind
     ·grind[q9]
     ·rw[hzf,q9];exact⟨rfl,fun _ _=>rfl,fun m hm=>by rw[Yzc (by simp)];exact X.fresh m hm⟩
     ·rw[hzf,hfr,hkn];exact R.T.ext he (by simp)
 |true=>
  rw[hb]at hc;obtain⟨hm,hok⟩:=w7 hb;obtain⟨t,d,h⟩:=s;simp only[Yza,zhu]at hc;cases hev:evD call (qE P nt ops) t h with
  |none=>grind
  |some p=>
   obtain⟨l,t2,hs⟩:=p;rw[hev]at hc;simp only at hc;cases hch:wQ call hs l with
   |false=>grind
   |true=>
    rw[hch]at hc;cases hc;refine wpIn_region_any hm ?_;have hz:∀i,lst (Array.replicate ops.size false) i=false:=by
     intro i;unfold lst;rw[Yzq,Array.getElem?_replicate]
     grind
    have hzf:lst (Array.replicate ops.size false)=fun _=>false:=funext hz;have hce:∀(es:List Bool) (i:Nat),ce (fun _=>false) i es=0:=by
     intro es
     induction es<;>grind[ce]
    have hfr:∀(r:List (Option BN×Zb)) (i:Nat) (t:Tr Zb),frL (fun _=>false) i r t=t:=by
     intro r
     induction r<;>grind[frL]
    obtain⟨_,g2,_,_,_⟩:=zdl call _ _ _ _ _ _ hev;refine zlS C hok hev hch (fun a2 w2 hn=>hQ a2 w2 (kR R hn)) ops.size (Array.replicate ops.size false) φ a _ h (by simp) (by unfold unl;simp) ?_ (Ext.refl _ _) ?_ R.H.drew (LzB _) ?_ rfl
    ·intro i hi;grind
    ·grind
    ·rw[hzf,hfr];exact R.T
end
end Go.CE
end
section
namespace Go.CE
open Go.RowKit
section
variable {P:Program} {w0:World} {S:Nat→Prop} {nt:Nat} {call:zb}
theorem zfZ(C:yW P call)(c:Code):wS P w0 S nt call c:=by
 induction c with
 |skip=>intro f fn round ro φ s s2 e a w Q hc R hr hQ;cases hc;exact wpIn_skip (hQ _ _ R.after)
 |region id ops draw=>cases draw<;>grind[zj6,zm7]
 |seq x y hx hy=>grind[zsi]
 |cond c x y hx hy=>grind[zpG]
 |block id x hx=>exact zm8 hx
 |loop x hx=>exact zpF hx
 |rangeFunc g ps assign body _ _=>exact zm6 C
 |exit id=>intro f fn round ro φ s s2 e a w Q hc R hr hQ;cases hc;exact wpIn_exit (hQ _ _ R.after)
 |ret=>intro f fn round ro φ s s2 e a w Q hc R hr hQ;cases hc;exact wpIn_ret (hQ _ _ R.after)
 |_=>intro f fn round ro φ s s2 e a w Q hc R hr hQ;cases hc
theorem zoo:∀(d:List BN) (h h2:Za),shut d h=some h2→h2.n=h.n
 | [],h,h2,e=>by cases e;rfl
 |b::d,h,h2,e=>by
  unfold shut at e;split at e
  ·exact(zoo d _ _ e).trans rfl
  ·cases e
theorem zkJ{φ:Phi}{fn:Func}{tmps:Array Value}{R:Ending→World→Prop}{h2:Za}(hR:∀w2,Zd w0 S φ h2 w2→LeavesIn (FR none) 0 P fn tmps R [] .returning w2):
  ∀(d:List BN) (h:Za) (w:World),shut d h=some h2→Zd w0 S φ h w→LeavesInM (FR none) 0 P fn tmps R (marks φ d) .returning w
 | [],h,w,e,H=>by cases e;exact hR w H
 |b::d,h,w,e,H=>by
  unfold shut at e;split at e
  ·rename_i hb;have g1:w.heap[(φ b).blk]? = some (.deferred (some [])):=H.obj b _ hb;refine⟨by simp,.inl ⟨(φ b).blk,_,rfl,run_takeDeferred g1,?_⟩⟩;refine zkJ hR d _ _ e ?_;exact H.put hb trivial (fun k hk=>World.putObj_heap_other hk) (by simp) rfl rfl rfl trivial
  ·cases e
def zpq(tmps:Array Value):ResultVar→Sem Value
 | .tmp t=>pure (tmps.getD t undef)
 | .cell a t=>do loadVar t (←asAddr (tmps.getD a undef))
theorem zep{φ:Phi}{n:Nat}{t:Tr Zb}{tmps:Array Value}(T:Zh φ nt n t tmps){i:Nat}{v:Zb}(hi:t.get (bn i)=some v):tmps.getD i undef=zj φ v∧wfA φ n v:=by
 have hlt:i<nt:=by apply Decidable.byContradiction;intro hn;rw[T.out i (by omega)]at hi;cases hi
 have:=T.get i hlt;rw[hi]at this;refine⟨?_,T.wf _ _ hi⟩;simp_all
theorem zb7{t:Tr Zb}{h:Za}{r:BN×Option (Option Nat)}{rs:List (BN×Option (Option Nat))}{vs:List SVal}(e:uB t h (r::rs)=some vs):
  ∃v vs',vs=v::vs'∧zb8 t h r=some v∧uB t h rs=some vs':=by
 unfold uB at e;split at e
 ·rename_i v hv;unfold xu at e
  grind
 ·cases e
theorem ud{φ:Phi}{h:Za}{w:World}{t:Tr Zb}{tmps:Array Value}(H:Zd w0 S φ h w)(T:Zh φ nt h.n.toNat t tmps):∀(l:List ResultVar) (rs:List (BN×Option (Option Nat))) (vs:List SVal),
  zdx P l=some rs→uB t h rs=some vs→(l.mapM (zpq tmps)).run P w=.ok (vs.map (zz φ)) w∧∀v∈vs,wfS φ h.n.toNat v
 | [],rs,vs,hc,he=>by cases hc;cases he<;>simp_all
 | .tmp i::l,rs,vs,hc,he=>by
  unfold zdx at hc;split at hc
  ·rename_i rs' hrs;cases hc;obtain⟨v1,vs',rfl,hv1,hvs⟩:=zb7 he;simp only[zb8]at hv1;split at hv1
   ·rename_i u hu;cases hv1;obtain⟨h1,h2⟩:=ud H T l rs' vs' hrs hvs;obtain⟨g1,g2⟩:=zep T hu;refine⟨?_,fun v hv=>?_⟩
    ·rw[List.mapM_cons];simp only[zpq,Sem.run_bind,Sem.run_pure,Result.andThen_ok,h1,g1];rfl
    ·cases hv with
     |head=>exact g2
     |tail _ hm=>exact h2 v hm
   trivial
  ·cases hc
 | .cell i ty::l,rs,vs,hc,he=>by
  unfold zdx at hc;split at hc
  ·rename_i n rs' hn hrs;cases hc;obtain⟨v1,vs',rfl,hv1,hvs⟩:=zb7 he;simp only[zb8]at hv1;split at hv1
   ·rename_i b off hu;obtain⟨h1,h2⟩:=ud H T l rs' vs' hrs hvs;obtain⟨g1,g2⟩:=zep T hu;have key:(loadVar ty (adr φ b off)).run P w=.ok (zz φ v1) w∧wfS φ h.n.toNat v1:=by
     unfold vL at hv1;split at hv1
     ·rename_i cs st hb;have hp:part n cs off h=some (.s v1,h):=by
       grind[part,kI,zcC]
      obtain⟨k1,k2,_⟩:=zaL (P:=P) H hn hb hp;trivial
     trivial
    grind[zpq,Sem.run_bind,zj,zz,zc,asAddr,Sem.run_pure,Result.andThen_ok]
   trivial
  ·cases hc
theorem zh9(fn:Func)(tmps:Array Value):results fn tmps=(do
  let vs ←fn.results.toList.mapM (zpq tmps)
  pure (match vs with | [v]=>v|vs=>.tuple vs.toArray)):=by
 have:fn.results.mapM (zpq tmps)=List.toArray <$> fn.results.toList.mapM (zpq tmps):=by rw[←List.mapM_toArray]
 have e:results fn tmps=(do
   let vs ←fn.results.mapM (zpq tmps)
   pure (if h:vs.size=1 then vs[0] else .tuple vs)):=by
  rfl
 rw[e,this,map_eq_pure_bind,bind_assoc]
 congr 1
 funext vs
 rw[pure_bind]
 congr 1
 match vs with
 | []=>rfl
 | [v]=>rfl
 |v::u::vs=>rfl
theorem zh8{φ:Phi}{h:Za}{w:World}{t:Tr Zb}{tmps:Array Value}(H:Zd w0 S φ h w)(T:Zh φ nt h.n.toNat t tmps){fn:Func}{rs:List (BN×Option (Option Nat))}(hc:zdx P fn.results.toList=some rs)
  {v:Zb} {h2:Za} (he:za0 h (uB t h rs)=some (v,h2)):(results fn tmps).run P w=.ok (zj φ v) w∧wfA φ h.n.toNat v∧h2=h:=by
 cases hv:uB t h rs with
 |none=>rw[hv]at he;cases he
 |some vs=>
  rw[hv]at he;obtain⟨h1,hw⟩:=ud H T _ rs vs hc hv;rw[zh9,Sem.run_bind,h1]
  match vs,he,hw with
  | [],he,hw=>cases he;trivial
  | [u],he,hw=>cases he;exact⟨rfl,hw u (by simp),rfl⟩
  |u::u'::vs,he,hw=>cases he;trivial
theorem kX:∀(args:List Zb) (i:Nat) (t:Tr Zb) (j:Nat),(xz (bn i) t args).get (bn j)=if j<i then t.get (bn j) else(args[j-i]?).or (t.get (bn j))
 | [],i,t,j=>by simp[xz]
 |v::vs,i,t,j=>by
  unfold xz;rw[zdz,kX vs (i+1) _ j];by_cases h1:j<i
  ·rw[Yzd h1,Yzd (by omega),zl _ _ _ _ (fun hh=>by grind[v7])]
  ·rw[Yzc h1];by_cases h2:j=i
   ·simp_all[zr]
   ·rw[Yzc (by omega),zl _ _ _ _ (fun hh=>by grind[v7])]
    grind
theorem zn0{φ:Phi}{n nt:Nat}{args:List Zb}(hl:args.length≤nt)(hw:∀x∈args,wfA φ n x):
  Zh φ nt n (xz .z .nil args) ((args.map (zj φ)).toArray++Array.replicate (nt-(args.map (zj φ)).toArray.size) undef):=by
 have key:∀j,(xz .z .nil args).get (bn j)=args[j]?:=by intro j;have:=kX args 0 .nil j;simp only[Nat.not_lt_zero,if_false,Nat.sub_zero]at this;have e0:bn 0=.z:=rfl;simp_all
 refine⟨by simp;omega,fun i hi=>?_,fun i hi=>?_,fun i v hv=>?_⟩
 ·rw[key];by_cases hlt:i<args.length
  ·grind
  ·rw[Array.getElem?_append_right (by simp;omega)];have:args[i]? = none:=by simp;omega
   rw[this];simp only[List.size_toArray,YzI,Option.getD_none];rw[Array.getElem?_replicate,Yzd (by omega)];rfl
 ·grind
 ·rw[←xI i,key]at hv
  grind
theorem zf3{g:Nat}{fn:Func}{c:Code}(hf:P.funcs[g]? = some fn)(hb:fn.body=some c)(hn:(fn.name == "runtime.NumGoroutine")=false)(as:Array Value)(w:World):(callFunc g as).run P w=.ok (.enter g as) w:=by simp_all[callFunc]
theorem zl7{fn:Func}{r:Zj}(h:zf4 P fn=some r):∃c rs,fn.body=some c∧zdx P fn.results.toList=some rs∧(fn.name == "runtime.NumGoroutine")=false∧r=⟨fn.ntmps,rs,zH P fn.ntmps c⟩:=by
 unfold zf4 at h
 grind
def zra(P:Program)(fs:Nat→Option Zj):Prop:=∀g r,fs g=some r→∃fn,P.funcs[g]? = some fn∧zf4 P fn=some r
theorem zsX(C:yW P call){fs:Nat→Option Zj}(hfs:zra P fs){f g:Nat}{φ:Phi}{h h2:Za}{w:World}{args:List Zb}{v:Zb}(H:Zd w0 S φ h w)(hw:∀x∈args,wfA φ h.n.toNat x)
  (e:zlG fs call f g args h=some (v,h2)):(∀as w,(callFunc g as).run P w=.ok (.enter g as) w)∧CallsIn (FR none) 0 P g (args.map (zj φ)).toArray w (Ret w0 S φ h v h2):=by
 unfold zlG at e;split at e
 ·rename_i ntmps rs body hfg;obtain⟨fn,hf,hcf⟩:=hfs g _ hfg;obtain⟨c,rs',hb,hrs,hname,hr⟩:=zl7 hcf;cases hr;refine⟨zf3 hf hb hname,?_⟩;cases hl:znz args fn.ntmps with
  |false=>grind
  |true=>
   rw[hl]at e;simp only[Yza]at e;cases hbody:zH P fn.ntmps c call f g none ⟨xz .z .nil args,[],h⟩ with
   |none=>rw[hbody]at e;cases e
   |some p=>
    obtain⟨ex,t1,d1,h1⟩:=p;rw[hbody]at e;refine callsIn_of_wp_marks hf hb trivial (zfZ C c f g none none φ _ _ ex _ w _ hbody ⟨H,zn0 (zkI _ _ hl) hw,rfl,fun b hb=>by cases hb⟩ rfl fun a2 w2 hA=>?_) rfl;obtain⟨φ2,he2,⟨H2,T2,D2,dn2⟩,hle⟩:=hA;simp only at H2 T2 D2 dn2 he2 hle;have key:leave rs (some (.normal,⟨t1,d1,h1⟩))=some (v,h2)→LeavesInM (FR none) 0 P fn a2.tmps (Ret w0 S φ h v h2) a2.defers .returning w2:=by
     intro e;simp only[leave]at e;split at e
     ·rename_i h3 hs;rw[D2];refine zkJ (fun w3 H3=>?_) d1 h1 w2 hs H2;have hn3:=zoo _ _ _ hs;have T3:Zh φ2 fn.ntmps h3.n.toNat t1 a2.tmps:=by grind
      obtain⟨k1,k2,rfl⟩:=zh8 H3 T3 hrs e;exact⟨_,k1,φ2,rfl,he2,H3,k2,by grind⟩
     ·cases e
    cases ex with
    |normal=>exact key e
    |exit id=>cases e
    |ret=>exact key e
 ·cases e
theorem zgp{φ:Phi}{n:Nat}:∀(ps:List Nat) (args:List Zb) (t t2:Tr Zb) (arr:Array Value),zmH nt t ps args=some t2→Zh φ nt n t arr→(∀x∈args,wfA φ n x)→
  Zh φ nt n t2 ((ps.zip (args.map (zj φ))).foldl (fun t (p:Nat×Value)=>t.setIfInBounds p.1 p.2) arr)∧args.length=ps.length
 | [],[],t,t2,arr,e,T,hw=>by cases e<;>simp_all
 |p::ps,v::vs,t,t2,arr,e,T,hw=>by
  unfold zmH at e;cases hp:Nat.ble (Nat.succ p) nt with
  |false=>grind
  |true=>rw[hp]at e;simp only[Yza]at e;have T2:=Zh.put (a:={ tmps:=arr,defers:=[] }) T (hw v (by simp)) (some p) hp;obtain⟨k1,k2⟩:=zgp ps vs _ t2 _ e T2 fun x hx=>hw x (by simp[hx]);exact⟨k1,by simp[k2]⟩
 | [],_::_,t,t2,arr,e,T,hw=>by cases e
 |_::_,[],t,t2,arr,e,T,hw=>by cases e
theorem zmT(C:yW P call){f:Nat}{l:BN}{φ:Phi}{h h2:Za}{w:World}{args:List Zb}{v:Zb}(H:Zd w0 S φ h w)(hw:∀x∈args,wfA φ h.n.toNat x)
  (e:zfI (zH P) call f l args h=some (v,h2)):∃f tmps assign body,(Instr.yield (φ l).blk (args.map (zj φ)).toArray).run P w=.ok (.round (φ l).blk f tmps assign body) w∧
   RoundIn (FR none) 0 P (φ l).blk f tmps assign body w (Ret w0 S φ h v h2):=by
 unfold zfI at e;split at e
 ·rename_i pend lf ln lt lps la lb ld hl;split at e
  ·rename_i t ht;obtain⟨arr,f8,g1,g2,g3⟩:=H.obj l _ hl;have hln:=H.okk _ _ hl;obtain⟨T,hlen⟩:=zgp _ _ _ _ arr ht g2 hw;refine⟨f8,_,la,lb,run_yield g1 (by simp[hlen]),?_⟩;have harr:((lps.zip (args.map (zj φ)).toArray).foldl (fun tmps (x:Nat×Value)=>tmps.setIfInBounds x.1 x.2) arr)=((lps.toList.zip (args.map (zj φ))).foldl (fun t (p:Nat×Value)=>t.setIfInBounds p.1 p.2) arr):=by
    grind[Array.toList_zip]
   split at e
   ·rename_i t1 d1 h1 has;split at e
    ·rename_i h3 hbe;refine roundIn_of_wpIn trivial ?_;refine zfZ C la f lf (some l) (some (φ l).blk) φ ⟨t,[],h⟩ ⟨t1,d1,h1⟩ .normal _ w _ has ⟨H,?_,rfl,fun b hb=>by cases hb⟩ ⟨rfl,hln⟩ fun a1 w1 hA=>?_
     ·grind
     ·obtain⟨φ1,he1,⟨H1,T1,D1,dn1⟩,hle1⟩:=hA;simp only at H1 T1 D1 dn1 he1 hle1;unfold zoS at hbe;split at hbe
      ·rename_i p9 lf9 ln9 lt9 lps9 la9 lb9 ld9 hl9;cases hbe;obtain⟨arr9,f9,k1,k2,k3⟩:=H1.obj l _ hl9;have el:φ1 l=φ l:=he1 l hln.1;have hlt:(φ1 l).blk<w1.heap.size:=(Lz7.1 k1).1;have H3:Zd w0 S φ1 (h1.put l (.loop .busy p9 lf9 ln9 lt9 lps9 la9 lb9 ld9)) (w1.putObj (φ1 l).blk (.loop { state:=.busy,pending:=p9.map qv,fn:=f9,tmps:=arr9,params:=lps9,assign:=la9,body:=lb9,defers:=(φ1 ld9).blk })):=
        H1.put hl9 trivial (fun k hk=>World.putObj_heap_other hk) (by simp) rfl rfl rfl ⟨arr9,f9,World.putObj_heap_same hlt,k2,k3⟩
       have hbr:=run_beginRound (P:=P) k1 rfl;rw[el]at hbr;refine⟨_,hbr,?_⟩;rw[el]at H3;cases hbd:zH P ln lb call f lf (some l) ⟨t1,d1,h1.put l (.loop .busy p9 lf9 ln9 lt9 lps9 la9 lb9 ld9)⟩ with
       |none=>rw[hbd]at e;cases e
       |some p=>
        obtain⟨ex,t4,d4,h4⟩:=p;rw[hbd]at e;refine zfZ C lb f lf (some l) (some (φ l).blk) φ1 _ _ ex a1 _ _ hbd ⟨H3,T1,D1,dn1⟩ ⟨by rw[el],okB.ext he1 hle1 hln⟩ fun a5 w5 hA5=>?_;obtain⟨φ5,he5,⟨H5,T5,D5,dn5⟩,hle5⟩:=hA5;simp only[zmV]at H5 T5 D5 dn5 he5 hle5;cases d4 with
        |cons b d=>cases e
        |nil=>
         simp only[zoJ,zvP]at e;split at e
         ·rename_i s6 p6 lf6 ln6 lt6 lps6 la6 lb6 ld6 hl6;obtain⟨arr6,f6,m1,m2,m3⟩:=H5.obj l _ hl6;have el5:φ5 l=φ l:=(he5 l (okB.ext he1 hle1 hln).1).trans el;rw[el5]at m1;have hlt5:(φ l).blk<w5.heap.size:=(Lz7.1 m1).1;have hE:Ext h.n.toNat φ φ5:=he1.trans he5 hle1;have fin:∀(j:Option Zg) (st:LoopState),st=(if (j.map qv).isNone then .ready else .done)→Zd w0 S φ5 (h4.put l (.loop st j lf6 ln6 lt6 lps6 la6 lb6 ld6)) (w5.putObj (φ l).blk (.loop { state:=if (j.map qv).isNone then .ready else .done,pending:=j.map qv,fn:=f6,tmps:=arr6,params:=lps6,assign:=la6,body:=lb6,defers:=(φ5 ld6).blk })):=by
           intro j st hst;subst hst;refine H5.put hl6 trivial (fun k hk=>?_) (by simp) rfl rfl rfl ⟨arr6,f6,?_,m2,m3⟩
           ·grind[World.putObj_heap_other]
           ·grind[World.putObj_heap_same]
          cases ex with
          |normal=>cases e;exact⟨_,_,run_endRound none m1,φ5,rfl,hE,fin none .ready rfl,trivial,Yzp hle1 hle5⟩
          |exit id=>cases e;exact⟨_,_,run_endRound (some (.exit id)) m1,φ5,rfl,hE,fin (some (.exit id)) .done rfl,trivial,Yzp hle1 hle5⟩
          |ret=>cases e;exact⟨_,_,run_endRound (some .ret) m1,φ5,rfl,hE,fin (some .ret) .done rfl,trivial,Yzp hle1 hle5⟩
         ·cases e
      trivial
    ·cases e
   ·cases e
  ·cases e
 ·cases e
theorem zf7(C:yW P call){fs:Nat→Option Zj}(hfs:zra P fs)(f:Nat):yW P (za1 (zH P) fs call f):=
 fun _ _ _ _ _ _ _ _ H hw=>⟨fun _ e=>zsX C hfs H hw e,fun _ e=>zmT C H hw e⟩
theorem zfm:yW P (fun _ _ _=>none):=
 fun _ _ _ _ _ _ _ _ _ _=>⟨fun _ e=>(by cases e),fun _ e=>(by cases e)⟩
theorem qg{fs:Nat→Option Zj}(hfs:zra P fs):∀n,yW P (zca (zH P) fs n)
 |0=>zfm
 |n+1=>zf7 (qg hfs n) hfs n
theorem vn{α:Type}:∀(l:List α) (i:Nat) (t:Tr α) (j:Nat),(Tr.ofList (bn i) l t).get (bn j)=if j<i then t.get (bn j) else(l[j-i]?).or (t.get (bn j))
 | [],i,t,j=>by simp[Tr.ofList]
 |v::vs,i,t,j=>by
  unfold Tr.ofList;rw[zdz,vn vs (i+1) _ j];by_cases h1:j<i
  ·rw[Yzd h1,Yzd (by omega),zl _ _ _ _ (fun hh=>by grind[v7])]
  ·rw[Yzc h1];by_cases h2:j=i
   ·simp_all[zr]
   ·rw[Yzc (by omega),zl _ _ _ _ (fun hh=>by grind[v7])]
    grind
theorem zjS(P:Program):zra P (cFs (yS P)):=by
 intro g r h;unfold cFs yS at h;have e0:BN.z=bn 0:=rfl;rw[e0,vn]at h;have:(Tr.nil:Tr (Option Zj)).get (bn g)=none:=by simp
 grind
end
end Go.CE
end
section
namespace Go.CE
open Go.RowKit
noncomputable section
structure Mt where
 ρ:Tr BN
 inv:Tr BN
 work:List (BN×BN)
def mB(b b':BN)(m:Mt):Option Mt:=
 match m with
 |⟨ρ,inv,work⟩=>
  match ρ.get b with
  |some b''=>bif ziO b'' b' then some ⟨ρ,inv,work⟩ else none
  |none=>
   match inv.get b' with
   |some _=>none
   |none=>some ⟨ρ.set b b',inv.set b' b,(b,b')::work⟩
def xD:Zc→Bool
 | .bool _ | .int _ _ | .str _ | .nilp | .nils | .nilm | .nilf | .nili=>true
 |_=>false
def mC(m:Mt)(c c':Zc):Option Mt:=
 match c with
 | .ptr b o=>
  match c' with
  | .ptr b' o'=>bif Nat.beq o o' then mB b b' m else none
  |_=>none
 | .slc b o l k e=>
  match c' with
  | .slc b' o' l' k' e'=>bif Nat.beq o o'&&Nat.beq l l'&&Nat.beq k k'&&eqB e e' then mB b b' m else none
  |_=>none
 |c=>bif xD c&&eqV c c' then some m else none
def mCs:List Zc→List Zc→Mt→Option Mt
 | [],[],m=>some m
 |c::cs,c'::cs',m=>
  match mC m c c' with
  |some m'=>mCs cs cs' m'
  |none=>none
 |_,_,_=>none
def mS(m:Mt):SVal→SVal→Option Mt
 | .one c,.one c'=>mC m c c'
 | .agg cs,.agg cs'=>mCs cs cs' m
 |_,_=>none
def mA:List Zb→List Zb→Mt→Option Mt
 | [],[],m=>some m
 | .s v::vs,.s v'::vs',m=>
  match mS m v v' with
  |some m'=>mA vs vs' m'
  |none=>none
 |_,_,_=>none
def zns(hc h:Za):Nat→Mt→Option (Tr BN)
 |0,_=>none
 |f+1,⟨ρ,inv,work⟩=>
  match work with
  | []=>some ρ
  |(b,b')::ws=>
   match hc.t.get b,h.t.get b' with
   |some (.cells cs st),some (.cells cs' st')=>
    bif Nat.beq st st' then
     match mCs cs cs' ⟨ρ,inv,ws⟩ with
     |some m'=>zns hc h f m'
     |none=>none
    else none
   |_,_=>none
structure Sum where
 g:Nat
 args:List Zb
 objs:List Zf
 res:Zb
def Sum.heap(s:Sum):Za:=⟨bn s.objs.length,Tr.ofList .z s.objs .nil⟩
def ztk(ρ:Tr BN):BN→List Zf→Bool
 |_,[]=>true
 |i,_::l=>
  match ρ.get i with
  |some _=>ztk ρ i.succ l
  |none=>false
def Sum.fits(s:Sum)(args:List Zb)(h:Za):Bool:=
 match mA s.args args ⟨.nil,.nil,[]⟩ with
 |some m=>
  match zns s.heap h (Nat.succ s.objs.length) m with
  |some ρ=>ztk ρ .z s.objs
  |none=>false
 |none=>false
def zgH:SVal→Bool
 | .one c=>xD c
 | .agg cs=>cs.all xD
def xR:Zb→Bool
 | .s v=>zgH v
 | .tup vs=>vs.all zgH
def zmJ(h2:Za):BN→List Zf→Bool
 |_,[]=>true
 |i,.cells cs st::l=>
  match h2.t.get i with
  |some (.cells cs' st')=>zro cs cs'&&Nat.beq st st'&&zmJ h2 i.succ l
  |_=>false
 |_,_::_=>false
def Sum.chk(call:zb)(s:Sum):Bool:=
 match call (.inl s.g) s.args s.heap with
 |some (v,h2)=>eqA s.res v&&xR s.res&&zmJ h2 .z s.objs
 |none=>false
def xk(g:Nat)(args:List Zb)(h:Za):List Sum→Option Zb
 | []=>none
 |s::l=>bif Nat.beq g s.g&&s.fits args h then some s.res else xk g args h l
def zcm(sums:List Sum)(call:zb):zb
 | .inl g,args,h=>
  match xk g args h sums with
  |some v=>some (v,h)
  |none=>call (.inl g) args h
 | .inr l,args,h=>call (.inr l) args h
def zfJ(cc:Nat→Code→yX)(fs:Nat→Option Zj)(sums:List Sum)(n:Nat):zb:=
 Nat.rec (motive:=fun _=>zb) (fun _ _ _=>none) (fun f ih=>zcm sums (za1 cc fs ih f)) n
def isTrue:Res→Bool
 |some (.s (.one (.bool b)),_)=>b
 |_=>false
end
theorem ziC{r:Res}(h:isTrue r=true):∃h2,r=some (.s (.one (.bool true)),h2):=by
 unfold isTrue at h
 grind
def RC(ρ:Tr BN):Zc→Zc→Prop
 | .ptr b o,c'=>∃b',c'=.ptr b' o∧ρ.get b=some b'
 | .slc b o l k e,c'=>∃b',c'=.slc b' o l k e∧ρ.get b=some b'
 |c,c'=>xD c=true∧c'=c
def Sub(ρ ρ':Tr BN):Prop:=∀b b',ρ.get b=some b'→ρ'.get b=some b'
theorem Sub.refl(ρ:Tr BN):Sub ρ ρ:=fun _ _ h=>h
theorem Sub.trans{a b c:Tr BN}(h:Sub a b)(k:Sub b c):Sub a c:=fun _ _ hh=>k _ _ (h _ _ hh)
theorem RC.mono{ρ ρ':Tr BN}(hs:Sub ρ ρ'){c c':Zc}(h:RC ρ c c'):RC ρ' c c':=by
 cases c with
 |ptr b o=>obtain⟨b',h1,h2⟩:=h;exact⟨b',h1,hs _ _ h2⟩
 |slc b o l k e=>obtain⟨b',h1,h2⟩:=h;exact⟨b',h1,hs _ _ h2⟩
 |_=>exact h
def RCs(ρ:Tr BN)(cs cs':List Zc):Prop:=cs'.length=cs.length∧∀(i:Nat) (c:Zc),cs[i]? = some c→∃c',cs'[i]? = some c'∧RC ρ c c'
theorem RCs.mono{ρ ρ':Tr BN}(hs:Sub ρ ρ'){cs cs':List Zc}(h:RCs ρ cs cs'):RCs ρ' cs cs':=
 ⟨h.1,fun i c hc=>by obtain⟨c',h1,h2⟩:=h.2 i c hc;exact⟨c',h1,h2.mono hs⟩⟩
def RS(ρ:Tr BN):SVal→SVal→Prop
 | .one c,v=>∃c',v=.one c'∧RC ρ c c'
 | .agg cs,v=>∃cs',v=.agg cs'∧RCs ρ cs cs'
theorem RS.mono{ρ ρ':Tr BN}(hs:Sub ρ ρ'){v v':SVal}(h:RS ρ v v'):RS ρ' v v':=by
 cases v with
 |one c=>obtain⟨c',h1,h2⟩:=h;exact⟨c',h1,h2.mono hs⟩
 |agg cs=>obtain⟨cs',h1,h2⟩:=h;exact⟨cs',h1,h2.mono hs⟩
structure MI (D:BN→BN→Prop) (hc h:Za) (m:Mt):Prop where
 inv:∀b b',m.ρ.get b=some b'→m.inv.get b'=some b
 pairs:∀b b',m.ρ.get b=some b'→(b,b')∈m.work∨D b b'∨∃cs cs' st,hc.t.get b=some (.cells cs st)∧h.t.get b'=some (.cells cs' st)∧RCs m.ρ cs cs'
section
variable {D:BN→BN→Prop} {hc h:Za}
theorem zsB{m m':Mt}{b b':BN}(I:MI D hc h m)(e:mB b b' m=some m'):MI D hc h m'∧Sub m.ρ m'.ρ∧m'.ρ.get b=some b':=by
 obtain⟨ρ,inv,work⟩:=m;unfold mB at e;simp only at e;split at e
 ·grind[uE,Sub.refl]
 ·rename_i hb;split at e
  ·cases e
  ·rename_i hi;cases e;have hsub:Sub ρ (ρ.set b b'):=by
    intro x y hx
    grind[zl]
   refine⟨⟨fun x y hx=>?_,fun x y hx=>?_⟩,hsub,zr _ _ _⟩
   ·show (inv.set b' b).get y=some x;by_cases hxb:x=b
    ·grind[zr]
    ·have hx:(ρ.set b b').get x=some y:=hx;rw[zl _ _ _ _ hxb]at hx;have h1:=I.inv x y hx
     grind[zl]
   ·by_cases hxb:x=b
    ·grind[zr]
    ·have hx:(ρ.set b b').get x=some y:=hx;rw[zl _ _ _ _ hxb]at hx;rcases I.pairs x y hx with h1|h1|⟨cs,cs',st,h1,h2,h3⟩
     ·grind
     ·grind
     ·exact .inr (.inr ⟨cs,cs',st,h1,h2,h3.mono hsub⟩)
theorem zsA{m m':Mt}{c c':Zc}(I:MI D hc h m)(e:mC m c c'=some m'):MI D hc h m'∧Sub m.ρ m'.ρ∧RC m'.ρ c c':=by
 have rest:(bif xD c&&eqV c c' then some m else none)=some m'→(xD c=true→RC m'.ρ c c'∨True)→MI D hc h m'∧Sub m.ρ m'.ρ∧xD c=true∧c'=c:=by
  intro e _;cases hq:(xD c&&eqV c c') with
  |false=>grind
  |true=>
   rw[hq]at e;cases e;obtain⟨h1,h2⟩:=w7 hq
   grind[Sub.refl,zlH]
 cases c with
 |ptr b o=>
  cases c' with
  |ptr b' o'=>
   simp only[mC]at e;cases hq:Nat.beq o o' with
   |false=>grind
   |true=>rw[hq]at e;obtain⟨h1,h2,h3⟩:=zsB I e;exact⟨h1,h2,b',by rw[beq_true hq],h3⟩
  |_=>cases e
 |slc b o l k x=>
  cases c' with
  |slc b' o' l' k' x'=>
   simp only[mC]at e;cases hq:(Nat.beq o o'&&Nat.beq l l'&&Nat.beq k k'&&eqB x x') with
   |false=>grind
   |true=>rw[hq]at e;obtain⟨h1,h2,h3⟩:=zsB I e;obtain⟨q1,q2⟩:=w7 hq;obtain⟨q1,q3⟩:=w7 q1;obtain⟨q1,q4⟩:=w7 q1;exact⟨h1,h2,b',by grind[beq_true,zlO],h3⟩
  |_=>cases e
 |_=>exact rest e (fun _=>.inr trivial)
theorem zkE:∀(cs cs':List Zc) (m m':Mt),MI D hc h m→mCs cs cs' m=some m'→MI D hc h m'∧Sub m.ρ m'.ρ∧RCs m'.ρ cs cs'
 | [],[],m,m',I,e=>by cases e;exact⟨I,Sub.refl _,rfl,fun i c hc=>by simp at hc⟩
 |c::cs,c'::cs',m,m',I,e=>by
  unfold mCs at e;split at e
  ·rename_i m1 h1;obtain⟨I1,s1,r1⟩:=zsA I h1;obtain⟨I2,s2,r2⟩:=zkE cs cs' m1 m' I1 e;refine⟨I2,s1.trans s2,by simp[r2.1],fun i x hx=>?_⟩;cases i with
   |zero=>simp only[Yzf,Option.some.injEq]at hx;subst hx;exact⟨c',rfl,r1.mono s2⟩
   |succ i=>simp only[Yzl]at hx ⊢;exact r2.2 i x hx
  ·cases e
 | [],_::_,m,m',I,e=>by cases e
 |_::_,[],m,m',I,e=>by cases e
theorem zuw{m m':Mt}{v v':SVal}(I:MI D hc h m)(e:mS m v v'=some m'):MI D hc h m'∧Sub m.ρ m'.ρ∧RS m'.ρ v v':=by
 cases v with
 |one c=>
  cases v' with
  |one c'=>obtain⟨h1,h2,h3⟩:=zsA I e;exact⟨h1,h2,c',rfl,h3⟩
  |agg cs'=>cases e
 |agg cs=>
  cases v' with
  |one c'=>cases e
  |agg cs'=>obtain⟨h1,h2,h3⟩:=zkE _ _ _ _ I e;exact⟨h1,h2,cs',rfl,h3⟩
def RAs(ρ:Tr BN):List Zb→List Zb→Prop
 | [],[]=>True
 | .s v::vs,.s v'::vs'=>RS ρ v v'∧RAs ρ vs vs'
 |_,_=>False
theorem RAs.mono{ρ ρ':Tr BN}(hs:Sub ρ ρ'):∀{vs vs':List Zb},RAs ρ vs vs'→RAs ρ' vs vs'
 | [],[],_=>trivial
 | .s _::_,.s _::_,h=>⟨h.1.mono hs,RAs.mono hs h.2⟩
 | [],_::_,h=>h.elim
 | .tup _::_,_,h=>by cases h
 | .s _::_,[],h=>by cases h
 | .s _::_,.tup _::_,h=>by cases h
theorem zsC:∀(vs vs':List Zb) (m m':Mt),MI D hc h m→mA vs vs' m=some m'→MI D hc h m'∧Sub m.ρ m'.ρ∧RAs m'.ρ vs vs'
 | [],[],m,m',I,e=>by cases e;exact⟨I,Sub.refl _,trivial⟩
 | .s v::vs,.s v'::vs',m,m',I,e=>by
  unfold mA at e;split at e
  ·rename_i m1 h1;obtain⟨I1,s1,r1⟩:=zuw I h1;obtain⟨I2,s2,r2⟩:=zsC vs vs' m1 m' I1 e;exact⟨I2,s1.trans s2,r1.mono s2,r2⟩
  ·cases e
 | [],_::_,m,m',I,e=>by cases e
 | .tup _::_,_,m,m',I,e=>by trivial
 | .s _::_,[],m,m',I,e=>by cases e
 | .s _::_,.tup _::_,m,m',I,e=>by cases e
theorem zg2:∀(f:Nat) (m:Mt) (ρ:Tr BN),MI (fun _ _=>False) hc h m→zns hc h f m=some ρ→∃inv,MI (fun _ _=>False) hc h ⟨ρ,inv,[]⟩∧Sub m.ρ ρ
 |0,m,ρ,I,e=>by cases e
 |f+1,⟨ρ0,inv,work⟩,ρ,I,e=>by
  unfold zns at e;cases work with
  |nil=>grind[Sub.refl]
  |cons p ws=>
   obtain⟨b,b'⟩:=p;simp only at e;split at e
   ·rename_i cs st cs' st' h1 h2;cases hq:Nat.beq st st' with
    |false=>grind
    |true=>
     rw[hq]at e;simp only[Yza]at e;have hst:=beq_true hq;subst hst;cases hm:mCs cs cs' ⟨ρ0,inv,ws⟩ with
     |none=>grind
     |some m1=>
      rw[hm]at e;have I0:MI (fun x y=>x=b∧y=b') hc h ⟨ρ0,inv,ws⟩:=by refine⟨I.inv,fun x y hx=>?_⟩;rcases I.pairs x y hx with k|k|k<;>grind
      obtain⟨I1,s1,r1⟩:=zkE cs cs' _ m1 I0 hm;have I2:MI (fun _ _=>False) hc h m1:=by refine⟨I1.inv,fun x y hx=>?_⟩;rcases I1.pairs x y hx with k|⟨rfl,rfl⟩|k<;>grind
      obtain⟨inv',k1,k2⟩:=zg2 f m1 ρ I2 e;exact⟨inv',k1,s1.trans k2⟩
   ·cases e
theorem jq{s:Sum}{args:List Zb}(e:s.fits args h=true):∃ρ:Tr BN,RAs ρ s.args args∧(∀b c b',ρ.get b=some b'→ρ.get c=some b'→b=c)∧
  (∀b b',ρ.get b=some b'→∃cs cs' st,s.heap.t.get b=some (.cells cs st)∧h.t.get b'=some (.cells cs' st)∧RCs ρ cs cs')∧ztk ρ .z s.objs=true:=by
 unfold Sum.fits at e;split at e
 ·rename_i m hm;split at e
  ·rename_i ρ hρ;have I0:MI (fun _ _=>False) s.heap h ⟨.nil,.nil,[]⟩:=⟨(fun b b' hb=>by simp_all),(fun b b' hb=>by simp_all)⟩;obtain⟨I1,s1,r1⟩:=zsC _ _ _ _ I0 hm;obtain⟨inv,I2,s2⟩:=zg2 _ _ _ I1 hρ;refine⟨ρ,r1.mono s2,fun b c b' hb hc=>?_,fun b b' hb=>?_,e⟩
   ·have h1:=I2.inv b b' hb;have h2:=I2.inv c b' hc
    grind
   ·rcases I2.pairs b b' hb with k|k|k<;>grind
  ·cases e
 ·cases e
end
section
variable {P:Program} {w0:World} {S:Nat→Prop} {φ:Phi} {h:Za} {w:World}
noncomputable def via(ρ:Tr BN)(φ:Phi):Phi:=fun b=>match ρ.get b with|some b'=>φ b'|none=>⟨0,0,0,true,none⟩
theorem wj{ρ:Tr BN}{b b':BN}(hb:ρ.get b=some b'):via ρ φ b=φ b':=by grind[via]
theorem zdD{ρ:Tr BN}{c c':Zc}(hr:RC ρ c c'):zc φ c'=zc (via ρ φ) c:=by
 cases c with
 |ptr b o=>obtain⟨b',rfl,hb⟩:=hr;grind[zc,adr,wj]
 |slc b o l k e=>obtain⟨b',rfl,hb⟩:=hr;grind[zc,adr,wj]
 |_=>obtain⟨hp,rfl⟩:=hr;first|rfl|cases hp
theorem zod{ρ:Tr BN}{n m:Nat}(hlt:∀b b',ρ.get b=some b'→b.toNat<m){c c':Zc}(hr:RC ρ c c')(hw:wfC φ n c'):wfC (via ρ φ) m c:=by
 cases c with
 |ptr b o=>obtain⟨b',rfl,hb⟩:=hr;exact⟨hlt _ _ hb,by rw[wj hb];exact hw.2⟩
 |slc b o l k e=>obtain⟨b',rfl,hb⟩:=hr;exact⟨⟨hlt _ _ hb,by rw[wj hb];exact hw.1.2⟩,by rw[wj hb];exact hw.2.1,hw.2.2⟩
 |_=>obtain⟨hp,rfl⟩:=hr;first|trivial|cases hp
theorem zoc{ρ:Tr BN}{cs cs':List Zc}(hr:RCs ρ cs cs'):cs'.map (zc φ)=cs.map (zc (via ρ φ)):=by
 apply Yye;intro i;rw[Lz6,Lz6];cases hc:cs[i]? with
 |none=>
  have:cs'[i]? = none:=by
   have:=hr.1
   grind
  grind
 |some c=>
  obtain⟨c',h1,h2⟩:=hr.2 i c hc
  grind[zdD]
theorem zq7{ρ:Tr BN}{v v':SVal}(hr:RS ρ v v'):zz φ v'=zz (via ρ φ) v:=by
 cases v with
 |one c=>obtain⟨c',rfl,h2⟩:=hr;exact zdD h2
 |agg cs=>obtain⟨cs',rfl,h2⟩:=hr;grind[zz,zoc]
theorem zvj{ρ:Tr BN}{n m:Nat}(hlt:∀b b',ρ.get b=some b'→b.toNat<m){v v':SVal}(hr:RS ρ v v')(hw:wfS φ n v'):wfS (via ρ φ) m v:=by
 cases v with
 |one c=>obtain⟨c',rfl,h2⟩:=hr;exact zod hlt h2 hw
 |agg cs=>obtain⟨cs',rfl,h2⟩:=hr;intro c hc;obtain⟨i,hi⟩:=List.mem_iff_getElem?.1 hc;obtain⟨c',h3,h4⟩:=h2.2 i c hi;exact zod hlt h4 (hw c' (Lz3 h3))
theorem zoW{ρ:Tr BN}{n m:Nat}(hlt:∀b b',ρ.get b=some b'→b.toNat<m):∀{vs vs':List Zb},RAs ρ vs vs'→(∀x∈vs',wfA φ n x)→vs'.map (zj φ)=vs.map (zj (via ρ φ))∧∀x∈vs,wfA (via ρ φ) m x
 | [],[],_,_=>⟨rfl,fun x hx=>by cases hx⟩
 | .s v::vs,.s v'::vs',hr,hw=>by
  obtain⟨h1,h2⟩:=zoW (n:=n) hlt hr.2 fun x hx=>hw x (by simp[hx]);refine⟨?_,fun x hx=>?_⟩
  ·simp only[Yzv,h1,zj,zq7 hr.1]
  ·cases hx with
   |head=>exact zvj hlt hr.1 (hw (.s v') (by simp))
   |tail _ hm=>exact h2 x hm
 | [],_::_,hr,_=>hr.elim
 | .tup _::_,_,hr,_=>by cases hr
 | .s _::_,[],hr,_=>by cases hr
 | .s _::_,.tup _::_,hr,_=>by cases hr
theorem zeN{ρ:Tr BN}:∀(l:List Zf) (i j:Nat) (o:Zf),ztk ρ (bn i) l=true→l[j]? = some o→∃b',ρ.get (bn (i+j))=some b'
 | [],i,j,o,e,hj=>by simp at hj
 |x::l,i,j,o,e,hj=>by
  unfold ztk at e;split at e
  ·rename_i b' hb;cases j with
   |zero=>grind
   |succ j=>
    rw[zdz]at e;obtain⟨b'',hb''⟩:=zeN l (i+1) j o e (by trivial)
    grind
  ·cases e
theorem zdi(s:Sum)(b:BN):s.heap.t.get b=s.objs[b.toNat]?:=by have e0:BN.z=bn 0:=rfl;show (Tr.ofList .z s.objs .nil).get b=_;have:=vn s.objs 0 (.nil:Tr Zf) b.toNat;simp_all[xI]
theorem zbH{h2:Za}:∀(l:List Zf) (i j:Nat) (o:Zf),zmJ h2 (bn i) l=true→l[j]? = some o→∃cs st,o=.cells cs st∧h2.t.get (bn (i+j))=some (.cells cs st)
 | [],i,j,o,e,hj=>by simp at hj
 |x::l,i,j,o,e,hj=>by
  cases x with
  |cells cs st=>
   unfold zmJ at e;split at e
   ·rename_i cs' st' hb;obtain⟨e1,e2⟩:=w7 e;obtain⟨e1,e3⟩:=w7 e1;cases j with
    |zero=>grind[zfK,beq_true]
    |succ j=>
     rw[zdz]at e2;obtain⟨cs2,st2,k1,k2⟩:=zbH l (i+1) j o e2 (by trivial)
     grind
   ·cases e
  |_=>cases e
theorem zaq{φ ψ:Phi}{c:Zc}(hp:xD c=true):zc φ c=zc ψ c:=by cases c<;>first|rfl|cases hp
theorem zd1{n:Nat}{c:Zc}(hp:xD c=true):wfC φ n c:=by cases c<;>first|trivial|cases hp
theorem zap{φ ψ:Phi}{v:SVal}(hp:zgH v=true):zz φ v=zz ψ v:=by
 cases v with
 |one c=>exact zaq hp
 |agg cs=>
  simp only[zz]
  congr 2
  exact YzG fun c hc=>zaq (YzF.1 hp c hc)
theorem zd0{n:Nat}{v:SVal}(hp:zgH v=true):wfS φ n v:=by
 cases v with
 |one c=>exact zd1 hp
 |agg cs=>exact fun c hc=>zd1 (YzF.1 hp c hc)
theorem zfc{φ ψ:Phi}{v:Zb}(hp:xR v=true):zj φ v=zj ψ v:=by
 cases v with
 |s v=>exact zap hp
 |tup vs=>
  simp only[zj]
  congr 2
  exact YzG fun c hc=>zap (YzF.1 hp c hc)
theorem zjV{n:Nat}{v:Zb}(hp:xR v=true):wfA φ n v:=by
 cases v with
 |s v=>exact zd0 hp
 |tup vs=>exact fun c hc=>zd0 (YzF.1 hp c hc)
def kH(P:Program)(s:Sum):Prop:=∃call,yW P call∧s.chk call=true
theorem zrF{s:Sum}(hs:kH P s){args:List Zb}(H:Zd w0 S φ h w)(hw:∀x∈args,wfA φ h.n.toNat x)(hf:s.fits args h=true):
  (∀as w,(callFunc s.g as).run P w=.ok (.enter s.g as) w)∧CallsIn (FR none) 0 P s.g (args.map (zj φ)).toArray w (Ret w0 S φ h s.res h):=by
 obtain⟨call,C,hchk⟩:=hs;obtain⟨ρ,hargs,hinj,hpair,hall⟩:=jq hf;unfold Sum.chk at hchk;split at hchk
 ·rename_i v h2 hcall;obtain⟨e1,e2⟩:=w7 hchk;obtain⟨e1,e3⟩:=w7 e1;have hv:=zhp e1;subst hv;have hn:s.heap.n.toNat=s.objs.length:=zN _;have hlt:∀b b',ρ.get b=some b'→b.toNat<s.heap.n.toNat:=by
   grind[zdi]
  have hin:∀b o,s.heap.t.get b=some o→∃b' cs cs' st,ρ.get b=some b'∧o=.cells cs st∧h.t.get b'=some (.cells cs' st)∧RCs ρ cs cs':=by
   intro b o hb;have hb':=hb;rw[zdi]at hb';obtain⟨b',hρ⟩:=zeN s.objs 0 b.toNat o hall hb';rw[Yzh,xI]at hρ
   grind
  obtain⟨hconc,hwf⟩:=zoW (φ:=φ) (n:=h.n.toNat) (m:=s.heap.n.toNat) hlt hargs hw;have HC:Zd w (fun k=>∃b b',ρ.get b=some b'∧k=(φ b').blk) (via ρ φ) s.heap w:=by
   refine⟨fun b o hb=>?_,fun b o hb=>?_,fun b o hb=>?_,fun b c o o' hb hc _ _ hh=>?_,fun b o hb _=>?_,rfl,rfl,rfl,LzB _,LzB _,fun _ _ _=>rfl,H.glob,fun b o hb _=>?_,fun b o hb _=>?_⟩
   ·grind
   ·obtain⟨b',cs,cs',st,hρ,rfl,hb',hr⟩:=hin b o hb;rw[wj hρ];exact H.okb b' _ hb'
   ·obtain⟨b',cs,cs',st,hρ,rfl,hb',hr⟩:=hin b o hb;obtain⟨arr,e,g1,g2,g3,g4⟩:=H.obj b' _ hb';refine⟨arr,e,by grind[wj],fun i c hc=>?_,by grind[wj],fun c hc=>?_⟩
    ·obtain⟨c',k1,k2⟩:=hr.2 i c hc
     grind[wj,zdD]
    ·obtain⟨i,hi⟩:=List.mem_iff_getElem?.1 hc;obtain⟨c',k1,k2⟩:=hr.2 i c hi;exact zod hlt k2 (g4 c' (Lz3 k1))
   ·obtain⟨b',cs,cs',st,hρ,rfl,hb',_⟩:=hin b o hb;obtain⟨c',ds,ds',st2,hρc,rfl,hc',_⟩:=hin c o' hc;rw[wj hρ,wj hρc]at hh;have:=H.inj b' c' _ _ hb' hc' trivial trivial hh
    grind
   ·obtain⟨b',cs,cs',st,hρ,rfl,hb',_⟩:=hin b o hb
    grind[wj]
   ·obtain⟨b',cs,cs',st,hρ,rfl,hb',_⟩:=hin b o hb;rw[wj hρ];exact H.flat b' _ hb' trivial
   ·obtain⟨b',cs,cs',st,hρ,rfl,hb',_⟩:=hin b o hb;rw[wj hρ];exact H.ng b' _ hb' trivial
  obtain⟨hcf,hcl⟩:=(C w _ _ _ w _ _ h2 HC hwf).1 s.g hcall;refine⟨hcf,?_⟩;rw[hconc];refine hcl.mono ?_
  rintro e9 w9 ⟨φ2,rfl,he,H2,_,hle⟩
  refine⟨φ,by grind[zfc],Ext.refl _ _,?_,zjV e3,LzB _⟩;have hkeep:∀k,k<w.heap.size→(¬∃b b',ρ.get b=some b'∧k=(φ b').blk)→w9.heap[k]? = w.heap[k]?:=fun k hk hS=>H2.kept k hk hS;refine⟨H.keys,H.okb,fun b o hb=>?_,H.inj,H.own,H2.os.trans H.os,H2.tape.trans H.tape,H2.output.trans H.output,Yzp H.size H2.size,Yzp H.drawn H2.drawn,fun k hk hS=>?_,H2.glob,H.flat,H.ng⟩
  ·by_cases hl:live o
   ·by_cases hm:∃c c',ρ.get c=some c'∧(φ b).blk=(φ c').blk
    ·obtain⟨c,c',hρ,hblk⟩:=hm;obtain⟨cs,cs',st,k1,k2,k3⟩:=hpair c c' hρ;have:=H.inj b c' _ _ hb k2 hl trivial hblk;subst this;cases hb.symm.trans k2;have k1':=k1;rw[zdi]at k1';obtain⟨cs2,st2,q1,q2⟩:=zbH s.objs 0 c.toNat _ e2 k1';rw[Yzh,xI]at q2;cases q1;obtain⟨arr,e,g1,g2,g3,g4⟩:=H2.obj c _ q2;have ec:φ2 c=φ b:=(he c (hlt _ _ hρ)).trans (wj hρ);obtain⟨_,_,_,_,_,o4⟩:=H.obj b _ hb;refine⟨arr,e,by grind,fun i x hx=>?_,by grind,o4⟩;have hi:i<cs.length:=by
      have:=(Lz0.1 hx).1;have:=k3.1;omega
     obtain⟨x',j1,j2⟩:=k3.2 i cs[i] (Lz5 hi);rw[hx]at j1;cases j1;have:=g2 i cs[i] (Lz5 hi);rw[ec]at this;rw[this,zdD j2];have hwc:wfC (via ρ φ) s.heap.n.toNat cs[i]:=zod hlt j2 (o4 x (Lz3 hx))
     grind[vE]
    ·exact(H.obj b o hb).world fun _=>hkeep _ ((H.obj b o hb).there hl) (fun⟨c,c',h1,h2⟩=>hm ⟨c,c',h1,h2⟩)
   ·exact(H.obj b o hb).world fun hh=>absurd hh hl
  ·by_cases hm:∃c c',ρ.get c=some c'∧k=(φ c').blk
   ·obtain⟨c,c',hρ,rfl⟩:=hm;obtain⟨cs,cs',st,_,k2,_⟩:=hpair c c' hρ;rcases H.own c' _ k2 trivial with h1|h1<;>grind
   ·rw[hkeep k (Lz9 hk H.size) hm];exact H.kept k hk hS
 trivial
theorem zb5{g:Nat}{args:List Zb}{v:Zb}:∀(l:List Sum),xk g args h l=some v→∃s∈l,s.g=g∧s.fits args h=true∧s.res=v
 | [],e=>by cases e
 |s::l,e=>by
  unfold xk at e;cases hq:(Nat.beq g s.g&&s.fits args h) with
  |true=>simp_all
  |false=>
   rw[hq]at e;obtain⟨s',k1,k2⟩:=zb5 l e
   grind
theorem zgf{sums:List Sum}(hs:∀s∈sums,kH P s){call:zb}(C:yW P call):yW P (zcm sums call):=by
 intro w0 S φ h w args v h2 H hw;refine⟨fun g e=>?_,fun l e=>(C w0 S φ h w args v h2 H hw).2 l e⟩;unfold zcm at e;simp only at e;split at e
 ·rename_i v' hf;cases e;obtain⟨s,h1,rfl,h3,rfl⟩:=zb5 sums hf
  grind[zrF]
 ·exact(C w0 S φ h w args v h2 H hw).1 g e
theorem zhD{fs:Nat→Option Zj}(hfs:zra P fs){sums:List Sum}(hs:∀s∈sums,kH P s):∀n,yW P (zfJ (zH P) fs sums n)
 |0=>zfm
 |n+1=>zgf hs (zf7 (zhD hfs hs n) hfs n)
theorem zmq{call:zb}(C:yW P call){f:Nat}{c:Zc}{h2:Za}(e:call (.inl f) [] ⟨.z,.nil⟩=some (.s (.one c),h2))(w:World)(hG:GOk w):
  (∀as w,(callFunc f as).run P w=.ok (.enter f as) w)∧CallsIn (FR none) 0 P f #[] w (fun e w2=>∃φ,e=.returned (zc φ c)∧Below w.heap.size w w2):=by
 have H:Zd w (fun _=>False) (fun _=>⟨0,0,0,true,none⟩) ⟨.z,.nil⟩ w:=by
  have hnil:∀b,(Tr.nil:Tr Zf).get b=none:=by simp
  refine⟨?_,?_,?_,?_,?_,rfl,rfl,rfl,LzB _,LzB _,fun _ _ _=>rfl,hG,?_,?_⟩
  ·simp
  ·simp
  ·simp
  ·simp
  ·simp
  ·simp
  ·simp
 have:=(C w _ _ _ w [] _ h2 H (fun x hx=>by cases hx)).1 f e;refine⟨this.1,this.2.mono ?_⟩
 rintro e9 w9 ⟨φ2,rfl,he,H2,_,_⟩
 exact⟨φ2,rfl,⟨H2.os,H2.tape,H2.output,H2.size,fun k hk=>H2.kept k hk (fun hh=>hh)⟩⟩
end
end Go.CE
end
section
namespace Go.CE
open Go.RowKit
noncomputable section
def mR(m:Mt):Zb→Zb→Option Mt
 | .s v,.s v'=>mS m v v'
 | .tup vs,.tup vs'=>mA (vs.map .s) (vs'.map .s) m
 |_,_=>none
def sC(ρ:Tr BN):Zc→Option Zc
 | .ptr b o=>match ρ.get b with|some b'=>some (.ptr b' o)|none=>none
 | .slc b o l k e=>match ρ.get b with|some b'=>some (.slc b' o l k e)|none=>none
 |c=>bif xD c then some c else none
def sCs(ρ:Tr BN):List Zc→Option (List Zc)
 | []=>some []
 |c::cs=>
  match sC ρ c with
  |some c'=>match sCs ρ cs with|some cs'=>some (c'::cs')|none=>none
  |none=>none
def sS(ρ:Tr BN):SVal→Option SVal
 | .one c=>match sC ρ c with|some c'=>some (.one c')|none=>none
 | .agg cs=>match sCs ρ cs with|some cs'=>some (.agg cs')|none=>none
def sSs(ρ:Tr BN):List SVal→Option (List SVal)
 | []=>some []
 |v::vs=>
  match sS ρ v with
  |some v'=>match sSs ρ vs with|some vs'=>some (v'::vs')|none=>none
  |none=>none
def sA(ρ:Tr BN):Zb→Option Zb
 | .s v=>match sS ρ v with|some v'=>some (.s v')|none=>none
 | .tup vs=>match sSs ρ vs with|some vs'=>some (.tup vs')|none=>none
end
def RR(ρ:Tr BN):Zb→Zb→Prop
 | .s v,.s v'=>RS ρ v v'
 | .tup vs,.tup vs'=>RAs ρ (vs.map .s) (vs'.map .s)
 |_,_=>False
end Go.CE
end
section
namespace Go.CE
open Go.RowKit
noncomputable section
structure Srt where
 f:List Nat
 st:Nat
def ltZ:List Int→List Int→Bool
 |a::as,b::bs=>if a<b then true else if b<a then false else ltZ as bs
 |_,_=>false
def leZ(a b:List Int):Bool:=!ltZ b a
def inZ(r:List Int):Bool:=r.all fun a=>decide (-2305843009213693952≤a)&&decide (a≤2305843009213693952)
def ztl(k:Nat)(r:List Int):Prop:=r.length=k∧inZ r=true
def zbq(l:List (List Int)):List (List Int):=l.mergeSort leZ
def wA(l:List (List Int)):List Zc:=l.flatten.map (Zc.int .i64)
open Classical in
def zbC(t:Srt):List Zb→Za→Res
 | [.s (.one .nils),.s (.one (.fn f []))],h=>if f∈t.f then some (.tup [],h) else none
 | [.s (.one (.slc b off len _ _)),.s (.one (.fn f []))],h=>
  if H:f∈t.f∧off=0∧∃l:List (List Int),l.length=len∧(∀r∈l,ztl t.st r)∧h.t.get b=some (.cells (wA l) t.st)∧len<4611686018427387904 then
   some (.tup [],h.put b (.cells (wA (zbq (Classical.choose H.2.2))) t.st))
  else none
 |_,_=>none
def zcl(srt:Nat→Option Srt)(call:zb):zb
 | .inl g,args,h=>
  match srt g with
  |some t=>zbC t args h
  |none=>call (.inl g) args h
 | .inr l,args,h=>call (.inr l) args h
def zM(cc:Nat→Code→yX)(fs:Nat→Option Zj)(sums:List Sum)(srt:Nat→Option Srt)(n:Nat):zb:=
 Nat.rec (motive:=fun _=>zb) (fun _ _ _=>none) (fun f ih=>zcl srt (zcm sums (za1 cc fs ih f))) n
end
theorem zgy{st:Nat}:∀{l l':List (List Int)},l.length=l'.length→(∀r∈l,r.length=st)→(∀r∈l',r.length=st)→l.flatten=l'.flatten→l=l'
 | [],[],_,_,_,_=>rfl
 |r::l,r'::l',hl,h,h',e=>by rw[List.flatten_cons,List.flatten_cons]at e;have hr:r.length=r'.length:=(h r (Yzj ..)).trans (h' r' (Yzj ..)).symm;obtain⟨e1,e2⟩:=List.append_inj e hr;rw[e1,zgy (by grind) (fun x hx=>h x (Yzi _ hx)) (fun x hx=>h' x (Yzi _ hx)) e2]
 | [],_::_,hl,_,_,_=>by simp at hl
 |_::_,[],hl,_,_,_=>by simp at hl
theorem int_inj:∀{l l':List Int},l.map (Zc.int .i64)=l'.map (Zc.int .i64)→l=l'
 | [],[],_=>rfl
 |a::l,b::l',e=>by simp only[Yzv,List.cons.injEq,Zc.int.injEq,true_and]at e;rw[e.1,int_inj e.2]
 | [],_::_,e=>by simp at e
 |_::_,[],e=>by simp at e
theorem zbB{t:Srt}{f:Nat}(hf:f∈t.f)(h:Za):zbC t [.s (.one .nils),.s (.one (.fn f []))] h=some (.tup [],h):=Yzd hf
theorem zh2{t:Srt}{f:Nat}(hf:f∈t.f){b:BN}{len cap:Nat}{ex:Bool}{h:Za}{l:List (List Int)}(h1:l.length=len)(h2:∀r∈l,ztl t.st r)(h3:h.t.get b=some (.cells (wA l) t.st))(h4:len<4611686018427387904):
  zbC t [.s (.one (.slc b 0 len cap ex)),.s (.one (.fn f []))] h=some (.tup [],h.put b (.cells (wA (zbq l)) t.st)):=by
 have H:f∈t.f∧0=0∧∃l:List (List Int),l.length=len∧(∀r∈l,ztl t.st r)∧h.t.get b=some (.cells (wA l) t.st)∧len<4611686018427387904:=⟨hf,rfl,l,h1,h2,h3,h4⟩;unfold zbC;simp only;rw[dif_pos H];obtain⟨k1,k2,k3,_⟩:=Classical.choose_spec H.2.2;have e:Classical.choose H.2.2=l:=zgy (k1.trans h1.symm) (fun r hr=>(k2 r hr).1) (fun r hr=>(h2 r hr).1) (int_inj (Zf.cells.inj (Option.some.inj (h3.symm.trans k3))).1.symm);rw[e]
def zob(P:Program)(g:Nat)(t:Srt):Prop:=
 ∀(w0:World) (S:Nat→Prop) (φ:Phi) (h:Za) (w:World) (args:List Zb) (v:Zb) (h2:Za),Zd w0 S φ h w→(∀x∈args,wfA φ h.n.toNat x)→zbC t args h=some (v,h2)→
  (∀as w,(callFunc g as).run P w=.ok (.enter g as) w)∧CallsIn (FR none) 0 P g (args.map (zj φ)).toArray w (Ret w0 S φ h v h2)
theorem zms{P:Program}{srt:Nat→Option Srt}(hs:∀g t,srt g=some t→zob P g t){call:zb}(C:yW P call):yW P (zcl srt call):=by
 intro w0 S φ h w args v h2 H hw;refine⟨fun g e=>?_,fun l e=>(C w0 S φ h w args v h2 H hw).2 l e⟩;unfold zcl at e;simp only at e;split at e
 ·rename_i t ht;exact hs g t ht w0 S φ h w args v h2 H hw e
 ·exact(C w0 S φ h w args v h2 H hw).1 g e
theorem zhC{P:Program}{fs:Nat→Option Zj}(hfs:zra P fs){sums:List Sum}(hs:∀s∈sums,kH P s){srt:Nat→Option Srt}(ht:∀g t,srt g=some t→zob P g t):∀n,yW P (zM (zH P) fs sums srt n)
 |0=>zfm
 |n+1=>zms ht (zgf hs (zf7 (zhC hfs hs ht n) hfs n))
def zur:Nat→Option Srt:=fun _=>none
end Go.CE
end
section
namespace Go.CE
noncomputable section
abbrev Fr:=Nat→Zb
def xe(t:Tr Zb):Fr:=fun i=>zhP (bn i) t
def coK(r:Fr):Operand→Option Opd
 | .tmp t=>some (zo (r t))
 | .const v=>match zl3 v with|some s=>some (zo (.s s))|none=>none
 | .func f=>some (zo (.s (.one (.fn f []))))
 | .global g=>match kV g with|some _=>some (zo (.s (.one (.gptr g 0))))|none=>none
def jg(co:Operand→Option Opd):List Operand→Option (List Opd)
 | []=>some []
 |x::xs=>
  match co x,jg co xs with
  |some y,some ys=>some (y::ys)
  |_,_=>none
def qh(co:Operand→Option Opd):Option Operand→Option (Option Opd)
 |none=>some none
 |some x=>match co x with|some y=>some (some y)|none=>none
section
variable (P:Program)
def xl(co:Operand→Option Opd)(fs:Array Field):List (Nat×Operand)→Option (List (Nat×Nat×Opd))
 | []=>some []
 |(i,x)::r=>
  match fs[i]?,co x,xl co fs r with
  |some f,some y,some rest=>
   match P.info? f.type with
   |some info=>some ((f.offset,info.size,y)::rest)
   |none=>none
  |_,_,_=>none
def xq(co:Operand→Option Opd)(size:Nat):List (Nat×Operand)→Option (List (Nat×Nat×Opd))
 | []=>some []
 |(i,x)::r=>
  match co x,xq co size r with
  |some y,some rest=>some ((i*size,size,y)::rest)
  |_,_=>none
def yG(co:Operand→Option Opd)(o:Op):zbw:=zx <| match o with
 | .move x | .assign x=>(co x).map zgN
 | .pick c a b=>do pure (uf (←co c) (←co a) (←co b))
 | .alloc t=>bif jZ P t then do pure (qW t (←zU P t).cells) else do pure (zaC (←zU P t).cells)
 | .box _ x=>do pure (zcV (←co x))
 | .build t parts=>
  match P.underlying t,zU P t with
  |some (.struct fs),some z=>bif jy P fs.toList then do pure (ww z.cells (←xl P co fs parts.toList)) else none
  |some (.array _ e),some z=>
   match P.info? e with
   |some i=>do pure (ww z.cells (←xq co i.size parts.toList))
   |none=>none
  |_,_=>none
 | .buildSlice t len parts=>
  match P.underlying t with
  |some (.slice e)=>
   match P.info? e with
   |some i=>
    bif Nat.ble (len*i.size) 16777216 then
     match (bif Nat.beq (len*i.size) 0 then some [] else(zU P e).map SVal.cells) with
     |some zs=>bif Nat.beq (len*i.size) 0||Nat.beq zs.length i.size then do pure (x9 i.size len (wU zs len) (←xq co i.size parts.toList)) else none
     |none=>none
    else none
   |none=>none
  |_=>none
 | .load t x=>do pure (ui (←xi P t) (←co x))
 | .store t x v=>do pure (kO (←P.info? t).size (←co x) (←co v))
 | .nilCheck x=>do pure (wp (←co x))
 | .binOp op t x y _=>
  match P.underlying t with
  |some (.int _)=>
   match op with
   | .shl=>do pure (xE zfH (←co x) (←co y))
   | .shr=>do pure (xE zfG (←co x) (←co y))
   |op=>do pure (qI (vt op) (←co x) (←co y))
  |some .string=>do pure (zaw op (←co x) (←co y))
  |some (.slice _)=>
   match op with
   | .eql=>do pure (vh false (←co x) (←co y))
   | .neq=>do pure (vh true (←co x) (←co y))
   |_=>none
  |some (.pointer e)=>
   bif xj P e then
   match op with
   | .eql=>do pure (wo false (←co x) (←co y))
   | .neq=>do pure (wo true (←co x) (←co y))
   |_=>none
   else none
  |some (.func _ _ _)=>
   match op with
   | .eql=>do pure (ug false (←co x) (←co y))
   | .neq=>do pure (ug true (←co x) (←co y))
   |_=>none
  |some _=>
   bif P.eqGuardType P.depth t then none else
   match op with
   | .eql=>do pure (zgO (←vH P t) false (←co x) (←co y))
   | .neq=>do pure (zgO (←vH P t) true (←co x) (←co y))
   |_=>none
  |none=>none
 | .unOp .not _ x=>do pure (zax (←co x))
 | .unOp .neg _ x=>do pure (zay (←co x))
 | .convert s d x=>
  match P.underlying s,P.underlying d with
  |some (.int _),some (.int k)=>do pure (um k (←co x))
  |some .string,some (.slice e)=>bif yi P e then do pure (zik (←co x)) else none
  |some (.slice e),some .string=>bif yi P e then do pure (jU (←co x)) else none
  |some (.pointer e),some .unsafePointer=>bif xj P e then do pure (zcU (←co x)) else none
  |some .unsafePointer,some (.pointer u)=>bif ziA P u then do pure (zcT u (P.cellsOf u) (←co x)) else none
  |_,_=>none
 | .makeFunc (.func f) first captured=>bif first.isEmpty then do pure (uh f (←jg co captured.toList)) else none
 | .makeMap _ none=>some zaA
 | .makeSlice t l c=>
  match P.underlying t with
  |some (.slice e)=>
   match P.info? e,zU P e with
   |some i,some z=>bif Nat.beq z.cells.length i.size && !Nat.beq i.size 0 then do pure (xc i.size z.cells i.bytes (←co l) (←co c)) else none
   |_,_=>none
  |_=>none
 | .slice t x lo hi mx=>
  match P.underlying t with
  |some (.slice e)=>
   match P.info? e with
   |some i=>bif mx.isSome && !hi.isSome then none else do pure (wn i.size (←co x) (←qh co lo) (←qh co hi) (←qh co mx))
   |none=>none
  |some (.array n e)=>
   match P.info? e with
   |some i=>bif mx.isSome && !hi.isSome then none else do pure (x8 n i.size (←co x) (←qh co lo) (←qh co hi) (←qh co mx))
   |none=>none
  |some .string=>bif mx.isSome then none else do pure (y7 (←co x) (←qh co lo) (←qh co hi))
  |_=>none
 | .fieldAddr t x f=>
  match P.underlying t with
  |some (.struct fs)=>
   match fs[f]? with
   |some fd=>
    match P.info? fd.type with
    |some i=>bif Nat.beq i.size 0 then none else do pure (ul (←co x) fd.offset)
    |none=>none
   |none=>none
  |_=>none
 | .field t x f=>
  match P.underlying t with
  |some (.struct fs)=>
   match fs[f]? with
   |some fd=>do pure (wv (←co x) fd.offset (←xi P fd.type))
   |none=>none
  |_=>none
 | .indexAddr t x i=>
  match P.underlying t with
  |some (.slice e)=>
   match P.info? e with
   |some info=>do pure (zaB info.size (←co x) (←co i))
   |none=>none
  |some (.array len e)=>
   match P.info? e with
   |some info=>do pure (wt len info.size (←co x) (←co i))
   |none=>none
  |_=>none
 | .index t x i=>
  match P.underlying t with
  |some (.array len e)=>
   match P.info? e with
   |some info=>do pure (wu len info.size (←xi P e) (←co x) (←co i))
   |none=>none
  |some .string=>do pure (wq (←co x) (←co i))
  |_=>none
 | .lookup t m k ok=>
  match P.underlying t with
  |some (.map key e)=>do pure (xL (←vH P key) (←zU P e) ok (←co m) (←co k))
  |_=>none
 | .mapUpdate t m k v | .insert t m k v=>
  match P.underlying t with
  |some (.map key _)=>do pure (zaz (←vH P key) (←co m) (←co k) (←co v))
  |_=>none
 | .mapEntry t m k=>
  match P.underlying t with
  |some (.map key e)=>do pure (jS (←vH P key) (←zU P e) (←co m) (←co k))
  |_=>none
 | .entryStore _ m s v=>do pure (jT (←co m) (←co s) (←co v))
 | .extract x i=>do pure (yZ (←co x) i)
 | .call c=>
  match c.callee with
  | .value f=>bif Nat.beq (jr P f) 0 then do pure (zbR (←co f) (←jg co c.args.toList)) else ztc co (jr P f) c.args.toList
  | .builtin .unsafeSliceData=>
   match c.args.toList with
   | [x]=>do pure (wm (←co x))
   |_=>none
  | .builtin .unsafeString=>
   match c.argTypes.toList,c.args.toList with
   | [pt,_],[x,n]=>
    match P.underlying pt with
    |some (.pointer e)=>bif yi P e&&Nat.beq (P.cellsOf e) 1 then do pure (zd8 e (←co x) (←co n)) else none
    |_=>none
   |_,_=>none
  | .builtin .cap=>
   match c.argTypes[0]?,c.args[0]? with
   |some t,some x=>
    match P.underlying t with
    |some (.slice _)=>do pure (zj5 (←co x))
    |_=>none
   |_,_=>none
  | .builtin .copy=>
   match c.argTypes.toList,c.args.toList with
   | [t,t2],[d,s]=>
    match P.underlying t,P.underlying t2 with
    |some (.slice e),some (.slice _)=>
     match P.info? e with
     |some i=>bif Nat.beq i.size 0 then none else do pure (zd9 i.size (←co d) (←co s))
     |none=>none
    |_,_=>none
   |_,_=>none
  | .builtin .len=>
   match c.argTypes[0]?,c.args[0]? with
   |some t,some x=>
    match P.underlying t with
    |some .string=>do pure (uj (←co x))
    |some (.slice _)=>do pure (uk (←co x))
    |some (.map _ _)=>do pure (jd (←co x))
    |some (.array n _)=>some (zgN (zo (.s (.one (.int .i64 (.ofNat n))))))
    |_=>none
   |_,_=>none
  | .builtin .append=>
   match c.argTypes.toList,c.args.toList with
   | [t,t2],[s,x]=>
    match P.underlying t with
    |some (.slice e)=>
     match P.info? e,zU P e with
     |some i,some z=>
      bif Nat.beq z.cells.length i.size && !Nat.beq i.size 0 then
       match P.underlying t2 with
       |some (.slice _)=>bif yi P e&&Nat.beq i.size 1 then do pure (uo e i.bytes (←co s) (←co x)) else do pure (y8 false i.size i.bytes (←co s) (←co x))
       |some .string=>bif Nat.beq i.size 1 then do pure (un e i.bytes (←co s) (←co x)) else none
       |_=>none
      else none
     |_,_=>none
    |_=>none
   |_,_=>none
  | .builtin .clear=>
   match c.argTypes[0]?,c.args[0]? with
   |some t,some x=>
    match P.underlying t with
    |some (.slice e)=>
     match P.info? e,zU P e with
     |some i,some z=>bif Nat.beq z.cells.length i.size && !Nat.beq i.size 0 then do pure (kP i.size z.cells (←co x)) else none
     |_,_=>none
    |_=>none
   |_,_=>none
  | .builtin .max=>
   match jg co c.args.toList with
   |some (x::xs)=>some (yE true x xs)
   |_=>none
  | .builtin .min=>
   match jg co c.args.toList with
   |some (x::xs)=>some (yE false x xs)
   |_=>none
  |_=>none
 |_=>none
end
end
section
variable {P:Program} {t:Tr Zb}
def OR(t:Tr Zb)(a b:Option Opd):Prop:=(a=none∧b=none)∨∃x y,a=some x∧b=some y∧x .nil=y t
theorem zA(x:Operand):OR t (coK (xe t) x) (zG x):=by
 cases x with
 |tmp i=>exact .inr ⟨_,_,rfl,rfl,rfl⟩
 |const v=>
  simp only[coK,zG];cases zl3 v with
  |none=>exact .inl ⟨rfl,rfl⟩
  |some s=>exact .inr ⟨_,_,rfl,rfl,rfl⟩
 |func f=>exact .inr ⟨_,_,rfl,rfl,rfl⟩
 |global g=>
  simp only[coK,zG];cases kV g with
  |none=>exact .inl ⟨rfl,rfl⟩
  |some q=>exact .inr ⟨_,_,rfl,rfl,rfl⟩
def LR(t:Tr Zb):List Opd→List Opd→Prop
 | [],[]=>True
 |x::xs,y::ys=>x .nil=y t∧LR t xs ys
 |_,_=>False
theorem za8:∀l:List Operand,(jg (coK (xe t)) l=none∧wZ l=none)∨∃xs ys,jg (coK (xe t)) l=some xs∧wZ l=some ys∧LR t xs ys
 | []=>.inr ⟨[],[],rfl,rfl,trivial⟩
 |x::l=>by
  simp only[jg,wZ];rcases zA (t:=t) x with⟨h1,h2⟩|⟨a,b,h1,h2,h3⟩
  ·grind
  ·rw[h1,h2];rcases za8 l with⟨k1,k2⟩|⟨as,bs,k1,k2,k3⟩
   ·grind
   ·rw[k1,k2];exact .inr ⟨_,_,rfl,rfl,h3,k3⟩
def PR(t:Tr Zb):List (Nat×Nat×Opd)→List (Nat×Nat×Opd)→Prop
 | [],[]=>True
 |x::xs,y::ys=>x.1=y.1∧x.2.1=y.2.1∧x.2.2 .nil=y.2.2 t∧PR t xs ys
 |_,_=>False
theorem je(fs:Array Field):∀l:List (Nat×Operand),(xl P (coK (xe t)) fs l=none∧xa P fs l=none)∨∃xs ys,xl P (coK (xe t)) fs l=some xs∧xa P fs l=some ys∧PR t xs ys
 | []=>.inr ⟨[],[],rfl,rfl,trivial⟩
 |(i,x)::l=>by
  simp only[xl,xa];cases fs[i]? with
  |none=>simp
  |some f=>
   rcases zA (t:=t) x with⟨h1,h2⟩|⟨a,b,h1,h2,h3⟩
   ·grind
   ·rw[h1,h2];rcases je fs l with⟨k1,k2⟩|⟨as,bs,k1,k2,k3⟩
    ·grind
    ·rw[k1,k2];simp only;cases P.info? f.type with
     |none=>simp
     |some i=>exact .inr ⟨_,_,rfl,rfl,rfl,rfl,h3,k3⟩
theorem vS(n:Nat):∀l:List (Nat×Operand),(xq (coK (xe t)) n l=none∧yP n l=none)∨∃xs ys,xq (coK (xe t)) n l=some xs∧yP n l=some ys∧PR t xs ys
 | []=>.inr ⟨[],[],rfl,rfl,trivial⟩
 |(i,x)::l=>by
  simp only[xq,yP];rcases zA (t:=t) x with⟨h1,h2⟩|⟨a,b,h1,h2,h3⟩
  ·grind
  ·rw[h1,h2];rcases vS n l with⟨k1,k2⟩|⟨as,bs,k1,k2,k3⟩
   ·grind
   ·rw[k1,k2];exact .inr ⟨_,_,rfl,rfl,rfl,rfl,h3,k3⟩
theorem kj:∀(xs ys:List (Nat×Nat×Opd)) (cs:List Zc),PR t xs ys→km .nil xs cs=km t ys cs
 | [],[],_,_=>rfl
 |(a,b,x)::xs,(a',b',y)::ys,cs,⟨h1,h2,h3,h4⟩=>by
  simp only at h1 h2 h3;subst h1 h2;simp only[km];rw[h3];cases y t with
  |tup _=>rfl
  |s v=>
   simp only;cases ut v.cells b with
   |false=>rfl
   |true=>
    simp only[Yza];cases putAt v.cells cs a with
    |none=>rfl
    |some cs'=>exact kj xs ys cs' h4
theorem zkC:∀(xs ys:List Opd),LR t xs ys→xs.map (fun x=>x .nil)=ys.map (fun x=>x t)
 | [],[],_=>rfl
 |x::xs,y::ys,⟨h1,h2⟩=>by rw[Yzv,Yzv,h1,zkC xs ys h2]
theorem zgF:∀(xs ys:List Opd),LR t xs ys→zjQ .nil xs=zjQ t ys
 | [],[],_=>rfl
 |x::xs,y::ys,⟨h1,h2⟩=>by simp only[zjQ];rw[h1,zgF xs ys h2]
theorem zcZ(m:Bool)(k:IntKind):∀(xs ys:List Opd) (z:Int),LR t xs ys→zmo m k .nil xs z=zmo m k t ys z
 | [],[],_,_=>rfl
 |x::xs,y::ys,z,⟨h1,h2⟩=>by
  simp only[zmo];rw[h1];split
  ·rename_i k' y' _;cases eqK k k' with
   |false=>rfl
   |true=>exact zcZ m k xs ys _ h2
  ·rfl
def QR(t:Tr Zb)(a b:Option Opd):Prop:=(a=none∧b=none)∨∃x y,a=some x∧b=some y∧x .nil=y t
theorem QR.bnd{a b:Option Opd}(h:QR t a b)(d y:Nat):bnd .nil a d y=CE.bnd t b d y:=by
 rcases h with⟨rfl,rfl⟩|⟨x,z,rfl,rfl,h⟩
 ·rfl
 ·grind[CE.bnd]
theorem ue(x:Option Operand):(qh (coK (xe t)) x=none∧jB x=none)∨∃a b,qh (coK (xe t)) x=some a∧jB x=some b∧QR t a b:=by
 cases x with
 |none=>exact .inr ⟨none,none,rfl,rfl,.inl ⟨rfl,rfl⟩⟩
 |some x=>
  simp only[qh,jB];rcases zA (t:=t) x with⟨h1,h2⟩|⟨a,b,h1,h2,h3⟩
  ·grind
  ·rw[h1,h2];exact .inr ⟨_,_,rfl,rfl,.inr ⟨_,_,rfl,rfl,h3⟩⟩
theorem ze8{lo hi mx lo' hi' mx':Option Opd}(h1:QR t lo lo')(h2:QR t hi hi')(h3:QR t mx mx')(st:Nat)(h:Za)(b:BN)(off len cap:Nat):
  yN st lo hi mx .nil h b off len cap=yN st lo' hi' mx' t h b off len cap:=by
 have e1:=h1.bnd;have e2:=h2.bnd;have e3:=h3.bnd;rcases h3 with⟨rfl,rfl⟩|⟨x,z,rfl,rfl,h⟩
 ·grind[yN]
 ·rcases h2 with⟨rfl,rfl⟩|⟨x',z',rfl,rfl,h'⟩
  ·grind[yN]
  ·grind[yN]
variable (call:zb) (h:Za)
theorem zl6(o:Op):yG P (coK (xe t)) o call .nil h=cOp P o call t h:=by
 cases o with
 |move x=>rcases zA (t:=t) x with⟨h1,h2⟩|⟨a,b,h1,h2,h3⟩<;>simp only[yG,cOp,zx,Option.map_none,YzE,zgN,yA, *]
 |assign x=>rcases zA (t:=t) x with⟨h1,h2⟩|⟨a,b,h1,h2,h3⟩<;>simp only[yG,cOp,zx,Option.map_none,YzE,zgN,yA, *]
 |pick c a b=>rcases zA (t:=t) c with⟨h1c,h2c⟩|⟨oac,obc,h1c,h2c,h3c⟩<;>rcases zA (t:=t) a with⟨h1a,h2a⟩|⟨oaa,oba,h1a,h2a,h3a⟩<;>rcases zA (t:=t) b with⟨h1b,h2b⟩|⟨oab,obb,h1b,h2b,h3b⟩<;>simp[yG,cOp,zx,yA,uf, *]
 |alloc ty=>simp only[yG,cOp];cases jZ P ty<;>cases zU P ty<;>rfl
 |box ty x=>rcases zA (t:=t) x with⟨h1,h2⟩|⟨a,b,h1,h2,h3⟩<;>simp[yG,cOp,zx,yA,zcV, *]
 |build ty parts=>
  simp only[yG,cOp];cases P.underlying ty with
  |none=>rfl
  |some u=>
   cases zU P ty with
   |none=>cases u<;>rfl
   |some z=>
    cases u with
    |struct fs=>
     simp only;cases jy P fs.toList with
     |false=>rfl
     |true=>
      rcases je (P:=P) (t:=t) fs parts.toList with⟨h1,h2⟩|⟨xs,ys,h1,h2,h3⟩
      ·simp only[Yza,h1,h2];rfl
      ·simp only[Yza,h1,h2,YzC,YzB,YzN,zx,ww,kj _ _ _ h3]
    |array n e=>
     simp only;cases P.info? e with
     |none=>rfl
     |some i=>
      rcases vS (t:=t) i.size parts.toList with⟨h1,h2⟩|⟨xs,ys,h1,h2,h3⟩
      ·simp only[h1,h2];rfl
      ·simp only[h1,h2,YzC,YzB,YzN,zx,ww,kj _ _ _ h3]
    |_=>rfl
 |buildSlice ty len parts=>
  simp only[yG,cOp];cases P.underlying ty with
  |none=>rfl
  |some u=>
   cases u with
   |slice e=>
    simp only;cases P.info? e with
    |none=>rfl
    |some i=>
     simp only;cases Nat.ble (len*i.size) 16777216 with
     |false=>rfl
     |true=>
      simp only[Yza];generalize (bif Nat.beq (len*i.size) 0 then some [] else(zU P e).map SVal.cells)=q;cases q with
      |none=>rfl
      |some zs=>
       simp only;generalize (Nat.beq (len*i.size) 0||Nat.beq zs.length i.size)=q2;cases q2 with
       |false=>rfl
       |true=>
        rcases vS (t:=t) i.size parts.toList with⟨h1,h2⟩|⟨xs,ys,h1,h2,h3⟩
        ·simp only[Yza,h1,h2];rfl
        ·simp only[Yza,h1,h2,YzC,YzB,YzN,zx,x9,kj _ _ _ h3]
   |_=>rfl
 |load ty x=>
  simp only[yG,cOp];cases xi P ty with
  |none=>rfl
  |some n=>rcases zA (t:=t) x with⟨h1,h2⟩|⟨a,b,h1,h2,h3⟩<;>simp[zx,yA,ui, *]
 |store ty x v=>
  simp only[yG,cOp];cases P.info? ty with
  |none=>rfl
  |some n=>rcases zA (t:=t) x with⟨h1x,h2x⟩|⟨oax,obx,h1x,h2x,h3x⟩<;>rcases zA (t:=t) v with⟨h1v,h2v⟩|⟨oav,obv,h1v,h2v,h3v⟩<;>simp[zx,yA,kO, *]
 |nilCheck x=>rcases zA (t:=t) x with⟨h1,h2⟩|⟨a,b,h1,h2,h3⟩<;>simp[yG,cOp,zx,yA,wp, *]
 |binOp op ty x y ty2=>
  simp only[yG,cOp];cases P.underlying ty with
  |none=>rfl
  |some u=>
   by_cases hu:∃te,u=.pointer te
   ·obtain⟨te,rfl⟩:=hu;simp only;cases xj P te with
    |false=>rfl
    |true=>rcases zA (t:=t) x with⟨h1x,h2x⟩|⟨oax,obx,h1x,h2x,h3x⟩<;>rcases zA (t:=t) y with⟨h1y,h2y⟩|⟨oay,oby,h1y,h2y,h3y⟩<;>cases op<;>first|rfl|simp[zx,yA,wo, *]
   ·rcases zA (t:=t) x with⟨h1x,h2x⟩|⟨oax,obx,h1x,h2x,h3x⟩<;>rcases zA (t:=t) y with⟨h1y,h2y⟩|⟨oay,oby,h1y,h2y,h3y⟩<;>simp only[h1x,h2x,h1y,h2y]
    all_goals (cases u<;>first|rfl|(exfalso;exact hu ⟨_,rfl⟩)|skip)
    all_goals (clear hu)
    all_goals (try generalize P.eqGuardType P.depth ty=q)
    all_goals (try generalize vH P ty=q2)
    all_goals (cases op<;>first|rfl|simp only[YzC,YzB,Option.bind_none,YzN,zx,qI,xE,zaw,vh,ug, *])
    all_goals (cases q<;>first|rfl|skip)
    all_goals (cases q2<;>first|rfl|simp only[Yzb,YzB,zgO, *])
 |unOp op ty x=>cases op<;>first|rfl|(rcases zA (t:=t) x with⟨h1,h2⟩|⟨a,b,h1,h2,h3⟩<;>simp[yG,cOp,zx,yA,zax,zay, *])
 |convert s d x=>
  simp only[yG,cOp];cases P.underlying s with
  |none=>rfl
  |some u=>
   cases P.underlying d with
   |none=>cases u<;>rfl
   |some u2=>
    cases u<;>first|rfl|skip
    all_goals (cases u2<;>first|rfl|skip)
    case string.slice el=>cases hb:yi P el<;>rcases zA (t:=t) x with⟨h1,h2⟩|⟨a,b,h1,h2,h3⟩<;>simp[zx,yA,zik, *]
    case slice.string el=>cases hb:yi P el<;>rcases zA (t:=t) x with⟨h1,h2⟩|⟨a,b,h1,h2,h3⟩<;>simp[zx,yA,jU, *]
    case pointer.unsafePointer el=>cases hb:xj P el<;>rcases zA (t:=t) x with⟨h1,h2⟩|⟨a,b,h1,h2,h3⟩<;>simp[zx,yA,zcU, *]
    case unsafePointer.pointer el=>cases hb:ziA P el<;>rcases zA (t:=t) x with⟨h1,h2⟩|⟨a,b,h1,h2,h3⟩<;>simp[zx,yA,zcT, *]
    all_goals (rcases zA (t:=t) x with⟨h1,h2⟩|⟨a,b,h1,h2,h3⟩<;>simp[zx,yA,um, *])
 |makeFunc fn first captured=>
  cases fn<;>first|rfl|skip
  simp only[yG,cOp];cases first.isEmpty with
  |false=>rfl
  |true=>
   rcases za8 (t:=t) captured.toList with⟨h1,h2⟩|⟨xs,ys,h1,h2,h3⟩
   ·simp only[Yza,h1,h2];rfl
   ·simp only[Yza,h1,h2,YzC,YzB,YzN,zx,uh,zgF _ _ h3]
 |makeMap ty r=>cases r<;>rfl
 |makeSlice ty l c=>
  simp only[yG,cOp];cases P.underlying ty with
  |none=>rfl
  |some u=>
   cases u with
   |slice e=>
    simp only;cases P.info? e with
    |none=>rfl
    |some i=>
     cases zU P e with
     |none=>rfl
     |some z=>
      simp only;generalize (Nat.beq z.cells.length i.size && !Nat.beq i.size 0)=q;cases q with
      |false=>rfl
      |true=>rcases zA (t:=t) l with⟨h1l,h2l⟩|⟨oal,obl,h1l,h2l,h3l⟩<;>rcases zA (t:=t) c with⟨h1c,h2c⟩|⟨oac,obc,h1c,h2c,h3c⟩<;>simp[zx,yA,xc, *]
   |_=>rfl
 |slice ty x lo hi mx=>
  simp only[yG,cOp];cases P.underlying ty with
  |none=>rfl
  |some u=>
   cases u with
   |slice e=>
    simp only;cases P.info? e with
    |none=>rfl
    |some i=>
     simp only;generalize (mx.isSome && !hi.isSome)=q;cases q with
     |true=>rfl
     |false=>
      rcases zA (t:=t) x with⟨h1x,h2x⟩|⟨oax,obx,h1x,h2x,h3x⟩
      ·simp only[h1x,h2x,Yzb];rfl
      ·rcases ue (t:=t) lo with⟨k1,k2⟩|⟨l1,l2,k1,k2,k3⟩
       ·simp only[h1x,h2x,k1,k2,Yzb];rfl
       ·rcases ue (t:=t) hi with⟨m1,m2⟩|⟨g1,g2,m1,m2,m3⟩
        ·simp only[h1x,h2x,k1,k2,m1,m2,Yzb];rfl
        ·rcases ue (t:=t) mx with⟨n1,n2⟩|⟨j1,j2,n1,n2,n3⟩
         ·simp only[h1x,h2x,k1,k2,m1,m2,n1,n2,Yzb];rfl
         ·simp only[h1x,h2x,k1,k2,m1,m2,n1,n2,Yzb,YzC,YzB,YzN,zx,wn,h3x,y5,yR,ze8 k3 m3 n3,k3.bnd,m3.bnd,n3.bnd]
   |array len e=>
    simp only;cases P.info? e with
    |none=>rfl
    |some i=>
     simp only;generalize (mx.isSome && !hi.isSome)=q;cases q with
     |true=>rfl
     |false=>
      rcases zA (t:=t) x with⟨h1x,h2x⟩|⟨oax,obx,h1x,h2x,h3x⟩
      ·simp only[h1x,h2x,Yzb];rfl
      ·rcases ue (t:=t) lo with⟨k1,k2⟩|⟨l1,l2,k1,k2,k3⟩
       ·simp only[h1x,h2x,k1,k2,Yzb];rfl
       ·rcases ue (t:=t) hi with⟨m1,m2⟩|⟨g1,g2,m1,m2,m3⟩
        ·simp only[h1x,h2x,k1,k2,m1,m2,Yzb];rfl
        ·rcases ue (t:=t) mx with⟨n1,n2⟩|⟨j1,j2,n1,n2,n3⟩
         ·simp only[h1x,h2x,k1,k2,m1,m2,n1,n2,Yzb];rfl
         ·simp only[h1x,h2x,k1,k2,m1,m2,n1,n2,Yzb,YzC,YzB,YzN,zx,x8,h3x,yR,k3.bnd,m3.bnd,n3.bnd]
   |string=>
    simp only;cases mx.isSome with
    |true=>rfl
    |false=>
     rcases zA (t:=t) x with⟨h1x,h2x⟩|⟨oax,obx,h1x,h2x,h3x⟩
     ·simp only[h1x,h2x,Yzb];rfl
     ·rcases ue (t:=t) lo with⟨k1,k2⟩|⟨l1,l2,k1,k2,k3⟩
      ·simp only[h1x,h2x,k1,k2,Yzb];rfl
      ·rcases ue (t:=t) hi with⟨m1,m2⟩|⟨g1,g2,m1,m2,m3⟩
       ·simp only[h1x,h2x,k1,k2,m1,m2,Yzb];rfl
       ·simp only[h1x,h2x,k1,k2,m1,m2,Yzb,YzC,YzB,YzN,zx,y7,h3x,k3.bnd,m3.bnd]
   |_=>rfl
 |fieldAddr ty x f=>
  simp only[yG,cOp];cases P.underlying ty with
  |none=>rfl
  |some u=>
   cases u with
   |struct fs=>
    simp only;cases fs[f]? with
    |none=>rfl
    |some fd=>
     simp only;cases P.info? fd.type with
     |none=>rfl
     |some i=>
      simp only;cases Nat.beq i.size 0 with
      |true=>rfl
      |false=>rcases zA (t:=t) x with⟨h1,h2⟩|⟨a,b,h1,h2,h3⟩<;>simp[zx,yA,ul, *]
   |_=>rfl
 |field ty x f=>
  simp only[yG,cOp];cases P.underlying ty with
  |none=>rfl
  |some u=>
   cases u with
   |struct fs=>
    simp only;cases fs[f]? with
    |none=>rfl
    |some fd=>simp only;rcases zA (t:=t) x with⟨h1,h2⟩|⟨a,b,h1,h2,h3⟩<;>cases xi P fd.type<;>simp[zx,yA,wv, *]
   |_=>rfl
 |indexAddr ty x i=>
  simp only[yG,cOp];cases P.underlying ty with
  |none=>rfl
  |some u=>
   cases u with
   |slice e=>
    simp only;cases P.info? e with
    |none=>rfl
    |some n=>rcases zA (t:=t) x with⟨h1x,h2x⟩|⟨oax,obx,h1x,h2x,h3x⟩<;>rcases zA (t:=t) i with⟨h1i,h2i⟩|⟨oai,obi,h1i,h2i,h3i⟩<;>simp[zx,yA,zaB, *]
   |array len e=>
    simp only;cases P.info? e with
    |none=>rfl
    |some n=>rcases zA (t:=t) x with⟨h1x,h2x⟩|⟨oax,obx,h1x,h2x,h3x⟩<;>rcases zA (t:=t) i with⟨h1i,h2i⟩|⟨oai,obi,h1i,h2i,h3i⟩<;>simp[zx,yA,wt, *]
   |_=>rfl
 |index ty x i=>
  simp only[yG,cOp];cases P.underlying ty with
  |none=>rfl
  |some u=>
   cases u with
   |array len e=>
    simp only;cases P.info? e with
    |none=>rfl
    |some n=>rcases zA (t:=t) x with⟨h1x,h2x⟩|⟨oax,obx,h1x,h2x,h3x⟩<;>rcases zA (t:=t) i with⟨h1i,h2i⟩|⟨oai,obi,h1i,h2i,h3i⟩<;>cases xi P e<;>simp[zx,yA,wu, *]
   |string=>rcases zA (t:=t) x with⟨h1x,h2x⟩|⟨oax,obx,h1x,h2x,h3x⟩<;>rcases zA (t:=t) i with⟨h1i,h2i⟩|⟨oai,obi,h1i,h2i,h3i⟩<;>simp[zx,yA,wq, *]
   |_=>rfl
 |lookup ty m k ok=>
  simp only[yG,cOp];cases P.underlying ty with
  |none=>rfl
  |some u=>
   cases u with
   |map key e=>simp only;rcases zA (t:=t) m with⟨h1m,h2m⟩|⟨oam,obm,h1m,h2m,h3m⟩<;>rcases zA (t:=t) k with⟨h1k,h2k⟩|⟨oak,obk,h1k,h2k,h3k⟩<;>generalize vH P key=q1<;>generalize zU P e=q2<;>cases q1<;>cases q2<;>simp only[h1m,h2m,h1k,h2k]<;>first|rfl|simp[zx,xL, *]
   |_=>rfl
 |mapUpdate ty m k v=>
  simp only[yG,cOp];cases P.underlying ty with
  |none=>rfl
  |some u=>
   cases u with
   |map key e=>simp only;rcases zA (t:=t) m with⟨h1m,h2m⟩|⟨oam,obm,h1m,h2m,h3m⟩<;>rcases zA (t:=t) k with⟨h1k,h2k⟩|⟨oak,obk,h1k,h2k,h3k⟩<;>rcases zA (t:=t) v with⟨h1v,h2v⟩|⟨oav,obv,h1v,h2v,h3v⟩<;>generalize vH P key=q1<;>cases q1<;>simp only[h1m,h2m,h1k,h2k]<;>first|rfl|simp[zx,yA,zaz, *]
   |_=>rfl
 |insert ty m k v=>
  simp only[yG,cOp];cases P.underlying ty with
  |none=>rfl
  |some u=>
   cases u with
   |map key e=>simp only;rcases zA (t:=t) m with⟨h1m,h2m⟩|⟨oam,obm,h1m,h2m,h3m⟩<;>rcases zA (t:=t) k with⟨h1k,h2k⟩|⟨oak,obk,h1k,h2k,h3k⟩<;>rcases zA (t:=t) v with⟨h1v,h2v⟩|⟨oav,obv,h1v,h2v,h3v⟩<;>generalize vH P key=q1<;>cases q1<;>simp only[h1m,h2m,h1k,h2k]<;>first|rfl|simp[zx,yA,zaz, *]
   |_=>rfl
 |mapEntry ty m k=>
  simp only[yG,cOp];cases P.underlying ty with
  |none=>rfl
  |some u=>
   cases u with
   |map key e=>simp only;rcases zA (t:=t) m with⟨h1m,h2m⟩|⟨oam,obm,h1m,h2m,h3m⟩<;>rcases zA (t:=t) k with⟨h1k,h2k⟩|⟨oak,obk,h1k,h2k,h3k⟩<;>generalize vH P key=q1<;>generalize zU P e=q2<;>cases q1<;>cases q2<;>simp only[h1m,h2m,h1k,h2k]<;>first|rfl|simp[zx,jS, *]
   |_=>rfl
 |entryStore ty m s v=>simp only[yG,cOp];rcases zA (t:=t) m with⟨h1m,h2m⟩|⟨oam,obm,h1m,h2m,h3m⟩<;>rcases zA (t:=t) s with⟨h1k,h2k⟩|⟨oak,obk,h1k,h2k,h3k⟩<;>rcases zA (t:=t) v with⟨h1v,h2v⟩|⟨oav,obv,h1v,h2v,h3v⟩<;>simp only[h1m,h2m,h1k,h2k]<;>first|rfl|simp[zx,yA,jT, *]
 |extract x i=>rcases zA (t:=t) x with⟨h1,h2⟩|⟨a,b,h1,h2,h3⟩<;>simp[yG,cOp,zx,yA,yZ, *]
 |call c=>
  obtain⟨callee,args,tys⟩:=c;cases callee with
  |invoke _ _=>rfl
  |value f=>
   simp only[yG,cOp];cases hk:Nat.beq (jr P f) 0 with
   |false=>
    simp only[Yzb];unfold ztc;rcases args.toList with _|⟨x,_|⟨y,_|⟨z,l⟩⟩⟩<;>try rfl
    ·simp only;cases Nat.beq (jr P f) 1 with
     |false=>rfl
     |true=>rcases zA (t:=t) x with⟨h1,h2⟩|⟨a,b,h1,h2,h3⟩<;>simp[zx,yA,zgN, *]
    ·simp only;cases Nat.beq (jr P f) 2 with
     |false=>rfl
     |true=>rcases zA (t:=t) x with⟨h1,h2⟩|⟨a,b,h1,h2,h3⟩<;>rcases zA (t:=t) y with⟨h1x,h2x⟩|⟨oax,obx,h1x,h2x,h3x⟩<;>simp[zx,yA,zgP, *]
   |true=>
   simp only[Yza];rcases zA (t:=t) f with⟨h1x,h2x⟩|⟨oax,obx,h1x,h2x,h3x⟩
   ·simp only[h1x,h2x];rfl
   ·rcases za8 (t:=t) args.toList with⟨h1,h2⟩|⟨xs,ys,h1,h2,h3⟩
    ·simp only[h1x,h2x,h1,h2];rfl
    ·simp only[h1x,h2x,h1,h2,YzC,YzB,YzN,zx,zbR,h3x,zkC _ _ h3]
  |builtin b=>
   cases b with
   |len=>
    simp only[yG,cOp];cases tys[0]? with
    |none=>rfl
    |some ty=>
     cases args[0]? with
     |none=>rfl
     |some x=>
      simp only;cases P.underlying ty with
      |none=>rfl
      |some u=>cases u<;>first|rfl|(rcases zA (t:=t) x with⟨h1,h2⟩|⟨a,b,h1,h2,h3⟩<;>simp[zx,yA,uj,uk,jd, *])
   |append=>
    simp only[yG,cOp];rcases tys.toList with _|⟨t1,_|⟨t2,_|⟨t3,l⟩⟩⟩<;>try rfl
    rcases args.toList with _|⟨s,_|⟨x,_|⟨y,l⟩⟩⟩<;>try rfl
    simp only;cases P.underlying t1 with
    |none=>rfl
    |some u=>
     cases u<;>try rfl
     rename_i e;simp only;cases P.info? e with
     |none=>rfl
     |some i=>
      cases zU P e with
      |none=>rfl
      |some z=>
       simp only;generalize (Nat.beq z.cells.length i.size && !Nat.beq i.size 0)=q;cases q with
       |false=>rfl
       |true=>
        cases P.underlying t2 with
        |none=>rfl
        |some u2=>generalize (yi P e&&Nat.beq i.size 1)=q6;generalize Nat.beq i.size 1=q5;rcases zA (t:=t) s with⟨h1,h2⟩|⟨a,b,h1,h2,h3⟩<;>rcases zA (t:=t) x with⟨h1x,h2x⟩|⟨oax,obx,h1x,h2x,h3x⟩<;>cases u2<;>cases q5<;>cases q6<;>first|rfl|simp[zx,yA,y8,un,uo, *]
   |unsafeSliceData=>
    simp only[yG,cOp];rcases args.toList with _|⟨x,_|⟨y,l⟩⟩<;>try rfl
    rcases zA (t:=t) x with⟨h1,h2⟩|⟨a,b,h1,h2,h3⟩<;>simp[zx,yA,wm, *]
   |unsafeString=>
    simp only[yG,cOp];rcases tys.toList with _|⟨t1,_|⟨t2,_|⟨t3,l⟩⟩⟩<;>try rfl
    rcases args.toList with _|⟨x,_|⟨y,_|⟨z,l⟩⟩⟩<;>try rfl
    simp only;cases P.underlying t1 with
    |none=>rfl
    |some u=>
     cases u<;>try rfl
     rename_i e;simp only;generalize (yi P e&&Nat.beq (P.cellsOf e) 1)=q;cases q with
     |false=>rfl
     |true=>rcases zA (t:=t) x with⟨h1,h2⟩|⟨a,b,h1,h2,h3⟩<;>rcases zA (t:=t) y with⟨h1x,h2x⟩|⟨oax,obx,h1x,h2x,h3x⟩<;>simp[zx,yA,zd8, *]
   |cap=>
    simp only[yG,cOp];cases tys[0]? with
    |none=>rfl
    |some ty=>
     cases args[0]? with
     |none=>rfl
     |some x=>
      simp only;cases P.underlying ty with
      |none=>rfl
      |some u=>cases u<;>first|rfl|(rcases zA (t:=t) x with⟨h1,h2⟩|⟨a,b,h1,h2,h3⟩<;>simp[zx,yA,zj5, *])
   |copy=>
    simp only[yG,cOp];rcases tys.toList with _|⟨t1,_|⟨t2,_|⟨t3,l⟩⟩⟩<;>try rfl
    rcases args.toList with _|⟨x,_|⟨y,_|⟨z,l⟩⟩⟩<;>try rfl
    simp only;cases P.underlying t1 with
    |none=>rfl
    |some u=>
     cases P.underlying t2 with
     |none=>cases u<;>rfl
     |some u2=>
      cases u<;>try rfl
      all_goals (cases u2<;>try rfl)
      rename_i e e2;simp only;cases P.info? e with
      |none=>rfl
      |some i=>
       simp only;generalize Nat.beq i.size 0=q;cases q with
       |true=>rfl
       |false=>rcases zA (t:=t) x with⟨h1,h2⟩|⟨a,b,h1,h2,h3⟩<;>rcases zA (t:=t) y with⟨h1x,h2x⟩|⟨oax,obx,h1x,h2x,h3x⟩<;>simp[zx,yA,zd9, *]
   |clear=>
    simp only[yG,cOp];cases tys[0]? with
    |none=>rfl
    |some ty=>
     cases args[0]? with
     |none=>rfl
     |some x=>
      simp only;cases P.underlying ty with
      |none=>rfl
      |some u=>
       cases u<;>try rfl
       rename_i e;simp only;cases P.info? e with
       |none=>rfl
       |some i=>
        cases zU P e with
        |none=>rfl
        |some z=>
         simp only;generalize (Nat.beq z.cells.length i.size && !Nat.beq i.size 0)=q;cases q with
         |false=>rfl
         |true=>rcases zA (t:=t) x with⟨h1,h2⟩|⟨a,b,h1,h2,h3⟩<;>simp[zx,yA,kP, *]
   |max=>
    simp only[yG,cOp];rcases za8 (t:=t) args.toList with⟨h1,h2⟩|⟨xs,ys,h1,h2,h3⟩
    ·simp only[h1,h2];rfl
    ·simp only[h1,h2];cases xs<;>cases ys<;>first|rfl|exact h3.elim|simp only[zx,yE,h3.1,zcZ _ _ _ _ _ h3.2]
   |min=>
    simp only[yG,cOp];rcases za8 (t:=t) args.toList with⟨h1,h2⟩|⟨xs,ys,h1,h2,h3⟩
    ·simp only[h1,h2];rfl
    ·simp only[h1,h2];cases xs<;>cases ys<;>first|rfl|exact h3.elim|simp only[zx,yE,h3.1,zcZ _ _ _ _ _ h3.2]
   |_=>rfl
 |_=>rfl
end
end Go.CE
end
section
namespace Go.CE
noncomputable section
def w6(r:Fr)(v:Zb):Option Nat→Fr
 |none=>r
 |some d=>fun i=>bif Nat.beq i d then v else r i
def bindR{β:Type}(x:Res)(k:Zb→Za→Option β):Option β:=
 match x with
 |some (v,h)=>k v h
 |none=>none
def zdF(v:Zb)(b:Bool):Bool:=
 match v with
 | .s (.one (.bool c))=>c==b
 |_=>false
section
variable (P:Program)
def z5(nt:Nat)(ops:Array Oper)(o:Oper)(call:zb)(r:Fr)(h:Za):Res:=
 bif inT nt o.dst then
  match o.guard with
  |none=>yG P (coK r) o.op call .nil h
  |some (j,b)=>
   match (ops[j]?).bind (·.dst) with
   |some d=>bif Nat.ble (Nat.succ d) nt then(bif zdF (r d) b then yG P (coK r) o.op call .nil h else some (zO,h)) else none
   |none=>none
 else none
def ztI(nt:Nat)(o:Oper)(r:Fr):Option Zb:=
 match o.guard with
 |some _=>none
 |none=>
  bif inT nt o.dst then
   match o.op with
   | .move x=>(coK r x).map fun c=>c .nil
   | .assign x=>(coK r x).map fun c=>c .nil
   |_=>none
  else none
def ziB{β:Type}(nt:Nat)(ops:Array Oper)(call:zb):List Oper→Fr→Za→(Fr→Za→Option β)→Option β
 | [],r,h,k=>k r h
 |o::os,r,h,k=>
  match ztI nt o r with
  |some v=>ziB nt ops call os (w6 r v o.dst) h k
  |none=>bindR (z5 P nt ops o call r h) fun v h'=>ziB nt ops call os (w6 r v o.dst) h' k
def ziw(i:Nat):List Nat→Bool
 | []=>false
 |j::l=>bif Nat.beq i j then true else ziw i l
def zB(r:Fr)(l:List Nat):Fr:=fun i=>bif ziw i l then r i else zO
def zh6(run:Za→Res)(v:Zb):List Za→Bool
 | []=>true
 |h::hs=>
  (match run h with
  |some (v',_)=>eqA v v'
  |none=>false)&&zh6 run v hs
def zoP(hs:List Za):List ((Za→Res)×Zb×Nat×Nat)→Bool
 | []=>true
 |(run,v,lo,hi)::l=>(Nat.beq lo hi||zh6 run v ((hs.drop lo).take (Nat.sub (Nat.succ hi) lo)))&&zoP hs l
def kDr{β:Type}(nt:Nat)(ops:Array Oper)(call:zb)(bs:List Nat)(es:List Bool):Nat→List Oper→Fr→Za→List Za→List ((Za→Res)×Zb×Nat×Nat)→(Fr→Za→Option β)→Option β
 |_,[],r,h,hs,cs,k=>bif zoP (hs++[h]) cs then k r h else none
 |i,o::os,r,h,hs,cs,k=>
  match ztI nt o (zB r (o.looksAt ops)) with
  |some v=>kDr nt ops call bs es (Nat.succ i) os (w6 r v o.dst) h hs (cs++[(z5 P nt ops o call (zB r (o.looksAt ops)),v,ce (fun j=>bef bs j i) 0 es,ce (fun j=>!bef bs i j) 0 es)]) k
  |none=>bindR (z5 P nt ops o call (zB r (o.looksAt ops)) h) fun v h'=>
  bif yc P o.op then kDr nt ops call bs es (Nat.succ i) os (w6 r v o.dst) h hs (cs++[(z5 P nt ops o call (zB r (o.looksAt ops)),v,ce (fun j=>bef bs j i) 0 es,ce (fun j=>!bef bs i j) 0 es)]) k
  else kDr nt ops call bs es (Nat.succ i) os (w6 r v o.dst) h' (hs++[h]) cs k
abbrev CkG:=(Za→Res)×Zb×Nat×Nat×List Nat
def zbJ(run:Za→Res)(v:Zb)(n0:Nat)(hide:List Nat)(mks:List (Nat×Nat×Zf)):Nat→List Za→Bool
 |_,[]=>true
 |k,h::hs=>
  match run ⟨h.n,k8 n0 hide (jp n0 k mks h.t)⟩ with
  |some (v',_)=>eqA v v'&&zbJ run v n0 hide mks (Nat.succ k) hs
  |none=>false
def zf1(n0:Nat)(mks:List (Nat×Nat×Zf))(hs:List Za):List CkG→Bool
 | []=>true
 |(run,v,lo,hi,hide)::l=>(Nat.beq lo hi||zbJ run v n0 hide mks lo ((hs.drop lo).take (Nat.sub (Nat.succ hi) lo)))&&zf1 n0 mks hs l
def mk1(n0 c j:Nat)(t:Tr Zf):List (Nat×Nat×Zf):=
 match t.get (bn (Nat.add n0 j)) with
 |some o=>[(c,j,o)]
 |none=>[]
def zbu{β:Type}(nt:Nat)(ops:Array Oper)(call:zb)(bs:List Nat)(es:List Bool)(n0:Nat):Nat→List Oper→Fr→Za→Nat→List Za→List CkG→List (Nat×Nat×Zf)→(Fr→Za→Option β)→Option β
 |_,[],r,h,_,hs,cs,mks,k=>bif zf1 n0 mks hs cs then k r h else none
 |i,o::os,r,h,c,hs,cs,mks,k=>
  bif ja o.op then
   bindR (z5 P nt ops o call (zB r (o.looksAt ops)) ⟨bn (Nat.add n0 i),h.t⟩) fun v h'=>zbu nt ops call bs es n0 (Nat.succ i) os (w6 r v o.dst) ⟨h.n,h'.t⟩ c hs cs (mks++mk1 n0 c i h'.t) k
  else
   bindR (z5 P nt ops o call (zB r (o.looksAt ops)) ⟨h.n,k8 n0 (yd bs i 0 ops.toList) h.t⟩) fun v h'=>
    bif anchor P o.op then
     match zdB n0 h.t (yd bs i 0 ops.toList) h'.t with
     |some t=>zbu nt ops call bs es n0 (Nat.succ i) os (w6 r v o.dst) ⟨h'.n,t⟩ (Nat.succ c) (hs++[⟨h'.n,t⟩]) cs mks k
     |none=>none
    else zbu nt ops call bs es n0 (Nat.succ i) os (w6 r v o.dst) h c hs (cs++[(z5 P nt ops o call (zB r (o.looksAt ops)),v,ce (fun j=>bef bs j i) 0 es,ce (fun j=>!bef bs i j) 0 es,yd bs i 0 ops.toList)]) mks k
def qK(c:List Zb→Za→Option (Zg×List Zb×Za)):Nat→List Zb→Za→Option (Zg×List Zb×Za)
 |0,_,_=>none
 |n+1,r,h=>
  match c r h with
  |some (.normal,r',h')=>qK c n r' h'
  |x=>x
def bindX{β:Type}(x:Option (Zg×List Zb×Za))(kx:Nat→List Zb→Za→Option β)(kr:List Zb→Za→Option β):Option β:=
 match x with
 |some (.exit id,r,h)=>kx id r h
 |some (.ret,r,h)=>kr r h
 |_=>none
def ifK{β:Type}(v:Zb)(a b:Option β):Option β:=
 match v with
 | .s (.one (.bool q))=>bif q then a else b
 |_=>none
def zo5{β:Type}(a:Fr→Za→Option β)(k:Zg→Fr→Za→Option β):Zg→Fr→Za→Option β
 | .normal,r,h=>a r h
 | .exit id,r,h=>k (.exit id) r h
 | .ret,r,h=>k .ret r h
def zsf{β:Type}(id:Nat)(k:Zg→Fr→Za→Option β):Zg→Fr→Za→Option β
 | .exit id',r,h=>bif Nat.beq id' id then k .normal r h else k (.exit id') r h
 | .normal,r,h=>k .normal r h
 | .ret,r,h=>k .ret r h
def writes:Code→List Nat
 | .region _ ops _=>ops.toList.filterMap (·.dst)
 | .seq a b=>writes a++writes b
 | .cond _ a b=>writes a++writes b
 | .block _ c=>writes c
 | .loop c=>writes c
 |_=>[]
def ztH:List Zb→Nat→Zb
 | [],_=>zO
 |v::l,n=>bif Nat.beq n 0 then v else ztH l (Nat.sub n 1)
def ziv:List Nat→Nat→Fr→List Zb→Fr
 | [],_,r,_=>r
 |w::W,k,r,ys=>fun i=>bif Nat.beq i w then ztH ys k else ziv W (Nat.succ k) r ys i
def yM(nt:Nat)(call:zb)(f:Nat):Code→{β:Type}→Fr→Za→(Zg→Fr→Za→Option β)→Option β
 | .skip,_,r,h,k=>k .normal r h
 | .region _ ops draw,_,r,h,k=>
  bif draw then(bif P.follows .mixedOrders&&kz P ops (yK ops.toList) then kDr P nt ops call (yK ops.toList) (ky P ops.toList) 0 ops.toList r h [] [] (fun r h=>k .normal r h)
   else bif P.follows .mixedOrders&&vT P ops (yK ops.toList) then zbu P nt ops call (yK ops.toList) (uO P ops.toList) h.n.toNat 0 ops.toList r ⟨bn (Nat.add h.n.toNat ops.toList.length),h.t⟩ 0 [⟨bn (Nat.add h.n.toNat ops.toList.length),h.t⟩] [] [] (fun r h=>k .normal r h) else none)
  else ziB P nt ops call ops.toList r h (fun r h=>k .normal r h)
 | .seq a b,_,r,h,k=>yM nt call f a r h (zo5 (fun r h=>yM nt call f b r h k) k)
 | .cond c a b,_,r,h,k=>
  match coK r c with
  |some c=>ifK (c .nil) (yM nt call f a r h k) (yM nt call f b r h k)
  |none=>none
 | .block id c,_,r,h,k=>yM nt call f c r h (zsf id k)
 | .loop c,_,r,h,k=>bindX (qK (fun ys h=>yM nt call f c (ziv (writes c) 0 r ys) h (fun e s h=>some (e,(writes c).map s,h))) f ((writes c).map r) h)
   (fun id ys h=>k (.exit id) (ziv (writes c) 0 r ys) h) (fun ys h=>k .ret (ziv (writes c) 0 r ys) h)
 | .exit id,_,r,h,k=>k (.exit id) r h
 | .ret,_,r,h,k=>k .ret r h
 |_,_,_,_,_=>none
def ztx(v:Zb):Option SVal:=
 match v with
 | .s v=>some v
 |_=>none
def zty(n:Option Nat)(v:Zb)(h:Za):Option SVal:=
 match v with
 | .s (.one (.ptr b off))=>vL n off (h.t.get b)
 |_=>none
def zlU(v:Option SVal)(l:Option (List SVal)):Option (List SVal):=
 match v with
 |some v=>xu v l
 |none=>none
def zbr(r:Fr)(h:Za):ResultVar→Option SVal
 | .tmp i=>ztx (r i)
 | .cell i t=>
  match xi P t with
  |some n=>zty n (r i) h
  |none=>none
def u4(r:Fr)(h:Za):List ResultVar→Option (List SVal)
 | []=>some []
 |x::rs=>zlU (zbr P r h x) (u4 r h rs)
def zlQ(rs:List ResultVar):Zg→Fr→Za→Res
 | .exit _,_,_=>none
 | .normal,r,h=>za0 h (u4 P r h rs)
 | .ret,r,h=>za0 h (u4 P r h rs)
def znH(g:Nat)(call:zb)(f:Nat)(args:List Zb)(h:Za):Res:=
 match P.funcs[g]? with
 |some fn=>
  match fn.body with
  |some c=>bif (zdx P fn.results.toList).isNone||fn.name == "runtime.NumGoroutine" then none else bif znz args fn.ntmps then yM P fn.ntmps call f c (xe (xz .z .nil args)) h (zlQ P fn.results.toList) else none
  |none=>none
 |none=>none
end
end
section
variable {P:Program} {nt:Nat}
theorem beq_iff(a b:Nat):Nat.beq a b=true↔a=b:=⟨Lz1,fun h=>by simp_all⟩
theorem xV(t:Tr Zb)(v:Zb)(d:Option Nat):xe (zak t v (d.map bn))=w6 (xe t) v d:=by cases d<;>grind[xe,zak,w6,zhP,beq_iff,zr,v7,zl]
theorem zoZ(t:Tr Zb)(g:Nat)(b:Bool):want t (some (bn g,b))=zdF (xe t g) b:=by
 simp only[want,xe,zhP];cases t.get (bn g) with
 |none=>rfl
 |some v=>cases v with
  |tup _=>rfl
  |s v=>cases v with
   |agg _=>rfl
   |one c=>cases c<;>rfl
theorem uW(ops:Array Oper)(o:Oper)(call:zb)(t:Tr Zb)(h:Za)(v:Zb)(h':Za)(e:z5 P nt ops o call (xe t) h=some (v,h')):
  yY call (ym P nt ops o) t h=some (v,h')∧(ym P nt ops o).dst=o.dst.map bn:=by
 unfold z5 at e;unfold ym;cases hin:inT nt o.dst with
 |false=>grind
 |true=>
  rw[hin]at e;simp only[Yza]at e ⊢;cases hg:o.guard with
  |none=>rw[hg]at e;simp only[zl6]at e;trivial
  |some p=>
   obtain⟨j,b⟩:=p;rw[hg]at e;simp only at e ⊢;cases hd:(ops[j]?).bind (·.dst) with
   |none=>grind
   |some d=>rw[hd]at e;simp only at e ⊢;cases hb:Nat.ble (Nat.succ d) nt<;>simp_all[zl6,yY,zoZ]
theorem zlF(call:zb)(o:Zk)(t:Tr Zb)(h:Za):qz call o t h=zt3 t o.dst (yY call o t h):=by obtain⟨d,op,g⟩:=o;simp only[qz,yY];cases want t g<;>rfl
theorem xn{r:Fr}{v:Zb}{d:Option Nat}{i:Nat}(h:d≠some i):w6 r v d i=r i:=by
 cases d with
 |none=>rfl
 |some d=>grind[w6,beq_iff]
theorem zfo{ops:Array Oper}{o:Oper}{call:zb}{r:Fr}{v:Zb}(e:ztI nt o r=some v)(h:Za):z5 P nt ops o call r h=some (v,h)∧yc P o.op=true:=by
 unfold ztI at e;unfold z5;cases hg:o.guard with
 |some p=>grind
 |none=>
  rw[hg]at e;simp only at e ⊢;cases hi:inT nt o.dst with
  |false=>grind
  |true=>
   rw[hi]at e;simp only[Yza]at e ⊢;split at e
   ·rename_i x hx;rw[hx];simp only[yG,yc];cases hc:coK r x with
    |none=>grind
    |some c=>rw[hc]at e;cases e;trivial
   ·rename_i x hx;rw[hx];simp only[yG,yc];cases hc:coK r x with
    |none=>grind
    |some c=>rw[hc]at e;cases e;trivial
   ·cases e
theorem zaO{β:Type}(ops:Array Oper)(call:zb)(o:Oper)(os:List Oper)(r:Fr)(h:Za)(k:Fr→Za→Option β):
  ziB P nt ops call (o::os) r h k=bindR (z5 P nt ops o call r h) fun v h'=>ziB P nt ops call os (w6 r v o.dst) h' k:=by
 rw[ziB];split
 ·rename_i v hv;rw[(zfo hv h).1];rfl
 ·rfl
theorem zg5{β:Type}(ops:Array Oper)(call:zb)(bs:List Nat)(es:List Bool)(i:Nat)(o:Oper)(os:List Oper)(r:Fr)(h:Za)(hs:List Za)(cs:List ((Za→Res)×Zb×Nat×Nat))(k:Fr→Za→Option β):
  kDr P nt ops call bs es i (o::os) r h hs cs k=bindR (z5 P nt ops o call (zB r (o.looksAt ops)) h) fun v h'=>
   bif yc P o.op then kDr P nt ops call bs es (Nat.succ i) os (w6 r v o.dst) h hs (cs++[(z5 P nt ops o call (zB r (o.looksAt ops)),v,ce (fun j=>bef bs j i) 0 es,ce (fun j=>!bef bs i j) 0 es)]) k
   else kDr P nt ops call bs es (Nat.succ i) os (w6 r v o.dst) h' (hs++[h]) cs k:=by
 rw[kDr];split
 ·rename_i v hv;rw[(zfo hv h).1];simp only[bindR];rw[(zfo (P:=P) (ops:=ops) (call:=call) hv h).2];rfl
 ·rfl
theorem zlj{β:Type}(ops:Array Oper)(call:zb):∀(os:List Oper) (t:Tr Zb) (h:Za) (k:Fr→Za→Option β) (x:β),ziB P nt ops call os (xe t) h k=some x→
  ∃t' h',ziN call (os.map (ym P nt ops)) t h=some (t',h')∧k (xe t') h'=some x∧∀i,i∉os.filterMap (·.dst)→xe t' i=xe t i
 | [],t,h,k,x,e=>⟨t,h,rfl,e,fun _ _=>rfl⟩
 |o::os,t,h,k,x,e=>by
  rw[zaO]at e;simp only[bindR]at e;split at e
  ·rename_i v h' hq;obtain⟨e1,e2⟩:=uW ops o call t h v h' hq;rw[←xV]at e;obtain⟨t',h'',e3,e4,e5⟩:=zlj ops call os _ _ _ _ e;refine⟨t',h'',?_,e4,fun i hi=>?_⟩
   ·rw[Yzv,zb9,zlF,e1,e2];exact e3
   ·simp only[List.filterMap_cons]at hi;rw[e5 i,xV,xn]
    ·grind
    ·grind
  ·cases e
theorem jW(i:Nat):∀l:List Nat,ziw i l=true↔i∈l
 | []=>by simp[ziw]
 |j::l=>by
  simp only[ziw,YzL];cases hq:Nat.beq i j with
  |true=>simp_all
  |false=>
   have:i≠j:=fun e=>by simp_all
   simp[this,jW i l]
theorem uY(t:Tr Zb)(l:List Nat):xe (vK t (l.map bn))=zB (xe t) l:=by
 funext i
 simp only[xe,zB,zhP];rw[wk];have hm:bn i∈l.map bn↔i∈l:=⟨fun h=>by grind[v7],fun h=>List.mem_map_of_mem h⟩;cases hq:ziw i l with
 |true=>simp_all[jW]
 |false=>rw[Yzc (fun hh=>by grind[jW])];rfl
theorem zgv{call:zb}{ops:Array Oper}{o:Oper}{t:Tr Zb}{v:Zb}:∀hs:List Za,zh6 (z5 P nt ops o call (xe t)) v hs=true→sameAt call (ym P nt ops o) t v hs=true
 | [],_=>rfl
 |h::hs,e=>by
  simp only[zh6]at e;obtain⟨e1,e2⟩:=w7 e;unfold sameAt;split at e1
  ·rename_i v' h' hq;obtain⟨k1,_⟩:=uW ops o call t h v' h' hq;rw[k1];simp only;rw[e1,zgv hs e2];rfl
  ·cases e1
def CkR(P:Program)(nt:Nat)(ops:Array Oper)(call:zb):List ((Za→Res)×Zb×Nat×Nat)→List (Zi×Tr Zb×Zb)→Prop
 | [],l=>∀x∈l,x.1.eff=true
 |(run,v,lo,hi)::cs,l=>∃pre d tr rest,l=pre++(d,tr,v)::rest∧(∀x∈pre,x.1.eff=true)∧d.lo=lo∧d.hi=hi∧(∃o,d.rop=ym P nt ops o∧run=z5 P nt ops o call (xe tr))∧CkR P nt ops call cs rest
theorem ziV(call:zb)(hs:List Za)(l l':List (Zi×Tr Zb×Zb)):wQ call hs (l++l')=(wQ call hs l&&wQ call hs l'):=by induction l<;>grind[wQ]
theorem qf(call:zb)(hs:List Za):∀l:List (Zi×Tr Zb×Zb),(∀x∈l,x.1.eff=true)→wQ call hs l=true
 | [],_=>rfl
 |(d,tr,v)::l,h=>by simp only[wQ];rw[h _ (Yzj ..),qf call hs l fun x hx=>h x (Yzi _ hx)];rfl
theorem zhz{call:zb}{ops:Array Oper}{hs:List Za}:∀(cs:List ((Za→Res)×Zb×Nat×Nat)) (l:List (Zi×Tr Zb×Zb)),CkR P nt ops call cs l→zoP hs cs=true→wQ call hs l=true
 | [],l,h,_=>qf call hs l h
 |(run,v,lo,hi)::cs,l,⟨pre,d,tr,rest,h1,h2,h3,h4,⟨o,h5,h6⟩,h7⟩,e=>by
  subst h1 h3 h4 h6;simp only[zoP]at e;obtain⟨e1,e2⟩:=w7 e;rw[ziV,qf call hs pre h2];simp only[wQ,Yz4];rw[zhz cs rest h7 e2,Yz8];rcases Yzu _ _ |>.mp e1 with k|k
  ·grind
  ·grind[zgv]
theorem zml{call:zb}{ops:Array Oper}{x:Zi×Tr Zb×Zb}(hx:x.1.eff=true):∀(cs:List ((Za→Res)×Zb×Nat×Nat)) (l:List (Zi×Tr Zb×Zb)),CkR P nt ops call cs l→CkR P nt ops call cs (l++[x])
 | [],l,h=>fun y hy=>by
  rcases List.mem_append.1 hy with k|k
  ·exact h y k
  ·grind
 |(run,v,lo,hi)::cs,l,⟨pre,d,tr,rest,h1,h2,h3,h4,h5,h6⟩=>⟨pre,d,tr,rest++[x],by grind,h2,h3,h4,h5,zml hx cs rest h6⟩
theorem zeT{call:zb}{ops:Array Oper}{d:Zi}{tr:Tr Zb}{v:Zb}{o:Oper}(hd:d.rop=ym P nt ops o):∀(cs:List ((Za→Res)×Zb×Nat×Nat)) (l:List (Zi×Tr Zb×Zb)),CkR P nt ops call cs l→
  CkR P nt ops call (cs++[(z5 P nt ops o call (xe tr),v,d.lo,d.hi)]) (l++[(d,tr,v)])
 | [],l,h=>⟨l,d,tr,[],rfl,h,rfl,rfl,⟨o,hd,rfl⟩,fun y hy=>by cases hy⟩
 |(run,v',lo,hi)::cs,l,⟨pre,d',tr',rest,h1,h2,h3,h4,h5,h6⟩=>⟨pre,d',tr',rest++[(d,tr,v)],by grind,h2,h3,h4,h5,zeT hd cs rest h6⟩
theorem zlk{β:Type}(ops:Array Oper)(call:zb)(bs:List Nat)(es:List Bool)(k:Fr→Za→Option β)(x:β):
  ∀(os:List Oper) (i:Nat) (t:Tr Zb) (h:Za) (hs:List Za) (cs:List ((Za→Res)×Zb×Nat×Nat)) (l0:List (Zi×Tr Zb×Zb)),CkR P nt ops call cs l0→
   kDr P nt ops call bs es i os (xe t) h hs cs k=some x→
   ∃l t' hs',evD call (w4 P nt ops bs es i os) t h=some (l,t',hs')∧wQ call (hs++hs') (l0++l)=true∧hs'≠[]∧k (xe t') (zc7 h hs')=some x∧∀i,i∉os.filterMap (·.dst)→xe t' i=xe t i
 | [],i,t,h,hs,cs,l0,hc,e=>by
  simp only[kDr]at e;cases hq:zoP (hs++[h]) cs with
  |false=>grind
  |true=>rw[hq]at e;exact⟨[],t,[h],rfl,by grind[zhz],by simp,e,fun _ _=>rfl⟩
 |o::os,i,t,h,hs,cs,l0,hc,e=>by
  rw[zg5]at e;simp only[bindR]at e;split at e
  ·rename_i v h' hq;rw[←uY]at hq e;obtain⟨e1,e2⟩:=uW ops o call _ h v h' hq;rw[←xV]at e;simp only[w4,evD];rw[e1];simp only;cases hqo:yc P o.op with
   |true=>
    rw[hqo]at e;simp only[Yza,Yyd,Yzb]at e ⊢;obtain⟨l,t',hs',k1,k2,k3,k4,k5⟩:=zlk ops call bs es k x os _ _ _ _ _ (l0++[(⟨ym P nt ops o,(o.looksAt ops).map bn,false,ce (fun j=>bef bs j i) 0 es,ce (fun j=>!bef bs i j) 0 es⟩,vK t ((o.looksAt ops).map bn),v)])
     (zeT (d:=⟨ym P nt ops o,(o.looksAt ops).map bn,false,ce (fun j=>bef bs j i) 0 es,ce (fun j=>!bef bs i j) 0 es⟩) rfl cs l0 hc) e
    rw[e2,k1];refine⟨_,_,_,rfl,?_,?_,?_,fun i hi=>?_⟩
    ·grind
    ·exact k3
    ·exact k4
    ·simp only[List.filterMap_cons]at hi;rw[k5 i,xV,xn]
     ·grind
     ·grind
   |false=>
    rw[hqo]at e;simp only[Yzb,Bool.not_false,Yza]at e ⊢;obtain⟨l,t',hs',k1,k2,k3,k4,k5⟩:=zlk ops call bs es k x os _ _ _ _ _ (l0++[(⟨ym P nt ops o,(o.looksAt ops).map bn,true,ce (fun j=>bef bs j i) 0 es,ce (fun j=>!bef bs i j) 0 es⟩,vK t ((o.looksAt ops).map bn),v)])
     (zml rfl cs l0 hc) e
    rw[e2,k1];refine⟨_,_,_,rfl,?_,?_,?_,fun i hi=>?_⟩
    ·grind
    ·simp
    ·simp only[Yza,zc7];cases hs' with
     |nil=>trivial
     |cons a b=>exact k4
    ·simp only[List.filterMap_cons]at hi;rw[k5 i,xV,xn]
     ·grind
     ·grind
  ·cases e
section
variable {ops:Array Oper} {call:zb} {n0:Nat}
theorem zdV{o:Oper}{t:Tr Zb}{v:Zb}{d:Zl}(hd:d.rop=ym P nt ops o){mks:List (Nat×Nat×Zf)}:∀(hs:List Za) (k:Nat),zbJ (z5 P nt ops o call (xe t)) v n0 d.hide mks k hs=true→zh7 call n0 d t v mks k hs=true
 | [],_,_=>rfl
 |h::hs,k,e=>by
  simp only[zbJ]at e;simp only[zh7];split at e
  ·rename_i v' h' hq;obtain⟨k1,_⟩:=uW ops o call t _ v' h' hq;obtain⟨e1,e2⟩:=w7 e;rw[hd,k1];simp only;rw[e1,zdV hd hs _ e2];rfl
  ·cases e
def zrc(P:Program)(nt:Nat)(ops:Array Oper)(call:zb):List CkG→List GE→Prop
 | [],l=>∀g∈l,(g.d.eff||g.d.mkb)=true
 |(run,v,lo,hi,hide)::cs,l=>∃pre g rest,l=pre++g::rest∧(∀x∈pre,(x.d.eff||x.d.mkb)=true)∧g.v=v∧g.d.lo=lo∧g.d.hi=hi∧g.d.hide=hide∧(∃o,g.d.rop=ym P nt ops o∧run=z5 P nt ops o call (xe g.tr))∧zrc P nt ops call cs rest
theorem ziU{mks:List (Nat×Nat×Zf)}{hs:List Za}(l l':List GE):wP call n0 mks hs (l++l')=(wP call n0 mks hs l&&wP call n0 mks hs l'):=by induction l<;>grind[wP]
theorem qe{mks:List (Nat×Nat×Zf)}{hs:List Za}:∀l:List GE,(∀x∈l,(x.d.eff||x.d.mkb)=true)→wP call n0 mks hs l=true
 | [],_=>rfl
 |g::l,h=>by simp only[wP];rw[h _ (Yzj ..),qe l fun x hx=>h x (Yzi _ hx)];simp
theorem zlY{mks:List (Nat×Nat×Zf)}{hs:List Za}:∀(cs:List CkG) (l:List GE),zrc P nt ops call cs l→zf1 n0 mks hs cs=true→wP call n0 mks hs l=true
 | [],l,h,_=>qe l h
 |(run,v,lo,hi,hide)::cs,l,⟨pre,g,rest,h1,h2,h3,h4,h5,h6,⟨o,h7,h8⟩,h9⟩,e=>by
  subst h1 h3 h4 h5 h6 h8;simp only[zf1]at e;obtain⟨e1,e2⟩:=w7 e;rw[ziU,qe pre h2];simp only[wP,Yz4];rw[zlY cs rest h9 e2,Yz8];rcases Yzu _ _ |>.mp e1 with k|k
  ·grind
  ·grind[zdV]
theorem zdE{x:GE}(hx:(x.d.eff||x.d.mkb)=true):∀(cs:List CkG) (l:List GE),zrc P nt ops call cs l→zrc P nt ops call cs (l++[x])
 | [],l,h=>fun y hy=>by
  rcases List.mem_append.1 hy with k|k
  ·exact h y k
  ·grind
 |(run,v,lo,hi,hide)::cs,l,⟨pre,g,rest,h1,h2,h3,h4,h5,h6,h7,h8⟩=>⟨pre,g,rest++[x],by grind,h2,h3,h4,h5,h6,h7,zdE hx cs rest h8⟩
theorem zck{g:GE}{o:Oper}(hd:g.d.rop=ym P nt ops o):∀(cs:List CkG) (l:List GE),zrc P nt ops call cs l→
  zrc P nt ops call (cs++[(z5 P nt ops o call (xe g.tr),g.v,g.d.lo,g.d.hi,g.d.hide)]) (l++[g])
 | [],l,h=>⟨l,g,[],rfl,h,rfl,rfl,rfl,rfl,⟨o,hd,rfl⟩,fun y hy=>by cases hy⟩
 |(run,v',lo,hi,hide)::cs,l,⟨pre,g',rest,h1,h2,h3,h4,h5,h6,h7,h8⟩=>⟨pre,g',rest++[g],by grind,h2,h3,h4,h5,h6,h7,zck hd cs rest h8⟩
theorem zc9{β:Type}(bs:List Nat)(es:List Bool)(k:Fr→Za→Option β)(x:β):
  ∀(os:List Oper) (i:Nat) (t:Tr Zb) (h:Za) (c:Nat) (hs:List Za) (cs:List CkG) (mks:List (Nat×Nat×Zf)) (l0:List GE),zrc P nt ops call cs l0→
   zbu P nt ops call bs es n0 i os (xe t) h c hs cs mks k=some x→
   ∃l t' h',evG call n0 i (yH P nt ops bs es i os) t h=some (l,t',h')∧wP call n0 (mks++zeU n0 c i l) (hs++hsG l) (l0++l)=true∧k (xe t') h'=some x∧∀i,i∉os.filterMap (·.dst)→xe t' i=xe t i
 | [],i,t,h,c,hs,cs,mks,l0,hc,e=>by
  simp only[zbu]at e;cases hq:zf1 n0 mks hs cs with
  |false=>grind
  |true=>rw[hq]at e;exact⟨[],t,h,rfl,by grind[zeU,hsG,zlY],e,fun _ _=>rfl⟩
 |o::os,i,t,h,c,hs,cs,mks,l0,hc,e=>by
  have agree:∀(t2 t':Tr Zb) (v:Zb),(ym P nt ops o).dst=o.dst.map bn→t2=zak t v (ym P nt ops o).dst→(∀i,i∉os.filterMap (·.dst)→xe t' i=xe t2 i)→∀i,i∉(o::os).filterMap (·.dst)→xe t' i=xe t i:=by
   intro t2 t' v hd h2 H i hi;subst h2;simp only[List.filterMap_cons]at hi;rw[H i (fun hm=>hi (by grind)),hd,xV]
   grind[xn]
  simp only[zbu]at e;simp only[yH,evG,stepG];cases hm:ja o.op with
  |true=>
   rw[hm]at e;have ha:anchor P o.op=false:=by grind[anchor]
   simp only[Yza,bindR]at e ⊢;split at e
   ·rename_i v h' hq;rw[←uY]at hq;obtain⟨e1,e2⟩:=uW ops o call _ _ v h' hq;rw[←xV,←e2]at e;rw[e1];simp only
    let g:GE:=⟨⟨ym P nt ops o,(o.looksAt ops).map bn,anchor P o.op,true,ce (fun j=>bef bs j i) 0 es,ce (fun j=>!bef bs i j) 0 es,yd bs i 0 ops.toList⟩,vK t ((o.looksAt ops).map bn),v,h,⟨h.n,h'.t⟩⟩
    obtain⟨l,t',h2,k1,k2,k3,k4⟩:=zc9 bs es k x os _ _ _ _ _ _ _ (l0++[g]) (zdE (x:=g) (by grind) cs l0 hc) e;rw[k1];refine⟨_,_,_,rfl,?_,k3,agree _ _ v e2 rfl k4⟩;simp only[zeU,hsG,ha,Yza,Yzb];rw[YzH]at k2;simp only[List.singleton_append,YzH]at k2;simp only[mk1]at k2
    grind
   ·cases e
  |false=>
   rw[hm]at e;simp only[Yzb,bindR]at e ⊢;split at e
   ·rename_i v h' hq;rw[←uY]at hq;obtain⟨e1,e2⟩:=uW ops o call _ _ v h' hq;rw[←xV,←e2]at e;rw[e1];simp only;cases ha:anchor P o.op with
    |true=>
     rw[ha]at e;simp only[Yza]at e ⊢;split at e
     ·rename_i t1 ht;rw[ht];simp only
      let g:GE:=⟨⟨ym P nt ops o,(o.looksAt ops).map bn,true,false,ce (fun j=>bef bs j i) 0 es,ce (fun j=>!bef bs i j) 0 es,yd bs i 0 ops.toList⟩,vK t ((o.looksAt ops).map bn),v,h,⟨h'.n,t1⟩⟩
      obtain⟨l,t',h2,k1,k2,k3,k4⟩:=zc9 bs es k x os _ _ _ _ _ _ _ (l0++[g]) (zdE (x:=g) rfl cs l0 hc) e;rw[k1];refine⟨_,_,_,rfl,?_,k3,agree _ _ v e2 rfl k4⟩
      grind[zeU,hsG]
     ·cases e
    |false=>
     rw[ha,←uY]at e;simp only[Yzb]at e ⊢
     let g:GE:=⟨⟨ym P nt ops o,(o.looksAt ops).map bn,false,false,ce (fun j=>bef bs j i) 0 es,ce (fun j=>!bef bs i j) 0 es,yd bs i 0 ops.toList⟩,vK t ((o.looksAt ops).map bn),v,h,h⟩
     obtain⟨l,t',h2,k1,k2,k3,k4⟩:=zc9 bs es k x os _ _ _ _ _ _ _ (l0++[g]) (zck (g:=g) rfl cs l0 hc) e;rw[k1];refine⟨_,_,_,rfl,?_,k3,agree _ _ v e2 rfl k4⟩
     grind[zeU,hsG]
   ·cases e
theorem qC(bs:List Nat)(es:List Bool):∀(os:List Oper) (i:Nat),(yH P nt ops bs es i os).length=os.length
 | [],_=>rfl
 |o::os,i=>by simp only[yH,Yzw,qC bs es os]
end
theorem zkl:∀(l:List Zb) (n:Nat),ztH l n=(l[n]?).getD zO
 | [],_=>rfl
 |v::l,n=>by
  cases n with
  |zero=>rfl
  |succ n=>simp only[ztH,Yzl];exact zkl l n
theorem zgZ{r s:Fr}(V:List Nat):∀(W:List Nat) (k:Nat),(∀n w,W[n]? = some w→V[k+n]? = some w)→∀i,(i∉W→s i=r i)→ziv W k r (V.map s) i=s i
 | [],k,_,i,h=>(h (by simp)).symm
 |w::W,k,hW,i,h=>by
  simp only[ziv];cases hq:Nat.beq i w with
  |true=>have:=hW 0 w rfl;simp_all[zkl]
  |false=>
   simp only[Yzb];refine zgZ V W (k+1) (fun n w' hn=>?_) i (fun hi=>h ?_)
   ·have:=hW (n+1) w' hn
    grind
   ·intro hm;simp_all
theorem zaJ{W:List Nat}{r s:Fr}(h:∀i,i∉W→s i=r i):ziv W 0 r (W.map s)=s:=
 funext fun i=>zgZ W W 0 (fun n w hn=>by rwa [Yzh]) i (h i)
theorem zc0{call:zb}{f fn:Nat}{c:Code}{r0:Fr} (H:∀(β:Type) (t:Tr Zb) (d:List BN) (h:Za) (k:Zg→Fr→Za→Option β) (x:β),yM P nt call f c (xe t) h k=some x→
   ∃e t' h',zH P nt c call f fn none ⟨t,d,h⟩=some (e,⟨t',d,h'⟩)∧k e (xe t') h'=some x∧∀i,i∉writes c→xe t' i=xe t i):
  ∀(n:Nat) (t:Tr Zb) (d:List BN) (h:Za) (e:Zg) (ys:List Zb) (h':Za),(∀i,i∉writes c→xe t i=r0 i)→
   qK (fun ys h=>yM P nt call f c (ziv (writes c) 0 r0 ys) h (fun e s h=>some (e,(writes c).map s,h))) n ((writes c).map (xe t)) h=some (e,ys,h')→
   ∃t',zeh (zH P nt c call f fn none) n ⟨t,d,h⟩=some (e,⟨t',d,h'⟩)∧ys=(writes c).map (xe t')∧∀i,i∉writes c→xe t' i=r0 i
 |0,_,_,_,_,_,_,_,e=>by cases e
 |n+1,t,d,h,e,ys,h',ht,hh=>by
  simp only[qK]at hh;rw[zaJ ht]at hh;have hN:zeh (zH P nt c call f fn none) (n+1) ⟨t,d,h⟩=(match zH P nt c call f fn none ⟨t,d,h⟩ with
   |some (.normal,s')=>zeh (zH P nt c call f fn none) n s'
   |r=>r):=rfl
  rw[hN];split at hh
  ·rename_i r1 h1 hq;obtain⟨e1,t1,h2,k1,k2,k3⟩:=H _ t d h _ _ hq;cases k2;rw[k1];exact zc0 H n t1 d h1 e ys h' (fun i hi=>(k3 i hi).trans (ht i hi)) hh
  ·rename_i x hx;obtain⟨e1,t1,h2,k1,k2,k3⟩:=H _ t d h _ _ hh;simp_all
theorem znI{call:zb}{f fn:Nat}(c:Code):∀(β:Type) (t:Tr Zb) (d:List BN) (h:Za) (k:Zg→Fr→Za→Option β) (x:β),yM P nt call f c (xe t) h k=some x→
  ∃e t' h',zH P nt c call f fn none ⟨t,d,h⟩=some (e,⟨t',d,h'⟩)∧k e (xe t') h'=some x∧∀i,i∉writes c→xe t' i=xe t i:=by
 induction c with
 |skip=>exact fun β t d h k x e=>⟨.normal,t,h,rfl,e,fun _ _=>rfl⟩
 |region id ops draw=>
  intro β t d h k x e;simp only[yM]at e;simp only[zH];cases draw with
  |false=>simp only[Yzb]at e ⊢;obtain⟨t',h',k1,k2,k3⟩:=zlj ops call ops.toList t h _ x e;exact⟨.normal,t',h',by simp only[ztz,k1];rfl,k2,k3⟩
  |true=>
   simp only[Yza]at e ⊢;cases hq:P.follows .mixedOrders&&kz P ops (yK ops.toList) with
   |false=>
    rw[hq]at e;simp only[Yzb]at e ⊢;cases hq2:P.follows .mixedOrders&&vT P ops (yK ops.toList) with
    |false=>grind
    |true=>
     rw[hq2]at e;simp only[Yza]at e ⊢;obtain⟨l,t',h',k1,k2,k3,k4⟩:=zc9 (call:=call) (n0:=h.n.toNat) _ _ _ x ops.toList 0 t _ 0 _ [] [] [] (fun y hy=>by cases hy) e;refine⟨.normal,t',h',?_,k3,k4⟩;simp only[zht,wB,qC]
     grind
   |true=>
    rw[hq]at e;simp only[Yza]at e ⊢;obtain⟨l,t',hs',k1,k2,k3,k4,k5⟩:=zlk ops call _ _ _ x ops.toList 0 t h [] [] [] (fun y hy=>by cases hy) e;refine⟨.normal,t',zc7 h hs',?_,k4,k5⟩
    grind[zhu,qE]
 |seq a b iha ihb=>
  intro β t d h k x e;simp only[yM]at e;obtain⟨e1,t1,h1,k1,k2,k3⟩:=iha β t d h _ x e;simp only[zH,zvx];rw[k1];have hw:∀i,i∉writes (a.seq b)→i∉writes a∧i∉writes b:=fun i hi=>by grind[writes]
  cases e1 with
  |normal=>obtain⟨e2,t2,h2,j1,j2,j3⟩:=ihb β t1 d h1 k x k2;exact⟨e2,t2,h2,j1,j2,fun i hi=>(j3 i (hw i hi).2).trans (k3 i (hw i hi).1)⟩
  |exit id=>exact⟨_,t1,h1,rfl,k2,fun i hi=>k3 i (hw i hi).1⟩
  |ret=>exact⟨_,t1,h1,rfl,k2,fun i hi=>k3 i (hw i hi).1⟩
 |cond c a b iha ihb=>
  intro β t d h k x e;simp only[yM]at e;simp only[zH];have hw:∀i,i∉writes (Code.cond c a b)→i∉writes a∧i∉writes b:=fun i hi=>by grind[writes]
  rcases zA (t:=t) c with⟨h1,h2⟩|⟨p,q,h1,h2,h3⟩
  ·grind
  ·rw[h1]at e;rw[h2];simp only[ifK,zqX]at e ⊢;rw[h3]at e;split at e
   ·rename_i qq hqq;rw[hqq];cases qq with
    |true=>
     obtain⟨e2,t2,h2,j1,j2,j3⟩:=iha β t d h k x e
     grind
    |false=>
     obtain⟨e2,t2,h2,j1,j2,j3⟩:=ihb β t d h k x e
     grind
   ·cases e
 |block id c ih=>
  intro β t d h k x e;simp only[yM]at e;obtain⟨e1,t1,h1,k1,k2,k3⟩:=ih β t d h _ x e;simp only[zH,zoR];rw[k1];cases e1 with
  |normal=>exact⟨_,t1,h1,rfl,k2,k3⟩
  |ret=>exact⟨_,t1,h1,rfl,k2,k3⟩
  |exit id'=>
   simp only[ztE,zsf]at k2 ⊢;cases hq:Nat.beq id' id with
   |true=>rw[hq]at k2;exact⟨_,t1,h1,rfl,k2,k3⟩
   |false=>rw[hq]at k2;exact⟨_,t1,h1,rfl,k2,k3⟩
 |loop c ih=>
  intro β t d h k x e;simp only[yM,bindX]at e;simp only[zH,zsG];split at e
  ·rename_i id ys h1 hq;obtain⟨t',k1,k2,k3⟩:=zc0 ih f t d h _ ys h1 (fun _ _=>rfl) hq;rw[k2,zaJ k3]at e;exact⟨_,t',h1,k1,e,k3⟩
  ·rename_i ys h1 hq;obtain⟨t',k1,k2,k3⟩:=zc0 ih f t d h _ ys h1 (fun _ _=>rfl) hq;rw[k2,zaJ k3]at e;exact⟨_,t',h1,k1,e,k3⟩
  ·cases e
 |exit id=>exact fun β t d h k x e=>⟨.exit id,t,h,rfl,e,fun _ _=>rfl⟩
 |ret=>exact fun β t d h k x e=>⟨.ret,t,h,rfl,e,fun _ _=>rfl⟩
 |_=>grind[yM]
theorem zcD(t:Tr Zb)(h:Za):∀(l:List ResultVar) (rs:List (BN×Option (Option Nat))),zdx P l=some rs→u4 P (xe t) h l=uB t h rs
 | [],rs,e=>by cases e;rfl
 | .tmp i::l,rs,e=>by
  simp only[zdx]at e;split at e
  ·rename_i rs' hq;cases e;simp only[u4,uB];rw[zcD t h l rs' hq];simp only[zbr,zb8,ztx,xe,zhP];cases t.get (bn i) with
   |none=>rfl
   |some v=>cases v<;>rfl
  ·cases e
 | .cell i ty::l,rs,e=>by
  simp only[zdx]at e;split at e
  ·rename_i n rs' hn hq;cases e;simp only[u4,uB];rw[zcD t h l rs' hq];simp only[zbr,zb8,zty,xe,zhP,hn];cases t.get (bn i) with
   |none=>rfl
   |some v=>
    cases v with
    |tup _=>rfl
    |s v=>cases v with
     |agg _=>rfl
     |one c=>cases c<;>rfl
  ·cases e
theorem ztb(P:Program)(g:Nat):cFs (yS P) g=(P.funcs[g]?).bind (zf4 P):=by
 unfold cFs yS;have:=vn (P.funcs.toList.map (zf4 P)) 0 .nil g;rw[show bn 0=BN.z from rfl]at this;rw[this];simp only[Nat.not_lt_zero,if_false,Nat.sub_zero,Lz6,LzA];have hn:(Tr.nil:Tr (Option Zj)).get (bn g)=none:=by simp
 grind
theorem zqD{g:Nat}{call:zb}{f:Nat}{args:List Zb}{h:Za}{x:Zb×Za}(e:znH P g call f args h=some x):zlG (cFs (yS P)) call f g args h=some x:=by
 unfold znH at e;unfold zlG;rw[ztb];cases hf:P.funcs[g]? with
 |none=>grind
 |some fn=>
  rw[hf]at e;simp only[YzB]at e ⊢;unfold zf4;cases hb:fn.body with
  |none=>grind
  |some c=>
   rw[hb]at e;simp only at e ⊢;cases hr:zdx P fn.results.toList with
   |none=>grind
   |some rs=>
    rw[hr]at e;simp only[Option.isNone_some,Yz3]at e ⊢;cases hn:fn.name == "runtime.NumGoroutine" with
    |true=>grind
    |false=>
     rw[hn]at e;simp only[Yzb]at e ⊢;cases hl:znz args fn.ntmps with
     |false=>grind
     |true=>
      rw[hl]at e;simp only[Yza]at e ⊢;obtain⟨e1,t1,h1,k1,k2,_⟩:=znI (fn:=g) c _ _ [] h _ _ e;rw[k1];cases e1 with
      |exit id=>cases k2
      |normal=>simp only[zlQ,zcD _ _ _ _ hr]at k2;exact k2
      |ret=>simp only[zlQ,zcD _ _ _ _ hr]at k2;exact k2
end
end Go.CE
end
section
namespace Go.CE
noncomputable section
def z4:zb:=fun _ _ _=>none
def cP(l:List (Nat×Nat×Zb)):List (Nat×Nat×Opd):=l.map fun p=>(p.1,p.2.1,zo p.2.2)
def cL(l:List Zb):List Opd:=l.map zo
def cO:Option Zb→Option Opd
 |none=>none
 |some v=>some (zo v)
def zmv(c a b:Zb)(h:Za):Res:=uf (zo c) (zo a) (zo b) z4 .nil h
def zrA(zs:List Zc)(h:Za):Res:=zaC zs z4 .nil h
def zv2(x:Zb)(h:Za):Res:=zcV (zo x) z4 .nil h
def zja(zs:List Zc)(l:List (Nat×Nat×Zb))(h:Za):Res:=ww zs (cP l) z4 .nil h
def zo2(st len:Nat)(zs:List Zc)(l:List (Nat×Nat×Zb))(h:Za):Res:=x9 st len zs (cP l) z4 .nil h
def zmy(n:Option Nat)(x:Zb)(h:Za):Res:=ui n (zo x) z4 .nil h
def zry(n:Nat)(x v:Zb)(h:Za):Res:=kO n (zo x) (zo v) z4 .nil h
def zgi(x:Zb)(h:Za):Res:=wp (zo x) z4 .nil h
def ztu(g:IntKind→Int→Int→Option Zc)(x y:Zb)(h:Za):Res:=qI g (zo x) (zo y) z4 .nil h
def zgh(g:IntKind→Int→Int→Option Zc)(x y:Zb)(h:Za):Res:=xE g (zo x) (zo y) z4 .nil h
def ztq(op:BinOp)(x y:Zb)(h:Za):Res:=zaw op (zo x) (zo y) z4 .nil h
def vEq(ks:Nat⊕List Nat)(neg:Bool)(x y:Zb)(h:Za):Res:=zgO ks neg (zo x) (zo y) z4 .nil h
def zi8(neg:Bool)(x y:Zb)(h:Za):Res:=vh neg (zo x) (zo y) z4 .nil h
def ztr(x:Zb)(h:Za):Res:=zax (zo x) z4 .nil h
def zts(x:Zb)(h:Za):Res:=zay (zo x) z4 .nil h
def zmB(k:IntKind)(x:Zb)(h:Za):Res:=um k (zo x) z4 .nil h
def zmx(f:Nat)(caps:List Zb)(h:Za):Res:=uh f (cL caps) z4 .nil h
def zrz(h:Za):Res:=zaA z4 .nil h
def zmw(st:Nat)(zs:List Zc)(bytes:Nat)(l c:Zb)(h:Za):Res:=xc st zs bytes (zo l) (zo c) z4 .nil h
def vX(st:Nat)(x:Zb)(lo hi mx:Option Zb)(h:Za):Res:=wn st (zo x) (cO lo) (cO hi) (cO mx) z4 .nil h
def zcq(x:Zb)(lo hi:Option Zb)(h:Za):Res:=y7 (zo x) (cO lo) (cO hi) z4 .nil h
def zmA(x:Zb)(off:Nat)(h:Za):Res:=ul (zo x) off z4 .nil h
def zgm(x:Zb)(off:Nat)(n:Option Nat)(h:Za):Res:=wv (zo x) off n z4 .nil h
def ztt(st:Nat)(x i:Zb)(h:Za):Res:=zaB st (zo x) (zo i) z4 .nil h
def zgk(len st:Nat)(x i:Zb)(h:Za):Res:=wt len st (zo x) (zo i) z4 .nil h
def zgl(len st:Nat)(n:Option Nat)(x i:Zb)(h:Za):Res:=wu len st n (zo x) (zo i) z4 .nil h
def zgj(x i:Zb)(h:Za):Res:=wq (zo x) (zo i) z4 .nil h
def zo1(q:Nat⊕List Nat)(z:SVal)(ok:Bool)(m k:Zb)(h:Za):Res:=xL q z ok (zo m) (zo k) z4 .nil h
def ztT(q:Nat⊕List Nat)(m k v:Zb)(h:Za):Res:=zaz q (zo m) (zo k) (zo v) z4 .nil h
def qP(x:Zb)(i:Nat)(h:Za):Res:=yZ (zo x) i z4 .nil h
def zmz(x:Zb)(h:Za):Res:=uj (zo x) z4 .nil h
def zi9(x:Zb)(h:Za):Res:=uk (zo x) z4 .nil h
def ztU(x:Zb)(h:Za):Res:=jd (zo x) z4 .nil h
def zo3(str:Bool)(st bytes:Nat)(s x:Zb)(h:Za):Res:=y8 str st bytes (zo s) (zo x) z4 .nil h
def zcr(m:Bool)(x:Zb)(xs:List Zb)(h:Za):Res:=yE m (zo x) (cL xs) z4 .nil h
def zok(st:Nat)(zs:List Zc)(x:Zb)(h:Za):Res:=kP st zs (zo x) z4 .nil h
def ztW(call:zb)(f:Zb)(args:List Zb)(h:Za):Res:=zbR (zo f) (cL args) call .nil h
end
end Go.CE
end
section
namespace Go.CE
def Ev{α:Type}(m:Nat→Option α)(Q:α→Prop):Prop:=∃a,Q a∧∃N,∀n,N≤n→m n=some a
theorem Ev.some{α:Type}{a:α}{Q:α→Prop}(h:Q a):Ev (fun _=>some a) Q:=⟨a,h,0,fun _ _=>rfl⟩
theorem Ev.mono{α:Type}{m:Nat→Option α}{Q Q':α→Prop}(h:Ev m Q)(hq:∀a,Q a→Q' a):Ev m Q':=by obtain⟨a,h1,h2⟩:=h;exact⟨a,hq a h1,h2⟩
theorem Ev.bindR{β:Type}{m:Nat→Res}{k:Nat→Zb→Za→Option β}{Q:β→Prop}(h:Ev m (fun p=>Ev (fun n=>k n p.1 p.2) Q)):Ev (fun n=>CE.bindR (m n) (k n)) Q:=by
 obtain⟨⟨v,h'⟩,⟨x,h1,N1,h2⟩,N2,h3⟩:=h;refine⟨x,h1,max N1 N2,fun n hn=>?_⟩
 grind[CE.bindR]
theorem Ev.bindX{β:Type}{m:Nat→Option (Zg×List Zb×Za)}{kx:Nat→Nat→List Zb→Za→Option β}{kr:Nat→List Zb→Za→Option β}{Q:β→Prop}
  (h : Ev m (fun p => match p.1 with
   | .exit id=>Ev (fun n=>kx n id p.2.1 p.2.2) Q
   | .ret=>Ev (fun n=>kr n p.2.1 p.2.2) Q
   | .normal=>False)):Ev (fun n=>CE.bindX (m n) (kx n) (kr n)) Q:=by
 obtain⟨⟨e,ys,h'⟩,h1,N2,h3⟩:=h;cases e with
 |normal=>trivial
 |exit id=>obtain⟨x,h1,N1,h2⟩:=h1;exact⟨x,h1,max N1 N2,fun n hn=>by grind[CE.bindX]⟩
 |ret=>obtain⟨x,h1,N1,h2⟩:=h1;exact⟨x,h1,max N1 N2,fun n hn=>by grind[CE.bindX]⟩
theorem Ev.loop{c:Nat→List Zb→Za→Option (Zg×List Zb×Za)}{Q:Zg×List Zb×Za→Prop}(I:Nat→List Zb→Za→Prop)
  (H : ∀ k ys h, I k ys h → Ev (fun n => c n ys h) (fun p => match p.1 with
   | .normal=>∃k',k'<k∧I k' p.2.1 p.2.2
   |e=>Q (e,p.2.1,p.2.2))):
  ∀k ys h,I k ys h→Ev (fun n=>qK (c n) n ys h) Q:=by
 have key:∀K k ys h,k≤K→I k ys h→∃a,Q a∧∃N,∀n,N≤n→∀f,N≤f→qK (c n) f ys h=Option.some a:=by
  intro K
  induction K with
  |zero=>
   intro k ys h hk hi;obtain⟨⟨e,ys',h'⟩,h1,N,h2⟩:=H k ys h hi;cases e with
   |normal=>omega
   |exit id=>refine⟨_,h1,N+1,fun n hn f hf=>?_⟩;cases f<;>grind[qK]
   |ret=>refine⟨_,h1,N+1,fun n hn f hf=>?_⟩;cases f<;>grind[qK]
  |succ K ih=>
   intro k ys h hk hi;obtain⟨⟨e,ys',h'⟩,h1,N,h2⟩:=H k ys h hi;cases e with
   |normal=>obtain⟨k',hk',hi'⟩:=h1;obtain⟨a,ha,N',h3⟩:=ih k' ys' h' (by omega) hi';refine⟨a,ha,max N N'+1,fun n hn f hf=>?_⟩;cases f<;>grind[qK]
   |exit id=>refine⟨_,h1,N+1,fun n hn f hf=>?_⟩;cases f<;>grind[qK]
   |ret=>refine⟨_,h1,N+1,fun n hn f hf=>?_⟩;cases f<;>grind[qK]
 intro k ys h hi;obtain⟨a,ha,N,h1⟩:=key k k ys h (LzB _) hi;exact⟨a,ha,N,fun n hn=>h1 n hn n hn⟩
def HW(h:Za):Prop:=∀b o,h.t.get b=some o→b.toNat<h.n.toNat
structure Gr (h h':Za):Prop where
 le:h.n.toNat≤h'.n.toNat
 old:∀b:BN,b.toNat<h.n.toNat→h'.t.get b=h.t.get b
theorem Gr.refl(h:Za):Gr h h:=⟨LzB _,fun _ _=>rfl⟩
theorem Gr.get{h h':Za}(g:Gr h h')(w:HW h){b:BN}{o:Zf}(e:h.t.get b=some o):h'.t.get b=some o:=(g.old b (w b o e)).trans e
theorem HW.new{h:Za}(w:HW h)(o:Zf):HW (h.new o):=fun b o' e=>by
 simp only[Za.new]at e ⊢;rw[BN.toNat_succ];by_cases hb:b=h.n
 ·grind
 ·rw[zl _ _ _ _ hb]at e;have:=w b o' e;omega
theorem Gr.new(h:Za)(o:Zf):Gr h (h.new o):=⟨by grind[Za.new,BN.toNat_succ],fun b hb=>by grind[Za.new,zl]⟩
theorem HW.put{h:Za}(w:HW h){b:BN}{o o':Zf}(e:h.t.get b=some o):HW (h.put b o'):=fun c x hx=>by
 simp only[Za.put]at hx ⊢;by_cases hb:c=b
 ·rw[hb];exact w b o e
 ·rw[zl _ _ _ _ hb]at hx;exact w c x hx
theorem vM(h:Za)(b:BN)(o:Zf):(h.put b o).t.get b=some o:=zr _ _ _
theorem xQ(h:Za){b c:BN}(o:Zf)(hc:c≠b):(h.put b o).t.get c=h.t.get c:=zl _ _ _ _ hc
theorem zho:∀v:Zb,eqA v v=true:=by
 have hbn:∀a:BN,ziO a a=true:=fun a=>by induction a with|z=>rfl|o n ih=>exact ih|d n ih=>exact ih
 have hn:∀a:Nat,Nat.beq a a=true:=Yya;have hps:∀l:List (BN×Nat),zs5 l l=true:=fun l=>by induction l<;>grind[zs5]
 have hu:∀l:List UInt8,eqU l l=true:=fun l=>by induction l<;>grind[eqU]
 have hb:∀b:Bool,eqB b b=true:=fun b=>by cases b<;>rfl
 have hi:∀i:Int,eqI i i=true:=fun i=>by cases i<;>exact hn _
 have hk:∀k:IntKind,eqK k k=true:=fun k=>by cases k<;>rfl
 have hv:∀c:Zc,eqV c c=true:=fun c=>by cases c<;>simp only[eqV,hbn,hn,hps,hu,hb,hi,hk,Bool.and_self]
 have hvs:∀l:List Zc,zro l l=true:=fun l=>by induction l<;>grind[zro]
 have hsv:∀v:SVal,zs3 v v=true:=fun v=>by cases v<;>simp only[zs3,hv,hvs]
 have hss:∀l:List SVal,zs4 l l=true:=fun l=>by induction l<;>grind[zs4]
 intro v;cases v<;>simp only[eqA,hsv,hss]
end Go.CE
end
section
namespace Go.CE
theorem Ev.call{P:Program}{sums:List Sum}{srt:Nat→Option Srt}{g:Nat}{args:List Zb}{h:Za}{Q:Zb×Za→Prop}(ht:srt g=none)(hs:xk g args h sums=none)
  (H:Ev (fun n=>znH P g (zM (zH P) (cFs (yS P)) sums srt n) n args h) Q):Ev (fun n=>zM (zH P) (cFs (yS P)) sums srt n (.inl g) args h) Q:=by
 obtain⟨x,hx,N,hN⟩:=H;refine⟨x,hx,N+1,fun n hn=>?_⟩;cases n with
 |zero=>omega
 |succ n=>have e:=zqD (hN n (by omega));have:zM (zH P) (cFs (yS P)) sums srt (n+1) (.inl g) args h=zcl srt (zcm sums (za1 (zH P) (cFs (yS P)) (zM (zH P) (cFs (yS P)) sums srt n) n)) (.inl g) args h:=rfl;show zM (zH P) (cFs (yS P)) sums srt (n+1) (.inl g) args h=_;rw[this];unfold zcl zcm;simp only[ht,hs];exact e
theorem Ev.sum{P:Program}{fs:Nat→Option Zj}{sums:List Sum}{srt:Nat→Option Srt}{g:Nat}{args:List Zb}{h:Za}{v:Zb}(ht:srt g=none)(hs:xk g args h sums=Option.some v):
  Ev (fun n=>zM (zH P) fs sums srt n (.inl g) args h) (fun p=>p=(v,h)):=by
 refine⟨_,rfl,1,fun n hn=>?_⟩;cases n with
 |zero=>omega
 |succ n=>
  have:zM (zH P) fs sums srt (n+1) (.inl g) args h=zcl srt (zcm sums (za1 (zH P) fs (zM (zH P) fs sums srt n) n)) (.inl g) args h:=rfl
  grind[zcl,zcm]
theorem Ev.sort{P:Program}{fs:Nat→Option Zj}{sums:List Sum}{srt:Nat→Option Srt}{g:Nat}{t:Srt}{args:List Zb}{h h2:Za}{v:Zb}(ht:srt g=Option.some t)(hs:zbC t args h=Option.some (v,h2)):
  Ev (fun n=>zM (zH P) fs sums srt n (.inl g) args h) (fun p=>p=(v,h2)):=by
 refine⟨_,rfl,1,fun n hn=>?_⟩;cases n with
 |zero=>omega
 |succ n=>
  have:zM (zH P) fs sums srt (n+1) (.inl g) args h=zcl srt (zcm sums (za1 (zH P) fs (zM (zH P) fs sums srt n) n)) (.inl g) args h:=rfl
  grind[zcl]
def rd(n off:Nat):Zf→Option (List Zc)
 | .cells cs _=>cut n cs off
 | .ro _ f=>za7 f n off
 | .void=>bif Nat.beq n 0 then some [] else none
 |_=>none
def Sl{α:Type}(st:Nat)(R:Za→List Zc→α→Prop)(h:Za)(c:Zc)(l:List α):Prop:=
 (c=.nils∧l=[])∨∃b off cap ex,c=.slc b off l.length cap ex∧∀i x,l[i]? = some x→∃o ds,h.t.get b=some o∧rd st (off+i*st) o=some ds∧R h ds x
theorem zqW{cs:List Zc}{i:Nat}{c:Zc}(h:cut 1 cs i=some [c]):vP cs i=some c:=by rw[y9];have:=(qa h).2 0 c rfl;omega
theorem zr5{o:Zf}{off:Nat}{c:Zc}{h:Za}(e:rd 1 off o=some [c]):loadAt none h off (some o)=some (.s (.one c),h):=by
 cases o with
 |cells cs st=>show kI h (vP cs off)=_;rw[zqW e];rfl
 |ro x f=>
  show kI h (f off)=_;simp only[rd,za7]at e;cases hf:f off with
  |none=>grind
  |some d=>rw[hf]at e;cases e;rfl
 |_=>cases e
end Go.CE
end
section
namespace Go.CE
theorem zbA:∀l:List Zc,takeN l.length l=some l
 | []=>rfl
 |c::l=>by simp only[Yzw,takeN,zbA l,xu]
theorem zdp(l:List Zc):cut l.length l 0=some l:=by
 cases l with
 |nil=>rfl
 |cons c l=>simp only[cut];exact zbA (c::l)
end Go.CE
end
section
namespace Go.CE
open Go.RowKit
section
variable (w:World)
def zvB:Value→List Addr
 | .slice (some a) 0 0=>[a]
 |_=>[]
def zwb:Obj→List Addr
 | .cells arr _ _=>arr.toList.flatMap zvB
 |_=>[]
def zbS(w:World):List Addr:=w.heap.toList.flatMap zwb
theorem zna{w:World}{b:Nat}{arr:Array Value}{e:TypeId}{fr:Nat×Nat}{i:Nat}{a:Addr}(h:w.heap[b]? = some (.cells arr e fr))(hi:arr[i]? = some (.slice (some a) 0 0)):a∈zbS w:=by
 unfold zbS;refine List.mem_flatMap.2 ⟨.cells arr e fr,?_,List.mem_flatMap.2 ⟨.slice (some a) 0 0,?_,by simp[zvB]⟩⟩
 ·grind
 ·grind
def qM(w:World)(k:Nat):Bool:=match w.heap[k]? with|some (.cells _ _ _)=>true|_=>false
theorem za4{w:World}{k:Nat}(h:qM w k=true):∃arr e fr,w.heap[k]? = some (.cells arr e fr):=by grind[qM]
theorem zhv{w:World}{k:Nat}(h:qM w k=true):k<w.heap.size:=by grind[za4]
def zrm(a:Addr):List Addr→Nat
 | []=>0
 |x::l=>if x=a then 0 else zrm a l+1
theorem zdg{a:Addr}:∀{l:List Addr},a∈l→l[zrm a l]? = some a
 | [],h=>by cases h
 |x::l,h=>by
  unfold zrm;by_cases hx:x=a
  ·grind
  ·rw[Yzc hx];rcases YzL.1 h with h|h
   ·grind
   ·rw[Yzl];exact zdg h
noncomputable def zi2(w:World):Value→Option Zc
 | .bool b=>some (.bool b)
 | .int k n=>some (.int k n)
 | .string s=>some (.str s)
 | .pointer none=>some .nilp
 | .pointer (some a)=>bif decide (a.block<w.heap.size∧a.spot=none) then some (.ptr (bn a.block) a.off) else none
 | .slice none len cap=>bif decide (len=0∧cap=0) then some .nils else none
 | .slice (some a) len cap=>
  bif decide (qM w a.block=true∧a.spot=none∧len≤cap) then some (.slc (bn a.block) a.off len cap true)
  else bif decide (len=0∧cap=0∧a∈zbS w) then some (.slc (bn (w.heap.size+zrm a (zbS w))) 0 0 0 true) else none
 | .map none=>some .nilm
 | .nilFunc=>some .nilf
 | .nilIface=>some .nili
 |_=>none
def φ0(w:World):Phi:=fun b=>
 if b.toNat<w.heap.size then⟨b.toNat,0,0,true,none⟩
 else match (zbS w)[b.toNat-w.heap.size]? with|some a=>⟨a.block,a.off,0,true,a.spot⟩|none=>⟨b.toNat,0,0,true,none⟩
theorem zab{b:BN}(h:b.toNat<w.heap.size):φ0 w b=⟨b.toNat,0,0,true,none⟩:=Yzd h
theorem zoY{i:Nat}{a:Addr}(h:(zbS w)[i]? = some a):φ0 w (bn (w.heap.size+i))=⟨a.block,a.off,0,true,a.spot⟩:=by simp_all[φ0,Yzc,zN]
theorem zge(b:BN):(φ0 w b).ok=true:=by grind[φ0]
noncomputable def zpo(w:World):Obj→Zf
 | .cells arr e fr=>.ro (some (.cells arr e fr)) (fun i=>(arr[i]?).bind (zi2 w))
 |_=>.dead
noncomputable def zmm(w:World)(k:Nat):Zf:=match w.heap[k]? with|some x=>zpo w x|none=>.dead
noncomputable def z9(w:World):Za:=⟨bn (w.heap.size+(zbS w).length),Tr.ofList .z ((List.range w.heap.size).map (zmm w)++(zbS w).map fun _=>.void) .nil⟩
theorem xF(b:BN):(z9 w).t.get b=if b.toNat<w.heap.size then some (zmm w b.toNat) else if b.toNat<w.heap.size+(zbS w).length then some .void else none:=by
 have e0:BN.z=bn 0:=rfl;show (Tr.ofList .z ((List.range w.heap.size).map (zmm w)++(zbS w).map fun _=>.void) .nil).get b=_;have:=vn ((List.range w.heap.size).map (zmm w)++(zbS w).map fun _=>Zf.void) 0 (.nil:Tr Zf) b.toNat;rw[xI,←e0]at this;rw[this];have hn:(Tr.nil:Tr Zf).get b=none:=by simp
 grind
theorem j5:(z9 w).n.toNat=w.heap.size+(zbS w).length:=zN _
theorem qw{b:BN}{arr:Array Value}{e:TypeId}{fr:Nat×Nat}(h:w.heap[b.toNat]? = some (.cells arr e fr)):(z9 w).t.get b=some (zpo w (.cells arr e fr)):=by
 rw[xF,Yzd (Lz7.1 h).1]
 grind[zmm]
theorem ziH{i:Nat}(h:i<(zbS w).length):(z9 w).t.get (bn (w.heap.size+i))=some .void:=by simp_all[xF,zN,Yzc]
theorem zoV{v:Value}{c:Zc}(h:zi2 w v=some c):zc (φ0 w) c=v∧wfC (φ0 w) (z9 w).n.toNat c:=by
 rw[j5];unfold zi2 at h;split at h
 ·cases h;trivial
 ·cases h;trivial
 ·cases h;trivial
 ·cases h;trivial
 ·rename_i a;by_cases hc:a.block<w.heap.size∧a.spot=none
  ·rw[decide_eq_true hc]at h;cases h;obtain⟨b,off,sp⟩:=a;obtain⟨h1,rfl⟩:=hc;have hp:=zab w (b:=bn b) (by grind[zN]);refine⟨?_,by rw[zN];omega,zge w _⟩;simp_all[zc,zhJ,zN]
  ·grind
 ·rename_i len cap;by_cases hc:len=0∧cap=0
  ·rw[decide_eq_true hc]at h;cases h;obtain⟨rfl,rfl⟩:=hc;trivial
  ·grind
 ·rename_i a len cap;by_cases hc:qM w a.block=true∧a.spot=none∧len≤cap
  ·rw[decide_eq_true hc]at h;cases h;obtain⟨b,off,sp⟩:=a;obtain⟨h1,rfl,h3⟩:=hc;have h1:=zhv h1;have hp:=zab w (b:=bn b) (by grind[zN]);refine⟨?_,⟨by rw[zN];omega,zge w _⟩,fun hh=>(by cases hh),fun _=>h3⟩;simp_all[zc,zhJ,zN]
  ·rw[decide_eq_false hc,Yzb]at h;by_cases hc2:len=0∧cap=0∧a∈zbS w
   ·rw[decide_eq_true hc2]at h;cases h;obtain⟨rfl,rfl,hm⟩:=hc2;have hi:=zdg hm;have hlt:=(Lz0.1 hi).1;have hp:=zoY w hi;refine⟨?_,⟨by grind[zN],zge w _⟩,fun hh=>(by cases hh),fun _=>LzB _⟩;rw[zc,Yza];unfold adr;rw[hp];rfl
   ·grind
 ·cases h;trivial
 ·cases h;trivial
 ·cases h;trivial
 ·cases h
theorem zeo:HW (z9 w):=fun b o hb=>by
 rw[xF]at hb;rw[j5]
 grind
def SW(w:World)(k:Nat):Prop:=∃arr e fr,w.heap[k]? = some (.cells arr e fr)
theorem zam{k:Nat}(hl:live (zmm w k)):∃arr e fr,w.heap[k]? = some (.cells arr e fr)∧zmm w k=zpo w (.cells arr e fr):=by
 unfold zmm at hl ⊢;split at hl
 ·rename_i x hx;cases x with
  |cells arr e fr=>grind
  |_=>exact hl.elim
 ·trivial
theorem ziG(hG:GOk w):Zd w (SW w) (φ0 w) (z9 w) w:=by
 refine⟨zeo w,fun b o hb=>zge w b,fun b o hb=>?_,fun b b' o o' hb hb' hl hl' hh=>?_,fun b o hb hl=>?_,rfl,rfl,rfl,LzB _,LzB _,fun _ _ _=>rfl,hG,fun b o hb hl=>?_,fun b o hb hl=>?_⟩
 ·rw[xF]at hb;by_cases hlt:b.toNat<w.heap.size
  ·rw[Yzd hlt]at hb;cases hb;have hp:=zab w hlt;by_cases hl:live (zmm w b.toNat)
   ·obtain⟨arr,e,fr,hx,hr⟩:=zam w hl;rw[hr];refine⟨fun y hy=>by grind,arr,e,fr,by grind,fun i c hc=>?_⟩
    replace hc:(arr[i]?).bind (zi2 w)=some c:=hc
    cases ha:arr[i]? with
    |none=>grind
    |some v=>
     rw[ha]at hc;obtain⟨k1,k2⟩:=zoV w hc
     grind
   ·generalize zmm w b.toNat=o at hl;cases o with
    |dead=>trivial
    |void=>trivial
    |_=>exact absurd trivial hl
  ·rw[Yzc hlt]at hb;by_cases h2:b.toNat<w.heap.size+(zbS w).length
   ·rw[Yzd h2]at hb;cases hb;trivial
   ·grind
 ·have k1:=lt_live hb hl;have k2:=lt_live hb' hl'
  grind[zab,xI]
 ·have k1:=lt_live hb hl;rw[zab w k1];rw[xF,Yzd k1]at hb;cases hb;obtain⟨arr,e,fr,h2,_⟩:=zam w hl;exact .inl ⟨arr,e,fr,h2⟩
 ·rw[zab w (lt_live hb hl)]
 ·have k1:=lt_live hb hl.live;rw[xF,Yzd k1]at hb;cases hb;obtain⟨arr,e,fr,_,h2⟩:=zam w hl.live;rw[h2]at hl;trivial
where
 lt_live {b:BN} {o:Zf} (hb:(z9 w).t.get b=some o) (hl:live o):b.toNat<w.heap.size:=by
  rw[xF]at hb;by_cases hlt:b.toNat<w.heap.size
  ·exact hlt
  ·rw[Yzc hlt]at hb;by_cases h2:b.toNat<w.heap.size+(zbS w).length
   ·rw[Yzd h2]at hb;cases hb;trivial
   ·grind
theorem zf2{P:Program}{call:zb}(C:yW P call)(hG:GOk w){f:Nat}{args:List Zb}{v:Zb}{h2:Za}(ha:∀x∈args,wfA (φ0 w) (z9 w).n.toNat x)(e:call (.inl f) args (z9 w)=some (v,h2))(hg:Gr (z9 w) h2):
  CallsIn (FR none) 0 P f (args.map (zj (φ0 w))).toArray w (fun e w2=>∃φ,e=.returned (zj φ v)∧Below w.heap.size w w2):=by
 refine ((C w _ _ _ w args v h2 (ziG w hG) ha).1 f e).2.mono ?_
 rintro e9 w9 ⟨φ2,rfl,he,H2,_,_⟩
 refine⟨φ2,rfl,H2.os,H2.tape,H2.output,H2.size,fun k hk=>?_⟩;by_cases hc:SW w k
 ·obtain⟨arr,e,fr,hc⟩:=hc;have hb:(z9 w).t.get (bn k)=some (zpo w (.cells arr e fr)):=qw w (by grind[zN]);have hn:(bn k).toNat<(z9 w).n.toNat:=by grind[j5,zN]
  have hb2:=(hg.old _ hn).trans hb;obtain⟨h1,_⟩:=H2.obj _ _ hb2;have h1:=h1 _ rfl;rw[he _ hn,zab w (by grind[zN])]at h1
  grind[zN]
 ·exact H2.kept k hk hc
end
end Go.CE
end
section
namespace Go.CE
open Go Go.ChangeShapes Go.WideShapes Go.ChangeAt Go.RowKit
theorem zhB{w:World}{b off:Nat}{v:Value}(h:w.cell? ⟨b,off,none⟩=some v):∃arr e fr,w.heap[b]? = some (.cells arr e fr)∧arr[off]? = some v:=by
 unfold World.cell? at h
 grind
def zsI(k:IntKind)(n:Nat):DataW Unit:=.lit (.int k (n:Int))
theorem zej{P:Program}{w:World}{nm:String}{g:Nat}{t e:TypeId}{n:Nat}{k:IntKind}{ns:List Nat}{cs:Array Value}{fuel:Nat}{q:List MemPlace}
  (hg:P.globalNamed nm=some g) (ht:P.underlying t=some (.array n e)) (he:P.underlying e=some (.int k)) (hc:P.cellsOf e=1) (hv:w.var? P nm=some cs)
  (h:DataW.trod (fun _=>()) P w 0 (fun _=>true) false fuel t cs.toList=some (.agg (ns.map (zsI k)),q)) {off m:Nat} (hm:ns[off]? = some m):
  ∃arr ty fr,w.heap[g]? = some (.cells arr ty fr)∧arr[off]? = some (.int k (m:Int)):=by
 obtain⟨xs,m1,rfl,hx1,hlen,hn,hel⟩:=DataW.trod_array ht h;simp only[Prod.mk.injEq,DataW.agg.injEq]at hx1;have hxl:xs.length=ns.length:=by have:=congrArg List.length hx1.1;grind
 have hoff:off<ns.length:=(Lz0.1 hm).1;have h0:=hel off (by omega);obtain⟨x,hx⟩:∃x,xs[off]? = some x:=⟨_,Lz5 (by omega)⟩;rw[hx,hc,Nat.mul_one]at h0;obtain⟨r,e1,e2,_⟩:=DataW.trod_int he h0;have e3:x.1=zsI k m:=by
  have h1:(xs.map (·.1))[off]? = some x.1:=by grind
  grind
 have hr:r=(m:Int):=by grind[zsI]
 subst hr;have h2:cs.toList[off]? = some (.int k (m:Int)):=by
  have:((cs.toList.drop off).take 1)[0]? = some (.int k (m:Int)):=by grind
  grind
 refine zhB ?_
 grind[World.var?_cell]
theorem zgW:∀(l:List Nat) (i:Nat),zsx l i=l[i]?
 | [],i=>by simp[zsx]
 |x::l,0=>rfl
 |x::l,i+1=>by show zsx l i=_;rw[zgW l i];simp
theorem zoL{w:World}{g:Nat}{k:IntKind}{ns:List Nat}(hg:kV g=some (k,ns))(H:∀(off m:Nat),ns[off]? = some m→∃arr ty fr,w.heap[g]? = some (.cells arr ty fr)∧arr[off]? = some (.int k (m:Int)))
  {off:Nat} {c:Zc} (h:zbv g off=some c):∃arr e fr,w.heap[g]? = some (.cells arr e fr)∧∀φ,arr[off]? = some (zc φ c):=by
 unfold zbv at h;rw[hg]at h;simp only[zgW]at h;cases hm:ns[off]? with
 |none=>grind
 |some m=>rw[hm]at h;cases h;obtain⟨arr,ty,fr,h1,h2⟩:=H off m hm;exact⟨arr,ty,fr,h1,fun φ=>h2⟩
end Go.CE
end
section
namespace Go.PE
open Go Go.CE
inductive DV where
 |bool (b:Bool)
 |int (k:IntKind) (n:Int)
 |str (s:ByteArray)
 |nils
 |lst (st:Nat) (xs:List (List DV))
 |fp (xs:List DV) (off:Nat)
 |fn (f:Nat) (caps:List (List DV))
 |nilf
 |nilp
 |nilm
 |nili
 |u
inductive DS where
 |one (d:DV)
 |agg (ds:List DV)
inductive DA where
 |s (d:DS)
 |tup (l:List DS)
def DS.cells:DS→List DV
 | .one d=>[d]
 | .agg ds=>ds
inductive Rep (fz:BN→Prop) (h:Za):Zc→DV→Prop
 |bool (b:Bool):Rep fz h (.bool b) (.bool b)
 |int (k:IntKind) (n:Int):Rep fz h (.int k n) (.int k n)
 |str (s:ByteArray):Rep fz h (.str s) (.str s)
 |nils:Rep fz h .nils .nils
 |nilf:Rep fz h .nilf .nilf
 |nilp:Rep fz h .nilp .nilp
 |nilm:Rep fz h .nilm .nilm
 |nili:Rep fz h .nili .nili
 |u (c:Zc):Rep fz h c .u
 |lst {b:BN} {o:Zf} {off cap:Nat} {ex:Bool} {st:Nat} {xs:List (List DV)} (cs:List Zc) (hb:fz b) (hg:h.t.get b=some o) (hc:ex=true→xs.length≤cap)
   (ha:rd (xs.length*st) off o=some cs) (h1:∀(i:Nat) (x:List DV),xs[i]? = some x→x.length=st)
   (h2:∀(i:Nat) (x:List DV) (j:Nat) (c:Zc) (d:DV),xs[i]? = some x→cs[i*st+j]? = some c→x[j]? = some d→Rep fz h c d):Rep fz h (.slc b off xs.length cap ex) (.lst st xs)
 |fp {b:BN} {o:Zf} {base:Nat} {xs:List DV} {off:Nat} (cs:List Zc) (hb:fz b) (hg:h.t.get b=some o) (h1:rd xs.length base o=some cs)
   (h2:∀(j:Nat) (c:Zc) (d:DV),cs[j]? = some c→xs[j]? = some d→Rep fz h c d):Rep fz h (.ptr b (base+off)) (.fp xs off)
 |fn {f:Nat} {ps:List (BN×Nat)} {caps:List (List DV)} (css:Nat→List Zc) (os:Nat→Zf) (hl:ps.length=caps.length)
   (h1:∀(i:Nat) (p:BN×Nat) (x:List DV),ps[i]? = some p→caps[i]? = some x→fz p.1∧h.t.get p.1=some (os i)∧rd x.length p.2 (os i)=some (css i))
   (h2:∀(i:Nat) (p:BN×Nat) (x:List DV) (j:Nat) (c:Zc) (d:DV),ps[i]? = some p→caps[i]? = some x→(css i)[j]? = some c→x[j]? = some d→Rep fz h c d):Rep fz h (.fn f ps) (.fn f caps)
structure FG (fz:BN→Prop) (h:Za) (fz':BN→Prop) (h':Za):Prop where
 sub:∀b o,fz b→h.t.get b=some o→fz' b
 old:∀b o,fz b→h.t.get b=some o→h'.t.get b=some o
theorem FG.refl(fz:BN→Prop)(h:Za):FG fz h fz h:=⟨fun _ _ h _=>h,fun _ _ _ h=>h⟩
theorem FG.trans{f1 f2 f3:BN→Prop}{h1 h2 h3:Za}(a:FG f1 h1 f2 h2)(b:FG f2 h2 f3 h3):FG f1 h1 f3 h3:=⟨fun x o hx ho=>b.sub x o (a.sub x o hx ho) (a.old x o hx ho),fun x o hx ho=>b.old x o (a.sub x o hx ho) (a.old x o hx ho)⟩
theorem Rep.mono{fz fz':BN→Prop}{h h':Za}(g:FG fz h fz' h'){c:Zc}{d:DV}(H:Rep fz h c d):Rep fz' h' c d:=by
 induction H with
 |bool b=>exact .bool b
 |int k n=>exact .int k n
 |str s=>exact .str s
 |nils=>exact .nils
 |nilf=>exact .nilf
 |nilp=>exact .nilp
 |nilm=>exact .nilm
 |nili=>exact .nili
 |u c=>exact .u c
 |lst cs hb hg hc ha h1 h2 ih=>exact .lst cs (g.sub _ _ hb hg) (g.old _ _ hb hg) hc ha h1 ih
 |fp cs hb hg h1 h2 ih=>exact .fp cs (g.sub _ _ hb hg) (g.old _ _ hb hg) h1 ih
 |fn css os hl h1 h2 ih=>exact .fn css os hl (fun i p x hp hx=>by obtain⟨a,b,c⟩:=h1 i p x hp hx;exact⟨g.sub _ _ a b,g.old _ _ a b,c⟩) ih
def RepL(fz:BN→Prop)(h:Za)(cs:List Zc)(ds:List DV):Prop:=cs.length=ds.length∧∀(j:Nat) (c:Zc) (d:DV),cs[j]? = some c→ds[j]? = some d→Rep fz h c d
theorem RepL.mono{fz fz':BN→Prop}{h h':Za}(g:FG fz h fz' h'){cs:List Zc}{ds:List DV}(H:RepL fz h cs ds):RepL fz' h' cs ds:=⟨H.1,fun j c d a b=>(H.2 j c d a b).mono g⟩
theorem RepL.nil(fz:BN→Prop)(h:Za):RepL fz h [] []:=⟨rfl,fun j c d a=>by simp at a⟩
theorem RepL.cons{fz:BN→Prop}{h:Za}{c:Zc}{d:DV}{cs:List Zc}{ds:List DV}(a:Rep fz h c d)(b:RepL fz h cs ds):RepL fz h (c::cs) (d::ds):=by
 refine⟨by simp[b.1],fun j c' d' hc hd=>?_⟩;cases j with
 |zero=>grind
 |succ j=>simp only[Yzl]at hc hd;exact b.2 j c' d' hc hd
theorem RepL.inv{fz:BN→Prop}{h:Za}{c:Zc}{d:DV}{cs:List Zc}{ds:List DV}(H:RepL fz h (c::cs) (d::ds)):Rep fz h c d∧RepL fz h cs ds:=
 ⟨H.2 0 c d rfl rfl,by have:=H.1;grind,fun j c' d' hc hd=>H.2 (j+1) c' d' (by trivial) (by trivial)⟩
theorem RepL.app{fz:BN→Prop}{h:Za}{cs cs':List Zc}{ds ds':List DV}(a:RepL fz h cs ds)(b:RepL fz h cs' ds'):RepL fz h (cs++cs') (ds++ds'):=by
 refine⟨by simp[a.1,b.1],fun j c d hc hd=>?_⟩;by_cases hj:j<cs.length
 ·rw[Lz2 hj]at hc;rw[Lz2 (by have:=a.1;omega)]at hd;exact a.2 j c d hc hd
 ·rw[Lz8 (by omega)]at hc;rw[Lz8 (by have:=a.1;omega),←a.1]at hd;exact b.2 _ c d hc hd
theorem RepL.sub{fz:BN→Prop}{h:Za}{cs:List Zc}{ds:List DV}(a:RepL fz h cs ds)(i n:Nat):RepL fz h ((cs.drop i).take n) ((ds.drop i).take n):=by
 refine⟨by simp[a.1],fun j c d hc hd=>?_⟩;rw[YzA]at hc hd;split at hc
 ·rename_i hj;rw[Yzd hj]at hd;rw[Yzm]at hc hd;exact a.2 _ c d hc hd
 ·cases hc
theorem RepL.set{fz:BN→Prop}{h:Za}{cs cs':List Zc}{ds ds':List DV}(a:RepL fz h cs ds)(b:RepL fz h cs' ds')(i:Nat):
  RepL fz h (cs.take i++cs'++cs.drop (i+cs'.length)) (ds.take i++ds'++ds.drop (i+ds'.length)):=by
 grind[RepL]
def RepS(fz:BN→Prop)(h:Za):SVal→DS→Prop
 | .one c,.one d=>Rep fz h c d
 | .agg cs,.agg ds=>RepL fz h cs ds
 |_,_=>False
theorem RepS.mono{fz fz':BN→Prop}{h h':Za}(g:FG fz h fz' h'){c:SVal}{d:DS}(H:RepS fz h c d):RepS fz' h' c d:=by
 cases c<;>cases d<;>simp only[RepS]at H ⊢
 ·exact H.mono g
 ·exact H.mono g
def RepSL(fz:BN→Prop)(h:Za):List SVal→List DS→Prop
 | [],[]=>True
 |c::cs,d::ds=>RepS fz h c d∧RepSL fz h cs ds
 |_,_=>False
theorem RepSL.mono{fz fz':BN→Prop}{h h':Za}(g:FG fz h fz' h'):∀{c:List SVal} {d:List DS},RepSL fz h c d→RepSL fz' h' c d
 | [],[],_=>trivial
 |_::_,_::_,H=>⟨H.1.mono g,RepSL.mono g H.2⟩
 | [],_::_,H=>H.elim
 |_::_,[],H=>H.elim
def RepA(fz:BN→Prop)(h:Za):Zb→DA→Prop
 | .s c,.s d=>RepS fz h c d
 | .tup cs,.tup ds=>RepSL fz h cs ds
 |_,_=>False
theorem RepA.of{fz:BN→Prop}{h:Za}{c:SVal}{d:DS}(H:RepS fz h c d):RepA fz h (.s c) (.s d):=H
theorem RepA.inv{fz:BN→Prop}{h:Za}{v:Zb}{d:DS}(H:RepA fz h v (.s d)):∃w,v=.s w∧RepS fz h w d:=by
 cases v with
 |s v=>exact⟨_,rfl,H⟩
 |tup l=>trivial
theorem RepA.mono{fz fz':BN→Prop}{h h':Za}(g:FG fz h fz' h'){c:Zb}{d:DA}(H:RepA fz h c d):RepA fz' h' c d:=by
 cases d with
 |s d=>obtain⟨w,rfl,hw⟩:=H.inv;exact .of (hw.mono g)
 |tup ds=>
  cases c with
  |s c=>trivial
  |tup cs=>exact RepSL.mono g H
def RepAL(fz:BN→Prop)(h:Za):List Zb→List DA→Prop
 | [],[]=>True
 |c::cs,d::ds=>RepA fz h c d∧RepAL fz h cs ds
 |_,_=>False
theorem RepAL.mono{fz fz':BN→Prop}{h h':Za}(g:FG fz h fz' h'):∀{c:List Zb} {d:List DA},RepAL fz h c d→RepAL fz' h' c d
 | [],[],_=>trivial
 |_::_,_::_,H=>⟨H.1.mono g,RepAL.mono g H.2⟩
 | [],_::_,H=>H.elim
 |_::_,[],H=>H.elim
theorem RepAL.app{fz:BN→Prop}{h:Za}:∀{c c':List Zb} {d d':List DA},RepAL fz h c d→RepAL fz h c' d'→RepAL fz h (c++c') (d++d')
 | [],_,[],_,_,H=>H
 |_::_,_,_::_,_,H,K=>⟨H.1,RepAL.app H.2 K⟩
 | [],_,_::_,_,H,_=>H.elim
 |_::_,_,[],_,H,_=>H.elim
theorem za6:∀(cs:List Zc) (n i:Nat),i+n≤cs.length→cut n cs i=some ((cs.drop i).take n):=by
 have tk:∀(n:Nat) (cs:List Zc),n≤cs.length→takeN n cs=some (cs.take n):=by
  intro n
  induction n with
  |zero=>grind[takeN]
  |succ n ih=>intro cs h;cases cs<;>grind[takeN,xu]
 intro cs
 induction cs with
 |nil=>intro n i h;simp at h;obtain⟨rfl,rfl⟩:=h;rfl
 |cons c cs ih=>
  intro n i h;cases i with
  |zero=>
   show takeN n (c::cs)=_
   grind
  |succ i=>
   show cut n cs i=_
   grind
theorem zfW{f:Nat→Option Zc}:∀{n i:Nat} {l:List Zc},l.length=n→(∀j c,l[j]? = some c→f (i+j)=some c)→za7 f n i=some l:=by
 intro n
 induction n with
 |zero=>intro i l hl _;rw[List.length_eq_zero_iff.1 hl];rfl
 |succ n ih=>
  intro i l hl H;cases l with
  |nil=>simp at hl
  |cons c l=>
   have h0:=H 0 c rfl;simp only[Yzx]at h0;have h1:=ih (i:=i+1) (l:=l) (by grind) (fun j d hd=>by have:=H (j+1) d (by trivial);grind)
   grind[za7,xu]
theorem zcG{n off:Nat}{cs:List Zc}(h:rd n off .void=some cs):n=0∧cs=[]:=by have h:(bif Nat.beq n 0 then some [] else none)=some cs:=h;cases hn:Nat.beq n 0<;>simp_all
theorem zbO{n off:Nat}{o:Zf}{cs:List Zc}(h:rd n off o=some cs):cs.length=n:=by
 cases o with
 |void=>obtain⟨rfl,rfl⟩:=zcG h;rfl
 |cells l st=>exact(qa h).1
 |ro x f=>exact(kC h).1
 |_=>cases h
theorem zbN{n base:Nat}{o:Zf}{cs:List Zc}(h:rd n base o=some cs){off m:Nat}(hm:off+m≤n):rd m (base+off) o=some ((cs.drop off).take m):=by
 cases o with
 |void=>
  obtain⟨rfl,rfl⟩:=zcG h
  grind
 |cells l st=>
  obtain⟨rfl,h2⟩:=zhw n l base cs h;show cut m l (base+off)=_
  grind[za6,List.drop_take,YzD]
 |ro x f=>
  obtain⟨h1,h2⟩:=kC h;refine zfW (by simp;omega) fun j c hc=>?_
  grind
 |_=>cases h
theorem zps{n off:Nat}{o:Zf}{cs:List Zc}(h':Za)(h:rd n off o=some cs)(h0:n≠0∨o≠.void):loadAt (some n) h' off (some o)=some (.s (.agg cs),h'):=by
 cases o with
 |void=>
  obtain⟨rfl,_⟩:=zcG h
  grind
 |cells l st=>show zcC h' (cut n l off)=_;rw[show cut n l off=some cs from h];rfl
 |ro x f=>show zcC h' (za7 f n off)=_;rw[show za7 f n off=some cs from h];rfl
 |_=>cases h
theorem zmU{n base:Nat}{o:Zf}{cs:List Zc}(h':Za)(h:rd n base o=some cs){off:Nat}{c:Zc}(hc:cs[off]? = some c):loadAt none h' (base+off) (some o)=some (.s (.one c),h'):=by
 have hl:=(Lz0.1 hc).1;have e:=zbN h (off:=off) (m:=1) (by grind[zbO])
 grind[zr5,List.take_one,List.head?_drop]
def DV.scal:DV→Option Zc
 | .bool b=>some (.bool b)
 | .int k n=>some (.int k n)
 | .str s=>some (.str s)
 | .nils=>some .nils
 | .nilf=>some .nilf
 | .nilp=>some .nilp
 | .nilm=>some .nilm
 | .nili=>some .nili
 |_=>none
theorem Rep.scal{fz:BN→Prop}{h:Za}{c:Zc}{d:DV}(H:Rep fz h c d){c':Zc}(e:d.scal=some c'):c=c':=by cases H<;>simp only[DV.scal]at e<;>first|cases e;rfl|cases e
theorem Rep.ofScal{fz:BN→Prop}{h:Za}{d:DV}{c:Zc}(e:d.scal=some c):Rep fz h c d:=by
 cases d<;>simp only[DV.scal]at e<;>cases e
 ·exact .bool _
 ·exact .int _ _
 ·exact .str _
 ·exact .nils
 ·exact .nilf
 ·exact .nilp
 ·exact .nilm
 ·exact .nili
theorem Rep.lst_inv{fz:BN→Prop}{h:Za}{c:Zc}{st:Nat}{xs:List (List DV)}(H:Rep fz h c (.lst st xs)):
  ∃b o off cap ex cs,c=.slc b off xs.length cap ex∧fz b∧h.t.get b=some o∧(ex=true→xs.length≤cap)∧rd (xs.length*st) off o=some cs∧
   ∀(i:Nat) (x:List DV),xs[i]? = some x→x.length=st∧RepL fz h ((cs.drop (i*st)).take st) x:=by
 cases H with
 |lst cs hb hg hc ha h1 h2=>
  refine⟨_,_,_,_,_,cs,rfl,hb,hg,hc,ha,fun i x hx=>⟨h1 i x hx,?_,fun j c d hc hd=>?_⟩⟩
  ·have hi:=(Lz0.1 hx).1;have:(i+1)*st≤xs.length*st:=Yzg st hi
   grind[zbO]
  ·grind
theorem Rep.lst_mk{fz:BN→Prop}{h:Za}{b:BN}{o:Zf}{off cap:Nat}{ex:Bool}{st:Nat}{xs:List (List DV)}{cs:List Zc}(hb:fz b)(hg:h.t.get b=some o)(hc:ex=true→xs.length≤cap)
  (ha:rd (xs.length*st) off o=some cs) (H:∀(i:Nat) (x:List DV),xs[i]? = some x→x.length=st∧RepL fz h ((cs.drop (i*st)).take st) x):Rep fz h (.slc b off xs.length cap ex) (.lst st xs):=by
 refine .lst cs hb hg hc ha (fun i x hx=>(H i x hx).1) (fun i x j c d hx hcs hd=>(H i x hx).2.2 j c d ?_ hd)
 grind
theorem Rep.fp_inv{fz:BN→Prop}{h:Za}{c:Zc}{xs:List DV}{off:Nat}(H:Rep fz h c (.fp xs off)):
  ∃b o base cs,c=.ptr b (base+off)∧fz b∧h.t.get b=some o∧rd xs.length base o=some cs∧RepL fz h cs xs:=by
 cases H with
 |fp cs hb hg h1 h2=>exact⟨_,_,_,cs,rfl,hb,hg,h1,zbO h1,h2⟩
theorem Rep.fp_mk{fz:BN→Prop}{h:Za}{b:BN}{o:Zf}{base:Nat}{cs:List Zc}{xs:List DV}{off:Nat}(hb:fz b)(hg:h.t.get b=some o)(h1:rd xs.length base o=some cs)(h2:RepL fz h cs xs):
  Rep fz h (.ptr b (base+off)) (.fp xs off):=.fp cs hb hg h1 h2.2
theorem Rep.fn_inv{fz:BN→Prop}{h:Za}{c:Zc}{f:Nat}{caps:List (List DV)}(H:Rep fz h c (.fn f caps)):
  ∃ps,c=.fn f ps∧RepL fz h (ps.map fun p=>.ptr p.1 p.2) (caps.map fun x=>.fp x 0):=by
 cases H with
 |fn css os hl h1 h2=>refine⟨_,rfl,by simp[hl],fun j c d hc hd=>?_⟩;simp only[Lz6,Yz2]at hc hd;obtain⟨p,hp,rfl⟩:=hc;obtain⟨x,hx,rfl⟩:=hd;obtain⟨a,b,c⟩:=h1 j p x hp hx;exact .fp (base:=p.2) (off:=0) (css j) a b c (fun i c d hc hd=>h2 j p x i c d hp hx hc hd)
theorem Rep.fn_mk{fz:BN→Prop}{h:Za}{f:Nat}{ps:List (BN×Nat)}{caps:List (List DV)}(H:RepL fz h (ps.map fun p=>.ptr p.1 p.2) (caps.map fun x=>.fp x 0)):Rep fz h (.fn f ps) (.fn f caps):=by
 have hl:ps.length=caps.length:=by simpa using H.1
 have:∀i:Nat,∃q:List Zc×Zf,∀(p:BN×Nat) (x:List DV),ps[i]? = some p→caps[i]? = some x→fz p.1∧h.t.get p.1=some q.2∧rd x.length p.2 q.2=some q.1∧RepL fz h q.1 x:=by
  intro i;cases hp:ps[i]? with
  |none=>exact⟨([],.dead),fun p x hp'=>by cases hp'⟩
  |some p=>
   cases hx:caps[i]? with
   |none=>grind
   |some x=>have:=H.2 i (.ptr p.1 p.2) (.fp x 0) (by simp[hp]) (by simp[hx]);obtain⟨b,o,base,cs,e,a1,a2,a3,a4⟩:=this.fp_inv;simp_all
 obtain⟨q,hq⟩:=Classical.axiomOfChoice this;exact .fn (fun i=>(q i).1) (fun i=>(q i).2) hl (fun i p x hp hx=>⟨(hq i p x hp hx).1,(hq i p x hp hx).2.1,(hq i p x hp hx).2.2.1⟩) (fun i p x j c d hp hx hc hd=>(hq i p x hp hx).2.2.2.2 j c d hc hd)
end Go.PE
end
