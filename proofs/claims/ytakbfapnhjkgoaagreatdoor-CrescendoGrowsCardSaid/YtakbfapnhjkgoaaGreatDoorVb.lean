/-
  Lemmas. No condition.
-/
import Derived.Test.YtakbfapnhjkgoaaGreatDoorVa
import Derived.RangeFuncRecord
import Derived.RangeFuncNested
import Derived.LoopNIn
import Derived.OrdersIn
import Derived.RangeFuncLeaves
import Derived.RangeFuncIn
import Derived.Laws.Sem
import Derived.ProofKit
import Derived.OpenShut
import Derived.FnData
import Derived.MakeChecks
section
namespace Go.CE
open Go.RowKit
def zAw:Zg→Exit
 | .normal=>.normal
 | .exit id=>.exit id
 | .ret=>.ret
def marks(φ:Phi)(d:List BN):List Deferred:=d.map fun b=>{ target:=.collected (φ b).blk,args:=#[] }
structure Zt (w0:World) (S:Nat→Prop) (φ:Phi) (nt:Nat) (s:St) (a:Act) (w:World):Prop where
 H:Zd w0 S φ s.h w
 T:Zh φ nt s.h.n.toNat s.t a.tmps
 D:a.defers=marks φ s.d
 dn:∀b∈s.d,okB φ s.h.n.toNat b
def After(w0:World)(S:Nat→Prop)(φ:Phi)(nt:Nat)(h:Za)(s2:St)(a2:Act)(w2:World):Prop:=
 ∃φ2,Ext h.n.toNat φ φ2∧Zt w0 S φ2 nt s2 a2 w2∧h.n.toNat≤s2.h.n.toNat
def RoRel(φ:Phi)(n:Nat):Option BN→Option Nat→Prop
 |none,ro=>ro=none
 |some l,ro=>ro=some (φ l).blk∧okB φ n l
theorem RoRel.ext{φ φ2:Phi}{n m:Nat}{round:Option BN}{ro:Option Nat}(h:RoRel φ n round ro)(he:Ext n φ φ2)(hn:n≤m):RoRel φ2 m round ro:=by
 cases round with
 |none=>exact h
 |some l=>exact⟨by rw[he l h.2.1];exact h.1,okB.ext he hn h.2⟩
theorem zc8{φ φ2:Phi}{n:Nat}(he:Ext n φ φ2){d:List BN}(hd:∀b∈d,okB φ n b):marks φ2 d=marks φ d:=
 YzO fun b hb=>by rw[he b (hd b hb).1]
theorem After.trans{w0:World}{S:Nat→Prop}{φ φ1:Phi}{nt:Nat}{h h1:Za}{s2:St}{a2:Act}{w2:World}(he:Ext h.n.toNat φ φ1)(hn:h.n.toNat≤h1.n.toNat)(hA:After w0 S φ1 nt h1 s2 a2 w2):After w0 S φ nt h s2 a2 w2:=by obtain⟨φ2,he2,hs,hle⟩:=hA;exact⟨φ2,he.trans he2 hn,hs,Yzn hn hle⟩
section
variable {P:Program} {w0:World} {S:Nat→Prop} {nt:Nat} {call:zg}
def uA(P:Program)(w0:World)(S:Nat→Prop)(nt:Nat)(call:zg)(c:Code):Prop:=
 ∀(f fn:Nat) (round:Option BN) (ro:Option Nat) (φ:Phi) (s s2:St) (e:Zg) (a:Act) (w:World) (Q:Exit→Act→World→Prop),zQ P nt c call f fn round s=some (e,s2)→Zt w0 S φ nt s a w→RoRel φ s.h.n.toNat round ro→
  (∀a2 w2,After w0 S φ nt s.h s2 a2 w2→Q (zAw e) a2 w2)→c.wpIn (FR ro) 0 P Q a w
theorem Zt.after{φ:Phi}{s:St}{a:Act}{w:World}(R:Zt w0 S φ nt s a w):After w0 S φ nt s.h s a w:=⟨φ,Ext.refl _ _,R,LzB _⟩
theorem zbj{φ:Phi}{s:St}{a a2:Act}{w w2:World}{t2:Tr Zb}{h2:Za}(R:Zt w0 S φ nt s a w)(hn:Next1 w0 S φ nt s.h t2 h2 a a2 w2):After w0 S φ nt s.h ⟨t2,s.d,h2⟩ a2 w2:=by obtain⟨φ2,he,H2,T2,hd,hle⟩:=hn;exact⟨φ2,he,⟨H2,T2,by rw[hd,R.D,zc8 he R.dn],fun b hb=>okB.ext he hle (R.dn b hb)⟩,hle⟩
theorem znI(C:yU P call)(id:Nat)(ops:Array Oper):uA P w0 S nt call (.region id ops false):=by
 intro f fn round ro φ s s2 e a w Q hc R hr hQ;have hc:zyU (ops.toList.map (yS P nt ops)) call f fn round s=some (e,s2):=hc;obtain⟨t,d,h⟩:=s;simp only[zyU]at hc;cases he:zl4 call (ops.toList.map (yS P nt ops)) t h with
 |none=>rw[he]at hc;cases hc
 |some p=>obtain⟨t2,h2⟩:=p;rw[he]at hc;cases hc;exact wpIn_region_list (znG C ops.toList R.H R.T he fun a2 w2 hn=>hQ a2 w2 (zbj R hn))
theorem zwc{x y:Code}(hx:uA P w0 S nt call x)(hy:uA P w0 S nt call y):uA P w0 S nt call (.seq x y):=by
 intro f fn round ro φ s s2 e a w Q hc R hr hQ;have hc:zvz call f fn round (zQ P nt y) (zQ P nt x call f fn round s)=some (e,s2):=hc;cases h1:zQ P nt x call f fn round s with
 |none=>rw[h1]at hc;cases hc
 |some p=>
  obtain⟨e1,s1⟩:=p;rw[h1]at hc;refine wpIn_seq (hx f fn round ro φ s s1 e1 a w _ h1 R hr fun a1 w1 hA=>?_);cases e1 with
  |normal=>obtain⟨φ1,he1,R1,hle1⟩:=hA;show y.wpIn (FR ro) 0 P Q a1 w1;exact hy f fn round ro φ1 s1 s2 e a1 w1 Q hc R1 (hr.ext he1 hle1) fun a2 w2 hA2=>hQ a2 w2 (hA2.trans he1 hle1)
  |exit id=>cases hc;exact hQ a1 w1 hA
  |ret=>cases hc;exact hQ a1 w1 hA
theorem ztz{c:Operand}{x y:Code}(hx:uA P w0 S nt call x)(hy:uA P w0 S nt call y):uA P w0 S nt call (.cond c x y):=by
 intro f fn round ro φ s s2 e a w Q hc R hr hQ;cases hf:zZ c with
 |none=>simp only[zQ,hf]at hc;cases hc
 |some g=>
  simp only[zQ,hf]at hc;obtain⟨t,d,h⟩:=s;simp only[zuL]at hc;split at hc
  ·rename_i q hq;have ho:=(zl R.T hf).1;simp only at ho;rw[hq]at ho;refine wpIn_cond (t:=q) ho ?_;cases q
   ·exact hy f fn round ro φ _ s2 e a w Q hc R hr hQ
   ·exact hx f fn round ro φ _ s2 e a w Q hc R hr hQ
  ·cases hc
theorem zqK{id:Nat}{x:Code}(hx:uA P w0 S nt call x):uA P w0 S nt call (.block id x):=by
 intro f fn round ro φ s s2 e a w Q hc R hr hQ;have hc:zy0 id (zQ P nt x call f fn round s)=some (e,s2):=hc;cases h1:zQ P nt x call f fn round s with
 |none=>rw[h1]at hc;cases hc
 |some p=>
  obtain⟨e1,s1⟩:=p;rw[h1]at hc;refine wpIn_block (hx f fn round ro φ s s1 e1 a w _ h1 R hr fun a1 w1 hA=>?_);cases e1 with
  |normal=>cases hc;exact hQ a1 w1 hA
  |ret=>cases hc;exact hQ a1 w1 hA
  |exit id'=>
   simp only[zy0]at hc;show (if id'=id then Q .normal a1 w1 else Q (.exit id') a1 w1);cases hb:Nat.beq id' id with
   |true=>rw[hb]at hc;cases hc;rw[Yzd (beq_true hb)];exact hQ a1 w1 hA
   |false=>rw[hb]at hc;cases hc;rw[Yzb (beq_false hb)];exact hQ a1 w1 hA
theorem zlO(c:St→Option (Zg×St))(n:Nat)(s:St):zg4 c (n+1) s=match c s with|some (.normal,s2)=>zg4 c n s2|r=>r:=rfl
theorem zty{x:Code}(hx:uA P w0 S nt call x):uA P w0 S nt call (.loop x):=by
 intro f fn round ro φ s s2 e a w Q hc R hr hQ;have hc:zg4 (zQ P nt x call f fn round) f s=some (e,s2):=hc;have key:∀(n:Nat) (φ:Phi) (s:St) (a:Act) (w:World),zg4 (zQ P nt x call f fn round) n s=some (e,s2)→Zt w0 S φ nt s a w→RoRel φ s.h.n.toNat round ro→
   (∀a2 w2,After w0 S φ nt s.h s2 a2 w2→Q (zAw e) a2 w2)→Code.roundsIn (FR ro) 0 P x Q n a w:=by
  intro n
  induction n with
  |zero=>intro φ s a w hc;cases hc
  |succ n ih=>
   intro φ s a w hc R hr hQ;rw[zlO]at hc;cases h1:zQ P nt x call f fn round s with
   |none=>grind
   |some p=>
    obtain⟨e1,s1⟩:=p;rw[h1]at hc;rw[roundsIn_succ];refine hx f fn round ro φ s s1 e1 a w _ h1 R hr fun a1 w1 hA=>?_;cases e1 with
    |normal=>obtain⟨φ1,he1,R1,hle1⟩:=hA;show Code.roundsIn (FR ro) 0 P x Q n a1 w1;exact ih φ1 s1 a1 w1 hc R1 (hr.ext he1 hle1) fun a2 w2 hA2=>hQ a2 w2 (hA2.trans he1 hle1)
    |exit id=>cases hc;exact hQ a1 w1 hA
    |ret=>cases hc;exact hQ a1 w1 hA
 grind[wpIn_loop_rounds]
theorem zlr{t:Tr Zb}{ds:List BN}{l:BN}{r:Res}{e:Zg}{s2:St}(hc:zed t ds l r=some (e,s2)):
  ∃x h st pend lf ln lt lps la lb ld,r=some (x,h)∧h.t.get l=some (.loop st pend lf ln lt lps la lb ld)∧st≠.busy∧e=pend.getD .normal∧s2=⟨t,ds,h.put l (.loop .exhausted pend lf ln lt lps la lb ld)⟩:=by
 unfold zed at hc
 grind
theorem zmw{ro:Option Nat}{Q:Exit→Act→World→Prop}{a:Act}{w:World}(e:Zg)(h:Q (zAw e) a w):(zbP e).wpIn (FR ro) 0 P Q a w:=by
 cases e with
 |normal=>exact wpIn_skip h
 |exit id=>exact wpIn_exit h
 |ret=>exact wpIn_ret h
theorem uZ(r:Nat→Zb):∀(nt i:Nat),(wy r nt).get (bn i)=if i<nt then some (r i) else none
 |0,i=>by show (Tr.nil:Tr Zb).get (bn i)=_;simp
 |nt+1,i=>by
  show ((wy r nt).set (bn nt) (r nt)).get (bn i)=_;by_cases h:i=nt
  ·subst h;rw[zx,Yzd (by omega)]
  ·rw[zo _ _ _ _ (fun e=>h (u1 e)),uZ r nt i];by_cases h2:i<nt
   ·rw[Yzd h2,Yzd (by omega)]
   ·rw[Yzb h2,Yzb (by omega)]
theorem zeF(r:Nat→Zb):∀(nt:Nat) (b:BN) (v:Zb),(wy r nt).get b=some v→∃i,i<nt∧v=r i
 |0,b,v,h=>by have h:(Tr.nil:Tr Zb).get b=some v:=h;simp at h
 |nt+1,b,v,h=>by
  by_cases e:b=bn nt
  ·subst e;rw[uZ,Yzd (by omega)]at h;cases h;exact⟨nt,by omega,rfl⟩
  ·have h:((wy r nt).set (bn nt) (r nt)).get b=some v:=h;rw[zo _ _ _ _ e]at h;obtain⟨i,h1,h2⟩:=zeF r nt b v h;exact⟨i,by omega,h2⟩
theorem Zh.canon{φ:Phi}{nt n:Nat}{t:Tr Zb}{a:Array Value}(h:Zh φ nt n t a):Zh φ nt n (wy (fun i=>zbF (bn i) t) nt) a:=by
 refine⟨h.size,fun i hi=>?_,fun i hi=>?_,fun b v hv=>?_⟩
 ·rw[h.get i hi,uZ,Yzd hi];simp only[Yz2,zbF];cases t.get (bn i)<;>rfl
 ·rw[uZ,Yzb (by omega)]
 ·obtain⟨i,_,rfl⟩:=zeF _ _ _ _ hv;unfold zbF;cases hg:t.get (bn i) with
  |none=>exact fun _ hv=>by cases hv
  |some v=>exact h.wf _ _ hg
theorem zqI(C:yU P call){g:Operand}{ps:Array Tmp}{assign body:Code}:uA P w0 S nt call (.rangeFunc g ps assign body):=by
 intro f fn round ro φ s s2 e a w Q hc R hr hQ;cases hg:zZ g with
 |none=>simp only[zQ,hg]at hc;cases hc
 |some gg=>
  simp only[zQ,hg]at hc;obtain⟨t,d,h⟩:=s;simp only[znl]at hc;have R':=R;obtain⟨H,T,D,dn⟩:=R;simp only at H T D dn;split at hc
  ·cases hc
  ·rename_i bd ds h0 hD;split at hc
   ·rename_i gf caps hgv;obtain⟨xv,h3,st,pend,lf,ln,lt,lps,la,lb,ld,hcall,hl3,hnb,he,hs2⟩:=zlr hc;refine wpIn_rangeFunc fun fn' _=>?_;obtain⟨φ0,mark,w0',hE0,H0,hn0,hbd,hmark,hrunE⟩:∃(φ0:Phi) (mark:List Deferred) (w1:World),Ext h.n.toNat φ φ0∧Zd w0 S φ0 h0 w1∧h.n.toNat≤h0.n.toNat∧okB φ0 h0.n.toNat bd∧
      (marks φ0 ds=mark++a.defers∧∀b∈ds,okB φ0 h0.n.toNat b)∧
      (Instr.enterLoop fn' a.tmps ps assign body ro).run P w=.ok (w1.heap.size,mark) (w1.alloc (.loop { state:=.ready,pending:=none,fn:=fn',tmps:=a.tmps,params:=ps,assign:=assign,body:=body,defers:=(φ0 bd).blk })):=by
     cases round with
     |none=>
      have hro:ro=none:=hr;subst hro;simp only[zjJ]at hD;cases hD;refine⟨upd φ h.n ⟨w.heap.size,0,0,true,none⟩,[{ target:=.collected w.heap.size,args:=#[] }],w.alloc (.deferred (some [])),yl _ _ _,H.new _ _ _ rfl ?_,by grind[yD],⟨by grind[yD],by rw[zm]⟩,⟨?_,?_⟩,?_⟩
      ·show _=_;grind[zm,heap_alloc_new]
      ·show marks _ (h.n::d)=_;simp only[marks,Yzv,zm];have:=zc8 (yl φ h.n ⟨w.heap.size,0,0,true,none⟩) dn
       grind[marks]
      ·intro b hb;rw[yD];cases hb with
       |head=>grind[zm]
       |tail _ hm=>exact okB.ext (yl _ _ _) (Yyh _) (dn b hm)
      ·simp_all[zm,run_enterLoop_outer]
     |some l=>
      obtain⟨hro,hln⟩:=hr;subst hro;simp only[zjJ]at hD;split at hD
      ·rename_i st9 p9 f9 n9 t9 ps9 a9 b9 d9 hl9;cases hD;obtain⟨arr,f8,g1,g2,g3⟩:=H.obj l _ hl9;refine⟨φ,[],w,Ext.refl _ _,H,LzB _,g3,⟨by rw[D];rfl,dn⟩,?_⟩;simp_all[run_enterLoop_inner]
      ·cases hD
    have T0:Zh φ0 nt h0.n.toNat t a.tmps:=T.ext hE0 hn0;have H1:Zd w0 S (upd φ0 h0.n ⟨w0'.heap.size,0,0,true,none⟩) (h0.new (.loop .ready none fn nt (wy (fun i=>zbF (bn i) t) nt) ps assign body bd)) (w0'.alloc (.loop { state:=.ready,pending:=none,fn:=fn',tmps:=a.tmps,params:=ps,assign:=assign,body:=body,defers:=(φ0 bd).blk })):=by
     refine H0.new _ _ ⟨w0'.heap.size,0,0,true,none⟩ rfl ?_;refine⟨a.tmps,fn',?_,T0.canon.ext (yl _ _ _) (Yyh _),okB.ext (yl _ _ _) (Yyh _) hbd⟩;rw[zm,yl φ0 h0.n _ bd hbd.1]
     grind[heap_alloc_new]
    have hE1:Ext h.n.toNat φ (upd φ0 h0.n ⟨w0'.heap.size,0,0,true,none⟩):=hE0.trans (yl _ _ _) hn0;have hn1:(h0.new (.loop .ready none fn nt (wy (fun i=>zbF (bn i) t) nt) ps assign body bd)).n.toNat=h0.n.toNat+1:=yD _ _;have og:=zl T0 hg;rw[hgv]at og;have hwcaps:∀x∈([Zb.s (.one (.yld h0.n))]++caps.map fun p=>Zb.s (.one (.ptr p.1 p.2))),wfA (upd φ0 h0.n ⟨w0'.heap.size,0,0,true,none⟩) (h0.new (.loop .ready none fn nt (wy (fun i=>zbF (bn i) t) nt) ps assign body bd)).n.toNat x:=by
     intro x hx;rw[hn1];rcases List.mem_append.1 hx with hx|hx
     ·simp only[Yz8]at hx;subst hx;exact⟨Yyl _,by rw[zm]⟩
     ·obtain⟨p,hp,rfl⟩:=List.mem_map.1 hx;exact okB.ext (yl _ _ _) (Yyh _) (og.2 p hp)
    obtain⟨hcf,hcl⟩:=(C w0 S _ _ _ _ xv h3 H1 hwcaps).1 gf hcall;have hargs:(([Zb.s (.one (.yld h0.n))]++caps.map fun p=>Zb.s (.one (.ptr p.1 p.2))).map (zp (upd φ0 h0.n ⟨w0'.heap.size,0,0,true,none⟩))).toArray=#[Value.func (.yield w0'.heap.size) #[] #[]]++(caps.map fun p=>Value.pointer (some (adr φ0 p.1 p.2))).toArray:=by
     rw[Yyi,←List.append_toArray]
     congr 1
     ·simp[zp,zL,zi,zm]
     ·simp only[List.map_map,Function.comp_def]
      congr 1
      refine YzO fun p hp=>?_;have:=yl φ0 h0.n ⟨w0'.heap.size,0,0,true,none⟩ p.1 (og.2 p hp).1
      grind[zp,zL,zi,adr]
    rw[hargs]at hcl;have hgval:a.eval g=.func (.func gf) #[] (caps.map fun p=>Value.pointer (some (adr φ0 p.1 p.2))).toArray:=og.1;refine⟨w0'.heap.size,mark,_,{ target:=.fn (.func gf) (caps.map fun p=>Value.pointer (some (adr φ0 p.1 p.2))).toArray,args:=#[Value.func (.yield w0'.heap.size) #[] #[]] },w0'.alloc (.loop { state:=.ready,pending:=none,fn:=fn',tmps:=a.tmps,params:=ps,assign:=assign,body:=body,defers:=(φ0 bd).blk }),gf,
     #[Value.func (.yield w0'.heap.size) #[] #[]]++(caps.map fun p=>Value.pointer (some (adr φ0 p.1 p.2))).toArray,w0'.alloc (.loop { state:=.ready,pending:=none,fn:=fn',tmps:=a.tmps,params:=ps,assign:=assign,body:=body,defers:=(φ0 bd).blk }),hrunE,?_,fun _ _=>trivial,?_,fun hh=>by trivial,zkX hcl |>.mono ?_⟩
    ·grind[resolve,Deferred.ofValue,Sem.run_pure,Act.eval]
    ·grind[invoke]
    ·rintro e9 w9 ⟨φ3,rfl,he3,H3,_,hle3⟩
     rw[hn1]at he3 hle3;obtain⟨arr,f8,g1,g2,g3⟩:=H3.obj h0.n _ hl3;have eb:(φ3 h0.n).blk=w0'.heap.size:=by
      have:=he3 h0.n (Yyl _)
      grind[zm]
     rw[eb]at g1;have hend:=run_endLoop (P:=P) g1 hnb;have hlt:w0'.heap.size<w9.heap.size:=(Lz7.1 g1).1;have H4:Zd w0 S φ3 (h3.put h0.n (.loop .exhausted pend lf ln lt lps la lb ld)) (w9.putObj w0'.heap.size (.loop { state:=.exhausted,pending:=pend.map zbP,fn:=f8,tmps:=arr,params:=lps,assign:=la,body:=lb,defers:=(φ3 ld).blk })):=by
      refine H3.put hl3 trivial (fun k hk=>?_) (by simp) rfl rfl rfl ⟨arr,f8,?_,g2,g3⟩
      ·grind[World.putObj_heap_other]
      ·grind[World.putObj_heap_same]
     have hE3:Ext h.n.toNat φ φ3:=hE1.trans he3 (by omega);have hA:After w0 S φ nt h s2 { a with defers:=mark++a.defers } (w9.putObj w0'.heap.size (.loop { state:=.exhausted,pending:=pend.map zbP,fn:=f8,tmps:=arr,params:=lps,assign:=la,body:=lb,defers:=(φ3 ld).blk })):=by
      subst hs2;refine⟨φ3,hE3,⟨H4,?_,?_,?_⟩,?_⟩
      ·exact T0.ext (fun b hb=>(he3 b (by omega)).trans (yl _ _ _ b hb)) (by show h0.n.toNat≤h3.n.toNat;omega)
      ·show mark++a.defers=marks φ3 ds;rw[←hmark.1];refine (zc8 (n:=h0.n.toNat) (fun b hb=>?_) hmark.2).symm;exact(he3 b (by omega)).trans (yl _ _ _ b hb)
      ·intro b hb;have:=okB.ext (yl φ0 h0.n ⟨w0'.heap.size,0,0,true,none⟩) (Yyh _) (hmark.2 b hb);exact okB.ext he3 (by trivial) this
      ·show h.n.toNat≤h3.n.toNat;omega
     refine⟨_,_,hend,?_⟩;subst he;cases pend with
     |none=>exact hQ _ _ hA
     |some e1=>grind[zmw]
   ·cases hc
end
end Go.CE
end
section
namespace Go.CE
open Go.RowKit
def yj(f:zdV):Prop:=∀call t h v h2,f call t h=some (v,h2)→h2=h
theorem zI:yj (zJ none):=fun _ _ _ _ _ e=>by cases e
theorem yK{f:zdV}(hf:yj f):yj (zJ (some f)):=hf
theorem zld{α:Type}{a:Option α}{g:α→Option zdV}(hg:∀x,yj (zJ (g x))):yj (zJ (a.bind g)):=by cases a<;>grind[zI]
theorem zr{α:Type}{a:Option α}{g:α→Option zdV}(hg:∀x,yj (zJ (g x))):yj (zJ (a >>= g)):=zld hg
theorem zgs{α:Type}{a:Option α}{g:α→zdV}(hg:∀x,yj (g x)):yj (zJ (a.map g)):=by cases a<;>grind[zI,zJ]
theorem xl{b:Bool}{x y:Option zdV}(hx:yj (zJ x))(hy:yj (zJ y)):yj (zJ (bif b then x else y)):=by grind
theorem wD{h h2:Za}{c:Option Zc}{v:Zb}(e:za6 h c=some (v,h2)):h2=h:=by cases c<;>cases e;rfl
theorem jZ{h h2:Za}{c:Option (List Zc)}{v:Zb}(e:ze3 h c=some (v,h2)):h2=h:=by cases c<;>cases e;rfl
theorem ve{h h2:Za}{n:Option Nat}{cs:List Zc}{off:Nat}{v:Zb}(e:part n cs off h=some (v,h2)):h2=h:=by
 cases n
 ·exact wD e
 ·exact jZ e
theorem qa{h h2:Za}{b:Bool}{x y:Res}{v:Zb}(hx:x=some (v,h2)→h2=h)(hy:y=some (v,h2)→h2=h)(e:(bif b then x else y)=some (v,h2)):h2=h:=by grind
theorem zgy{st:Nat}{lo hi mx:Option Opd}{t:Tr Zb}{h h2:Za}{b:BN}{off len cap:Nat}{v:Zb}(e:xm st lo hi mx t h b off len cap=some (v,h2)):h2=h:=by
 unfold xm at e
 grind
theorem zmX{st:Nat}{lo hi mx:Option Opd}{t:Tr Zb}{h h2:Za}{b:BN}{off len cap:Nat}{v:Zb}(e:xc st lo hi mx t h b off len cap=some (v,h2)):h2=h:=by
 unfold xc at e
 (repeat' split at e)<;>first|(cases e;done)|(cases e;rfl)|exact qa (fun e=>by cases e;rfl) (fun e=>by cases e) e
theorem zlh{lo hi mx:Option Opd}{t:Tr Zb}{h h2:Za}{v:Zb}(e:xU lo hi mx t h=some (v,h2)):h2=h:=by grind[xU]
theorem zeT(x:Opd):yj (zjV x):=by
 intro call t h v h2 e;unfold zjV at e
 grind
theorem zk3(x y z:Opd):yj (j6 x y z):=by
 intro call t h v h2 e;unfold j6 at e
 grind
theorem zcz(zs ps):yj (ui zs ps):=by intro call t h v h2 e;exact jZ e
theorem zk7(n x):yj (j9 n x):=by
 intro call t h v h2 e;unfold j9 loadAt at e
 (repeat' split at e)<;>first|(cases e;done)|exact ve e|(unfold zgK at e;split at e;exact wD e;exact jZ e)|exact qa wD (fun e=>by cases e) e
theorem zh1(x):yj (ud x):=by
 intro call t h v h2 e;unfold ud at e
 grind
theorem zmR(g x y):yj (zb1 g x y):=by
 intro call t h v h2 e;unfold zb1 at e
 (repeat' split at e)<;>first|(cases e;done)|(cases e;rfl)|exact wD e|exact jZ e|exact ve e|exact qa (fun e=>by first|(cases e;rfl)|exact wD e|exact ve e) (fun e=>by cases e) e
theorem zhZ(g x y):yj (wQ g x y):=by
 intro call t h v h2 e;unfold wQ at e
 (repeat' split at e)<;>first|(cases e;done)|(cases e;rfl)|exact wD e|exact jZ e|exact ve e|exact qa (fun e=>by first|(cases e;rfl)|exact wD e|exact ve e) (fun e=>by cases e) e
theorem zmM(g x y):yj (zcV g x y):=by
 intro call t h v h2 e;unfold zcV at e
 (repeat' split at e)<;>first|(cases e;done)|(cases e;rfl)|exact wD e|exact jZ e|exact ve e|exact qa (fun e=>by first|(cases e;rfl)|exact wD e|exact ve e) (fun e=>by cases e) e
theorem zqh(g n x y):yj (zjW g n x y):=by
 intro call t h v h2 e;unfold zjW at e
 grind
theorem zk4(n x y):yj (uL n x y):=by
 intro call t h v h2 e;unfold uL at e
 grind
theorem zk5(n x y):yj (j7 n x y):=by
 intro call t h v h2 e;unfold j7 at e
 grind
theorem zmO(x):yj (zcW x):=by
 intro call t h v h2 e;unfold zcW at e
 grind
theorem zmP(x):yj (zcX x):=by
 intro call t h v h2 e;unfold zcX at e
 grind
theorem zlc(k x):yj (kF k x):=by
 intro call t h v h2 e;unfold kF at e
 grind
theorem zv0{h h2:Za}{c:Option (List Zc)}{v:Zb}(e:zcb h c=some (v,h2)):h2=h:=by
 unfold zcb at e
 grind
theorem zmT(x):yj (zaA x):=by
 intro call t h v h2 e
 grind[zaA,zv0]
theorem zmN(x):yj (zfj x):=by
 intro call t h v h2 e;unfold zfj at e
 grind
theorem zmL(u n x):yj (zfi u n x):=by
 intro call t h v h2 e;unfold zfi at e
 grind
theorem zh0(n x y):yj (uc n x y):=by
 intro call t h v h2 e
 grind[uc]
theorem zgr(l st x lo hi mx):yj (vH l st x lo hi mx):=by
 intro call t h v h2 e
 grind[vH,zgy]
theorem zk6(f x):yj (j8 f x):=by
 intro call t h v h2 e;unfold j8 at e
 grind
theorem zhY(st x lo hi mx):yj (ub st x lo hi mx):=by
 intro call t h v h2 e;unfold ub at e;split at e
 ·exact zlh e
 ·exact qa zgy zmX e
 ·cases e
theorem zgq(x lo hi):yj (xW x lo hi):=by
 intro call t h v h2 e;unfold xW at e
 grind
theorem zlb(x o):yj (kE x o):=by
 intro call t h v h2 e;unfold kE at e
 grind
theorem zh5(x o n):yj (uh x o n):=by
 intro call t h v h2 e;unfold uh at e
 (repeat' split at e)<;>first|(cases e;done)|(cases e;rfl)|exact wD e|exact jZ e|exact ve e|exact qa (fun e=>by first|(cases e;rfl)|exact wD e|exact ve e) (fun e=>by cases e) e
theorem zmQ(st x i):yj (zc0 st x i):=by
 intro call t h v h2 e;unfold zc0 at e
 (repeat' split at e)<;>first|(cases e;done)|(cases e;rfl)|exact wD e|exact jZ e|exact ve e|exact qa (fun e=>by first|(cases e;rfl)|exact wD e|exact ve e) (fun e=>by cases e) e
theorem zh3(l st x i):yj (uf l st x i):=by
 intro call t h v h2 e;unfold uf at e
 (repeat' split at e)<;>first|(cases e;done)|(cases e;rfl)|exact wD e|exact jZ e|exact ve e|exact qa (fun e=>by first|(cases e;rfl)|exact wD e|exact ve e) (fun e=>by cases e) e
theorem zh4(l st n x i):yj (ug l st n x i):=by
 intro call t h v h2 e;unfold ug at e
 (repeat' split at e)<;>first|(cases e;done)|(cases e;rfl)|exact wD e|exact jZ e|exact ve e|exact qa (fun e=>by first|(cases e;rfl)|exact wD e|exact ve e) (fun e=>by cases e) e
theorem zh2(x i):yj (ue x i):=by
 intro call t h v h2 e;unfold ue at e
 (repeat' split at e)<;>first|(cases e;done)|(cases e;rfl)|exact wD e|exact jZ e|exact ve e|exact qa (fun e=>by first|(cases e;rfl)|exact wD e|exact ve e) (fun e=>by cases e) e
theorem zgt(q z ok m k):yj (wX q z ok m k):=by
 intro call t h v h2 e;unfold wX at e
 grind
theorem zeU(x i):yj (xL x i):=by
 intro call t h v h2 e;unfold xL at e
 grind
theorem zk8(x):yj (ki x):=by
 intro call t h v h2 e;unfold ki at e
 grind
theorem zla(x):yj (kC x):=by
 intro call t h v h2 e;unfold kC at e
 grind
theorem zk9(x):yj (qH x):=by
 intro call t h v h2 e;unfold qH at e
 grind
theorem zbG(b x xs):yj (xh b x xs):=by
 intro call t h v h2 e;unfold xh at e
 grind
theorem zmS(P:Program)(o:Op)(hq:yI P o=true):yj (cOp P o):=by
 cases o with
 |move x=>exact zgs zeT
 |assign x=>exact zgs zeT
 |pick c x y=>exact zr fun _=>zr fun _=>zr fun _=>yK (zk3 _ _ _)
 |build t parts=>
  unfold cOp;simp only;split
  ·exact xl (zr fun _=>yK (zcz _ _)) zI
  ·grind[zr,zcz,zI,zJ]
  ·exact zI
 |load t x=>exact zr fun _=>zr fun _=>yK (zk7 _ _)
 |nilCheck x=>exact zr fun _=>yK (zh1 _)
 |binOp op t x y u=>
  unfold cOp;simp only;split
  ·grind[zr,zhZ,zmR,zJ]
  ·grind[zr,zmM,zJ]
  ·grind[zr,zk4,zI,zJ]
  ·refine xl ?_ zI
   grind[zr,zh0,zI,zJ]
  ·grind[zr,zk5,zI,zJ]
  ·refine xl zI ?_
   grind[zr,zqh,zI,zJ]
  ·exact zI
 |unOp u t x=>
  cases u with
  |not=>exact zr fun _=>yK (zmO _)
  |neg=>exact zr fun _=>yK (zmP _)
  |_=>exact zI
 |convert a b x=>
  unfold cOp;simp only;split
  ·grind[zr,zlc,zJ]
  ·grind[yI,zoE,zfD]
  ·exact xl (zr fun _=>yK (zmT _)) zI
  ·exact xl (zr fun _=>yK (zmN _)) zI
  ·exact xl (zr fun _=>yK (zmL _ _ _)) zI
  ·exact zI
 |makeFunc f first captured=>
  cases f with
  |func f=>exact xl (zr fun _=>yK (zk6 _ _)) zI
  |_=>exact zI
 |slice t x lo hi mx=>
  unfold cOp;simp only;split
  ·split
   ·exact xl zI (zr fun _=>zr fun _=>zr fun _=>zr fun _=>yK (zhY _ _ _ _ _))
   ·exact zI
  ·split
   ·exact xl zI (zr fun _=>zr fun _=>zr fun _=>zr fun _=>yK (zgr _ _ _ _ _ _))
   ·exact zI
  ·exact xl zI (zr fun _=>zr fun _=>zr fun _=>yK (zgq _ _ _))
  ·exact zI
 |fieldAddr t x f=>
  unfold cOp;simp only;split
  ·split
   ·split
    ·exact xl zI (zr fun _=>yK (zlb _ _))
    ·exact zI
   ·exact zI
  ·exact zI
 |field t x f=>
  unfold cOp
  grind[zr,zh5,zI,zJ]
 |indexAddr t x i=>
  unfold cOp
  grind[zr,zmQ,zI,zh3,zJ]
 |index t x i=>unfold cOp;simp only;split<;>grind[zr,zh4,zI,zh2,zJ]
 |lookup t m k ok=>
  unfold cOp
  grind[zr,zgt,zI,zJ]
 |extract x i=>exact zr fun _=>yK (zeU _ _)
 |call c=>
  obtain⟨callee,args,ts⟩:=c;cases callee with
  |builtin b=>
   cases b with
   |len=>grind[cOp,zr,zk8,zla,zk9,zeT,zI,zJ]
   |max=>grind[cOp,zbG,zI,zJ]
   |min=>grind[cOp,zbG,zI,zJ]
   |_=>cases hq
  |_=>cases hq
 |_=>cases hq
end Go.CE
end
section
namespace Go.CE
open Go.RowKit
theorem uJ{a b:Bool}(h:(a&&b)=true):a=true∧b=true:=by grind
theorem kX:∀{a b:BN},zl5 a b=true→a=b
 | .z,.z,_=>rfl
 | .o a,.o b,h=>by rw[kX (a:=a) (b:=b) h]
 | .d a,.d b,h=>by rw[kX (a:=a) (b:=b) h]
 | .z,.o _,h=>by cases h
 | .z,.d _,h=>by cases h
 | .o _,.z,h=>by cases h
 | .o _,.d _,h=>by cases h
 | .d _,.z,h=>by cases h
 | .d _,.o _,h=>by cases h
theorem zo4{a b:Bool}(h:eqB a b=true):a=b:=by cases a<;>cases b<;>first|rfl|cases h
theorem zoZ:∀{a b:List (BN×Nat)},zxb a b=true→a=b
 | [],[],_=>rfl
 |(b,o)::l,(b',o')::l',h=>by obtain⟨h1,h2⟩:=uJ h;obtain⟨h3,h4⟩:=uJ h1;rw[kX h3,beq_true h4,zoZ h2]
 | [],_::_,h=>by cases h
 |_::_,[],h=>by cases h
theorem zsq:∀{a b:List UInt8},eqU a b=true→a=b
 | [],[],_=>rfl
 |a::l,b::l',h=>by obtain⟨h1,h2⟩:=uJ h;rw[UInt8.toNat_inj.1 (beq_true h1),zsq h2]
 | [],_::_,h=>by cases h
 |_::_,[],h=>by cases h
theorem zrx{a b:ByteArray}(h:eqU a.data.toList b.data.toList=true):a=b:=by have:=zsq h;cases a<;>simp_all
theorem zCS{a b:Int}(h:eqI a b=true):a=b:=by grind[jU]
theorem zoW{a b:Zc}(h:eqV a b=true):a=b:=by
 cases a<;>cases b<;>first
  |rfl
  |(cases h;done)
  |skip
 ·exact congrArg _ (zo4 h)
 ·obtain⟨h1,h2⟩:=uJ h
  grind[ziM,zCS]
 ·exact congrArg _ (zrx h)
 ·obtain⟨h1,h2⟩:=uJ h
  grind[kX,beq_true]
 ·obtain⟨h1,h2⟩:=uJ h;obtain⟨h1,h3⟩:=uJ h1;obtain⟨h1,h4⟩:=uJ h1;obtain⟨h1,h5⟩:=uJ h1
  grind[kX,beq_true,zo4]
 ·exact congrArg _ (kX h)
 ·obtain⟨h1,h2⟩:=uJ h
  grind[beq_true,zoZ]
 ·exact congrArg _ (kX h)
 ·obtain⟨h1,h2⟩:=uJ h;simp_all
theorem ziK:∀{a b:List Zc},zvl a b=true→a=b
 | [],[],_=>rfl
 |a::l,b::l',h=>by obtain⟨h1,h2⟩:=uJ h;rw[zoW h1,ziK h2]
 | [],_::_,h=>by cases h
 |_::_,[],h=>by cases h
theorem zoX{a b:SVal}(h:zw9 a b=true):a=b:=by
 cases a<;>cases b<;>first
  |(cases h;done)
  |exact congrArg _ (zoW h)
  |exact congrArg _ (ziK h)
theorem zoY:∀{a b:List SVal},zxa a b=true→a=b
 | [],[],_=>rfl
 |a::l,b::l',h=>by obtain⟨h1,h2⟩:=uJ h;rw[zoX h1,zoY h2]
 | [],_::_,h=>by cases h
 |_::_,[],h=>by cases h
theorem zky{a b:Zb}(h:eqA a b=true):a=b:=by
 cases a<;>cases b<;>first
  |(cases h;done)
  |exact congrArg _ (zoX h)
  |exact congrArg _ (zoY h)
noncomputable def frL(L:Nat→Bool):Nat→List (Option BN×Zb)→Tr Zb→Tr Zb
 |_,[],t=>t
 |i,(d,v)::r,t=>frL L (i+1) r (bif L i then zcD t v d else t)
open Classical in
noncomputable def lw(L:Nat→Bool)(s:BN):Nat→List (Option BN×Zb)→Option Zb
 |_,[]=>none
 |i,(d,v)::r=>(lw L s (i+1) r).or (if L i=true∧d=some s then some v else none)
theorem zeZ(t:Tr Zb)(v:Zb)(d:Option BN)(s:BN)[Decidable (d=some s)]:(zcD t v d).get s=if d=some s then some v else t.get s:=by
 cases d with
 |none=>simp[zcD]
 |some d=>
  by_cases h:d=s
  ·grind[zcD,zx]
  ·rw[Yzb (fun hh=>h (Option.some.inj hh))];exact zo _ _ _ _ (fun hh=>h hh.symm)
section
variable {L L':Nat→Bool} {s:BN}
open Classical in
theorem jJ:∀(r:List (Option BN×Zb)) (i:Nat) (t:Tr Zb),(frL L i r t).get s=(lw L s i r).or (t.get s)
 | [],i,t=>rfl
 |(d,v)::r,i,t=>by
  unfold frL lw;rw[jJ r (i+1),Option.or_assoc]
  congr 1
  cases hL:L i with
  |false=>simp
  |true=>
   simp only[Yza,true_and]
   grind[zeZ]
theorem zaF:∀(r:List (Option BN×Zb)) (i:Nat),(∀j d v,r[j]? = some (d,v)→d=some s→L (i+j)=L' (i+j))→lw L s i r=lw L' s i r
 | [],i,_=>rfl
 |(d,v)::r,i,h=>by
  unfold lw;rw[zaF r (i+1) fun j d v hj hd=>by have:=h (j+1) d v (by trivial) hd;grind]
  congr 1
  by_cases hd:d=some s
  ·have:=h 0 d v (by simp) hd
   grind
  grind
theorem zom:∀(r:List (Option BN×Zb)) (i:Nat),(∀j d v,r[j]? = some (d,v)→d=some s→L (i+j)=false)→lw L s i r=none
 | [],i,_=>rfl
 |(d,v)::r,i,h=>by
  unfold lw;rw[zom r (i+1) fun j d v hj hd=>by have:=h (j+1) d v (by trivial) hd;grind];by_cases hd:d=some s
  ·have:=h 0 d v (by simp) hd
   grind
  grind
theorem ziw:∀(r:List (Option BN×Zb)) (i k:Nat) (v:Zb),r[k]? = some (some s,v)→L (i+k)=true→(∀j d u,k<j→r[j]? = some (d,u)→d=some s→L (i+j)=false)→lw L s i r=some v
 | [],i,k,v,hk,_,_=>by simp at hk
 |(d,u)::r,i,0,v,hk,hL,h=>by
  simp only[Yzk,Option.some.injEq,Prod.mk.injEq]at hk;obtain⟨rfl,rfl⟩:=hk;unfold lw;rw[zom r (i+1) fun j d v hj hd=>by have:=h (j+1) d v (by omega) (by trivial) hd;grind]
  grind
 |(d,u)::r,i,k+1,v,hk,hL,h=>by
  unfold lw;rw[ziw r (i+1) k v (by trivial) (by grind) fun j d v hj hjr hd=>by have:=h (j+1) d v (by omega) (by trivial) hd;grind]
  rfl
theorem zko(d:Option BN)(v:Zb)(r:List (Option BN×Zb))(i:Nat)(t:Tr Zb):frL L i ((d,v)::r) t=frL L (i+1) r (bif L i then zcD t v d else t):=rfl
theorem zpf(e:Bool)(es:List Bool)(i:Nat):ce L i (e::es)=bif L i&&e then ce L (i+1) es+1 else ce L (i+1) es:=rfl
theorem zdn:∀(r:List (Option BN×Zb)) (i:Nat) (t:Tr Zb),frL L (i+1) r t=frL (fun k=>L (k+1)) i r t
 | [],i,t=>rfl
 |(d,v)::r,i,t=>by unfold frL;exact zdn r (i+1) _
theorem zaP:∀(r:List (Option BN×Zb)) (i:Nat) (t:Tr Zb),(∀j,j<r.length→L (i+j)=L' (i+j))→frL L i r t=frL L' i r t
 | [],i,t,_=>rfl
 |(d,v)::r,i,t,h=>by unfold frL;have h0:=h 0 (by simp);simp only[YzB]at h0;rw[h0];exact zaP r (i+1) _ fun j hj=>by have:=h (j+1) (by grind);grind
theorem zf9:∀(es:List Bool) (i:Nat),ce L (i+1) es=ce (fun k=>L (k+1)) i es
 | [],i=>rfl
 |e::es,i=>by unfold ce;rw[Yym,Yym,zf9 es (i+1)]
theorem wZ:∀(es:List Bool) (i:Nat),(∀j,es[j]? = some true→L (i+j)=L' (i+j))→ce L i es=ce L' i es
 | [],i,_=>rfl
 |e::es,i,h=>by
  unfold ce;have ih:=wZ es (i+1) fun j hj=>by have:=h (j+1) (by trivial);grind
  rw[Yym,ih];cases e with
  |false=>simp
  |true=>
   have h0:=h 0 (by simp)
   grind
theorem wJ:∀(es:List Bool) (i:Nat),(∀j,es[j]? = some true→L (i+j)=true→L' (i+j)=true)→ce L i es≤ce L' i es
 | [],i,_=>LzB _
 |e::es,i,h=>by
  unfold ce;have ih:=wJ es (i+1) fun j hj hL=>by have:=h (j+1) (by trivial) (by grind);grind
  simp only[Yym];cases e with
  |false=>grind
  |true=>
   have h0:=h 0 (by simp)
   grind
theorem zhs:∀(es:List Bool) (i k:Nat),es[k]? = some true→L (i+k)=false→L' (i+k)=true→(∀j,j≠i+k→L' j=L j)→ce L' i es=ce L i es+1
 | [],i,k,hk,_,_,_=>by simp at hk
 |e::es,i,0,hk,h1,h2,h3=>by
  simp only[Yzk,Option.some.injEq]at hk;subst hk;simp only[YzB]at h1 h2 h3;unfold ce;rw[h1,h2];simp only[Yym,Yyn,Yza,Yzc]
  grind[wZ]
 |e::es,i,k+1,hk,h1,h2,h3=>by
  unfold ce;have ih:=zhs es (i+1) k (by trivial) (by grind) (by grind) fun j hj=>h3 j (by omega)
  grind
end
theorem vX(t:Tr Zb)(s:BN)[DecidableEq BN]:∀(l:List BN),(u6 t l).get s=if s∈l then t.get s else none
 | []=>by cases s<;>rfl
 |x::l=>by
  unfold u6;split
  ·rename_i v hv;by_cases hx:s=x
   ·grind[zx]
   ·rw[zo _ _ _ _ hx,vX t s l];simp[hx]
  ·rename_i hv;rw[vX t s l]
   grind
def dv(x:Zi×Tr Zb×Zb):Option BN×Zb:=(x.1.rop.dst,x.2.2)
theorem zfU(call:zg):∀(ds:List Zi) (t:Tr Zb) (h:Za) (l:List (Zi×Tr Zb×Zb)) (t2:Tr Zb) (hs:List Za),evD call ds t h=some (l,t2,hs)→
  l.map (·.1)=ds∧hs[0]? = some h∧hs.length=ce (fun _=>true) 0 (ds.map (·.eff))+1∧t2=frL (fun _=>true) 0 (l.map dv) t∧
  ∀j d tr v,l[j]? = some (d,tr,v)→tr=u6 (frL (fun k=>decide (k<j)) 0 (l.map dv) t) d.looks∧
   ∃hk h',hs[ce (fun k=>decide (k<j)) 0 (ds.map (·.eff))]? = some hk∧xI call d.rop tr hk=some (v,h')∧(d.eff=true→hs[ce (fun k=>decide (k<j)) 0 (ds.map (·.eff))+1]? = some h')
 | [],t,h,l,t2,hs,e=>by cases e;exact⟨rfl,rfl,rfl,rfl,fun j d tr v hj=>by simp at hj⟩
 |d::ds,t,h,l,t2,hs,e=>by
  unfold evD at e;split at e
  ·rename_i v0 h0 hv0;cases hr:evD call ds (zcD t v0 d.rop.dst) (bif d.eff then h0 else h) with
   |none=>rw[hr]at e;cases e
   |some p=>
    obtain⟨l',t',hs'⟩:=p;rw[hr]at e;simp only[zxj,Option.some.injEq,Prod.mk.injEq]at e;obtain⟨rfl,rfl,rfl⟩:=e;obtain⟨g1,g2,g3,g4,g5⟩:=zfU call ds _ _ l' _ hs' hr;have hsh:∀(L:Nat→Bool),ce L 0 ((d::ds).map (·.eff))=(bif L 0&&d.eff then 1 else 0)+ce (fun k=>L (k+1)) 0 (ds.map (·.eff)):=by grind[zpf,zf9]
    have hfr:∀(L:Nat→Bool),frL L 0 (((d,u6 t d.looks,v0)::l').map dv) t=frL (fun k=>L (k+1)) 0 (l'.map dv) (bif L 0 then zcD t v0 d.rop.dst else t):=by grind[dv,zko,zdn]
    refine⟨by simp[g1],?_,?_,?_,?_⟩
    ·grind
    ·grind
    ·grind
    ·intro j dj tr v hj;cases j with
     |zero=>
      simp only[Yzk,Option.some.injEq,Prod.mk.injEq]at hj;obtain⟨rfl,rfl,rfl⟩:=hj;have hz:ce (fun k=>decide (k<0)) 0 ((d::ds).map (·.eff))=0:=by
       rw[hsh];simp only[Nat.not_lt_zero,decide_false,Bool.false_and,Yzc,Yzi];have:∀(es:List Bool) (i:Nat),ce (fun _=>false) i es=0:=by
        intro es
        induction es<;>grind[ce]
       grind
      refine⟨?_,h,h0,?_,hv0,?_⟩
      ·rw[hfr];simp only[Nat.not_lt_zero,decide_false,Yzc]
       congr 1
       have:∀(r:List (Option BN×Zb)) (i:Nat) (t:Tr Zb),frL (fun _=>false) i r t=t:=by
        intro r
        induction r<;>grind[frL]
       grind
      ·grind
      ·grind
     |succ j=>grind
  ·cases e
theorem zcE{call:zg}{o:Zl}{tr:Tr Zb}{v:Zb}:∀(hs:List Za),sameAt call o tr v hs=true→∀(k:Nat) (hk:Za),hs[k]? = some hk→∃h',xI call o tr hk=some (v,h')
 | [],_,k,hk,hh=>by simp at hh
 |h::hs,e,k,hk,hh=>by
  unfold sameAt at e;split at e
  ·rename_i v' h' hv;obtain⟨e1,e2⟩:=uJ e;cases k with
   |zero=>grind[zky]
   |succ k=>exact zcE hs e2 k hk (by trivial)
  ·cases e
theorem zdA{call:zg}{hs:List Za}:∀(l:List (Zi×Tr Zb×Zb)),uz call hs l=true→∀(j:Nat) (d:Zi) (tr:Tr Zb) (v:Zb),l[j]? = some (d,tr,v)→d.eff=false→
  d.lo=d.hi∨∀k hk,d.lo≤k→k≤d.hi→hs[k]? = some hk→∃h',xI call d.rop tr hk=some (v,h')
 | [],_,j,d,tr,v,hj,_=>by simp at hj
 |(d0,tr0,v0)::l,e,j,d,tr,v,hj,hd=>by
  obtain⟨e1,e2⟩:=uJ e;cases j with
  |zero=>
   simp only[Yzk,Option.some.injEq,Prod.mk.injEq]at hj;obtain⟨rfl,rfl,rfl⟩:=hj;rw[hd]at e1;simp only[Yz9,YzF]at e1;rcases e1 with e1|e1
   ·simp_all
   ·refine .inr fun k hk h1 h2 h3=>?_;refine zcE _ e1 (k-d0.lo) hk ?_
    grind
  |succ j=>exact zdA l e2 j d tr v (by trivial) hd
theorem zfw:∀(hs:List Za) (h:Za),hs≠[]→hs[hs.length-1]? = some (zfx h hs)
 | [],_,h=>absurd rfl h
 | [x],_,_=>rfl
 |x::y::hs,h,_=>by have:=zfw (y::hs) x (by simp);trivial
theorem zdD(P:Program)(nt:Nat)(ops:Array Oper)(bs:List Nat)(es:List Bool):∀(os:List Oper) (i j:Nat),(uI P nt ops bs es i os)[j]? = (os[j]?).map fun o=>
  (⟨yS P nt ops o,(o.looksAt ops).map bn,!yI P o.op,ce (fun k=>bef bs k (i+j)) 0 es,ce (fun k=>!bef bs (i+j) k) 0 es⟩:Zi)
 | [],i,j=>by simp[uI]
 |o::os,i,0=>by simp[uI]
 |o::os,i,j+1=>by simp only[uI,Yzr];rw[zdD P nt ops bs es os (Nat.succ i) j,show Nat.succ i+j=i+(j+1) by omega]
theorem zdE(P:Program)(nt:Nat)(ops:Array Oper)(bs:List Nat)(es:List Bool):∀(os:List Oper) (i:Nat),(uI P nt ops bs es i os).map (·.eff)=zaW P os
 | [],i=>rfl
 |o::os,i=>by have:=zdE P nt ops bs es os (Nat.succ i);simp only[uI,Yzv,this];rfl
theorem un{p:Nat→Oper→Bool}:∀(os:List Oper) (i:Nat),allI p i os=true→∀(j:Nat) (o:Oper),os[j]? = some o→p (i+j) o=true
 | [],_,_,j,o,hj=>by simp at hj
 |o::os,i,e,0,o',hj=>by simp only[Yzk,Option.some.injEq]at hj;subst hj;exact(uJ e).1
 |o::os,i,e,j+1,o',hj=>by
  have:=un os (Nat.succ i) (uJ e).2 j o' (by trivial)
  grind
section
variable {ops:Array Oper}
def Rdy(ops:Array Oper)(L:Nat→Bool)(i:Nat):Prop:=∀o e,ops[i]? = some o→e∈o.after.toList→Region.binds .any e=true→L e.on=true
def Clo(ops:Array Oper)(L:Nat→Bool):Prop:=∀i,L i=true→Rdy ops L i
def zu0(ops:Array Oper)(acc:List Nat):Prop:=∀(i x:Nat),acc[i]? = some x→∀(j:Nat),Nat.testBit x j=true→∀(L:Nat→Bool),Clo ops L→Rdy ops L i→L j=true
theorem zbC{acc:List Nat}{j:Nat}:∀(es:List Edge),Nat.testBit (zjd acc es) j=true→∃e∈es,Region.binds .any e=true∧(e.on=j∨∃x,acc[e.on]? = some x∧Nat.testBit x j=true)
 | [],h=>by grind[zjd]
 |e::es,h=>by
  unfold zjd at h;cases hb:Region.binds .any e with
  |false=>
   rw[hb]at h;obtain⟨e',h1,h2⟩:=zbC es h
   grind
  |true=>
   rw[hb]at h;simp only[Yza]at h;have h:Nat.testBit ((2^e.on ||| (acc[e.on]?).getD 0) ||| zjd acc es) j=true:=h;rw[Nat.testBit_or,Nat.testBit_or,YzF,YzF]at h;rcases h with (h|h)|h
   ·grind
   ·grind
   ·obtain⟨e',h1,h2⟩:=zbC es h
    grind
theorem zdK:∀(os pre:List Oper) (acc:List Nat),ops.toList=pre++os→acc.length=pre.length→zu0 ops acc→zu0 ops (zkQ os acc)
 | [],_,acc,_,_,hg=>hg
 |o::os,pre,acc,hp,hl,hg=>by
  unfold zkQ;refine zdK os (pre++[o]) _ (by simp[hp]) (by simp[hl]) ?_;intro i x hi j hj L hC hR;by_cases hlt:i<acc.length
  ·rw[Lz2 hlt]at hi;exact hg i x hi j hj L hC hR
  ·rw[Lz8 (by omega)]at hi;have h0:i-acc.length=0:=by
    grind
   rw[h0]at hi;simp only[Yzk,Option.some.injEq]at hi;subst hi;obtain⟨e,he,hb,hh⟩:=zbC _ hj;have ho:ops[i]? = some o:=by
    rw[←LzA,hp,Lz8 (by omega)]
    grind
   have hon:=hR o e ho he hb;rcases hh with hh|⟨x,hx,hh⟩
   ·grind
   ·exact hg _ x hx j hh L hC (hC _ hon)
theorem vQ{i j:Nat}(h:bef (xq ops.toList) j i=true){L:Nat→Bool}(hC:Clo ops L)(hR:Rdy ops L i):L j=true:=by
 have hg:zu0 ops (xq ops.toList):=zdK ops.toList [] [] rfl rfl (fun i x hi=>by simp at hi);unfold bef at h;cases hx:(xq ops.toList)[i]? with
 |none=>grind
 |some x=>rw[hx]at h;exact hg i x hx j h L hC hR
def lst(listed:Array Bool)(i:Nat):Bool:=listed.getD i false
theorem mem_ready{listed:Array Bool}{i:Nat}(h:i∈Region.ready .any ops listed):∃o,ops[i]? = some o∧i<listed.size∧lst listed i=false∧Rdy ops (lst listed) i:=by
 unfold Region.ready at h;rw[List.mem_filter]at h;obtain⟨h1,h2⟩:=h;obtain⟨h3,h4⟩:=uJ h2;have hlt:i<listed.size:=by grind
 cases ho:ops[i]? with
 |none=>grind
 |some o=>
  rw[ho]at h4;refine⟨o,rfl,hlt,?_,?_⟩
  ·grind[lst]
  ·intro o' e ho' he hb
   grind[Array.all_eq_true',lst]
theorem znj{listed:Array Bool}(hsz:listed.size=ops.size){i:Nat}{o:Oper}(ho:ops[i]? = some o)(hl:lst listed i=false)(hR:Rdy ops (lst listed) i):i∈Region.ready .any ops listed:=by
 have hi:i<ops.size:=(Lz7.1 ho).1;unfold Region.ready;rw[List.mem_filter];refine⟨by grind,?_⟩;rw[LzC]
 constructor
 ·grind[lst]
 ·rw[ho];simp only[YzI,Yz2,Array.all_eq_true'];intro e he;cases hb:Region.binds .any e with
  |false=>rfl
  |true=>simpa[lst] using hR o e ho (by grind) hb
theorem zeJ{listed:Array Bool}(hsz:listed.size=ops.size)(hA:∀(i:Nat) (o:Oper) (e:Edge),ops[i]? = some o→e∈o.after.toList→Region.binds .any e=true→e.on<i)
  (hnil:Region.ready .any ops listed=[]):∀i,i<ops.size→lst listed i=true:=by
 intro i
 induction i using Nat.strongRecOn with
 |_ i ih=>
  intro hi;cases hl:lst listed i with
  |true=>rfl
  |false=>
   have:=znj (ops:=ops) hsz (YzC hi) hl (fun o e ho he hb=>by grind)
   grind
theorem vq{listed:Array Bool}{i:Nat}(hi:i<listed.size)(j:Nat):lst (listed.setIfInBounds i true) j=(decide (j=i)||lst listed j):=by
 unfold lst;rw[Yzy,Yzy,Array.getElem?_setIfInBounds]
 grind
def unl(listed:Array Bool):Nat:=listed.toList.count false
theorem zmD{listed:Array Bool}{i:Nat}(hi:i<listed.size)(hl:lst listed i=false):unl (listed.setIfInBounds i true)+1=unl listed:=by
 unfold unl;rw[Array.toList_setIfInBounds,List.count_set (by omega)];have hg:listed.toList[i]'(by omega)=false:=by simp_all[lst]
 grind
theorem zjv{listed:Array Bool}(h:unl listed=0){i:Nat}(hi:i<listed.size):lst listed i=true:=by
 unfold unl at h;rw[List.count_eq_zero]at h;unfold lst;rw[Yzy,YzC hi]
 grind
end
end Go.CE
end
section
namespace Go.CE
open Go.RowKit
section
variable {P:Program} {w0:World} {S:Nat→Prop} {nt:Nat} {call:zg} {ops:Array Oper}
theorem Zh.of_get{φ:Phi}{n:Nat}{t t':Tr Zb}{arr:Array Value}(T:Zh φ nt n t arr)(h:∀s,t'.get s=t.get s):Zh φ nt n t' arr:=
 ⟨T.size,fun i hi=>by rw[h];exact T.get i hi,fun i hi=>by rw[h];exact T.out i hi,fun i v hv=>T.wf i v (by grind)⟩
noncomputable def vt(φ:Phi)(nt:Nat)(t:Tr Zb):Array Value:=Array.ofFn (n:=nt) fun i=>zp φ ((t.get (bn i.val)).getD z8)
theorem zhn{φ:Phi}{n:Nat}{t:Tr Zb}(h1:∀i,nt≤i→t.get (bn i)=none)(h2:∀i v,t.get i=some v→wfA φ n v):Zh φ nt n t (vt φ nt t):=
 ⟨by simp[vt],fun i hi=>by simp[vt,hi],h1,h2⟩
theorem zhh{φ:Phi}{t:Tr Zb}{h h2:Za}{a:Act}{v:Zb}{o:Oper}(e:xI call (yS P nt ops o) t h=some (v,h2))(T:Zh φ nt h.n.toNat t a.tmps):
  (Region.wanted o (yielded ops a.tmps)=true∧cOp P o.op call t h=some (v,h2))∨(Region.wanted o (yielded ops a.tmps)=false∧v=z8∧h2=h):=by
 unfold yS at e;have bad:∀{o':Zl},o'=⟨none,xd,none⟩→xI call o' t h=some (v,h2)→False:=by intro o' ho' e;subst ho';cases e
 cases hd:inT nt o.dst with
 |false=>grind
 |true=>
  rw[hd]at e;simp only[Yza]at e;have fin:∀g,xI call ⟨o.dst.map bn,cOp P o.op,g⟩ t h=some (v,h2)→(want t g=true∧cOp P o.op call t h=some (v,h2))∨(want t g=false∧v=z8∧h2=h):=by
   intro g e;unfold xI at e
   grind
  split at e
  ·rename_i hg;rcases fin none e with hh|⟨hw,_⟩
   ·grind[Region.wanted]
   ·cases hw
  ·rename_i j b hg;split at e
   ·rename_i d hjd;cases hb:Nat.ble (Nat.succ d) nt with
    |false=>grind
    |true=>grind[za7,yi,Region.wanted]
   ·trivial
theorem zaV{t:Tr Zb}{h:Za}{r:Zb×Za}{o:Oper}(e:xI call (yS P nt ops o) t h=some r):(yS P nt ops o).dst=o.dst.map bn∧inT nt o.dst=true:=by
 have bad:∀{o':Zl},o'=⟨none,xd,none⟩→xI call o' t h=some r→False:=by intro o' ho' e;subst ho';cases e
 unfold yS at e ⊢
 grind
theorem ziT(hok:zaX P ops (xq ops.toList)=true):(∀(i:Nat) (o:Oper),ops[i]? = some o→(∀cs b,o.op≠.select cs b)∧∀e∈o.after.toList,Region.binds .any e=true→e.on<i)∧
  ∀(i j:Nat) (oi oj:Oper),ops[i]? = some oi→ops[j]? = some oj→i<j→bef (xq ops.toList) i j=true∨(oi.apart ops oj=true∧(yI P oi.op=true∨yI P oj.op=true)):=by
 obtain⟨h1,h2⟩:=uJ hok
 constructor
 ·intro i o ho;have:=un _ 0 h1 i o (by grind);rw[Yzi]at this;obtain⟨g1,g2⟩:=uJ this;refine⟨(fun cs b hh=>by rw[hh]at g1;cases g1),fun e he hb=>?_⟩;rw[YzL]at g2;have:=g2 e he;rw[hb]at this;exact yi (by trivial)
 ·intro i j oi oj hi hj hlt;have:=un _ 0 h2 j oj (by grind);rw[Yzi]at this;have:=un _ 0 this i oi (by grind);rw[Yzi]at this;simp only[YzF]at this;rcases this with (this|this)|this
  ·grind[Yzf]
  ·grind
  ·grind
theorem zo6(C:yU P call){Q:Exit→Act→World→Prop}{a0:Act}{t t2:Tr Zb}{h:Za}{φ0:Phi}{l:List (Zi×Tr Zb×Zb)}{hs:List Za}{ro:Option Nat}
  (hok:zaX P ops (xq ops.toList)=true) (hev:evD call (zbZ P nt ops) t h=some (l,t2,hs)) (hch:uz call hs l=true)
  (hQ:∀a2 w2,Next1 w0 S φ0 nt h t2 (zfx h hs) a0 a2 w2→Q .normal a2 w2):
  ∀(fuel:Nat) (listed:Array Bool) (φ:Phi) (a:Act) (w:World) (Hk:Za),listed.size=ops.size→unl listed≤fuel→Clo ops (lst listed)→Ext h.n.toNat φ0 φ→
   hs[ce (lst listed) 0 (zaW P ops.toList)]? = some Hk→Zd w0 S φ Hk w→h.n.toNat≤Hk.n.toNat→Zh φ nt Hk.n.toNat (frL (lst listed) 0 (l.map dv) t) a.tmps→a.defers=a0.defers→
   wpAnyIn (FR ro) 0 P .any ops Q fuel listed a w:=by
 obtain⟨hA,hord⟩:=ziT hok;obtain⟨g1,g2,g3,g4,g5⟩:=zfU call _ _ _ _ _ _ hev;have heff:(zbZ P nt ops).map (·.eff)=zaW P ops.toList:=zdE _ _ _ _ _ _ _;rw[heff]at g3 g5;have hl:∀(j:Nat) (o:Oper),ops[j]? = some o→∃tr v,l[j]? = some ((⟨yS P nt ops o,(o.looksAt ops).map bn,!yI P o.op,ce (fun k=>bef (xq ops.toList) k j) 0 (zaW P ops.toList),ce (fun k=>!bef (xq ops.toList) j k) 0 (zaW P ops.toList)⟩:Zi),tr,v):=by
  intro j o ho;have h1:(zbZ P nt ops)[j]? = some ⟨yS P nt ops o,(o.looksAt ops).map bn,!yI P o.op,ce (fun k=>bef (xq ops.toList) k j) 0 (zaW P ops.toList),ce (fun k=>!bef (xq ops.toList) j k) 0 (zaW P ops.toList)⟩:=by simp_all[zbZ,zdD]
  grind
 have hlen:l.length=ops.size:=by
  have h1:=congrArg List.length g1;have h2:=congrArg List.length heff
  grind[zaW]
 have hdst:∀(j:Nat) (o:Oper) (d:Zi) (tr:Tr Zb) (v:Zb),ops[j]? = some o→l[j]? = some (d,tr,v)→d.rop.dst=o.dst.map bn∧inT nt o.dst=true:=by grind[zaV]
 have hdv:∀(j:Nat) (d:Option BN) (v:Zb) (s:BN),(l.map dv)[j]? = some (d,v)→d=some s→∃o sn,ops[j]? = some o∧o.dst=some sn∧bn sn=s:=by
  intro j d v s hj hd;rw[Lz6]at hj;cases hx:l[j]? with
  |none=>grind
  |some x=>
   obtain⟨d',tr,v'⟩:=x;rw[hx]at hj;simp only[YzI,Option.some.injEq,dv,Prod.mk.injEq]at hj;have hjl:j<ops.size:=by grind
   have ho:ops[j]? = some ops[j]:=YzC hjl;have:=(hdst j _ d' tr v' ho hx).1;simp_all
 have hes:∀(j:Nat),(zaW P ops.toList)[j]? = some true→∃o,ops[j]? = some o∧yI P o.op=false:=by
  intro j hj;unfold zaW at hj
  grind
 have hes':∀(j:Nat) (o:Oper),ops[j]? = some o→(zaW P ops.toList)[j]? = some (!yI P o.op):=by grind
 intro fuel
 induction fuel with
 |zero=>
  intro listed φ a w Hk hsz hu hC hE hH HR hn T hdf;have hall:∀i,i<ops.size→lst listed i=true:=fun i hi=>zjv (by omega) (by omega);have hnil:Region.ready .any ops listed=[]:=by
   cases hr:Region.ready .any ops listed with
   |nil=>rfl
   |cons i r=>
    obtain⟨o,ho,h1,h2,h3⟩:=mem_ready (ops:=ops) (listed:=listed) (i:=i) (by grind)
    grind
  refine⟨hnil,hQ a w ⟨φ,hE,?_,?_,hdf,?_⟩⟩
  all_goals
   have hk:Hk=zfx h hs:=by have h1:=zfw hs h (fun hh=>by rw[hh]at g2;cases g2);rw[g3,Nat.add_sub_cancel]at h1;rw[wZ (L:=lst listed) (L':=fun _=>true) _ 0 (fun j hj=>by obtain⟨o,ho,_⟩:=hes j hj;rw[Yzi];exact hall j (Lz7.1 ho).1)]at hH;exact Option.some.inj (hH.symm.trans h1)
   subst hk
  ·exact HR
  ·rw[g4,←zaP (L:=lst listed) (l.map dv) 0 t (fun j hj=>by grind)];exact T
  ·exact hn
 |succ fuel ih=>
  intro listed φ a w Hk hsz hu hC hE hH HR hn T hdf;refine⟨fun hnil=>?_,fun i hi=>?_⟩
  ·have hall:=zeJ (ops:=ops) hsz (fun i o e ho he hb=>(hA i o ho).2 e he hb) hnil;have hk:Hk=zfx h hs:=by
    have h1:=zfw hs h (fun hh=>by grind);rw[g3,Nat.add_sub_cancel]at h1;rw[wZ (L:=lst listed) (L':=fun _=>true) _ 0 (fun j hj=>by grind)]at hH
    grind
   subst hk;refine hQ a w ⟨φ,hE,HR,?_,hdf,hn⟩;rw[g4,←zaP (L:=lst listed) (l.map dv) 0 t (fun j hj=>by grind)];exact T
  ·obtain⟨o,ho,hlt,hli,hR⟩:=mem_ready hi;obtain⟨tr,v,hj⟩:=hl i o ho;obtain⟨htr,hk0,h0',hk0s,hone0,heff0⟩:=g5 i _ tr v hj;obtain⟨hnosel,hedge⟩:=hA i o ho;obtain⟨hdd,hdin⟩:=hdst i o _ tr v ho hj;have before:∀j,bef (xq ops.toList) j i=true→lst listed j=true:=fun j hb=>vQ hb hC hR;have after:∀j,bef (xq ops.toList) i j=true→lst listed j=false:=by
    intro j hb;cases hj:lst listed j with
    |false=>rfl
    |true=>
     have:=vQ hb hC (hC j hj)
     grind
   have hCi:Clo ops (fun k=>decide (k<i)):=by
    intro j hj o' e ho' he hb
    grind
   have hRi:Rdy ops (fun k=>decide (k<i)) i:=by
    intro o' e ho' he hb
    grind
   have hagree:∀s∈(o.looksAt ops).map bn,(frL (fun k=>decide (k<i)) 0 (l.map dv) t).get s=(frL (lst listed) 0 (l.map dv) t).get s:=by
    intro s hs';obtain⟨sn,hsn,rfl⟩:=List.mem_map.1 hs';rw[jJ,jJ]
    congr 1
    refine zaF _ 0 fun j d v hjd hds=>?_;obtain⟨oj,sj,hoj,hsj,hbe⟩:=hdv j d v _ hjd hds;have:=u1 hbe;subst this;rw[Yzi]
    grind[Oper.apart_spec]
   have htrg:∀s,tr.get s=(frL (lst listed) 0 (l.map dv) t).get s∧s∈(o.looksAt ops).map bn∨tr.get s=none:=by
    intro s
    classical
    have:=vX (frL (fun k=>decide (k<i)) 0 (l.map dv) t) s ((o.looksAt ops).map bn)
    grind
   have Tr':Zh φ nt Hk.n.toNat tr (vt φ nt tr):=by
    refine zhn (fun j hj=>?_) (fun s v hv=>?_)
    ·rcases htrg (bn j) with⟨h1,_⟩|h1
     ·rw[h1];exact T.out j hj
     ·exact h1
    ·rcases htrg s with⟨h1,_⟩|h1
     ·rw[h1]at hv;exact T.wf s v hv
     ·grind
   have htmps:∀sn∈o.looksAt ops,a.tmps[sn]? = (vt φ nt tr)[sn]?:=by
    intro sn hsn;by_cases hlt':sn<nt
    ·rw[T.get sn hlt',Tr'.get sn hlt'];have hm:bn sn∈(o.looksAt ops).map bn:=List.mem_map.2 ⟨sn,hsn,rfl⟩;rw[←hagree _ hm]
     classical
     have:=vX (frL (fun k=>decide (k<i)) 0 (l.map dv) t) (bn sn) ((o.looksAt ops).map bn)
     grind
    ·have e1:a.tmps[sn]? = none:=Yz3 (by rw[T.size];grind);have e2:(vt φ nt tr)[sn]? = none:=Yz3 (by rw[Tr'.size];grind);rw[e1,e2]
   have hexec:execOp a.eval o=execOp ({ tmps:=vt φ nt tr,defers:=[] }:Act).eval o:=by
    refine execOp_congr o hnosel fun x hx=>?_;cases x with
    |tmp sn=>have:=htmps sn (YzN _ (List.mem_filterMap.2 ⟨.tmp sn,by grind,rfl⟩));simp only[Act.eval,Yzy,this]
    |_=>rfl
   have hwant:Region.wanted o (yielded ops a.tmps)=Region.wanted o (yielded ops (vt φ nt tr)):=by
    unfold Region.wanted;cases hg:o.guard with
    |none=>rfl
    |some gb=>
     obtain⟨g,b⟩:=gb;simp only;have:yielded ops a.tmps g=yielded ops (vt φ nt tr) g:=by
      unfold yielded;cases hd:(ops[g]?).bind (·.dst) with
      |none=>rfl
      |some sn=>
       have:=htmps sn (YzP _ (by grind))
       grind
     rw[this]
   have hone:∃h',xI call (yS P nt ops o) tr Hk=some (v,h')∧hs[ce (lst (listed.setIfInBounds i true)) 0 (zaW P ops.toList)]? = some h':=by
    cases hq:yI P o.op with
    |false=>
     have hce:ce (lst listed) 0 (zaW P ops.toList)=ce (fun k=>decide (k<i)) 0 (zaW P ops.toList):=by
      refine wZ _ 0 fun j hj=>?_
      grind
     rw[hce]at hH;cases hH.symm.trans hk0s;refine⟨h0',hone0,?_⟩;have:=heff0 (by simp[hq]);rw[←hce]at this;rw[zhs (L:=lst listed) (zaW P ops.toList) 0 i (by grind) (by grind) (by grind[vq]) (fun j hj=>by rw[Yzi]at hj;grind[vq])];exact this
    |true=>
     have hsame:ce (lst (listed.setIfInBounds i true)) 0 (zaW P ops.toList)=ce (lst listed) 0 (zaW P ops.toList):=by
      refine wZ _ 0 fun j hj=>?_;rw[Yzi,vq hlt]
      grind
     have hlo:ce (fun k=>bef (xq ops.toList) k i) 0 (zaW P ops.toList)≤ce (lst listed) 0 (zaW P ops.toList):=wJ _ 0 fun j _ hb=>by grind
     have hhi:ce (lst listed) 0 (zaW P ops.toList)≤ce (fun k=>!bef (xq ops.toList) i k) 0 (zaW P ops.toList):=wJ _ 0 fun j _ hb=>by grind
     have hlo0:ce (fun k=>bef (xq ops.toList) k i) 0 (zaW P ops.toList)≤ce (fun k=>decide (k<i)) 0 (zaW P ops.toList):=wJ _ 0 fun j _ hb=>by rw[Yzi]at hb ⊢;grind[vQ]
     have hhi0:ce (fun k=>decide (k<i)) 0 (zaW P ops.toList)≤ce (fun k=>!bef (xq ops.toList) i k) 0 (zaW P ops.toList):=wJ _ 0 fun j _ hb=>by
      rw[Yzi]at hb ⊢;cases hbb:bef (xq ops.toList) i j with
      |false=>rfl
      |true=>
       have:=vQ hbb hCi (hCi j hb)
       grind
     have hex:∃h',xI call (yS P nt ops o) tr Hk=some (v,h'):=by
      rcases zdA l hch i _ tr v hj (by simp[hq]) with heq|hall
      ·grind
      ·grind
     obtain⟨h',hh'⟩:=hex;refine⟨h',hh',?_⟩;have:h'=Hk:=by
      rcases zhh (a:={ tmps:=vt φ nt tr,defers:=[] }) hh' Tr' with⟨_,hc⟩|⟨_,_,hc⟩
      ·exact zmS P o.op hq _ _ _ _ _ hc
      ·exact hc
     grind
   obtain⟨h',hone,hH'⟩:=hone;have hC':Clo ops (lst (listed.setIfInBounds i true)):=by
    intro j hj o' e ho' he hb;rw[vq hlt]at hj ⊢;rw[YzF]
    right
    simp only[YzF,YzD]at hj;rcases hj with hj|hj
    ·subst hj;exact hR o' e ho' he hb
    ·exact hC j hj o' e ho' he hb
   have next:∀(φ2:Phi) (w2:World),Ext Hk.n.toNat φ φ2→Zd w0 S φ2 h' w2→wfA φ2 h'.n.toNat v→Hk.n.toNat≤h'.n.toNat→wpAnyIn (FR ro) 0 P .any ops Q fuel (listed.setIfInBounds i true) (a.put o.dst (zp φ2 v)) w2:=by
    intro φ2 w2 he H2 hv hle;refine ih _ φ2 _ w2 h' (by grind) ?_ hC' (hE.trans he hn) hH' H2 (Yzn hn hle) ?_ ((put_defers _ _ _).trans hdf)
    ·grind[zmD]
    ·refine Zh.of_get (Zh.put (T.ext he hle) hv o.dst hdin) fun s=>?_
     classical
     rw[zeZ,jJ];have hri:(l.map dv)[i]? = some (o.dst.map bn,v):=by grind[dv]
     by_cases hd:o.dst.map bn=some s
     ·rw[Yzd hd];rw[hd]at hri;rw[ziw (l.map dv) 0 i v hri (by rw[Yzi,vq hlt];simp) (fun j d u hij hjd hds=>?_)]
      ·rfl
      ·rw[Yzi,vq hlt];obtain⟨oj,sj,hoj,hsj,hbe⟩:=hdv j d u _ hjd hds;have hne:¬j=i:=by omega
       simp only[hne,decide_false,Yz9]
       grind[u1,Oper.apart_spec]
     ·rw[Yzb hd,jJ]
      congr 1
      refine zaF _ 0 fun j d u hjd hds=>?_;rw[Yzi,vq hlt]
      grind
   unfold wpOpIn;simp only[ho];rcases zhh (a:={ tmps:=vt φ nt tr,defers:=[] }) hone Tr' with⟨hw,hc⟩|⟨hw,hv,hh⟩
   ·rw[Yzd (by grind)];exact zgQ C HR (ar:={ tmps:=vt φ nt tr,defers:=[] }) Tr' hexec hc next
   ·rw[Yzb (by grind)];subst hv hh;exact⟨fun f _=>trivial,next φ w (Ext.refl _ _) HR (fun _ hv=>by cases hv) (LzB _)⟩
end
end Go.CE
end
section
namespace Go.CE
open Go.RowKit
section
variable {α:Type}
theorem kQ:∀(n:BN) (t:Tr α),(t.del n).get n=none:=by
 intro n
 induction n with
 |z=>intro t;cases t<;>rfl
 |o n ih=>intro t;cases t with
  |nil=>rfl
  |node l v r=>exact ih l
 |d n ih=>intro t;cases t with
  |nil=>rfl
  |node l v r=>exact ih r
theorem jG:∀(n m:BN) (t:Tr α),m≠n→(t.del n).get m=t.get m:=by
 intro n
 induction n with
 |z=>intro m t h;cases t with
  |nil=>rfl
  |node l v r=>cases m with
   |z=>trivial
   |o m=>rfl
   |d m=>rfl
 |o n ih=>intro m t h;cases t with
  |nil=>rfl
  |node l v r=>cases m with
   |z=>rfl
   |o m=>exact ih m l (fun e=>h (by rw[e]))
   |d m=>rfl
 |d n ih=>intro m t h;cases t with
  |nil=>rfl
  |node l v r=>cases m with
   |z=>rfl
   |o m=>rfl
   |d m=>exact ih m r (fun e=>h (by rw[e]))
end
abbrev nm(n0 j:Nat):BN:=bn (Nat.add n0 j)
theorem yJ(n0 j:Nat):(nm n0 j).toNat=n0+j:=ye _
theorem ut{n0 i j:Nat}(h:nm n0 i=nm n0 j):i=j:=by
 have:=congrArg BN.toNat h
 grind[yJ]
theorem zzT{n0:Nat}{b:BN}(h:n0≤b.toNat):b=nm n0 (b.toNat-n0):=by grind[BN.toNat_inj,yJ]
theorem zdu{n0:Nat}:∀(l:List Nat) (t:Tr Zf) (j:Nat),j∈l→(zbs n0 l t).get (nm n0 j)=none
 | [],_,j,h=>by cases h
 |i::l,t,j,h=>by
  unfold zbs;by_cases hj:j∈l
  ·exact zdu l _ j hj
  ·have hji:j=i:=by
    grind
   subst hji;have key:∀(l:List Nat) (t:Tr Zf) (b:BN),t.get b=none→(zbs n0 l t).get b=none:=by
    intro l
    induction l with
    |nil=>intro t b h;exact h
    |cons i l ih=>intro t b h;unfold zbs;apply ih;by_cases hb:b=bn (Nat.add n0 i)<;>simp_all[kQ,jG]
   grind[kQ]
theorem ux{n0:Nat}:∀(l:List Nat) (t:Tr Zf) (b:BN),(∀j∈l,b≠nm n0 j)→(zbs n0 l t).get b=t.get b
 | [],_,_,_=>rfl
 |i::l,t,b,h=>by unfold zbs;rw[ux l _ b fun j hj=>h j (by simp[hj]),jG _ _ _ (h i (by simp))]
theorem qy{n0:Nat}{h:Tr Zf}:∀(l:List Nat) (t t':Tr Zf),zgj n0 h l t=some t'→
  (∀j∈l,t'.get (nm n0 j)=h.get (nm n0 j))∧(∀b,(∀j∈l,b≠nm n0 j)→t'.get b=t.get b)∧∀j∈l,t.get (nm n0 j)=none
 | [],t,t',e=>by cases e<;>grind
 |i::l,t,t',e=>by
  unfold zgj at e;split at e
  ·cases e
  ·rename_i hn;split at e
   ·rename_i o ho;obtain⟨g1,g2,g3⟩:=qy l _ t' e;have hni:∀j∈l,nm n0 i≠nm n0 j:=fun j hj hh=>by
     have:=g3 j hj;rw[←hh]at this;rw[show nm n0 i=bn (Nat.add n0 i) from rfl,zx]at this;cases this
    refine⟨fun j hj=>?_,fun b hb=>?_,fun j hj=>?_⟩
    ·rcases Yzw.1 hj with rfl|hj
     ·rw[g2 _ hni,show nm n0 j=bn (Nat.add n0 j) from rfl,zx,ho]
     ·grind
    ·grind[zo]
    ·rcases Yzw.1 hj with rfl|hj
     ·exact hn
     ·grind[zo]
   ·rename_i ho;obtain⟨g1,g2,g3⟩:=qy l _ t' e
    grind
theorem zBm{n0:Nat}(h t:Tr Zf):∀(l:List Nat),∃t':Tr Zf,(∀j∈l,t'.get (nm n0 j)=h.get (nm n0 j))∧∀b,(∀j∈l,b≠nm n0 j)→t'.get b=t.get b
 | []=>⟨t,fun j hj=>(by cases hj),fun _ _=>rfl⟩
 |i::l=>by
  obtain⟨t1,g1,g2⟩:=zBm h t l;have key:∃t2:Tr Zf,t2.get (nm n0 i)=h.get (nm n0 i)∧∀b,b≠nm n0 i→t2.get b=t1.get b:=by
   cases ho:h.get (nm n0 i) with
   |none=>exact⟨t1.del (nm n0 i),kQ _ _,fun b hb=>jG _ _ _ hb⟩
   |some o=>exact⟨t1.set (nm n0 i) o,zx _ _ _,fun b hb=>zo _ _ _ _ hb⟩
  obtain⟨t2,k1,k2⟩:=key;refine⟨t2,fun j hj=>?_,fun b hb=>?_⟩
  ·by_cases hji:nm n0 j=nm n0 i
   ·grind
   ·rw[k2 _ hji];rcases Yzw.1 hj with rfl|hj
    ·trivial
    ·exact g1 j hj
  ·grind
def Sbh(e h:Za):Prop:=∀b o,e.t.get b=some o→h.t.get b=some o
section
variable {w0:World} {S:Nat→Prop} {φ φ2:Phi} {h e e2 h2:Za} {w w2:World}
def zyI(φ:Phi)(e:Za)(k:Nat):Prop:=∃b o,e.t.get b=some o∧live o∧(φ b).blk=k
theorem Zd.sub(H:Zd w0 S φ h w)(hs:Sbh e h)(hn:e.n.toNat=h.n.toNat):Zd w (zyI φ e) φ e w:=
 ⟨fun b o hb => by rw [hn]; exact H.keys b o (hs b o hb), fun b o hb => H.okb b o (hs b o hb), fun b o hb => by rw [hn]; exact H.obj b o (hs b o hb),
  fun b b' o o' hb hb' hl hl' he=>H.inj b b' o o' (hs b o hb) (hs b' o' hb') hl hl' he,fun b o hb hl=>.inl ⟨b,o,hb,hl,rfl⟩,rfl,rfl,rfl,LzB _,LzB _,fun _ _ _=>rfl,H.glob,fun b o hb hl=>H.flat b o (hs b o hb) hl,fun b o hb hl=>H.ng b o (hs b o hb) hl⟩
theorem Zd.join(H:Zd w0 S φ h w)(hs:Sbh e h)(_hn:e.n.toNat=h.n.toNat)(H2:Zd w (zyI φ e) φ2 e2 w2)(he:Ext h.n.toNat φ φ2)(hle:h.n.toNat≤e2.n.toNat)
  (hn2:h2.n.toNat=e2.n.toNat) (hg:∀b o,h2.t.get b=some o→e2.t.get b=some o∨(h.t.get b=some o∧e.t.get b=none)):Zd w0 S φ2 h2 w2:=by
 have hold:∀b o,h.t.get b=some o→φ2 b=φ b:=fun b o hb=>he b (H.keys b o hb);have hdesc:∀k,zyI φ e k→S k∨w0.heap.size≤k:=by
  rintro k ⟨b,o,hb,hl,rfl⟩
  exact H.own b o (hs b o hb) hl
 have hrest:∀b o,h.t.get b=some o→e.t.get b=none→live o→¬zyI φ e (φ b).blk:=by
  rintro b o hb hn hl ⟨c,o',hc,hl',hcc⟩
  have:=H.inj c b o' o (hs c o' hc) hb hl' hl hcc
  grind
 have hlt:∀b o,h.t.get b=some o→live o→(φ b).blk<w.heap.size:=fun b o hb hl=>(H.obj b o hb).there hl;refine⟨fun b o hb=>?_,fun b o hb=>?_,fun b o hb=>?_,fun b b' o o' hb hb' hl hl' hh=>?_,fun b o hb hl=>?_,H2.os.trans H.os,H2.tape.trans H.tape,H2.output.trans H.output,Yzn H.size H2.size,Yzn H.drawn H2.drawn,fun k hk hS=>?_,H2.glob,fun b o hb hl=>?_,fun b o hb hl=>?_⟩
 ·rw[hn2];rcases hg b o hb with hb|⟨hb,_⟩
  ·exact H2.keys b o hb
  ·exact Lz9 (H.keys b o hb) hle
 ·rcases hg b o hb with hb|⟨hb,_⟩
  ·exact H2.okb b o hb
  ·rw[hold b o hb];exact H.okb b o hb
 ·rw[hn2];rcases hg b o hb with hb|⟨hb,hnone⟩
  ·exact H2.obj b o hb
  ·exact((H.obj b o hb).world fun hl=>H2.kept _ (hlt b o hb hl) (hrest b o hb hnone hl)).ext (H.okk b o hb) he hle
 ·have hcross:∀b b' o o',e2.t.get b=some o→h.t.get b'=some o'→e.t.get b'=none→live o→live o'→(φ2 b).blk=(φ2 b').blk→False:=by
   intro b b' o o' hb hb' hn hl hl' hh;rw[hold b' o' hb']at hh;rcases H2.own b o hb hl with h1|h1<;>grind
  rcases hg b o hb with hb|⟨hb,hnb⟩<;>rcases hg b' o' hb' with hb'|⟨hb',hnb'⟩
  ·exact H2.inj b b' o o' hb hb' hl hl' hh
  ·grind
  ·grind
  ·rw[hold b o hb,hold b' o' hb']at hh;exact H.inj b b' o o' hb hb' hl hl' hh
 ·rcases hg b o hb with hb|⟨hb,_⟩
  ·rcases H2.own b o hb hl with h1|h1
   ·grind
   ·exact .inr (Yzn H.size h1)
  ·rw[hold b o hb];exact H.own b o hb hl
 ·rw[H2.kept k (Lz9 hk H.size) (fun hd=>by
   grind)]
  exact H.kept k hk hS
 ·rcases hg b o hb with hb|⟨hb,_⟩
  ·exact H2.flat b o hb hl
  ·rw[hold b o hb];exact H.flat b o hb hl
 ·rcases hg b o hb with hb|⟨hb,_⟩
  ·exact H2.ng b o hb hl
  ·rw[hold b o hb];exact H.ng b o hb hl
theorem Zd.of_get(H:Zd w0 S φ h w)(hg:∀b,e.t.get b=h.t.get b)(hn:e.n.toNat=h.n.toNat):Zd w0 S φ e w:=
 ⟨fun b o hb => by rw [hn]; exact H.keys b o (by grind), fun b o hb => H.okb b o (by grind), fun b o hb => by rw [hn]; exact H.obj b o (by grind),
  fun b b' o o' hb hb'=>H.inj b b' o o' (by grind) (by grind),fun b o hb=>H.own b o (by grind),H.os,H.tape,H.output,H.size,H.drawn,H.kept,H.glob,fun b o hb hl=>H.flat b o (by grind) hl,fun b o hb hl=>H.ng b o (by grind) hl⟩
noncomputable def zeu(φ:Phi)(n0 N:Nat):Phi:=fun b=>if n0≤b.toNat∧b.toNat<n0+N then⟨0,0,0,false,none⟩ else φ b
theorem zet(φ:Phi)(n0 N:Nat):Ext n0 φ (zeu φ n0 N):=fun b hb=>by
 unfold zeu
 grind
theorem zou(φ:Phi)(n0 N j:Nat)(hj:j<N):(zeu φ n0 N (nm n0 j)).ok=false:=by simp_all[zeu,yJ]
theorem Zd.keep(H:Zd w0 S φ h w)(N:Nat):Zd w0 S (zeu φ h.n.toNat N) ⟨bn (Nat.add h.n.toNat N),h.t⟩ w:=by
 have he:=zet φ h.n.toNat N;have hn:(bn (Nat.add h.n.toNat N)).toNat=h.n.toNat+N:=ye _;refine⟨fun b o hb=>?_,fun b o hb=>?_,fun b o hb=>?_,fun b b' o o' hb hb' hl hl' hh=>?_,fun b o hb hl=>?_,H.os,H.tape,H.output,H.size,H.drawn,H.kept,H.glob,fun b o hb hl=>?_,fun b o hb hl=>?_⟩
 ·show b.toNat<(bn (Nat.add h.n.toNat N)).toNat;rw[hn];have:=H.keys b o hb;omega
 ·rw[he b (H.keys b o hb)];exact H.okb b o hb
 ·show ORel _ (bn (Nat.add h.n.toNat N)).toNat w b o;rw[hn];exact(H.obj b o hb).ext (H.okk b o hb) he (by omega)
 ·rw[he b (H.keys b o hb),he b' (H.keys b' o' hb')]at hh;exact H.inj b b' o o' hb hb' hl hl' hh
 ·rw[he b (H.keys b o hb)];exact H.own b o hb hl
 ·rw[he b (H.keys b o hb)];exact H.flat b o hb hl
 ·rw[he b (H.keys b o hb)];exact H.ng b o hb hl
def OWf(φ:Phi)(n:Nat):Zf→Prop
 | .cells cs _=>∀c∈cs,wfC φ n c
 | .ro _ f=>∀i c,f i=some c→wfC φ n c
 | .tcells cs _ _=>∀c∈cs,wfC φ n c
 | .map es=>∀p∈es,wfS φ n p.1∧wfS φ n p.2
 | .loop _ _ _ _ tmps _ _ _ d=>(∀i v,tmps.get i=some v→wfA φ n v)∧okB φ n d
 |_=>True
theorem ORel.wf{n:Nat}{b:BN}{o:Zf}(h:ORel φ n w b o):OWf φ n o:=by
 cases o with
 |cells cs st=>obtain⟨_,_,_,_,_,h4⟩:=h;exact h4
 |ro x f=>obtain⟨_,_,_,_,_,h4⟩:=h;exact fun i c hc=>(h4 i c hc).2
 |tcells cs ty var=>obtain⟨_,_,_,_,_,_,h4⟩:=h;exact h4
 |map es=>obtain⟨_,_,_,_,h3,_⟩:=h;exact h3
 |loop st pend fn nt tmps ps assign body d=>obtain⟨_,_,_,h2,h3⟩:=h;exact⟨h2.wf,h3⟩
 |_=>trivial
theorem ORel.recast{φ1 φ2:Phi}{n n1 n2:Nat}{b b2:BN}{o:Zf}(h:ORel φ1 n1 w b o)(hw:OWf φ n o)(hb:φ2 b2=φ1 b)(e1:zhT n φ φ1)(e2:zhT n φ φ2)(hn2:n≤n2):ORel φ2 n2 w b2 o:=by
 have cc:∀c,wfC φ n c→zi φ2 c=zi φ1 c:=fun c hc=>(wx e2 hc).trans (wx e1 hc).symm;have cs':∀c,wfS φ n c→zL φ2 c=zL φ1 c:=fun c hc=>(uW e2 hc).trans (uW e1 hc).symm;have ca:∀c,wfA φ n c→zp φ2 c=zp φ1 c:=fun c hc=>(zbu e2 hc).trans (zbu e1 hc).symm;cases o with
 |cells cs st=>
  obtain⟨arr,e,h1,h2,h3,h4⟩:=h;refine⟨arr,e,by grind,fun i c hc=>?_,by grind,fun c hc=>wV e2 hn2 (hw c hc)⟩;rw[hb,cc c (hw c (Lz3 hc))]
  grind
 |ro x f=>obtain⟨h0,arr,e,fr,h1,h2⟩:=h;refine⟨fun y hy=>by grind,arr,e,fr,by grind,fun i c hc=>?_⟩;obtain⟨k1,_⟩:=h2 i c hc;exact⟨by rw[hb,cc c (hw i c hc)];exact k1,wV e2 hn2 (hw i c hc)⟩
 |tcells cs ty var=>
  obtain⟨arr,h1,h2,h3,h4,h5,h6⟩:=h;refine⟨arr,by grind,fun i c hc=>?_,by grind,by grind,h5,fun c hc=>wV e2 hn2 (hw c hc)⟩;rw[cc c (hw c (Lz3 hc))]
  grind
 |dead=>trivial
 |void=>trivial
 |map es=>obtain⟨ents,clock,h1,h2,h3,h4⟩:=h;refine⟨ents,clock,by grind,?_,fun p hp=>⟨u4 e2 hn2 (hw p hp).1,u4 e2 hn2 (hw p hp).2⟩,h4⟩;rw[h2];exact YzO fun p hp=>by rw[cs' _ (hw p hp).1,cs' _ (hw p hp).2]
 |loop st pend fn nt tmps ps assign body d=>
  obtain⟨arr,f,h1,h2,h3⟩:=h;obtain⟨w1,w2'⟩:=hw;refine⟨arr,f,by rw[hb,(e2 d w2').trans (e1 d w2').symm];exact h1,⟨h2.size,fun i hi=>?_,h2.out,fun i v hv=>zjl e2 hn2 (w1 i v hv)⟩,okB.extW e2 hn2 w2'⟩;rw[h2.get i hi];cases hg:tmps.get (bn i) with
  |none=>rfl
  |some v=>grind
 |defer=>grind[ORel]
theorem Zd.rename(H:Zd w0 S φ h w){o:Zf}{φ1:Phi}(H1:Zd w0 S φ1 (h.new o) w2)(he:Ext h.n.toNat φ φ1)(hw:OWf φ h.n.toNat o){b:BN}(hb:b.toNat<h.n.toNat)(hbad:(φ b).ok=false)(hnone:h.t.get b=none):
  Zd w0 S (upd φ b (φ1 h.n)) (h.put b o) w2∧zhT h.n.toNat φ (upd φ b (φ1 h.n)):=by
 have hnb:∀c o',h.t.get c=some o'→c≠b:=fun c o' hc hh=>by grind
 have hnn:∀c o',h.t.get c=some o'→c≠h.n:=fun c o' hc hh=>by have:=H.keys c o' hc;grind
 have hupd:∀c,c≠b→upd φ b (φ1 h.n) c=φ c:=fun c hc=>by grind[upd]
 have hget:∀c x,(h.put b o).t.get c=some x→(c=b∧x=o)∨(c≠b∧h.t.get c=some x):=by grind[Za.put,kP]
 have hold:∀c x,h.t.get c=some x→(h.new o).t.get c=some x:=fun c x hc=>by grind[Za.new,zo]
 have hnew:(h.new o).t.get h.n=some o:=by grind[Za.new,zx]
 have e2:zhT h.n.toNat φ (upd φ b (φ1 h.n)):=fun c hc=>hupd c fun hh=>by grind
 refine⟨⟨fun c x hc=>?_,fun c x hc=>?_,fun c x hc=>?_,fun c c' x x' hc hc' hl hl' hh=>?_,fun c x hc hl=>?_,H1.os,H1.tape,H1.output,H1.size,H1.drawn,H1.kept,H1.glob,fun c x hc hl=>?_,fun c x hc hl=>?_⟩,e2⟩
 ·rcases hget c x hc with⟨rfl,_⟩|⟨_,hc'⟩
  ·exact hb
  ·exact H.keys c x hc'
 ·rcases hget c x hc with⟨rfl,_⟩|⟨hne,hc'⟩
  ·rw[zm];exact H1.okb _ _ hnew
  ·rw[hupd c hne];exact H.okb c x hc'
 ·rcases hget c x hc with⟨rfl,rfl⟩|⟨hne,hc'⟩
  ·exact(H1.obj _ _ hnew).recast hw (zm _ _ _) he.w e2 (LzB _)
  ·exact(H1.obj _ _ (hold c x hc')).recast (H.obj c x hc').wf ((hupd c hne).trans (he c (H.keys c x hc')).symm) he.w e2 (LzB _)
 ·rcases hget c x hc with⟨rfl,rfl⟩|⟨hne,hc1⟩<;>rcases hget c' x' hc' with⟨rfl,rfl⟩|⟨hne',hc2⟩
  ·rfl
  ·rw[zm,hupd c' hne',←he c' (H.keys c' x' hc2)]at hh;exact absurd (H1.inj _ _ _ _ hnew (hold c' x' hc2) hl hl' hh).symm (hnn c' x' hc2)
  ·rw[zm,hupd c hne,←he c (H.keys c x hc1)]at hh;exact absurd (H1.inj _ _ _ _ (hold c x hc1) hnew hl hl' hh) (hnn c x hc1)
  ·rw[hupd c hne,hupd c' hne']at hh;exact H.inj c c' x x' hc1 hc2 hl hl' hh
 ·rcases hget c x hc with⟨rfl,rfl⟩|⟨hne,hc'⟩
  ·rw[zm];exact H1.own _ _ hnew hl
  ·rw[hupd c hne];exact H.own c x hc' hl
 ·rcases hget c x hc with⟨rfl,rfl⟩|⟨hne,hc'⟩
  ·rw[zm];exact H1.flat _ _ hnew hl
  ·rw[hupd c hne];exact H.flat c x hc' hl
 ·rcases hget c x hc with⟨rfl,rfl⟩|⟨hne,hc'⟩
  ·rw[zm];exact H1.ng _ _ hnew hl
  ·rw[hupd c hne];exact H.ng c x hc' hl
end
end Go.CE
end
section
namespace Go.CE
open Go.RowKit
def y5(f:zdV):Prop:=∀call t h h' v h2,f call t h=some (v,h2)→Sbh h h'→f call t h'=some (v,h')
theorem zV:y5 (zJ none):=fun _ _ _ _ _ _ e=>by cases e
theorem y0{f:zdV}(hf:y5 f):y5 (zJ (some f)):=hf
theorem zod{α:Type}{a:Option α}{g:α→Option zdV}(hg:∀x,y5 (zJ (g x))):y5 (zJ (a.bind g)):=by cases a<;>grind[zV]
theorem zy{α:Type}{a:Option α}{g:α→Option zdV}(hg:∀x,y5 (zJ (g x))):y5 (zJ (a >>= g)):=zod hg
theorem zj5{α:Type}{a:Option α}{g:α→zdV}(hg:∀x,y5 (g x)):y5 (zJ (a.map g)):=by cases a<;>grind[zV,zJ]
theorem xM{b:Bool}{x y:Option zdV}(hx:y5 (zJ x))(hy:y5 (zJ y)):y5 (zJ (bif b then x else y)):=by grind
section
variable {h h' h2:Za} {v:Zb}
theorem yu{c:Option Zc}(e:za6 h c=some (v,h2)):za6 h' c=some (v,h'):=by cases c<;>cases e;rfl
theorem yv{c:Option (List Zc)}(e:ze3 h c=some (v,h2)):ze3 h' c=some (v,h'):=by cases c<;>cases e;rfl
theorem yy{n:Option Nat}{cs:List Zc}{off:Nat}(e:part n cs off h=some (v,h2)):part n cs off h'=some (v,h'):=by
 cases n
 ·exact yu e
 ·exact yv e
theorem xC{b:Bool}{x y x' y':Res}(hx:x=some (v,h2)→x'=some (v,h'))(hy:y=some (v,h2)→y'=some (v,h'))(e:(bif b then x else y)=some (v,h2)):(bif b then x' else y')=some (v,h'):=by grind
theorem zgx{st:Nat}{lo hi mx:Option Opd}{t:Tr Zb}{b:BN}{off len cap:Nat}(e:xm st lo hi mx t h b off len cap=some (v,h2)):xm st lo hi mx t h' b off len cap=some (v,h'):=by
 unfold xm at e ⊢
 (repeat' split at e)<;>first|(cases e;done)|((try simp only[*]);exact xC (fun e=>by cases e;rfl) (fun e=>by cases e) e)
theorem zmW{st:Nat}{lo hi mx:Option Opd}{t:Tr Zb}{b:BN}{off len cap:Nat}(e:xc st lo hi mx t h b off len cap=some (v,h2)):xc st lo hi mx t h' b off len cap=some (v,h'):=by
 unfold xc at e ⊢
 (repeat' split at e)<;>first|(cases e;done)|(cases e;simp only[*];done)|((try simp only[*]);exact xC (fun e=>by cases e;rfl) (fun e=>by cases e) e)
theorem zlg{lo hi mx:Option Opd}{t:Tr Zb}(e:xU lo hi mx t h=some (v,h2)):xU lo hi mx t h'=some (v,h'):=by grind[xU]
end
theorem zit(x):y5 (zjV x):=by intro call t h h' v h2 e _;simp_all[zjV]
theorem zn3(x y z):y5 (j6 x y z):=by
 intro call t h h' v h2 e _;unfold j6 at e ⊢
 (repeat' split at e)<;>first
  |(cases e;done)
  |(cases e;simp only[*];done)
  |((try simp only[*]);first|exact yu e|exact yv e|exact yy e|exact xC (fun e=>by first|(cases e;rfl)|exact yu e|exact yv e|exact yy e) (fun e=>by cases e) e)
theorem zel(zs ps):y5 (ui zs ps):=by intro call t h h' v h2 e _;exact yv e
theorem zlF(x):y5 (ud x):=by
 intro call t h h' v h2 e _;unfold ud at e ⊢
 (repeat' split at e)<;>first
  |(cases e;done)
  |(cases e;simp only[*];done)
  |((try simp only[*]);first|exact yu e|exact yv e|exact yy e|exact xC (fun e=>by first|(cases e;rfl)|exact yu e|exact yv e|exact yy e) (fun e=>by cases e) e)
theorem zq3(g x y):y5 (zb1 g x y):=by
 intro call t h h' v h2 e _;unfold zb1 at e ⊢
 (repeat' split at e)<;>first
  |(cases e;done)
  |(cases e;simp only[*];done)
  |((try simp only[*]);first|exact yu e|exact yv e|exact yy e|exact xC (fun e=>by first|(cases e;rfl)|exact yu e|exact yv e|exact yy e) (fun e=>by cases e) e)
theorem zlD(g x y):y5 (wQ g x y):=by
 intro call t h h' v h2 e _;unfold wQ at e ⊢
 (repeat' split at e)<;>first
  |(cases e;done)
  |(cases e;simp only[*];done)
  |((try simp only[*]);first|exact yu e|exact yv e|exact yy e|exact xC (fun e=>by first|(cases e;rfl)|exact yu e|exact yv e|exact yy e) (fun e=>by cases e) e)
theorem zqY(g x y):y5 (zcV g x y):=by
 intro call t h h' v h2 e _;unfold zcV at e ⊢
 (repeat' split at e)<;>first
  |(cases e;done)
  |(cases e;simp only[*];done)
  |((try simp only[*]);first|exact yu e|exact yv e|exact yy e|exact xC (fun e=>by first|(cases e;rfl)|exact yu e|exact yv e|exact yy e) (fun e=>by cases e) e)
theorem ztJ(g n x y):y5 (zjW g n x y):=by
 intro call t h h' v h2 e _;unfold zjW at e ⊢
 (repeat' split at e)<;>first
  |(cases e;done)
  |(cases e;simp only[*];done)
  |((try simp only[*]);first|exact yu e|exact yv e|exact yy e|exact xC (fun e=>by first|(cases e;rfl)|exact yu e|exact yv e|exact yy e) (fun e=>by cases e) e)
theorem zn4(n x y):y5 (uL n x y):=by
 intro call t h h' v h2 e _;unfold uL at e ⊢
 grind
theorem zn5(n x y):y5 (j7 n x y):=by
 intro call t h h' v h2 e _;unfold j7 at e ⊢
 grind
theorem zq0(x):y5 (zcW x):=by
 intro call t h h' v h2 e _;unfold zcW at e ⊢
 (repeat' split at e)<;>first
  |(cases e;done)
  |(cases e;simp only[*];done)
  |((try simp only[*]);first|exact yu e|exact yv e|exact yy e|exact xC (fun e=>by first|(cases e;rfl)|exact yu e|exact yv e|exact yy e) (fun e=>by cases e) e)
theorem zq1(x):y5 (zcX x):=by
 intro call t h h' v h2 e _;unfold zcX at e ⊢
 (repeat' split at e)<;>first
  |(cases e;done)
  |(cases e;simp only[*];done)
  |((try simp only[*]);first|exact yu e|exact yv e|exact yy e|exact xC (fun e=>by first|(cases e;rfl)|exact yu e|exact yv e|exact yy e) (fun e=>by cases e) e)
theorem zoc(k x):y5 (kF k x):=by
 intro call t h h' v h2 e _;unfold kF at e ⊢
 (repeat' split at e)<;>first
  |(cases e;done)
  |(cases e;simp only[*];done)
  |((try simp only[*]);first|exact yu e|exact yv e|exact yy e|exact xC (fun e=>by first|(cases e;rfl)|exact yu e|exact yv e|exact yy e) (fun e=>by cases e) e)
theorem zn6(f x):y5 (j8 f x):=by
 intro call t h h' v h2 e _;unfold j8 at e ⊢
 (repeat' split at e)<;>first
  |(cases e;done)
  |(cases e;simp only[*];done)
  |((try simp only[*]);first|exact yu e|exact yv e|exact yy e|exact xC (fun e=>by first|(cases e;rfl)|exact yu e|exact yv e|exact yy e) (fun e=>by cases e) e)
theorem zir(x lo hi):y5 (xW x lo hi):=by
 intro call t h h' v h2 e _;unfold xW at e ⊢
 (repeat' split at e)<;>first
  |(cases e;done)
  |(cases e;simp only[*];done)
  |((try simp only[*]);first|exact yu e|exact yv e|exact yy e|exact xC (fun e=>by first|(cases e;rfl)|exact yu e|exact yv e|exact yy e) (fun e=>by cases e) e)
theorem zob(x o):y5 (kE x o):=by
 intro call t h h' v h2 e _;unfold kE at e ⊢
 (repeat' split at e)<;>first
  |(cases e;done)
  |(cases e;simp only[*];done)
  |((try simp only[*]);first|exact yu e|exact yv e|exact yy e|exact xC (fun e=>by first|(cases e;rfl)|exact yu e|exact yv e|exact yy e) (fun e=>by cases e) e)
theorem zlJ(x o n):y5 (uh x o n):=by
 intro call t h h' v h2 e _;unfold uh at e ⊢
 (repeat' split at e)<;>first
  |(cases e;done)
  |(cases e;simp only[*];done)
  |((try simp only[*]);first|exact yu e|exact yv e|exact yy e|exact xC (fun e=>by first|(cases e;rfl)|exact yu e|exact yv e|exact yy e) (fun e=>by cases e) e)
theorem zq2(st x i):y5 (zc0 st x i):=by
 intro call t h h' v h2 e _;unfold zc0 at e ⊢
 (repeat' split at e)<;>first
  |(cases e;done)
  |(cases e;simp only[*];done)
  |((try simp only[*]);first|exact yu e|exact yv e|exact yy e|exact xC (fun e=>by first|(cases e;rfl)|exact yu e|exact yv e|exact yy e) (fun e=>by cases e) e)
theorem zlH(l st x i):y5 (uf l st x i):=by
 intro call t h h' v h2 e _;unfold uf at e ⊢
 (repeat' split at e)<;>first
  |(cases e;done)
  |(cases e;simp only[*];done)
  |((try simp only[*]);first|exact yu e|exact yv e|exact yy e|exact xC (fun e=>by first|(cases e;rfl)|exact yu e|exact yv e|exact yy e) (fun e=>by cases e) e)
theorem zlI(l st n x i):y5 (ug l st n x i):=by
 intro call t h h' v h2 e _;unfold ug at e ⊢
 (repeat' split at e)<;>first
  |(cases e;done)
  |(cases e;simp only[*];done)
  |((try simp only[*]);first|exact yu e|exact yv e|exact yy e|exact xC (fun e=>by first|(cases e;rfl)|exact yu e|exact yv e|exact yy e) (fun e=>by cases e) e)
theorem zlG(x i):y5 (ue x i):=by
 intro call t h h' v h2 e _;unfold ue at e ⊢
 (repeat' split at e)<;>first
  |(cases e;done)
  |(cases e;simp only[*];done)
  |((try simp only[*]);first|exact yu e|exact yv e|exact yy e|exact xC (fun e=>by first|(cases e;rfl)|exact yu e|exact yv e|exact yy e) (fun e=>by cases e) e)
theorem zgV(x i):y5 (xL x i):=by
 intro call t h h' v h2 e _;unfold xL at e ⊢
 (repeat' split at e)<;>first
  |(cases e;done)
  |(cases e;simp only[*];done)
  |((try simp only[*]);first|exact yu e|exact yv e|exact yy e|exact xC (fun e=>by first|(cases e;rfl)|exact yu e|exact yv e|exact yy e) (fun e=>by cases e) e)
theorem zn8(x):y5 (ki x):=by
 intro call t h h' v h2 e _;unfold ki at e ⊢
 (repeat' split at e)<;>first
  |(cases e;done)
  |(cases e;simp only[*];done)
  |((try simp only[*]);first|exact yu e|exact yv e|exact yy e|exact xC (fun e=>by first|(cases e;rfl)|exact yu e|exact yv e|exact yy e) (fun e=>by cases e) e)
theorem zoa(x):y5 (kC x):=by
 intro call t h h' v h2 e _;unfold kC at e ⊢
 grind
theorem zc4(b x xs):y5 (xh b x xs):=by
 intro call t h h' v h2 e _;unfold xh at e ⊢
 (repeat' split at e)<;>first
  |(cases e;done)
  |(cases e;simp only[*];done)
  |((try simp only[*]);first|exact yu e|exact yv e|exact yy e|exact xC (fun e=>by first|(cases e;rfl)|exact yu e|exact yv e|exact yy e) (fun e=>by cases e) e)
theorem zlC(st x lo hi mx):y5 (ub st x lo hi mx):=by
 intro call t h h' v h2 e _;unfold ub at e ⊢;split at e
 ·grind[zlg]
 ·(try simp only[*]);exact xC zgx zmW e
 ·cases e
theorem zlE(n x y):y5 (uc n x y):=by
 intro call t h h' v h2 e _
 grind[uc]
theorem zis(l st x lo hi mx):y5 (vH l st x lo hi mx):=by
 intro call t h h' v h2 e _
 grind[vH,zgx]
theorem zqZ(x):y5 (zfj x):=by
 intro call t h h' v h2 e hs;unfold zfj at e ⊢;split at e
 ·grind
 ·rename_i b o hx;cases hb:h.t.get b with
  |none=>grind
  |some ob=>rw[hb]at e;rw[hs b ob hb];cases ob<;>grind
 ·cases e
theorem zqX(u n x):y5 (zfi u n x):=by
 intro call t h h' v h2 e hs;unfold zfi at e ⊢;split at e
 ·grind
 ·rename_i b o hx;refine xC (fun e=>?_) (fun e=>by cases e) e;cases hb:h.t.get b with
  |none=>grind
  |some ob=>rw[hb]at e;rw[hs b ob hb];cases ob<;>grind
 ·cases e
theorem zrd{n:Option Nat}{h h' h2:Za}{off:Nat}{o:Zf}{v:Zb}(e:loadAt n h off (some o)=some (v,h2)):loadAt n h' off (some o)=some (v,h'):=by
 cases o with
 |cells cs st=>exact yy (e:part n cs off h=some (v,h2))
 |tcells cs ty var=>exact yy (e:part n cs off h=some (v,h2))
 |ro x f=>have e:zgK n f off h=some (v,h2):=e;show zgK n f off h'=some (v,h');unfold zgK at e ⊢;cases n<;>grind[yu,yv]
 |_=>cases e
theorem zvZ{h h' h2:Za}{c:Option (List Zc)}{v:Zb}(e:zcb h c=some (v,h2)):zcb h' c=some (v,h'):=by
 unfold zcb at e ⊢
 (repeat' split at e)<;>first|(cases e;done)|(cases e;rfl)
theorem zq5(x):y5 (zaA x):=by
 intro call t h h' v h2 e hs;unfold zaA at e ⊢;split at e
 ·grind
 ·rename_i b off len cap ex hx;cases hb:h.t.get b with
  |none=>grind
  |some o=>rw[hb]at e;rw[hs b o hb];cases o<;>grind[zvZ]
 ·cases e
theorem zn7(n x):y5 (j9 n x):=by
 intro call t h h' v h2 e hs;unfold j9 at e ⊢;split at e
 ·rename_i b off hx
  try simp only[hx]
  cases hb:h.t.get b with
  |none=>rw[hb]at e;cases e
  |some o=>rw[hb]at e;rw[hs b o hb];exact zrd e
 ·exact xC yu (fun e=>by cases e) e
 ·cases e
theorem ztN{h h':Za}(hs:Sbh h h'){m:Zb}{es:List (SVal×SVal)}(e:mapOf h m=some es):mapOf h' m=some es:=by
 unfold mapOf at e ⊢;split at e
 ·exact e
 ·rename_i b;split at e
  ·rename_i es' hb;rw[hs b _ hb];exact e
  ·cases e
 ·cases e
theorem ziu(q z ok m k):y5 (wX q z ok m k):=by
 intro call t h h' v h2 e hs;unfold wX at e ⊢;split at e
 ·rename_i es k' hm hk;rw[ztN hs hm,hk]
  grind
 ·cases e
theorem zn9(x):y5 (qH x):=by
 intro call t h h' v h2 e hs;unfold qH at e ⊢;split at e
 ·grind
 ·rename_i b hx
  try rw[hx]
  try simp only
  split at e
  ·rename_i es hb;rw[hs b _ hb]
   grind
  ·cases e
 ·cases e
theorem zq4(P:Program)(o:Op)(hq:yI P o=true):y5 (cOp P o):=by
 cases o with
 |move x=>exact zj5 zit
 |assign x=>exact zj5 zit
 |pick c x y=>exact zy fun _=>zy fun _=>zy fun _=>y0 (zn3 _ _ _)
 |build t parts=>
  unfold cOp;simp only;split
  ·exact xM (zy fun _=>y0 (zel _ _)) zV
  ·grind[zy,zel,zV,zJ]
  ·exact zV
 |load t x=>exact zy fun _=>zy fun _=>y0 (zn7 _ _)
 |nilCheck x=>exact zy fun _=>y0 (zlF _)
 |binOp op t x y u=>
  unfold cOp;simp only;split
  ·grind[zy,zlD,zq3,zJ]
  ·grind[zy,zqY,zJ]
  ·grind[zy,zn4,zV,zJ]
  ·refine xM ?_ zV
   grind[zy,zlE,zV,zJ]
  ·grind[zy,zn5,zV,zJ]
  ·refine xM zV ?_
   grind[zy,ztJ,zV,zJ]
  ·exact zV
 |unOp u t x=>
  cases u with
  |not=>exact zy fun _=>y0 (zq0 _)
  |neg=>exact zy fun _=>y0 (zq1 _)
  |_=>exact zV
 |convert a b x=>
  unfold cOp;simp only;split
  ·grind[zy,zoc,zJ]
  ·grind[yI,zoE,zfD]
  ·exact xM (zy fun _=>y0 (zq5 _)) zV
  ·exact xM (zy fun _=>y0 (zqZ _)) zV
  ·exact xM (zy fun _=>y0 (zqX _ _ _)) zV
  ·exact zV
 |makeFunc f first captured=>
  cases f with
  |func f=>exact xM (zy fun _=>y0 (zn6 _ _)) zV
  |_=>exact zV
 |slice t x lo hi mx=>
  unfold cOp;simp only;split
  ·split
   ·exact xM zV (zy fun _=>zy fun _=>zy fun _=>zy fun _=>y0 (zlC _ _ _ _ _))
   ·exact zV
  ·split
   ·exact xM zV (zy fun _=>zy fun _=>zy fun _=>zy fun _=>y0 (zis _ _ _ _ _ _))
   ·exact zV
  ·exact xM zV (zy fun _=>zy fun _=>zy fun _=>y0 (zir _ _ _))
  ·exact zV
 |fieldAddr t x f=>
  unfold cOp;simp only;split
  ·split
   ·split
    ·exact xM zV (zy fun _=>y0 (zob _ _))
    ·exact zV
   ·exact zV
  ·exact zV
 |field t x f=>
  unfold cOp
  grind[zy,zlJ,zV,zJ]
 |indexAddr t x i=>
  unfold cOp
  grind[zy,zq2,zV,zlH,zJ]
 |index t x i=>unfold cOp;simp only;split<;>grind[zy,zlI,zV,zlG,zJ]
 |lookup t m k ok=>
  unfold cOp
  grind[zy,ziu,zV,zJ]
 |extract x i=>exact zy fun _=>y0 (zgV _ _)
 |call c=>
  obtain⟨callee,args,ts⟩:=c;cases callee with
  |builtin b=>
   cases b with
   |len=>grind[cOp,zy,zn8,zoa,zn9,zit,zV,zJ]
   |max=>grind[cOp,zc4,zV,zJ]
   |min=>grind[cOp,zc4,zV,zJ]
   |_=>cases hq
  |_=>cases hq
 |_=>cases hq
section
variable {P:Program} {t:Tr Zb} {call:zg}
def zuZ(f:zdV)(call:zg)(t:Tr Zb)(nt:Nat):Prop:=∃(obj:Zf) (vf:BN→Zc),(∀hh:Za,f call t hh=some (.s (.one (vf hh.n)),hh.new obj))∧
 (∀(φ φ':Phi) b b',φ b=φ' b'→zi φ (vf b)=zi φ' (vf b'))∧(∀φ n b,okB φ n b→wfC φ n (vf b))∧∀φ n arr,Zh φ nt n t arr→OWf φ n obj
theorem zci(hh:Za)(o:Zf)(g:BN→Zc):zdQ hh o g=some (.s (.one (g hh.n)),hh.new o):=by rfl
theorem zcC(φ φ':Phi)(b b':BN)(h:φ b=φ' b'):zi φ (.ptr b 0)=zi φ' (.ptr b' 0):=by grind[zi,adr]
theorem zgz(l c:Nat)(φ φ':Phi)(b b':BN)(h:φ b=φ' b'):zi φ (.slc b 0 l c true)=zi φ' (.slc b' 0 l c true):=by simp_all[zi,adr]
theorem zcT{α:Type}{a:Option α}{g:α→Option zdV}{h h2:Za}{v:Zb}(e:zJ (a >>= g) call t h=some (v,h2)):∃x,a=some x∧zJ (g x) call t h=some (v,h2):=by
 cases a with
 |none=>cases e
 |some x=>grind
theorem zj6{nt:Nat}{o:Op}(hm:qD o=true){h h2:Za}{v:Zb}(e:cOp P o call t h=some (v,h2)):zuZ (cOp P o) call t nt:=by
 cases o with
 |alloc ty=>
  cases hz:yk P ty with
  |none=>simp only[cOp,hz]at e;cases hb:zaI P ty<;>rw[hb]at e<;>cases e
  |some z=>
   cases hb:zaI P ty with
   |false=>
    refine⟨.cells z.cells 0,fun b=>.ptr b 0,fun hh=>?_,zcC,fun φ n b hb=>hb,fun φ n arr _=>?_⟩
    ·simp_all[cOp,zc1,zci,zJ]
    ·obtain⟨_,_,_,_,_,hwz⟩:=yX (φ:=φ) hz;exact fun c hc=>xg (Yzo _) (hwz c hc)
   |true=>
    refine⟨.tcells z.cells ty true,fun b=>.ptr b 0,fun hh=>?_,zcC,fun φ n b hb=>hb,fun φ n arr _=>?_⟩
    ·simp_all[cOp,zcg,zci,zJ]
    ·obtain⟨_,_,_,_,_,hwz⟩:=yX (φ:=φ) hz;exact fun c hc=>xg (Yzo _) (hwz c hc)
 |box ty x=>
  cases hx:zZ x with
  |none=>simp only[cOp,hx]at e;cases e
  |some f=>
   simp only[cOp,hx]at e;have e:zfk f call t h=some (v,h2):=e;unfold zfk at e;split at e
   ·rename_i u hu;refine⟨.cells u.cells 0,fun b=>.ptr b 0,fun hh=>?_,zcC,fun φ n b hb=>hb,fun φ n arr T=>?_⟩
    ·simp_all[cOp,zfk,zci,zJ]
    ·have:=(zl (a:=⟨arr,[]⟩) T hx).2;rw[hu]at this;exact vS this
   ·cases e
 |buildSlice ty len parts=>
  simp only[cOp]at e;split at e
  ·rename_i el hu;split at e
   ·rename_i i hi;cases hle:Nat.ble (len*i.size) 16777216 with
    |false=>rw[hle]at e;cases e
    |true=>
     rw[hle]at e;simp only[Yza]at e;split at e
     ·rename_i zs hzs;cases hq:Nat.beq (len*i.size) 0||Nat.beq zs.length i.size with
      |false=>rw[hq]at e;cases e
      |true=>
       rw[hq]at e;simp only[Yza]at e;obtain⟨r,hr,e⟩:=zcT e;have e:vI i.size len (uD zs len) r call t h=some (v,h2):=e;unfold vI at e;split at e
       ·rename_i cs hc;refine⟨.cells cs i.size,fun b=>.slc b 0 len len true,fun hh=>?_,zgz len len,fun φ n b hb=>⟨hb,(fun hh=>by cases hh),fun _=>LzB _⟩,fun φ n arr T=>?_⟩
        ·simp only[cOp,hu,hi,hle,Yza,hzs,hq,hr];simp_all[vI,zci,zJ]
        ·have T':Zh φ nt (Za.n ⟨bn n,.nil⟩).toNat t (Act.tmps ⟨arr,[]⟩):=by
          grind[ye]
         obtain⟨hp,hw⟩:=wj T' i.size hr;have hwz:∀c∈uD zs len,wfC φ (Za.n ⟨bn n,.nil⟩).toNat c:=by
          refine qR (fun c hc=>?_) len;cases h0:Nat.beq (len*i.size) 0 with
          |true=>grind
          |false=>
           rw[h0]at hzs;simp only[Yzc]at hzs;cases hz:yk P el with
           |none=>grind
           |some z=>rw[hz]at hzs;cases hzs;obtain⟨_,_,_,_,_,hwz⟩:=yX (φ:=φ) hz;exact xg (Yzo _) (hwz c hc)
         have hf:=(uT hp hwz hw hc).2.1;intro c hc;have:=hf c hc
         rwa [show (Za.n ⟨bn n,.nil⟩).toNat=n from ye n]at this
       ·cases e
     ·cases e
   ·cases e
  ·cases e
 |makeMap ty r=>
  cases r with
  |some r=>cases e
  |none=>refine⟨.map [],fun b=>.map b,fun hh=>?_,fun φ φ' b b' h=>by grind[zi],fun φ n b hb=>hb,fun φ n arr _ p hp=>by cases hp⟩;rfl
 |makeSlice ty l c=>
  simp only[cOp]at e;split at e
  ·rename_i el hu;split at e
   ·rename_i i z hi hz;cases hq:Nat.beq z.cells.length i.size && !Nat.beq i.size 0 with
    |false=>rw[hq]at e;cases e
    |true=>
     rw[hq]at e;simp only[Yza]at e;obtain⟨fl,hl,e⟩:=zcT e;obtain⟨fc,hc,e⟩:=zcT e;have e:we i.size z.cells i.bytes fl fc call t h=some (v,h2):=e;unfold we at e;split at e
     ·rename_i x y hx hy;cases hb:Nat.ble x y&&Nat.ble y 1073741824&&Nat.ble (i.bytes*y) 281474976710656 with
      |false=>grind
      |true=>
       obtain⟨hb1,_⟩:=uJ hb;obtain⟨hb1,_⟩:=uJ hb1;refine⟨.cells (uD z.cells y) i.size,fun b=>.slc b 0 x y true,fun hh=>?_,zgz x y,fun φ n b hb=>⟨hb,(fun hh=>by cases hh),fun _=>yi hb1⟩,fun φ n arr T=>?_⟩
       ·simp only[cOp,hu,hi,hz,hq,Yza,hl,hc];show we i.size z.cells i.bytes fl fc call t hh=_;unfold we;rw[hx,hy];simp only[hb,Yza];rfl
       ·obtain⟨_,_,_,_,_,hwz⟩:=yX (φ:=φ) hz;exact qR (fun c hc=>xg (Yzo _) (hwz c hc)) y
     ·cases e
   ·cases e
  ·cases e
 |_=>cases hm
end
end Go.CE
end
noncomputable section
namespace Go.CE
open Go.RowKit
def gdv(g:GE):Option BN×Zb:=(g.d.rop.dst,g.v)
def hAt:Za→List GE→Nat→Za
 |h,_,0=>h
 |h,[],_+1=>h
 |_,g::l,j+1=>hAt g.ha l j
theorem zfN:∀(l:List GE) (h:Za) (j:Nat) (g:GE),l[j]? = some g→hAt h l (j+1)=g.ha
 | [],_,j,g,hj=>by simp at hj
 |g0::l,h,0,g,hj=>by simp only[Yzk,Option.some.injEq]at hj;subst hj;cases l<;>rfl
 |g0::l,h,j+1,g,hj=>by simp only[Yzr]at hj;exact zfN l g0.ha j g hj
theorem zkw(call:zg)(n0:Nat):∀(ds:List Zm) (i:Nat) (t:Tr Zb) (h:Za) (l:List GE) (t2:Tr Zb) (h2:Za),evG call n0 i ds t h=some (l,t2,h2)→
  l.map (·.d)=ds∧t2=frL (fun _=>true) 0 (l.map gdv) t∧h2=hAt h l l.length∧
  ∀j g,l[j]? = some g→g.tr=u6 (frL (fun k=>decide (k<j)) 0 (l.map gdv) t) g.d.looks∧g.hb=hAt h l j∧stepG call n0 (i+j) g.d g.tr g.hb=some (g.v,g.ha)
 | [],i,t,h,l,t2,h2,e=>by cases e;exact⟨rfl,rfl,rfl,fun j g hj=>by simp at hj⟩
 |d::ds,i,t,h,l,t2,h2,e=>by
  unfold evG at e;split at e
  ·rename_i v0 h0 hv0;cases hr:evG call n0 (Nat.succ i) ds (zcD t v0 d.rop.dst) h0 with
   |none=>rw[hr]at e;cases e
   |some p=>
    obtain⟨l',t',h'⟩:=p;rw[hr]at e;simp only[zxi,Option.some.injEq,Prod.mk.injEq]at e;obtain⟨rfl,rfl,rfl⟩:=e;obtain⟨g1,g2,g3,g4⟩:=zkw call n0 ds _ _ _ l' _ _ hr;have hfr:∀(L:Nat→Bool),frL L 0 (((⟨d,u6 t d.looks,v0,h,h0⟩:GE)::l').map gdv) t=frL (fun k=>L (k+1)) 0 (l'.map gdv) (bif L 0 then zcD t v0 d.rop.dst else t):=by grind[gdv,zko,zdn]
    refine⟨by simp[g1],by grind,g3,?_⟩;intro j g hj;cases j with
    |zero=>
     simp only[Yzk,Option.some.injEq]at hj;subst hj;refine⟨?_,rfl,hv0⟩;rw[hfr];simp only[Nat.not_lt_zero,decide_false,Yzc]
     congr 1
     have:∀(r:List (Option BN×Zb)) (i:Nat) (t:Tr Zb),frL (fun _=>false) i r t=t:=by
      intro r
      induction r<;>grind[frL]
     grind
    |succ j=>simp only[Yzr]at hj;obtain⟨k1,k2,k3⟩:=g4 j g hj;refine⟨?_,k2,?_⟩<;>grind
  ·cases e
theorem zcq(es:List Bool):∀i,ce (fun _=>false) i es=0:=by induction es<;>grind[ce]
theorem zpe(L:Nat→Bool)(e:Bool)(es:List Bool):ce L 0 (e::es)=(bif L 0&&e then 1 else 0)+ce (fun k=>L (k+1)) 0 es:=by grind[zpf,zf9]
theorem ziD:∀(l:List GE) (j:Nat) (g:GE),l[j]? = some g→g.d.eff=true→(hsG l)[ce (fun k=>decide (k<j)) 0 (l.map (·.d.eff))]? = some g.ha
 | [],j,g,hj,_=>by simp at hj
 |g0::l,0,g,hj,he=>by
  simp only[Yzk,Option.some.injEq]at hj;subst hj;have hz:ce (fun k=>decide (k<0)) 0 ((g0::l).map (·.d.eff))=0:=by rw[show (fun k=>decide (k<0))=(fun _:Nat=>false) from funext fun k=>by simp,zcq]
  grind[hsG]
 |g0::l,j+1,g,hj,he=>by
  simp only[Yzr]at hj;have ih:=ziD l j g hj he;simp only[Yzv];rw[zpe];simp only[Nat.zero_lt_succ,decide_true,Yye,Nat.succ_lt_succ_iff];unfold hsG
  grind
theorem zrj(g:GE)(l:List GE):hsG (g::l)=bif g.d.eff then g.ha::hsG l else hsG l:=rfl
def obG(n0:Nat)(l:List GE)(m:Nat):Option Zf:=
 match l[m]? with
 |some g=>bif g.d.mkb then g.ha.t.get (nm n0 m) else none
 |none=>none
def cmG(l:List GE)(m:Nat):Nat:=ce (fun k=>decide (k<m)) 0 (l.map (·.d.eff))
theorem zf5(l:List GE):cmG l 0=0:=by unfold cmG;rw[show (fun k=>decide (k<0))=(fun _:Nat=>false) from funext fun k=>by simp,zcq]
theorem zf6(g:GE)(l:List GE)(m:Nat):cmG (g::l) (m+1)=(bif g.d.eff then 1 else 0)+cmG l m:=by grind[cmG,zpe]
theorem zfn{n0:Nat}:∀(l:List GE) (c i:Nat) (x:Nat×Nat×Zf),(∀g∈l,g.d.mkb=true→g.d.eff=false)→x∈zhN n0 c i l→
  ∃m,x.2.1=i+m∧(∃g,l[m]? = some g∧g.d.mkb=true∧g.ha.t.get (nm n0 (i+m))=some x.2.2)∧x.1=c+cmG l m
 | [],c,i,x,_,hx=>by cases hx
 |g::l,c,i,x,hall,hx=>by
  have step:∀c',x∈zhN n0 c' (Nat.succ i) l→c'=c+(bif g.d.eff then 1 else 0)→∃m,x.2.1=i+m∧(∃g',(g::l)[m]? = some g'∧g'.d.mkb=true∧g'.ha.t.get (nm n0 (i+m))=some x.2.2)∧x.1=c+cmG (g::l) m:=by
   intro c' hx' hc;obtain⟨m,k1,⟨g',k2,k3,k4⟩,k5⟩:=zfn l c' (Nat.succ i) x (fun g' hg'=>hall g' (by simp[hg'])) hx';refine⟨m+1,by omega,⟨g',by trivial,k3,by grind⟩,?_⟩
   grind[zf6]
  unfold zhN at hx;cases hm:g.d.mkb with
  |false=>grind
  |true=>
   have he:=hall g (by simp) hm;rw[hm]at hx;simp only[Yza]at hx;split at hx
   ·rename_i o ho;rcases Yzw.1 hx with rfl|hx
    ·exact⟨0,rfl,⟨g,rfl,hm,ho⟩,by rw[zf5];rfl⟩
    ·grind
   ·grind
theorem zdl{n0 k:Nat}:∀(l:List (Nat×Nat×Zf)) (t:Tr Zf) (b:BN),(q7 n0 k l t).get b=t.get b∨∃x∈l,k≤x.1∧b=nm n0 x.2.1∧(q7 n0 k l t).get b=some x.2.2
 | [],t,b=>.inl rfl
 |(c,j,o)::l,t,b=>by
  unfold q7;rcases zdl l (bif Nat.ble k c then t.set (bn (Nat.add n0 j)) o else t) b with h|⟨x,hx,h1,h2,h3⟩
  ·rw[h];cases hk:Nat.ble k c with
   |false=>simp
   |true=>
    simp only[Yza];by_cases hb:b=bn (Nat.add n0 j)
    ·subst hb;exact .inr ⟨(c,j,o),by simp,yi hk,rfl,zx _ _ _⟩
    ·grind[zo]
  ·grind
end Go.CE
end
section
namespace Go.CE
open Go.RowKit
theorem zfK:∀(l:List GE) (k:Nat) (h:Za),(hsG l)[k]? = some h→∃j g,l[j]? = some g∧g.d.eff=true∧cmG l j=k∧g.ha=h
 | [],k,h,e=>by trivial
 |g::l,k,h,e=>by
  rw[zrj]at e;cases he:g.d.eff with
  |false=>rw[he]at e;obtain⟨j,g',k1,k2,k3,k4⟩:=zfK l k h e;exact⟨j+1,g',by trivial,k2,by grind[zf6],k4⟩
  |true=>
   rw[he]at e;simp only[Yza]at e;cases k with
   |zero=>simp only[Yzk,Option.some.injEq]at e;exact⟨0,g,rfl,he,zf5 _,e⟩
   |succ k=>simp only[Yzr]at e;obtain⟨j,g',k1,k2,k3,k4⟩:=zfK l k h e;exact⟨j+1,g',by trivial,k2,by grind[zf6],k4⟩
theorem uj{bs:List Nat}{i:Nat}:∀(os:List Oper) (off j':Nat),j'∈yG bs i off os↔∃j o,os[j]? = some o∧j'=off+j∧(qD o.op&&bef bs (off+j) i)=false
 | [],off,j'=>by simp[yG]
 |o::os,off,j'=>by
  have ih:=uj (bs:=bs) (i:=i) os (Nat.succ off) j';have tail:(∃j o',os[j]? = some o'∧j'=Nat.succ off+j∧(qD o'.op&&bef bs (Nat.succ off+j) i)=false)↔∃j o',(o::os)[j+1]? = some o'∧j'=off+(j+1)∧(qD o'.op&&bef bs (off+(j+1)) i)=false:=by grind
  unfold yG;cases hq:qD o.op&&bef bs off i with
  |true=>grind
  |false=>
   simp only[Yzc,Yzw];rw[ih,tail]
   constructor
   ·rintro (rfl|⟨j,o',h1,h2,h3⟩)<;>grind
   ·grind
theorem zbY(P:Program)(nt:Nat)(ops:Array Oper)(bs:List Nat)(es:List Bool):∀(os:List Oper) (i j:Nat),(xk P nt ops bs es i os)[j]? = (os[j]?).map fun o=>
  (⟨yS P nt ops o,(o.looksAt ops).map bn,anchor P o.op,qD o.op,ce (fun k=>bef bs k (i+j)) 0 es,ce (fun k=>!bef bs (i+j) k) 0 es,yG bs (i+j) 0 ops.toList⟩:Zm)
 | [],i,j=>by simp[xk]
 |o::os,i,0=>by simp[xk]
 |o::os,i,j+1=>by simp only[xk,Yzr];rw[zbY P nt ops bs es os (Nat.succ i) j,show Nat.succ i+j=i+(j+1) by omega]
structure Spc (n0 N:Nat) (l:List GE) (L:Nat→Bool) (k:Nat) (Hk H:Za):Prop where
 n:H.n.toNat=Hk.n.toNat
 old:∀b:BN,(b.toNat<n0∨n0+N≤b.toNat)→H.t.get b=Hk.t.get b
 res:∀m,m<N→H.t.get (nm n0 m)=if L m=true then(if k≤cmG l m then obG n0 l m else Hk.t.get (nm n0 m)) else none
noncomputable abbrev FG(n0:Nat)(l:List GE)(k:Nat)(Hk:Za)(m:Nat):Option Zf:=if k≤cmG l m then obG n0 l m else Hk.t.get (nm n0 m)
theorem zek(n0 N:Nat)(b:BN):(b.toNat<n0∨n0+N≤b.toNat)∨∃m,m<N∧b=nm n0 m:=by
 by_cases h:b.toNat<n0∨n0+N≤b.toNat
 ·omega
 ·exact .inr ⟨b.toNat-n0,by omega,zzT (by omega)⟩
section
variable {P:Program} {nt:Nat} {call:zg} {ops:Array Oper} {n0:Nat} {t t2:Tr Zb} {h0 h2:Za} {l:List GE}
structure Txt (P:Program) (nt:Nat) (call:zg) (ops:Array Oper) (n0:Nat) (t t2:Tr Zb) (h0 h2:Za) (l:List GE):Prop where
 len:l.length=ops.size
 es:l.map (·.d.eff)=qi P ops.toList
 ent:∀(j:Nat) (o:Oper),ops[j]? = some o→∃g,l[j]? = some g∧g.d=⟨yS P nt ops o,(o.looksAt ops).map bn,anchor P o.op,qD o.op,ce (fun k=>bef (xq ops.toList) k j) 0 (qi P ops.toList),ce (fun k=>!bef (xq ops.toList) j k) 0 (qi P ops.toList),yG (xq ops.toList) j 0 ops.toList⟩
 fr:t2=frL (fun _=>true) 0 (l.map gdv) t
 fin:h2=hAt h0 l ops.size
 step:∀j g,l[j]? = some g→g.tr=u6 (frL (fun k=>decide (k<j)) 0 (l.map gdv) t) g.d.looks∧g.hb=hAt h0 l j∧stepG call n0 j g.d g.tr g.hb=some (g.v,g.ha)
 fresh:∀m,m<ops.size→h0.t.get (nm n0 m)=none
theorem zvy(e:evG call n0 0 (ul P nt ops) t h0=some (l,t2,h2))(hf:∀m,m<ops.size→h0.t.get (nm n0 m)=none):Txt P nt call ops n0 t t2 h0 h2 l:=by
 obtain⟨g1,g2,g3,g4⟩:=zkw call n0 _ _ _ _ _ _ _ e;have hget:∀(j:Nat) (o:Oper),ops[j]? = some o→(ul P nt ops)[j]? = some ⟨yS P nt ops o,(o.looksAt ops).map bn,anchor P o.op,qD o.op,ce (fun k=>bef (xq ops.toList) k j) 0 (qi P ops.toList),ce (fun k=>!bef (xq ops.toList) j k) 0 (qi P ops.toList),yG (xq ops.toList) j 0 ops.toList⟩:=by simp_all[ul,zbY]
 have hlen:(ul P nt ops).length=ops.size:=by
  have key:∀(os:List Oper) (i:Nat),(xk P nt ops (xq ops.toList) (qi P ops.toList) i os).length=os.length:=by
   intro os
   induction os<;>grind[xk]
  grind[ul]
 have hll:l.length=ops.size:=by grind
 refine⟨hll,?_,fun j o ho=>?_,g2,by grind,fun j g hj=>by grind,hf⟩
 ·rw[show (fun x:GE=>x.d.eff)=Zm.eff ∘ GE.d from rfl,←List.map_map,g1];have key:∀(os:List Oper) (i:Nat),(xk P nt ops (xq ops.toList) (qi P ops.toList) i os).map Zm.eff=qi P os:=by
   intro os
   induction os with
   |nil=>intro i;rfl
   |cons o os ih=>intro i;simp only[xk,Yzv,ih];rfl
  exact key _ _
 ·grind
theorem zbp{φ:Phi}{n:Nat}{tr:Tr Zb}{h h2:Za}{a:Act}{v:Zb}{o:Oper}(e:xI call (yS P nt ops o) tr h=some (v,h2))(T:Zh φ nt n tr a.tmps):
  (Region.wanted o (yielded ops a.tmps)=true∧cOp P o.op call tr h=some (v,h2))∨(Region.wanted o (yielded ops a.tmps)=false∧v=z8∧h2=h):=by
 have key:∀hh:Za,hh.n.toNat=n→xI call (yS P nt ops o) tr ⟨hh.n,h.t⟩=xI call (yS P nt ops o) tr ⟨hh.n,h.t⟩→True:=fun _ _ _=>trivial;unfold yS at e;have bad:∀{o':Zl},o'=⟨none,xd,none⟩→xI call o' tr h=some (v,h2)→False:=by intro o' ho' e;subst ho';cases e
 cases hd:inT nt o.dst with
 |false=>grind
 |true=>
  rw[hd]at e;simp only[Yza]at e;have fin:∀g,xI call ⟨o.dst.map bn,cOp P o.op,g⟩ tr h=some (v,h2)→(want tr g=true∧cOp P o.op call tr h=some (v,h2))∨(want tr g=false∧v=z8∧h2=h):=by
   intro g e;unfold xI at e
   grind
  split at e
  ·rename_i hg;rcases fin none e with hh|⟨hw,_⟩
   ·grind[Region.wanted]
   ·cases hw
  ·rename_i j b hg;split at e
   ·rename_i d hjd;cases hb:Nat.ble (Nat.succ d) nt with
    |false=>grind
    |true=>
     rw[hb]at e;have T':Zh φ nt (Za.n ⟨bn n,.nil⟩).toNat tr a.tmps:=by grind[ye]
     have hyd:=za7 T' hjd (yi hb) b
     grind[Region.wanted]
   ·trivial
theorem zrv{tr:Tr Zb}{h h2:Za}{v:Zb}{o:Oper}(e:xI call (yS P nt ops o) tr h=some (v,h2)):cOp P o.op call tr h=some (v,h2)∨(v=z8∧h2=h):=by
 unfold yS at e;have fin:∀(d:Option BN) (f:zdV) g,xI call ⟨d,f,g⟩ tr h=some (v,h2)→f call tr h=some (v,h2)∨(v=z8∧h2=h):=by
  intro d f g e;unfold xI at e
  grind
 have bad:∀(g:Option (BN×Bool)),xI call ⟨none,xd,none⟩ tr h=some (v,h2)→False:=fun _ e=>by cases e
 cases hd:inT nt o.dst with
 |false=>simp_all
 |true=>
  rw[hd]at e;simp only[Yza]at e;split at e
  ·grind
  ·split at e
   ·rename_i d _;cases hb:Nat.ble (Nat.succ d) nt with
    |false=>simp_all
    |true=>grind
   ·trivial
theorem vK{o:Op}(h:qD o=true):anchor P o=false:=by simp[anchor,h]
theorem zot(P:Program)(o:Op):qD o=true∨(qD o=false∧anchor P o=true)∨(qD o=false∧anchor P o=false∧yI P o=true):=by
 cases hm:qD o with
 |true=>simp
 |false=>
  cases hq:yI P o with
  |true=>simp
  |false=>exact .inr (.inl ⟨rfl,by grind[anchor]⟩)
theorem Txt.made(X:Txt P nt call ops n0 t t2 h0 h2 l){j:Nat}{o:Oper}{g:GE}(ho:ops[j]? = some o)(hg:l[j]? = some g)(hm:qD o.op=true):
  g.ha.n=g.hb.n∧(∀b,b≠nm n0 j→g.ha.t.get b=g.hb.t.get b)∧∃h',xI call (yS P nt ops o) g.tr ⟨nm n0 j,g.hb.t⟩=some (g.v,h')∧h'.t=g.ha.t:=by
 obtain⟨g',hg',hd⟩:=X.ent j o ho;cases hg.symm.trans hg';obtain⟨_,_,hs⟩:=X.step j g hg;unfold stepG at hs;rw[hd]at hs;simp only[hm,Yza]at hs;split at hs
 ·rename_i v h' he;simp only[Option.some.injEq,Prod.mk.injEq]at hs;obtain⟨rfl,hs⟩:=hs;rw[←hs];refine⟨rfl,fun b hb=>?_,h',he,rfl⟩;rcases zrv he with hc|⟨_,rfl⟩
  ·obtain⟨obj,vf,hsh,_⟩:=zj6 (nt:=nt) hm hc;have:=hsh ⟨nm n0 j,g.hb.t⟩;rw[hc]at this;simp only[Option.some.injEq,Prod.mk.injEq]at this;rw[this.2];exact zo _ _ _ _ hb
  ·rfl
 ·cases hs
theorem Txt.quiet(X:Txt P nt call ops n0 t t2 h0 h2 l){j:Nat}{o:Oper}{g:GE}(ho:ops[j]? = some o)(hg:l[j]? = some g)(hm:qD o.op=false)(ha:anchor P o.op=false):
  g.ha=g.hb∧∃h',xI call (yS P nt ops o) g.tr ⟨g.hb.n,zbs n0 (yG (xq ops.toList) j 0 ops.toList) g.hb.t⟩=some (g.v,h'):=by
 obtain⟨g',hg',hd⟩:=X.ent j o ho;cases hg.symm.trans hg';obtain⟨_,_,hs⟩:=X.step j g hg;unfold stepG at hs
 grind
theorem Txt.anchor(X:Txt P nt call ops n0 t t2 h0 h2 l){j:Nat}{o:Oper}{g:GE}(ho:ops[j]? = some o)(hg:l[j]? = some g)(hm:qD o.op=false)(ha:anchor P o.op=true):
  ∃h',xI call (yS P nt ops o) g.tr ⟨g.hb.n,zbs n0 (yG (xq ops.toList) j 0 ops.toList) g.hb.t⟩=some (g.v,h')∧g.ha.n=h'.n∧(∀i∈yG (xq ops.toList) j 0 ops.toList,g.ha.t.get (nm n0 i)=g.hb.t.get (nm n0 i)∧h'.t.get (nm n0 i)=none)∧
   ∀b,(∀i∈yG (xq ops.toList) j 0 ops.toList,b≠nm n0 i)→g.ha.t.get b=h'.t.get b:=by
 obtain⟨g',hg',hd⟩:=X.ent j o ho;cases hg.symm.trans hg';obtain⟨_,_,hs⟩:=X.step j g hg;unfold stepG at hs;rw[hd]at hs;simp only[hm,ha,Yzc,Yza]at hs;split at hs
 ·rename_i v h' he;split at hs
  ·rename_i t' ht;simp only[Option.some.injEq,Prod.mk.injEq]at hs;obtain⟨rfl,hs⟩:=hs;obtain⟨k1,k2,k3⟩:=qy _ _ _ ht
   grind
  ·cases hs
 ·cases hs
theorem Txt.mkeff(X:Txt P nt call ops n0 t t2 h0 h2 l):∀g∈l,g.d.mkb=true→g.d.eff=false:=by
 intro g hg hm;obtain⟨j,hj⟩:=List.mem_iff_getElem?.1 hg;have hjl:j<ops.size:=by rw[←X.len];grind
 obtain⟨g',hg',hd⟩:=X.ent j _ (YzC hjl)
 grind[vK]
theorem Txt.ob(X:Txt P nt call ops n0 t t2 h0 h2 l){j:Nat}{o:Oper}{g:GE}(ho:ops[j]? = some o)(hg:l[j]? = some g):obG n0 l j=bif qD o.op then g.ha.t.get (nm n0 j) else none:=by
 obtain⟨g',hg',hd⟩:=X.ent j o ho
 grind[obG]
theorem Txt.spc(X:Txt P nt call ops n0 t t2 h0 h2 l)(hA:∀(i:Nat) (o:Oper),ops[i]? = some o→∀e∈o.after.toList,Region.binds .any e=true→e.on<i):
  ∀j,j≤ops.size→∃Hk,(h0::hsG l)[cmG l j]? = some Hk∧Spc n0 ops.size l (fun m=>decide (m<j)) (cmG l j) Hk (hAt h0 l j):=by
 have hbef:∀i j,bef (xq ops.toList) i j=true→i<j:=by
  intro i j hb;have hC:Clo ops (fun k=>decide (k<j)):=by
   intro q hq o' e ho' he hb'
   grind
  grind[Rdy,vQ]
 intro j
 induction j with
 |zero=>
  intro _;have e0:hAt h0 l 0=h0:=by cases l<;>rfl
  rw[e0,zf5];refine⟨h0,rfl,rfl,fun _ _=>rfl,fun m hm=>?_⟩;rw[Yzb (by simp)];exact X.fresh m hm
 |succ j ih=>
  intro hj;obtain⟨Hk,hHk,S⟩:=ih (by omega);have hjs:j<ops.size:=by omega
  have ho:ops[j]? = some ops[j]:=YzC hjs;generalize ops[j]=o at ho;obtain⟨g,hg,hd⟩:=X.ent j o ho;have hhb:=(X.step j g hg).2.1;have hha:hAt h0 l (j+1)=g.ha:=zfN l h0 j g hg;have heff:(l.map (·.d.eff))[j]? = some (CE.anchor P o.op):=by grind
  have hcm:cmG l (j+1)=cmG l j+(bif CE.anchor P o.op then 1 else 0):=by
   cases ha:CE.anchor P o.op with
   |false=>
    rw[Yzc,YzB];refine wZ _ 0 fun k hk=>?_
    grind
   |true=>rw[Yza];exact zhs _ 0 j (by grind) (by simp) (by simp) (fun k hk=>by grind)
  rw[hha];rcases zot P o.op with hm|⟨hm,ha⟩|⟨hm,ha,_⟩
  ·
   obtain⟨k1,k2,h',k3,k4⟩:=X.made ho hg hm;rw[hcm,vK hm,Yzc,YzB];refine⟨Hk,hHk,by rw[k1,hhb];exact S.n,fun b hb=>?_,fun m hmN=>?_⟩
   ·rw[k2 b (fun hh=>by grind[yJ]),hhb];exact S.old b hb
   ·by_cases hmj:m=j
    ·subst hmj;rw[Yzd (by simp),Yzd (LzB _),X.ob ho hg,hm];rfl
    ·rw[k2 _ (fun hh=>hmj (ut hh)),hhb,S.res m hmN]
     grind
  ·
   obtain⟨h',k1,k2,k3,k4⟩:=X.anchor ho hg hm ha;rw[hcm,ha,Yza];refine⟨g.ha,?_,rfl,fun _ _=>rfl,fun m hmN=>?_⟩
   ·rw[Yzr];exact ziD l j g hg (by grind)
   ·by_cases hlt:m<j+1
    ·rw[Yzd (by grind),Yzb];have:cmG l m≤cmG l j:=wJ _ 0 fun k _ hk=>by grind
     omega
    ·rw[Yzb (by grind)];have hmem:m∈yG (xq ops.toList) j 0 ops.toList:=by
      rw[uj]
      grind
     rw[(k3 m hmem).1,hhb,S.res m hmN,Yzb (show ¬decide (m<j)=true by grind)]
  ·
   obtain⟨k1,_⟩:=X.quiet ho hg hm ha;rw[hcm,ha,Yzc,YzB,k1,hhb];refine⟨Hk,hHk,S.n,S.old,fun m hmN=>?_⟩;rw[S.res m hmN];by_cases hmj:m=j
   ·subst hmj;rw[Yzb (show ¬decide (m<m)=true by simp),Yzd (show decide (m<m+1)=true by simp),Yzd (LzB _),X.ob ho hg,hm];rfl
   ·grind
end
end Go.CE
end
section
namespace Go.CE
open Go.RowKit
section
variable {P:Program} {w0:World} {S:Nat→Prop} {nt:Nat} {call:zg} {ops:Array Oper}
theorem zhi(hok:jM P ops (xq ops.toList)=true):(∀(i:Nat) (o:Oper),ops[i]? = some o→(∀cs b,o.op≠.select cs b)∧∀e∈o.after.toList,Region.binds .any e=true→e.on<i)∧
  ∀(i j:Nat) (oi oj:Oper),ops[i]? = some oi→ops[j]? = some oj→i<j→bef (xq ops.toList) i j=true∨(oi.apart ops oj=true∧(anchor P oi.op=false∨anchor P oj.op=false)):=by
 obtain⟨h1,h2⟩:=uJ hok
 constructor
 ·intro i o ho;have:=un _ 0 h1 i o (by grind);rw[Yzi]at this;obtain⟨g1,g2⟩:=uJ this;refine⟨(fun cs b hh=>by rw[hh]at g1;cases g1),fun e he hb=>?_⟩;rw[YzL]at g2;have:=g2 e he;rw[hb]at this;exact yi (by trivial)
 ·intro i j oi oj hi hj hlt;have:=un _ 0 h2 j oj (by grind);rw[Yzi]at this;have:=un _ 0 this i oi (by grind);rw[Yzi]at this;simp only[YzF]at this;rcases this with (this|this)|this
  ·grind[Yzf]
  ·grind
  ·grind
theorem zd5{n0:Nat}{d:Zm}{tr:Tr Zb}{v:Zb}{mks:List (Nat×Nat×Zf)}:∀(hs:List Za) (c:Nat),zlm call n0 d tr v mks c hs=true→∀(k:Nat) (hk:Za),hs[k]? = some hk→
  ∃h',xI call d.rop tr ⟨hk.n,zbs n0 d.hide (q7 n0 (c+k) mks hk.t)⟩=some (v,h')
 | [],_,_,k,hk,hh=>by simp at hh
 |h::hs,c,e,k,hk,hh=>by
  unfold zlm at e;split at e
  ·rename_i v' h' hv;obtain⟨e1,e2⟩:=uJ e;cases k with
   |zero=>simp only[Yzk,Option.some.injEq]at hh;subst hh;exact⟨h',by rw[YzB,hv,zky e1]⟩
   |succ k=>
    have:=zd5 hs (Nat.succ c) e2 k hk (by trivial)
    grind
  ·cases e
theorem zdz{n0:Nat}{mks:List (Nat×Nat×Zf)}{hs:List Za}:∀(l:List GE),uy call n0 mks hs l=true→∀(j:Nat) (g:GE),l[j]? = some g→g.d.eff=false→g.d.mkb=false→
  g.d.lo=g.d.hi∨∀k hk,g.d.lo≤k→k≤g.d.hi→hs[k]? = some hk→∃h',xI call g.d.rop g.tr ⟨hk.n,zbs n0 g.d.hide (q7 n0 k mks hk.t)⟩=some (g.v,h')
 | [],_,j,g,hj,_,_=>by simp at hj
 |g0::l,e,j,g,hj,hd,hm=>by
  obtain⟨e1,e2⟩:=uJ e;cases j with
  |zero=>
   simp only[Yzk,Option.some.injEq]at hj;subst hj;rw[hd,hm]at e1;simp only[Yz9,YzF]at e1;rcases e1 with e1|e1
   ·simp_all
   ·refine .inr fun k hk h1 h2 h3=>?_;have:=zd5 _ _ e1 (k-g0.d.lo) hk (by
     grind)
    grind
  |succ j=>exact zdz l e2 j g (by trivial) hd hm
set_option maxHeartbeats 1000000 in
theorem zl8(C:yU P call){Q:Exit→Act→World→Prop}{a0:Act}{t t2:Tr Zb}{hh0 h0 h2:Za}{φ0:Phi}{l:List GE}{ro:Option Nat}{n0:Nat}
  (hok:jM P ops (xq ops.toList)=true) (X:Txt P nt call ops n0 t t2 h0 h2 l) (hch:uy call n0 (zhN n0 0 0 l) (h0::hsG l) l=true) (hn0:hh0.n.toNat=n0) (hh0n:h0.n.toNat=n0+ops.size)
  (hQ:∀a2 w2,Next1 w0 S φ0 nt hh0 t2 h2 a0 a2 w2→Q .normal a2 w2):
  ∀(fuel:Nat) (listed:Array Bool) (φ:Phi) (a:Act) (w:World) (Hk H:Za),listed.size=ops.size→unl listed≤fuel→Clo ops (lst listed)→Ext n0 φ0 φ→
   (h0::hsG l)[ce (lst listed) 0 (qi P ops.toList)]? = some Hk→Spc n0 ops.size l (lst listed) (ce (lst listed) 0 (qi P ops.toList)) Hk H→Zd w0 S φ H w→n0+ops.size≤H.n.toNat→
   Zh φ nt H.n.toNat (frL (lst listed) 0 (l.map gdv) t) a.tmps→a.defers=a0.defers→(∀m,m<ops.size→lst listed m=false→(φ (nm n0 m)).ok=false)→
   wpAnyIn (FR ro) 0 P .any ops Q fuel listed a w:=by
 obtain⟨hA,hord⟩:=zhi hok;have hA':∀(i:Nat) (o:Oper),ops[i]? = some o→∀e∈o.after.toList,Region.binds .any e=true→e.on<i:=fun i o ho=>(hA i o ho).2;have hbef:∀i j,bef (xq ops.toList) i j=true→i<j:=by
  intro i j hb;have hC:Clo ops (fun k=>decide (k<j)):=by
   intro q hq o' e ho' he hb'
   grind
  grind[Rdy,vQ]
 have hspc:=X.spc hA';have hcmE:∀j,cmG l j=ce (fun k=>decide (k<j)) 0 (qi P ops.toList):=fun j=>by unfold cmG;rw[X.es]
 have hdst:∀(j:Nat) (o:Oper) (g:GE),ops[j]? = some o→l[j]? = some g→g.d.rop.dst=o.dst.map bn∧inT nt o.dst=true:=by
  intro j o g ho hj;obtain⟨g',hj',hd⟩:=X.ent j o ho;cases hj.symm.trans hj';rw[hd];rcases zot P o.op with hm|⟨hm,ha⟩|⟨hm,ha,_⟩
  ·obtain⟨_,_,h',he,_⟩:=X.made ho hj hm;exact zaV he
  ·obtain⟨h',he,_⟩:=X.anchor ho hj hm ha;exact zaV he
  ·obtain⟨_,h',he⟩:=X.quiet ho hj hm ha;exact zaV he
 have hdv:∀(j:Nat) (d:Option BN) (v:Zb) (s:BN),(l.map gdv)[j]? = some (d,v)→d=some s→∃o sn,ops[j]? = some o∧o.dst=some sn∧bn sn=s:=by
  intro j d v s hj hd;rw[Lz6]at hj;cases hx:l[j]? with
  |none=>grind
  |some g=>
   rw[hx]at hj;simp only[YzI,Option.some.injEq,gdv,Prod.mk.injEq]at hj;have hjl:j<ops.size:=by have:=(Lz0.1 hx).1;have:=X.len;omega
   have ho:ops[j]? = some ops[j]:=YzC hjl;have:=(hdst j _ g ho hx).1;simp_all
 have hes:∀(j:Nat),(qi P ops.toList)[j]? = some true→∃o,ops[j]? = some o∧anchor P o.op=true:=by
  intro j hj;unfold qi at hj
  grind
 have hes':∀(j:Nat) (o:Oper),ops[j]? = some o→(qi P ops.toList)[j]? = some (anchor P o.op):=by grind[qi]
 have hhid:∀(i m:Nat) (om:Oper),ops[m]? = some om→(m∈yG (xq ops.toList) i 0 ops.toList↔(qD om.op&&bef (xq ops.toList) m i)=false):=by
  intro i m om hom;rw[uj]
  grind
 have hhidlt:∀(i m:Nat),m∈yG (xq ops.toList) i 0 ops.toList→m<ops.size:=by grind[uj]
 have hFG:∀(j:Nat) (o:Oper) (g:GE) (Hk:Za) (m:Nat),ops[j]? = some o→l[j]? = some g→qD o.op=false→anchor P o.op=true→(h0::hsG l)[cmG l j]? = some Hk→m∈yG (xq ops.toList) j 0 ops.toList→
   FG n0 l (cmG l j+1) g.ha m=FG n0 l (cmG l j) Hk m:=by
  intro j o g Hk m ho hg hm ha hHk hmem;have hmN:=hhidlt j m hmem;obtain⟨h',k1,k2,k3,k4⟩:=X.anchor ho hg hm ha;have hjN:j<ops.size:=(Lz7.1 ho).1;obtain⟨Hk',hHk',Sp⟩:=hspc j (by omega);cases hHk.symm.trans hHk';have hhb:=(X.step j g hg).2.1;have hgm:g.ha.t.get (nm n0 m)=if decide (m<j)=true then FG n0 l (cmG l j) Hk m else none:=by rw[(k3 m hmem).1,hhb];exact Sp.res m hmN
  show (if cmG l j+1≤cmG l m then obG n0 l m else g.ha.t.get (nm n0 m))=if cmG l j≤cmG l m then obG n0 l m else Hk.t.get (nm n0 m)
  rcases Nat.lt_trichotomy m j with hmj|hmj|hmj
  ·grind
  ·subst hmj;rw[Yzb (by omega),hgm,Yzb (by simp),Yzd (LzB _),X.ob ho hg,hm];rfl
  ·have hle:cmG l j+1≤cmG l m:=by
    have h1:cmG l (j+1)=cmG l j+1:=by refine zhs _ 0 j ?_ (by simp) (by simp) (fun k hk=>by grind);rw[X.es,hes' j o ho,ha]
    have h2:cmG l (j+1)≤cmG l m:=wJ _ 0 fun k _ hk=>by grind
    omega
   grind
 have FGu:∀(k:Nat) (Hk:Za) (m:Nat),m<ops.size→(h0::hsG l)[k]? = some Hk→(∀(j:Nat) (oj:Oper),ops[j]? = some oj→anchor P oj.op=true→cmG l j<k→m∈yG (xq ops.toList) j 0 ops.toList)→FG n0 l k Hk m=obG n0 l m:=by
  intro k
  induction k with
  |zero=>simp
  |succ k ih=>
   intro Hk m hmN hHk hall;rw[Yzr]at hHk;obtain⟨j,g,k1,k2,k3,k4⟩:=zfK l k Hk hHk;have hjN:j<ops.size:=by rw[←X.len];grind
   have ho:ops[j]? = some ops[j]:=YzC hjN;obtain⟨g',hg',hd⟩:=X.ent j _ ho;cases k1.symm.trans hg';have ha:anchor P ops[j].op=true:=by grind
   have hm:qD ops[j].op=false:=by grind[vK]
   obtain⟨Hk',hHk',_⟩:=hspc j (by omega);have:=hFG j _ g Hk' m ho k1 hm ha hHk' (hall j _ ho ha (by omega));rw[k3,k4]at this;rw[this];rw[k3]at hHk';exact ih Hk' m hmN hHk' fun j oj hoj haj hlt=>hall j oj hoj haj (by omega)
 have FGn:∀(k:Nat) (Hk:Za) (m:Nat) (om:Oper),ops[m]? = some om→qD om.op=false→(h0::hsG l)[k]? = some Hk→FG n0 l k Hk m=none:=by intro k Hk m om hom hmk hHk;have hmN:m<ops.size:=(Lz7.1 hom).1;obtain⟨g,hg,_⟩:=X.ent m om hom;rw[FGu k Hk m hmN hHk fun j oj _ _ _=>(hhid j m om hom).2 (by grind),X.ob hom hg,hmk];rfl
 have hkNone:∀(k:Nat) (Hk:Za) (m:Nat),m<ops.size→(h0::hsG l)[k]? = some Hk→k≤cmG l m→Hk.t.get (nm n0 m)=none:=by
  intro k Hk m hmN hHk hle;cases k with
  |zero=>simp only[Yzk,Option.some.injEq]at hHk;subst hHk;exact X.fresh m hmN
  |succ k=>
   rw[Yzr]at hHk;obtain⟨j,g,k1,k2,k3,k4⟩:=zfK l k Hk hHk;have hjN:j<ops.size:=by rw[←X.len];grind
   obtain⟨Hk',_,Sp⟩:=hspc (j+1) (by omega);rw[zfN l h0 j g k1,k4]at Sp;have hmj:¬m<j+1:=fun hh=>by
    have:cmG l m≤cmG l j:=wJ _ 0 fun q _ hq=>by grind
    omega
   rw[Sp.res m hmN,Yzb (show ¬decide (m<j+1)=true by grind)]
 have finish:∀(listed:Array Bool) (φ:Phi) (a:Act) (w:World) (Hk H:Za),(∀i,i<ops.size→lst listed i=true)→Ext n0 φ0 φ→
   (h0::hsG l)[ce (lst listed) 0 (qi P ops.toList)]? = some Hk→Spc n0 ops.size l (lst listed) (ce (lst listed) 0 (qi P ops.toList)) Hk H→Zd w0 S φ H w→n0+ops.size≤H.n.toNat→
   Zh φ nt H.n.toNat (frL (lst listed) 0 (l.map gdv) t) a.tmps→a.defers=a0.defers→Q .normal a w:=by
  intro listed φ a w Hk H hall hE hH Sp HR hn T hdf;have hce:ce (lst listed) 0 (qi P ops.toList)=cmG l ops.size:=by
   rw[hcmE];refine wZ _ 0 fun j hj=>?_
   grind
  rw[hce]at hH Sp;obtain⟨Hk',hHk',Sp'⟩:=hspc ops.size (LzB _);cases hH.symm.trans hHk';rw[←X.fin]at Sp';have hg:∀b,h2.t.get b=H.t.get b:=by
   intro b;rcases zek n0 ops.size b with hb|⟨m,hm,rfl⟩
   ·rw[Sp.old b hb,Sp'.old b hb]
   ·rw[Sp.res m hm,Sp'.res m hm,Yzd (hall m hm),Yzd (show decide (m<ops.size)=true by grind)]
  have hnn:h2.n.toNat=H.n.toNat:=by rw[Sp.n,Sp'.n]
  refine hQ a w ⟨φ,by grind,HR.of_get hg hnn,?_,hdf,by omega⟩;rw[hnn,X.fr,←zaP (L:=lst listed) (l.map gdv) 0 t (fun j hj=>by rw[Yzi];exact hall j (by simpa[X.len] using hj))];exact T
 intro fuel
 induction fuel with
 |zero=>
  intro listed φ a w Hk H hsz hu hC hE hH Sp HR hn T hdf hbad;have hall:∀i,i<ops.size→lst listed i=true:=fun i hi=>zjv (by omega) (by omega);have hnil:Region.ready .any ops listed=[]:=by
   cases hr:Region.ready .any ops listed with
   |nil=>rfl
   |cons i r=>
    obtain⟨o,ho,h1,h2,h3⟩:=mem_ready (ops:=ops) (listed:=listed) (i:=i) (by grind)
    grind
  exact⟨hnil,finish listed φ a w Hk H hall hE hH Sp HR hn T hdf⟩
 |succ fuel ih=>
  intro listed φ a w Hk H hsz hu hC hE hH Sp HR hn T hdf hbad;refine⟨fun hnil=>finish listed φ a w Hk H (zeJ (ops:=ops) hsz (fun i o e ho he hb=>hA' i o ho e he hb) hnil) hE hH Sp HR hn T hdf,fun i hi=>?_⟩;obtain⟨o,ho,hlt,hli,hR⟩:=mem_ready hi;have hiN:i<ops.size:=(Lz7.1 ho).1;obtain⟨g,hj,hgd⟩:=X.ent i o ho;obtain⟨htr,hhb,_⟩:=X.step i g hj;obtain⟨hnosel,hedge⟩:=hA i o ho;obtain⟨hdd,hdin⟩:=hdst i o g ho hj;generalize hk:ce (lst listed) 0 (qi P ops.toList)=k at hH Sp;have before:∀j,bef (xq ops.toList) j i=true→lst listed j=true:=fun j hb=>vQ hb hC hR;have after:∀j,bef (xq ops.toList) i j=true→lst listed j=false:=by
   intro j hb;cases hj:lst listed j with
   |false=>rfl
   |true=>
    have:=vQ hb hC (hC j hj)
    grind
  have hCi:Clo ops (fun k=>decide (k<i)):=by
   intro j hj o' e ho' he hb
   grind
  have hRi:Rdy ops (fun k=>decide (k<i)) i:=by
   intro o' e ho' he hb
   grind
  have hlk:g.d.looks=(o.looksAt ops).map bn:=by rw[hgd]
  rw[hlk]at htr;have hagree:∀s∈(o.looksAt ops).map bn,(frL (fun k=>decide (k<i)) 0 (l.map gdv) t).get s=(frL (lst listed) 0 (l.map gdv) t).get s:=by
   intro s hs';obtain⟨sn,hsn,rfl⟩:=List.mem_map.1 hs';rw[jJ,jJ]
   congr 1
   refine zaF _ 0 fun j d v hjd hds=>?_;obtain⟨oj,sj,hoj,hsj,hbe⟩:=hdv j d v _ hjd hds;have:=u1 hbe;subst this;rw[Yzi];rcases Nat.lt_trichotomy j i with hji|hji|hji
   ·grind[Oper.apart_spec]
   ·grind
   ·grind[Oper.apart_spec]
  have htrg:∀s,g.tr.get s=(frL (lst listed) 0 (l.map gdv) t).get s∧s∈(o.looksAt ops).map bn∨g.tr.get s=none:=by
   intro s
   classical
   have:=vX (frL (fun k=>decide (k<i)) 0 (l.map gdv) t) s ((o.looksAt ops).map bn);rw[←htr]at this;by_cases hm:s∈(o.looksAt ops).map bn<;>grind
  have Tr':Zh φ nt H.n.toNat g.tr (vt φ nt g.tr):=by
   refine zhn (fun j hj=>?_) (fun s v hv=>?_)
   ·rcases htrg (bn j) with⟨h1,_⟩|h1
    ·rw[h1];exact T.out j hj
    ·exact h1
   ·rcases htrg s with⟨h1,_⟩|h1
    ·rw[h1]at hv;exact T.wf s v hv
    ·grind
  have htmps:∀sn∈o.looksAt ops,a.tmps[sn]? = (vt φ nt g.tr)[sn]?:=by
   intro sn hsn;by_cases hlt':sn<nt
   ·rw[T.get sn hlt',Tr'.get sn hlt'];have hm:bn sn∈(o.looksAt ops).map bn:=List.mem_map.2 ⟨sn,hsn,rfl⟩;rw[←hagree _ hm]
    classical
    have:=vX (frL (fun k=>decide (k<i)) 0 (l.map gdv) t) (bn sn) ((o.looksAt ops).map bn)
    grind
   ·have e1:a.tmps[sn]? = none:=Yz3 (by rw[T.size];grind);have e2:(vt φ nt g.tr)[sn]? = none:=Yz3 (by rw[Tr'.size];grind);rw[e1,e2]
  have hexec:execOp a.eval o=execOp ({ tmps:=vt φ nt g.tr,defers:=[] }:Act).eval o:=by
   refine execOp_congr o hnosel fun x hx=>?_;cases x with
   |tmp sn=>have:=htmps sn (YzN _ (List.mem_filterMap.2 ⟨.tmp sn,by grind,rfl⟩));simp only[Act.eval,Yzy,this]
   |_=>rfl
  have hwant:Region.wanted o (yielded ops a.tmps)=Region.wanted o (yielded ops (vt φ nt g.tr)):=by
   unfold Region.wanted;cases hg:o.guard with
   |none=>rfl
   |some gb=>
    obtain⟨q,b⟩:=gb;simp only;have:yielded ops a.tmps q=yielded ops (vt φ nt g.tr) q:=by
     unfold yielded;cases hd:(ops[q]?).bind (·.dst) with
     |none=>rfl
     |some sn=>
      have:=htmps sn (YzP _ (by grind))
      grind
    rw[this]
  have hC':Clo ops (lst (listed.setIfInBounds i true)):=by
   intro j hj o' e ho' he hb;rw[vq hlt]at hj ⊢;rw[YzF]
   right
   simp only[YzF,YzD]at hj;rcases hj with hj|hj
   ·subst hj;exact hR o' e ho' he hb
   ·exact hC j hj o' e ho' he hb
  have next:∀(φ2:Phi) (w2:World) (Hk' H':Za),zhT H.n.toNat φ φ2→Ext n0 φ φ2→H.n.toNat≤H'.n.toNat→
    (h0::hsG l)[ce (lst (listed.setIfInBounds i true)) 0 (qi P ops.toList)]? = some Hk'→Spc n0 ops.size l (lst (listed.setIfInBounds i true)) (ce (lst (listed.setIfInBounds i true)) 0 (qi P ops.toList)) Hk' H'→
    Zd w0 S φ2 H' w2→wfA φ2 H'.n.toNat g.v→(∀m,m<ops.size→lst (listed.setIfInBounds i true) m=false→(φ2 (nm n0 m)).ok=false)→
    wpAnyIn (FR ro) 0 P .any ops Q fuel (listed.setIfInBounds i true) (a.put o.dst (zp φ2 g.v)) w2:=by
   intro φ2 w2 Hk' H' he he0 hle hH' Sp' H2 hv hbad';refine ih _ φ2 _ w2 Hk' H' (by grind) ?_ hC' (hE.trans he0 (LzB _)) hH' Sp' H2 (Yzn hn hle) ?_ ((put_defers _ _ _).trans hdf) hbad'
   ·grind[zmD]
   ·refine Zh.of_get (Zh.put (T.extW he hle) hv o.dst hdin) fun s=>?_
    classical
    rw[zeZ,jJ];have hri:(l.map gdv)[i]? = some (o.dst.map bn,g.v):=by grind[gdv]
    by_cases hd:o.dst.map bn=some s
    ·rw[Yzd hd];rw[hd]at hri;rw[ziw (l.map gdv) 0 i g.v hri (by rw[Yzi,vq hlt];simp) (fun j d u hij hjd hds=>?_)]
     ·rfl
     ·rw[Yzi,vq hlt];obtain⟨oj,sj,hoj,hsj,hbe⟩:=hdv j d u _ hjd hds;have hne:¬j=i:=by omega
      simp only[hne,decide_false,Yz9];rcases hord i j o oj ho hoj hij with hb|⟨hap,_⟩
      ·grind
      ·cases hod:o.dst with
       |none=>grind
       |some so=>grind[u1,Oper.apart_spec]
    ·rw[Yzb hd,jJ]
     congr 1
     refine zaF _ 0 fun j d u hjd hds=>?_;rw[Yzi,vq hlt];have hne:¬j=i:=fun hh=>by grind
     simp[hne]
  have lset:∀m,lst (listed.setIfInBounds i true) m=(decide (m=i)||lst listed m):=vq hlt;have badK:∀(φ2:Phi),(∀m,m<ops.size→m≠i→lst listed m=false→φ2 (nm n0 m)=φ (nm n0 m))→∀m,m<ops.size→lst (listed.setIfInBounds i true) m=false→(φ2 (nm n0 m)).ok=false:=by grind
  unfold wpOpIn;simp only[ho];obtain⟨Hi,hHi,Spi⟩:=hspc i (by omega);rw[←hhb]at Spi;have partOf:∀(t':Tr Zf) (n':BN),(∀b o',(b.toNat<n0∨n0+ops.size≤b.toNat)→t'.get b=some o'→Hk.t.get b=some o')→
    (∀m,m<ops.size→m∉yG (xq ops.toList) i 0 ops.toList→∀o',t'.get (nm n0 m)=some o'→FG n0 l k Hk m=some o')→(∀m∈yG (xq ops.toList) i 0 ops.toList,t'.get (nm n0 m)=none)→Sbh ⟨n',t'⟩ H:=by
   intro t' n' h1 h2 h3 b o' hb;rcases zek n0 ops.size b with hb'|⟨m,hm,rfl⟩
   ·rw[Sp.old b hb'];grind
   ·by_cases hmem:m∈yG (xq ops.toList) i 0 ops.toList
    ·grind
    ·have hq:(qD ops[m].op&&bef (xq ops.toList) m i)=true:=by
      grind
     rw[Sp.res m hm,Yzd (before m (uJ hq).2)]
     grind
  have hself:Sbh ⟨g.hb.n,zbs n0 (yG (xq ops.toList) i 0 ops.toList) g.hb.t⟩ H∨cmG l i≠k:=by
   by_cases hki:cmG l i=k
   ·left
    rw[hki]at hHi Spi;cases hH.symm.trans hHi;refine partOf _ _ (fun b o' hb hget=>?_) (fun m hmN hmem o' hget=>?_) (fun m hmem=>zdu _ _ m hmem)
    ·rw[ux _ _ b fun j hj hh=>by have:=hhidlt i j hj;rw[hh,yJ]at hb;omega]at hget;rw[←Spi.old b hb];exact hget
    ·rw[ux _ _ _ fun j hj hh=>hmem (by grind[ut]),Spi.res m hmN]at hget
     grind
   ·omega
  have hnE:cmG l i=k→g.hb.n.toNat=H.n.toNat:=by intro hki;rw[hki]at hHi;cases hH.symm.trans hHi;rw[Spi.n,Sp.n]
  have ceSame:anchor P o.op=false→ce (lst (listed.setIfInBounds i true)) 0 (qi P ops.toList)=k:=by
   intro ha;rw[←hk];refine wZ _ 0 fun j hj=>?_;rw[Yzi,lset];obtain⟨oj,hoj,haj⟩:=hes j hj;have:j≠i:=fun hh=>by grind
   simp[this]
  have spcSame:anchor P o.op=false→FG n0 l k Hk i=none→Spc n0 ops.size l (lst (listed.setIfInBounds i true)) k Hk H:=by
   intro ha hnone;refine⟨Sp.n,Sp.old,fun m hmN=>?_⟩;rw[Sp.res m hmN,lset];by_cases hmi:m=i
   ·grind
   ·simp only[hmi,decide_false,Yz9]
  rcases zot P o.op with hm|⟨hm,ha⟩|⟨hm,ha,hq⟩
  ·
   have ha:=vK (P:=P) hm;obtain⟨k1,k2,h',k3,k4⟩:=X.made ho hj hm;have hob:FG n0 l k Hk i=obG n0 l i:=by
    refine FGu k Hk i hiN hH fun j oj hoj haj hlt=>(hhid j i o ho).2 ?_;cases hb:bef (xq ops.toList) i j with
    |false=>simp
    |true=>
     have hlj:=after j hb;exfalso;have hle:ce (lst listed) 0 (qi P ops.toList)≤ce (fun q=>decide (q<j)) 0 (qi P ops.toList):=by
      refine wJ _ 0 fun q hq hlq=>?_;rw[Yzi]at hlq ⊢;obtain⟨oq,hoq,haq⟩:=hes q hq;rcases Nat.lt_trichotomy q j with hqj|hqj|hqj
      ·grind
      ·grind
      ·rcases hord j q oj oq hoj hoq hqj with hb'|⟨_,hc|hc⟩
       ·have:=vQ hb' hC (hC q hlq)
        grind
       ·grind
       ·grind
     grind
   have hHnone:H.t.get (nm n0 i)=none:=by rw[Sp.res i hiN,Yzb (by grind)]
   have hnmlt:(nm n0 i).toNat<H.n.toNat:=by grind[yJ]
   rcases zbp (a:={ tmps:=vt φ nt g.tr,defers:=[] }) k3 Tr' with⟨hw,hc⟩|⟨hw,hv,hh⟩
   ·rw[Yzd (by grind)];obtain⟨obj,vf,hsh,hconc,hwf,howf⟩:=zj6 (nt:=nt) hm hc;have e1:=hsh ⟨nm n0 i,g.hb.t⟩;rw[hc]at e1;simp only[Option.some.injEq,Prod.mk.injEq]at e1;obtain⟨ev,eh⟩:=e1;have hobj:obG n0 l i=some obj:=by
     rw[X.ob ho hj,hm];show g.ha.t.get (nm n0 i)=some obj;rw[←k4,eh];exact zx _ _ _
    refine zgQ C HR (ar:={ tmps:=vt φ nt g.tr,defers:=[] }) Tr' hexec (hsh H) ?_;intro φ1 w2 he H2 hv hle;obtain⟨HR2,he2⟩:=HR.rename H2 he (howf φ _ _ Tr') hnmlt (hbad i hiN hli) hHnone;have hcv:zp φ1 (.s (.one (vf H.n)))=zp (upd φ (nm n0 i) (φ1 H.n)) g.v:=by rw[ev];exact hconc _ _ _ _ (zm _ _ _).symm
    rw[hcv];refine next _ w2 Hk (H.put (nm n0 i) obj) he2 (fun b hb=>?_) (LzB _) (by grind) ?_ HR2 ?_ (badK _ fun m hmN hmi _=>?_)
    ·have:b≠nm n0 i:=fun hh=>by grind[yJ]
     grind[upd]
    ·rw[ceSame ha];refine⟨Sp.n,fun b hb=>?_,fun m hmN=>?_⟩
     ·show (H.t.set (nm n0 i) obj).get b=_;rw[zo _ _ _ _ (fun hh=>by rw[hh,yJ]at hb;omega)];exact Sp.old b hb
     ·show (H.t.set (nm n0 i) obj).get (nm n0 m)=_;rw[lset];by_cases hmi:m=i
      ·subst hmi;rw[zx,Yzd (by simp)]
       grind
      ·rw[zo _ _ _ _ (fun hh=>hmi (ut hh)),Sp.res m hmN];simp only[hmi,decide_false,Yz9]
    ·rw[ev];refine hwf _ _ _ ⟨hnmlt,?_⟩;rw[zm];exact H2.okb H.n obj (by grind[Za.new,zx])
    ·have:nm n0 m≠nm n0 i:=fun hh=>hmi (ut hh)
     grind[upd]
   ·rw[Yzb (by grind)];have hnone:FG n0 l k Hk i=none:=by
     rw[hob,X.ob ho hj,hm];show g.ha.t.get (nm n0 i)=none;rw[←k4,hh];show g.hb.t.get (nm n0 i)=none;rw[Spi.res i hiN,Yzb (by simp)]
    have hn':=next φ w Hk H (Ext.refl _ _).w (Ext.refl _ _) (LzB _) (by grind) (by grind) HR (by rw[hv];exact fun _ hv=>by cases hv) (badK φ fun _ _ _ _=>rfl)
    rw[hv]at hn';exact⟨fun f _=>trivial,hn'⟩
  ·
   have hki:cmG l i=k:=by
    rw[hcmE,←hk];refine (wZ _ 0 fun j hj=>?_).symm;obtain⟨oj,hoj,haj⟩:=hes j hj;rw[Yzi];rcases Nat.lt_trichotomy j i with hji|hji|hji
    ·grind
    ·grind
    ·grind
   have hsub:=hself.resolve_right (fun hh=>hh hki);have hEn:=hnE hki;obtain⟨h',k1,k2,k3,k4⟩:=X.anchor ho hj hm ha;have hce1:ce (lst (listed.setIfInBounds i true)) 0 (qi P ops.toList)=k+1:=by rw[←hk];exact zhs (L:=lst listed) (qi P ops.toList) 0 i (by grind) (by grind) (by grind) (fun j hj=>by rw[Yzi]at hj;rw[lset];simp[hj])
   have hH1:(h0::hsG l)[k+1]? = some g.ha:=by rw[Yzr,←hki];exact ziD l i g hj (by grind)
   have HE:=HR.sub hsub hEn;have go:∀(φ2:Phi) (w2:World),Ext H.n.toNat φ φ2→Zd w (zyI φ ⟨g.hb.n,zbs n0 (yG (xq ops.toList) i 0 ops.toList) g.hb.t⟩) φ2 h' w2→wfA φ2 h'.n.toNat g.v→H.n.toNat≤h'.n.toNat→
     wpAnyIn (FR ro) 0 P .any ops Q fuel (listed.setIfInBounds i true) (a.put o.dst (zp φ2 g.v)) w2:=by
    intro φ2 w2 he H2 hv hle;obtain⟨t',m1,m2⟩:=zBm (n0:=n0) H.t h'.t (yG (xq ops.toList) i 0 ops.toList);have HR2:Zd w0 S φ2 ⟨h'.n,t'⟩ w2:=by
     refine HR.join hsub hEn H2 he hle rfl fun b o' hb=>?_;by_cases hmem:∃m∈yG (xq ops.toList) i 0 ops.toList,b=nm n0 m
     ·obtain⟨m,hmem,rfl⟩:=hmem
      grind[zdu]
     ·left
      rw[←m2 b fun j hj hh=>hmem ⟨j,hj,hh⟩];exact hb
    refine next φ2 w2 g.ha ⟨h'.n,t'⟩ he.w (he.mono (by omega)) hle (by grind) ?_ HR2 hv (badK φ2 fun m hmN _ _=>he _ (by grind[yJ]))
    rw[hce1];refine⟨by rw[k2],fun b hb=>?_,fun m hmN=>?_⟩
    ·have hb':∀j∈yG (xq ops.toList) i 0 ops.toList,b≠nm n0 j:=fun j hj hh=>by have:=hhidlt i j hj;rw[hh,yJ]at hb;omega
     show t'.get b=_;rw[m2 b hb',k4 b hb']
    ·show t'.get (nm n0 m)=_;rw[lset];by_cases hmem:m∈yG (xq ops.toList) i 0 ops.toList
     ·have hfg:FG n0 l (k+1) g.ha m=FG n0 l k Hk m:=by
       have:=hFG i o g Hk m ho hj hm ha (by grind) hmem
       rwa [hki]at this
      rw[m1 m hmem,Sp.res m hmN];by_cases hmi:m=i
      ·grind
      ·simp only[hmi,decide_false,Yz9]
       grind
     ·have hq:(qD ops[m].op&&bef (xq ops.toList) m i)=true:=by
       grind
      have hbm:=(uJ hq).2;have hmi:=hbef m i hbm;have hle':cmG l m≤cmG l i:=wJ _ 0 fun q _ hq=>by grind
      have hb':∀j∈yG (xq ops.toList) i 0 ops.toList,nm n0 m≠nm n0 j:=fun j hj hh=>hmem (by grind[ut]);rw[m2 _ hb',Yzd (by grind),Yzb (by omega),k4 _ hb']
   have TrE:Zh φ nt (Za.n ⟨g.hb.n,zbs n0 (yG (xq ops.toList) i 0 ops.toList) g.hb.t⟩).toNat g.tr (vt φ nt g.tr):=by grind
   rcases zbp (a:={ tmps:=vt φ nt g.tr,defers:=[] }) k1 Tr' with⟨hw,hc⟩|⟨hw,hv,hh⟩
   ·rw[Yzd (by grind)];refine zgQ C HE (ar:={ tmps:=vt φ nt g.tr,defers:=[] }) TrE hexec hc ?_
    grind
   ·rw[Yzb (by grind)];have:=go φ w (Ext.refl _ _) (by grind) (by rw[hv];exact fun _ hv=>by cases hv) (by grind);rw[hv]at this;exact⟨fun f _=>trivial,this⟩
  ·
   have hex:∃X':Za,Sbh X' H∧∃h',xI call (yS P nt ops o) g.tr X'=some (g.v,h'):=by
    obtain⟨_,h',he⟩:=X.quiet ho hj hm ha;have hlo:ce (fun q=>bef (xq ops.toList) q i) 0 (qi P ops.toList)≤k:=by rw[←hk];exact wJ _ 0 fun j _ hb=>by grind
    have hhi:k≤ce (fun q=>!bef (xq ops.toList) i q) 0 (qi P ops.toList):=by
     rw[←hk];refine wJ _ 0 fun j _ hb=>?_
     grind
    have hlo0:ce (fun q=>bef (xq ops.toList) q i) 0 (qi P ops.toList)≤cmG l i:=by rw[hcmE];exact wJ _ 0 fun j _ hb=>by grind
    have hhi0:cmG l i≤ce (fun q=>!bef (xq ops.toList) i q) 0 (qi P ops.toList):=by
     rw[hcmE];refine wJ _ 0 fun j _ hb=>?_
     grind
    rcases zdz l hch i g hj (by grind) (by grind) with heq|hall
    ·grind
    ·rw[hgd]at hall;obtain⟨h'',he''⟩:=hall k Hk hlo hhi hH;refine⟨_,partOf _ _ (fun b o' hb hget=>?_) (fun m hmN hmem o' hget=>?_) (fun m hmem=>zdu _ _ m hmem),h'',he''⟩
     ·rw[ux _ _ b fun j hj hh=>by have:=hhidlt i j hj;rw[hh,yJ]at hb;omega]at hget;rcases zdl (zhN n0 0 0 l) Hk.t b (n0:=n0) (k:=k) with h1|⟨x,hx,_,h2,_⟩
      ·grind
      ·obtain⟨m,q1,⟨gm,q2,_⟩,_⟩:=zfn l 0 0 x X.mkeff hx;have:m<ops.size:=by rw[←X.len];grind
       rw[h2,yJ,q1]at hb;omega
     ·rw[ux _ _ _ fun j hj hh=>hmem (by grind[ut])]at hget;rcases zdl (zhN n0 0 0 l) Hk.t (nm n0 m) (n0:=n0) (k:=k) with h1|⟨x,hx,hkx,h2,h3⟩
      ·grind
      ·obtain⟨m',q1,⟨gm,q2,q3,q4⟩,q5⟩:=zfn l 0 0 x X.mkeff hx;rw[Yzi]at q1 q4 q5;have hmm:m=m':=by grind[ut]
       subst hmm;rw[hget]at h3;cases h3;show (if k≤cmG l m then _ else _)=_;rw[Yzd (by omega)];unfold obG
       grind
   obtain⟨X',hsub,h',he⟩:=hex;have hnone:=FGn k Hk i o ho hm hH;rcases zbp (a:={ tmps:=vt φ nt g.tr,defers:=[] }) he Tr' with⟨hw,hc⟩|⟨hw,hv,hh⟩
   ·rw[Yzd (by grind)];refine zgQ C HR (ar:={ tmps:=vt φ nt g.tr,defers:=[] }) Tr' hexec (zq4 P o.op hq _ _ _ _ _ _ hc hsub) ?_;intro φ2 w2 he2 H2 hv hle;exact next φ2 w2 Hk H he2.w (he2.mono (by omega)) hle (by grind) (by grind) H2 hv (badK φ2 fun m hmN _ _=>he2 _ (by grind[yJ]))
   ·rw[Yzb (by grind)];have:=next φ w Hk H (Ext.refl _ _).w (Ext.refl _ _) (LzB _) (by grind) (by grind) HR (by rw[hv];exact fun _ hv=>by cases hv) (badK φ fun _ _ _ _=>rfl)
    rw[hv]at this;exact⟨fun f _=>trivial,this⟩
end
end Go.CE
end
section
namespace Go.CE
open Go.RowKit
section
variable {P:Program} {w0:World} {S:Nat→Prop} {nt:Nat} {call:zg}
theorem zqJ(C:yU P call)(id:Nat)(ops:Array Oper):uA P w0 S nt call (.region id ops true):=by
 intro f fn round ro φ s s2 e a w Q hc R hr hQ;have hc:(bif P.follows .mixedOrders&&zaX P ops (xq ops.toList) then zkD (zbZ P nt ops) else bif P.follows .mixedOrders&&jM P ops (xq ops.toList) then zkC (ul P nt ops) else zxp) call f fn round s=some (e,s2):=hc;cases hb:(P.follows .mixedOrders&&zaX P ops (xq ops.toList)) with
 |false=>
  rw[hb]at hc;simp only[Yzc]at hc;cases hb2:(P.follows .mixedOrders&&jM P ops (xq ops.toList)) with
  |false=>rw[hb2]at hc;cases hc
  |true=>
   rw[hb2]at hc;obtain⟨hm,hok⟩:=uJ hb2;obtain⟨t,d,h⟩:=s;simp only[Yza,zkC]at hc;have hlen:(ul P nt ops).length=ops.size:=by
    have key:∀(os:List Oper) (i:Nat),(xk P nt ops (xq ops.toList) (qi P ops.toList) i os).length=os.length:=by
     intro os
     induction os<;>grind[xk]
    grind[ul]
   rw[hlen]at hc;cases hev:evG call h.n.toNat 0 (ul P nt ops) t ⟨bn (Nat.add h.n.toNat ops.size),h.t⟩ with
   |none=>grind
   |some p=>
    obtain⟨l,t2,h2⟩:=p;rw[hev]at hc;simp only at hc;cases hch:uy call h.n.toNat (zhN h.n.toNat 0 0 l) (⟨bn (Nat.add h.n.toNat ops.size),h.t⟩::hsG l) l with
    |false=>grind
    |true=>
     rw[hch]at hc;cases hc;have hkn:(bn (Nat.add h.n.toNat ops.size)).toNat=h.n.toNat+ops.size:=ye _;have X:=zvy (P:=P) hev (fun m hm=>by
      show h.t.get (nm h.n.toNat m)=none;cases hx:h.t.get (nm h.n.toNat m) with
      |none=>rfl
      |some o=>have:=R.H.keys _ _ hx;grind[yJ])
     refine wpIn_region_any hm ?_;have hz:∀i,lst (Array.replicate ops.size false) i=false:=by
      intro i;unfold lst;rw[Yzy,Array.getElem?_replicate]
      grind
     have hzf:lst (Array.replicate ops.size false)=fun _=>false:=funext hz;have hfr:∀(r:List (Option BN×Zb)) (i:Nat) (t:Tr Zb),frL (fun _=>false) i r t=t:=by
      intro r
      induction r<;>grind[frL]
     have he:=zet φ h.n.toNat ops.size;refine zl8 (hh0:=h) (φ0:=φ) C hok X hch rfl hkn (fun a2 w2 hn=>hQ a2 w2 (zbj R hn)) ops.size (Array.replicate ops.size false) (zeu φ h.n.toNat ops.size) a _ ⟨bn (Nat.add h.n.toNat ops.size),h.t⟩ ⟨bn (Nat.add h.n.toNat ops.size),h.t⟩
      (by simp) (by unfold unl;simp) ?_ he ?_ ?_ (R.H.drew.keep ops.size) (by grind) ?_ rfl (fun m hm _=>zou φ _ _ m hm)
     ·intro i hi;grind
     ·grind[zcq]
     ·rw[hzf,zcq];exact⟨rfl,fun _ _=>rfl,fun m hm=>by rw[Yzb (by simp)];exact X.fresh m hm⟩
     ·rw[hzf,hfr,hkn];exact R.T.ext he (by simp)
 |true=>
  rw[hb]at hc;obtain⟨hm,hok⟩:=uJ hb;obtain⟨t,d,h⟩:=s;simp only[Yza,zkD]at hc;cases hev:evD call (zbZ P nt ops) t h with
  |none=>grind
  |some p=>
   obtain⟨l,t2,hs⟩:=p;rw[hev]at hc;simp only at hc;cases hch:uz call hs l with
   |false=>grind
   |true=>
    rw[hch]at hc;cases hc;refine wpIn_region_any hm ?_;have hz:∀i,lst (Array.replicate ops.size false) i=false:=by
     intro i;unfold lst;rw[Yzy,Array.getElem?_replicate]
     grind
    have hzf:lst (Array.replicate ops.size false)=fun _=>false:=funext hz;have hce:∀(es:List Bool) (i:Nat),ce (fun _=>false) i es=0:=by
     intro es
     induction es<;>grind[ce]
    have hfr:∀(r:List (Option BN×Zb)) (i:Nat) (t:Tr Zb),frL (fun _=>false) i r t=t:=by
     intro r
     induction r<;>grind[frL]
    obtain⟨_,g2,_,_,_⟩:=zfU call _ _ _ _ _ _ hev;refine zo6 C hok hev hch (fun a2 w2 hn=>hQ a2 w2 (zbj R hn)) ops.size (Array.replicate ops.size false) φ a _ h (by simp) (by unfold unl;simp) ?_ (Ext.refl _ _) ?_ R.H.drew (LzB _) ?_ rfl
    ·intro i hi;grind
    ·grind
    ·rw[hzf,hfr];exact R.T
end
end Go.CE
end
section
namespace Go.CE
open Go.RowKit
section
variable {P:Program} {w0:World} {S:Nat→Prop} {nt:Nat} {call:zg}
theorem ziZ(C:yU P call)(c:Code):uA P w0 S nt call c:=by
 induction c with
 |skip=>intro f fn round ro φ s s2 e a w Q hc R hr hQ;cases hc;exact wpIn_skip (hQ _ _ R.after)
 |region id ops draw=>cases draw<;>grind[znI,zqJ]
 |seq x y hx hy=>grind[zwc]
 |cond c x y hx hy=>grind[ztz]
 |block id x hx=>exact zqK hx
 |loop x hx=>exact zty hx
 |rangeFunc g ps assign body _ _=>exact zqI C
 |exit id=>intro f fn round ro φ s s2 e a w Q hc R hr hQ;cases hc;exact wpIn_exit (hQ _ _ R.after)
 |ret=>intro f fn round ro φ s s2 e a w Q hc R hr hQ;cases hc;exact wpIn_ret (hQ _ _ R.after)
 |_=>intro f fn round ro φ s s2 e a w Q hc R hr hQ;cases hc
theorem zr0:∀(d:List BN) (h h2:Za),shut d h=some h2→h2.n=h.n
 | [],h,h2,e=>by cases e;rfl
 |b::d,h,h2,e=>by
  unfold shut at e;split at e
  ·exact(zr0 d _ _ e).trans rfl
  ·cases e
theorem zoo{φ:Phi}{fn:Func}{tmps:Array Value}{R:Ending→World→Prop}{h2:Za}(hR:∀w2,Zd w0 S φ h2 w2→LeavesIn (FR none) 0 P fn tmps R [] .returning w2):
  ∀(d:List BN) (h:Za) (w:World),shut d h=some h2→Zd w0 S φ h w→LeavesInM (FR none) 0 P fn tmps R (marks φ d) .returning w
 | [],h,w,e,H=>by cases e;exact hR w H
 |b::d,h,w,e,H=>by
  unfold shut at e;split at e
  ·rename_i hb;have g1:w.heap[(φ b).blk]? = some (.deferred (some [])):=H.obj b _ hb;refine⟨by simp,.inl ⟨(φ b).blk,_,rfl,run_takeDeferred g1,?_⟩⟩;refine zoo hR d _ _ e ?_;exact H.put hb trivial (fun k hk=>World.putObj_heap_other hk) (by simp) rfl rfl rfl trivial
  ·cases e
def zth(tmps:Array Value):ResultVar→Sem Value
 | .tmp t=>pure (tmps.getD t undef)
 | .cell a t=>do loadVar t (←asAddr (tmps.getD a undef))
theorem zha{φ:Phi}{n:Nat}{t:Tr Zb}{tmps:Array Value}(T:Zh φ nt n t tmps){i:Nat}{v:Zb}(hi:t.get (bn i)=some v):tmps.getD i undef=zp φ v∧wfA φ n v:=by
 have hlt:i<nt:=by apply Decidable.byContradiction;intro hn;rw[T.out i (by omega)]at hi;cases hi
 have:=T.get i hlt;rw[hi]at this;refine⟨?_,T.wf _ _ hi⟩;simp_all
theorem zeC{t:Tr Zb}{h:Za}{r:BN×Option (Option Nat)}{rs:List (BN×Option (Option Nat))}{vs:List SVal}(e:kV t h (r::rs)=some vs):
  ∃v vs',vs=v::vs'∧zeD t h r=some v∧kV t h rs=some vs':=by
 unfold kV at e;split at e
 ·rename_i v hv;unfold wA at e
  grind
 ·cases e
theorem jc{φ:Phi}{h:Za}{w:World}{t:Tr Zb}{tmps:Array Value}(H:Zd w0 S φ h w)(T:Zh φ nt h.n.toNat t tmps):∀(l:List ResultVar) (rs:List (BN×Option (Option Nat))) (vs:List SVal),
  zgd P l=some rs→kV t h rs=some vs→(l.mapM (zth tmps)).run P w=.ok (vs.map (zL φ)) w∧∀v∈vs,wfS φ h.n.toNat v
 | [],rs,vs,hc,he=>by cases hc;cases he<;>simp_all
 | .tmp i::l,rs,vs,hc,he=>by
  unfold zgd at hc;split at hc
  ·rename_i rs' hrs;cases hc;obtain⟨v1,vs',rfl,hv1,hvs⟩:=zeC he;simp only[zeD]at hv1;split at hv1
   ·rename_i u hu;cases hv1;obtain⟨h1,h2⟩:=jc H T l rs' vs' hrs hvs;obtain⟨g1,g2⟩:=zha T hu;refine⟨?_,fun v hv=>?_⟩
    ·rw[List.mapM_cons];simp only[zth,Sem.run_bind,Sem.run_pure,Result.andThen_ok,h1,g1];rfl
    ·cases hv with
     |head=>exact g2
     |tail _ hm=>exact h2 v hm
   trivial
  ·cases hc
 | .cell i ty::l,rs,vs,hc,he=>by
  unfold zgd at hc;split at hc
  ·rename_i n rs' hn hrs;cases hc;obtain⟨v1,vs',rfl,hv1,hvs⟩:=zeC he;simp only[zeD]at hv1;split at hv1
   ·rename_i b off hu;obtain⟨h1,h2⟩:=jc H T l rs' vs' hrs hvs;obtain⟨g1,g2⟩:=zha T hu;have key:(loadVar ty (adr φ b off)).run P w=.ok (zL φ v1) w∧wfS φ h.n.toNat v1:=by
     unfold ji at hv1;split at hv1
     ·rename_i cs st hb;have hp:part n cs off h=some (.s v1,h):=by
       grind[part,za6,ze3]
      obtain⟨k1,k2,_⟩:=zda (P:=P) H hn hb hp;trivial
     trivial
    grind[zth,Sem.run_bind,zp,zL,zi,asAddr,Sem.run_pure,Result.andThen_ok]
   trivial
  ·cases hc
theorem zlo(fn:Func)(tmps:Array Value):results fn tmps=(do
  let vs ←fn.results.toList.mapM (zth tmps)
  pure (match vs with | [v]=>v|vs=>.tuple vs.toArray)):=by
 have:fn.results.mapM (zth tmps)=List.toArray <$> fn.results.toList.mapM (zth tmps):=by rw[←List.mapM_toArray]
 have e:results fn tmps=(do
   let vs ←fn.results.mapM (zth tmps)
   pure (if h:vs.size=1 then vs[0] else .tuple vs)):=by
  rfl
 rw[e,this,map_eq_pure_bind,bind_assoc]
 congr 1
 funext vs
 rw[pure_bind]
 congr 1
 match vs with
 | []=>rfl
 | [v]=>rfl
 |v::u::vs=>rfl
theorem zln{φ:Phi}{h:Za}{w:World}{t:Tr Zb}{tmps:Array Value}(H:Zd w0 S φ h w)(T:Zh φ nt h.n.toNat t tmps){fn:Func}{rs:List (BN×Option (Option Nat))}(hc:zgd P fn.results.toList=some rs)
  {v:Zb} {h2:Za} (he:zfT h (kV t h rs)=some (v,h2)):(results fn tmps).run P w=.ok (zp φ v) w∧wfA φ h.n.toNat v∧h2=h:=by
 cases hv:kV t h rs with
 |none=>rw[hv]at he;cases he
 |some vs=>
  rw[hv]at he;obtain⟨h1,hw⟩:=jc H T _ rs vs hc hv;rw[zlo,Sem.run_bind,h1]
  match vs,he,hw with
  | [],he,hw=>cases he;trivial
  | [u],he,hw=>cases he;exact⟨rfl,hw u (by simp),rfl⟩
  |u::u'::vs,he,hw=>cases he;trivial
theorem zbq:∀(args:List Zb) (i:Nat) (t:Tr Zb) (j:Nat),(wI (bn i) t args).get (bn j)=if j<i then t.get (bn j) else(args[j-i]?).or (t.get (bn j))
 | [],i,t,j=>by simp[wI]
 |v::vs,i,t,j=>by
  unfold wI;rw[zgg,zbq vs (i+1) _ j];by_cases h1:j<i
  ·rw[Yzd h1,Yzd (by omega),zo _ _ _ _ (fun hh=>by grind[u1])]
  ·rw[Yzb h1];by_cases h2:j=i
   ·simp_all[zx]
   ·rw[Yzb (by omega),zo _ _ _ _ (fun hh=>by grind[u1])]
    grind
theorem zry{φ:Phi}{n nt:Nat}{args:List Zb}(hl:args.length≤nt)(hw:∀x∈args,wfA φ n x):
  Zh φ nt n (wI .z .nil args) ((args.map (zp φ)).toArray++Array.replicate (nt-(args.map (zp φ)).toArray.size) undef):=by
 have key:∀j,(wI .z .nil args).get (bn j)=args[j]?:=by intro j;have:=zbq args 0 .nil j;simp only[Nat.not_lt_zero,if_false,Nat.sub_zero]at this;have e0:bn 0=.z:=rfl;simp_all
 refine⟨by simp;omega,fun i hi=>?_,fun i hi=>?_,fun i v hv=>?_⟩
 ·rw[key];by_cases hlt:i<args.length
  ·grind
  ·rw[Array.getElem?_append_right (by simp;omega)];have:args[i]? = none:=by simp;omega
   rw[this];simp only[List.size_toArray,Yzj,Option.getD_none];rw[Array.getElem?_replicate,Yzd (by omega)];rfl
 ·grind
 ·rw[←wT i,key]at hv
  grind
theorem zi7{g:Nat}{fn:Func}{c:Code}(hf:P.funcs[g]? = some fn)(hb:fn.body=some c)(hn:(fn.name == "runtime.NumGoroutine")=false)(as:Array Value)(w:World):(callFunc g as).run P w=.ok (.enter g as) w:=by simp_all[callFunc]
theorem zpm{fn:Func}{r:Zk}(h:zi8 P fn=some r):∃c rs,fn.body=some c∧zgd P fn.results.toList=some rs∧(fn.name == "runtime.NumGoroutine")=false∧r=⟨fn.ntmps,rs,zQ P fn.ntmps c⟩:=by
 unfold zi8 at h
 grind
def zu1(P:Program)(fs:Nat→Option Zk):Prop:=∀g r,fs g=some r→∃fn,P.funcs[g]? = some fn∧zi8 P fn=some r
theorem zw1(C:yU P call){fs:Nat→Option Zk}(hfs:zu1 P fs){f g:Nat}{φ:Phi}{h h2:Za}{w:World}{args:List Zb}{v:Zb}(H:Zd w0 S φ h w)(hw:∀x∈args,wfA φ h.n.toNat x)
  (e:zoU fs call f g args h=some (v,h2)):(∀as w,(callFunc g as).run P w=.ok (.enter g as) w)∧CallsIn (FR none) 0 P g (args.map (zp φ)).toArray w (Ret w0 S φ h v h2):=by
 unfold zoU at e;split at e
 ·rename_i ntmps rs body hfg;obtain⟨fn,hf,hcf⟩:=hfs g _ hfg;obtain⟨c,rs',hb,hrs,hname,hr⟩:=zpm hcf;cases hr;refine⟨zi7 hf hb hname,?_⟩;cases hl:zre args fn.ntmps with
  |false=>grind
  |true=>
   rw[hl]at e;simp only[Yza]at e;cases hbody:zQ P fn.ntmps c call f g none ⟨wI .z .nil args,[],h⟩ with
   |none=>rw[hbody]at e;cases e
   |some p=>
    obtain⟨ex,t1,d1,h1⟩:=p;rw[hbody]at e;refine callsIn_of_wp_marks hf hb trivial (ziZ C c f g none none φ _ _ ex _ w _ hbody ⟨H,zry (zon _ _ hl) hw,rfl,fun b hb=>by cases hb⟩ rfl fun a2 w2 hA=>?_) rfl;obtain⟨φ2,he2,⟨H2,T2,D2,dn2⟩,hle⟩:=hA;simp only at H2 T2 D2 dn2 he2 hle;have key:leave rs (some (.normal,⟨t1,d1,h1⟩))=some (v,h2)→LeavesInM (FR none) 0 P fn a2.tmps (Ret w0 S φ h v h2) a2.defers .returning w2:=by
     intro e;simp only[leave]at e;split at e
     ·rename_i h3 hs;rw[D2];refine zoo (fun w3 H3=>?_) d1 h1 w2 hs H2;have hn3:=zr0 _ _ _ hs;have T3:Zh φ2 fn.ntmps h3.n.toNat t1 a2.tmps:=by grind
      obtain⟨k1,k2,rfl⟩:=zln H3 T3 hrs e;exact⟨_,k1,φ2,rfl,he2,H3,k2,by grind⟩
     ·cases e
    cases ex with
    |normal=>exact key e
    |exit id=>cases e
    |ret=>exact key e
 ·cases e
theorem zjz{φ:Phi}{n:Nat}:∀(ps:List Nat) (args:List Zb) (t t2:Tr Zb) (arr:Array Value),zh8 nt t ps args=some t2→Zh φ nt n t arr→(∀x∈args,wfA φ n x)→
  Zh φ nt n t2 ((ps.zip (args.map (zp φ))).foldl (fun t (p:Nat×Value)=>t.setIfInBounds p.1 p.2) arr)∧args.length=ps.length
 | [],[],t,t2,arr,e,T,hw=>by cases e<;>simp_all
 |p::ps,v::vs,t,t2,arr,e,T,hw=>by
  unfold zh8 at e;cases hp:Nat.ble (Nat.succ p) nt with
  |false=>grind
  |true=>rw[hp]at e;simp only[Yza]at e;have T2:=Zh.put (a:={ tmps:=arr,defers:=[] }) T (hw v (by simp)) (some p) hp;obtain⟨k1,k2⟩:=zjz ps vs _ t2 _ e T2 fun x hx=>hw x (by simp[hx]);exact⟨k1,by simp[k2]⟩
 | [],_::_,t,t2,arr,e,T,hw=>by cases e
 |_::_,[],t,t2,arr,e,T,hw=>by cases e
theorem zqu(C:yU P call){f:Nat}{l:BN}{φ:Phi}{h h2:Za}{w:World}{args:List Zb}{v:Zb}(H:Zd w0 S φ h w)(hw:∀x∈args,wfA φ h.n.toNat x)
  (e:zdq (zQ P) call f l args h=some (v,h2)):∃f tmps assign body,(Instr.yield (φ l).blk (args.map (zp φ)).toArray).run P w=.ok (.round (φ l).blk f tmps assign body) w∧
   RoundIn (FR none) 0 P (φ l).blk f tmps assign body w (Ret w0 S φ h v h2):=by
 unfold zdq at e;split at e
 ·rename_i pend lf ln lt lps la lb ld hl;split at e
  ·rename_i t ht;obtain⟨arr,f8,g1,g2,g3⟩:=H.obj l _ hl;have hln:=H.okk _ _ hl;obtain⟨T,hlen⟩:=zjz _ _ _ _ arr ht g2 hw;refine⟨f8,_,la,lb,run_yield g1 (by simp[hlen]),?_⟩;have harr:((lps.zip (args.map (zp φ)).toArray).foldl (fun tmps (x:Nat×Value)=>tmps.setIfInBounds x.1 x.2) arr)=((lps.toList.zip (args.map (zp φ))).foldl (fun t (p:Nat×Value)=>t.setIfInBounds p.1 p.2) arr):=by
    grind[Array.toList_zip]
   split at e
   ·rename_i t1 d1 h1 has;split at e
    ·rename_i h3 hbe;refine roundIn_of_wpIn trivial ?_;refine ziZ C la f lf (some l) (some (φ l).blk) φ ⟨t,[],h⟩ ⟨t1,d1,h1⟩ .normal _ w _ has ⟨H,?_,rfl,fun b hb=>by cases hb⟩ ⟨rfl,hln⟩ fun a1 w1 hA=>?_
     ·grind
     ·obtain⟨φ1,he1,⟨H1,T1,D1,dn1⟩,hle1⟩:=hA;simp only at H1 T1 D1 dn1 he1 hle1;unfold zdJ at hbe;split at hbe
      ·rename_i p9 lf9 ln9 lt9 lps9 la9 lb9 ld9 hl9;cases hbe;obtain⟨arr9,f9,k1,k2,k3⟩:=H1.obj l _ hl9;have el:φ1 l=φ l:=he1 l hln.1;have hlt:(φ1 l).blk<w1.heap.size:=(Lz7.1 k1).1;have H3:Zd w0 S φ1 (h1.put l (.loop .busy p9 lf9 ln9 lt9 lps9 la9 lb9 ld9)) (w1.putObj (φ1 l).blk (.loop { state:=.busy,pending:=p9.map zbP,fn:=f9,tmps:=arr9,params:=lps9,assign:=la9,body:=lb9,defers:=(φ1 ld9).blk })):=
        H1.put hl9 trivial (fun k hk=>World.putObj_heap_other hk) (by simp) rfl rfl rfl ⟨arr9,f9,World.putObj_heap_same hlt,k2,k3⟩
       have hbr:=run_beginRound (P:=P) k1 rfl;rw[el]at hbr;refine⟨_,hbr,?_⟩;rw[el]at H3;cases hbd:zQ P ln lb call f lf (some l) ⟨t1,d1,h1.put l (.loop .busy p9 lf9 ln9 lt9 lps9 la9 lb9 ld9)⟩ with
       |none=>rw[hbd]at e;cases e
       |some p=>
        obtain⟨ex,t4,d4,h4⟩:=p;rw[hbd]at e;refine ziZ C lb f lf (some l) (some (φ l).blk) φ1 _ _ ex a1 _ _ hbd ⟨H3,T1,D1,dn1⟩ ⟨by rw[el],okB.ext he1 hle1 hln⟩ fun a5 w5 hA5=>?_;obtain⟨φ5,he5,⟨H5,T5,D5,dn5⟩,hle5⟩:=hA5;simp only[zqy]at H5 T5 D5 dn5 he5 hle5;cases d4 with
        |cons b d=>cases e
        |nil=>
         simp only[zsk,endR]at e;split at e
         ·rename_i s6 p6 lf6 ln6 lt6 lps6 la6 lb6 ld6 hl6;obtain⟨arr6,f6,m1,m2,m3⟩:=H5.obj l _ hl6;have el5:φ5 l=φ l:=(he5 l (okB.ext he1 hle1 hln).1).trans el;rw[el5]at m1;have hlt5:(φ l).blk<w5.heap.size:=(Lz7.1 m1).1;have hE:Ext h.n.toNat φ φ5:=he1.trans he5 hle1;have fin:∀(j:Option Zg) (st:LoopState),st=(if (j.map zbP).isNone then .ready else .done)→Zd w0 S φ5 (h4.put l (.loop st j lf6 ln6 lt6 lps6 la6 lb6 ld6)) (w5.putObj (φ l).blk (.loop { state:=if (j.map zbP).isNone then .ready else .done,pending:=j.map zbP,fn:=f6,tmps:=arr6,params:=lps6,assign:=la6,body:=lb6,defers:=(φ5 ld6).blk })):=by
           intro j st hst;subst hst;refine H5.put hl6 trivial (fun k hk=>?_) (by simp) rfl rfl rfl ⟨arr6,f6,?_,m2,m3⟩
           ·grind[World.putObj_heap_other]
           ·grind[World.putObj_heap_same]
          cases ex with
          |normal=>cases e;exact⟨_,_,run_endRound none m1,φ5,rfl,hE,fin none .ready rfl,trivial,Yzn hle1 hle5⟩
          |exit id=>cases e;exact⟨_,_,run_endRound (some (.exit id)) m1,φ5,rfl,hE,fin (some (.exit id)) .done rfl,trivial,Yzn hle1 hle5⟩
          |ret=>cases e;exact⟨_,_,run_endRound (some .ret) m1,φ5,rfl,hE,fin (some .ret) .done rfl,trivial,Yzn hle1 hle5⟩
         ·cases e
      trivial
    ·cases e
   ·cases e
  ·cases e
 ·cases e
theorem zjb(C:yU P call){fs:Nat→Option Zk}(hfs:zu1 P fs)(f:Nat):yU P (zbU (zQ P) fs call f):=
 fun _ _ _ _ _ _ _ _ H hw=>⟨fun _ e=>zw1 C hfs H hw e,fun _ e=>zqu C H hw e⟩
theorem zin:yU P (fun _ _ _=>none):=
 fun _ _ _ _ _ _ _ _ _ _=>⟨fun _ e=>(by cases e),fun _ e=>(by cases e)⟩
theorem zi6{fs:Nat→Option Zk}(hfs:zu1 P fs):∀n,yU P (zoV (zQ P) fs n)
 |0=>zin
 |n+1=>zjb (zi6 hfs n) hfs n
theorem uM{α:Type}:∀(l:List α) (i:Nat) (t:Tr α) (j:Nat),(Tr.ofList (bn i) l t).get (bn j)=if j<i then t.get (bn j) else(l[j-i]?).or (t.get (bn j))
 | [],i,t,j=>by simp[Tr.ofList]
 |v::vs,i,t,j=>by
  unfold Tr.ofList;rw[zgg,uM vs (i+1) _ j];by_cases h1:j<i
  ·rw[Yzd h1,Yzd (by omega),zo _ _ _ _ (fun hh=>by grind[u1])]
  ·rw[Yzb h1];by_cases h2:j=i
   ·simp_all[zx]
   ·rw[Yzb (by omega),zo _ _ _ _ (fun hh=>by grind[u1])]
    grind
theorem ze9(P:Program):zu1 P (cFs (yP P)):=by
 intro g r h;unfold cFs yP at h;have e0:BN.z=bn 0:=rfl;rw[e0,uM]at h;have:(Tr.nil:Tr (Option Zk)).get (bn g)=none:=by simp
 grind
end
end Go.CE
end
section
namespace Go.CE
open Go.RowKit
noncomputable section
structure Mt where
 ρ:Tr BN
 inv:Tr BN
 work:List (BN×BN)
def mB(b b':BN)(m:Mt):Option Mt:=
 match m with
 |⟨ρ,inv,work⟩=>
  match ρ.get b with
  |some b''=>bif zl5 b'' b' then some ⟨ρ,inv,work⟩ else none
  |none=>
   match inv.get b' with
   |some _=>none
   |none=>some ⟨ρ.set b b',inv.set b' b,(b,b')::work⟩
def wO:Zc→Bool
 | .bool _ | .int _ _ | .str _ | .nilp | .nils | .nilm | .nilf | .nili=>true
 |_=>false
def mC(m:Mt)(c c':Zc):Option Mt:=
 match c with
 | .ptr b o=>
  match c' with
  | .ptr b' o'=>bif Nat.beq o o' then mB b b' m else none
  |_=>none
 | .slc b o l k e=>
  match c' with
  | .slc b' o' l' k' e'=>bif Nat.beq o o'&&Nat.beq l l'&&Nat.beq k k'&&eqB e e' then mB b b' m else none
  |_=>none
 |c=>bif wO c&&eqV c c' then some m else none
def mCs:List Zc→List Zc→Mt→Option Mt
 | [],[],m=>some m
 |c::cs,c'::cs',m=>
  match mC m c c' with
  |some m'=>mCs cs cs' m'
  |none=>none
 |_,_,_=>none
def mS(m:Mt):SVal→SVal→Option Mt
 | .one c,.one c'=>mC m c c'
 | .agg cs,.agg cs'=>mCs cs cs' m
 |_,_=>none
def mA:List Zb→List Zb→Mt→Option Mt
 | [],[],m=>some m
 | .s v::vs,.s v'::vs',m=>
  match mS m v v' with
  |some m'=>mA vs vs' m'
  |none=>none
 |_,_,_=>none
def zq8(hc h:Za):Nat→Mt→Option (Tr BN)
 |0,_=>none
 |f+1,⟨ρ,inv,work⟩=>
  match work with
  | []=>some ρ
  |(b,b')::ws=>
   match hc.t.get b,h.t.get b' with
   |some (.cells cs st),some (.cells cs' st')=>
    bif Nat.beq st st' then
     match mCs cs cs' ⟨ρ,inv,ws⟩ with
     |some m'=>zq8 hc h f m'
     |none=>none
    else none
   |_,_=>none
structure Sum where
 g:Nat
 args:List Zb
 objs:List Zf
 res:Zb
def Sum.heap(s:Sum):Za:=⟨bn s.objs.length,Tr.ofList .z s.objs .nil⟩
def zyc(ρ:Tr BN):BN→List Zf→Bool
 |_,[]=>true
 |i,_::l=>
  match ρ.get i with
  |some _=>zyc ρ i.succ l
  |none=>false
def Sum.fits(s:Sum)(args:List Zb)(h:Za):Bool:=
 match mA s.args args ⟨.nil,.nil,[]⟩ with
 |some m=>
  match zq8 s.heap h (Nat.succ s.objs.length) m with
  |some ρ=>zyc ρ .z s.objs
  |none=>false
 |none=>false
def zjO:SVal→Bool
 | .one c=>wO c
 | .agg cs=>cs.all wO
def w8:Zb→Bool
 | .s v=>zjO v
 | .tup vs=>vs.all zjO
def zql(h2:Za):BN→List Zf→Bool
 |_,[]=>true
 |i,.cells cs st::l=>
  match h2.t.get i with
  |some (.cells cs' st')=>zvl cs cs'&&Nat.beq st st'&&zql h2 i.succ l
  |_=>false
 |_,_::_=>false
def Sum.chk(call:zg)(s:Sum):Bool:=
 match call (.inl s.g) s.args s.heap with
 |some (v,h2)=>eqA s.res v&&w8 s.res&&zql h2 .z s.objs
 |none=>false
def wt(g:Nat)(args:List Zb)(h:Za):List Sum→Option Zb
 | []=>none
 |s::l=>bif Nat.beq g s.g&&s.fits args h then some s.res else wt g args h l
def zcu(sums:List Sum)(call:zg):zg
 | .inl g,args,h=>
  match wt g args h sums with
  |some v=>some (v,h)
  |none=>call (.inl g) args h
 | .inr l,args,h=>call (.inr l) args h
def zfV(cc:Nat→Code→xH)(fs:Nat→Option Zk)(sums:List Sum)(n:Nat):zg:=
 Nat.rec (motive:=fun _=>zg) (fun _ _ _=>none) (fun f ih=>zcu sums (zbU cc fs ih f)) n
def isTrue:Res→Bool
 |some (.s (.one (.bool b)),_)=>b
 |_=>false
end
theorem zlR{r:Res}(h:isTrue r=true):∃h2,r=some (.s (.one (.bool true)),h2):=by
 unfold isTrue at h
 grind
def RC(ρ:Tr BN):Zc→Zc→Prop
 | .ptr b o,c'=>∃b',c'=.ptr b' o∧ρ.get b=some b'
 | .slc b o l k e,c'=>∃b',c'=.slc b' o l k e∧ρ.get b=some b'
 |c,c'=>wO c=true∧c'=c
def Sub(ρ ρ':Tr BN):Prop:=∀b b',ρ.get b=some b'→ρ'.get b=some b'
theorem Sub.refl(ρ:Tr BN):Sub ρ ρ:=fun _ _ h=>h
theorem Sub.trans{a b c:Tr BN}(h:Sub a b)(k:Sub b c):Sub a c:=fun _ _ hh=>k _ _ (h _ _ hh)
theorem RC.mono{ρ ρ':Tr BN}(hs:Sub ρ ρ'){c c':Zc}(h:RC ρ c c'):RC ρ' c c':=by
 cases c with
 |ptr b o=>obtain⟨b',h1,h2⟩:=h;exact⟨b',h1,hs _ _ h2⟩
 |slc b o l k e=>obtain⟨b',h1,h2⟩:=h;exact⟨b',h1,hs _ _ h2⟩
 |_=>exact h
def RCs(ρ:Tr BN)(cs cs':List Zc):Prop:=cs'.length=cs.length∧∀(i:Nat) (c:Zc),cs[i]? = some c→∃c',cs'[i]? = some c'∧RC ρ c c'
theorem RCs.mono{ρ ρ':Tr BN}(hs:Sub ρ ρ'){cs cs':List Zc}(h:RCs ρ cs cs'):RCs ρ' cs cs':=
 ⟨h.1,fun i c hc=>by obtain⟨c',h1,h2⟩:=h.2 i c hc;exact⟨c',h1,h2.mono hs⟩⟩
def RS(ρ:Tr BN):SVal→SVal→Prop
 | .one c,v=>∃c',v=.one c'∧RC ρ c c'
 | .agg cs,v=>∃cs',v=.agg cs'∧RCs ρ cs cs'
theorem RS.mono{ρ ρ':Tr BN}(hs:Sub ρ ρ'){v v':SVal}(h:RS ρ v v'):RS ρ' v v':=by
 cases v with
 |one c=>obtain⟨c',h1,h2⟩:=h;exact⟨c',h1,h2.mono hs⟩
 |agg cs=>obtain⟨cs',h1,h2⟩:=h;exact⟨cs',h1,h2.mono hs⟩
structure MI (D:BN→BN→Prop) (hc h:Za) (m:Mt):Prop where
 inv:∀b b',m.ρ.get b=some b'→m.inv.get b'=some b
 pairs:∀b b',m.ρ.get b=some b'→(b,b')∈m.work∨D b b'∨∃cs cs' st,hc.t.get b=some (.cells cs st)∧h.t.get b'=some (.cells cs' st)∧RCs m.ρ cs cs'
section
variable {D:BN→BN→Prop} {hc h:Za}
theorem zwu{m m':Mt}{b b':BN}(I:MI D hc h m)(e:mB b b' m=some m'):MI D hc h m'∧Sub m.ρ m'.ρ∧m'.ρ.get b=some b':=by
 obtain⟨ρ,inv,work⟩:=m;unfold mB at e;simp only at e;split at e
 ·grind[kX,Sub.refl]
 ·rename_i hb;split at e
  ·cases e
  ·rename_i hi;cases e;have hsub:Sub ρ (ρ.set b b'):=by
    intro x y hx
    grind[zo]
   refine⟨⟨fun x y hx=>?_,fun x y hx=>?_⟩,hsub,zx _ _ _⟩
   ·show (inv.set b' b).get y=some x;by_cases hxb:x=b
    ·grind[zx]
    ·have hx:(ρ.set b b').get x=some y:=hx;rw[zo _ _ _ _ hxb]at hx;have h1:=I.inv x y hx
     grind[zo]
   ·by_cases hxb:x=b
    ·grind[zx]
    ·have hx:(ρ.set b b').get x=some y:=hx;rw[zo _ _ _ _ hxb]at hx;rcases I.pairs x y hx with h1|h1|⟨cs,cs',st,h1,h2,h3⟩
     ·grind
     ·grind
     ·exact .inr (.inr ⟨cs,cs',st,h1,h2,h3.mono hsub⟩)
theorem zwt{m m':Mt}{c c':Zc}(I:MI D hc h m)(e:mC m c c'=some m'):MI D hc h m'∧Sub m.ρ m'.ρ∧RC m'.ρ c c':=by
 have rest:(bif wO c&&eqV c c' then some m else none)=some m'→(wO c=true→RC m'.ρ c c'∨True)→MI D hc h m'∧Sub m.ρ m'.ρ∧wO c=true∧c'=c:=by
  intro e _;cases hq:(wO c&&eqV c c') with
  |false=>grind
  |true=>
   rw[hq]at e;cases e;obtain⟨h1,h2⟩:=uJ hq
   grind[Sub.refl,zoW]
 cases c with
 |ptr b o=>
  cases c' with
  |ptr b' o'=>
   simp only[mC]at e;cases hq:Nat.beq o o' with
   |false=>grind
   |true=>rw[hq]at e;obtain⟨h1,h2,h3⟩:=zwu I e;exact⟨h1,h2,b',by rw[beq_true hq],h3⟩
  |_=>cases e
 |slc b o l k x=>
  cases c' with
  |slc b' o' l' k' x'=>
   simp only[mC]at e;cases hq:(Nat.beq o o'&&Nat.beq l l'&&Nat.beq k k'&&eqB x x') with
   |false=>grind
   |true=>rw[hq]at e;obtain⟨h1,h2,h3⟩:=zwu I e;obtain⟨q1,q2⟩:=uJ hq;obtain⟨q1,q3⟩:=uJ q1;obtain⟨q1,q4⟩:=uJ q1;exact⟨h1,h2,b',by grind[beq_true,zo4],h3⟩
  |_=>cases e
 |_=>exact rest e (fun _=>.inr trivial)
theorem zol:∀(cs cs':List Zc) (m m':Mt),MI D hc h m→mCs cs cs' m=some m'→MI D hc h m'∧Sub m.ρ m'.ρ∧RCs m'.ρ cs cs'
 | [],[],m,m',I,e=>by cases e;exact⟨I,Sub.refl _,rfl,fun i c hc=>by simp at hc⟩
 |c::cs,c'::cs',m,m',I,e=>by
  unfold mCs at e;split at e
  ·rename_i m1 h1;obtain⟨I1,s1,r1⟩:=zwt I h1;obtain⟨I2,s2,r2⟩:=zol cs cs' m1 m' I1 e;refine⟨I2,s1.trans s2,by simp[r2.1],fun i x hx=>?_⟩;cases i with
   |zero=>simp only[Yzk,Option.some.injEq]at hx;subst hx;exact⟨c',rfl,r1.mono s2⟩
   |succ i=>simp only[Yzr]at hx ⊢;exact r2.2 i x hx
  ·cases e
 | [],_::_,m,m',I,e=>by cases e
 |_::_,[],m,m',I,e=>by cases e
theorem zzW{m m':Mt}{v v':SVal}(I:MI D hc h m)(e:mS m v v'=some m'):MI D hc h m'∧Sub m.ρ m'.ρ∧RS m'.ρ v v':=by
 cases v with
 |one c=>
  cases v' with
  |one c'=>obtain⟨h1,h2,h3⟩:=zwt I e;exact⟨h1,h2,c',rfl,h3⟩
  |agg cs'=>cases e
 |agg cs=>
  cases v' with
  |one c'=>cases e
  |agg cs'=>obtain⟨h1,h2,h3⟩:=zol _ _ _ _ I e;exact⟨h1,h2,cs',rfl,h3⟩
def RAs(ρ:Tr BN):List Zb→List Zb→Prop
 | [],[]=>True
 | .s v::vs,.s v'::vs'=>RS ρ v v'∧RAs ρ vs vs'
 |_,_=>False
theorem RAs.mono{ρ ρ':Tr BN}(hs:Sub ρ ρ'):∀{vs vs':List Zb},RAs ρ vs vs'→RAs ρ' vs vs'
 | [],[],_=>trivial
 | .s _::_,.s _::_,h=>⟨h.1.mono hs,RAs.mono hs h.2⟩
 | [],_::_,h=>h.elim
 | .tup _::_,_,h=>by cases h
 | .s _::_,[],h=>by cases h
 | .s _::_,.tup _::_,h=>by cases h
theorem zwv:∀(vs vs':List Zb) (m m':Mt),MI D hc h m→mA vs vs' m=some m'→MI D hc h m'∧Sub m.ρ m'.ρ∧RAs m'.ρ vs vs'
 | [],[],m,m',I,e=>by cases e;exact⟨I,Sub.refl _,trivial⟩
 | .s v::vs,.s v'::vs',m,m',I,e=>by
  unfold mA at e;split at e
  ·rename_i m1 h1;obtain⟨I1,s1,r1⟩:=zzW I h1;obtain⟨I2,s2,r2⟩:=zwv vs vs' m1 m' I1 e;exact⟨I2,s1.trans s2,r1.mono s2,r2⟩
  ·cases e
 | [],_::_,m,m',I,e=>by cases e
 | .tup _::_,_,m,m',I,e=>by trivial
 | .s _::_,[],m,m',I,e=>by cases e
 | .s _::_,.tup _::_,m,m',I,e=>by cases e
theorem zkb:∀(f:Nat) (m:Mt) (ρ:Tr BN),MI (fun _ _=>False) hc h m→zq8 hc h f m=some ρ→∃inv,MI (fun _ _=>False) hc h ⟨ρ,inv,[]⟩∧Sub m.ρ ρ
 |0,m,ρ,I,e=>by cases e
 |f+1,⟨ρ0,inv,work⟩,ρ,I,e=>by
  unfold zq8 at e;cases work with
  |nil=>grind[Sub.refl]
  |cons p ws=>
   obtain⟨b,b'⟩:=p;simp only at e;split at e
   ·rename_i cs st cs' st' h1 h2;cases hq:Nat.beq st st' with
    |false=>grind
    |true=>
     rw[hq]at e;simp only[Yza]at e;have hst:=beq_true hq;subst hst;cases hm:mCs cs cs' ⟨ρ0,inv,ws⟩ with
     |none=>grind
     |some m1=>
      rw[hm]at e;have I0:MI (fun x y=>x=b∧y=b') hc h ⟨ρ0,inv,ws⟩:=by refine⟨I.inv,fun x y hx=>?_⟩;rcases I.pairs x y hx with k|k|k<;>grind
      obtain⟨I1,s1,r1⟩:=zol cs cs' _ m1 I0 hm;have I2:MI (fun _ _=>False) hc h m1:=by refine⟨I1.inv,fun x y hx=>?_⟩;rcases I1.pairs x y hx with k|⟨rfl,rfl⟩|k<;>grind
      obtain⟨inv',k1,k2⟩:=zkb f m1 ρ I2 e;exact⟨inv',k1,s1.trans k2⟩
   ·cases e
theorem wH{s:Sum}{args:List Zb}(e:s.fits args h=true):∃ρ:Tr BN,RAs ρ s.args args∧(∀b c b',ρ.get b=some b'→ρ.get c=some b'→b=c)∧
  (∀b b',ρ.get b=some b'→∃cs cs' st,s.heap.t.get b=some (.cells cs st)∧h.t.get b'=some (.cells cs' st)∧RCs ρ cs cs')∧zyc ρ .z s.objs=true:=by
 unfold Sum.fits at e;split at e
 ·rename_i m hm;split at e
  ·rename_i ρ hρ;have I0:MI (fun _ _=>False) s.heap h ⟨.nil,.nil,[]⟩:=⟨(fun b b' hb=>by simp_all),(fun b b' hb=>by simp_all)⟩;obtain⟨I1,s1,r1⟩:=zwv _ _ _ _ I0 hm;obtain⟨inv,I2,s2⟩:=zkb _ _ _ I1 hρ;refine⟨ρ,r1.mono s2,fun b c b' hb hc=>?_,fun b b' hb=>?_,e⟩
   ·have h1:=I2.inv b b' hb;have h2:=I2.inv c b' hc
    grind
   ·rcases I2.pairs b b' hb with k|k|k<;>grind
  ·cases e
 ·cases e
end
section
variable {P:Program} {w0:World} {S:Nat→Prop} {φ:Phi} {h:Za} {w:World}
noncomputable def via(ρ:Tr BN)(φ:Phi):Phi:=fun b=>match ρ.get b with|some b'=>φ b'|none=>⟨0,0,0,true,none⟩
theorem vU{ρ:Tr BN}{b b':BN}(hb:ρ.get b=some b'):via ρ φ b=φ b':=by grind[via]
theorem zgm{ρ:Tr BN}{c c':Zc}(hr:RC ρ c c'):zi φ c'=zi (via ρ φ) c:=by
 cases c with
 |ptr b o=>obtain⟨b',rfl,hb⟩:=hr;grind[zi,adr,vU]
 |slc b o l k e=>obtain⟨b',rfl,hb⟩:=hr;grind[zi,adr,vU]
 |_=>obtain⟨hp,rfl⟩:=hr;first|rfl|cases hp
theorem zrN{ρ:Tr BN}{n m:Nat}(hlt:∀b b',ρ.get b=some b'→b.toNat<m){c c':Zc}(hr:RC ρ c c')(hw:wfC φ n c'):wfC (via ρ φ) m c:=by
 cases c with
 |ptr b o=>obtain⟨b',rfl,hb⟩:=hr;exact⟨hlt _ _ hb,by rw[vU hb];exact hw.2⟩
 |slc b o l k e=>obtain⟨b',rfl,hb⟩:=hr;exact⟨⟨hlt _ _ hb,by rw[vU hb];exact hw.1.2⟩,by rw[vU hb];exact hw.2.1,hw.2.2⟩
 |_=>obtain⟨hp,rfl⟩:=hr;first|trivial|cases hp
theorem zrM{ρ:Tr BN}{cs cs':List Zc}(hr:RCs ρ cs cs'):cs'.map (zi φ)=cs.map (zi (via ρ φ)):=by
 apply Yyj;intro i;rw[Lz6,Lz6];cases hc:cs[i]? with
 |none=>
  have:cs'[i]? = none:=by
   have:=hr.1
   grind
  grind
 |some c=>
  obtain⟨c',h1,h2⟩:=hr.2 i c hc
  grind[zgm]
theorem zuY{ρ:Tr BN}{v v':SVal}(hr:RS ρ v v'):zL φ v'=zL (via ρ φ) v:=by
 cases v with
 |one c=>obtain⟨c',rfl,h2⟩:=hr;exact zgm h2
 |agg cs=>obtain⟨cs',rfl,h2⟩:=hr;grind[zL,zrM]
theorem zAJ{ρ:Tr BN}{n m:Nat}(hlt:∀b b',ρ.get b=some b'→b.toNat<m){v v':SVal}(hr:RS ρ v v')(hw:wfS φ n v'):wfS (via ρ φ) m v:=by
 cases v with
 |one c=>obtain⟨c',rfl,h2⟩:=hr;exact zrN hlt h2 hw
 |agg cs=>obtain⟨cs',rfl,h2⟩:=hr;intro c hc;obtain⟨i,hi⟩:=List.mem_iff_getElem?.1 hc;obtain⟨c',h3,h4⟩:=h2.2 i c hi;exact zrN hlt h4 (hw c' (Lz3 h3))
theorem zsC{ρ:Tr BN}{n m:Nat}(hlt:∀b b',ρ.get b=some b'→b.toNat<m):∀{vs vs':List Zb},RAs ρ vs vs'→(∀x∈vs',wfA φ n x)→vs'.map (zp φ)=vs.map (zp (via ρ φ))∧∀x∈vs,wfA (via ρ φ) m x
 | [],[],_,_=>⟨rfl,fun x hx=>by cases hx⟩
 | .s v::vs,.s v'::vs',hr,hw=>by
  obtain⟨h1,h2⟩:=zsC (n:=n) hlt hr.2 fun x hx=>hw x (by simp[hx]);refine⟨?_,fun x hx=>?_⟩
  ·simp only[Yzv,h1,zp,zuY hr.1]
  ·cases hx with
   |head=>exact zAJ hlt hr.1 (hw (.s v') (by simp))
   |tail _ hm=>exact h2 x hm
 | [],_::_,hr,_=>hr.elim
 | .tup _::_,_,hr,_=>by cases hr
 | .s _::_,[],hr,_=>by cases hr
 | .s _::_,.tup _::_,hr,_=>by cases hr
theorem zhx{ρ:Tr BN}:∀(l:List Zf) (i j:Nat) (o:Zf),zyc ρ (bn i) l=true→l[j]? = some o→∃b',ρ.get (bn (i+j))=some b'
 | [],i,j,o,e,hj=>by simp at hj
 |x::l,i,j,o,e,hj=>by
  unfold zyc at e;split at e
  ·rename_i b' hb;cases j with
   |zero=>grind
   |succ j=>
    rw[zgg]at e;obtain⟨b'',hb''⟩:=zhx l (i+1) j o e (by trivial)
    grind
  ·cases e
theorem zfM(s:Sum)(b:BN):s.heap.t.get b=s.objs[b.toNat]?:=by have e0:BN.z=bn 0:=rfl;show (Tr.ofList .z s.objs .nil).get b=_;have:=uM s.objs 0 (.nil:Tr Zf) b.toNat;simp_all[wT]
theorem zd4{h2:Za}:∀(l:List Zf) (i j:Nat) (o:Zf),zql h2 (bn i) l=true→l[j]? = some o→∃cs st,o=.cells cs st∧h2.t.get (bn (i+j))=some (.cells cs st)
 | [],i,j,o,e,hj=>by simp at hj
 |x::l,i,j,o,e,hj=>by
  cases x with
  |cells cs st=>
   unfold zql at e;split at e
   ·rename_i cs' st' hb;obtain⟨e1,e2⟩:=uJ e;obtain⟨e1,e3⟩:=uJ e1;cases j with
    |zero=>grind[ziK,beq_true]
    |succ j=>
     rw[zgg]at e2;obtain⟨cs2,st2,k1,k2⟩:=zd4 l (i+1) j o e2 (by trivial)
     grind
   ·cases e
  |_=>cases e
theorem zcN{φ ψ:Phi}{c:Zc}(hp:wO c=true):zi φ c=zi ψ c:=by cases c<;>first|rfl|cases hp
theorem zgJ{n:Nat}{c:Zc}(hp:wO c=true):wfC φ n c:=by cases c<;>first|trivial|cases hp
theorem zcM{φ ψ:Phi}{v:SVal}(hp:zjO v=true):zL φ v=zL ψ v:=by
 cases v with
 |one c=>exact zcN hp
 |agg cs=>
  simp only[zL]
  congr 2
  exact YzO fun c hc=>zcN (YzL.1 hp c hc)
theorem zgI{n:Nat}{v:SVal}(hp:zjO v=true):wfS φ n v:=by
 cases v with
 |one c=>exact zgJ hp
 |agg cs=>exact fun c hc=>zgJ (YzL.1 hp c hc)
theorem zid{φ ψ:Phi}{v:Zb}(hp:w8 v=true):zp φ v=zp ψ v:=by
 cases v with
 |s v=>exact zcM hp
 |tup vs=>
  simp only[zp]
  congr 2
  exact YzO fun c hc=>zcM (YzL.1 hp c hc)
theorem znv{n:Nat}{v:Zb}(hp:w8 v=true):wfA φ n v:=by
 cases v with
 |s v=>exact zgI hp
 |tup vs=>exact fun c hc=>zgI (YzL.1 hp c hc)
def za4(P:Program)(s:Sum):Prop:=∃call,yU P call∧s.chk call=true
theorem zvC{s:Sum}(hs:za4 P s){args:List Zb}(H:Zd w0 S φ h w)(hw:∀x∈args,wfA φ h.n.toNat x)(hf:s.fits args h=true):
  (∀as w,(callFunc s.g as).run P w=.ok (.enter s.g as) w)∧CallsIn (FR none) 0 P s.g (args.map (zp φ)).toArray w (Ret w0 S φ h s.res h):=by
 obtain⟨call,C,hchk⟩:=hs;obtain⟨ρ,hargs,hinj,hpair,hall⟩:=wH hf;unfold Sum.chk at hchk;split at hchk
 ·rename_i v h2 hcall;obtain⟨e1,e2⟩:=uJ hchk;obtain⟨e1,e3⟩:=uJ e1;have hv:=zky e1;subst hv;have hn:s.heap.n.toNat=s.objs.length:=ye _;have hlt:∀b b',ρ.get b=some b'→b.toNat<s.heap.n.toNat:=by
   grind[zfM]
  have hin:∀b o,s.heap.t.get b=some o→∃b' cs cs' st,ρ.get b=some b'∧o=.cells cs st∧h.t.get b'=some (.cells cs' st)∧RCs ρ cs cs':=by
   intro b o hb;have hb':=hb;rw[zfM]at hb';obtain⟨b',hρ⟩:=zhx s.objs 0 b.toNat o hall hb';rw[Yzi,wT]at hρ
   grind
  obtain⟨hconc,hwf⟩:=zsC (φ:=φ) (n:=h.n.toNat) (m:=s.heap.n.toNat) hlt hargs hw;have HC:Zd w (fun k=>∃b b',ρ.get b=some b'∧k=(φ b').blk) (via ρ φ) s.heap w:=by
   refine⟨fun b o hb=>?_,fun b o hb=>?_,fun b o hb=>?_,fun b c o o' hb hc _ _ hh=>?_,fun b o hb _=>?_,rfl,rfl,rfl,LzB _,LzB _,fun _ _ _=>rfl,H.glob,fun b o hb _=>?_,fun b o hb _=>?_⟩
   ·grind
   ·obtain⟨b',cs,cs',st,hρ,rfl,hb',hr⟩:=hin b o hb;rw[vU hρ];exact H.okb b' _ hb'
   ·obtain⟨b',cs,cs',st,hρ,rfl,hb',hr⟩:=hin b o hb;obtain⟨arr,e,g1,g2,g3,g4⟩:=H.obj b' _ hb';refine⟨arr,e,by grind[vU],fun i c hc=>?_,by grind[vU],fun c hc=>?_⟩
    ·obtain⟨c',k1,k2⟩:=hr.2 i c hc
     grind[vU,zgm]
    ·obtain⟨i,hi⟩:=List.mem_iff_getElem?.1 hc;obtain⟨c',k1,k2⟩:=hr.2 i c hi;exact zrN hlt k2 (g4 c' (Lz3 k1))
   ·obtain⟨b',cs,cs',st,hρ,rfl,hb',_⟩:=hin b o hb;obtain⟨c',ds,ds',st2,hρc,rfl,hc',_⟩:=hin c o' hc;rw[vU hρ,vU hρc]at hh;have:=H.inj b' c' _ _ hb' hc' trivial trivial hh
    grind
   ·obtain⟨b',cs,cs',st,hρ,rfl,hb',_⟩:=hin b o hb
    grind[vU]
   ·obtain⟨b',cs,cs',st,hρ,rfl,hb',_⟩:=hin b o hb;rw[vU hρ];exact H.flat b' _ hb' trivial
   ·obtain⟨b',cs,cs',st,hρ,rfl,hb',_⟩:=hin b o hb;rw[vU hρ];exact H.ng b' _ hb' trivial
  obtain⟨hcf,hcl⟩:=(C w _ _ _ w _ _ h2 HC hwf).1 s.g hcall;refine⟨hcf,?_⟩;rw[hconc];refine hcl.mono ?_
  rintro e9 w9 ⟨φ2,rfl,he,H2,_,hle⟩
  refine⟨φ,by grind[zid],Ext.refl _ _,?_,znv e3,LzB _⟩;have hkeep:∀k,k<w.heap.size→(¬∃b b',ρ.get b=some b'∧k=(φ b').blk)→w9.heap[k]? = w.heap[k]?:=fun k hk hS=>H2.kept k hk hS;refine⟨H.keys,H.okb,fun b o hb=>?_,H.inj,H.own,H2.os.trans H.os,H2.tape.trans H.tape,H2.output.trans H.output,Yzn H.size H2.size,Yzn H.drawn H2.drawn,fun k hk hS=>?_,H2.glob,H.flat,H.ng⟩
  ·by_cases hl:live o
   ·by_cases hm:∃c c',ρ.get c=some c'∧(φ b).blk=(φ c').blk
    ·obtain⟨c,c',hρ,hblk⟩:=hm;obtain⟨cs,cs',st,k1,k2,k3⟩:=hpair c c' hρ;have:=H.inj b c' _ _ hb k2 hl trivial hblk;subst this;cases hb.symm.trans k2;have k1':=k1;rw[zfM]at k1';obtain⟨cs2,st2,q1,q2⟩:=zd4 s.objs 0 c.toNat _ e2 k1';rw[Yzi,wT]at q2;cases q1;obtain⟨arr,e,g1,g2,g3,g4⟩:=H2.obj c _ q2;have ec:φ2 c=φ b:=(he c (hlt _ _ hρ)).trans (vU hρ);obtain⟨_,_,_,_,_,o4⟩:=H.obj b _ hb;refine⟨arr,e,by grind,fun i x hx=>?_,by grind,o4⟩;have hi:i<cs.length:=by
      have:=(Lz0.1 hx).1;have:=k3.1;omega
     obtain⟨x',j1,j2⟩:=k3.2 i cs[i] (Lz5 hi);rw[hx]at j1;cases j1;have:=g2 i cs[i] (Lz5 hi);rw[ec]at this;rw[this,zgm j2];have hwc:wfC (via ρ φ) s.heap.n.toNat cs[i]:=zrN hlt j2 (o4 x (Lz3 hx))
     grind[uX]
    ·exact(H.obj b o hb).world fun _=>hkeep _ ((H.obj b o hb).there hl) (fun⟨c,c',h1,h2⟩=>hm ⟨c,c',h1,h2⟩)
   ·exact(H.obj b o hb).world fun hh=>absurd hh hl
  ·by_cases hm:∃c c',ρ.get c=some c'∧k=(φ c').blk
   ·obtain⟨c,c',hρ,rfl⟩:=hm;obtain⟨cs,cs',st,_,k2,_⟩:=hpair c c' hρ;rcases H.own c' _ k2 trivial with h1|h1<;>grind
   ·rw[hkeep k (Lz9 hk H.size) hm];exact H.kept k hk hS
 trivial
theorem zez{g:Nat}{args:List Zb}{v:Zb}:∀(l:List Sum),wt g args h l=some v→∃s∈l,s.g=g∧s.fits args h=true∧s.res=v
 | [],e=>by cases e
 |s::l,e=>by
  unfold wt at e;cases hq:(Nat.beq g s.g&&s.fits args h) with
  |true=>simp_all
  |false=>
   rw[hq]at e;obtain⟨s',k1,k2⟩:=zez l e
   grind
theorem zjk{sums:List Sum}(hs:∀s∈sums,za4 P s){call:zg}(C:yU P call):yU P (zcu sums call):=by
 intro w0 S φ h w args v h2 H hw;refine⟨fun g e=>?_,fun l e=>(C w0 S φ h w args v h2 H hw).2 l e⟩;unfold zcu at e;simp only at e;split at e
 ·rename_i v' hf;cases e;obtain⟨s,h1,rfl,h3,rfl⟩:=zez sums hf
  grind[zvC]
 ·exact(C w0 S φ h w args v h2 H hw).1 g e
theorem zgc{fs:Nat→Option Zk}(hfs:zu1 P fs){sums:List Sum}(hs:∀s∈sums,za4 P s):∀n,yU P (zfV (zQ P) fs sums n)
 |0=>zin
 |n+1=>zjk hs (zjb (zgc hfs hs n) hfs n)
theorem zpV{call:zg}(C:yU P call){f:Nat}{c:Zc}{h2:Za}(e:call (.inl f) [] ⟨.z,.nil⟩=some (.s (.one c),h2))(w:World)(hG:GOk w):
  (∀as w,(callFunc f as).run P w=.ok (.enter f as) w)∧CallsIn (FR none) 0 P f #[] w (fun e w2=>∃φ,e=.returned (zi φ c)∧Below w.heap.size w w2):=by
 have H:Zd w (fun _=>False) (fun _=>⟨0,0,0,true,none⟩) ⟨.z,.nil⟩ w:=by
  have hnil:∀b,(Tr.nil:Tr Zf).get b=none:=by simp
  refine⟨?_,?_,?_,?_,?_,rfl,rfl,rfl,LzB _,LzB _,fun _ _ _=>rfl,hG,?_,?_⟩
  ·simp
  ·simp
  ·simp
  ·simp
  ·simp
  ·simp
  ·simp
 have:=(C w _ _ _ w [] _ h2 H (fun x hx=>by cases hx)).1 f e;refine⟨this.1,this.2.mono ?_⟩
 rintro e9 w9 ⟨φ2,rfl,he,H2,_,_⟩
 exact⟨φ2,rfl,⟨H2.os,H2.tape,H2.output,H2.size,fun k hk=>H2.kept k hk (fun hh=>hh)⟩⟩
end
end Go.CE
end
section
namespace Go.CE
open Go.RowKit
noncomputable section
def mR(m:Mt):Zb→Zb→Option Mt
 | .s v,.s v'=>mS m v v'
 | .tup vs,.tup vs'=>mA (vs.map .s) (vs'.map .s) m
 |_,_=>none
def sC(ρ:Tr BN):Zc→Option Zc
 | .ptr b o=>match ρ.get b with|some b'=>some (.ptr b' o)|none=>none
 | .slc b o l k e=>match ρ.get b with|some b'=>some (.slc b' o l k e)|none=>none
 |c=>bif wO c then some c else none
def sCs(ρ:Tr BN):List Zc→Option (List Zc)
 | []=>some []
 |c::cs=>
  match sC ρ c with
  |some c'=>match sCs ρ cs with|some cs'=>some (c'::cs')|none=>none
  |none=>none
def sS(ρ:Tr BN):SVal→Option SVal
 | .one c=>match sC ρ c with|some c'=>some (.one c')|none=>none
 | .agg cs=>match sCs ρ cs with|some cs'=>some (.agg cs')|none=>none
def sSs(ρ:Tr BN):List SVal→Option (List SVal)
 | []=>some []
 |v::vs=>
  match sS ρ v with
  |some v'=>match sSs ρ vs with|some vs'=>some (v'::vs')|none=>none
  |none=>none
def sA(ρ:Tr BN):Zb→Option Zb
 | .s v=>match sS ρ v with|some v'=>some (.s v')|none=>none
 | .tup vs=>match sSs ρ vs with|some vs'=>some (.tup vs')|none=>none
end
def RR(ρ:Tr BN):Zb→Zb→Prop
 | .s v,.s v'=>RS ρ v v'
 | .tup vs,.tup vs'=>RAs ρ (vs.map .s) (vs'.map .s)
 |_,_=>False
end Go.CE
end
section
namespace Go.CE
open Go.RowKit
noncomputable section
structure Srt where
 f:List Nat
 st:Nat
def ltZ:List Int→List Int→Bool
 |a::as,b::bs=>if a<b then true else if b<a then false else ltZ as bs
 |_,_=>false
def leZ(a b:List Int):Bool:=!ltZ b a
def inZ(r:List Int):Bool:=r.all fun a=>decide (-2305843009213693952≤a)&&decide (a≤2305843009213693952)
def zhB(k:Nat)(r:List Int):Prop:=r.length=k∧inZ r=true
def za9(l:List (List Int)):List (List Int):=l.mergeSort leZ
def zpU(a b:List Int):Int:=if ltZ a b=true then -1 else if ltZ b a=true then 1 else 0
def y3(l:List (List Int)):List Zc:=l.flatten.map (Zc.int .i64)
open Classical in
def zbH(t:Srt):List Zb→Za→Res
 | [.s (.one .nils),.s (.one (.fn f []))],h=>if f∈t.f then some (.tup [],h) else none
 | [.s (.one (.slc b off len _ _)),.s (.one (.fn f []))],h=>
  if H:f∈t.f∧off=0∧∃l:List (List Int),l.length=len∧(∀r∈l,zhB t.st r)∧h.t.get b=some (.cells (y3 l) t.st)∧len<4611686018427387904 then
   some (.tup [],h.put b (.cells (y3 (za9 (Classical.choose H.2.2))) t.st))
  else none
 |_,_=>none
def zct(srt:Nat→Option Srt)(call:zg):zg
 | .inl g,args,h=>
  match srt g with
  |some t=>zbH t args h
  |none=>call (.inl g) args h
 | .inr l,args,h=>call (.inr l) args h
def zN(cc:Nat→Code→xH)(fs:Nat→Option Zk)(sums:List Sum)(srt:Nat→Option Srt)(n:Nat):zg:=
 Nat.rec (motive:=fun _=>zg) (fun _ _ _=>none) (fun f ih=>zct srt (zcu sums (zbU cc fs ih f))) n
end
theorem zjF{st:Nat}:∀{l l':List (List Int)},l.length=l'.length→(∀r∈l,r.length=st)→(∀r∈l',r.length=st)→l.flatten=l'.flatten→l=l'
 | [],[],_,_,_,_=>rfl
 |r::l,r'::l',hl,h,h',e=>by rw[List.flatten_cons,List.flatten_cons]at e;have hr:r.length=r'.length:=(h r (Yzg ..)).trans (h' r' (Yzg ..)).symm;obtain⟨e1,e2⟩:=List.append_inj e hr;rw[e1,zjF (by grind) (fun x hx=>h x (Yze _ hx)) (fun x hx=>h' x (Yze _ hx)) e2]
 | [],_::_,hl,_,_,_=>by simp at hl
 |_::_,[],hl,_,_,_=>by simp at hl
theorem int_inj:∀{l l':List Int},l.map (Zc.int .i64)=l'.map (Zc.int .i64)→l=l'
 | [],[],_=>rfl
 |a::l,b::l',e=>by simp only[Yzv,List.cons.injEq,Zc.int.injEq,true_and]at e;rw[e.1,int_inj e.2]
 | [],_::_,e=>by simp at e
 |_::_,[],e=>by simp at e
theorem zd0{t:Srt}{f:Nat}(hf:f∈t.f)(h:Za):zbH t [.s (.one .nils),.s (.one (.fn f []))] h=some (.tup [],h):=Yzd hf
theorem zle{t:Srt}{f:Nat}(hf:f∈t.f){b:BN}{len cap:Nat}{ex:Bool}{h:Za}{l:List (List Int)}(h1:l.length=len)(h2:∀r∈l,zhB t.st r)(h3:h.t.get b=some (.cells (y3 l) t.st))(h4:len<4611686018427387904):
  zbH t [.s (.one (.slc b 0 len cap ex)),.s (.one (.fn f []))] h=some (.tup [],h.put b (.cells (y3 (za9 l)) t.st)):=by
 have H:f∈t.f∧0=0∧∃l:List (List Int),l.length=len∧(∀r∈l,zhB t.st r)∧h.t.get b=some (.cells (y3 l) t.st)∧len<4611686018427387904:=⟨hf,rfl,l,h1,h2,h3,h4⟩;unfold zbH;simp only;rw[dif_pos H];obtain⟨k1,k2,k3,_⟩:=Classical.choose_spec H.2.2;have e:Classical.choose H.2.2=l:=zjF (k1.trans h1.symm) (fun r hr=>(k2 r hr).1) (fun r hr=>(h2 r hr).1) (int_inj (Zf.cells.inj (Option.some.inj (h3.symm.trans k3))).1.symm);rw[e]
theorem zlf{t:Srt}{args:List Zb}{h h2:Za}{v:Zb}(e:zbH t args h=some (v,h2)):v=.tup []∧∃f∈t.f,((args=[.s (.one .nils),.s (.one (.fn f []))]∧h2=h)∨
  ∃b len cap ex l,args=[.s (.one (.slc b 0 len cap ex)),.s (.one (.fn f []))]∧l.length=len∧(∀r∈l,zhB t.st r)∧h.t.get b=some (.cells (y3 l) t.st)∧len<4611686018427387904∧h2=h.put b (.cells (y3 (za9 l)) t.st)):=by
 unfold zbH at e;split at e
 ·grind
 ·rename_i b off len cap ex f;split at e<;>grind
 ·cases e
def zhA(P:Program)(g:Nat)(t:Srt):Prop:=
 ∀(w0:World) (S:Nat→Prop) (φ:Phi) (h:Za) (w:World) (args:List Zb) (v:Zb) (h2:Za),Zd w0 S φ h w→(∀x∈args,wfA φ h.n.toNat x)→zbH t args h=some (v,h2)→
  (∀as w,(callFunc g as).run P w=.ok (.enter g as) w)∧CallsIn (FR none) 0 P g (args.map (zp φ)).toArray w (Ret w0 S φ h v h2)
theorem zpZ{P:Program}{srt:Nat→Option Srt}(hs:∀g t,srt g=some t→zhA P g t){call:zg}(C:yU P call):yU P (zct srt call):=by
 intro w0 S φ h w args v h2 H hw;refine⟨fun g e=>?_,fun l e=>(C w0 S φ h w args v h2 H hw).2 l e⟩;unfold zct at e;simp only at e;split at e
 ·rename_i t ht;exact hs g t ht w0 S φ h w args v h2 H hw e
 ·exact(C w0 S φ h w args v h2 H hw).1 g e
theorem zgb{P:Program}{fs:Nat→Option Zk}(hfs:zu1 P fs){sums:List Sum}(hs:∀s∈sums,za4 P s){srt:Nat→Option Srt}(ht:∀g t,srt g=some t→zhA P g t):∀n,yU P (zN (zQ P) fs sums srt n)
 |0=>zin
 |n+1=>zpZ ht (zjk hs (zjb (zgb hfs hs ht n) hfs n))
def zwq:Nat→Option Srt:=fun _=>none
theorem zqR{P:Program}:∀g t,zwq g=some t→zhA P g t:=fun g t e=>by cases e
end Go.CE
end
section
namespace Go.CE
noncomputable section
abbrev Fr:=Nat→Zb
def xS(t:Tr Zb):Fr:=fun i=>zbF (bn i) t
def coK(r:Fr):Operand→Option Opd
 | .tmp t=>some (zq (r t))
 | .const v=>match zpi v with|some s=>some (zq (.s s))|none=>none
 | .func f=>some (zq (.s (.one (.fn f []))))
 | .global g=>match zbo g with|some _=>some (zq (.s (.one (.gptr g 0))))|none=>none
def qO(co:Operand→Option Opd):List Operand→Option (List Opd)
 | []=>some []
 |x::xs=>
  match co x,qO co xs with
  |some y,some ys=>some (y::ys)
  |_,_=>none
def zbz(co:Operand→Option Opd):Option Operand→Option (Option Opd)
 |none=>some none
 |some x=>match co x with|some y=>some (some y)|none=>none
section
variable (P:Program)
def wu(co:Operand→Option Opd)(fs:Array Field):List (Nat×Operand)→Option (List (Nat×Nat×Opd))
 | []=>some []
 |(i,x)::r=>
  match fs[i]?,co x,wu co fs r with
  |some f,some y,some rest=>
   match P.info? f.type with
   |some info=>some ((f.offset,info.size,y)::rest)
   |none=>none
  |_,_,_=>none
def ww(co:Operand→Option Opd)(size:Nat):List (Nat×Operand)→Option (List (Nat×Nat×Opd))
 | []=>some []
 |(i,x)::r=>
  match co x,ww co size r with
  |some y,some rest=>some ((i*size,size,y)::rest)
  |_,_=>none
def xj(co:Operand→Option Opd)(o:Op):zdV:=zJ <| match o with
 | .move x | .assign x=>(co x).map zjV
 | .pick c a b=>do pure (j6 (←co c) (←co a) (←co b))
 | .alloc t=>bif zaI P t then do pure (zcg t (←yk P t).cells) else do pure (zc1 (←yk P t).cells)
 | .box _ x=>do pure (zfk (←co x))
 | .build t parts=>
  match P.underlying t,yk P t with
  |some (.struct fs),some z=>bif zah P fs.toList then do pure (ui z.cells (←wu P co fs parts.toList)) else none
  |some (.array _ e),some z=>
   match P.info? e with
   |some i=>do pure (ui z.cells (←ww co i.size parts.toList))
   |none=>none
  |_,_=>none
 | .buildSlice t len parts=>
  match P.underlying t with
  |some (.slice e)=>
   match P.info? e with
   |some i=>
    bif Nat.ble (len*i.size) 16777216 then
     match (bif Nat.beq (len*i.size) 0 then some [] else(yk P e).map SVal.cells) with
     |some zs=>bif Nat.beq (len*i.size) 0||Nat.beq zs.length i.size then do pure (vI i.size len (uD zs len) (←ww co i.size parts.toList)) else none
     |none=>none
    else none
   |none=>none
  |_=>none
 | .load t x=>do pure (j9 (←wo P t) (←co x))
 | .store t x v=>do pure (zbf (←P.info? t).size (←co x) (←co v))
 | .nilCheck x=>do pure (ud (←co x))
 | .binOp op t x y _=>
  match P.underlying t with
  |some (.int _)=>
   match op with
   | .shl=>do pure (wQ zfS (←co x) (←co y))
   | .shr=>do pure (wQ ziJ (←co x) (←co y))
   |op=>do pure (zb1 (uP op) (←co x) (←co y))
  |some .string=>do pure (zcV op (←co x) (←co y))
  |some (.slice _)=>
   match op with
   | .eql=>do pure (uL false (←co x) (←co y))
   | .neq=>do pure (uL true (←co x) (←co y))
   |_=>none
  |some (.pointer e)=>
   bif wq P e then
   match op with
   | .eql=>do pure (uc false (←co x) (←co y))
   | .neq=>do pure (uc true (←co x) (←co y))
   |_=>none
   else none
  |some (.func _ _ _)=>
   match op with
   | .eql=>do pure (j7 false (←co x) (←co y))
   | .neq=>do pure (j7 true (←co x) (←co y))
   |_=>none
  |some _=>
   bif P.eqGuardType P.depth t then none else
   match op with
   | .eql=>do pure (zjW (←u3 P t) false (←co x) (←co y))
   | .neq=>do pure (zjW (←u3 P t) true (←co x) (←co y))
   |_=>none
  |none=>none
 | .unOp .not _ x=>do pure (zcW (←co x))
 | .unOp .neg _ x=>do pure (zcX (←co x))
 | .convert s d x=>
  match P.underlying s,P.underlying d with
  |some (.int _),some (.int k)=>do pure (kF k (←co x))
  |some .string,some (.slice e)=>bif yO P e then do pure (zlA (←co x)) else none
  |some (.slice e),some .string=>bif yO P e then do pure (zaA (←co x)) else none
  |some (.pointer e),some .unsafePointer=>bif wq P e then do pure (zfj (←co x)) else none
  |some .unsafePointer,some (.pointer u)=>bif zlQ P u then do pure (zfi u (P.cellsOf u) (←co x)) else none
  |_,_=>none
 | .makeFunc (.func f) first captured=>bif first.isEmpty then do pure (j8 f (←qO co captured.toList)) else none
 | .makeMap _ none=>some zcZ
 | .makeSlice t l c=>
  match P.underlying t with
  |some (.slice e)=>
   match P.info? e,yk P e with
   |some i,some z=>bif Nat.beq z.cells.length i.size && !Nat.beq i.size 0 then do pure (we i.size z.cells i.bytes (←co l) (←co c)) else none
   |_,_=>none
  |_=>none
 | .slice t x lo hi mx=>
  match P.underlying t with
  |some (.slice e)=>
   match P.info? e with
   |some i=>bif mx.isSome && !hi.isSome then none else do pure (ub i.size (←co x) (←zbz co lo) (←zbz co hi) (←zbz co mx))
   |none=>none
  |some (.array n e)=>
   match P.info? e with
   |some i=>bif mx.isSome && !hi.isSome then none else do pure (vH n i.size (←co x) (←zbz co lo) (←zbz co hi) (←zbz co mx))
   |none=>none
  |some .string=>bif mx.isSome then none else do pure (xW (←co x) (←zbz co lo) (←zbz co hi))
  |_=>none
 | .fieldAddr t x f=>
  match P.underlying t with
  |some (.struct fs)=>
   match fs[f]? with
   |some fd=>
    match P.info? fd.type with
    |some i=>bif Nat.beq i.size 0 then none else do pure (kE (←co x) fd.offset)
    |none=>none
   |none=>none
  |_=>none
 | .field t x f=>
  match P.underlying t with
  |some (.struct fs)=>
   match fs[f]? with
   |some fd=>do pure (uh (←co x) fd.offset (←wo P fd.type))
   |none=>none
  |_=>none
 | .indexAddr t x i=>
  match P.underlying t with
  |some (.slice e)=>
   match P.info? e with
   |some info=>do pure (zc0 info.size (←co x) (←co i))
   |none=>none
  |some (.array len e)=>
   match P.info? e with
   |some info=>do pure (uf len info.size (←co x) (←co i))
   |none=>none
  |_=>none
 | .index t x i=>
  match P.underlying t with
  |some (.array len e)=>
   match P.info? e with
   |some info=>do pure (ug len info.size (←wo P e) (←co x) (←co i))
   |none=>none
  |some .string=>do pure (ue (←co x) (←co i))
  |_=>none
 | .lookup t m k ok=>
  match P.underlying t with
  |some (.map key e)=>do pure (wX (←u3 P key) (←yk P e) ok (←co m) (←co k))
  |_=>none
 | .mapUpdate t m k v | .insert t m k v=>
  match P.underlying t with
  |some (.map key _)=>do pure (zcY (←u3 P key) (←co m) (←co k) (←co v))
  |_=>none
 | .mapEntry t m k=>
  match P.underlying t with
  |some (.map key e)=>do pure (zay (←u3 P key) (←yk P e) (←co m) (←co k))
  |_=>none
 | .entryStore _ m s v=>do pure (zaz (←co m) (←co s) (←co v))
 | .extract x i=>do pure (xL (←co x) i)
 | .call c=>
  match c.callee with
  | .value f=>bif Nat.beq (q8 P f) 0 then do pure (zeh (←co f) (←qO co c.args.toList)) else zxm co (q8 P f) c.args.toList
  | .builtin .unsafeSliceData=>
   match c.args.toList with
   | [x]=>do pure (ua (←co x))
   |_=>none
  | .builtin .unsafeString=>
   match c.argTypes.toList,c.args.toList with
   | [pt,_],[x,n]=>
    match P.underlying pt with
    |some (.pointer e)=>bif yO P e&&Nat.beq (P.cellsOf e) 1 then do pure (zgR e (←co x) (←co n)) else none
    |_=>none
   |_,_=>none
  | .builtin .cap=>
   match c.argTypes[0]?,c.args[0]? with
   |some t,some x=>
    match P.underlying t with
    |some (.slice _)=>do pure (znH (←co x))
    |_=>none
   |_,_=>none
  | .builtin .copy=>
   match c.argTypes.toList,c.args.toList with
   | [t,t2],[d,s]=>
    match P.underlying t,P.underlying t2 with
    |some (.slice e),some (.slice _)=>
     match P.info? e with
     |some i=>bif Nat.beq i.size 0 then none else do pure (zgS i.size (←co d) (←co s))
     |none=>none
    |_,_=>none
   |_,_=>none
  | .builtin .len=>
   match c.argTypes[0]?,c.args[0]? with
   |some t,some x=>
    match P.underlying t with
    |some .string=>do pure (ki (←co x))
    |some (.slice _)=>do pure (kC (←co x))
    |some (.map _ _)=>do pure (qH (←co x))
    |some (.array n _)=>some (zjV (zq (.s (.one (.int .i64 (.ofNat n))))))
    |_=>none
   |_,_=>none
  | .builtin .append=>
   match c.argTypes.toList,c.args.toList with
   | [t,t2],[s,x]=>
    match P.underlying t with
    |some (.slice e)=>
     match P.info? e,yk P e with
     |some i,some z=>
      bif Nat.beq z.cells.length i.size && !Nat.beq i.size 0 then
       match P.underlying t2 with
       |some (.slice _)=>bif yO P e&&Nat.beq i.size 1 then do pure (kH e i.bytes (←co s) (←co x)) else do pure (xX false i.size i.bytes (←co s) (←co x))
       |some .string=>bif Nat.beq i.size 1 then do pure (kG e i.bytes (←co s) (←co x)) else none
       |_=>none
      else none
     |_,_=>none
    |_=>none
   |_,_=>none
  | .builtin .clear=>
   match c.argTypes[0]?,c.args[0]? with
   |some t,some x=>
    match P.underlying t with
    |some (.slice e)=>
     match P.info? e,yk P e with
     |some i,some z=>bif Nat.beq z.cells.length i.size && !Nat.beq i.size 0 then do pure (zbg i.size z.cells (←co x)) else none
     |_,_=>none
    |_=>none
   |_,_=>none
  | .builtin .max=>
   match qO co c.args.toList with
   |some (x::xs)=>some (xh true x xs)
   |_=>none
  | .builtin .min=>
   match qO co c.args.toList with
   |some (x::xs)=>some (xh false x xs)
   |_=>none
  |_=>none
 |_=>none
end
end
section
variable {P:Program} {t:Tr Zb}
def OR(t:Tr Zb)(a b:Option Opd):Prop:=(a=none∧b=none)∨∃x y,a=some x∧b=some y∧x .nil=y t
theorem zM(x:Operand):OR t (coK (xS t) x) (zZ x):=by
 cases x with
 |tmp i=>exact .inr ⟨_,_,rfl,rfl,rfl⟩
 |const v=>
  simp only[coK,zZ];cases zpi v with
  |none=>exact .inl ⟨rfl,rfl⟩
  |some s=>exact .inr ⟨_,_,rfl,rfl,rfl⟩
 |func f=>exact .inr ⟨_,_,rfl,rfl,rfl⟩
 |global g=>
  simp only[coK,zZ];cases zbo g with
  |none=>exact .inl ⟨rfl,rfl⟩
  |some q=>exact .inr ⟨_,_,rfl,rfl,rfl⟩
def LR(t:Tr Zb):List Opd→List Opd→Prop
 | [],[]=>True
 |x::xs,y::ys=>x .nil=y t∧LR t xs ys
 |_,_=>False
theorem zdx:∀l:List Operand,(qO (coK (xS t)) l=none∧uH l=none)∨∃xs ys,qO (coK (xS t)) l=some xs∧uH l=some ys∧LR t xs ys
 | []=>.inr ⟨[],[],rfl,rfl,trivial⟩
 |x::l=>by
  simp only[qO,uH];rcases zM (t:=t) x with⟨h1,h2⟩|⟨a,b,h1,h2,h3⟩
  ·grind
  ·rw[h1,h2];rcases zdx l with⟨k1,k2⟩|⟨as,bs,k1,k2,k3⟩
   ·grind
   ·rw[k1,k2];exact .inr ⟨_,_,rfl,rfl,h3,k3⟩
def PR(t:Tr Zb):List (Nat×Nat×Opd)→List (Nat×Nat×Opd)→Prop
 | [],[]=>True
 |x::xs,y::ys=>x.1=y.1∧x.2.1=y.2.1∧x.2.2 .nil=y.2.2 t∧PR t xs ys
 |_,_=>False
theorem qK(fs:Array Field):∀l:List (Nat×Operand),(wu P (coK (xS t)) fs l=none∧x8 P fs l=none)∨∃xs ys,wu P (coK (xS t)) fs l=some xs∧x8 P fs l=some ys∧PR t xs ys
 | []=>.inr ⟨[],[],rfl,rfl,trivial⟩
 |(i,x)::l=>by
  simp only[wu,x8];cases fs[i]? with
  |none=>simp
  |some f=>
   rcases zM (t:=t) x with⟨h1,h2⟩|⟨a,b,h1,h2,h3⟩
   ·grind
   ·rw[h1,h2];rcases qK fs l with⟨k1,k2⟩|⟨as,bs,k1,k2,k3⟩
    ·grind
    ·rw[k1,k2];simp only;cases P.info? f.type with
     |none=>simp
     |some i=>exact .inr ⟨_,_,rfl,rfl,rfl,rfl,h3,k3⟩
theorem jL(n:Nat):∀l:List (Nat×Operand),(ww (coK (xS t)) n l=none∧xz n l=none)∨∃xs ys,ww (coK (xS t)) n l=some xs∧xz n l=some ys∧PR t xs ys
 | []=>.inr ⟨[],[],rfl,rfl,trivial⟩
 |(i,x)::l=>by
  simp only[ww,xz];rcases zM (t:=t) x with⟨h1,h2⟩|⟨a,b,h1,h2,h3⟩
  ·grind
  ·rw[h1,h2];rcases jL n l with⟨k1,k2⟩|⟨as,bs,k1,k2,k3⟩
   ·grind
   ·rw[k1,k2];exact .inr ⟨_,_,rfl,rfl,rfl,rfl,h3,k3⟩
theorem zaT:∀(xs ys:List (Nat×Nat×Opd)) (cs:List Zc),PR t xs ys→zaU .nil xs cs=zaU t ys cs
 | [],[],_,_=>rfl
 |(a,b,x)::xs,(a',b',y)::ys,cs,⟨h1,h2,h3,h4⟩=>by
  simp only at h1 h2 h3;subst h1 h2;simp only[zaU];rw[h3];cases y t with
  |tup _=>rfl
  |s v=>
   simp only;cases kL v.cells b with
   |false=>rfl
   |true=>
    simp only[Yza];cases putAt v.cells cs a with
    |none=>rfl
    |some cs'=>exact zaT xs ys cs' h4
theorem zoj:∀(xs ys:List Opd),LR t xs ys→xs.map (fun x=>x .nil)=ys.map (fun x=>x t)
 | [],[],_=>rfl
 |x::xs,y::ys,⟨h1,h2⟩=>by rw[Yzv,Yzv,h1,zoj xs ys h2]
theorem zjM:∀(xs ys:List Opd),LR t xs ys→znr .nil xs=znr t ys
 | [],[],_=>rfl
 |x::xs,y::ys,⟨h1,h2⟩=>by simp only[znr];rw[h1,zjM xs ys h2]
theorem zfo(m:Bool)(k:IntKind):∀(xs ys:List Opd) (z:Int),LR t xs ys→zpS m k .nil xs z=zpS m k t ys z
 | [],[],_,_=>rfl
 |x::xs,y::ys,z,⟨h1,h2⟩=>by
  simp only[zpS];rw[h1];split
  ·rename_i k' y' _;cases eqK k k' with
   |false=>rfl
   |true=>exact zfo m k xs ys _ h2
  ·rfl
def QR(t:Tr Zb)(a b:Option Opd):Prop:=(a=none∧b=none)∨∃x y,a=some x∧b=some y∧x .nil=y t
theorem QR.bnd{a b:Option Opd}(h:QR t a b)(d y:Nat):bnd .nil a d y=CE.bnd t b d y:=by
 rcases h with⟨rfl,rfl⟩|⟨x,z,rfl,rfl,h⟩
 ·rfl
 ·grind[CE.bnd]
theorem j5(x:Option Operand):(zbz (coK (xS t)) x=none∧zaj x=none)∨∃a b,zbz (coK (xS t)) x=some a∧zaj x=some b∧QR t a b:=by
 cases x with
 |none=>exact .inr ⟨none,none,rfl,rfl,.inl ⟨rfl,rfl⟩⟩
 |some x=>
  simp only[zbz,zaj];rcases zM (t:=t) x with⟨h1,h2⟩|⟨a,b,h1,h2,h3⟩
  ·grind
  ·rw[h1,h2];exact .inr ⟨_,_,rfl,rfl,.inr ⟨_,_,rfl,rfl,h3⟩⟩
theorem zh6{lo hi mx lo' hi' mx':Option Opd}(h1:QR t lo lo')(h2:QR t hi hi')(h3:QR t mx mx')(st:Nat)(h:Za)(b:BN)(off len cap:Nat):
  xc st lo hi mx .nil h b off len cap=xc st lo' hi' mx' t h b off len cap:=by
 have e1:=h1.bnd;have e2:=h2.bnd;have e3:=h3.bnd;rcases h3 with⟨rfl,rfl⟩|⟨x,z,rfl,rfl,h⟩
 ·grind[xc]
 ·rcases h2 with⟨rfl,rfl⟩|⟨x',z',rfl,rfl,h'⟩
  ·grind[xc]
  ·grind[xc]
variable (call:zg) (h:Za)
theorem zpl(o:Op):xj P (coK (xS t)) o call .nil h=cOp P o call t h:=by
 cases o with
 |move x=>rcases zM (t:=t) x with⟨h1,h2⟩|⟨a,b,h1,h2,h3⟩<;>simp only[xj,cOp,zJ,Option.map_none,YzI,zjV,xd, *]
 |assign x=>rcases zM (t:=t) x with⟨h1,h2⟩|⟨a,b,h1,h2,h3⟩<;>simp only[xj,cOp,zJ,Option.map_none,YzI,zjV,xd, *]
 |pick c a b=>rcases zM (t:=t) c with⟨h1c,h2c⟩|⟨oac,obc,h1c,h2c,h3c⟩<;>rcases zM (t:=t) a with⟨h1a,h2a⟩|⟨oaa,oba,h1a,h2a,h3a⟩<;>rcases zM (t:=t) b with⟨h1b,h2b⟩|⟨oab,obb,h1b,h2b,h3b⟩<;>simp[xj,cOp,zJ,xd,j6, *]
 |alloc ty=>simp only[xj,cOp];cases zaI P ty<;>cases yk P ty<;>rfl
 |box ty x=>rcases zM (t:=t) x with⟨h1,h2⟩|⟨a,b,h1,h2,h3⟩<;>simp[xj,cOp,zJ,xd,zfk, *]
 |build ty parts=>
  simp only[xj,cOp];cases P.underlying ty with
  |none=>rfl
  |some u=>
   cases yk P ty with
   |none=>cases u<;>rfl
   |some z=>
    cases u with
    |struct fs=>
     simp only;cases zah P fs.toList with
     |false=>rfl
     |true=>
      rcases qK (P:=P) (t:=t) fs parts.toList with⟨h1,h2⟩|⟨xs,ys,h1,h2,h3⟩
      ·simp only[Yza,h1,h2];rfl
      ·simp only[Yza,h1,h2,YzM,YzK,Yz4,zJ,ui,zaT _ _ _ h3]
    |array n e=>
     simp only;cases P.info? e with
     |none=>rfl
     |some i=>
      rcases jL (t:=t) i.size parts.toList with⟨h1,h2⟩|⟨xs,ys,h1,h2,h3⟩
      ·simp only[h1,h2];rfl
      ·simp only[h1,h2,YzM,YzK,Yz4,zJ,ui,zaT _ _ _ h3]
    |_=>rfl
 |buildSlice ty len parts=>
  simp only[xj,cOp];cases P.underlying ty with
  |none=>rfl
  |some u=>
   cases u with
   |slice e=>
    simp only;cases P.info? e with
    |none=>rfl
    |some i=>
     simp only;cases Nat.ble (len*i.size) 16777216 with
     |false=>rfl
     |true=>
      simp only[Yza];generalize (bif Nat.beq (len*i.size) 0 then some [] else(yk P e).map SVal.cells)=q;cases q with
      |none=>rfl
      |some zs=>
       simp only;generalize (Nat.beq (len*i.size) 0||Nat.beq zs.length i.size)=q2;cases q2 with
       |false=>rfl
       |true=>
        rcases jL (t:=t) i.size parts.toList with⟨h1,h2⟩|⟨xs,ys,h1,h2,h3⟩
        ·simp only[Yza,h1,h2];rfl
        ·simp only[Yza,h1,h2,YzM,YzK,Yz4,zJ,vI,zaT _ _ _ h3]
   |_=>rfl
 |load ty x=>
  simp only[xj,cOp];cases wo P ty with
  |none=>rfl
  |some n=>rcases zM (t:=t) x with⟨h1,h2⟩|⟨a,b,h1,h2,h3⟩<;>simp[zJ,xd,j9, *]
 |store ty x v=>
  simp only[xj,cOp];cases P.info? ty with
  |none=>rfl
  |some n=>rcases zM (t:=t) x with⟨h1x,h2x⟩|⟨oax,obx,h1x,h2x,h3x⟩<;>rcases zM (t:=t) v with⟨h1v,h2v⟩|⟨oav,obv,h1v,h2v,h3v⟩<;>simp[zJ,xd,zbf, *]
 |nilCheck x=>rcases zM (t:=t) x with⟨h1,h2⟩|⟨a,b,h1,h2,h3⟩<;>simp[xj,cOp,zJ,xd,ud, *]
 |binOp op ty x y ty2=>
  simp only[xj,cOp];cases P.underlying ty with
  |none=>rfl
  |some u=>
   by_cases hu:∃te,u=.pointer te
   ·obtain⟨te,rfl⟩:=hu;simp only;cases wq P te with
    |false=>rfl
    |true=>rcases zM (t:=t) x with⟨h1x,h2x⟩|⟨oax,obx,h1x,h2x,h3x⟩<;>rcases zM (t:=t) y with⟨h1y,h2y⟩|⟨oay,oby,h1y,h2y,h3y⟩<;>cases op<;>first|rfl|simp[zJ,xd,uc, *]
   ·rcases zM (t:=t) x with⟨h1x,h2x⟩|⟨oax,obx,h1x,h2x,h3x⟩<;>rcases zM (t:=t) y with⟨h1y,h2y⟩|⟨oay,oby,h1y,h2y,h3y⟩<;>simp only[h1x,h2x,h1y,h2y]
    all_goals (cases u<;>first|rfl|(exfalso;exact hu ⟨_,rfl⟩)|skip)
    all_goals (clear hu)
    all_goals (try generalize P.eqGuardType P.depth ty=q)
    all_goals (try generalize u3 P ty=q2)
    all_goals (cases op<;>first|rfl|simp only[YzM,YzK,Option.bind_none,Yz4,zJ,zb1,wQ,zcV,uL,j7, *])
    all_goals (cases q<;>first|rfl|skip)
    all_goals (cases q2<;>first|rfl|simp only[Yzc,YzK,zjW, *])
 |unOp op ty x=>cases op<;>first|rfl|(rcases zM (t:=t) x with⟨h1,h2⟩|⟨a,b,h1,h2,h3⟩<;>simp[xj,cOp,zJ,xd,zcW,zcX, *])
 |convert s d x=>
  simp only[xj,cOp];cases P.underlying s with
  |none=>rfl
  |some u=>
   cases P.underlying d with
   |none=>cases u<;>rfl
   |some u2=>
    cases u<;>first|rfl|skip
    all_goals (cases u2<;>first|rfl|skip)
    case string.slice el=>cases hb:yO P el<;>rcases zM (t:=t) x with⟨h1,h2⟩|⟨a,b,h1,h2,h3⟩<;>simp[zJ,xd,zlA, *]
    case slice.string el=>cases hb:yO P el<;>rcases zM (t:=t) x with⟨h1,h2⟩|⟨a,b,h1,h2,h3⟩<;>simp[zJ,xd,zaA, *]
    case pointer.unsafePointer el=>cases hb:wq P el<;>rcases zM (t:=t) x with⟨h1,h2⟩|⟨a,b,h1,h2,h3⟩<;>simp[zJ,xd,zfj, *]
    case unsafePointer.pointer el=>cases hb:zlQ P el<;>rcases zM (t:=t) x with⟨h1,h2⟩|⟨a,b,h1,h2,h3⟩<;>simp[zJ,xd,zfi, *]
    all_goals (rcases zM (t:=t) x with⟨h1,h2⟩|⟨a,b,h1,h2,h3⟩<;>simp[zJ,xd,kF, *])
 |makeFunc fn first captured=>
  cases fn<;>first|rfl|skip
  simp only[xj,cOp];cases first.isEmpty with
  |false=>rfl
  |true=>
   rcases zdx (t:=t) captured.toList with⟨h1,h2⟩|⟨xs,ys,h1,h2,h3⟩
   ·simp only[Yza,h1,h2];rfl
   ·simp only[Yza,h1,h2,YzM,YzK,Yz4,zJ,j8,zjM _ _ h3]
 |makeMap ty r=>cases r<;>rfl
 |makeSlice ty l c=>
  simp only[xj,cOp];cases P.underlying ty with
  |none=>rfl
  |some u=>
   cases u with
   |slice e=>
    simp only;cases P.info? e with
    |none=>rfl
    |some i=>
     cases yk P e with
     |none=>rfl
     |some z=>
      simp only;generalize (Nat.beq z.cells.length i.size && !Nat.beq i.size 0)=q;cases q with
      |false=>rfl
      |true=>rcases zM (t:=t) l with⟨h1l,h2l⟩|⟨oal,obl,h1l,h2l,h3l⟩<;>rcases zM (t:=t) c with⟨h1c,h2c⟩|⟨oac,obc,h1c,h2c,h3c⟩<;>simp[zJ,xd,we, *]
   |_=>rfl
 |slice ty x lo hi mx=>
  simp only[xj,cOp];cases P.underlying ty with
  |none=>rfl
  |some u=>
   cases u with
   |slice e=>
    simp only;cases P.info? e with
    |none=>rfl
    |some i=>
     simp only;generalize (mx.isSome && !hi.isSome)=q;cases q with
     |true=>rfl
     |false=>
      rcases zM (t:=t) x with⟨h1x,h2x⟩|⟨oax,obx,h1x,h2x,h3x⟩
      ·simp only[h1x,h2x,Yzc];rfl
      ·rcases j5 (t:=t) lo with⟨k1,k2⟩|⟨l1,l2,k1,k2,k3⟩
       ·simp only[h1x,h2x,k1,k2,Yzc];rfl
       ·rcases j5 (t:=t) hi with⟨m1,m2⟩|⟨g1,g2,m1,m2,m3⟩
        ·simp only[h1x,h2x,k1,k2,m1,m2,Yzc];rfl
        ·rcases j5 (t:=t) mx with⟨n1,n2⟩|⟨j1,j2,n1,n2,n3⟩
         ·simp only[h1x,h2x,k1,k2,m1,m2,n1,n2,Yzc];rfl
         ·simp only[h1x,h2x,k1,k2,m1,m2,n1,n2,Yzc,YzM,YzK,Yz4,zJ,ub,h3x,xU,xm,zh6 k3 m3 n3,k3.bnd,m3.bnd,n3.bnd]
   |array len e=>
    simp only;cases P.info? e with
    |none=>rfl
    |some i=>
     simp only;generalize (mx.isSome && !hi.isSome)=q;cases q with
     |true=>rfl
     |false=>
      rcases zM (t:=t) x with⟨h1x,h2x⟩|⟨oax,obx,h1x,h2x,h3x⟩
      ·simp only[h1x,h2x,Yzc];rfl
      ·rcases j5 (t:=t) lo with⟨k1,k2⟩|⟨l1,l2,k1,k2,k3⟩
       ·simp only[h1x,h2x,k1,k2,Yzc];rfl
       ·rcases j5 (t:=t) hi with⟨m1,m2⟩|⟨g1,g2,m1,m2,m3⟩
        ·simp only[h1x,h2x,k1,k2,m1,m2,Yzc];rfl
        ·rcases j5 (t:=t) mx with⟨n1,n2⟩|⟨j1,j2,n1,n2,n3⟩
         ·simp only[h1x,h2x,k1,k2,m1,m2,n1,n2,Yzc];rfl
         ·simp only[h1x,h2x,k1,k2,m1,m2,n1,n2,Yzc,YzM,YzK,Yz4,zJ,vH,h3x,xm,k3.bnd,m3.bnd,n3.bnd]
   |string=>
    simp only;cases mx.isSome with
    |true=>rfl
    |false=>
     rcases zM (t:=t) x with⟨h1x,h2x⟩|⟨oax,obx,h1x,h2x,h3x⟩
     ·simp only[h1x,h2x,Yzc];rfl
     ·rcases j5 (t:=t) lo with⟨k1,k2⟩|⟨l1,l2,k1,k2,k3⟩
      ·simp only[h1x,h2x,k1,k2,Yzc];rfl
      ·rcases j5 (t:=t) hi with⟨m1,m2⟩|⟨g1,g2,m1,m2,m3⟩
       ·simp only[h1x,h2x,k1,k2,m1,m2,Yzc];rfl
       ·simp only[h1x,h2x,k1,k2,m1,m2,Yzc,YzM,YzK,Yz4,zJ,xW,h3x,k3.bnd,m3.bnd]
   |_=>rfl
 |fieldAddr ty x f=>
  simp only[xj,cOp];cases P.underlying ty with
  |none=>rfl
  |some u=>
   cases u with
   |struct fs=>
    simp only;cases fs[f]? with
    |none=>rfl
    |some fd=>
     simp only;cases P.info? fd.type with
     |none=>rfl
     |some i=>
      simp only;cases Nat.beq i.size 0 with
      |true=>rfl
      |false=>rcases zM (t:=t) x with⟨h1,h2⟩|⟨a,b,h1,h2,h3⟩<;>simp[zJ,xd,kE, *]
   |_=>rfl
 |field ty x f=>
  simp only[xj,cOp];cases P.underlying ty with
  |none=>rfl
  |some u=>
   cases u with
   |struct fs=>
    simp only;cases fs[f]? with
    |none=>rfl
    |some fd=>simp only;rcases zM (t:=t) x with⟨h1,h2⟩|⟨a,b,h1,h2,h3⟩<;>cases wo P fd.type<;>simp[zJ,xd,uh, *]
   |_=>rfl
 |indexAddr ty x i=>
  simp only[xj,cOp];cases P.underlying ty with
  |none=>rfl
  |some u=>
   cases u with
   |slice e=>
    simp only;cases P.info? e with
    |none=>rfl
    |some n=>rcases zM (t:=t) x with⟨h1x,h2x⟩|⟨oax,obx,h1x,h2x,h3x⟩<;>rcases zM (t:=t) i with⟨h1i,h2i⟩|⟨oai,obi,h1i,h2i,h3i⟩<;>simp[zJ,xd,zc0, *]
   |array len e=>
    simp only;cases P.info? e with
    |none=>rfl
    |some n=>rcases zM (t:=t) x with⟨h1x,h2x⟩|⟨oax,obx,h1x,h2x,h3x⟩<;>rcases zM (t:=t) i with⟨h1i,h2i⟩|⟨oai,obi,h1i,h2i,h3i⟩<;>simp[zJ,xd,uf, *]
   |_=>rfl
 |index ty x i=>
  simp only[xj,cOp];cases P.underlying ty with
  |none=>rfl
  |some u=>
   cases u with
   |array len e=>
    simp only;cases P.info? e with
    |none=>rfl
    |some n=>rcases zM (t:=t) x with⟨h1x,h2x⟩|⟨oax,obx,h1x,h2x,h3x⟩<;>rcases zM (t:=t) i with⟨h1i,h2i⟩|⟨oai,obi,h1i,h2i,h3i⟩<;>cases wo P e<;>simp[zJ,xd,ug, *]
   |string=>rcases zM (t:=t) x with⟨h1x,h2x⟩|⟨oax,obx,h1x,h2x,h3x⟩<;>rcases zM (t:=t) i with⟨h1i,h2i⟩|⟨oai,obi,h1i,h2i,h3i⟩<;>simp[zJ,xd,ue, *]
   |_=>rfl
 |lookup ty m k ok=>
  simp only[xj,cOp];cases P.underlying ty with
  |none=>rfl
  |some u=>
   cases u with
   |map key e=>simp only;rcases zM (t:=t) m with⟨h1m,h2m⟩|⟨oam,obm,h1m,h2m,h3m⟩<;>rcases zM (t:=t) k with⟨h1k,h2k⟩|⟨oak,obk,h1k,h2k,h3k⟩<;>generalize u3 P key=q1<;>generalize yk P e=q2<;>cases q1<;>cases q2<;>simp only[h1m,h2m,h1k,h2k]<;>first|rfl|simp[zJ,wX, *]
   |_=>rfl
 |mapUpdate ty m k v=>
  simp only[xj,cOp];cases P.underlying ty with
  |none=>rfl
  |some u=>
   cases u with
   |map key e=>simp only;rcases zM (t:=t) m with⟨h1m,h2m⟩|⟨oam,obm,h1m,h2m,h3m⟩<;>rcases zM (t:=t) k with⟨h1k,h2k⟩|⟨oak,obk,h1k,h2k,h3k⟩<;>rcases zM (t:=t) v with⟨h1v,h2v⟩|⟨oav,obv,h1v,h2v,h3v⟩<;>generalize u3 P key=q1<;>cases q1<;>simp only[h1m,h2m,h1k,h2k]<;>first|rfl|simp[zJ,xd,zcY, *]
   |_=>rfl
 |insert ty m k v=>
  simp only[xj,cOp];cases P.underlying ty with
  |none=>rfl
  |some u=>
   cases u with
   |map key e=>simp only;rcases zM (t:=t) m with⟨h1m,h2m⟩|⟨oam,obm,h1m,h2m,h3m⟩<;>rcases zM (t:=t) k with⟨h1k,h2k⟩|⟨oak,obk,h1k,h2k,h3k⟩<;>rcases zM (t:=t) v with⟨h1v,h2v⟩|⟨oav,obv,h1v,h2v,h3v⟩<;>generalize u3 P key=q1<;>cases q1<;>simp only[h1m,h2m,h1k,h2k]<;>first|rfl|simp[zJ,xd,zcY, *]
   |_=>rfl
 |mapEntry ty m k=>
  simp only[xj,cOp];cases P.underlying ty with
  |none=>rfl
  |some u=>
   cases u with
   |map key e=>simp only;rcases zM (t:=t) m with⟨h1m,h2m⟩|⟨oam,obm,h1m,h2m,h3m⟩<;>rcases zM (t:=t) k with⟨h1k,h2k⟩|⟨oak,obk,h1k,h2k,h3k⟩<;>generalize u3 P key=q1<;>generalize yk P e=q2<;>cases q1<;>cases q2<;>simp only[h1m,h2m,h1k,h2k]<;>first|rfl|simp[zJ,zay, *]
   |_=>rfl
 |entryStore ty m s v=>simp only[xj,cOp];rcases zM (t:=t) m with⟨h1m,h2m⟩|⟨oam,obm,h1m,h2m,h3m⟩<;>rcases zM (t:=t) s with⟨h1k,h2k⟩|⟨oak,obk,h1k,h2k,h3k⟩<;>rcases zM (t:=t) v with⟨h1v,h2v⟩|⟨oav,obv,h1v,h2v,h3v⟩<;>simp only[h1m,h2m,h1k,h2k]<;>first|rfl|simp[zJ,xd,zaz, *]
 |extract x i=>rcases zM (t:=t) x with⟨h1,h2⟩|⟨a,b,h1,h2,h3⟩<;>simp[xj,cOp,zJ,xd,xL, *]
 |call c=>
  obtain⟨callee,args,tys⟩:=c;cases callee with
  |invoke _ _=>rfl
  |value f=>
   simp only[xj,cOp];cases hk:Nat.beq (q8 P f) 0 with
   |false=>
    simp only[Yzc];unfold zxm;rcases args.toList with _|⟨x,_|⟨y,_|⟨z,l⟩⟩⟩<;>try rfl
    ·simp only;cases Nat.beq (q8 P f) 1 with
     |false=>rfl
     |true=>rcases zM (t:=t) x with⟨h1,h2⟩|⟨a,b,h1,h2,h3⟩<;>simp[zJ,xd,zjV, *]
    ·simp only;cases Nat.beq (q8 P f) 2 with
     |false=>rfl
     |true=>rcases zM (t:=t) x with⟨h1,h2⟩|⟨a,b,h1,h2,h3⟩<;>rcases zM (t:=t) y with⟨h1x,h2x⟩|⟨oax,obx,h1x,h2x,h3x⟩<;>simp[zJ,xd,zjX, *]
   |true=>
   simp only[Yza];rcases zM (t:=t) f with⟨h1x,h2x⟩|⟨oax,obx,h1x,h2x,h3x⟩
   ·simp only[h1x,h2x];rfl
   ·rcases zdx (t:=t) args.toList with⟨h1,h2⟩|⟨xs,ys,h1,h2,h3⟩
    ·simp only[h1x,h2x,h1,h2];rfl
    ·simp only[h1x,h2x,h1,h2,YzM,YzK,Yz4,zJ,zeh,h3x,zoj _ _ h3]
  |builtin b=>
   cases b with
   |len=>
    simp only[xj,cOp];cases tys[0]? with
    |none=>rfl
    |some ty=>
     cases args[0]? with
     |none=>rfl
     |some x=>
      simp only;cases P.underlying ty with
      |none=>rfl
      |some u=>cases u<;>first|rfl|(rcases zM (t:=t) x with⟨h1,h2⟩|⟨a,b,h1,h2,h3⟩<;>simp[zJ,xd,ki,kC,qH, *])
   |append=>
    simp only[xj,cOp];rcases tys.toList with _|⟨t1,_|⟨t2,_|⟨t3,l⟩⟩⟩<;>try rfl
    rcases args.toList with _|⟨s,_|⟨x,_|⟨y,l⟩⟩⟩<;>try rfl
    simp only;cases P.underlying t1 with
    |none=>rfl
    |some u=>
     cases u<;>try rfl
     rename_i e;simp only;cases P.info? e with
     |none=>rfl
     |some i=>
      cases yk P e with
      |none=>rfl
      |some z=>
       simp only;generalize (Nat.beq z.cells.length i.size && !Nat.beq i.size 0)=q;cases q with
       |false=>rfl
       |true=>
        cases P.underlying t2 with
        |none=>rfl
        |some u2=>generalize (yO P e&&Nat.beq i.size 1)=q6;generalize Nat.beq i.size 1=q5;rcases zM (t:=t) s with⟨h1,h2⟩|⟨a,b,h1,h2,h3⟩<;>rcases zM (t:=t) x with⟨h1x,h2x⟩|⟨oax,obx,h1x,h2x,h3x⟩<;>cases u2<;>cases q5<;>cases q6<;>first|rfl|simp[zJ,xd,xX,kG,kH, *]
   |unsafeSliceData=>
    simp only[xj,cOp];rcases args.toList with _|⟨x,_|⟨y,l⟩⟩<;>try rfl
    rcases zM (t:=t) x with⟨h1,h2⟩|⟨a,b,h1,h2,h3⟩<;>simp[zJ,xd,ua, *]
   |unsafeString=>
    simp only[xj,cOp];rcases tys.toList with _|⟨t1,_|⟨t2,_|⟨t3,l⟩⟩⟩<;>try rfl
    rcases args.toList with _|⟨x,_|⟨y,_|⟨z,l⟩⟩⟩<;>try rfl
    simp only;cases P.underlying t1 with
    |none=>rfl
    |some u=>
     cases u<;>try rfl
     rename_i e;simp only;generalize (yO P e&&Nat.beq (P.cellsOf e) 1)=q;cases q with
     |false=>rfl
     |true=>rcases zM (t:=t) x with⟨h1,h2⟩|⟨a,b,h1,h2,h3⟩<;>rcases zM (t:=t) y with⟨h1x,h2x⟩|⟨oax,obx,h1x,h2x,h3x⟩<;>simp[zJ,xd,zgR, *]
   |cap=>
    simp only[xj,cOp];cases tys[0]? with
    |none=>rfl
    |some ty=>
     cases args[0]? with
     |none=>rfl
     |some x=>
      simp only;cases P.underlying ty with
      |none=>rfl
      |some u=>cases u<;>first|rfl|(rcases zM (t:=t) x with⟨h1,h2⟩|⟨a,b,h1,h2,h3⟩<;>simp[zJ,xd,znH, *])
   |copy=>
    simp only[xj,cOp];rcases tys.toList with _|⟨t1,_|⟨t2,_|⟨t3,l⟩⟩⟩<;>try rfl
    rcases args.toList with _|⟨x,_|⟨y,_|⟨z,l⟩⟩⟩<;>try rfl
    simp only;cases P.underlying t1 with
    |none=>rfl
    |some u=>
     cases P.underlying t2 with
     |none=>cases u<;>rfl
     |some u2=>
      cases u<;>try rfl
      all_goals (cases u2<;>try rfl)
      rename_i e e2;simp only;cases P.info? e with
      |none=>rfl
      |some i=>
       simp only;generalize Nat.beq i.size 0=q;cases q with
       |true=>rfl
       |false=>rcases zM (t:=t) x with⟨h1,h2⟩|⟨a,b,h1,h2,h3⟩<;>rcases zM (t:=t) y with⟨h1x,h2x⟩|⟨oax,obx,h1x,h2x,h3x⟩<;>simp[zJ,xd,zgS, *]
   |clear=>
    simp only[xj,cOp];cases tys[0]? with
    |none=>rfl
    |some ty=>
     cases args[0]? with
     |none=>rfl
     |some x=>
      simp only;cases P.underlying ty with
      |none=>rfl
      |some u=>
       cases u<;>try rfl
       rename_i e;simp only;cases P.info? e with
       |none=>rfl
       |some i=>
        cases yk P e with
        |none=>rfl
        |some z=>
         simp only;generalize (Nat.beq z.cells.length i.size && !Nat.beq i.size 0)=q;cases q with
         |false=>rfl
         |true=>rcases zM (t:=t) x with⟨h1,h2⟩|⟨a,b,h1,h2,h3⟩<;>simp[zJ,xd,zbg, *]
   |max=>
    simp only[xj,cOp];rcases zdx (t:=t) args.toList with⟨h1,h2⟩|⟨xs,ys,h1,h2,h3⟩
    ·simp only[h1,h2];rfl
    ·simp only[h1,h2];cases xs<;>cases ys<;>first|rfl|exact h3.elim|simp only[zJ,xh,h3.1,zfo _ _ _ _ _ h3.2]
   |min=>
    simp only[xj,cOp];rcases zdx (t:=t) args.toList with⟨h1,h2⟩|⟨xs,ys,h1,h2,h3⟩
    ·simp only[h1,h2];rfl
    ·simp only[h1,h2];cases xs<;>cases ys<;>first|rfl|exact h3.elim|simp only[zJ,xh,h3.1,zfo _ _ _ _ _ h3.2]
   |_=>rfl
 |_=>rfl
end
end Go.CE
end
section
namespace Go.CE
noncomputable section
def uo(r:Fr)(v:Zb):Option Nat→Fr
 |none=>r
 |some d=>fun i=>bif Nat.beq i d then v else r i
def bindR{β:Type}(x:Res)(k:Zb→Za→Option β):Option β:=
 match x with
 |some (v,h)=>k v h
 |none=>none
def zeO(v:Zb)(b:Bool):Bool:=
 match v with
 | .s (.one (.bool c))=>c==b
 |_=>false
section
variable (P:Program)
def yh(nt:Nat)(ops:Array Oper)(o:Oper)(call:zg)(r:Fr)(h:Za):Res:=
 bif inT nt o.dst then
  match o.guard with
  |none=>xj P (coK r) o.op call .nil h
  |some (j,b)=>
   match (ops[j]?).bind (·.dst) with
   |some d=>bif Nat.ble (Nat.succ d) nt then(bif zeO (r d) b then xj P (coK r) o.op call .nil h else some (z8,h)) else none
   |none=>none
 else none
def zy6(nt:Nat)(o:Oper)(r:Fr):Option Zb:=
 match o.guard with
 |some _=>none
 |none=>
  bif inT nt o.dst then
   match o.op with
   | .move x=>(coK r x).map fun c=>c .nil
   | .assign x=>(coK r x).map fun c=>c .nil
   |_=>none
  else none
def zfz{β:Type}(nt:Nat)(ops:Array Oper)(call:zg):List Oper→Fr→Za→(Fr→Za→Option β)→Option β
 | [],r,h,k=>k r h
 |o::os,r,h,k=>
  match zy6 nt o r with
  |some v=>zfz nt ops call os (uo r v o.dst) h k
  |none=>bindR (yh P nt ops o call r h) fun v h'=>zfz nt ops call os (uo r v o.dst) h' k
def zlN(i:Nat):List Nat→Bool
 | []=>false
 |j::l=>bif Nat.beq i j then true else zlN i l
def zS(r:Fr)(l:List Nat):Fr:=fun i=>bif zlN i l then r i else z8
def zll(run:Za→Res)(v:Zb):List Za→Bool
 | []=>true
 |h::hs=>
  (match run h with
  |some (v',_)=>eqA v v'
  |none=>false)&&zll run v hs
def zss(hs:List Za):List ((Za→Res)×Zb×Nat×Nat)→Bool
 | []=>true
 |(run,v,lo,hi)::l=>(Nat.beq lo hi||zll run v ((hs.drop lo).take (Nat.sub (Nat.succ hi) lo)))&&zss hs l
def kDr{β:Type}(nt:Nat)(ops:Array Oper)(call:zg)(bs:List Nat)(es:List Bool):Nat→List Oper→Fr→Za→List Za→List ((Za→Res)×Zb×Nat×Nat)→(Fr→Za→Option β)→Option β
 |_,[],r,h,hs,cs,k=>bif zss (hs++[h]) cs then k r h else none
 |i,o::os,r,h,hs,cs,k=>
  match zy6 nt o (zS r (o.looksAt ops)) with
  |some v=>kDr nt ops call bs es (Nat.succ i) os (uo r v o.dst) h hs (cs++[(yh P nt ops o call (zS r (o.looksAt ops)),v,ce (fun j=>bef bs j i) 0 es,ce (fun j=>!bef bs i j) 0 es)]) k
  |none=>bindR (yh P nt ops o call (zS r (o.looksAt ops)) h) fun v h'=>
  bif yI P o.op then kDr nt ops call bs es (Nat.succ i) os (uo r v o.dst) h hs (cs++[(yh P nt ops o call (zS r (o.looksAt ops)),v,ce (fun j=>bef bs j i) 0 es,ce (fun j=>!bef bs i j) 0 es)]) k
  else kDr nt ops call bs es (Nat.succ i) os (uo r v o.dst) h' (hs++[h]) cs k
abbrev CkG:=(Za→Res)×Zb×Nat×Nat×List Nat
def zd6(run:Za→Res)(v:Zb)(n0:Nat)(hide:List Nat)(mks:List (Nat×Nat×Zf)):Nat→List Za→Bool
 |_,[]=>true
 |k,h::hs=>
  match run ⟨h.n,zbs n0 hide (q7 n0 k mks h.t)⟩ with
  |some (v',_)=>eqA v v'&&zd6 run v n0 hide mks (Nat.succ k) hs
  |none=>false
def zi4(n0:Nat)(mks:List (Nat×Nat×Zf))(hs:List Za):List CkG→Bool
 | []=>true
 |(run,v,lo,hi,hide)::l=>(Nat.beq lo hi||zd6 run v n0 hide mks lo ((hs.drop lo).take (Nat.sub (Nat.succ hi) lo)))&&zi4 n0 mks hs l
def mk1(n0 c j:Nat)(t:Tr Zf):List (Nat×Nat×Zf):=
 match t.get (bn (Nat.add n0 j)) with
 |some o=>[(c,j,o)]
 |none=>[]
def zdS{β:Type}(nt:Nat)(ops:Array Oper)(call:zg)(bs:List Nat)(es:List Bool)(n0:Nat):Nat→List Oper→Fr→Za→Nat→List Za→List CkG→List (Nat×Nat×Zf)→(Fr→Za→Option β)→Option β
 |_,[],r,h,_,hs,cs,mks,k=>bif zi4 n0 mks hs cs then k r h else none
 |i,o::os,r,h,c,hs,cs,mks,k=>
  bif qD o.op then
   bindR (yh P nt ops o call (zS r (o.looksAt ops)) ⟨bn (Nat.add n0 i),h.t⟩) fun v h'=>zdS nt ops call bs es n0 (Nat.succ i) os (uo r v o.dst) ⟨h.n,h'.t⟩ c hs cs (mks++mk1 n0 c i h'.t) k
  else
   bindR (yh P nt ops o call (zS r (o.looksAt ops)) ⟨h.n,zbs n0 (yG bs i 0 ops.toList) h.t⟩) fun v h'=>
    bif anchor P o.op then
     match zgj n0 h.t (yG bs i 0 ops.toList) h'.t with
     |some t=>zdS nt ops call bs es n0 (Nat.succ i) os (uo r v o.dst) ⟨h'.n,t⟩ (Nat.succ c) (hs++[⟨h'.n,t⟩]) cs mks k
     |none=>none
    else zdS nt ops call bs es n0 (Nat.succ i) os (uo r v o.dst) h c hs (cs++[(yh P nt ops o call (zS r (o.looksAt ops)),v,ce (fun j=>bef bs j i) 0 es,ce (fun j=>!bef bs i j) 0 es,yG bs i 0 ops.toList)]) mks k
def zb2(c:List Zb→Za→List BN→Option (Zg×List Zb×Za×List BN)):Nat→List Zb→Za→List BN→Option (Zg×List Zb×Za×List BN)
 |0,_,_,_=>none
 |n+1,r,h,d=>
  match c r h d with
  |some (.normal,r',h',d')=>zb2 c n r' h' d'
  |x=>x
def bindX{β:Type}(x:Option (Zg×List Zb×Za×List BN))(kx:Nat→List Zb→Za→List BN→Option β)(kr:List Zb→Za→List BN→Option β):Option β:=
 match x with
 |some (.exit id,r,h,d)=>kx id r h d
 |some (.ret,r,h,d)=>kr r h d
 |_=>none
def ifK{β:Type}(v:Zb)(a b:Option β):Option β:=
 match v with
 | .s (.one (.bool q))=>bif q then a else b
 |_=>none
abbrev KK(β:Type):=Zg→Fr→Za→List BN→Option β
def zsV{β:Type}(a:Fr→Za→List BN→Option β)(k:KK β):KK β
 | .normal,r,h,d=>a r h d
 | .exit id,r,h,d=>k (.exit id) r h d
 | .ret,r,h,d=>k .ret r h d
def zv9{β:Type}(id:Nat)(k:KK β):KK β
 | .exit id',r,h,d=>bif Nat.beq id' id then k .normal r h d else k (.exit id') r h d
 | .normal,r,h,d=>k .normal r h d
 | .ret,r,h,d=>k .ret r h d
def rangeK{β:Type}(l:BN)(k:Zg→Za→Option β):Res→Option β
 |some (_,h)=>
  match h.t.get l with
  |some (.loop st pend lf ln lt lps la lb ld)=>
   match st with
   | .busy=>none
   |_=>k (pend.getD .normal) (h.put l (.loop .exhausted pend lf ln lt lps la lb ld))
  |_=>none
 |none=>none
def writes:Code→List Nat
 | .region _ ops _=>ops.toList.filterMap (·.dst)
 | .seq a b=>writes a++writes b
 | .cond _ a b=>writes a++writes b
 | .block _ c=>writes c
 | .loop c=>writes c
 |_=>[]
def zy4:List Zb→Nat→Zb
 | [],_=>z8
 |v::l,n=>bif Nat.beq n 0 then v else zy4 l (Nat.sub n 1)
def zlM:List Nat→Nat→Fr→List Zb→Fr
 | [],_,r,_=>r
 |w::W,k,r,ys=>fun i=>bif Nat.beq i w then zy4 ys k else zlM W (Nat.succ k) r ys i
def yV(nt:Nat)(call:zg)(f fn:Nat)(top:Bool):Code→{β:Type}→Fr→Za→List BN→KK β→Option β
 | .skip,_,r,h,d,k=>k .normal r h d
 | .region _ ops draw,_,r,h,d,k=>
  bif draw then(bif P.follows .mixedOrders&&zaX P ops (xq ops.toList) then kDr P nt ops call (xq ops.toList) (zaW P ops.toList) 0 ops.toList r h [] [] (fun r h=>k .normal r h d)
   else bif P.follows .mixedOrders&&jM P ops (xq ops.toList) then zdS P nt ops call (xq ops.toList) (qi P ops.toList) h.n.toNat 0 ops.toList r ⟨bn (Nat.add h.n.toNat ops.toList.length),h.t⟩ 0 [⟨bn (Nat.add h.n.toNat ops.toList.length),h.t⟩] [] [] (fun r h=>k .normal r h d) else none)
  else zfz P nt ops call ops.toList r h (fun r h=>k .normal r h d)
 | .seq a b,_,r,h,d,k=>yV nt call f fn top a r h d (zsV (fun r h d=>yV nt call f fn top b r h d k) k)
 | .cond c a b,_,r,h,d,k=>
  match coK r c with
  |some c=>ifK (c .nil) (yV nt call f fn top a r h d k) (yV nt call f fn top b r h d k)
  |none=>none
 | .block id c,_,r,h,d,k=>yV nt call f fn top c r h d (zv9 id k)
 | .loop c,_,r,h,d,k=>bindX (zb2 (fun ys h d=>yV nt call f fn top c (zlM (writes c) 0 r ys) h d (fun e s h d=>some (e,(writes c).map s,h,d))) f ((writes c).map r) h d)
   (fun id ys h d=>k (.exit id) (zlM (writes c) 0 r ys) h d) (fun ys h d=>k .ret (zlM (writes c) 0 r ys) h d)
 | .rangeFunc g ps assign body,_,r,h,d,k=>
  bif top then
   match coK r g with
   |some gv=>
    match gv .nil with
    | .s (.one (.fn gf caps))=>rangeK (h.new .defer).n (fun e h'=>k e r h' (h.n::d)) (call (.inl gf) ([.s (.one (.yld (h.new .defer).n))]++caps.map fun p=>.s (.one (.ptr p.1 p.2))) ((h.new .defer).new (.loop .ready none fn nt (wy r nt) ps assign body h.n)))
    |_=>none
   |none=>none
  else none
 | .exit id,_,r,h,d,k=>k (.exit id) r h d
 | .ret,_,r,h,d,k=>k .ret r h d
 |_,_,_,_,_,_=>none
def zyR(v:Zb):Option SVal:=
 match v with
 | .s v=>some v
 |_=>none
def zyS(n:Option Nat)(v:Zb)(h:Za):Option SVal:=
 match v with
 | .s (.one (.ptr b off))=>ji n off (h.t.get b)
 |_=>none
def zmb(v:Option SVal)(l:Option (List SVal)):Option (List SVal):=
 match v with
 |some v=>wA v l
 |none=>none
def zbb(r:Fr)(h:Za):ResultVar→Option SVal
 | .tmp i=>zyR (r i)
 | .cell i t=>
  match wo P t with
  |some n=>zyS n (r i) h
  |none=>none
def qB(r:Fr)(h:Za):List ResultVar→Option (List SVal)
 | []=>some []
 |x::rs=>zmb (zbb P r h x) (qB r h rs)
def zfZ(rs:List ResultVar):Zg→Fr→Za→List BN→Res
 | .exit _,_,_,_=>none
 |_,r,h,d=>
  match shut d h with
  |some h'=>zfT h' (qB P r h' rs)
  |none=>none
def zev(call:zg)(f:Nat)(l:BN)(args:List Zb)(h:Za):Res:=
 match h.t.get l with
 |some (.loop .ready _ lf ln lt lps la lb _)=>
  match zh8 ln lt lps.toList args with
  |some t=>yV P ln call f lf false la (xS t) h [] (fun e r1 h1 d1=>
    match e,d1 with
    | .normal,[]=>
     match zdJ l h1 with
     |some h2=>yV P ln call f lf false lb r1 h2 [] (fun e _ h3 d2=>
       match d2 with
       | []=>endR l e h3
       |_=>none)
     |none=>none
    |_,_=>none)
  |none=>none
 |_=>none
def zri(g:Nat)(call:zg)(f:Nat)(args:List Zb)(h:Za):Res:=
 match P.funcs[g]? with
 |some fn=>
  match fn.body with
  |some c=>bif (zgd P fn.results.toList).isNone||fn.name == "runtime.NumGoroutine" then none else bif zre args fn.ntmps then yV P fn.ntmps call f g true c (xS (wI .z .nil args)) h [] (zfZ P fn.results.toList) else none
  |none=>none
 |none=>none
end
end
section
variable {P:Program} {nt:Nat}
theorem beq_iff(a b:Nat):Nat.beq a b=true↔a=b:=⟨Lz1,fun h=>by simp_all⟩
theorem wG(t:Tr Zb)(v:Zb)(d:Option Nat):xS (zcD t v (d.map bn))=uo (xS t) v d:=by cases d<;>grind[xS,zcD,uo,zbF,beq_iff,zx,u1,zo]
theorem zsK(t:Tr Zb)(g:Nat)(b:Bool):want t (some (bn g,b))=zeO (xS t g) b:=by
 simp only[want,xS,zbF];cases t.get (bn g) with
 |none=>rfl
 |some v=>cases v with
  |tup _=>rfl
  |s v=>cases v with
   |agg _=>rfl
   |one c=>cases c<;>rfl
theorem qr(ops:Array Oper)(o:Oper)(call:zg)(t:Tr Zb)(h:Za)(v:Zb)(h':Za)(e:yh P nt ops o call (xS t) h=some (v,h')):
  xI call (yS P nt ops o) t h=some (v,h')∧(yS P nt ops o).dst=o.dst.map bn:=by
 unfold yh at e;unfold yS;cases hin:inT nt o.dst with
 |false=>grind
 |true=>
  rw[hin]at e;simp only[Yza]at e ⊢;cases hg:o.guard with
  |none=>rw[hg]at e;simp only[zpl]at e;trivial
  |some p=>
   obtain⟨j,b⟩:=p;rw[hg]at e;simp only at e ⊢;cases hd:(ops[j]?).bind (·.dst) with
   |none=>grind
   |some d=>rw[hd]at e;simp only at e ⊢;cases hb:Nat.ble (Nat.succ d) nt<;>simp_all[zpl,xI,zsK]
theorem zoT(call:zg)(o:Zl)(t:Tr Zb)(h:Za):zbT call o t h=zzu t o.dst (xI call o t h):=by obtain⟨d,op,g⟩:=o;simp only[zbT,xI];cases want t g<;>rfl
theorem xD{r:Fr}{v:Zb}{d:Option Nat}{i:Nat}(h:d≠some i):uo r v d i=r i:=by
 cases d with
 |none=>rfl
 |some d=>grind[uo,beq_iff]
theorem ziq{ops:Array Oper}{o:Oper}{call:zg}{r:Fr}{v:Zb}(e:zy6 nt o r=some v)(h:Za):yh P nt ops o call r h=some (v,h)∧yI P o.op=true:=by
 unfold zy6 at e;unfold yh;cases hg:o.guard with
 |some p=>grind
 |none=>
  rw[hg]at e;simp only at e ⊢;cases hi:inT nt o.dst with
  |false=>grind
  |true=>
   rw[hi]at e;simp only[Yza]at e ⊢;split at e
   ·rename_i x hx;rw[hx];simp only[xj,yI];cases hc:coK r x with
    |none=>grind
    |some c=>rw[hc]at e;cases e;trivial
   ·rename_i x hx;rw[hx];simp only[xj,yI];cases hc:coK r x with
    |none=>grind
    |some c=>rw[hc]at e;cases e;trivial
   ·cases e
theorem kN{β:Type}(ops:Array Oper)(call:zg)(o:Oper)(os:List Oper)(r:Fr)(h:Za)(k:Fr→Za→Option β):
  zfz P nt ops call (o::os) r h k=bindR (yh P nt ops o call r h) fun v h'=>zfz P nt ops call os (uo r v o.dst) h' k:=by
 rw[zfz];split
 ·rename_i v hv;rw[(ziq hv h).1];rfl
 ·rfl
theorem zkf{β:Type}(ops:Array Oper)(call:zg)(bs:List Nat)(es:List Bool)(i:Nat)(o:Oper)(os:List Oper)(r:Fr)(h:Za)(hs:List Za)(cs:List ((Za→Res)×Zb×Nat×Nat))(k:Fr→Za→Option β):
  kDr P nt ops call bs es i (o::os) r h hs cs k=bindR (yh P nt ops o call (zS r (o.looksAt ops)) h) fun v h'=>
   bif yI P o.op then kDr P nt ops call bs es (Nat.succ i) os (uo r v o.dst) h hs (cs++[(yh P nt ops o call (zS r (o.looksAt ops)),v,ce (fun j=>bef bs j i) 0 es,ce (fun j=>!bef bs i j) 0 es)]) k
   else kDr P nt ops call bs es (Nat.succ i) os (uo r v o.dst) h' (hs++[h]) cs k:=by
 rw[kDr];split
 ·rename_i v hv;rw[(ziq hv h).1];simp only[bindR];rw[(ziq (P:=P) (ops:=ops) (call:=call) hv h).2];rfl
 ·rfl
theorem zoB{β:Type}(ops:Array Oper)(call:zg):∀(os:List Oper) (t:Tr Zb) (h:Za) (k:Fr→Za→Option β) (x:β),zfz P nt ops call os (xS t) h k=some x→
  ∃t' h',zl4 call (os.map (yS P nt ops)) t h=some (t',h')∧k (xS t') h'=some x∧∀i,i∉os.filterMap (·.dst)→xS t' i=xS t i
 | [],t,h,k,x,e=>⟨t,h,rfl,e,fun _ _=>rfl⟩
 |o::os,t,h,k,x,e=>by
  rw[kN]at e;simp only[bindR]at e;split at e
  ·rename_i v h' hq;obtain⟨e1,e2⟩:=qr ops o call t h v h' hq;rw[←wG]at e;obtain⟨t',h'',e3,e4,e5⟩:=zoB ops call os _ _ _ _ e;refine⟨t',h'',?_,e4,fun i hi=>?_⟩
   ·rw[Yzv,zeE,zoT,e1,e2];exact e3
   ·simp only[List.filterMap_cons]at hi;rw[e5 i,wG,xD]
    ·grind
    ·grind
  ·cases e
theorem zaE(i:Nat):∀l:List Nat,zlN i l=true↔i∈l
 | []=>by simp[zlN]
 |j::l=>by
  simp only[zlN,Yzw];cases hq:Nat.beq i j with
  |true=>simp_all
  |false=>
   have:i≠j:=fun e=>by simp_all
   simp[this,zaE i l]
theorem qu(t:Tr Zb)(l:List Nat):xS (u6 t (l.map bn))=zS (xS t) l:=by
 funext i
 simp only[xS,zS,zbF];rw[vX];have hm:bn i∈l.map bn↔i∈l:=⟨fun h=>by grind[u1],fun h=>List.mem_map_of_mem h⟩;cases hq:zlN i l with
 |true=>simp_all[zaE]
 |false=>rw[Yzb (fun hh=>by grind[zaE])];rfl
theorem zjC{call:zg}{ops:Array Oper}{o:Oper}{t:Tr Zb}{v:Zb}:∀hs:List Za,zll (yh P nt ops o call (xS t)) v hs=true→sameAt call (yS P nt ops o) t v hs=true
 | [],_=>rfl
 |h::hs,e=>by
  simp only[zll]at e;obtain⟨e1,e2⟩:=uJ e;unfold sameAt;split at e1
  ·rename_i v' h' hq;obtain⟨k1,_⟩:=qr ops o call t h v' h' hq;rw[k1];simp only;rw[e1,zjC hs e2];rfl
  ·cases e1
def CkR(P:Program)(nt:Nat)(ops:Array Oper)(call:zg):List ((Za→Res)×Zb×Nat×Nat)→List (Zi×Tr Zb×Zb)→Prop
 | [],l=>∀x∈l,x.1.eff=true
 |(run,v,lo,hi)::cs,l=>∃pre d tr rest,l=pre++(d,tr,v)::rest∧(∀x∈pre,x.1.eff=true)∧d.lo=lo∧d.hi=hi∧(∃o,d.rop=yS P nt ops o∧run=yh P nt ops o call (xS tr))∧CkR P nt ops call cs rest
theorem zme(call:zg)(hs:List Za)(l l':List (Zi×Tr Zb×Zb)):uz call hs (l++l')=(uz call hs l&&uz call hs l'):=by induction l<;>grind[uz]
theorem zby(call:zg)(hs:List Za):∀l:List (Zi×Tr Zb×Zb),(∀x∈l,x.1.eff=true)→uz call hs l=true
 | [],_=>rfl
 |(d,tr,v)::l,h=>by simp only[uz];rw[h _ (Yzg ..),zby call hs l fun x hx=>h x (Yze _ hx)];rfl
theorem zkJ{call:zg}{ops:Array Oper}{hs:List Za}:∀(cs:List ((Za→Res)×Zb×Nat×Nat)) (l:List (Zi×Tr Zb×Zb)),CkR P nt ops call cs l→zss hs cs=true→uz call hs l=true
 | [],l,h,_=>zby call hs l h
 |(run,v,lo,hi)::cs,l,⟨pre,d,tr,rest,h1,h2,h3,h4,⟨o,h5,h6⟩,h7⟩,e=>by
  subst h1 h3 h4 h6;simp only[zss]at e;obtain⟨e1,e2⟩:=uJ e;rw[zme,zby call hs pre h2];simp only[uz,Yye];rw[zkJ cs rest h7 e2,Yyn];rcases YzF _ _ |>.mp e1 with k|k
  ·grind
  ·grind[zjC]
theorem zpP{call:zg}{ops:Array Oper}{x:Zi×Tr Zb×Zb}(hx:x.1.eff=true):∀(cs:List ((Za→Res)×Zb×Nat×Nat)) (l:List (Zi×Tr Zb×Zb)),CkR P nt ops call cs l→CkR P nt ops call cs (l++[x])
 | [],l,h=>fun y hy=>by
  rcases List.mem_append.1 hy with k|k
  ·exact h y k
  ·grind
 |(run,v,lo,hi)::cs,l,⟨pre,d,tr,rest,h1,h2,h3,h4,h5,h6⟩=>⟨pre,d,tr,rest++[x],by grind,h2,h3,h4,h5,zpP hx cs rest h6⟩
theorem zhL{call:zg}{ops:Array Oper}{d:Zi}{tr:Tr Zb}{v:Zb}{o:Oper}(hd:d.rop=yS P nt ops o):∀(cs:List ((Za→Res)×Zb×Nat×Nat)) (l:List (Zi×Tr Zb×Zb)),CkR P nt ops call cs l→
  CkR P nt ops call (cs++[(yh P nt ops o call (xS tr),v,d.lo,d.hi)]) (l++[(d,tr,v)])
 | [],l,h=>⟨l,d,tr,[],rfl,h,rfl,rfl,⟨o,hd,rfl⟩,fun y hy=>by cases hy⟩
 |(run,v',lo,hi)::cs,l,⟨pre,d',tr',rest,h1,h2,h3,h4,h5,h6⟩=>⟨pre,d',tr',rest++[(d,tr,v)],by grind,h2,h3,h4,h5,zhL hd cs rest h6⟩
theorem zoC{β:Type}(ops:Array Oper)(call:zg)(bs:List Nat)(es:List Bool)(k:Fr→Za→Option β)(x:β):
  ∀(os:List Oper) (i:Nat) (t:Tr Zb) (h:Za) (hs:List Za) (cs:List ((Za→Res)×Zb×Nat×Nat)) (l0:List (Zi×Tr Zb×Zb)),CkR P nt ops call cs l0→
   kDr P nt ops call bs es i os (xS t) h hs cs k=some x→
   ∃l t' hs',evD call (uI P nt ops bs es i os) t h=some (l,t',hs')∧uz call (hs++hs') (l0++l)=true∧hs'≠[]∧k (xS t') (zfx h hs')=some x∧∀i,i∉os.filterMap (·.dst)→xS t' i=xS t i
 | [],i,t,h,hs,cs,l0,hc,e=>by
  simp only[kDr]at e;cases hq:zss (hs++[h]) cs with
  |false=>grind
  |true=>rw[hq]at e;exact⟨[],t,[h],rfl,by grind[zkJ],by simp,e,fun _ _=>rfl⟩
 |o::os,i,t,h,hs,cs,l0,hc,e=>by
  rw[zkf]at e;simp only[bindR]at e;split at e
  ·rename_i v h' hq;rw[←qu]at hq e;obtain⟨e1,e2⟩:=qr ops o call _ h v h' hq;rw[←wG]at e;simp only[uI,evD];rw[e1];simp only;cases hqo:yI P o.op with
   |true=>
    rw[hqo]at e;simp only[Yza,Yyf,Yzc]at e ⊢;obtain⟨l,t',hs',k1,k2,k3,k4,k5⟩:=zoC ops call bs es k x os _ _ _ _ _ (l0++[(⟨yS P nt ops o,(o.looksAt ops).map bn,false,ce (fun j=>bef bs j i) 0 es,ce (fun j=>!bef bs i j) 0 es⟩,u6 t ((o.looksAt ops).map bn),v)])
     (zhL (d:=⟨yS P nt ops o,(o.looksAt ops).map bn,false,ce (fun j=>bef bs j i) 0 es,ce (fun j=>!bef bs i j) 0 es⟩) rfl cs l0 hc) e
    rw[e2,k1];refine⟨_,_,_,rfl,?_,?_,?_,fun i hi=>?_⟩
    ·grind
    ·exact k3
    ·exact k4
    ·simp only[List.filterMap_cons]at hi;rw[k5 i,wG,xD]
     ·grind
     ·grind
   |false=>
    rw[hqo]at e;simp only[Yzc,Bool.not_false,Yza]at e ⊢;obtain⟨l,t',hs',k1,k2,k3,k4,k5⟩:=zoC ops call bs es k x os _ _ _ _ _ (l0++[(⟨yS P nt ops o,(o.looksAt ops).map bn,true,ce (fun j=>bef bs j i) 0 es,ce (fun j=>!bef bs i j) 0 es⟩,u6 t ((o.looksAt ops).map bn),v)])
     (zpP rfl cs l0 hc) e
    rw[e2,k1];refine⟨_,_,_,rfl,?_,?_,?_,fun i hi=>?_⟩
    ·grind
    ·simp
    ·simp only[Yza,zfx];cases hs' with
     |nil=>trivial
     |cons a b=>exact k4
    ·simp only[List.filterMap_cons]at hi;rw[k5 i,wG,xD]
     ·grind
     ·grind
  ·cases e
section
variable {ops:Array Oper} {call:zg} {n0:Nat}
theorem zgE{o:Oper}{t:Tr Zb}{v:Zb}{d:Zm}(hd:d.rop=yS P nt ops o){mks:List (Nat×Nat×Zf)}:∀(hs:List Za) (k:Nat),zd6 (yh P nt ops o call (xS t)) v n0 d.hide mks k hs=true→zlm call n0 d t v mks k hs=true
 | [],_,_=>rfl
 |h::hs,k,e=>by
  simp only[zd6]at e;simp only[zlm];split at e
  ·rename_i v' h' hq;obtain⟨k1,_⟩:=qr ops o call t _ v' h' hq;obtain⟨e1,e2⟩:=uJ e;rw[hd,k1];simp only;rw[e1,zgE hd hs _ e2];rfl
  ·cases e
def zu7(P:Program)(nt:Nat)(ops:Array Oper)(call:zg):List CkG→List GE→Prop
 | [],l=>∀g∈l,(g.d.eff||g.d.mkb)=true
 |(run,v,lo,hi,hide)::cs,l=>∃pre g rest,l=pre++g::rest∧(∀x∈pre,(x.d.eff||x.d.mkb)=true)∧g.v=v∧g.d.lo=lo∧g.d.hi=hi∧g.d.hide=hide∧(∃o,g.d.rop=yS P nt ops o∧run=yh P nt ops o call (xS g.tr))∧zu7 P nt ops call cs rest
theorem zmd{mks:List (Nat×Nat×Zf)}{hs:List Za}(l l':List GE):uy call n0 mks hs (l++l')=(uy call n0 mks hs l&&uy call n0 mks hs l'):=by induction l<;>grind[uy]
theorem zbx{mks:List (Nat×Nat×Zf)}{hs:List Za}:∀l:List GE,(∀x∈l,(x.d.eff||x.d.mkb)=true)→uy call n0 mks hs l=true
 | [],_=>rfl
 |g::l,h=>by simp only[uy];rw[h _ (Yzg ..),zbx l fun x hx=>h x (Yze _ hx)];simp
theorem zpc{mks:List (Nat×Nat×Zf)}{hs:List Za}:∀(cs:List CkG) (l:List GE),zu7 P nt ops call cs l→zi4 n0 mks hs cs=true→uy call n0 mks hs l=true
 | [],l,h,_=>zbx l h
 |(run,v,lo,hi,hide)::cs,l,⟨pre,g,rest,h1,h2,h3,h4,h5,h6,⟨o,h7,h8⟩,h9⟩,e=>by
  subst h1 h3 h4 h5 h6 h8;simp only[zi4]at e;obtain⟨e1,e2⟩:=uJ e;rw[zmd,zbx pre h2];simp only[uy,Yye];rw[zpc cs rest h9 e2,Yyn];rcases YzF _ _ |>.mp e1 with k|k
  ·grind
  ·grind[zgE]
theorem zgn{x:GE}(hx:(x.d.eff||x.d.mkb)=true):∀(cs:List CkG) (l:List GE),zu7 P nt ops call cs l→zu7 P nt ops call cs (l++[x])
 | [],l,h=>fun y hy=>by
  rcases List.mem_append.1 hy with k|k
  ·exact h y k
  ·grind
 |(run,v,lo,hi,hide)::cs,l,⟨pre,g,rest,h1,h2,h3,h4,h5,h6,h7,h8⟩=>⟨pre,g,rest++[x],by grind,h2,h3,h4,h5,h6,h7,zgn hx cs rest h8⟩
theorem zeM{g:GE}{o:Oper}(hd:g.d.rop=yS P nt ops o):∀(cs:List CkG) (l:List GE),zu7 P nt ops call cs l→
  zu7 P nt ops call (cs++[(yh P nt ops o call (xS g.tr),g.v,g.d.lo,g.d.hi,g.d.hide)]) (l++[g])
 | [],l,h=>⟨l,g,[],rfl,h,rfl,rfl,rfl,rfl,⟨o,hd,rfl⟩,fun y hy=>by cases hy⟩
 |(run,v',lo,hi,hide)::cs,l,⟨pre,g',rest,h1,h2,h3,h4,h5,h6,h7,h8⟩=>⟨pre,g',rest++[g],by grind,h2,h3,h4,h5,h6,h7,zeM hd cs rest h8⟩
theorem zfA{β:Type}(bs:List Nat)(es:List Bool)(k:Fr→Za→Option β)(x:β):
  ∀(os:List Oper) (i:Nat) (t:Tr Zb) (h:Za) (c:Nat) (hs:List Za) (cs:List CkG) (mks:List (Nat×Nat×Zf)) (l0:List GE),zu7 P nt ops call cs l0→
   zdS P nt ops call bs es n0 i os (xS t) h c hs cs mks k=some x→
   ∃l t' h',evG call n0 i (xk P nt ops bs es i os) t h=some (l,t',h')∧uy call n0 (mks++zhN n0 c i l) (hs++hsG l) (l0++l)=true∧k (xS t') h'=some x∧∀i,i∉os.filterMap (·.dst)→xS t' i=xS t i
 | [],i,t,h,c,hs,cs,mks,l0,hc,e=>by
  simp only[zdS]at e;cases hq:zi4 n0 mks hs cs with
  |false=>grind
  |true=>rw[hq]at e;exact⟨[],t,h,rfl,by grind[zhN,hsG,zpc],e,fun _ _=>rfl⟩
 |o::os,i,t,h,c,hs,cs,mks,l0,hc,e=>by
  have agree:∀(t2 t':Tr Zb) (v:Zb),(yS P nt ops o).dst=o.dst.map bn→t2=zcD t v (yS P nt ops o).dst→(∀i,i∉os.filterMap (·.dst)→xS t' i=xS t2 i)→∀i,i∉(o::os).filterMap (·.dst)→xS t' i=xS t i:=by
   intro t2 t' v hd h2 H i hi;subst h2;simp only[List.filterMap_cons]at hi;rw[H i (fun hm=>hi (by grind)),hd,wG]
   grind[xD]
  simp only[zdS]at e;simp only[xk,evG,stepG];cases hm:qD o.op with
  |true=>
   rw[hm]at e;have ha:anchor P o.op=false:=by grind[anchor]
   simp only[Yza,bindR]at e ⊢;split at e
   ·rename_i v h' hq;rw[←qu]at hq;obtain⟨e1,e2⟩:=qr ops o call _ _ v h' hq;rw[←wG,←e2]at e;rw[e1];simp only
    let g:GE:=⟨⟨yS P nt ops o,(o.looksAt ops).map bn,anchor P o.op,true,ce (fun j=>bef bs j i) 0 es,ce (fun j=>!bef bs i j) 0 es,yG bs i 0 ops.toList⟩,u6 t ((o.looksAt ops).map bn),v,h,⟨h.n,h'.t⟩⟩
    obtain⟨l,t',h2,k1,k2,k3,k4⟩:=zfA bs es k x os _ _ _ _ _ _ _ (l0++[g]) (zgn (x:=g) (by grind) cs l0 hc) e;rw[k1];refine⟨_,_,_,rfl,?_,k3,agree _ _ v e2 rfl k4⟩;simp only[zhN,hsG,ha,Yza,Yzc];rw[YzG]at k2;simp only[List.singleton_append,YzG]at k2;simp only[mk1]at k2
    grind
   ·cases e
  |false=>
   rw[hm]at e;simp only[Yzc,bindR]at e ⊢;split at e
   ·rename_i v h' hq;rw[←qu]at hq;obtain⟨e1,e2⟩:=qr ops o call _ _ v h' hq;rw[←wG,←e2]at e;rw[e1];simp only;cases ha:anchor P o.op with
    |true=>
     rw[ha]at e;simp only[Yza]at e ⊢;split at e
     ·rename_i t1 ht;rw[ht];simp only
      let g:GE:=⟨⟨yS P nt ops o,(o.looksAt ops).map bn,true,false,ce (fun j=>bef bs j i) 0 es,ce (fun j=>!bef bs i j) 0 es,yG bs i 0 ops.toList⟩,u6 t ((o.looksAt ops).map bn),v,h,⟨h'.n,t1⟩⟩
      obtain⟨l,t',h2,k1,k2,k3,k4⟩:=zfA bs es k x os _ _ _ _ _ _ _ (l0++[g]) (zgn (x:=g) rfl cs l0 hc) e;rw[k1];refine⟨_,_,_,rfl,?_,k3,agree _ _ v e2 rfl k4⟩
      grind[zhN,hsG]
     ·cases e
    |false=>
     rw[ha,←qu]at e;simp only[Yzc]at e ⊢
     let g:GE:=⟨⟨yS P nt ops o,(o.looksAt ops).map bn,false,false,ce (fun j=>bef bs j i) 0 es,ce (fun j=>!bef bs i j) 0 es,yG bs i 0 ops.toList⟩,u6 t ((o.looksAt ops).map bn),v,h,h⟩
     obtain⟨l,t',h2,k1,k2,k3,k4⟩:=zfA bs es k x os _ _ _ _ _ _ _ (l0++[g]) (zeM (g:=g) rfl cs l0 hc) e;rw[k1];refine⟨_,_,_,rfl,?_,k3,agree _ _ v e2 rfl k4⟩
     grind[zhN,hsG]
   ·cases e
theorem zbX(bs:List Nat)(es:List Bool):∀(os:List Oper) (i:Nat),(xk P nt ops bs es i os).length=os.length
 | [],_=>rfl
 |o::os,i=>by simp only[xk,Yzm,zbX bs es os]
end
theorem znX:∀(l:List Zb) (n:Nat),zy4 l n=(l[n]?).getD z8
 | [],_=>rfl
 |v::l,n=>by
  cases n with
  |zero=>rfl
  |succ n=>simp only[zy4,Yzr];exact znX l n
theorem zj9{r s:Fr}(V:List Nat):∀(W:List Nat) (k:Nat),(∀n w,W[n]? = some w→V[k+n]? = some w)→∀i,(i∉W→s i=r i)→zlM W k r (V.map s) i=s i
 | [],k,_,i,h=>(h (by simp)).symm
 |w::W,k,hW,i,h=>by
  simp only[zlM];cases hq:Nat.beq i w with
  |true=>have:=hW 0 w rfl;simp_all[znX]
  |false=>
   simp only[Yzc];refine zj9 V W (k+1) (fun n w' hn=>?_) i (fun hi=>h ?_)
   ·have:=hW (n+1) w' hn
    grind
   ·intro hm;simp_all
theorem zc7{W:List Nat}{r s:Fr}(h:∀i,i∉W→s i=r i):zlM W 0 r (W.map s)=s:=
 funext fun i=>zj9 W W 0 (fun n w hn=>by rwa [Yzi]) i (h i)
theorem zfp{call:zg}{f fn:Nat}{ro:Option BN}{top:Bool}{c:Code}{r0:Fr} (H:∀(β:Type) (t:Tr Zb) (d:List BN) (h:Za) (k:KK β) (x:β),yV P nt call f fn top c (xS t) h d k=some x→
   ∃e t' h' d',zQ P nt c call f fn ro ⟨t,d,h⟩=some (e,⟨t',d',h'⟩)∧k e (xS t') h' d'=some x∧∀i,i∉writes c→xS t' i=xS t i):
  ∀(n:Nat) (t:Tr Zb) (d:List BN) (h:Za) (e:Zg) (ys:List Zb) (h':Za) (d':List BN),(∀i,i∉writes c→xS t i=r0 i)→
   zb2 (fun ys h d=>yV P nt call f fn top c (zlM (writes c) 0 r0 ys) h d (fun e s h d=>some (e,(writes c).map s,h,d))) n ((writes c).map (xS t)) h d=some (e,ys,h',d')→
   ∃t',zg4 (zQ P nt c call f fn ro) n ⟨t,d,h⟩=some (e,⟨t',d',h'⟩)∧ys=(writes c).map (xS t')∧∀i,i∉writes c→xS t' i=r0 i
 |0,_,_,_,_,_,_,_,_,e=>by cases e
 |n+1,t,d,h,e,ys,h',d',ht,hh=>by
  simp only[zb2]at hh;rw[zc7 ht]at hh;have hN:zg4 (zQ P nt c call f fn ro) (n+1) ⟨t,d,h⟩=(match zQ P nt c call f fn ro ⟨t,d,h⟩ with
   |some (.normal,s')=>zg4 (zQ P nt c call f fn ro) n s'
   |r=>r):=rfl
  rw[hN];split at hh
  ·rename_i r1 h1 d1 hq;obtain⟨e1,t1,h2,d2,k1,k2,k3⟩:=H _ t d h _ _ hq;cases k2;rw[k1];exact zfp H n t1 d1 h1 e ys h' d' (fun i hi=>(k3 i hi).trans (ht i hi)) hh
  ·rename_i x hx;obtain⟨e1,t1,h2,d2,k1,k2,k3⟩:=H _ t d h _ _ hh;cases k2;rw[k1];cases e with
   |normal=>exact(hx _ _ _ hh).elim
   |exit id=>exact⟨t1,rfl,rfl,fun i hi=>(k3 i hi).trans (ht i hi)⟩
   |ret=>exact⟨t1,rfl,rfl,fun i hi=>(k3 i hi).trans (ht i hi)⟩
theorem zfB{call:zg}{f fn:Nat}{ro:Option BN}{top:Bool}(hro:top=true→ro=none)(c:Code):∀(β:Type) (t:Tr Zb) (d:List BN) (h:Za) (k:KK β) (x:β),yV P nt call f fn top c (xS t) h d k=some x→
  ∃e t' h' d',zQ P nt c call f fn ro ⟨t,d,h⟩=some (e,⟨t',d',h'⟩)∧k e (xS t') h' d'=some x∧∀i,i∉writes c→xS t' i=xS t i:=by
 induction c with
 |skip=>exact fun β t d h k x e=>⟨.normal,t,h,d,rfl,e,fun _ _=>rfl⟩
 |region id ops draw=>
  intro β t d h k x e;simp only[yV]at e;simp only[zQ];cases draw with
  |false=>simp only[Yzc]at e ⊢;obtain⟨t',h',k1,k2,k3⟩:=zoB ops call ops.toList t h _ x e;exact⟨.normal,t',h',d,by simp only[zyU,k1];rfl,k2,k3⟩
  |true=>
   simp only[Yza]at e ⊢;cases hq:P.follows .mixedOrders&&zaX P ops (xq ops.toList) with
   |false=>
    rw[hq]at e;simp only[Yzc]at e ⊢;cases hq2:P.follows .mixedOrders&&jM P ops (xq ops.toList) with
    |false=>grind
    |true=>
     rw[hq2]at e;simp only[Yza]at e ⊢;obtain⟨l,t',h',k1,k2,k3,k4⟩:=zfA (call:=call) (n0:=h.n.toNat) _ _ _ x ops.toList 0 t _ 0 _ [] [] [] (fun y hy=>by cases hy) e;refine⟨.normal,t',h',d,?_,k3,k4⟩;simp only[zkC,ul,zbX]
     grind
   |true=>
    rw[hq]at e;simp only[Yza]at e ⊢;obtain⟨l,t',hs',k1,k2,k3,k4,k5⟩:=zoC ops call _ _ _ x ops.toList 0 t h [] [] [] (fun y hy=>by cases hy) e;refine⟨.normal,t',zfx h hs',d,?_,k4,k5⟩
    grind[zkD,zbZ]
 |seq a b iha ihb=>
  intro β t d h k x e;simp only[yV]at e;obtain⟨e1,t1,h1,d1,k1,k2,k3⟩:=iha β t d h _ x e;simp only[zQ,zBb];rw[k1];have hw:∀i,i∉writes (a.seq b)→i∉writes a∧i∉writes b:=fun i hi=>by grind[writes]
  cases e1 with
  |normal=>obtain⟨e2,t2,h2,d2,j1,j2,j3⟩:=ihb β t1 d1 h1 k x k2;exact⟨e2,t2,h2,d2,j1,j2,fun i hi=>(j3 i (hw i hi).2).trans (k3 i (hw i hi).1)⟩
  |exit id=>exact⟨_,t1,h1,d1,rfl,k2,fun i hi=>k3 i (hw i hi).1⟩
  |ret=>exact⟨_,t1,h1,d1,rfl,k2,fun i hi=>k3 i (hw i hi).1⟩
 |cond c a b iha ihb=>
  intro β t d h k x e;simp only[yV]at e;simp only[zQ];have hw:∀i,i∉writes (Code.cond c a b)→i∉writes a∧i∉writes b:=fun i hi=>by grind[writes]
  rcases zM (t:=t) c with⟨h1,h2⟩|⟨p,q,h1,h2,h3⟩
  ·grind
  ·rw[h1]at e;rw[h2];simp only[ifK,zuL]at e ⊢;rw[h3]at e;split at e
   ·rename_i qq hqq;rw[hqq];cases qq with
    |true=>
     obtain⟨e2,t2,h2,d2,j1,j2,j3⟩:=iha β t d h k x e
     grind
    |false=>
     obtain⟨e2,t2,h2,d2,j1,j2,j3⟩:=ihb β t d h k x e
     grind
   ·cases e
 |block id c ih=>
  intro β t d h k x e;simp only[yV]at e;obtain⟨e1,t1,h1,d1,k1,k2,k3⟩:=ih β t d h _ x e;simp only[zQ,zst];rw[k1];cases e1 with
  |normal=>exact⟨_,t1,h1,d1,rfl,k2,k3⟩
  |ret=>exact⟨_,t1,h1,d1,rfl,k2,k3⟩
  |exit id'=>
   simp only[zy0,zv9]at k2 ⊢;cases hq:Nat.beq id' id with
   |true=>rw[hq]at k2;exact⟨_,t1,h1,d1,rfl,k2,k3⟩
   |false=>rw[hq]at k2;exact⟨_,t1,h1,d1,rfl,k2,k3⟩
 |loop c ih=>
  intro β t d h k x e;simp only[yV,bindX]at e;simp only[zQ,zwz];split at e
  ·rename_i id ys h1 d1 hq;obtain⟨t',k1,k2,k3⟩:=zfp ih f t d h _ ys h1 d1 (fun _ _=>rfl) hq;rw[k2,zc7 k3]at e;exact⟨_,t',h1,d1,k1,e,k3⟩
  ·rename_i ys h1 d1 hq;obtain⟨t',k1,k2,k3⟩:=zfp ih f t d h _ ys h1 d1 (fun _ _=>rfl) hq;rw[k2,zc7 k3]at e;exact⟨_,t',h1,d1,k1,e,k3⟩
  ·cases e
 |rangeFunc g ps assign body=>
  intro β t d h k x e;simp only[yV]at e;cases top with
  |false=>cases e
  |true=>
  obtain rfl:=hro rfl;simp only[Yza]at e;simp only[zQ];rcases zM (t:=t) g with⟨h1,h2⟩|⟨p,q,h1,h2,h3⟩
  ·rw[h1]at e;cases e
  ·rw[h1]at e;rw[h2];simp only[znl,zjJ]at e ⊢;rw[h3]at e;split at e
   ·rename_i gf caps hq;rw[hq];simp only;unfold rangeK at e;split at e
    ·rename_i v hh hc;split at e
     ·rename_i st pend lf ln lt lps la lb ld hl;have hc':call (.inl gf) ([.s (.one (.yld (h.new .defer).n))]++caps.map fun p=>.s (.one (.ptr p.1 p.2))) ((h.new .defer).new (.loop .ready none fn nt (wy (fun i=>zbF (bn i) t) nt) ps assign body h.n))=some (v,hh):=hc;cases st with
      |busy=>cases e
      |ready=>exact⟨_,t,_,_,by rw[hc'];simp only[zed,hl],e,fun _ _=>rfl⟩
      |done=>exact⟨_,t,_,_,by rw[hc'];simp only[zed,hl],e,fun _ _=>rfl⟩
      |exhausted=>exact⟨_,t,_,_,by rw[hc'];simp only[zed,hl],e,fun _ _=>rfl⟩
     ·cases e
    ·cases e
   ·cases e
 |exit id=>exact fun β t d h k x e=>⟨.exit id,t,h,d,rfl,e,fun _ _=>rfl⟩
 |ret=>exact fun β t d h k x e=>⟨.ret,t,h,d,rfl,e,fun _ _=>rfl⟩
 |_=>grind[yV]
theorem ze4(t:Tr Zb)(h:Za):∀(l:List ResultVar) (rs:List (BN×Option (Option Nat))),zgd P l=some rs→qB P (xS t) h l=kV t h rs
 | [],rs,e=>by cases e;rfl
 | .tmp i::l,rs,e=>by
  simp only[zgd]at e;split at e
  ·rename_i rs' hq;cases e;simp only[qB,kV];rw[ze4 t h l rs' hq];simp only[zbb,zeD,zyR,xS,zbF];cases t.get (bn i) with
   |none=>rfl
   |some v=>cases v<;>rfl
  ·cases e
 | .cell i ty::l,rs,e=>by
  simp only[zgd]at e;split at e
  ·rename_i n rs' hn hq;cases e;simp only[qB,kV];rw[ze4 t h l rs' hq];simp only[zbb,zeD,zyS,xS,zbF,hn];cases t.get (bn i) with
   |none=>rfl
   |some v=>
    cases v with
    |tup _=>rfl
    |s v=>cases v with
     |agg _=>rfl
     |one c=>cases c<;>rfl
  ·cases e
theorem zxl(P:Program)(g:Nat):cFs (yP P) g=(P.funcs[g]?).bind (zi8 P):=by
 unfold cFs yP;have:=uM (P.funcs.toList.map (zi8 P)) 0 .nil g;rw[show bn 0=BN.z from rfl]at this;rw[this];simp only[Nat.not_lt_zero,if_false,Nat.sub_zero,Lz6,LzA];have hn:(Tr.nil:Tr (Option Zk)).get (bn g)=none:=by simp
 grind
theorem zuk{g:Nat}{call:zg}{f:Nat}{args:List Zb}{h:Za}{x:Zb×Za}(e:zri P g call f args h=some x):zoU (cFs (yP P)) call f g args h=some x:=by
 unfold zri at e;unfold zoU;rw[zxl];cases hf:P.funcs[g]? with
 |none=>grind
 |some fn=>
  rw[hf]at e;simp only[YzK]at e ⊢;unfold zi8;cases hb:fn.body with
  |none=>grind
  |some c=>
   rw[hb]at e;simp only at e ⊢;cases hr:zgd P fn.results.toList with
   |none=>grind
   |some rs=>
    rw[hr]at e;simp only[Option.isNone_some,Yz9]at e ⊢;cases hn:fn.name == "runtime.NumGoroutine" with
    |true=>grind
    |false=>
     rw[hn]at e;simp only[Yzc]at e ⊢;cases hl:zre args fn.ntmps with
     |false=>grind
     |true=>
      rw[hl]at e;simp only[Yza]at e ⊢;obtain⟨e1,t1,h1,d1,k1,k2,_⟩:=zfB (fn:=g) (ro:=none) (fun _=>rfl) c _ _ [] h _ _ e;rw[k1];cases e1 with
      |exit id=>cases k2
      |normal=>
       simp only[zfZ]at k2;split at k2
       ·rename_i h2 hs;simp only[leave,hs];rw[ze4 _ _ _ _ hr]at k2;exact k2
       ·cases k2
      |ret=>
       simp only[zfZ]at k2;split at k2
       ·rename_i h2 hs;simp only[leave,hs];rw[ze4 _ _ _ _ hr]at k2;exact k2
       ·cases k2
theorem zoA{call:zg}{f:Nat}{l:BN}{args:List Zb}{h:Za}{x:Zb×Za}(e:zev P call f l args h=some x):zdq (zQ P) call f l args h=some x:=by
 unfold zev at e;unfold zdq;split at e
 ·rename_i lf ln lt lps la lb ld hl;rw[hl];simp only;split at e
  ·rename_i t ht;rw[ht];simp only;obtain⟨e1,t1,h1,d1,k1,k2,_⟩:=zfB (fn:=lf) (ro:=some l) (fun h=>by cases h) la _ t [] h _ _ e;rw[k1];cases e1 with
   |exit id=>cases k2
   |ret=>cases k2
   |normal=>
    cases d1 with
    |cons _ _=>cases k2
    |nil=>
     simp only at k2 ⊢;split at k2
     ·rename_i h2 hb;rw[hb];simp only;obtain⟨e2,t2,h3,d2,j1,j2,_⟩:=zfB (fn:=lf) (ro:=some l) (fun h=>by cases h) lb _ t1 [] h2 _ _ k2;rw[j1];cases d2 with
      |cons _ _=>cases j2
      |nil=>exact j2
     ·cases k2
  ·cases e
 ·cases e
end
end Go.CE
end
section
namespace Go.CE
noncomputable section
def yw:zg:=fun _ _ _=>none
def cP(l:List (Nat×Nat×Zb)):List (Nat×Nat×Opd):=l.map fun p=>(p.1,p.2.1,zq p.2.2)
def cL(l:List Zb):List Opd:=l.map zq
def cO:Option Zb→Option Opd
 |none=>none
 |some v=>some (zq v)
def zp2(c a b:Zb)(h:Za):Res:=j6 (zq c) (zq a) (zq b) yw .nil h
def zvw(zs:List Zc)(h:Za):Res:=zc1 zs yw .nil h
def zBW(x:Zb)(h:Za):Res:=zfk (zq x) yw .nil h
def zmC(zs:List Zc)(l:List (Nat×Nat×Zb))(h:Za):Res:=ui zs (cP l) yw .nil h
def zsO(st len:Nat)(zs:List Zc)(l:List (Nat×Nat×Zb))(h:Za):Res:=vI st len zs (cP l) yw .nil h
def zp5(n:Option Nat)(x:Zb)(h:Za):Res:=j9 n (zq x) yw .nil h
def zvu(n:Nat)(x v:Zb)(h:Za):Res:=zbf n (zq x) (zq v) yw .nil h
def zjq(x:Zb)(h:Za):Res:=ud (zq x) yw .nil h
def zyO(g:IntKind→Int→Int→Option Zc)(x y:Zb)(h:Za):Res:=zb1 g (zq x) (zq y) yw .nil h
def zjp(g:IntKind→Int→Int→Option Zc)(x y:Zb)(h:Za):Res:=wQ g (zq x) (zq y) yw .nil h
def zyK(op:BinOp)(x y:Zb)(h:Za):Res:=zcV op (zq x) (zq y) yw .nil h
def vEq(ks:Nat⊕List Nat)(neg:Bool)(x y:Zb)(h:Za):Res:=zjW ks neg (zq x) (zq y) yw .nil h
def zmA(neg:Bool)(x y:Zb)(h:Za):Res:=uL neg (zq x) (zq y) yw .nil h
def zyL(x:Zb)(h:Za):Res:=zcW (zq x) yw .nil h
def zyM(x:Zb)(h:Za):Res:=zcX (zq x) yw .nil h
def zp8(k:IntKind)(x:Zb)(h:Za):Res:=kF k (zq x) yw .nil h
def zp4(f:Nat)(caps:List Zb)(h:Za):Res:=j8 f (cL caps) yw .nil h
def zvv(h:Za):Res:=zcZ yw .nil h
def zp3(st:Nat)(zs:List Zc)(bytes:Nat)(l c:Zb)(h:Za):Res:=we st zs bytes (zq l) (zq c) yw .nil h
def vz(st:Nat)(x:Zb)(lo hi mx:Option Zb)(h:Za):Res:=ub st (zq x) (cO lo) (cO hi) (cO mx) yw .nil h
def zeQ(x:Zb)(lo hi:Option Zb)(h:Za):Res:=xW (zq x) (cO lo) (cO hi) yw .nil h
def zp7(x:Zb)(off:Nat)(h:Za):Res:=kE (zq x) off yw .nil h
def zju(x:Zb)(off:Nat)(n:Option Nat)(h:Za):Res:=uh (zq x) off n yw .nil h
def zyN(st:Nat)(x i:Zb)(h:Za):Res:=zc0 st (zq x) (zq i) yw .nil h
def zjs(len st:Nat)(x i:Zb)(h:Za):Res:=uf len st (zq x) (zq i) yw .nil h
def zjt(len st:Nat)(n:Option Nat)(x i:Zb)(h:Za):Res:=ug len st n (zq x) (zq i) yw .nil h
def zjr(x i:Zb)(h:Za):Res:=ue (zq x) (zq i) yw .nil h
def zsN(q:Nat⊕List Nat)(z:SVal)(ok:Bool)(m k:Zb)(h:Za):Res:=wX q z ok (zq m) (zq k) yw .nil h
def zzj(q:Nat⊕List Nat)(m k v:Zb)(h:Za):Res:=zcY q (zq m) (zq k) (zq v) yw .nil h
def zb7(x:Zb)(i:Nat)(h:Za):Res:=xL (zq x) i yw .nil h
def zp6(x:Zb)(h:Za):Res:=ki (zq x) yw .nil h
def zmB(x:Zb)(h:Za):Res:=kC (zq x) yw .nil h
def zzk(x:Zb)(h:Za):Res:=qH (zq x) yw .nil h
def zsP(str:Bool)(st bytes:Nat)(s x:Zb)(h:Za):Res:=xX str st bytes (zq s) (zq x) yw .nil h
def zeR(m:Bool)(x:Zb)(xs:List Zb)(h:Za):Res:=xh m (zq x) (cL xs) yw .nil h
def zrW(st:Nat)(zs:List Zc)(x:Zb)(h:Za):Res:=zbg st zs (zq x) yw .nil h
def zzm(call:zg)(f:Zb)(args:List Zb)(h:Za):Res:=zeh (zq f) (cL args) call .nil h
end
end Go.CE
end
section
namespace Go.CE
def Ev{α:Type}(m:Nat→Option α)(Q:α→Prop):Prop:=∃a,Q a∧∃N,∀n,N≤n→m n=some a
theorem Ev.some{α:Type}{a:α}{Q:α→Prop}(h:Q a):Ev (fun _=>some a) Q:=⟨a,h,0,fun _ _=>rfl⟩
theorem Ev.mono{α:Type}{m:Nat→Option α}{Q Q':α→Prop}(h:Ev m Q)(hq:∀a,Q a→Q' a):Ev m Q':=by obtain⟨a,h1,h2⟩:=h;exact⟨a,hq a h1,h2⟩
theorem Ev.bindR{β:Type}{m:Nat→Res}{k:Nat→Zb→Za→Option β}{Q:β→Prop}(h:Ev m (fun p=>Ev (fun n=>k n p.1 p.2) Q)):Ev (fun n=>CE.bindR (m n) (k n)) Q:=by
 obtain⟨⟨v,h'⟩,⟨x,h1,N1,h2⟩,N2,h3⟩:=h;refine⟨x,h1,max N1 N2,fun n hn=>?_⟩
 grind[CE.bindR]
theorem Ev.bindX{β:Type}{m:Nat→Option (Zg×List Zb×Za×List BN)}{kx:Nat→Nat→List Zb→Za→List BN→Option β}{kr:Nat→List Zb→Za→List BN→Option β}{Q:β→Prop}
  (h : Ev m (fun p => match p.1 with
   | .exit id=>Ev (fun n=>kx n id p.2.1 p.2.2.1 p.2.2.2) Q
   | .ret=>Ev (fun n=>kr n p.2.1 p.2.2.1 p.2.2.2) Q
   | .normal=>False)):Ev (fun n=>CE.bindX (m n) (kx n) (kr n)) Q:=by
 obtain⟨⟨e,ys,h',d'⟩,h1,N2,h3⟩:=h;cases e with
 |normal=>trivial
 |exit id=>obtain⟨x,h1,N1,h2⟩:=h1;exact⟨x,h1,max N1 N2,fun n hn=>by grind[CE.bindX]⟩
 |ret=>obtain⟨x,h1,N1,h2⟩:=h1;exact⟨x,h1,max N1 N2,fun n hn=>by grind[CE.bindX]⟩
theorem Ev.loop{c:Nat→List Zb→Za→List BN→Option (Zg×List Zb×Za×List BN)}{Q:Zg×List Zb×Za×List BN→Prop}(I:Nat→List Zb→Za→List BN→Prop)
  (H : ∀ k ys h d, I k ys h d → Ev (fun n => c n ys h d) (fun p => match p.1 with
   | .normal=>∃k',k'<k∧I k' p.2.1 p.2.2.1 p.2.2.2
   |e=>Q (e,p.2.1,p.2.2.1,p.2.2.2))):
  ∀k ys h d,I k ys h d→Ev (fun n=>zb2 (c n) n ys h d) Q:=by
 have key:∀K k ys h d,k≤K→I k ys h d→∃a,Q a∧∃N,∀n,N≤n→∀f,N≤f→zb2 (c n) f ys h d=Option.some a:=by
  intro K
  induction K with
  |zero=>
   intro k ys h d hk hi;obtain⟨⟨e,ys',h',d'⟩,h1,N,h2⟩:=H k ys h d hi;cases e with
   |normal=>obtain⟨k',hk',_⟩:=h1;omega
   |exit id=>
    refine⟨_,h1,N+1,fun n hn f hf=>?_⟩;cases f with
    |zero=>omega
    |succ f=>simp only[zb2,h2 n (by omega)]
   |ret=>
    refine⟨_,h1,N+1,fun n hn f hf=>?_⟩;cases f with
    |zero=>omega
    |succ f=>simp only[zb2,h2 n (by omega)]
  |succ K ih=>
   intro k ys h d hk hi;obtain⟨⟨e,ys',h',d'⟩,h1,N,h2⟩:=H k ys h d hi;cases e with
   |normal=>
    obtain⟨k',hk',hi'⟩:=h1;obtain⟨a,ha,N',h3⟩:=ih k' ys' h' d' (by omega) hi';refine⟨a,ha,max N N'+1,fun n hn f hf=>?_⟩;cases f with
    |zero=>omega
    |succ f=>simp only[zb2,h2 n (by omega)];exact h3 n (by omega) f (by omega)
   |exit id=>
    refine⟨_,h1,N+1,fun n hn f hf=>?_⟩;cases f with
    |zero=>omega
    |succ f=>simp only[zb2,h2 n (by omega)]
   |ret=>
    refine⟨_,h1,N+1,fun n hn f hf=>?_⟩;cases f with
    |zero=>omega
    |succ f=>simp only[zb2,h2 n (by omega)]
 intro k ys h d hi;obtain⟨a,ha,N,h1⟩:=key k k ys h d (LzB _) hi;exact⟨a,ha,N,fun n hn=>h1 n hn n hn⟩
def HW(h:Za):Prop:=∀b o,h.t.get b=some o→b.toNat<h.n.toNat
structure Gr (h h':Za):Prop where
 le:h.n.toNat≤h'.n.toNat
 old:∀b:BN,b.toNat<h.n.toNat→h'.t.get b=h.t.get b
theorem Gr.refl(h:Za):Gr h h:=⟨LzB _,fun _ _=>rfl⟩
theorem Gr.get{h h':Za}(g:Gr h h')(w:HW h){b:BN}{o:Zf}(e:h.t.get b=some o):h'.t.get b=some o:=(g.old b (w b o e)).trans e
theorem HW.new{h:Za}(w:HW h)(o:Zf):HW (h.new o):=fun b o' e=>by
 simp only[Za.new]at e ⊢;rw[BN.toNat_succ];by_cases hb:b=h.n
 ·grind
 ·rw[zo _ _ _ _ hb]at e;have:=w b o' e;omega
theorem Gr.new(h:Za)(o:Zf):Gr h (h.new o):=⟨by grind[Za.new,BN.toNat_succ],fun b hb=>by grind[Za.new,zo]⟩
theorem HW.put{h:Za}(w:HW h){b:BN}{o o':Zf}(e:h.t.get b=some o):HW (h.put b o'):=fun c x hx=>by
 simp only[Za.put]at hx ⊢;by_cases hb:c=b
 ·rw[hb];exact w b o e
 ·rw[zo _ _ _ _ hb]at hx;exact w c x hx
theorem wW(h:Za)(b:BN)(o:Zf):(h.put b o).t.get b=some o:=zx _ _ _
theorem xK(h:Za){b c:BN}(o:Zf)(hc:c≠b):(h.put b o).t.get c=h.t.get c:=zo _ _ _ _ hc
theorem zkx:∀v:Zb,eqA v v=true:=by
 have hbn:∀a:BN,zl5 a a=true:=fun a=>by induction a with|z=>rfl|o n ih=>exact ih|d n ih=>exact ih
 have hn:∀a:Nat,Nat.beq a a=true:=Yzp;have hps:∀l:List (BN×Nat),zxb l l=true:=fun l=>by induction l<;>grind[zxb]
 have hu:∀l:List UInt8,eqU l l=true:=fun l=>by induction l<;>grind[eqU]
 have hb:∀b:Bool,eqB b b=true:=fun b=>by cases b<;>rfl
 have hi:∀i:Int,eqI i i=true:=fun i=>by cases i<;>exact hn _
 have hk:∀k:IntKind,eqK k k=true:=fun k=>by cases k<;>rfl
 have hv:∀c:Zc,eqV c c=true:=fun c=>by cases c<;>simp only[eqV,hbn,hn,hps,hu,hb,hi,hk,Bool.and_self]
 have hvs:∀l:List Zc,zvl l l=true:=fun l=>by induction l<;>grind[zvl]
 have hsv:∀v:SVal,zw9 v v=true:=fun v=>by cases v<;>simp only[zw9,hv,hvs]
 have hss:∀l:List SVal,zxa l l=true:=fun l=>by induction l<;>grind[zxa]
 intro v;cases v<;>simp only[eqA,hsv,hss]
end Go.CE
end
section
namespace Go.CE
theorem Ev.call{P:Program}{sums:List Sum}{srt:Nat→Option Srt}{g:Nat}{args:List Zb}{h:Za}{Q:Zb×Za→Prop}(ht:srt g=none)(hs:wt g args h sums=none)
  (H:Ev (fun n=>zri P g (zN (zQ P) (cFs (yP P)) sums srt n) n args h) Q):Ev (fun n=>zN (zQ P) (cFs (yP P)) sums srt n (.inl g) args h) Q:=by
 obtain⟨x,hx,N,hN⟩:=H;refine⟨x,hx,N+1,fun n hn=>?_⟩;cases n with
 |zero=>omega
 |succ n=>have e:=zuk (hN n (by omega));have:zN (zQ P) (cFs (yP P)) sums srt (n+1) (.inl g) args h=zct srt (zcu sums (zbU (zQ P) (cFs (yP P)) (zN (zQ P) (cFs (yP P)) sums srt n) n)) (.inl g) args h:=rfl;show zN (zQ P) (cFs (yP P)) sums srt (n+1) (.inl g) args h=_;rw[this];unfold zct zcu;simp only[ht,hs];exact e
theorem Ev.round{P:Program}{sums:List Sum}{srt:Nat→Option Srt}{l:BN}{args:List Zb}{h:Za}{Q:Zb×Za→Prop}
  (H:Ev (fun n=>zev P (zN (zQ P) (cFs (yP P)) sums srt n) n l args h) Q):Ev (fun n=>zN (zQ P) (cFs (yP P)) sums srt n (.inr l) args h) Q:=by
 obtain⟨x,hx,N,hN⟩:=H;refine⟨x,hx,N+1,fun n hn=>?_⟩;cases n with
 |zero=>omega
 |succ n=>have e:=zoA (hN n (by omega));have:zN (zQ P) (cFs (yP P)) sums srt (n+1) (.inr l) args h=zct srt (zcu sums (zbU (zQ P) (cFs (yP P)) (zN (zQ P) (cFs (yP P)) sums srt n) n)) (.inr l) args h:=rfl;show zN (zQ P) (cFs (yP P)) sums srt (n+1) (.inr l) args h=_;rw[this];unfold zct zcu;exact e
theorem Ev.sum{P:Program}{fs:Nat→Option Zk}{sums:List Sum}{srt:Nat→Option Srt}{g:Nat}{args:List Zb}{h:Za}{v:Zb}(ht:srt g=none)(hs:wt g args h sums=Option.some v):
  Ev (fun n=>zN (zQ P) fs sums srt n (.inl g) args h) (fun p=>p=(v,h)):=by
 refine⟨_,rfl,1,fun n hn=>?_⟩;cases n with
 |zero=>omega
 |succ n=>
  have:zN (zQ P) fs sums srt (n+1) (.inl g) args h=zct srt (zcu sums (zbU (zQ P) fs (zN (zQ P) fs sums srt n) n)) (.inl g) args h:=rfl
  grind[zct,zcu]
theorem Ev.sort{P:Program}{fs:Nat→Option Zk}{sums:List Sum}{srt:Nat→Option Srt}{g:Nat}{t:Srt}{args:List Zb}{h h2:Za}{v:Zb}(ht:srt g=Option.some t)(hs:zbH t args h=Option.some (v,h2)):
  Ev (fun n=>zN (zQ P) fs sums srt n (.inl g) args h) (fun p=>p=(v,h2)):=by
 refine⟨_,rfl,1,fun n hn=>?_⟩;cases n with
 |zero=>omega
 |succ n=>
  have:zN (zQ P) fs sums srt (n+1) (.inl g) args h=zct srt (zcu sums (zbU (zQ P) fs (zN (zQ P) fs sums srt n) n)) (.inl g) args h:=rfl
  grind[zct]
def rd(n off:Nat):Zf→Option (List Zc)
 | .cells cs _=>cut n cs off
 | .ro _ f=>zdw f n off
 | .void=>bif Nat.beq n 0 then some [] else none
 |_=>none
def Sl{α:Type}(st:Nat)(R:Za→List Zc→α→Prop)(h:Za)(c:Zc)(l:List α):Prop:=
 (c=.nils∧l=[])∨∃b off cap ex,c=.slc b off l.length cap ex∧∀i x,l[i]? = some x→∃o ds,h.t.get b=some o∧rd st (off+i*st) o=some ds∧R h ds x
theorem zuK{cs:List Zc}{i:Nat}{c:Zc}(h:cut 1 cs i=some [c]):jH cs i=some c:=by rw[x6];have:=(zbt h).2 0 c rfl;omega
theorem zv3{o:Zf}{off:Nat}{c:Zc}{h:Za}(e:rd 1 off o=some [c]):loadAt none h off (some o)=some (.s (.one c),h):=by
 cases o with
 |cells cs st=>show za6 h (jH cs off)=_;rw[zuK e];rfl
 |ro x f=>
  show za6 h (f off)=_;simp only[rd,zdw]at e;cases hf:f off with
  |none=>grind
  |some d=>rw[hf]at e;cases e;rfl
 |_=>cases e
end Go.CE
end
section
namespace Go.CE
theorem zdZ:∀l:List Zc,takeN l.length l=some l
 | []=>rfl
 |c::l=>by simp only[Yzm,takeN,zdZ l,wA]
theorem zcn(l:List Zc):cut l.length l 0=some l:=by
 cases l with
 |nil=>rfl
 |cons c l=>simp only[cut];exact zdZ (c::l)
end Go.CE
end
section
namespace Go.CE
open Go.RowKit
section
variable (w:World)
def zBg:Value→List Addr
 | .slice (some a) 0 0=>[a]
 |_=>[]
def zCd:Obj→List Addr
 | .cells arr _ _=>arr.toList.flatMap zBg
 |_=>[]
def zei(w:World):List Addr:=w.heap.toList.flatMap zCd
theorem zqM{w:World}{b:Nat}{arr:Array Value}{e:TypeId}{fr:Nat×Nat}{i:Nat}{a:Addr}(h:w.heap[b]? = some (.cells arr e fr))(hi:arr[i]? = some (.slice (some a) 0 0)):a∈zei w:=by
 unfold zei;refine List.mem_flatMap.2 ⟨.cells arr e fr,?_,List.mem_flatMap.2 ⟨.slice (some a) 0 0,?_,by simp[zBg]⟩⟩
 ·grind
 ·grind
def zb4(w:World)(k:Nat):Bool:=match w.heap[k]? with|some (.cells _ _ _)=>true|_=>false
theorem zdt{w:World}{k:Nat}(h:zb4 w k=true):∃arr e fr,w.heap[k]? = some (.cells arr e fr):=by grind[zb4]
theorem zkE{w:World}{k:Nat}(h:zb4 w k=true):k<w.heap.size:=by grind[zdt]
def zvj(a:Addr):List Addr→Nat
 | []=>0
 |x::l=>if x=a then 0 else zvj a l+1
theorem zfJ{a:Addr}:∀{l:List Addr},a∈l→l[zvj a l]? = some a
 | [],h=>by cases h
 |x::l,h=>by
  unfold zvj;by_cases hx:x=a
  ·grind
  ·rw[Yzb hx];rcases Yzw.1 h with h|h
   ·grind
   ·rw[Yzr];exact zfJ h
noncomputable def zmt(w:World):Value→Option Zc
 | .bool b=>some (.bool b)
 | .int k n=>some (.int k n)
 | .string s=>some (.str s)
 | .pointer none=>some .nilp
 | .pointer (some a)=>bif decide (a.block<w.heap.size∧a.spot=none) then some (.ptr (bn a.block) a.off) else none
 | .slice none len cap=>bif decide (len=0∧cap=0) then some .nils else none
 | .slice (some a) len cap=>
  bif decide (zb4 w a.block=true∧a.spot=none∧len≤cap) then some (.slc (bn a.block) a.off len cap true)
  else bif decide (len=0∧cap=0∧a∈zei w) then some (.slc (bn (w.heap.size+zvj a (zei w))) 0 0 0 true) else none
 | .map none=>some .nilm
 | .nilFunc=>some .nilf
 | .nilIface=>some .nili
 |_=>none
def φ0(w:World):Phi:=fun b=>
 if b.toNat<w.heap.size then⟨b.toNat,0,0,true,none⟩
 else match (zei w)[b.toNat-w.heap.size]? with|some a=>⟨a.block,a.off,0,true,a.spot⟩|none=>⟨b.toNat,0,0,true,none⟩
theorem zcs{b:BN}(h:b.toNat<w.heap.size):φ0 w b=⟨b.toNat,0,0,true,none⟩:=Yzd h
theorem zsH{i:Nat}{a:Addr}(h:(zei w)[i]? = some a):φ0 w (bn (w.heap.size+i))=⟨a.block,a.off,0,true,a.spot⟩:=by simp_all[φ0,Yzb,ye]
theorem zjj(b:BN):(φ0 w b).ok=true:=by grind[φ0]
noncomputable def ztf(w:World):Obj→Zf
 | .cells arr e fr=>.ro (some (.cells arr e fr)) (fun i=>(arr[i]?).bind (zmt w))
 |_=>.dead
noncomputable def zpQ(w:World)(k:Nat):Zf:=match w.heap[k]? with|some x=>ztf w x|none=>.dead
noncomputable def yC(w:World):Za:=⟨bn (w.heap.size+(zei w).length),Tr.ofList .z ((List.range w.heap.size).map (zpQ w)++(zei w).map fun _=>.void) .nil⟩
theorem wS(b:BN):(yC w).t.get b=if b.toNat<w.heap.size then some (zpQ w b.toNat) else if b.toNat<w.heap.size+(zei w).length then some .void else none:=by
 have e0:BN.z=bn 0:=rfl;show (Tr.ofList .z ((List.range w.heap.size).map (zpQ w)++(zei w).map fun _=>.void) .nil).get b=_;have:=uM ((List.range w.heap.size).map (zpQ w)++(zei w).map fun _=>Zf.void) 0 (.nil:Tr Zf) b.toNat;rw[wT,←e0]at this;rw[this];have hn:(Tr.nil:Tr Zf).get b=none:=by simp
 grind
theorem zaL:(yC w).n.toNat=w.heap.size+(zei w).length:=ye _
theorem zbQ{b:BN}{arr:Array Value}{e:TypeId}{fr:Nat×Nat}(h:w.heap[b.toNat]? = some (.cells arr e fr)):(yC w).t.get b=some (ztf w (.cells arr e fr)):=by
 rw[wS,Yzd (Lz7.1 h).1]
 grind[zpQ]
theorem zlW{i:Nat}(h:i<(zei w).length):(yC w).t.get (bn (w.heap.size+i))=some .void:=by simp_all[wS,ye,Yzb]
theorem zsB{v:Value}{c:Zc}(h:zmt w v=some c):zi (φ0 w) c=v∧wfC (φ0 w) (yC w).n.toNat c:=by
 rw[zaL];unfold zmt at h;split at h
 ·cases h;trivial
 ·cases h;trivial
 ·cases h;trivial
 ·cases h;trivial
 ·rename_i a;by_cases hc:a.block<w.heap.size∧a.spot=none
  ·rw[decide_eq_true hc]at h;cases h;obtain⟨b,off,sp⟩:=a;obtain⟨h1,rfl⟩:=hc;have hp:=zcs w (b:=bn b) (by grind[ye]);refine⟨?_,by rw[ye];omega,zjj w _⟩;simp_all[zi,zkS,ye]
  ·grind
 ·rename_i len cap;by_cases hc:len=0∧cap=0
  ·rw[decide_eq_true hc]at h;cases h;obtain⟨rfl,rfl⟩:=hc;trivial
  ·grind
 ·rename_i a len cap;by_cases hc:zb4 w a.block=true∧a.spot=none∧len≤cap
  ·rw[decide_eq_true hc]at h;cases h;obtain⟨b,off,sp⟩:=a;obtain⟨h1,rfl,h3⟩:=hc;have h1:=zkE h1;have hp:=zcs w (b:=bn b) (by grind[ye]);refine⟨?_,⟨by rw[ye];omega,zjj w _⟩,fun hh=>(by cases hh),fun _=>h3⟩;simp_all[zi,zkS,ye]
  ·rw[decide_eq_false hc,Yzc]at h;by_cases hc2:len=0∧cap=0∧a∈zei w
   ·rw[decide_eq_true hc2]at h;cases h;obtain⟨rfl,rfl,hm⟩:=hc2;have hi:=zfJ hm;have hlt:=(Lz0.1 hi).1;have hp:=zsH w hi;refine⟨?_,⟨by grind[ye],zjj w _⟩,fun hh=>(by cases hh),fun _=>LzB _⟩;rw[zi,Yza];unfold adr;rw[hp];rfl
   ·grind
 ·cases h;trivial
 ·cases h;trivial
 ·cases h;trivial
 ·cases h
theorem zg9:HW (yC w):=fun b o hb=>by
 rw[wS]at hb;rw[zaL]
 grind
def SW(w:World)(k:Nat):Prop:=∃arr e fr,w.heap[k]? = some (.cells arr e fr)
theorem zcF{k:Nat}(hl:live (zpQ w k)):∃arr e fr,w.heap[k]? = some (.cells arr e fr)∧zpQ w k=ztf w (.cells arr e fr):=by
 unfold zpQ at hl ⊢;split at hl
 ·rename_i x hx;cases x with
  |cells arr e fr=>grind
  |_=>exact hl.elim
 ·trivial
theorem zlV(hG:GOk w):Zd w (SW w) (φ0 w) (yC w) w:=by
 refine⟨zg9 w,fun b o hb=>zjj w b,fun b o hb=>?_,fun b b' o o' hb hb' hl hl' hh=>?_,fun b o hb hl=>?_,rfl,rfl,rfl,LzB _,LzB _,fun _ _ _=>rfl,hG,fun b o hb hl=>?_,fun b o hb hl=>?_⟩
 ·rw[wS]at hb;by_cases hlt:b.toNat<w.heap.size
  ·rw[Yzd hlt]at hb;cases hb;have hp:=zcs w hlt;by_cases hl:live (zpQ w b.toNat)
   ·obtain⟨arr,e,fr,hx,hr⟩:=zcF w hl;rw[hr];refine⟨fun y hy=>by grind,arr,e,fr,by grind,fun i c hc=>?_⟩
    replace hc:(arr[i]?).bind (zmt w)=some c:=hc
    cases ha:arr[i]? with
    |none=>grind
    |some v=>
     rw[ha]at hc;obtain⟨k1,k2⟩:=zsB w hc
     grind
   ·generalize zpQ w b.toNat=o at hl;cases o with
    |dead=>trivial
    |void=>trivial
    |_=>exact absurd trivial hl
  ·rw[Yzb hlt]at hb;by_cases h2:b.toNat<w.heap.size+(zei w).length
   ·rw[Yzd h2]at hb;cases hb;trivial
   ·grind
 ·have k1:=lt_live hb hl;have k2:=lt_live hb' hl'
  grind[zcs,wT]
 ·have k1:=lt_live hb hl;rw[zcs w k1];rw[wS,Yzd k1]at hb;cases hb;obtain⟨arr,e,fr,h2,_⟩:=zcF w hl;exact .inl ⟨arr,e,fr,h2⟩
 ·rw[zcs w (lt_live hb hl)]
 ·have k1:=lt_live hb hl.live;rw[wS,Yzd k1]at hb;cases hb;obtain⟨arr,e,fr,_,h2⟩:=zcF w hl.live;rw[h2]at hl;trivial
where
 lt_live {b:BN} {o:Zf} (hb:(yC w).t.get b=some o) (hl:live o):b.toNat<w.heap.size:=by
  rw[wS]at hb;by_cases hlt:b.toNat<w.heap.size
  ·exact hlt
  ·rw[Yzb hlt]at hb;by_cases h2:b.toNat<w.heap.size+(zei w).length
   ·rw[Yzd h2]at hb;cases hb;trivial
   ·grind
theorem zi5{P:Program}{call:zg}(C:yU P call)(hG:GOk w){f:Nat}{args:List Zb}{v:Zb}{h2:Za}(ha:∀x∈args,wfA (φ0 w) (yC w).n.toNat x)(e:call (.inl f) args (yC w)=some (v,h2))(hg:Gr (yC w) h2):
  CallsIn (FR none) 0 P f (args.map (zp (φ0 w))).toArray w (fun e w2=>∃φ,e=.returned (zp φ v)∧Below w.heap.size w w2):=by
 refine ((C w _ _ _ w args v h2 (zlV w hG) ha).1 f e).2.mono ?_
 rintro e9 w9 ⟨φ2,rfl,he,H2,_,_⟩
 refine⟨φ2,rfl,H2.os,H2.tape,H2.output,H2.size,fun k hk=>?_⟩;by_cases hc:SW w k
 ·obtain⟨arr,e,fr,hc⟩:=hc;have hb:(yC w).t.get (bn k)=some (ztf w (.cells arr e fr)):=zbQ w (by grind[ye]);have hn:(bn k).toNat<(yC w).n.toNat:=by grind[zaL,ye]
  have hb2:=(hg.old _ hn).trans hb;obtain⟨h1,_⟩:=H2.obj _ _ hb2;have h1:=h1 _ rfl;rw[he _ hn,zcs w (by grind[ye])]at h1
  grind[ye]
 ·exact H2.kept k hk hc
end
end Go.CE
end
section
namespace Go.CE
open Go Go.ChangeShapes Go.WideShapes Go.ChangeAt Go.RowKit
theorem zkL{w:World}{b off:Nat}{v:Value}(h:w.cell? ⟨b,off,none⟩=some v):∃arr e fr,w.heap[b]? = some (.cells arr e fr)∧arr[off]? = some v:=by
 unfold World.cell? at h
 grind
def zwB(k:IntKind)(n:Nat):DataW Unit:=.lit (.int k (n:Int))
theorem zg5{P:Program}{w:World}{nm:String}{g:Nat}{t e:TypeId}{n:Nat}{k:IntKind}{ns:List Nat}{cs:Array Value}{fuel:Nat}{q:List MemPlace}
  (hg:P.globalNamed nm=some g) (ht:P.underlying t=some (.array n e)) (he:P.underlying e=some (.int k)) (hc:P.cellsOf e=1) (hv:w.var? P nm=some cs)
  (h:DataW.trod (fun _=>()) P w 0 (fun _=>true) false fuel t cs.toList=some (.agg (ns.map (zwB k)),q)) {off m:Nat} (hm:ns[off]? = some m):
  ∃arr ty fr,w.heap[g]? = some (.cells arr ty fr)∧arr[off]? = some (.int k (m:Int)):=by
 obtain⟨xs,m1,rfl,hx1,hlen,hn,hel⟩:=DataW.trod_array ht h;simp only[Prod.mk.injEq,DataW.agg.injEq]at hx1;have hxl:xs.length=ns.length:=by have:=congrArg List.length hx1.1;grind
 have hoff:off<ns.length:=(Lz0.1 hm).1;have h0:=hel off (by omega);obtain⟨x,hx⟩:∃x,xs[off]? = some x:=⟨_,Lz5 (by omega)⟩;rw[hx,hc,Nat.mul_one]at h0;obtain⟨r,e1,e2,_⟩:=DataW.trod_int he h0;have e3:x.1=zwB k m:=by
  have h1:(xs.map (·.1))[off]? = some x.1:=by grind
  grind
 have hr:r=(m:Int):=by grind[zwB]
 subst hr;have h2:cs.toList[off]? = some (.int k (m:Int)):=by
  have:((cs.toList.drop off).take 1)[0]? = some (.int k (m:Int)):=by grind
  grind
 refine zkL ?_
 grind[World.var?_cell]
theorem zj4:∀(l:List Nat) (i:Nat),zwp l i=l[i]?
 | [],i=>by simp[zwp]
 |x::l,0=>rfl
 |x::l,i+1=>by show zwp l i=_;rw[zj4 l i];simp
theorem zsm{w:World}{g:Nat}{k:IntKind}{ns:List Nat}(hg:zbo g=some (k,ns))(H:∀(off m:Nat),ns[off]? = some m→∃arr ty fr,w.heap[g]? = some (.cells arr ty fr)∧arr[off]? = some (.int k (m:Int)))
  {off:Nat} {c:Zc} (h:zdT g off=some c):∃arr e fr,w.heap[g]? = some (.cells arr e fr)∧∀φ,arr[off]? = some (zi φ c):=by
 unfold zdT at h;rw[hg]at h;simp only[zj4]at h;cases hm:ns[off]? with
 |none=>grind
 |some m=>rw[hm]at h;cases h;obtain⟨arr,ty,fr,h1,h2⟩:=H off m hm;exact⟨arr,ty,fr,h1,fun φ=>h2⟩
end Go.CE
end
section
namespace Go.PE
open Go Go.CE
inductive DV where
 |bool (b:Bool)
 |int (k:IntKind) (n:Int)
 |str (s:ByteArray)
 |nils
 |lst (st:Nat) (xs:List (List DV))
 |fp (xs:List DV) (off:Nat)
 |fn (f:Nat) (caps:List (List DV))
 |nilf
 |nilp
 |nilm
 |nili
 |u
inductive DS where
 |one (d:DV)
 |agg (ds:List DV)
inductive DA where
 |s (d:DS)
 |tup (l:List DS)
def DS.cells:DS→List DV
 | .one d=>[d]
 | .agg ds=>ds
inductive Rep (fz:BN→Prop) (h:Za):Zc→DV→Prop
 |bool (b:Bool):Rep fz h (.bool b) (.bool b)
 |int (k:IntKind) (n:Int):Rep fz h (.int k n) (.int k n)
 |str (s:ByteArray):Rep fz h (.str s) (.str s)
 |nils:Rep fz h .nils .nils
 |nilf:Rep fz h .nilf .nilf
 |nilp:Rep fz h .nilp .nilp
 |nilm:Rep fz h .nilm .nilm
 |nili:Rep fz h .nili .nili
 |u (c:Zc):Rep fz h c .u
 |lst {b:BN} {o:Zf} {off cap:Nat} {ex:Bool} {st:Nat} {xs:List (List DV)} (cs:List Zc) (hb:fz b) (hg:h.t.get b=some o) (hc:ex=true→xs.length≤cap)
   (ha:rd (xs.length*st) off o=some cs) (h1:∀(i:Nat) (x:List DV),xs[i]? = some x→x.length=st)
   (h2:∀(i:Nat) (x:List DV) (j:Nat) (c:Zc) (d:DV),xs[i]? = some x→cs[i*st+j]? = some c→x[j]? = some d→Rep fz h c d):Rep fz h (.slc b off xs.length cap ex) (.lst st xs)
 |fp {b:BN} {o:Zf} {base:Nat} {xs:List DV} {off:Nat} (cs:List Zc) (hb:fz b) (hg:h.t.get b=some o) (h1:rd xs.length base o=some cs)
   (h2:∀(j:Nat) (c:Zc) (d:DV),cs[j]? = some c→xs[j]? = some d→Rep fz h c d):Rep fz h (.ptr b (base+off)) (.fp xs off)
 |fn {f:Nat} {ps:List (BN×Nat)} {caps:List (List DV)} (css:Nat→List Zc) (os:Nat→Zf) (hl:ps.length=caps.length)
   (h1:∀(i:Nat) (p:BN×Nat) (x:List DV),ps[i]? = some p→caps[i]? = some x→fz p.1∧h.t.get p.1=some (os i)∧rd x.length p.2 (os i)=some (css i))
   (h2:∀(i:Nat) (p:BN×Nat) (x:List DV) (j:Nat) (c:Zc) (d:DV),ps[i]? = some p→caps[i]? = some x→(css i)[j]? = some c→x[j]? = some d→Rep fz h c d):Rep fz h (.fn f ps) (.fn f caps)
structure FG (fz:BN→Prop) (h:Za) (fz':BN→Prop) (h':Za):Prop where
 sub:∀b o,fz b→h.t.get b=some o→fz' b
 old:∀b o,fz b→h.t.get b=some o→h'.t.get b=some o
theorem FG.refl(fz:BN→Prop)(h:Za):FG fz h fz h:=⟨fun _ _ h _=>h,fun _ _ _ h=>h⟩
theorem FG.trans{f1 f2 f3:BN→Prop}{h1 h2 h3:Za}(a:FG f1 h1 f2 h2)(b:FG f2 h2 f3 h3):FG f1 h1 f3 h3:=⟨fun x o hx ho=>b.sub x o (a.sub x o hx ho) (a.old x o hx ho),fun x o hx ho=>b.old x o (a.sub x o hx ho) (a.old x o hx ho)⟩
theorem Rep.mono{fz fz':BN→Prop}{h h':Za}(g:FG fz h fz' h'){c:Zc}{d:DV}(H:Rep fz h c d):Rep fz' h' c d:=by
 induction H with
 |bool b=>exact .bool b
 |int k n=>exact .int k n
 |str s=>exact .str s
 |nils=>exact .nils
 |nilf=>exact .nilf
 |nilp=>exact .nilp
 |nilm=>exact .nilm
 |nili=>exact .nili
 |u c=>exact .u c
 |lst cs hb hg hc ha h1 h2 ih=>exact .lst cs (g.sub _ _ hb hg) (g.old _ _ hb hg) hc ha h1 ih
 |fp cs hb hg h1 h2 ih=>exact .fp cs (g.sub _ _ hb hg) (g.old _ _ hb hg) h1 ih
 |fn css os hl h1 h2 ih=>exact .fn css os hl (fun i p x hp hx=>by obtain⟨a,b,c⟩:=h1 i p x hp hx;exact⟨g.sub _ _ a b,g.old _ _ a b,c⟩) ih
def RepL(fz:BN→Prop)(h:Za)(cs:List Zc)(ds:List DV):Prop:=cs.length=ds.length∧∀(j:Nat) (c:Zc) (d:DV),cs[j]? = some c→ds[j]? = some d→Rep fz h c d
theorem RepL.mono{fz fz':BN→Prop}{h h':Za}(g:FG fz h fz' h'){cs:List Zc}{ds:List DV}(H:RepL fz h cs ds):RepL fz' h' cs ds:=⟨H.1,fun j c d a b=>(H.2 j c d a b).mono g⟩
theorem RepL.nil(fz:BN→Prop)(h:Za):RepL fz h [] []:=⟨rfl,fun j c d a=>by simp at a⟩
theorem RepL.cons{fz:BN→Prop}{h:Za}{c:Zc}{d:DV}{cs:List Zc}{ds:List DV}(a:Rep fz h c d)(b:RepL fz h cs ds):RepL fz h (c::cs) (d::ds):=by
 refine⟨by simp[b.1],fun j c' d' hc hd=>?_⟩;cases j with
 |zero=>grind
 |succ j=>simp only[Yzr]at hc hd;exact b.2 j c' d' hc hd
theorem RepL.inv{fz:BN→Prop}{h:Za}{c:Zc}{d:DV}{cs:List Zc}{ds:List DV}(H:RepL fz h (c::cs) (d::ds)):Rep fz h c d∧RepL fz h cs ds:=
 ⟨H.2 0 c d rfl rfl,by have:=H.1;grind,fun j c' d' hc hd=>H.2 (j+1) c' d' (by trivial) (by trivial)⟩
theorem RepL.app{fz:BN→Prop}{h:Za}{cs cs':List Zc}{ds ds':List DV}(a:RepL fz h cs ds)(b:RepL fz h cs' ds'):RepL fz h (cs++cs') (ds++ds'):=by
 refine⟨by simp[a.1,b.1],fun j c d hc hd=>?_⟩;by_cases hj:j<cs.length
 ·rw[Lz2 hj]at hc;rw[Lz2 (by have:=a.1;omega)]at hd;exact a.2 j c d hc hd
 ·rw[Lz8 (by omega)]at hc;rw[Lz8 (by have:=a.1;omega),←a.1]at hd;exact b.2 _ c d hc hd
theorem RepL.sub{fz:BN→Prop}{h:Za}{cs:List Zc}{ds:List DV}(a:RepL fz h cs ds)(i n:Nat):RepL fz h ((cs.drop i).take n) ((ds.drop i).take n):=by
 refine⟨by simp[a.1],fun j c d hc hd=>?_⟩;rw[Yzx]at hc hd;split at hc
 ·rename_i hj;rw[Yzd hj]at hd;rw[Yzs]at hc hd;exact a.2 _ c d hc hd
 ·cases hc
theorem RepL.set{fz:BN→Prop}{h:Za}{cs cs':List Zc}{ds ds':List DV}(a:RepL fz h cs ds)(b:RepL fz h cs' ds')(i:Nat):
  RepL fz h (cs.take i++cs'++cs.drop (i+cs'.length)) (ds.take i++ds'++ds.drop (i+ds'.length)):=by
 grind[RepL]
def RepS(fz:BN→Prop)(h:Za):SVal→DS→Prop
 | .one c,.one d=>Rep fz h c d
 | .agg cs,.agg ds=>RepL fz h cs ds
 |_,_=>False
theorem RepS.mono{fz fz':BN→Prop}{h h':Za}(g:FG fz h fz' h'){c:SVal}{d:DS}(H:RepS fz h c d):RepS fz' h' c d:=by
 cases c<;>cases d<;>simp only[RepS]at H ⊢
 ·exact H.mono g
 ·exact H.mono g
def RepSL(fz:BN→Prop)(h:Za):List SVal→List DS→Prop
 | [],[]=>True
 |c::cs,d::ds=>RepS fz h c d∧RepSL fz h cs ds
 |_,_=>False
theorem RepSL.mono{fz fz':BN→Prop}{h h':Za}(g:FG fz h fz' h'):∀{c:List SVal} {d:List DS},RepSL fz h c d→RepSL fz' h' c d
 | [],[],_=>trivial
 |_::_,_::_,H=>⟨H.1.mono g,RepSL.mono g H.2⟩
 | [],_::_,H=>H.elim
 |_::_,[],H=>H.elim
def RepA(fz:BN→Prop)(h:Za):Zb→DA→Prop
 | .s c,.s d=>RepS fz h c d
 | .tup cs,.tup ds=>RepSL fz h cs ds
 |_,_=>False
theorem RepA.of{fz:BN→Prop}{h:Za}{c:SVal}{d:DS}(H:RepS fz h c d):RepA fz h (.s c) (.s d):=H
theorem RepA.inv{fz:BN→Prop}{h:Za}{v:Zb}{d:DS}(H:RepA fz h v (.s d)):∃w,v=.s w∧RepS fz h w d:=by
 cases v with
 |s v=>exact⟨_,rfl,H⟩
 |tup l=>trivial
theorem RepA.mono{fz fz':BN→Prop}{h h':Za}(g:FG fz h fz' h'){c:Zb}{d:DA}(H:RepA fz h c d):RepA fz' h' c d:=by
 cases d with
 |s d=>obtain⟨w,rfl,hw⟩:=H.inv;exact .of (hw.mono g)
 |tup ds=>
  cases c with
  |s c=>trivial
  |tup cs=>exact RepSL.mono g H
def RepAL(fz:BN→Prop)(h:Za):List Zb→List DA→Prop
 | [],[]=>True
 |c::cs,d::ds=>RepA fz h c d∧RepAL fz h cs ds
 |_,_=>False
theorem RepAL.mono{fz fz':BN→Prop}{h h':Za}(g:FG fz h fz' h'):∀{c:List Zb} {d:List DA},RepAL fz h c d→RepAL fz' h' c d
 | [],[],_=>trivial
 |_::_,_::_,H=>⟨H.1.mono g,RepAL.mono g H.2⟩
 | [],_::_,H=>H.elim
 |_::_,[],H=>H.elim
theorem RepAL.app{fz:BN→Prop}{h:Za}:∀{c c':List Zb} {d d':List DA},RepAL fz h c d→RepAL fz h c' d'→RepAL fz h (c++c') (d++d')
 | [],_,[],_,_,H=>H
 |_::_,_,_::_,_,H,K=>⟨H.1,RepAL.app H.2 K⟩
 | [],_,_::_,_,H,_=>H.elim
 |_::_,_,[],_,H,_=>H.elim
theorem zdv:∀(cs:List Zc) (n i:Nat),i+n≤cs.length→cut n cs i=some ((cs.drop i).take n):=by
 have tk:∀(n:Nat) (cs:List Zc),n≤cs.length→takeN n cs=some (cs.take n):=by
  intro n
  induction n with
  |zero=>grind[takeN]
  |succ n ih=>intro cs h;cases cs<;>grind[takeN,wA]
 intro cs
 induction cs with
 |nil=>intro n i h;simp at h;obtain⟨rfl,rfl⟩:=h;rfl
 |cons c cs ih=>
  intro n i h;cases i with
  |zero=>
   show takeN n (c::cs)=_
   grind
  |succ i=>
   show cut n cs i=_
   grind
theorem ziU{f:Nat→Option Zc}:∀{n i:Nat} {l:List Zc},l.length=n→(∀j c,l[j]? = some c→f (i+j)=some c)→zdw f n i=some l:=by
 intro n
 induction n with
 |zero=>intro i l hl _;rw[List.length_eq_zero_iff.1 hl];rfl
 |succ n ih=>
  intro i l hl H;cases l with
  |nil=>simp at hl
  |cons c l=>
   have h0:=H 0 c rfl;simp only[YzB]at h0;have h1:=ih (i:=i+1) (l:=l) (by grind) (fun j d hd=>by have:=H (j+1) d (by trivial);grind)
   grind[zdw,wA]
theorem ze7{n off:Nat}{cs:List Zc}(h:rd n off .void=some cs):n=0∧cs=[]:=by have h:(bif Nat.beq n 0 then some [] else none)=some cs:=h;cases hn:Nat.beq n 0<;>simp_all
theorem zeb{n off:Nat}{o:Zf}{cs:List Zc}(h:rd n off o=some cs):cs.length=n:=by
 cases o with
 |void=>obtain⟨rfl,rfl⟩:=ze7 h;rfl
 |cells l st=>exact(zbt h).1
 |ro x f=>exact(zaZ h).1
 |_=>cases h
theorem zea{n base:Nat}{o:Zf}{cs:List Zc}(h:rd n base o=some cs){off m:Nat}(hm:off+m≤n):rd m (base+off) o=some ((cs.drop off).take m):=by
 cases o with
 |void=>
  obtain⟨rfl,rfl⟩:=ze7 h
  grind
 |cells l st=>
  obtain⟨rfl,h2⟩:=zkF n l base cs h;show cut m l (base+off)=_
  grind[zdv,List.drop_take,YzH]
 |ro x f=>
  obtain⟨h1,h2⟩:=zaZ h;refine ziU (by simp;omega) fun j c hc=>?_
  grind
 |_=>cases h
theorem ztj{n off:Nat}{o:Zf}{cs:List Zc}(h':Za)(h:rd n off o=some cs)(h0:n≠0∨o≠.void):loadAt (some n) h' off (some o)=some (.s (.agg cs),h'):=by
 cases o with
 |void=>
  obtain⟨rfl,_⟩:=ze7 h
  grind
 |cells l st=>show ze3 h' (cut n l off)=_;rw[show cut n l off=some cs from h];rfl
 |ro x f=>show ze3 h' (zdw f n off)=_;rw[show zdw f n off=some cs from h];rfl
 |_=>cases h
theorem zqx{n base:Nat}{o:Zf}{cs:List Zc}(h':Za)(h:rd n base o=some cs){off:Nat}{c:Zc}(hc:cs[off]? = some c):loadAt none h' (base+off) (some o)=some (.s (.one c),h'):=by
 have hl:=(Lz0.1 hc).1;have e:=zea h (off:=off) (m:=1) (by grind[zeb])
 grind[zv3,List.take_one,List.head?_drop]
def DV.scal:DV→Option Zc
 | .bool b=>some (.bool b)
 | .int k n=>some (.int k n)
 | .str s=>some (.str s)
 | .nils=>some .nils
 | .nilf=>some .nilf
 | .nilp=>some .nilp
 | .nilm=>some .nilm
 | .nili=>some .nili
 |_=>none
theorem Rep.scal{fz:BN→Prop}{h:Za}{c:Zc}{d:DV}(H:Rep fz h c d){c':Zc}(e:d.scal=some c'):c=c':=by cases H<;>simp only[DV.scal]at e<;>first|cases e;rfl|cases e
theorem Rep.ofScal{fz:BN→Prop}{h:Za}{d:DV}{c:Zc}(e:d.scal=some c):Rep fz h c d:=by
 cases d<;>simp only[DV.scal]at e<;>cases e
 ·exact .bool _
 ·exact .int _ _
 ·exact .str _
 ·exact .nils
 ·exact .nilf
 ·exact .nilp
 ·exact .nilm
 ·exact .nili
theorem Rep.lst_inv{fz:BN→Prop}{h:Za}{c:Zc}{st:Nat}{xs:List (List DV)}(H:Rep fz h c (.lst st xs)):
  ∃b o off cap ex cs,c=.slc b off xs.length cap ex∧fz b∧h.t.get b=some o∧(ex=true→xs.length≤cap)∧rd (xs.length*st) off o=some cs∧
   ∀(i:Nat) (x:List DV),xs[i]? = some x→x.length=st∧RepL fz h ((cs.drop (i*st)).take st) x:=by
 cases H with
 |lst cs hb hg hc ha h1 h2=>
  refine⟨_,_,_,_,_,cs,rfl,hb,hg,hc,ha,fun i x hx=>⟨h1 i x hx,?_,fun j c d hc hd=>?_⟩⟩
  ·have hi:=(Lz0.1 hx).1;have:(i+1)*st≤xs.length*st:=Yzl st hi
   grind[zeb]
  ·grind
theorem Rep.lst_mk{fz:BN→Prop}{h:Za}{b:BN}{o:Zf}{off cap:Nat}{ex:Bool}{st:Nat}{xs:List (List DV)}{cs:List Zc}(hb:fz b)(hg:h.t.get b=some o)(hc:ex=true→xs.length≤cap)
  (ha:rd (xs.length*st) off o=some cs) (H:∀(i:Nat) (x:List DV),xs[i]? = some x→x.length=st∧RepL fz h ((cs.drop (i*st)).take st) x):Rep fz h (.slc b off xs.length cap ex) (.lst st xs):=by
 refine .lst cs hb hg hc ha (fun i x hx=>(H i x hx).1) (fun i x j c d hx hcs hd=>(H i x hx).2.2 j c d ?_ hd)
 grind
theorem Rep.fp_inv{fz:BN→Prop}{h:Za}{c:Zc}{xs:List DV}{off:Nat}(H:Rep fz h c (.fp xs off)):
  ∃b o base cs,c=.ptr b (base+off)∧fz b∧h.t.get b=some o∧rd xs.length base o=some cs∧RepL fz h cs xs:=by
 cases H with
 |fp cs hb hg h1 h2=>exact⟨_,_,_,cs,rfl,hb,hg,h1,zeb h1,h2⟩
theorem Rep.fp_mk{fz:BN→Prop}{h:Za}{b:BN}{o:Zf}{base:Nat}{cs:List Zc}{xs:List DV}{off:Nat}(hb:fz b)(hg:h.t.get b=some o)(h1:rd xs.length base o=some cs)(h2:RepL fz h cs xs):
  Rep fz h (.ptr b (base+off)) (.fp xs off):=.fp cs hb hg h1 h2.2
theorem Rep.fn_inv{fz:BN→Prop}{h:Za}{c:Zc}{f:Nat}{caps:List (List DV)}(H:Rep fz h c (.fn f caps)):
  ∃ps,c=.fn f ps∧RepL fz h (ps.map fun p=>.ptr p.1 p.2) (caps.map fun x=>.fp x 0):=by
 cases H with
 |fn css os hl h1 h2=>refine⟨_,rfl,by simp[hl],fun j c d hc hd=>?_⟩;simp only[Lz6,Yyc]at hc hd;obtain⟨p,hp,rfl⟩:=hc;obtain⟨x,hx,rfl⟩:=hd;obtain⟨a,b,c⟩:=h1 j p x hp hx;exact .fp (base:=p.2) (off:=0) (css j) a b c (fun i c d hc hd=>h2 j p x i c d hp hx hc hd)
theorem Rep.fn_mk{fz:BN→Prop}{h:Za}{f:Nat}{ps:List (BN×Nat)}{caps:List (List DV)}(H:RepL fz h (ps.map fun p=>.ptr p.1 p.2) (caps.map fun x=>.fp x 0)):Rep fz h (.fn f ps) (.fn f caps):=by
 have hl:ps.length=caps.length:=by simpa using H.1
 have:∀i:Nat,∃q:List Zc×Zf,∀(p:BN×Nat) (x:List DV),ps[i]? = some p→caps[i]? = some x→fz p.1∧h.t.get p.1=some q.2∧rd x.length p.2 q.2=some q.1∧RepL fz h q.1 x:=by
  intro i;cases hp:ps[i]? with
  |none=>exact⟨([],.dead),fun p x hp'=>by cases hp'⟩
  |some p=>
   cases hx:caps[i]? with
   |none=>grind
   |some x=>have:=H.2 i (.ptr p.1 p.2) (.fp x 0) (by simp[hp]) (by simp[hx]);obtain⟨b,o,base,cs,e,a1,a2,a3,a4⟩:=this.fp_inv;simp_all
 obtain⟨q,hq⟩:=Classical.axiomOfChoice this;exact .fn (fun i=>(q i).1) (fun i=>(q i).2) hl (fun i p x hp hx=>⟨(hq i p x hp hx).1,(hq i p x hp hx).2.1,(hq i p x hp hx).2.2.1⟩) (fun i p x j c d hp hx hc hd=>(hq i p x hp hx).2.2.2.2 j c d hc hd)
end Go.PE
end
