/-
  Lemmas. No condition.
-/
import Derived.Test.YtfmceamccfhfcaaGreatDoorVa
import Derived.RangeFuncRecord
import Derived.RangeFuncNested
import Derived.LoopNIn
import Derived.OrdersIn
import Derived.RangeFuncLeaves
import Derived.RangeFuncIn
import Derived.Laws.Sem
import Derived.ProofKit
import Derived.OpenShut
import Derived.FnData
import Derived.MakeChecks
section
namespace Go.CE
open Go.RowKit
def zA9:Zh→Exit
 | .normal=>.normal
 | .exit id=>.exit id
 | .ret=>.ret
def marks(φ:Phi)(d:List BN):List Deferred:=d.map fun b=>{ target:=.collected (φ b).blk,args:=#[] }
structure Zv (w0:World) (S:Nat→Prop) (φ:Phi) (nt:Nat) (s:St) (a:Act) (w:World):Prop where
 H:Zd w0 S φ s.h w
 T:Zi φ nt s.h.n.toNat s.t a.tmps
 D:a.defers=marks φ s.d
 dn:∀b∈s.d,okB φ s.h.n.toNat b
def After(w0:World)(S:Nat→Prop)(φ:Phi)(nt:Nat)(h:Za)(s2:St)(a2:Act)(w2:World):Prop:=
 ∃φ2,Ext h.n.toNat φ φ2∧Zv w0 S φ2 nt s2 a2 w2∧h.n.toNat≤s2.h.n.toNat
def RoRel(φ:Phi)(n:Nat):Option BN→Option Nat→Prop
 |none,ro=>ro=none
 |some l,ro=>ro=some (φ l).blk∧okB φ n l
theorem RoRel.ext{φ φ2:Phi}{n m:Nat}{round:Option BN}{ro:Option Nat}(h:RoRel φ n round ro)(he:Ext n φ φ2)(hn:n≤m):RoRel φ2 m round ro:=by
 cases round with
 |none=>exact h
 |some l=>exact⟨by rw[he l h.2.1];exact h.1,okB.ext he hn h.2⟩
theorem zc2{φ φ2:Phi}{n:Nat}(he:Ext n φ φ2){d:List BN}(hd:∀b∈d,okB φ n b):marks φ2 d=marks φ d:=
 Yz9 fun b hb=>by rw[he b (hd b hb).1]
theorem After.trans{w0:World}{S:Nat→Prop}{φ φ1:Phi}{nt:Nat}{h h1:Za}{s2:St}{a2:Act}{w2:World}(he:Ext h.n.toNat φ φ1)(hn:h.n.toNat≤h1.n.toNat)(hA:After w0 S φ1 nt h1 s2 a2 w2):After w0 S φ nt h s2 a2 w2:=by obtain⟨φ2,he2,hs,hle⟩:=hA;exact⟨φ2,he.trans he2 hn,hs,Yzr hn hle⟩
section
variable {P:Program} {w0:World} {S:Nat→Prop} {nt:Nat} {call:zj}
def uC(P:Program)(w0:World)(S:Nat→Prop)(nt:Nat)(call:zj)(c:Code):Prop:=
 ∀(f fn:Nat) (round:Option BN) (ro:Option Nat) (φ:Phi) (s s2:St) (e:Zh) (a:Act) (w:World) (Q:Exit→Act→World→Prop),ye P nt c call f fn round s=some (e,s2)→Zv w0 S φ nt s a w→RoRel φ s.h.n.toNat round ro→
  (∀a2 w2,After w0 S φ nt s.h s2 a2 w2→Q (zA9 e) a2 w2)→c.wpIn (FR ro) 0 P Q a w
theorem Zv.after{φ:Phi}{s:St}{a:Act}{w:World}(R:Zv w0 S φ nt s a w):After w0 S φ nt s.h s a w:=⟨φ,Ext.refl _ _,R,LzB _⟩
theorem za5{φ:Phi}{s:St}{a a2:Act}{w w2:World}{t2:Tr Zb}{h2:Za}(R:Zv w0 S φ nt s a w)(hn:Next1 w0 S φ nt s.h t2 h2 a a2 w2):After w0 S φ nt s.h ⟨t2,s.d,h2⟩ a2 w2:=by obtain⟨φ2,he,H2,T2,hd,hle⟩:=hn;exact⟨φ2,he,⟨H2,T2,by rw[hd,R.D,zc2 he R.dn],fun b hb=>okB.ext he hle (R.dn b hb)⟩,hle⟩
theorem zoD(C:y4 P call)(id:Nat)(ops:Array Oper):uC P w0 S nt call (.region id ops false):=by
 intro f fn round ro φ s s2 e a w Q hc R hr hQ;have hc:zzI (ops.toList.map (xd P nt ops)) call f fn round s=some (e,s2):=hc;obtain⟨t,d,h⟩:=s;simp only[zzI]at hc;cases he:zmZ call (ops.toList.map (xd P nt ops)) t h with
 |none=>rw[he]at hc;cases hc
 |some p=>obtain⟨t2,h2⟩:=p;rw[he]at hc;cases hc;exact wpIn_region_list (zoA C ops.toList R.H R.T he fun a2 w2 hn=>hQ a2 w2 (za5 R hn))
theorem zxP{x y:Code}(hx:uC P w0 S nt call x)(hy:uC P w0 S nt call y):uC P w0 S nt call (.seq x y):=by
 intro f fn round ro φ s s2 e a w Q hc R hr hQ;have hc:zw4 call f fn round (ye P nt y) (ye P nt x call f fn round s)=some (e,s2):=hc;cases h1:ye P nt x call f fn round s with
 |none=>rw[h1]at hc;cases hc
 |some p=>
  obtain⟨e1,s1⟩:=p;rw[h1]at hc;refine wpIn_seq (hx f fn round ro φ s s1 e1 a w _ h1 R hr fun a1 w1 hA=>?_);cases e1 with
  |normal=>obtain⟨φ1,he1,R1,hle1⟩:=hA;show y.wpIn (FR ro) 0 P Q a1 w1;exact hy f fn round ro φ1 s1 s2 e a1 w1 Q hc R1 (hr.ext he1 hle1) fun a2 w2 hA2=>hQ a2 w2 (hA2.trans he1 hle1)
  |exit id=>cases hc;exact hQ a1 w1 hA
  |ret=>cases hc;exact hQ a1 w1 hA
theorem zu5{c:Operand}{x y:Code}(hx:uC P w0 S nt call x)(hy:uC P w0 S nt call y):uC P w0 S nt call (.cond c x y):=by
 intro f fn round ro φ s s2 e a w Q hc R hr hQ;cases hf:yd c with
 |none=>simp only[ye,hf]at hc;cases hc
 |some g=>
  simp only[ye,hf]at hc;obtain⟨t,d,h⟩:=s;simp only[zwn]at hc;split at hc
  ·rename_i q hq;have ho:=(zr R.T hf).1;simp only at ho;rw[hq]at ho;refine wpIn_cond (t:=q) ho ?_;cases q
   ·exact hy f fn round ro φ _ s2 e a w Q hc R hr hQ
   ·exact hx f fn round ro φ _ s2 e a w Q hc R hr hQ
  ·cases hc
theorem zr1{id:Nat}{x:Code}(hx:uC P w0 S nt call x):uC P w0 S nt call (.block id x):=by
 intro f fn round ro φ s s2 e a w Q hc R hr hQ;have hc:zzM id (ye P nt x call f fn round s)=some (e,s2):=hc;cases h1:ye P nt x call f fn round s with
 |none=>rw[h1]at hc;cases hc
 |some p=>
  obtain⟨e1,s1⟩:=p;rw[h1]at hc;refine wpIn_block (hx f fn round ro φ s s1 e1 a w _ h1 R hr fun a1 w1 hA=>?_);cases e1 with
  |normal=>cases hc;exact hQ a1 w1 hA
  |ret=>cases hc;exact hQ a1 w1 hA
  |exit id'=>
   simp only[zzM]at hc;show (if id'=id then Q .normal a1 w1 else Q (.exit id') a1 w1);cases hb:Nat.beq id' id with
   |true=>rw[hb]at hc;cases hc;rw[Yze (beq_true hb)];exact hQ a1 w1 hA
   |false=>rw[hb]at hc;cases hc;rw[Yzb (beq_false hb)];exact hQ a1 w1 hA
theorem zmK(c:St→Option (Zh×St))(n:Nat)(s:St):zhk c (n+1) s=match c s with|some (.normal,s2)=>zhk c n s2|r=>r:=rfl
theorem zu4{x:Code}(hx:uC P w0 S nt call x):uC P w0 S nt call (.loop x):=by
 intro f fn round ro φ s s2 e a w Q hc R hr hQ;have hc:zhk (ye P nt x call f fn round) f s=some (e,s2):=hc;have key:∀(n:Nat) (φ:Phi) (s:St) (a:Act) (w:World),zhk (ye P nt x call f fn round) n s=some (e,s2)→Zv w0 S φ nt s a w→RoRel φ s.h.n.toNat round ro→
   (∀a2 w2,After w0 S φ nt s.h s2 a2 w2→Q (zA9 e) a2 w2)→Code.roundsIn (FR ro) 0 P x Q n a w:=by
  intro n
  induction n with
  |zero=>intro φ s a w hc;cases hc
  |succ n ih=>
   intro φ s a w hc R hr hQ;rw[zmK]at hc;cases h1:ye P nt x call f fn round s with
   |none=>grind
   |some p=>
    obtain⟨e1,s1⟩:=p;rw[h1]at hc;rw[roundsIn_succ];refine hx f fn round ro φ s s1 e1 a w _ h1 R hr fun a1 w1 hA=>?_;cases e1 with
    |normal=>obtain⟨φ1,he1,R1,hle1⟩:=hA;show Code.roundsIn (FR ro) 0 P x Q n a1 w1;exact ih φ1 s1 a1 w1 hc R1 (hr.ext he1 hle1) fun a2 w2 hA2=>hQ a2 w2 (hA2.trans he1 hle1)
    |exit id=>cases hc;exact hQ a1 w1 hA
    |ret=>cases hc;exact hQ a1 w1 hA
 grind[wpIn_loop_rounds]
theorem zmg{t:Tr Zb}{ds:List BN}{l:BN}{r:Res}{e:Zh}{s2:St}(hc:zoe t ds l r=some (e,s2)):
  ∃x h st pend lf ln lt lps la lb ld,r=some (x,h)∧h.t.get l=some (.loop st pend lf ln lt lps la lb ld)∧st≠.busy∧e=pend.getD .normal∧s2=⟨t,ds,h.put l (.loop .exhausted pend lf ln lt lps la lb ld)⟩:=by
 unfold zoe at hc
 grind
theorem zno{ro:Option Nat}{Q:Exit→Act→World→Prop}{a:Act}{w:World}(e:Zh)(h:Q (zA9 e) a w):(zbI e).wpIn (FR ro) 0 P Q a w:=by
 cases e with
 |normal=>exact wpIn_skip h
 |exit id=>exact wpIn_exit h
 |ret=>exact wpIn_ret h
theorem zrZ(C:y4 P call){g:Operand}{ps:Array Tmp}{assign body:Code}:uC P w0 S nt call (.rangeFunc g ps assign body):=by
 intro f fn round ro φ s s2 e a w Q hc R hr hQ;cases hg:yd g with
 |none=>simp only[ye,hg]at hc;cases hc
 |some gg=>
  simp only[ye,hg]at hc;obtain⟨t,d,h⟩:=s;simp only[ztA]at hc;have R':=R;obtain⟨H,T,D,dn⟩:=R;simp only at H T D dn;split at hc
  ·cases hc
  ·rename_i bd ds h0 hD;split at hc
   ·rename_i gf caps hgv;obtain⟨xv,h3,st,pend,lf,ln,lt,lps,la,lb,ld,hcall,hl3,hnb,he,hs2⟩:=zmg hc;refine wpIn_rangeFunc fun fn' _=>?_;obtain⟨φ0,mark,w0',hE0,H0,hn0,hbd,hmark,hrunE⟩:∃(φ0:Phi) (mark:List Deferred) (w1:World),Ext h.n.toNat φ φ0∧Zd w0 S φ0 h0 w1∧h.n.toNat≤h0.n.toNat∧okB φ0 h0.n.toNat bd∧
      (marks φ0 ds=mark++a.defers∧∀b∈ds,okB φ0 h0.n.toNat b)∧
      (Instr.enterLoop fn' a.tmps ps assign body ro).run P w=.ok (w1.heap.size,mark) (w1.alloc (.loop { state:=.ready,pending:=none,fn:=fn',tmps:=a.tmps,params:=ps,assign:=assign,body:=body,defers:=(φ0 bd).blk })):=by
     cases round with
     |none=>
      have hro:ro=none:=hr;subst hro;simp only[zof]at hD;cases hD;refine⟨upd φ h.n ⟨w.heap.size,0,0,true,none⟩,[{ target:=.collected w.heap.size,args:=#[] }],w.alloc (.deferred (some [])),yB _ _ _,H.new _ _ _ rfl ?_,by grind[yO],⟨by grind[yO],by rw[zu]⟩,⟨?_,?_⟩,?_⟩
      ·show _=_;grind[zu,heap_alloc_new]
      ·show marks _ (h.n::d)=_;simp only[marks,Yzy,zu];have:=zc2 (yB φ h.n ⟨w.heap.size,0,0,true,none⟩) dn
       grind[marks]
      ·intro b hb;rw[yO];cases hb with
       |head=>grind[zu]
       |tail _ hm=>exact okB.ext (yB _ _ _) (Yyj _) (dn b hm)
      ·simp_all[zu,run_enterLoop_outer]
     |some l=>
      obtain⟨hro,hln⟩:=hr;subst hro;simp only[zof]at hD;split at hD
      ·rename_i st9 p9 f9 n9 t9 ps9 a9 b9 d9 hl9;cases hD;obtain⟨arr,f8,g1,g2,g3⟩:=H.obj l _ hl9;refine⟨φ,[],w,Ext.refl _ _,H,LzB _,g3,⟨by rw[D];rfl,dn⟩,?_⟩;simp_all[run_enterLoop_inner]
      ·cases hD
    have T0:Zi φ0 nt h0.n.toNat t a.tmps:=T.ext hE0 hn0;have H1:Zd w0 S (upd φ0 h0.n ⟨w0'.heap.size,0,0,true,none⟩) (h0.new (.loop .ready none fn nt t ps assign body bd)) (w0'.alloc (.loop { state:=.ready,pending:=none,fn:=fn',tmps:=a.tmps,params:=ps,assign:=assign,body:=body,defers:=(φ0 bd).blk })):=by
     refine H0.new _ _ ⟨w0'.heap.size,0,0,true,none⟩ rfl ?_;refine⟨a.tmps,fn',?_,T0.ext (yB _ _ _) (Yyj _),okB.ext (yB _ _ _) (Yyj _) hbd⟩;rw[zu,yB φ0 h0.n _ bd hbd.1]
     grind[heap_alloc_new]
    have hE1:Ext h.n.toNat φ (upd φ0 h0.n ⟨w0'.heap.size,0,0,true,none⟩):=hE0.trans (yB _ _ _) hn0;have hn1:(h0.new (.loop .ready none fn nt t ps assign body bd)).n.toNat=h0.n.toNat+1:=yO _ _;have og:=zr T0 hg;rw[hgv]at og;have hwcaps:∀x∈([Zb.s (.one (.yld h0.n))]++caps.map fun p=>Zb.s (.one (.ptr p.1 p.2))),wfA (upd φ0 h0.n ⟨w0'.heap.size,0,0,true,none⟩) (h0.new (.loop .ready none fn nt t ps assign body bd)).n.toNat x:=by
     intro x hx;rw[hn1];rcases YzI.1 hx with hx|hx
     ·simp only[YzF]at hx;subst hx;exact⟨Yyu _,by rw[zu]⟩
     ·obtain⟨p,hp,rfl⟩:=List.mem_map.1 hx;exact okB.ext (yB _ _ _) (Yyj _) (og.2 p hp)
    obtain⟨hcf,hcl⟩:=(C w0 S _ _ _ _ xv h3 H1 hwcaps).1 gf hcall;have hargs:(([Zb.s (.one (.yld h0.n))]++caps.map fun p=>Zb.s (.one (.ptr p.1 p.2))).map (zz (upd φ0 h0.n ⟨w0'.heap.size,0,0,true,none⟩))).toArray=#[Value.func (.yield w0'.heap.size) #[] #[]]++(caps.map fun p=>Value.pointer (some (adr φ0 p.1 p.2))).toArray:=by
     rw[Yya,←List.append_toArray]
     congr 1
     ·simp[zz,zP,zm,zu]
     ·simp only[List.map_map,Function.comp_def]
      congr 1
      refine Yz9 fun p hp=>?_;have:=yB φ0 h0.n ⟨w0'.heap.size,0,0,true,none⟩ p.1 (og.2 p hp).1
      grind[zz,zP,zm,adr]
    rw[hargs]at hcl;have hgval:a.eval g=.func (.func gf) #[] (caps.map fun p=>Value.pointer (some (adr φ0 p.1 p.2))).toArray:=og.1;refine⟨w0'.heap.size,mark,_,{ target:=.fn (.func gf) (caps.map fun p=>Value.pointer (some (adr φ0 p.1 p.2))).toArray,args:=#[Value.func (.yield w0'.heap.size) #[] #[]] },w0'.alloc (.loop { state:=.ready,pending:=none,fn:=fn',tmps:=a.tmps,params:=ps,assign:=assign,body:=body,defers:=(φ0 bd).blk }),gf,
     #[Value.func (.yield w0'.heap.size) #[] #[]]++(caps.map fun p=>Value.pointer (some (adr φ0 p.1 p.2))).toArray,w0'.alloc (.loop { state:=.ready,pending:=none,fn:=fn',tmps:=a.tmps,params:=ps,assign:=assign,body:=body,defers:=(φ0 bd).blk }),hrunE,?_,fun _ _=>trivial,?_,fun hh=>by trivial,zlJ hcl |>.mono ?_⟩
    ·grind[resolve,Deferred.ofValue,Sem.run_pure,Act.eval]
    ·grind[invoke]
    ·rintro e9 w9 ⟨φ3,rfl,he3,H3,_,hle3⟩
     rw[hn1]at he3 hle3;obtain⟨arr,f8,g1,g2,g3⟩:=H3.obj h0.n _ hl3;have eb:(φ3 h0.n).blk=w0'.heap.size:=by
      have:=he3 h0.n (Yyu _)
      grind[zu]
     rw[eb]at g1;have hend:=run_endLoop (P:=P) g1 hnb;have hlt:w0'.heap.size<w9.heap.size:=(Lz7.1 g1).1;have H4:Zd w0 S φ3 (h3.put h0.n (.loop .exhausted pend lf ln lt lps la lb ld)) (w9.putObj w0'.heap.size (.loop { state:=.exhausted,pending:=pend.map zbI,fn:=f8,tmps:=arr,params:=lps,assign:=la,body:=lb,defers:=(φ3 ld).blk })):=by
      refine H3.put hl3 trivial (fun k hk=>?_) (by simp) rfl rfl rfl ⟨arr,f8,?_,g2,g3⟩
      ·grind[World.putObj_heap_other]
      ·grind[World.putObj_heap_same]
     have hE3:Ext h.n.toNat φ φ3:=hE1.trans he3 (by omega);have hA:After w0 S φ nt h s2 { a with defers:=mark++a.defers } (w9.putObj w0'.heap.size (.loop { state:=.exhausted,pending:=pend.map zbI,fn:=f8,tmps:=arr,params:=lps,assign:=la,body:=lb,defers:=(φ3 ld).blk })):=by
      subst hs2;refine⟨φ3,hE3,⟨H4,?_,?_,?_⟩,?_⟩
      ·exact T0.ext (fun b hb=>(he3 b (by omega)).trans (yB _ _ _ b hb)) (by show h0.n.toNat≤h3.n.toNat;omega)
      ·show mark++a.defers=marks φ3 ds;rw[←hmark.1];refine (zc2 (n:=h0.n.toNat) (fun b hb=>?_) hmark.2).symm;exact(he3 b (by omega)).trans (yB _ _ _ b hb)
      ·intro b hb;have:=okB.ext (yB φ0 h0.n ⟨w0'.heap.size,0,0,true,none⟩) (Yyj _) (hmark.2 b hb);exact okB.ext he3 (by trivial) this
      ·show h.n.toNat≤h3.n.toNat;omega
     refine⟨_,_,hend,?_⟩;subst he;cases pend with
     |none=>exact hQ _ _ hA
     |some e1=>grind[zno]
   ·cases hc
end
end Go.CE
end
section
namespace Go.CE
open Go.RowKit
def yx(f:zdX):Prop:=∀call t h v h2,f call t h=some (v,h2)→h2=h
theorem zS:yx (zT none):=fun _ _ _ _ _ e=>by cases e
theorem y6{f:zdX}(hf:yx f):yx (zT (some f)):=hf
theorem zlZ{α:Type}{a:Option α}{g:α→Option zdX}(hg:∀x,yx (zT (g x))):yx (zT (a.bind g)):=by cases a<;>grind[zS]
theorem zC{α:Type}{a:Option α}{g:α→Option zdX}(hg:∀x,yx (zT (g x))):yx (zT (a >>= g)):=zlZ hg
theorem zgG{α:Type}{a:Option α}{g:α→zdX}(hg:∀x,yx (g x)):yx (zT (a.map g)):=by cases a<;>grind[zS,zT]
theorem xJ{b:Bool}{x y:Option zdX}(hx:yx (zT x))(hy:yx (zT y)):yx (zT (bif b then x else y)):=by grind
theorem wL{h h2:Za}{c:Option Zc}{v:Zb}(e:zaU h c=some (v,h2)):h2=h:=by cases c<;>cases e;rfl
theorem jP{h h2:Za}{c:Option (List Zc)}{v:Zb}(e:zfi h c=some (v,h2)):h2=h:=by cases c<;>cases e;rfl
theorem vq{h h2:Za}{n:Option Nat}{cs:List Zc}{off:Nat}{v:Zb}(e:part n cs off h=some (v,h2)):h2=h:=by
 cases n
 ·exact wL e
 ·exact jP e
theorem kJ{h h2:Za}{b:Bool}{x y:Res}{v:Zb}(hx:x=some (v,h2)→h2=h)(hy:y=some (v,h2)→h2=h)(e:(bif b then x else y)=some (v,h2)):h2=h:=by grind
theorem zgN{st:Nat}{lo hi mx:Option Opd}{t:Tr Zb}{h h2:Za}{b:BN}{off len cap:Nat}{v:Zb}(e:xW st lo hi mx t h b off len cap=some (v,h2)):h2=h:=by
 unfold xW at e
 grind
theorem znO{st:Nat}{lo hi mx:Option Opd}{t:Tr Zb}{h h2:Za}{b:BN}{off len cap:Nat}{v:Zb}(e:xP st lo hi mx t h b off len cap=some (v,h2)):h2=h:=by
 unfold xP at e
 (repeat' split at e)<;>first|(cases e;done)|(cases e;rfl)|exact kJ (fun e=>by cases e;rfl) (fun e=>by cases e) e
theorem zl6{lo hi mx:Option Opd}{t:Tr Zb}{h h2:Za}{v:Zb}(e:wg lo hi mx t h=some (v,h2)):h2=h:=by grind[wg]
theorem zfb(x:Opd):yx (zkA x):=by
 intro call t h v h2 e;unfold zkA at e
 grind
theorem zlP(x y z:Opd):yx (jV x y z):=by
 intro call t h v h2 e;unfold jV at e
 grind
theorem zcu(zs ps):yx (ui zs ps):=by intro call t h v h2 e;exact jP e
theorem zlT(n x):yx (jY n x):=by
 intro call t h v h2 e;unfold jY loadAt at e
 (repeat' split at e)<;>first|(cases e;done)|exact vq e|(unfold zg1 at e;split at e;exact wL e;exact jP e)|exact kJ wL (fun e=>by cases e) e
theorem ziL(x):yx (ud x):=by
 intro call t h v h2 e;unfold ud at e
 grind
theorem znH(g x y):yx (zbZ g x y):=by
 intro call t h v h2 e;unfold zbZ at e
 (repeat' split at e)<;>first|(cases e;done)|(cases e;rfl)|exact wL e|exact jP e|exact vq e|exact kJ (fun e=>by first|(cases e;rfl)|exact wL e|exact vq e) (fun e=>by cases e) e
theorem ziJ(g x y):yx (wT g x y):=by
 intro call t h v h2 e;unfold wT at e
 (repeat' split at e)<;>first|(cases e;done)|(cases e;rfl)|exact wL e|exact jP e|exact vq e|exact kJ (fun e=>by first|(cases e;rfl)|exact wL e|exact vq e) (fun e=>by cases e) e
theorem znC(g x y):yx (zcP g x y):=by
 intro call t h v h2 e;unfold zcP at e
 (repeat' split at e)<;>first|(cases e;done)|(cases e;rfl)|exact wL e|exact jP e|exact vq e|exact kJ (fun e=>by first|(cases e;rfl)|exact wL e|exact vq e) (fun e=>by cases e) e
theorem zrB(g n x y):yx (zkB g n x y):=by
 intro call t h v h2 e;unfold zkB at e
 grind
theorem zlQ(n x y):yx (uP n x y):=by
 intro call t h v h2 e;unfold uP at e
 grind
theorem zlR(n x y):yx (jW n x y):=by
 intro call t h v h2 e;unfold jW at e
 grind
theorem znE(x):yx (zcQ x):=by
 intro call t h v h2 e;unfold zcQ at e
 grind
theorem znF(x):yx (zcR x):=by
 intro call t h v h2 e;unfold zcR at e
 grind
theorem zlY(k x):yx (j5 k x):=by
 intro call t h v h2 e;unfold j5 at e
 grind
theorem zxz{h h2:Za}{c:Option (List Zc)}{v:Zb}(e:zca h c=some (v,h2)):h2=h:=by
 unfold zca at e
 grind
theorem znJ(x):yx (zam x):=by
 intro call t h v h2 e
 grind[zam,zxz]
theorem znD(x):yx (zfC x):=by
 intro call t h v h2 e;unfold zfC at e
 grind
theorem znB(u n x):yx (zfB u n x):=by
 intro call t h v h2 e;unfold zfB at e
 grind
theorem ziK(n x y):yx (uc n x y):=by
 intro call t h v h2 e
 grind[uc]
theorem zgF(l st x lo hi mx):yx (vR l st x lo hi mx):=by
 intro call t h v h2 e
 grind[vR,zgN]
theorem zlS(f x):yx (jX f x):=by
 intro call t h v h2 e;unfold jX at e
 grind
theorem ziI(st x lo hi mx):yx (ub st x lo hi mx):=by
 intro call t h v h2 e;unfold ub at e;split at e
 ·exact zl6 e
 ·exact kJ zgN znO e
 ·cases e
theorem zgE(x lo hi):yx (wh x lo hi):=by
 intro call t h v h2 e;unfold wh at e
 grind
theorem zlX(x o):yx (j4 x o):=by
 intro call t h v h2 e;unfold j4 at e
 grind
theorem ziP(x o n):yx (uh x o n):=by
 intro call t h v h2 e;unfold uh at e
 (repeat' split at e)<;>first|(cases e;done)|(cases e;rfl)|exact wL e|exact jP e|exact vq e|exact kJ (fun e=>by first|(cases e;rfl)|exact wL e|exact vq e) (fun e=>by cases e) e
theorem znG(st x i):yx (zcU st x i):=by
 intro call t h v h2 e;unfold zcU at e
 (repeat' split at e)<;>first|(cases e;done)|(cases e;rfl)|exact wL e|exact jP e|exact vq e|exact kJ (fun e=>by first|(cases e;rfl)|exact wL e|exact vq e) (fun e=>by cases e) e
theorem ziN(l st x i):yx (uf l st x i):=by
 intro call t h v h2 e;unfold uf at e
 (repeat' split at e)<;>first|(cases e;done)|(cases e;rfl)|exact wL e|exact jP e|exact vq e|exact kJ (fun e=>by first|(cases e;rfl)|exact wL e|exact vq e) (fun e=>by cases e) e
theorem ziO(l st n x i):yx (ug l st n x i):=by
 intro call t h v h2 e;unfold ug at e
 (repeat' split at e)<;>first|(cases e;done)|(cases e;rfl)|exact wL e|exact jP e|exact vq e|exact kJ (fun e=>by first|(cases e;rfl)|exact wL e|exact vq e) (fun e=>by cases e) e
theorem ziM(x i):yx (ue x i):=by
 intro call t h v h2 e;unfold ue at e
 (repeat' split at e)<;>first|(cases e;done)|(cases e;rfl)|exact wL e|exact jP e|exact vq e|exact kJ (fun e=>by first|(cases e;rfl)|exact wL e|exact vq e) (fun e=>by cases e) e
theorem zgH(q z ok m k):yx (wZ q z ok m k):=by
 intro call t h v h2 e;unfold wZ at e
 grind
theorem zfc(x i):yx (x6 x i):=by
 intro call t h v h2 e;unfold x6 at e
 grind
theorem zlU(x):yx (jZ x):=by
 intro call t h v h2 e;unfold jZ at e
 grind
theorem zlW(x):yx (j0 x):=by
 intro call t h v h2 e;unfold j0 at e
 grind
theorem zlV(x):yx (qt x):=by
 intro call t h v h2 e;unfold qt at e
 grind
theorem zbz(b x xs):yx (xG b x xs):=by
 intro call t h v h2 e;unfold xG at e
 grind
theorem znI(P:Program)(o:Op)(hq:yW P o=true):yx (cOp P o):=by
 cases o with
 |move x=>exact zgG zfb
 |assign x=>exact zgG zfb
 |pick c x y=>exact zC fun _=>zC fun _=>zC fun _=>y6 (zlP _ _ _)
 |build t parts=>
  unfold cOp;simp only;split
  ·exact xJ (zC fun _=>y6 (zcu _ _)) zS
  ·grind[zC,zcu,zS,zT]
  ·exact zS
 |load t x=>exact zC fun _=>zC fun _=>y6 (zlT _ _)
 |nilCheck x=>exact zC fun _=>y6 (ziL _)
 |binOp op t x y u=>
  unfold cOp;simp only;split
  ·grind[zC,ziJ,znH,zT]
  ·grind[zC,znC,zT]
  ·grind[zC,zlQ,zS,zT]
  ·refine xJ ?_ zS
   grind[zC,ziK,zS,zT]
  ·grind[zC,zlR,zS,zT]
  ·refine xJ zS ?_
   grind[zC,zrB,zS,zT]
  ·exact zS
 |unOp u t x=>
  cases u with
  |not=>exact zC fun _=>y6 (znE _)
  |neg=>exact zC fun _=>y6 (znF _)
  |_=>exact zS
 |convert a b x=>
  unfold cOp;simp only;split
  ·grind[zC,zlY,zT]
  ·grind[yW,zpA,zfT]
  ·exact xJ (zC fun _=>y6 (znJ _)) zS
  ·exact xJ (zC fun _=>y6 (znD _)) zS
  ·exact xJ (zC fun _=>y6 (znB _ _ _)) zS
  ·exact zS
 |makeFunc f first captured=>
  cases f with
  |func f=>exact xJ (zC fun _=>y6 (zlS _ _)) zS
  |_=>exact zS
 |slice t x lo hi mx=>
  unfold cOp;simp only;split
  ·split
   ·exact xJ zS (zC fun _=>zC fun _=>zC fun _=>zC fun _=>y6 (ziI _ _ _ _ _))
   ·exact zS
  ·split
   ·exact xJ zS (zC fun _=>zC fun _=>zC fun _=>zC fun _=>y6 (zgF _ _ _ _ _ _))
   ·exact zS
  ·exact xJ zS (zC fun _=>zC fun _=>zC fun _=>y6 (zgE _ _ _))
  ·exact zS
 |fieldAddr t x f=>
  unfold cOp;simp only;split
  ·split
   ·split
    ·exact xJ zS (zC fun _=>y6 (zlX _ _))
    ·exact zS
   ·exact zS
  ·exact zS
 |field t x f=>
  unfold cOp
  grind[zC,ziP,zS,zT]
 |indexAddr t x i=>
  unfold cOp
  grind[zC,znG,zS,ziN,zT]
 |index t x i=>unfold cOp;simp only;split<;>grind[zC,ziO,zS,ziM,zT]
 |lookup t m k ok=>
  unfold cOp
  grind[zC,zgH,zS,zT]
 |extract x i=>exact zC fun _=>y6 (zfc _ _)
 |call c=>
  obtain⟨callee,args,ts⟩:=c;cases callee with
  |builtin b=>
   cases b with
   |len=>grind[cOp,zC,zlU,zlW,zlV,zfb,zS,zT]
   |max=>grind[cOp,zbz,zS,zT]
   |min=>grind[cOp,zbz,zS,zT]
   |_=>cases hq
  |_=>cases hq
 |_=>cases hq
end Go.CE
end
section
namespace Go.CE
open Go.RowKit
theorem uL{a b:Bool}(h:(a&&b)=true):a=true∧b=true:=by grind
theorem kG:∀{a b:BN},zm1 a b=true→a=b
 | .z,.z,_=>rfl
 | .o a,.o b,h=>by rw[kG (a:=a) (b:=b) h]
 | .d a,.d b,h=>by rw[kG (a:=a) (b:=b) h]
 | .z,.o _,h=>by cases h
 | .z,.d _,h=>by cases h
 | .o _,.z,h=>by cases h
 | .o _,.d _,h=>by cases h
 | .d _,.z,h=>by cases h
 | .d _,.o _,h=>by cases h
theorem zp1{a b:Bool}(h:eqB a b=true):a=b:=by cases a<;>cases b<;>first|rfl|cases h
theorem zpW:∀{a b:List (BN×Nat)},zyG a b=true→a=b
 | [],[],_=>rfl
 |(b,o)::l,(b',o')::l',h=>by obtain⟨h1,h2⟩:=uL h;obtain⟨h3,h4⟩:=uL h1;rw[kG h3,beq_true h4,zpW h2]
 | [],_::_,h=>by cases h
 |_::_,[],h=>by cases h
theorem ztW:∀{a b:List UInt8},eqU a b=true→a=b
 | [],[],_=>rfl
 |a::l,b::l',h=>by obtain⟨h1,h2⟩:=uL h;rw[UInt8.toNat_inj.1 (beq_true h1),ztW h2]
 | [],_::_,h=>by cases h
 |_::_,[],h=>by cases h
theorem zsY{a b:ByteArray}(h:eqU a.data.toList b.data.toList=true):a=b:=by have:=ztW h;cases a<;>simp_all
theorem zD0{a b:Int}(h:eqI a b=true):a=b:=by grind[jE]
theorem zpT{a b:Zc}(h:eqV a b=true):a=b:=by
 cases a<;>cases b<;>first
  |rfl
  |(cases h;done)
  |skip
 ·exact congrArg _ (zp1 h)
 ·obtain⟨h1,h2⟩:=uL h
  grind[zjw,zD0]
 ·exact congrArg _ (zsY h)
 ·obtain⟨h1,h2⟩:=uL h
  grind[kG,beq_true]
 ·obtain⟨h1,h2⟩:=uL h;obtain⟨h1,h3⟩:=uL h1;obtain⟨h1,h4⟩:=uL h1;obtain⟨h1,h5⟩:=uL h1
  grind[kG,beq_true,zp1]
 ·exact congrArg _ (kG h)
 ·obtain⟨h1,h2⟩:=uL h
  grind[beq_true,zpW]
 ·exact congrArg _ (kG h)
 ·obtain⟨h1,h2⟩:=uL h;simp_all
theorem zju:∀{a b:List Zc},zwR a b=true→a=b
 | [],[],_=>rfl
 |a::l,b::l',h=>by obtain⟨h1,h2⟩:=uL h;rw[zpT h1,zju h2]
 | [],_::_,h=>by cases h
 |_::_,[],h=>by cases h
theorem zpU{a b:SVal}(h:zyE a b=true):a=b:=by
 cases a<;>cases b<;>first
  |(cases h;done)
  |exact congrArg _ (zpT h)
  |exact congrArg _ (zju h)
theorem zpV:∀{a b:List SVal},zyF a b=true→a=b
 | [],[],_=>rfl
 |a::l,b::l',h=>by obtain⟨h1,h2⟩:=uL h;rw[zpU h1,zpV h2]
 | [],_::_,h=>by cases h
 |_::_,[],h=>by cases h
theorem zlg{a b:Zb}(h:eqA a b=true):a=b:=by
 cases a<;>cases b<;>first
  |(cases h;done)
  |exact congrArg _ (zpU h)
  |exact congrArg _ (zpV h)
noncomputable def frL(L:Nat→Bool):Nat→List (Option BN×Zb)→Tr Zb→Tr Zb
 |_,[],t=>t
 |i,(d,v)::r,t=>frL L (i+1) r (bif L i then zcy t v d else t)
open Classical in
noncomputable def lw(L:Nat→Bool)(s:BN):Nat→List (Option BN×Zb)→Option Zb
 |_,[]=>none
 |i,(d,v)::r=>(lw L s (i+1) r).or (if L i=true∧d=some s then some v else none)
theorem zfe(t:Tr Zb)(v:Zb)(d:Option BN)(s:BN)[Decidable (d=some s)]:(zcy t v d).get s=if d=some s then some v else t.get s:=by
 cases d with
 |none=>simp[zcy]
 |some d=>
  by_cases h:d=s
  ·grind[zcy,zK]
  ·rw[Yzb (fun hh=>h (Option.some.inj hh))];exact zy _ _ _ _ (fun hh=>h hh.symm)
section
variable {L L':Nat→Bool} {s:BN}
open Classical in
theorem js:∀(r:List (Option BN×Zb)) (i:Nat) (t:Tr Zb),(frL L i r t).get s=(lw L s i r).or (t.get s)
 | [],i,t=>rfl
 |(d,v)::r,i,t=>by
  unfold frL lw;rw[js r (i+1),Option.or_assoc]
  congr 1
  cases hL:L i with
  |false=>simp
  |true=>
   simp only[Yza,true_and]
   grind[zfe]
theorem zaq:∀(r:List (Option BN×Zb)) (i:Nat),(∀j d v,r[j]? = some (d,v)→d=some s→L (i+j)=L' (i+j))→lw L s i r=lw L' s i r
 | [],i,_=>rfl
 |(d,v)::r,i,h=>by
  unfold lw;rw[zaq r (i+1) fun j d v hj hd=>by have:=h (j+1) d v (by trivial) hd;grind]
  congr 1
  by_cases hd:d=some s
  ·have:=h 0 d v (by simp) hd
   grind
  grind
theorem zph:∀(r:List (Option BN×Zb)) (i:Nat),(∀j d v,r[j]? = some (d,v)→d=some s→L (i+j)=false)→lw L s i r=none
 | [],i,_=>rfl
 |(d,v)::r,i,h=>by
  unfold lw;rw[zph r (i+1) fun j d v hj hd=>by have:=h (j+1) d v (by trivial) hd;grind];by_cases hd:d=some s
  ·have:=h 0 d v (by simp) hd
   grind
  grind
theorem zje:∀(r:List (Option BN×Zb)) (i k:Nat) (v:Zb),r[k]? = some (some s,v)→L (i+k)=true→(∀j d u,k<j→r[j]? = some (d,u)→d=some s→L (i+j)=false)→lw L s i r=some v
 | [],i,k,v,hk,_,_=>by simp at hk
 |(d,u)::r,i,0,v,hk,hL,h=>by
  simp only[Yzi,Option.some.injEq,Prod.mk.injEq]at hk;obtain⟨rfl,rfl⟩:=hk;unfold lw;rw[zph r (i+1) fun j d v hj hd=>by have:=h (j+1) d v (by omega) (by trivial) hd;grind]
  grind
 |(d,u)::r,i,k+1,v,hk,hL,h=>by
  unfold lw;rw[zje r (i+1) k v (by trivial) (by grind) fun j d v hj hjr hd=>by have:=h (j+1) d v (by omega) (by trivial) hd;grind]
  rfl
theorem zk4(d:Option BN)(v:Zb)(r:List (Option BN×Zb))(i:Nat)(t:Tr Zb):frL L i ((d,v)::r) t=frL L (i+1) r (bif L i then zcy t v d else t):=rfl
theorem zqh(e:Bool)(es:List Bool)(i:Nat):ce L i (e::es)=bif L i&&e then ce L (i+1) es+1 else ce L (i+1) es:=rfl
theorem zdg:∀(r:List (Option BN×Zb)) (i:Nat) (t:Tr Zb),frL L (i+1) r t=frL (fun k=>L (k+1)) i r t
 | [],i,t=>rfl
 |(d,v)::r,i,t=>by unfold frL;exact zdg r (i+1) _
theorem zaA:∀(r:List (Option BN×Zb)) (i:Nat) (t:Tr Zb),(∀j,j<r.length→L (i+j)=L' (i+j))→frL L i r t=frL L' i r t
 | [],i,t,_=>rfl
 |(d,v)::r,i,t,h=>by unfold frL;have h0:=h 0 (by simp);simp only[YzH]at h0;rw[h0];exact zaA r (i+1) _ fun j hj=>by have:=h (j+1) (by grind);grind
theorem zgn:∀(es:List Bool) (i:Nat),ce L (i+1) es=ce (fun k=>L (k+1)) i es
 | [],i=>rfl
 |e::es,i=>by unfold ce;rw[Yyv,Yyv,zgn es (i+1)]
theorem w8:∀(es:List Bool) (i:Nat),(∀j,es[j]? = some true→L (i+j)=L' (i+j))→ce L i es=ce L' i es
 | [],i,_=>rfl
 |e::es,i,h=>by
  unfold ce;have ih:=w8 es (i+1) fun j hj=>by have:=h (j+1) (by trivial);grind
  rw[Yyv,ih];cases e with
  |false=>simp
  |true=>
   have h0:=h 0 (by simp)
   grind
theorem wO:∀(es:List Bool) (i:Nat),(∀j,es[j]? = some true→L (i+j)=true→L' (i+j)=true)→ce L i es≤ce L' i es
 | [],i,_=>LzB _
 |e::es,i,h=>by
  unfold ce;have ih:=wO es (i+1) fun j hj hL=>by have:=h (j+1) (by trivial) (by grind);grind
  simp only[Yyv];cases e with
  |false=>grind
  |true=>
   have h0:=h 0 (by simp)
   grind
theorem zhJ:∀(es:List Bool) (i k:Nat),es[k]? = some true→L (i+k)=false→L' (i+k)=true→(∀j,j≠i+k→L' j=L j)→ce L' i es=ce L i es+1
 | [],i,k,hk,_,_,_=>by simp at hk
 |e::es,i,0,hk,h1,h2,h3=>by
  simp only[Yzi,Option.some.injEq]at hk;subst hk;simp only[YzH]at h1 h2 h3;unfold ce;rw[h1,h2];simp only[Yyv,Yyi,Yza,Yzd]
  grind[w8]
 |e::es,i,k+1,hk,h1,h2,h3=>by
  unfold ce;have ih:=zhJ es (i+1) k (by trivial) (by grind) (by grind) fun j hj=>h3 j (by omega)
  grind
end
theorem v7(t:Tr Zb)(s:BN)[DecidableEq BN]:∀(l:List BN),(jg t l).get s=if s∈l then t.get s else none
 | []=>by cases s<;>rfl
 |x::l=>by
  unfold jg;split
  ·rename_i v hv;by_cases hx:s=x
   ·grind[zK]
   ·rw[zy _ _ _ _ hx,v7 t s l];simp[hx]
  ·rename_i hv;rw[v7 t s l]
   grind
def dv(x:Zl×Tr Zb×Zb):Option BN×Zb:=(x.1.rop.dst,x.2.2)
theorem zga(call:zj):∀(ds:List Zl) (t:Tr Zb) (h:Za) (l:List (Zl×Tr Zb×Zb)) (t2:Tr Zb) (hs:List Za),evD call ds t h=some (l,t2,hs)→
  l.map (·.1)=ds∧hs[0]? = some h∧hs.length=ce (fun _=>true) 0 (ds.map (·.eff))+1∧t2=frL (fun _=>true) 0 (l.map dv) t∧
  ∀j d tr v,l[j]? = some (d,tr,v)→tr=jg (frL (fun k=>decide (k<j)) 0 (l.map dv) t) d.looks∧
   ∃hk h',hs[ce (fun k=>decide (k<j)) 0 (ds.map (·.eff))]? = some hk∧x5 call d.rop tr hk=some (v,h')∧(d.eff=true→hs[ce (fun k=>decide (k<j)) 0 (ds.map (·.eff))+1]? = some h')
 | [],t,h,l,t2,hs,e=>by cases e;exact⟨rfl,rfl,rfl,rfl,fun j d tr v hj=>by simp at hj⟩
 |d::ds,t,h,l,t2,hs,e=>by
  unfold evD at e;split at e
  ·rename_i v0 h0 hv0;cases hr:evD call ds (zcy t v0 d.rop.dst) (bif d.eff then h0 else h) with
   |none=>rw[hr]at e;cases e
   |some p=>
    obtain⟨l',t',hs'⟩:=p;rw[hr]at e;simp only[zyY,Option.some.injEq,Prod.mk.injEq]at e;obtain⟨rfl,rfl,rfl⟩:=e;obtain⟨g1,g2,g3,g4,g5⟩:=zga call ds _ _ l' _ hs' hr;have hsh:∀(L:Nat→Bool),ce L 0 ((d::ds).map (·.eff))=(bif L 0&&d.eff then 1 else 0)+ce (fun k=>L (k+1)) 0 (ds.map (·.eff)):=by grind[zqh,zgn]
    have hfr:∀(L:Nat→Bool),frL L 0 (((d,jg t d.looks,v0)::l').map dv) t=frL (fun k=>L (k+1)) 0 (l'.map dv) (bif L 0 then zcy t v0 d.rop.dst else t):=by grind[dv,zk4,zdg]
    refine⟨by simp[g1],?_,?_,?_,?_⟩
    ·grind
    ·grind
    ·grind
    ·intro j dj tr v hj;cases j with
     |zero=>
      simp only[Yzi,Option.some.injEq,Prod.mk.injEq]at hj;obtain⟨rfl,rfl,rfl⟩:=hj;have hz:ce (fun k=>decide (k<0)) 0 ((d::ds).map (·.eff))=0:=by
       rw[hsh];simp only[Nat.not_lt_zero,decide_false,Bool.false_and,Yzd,Yzm];have:∀(es:List Bool) (i:Nat),ce (fun _=>false) i es=0:=by
        intro es
        induction es<;>grind[ce]
       grind
      refine⟨?_,h,h0,?_,hv0,?_⟩
      ·rw[hfr];simp only[Nat.not_lt_zero,decide_false,Yzd]
       congr 1
       have:∀(r:List (Option BN×Zb)) (i:Nat) (t:Tr Zb),frL (fun _=>false) i r t=t:=by
        intro r
        induction r<;>grind[frL]
       grind
      ·grind
      ·grind
     |succ j=>grind
  ·cases e
theorem zcA{call:zj}{o:Zo}{tr:Tr Zb}{v:Zb}:∀(hs:List Za),sameAt call o tr v hs=true→∀(k:Nat) (hk:Za),hs[k]? = some hk→∃h',x5 call o tr hk=some (v,h')
 | [],_,k,hk,hh=>by simp at hh
 |h::hs,e,k,hk,hh=>by
  unfold sameAt at e;split at e
  ·rename_i v' h' hv;obtain⟨e1,e2⟩:=uL e;cases k with
   |zero=>grind[zlg]
   |succ k=>exact zcA hs e2 k hk (by trivial)
  ·cases e
theorem zdv{call:zj}{hs:List Za}:∀(l:List (Zl×Tr Zb×Zb)),uz call hs l=true→∀(j:Nat) (d:Zl) (tr:Tr Zb) (v:Zb),l[j]? = some (d,tr,v)→d.eff=false→
  d.lo=d.hi∨∀k hk,d.lo≤k→k≤d.hi→hs[k]? = some hk→∃h',x5 call d.rop tr hk=some (v,h')
 | [],_,j,d,tr,v,hj,_=>by simp at hj
 |(d0,tr0,v0)::l,e,j,d,tr,v,hj,hd=>by
  obtain⟨e1,e2⟩:=uL e;cases j with
  |zero=>
   simp only[Yzi,Option.some.injEq,Prod.mk.injEq]at hj;obtain⟨rfl,rfl,rfl⟩:=hj;rw[hd]at e1;simp only[Yz7,YzJ]at e1;rcases e1 with e1|e1
   ·simp_all
   ·refine .inr fun k hk h1 h2 h3=>?_;refine zcA _ e1 (k-d0.lo) hk ?_
    grind
  |succ j=>exact zdv l e2 j d tr v (by trivial) hd
theorem zfO:∀(hs:List Za) (h:Za),hs≠[]→hs[hs.length-1]? = some (zfP h hs)
 | [],_,h=>absurd rfl h
 | [x],_,_=>rfl
 |x::y::hs,h,_=>by have:=zfO (y::hs) x (by simp);trivial
theorem zdy(P:Program)(nt:Nat)(ops:Array Oper)(bs:List Nat)(es:List Bool):∀(os:List Oper) (i j:Nat),(uK P nt ops bs es i os)[j]? = (os[j]?).map fun o=>
  (⟨xd P nt ops o,(o.looksAt ops).map bn,!yW P o.op,ce (fun k=>bef bs k (i+j)) 0 es,ce (fun k=>!bef bs (i+j) k) 0 es⟩:Zl)
 | [],i,j=>by simp[uK]
 |o::os,i,0=>by simp[uK]
 |o::os,i,j+1=>by simp only[uK,Yzt];rw[zdy P nt ops bs es os (Nat.succ i) j,show Nat.succ i+j=i+(j+1) by omega]
theorem zdz(P:Program)(nt:Nat)(ops:Array Oper)(bs:List Nat)(es:List Bool):∀(os:List Oper) (i:Nat),(uK P nt ops bs es i os).map (·.eff)=zaI P os
 | [],i=>rfl
 |o::os,i=>by have:=zdz P nt ops bs es os (Nat.succ i);simp only[uK,Yzy,this];rfl
theorem un{p:Nat→Oper→Bool}:∀(os:List Oper) (i:Nat),allI p i os=true→∀(j:Nat) (o:Oper),os[j]? = some o→p (i+j) o=true
 | [],_,_,j,o,hj=>by simp at hj
 |o::os,i,e,0,o',hj=>by simp only[Yzi,Option.some.injEq]at hj;subst hj;exact(uL e).1
 |o::os,i,e,j+1,o',hj=>by
  have:=un os (Nat.succ i) (uL e).2 j o' (by trivial)
  grind
section
variable {ops:Array Oper}
def Rdy(ops:Array Oper)(L:Nat→Bool)(i:Nat):Prop:=∀o e,ops[i]? = some o→e∈o.after.toList→Region.binds .any e=true→L e.on=true
def Clo(ops:Array Oper)(L:Nat→Bool):Prop:=∀i,L i=true→Rdy ops L i
def zwG(ops:Array Oper)(acc:List Nat):Prop:=∀(i x:Nat),acc[i]? = some x→∀(j:Nat),Nat.testBit x j=true→∀(L:Nat→Bool),Clo ops L→Rdy ops L i→L j=true
theorem zbt{acc:List Nat}{j:Nat}:∀(es:List Edge),Nat.testBit (zjQ acc es) j=true→∃e∈es,Region.binds .any e=true∧(e.on=j∨∃x,acc[e.on]? = some x∧Nat.testBit x j=true)
 | [],h=>by grind[zjQ]
 |e::es,h=>by
  unfold zjQ at h;cases hb:Region.binds .any e with
  |false=>
   rw[hb]at h;obtain⟨e',h1,h2⟩:=zbt es h
   grind
  |true=>
   rw[hb]at h;simp only[Yza]at h;have h:Nat.testBit ((2^e.on ||| (acc[e.on]?).getD 0) ||| zjQ acc es) j=true:=h;rw[Nat.testBit_or,Nat.testBit_or,YzJ,YzJ]at h;rcases h with (h|h)|h
   ·grind
   ·grind
   ·obtain⟨e',h1,h2⟩:=zbt es h
    grind
theorem zdD:∀(os pre:List Oper) (acc:List Nat),ops.toList=pre++os→acc.length=pre.length→zwG ops acc→zwG ops (zlB os acc)
 | [],_,acc,_,_,hg=>hg
 |o::os,pre,acc,hp,hl,hg=>by
  unfold zlB;refine zdD os (pre++[o]) _ (by simp[hp]) (by simp[hl]) ?_;intro i x hi j hj L hC hR;by_cases hlt:i<acc.length
  ·rw[Lz2 hlt]at hi;exact hg i x hi j hj L hC hR
  ·rw[Lz8 (by omega)]at hi;have h0:i-acc.length=0:=by
    grind
   rw[h0]at hi;simp only[Yzi,Option.some.injEq]at hi;subst hi;obtain⟨e,he,hb,hh⟩:=zbt _ hj;have ho:ops[i]? = some o:=by
    rw[←LzA,hp,Lz8 (by omega)]
    grind
   have hon:=hR o e ho he hb;rcases hh with hh|⟨x,hx,hh⟩
   ·grind
   ·exact hg _ x hx j hh L hC (hC _ hon)
theorem vW{i j:Nat}(h:bef (xM ops.toList) j i=true){L:Nat→Bool}(hC:Clo ops L)(hR:Rdy ops L i):L j=true:=by
 have hg:zwG ops (xM ops.toList):=zdD ops.toList [] [] rfl rfl (fun i x hi=>by simp at hi);unfold bef at h;cases hx:(xM ops.toList)[i]? with
 |none=>grind
 |some x=>rw[hx]at h;exact hg i x hx j h L hC hR
def lst(listed:Array Bool)(i:Nat):Bool:=listed.getD i false
theorem mem_ready{listed:Array Bool}{i:Nat}(h:i∈Region.ready .any ops listed):∃o,ops[i]? = some o∧i<listed.size∧lst listed i=false∧Rdy ops (lst listed) i:=by
 unfold Region.ready at h;rw[List.mem_filter]at h;obtain⟨h1,h2⟩:=h;obtain⟨h3,h4⟩:=uL h2;have hlt:i<listed.size:=by grind
 cases ho:ops[i]? with
 |none=>grind
 |some o=>
  rw[ho]at h4;refine⟨o,rfl,hlt,?_,?_⟩
  ·grind[lst]
  ·intro o' e ho' he hb
   grind[Array.all_eq_true',lst]
theorem zoc{listed:Array Bool}(hsz:listed.size=ops.size){i:Nat}{o:Oper}(ho:ops[i]? = some o)(hl:lst listed i=false)(hR:Rdy ops (lst listed) i):i∈Region.ready .any ops listed:=by
 have hi:i<ops.size:=(Lz7.1 ho).1;unfold Region.ready;rw[List.mem_filter];refine⟨by grind,?_⟩;rw[LzC]
 constructor
 ·grind[lst]
 ·rw[ho];simp only[Yz0,Yyb,Array.all_eq_true'];intro e he;cases hb:Region.binds .any e with
  |false=>rfl
  |true=>simpa[lst] using hR o e ho (by grind) hb
theorem zeX{listed:Array Bool}(hsz:listed.size=ops.size)(hA:∀(i:Nat) (o:Oper) (e:Edge),ops[i]? = some o→e∈o.after.toList→Region.binds .any e=true→e.on<i)
  (hnil:Region.ready .any ops listed=[]):∀i,i<ops.size→lst listed i=true:=by
 intro i
 induction i using Nat.strongRecOn with
 |_ i ih=>
  intro hi;cases hl:lst listed i with
  |true=>rfl
  |false=>
   have:=zoc (ops:=ops) hsz (YzM hi) hl (fun o e ho he hb=>by grind)
   grind
theorem vH{listed:Array Bool}{i:Nat}(hi:i<listed.size)(j:Nat):lst (listed.setIfInBounds i true) j=(decide (j=i)||lst listed j):=by
 unfold lst;rw[YzG,YzG,Array.getElem?_setIfInBounds]
 grind
def unl(listed:Array Bool):Nat:=listed.toList.count false
theorem znu{listed:Array Bool}{i:Nat}(hi:i<listed.size)(hl:lst listed i=false):unl (listed.setIfInBounds i true)+1=unl listed:=by
 unfold unl;rw[Array.toList_setIfInBounds,List.count_set (by omega)];have hg:listed.toList[i]'(by omega)=false:=by simp_all[lst]
 grind
theorem zkc{listed:Array Bool}(h:unl listed=0){i:Nat}(hi:i<listed.size):lst listed i=true:=by
 unfold unl at h;rw[List.count_eq_zero]at h;unfold lst;rw[YzG,YzM hi]
 grind
end
end Go.CE
end
section
namespace Go.CE
open Go.RowKit
section
variable {P:Program} {w0:World} {S:Nat→Prop} {nt:Nat} {call:zj} {ops:Array Oper}
theorem Zi.of_get{φ:Phi}{n:Nat}{t t':Tr Zb}{arr:Array Value}(T:Zi φ nt n t arr)(h:∀s,t'.get s=t.get s):Zi φ nt n t' arr:=
 ⟨T.size,fun i hi=>by rw[h];exact T.get i hi,fun i hi=>by rw[h];exact T.out i hi,fun i v hv=>T.wf i v (by grind)⟩
noncomputable def vK(φ:Phi)(nt:Nat)(t:Tr Zb):Array Value:=Array.ofFn (n:=nt) fun i=>zz φ ((t.get (bn i.val)).getD yp)
theorem zhE{φ:Phi}{n:Nat}{t:Tr Zb}(h1:∀i,nt≤i→t.get (bn i)=none)(h2:∀i v,t.get i=some v→wfA φ n v):Zi φ nt n t (vK φ nt t):=
 ⟨by simp[vK],fun i hi=>by simp[vK,hi],h1,h2⟩
theorem zhz{φ:Phi}{t:Tr Zb}{h h2:Za}{a:Act}{v:Zb}{o:Oper}(e:x5 call (xd P nt ops o) t h=some (v,h2))(T:Zi φ nt h.n.toNat t a.tmps):
  (Region.wanted o (yielded ops a.tmps)=true∧cOp P o.op call t h=some (v,h2))∨(Region.wanted o (yielded ops a.tmps)=false∧v=yp∧h2=h):=by
 unfold xd at e;have bad:∀{o':Zo},o'=⟨none,xz,none⟩→x5 call o' t h=some (v,h2)→False:=by intro o' ho' e;subst ho';cases e
 cases hd:inT nt o.dst with
 |false=>grind
 |true=>
  rw[hd]at e;simp only[Yza]at e;have fin:∀g,x5 call ⟨o.dst.map bn,cOp P o.op,g⟩ t h=some (v,h2)→(want t g=true∧cOp P o.op call t h=some (v,h2))∨(want t g=false∧v=yp∧h2=h):=by
   intro g e;unfold x5 at e
   grind
  split at e
  ·rename_i hg;rcases fin none e with hh|⟨hw,_⟩
   ·grind[Region.wanted]
   ·cases hw
  ·rename_i j b hg;split at e
   ·rename_i d hjd;cases hb:Nat.ble (Nat.succ d) nt with
    |false=>grind
    |true=>grind[zaV,yv,Region.wanted]
   ·trivial
theorem zaG{t:Tr Zb}{h:Za}{r:Zb×Za}{o:Oper}(e:x5 call (xd P nt ops o) t h=some r):(xd P nt ops o).dst=o.dst.map bn∧inT nt o.dst=true:=by
 have bad:∀{o':Zo},o'=⟨none,xz,none⟩→x5 call o' t h=some r→False:=by intro o' ho' e;subst ho';cases e
 unfold xd at e ⊢
 grind
theorem zjD(hok:zaJ P ops (xM ops.toList)=true):(∀(i:Nat) (o:Oper),ops[i]? = some o→(∀cs b,o.op≠.select cs b)∧∀e∈o.after.toList,Region.binds .any e=true→e.on<i)∧
  ∀(i j:Nat) (oi oj:Oper),ops[i]? = some oi→ops[j]? = some oj→i<j→bef (xM ops.toList) i j=true∨(oi.apart ops oj=true∧(yW P oi.op=true∨yW P oj.op=true)):=by
 obtain⟨h1,h2⟩:=uL hok
 constructor
 ·intro i o ho;have:=un _ 0 h1 i o (by grind);rw[Yzm]at this;obtain⟨g1,g2⟩:=uL this;refine⟨(fun cs b hh=>by rw[hh]at g1;cases g1),fun e he hb=>?_⟩;rw[Yz3]at g2;have:=g2 e he;rw[hb]at this;exact yv (by trivial)
 ·intro i j oi oj hi hj hlt;have:=un _ 0 h2 j oj (by grind);rw[Yzm]at this;have:=un _ 0 this i oi (by grind);rw[Yzm]at this;simp only[YzJ]at this;rcases this with (this|this)|this
  ·grind[Yzl]
  ·grind
  ·grind
theorem zp5(C:y4 P call){Q:Exit→Act→World→Prop}{a0:Act}{t t2:Tr Zb}{h:Za}{φ0:Phi}{l:List (Zl×Tr Zb×Zb)}{hs:List Za}{ro:Option Nat}
  (hok:zaJ P ops (xM ops.toList)=true) (hev:evD call (zbS P nt ops) t h=some (l,t2,hs)) (hch:uz call hs l=true)
  (hQ:∀a2 w2,Next1 w0 S φ0 nt h t2 (zfP h hs) a0 a2 w2→Q .normal a2 w2):
  ∀(fuel:Nat) (listed:Array Bool) (φ:Phi) (a:Act) (w:World) (Hk:Za),listed.size=ops.size→unl listed≤fuel→Clo ops (lst listed)→Ext h.n.toNat φ0 φ→
   hs[ce (lst listed) 0 (zaI P ops.toList)]? = some Hk→Zd w0 S φ Hk w→h.n.toNat≤Hk.n.toNat→Zi φ nt Hk.n.toNat (frL (lst listed) 0 (l.map dv) t) a.tmps→a.defers=a0.defers→
   wpAnyIn (FR ro) 0 P .any ops Q fuel listed a w:=by
 obtain⟨hA,hord⟩:=zjD hok;obtain⟨g1,g2,g3,g4,g5⟩:=zga call _ _ _ _ _ _ hev;have heff:(zbS P nt ops).map (·.eff)=zaI P ops.toList:=zdz _ _ _ _ _ _ _;rw[heff]at g3 g5;have hl:∀(j:Nat) (o:Oper),ops[j]? = some o→∃tr v,l[j]? = some ((⟨xd P nt ops o,(o.looksAt ops).map bn,!yW P o.op,ce (fun k=>bef (xM ops.toList) k j) 0 (zaI P ops.toList),ce (fun k=>!bef (xM ops.toList) j k) 0 (zaI P ops.toList)⟩:Zl),tr,v):=by
  intro j o ho;have h1:(zbS P nt ops)[j]? = some ⟨xd P nt ops o,(o.looksAt ops).map bn,!yW P o.op,ce (fun k=>bef (xM ops.toList) k j) 0 (zaI P ops.toList),ce (fun k=>!bef (xM ops.toList) j k) 0 (zaI P ops.toList)⟩:=by simp_all[zbS,zdy]
  grind
 have hlen:l.length=ops.size:=by
  have h1:=congrArg List.length g1;have h2:=congrArg List.length heff
  grind[zaI]
 have hdst:∀(j:Nat) (o:Oper) (d:Zl) (tr:Tr Zb) (v:Zb),ops[j]? = some o→l[j]? = some (d,tr,v)→d.rop.dst=o.dst.map bn∧inT nt o.dst=true:=by grind[zaG]
 have hdv:∀(j:Nat) (d:Option BN) (v:Zb) (s:BN),(l.map dv)[j]? = some (d,v)→d=some s→∃o sn,ops[j]? = some o∧o.dst=some sn∧bn sn=s:=by
  intro j d v s hj hd;rw[Lz6]at hj;cases hx:l[j]? with
  |none=>grind
  |some x=>
   obtain⟨d',tr,v'⟩:=x;rw[hx]at hj;simp only[Yz0,Option.some.injEq,dv,Prod.mk.injEq]at hj;have hjl:j<ops.size:=by grind
   have ho:ops[j]? = some ops[j]:=YzM hjl;have:=(hdst j _ d' tr v' ho hx).1;simp_all
 have hes:∀(j:Nat),(zaI P ops.toList)[j]? = some true→∃o,ops[j]? = some o∧yW P o.op=false:=by
  intro j hj;unfold zaI at hj
  grind
 have hes':∀(j:Nat) (o:Oper),ops[j]? = some o→(zaI P ops.toList)[j]? = some (!yW P o.op):=by grind
 intro fuel
 induction fuel with
 |zero=>
  intro listed φ a w Hk hsz hu hC hE hH HR hn T hdf;have hall:∀i,i<ops.size→lst listed i=true:=fun i hi=>zkc (by omega) (by omega);have hnil:Region.ready .any ops listed=[]:=by
   cases hr:Region.ready .any ops listed with
   |nil=>rfl
   |cons i r=>
    obtain⟨o,ho,h1,h2,h3⟩:=mem_ready (ops:=ops) (listed:=listed) (i:=i) (by grind)
    grind
  refine⟨hnil,hQ a w ⟨φ,hE,?_,?_,hdf,?_⟩⟩
  all_goals
   have hk:Hk=zfP h hs:=by have h1:=zfO hs h (fun hh=>by rw[hh]at g2;cases g2);rw[g3,Nat.add_sub_cancel]at h1;rw[w8 (L:=lst listed) (L':=fun _=>true) _ 0 (fun j hj=>by obtain⟨o,ho,_⟩:=hes j hj;rw[Yzm];exact hall j (Lz7.1 ho).1)]at hH;exact Option.some.inj (hH.symm.trans h1)
   subst hk
  ·exact HR
  ·rw[g4,←zaA (L:=lst listed) (l.map dv) 0 t (fun j hj=>by grind)];exact T
  ·exact hn
 |succ fuel ih=>
  intro listed φ a w Hk hsz hu hC hE hH HR hn T hdf;refine⟨fun hnil=>?_,fun i hi=>?_⟩
  ·have hall:=zeX (ops:=ops) hsz (fun i o e ho he hb=>(hA i o ho).2 e he hb) hnil;have hk:Hk=zfP h hs:=by
    have h1:=zfO hs h (fun hh=>by grind);rw[g3,Nat.add_sub_cancel]at h1;rw[w8 (L:=lst listed) (L':=fun _=>true) _ 0 (fun j hj=>by grind)]at hH
    grind
   subst hk;refine hQ a w ⟨φ,hE,HR,?_,hdf,hn⟩;rw[g4,←zaA (L:=lst listed) (l.map dv) 0 t (fun j hj=>by grind)];exact T
  ·obtain⟨o,ho,hlt,hli,hR⟩:=mem_ready hi;obtain⟨tr,v,hj⟩:=hl i o ho;obtain⟨htr,hk0,h0',hk0s,hone0,heff0⟩:=g5 i _ tr v hj;obtain⟨hnosel,hedge⟩:=hA i o ho;obtain⟨hdd,hdin⟩:=hdst i o _ tr v ho hj;have before:∀j,bef (xM ops.toList) j i=true→lst listed j=true:=fun j hb=>vW hb hC hR;have after:∀j,bef (xM ops.toList) i j=true→lst listed j=false:=by
    intro j hb;cases hj:lst listed j with
    |false=>rfl
    |true=>
     have:=vW hb hC (hC j hj)
     grind
   have hCi:Clo ops (fun k=>decide (k<i)):=by
    intro j hj o' e ho' he hb
    grind
   have hRi:Rdy ops (fun k=>decide (k<i)) i:=by
    intro o' e ho' he hb
    grind
   have hagree:∀s∈(o.looksAt ops).map bn,(frL (fun k=>decide (k<i)) 0 (l.map dv) t).get s=(frL (lst listed) 0 (l.map dv) t).get s:=by
    intro s hs';obtain⟨sn,hsn,rfl⟩:=List.mem_map.1 hs';rw[js,js]
    congr 1
    refine zaq _ 0 fun j d v hjd hds=>?_;obtain⟨oj,sj,hoj,hsj,hbe⟩:=hdv j d v _ hjd hds;have:=jF hbe;subst this;rw[Yzm]
    grind[Oper.apart_spec]
   have htrg:∀s,tr.get s=(frL (lst listed) 0 (l.map dv) t).get s∧s∈(o.looksAt ops).map bn∨tr.get s=none:=by
    intro s
    classical
    have:=v7 (frL (fun k=>decide (k<i)) 0 (l.map dv) t) s ((o.looksAt ops).map bn)
    grind
   have Tr':Zi φ nt Hk.n.toNat tr (vK φ nt tr):=by
    refine zhE (fun j hj=>?_) (fun s v hv=>?_)
    ·rcases htrg (bn j) with⟨h1,_⟩|h1
     ·rw[h1];exact T.out j hj
     ·exact h1
    ·rcases htrg s with⟨h1,_⟩|h1
     ·rw[h1]at hv;exact T.wf s v hv
     ·grind
   have htmps:∀sn∈o.looksAt ops,a.tmps[sn]? = (vK φ nt tr)[sn]?:=by
    intro sn hsn;by_cases hlt':sn<nt
    ·rw[T.get sn hlt',Tr'.get sn hlt'];have hm:bn sn∈(o.looksAt ops).map bn:=List.mem_map.2 ⟨sn,hsn,rfl⟩;rw[←hagree _ hm]
     classical
     have:=v7 (frL (fun k=>decide (k<i)) 0 (l.map dv) t) (bn sn) ((o.looksAt ops).map bn)
     grind
    ·have e1:a.tmps[sn]? = none:=Yyc (by rw[T.size];grind);have e2:(vK φ nt tr)[sn]? = none:=Yyc (by rw[Tr'.size];grind);rw[e1,e2]
   have hexec:execOp a.eval o=execOp ({ tmps:=vK φ nt tr,defers:=[] }:Act).eval o:=by
    refine execOp_congr o hnosel fun x hx=>?_;cases x with
    |tmp sn=>have:=htmps sn (Yzv _ (List.mem_filterMap.2 ⟨.tmp sn,by grind,rfl⟩));simp only[Act.eval,YzG,this]
    |_=>rfl
   have hwant:Region.wanted o (yielded ops a.tmps)=Region.wanted o (yielded ops (vK φ nt tr)):=by
    unfold Region.wanted;cases hg:o.guard with
    |none=>rfl
    |some gb=>
     obtain⟨g,b⟩:=gb;simp only;have:yielded ops a.tmps g=yielded ops (vK φ nt tr) g:=by
      unfold yielded;cases hd:(ops[g]?).bind (·.dst) with
      |none=>rfl
      |some sn=>
       have:=htmps sn (YzB _ (by grind))
       grind
     rw[this]
   have hone:∃h',x5 call (xd P nt ops o) tr Hk=some (v,h')∧hs[ce (lst (listed.setIfInBounds i true)) 0 (zaI P ops.toList)]? = some h':=by
    cases hq:yW P o.op with
    |false=>
     have hce:ce (lst listed) 0 (zaI P ops.toList)=ce (fun k=>decide (k<i)) 0 (zaI P ops.toList):=by
      refine w8 _ 0 fun j hj=>?_
      grind
     rw[hce]at hH;cases hH.symm.trans hk0s;refine⟨h0',hone0,?_⟩;have:=heff0 (by simp[hq]);rw[←hce]at this;rw[zhJ (L:=lst listed) (zaI P ops.toList) 0 i (by grind) (by grind) (by grind[vH]) (fun j hj=>by rw[Yzm]at hj;grind[vH])];exact this
    |true=>
     have hsame:ce (lst (listed.setIfInBounds i true)) 0 (zaI P ops.toList)=ce (lst listed) 0 (zaI P ops.toList):=by
      refine w8 _ 0 fun j hj=>?_;rw[Yzm,vH hlt]
      grind
     have hlo:ce (fun k=>bef (xM ops.toList) k i) 0 (zaI P ops.toList)≤ce (lst listed) 0 (zaI P ops.toList):=wO _ 0 fun j _ hb=>by grind
     have hhi:ce (lst listed) 0 (zaI P ops.toList)≤ce (fun k=>!bef (xM ops.toList) i k) 0 (zaI P ops.toList):=wO _ 0 fun j _ hb=>by grind
     have hlo0:ce (fun k=>bef (xM ops.toList) k i) 0 (zaI P ops.toList)≤ce (fun k=>decide (k<i)) 0 (zaI P ops.toList):=wO _ 0 fun j _ hb=>by rw[Yzm]at hb ⊢;grind[vW]
     have hhi0:ce (fun k=>decide (k<i)) 0 (zaI P ops.toList)≤ce (fun k=>!bef (xM ops.toList) i k) 0 (zaI P ops.toList):=wO _ 0 fun j _ hb=>by
      rw[Yzm]at hb ⊢;cases hbb:bef (xM ops.toList) i j with
      |false=>rfl
      |true=>
       have:=vW hbb hCi (hCi j hb)
       grind
     have hex:∃h',x5 call (xd P nt ops o) tr Hk=some (v,h'):=by
      rcases zdv l hch i _ tr v hj (by simp[hq]) with heq|hall
      ·grind
      ·grind
     obtain⟨h',hh'⟩:=hex;refine⟨h',hh',?_⟩;have:h'=Hk:=by
      rcases zhz (a:={ tmps:=vK φ nt tr,defers:=[] }) hh' Tr' with⟨_,hc⟩|⟨_,_,hc⟩
      ·exact znI P o.op hq _ _ _ _ _ hc
      ·exact hc
     grind
   obtain⟨h',hone,hH'⟩:=hone;have hC':Clo ops (lst (listed.setIfInBounds i true)):=by
    intro j hj o' e ho' he hb;rw[vH hlt]at hj ⊢;rw[YzJ]
    right
    simp only[YzJ,Yzn]at hj;rcases hj with hj|hj
    ·subst hj;exact hR o' e ho' he hb
    ·exact hC j hj o' e ho' he hb
   have next:∀(φ2:Phi) (w2:World),Ext Hk.n.toNat φ φ2→Zd w0 S φ2 h' w2→wfA φ2 h'.n.toNat v→Hk.n.toNat≤h'.n.toNat→wpAnyIn (FR ro) 0 P .any ops Q fuel (listed.setIfInBounds i true) (a.put o.dst (zz φ2 v)) w2:=by
    intro φ2 w2 he H2 hv hle;refine ih _ φ2 _ w2 h' (by grind) ?_ hC' (hE.trans he hn) hH' H2 (Yzr hn hle) ?_ ((put_defers _ _ _).trans hdf)
    ·grind[znu]
    ·refine Zi.of_get (Zi.put (T.ext he hle) hv o.dst hdin) fun s=>?_
     classical
     rw[zfe,js];have hri:(l.map dv)[i]? = some (o.dst.map bn,v):=by grind[dv]
     by_cases hd:o.dst.map bn=some s
     ·rw[Yze hd];rw[hd]at hri;rw[zje (l.map dv) 0 i v hri (by rw[Yzm,vH hlt];simp) (fun j d u hij hjd hds=>?_)]
      ·rfl
      ·rw[Yzm,vH hlt];obtain⟨oj,sj,hoj,hsj,hbe⟩:=hdv j d u _ hjd hds;have hne:¬j=i:=by omega
       simp only[hne,decide_false,Yz7]
       grind[jF,Oper.apart_spec]
     ·rw[Yzb hd,js]
      congr 1
      refine zaq _ 0 fun j d u hjd hds=>?_;rw[Yzm,vH hlt]
      grind
   unfold wpOpIn;simp only[ho];rcases zhz (a:={ tmps:=vK φ nt tr,defers:=[] }) hone Tr' with⟨hw,hc⟩|⟨hw,hv,hh⟩
   ·rw[Yze (by grind)];exact zg6 C HR (ar:={ tmps:=vK φ nt tr,defers:=[] }) Tr' hexec hc next
   ·rw[Yzb (by grind)];subst hv hh;exact⟨fun f _=>trivial,next φ w (Ext.refl _ _) HR (fun _ hv=>by cases hv) (LzB _)⟩
end
end Go.CE
end
section
namespace Go.CE
open Go.RowKit
section
variable {α:Type}
theorem ky:∀(n:BN) (t:Tr α),(t.del n).get n=none:=by
 intro n
 induction n with
 |z=>intro t;cases t<;>rfl
 |o n ih=>intro t;cases t with
  |nil=>rfl
  |node l v r=>exact ih l
 |d n ih=>intro t;cases t with
  |nil=>rfl
  |node l v r=>exact ih r
theorem jq:∀(n m:BN) (t:Tr α),m≠n→(t.del n).get m=t.get m:=by
 intro n
 induction n with
 |z=>intro m t h;cases t with
  |nil=>rfl
  |node l v r=>cases m with
   |z=>trivial
   |o m=>rfl
   |d m=>rfl
 |o n ih=>intro m t h;cases t with
  |nil=>rfl
  |node l v r=>cases m with
   |z=>rfl
   |o m=>exact ih m l (fun e=>h (by rw[e]))
   |d m=>rfl
 |d n ih=>intro m t h;cases t with
  |nil=>rfl
  |node l v r=>cases m with
   |z=>rfl
   |o m=>rfl
   |d m=>exact ih m r (fun e=>h (by rw[e]))
end
abbrev nm(n0 j:Nat):BN:=bn (Nat.add n0 j)
theorem y1(n0 j:Nat):(nm n0 j).toNat=n0+j:=zW _
theorem ur{n0 i j:Nat}(h:nm n0 i=nm n0 j):i=j:=by
 have:=congrArg BN.toNat h
 grind[y1]
theorem zAB{n0:Nat}{b:BN}(h:n0≤b.toNat):b=nm n0 (b.toNat-n0):=by grind[BN.toNat_inj,y1]
theorem zdo{n0:Nat}:∀(l:List Nat) (t:Tr Zg) (j:Nat),j∈l→(zbj n0 l t).get (nm n0 j)=none
 | [],_,j,h=>by cases h
 |i::l,t,j,h=>by
  unfold zbj;by_cases hj:j∈l
  ·exact zdo l _ j hj
  ·have hji:j=i:=by
    grind
   subst hji;have key:∀(l:List Nat) (t:Tr Zg) (b:BN),t.get b=none→(zbj n0 l t).get b=none:=by
    intro l
    induction l with
    |nil=>intro t b h;exact h
    |cons i l ih=>intro t b h;unfold zbj;apply ih;by_cases hb:b=bn (Nat.add n0 i)<;>simp_all[ky,jq]
   grind[ky]
theorem ux{n0:Nat}:∀(l:List Nat) (t:Tr Zg) (b:BN),(∀j∈l,b≠nm n0 j)→(zbj n0 l t).get b=t.get b
 | [],_,_,_=>rfl
 |i::l,t,b,h=>by unfold zbj;rw[ux l _ b fun j hj=>h j (by simp[hj]),jq _ _ _ (h i (by simp))]
theorem qg{n0:Nat}{h:Tr Zg}:∀(l:List Nat) (t t':Tr Zg),zgw n0 h l t=some t'→
  (∀j∈l,t'.get (nm n0 j)=h.get (nm n0 j))∧(∀b,(∀j∈l,b≠nm n0 j)→t'.get b=t.get b)∧∀j∈l,t.get (nm n0 j)=none
 | [],t,t',e=>by cases e<;>grind
 |i::l,t,t',e=>by
  unfold zgw at e;split at e
  ·cases e
  ·rename_i hn;split at e
   ·rename_i o ho;obtain⟨g1,g2,g3⟩:=qg l _ t' e;have hni:∀j∈l,nm n0 i≠nm n0 j:=fun j hj hh=>by
     have:=g3 j hj;rw[←hh]at this;rw[show nm n0 i=bn (Nat.add n0 i) from rfl,zK]at this;cases this
    refine⟨fun j hj=>?_,fun b hb=>?_,fun j hj=>?_⟩
    ·rcases YzA.1 hj with rfl|hj
     ·rw[g2 _ hni,show nm n0 j=bn (Nat.add n0 j) from rfl,zK,ho]
     ·grind
    ·grind[zy]
    ·rcases YzA.1 hj with rfl|hj
     ·exact hn
     ·grind[zy]
   ·rename_i ho;obtain⟨g1,g2,g3⟩:=qg l _ t' e
    grind
theorem zB9{n0:Nat}(h t:Tr Zg):∀(l:List Nat),∃t':Tr Zg,(∀j∈l,t'.get (nm n0 j)=h.get (nm n0 j))∧∀b,(∀j∈l,b≠nm n0 j)→t'.get b=t.get b
 | []=>⟨t,fun j hj=>(by cases hj),fun _ _=>rfl⟩
 |i::l=>by
  obtain⟨t1,g1,g2⟩:=zB9 h t l;have key:∃t2:Tr Zg,t2.get (nm n0 i)=h.get (nm n0 i)∧∀b,b≠nm n0 i→t2.get b=t1.get b:=by
   cases ho:h.get (nm n0 i) with
   |none=>exact⟨t1.del (nm n0 i),ky _ _,fun b hb=>jq _ _ _ hb⟩
   |some o=>exact⟨t1.set (nm n0 i) o,zK _ _ _,fun b hb=>zy _ _ _ _ hb⟩
  obtain⟨t2,k1,k2⟩:=key;refine⟨t2,fun j hj=>?_,fun b hb=>?_⟩
  ·by_cases hji:nm n0 j=nm n0 i
   ·grind
   ·rw[k2 _ hji];rcases YzA.1 hj with rfl|hj
    ·trivial
    ·exact g1 j hj
  ·grind
def Sbh(e h:Za):Prop:=∀b o,e.t.get b=some o→h.t.get b=some o
section
variable {w0:World} {S:Nat→Prop} {φ φ2:Phi} {h e e2 h2:Za} {w w2:World}
def zzw(φ:Phi)(e:Za)(k:Nat):Prop:=∃b o,e.t.get b=some o∧live o∧(φ b).blk=k
theorem Zd.sub(H:Zd w0 S φ h w)(hs:Sbh e h)(hn:e.n.toNat=h.n.toNat):Zd w (zzw φ e) φ e w:=
 ⟨fun b o hb => by rw [hn]; exact H.keys b o (hs b o hb), fun b o hb => H.okb b o (hs b o hb), fun b o hb => by rw [hn]; exact H.obj b o (hs b o hb),
  fun b b' o o' hb hb' hl hl' he=>H.inj b b' o o' (hs b o hb) (hs b' o' hb') hl hl' he,fun b o hb hl=>.inl ⟨b,o,hb,hl,rfl⟩,rfl,rfl,rfl,LzB _,LzB _,fun _ _ _=>rfl,H.glob,fun b o hb hl=>H.flat b o (hs b o hb) hl,fun b o hb hl=>H.ng b o (hs b o hb) hl⟩
theorem Zd.join(H:Zd w0 S φ h w)(hs:Sbh e h)(_hn:e.n.toNat=h.n.toNat)(H2:Zd w (zzw φ e) φ2 e2 w2)(he:Ext h.n.toNat φ φ2)(hle:h.n.toNat≤e2.n.toNat)
  (hn2:h2.n.toNat=e2.n.toNat) (hg:∀b o,h2.t.get b=some o→e2.t.get b=some o∨(h.t.get b=some o∧e.t.get b=none)):Zd w0 S φ2 h2 w2:=by
 have hold:∀b o,h.t.get b=some o→φ2 b=φ b:=fun b o hb=>he b (H.keys b o hb);have hdesc:∀k,zzw φ e k→S k∨w0.heap.size≤k:=by
  rintro k ⟨b,o,hb,hl,rfl⟩
  exact H.own b o (hs b o hb) hl
 have hrest:∀b o,h.t.get b=some o→e.t.get b=none→live o→¬zzw φ e (φ b).blk:=by
  rintro b o hb hn hl ⟨c,o',hc,hl',hcc⟩
  have:=H.inj c b o' o (hs c o' hc) hb hl' hl hcc
  grind
 have hlt:∀b o,h.t.get b=some o→live o→(φ b).blk<w.heap.size:=fun b o hb hl=>(H.obj b o hb).there hl;refine⟨fun b o hb=>?_,fun b o hb=>?_,fun b o hb=>?_,fun b b' o o' hb hb' hl hl' hh=>?_,fun b o hb hl=>?_,H2.os.trans H.os,H2.tape.trans H.tape,H2.output.trans H.output,Yzr H.size H2.size,Yzr H.drawn H2.drawn,fun k hk hS=>?_,H2.glob,fun b o hb hl=>?_,fun b o hb hl=>?_⟩
 ·rw[hn2];rcases hg b o hb with hb|⟨hb,_⟩
  ·exact H2.keys b o hb
  ·exact Lz9 (H.keys b o hb) hle
 ·rcases hg b o hb with hb|⟨hb,_⟩
  ·exact H2.okb b o hb
  ·rw[hold b o hb];exact H.okb b o hb
 ·rw[hn2];rcases hg b o hb with hb|⟨hb,hnone⟩
  ·exact H2.obj b o hb
  ·exact((H.obj b o hb).world fun hl=>H2.kept _ (hlt b o hb hl) (hrest b o hb hnone hl)).ext (H.okk b o hb) he hle
 ·have hcross:∀b b' o o',e2.t.get b=some o→h.t.get b'=some o'→e.t.get b'=none→live o→live o'→(φ2 b).blk=(φ2 b').blk→False:=by
   intro b b' o o' hb hb' hn hl hl' hh;rw[hold b' o' hb']at hh;rcases H2.own b o hb hl with h1|h1<;>grind
  rcases hg b o hb with hb|⟨hb,hnb⟩<;>rcases hg b' o' hb' with hb'|⟨hb',hnb'⟩
  ·exact H2.inj b b' o o' hb hb' hl hl' hh
  ·grind
  ·grind
  ·rw[hold b o hb,hold b' o' hb']at hh;exact H.inj b b' o o' hb hb' hl hl' hh
 ·rcases hg b o hb with hb|⟨hb,_⟩
  ·rcases H2.own b o hb hl with h1|h1
   ·grind
   ·exact .inr (Yzr H.size h1)
  ·rw[hold b o hb];exact H.own b o hb hl
 ·rw[H2.kept k (Lz9 hk H.size) (fun hd=>by
   grind)]
  exact H.kept k hk hS
 ·rcases hg b o hb with hb|⟨hb,_⟩
  ·exact H2.flat b o hb hl
  ·rw[hold b o hb];exact H.flat b o hb hl
 ·rcases hg b o hb with hb|⟨hb,_⟩
  ·exact H2.ng b o hb hl
  ·rw[hold b o hb];exact H.ng b o hb hl
theorem Zd.of_get(H:Zd w0 S φ h w)(hg:∀b,e.t.get b=h.t.get b)(hn:e.n.toNat=h.n.toNat):Zd w0 S φ e w:=
 ⟨fun b o hb => by rw [hn]; exact H.keys b o (by grind), fun b o hb => H.okb b o (by grind), fun b o hb => by rw [hn]; exact H.obj b o (by grind),
  fun b b' o o' hb hb'=>H.inj b b' o o' (by grind) (by grind),fun b o hb=>H.own b o (by grind),H.os,H.tape,H.output,H.size,H.drawn,H.kept,H.glob,fun b o hb hl=>H.flat b o (by grind) hl,fun b o hb hl=>H.ng b o (by grind) hl⟩
noncomputable def zeE(φ:Phi)(n0 N:Nat):Phi:=fun b=>if n0≤b.toNat∧b.toNat<n0+N then⟨0,0,0,false,none⟩ else φ b
theorem zeD(φ:Phi)(n0 N:Nat):Ext n0 φ (zeE φ n0 N):=fun b hb=>by
 unfold zeE
 grind
theorem zpr(φ:Phi)(n0 N j:Nat)(hj:j<N):(zeE φ n0 N (nm n0 j)).ok=false:=by simp_all[zeE,y1]
theorem Zd.keep(H:Zd w0 S φ h w)(N:Nat):Zd w0 S (zeE φ h.n.toNat N) ⟨bn (Nat.add h.n.toNat N),h.t⟩ w:=by
 have he:=zeD φ h.n.toNat N;have hn:(bn (Nat.add h.n.toNat N)).toNat=h.n.toNat+N:=zW _;refine⟨fun b o hb=>?_,fun b o hb=>?_,fun b o hb=>?_,fun b b' o o' hb hb' hl hl' hh=>?_,fun b o hb hl=>?_,H.os,H.tape,H.output,H.size,H.drawn,H.kept,H.glob,fun b o hb hl=>?_,fun b o hb hl=>?_⟩
 ·show b.toNat<(bn (Nat.add h.n.toNat N)).toNat;rw[hn];have:=H.keys b o hb;omega
 ·rw[he b (H.keys b o hb)];exact H.okb b o hb
 ·show ORel _ (bn (Nat.add h.n.toNat N)).toNat w b o;rw[hn];exact(H.obj b o hb).ext (H.okk b o hb) he (by omega)
 ·rw[he b (H.keys b o hb),he b' (H.keys b' o' hb')]at hh;exact H.inj b b' o o' hb hb' hl hl' hh
 ·rw[he b (H.keys b o hb)];exact H.own b o hb hl
 ·rw[he b (H.keys b o hb)];exact H.flat b o hb hl
 ·rw[he b (H.keys b o hb)];exact H.ng b o hb hl
def OWf(φ:Phi)(n:Nat):Zg→Prop
 | .cells cs _=>∀c∈cs,wfC φ n c
 | .ro _ f=>∀i c,f i=some c→wfC φ n c
 | .tcells cs _ _=>∀c∈cs,wfC φ n c
 | .map es=>∀p∈es,wfS φ n p.1∧wfS φ n p.2
 | .loop _ _ _ _ tmps _ _ _ d=>(∀i v,tmps.get i=some v→wfA φ n v)∧okB φ n d
 |_=>True
theorem ORel.wf{n:Nat}{b:BN}{o:Zg}(h:ORel φ n w b o):OWf φ n o:=by
 cases o with
 |cells cs st=>obtain⟨_,_,_,_,_,h4⟩:=h;exact h4
 |ro x f=>obtain⟨_,_,_,_,_,h4⟩:=h;exact fun i c hc=>(h4 i c hc).2
 |tcells cs ty var=>obtain⟨_,_,_,_,_,_,h4⟩:=h;exact h4
 |map es=>obtain⟨_,_,_,_,h3,_⟩:=h;exact h3
 |loop st pend fn nt tmps ps assign body d=>obtain⟨_,_,_,h2,h3⟩:=h;exact⟨h2.wf,h3⟩
 |_=>trivial
theorem ORel.recast{φ1 φ2:Phi}{n n1 n2:Nat}{b b2:BN}{o:Zg}(h:ORel φ1 n1 w b o)(hw:OWf φ n o)(hb:φ2 b2=φ1 b)(e1:ziC n φ φ1)(e2:ziC n φ φ2)(hn2:n≤n2):ORel φ2 n2 w b2 o:=by
 have cc:∀c,wfC φ n c→zm φ2 c=zm φ1 c:=fun c hc=>(wH e2 hc).trans (wH e1 hc).symm;have cs':∀c,wfS φ n c→zP φ2 c=zP φ1 c:=fun c hc=>(u4 e2 hc).trans (u4 e1 hc).symm;have ca:∀c,wfA φ n c→zz φ2 c=zz φ1 c:=fun c hc=>(zbl e2 hc).trans (zbl e1 hc).symm;cases o with
 |cells cs st=>
  obtain⟨arr,e,h1,h2,h3,h4⟩:=h;refine⟨arr,e,by grind,fun i c hc=>?_,by grind,fun c hc=>wY e2 hn2 (hw c hc)⟩;rw[hb,cc c (hw c (Lz3 hc))]
  grind
 |ro x f=>obtain⟨h0,arr,e,fr,h1,h2⟩:=h;refine⟨fun y hy=>by grind,arr,e,fr,by grind,fun i c hc=>?_⟩;obtain⟨k1,_⟩:=h2 i c hc;exact⟨by rw[hb,cc c (hw i c hc)];exact k1,wY e2 hn2 (hw i c hc)⟩
 |tcells cs ty var=>
  obtain⟨arr,h1,h2,h3,h4,h5,h6⟩:=h;refine⟨arr,by grind,fun i c hc=>?_,by grind,by grind,h5,fun c hc=>wY e2 hn2 (hw c hc)⟩;rw[cc c (hw c (Lz3 hc))]
  grind
 |dead=>trivial
 |void=>trivial
 |map es=>obtain⟨ents,clock,h1,h2,h3,h4⟩:=h;refine⟨ents,clock,by grind,?_,fun p hp=>⟨jc e2 hn2 (hw p hp).1,jc e2 hn2 (hw p hp).2⟩,h4⟩;rw[h2];exact Yz9 fun p hp=>by rw[cs' _ (hw p hp).1,cs' _ (hw p hp).2]
 |loop st pend fn nt tmps ps assign body d=>
  obtain⟨arr,f,h1,h2,h3⟩:=h;obtain⟨w1,w2'⟩:=hw;refine⟨arr,f,by rw[hb,(e2 d w2').trans (e1 d w2').symm];exact h1,⟨h2.size,fun i hi=>?_,h2.out,fun i v hv=>zj2 e2 hn2 (w1 i v hv)⟩,okB.extW e2 hn2 w2'⟩;rw[h2.get i hi];cases hg:tmps.get (bn i) with
  |none=>rfl
  |some v=>grind
 |defer=>grind[ORel]
theorem Zd.rename(H:Zd w0 S φ h w){o:Zg}{φ1:Phi}(H1:Zd w0 S φ1 (h.new o) w2)(he:Ext h.n.toNat φ φ1)(hw:OWf φ h.n.toNat o){b:BN}(hb:b.toNat<h.n.toNat)(hbad:(φ b).ok=false)(hnone:h.t.get b=none):
  Zd w0 S (upd φ b (φ1 h.n)) (h.put b o) w2∧ziC h.n.toNat φ (upd φ b (φ1 h.n)):=by
 have hnb:∀c o',h.t.get c=some o'→c≠b:=fun c o' hc hh=>by grind
 have hnn:∀c o',h.t.get c=some o'→c≠h.n:=fun c o' hc hh=>by have:=H.keys c o' hc;grind
 have hupd:∀c,c≠b→upd φ b (φ1 h.n) c=φ c:=fun c hc=>by grind[upd]
 have hget:∀c x,(h.put b o).t.get c=some x→(c=b∧x=o)∨(c≠b∧h.t.get c=some x):=by grind[Za.put,kq]
 have hold:∀c x,h.t.get c=some x→(h.new o).t.get c=some x:=fun c x hc=>by grind[Za.new,zy]
 have hnew:(h.new o).t.get h.n=some o:=by grind[Za.new,zK]
 have e2:ziC h.n.toNat φ (upd φ b (φ1 h.n)):=fun c hc=>hupd c fun hh=>by grind
 refine⟨⟨fun c x hc=>?_,fun c x hc=>?_,fun c x hc=>?_,fun c c' x x' hc hc' hl hl' hh=>?_,fun c x hc hl=>?_,H1.os,H1.tape,H1.output,H1.size,H1.drawn,H1.kept,H1.glob,fun c x hc hl=>?_,fun c x hc hl=>?_⟩,e2⟩
 ·rcases hget c x hc with⟨rfl,_⟩|⟨_,hc'⟩
  ·exact hb
  ·exact H.keys c x hc'
 ·rcases hget c x hc with⟨rfl,_⟩|⟨hne,hc'⟩
  ·rw[zu];exact H1.okb _ _ hnew
  ·rw[hupd c hne];exact H.okb c x hc'
 ·rcases hget c x hc with⟨rfl,rfl⟩|⟨hne,hc'⟩
  ·exact(H1.obj _ _ hnew).recast hw (zu _ _ _) he.w e2 (LzB _)
  ·exact(H1.obj _ _ (hold c x hc')).recast (H.obj c x hc').wf ((hupd c hne).trans (he c (H.keys c x hc')).symm) he.w e2 (LzB _)
 ·rcases hget c x hc with⟨rfl,rfl⟩|⟨hne,hc1⟩<;>rcases hget c' x' hc' with⟨rfl,rfl⟩|⟨hne',hc2⟩
  ·rfl
  ·rw[zu,hupd c' hne',←he c' (H.keys c' x' hc2)]at hh;exact absurd (H1.inj _ _ _ _ hnew (hold c' x' hc2) hl hl' hh).symm (hnn c' x' hc2)
  ·rw[zu,hupd c hne,←he c (H.keys c x hc1)]at hh;exact absurd (H1.inj _ _ _ _ (hold c x hc1) hnew hl hl' hh) (hnn c x hc1)
  ·rw[hupd c hne,hupd c' hne']at hh;exact H.inj c c' x x' hc1 hc2 hl hl' hh
 ·rcases hget c x hc with⟨rfl,rfl⟩|⟨hne,hc'⟩
  ·rw[zu];exact H1.own _ _ hnew hl
  ·rw[hupd c hne];exact H.own c x hc' hl
 ·rcases hget c x hc with⟨rfl,rfl⟩|⟨hne,hc'⟩
  ·rw[zu];exact H1.flat _ _ hnew hl
  ·rw[hupd c hne];exact H.flat c x hc' hl
 ·rcases hget c x hc with⟨rfl,rfl⟩|⟨hne,hc'⟩
  ·rw[zu];exact H1.ng _ _ hnew hl
  ·rw[hupd c hne];exact H.ng c x hc' hl
end
end Go.CE
end
section
namespace Go.CE
open Go.RowKit
def xq(f:zdX):Prop:=∀call t h h' v h2,f call t h=some (v,h2)→Sbh h h'→f call t h'=some (v,h')
theorem z8:xq (zT none):=fun _ _ _ _ _ _ e=>by cases e
theorem xk{f:zdX}(hf:xq f):xq (zT (some f)):=hf
theorem zo7{α:Type}{a:Option α}{g:α→Option zdX}(hg:∀x,xq (zT (g x))):xq (zT (a.bind g)):=by cases a<;>grind[z8]
theorem zI{α:Type}{a:Option α}{g:α→Option zdX}(hg:∀x,xq (zT (g x))):xq (zT (a >>= g)):=zo7 hg
theorem zkL{α:Type}{a:Option α}{g:α→zdX}(hg:∀x,xq (g x)):xq (zT (a.map g)):=by cases a<;>grind[z8,zT]
theorem x7{b:Bool}{x y:Option zdX}(hx:xq (zT x))(hy:xq (zT y)):xq (zT (bif b then x else y)):=by grind
section
variable {h h' h2:Za} {v:Zb}
theorem yG{c:Option Zc}(e:zaU h c=some (v,h2)):zaU h' c=some (v,h'):=by cases c<;>cases e;rfl
theorem yH{c:Option (List Zc)}(e:zfi h c=some (v,h2)):zfi h' c=some (v,h'):=by cases c<;>cases e;rfl
theorem yQ{n:Option Nat}{cs:List Zc}{off:Nat}(e:part n cs off h=some (v,h2)):part n cs off h'=some (v,h'):=by
 cases n
 ·exact yG e
 ·exact yH e
theorem xU{b:Bool}{x y x' y':Res}(hx:x=some (v,h2)→x'=some (v,h'))(hy:y=some (v,h2)→y'=some (v,h'))(e:(bif b then x else y)=some (v,h2)):(bif b then x' else y')=some (v,h'):=by grind
theorem zgM{st:Nat}{lo hi mx:Option Opd}{t:Tr Zb}{b:BN}{off len cap:Nat}(e:xW st lo hi mx t h b off len cap=some (v,h2)):xW st lo hi mx t h' b off len cap=some (v,h'):=by
 unfold xW at e ⊢
 (repeat' split at e)<;>first|(cases e;done)|((try simp only[*]);exact xU (fun e=>by cases e;rfl) (fun e=>by cases e) e)
theorem znN{st:Nat}{lo hi mx:Option Opd}{t:Tr Zb}{b:BN}{off len cap:Nat}(e:xP st lo hi mx t h b off len cap=some (v,h2)):xP st lo hi mx t h' b off len cap=some (v,h'):=by
 unfold xP at e ⊢
 (repeat' split at e)<;>first|(cases e;done)|(cases e;simp only[*];done)|((try simp only[*]);exact xU (fun e=>by cases e;rfl) (fun e=>by cases e) e)
theorem zl5{lo hi mx:Option Opd}{t:Tr Zb}(e:wg lo hi mx t h=some (v,h2)):wg lo hi mx t h'=some (v,h'):=by grind[wg]
end
theorem zjb(x):xq (zkA x):=by intro call t h h' v h2 e _;simp_all[zkA]
theorem zoX(x y z):xq (jV x y z):=by
 intro call t h h' v h2 e _;unfold jV at e ⊢
 (repeat' split at e)<;>first
  |(cases e;done)
  |(cases e;simp only[*];done)
  |((try simp only[*]);first|exact yG e|exact yH e|exact yQ e|exact xU (fun e=>by first|(cases e;rfl)|exact yG e|exact yH e|exact yQ e) (fun e=>by cases e) e)
theorem zer(zs ps):xq (ui zs ps):=by intro call t h h' v h2 e _;exact yH e
theorem zmu(x):xq (ud x):=by
 intro call t h h' v h2 e _;unfold ud at e ⊢
 (repeat' split at e)<;>first
  |(cases e;done)
  |(cases e;simp only[*];done)
  |((try simp only[*]);first|exact yG e|exact yH e|exact yQ e|exact xU (fun e=>by first|(cases e;rfl)|exact yG e|exact yH e|exact yQ e) (fun e=>by cases e) e)
theorem zsj(g x y):xq (zbZ g x y):=by
 intro call t h h' v h2 e _;unfold zbZ at e ⊢
 (repeat' split at e)<;>first
  |(cases e;done)
  |(cases e;simp only[*];done)
  |((try simp only[*]);first|exact yG e|exact yH e|exact yQ e|exact xU (fun e=>by first|(cases e;rfl)|exact yG e|exact yH e|exact yQ e) (fun e=>by cases e) e)
theorem zms(g x y):xq (wT g x y):=by
 intro call t h h' v h2 e _;unfold wT at e ⊢
 (repeat' split at e)<;>first
  |(cases e;done)
  |(cases e;simp only[*];done)
  |((try simp only[*]);first|exact yG e|exact yH e|exact yQ e|exact xU (fun e=>by first|(cases e;rfl)|exact yG e|exact yH e|exact yQ e) (fun e=>by cases e) e)
theorem zse(g x y):xq (zcP g x y):=by
 intro call t h h' v h2 e _;unfold zcP at e ⊢
 (repeat' split at e)<;>first
  |(cases e;done)
  |(cases e;simp only[*];done)
  |((try simp only[*]);first|exact yG e|exact yH e|exact yQ e|exact xU (fun e=>by first|(cases e;rfl)|exact yG e|exact yH e|exact yQ e) (fun e=>by cases e) e)
theorem zvg(g n x y):xq (zkB g n x y):=by
 intro call t h h' v h2 e _;unfold zkB at e ⊢
 (repeat' split at e)<;>first
  |(cases e;done)
  |(cases e;simp only[*];done)
  |((try simp only[*]);first|exact yG e|exact yH e|exact yQ e|exact xU (fun e=>by first|(cases e;rfl)|exact yG e|exact yH e|exact yQ e) (fun e=>by cases e) e)
theorem zoY(n x y):xq (uP n x y):=by
 intro call t h h' v h2 e _;unfold uP at e ⊢
 grind
theorem zoZ(n x y):xq (jW n x y):=by
 intro call t h h' v h2 e _;unfold jW at e ⊢
 grind
theorem zsg(x):xq (zcQ x):=by
 intro call t h h' v h2 e _;unfold zcQ at e ⊢
 (repeat' split at e)<;>first
  |(cases e;done)
  |(cases e;simp only[*];done)
  |((try simp only[*]);first|exact yG e|exact yH e|exact yQ e|exact xU (fun e=>by first|(cases e;rfl)|exact yG e|exact yH e|exact yQ e) (fun e=>by cases e) e)
theorem zsh(x):xq (zcR x):=by
 intro call t h h' v h2 e _;unfold zcR at e ⊢
 (repeat' split at e)<;>first
  |(cases e;done)
  |(cases e;simp only[*];done)
  |((try simp only[*]);first|exact yG e|exact yH e|exact yQ e|exact xU (fun e=>by first|(cases e;rfl)|exact yG e|exact yH e|exact yQ e) (fun e=>by cases e) e)
theorem zo6(k x):xq (j5 k x):=by
 intro call t h h' v h2 e _;unfold j5 at e ⊢
 (repeat' split at e)<;>first
  |(cases e;done)
  |(cases e;simp only[*];done)
  |((try simp only[*]);first|exact yG e|exact yH e|exact yQ e|exact xU (fun e=>by first|(cases e;rfl)|exact yG e|exact yH e|exact yQ e) (fun e=>by cases e) e)
theorem zo0(f x):xq (jX f x):=by
 intro call t h h' v h2 e _;unfold jX at e ⊢
 (repeat' split at e)<;>first
  |(cases e;done)
  |(cases e;simp only[*];done)
  |((try simp only[*]);first|exact yG e|exact yH e|exact yQ e|exact xU (fun e=>by first|(cases e;rfl)|exact yG e|exact yH e|exact yQ e) (fun e=>by cases e) e)
theorem zi9(x lo hi):xq (wh x lo hi):=by
 intro call t h h' v h2 e _;unfold wh at e ⊢
 (repeat' split at e)<;>first
  |(cases e;done)
  |(cases e;simp only[*];done)
  |((try simp only[*]);first|exact yG e|exact yH e|exact yQ e|exact xU (fun e=>by first|(cases e;rfl)|exact yG e|exact yH e|exact yQ e) (fun e=>by cases e) e)
theorem zo5(x o):xq (j4 x o):=by
 intro call t h h' v h2 e _;unfold j4 at e ⊢
 (repeat' split at e)<;>first
  |(cases e;done)
  |(cases e;simp only[*];done)
  |((try simp only[*]);first|exact yG e|exact yH e|exact yQ e|exact xU (fun e=>by first|(cases e;rfl)|exact yG e|exact yH e|exact yQ e) (fun e=>by cases e) e)
theorem zmy(x o n):xq (uh x o n):=by
 intro call t h h' v h2 e _;unfold uh at e ⊢
 (repeat' split at e)<;>first
  |(cases e;done)
  |(cases e;simp only[*];done)
  |((try simp only[*]);first|exact yG e|exact yH e|exact yQ e|exact xU (fun e=>by first|(cases e;rfl)|exact yG e|exact yH e|exact yQ e) (fun e=>by cases e) e)
theorem zsi(st x i):xq (zcU st x i):=by
 intro call t h h' v h2 e _;unfold zcU at e ⊢
 (repeat' split at e)<;>first
  |(cases e;done)
  |(cases e;simp only[*];done)
  |((try simp only[*]);first|exact yG e|exact yH e|exact yQ e|exact xU (fun e=>by first|(cases e;rfl)|exact yG e|exact yH e|exact yQ e) (fun e=>by cases e) e)
theorem zmw(l st x i):xq (uf l st x i):=by
 intro call t h h' v h2 e _;unfold uf at e ⊢
 (repeat' split at e)<;>first
  |(cases e;done)
  |(cases e;simp only[*];done)
  |((try simp only[*]);first|exact yG e|exact yH e|exact yQ e|exact xU (fun e=>by first|(cases e;rfl)|exact yG e|exact yH e|exact yQ e) (fun e=>by cases e) e)
theorem zmx(l st n x i):xq (ug l st n x i):=by
 intro call t h h' v h2 e _;unfold ug at e ⊢
 (repeat' split at e)<;>first
  |(cases e;done)
  |(cases e;simp only[*];done)
  |((try simp only[*]);first|exact yG e|exact yH e|exact yQ e|exact xU (fun e=>by first|(cases e;rfl)|exact yG e|exact yH e|exact yQ e) (fun e=>by cases e) e)
theorem zmv(x i):xq (ue x i):=by
 intro call t h h' v h2 e _;unfold ue at e ⊢
 (repeat' split at e)<;>first
  |(cases e;done)
  |(cases e;simp only[*];done)
  |((try simp only[*]);first|exact yG e|exact yH e|exact yQ e|exact xU (fun e=>by first|(cases e;rfl)|exact yG e|exact yH e|exact yQ e) (fun e=>by cases e) e)
theorem zhc(x i):xq (x6 x i):=by
 intro call t h h' v h2 e _;unfold x6 at e ⊢
 (repeat' split at e)<;>first
  |(cases e;done)
  |(cases e;simp only[*];done)
  |((try simp only[*]);first|exact yG e|exact yH e|exact yQ e|exact xU (fun e=>by first|(cases e;rfl)|exact yG e|exact yH e|exact yQ e) (fun e=>by cases e) e)
theorem zo2(x):xq (jZ x):=by
 intro call t h h' v h2 e _;unfold jZ at e ⊢
 (repeat' split at e)<;>first
  |(cases e;done)
  |(cases e;simp only[*];done)
  |((try simp only[*]);first|exact yG e|exact yH e|exact yQ e|exact xU (fun e=>by first|(cases e;rfl)|exact yG e|exact yH e|exact yQ e) (fun e=>by cases e) e)
theorem zo4(x):xq (j0 x):=by
 intro call t h h' v h2 e _;unfold j0 at e ⊢
 grind
theorem zcZ(b x xs):xq (xG b x xs):=by
 intro call t h h' v h2 e _;unfold xG at e ⊢
 (repeat' split at e)<;>first
  |(cases e;done)
  |(cases e;simp only[*];done)
  |((try simp only[*]);first|exact yG e|exact yH e|exact yQ e|exact xU (fun e=>by first|(cases e;rfl)|exact yG e|exact yH e|exact yQ e) (fun e=>by cases e) e)
theorem zmr(st x lo hi mx):xq (ub st x lo hi mx):=by
 intro call t h h' v h2 e _;unfold ub at e ⊢;split at e
 ·grind[zl5]
 ·(try simp only[*]);exact xU zgM znN e
 ·cases e
theorem zmt(n x y):xq (uc n x y):=by
 intro call t h h' v h2 e _
 grind[uc]
theorem zja(l st x lo hi mx):xq (vR l st x lo hi mx):=by
 intro call t h h' v h2 e _
 grind[vR,zgM]
theorem zsf(x):xq (zfC x):=by
 intro call t h h' v h2 e hs;unfold zfC at e ⊢;split at e
 ·grind
 ·rename_i b o hx;cases hb:h.t.get b with
  |none=>grind
  |some ob=>rw[hb]at e;rw[hs b ob hb];cases ob<;>grind
 ·cases e
theorem zsd(u n x):xq (zfB u n x):=by
 intro call t h h' v h2 e hs;unfold zfB at e ⊢;split at e
 ·grind
 ·rename_i b o hx;refine xU (fun e=>?_) (fun e=>by cases e) e;cases hb:h.t.get b with
  |none=>grind
  |some ob=>rw[hb]at e;rw[hs b ob hb];cases ob<;>grind
 ·cases e
theorem zsB{n:Option Nat}{h h' h2:Za}{off:Nat}{o:Zg}{v:Zb}(e:loadAt n h off (some o)=some (v,h2)):loadAt n h' off (some o)=some (v,h'):=by
 cases o with
 |cells cs st=>exact yQ (e:part n cs off h=some (v,h2))
 |tcells cs ty var=>exact yQ (e:part n cs off h=some (v,h2))
 |ro x f=>have e:zg1 n f off h=some (v,h2):=e;show zg1 n f off h'=some (v,h');unfold zg1 at e ⊢;cases n<;>grind[yG,yH]
 |_=>cases e
theorem zxy{h h' h2:Za}{c:Option (List Zc)}{v:Zb}(e:zca h c=some (v,h2)):zca h' c=some (v,h'):=by
 unfold zca at e ⊢
 (repeat' split at e)<;>first|(cases e;done)|(cases e;rfl)
theorem zsl(x):xq (zam x):=by
 intro call t h h' v h2 e hs;unfold zam at e ⊢;split at e
 ·grind
 ·rename_i b off len cap ex hx;cases hb:h.t.get b with
  |none=>grind
  |some o=>rw[hb]at e;rw[hs b o hb];cases o<;>grind[zxy]
 ·cases e
theorem zo1(n x):xq (jY n x):=by
 intro call t h h' v h2 e hs;unfold jY at e ⊢;split at e
 ·rename_i b off hx
  try simp only[hx]
  cases hb:h.t.get b with
  |none=>rw[hb]at e;cases e
  |some o=>rw[hb]at e;rw[hs b o hb];exact zsB e
 ·exact xU yG (fun e=>by cases e) e
 ·cases e
theorem zvk{h h':Za}(hs:Sbh h h'){m:Zb}{es:List (SVal×SVal)}(e:mapOf h m=some es):mapOf h' m=some es:=by
 unfold mapOf at e ⊢;split at e
 ·exact e
 ·rename_i b;split at e
  ·rename_i es' hb;rw[hs b _ hb];exact e
  ·cases e
 ·cases e
theorem zjc(q z ok m k):xq (wZ q z ok m k):=by
 intro call t h h' v h2 e hs;unfold wZ at e ⊢;split at e
 ·rename_i es k' hm hk;rw[zvk hs hm,hk]
  grind
 ·cases e
theorem zo3(x):xq (qt x):=by
 intro call t h h' v h2 e hs;unfold qt at e ⊢;split at e
 ·grind
 ·rename_i b hx
  try rw[hx]
  try simp only
  split at e
  ·rename_i es hb;rw[hs b _ hb]
   grind
  ·cases e
 ·cases e
theorem zsk(P:Program)(o:Op)(hq:yW P o=true):xq (cOp P o):=by
 cases o with
 |move x=>exact zkL zjb
 |assign x=>exact zkL zjb
 |pick c x y=>exact zI fun _=>zI fun _=>zI fun _=>xk (zoX _ _ _)
 |build t parts=>
  unfold cOp;simp only;split
  ·exact x7 (zI fun _=>xk (zer _ _)) z8
  ·grind[zI,zer,z8,zT]
  ·exact z8
 |load t x=>exact zI fun _=>zI fun _=>xk (zo1 _ _)
 |nilCheck x=>exact zI fun _=>xk (zmu _)
 |binOp op t x y u=>
  unfold cOp;simp only;split
  ·grind[zI,zms,zsj,zT]
  ·grind[zI,zse,zT]
  ·grind[zI,zoY,z8,zT]
  ·refine x7 ?_ z8
   grind[zI,zmt,z8,zT]
  ·grind[zI,zoZ,z8,zT]
  ·refine x7 z8 ?_
   grind[zI,zvg,z8,zT]
  ·exact z8
 |unOp u t x=>
  cases u with
  |not=>exact zI fun _=>xk (zsg _)
  |neg=>exact zI fun _=>xk (zsh _)
  |_=>exact z8
 |convert a b x=>
  unfold cOp;simp only;split
  ·grind[zI,zo6,zT]
  ·grind[yW,zpA,zfT]
  ·exact x7 (zI fun _=>xk (zsl _)) z8
  ·exact x7 (zI fun _=>xk (zsf _)) z8
  ·exact x7 (zI fun _=>xk (zsd _ _ _)) z8
  ·exact z8
 |makeFunc f first captured=>
  cases f with
  |func f=>exact x7 (zI fun _=>xk (zo0 _ _)) z8
  |_=>exact z8
 |slice t x lo hi mx=>
  unfold cOp;simp only;split
  ·split
   ·exact x7 z8 (zI fun _=>zI fun _=>zI fun _=>zI fun _=>xk (zmr _ _ _ _ _))
   ·exact z8
  ·split
   ·exact x7 z8 (zI fun _=>zI fun _=>zI fun _=>zI fun _=>xk (zja _ _ _ _ _ _))
   ·exact z8
  ·exact x7 z8 (zI fun _=>zI fun _=>zI fun _=>xk (zi9 _ _ _))
  ·exact z8
 |fieldAddr t x f=>
  unfold cOp;simp only;split
  ·split
   ·split
    ·exact x7 z8 (zI fun _=>xk (zo5 _ _))
    ·exact z8
   ·exact z8
  ·exact z8
 |field t x f=>
  unfold cOp
  grind[zI,zmy,z8,zT]
 |indexAddr t x i=>
  unfold cOp
  grind[zI,zsi,z8,zmw,zT]
 |index t x i=>unfold cOp;simp only;split<;>grind[zI,zmx,z8,zmv,zT]
 |lookup t m k ok=>
  unfold cOp
  grind[zI,zjc,z8,zT]
 |extract x i=>exact zI fun _=>xk (zhc _ _)
 |call c=>
  obtain⟨callee,args,ts⟩:=c;cases callee with
  |builtin b=>
   cases b with
   |len=>grind[cOp,zI,zo2,zo4,zo3,zjb,z8,zT]
   |max=>grind[cOp,zcZ,z8,zT]
   |min=>grind[cOp,zcZ,z8,zT]
   |_=>cases hq
  |_=>cases hq
 |_=>cases hq
section
variable {P:Program} {t:Tr Zb} {call:zj}
def zwF(f:zdX)(call:zj)(t:Tr Zb)(nt:Nat):Prop:=∃(obj:Zg) (vf:BN→Zc),(∀hh:Za,f call t hh=some (.s (.one (vf hh.n)),hh.new obj))∧
 (∀(φ φ':Phi) b b',φ b=φ' b'→zm φ (vf b)=zm φ' (vf b'))∧(∀φ n b,okB φ n b→wfC φ n (vf b))∧∀φ n arr,Zi φ nt n t arr→OWf φ n obj
theorem zch(hh:Za)(o:Zg)(g:BN→Zc):zdL hh o g=some (.s (.one (g hh.n)),hh.new o):=by rfl
theorem zcx(φ φ':Phi)(b b':BN)(h:φ b=φ' b'):zm φ (.ptr b 0)=zm φ' (.ptr b' 0):=by grind[zm,adr]
theorem zgO(l c:Nat)(φ φ':Phi)(b b':BN)(h:φ b=φ' b'):zm φ (.slc b 0 l c true)=zm φ' (.slc b' 0 l c true):=by simp_all[zm,adr]
theorem zcN{α:Type}{a:Option α}{g:α→Option zdX}{h h2:Za}{v:Zb}(e:zT (a >>= g) call t h=some (v,h2)):∃x,a=some x∧zT (g x) call t h=some (v,h2):=by
 cases a with
 |none=>cases e
 |some x=>grind
theorem zkM{nt:Nat}{o:Op}(hm:qk o=true){h h2:Za}{v:Zb}(e:cOp P o call t h=some (v,h2)):zwF (cOp P o) call t nt:=by
 cases o with
 |alloc ty=>
  cases hz:yA P ty with
  |none=>simp only[cOp,hz]at e;cases hb:zas P ty<;>rw[hb]at e<;>cases e
  |some z=>
   cases hb:zas P ty with
   |false=>
    refine⟨.cells z.cells 0,fun b=>.ptr b 0,fun hh=>?_,zcx,fun φ n b hb=>hb,fun φ n arr _=>?_⟩
    ·simp_all[cOp,zcV,zch,zT]
    ·obtain⟨_,_,_,_,_,hwz⟩:=xg (φ:=φ) hz;exact fun c hc=>xD (Yzu _) (hwz c hc)
   |true=>
    refine⟨.tcells z.cells ty true,fun b=>.ptr b 0,fun hh=>?_,zcx,fun φ n b hb=>hb,fun φ n arr _=>?_⟩
    ·simp_all[cOp,zcf,zch,zT]
    ·obtain⟨_,_,_,_,_,hwz⟩:=xg (φ:=φ) hz;exact fun c hc=>xD (Yzu _) (hwz c hc)
 |box ty x=>
  cases hx:yd x with
  |none=>simp only[cOp,hx]at e;cases e
  |some f=>
   simp only[cOp,hx]at e;have e:zfD f call t h=some (v,h2):=e;unfold zfD at e;split at e
   ·rename_i u hu;refine⟨.cells u.cells 0,fun b=>.ptr b 0,fun hh=>?_,zcx,fun φ n b hb=>hb,fun φ n arr T=>?_⟩
    ·simp_all[cOp,zfD,zch,zT]
    ·have:=(zr (a:=⟨arr,[]⟩) T hx).2;rw[hu]at this;exact v6 this
   ·cases e
 |buildSlice ty len parts=>
  simp only[cOp]at e;split at e
  ·rename_i el hu;split at e
   ·rename_i i hi;cases hle:Nat.ble (len*i.size) 16777216 with
    |false=>rw[hle]at e;cases e
    |true=>
     rw[hle]at e;simp only[Yza]at e;split at e
     ·rename_i zs hzs;cases hq:Nat.beq (len*i.size) 0||Nat.beq zs.length i.size with
      |false=>rw[hq]at e;cases e
      |true=>
       rw[hq]at e;simp only[Yza]at e;obtain⟨r,hr,e⟩:=zcN e;have e:vS i.size len (uE zs len) r call t h=some (v,h2):=e;unfold vS at e;split at e
       ·rename_i cs hc;refine⟨.cells cs i.size,fun b=>.slc b 0 len len true,fun hh=>?_,zgO len len,fun φ n b hb=>⟨hb,(fun hh=>by cases hh),fun _=>LzB _⟩,fun φ n arr T=>?_⟩
        ·simp only[cOp,hu,hi,hle,Yza,hzs,hq,hr];simp_all[vS,zch,zT]
        ·have T':Zi φ nt (Za.n ⟨bn n,.nil⟩).toNat t (Act.tmps ⟨arr,[]⟩):=by
          grind[zW]
         obtain⟨hp,hw⟩:=ww T' i.size hr;have hwz:∀c∈uE zs len,wfC φ (Za.n ⟨bn n,.nil⟩).toNat c:=by
          refine qz (fun c hc=>?_) len;cases h0:Nat.beq (len*i.size) 0 with
          |true=>grind
          |false=>
           rw[h0]at hzs;simp only[Yzd]at hzs;cases hz:yA P el with
           |none=>grind
           |some z=>rw[hz]at hzs;cases hzs;obtain⟨_,_,_,_,_,hwz⟩:=xg (φ:=φ) hz;exact xD (Yzu _) (hwz c hc)
         have hf:=(uX hp hwz hw hc).2.1;intro c hc;have:=hf c hc
         rwa [show (Za.n ⟨bn n,.nil⟩).toNat=n from zW n]at this
       ·cases e
     ·cases e
   ·cases e
  ·cases e
 |makeMap ty r=>
  cases r with
  |some r=>cases e
  |none=>refine⟨.map [],fun b=>.map b,fun hh=>?_,fun φ φ' b b' h=>by grind[zm],fun φ n b hb=>hb,fun φ n arr _ p hp=>by cases hp⟩;rfl
 |makeSlice ty l c=>
  simp only[cOp]at e;split at e
  ·rename_i el hu;split at e
   ·rename_i i z hi hz;cases hq:Nat.beq z.cells.length i.size && !Nat.beq i.size 0 with
    |false=>rw[hq]at e;cases e
    |true=>
     rw[hq]at e;simp only[Yza]at e;obtain⟨fl,hl,e⟩:=zcN e;obtain⟨fc,hc,e⟩:=zcN e;have e:wq i.size z.cells i.bytes fl fc call t h=some (v,h2):=e;unfold wq at e;split at e
     ·rename_i x y hx hy;cases hb:Nat.ble x y&&Nat.ble y 1073741824&&Nat.ble (i.bytes*y) 281474976710656 with
      |false=>grind
      |true=>
       obtain⟨hb1,_⟩:=uL hb;obtain⟨hb1,_⟩:=uL hb1;refine⟨.cells (uE z.cells y) i.size,fun b=>.slc b 0 x y true,fun hh=>?_,zgO x y,fun φ n b hb=>⟨hb,(fun hh=>by cases hh),fun _=>yv hb1⟩,fun φ n arr T=>?_⟩
       ·simp only[cOp,hu,hi,hz,hq,Yza,hl,hc];show wq i.size z.cells i.bytes fl fc call t hh=_;unfold wq;rw[hx,hy];simp only[hb,Yza];rfl
       ·obtain⟨_,_,_,_,_,hwz⟩:=xg (φ:=φ) hz;exact qz (fun c hc=>xD (Yzu _) (hwz c hc)) y
     ·cases e
   ·cases e
  ·cases e
 |_=>cases hm
end
end Go.CE
end
noncomputable section
namespace Go.CE
open Go.RowKit
def gdv(g:GE):Option BN×Zb:=(g.d.rop.dst,g.v)
def hAt:Za→List GE→Nat→Za
 |h,_,0=>h
 |h,[],_+1=>h
 |_,g::l,j+1=>hAt g.ha l j
theorem zf4:∀(l:List GE) (h:Za) (j:Nat) (g:GE),l[j]? = some g→hAt h l (j+1)=g.ha
 | [],_,j,g,hj=>by simp at hj
 |g0::l,h,0,g,hj=>by simp only[Yzi,Option.some.injEq]at hj;subst hj;cases l<;>rfl
 |g0::l,h,j+1,g,hj=>by simp only[Yzt]at hj;exact zf4 l g0.ha j g hj
theorem zld(call:zj)(n0:Nat):∀(ds:List Zq) (i:Nat) (t:Tr Zb) (h:Za) (l:List GE) (t2:Tr Zb) (h2:Za),evG call n0 i ds t h=some (l,t2,h2)→
  l.map (·.d)=ds∧t2=frL (fun _=>true) 0 (l.map gdv) t∧h2=hAt h l l.length∧
  ∀j g,l[j]? = some g→g.tr=jg (frL (fun k=>decide (k<j)) 0 (l.map gdv) t) g.d.looks∧g.hb=hAt h l j∧stepG call n0 (i+j) g.d g.tr g.hb=some (g.v,g.ha)
 | [],i,t,h,l,t2,h2,e=>by cases e;exact⟨rfl,rfl,rfl,fun j g hj=>by simp at hj⟩
 |d::ds,i,t,h,l,t2,h2,e=>by
  unfold evG at e;split at e
  ·rename_i v0 h0 hv0;cases hr:evG call n0 (Nat.succ i) ds (zcy t v0 d.rop.dst) h0 with
   |none=>rw[hr]at e;cases e
   |some p=>
    obtain⟨l',t',h'⟩:=p;rw[hr]at e;simp only[zyX,Option.some.injEq,Prod.mk.injEq]at e;obtain⟨rfl,rfl,rfl⟩:=e;obtain⟨g1,g2,g3,g4⟩:=zld call n0 ds _ _ _ l' _ _ hr;have hfr:∀(L:Nat→Bool),frL L 0 (((⟨d,jg t d.looks,v0,h,h0⟩:GE)::l').map gdv) t=frL (fun k=>L (k+1)) 0 (l'.map gdv) (bif L 0 then zcy t v0 d.rop.dst else t):=by grind[gdv,zk4,zdg]
    refine⟨by simp[g1],by grind,g3,?_⟩;intro j g hj;cases j with
    |zero=>
     simp only[Yzi,Option.some.injEq]at hj;subst hj;refine⟨?_,rfl,hv0⟩;rw[hfr];simp only[Nat.not_lt_zero,decide_false,Yzd]
     congr 1
     have:∀(r:List (Option BN×Zb)) (i:Nat) (t:Tr Zb),frL (fun _=>false) i r t=t:=by
      intro r
      induction r<;>grind[frL]
     grind
    |succ j=>simp only[Yzt]at hj;obtain⟨k1,k2,k3⟩:=g4 j g hj;refine⟨?_,k2,?_⟩<;>grind
  ·cases e
theorem zcn(es:List Bool):∀i,ce (fun _=>false) i es=0:=by induction es<;>grind[ce]
theorem zqg(L:Nat→Bool)(e:Bool)(es:List Bool):ce L 0 (e::es)=(bif L 0&&e then 1 else 0)+ce (fun k=>L (k+1)) 0 es:=by grind[zqh,zgn]
theorem zjm:∀(l:List GE) (j:Nat) (g:GE),l[j]? = some g→g.d.eff=true→(hsG l)[ce (fun k=>decide (k<j)) 0 (l.map (·.d.eff))]? = some g.ha
 | [],j,g,hj,_=>by simp at hj
 |g0::l,0,g,hj,he=>by
  simp only[Yzi,Option.some.injEq]at hj;subst hj;have hz:ce (fun k=>decide (k<0)) 0 ((g0::l).map (·.d.eff))=0:=by rw[show (fun k=>decide (k<0))=(fun _:Nat=>false) from funext fun k=>by simp,zcn]
  grind[hsG]
 |g0::l,j+1,g,hj,he=>by
  simp only[Yzt]at hj;have ih:=zjm l j g hj he;simp only[Yzy];rw[zqg];simp only[Nat.zero_lt_succ,decide_true,Yz1,Nat.succ_lt_succ_iff];unfold hsG
  grind
theorem zsK(g:GE)(l:List GE):hsG (g::l)=bif g.d.eff then g.ha::hsG l else hsG l:=rfl
def obG(n0:Nat)(l:List GE)(m:Nat):Option Zg:=
 match l[m]? with
 |some g=>bif g.d.mkb then g.ha.t.get (nm n0 m) else none
 |none=>none
def cmG(l:List GE)(m:Nat):Nat:=ce (fun k=>decide (k<m)) 0 (l.map (·.d.eff))
theorem zgj(l:List GE):cmG l 0=0:=by unfold cmG;rw[show (fun k=>decide (k<0))=(fun _:Nat=>false) from funext fun k=>by simp,zcn]
theorem zgk(g:GE)(l:List GE)(m:Nat):cmG (g::l) (m+1)=(bif g.d.eff then 1 else 0)+cmG l m:=by grind[cmG,zqg]
theorem zfG{n0:Nat}:∀(l:List GE) (c i:Nat) (x:Nat×Nat×Zg),(∀g∈l,g.d.mkb=true→g.d.eff=false)→x∈ziy n0 c i l→
  ∃m,x.2.1=i+m∧(∃g,l[m]? = some g∧g.d.mkb=true∧g.ha.t.get (nm n0 (i+m))=some x.2.2)∧x.1=c+cmG l m
 | [],c,i,x,_,hx=>by cases hx
 |g::l,c,i,x,hall,hx=>by
  have step:∀c',x∈ziy n0 c' (Nat.succ i) l→c'=c+(bif g.d.eff then 1 else 0)→∃m,x.2.1=i+m∧(∃g',(g::l)[m]? = some g'∧g'.d.mkb=true∧g'.ha.t.get (nm n0 (i+m))=some x.2.2)∧x.1=c+cmG (g::l) m:=by
   intro c' hx' hc;obtain⟨m,k1,⟨g',k2,k3,k4⟩,k5⟩:=zfG l c' (Nat.succ i) x (fun g' hg'=>hall g' (by simp[hg'])) hx';refine⟨m+1,by omega,⟨g',by trivial,k3,by grind⟩,?_⟩
   grind[zgk]
  unfold ziy at hx;cases hm:g.d.mkb with
  |false=>grind
  |true=>
   have he:=hall g (by simp) hm;rw[hm]at hx;simp only[Yza]at hx;split at hx
   ·rename_i o ho;rcases YzA.1 hx with rfl|hx
    ·exact⟨0,rfl,⟨g,rfl,hm,ho⟩,by rw[zgj];rfl⟩
    ·grind
   ·grind
theorem zde{n0 k:Nat}:∀(l:List (Nat×Nat×Zg)) (t:Tr Zg) (b:BN),(qL n0 k l t).get b=t.get b∨∃x∈l,k≤x.1∧b=nm n0 x.2.1∧(qL n0 k l t).get b=some x.2.2
 | [],t,b=>.inl rfl
 |(c,j,o)::l,t,b=>by
  unfold qL;rcases zde l (bif Nat.ble k c then t.set (bn (Nat.add n0 j)) o else t) b with h|⟨x,hx,h1,h2,h3⟩
  ·rw[h];cases hk:Nat.ble k c with
   |false=>simp
   |true=>
    simp only[Yza];by_cases hb:b=bn (Nat.add n0 j)
    ·subst hb;exact .inr ⟨(c,j,o),by simp,yv hk,rfl,zK _ _ _⟩
    ·grind[zy]
  ·grind
end Go.CE
end
section
namespace Go.CE
open Go.RowKit
theorem zf2:∀(l:List GE) (k:Nat) (h:Za),(hsG l)[k]? = some h→∃j g,l[j]? = some g∧g.d.eff=true∧cmG l j=k∧g.ha=h
 | [],k,h,e=>by trivial
 |g::l,k,h,e=>by
  rw[zsK]at e;cases he:g.d.eff with
  |false=>rw[he]at e;obtain⟨j,g',k1,k2,k3,k4⟩:=zf2 l k h e;exact⟨j+1,g',by trivial,k2,by grind[zgk],k4⟩
  |true=>
   rw[he]at e;simp only[Yza]at e;cases k with
   |zero=>simp only[Yzi,Option.some.injEq]at e;exact⟨0,g,rfl,he,zgj _,e⟩
   |succ k=>simp only[Yzt]at e;obtain⟨j,g',k1,k2,k3,k4⟩:=zf2 l k h e;exact⟨j+1,g',by trivial,k2,by grind[zgk],k4⟩
theorem uk{bs:List Nat}{i:Nat}:∀(os:List Oper) (off j':Nat),j'∈yY bs i off os↔∃j o,os[j]? = some o∧j'=off+j∧(qk o.op&&bef bs (off+j) i)=false
 | [],off,j'=>by simp[yY]
 |o::os,off,j'=>by
  have ih:=uk (bs:=bs) (i:=i) os (Nat.succ off) j';have tail:(∃j o',os[j]? = some o'∧j'=Nat.succ off+j∧(qk o'.op&&bef bs (Nat.succ off+j) i)=false)↔∃j o',(o::os)[j+1]? = some o'∧j'=off+(j+1)∧(qk o'.op&&bef bs (off+(j+1)) i)=false:=by grind
  unfold yY;cases hq:qk o.op&&bef bs off i with
  |true=>grind
  |false=>
   simp only[Yzd,YzA];rw[ih,tail]
   constructor
   ·rintro (rfl|⟨j,o',h1,h2,h3⟩)<;>grind
   ·grind
theorem zbR(P:Program)(nt:Nat)(ops:Array Oper)(bs:List Nat)(es:List Bool):∀(os:List Oper) (i j:Nat),(xI P nt ops bs es i os)[j]? = (os[j]?).map fun o=>
  (⟨xd P nt ops o,(o.looksAt ops).map bn,anchor P o.op,qk o.op,ce (fun k=>bef bs k (i+j)) 0 es,ce (fun k=>!bef bs (i+j) k) 0 es,yY bs (i+j) 0 ops.toList⟩:Zq)
 | [],i,j=>by simp[xI]
 |o::os,i,0=>by simp[xI]
 |o::os,i,j+1=>by simp only[xI,Yzt];rw[zbR P nt ops bs es os (Nat.succ i) j,show Nat.succ i+j=i+(j+1) by omega]
structure Spc (n0 N:Nat) (l:List GE) (L:Nat→Bool) (k:Nat) (Hk H:Za):Prop where
 n:H.n.toNat=Hk.n.toNat
 old:∀b:BN,(b.toNat<n0∨n0+N≤b.toNat)→H.t.get b=Hk.t.get b
 res:∀m,m<N→H.t.get (nm n0 m)=if L m=true then(if k≤cmG l m then obG n0 l m else Hk.t.get (nm n0 m)) else none
noncomputable abbrev FG(n0:Nat)(l:List GE)(k:Nat)(Hk:Za)(m:Nat):Option Zg:=if k≤cmG l m then obG n0 l m else Hk.t.get (nm n0 m)
theorem zeq(n0 N:Nat)(b:BN):(b.toNat<n0∨n0+N≤b.toNat)∨∃m,m<N∧b=nm n0 m:=by
 by_cases h:b.toNat<n0∨n0+N≤b.toNat
 ·omega
 ·exact .inr ⟨b.toNat-n0,by omega,zAB (by omega)⟩
section
variable {P:Program} {nt:Nat} {call:zj} {ops:Array Oper} {n0:Nat} {t t2:Tr Zb} {h0 h2:Za} {l:List GE}
structure Txt (P:Program) (nt:Nat) (call:zj) (ops:Array Oper) (n0:Nat) (t t2:Tr Zb) (h0 h2:Za) (l:List GE):Prop where
 len:l.length=ops.size
 es:l.map (·.d.eff)=kR P ops.toList
 ent:∀(j:Nat) (o:Oper),ops[j]? = some o→∃g,l[j]? = some g∧g.d=⟨xd P nt ops o,(o.looksAt ops).map bn,anchor P o.op,qk o.op,ce (fun k=>bef (xM ops.toList) k j) 0 (kR P ops.toList),ce (fun k=>!bef (xM ops.toList) j k) 0 (kR P ops.toList),yY (xM ops.toList) j 0 ops.toList⟩
 fr:t2=frL (fun _=>true) 0 (l.map gdv) t
 fin:h2=hAt h0 l ops.size
 step:∀j g,l[j]? = some g→g.tr=jg (frL (fun k=>decide (k<j)) 0 (l.map gdv) t) g.d.looks∧g.hb=hAt h0 l j∧stepG call n0 j g.d g.tr g.hb=some (g.v,g.ha)
 fresh:∀m,m<ops.size→h0.t.get (nm n0 m)=none
theorem zw3(e:evG call n0 0 (um P nt ops) t h0=some (l,t2,h2))(hf:∀m,m<ops.size→h0.t.get (nm n0 m)=none):Txt P nt call ops n0 t t2 h0 h2 l:=by
 obtain⟨g1,g2,g3,g4⟩:=zld call n0 _ _ _ _ _ _ _ e;have hget:∀(j:Nat) (o:Oper),ops[j]? = some o→(um P nt ops)[j]? = some ⟨xd P nt ops o,(o.looksAt ops).map bn,anchor P o.op,qk o.op,ce (fun k=>bef (xM ops.toList) k j) 0 (kR P ops.toList),ce (fun k=>!bef (xM ops.toList) j k) 0 (kR P ops.toList),yY (xM ops.toList) j 0 ops.toList⟩:=by simp_all[um,zbR]
 have hlen:(um P nt ops).length=ops.size:=by
  have key:∀(os:List Oper) (i:Nat),(xI P nt ops (xM ops.toList) (kR P ops.toList) i os).length=os.length:=by
   intro os
   induction os<;>grind[xI]
  grind[um]
 have hll:l.length=ops.size:=by grind
 refine⟨hll,?_,fun j o ho=>?_,g2,by grind,fun j g hj=>by grind,hf⟩
 ·rw[show (fun x:GE=>x.d.eff)=Zq.eff ∘ GE.d from rfl,←List.map_map,g1];have key:∀(os:List Oper) (i:Nat),(xI P nt ops (xM ops.toList) (kR P ops.toList) i os).map Zq.eff=kR P os:=by
   intro os
   induction os with
   |nil=>intro i;rfl
   |cons o os ih=>intro i;simp only[xI,Yzy,ih];rfl
  exact key _ _
 ·grind
theorem zbf{φ:Phi}{n:Nat}{tr:Tr Zb}{h h2:Za}{a:Act}{v:Zb}{o:Oper}(e:x5 call (xd P nt ops o) tr h=some (v,h2))(T:Zi φ nt n tr a.tmps):
  (Region.wanted o (yielded ops a.tmps)=true∧cOp P o.op call tr h=some (v,h2))∨(Region.wanted o (yielded ops a.tmps)=false∧v=yp∧h2=h):=by
 have key:∀hh:Za,hh.n.toNat=n→x5 call (xd P nt ops o) tr ⟨hh.n,h.t⟩=x5 call (xd P nt ops o) tr ⟨hh.n,h.t⟩→True:=fun _ _ _=>trivial;unfold xd at e;have bad:∀{o':Zo},o'=⟨none,xz,none⟩→x5 call o' tr h=some (v,h2)→False:=by intro o' ho' e;subst ho';cases e
 cases hd:inT nt o.dst with
 |false=>grind
 |true=>
  rw[hd]at e;simp only[Yza]at e;have fin:∀g,x5 call ⟨o.dst.map bn,cOp P o.op,g⟩ tr h=some (v,h2)→(want tr g=true∧cOp P o.op call tr h=some (v,h2))∨(want tr g=false∧v=yp∧h2=h):=by
   intro g e;unfold x5 at e
   grind
  split at e
  ·rename_i hg;rcases fin none e with hh|⟨hw,_⟩
   ·grind[Region.wanted]
   ·cases hw
  ·rename_i j b hg;split at e
   ·rename_i d hjd;cases hb:Nat.ble (Nat.succ d) nt with
    |false=>grind
    |true=>
     rw[hb]at e;have T':Zi φ nt (Za.n ⟨bn n,.nil⟩).toNat tr a.tmps:=by grind[zW]
     have hyd:=zaV T' hjd (yv hb) b
     grind[Region.wanted]
   ·trivial
theorem zsX{tr:Tr Zb}{h h2:Za}{v:Zb}{o:Oper}(e:x5 call (xd P nt ops o) tr h=some (v,h2)):cOp P o.op call tr h=some (v,h2)∨(v=yp∧h2=h):=by
 unfold xd at e;have fin:∀(d:Option BN) (f:zdX) g,x5 call ⟨d,f,g⟩ tr h=some (v,h2)→f call tr h=some (v,h2)∨(v=yp∧h2=h):=by
  intro d f g e;unfold x5 at e
  grind
 have bad:∀(g:Option (BN×Bool)),x5 call ⟨none,xz,none⟩ tr h=some (v,h2)→False:=fun _ e=>by cases e
 cases hd:inT nt o.dst with
 |false=>simp_all
 |true=>
  rw[hd]at e;simp only[Yza]at e;split at e
  ·grind
  ·split at e
   ·rename_i d _;cases hb:Nat.ble (Nat.succ d) nt with
    |false=>simp_all
    |true=>grind
   ·trivial
theorem vT{o:Op}(h:qk o=true):anchor P o=false:=by simp[anchor,h]
theorem zpq(P:Program)(o:Op):qk o=true∨(qk o=false∧anchor P o=true)∨(qk o=false∧anchor P o=false∧yW P o=true):=by
 cases hm:qk o with
 |true=>simp
 |false=>
  cases hq:yW P o with
  |true=>simp
  |false=>exact .inr (.inl ⟨rfl,by grind[anchor]⟩)
theorem Txt.made(X:Txt P nt call ops n0 t t2 h0 h2 l){j:Nat}{o:Oper}{g:GE}(ho:ops[j]? = some o)(hg:l[j]? = some g)(hm:qk o.op=true):
  g.ha.n=g.hb.n∧(∀b,b≠nm n0 j→g.ha.t.get b=g.hb.t.get b)∧∃h',x5 call (xd P nt ops o) g.tr ⟨nm n0 j,g.hb.t⟩=some (g.v,h')∧h'.t=g.ha.t:=by
 obtain⟨g',hg',hd⟩:=X.ent j o ho;cases hg.symm.trans hg';obtain⟨_,_,hs⟩:=X.step j g hg;unfold stepG at hs;rw[hd]at hs;simp only[hm,Yza]at hs;split at hs
 ·rename_i v h' he;simp only[Option.some.injEq,Prod.mk.injEq]at hs;obtain⟨rfl,hs⟩:=hs;rw[←hs];refine⟨rfl,fun b hb=>?_,h',he,rfl⟩;rcases zsX he with hc|⟨_,rfl⟩
  ·obtain⟨obj,vf,hsh,_⟩:=zkM (nt:=nt) hm hc;have:=hsh ⟨nm n0 j,g.hb.t⟩;rw[hc]at this;simp only[Option.some.injEq,Prod.mk.injEq]at this;rw[this.2];exact zy _ _ _ _ hb
  ·rfl
 ·cases hs
theorem Txt.quiet(X:Txt P nt call ops n0 t t2 h0 h2 l){j:Nat}{o:Oper}{g:GE}(ho:ops[j]? = some o)(hg:l[j]? = some g)(hm:qk o.op=false)(ha:anchor P o.op=false):
  g.ha=g.hb∧∃h',x5 call (xd P nt ops o) g.tr ⟨g.hb.n,zbj n0 (yY (xM ops.toList) j 0 ops.toList) g.hb.t⟩=some (g.v,h'):=by
 obtain⟨g',hg',hd⟩:=X.ent j o ho;cases hg.symm.trans hg';obtain⟨_,_,hs⟩:=X.step j g hg;unfold stepG at hs
 grind
theorem Txt.anchor(X:Txt P nt call ops n0 t t2 h0 h2 l){j:Nat}{o:Oper}{g:GE}(ho:ops[j]? = some o)(hg:l[j]? = some g)(hm:qk o.op=false)(ha:anchor P o.op=true):
  ∃h',x5 call (xd P nt ops o) g.tr ⟨g.hb.n,zbj n0 (yY (xM ops.toList) j 0 ops.toList) g.hb.t⟩=some (g.v,h')∧g.ha.n=h'.n∧(∀i∈yY (xM ops.toList) j 0 ops.toList,g.ha.t.get (nm n0 i)=g.hb.t.get (nm n0 i)∧h'.t.get (nm n0 i)=none)∧
   ∀b,(∀i∈yY (xM ops.toList) j 0 ops.toList,b≠nm n0 i)→g.ha.t.get b=h'.t.get b:=by
 obtain⟨g',hg',hd⟩:=X.ent j o ho;cases hg.symm.trans hg';obtain⟨_,_,hs⟩:=X.step j g hg;unfold stepG at hs;rw[hd]at hs;simp only[hm,ha,Yzd,Yza]at hs;split at hs
 ·rename_i v h' he;split at hs
  ·rename_i t' ht;simp only[Option.some.injEq,Prod.mk.injEq]at hs;obtain⟨rfl,hs⟩:=hs;obtain⟨k1,k2,k3⟩:=qg _ _ _ ht
   grind
  ·cases hs
 ·cases hs
theorem Txt.mkeff(X:Txt P nt call ops n0 t t2 h0 h2 l):∀g∈l,g.d.mkb=true→g.d.eff=false:=by
 intro g hg hm;obtain⟨j,hj⟩:=List.mem_iff_getElem?.1 hg;have hjl:j<ops.size:=by rw[←X.len];grind
 obtain⟨g',hg',hd⟩:=X.ent j _ (YzM hjl)
 grind[vT]
theorem Txt.ob(X:Txt P nt call ops n0 t t2 h0 h2 l){j:Nat}{o:Oper}{g:GE}(ho:ops[j]? = some o)(hg:l[j]? = some g):obG n0 l j=bif qk o.op then g.ha.t.get (nm n0 j) else none:=by
 obtain⟨g',hg',hd⟩:=X.ent j o ho
 grind[obG]
theorem Txt.spc(X:Txt P nt call ops n0 t t2 h0 h2 l)(hA:∀(i:Nat) (o:Oper),ops[i]? = some o→∀e∈o.after.toList,Region.binds .any e=true→e.on<i):
  ∀j,j≤ops.size→∃Hk,(h0::hsG l)[cmG l j]? = some Hk∧Spc n0 ops.size l (fun m=>decide (m<j)) (cmG l j) Hk (hAt h0 l j):=by
 have hbef:∀i j,bef (xM ops.toList) i j=true→i<j:=by
  intro i j hb;have hC:Clo ops (fun k=>decide (k<j)):=by
   intro q hq o' e ho' he hb'
   grind
  grind[Rdy,vW]
 intro j
 induction j with
 |zero=>
  intro _;have e0:hAt h0 l 0=h0:=by cases l<;>rfl
  rw[e0,zgj];refine⟨h0,rfl,rfl,fun _ _=>rfl,fun m hm=>?_⟩;rw[Yzb (by simp)];exact X.fresh m hm
 |succ j ih=>
  intro hj;obtain⟨Hk,hHk,S⟩:=ih (by omega);have hjs:j<ops.size:=by omega
  have ho:ops[j]? = some ops[j]:=YzM hjs;generalize ops[j]=o at ho;obtain⟨g,hg,hd⟩:=X.ent j o ho;have hhb:=(X.step j g hg).2.1;have hha:hAt h0 l (j+1)=g.ha:=zf4 l h0 j g hg;have heff:(l.map (·.d.eff))[j]? = some (CE.anchor P o.op):=by grind
  have hcm:cmG l (j+1)=cmG l j+(bif CE.anchor P o.op then 1 else 0):=by
   cases ha:CE.anchor P o.op with
   |false=>
    rw[Yzd,YzH];refine w8 _ 0 fun k hk=>?_
    grind
   |true=>rw[Yza];exact zhJ _ 0 j (by grind) (by simp) (by simp) (fun k hk=>by grind)
  rw[hha];rcases zpq P o.op with hm|⟨hm,ha⟩|⟨hm,ha,_⟩
  ·
   obtain⟨k1,k2,h',k3,k4⟩:=X.made ho hg hm;rw[hcm,vT hm,Yzd,YzH];refine⟨Hk,hHk,by rw[k1,hhb];exact S.n,fun b hb=>?_,fun m hmN=>?_⟩
   ·rw[k2 b (fun hh=>by grind[y1]),hhb];exact S.old b hb
   ·by_cases hmj:m=j
    ·subst hmj;rw[Yze (by simp),Yze (LzB _),X.ob ho hg,hm];rfl
    ·rw[k2 _ (fun hh=>hmj (ur hh)),hhb,S.res m hmN]
     grind
  ·
   obtain⟨h',k1,k2,k3,k4⟩:=X.anchor ho hg hm ha;rw[hcm,ha,Yza];refine⟨g.ha,?_,rfl,fun _ _=>rfl,fun m hmN=>?_⟩
   ·rw[Yzt];exact zjm l j g hg (by grind)
   ·by_cases hlt:m<j+1
    ·rw[Yze (by grind),Yzb];have:cmG l m≤cmG l j:=wO _ 0 fun k _ hk=>by grind
     omega
    ·rw[Yzb (by grind)];have hmem:m∈yY (xM ops.toList) j 0 ops.toList:=by
      rw[uk]
      grind
     rw[(k3 m hmem).1,hhb,S.res m hmN,Yzb (show ¬decide (m<j)=true by grind)]
  ·
   obtain⟨k1,_⟩:=X.quiet ho hg hm ha;rw[hcm,ha,Yzd,YzH,k1,hhb];refine⟨Hk,hHk,S.n,S.old,fun m hmN=>?_⟩;rw[S.res m hmN];by_cases hmj:m=j
   ·subst hmj;rw[Yzb (show ¬decide (m<m)=true by simp),Yze (show decide (m<m+1)=true by simp),Yze (LzB _),X.ob ho hg,hm];rfl
   ·grind
end
end Go.CE
end
section
namespace Go.CE
open Go.RowKit
section
variable {P:Program} {w0:World} {S:Nat→Prop} {nt:Nat} {call:zj} {ops:Array Oper}
theorem zhA(hok:jw P ops (xM ops.toList)=true):(∀(i:Nat) (o:Oper),ops[i]? = some o→(∀cs b,o.op≠.select cs b)∧∀e∈o.after.toList,Region.binds .any e=true→e.on<i)∧
  ∀(i j:Nat) (oi oj:Oper),ops[i]? = some oi→ops[j]? = some oj→i<j→bef (xM ops.toList) i j=true∨(oi.apart ops oj=true∧(anchor P oi.op=false∨anchor P oj.op=false)):=by
 obtain⟨h1,h2⟩:=uL hok
 constructor
 ·intro i o ho;have:=un _ 0 h1 i o (by grind);rw[Yzm]at this;obtain⟨g1,g2⟩:=uL this;refine⟨(fun cs b hh=>by rw[hh]at g1;cases g1),fun e he hb=>?_⟩;rw[Yz3]at g2;have:=g2 e he;rw[hb]at this;exact yv (by trivial)
 ·intro i j oi oj hi hj hlt;have:=un _ 0 h2 j oj (by grind);rw[Yzm]at this;have:=un _ 0 this i oi (by grind);rw[Yzm]at this;simp only[YzJ]at this;rcases this with (this|this)|this
  ·grind[Yzl]
  ·grind
  ·grind
theorem zea{n0:Nat}{d:Zq}{tr:Tr Zb}{v:Zb}{mks:List (Nat×Nat×Zg)}:∀(hs:List Za) (c:Nat),zmb call n0 d tr v mks c hs=true→∀(k:Nat) (hk:Za),hs[k]? = some hk→
  ∃h',x5 call d.rop tr ⟨hk.n,zbj n0 d.hide (qL n0 (c+k) mks hk.t)⟩=some (v,h')
 | [],_,_,k,hk,hh=>by simp at hh
 |h::hs,c,e,k,hk,hh=>by
  unfold zmb at e;split at e
  ·rename_i v' h' hv;obtain⟨e1,e2⟩:=uL e;cases k with
   |zero=>simp only[Yzi,Option.some.injEq]at hh;subst hh;exact⟨h',by rw[YzH,hv,zlg e1]⟩
   |succ k=>
    have:=zea hs (Nat.succ c) e2 k hk (by trivial)
    grind
  ·cases e
theorem zdu{n0:Nat}{mks:List (Nat×Nat×Zg)}{hs:List Za}:∀(l:List GE),uy call n0 mks hs l=true→∀(j:Nat) (g:GE),l[j]? = some g→g.d.eff=false→g.d.mkb=false→
  g.d.lo=g.d.hi∨∀k hk,g.d.lo≤k→k≤g.d.hi→hs[k]? = some hk→∃h',x5 call g.d.rop g.tr ⟨hk.n,zbj n0 g.d.hide (qL n0 k mks hk.t)⟩=some (g.v,h')
 | [],_,j,g,hj,_,_=>by simp at hj
 |g0::l,e,j,g,hj,hd,hm=>by
  obtain⟨e1,e2⟩:=uL e;cases j with
  |zero=>
   simp only[Yzi,Option.some.injEq]at hj;subst hj;rw[hd,hm]at e1;simp only[Yz7,YzJ]at e1;rcases e1 with e1|e1
   ·simp_all
   ·refine .inr fun k hk h1 h2 h3=>?_;have:=zea _ _ e1 (k-g0.d.lo) hk (by
     grind)
    grind
  |succ j=>exact zdu l e2 j g (by trivial) hd hm
set_option maxHeartbeats 1000000 in
theorem zm4(C:y4 P call){Q:Exit→Act→World→Prop}{a0:Act}{t t2:Tr Zb}{hh0 h0 h2:Za}{φ0:Phi}{l:List GE}{ro:Option Nat}{n0:Nat}
  (hok:jw P ops (xM ops.toList)=true) (X:Txt P nt call ops n0 t t2 h0 h2 l) (hch:uy call n0 (ziy n0 0 0 l) (h0::hsG l) l=true) (hn0:hh0.n.toNat=n0) (hh0n:h0.n.toNat=n0+ops.size)
  (hQ:∀a2 w2,Next1 w0 S φ0 nt hh0 t2 h2 a0 a2 w2→Q .normal a2 w2):
  ∀(fuel:Nat) (listed:Array Bool) (φ:Phi) (a:Act) (w:World) (Hk H:Za),listed.size=ops.size→unl listed≤fuel→Clo ops (lst listed)→Ext n0 φ0 φ→
   (h0::hsG l)[ce (lst listed) 0 (kR P ops.toList)]? = some Hk→Spc n0 ops.size l (lst listed) (ce (lst listed) 0 (kR P ops.toList)) Hk H→Zd w0 S φ H w→n0+ops.size≤H.n.toNat→
   Zi φ nt H.n.toNat (frL (lst listed) 0 (l.map gdv) t) a.tmps→a.defers=a0.defers→(∀m,m<ops.size→lst listed m=false→(φ (nm n0 m)).ok=false)→
   wpAnyIn (FR ro) 0 P .any ops Q fuel listed a w:=by
 obtain⟨hA,hord⟩:=zhA hok;have hA':∀(i:Nat) (o:Oper),ops[i]? = some o→∀e∈o.after.toList,Region.binds .any e=true→e.on<i:=fun i o ho=>(hA i o ho).2;have hbef:∀i j,bef (xM ops.toList) i j=true→i<j:=by
  intro i j hb;have hC:Clo ops (fun k=>decide (k<j)):=by
   intro q hq o' e ho' he hb'
   grind
  grind[Rdy,vW]
 have hspc:=X.spc hA';have hcmE:∀j,cmG l j=ce (fun k=>decide (k<j)) 0 (kR P ops.toList):=fun j=>by unfold cmG;rw[X.es]
 have hdst:∀(j:Nat) (o:Oper) (g:GE),ops[j]? = some o→l[j]? = some g→g.d.rop.dst=o.dst.map bn∧inT nt o.dst=true:=by
  intro j o g ho hj;obtain⟨g',hj',hd⟩:=X.ent j o ho;cases hj.symm.trans hj';rw[hd];rcases zpq P o.op with hm|⟨hm,ha⟩|⟨hm,ha,_⟩
  ·obtain⟨_,_,h',he,_⟩:=X.made ho hj hm;exact zaG he
  ·obtain⟨h',he,_⟩:=X.anchor ho hj hm ha;exact zaG he
  ·obtain⟨_,h',he⟩:=X.quiet ho hj hm ha;exact zaG he
 have hdv:∀(j:Nat) (d:Option BN) (v:Zb) (s:BN),(l.map gdv)[j]? = some (d,v)→d=some s→∃o sn,ops[j]? = some o∧o.dst=some sn∧bn sn=s:=by
  intro j d v s hj hd;rw[Lz6]at hj;cases hx:l[j]? with
  |none=>grind
  |some g=>
   rw[hx]at hj;simp only[Yz0,Option.some.injEq,gdv,Prod.mk.injEq]at hj;have hjl:j<ops.size:=by have:=(Lz0.1 hx).1;have:=X.len;omega
   have ho:ops[j]? = some ops[j]:=YzM hjl;have:=(hdst j _ g ho hx).1;simp_all
 have hes:∀(j:Nat),(kR P ops.toList)[j]? = some true→∃o,ops[j]? = some o∧anchor P o.op=true:=by
  intro j hj;unfold kR at hj
  grind
 have hes':∀(j:Nat) (o:Oper),ops[j]? = some o→(kR P ops.toList)[j]? = some (anchor P o.op):=by grind[kR]
 have hhid:∀(i m:Nat) (om:Oper),ops[m]? = some om→(m∈yY (xM ops.toList) i 0 ops.toList↔(qk om.op&&bef (xM ops.toList) m i)=false):=by
  intro i m om hom;rw[uk]
  grind
 have hhidlt:∀(i m:Nat),m∈yY (xM ops.toList) i 0 ops.toList→m<ops.size:=by grind[uk]
 have hFG:∀(j:Nat) (o:Oper) (g:GE) (Hk:Za) (m:Nat),ops[j]? = some o→l[j]? = some g→qk o.op=false→anchor P o.op=true→(h0::hsG l)[cmG l j]? = some Hk→m∈yY (xM ops.toList) j 0 ops.toList→
   FG n0 l (cmG l j+1) g.ha m=FG n0 l (cmG l j) Hk m:=by
  intro j o g Hk m ho hg hm ha hHk hmem;have hmN:=hhidlt j m hmem;obtain⟨h',k1,k2,k3,k4⟩:=X.anchor ho hg hm ha;have hjN:j<ops.size:=(Lz7.1 ho).1;obtain⟨Hk',hHk',Sp⟩:=hspc j (by omega);cases hHk.symm.trans hHk';have hhb:=(X.step j g hg).2.1;have hgm:g.ha.t.get (nm n0 m)=if decide (m<j)=true then FG n0 l (cmG l j) Hk m else none:=by rw[(k3 m hmem).1,hhb];exact Sp.res m hmN
  show (if cmG l j+1≤cmG l m then obG n0 l m else g.ha.t.get (nm n0 m))=if cmG l j≤cmG l m then obG n0 l m else Hk.t.get (nm n0 m)
  rcases Nat.lt_trichotomy m j with hmj|hmj|hmj
  ·grind
  ·subst hmj;rw[Yzb (by omega),hgm,Yzb (by simp),Yze (LzB _),X.ob ho hg,hm];rfl
  ·have hle:cmG l j+1≤cmG l m:=by
    have h1:cmG l (j+1)=cmG l j+1:=by refine zhJ _ 0 j ?_ (by simp) (by simp) (fun k hk=>by grind);rw[X.es,hes' j o ho,ha]
    have h2:cmG l (j+1)≤cmG l m:=wO _ 0 fun k _ hk=>by grind
    omega
   grind
 have FGu:∀(k:Nat) (Hk:Za) (m:Nat),m<ops.size→(h0::hsG l)[k]? = some Hk→(∀(j:Nat) (oj:Oper),ops[j]? = some oj→anchor P oj.op=true→cmG l j<k→m∈yY (xM ops.toList) j 0 ops.toList)→FG n0 l k Hk m=obG n0 l m:=by
  intro k
  induction k with
  |zero=>simp
  |succ k ih=>
   intro Hk m hmN hHk hall;rw[Yzt]at hHk;obtain⟨j,g,k1,k2,k3,k4⟩:=zf2 l k Hk hHk;have hjN:j<ops.size:=by rw[←X.len];grind
   have ho:ops[j]? = some ops[j]:=YzM hjN;obtain⟨g',hg',hd⟩:=X.ent j _ ho;cases k1.symm.trans hg';have ha:anchor P ops[j].op=true:=by grind
   have hm:qk ops[j].op=false:=by grind[vT]
   obtain⟨Hk',hHk',_⟩:=hspc j (by omega);have:=hFG j _ g Hk' m ho k1 hm ha hHk' (hall j _ ho ha (by omega));rw[k3,k4]at this;rw[this];rw[k3]at hHk';exact ih Hk' m hmN hHk' fun j oj hoj haj hlt=>hall j oj hoj haj (by omega)
 have FGn:∀(k:Nat) (Hk:Za) (m:Nat) (om:Oper),ops[m]? = some om→qk om.op=false→(h0::hsG l)[k]? = some Hk→FG n0 l k Hk m=none:=by intro k Hk m om hom hmk hHk;have hmN:m<ops.size:=(Lz7.1 hom).1;obtain⟨g,hg,_⟩:=X.ent m om hom;rw[FGu k Hk m hmN hHk fun j oj _ _ _=>(hhid j m om hom).2 (by grind),X.ob hom hg,hmk];rfl
 have hkNone:∀(k:Nat) (Hk:Za) (m:Nat),m<ops.size→(h0::hsG l)[k]? = some Hk→k≤cmG l m→Hk.t.get (nm n0 m)=none:=by
  intro k Hk m hmN hHk hle;cases k with
  |zero=>simp only[Yzi,Option.some.injEq]at hHk;subst hHk;exact X.fresh m hmN
  |succ k=>
   rw[Yzt]at hHk;obtain⟨j,g,k1,k2,k3,k4⟩:=zf2 l k Hk hHk;have hjN:j<ops.size:=by rw[←X.len];grind
   obtain⟨Hk',_,Sp⟩:=hspc (j+1) (by omega);rw[zf4 l h0 j g k1,k4]at Sp;have hmj:¬m<j+1:=fun hh=>by
    have:cmG l m≤cmG l j:=wO _ 0 fun q _ hq=>by grind
    omega
   rw[Sp.res m hmN,Yzb (show ¬decide (m<j+1)=true by grind)]
 have finish:∀(listed:Array Bool) (φ:Phi) (a:Act) (w:World) (Hk H:Za),(∀i,i<ops.size→lst listed i=true)→Ext n0 φ0 φ→
   (h0::hsG l)[ce (lst listed) 0 (kR P ops.toList)]? = some Hk→Spc n0 ops.size l (lst listed) (ce (lst listed) 0 (kR P ops.toList)) Hk H→Zd w0 S φ H w→n0+ops.size≤H.n.toNat→
   Zi φ nt H.n.toNat (frL (lst listed) 0 (l.map gdv) t) a.tmps→a.defers=a0.defers→Q .normal a w:=by
  intro listed φ a w Hk H hall hE hH Sp HR hn T hdf;have hce:ce (lst listed) 0 (kR P ops.toList)=cmG l ops.size:=by
   rw[hcmE];refine w8 _ 0 fun j hj=>?_
   grind
  rw[hce]at hH Sp;obtain⟨Hk',hHk',Sp'⟩:=hspc ops.size (LzB _);cases hH.symm.trans hHk';rw[←X.fin]at Sp';have hg:∀b,h2.t.get b=H.t.get b:=by
   intro b;rcases zeq n0 ops.size b with hb|⟨m,hm,rfl⟩
   ·rw[Sp.old b hb,Sp'.old b hb]
   ·rw[Sp.res m hm,Sp'.res m hm,Yze (hall m hm),Yze (show decide (m<ops.size)=true by grind)]
  have hnn:h2.n.toNat=H.n.toNat:=by rw[Sp.n,Sp'.n]
  refine hQ a w ⟨φ,by grind,HR.of_get hg hnn,?_,hdf,by omega⟩;rw[hnn,X.fr,←zaA (L:=lst listed) (l.map gdv) 0 t (fun j hj=>by rw[Yzm];exact hall j (by simpa[X.len] using hj))];exact T
 intro fuel
 induction fuel with
 |zero=>
  intro listed φ a w Hk H hsz hu hC hE hH Sp HR hn T hdf hbad;have hall:∀i,i<ops.size→lst listed i=true:=fun i hi=>zkc (by omega) (by omega);have hnil:Region.ready .any ops listed=[]:=by
   cases hr:Region.ready .any ops listed with
   |nil=>rfl
   |cons i r=>
    obtain⟨o,ho,h1,h2,h3⟩:=mem_ready (ops:=ops) (listed:=listed) (i:=i) (by grind)
    grind
  exact⟨hnil,finish listed φ a w Hk H hall hE hH Sp HR hn T hdf⟩
 |succ fuel ih=>
  intro listed φ a w Hk H hsz hu hC hE hH Sp HR hn T hdf hbad;refine⟨fun hnil=>finish listed φ a w Hk H (zeX (ops:=ops) hsz (fun i o e ho he hb=>hA' i o ho e he hb) hnil) hE hH Sp HR hn T hdf,fun i hi=>?_⟩;obtain⟨o,ho,hlt,hli,hR⟩:=mem_ready hi;have hiN:i<ops.size:=(Lz7.1 ho).1;obtain⟨g,hj,hgd⟩:=X.ent i o ho;obtain⟨htr,hhb,_⟩:=X.step i g hj;obtain⟨hnosel,hedge⟩:=hA i o ho;obtain⟨hdd,hdin⟩:=hdst i o g ho hj;generalize hk:ce (lst listed) 0 (kR P ops.toList)=k at hH Sp;have before:∀j,bef (xM ops.toList) j i=true→lst listed j=true:=fun j hb=>vW hb hC hR;have after:∀j,bef (xM ops.toList) i j=true→lst listed j=false:=by
   intro j hb;cases hj:lst listed j with
   |false=>rfl
   |true=>
    have:=vW hb hC (hC j hj)
    grind
  have hCi:Clo ops (fun k=>decide (k<i)):=by
   intro j hj o' e ho' he hb
   grind
  have hRi:Rdy ops (fun k=>decide (k<i)) i:=by
   intro o' e ho' he hb
   grind
  have hlk:g.d.looks=(o.looksAt ops).map bn:=by rw[hgd]
  rw[hlk]at htr;have hagree:∀s∈(o.looksAt ops).map bn,(frL (fun k=>decide (k<i)) 0 (l.map gdv) t).get s=(frL (lst listed) 0 (l.map gdv) t).get s:=by
   intro s hs';obtain⟨sn,hsn,rfl⟩:=List.mem_map.1 hs';rw[js,js]
   congr 1
   refine zaq _ 0 fun j d v hjd hds=>?_;obtain⟨oj,sj,hoj,hsj,hbe⟩:=hdv j d v _ hjd hds;have:=jF hbe;subst this;rw[Yzm];rcases Nat.lt_trichotomy j i with hji|hji|hji
   ·grind[Oper.apart_spec]
   ·grind
   ·grind[Oper.apart_spec]
  have htrg:∀s,g.tr.get s=(frL (lst listed) 0 (l.map gdv) t).get s∧s∈(o.looksAt ops).map bn∨g.tr.get s=none:=by
   intro s
   classical
   have:=v7 (frL (fun k=>decide (k<i)) 0 (l.map gdv) t) s ((o.looksAt ops).map bn);rw[←htr]at this;by_cases hm:s∈(o.looksAt ops).map bn<;>grind
  have Tr':Zi φ nt H.n.toNat g.tr (vK φ nt g.tr):=by
   refine zhE (fun j hj=>?_) (fun s v hv=>?_)
   ·rcases htrg (bn j) with⟨h1,_⟩|h1
    ·rw[h1];exact T.out j hj
    ·exact h1
   ·rcases htrg s with⟨h1,_⟩|h1
    ·rw[h1]at hv;exact T.wf s v hv
    ·grind
  have htmps:∀sn∈o.looksAt ops,a.tmps[sn]? = (vK φ nt g.tr)[sn]?:=by
   intro sn hsn;by_cases hlt':sn<nt
   ·rw[T.get sn hlt',Tr'.get sn hlt'];have hm:bn sn∈(o.looksAt ops).map bn:=List.mem_map.2 ⟨sn,hsn,rfl⟩;rw[←hagree _ hm]
    classical
    have:=v7 (frL (fun k=>decide (k<i)) 0 (l.map gdv) t) (bn sn) ((o.looksAt ops).map bn)
    grind
   ·have e1:a.tmps[sn]? = none:=Yyc (by rw[T.size];grind);have e2:(vK φ nt g.tr)[sn]? = none:=Yyc (by rw[Tr'.size];grind);rw[e1,e2]
  have hexec:execOp a.eval o=execOp ({ tmps:=vK φ nt g.tr,defers:=[] }:Act).eval o:=by
   refine execOp_congr o hnosel fun x hx=>?_;cases x with
   |tmp sn=>have:=htmps sn (Yzv _ (List.mem_filterMap.2 ⟨.tmp sn,by grind,rfl⟩));simp only[Act.eval,YzG,this]
   |_=>rfl
  have hwant:Region.wanted o (yielded ops a.tmps)=Region.wanted o (yielded ops (vK φ nt g.tr)):=by
   unfold Region.wanted;cases hg:o.guard with
   |none=>rfl
   |some gb=>
    obtain⟨q,b⟩:=gb;simp only;have:yielded ops a.tmps q=yielded ops (vK φ nt g.tr) q:=by
     unfold yielded;cases hd:(ops[q]?).bind (·.dst) with
     |none=>rfl
     |some sn=>
      have:=htmps sn (YzB _ (by grind))
      grind
    rw[this]
  have hC':Clo ops (lst (listed.setIfInBounds i true)):=by
   intro j hj o' e ho' he hb;rw[vH hlt]at hj ⊢;rw[YzJ]
   right
   simp only[YzJ,Yzn]at hj;rcases hj with hj|hj
   ·subst hj;exact hR o' e ho' he hb
   ·exact hC j hj o' e ho' he hb
  have next:∀(φ2:Phi) (w2:World) (Hk' H':Za),ziC H.n.toNat φ φ2→Ext n0 φ φ2→H.n.toNat≤H'.n.toNat→
    (h0::hsG l)[ce (lst (listed.setIfInBounds i true)) 0 (kR P ops.toList)]? = some Hk'→Spc n0 ops.size l (lst (listed.setIfInBounds i true)) (ce (lst (listed.setIfInBounds i true)) 0 (kR P ops.toList)) Hk' H'→
    Zd w0 S φ2 H' w2→wfA φ2 H'.n.toNat g.v→(∀m,m<ops.size→lst (listed.setIfInBounds i true) m=false→(φ2 (nm n0 m)).ok=false)→
    wpAnyIn (FR ro) 0 P .any ops Q fuel (listed.setIfInBounds i true) (a.put o.dst (zz φ2 g.v)) w2:=by
   intro φ2 w2 Hk' H' he he0 hle hH' Sp' H2 hv hbad';refine ih _ φ2 _ w2 Hk' H' (by grind) ?_ hC' (hE.trans he0 (LzB _)) hH' Sp' H2 (Yzr hn hle) ?_ ((put_defers _ _ _).trans hdf) hbad'
   ·grind[znu]
   ·refine Zi.of_get (Zi.put (T.extW he hle) hv o.dst hdin) fun s=>?_
    classical
    rw[zfe,js];have hri:(l.map gdv)[i]? = some (o.dst.map bn,g.v):=by grind[gdv]
    by_cases hd:o.dst.map bn=some s
    ·rw[Yze hd];rw[hd]at hri;rw[zje (l.map gdv) 0 i g.v hri (by rw[Yzm,vH hlt];simp) (fun j d u hij hjd hds=>?_)]
     ·rfl
     ·rw[Yzm,vH hlt];obtain⟨oj,sj,hoj,hsj,hbe⟩:=hdv j d u _ hjd hds;have hne:¬j=i:=by omega
      simp only[hne,decide_false,Yz7];rcases hord i j o oj ho hoj hij with hb|⟨hap,_⟩
      ·grind
      ·cases hod:o.dst with
       |none=>grind
       |some so=>grind[jF,Oper.apart_spec]
    ·rw[Yzb hd,js]
     congr 1
     refine zaq _ 0 fun j d u hjd hds=>?_;rw[Yzm,vH hlt];have hne:¬j=i:=fun hh=>by grind
     simp[hne]
  have lset:∀m,lst (listed.setIfInBounds i true) m=(decide (m=i)||lst listed m):=vH hlt;have badK:∀(φ2:Phi),(∀m,m<ops.size→m≠i→lst listed m=false→φ2 (nm n0 m)=φ (nm n0 m))→∀m,m<ops.size→lst (listed.setIfInBounds i true) m=false→(φ2 (nm n0 m)).ok=false:=by grind
  unfold wpOpIn;simp only[ho];obtain⟨Hi,hHi,Spi⟩:=hspc i (by omega);rw[←hhb]at Spi;have partOf:∀(t':Tr Zg) (n':BN),(∀b o',(b.toNat<n0∨n0+ops.size≤b.toNat)→t'.get b=some o'→Hk.t.get b=some o')→
    (∀m,m<ops.size→m∉yY (xM ops.toList) i 0 ops.toList→∀o',t'.get (nm n0 m)=some o'→FG n0 l k Hk m=some o')→(∀m∈yY (xM ops.toList) i 0 ops.toList,t'.get (nm n0 m)=none)→Sbh ⟨n',t'⟩ H:=by
   intro t' n' h1 h2 h3 b o' hb;rcases zeq n0 ops.size b with hb'|⟨m,hm,rfl⟩
   ·rw[Sp.old b hb'];grind
   ·by_cases hmem:m∈yY (xM ops.toList) i 0 ops.toList
    ·grind
    ·have hq:(qk ops[m].op&&bef (xM ops.toList) m i)=true:=by
      grind
     rw[Sp.res m hm,Yze (before m (uL hq).2)]
     grind
  have hself:Sbh ⟨g.hb.n,zbj n0 (yY (xM ops.toList) i 0 ops.toList) g.hb.t⟩ H∨cmG l i≠k:=by
   by_cases hki:cmG l i=k
   ·left
    rw[hki]at hHi Spi;cases hH.symm.trans hHi;refine partOf _ _ (fun b o' hb hget=>?_) (fun m hmN hmem o' hget=>?_) (fun m hmem=>zdo _ _ m hmem)
    ·rw[ux _ _ b fun j hj hh=>by have:=hhidlt i j hj;rw[hh,y1]at hb;omega]at hget;rw[←Spi.old b hb];exact hget
    ·rw[ux _ _ _ fun j hj hh=>hmem (by grind[ur]),Spi.res m hmN]at hget
     grind
   ·omega
  have hnE:cmG l i=k→g.hb.n.toNat=H.n.toNat:=by intro hki;rw[hki]at hHi;cases hH.symm.trans hHi;rw[Spi.n,Sp.n]
  have ceSame:anchor P o.op=false→ce (lst (listed.setIfInBounds i true)) 0 (kR P ops.toList)=k:=by
   intro ha;rw[←hk];refine w8 _ 0 fun j hj=>?_;rw[Yzm,lset];obtain⟨oj,hoj,haj⟩:=hes j hj;have:j≠i:=fun hh=>by grind
   simp[this]
  have spcSame:anchor P o.op=false→FG n0 l k Hk i=none→Spc n0 ops.size l (lst (listed.setIfInBounds i true)) k Hk H:=by
   intro ha hnone;refine⟨Sp.n,Sp.old,fun m hmN=>?_⟩;rw[Sp.res m hmN,lset];by_cases hmi:m=i
   ·grind
   ·simp only[hmi,decide_false,Yz7]
  rcases zpq P o.op with hm|⟨hm,ha⟩|⟨hm,ha,hq⟩
  ·
   have ha:=vT (P:=P) hm;obtain⟨k1,k2,h',k3,k4⟩:=X.made ho hj hm;have hob:FG n0 l k Hk i=obG n0 l i:=by
    refine FGu k Hk i hiN hH fun j oj hoj haj hlt=>(hhid j i o ho).2 ?_;cases hb:bef (xM ops.toList) i j with
    |false=>simp
    |true=>
     have hlj:=after j hb;exfalso;have hle:ce (lst listed) 0 (kR P ops.toList)≤ce (fun q=>decide (q<j)) 0 (kR P ops.toList):=by
      refine wO _ 0 fun q hq hlq=>?_;rw[Yzm]at hlq ⊢;obtain⟨oq,hoq,haq⟩:=hes q hq;rcases Nat.lt_trichotomy q j with hqj|hqj|hqj
      ·grind
      ·grind
      ·rcases hord j q oj oq hoj hoq hqj with hb'|⟨_,hc|hc⟩
       ·have:=vW hb' hC (hC q hlq)
        grind
       ·grind
       ·grind
     grind
   have hHnone:H.t.get (nm n0 i)=none:=by rw[Sp.res i hiN,Yzb (by grind)]
   have hnmlt:(nm n0 i).toNat<H.n.toNat:=by grind[y1]
   rcases zbf (a:={ tmps:=vK φ nt g.tr,defers:=[] }) k3 Tr' with⟨hw,hc⟩|⟨hw,hv,hh⟩
   ·rw[Yze (by grind)];obtain⟨obj,vf,hsh,hconc,hwf,howf⟩:=zkM (nt:=nt) hm hc;have e1:=hsh ⟨nm n0 i,g.hb.t⟩;rw[hc]at e1;simp only[Option.some.injEq,Prod.mk.injEq]at e1;obtain⟨ev,eh⟩:=e1;have hobj:obG n0 l i=some obj:=by
     rw[X.ob ho hj,hm];show g.ha.t.get (nm n0 i)=some obj;rw[←k4,eh];exact zK _ _ _
    refine zg6 C HR (ar:={ tmps:=vK φ nt g.tr,defers:=[] }) Tr' hexec (hsh H) ?_;intro φ1 w2 he H2 hv hle;obtain⟨HR2,he2⟩:=HR.rename H2 he (howf φ _ _ Tr') hnmlt (hbad i hiN hli) hHnone;have hcv:zz φ1 (.s (.one (vf H.n)))=zz (upd φ (nm n0 i) (φ1 H.n)) g.v:=by rw[ev];exact hconc _ _ _ _ (zu _ _ _).symm
    rw[hcv];refine next _ w2 Hk (H.put (nm n0 i) obj) he2 (fun b hb=>?_) (LzB _) (by grind) ?_ HR2 ?_ (badK _ fun m hmN hmi _=>?_)
    ·have:b≠nm n0 i:=fun hh=>by grind[y1]
     grind[upd]
    ·rw[ceSame ha];refine⟨Sp.n,fun b hb=>?_,fun m hmN=>?_⟩
     ·show (H.t.set (nm n0 i) obj).get b=_;rw[zy _ _ _ _ (fun hh=>by rw[hh,y1]at hb;omega)];exact Sp.old b hb
     ·show (H.t.set (nm n0 i) obj).get (nm n0 m)=_;rw[lset];by_cases hmi:m=i
      ·subst hmi;rw[zK,Yze (by simp)]
       grind
      ·rw[zy _ _ _ _ (fun hh=>hmi (ur hh)),Sp.res m hmN];simp only[hmi,decide_false,Yz7]
    ·rw[ev];refine hwf _ _ _ ⟨hnmlt,?_⟩;rw[zu];exact H2.okb H.n obj (by grind[Za.new,zK])
    ·have:nm n0 m≠nm n0 i:=fun hh=>hmi (ur hh)
     grind[upd]
   ·rw[Yzb (by grind)];have hnone:FG n0 l k Hk i=none:=by
     rw[hob,X.ob ho hj,hm];show g.ha.t.get (nm n0 i)=none;rw[←k4,hh];show g.hb.t.get (nm n0 i)=none;rw[Spi.res i hiN,Yzb (by simp)]
    have hn':=next φ w Hk H (Ext.refl _ _).w (Ext.refl _ _) (LzB _) (by grind) (by grind) HR (by rw[hv];exact fun _ hv=>by cases hv) (badK φ fun _ _ _ _=>rfl)
    rw[hv]at hn';exact⟨fun f _=>trivial,hn'⟩
  ·
   have hki:cmG l i=k:=by
    rw[hcmE,←hk];refine (w8 _ 0 fun j hj=>?_).symm;obtain⟨oj,hoj,haj⟩:=hes j hj;rw[Yzm];rcases Nat.lt_trichotomy j i with hji|hji|hji
    ·grind
    ·grind
    ·grind
   have hsub:=hself.resolve_right (fun hh=>hh hki);have hEn:=hnE hki;obtain⟨h',k1,k2,k3,k4⟩:=X.anchor ho hj hm ha;have hce1:ce (lst (listed.setIfInBounds i true)) 0 (kR P ops.toList)=k+1:=by rw[←hk];exact zhJ (L:=lst listed) (kR P ops.toList) 0 i (by grind) (by grind) (by grind) (fun j hj=>by rw[Yzm]at hj;rw[lset];simp[hj])
   have hH1:(h0::hsG l)[k+1]? = some g.ha:=by rw[Yzt,←hki];exact zjm l i g hj (by grind)
   have HE:=HR.sub hsub hEn;have go:∀(φ2:Phi) (w2:World),Ext H.n.toNat φ φ2→Zd w (zzw φ ⟨g.hb.n,zbj n0 (yY (xM ops.toList) i 0 ops.toList) g.hb.t⟩) φ2 h' w2→wfA φ2 h'.n.toNat g.v→H.n.toNat≤h'.n.toNat→
     wpAnyIn (FR ro) 0 P .any ops Q fuel (listed.setIfInBounds i true) (a.put o.dst (zz φ2 g.v)) w2:=by
    intro φ2 w2 he H2 hv hle;obtain⟨t',m1,m2⟩:=zB9 (n0:=n0) H.t h'.t (yY (xM ops.toList) i 0 ops.toList);have HR2:Zd w0 S φ2 ⟨h'.n,t'⟩ w2:=by
     refine HR.join hsub hEn H2 he hle rfl fun b o' hb=>?_;by_cases hmem:∃m∈yY (xM ops.toList) i 0 ops.toList,b=nm n0 m
     ·obtain⟨m,hmem,rfl⟩:=hmem
      grind[zdo]
     ·left
      rw[←m2 b fun j hj hh=>hmem ⟨j,hj,hh⟩];exact hb
    refine next φ2 w2 g.ha ⟨h'.n,t'⟩ he.w (he.mono (by omega)) hle (by grind) ?_ HR2 hv (badK φ2 fun m hmN _ _=>he _ (by grind[y1]))
    rw[hce1];refine⟨by rw[k2],fun b hb=>?_,fun m hmN=>?_⟩
    ·have hb':∀j∈yY (xM ops.toList) i 0 ops.toList,b≠nm n0 j:=fun j hj hh=>by have:=hhidlt i j hj;rw[hh,y1]at hb;omega
     show t'.get b=_;rw[m2 b hb',k4 b hb']
    ·show t'.get (nm n0 m)=_;rw[lset];by_cases hmem:m∈yY (xM ops.toList) i 0 ops.toList
     ·have hfg:FG n0 l (k+1) g.ha m=FG n0 l k Hk m:=by
       have:=hFG i o g Hk m ho hj hm ha (by grind) hmem
       rwa [hki]at this
      rw[m1 m hmem,Sp.res m hmN];by_cases hmi:m=i
      ·grind
      ·simp only[hmi,decide_false,Yz7]
       grind
     ·have hq:(qk ops[m].op&&bef (xM ops.toList) m i)=true:=by
       grind
      have hbm:=(uL hq).2;have hmi:=hbef m i hbm;have hle':cmG l m≤cmG l i:=wO _ 0 fun q _ hq=>by grind
      have hb':∀j∈yY (xM ops.toList) i 0 ops.toList,nm n0 m≠nm n0 j:=fun j hj hh=>hmem (by grind[ur]);rw[m2 _ hb',Yze (by grind),Yzb (by omega),k4 _ hb']
   have TrE:Zi φ nt (Za.n ⟨g.hb.n,zbj n0 (yY (xM ops.toList) i 0 ops.toList) g.hb.t⟩).toNat g.tr (vK φ nt g.tr):=by grind
   rcases zbf (a:={ tmps:=vK φ nt g.tr,defers:=[] }) k1 Tr' with⟨hw,hc⟩|⟨hw,hv,hh⟩
   ·rw[Yze (by grind)];refine zg6 C HE (ar:={ tmps:=vK φ nt g.tr,defers:=[] }) TrE hexec hc ?_
    grind
   ·rw[Yzb (by grind)];have:=go φ w (Ext.refl _ _) (by grind) (by rw[hv];exact fun _ hv=>by cases hv) (by grind);rw[hv]at this;exact⟨fun f _=>trivial,this⟩
  ·
   have hex:∃X':Za,Sbh X' H∧∃h',x5 call (xd P nt ops o) g.tr X'=some (g.v,h'):=by
    obtain⟨_,h',he⟩:=X.quiet ho hj hm ha;have hlo:ce (fun q=>bef (xM ops.toList) q i) 0 (kR P ops.toList)≤k:=by rw[←hk];exact wO _ 0 fun j _ hb=>by grind
    have hhi:k≤ce (fun q=>!bef (xM ops.toList) i q) 0 (kR P ops.toList):=by
     rw[←hk];refine wO _ 0 fun j _ hb=>?_
     grind
    have hlo0:ce (fun q=>bef (xM ops.toList) q i) 0 (kR P ops.toList)≤cmG l i:=by rw[hcmE];exact wO _ 0 fun j _ hb=>by grind
    have hhi0:cmG l i≤ce (fun q=>!bef (xM ops.toList) i q) 0 (kR P ops.toList):=by
     rw[hcmE];refine wO _ 0 fun j _ hb=>?_
     grind
    rcases zdu l hch i g hj (by grind) (by grind) with heq|hall
    ·grind
    ·rw[hgd]at hall;obtain⟨h'',he''⟩:=hall k Hk hlo hhi hH;refine⟨_,partOf _ _ (fun b o' hb hget=>?_) (fun m hmN hmem o' hget=>?_) (fun m hmem=>zdo _ _ m hmem),h'',he''⟩
     ·rw[ux _ _ b fun j hj hh=>by have:=hhidlt i j hj;rw[hh,y1]at hb;omega]at hget;rcases zde (ziy n0 0 0 l) Hk.t b (n0:=n0) (k:=k) with h1|⟨x,hx,_,h2,_⟩
      ·grind
      ·obtain⟨m,q1,⟨gm,q2,_⟩,_⟩:=zfG l 0 0 x X.mkeff hx;have:m<ops.size:=by rw[←X.len];grind
       rw[h2,y1,q1]at hb;omega
     ·rw[ux _ _ _ fun j hj hh=>hmem (by grind[ur])]at hget;rcases zde (ziy n0 0 0 l) Hk.t (nm n0 m) (n0:=n0) (k:=k) with h1|⟨x,hx,hkx,h2,h3⟩
      ·grind
      ·obtain⟨m',q1,⟨gm,q2,q3,q4⟩,q5⟩:=zfG l 0 0 x X.mkeff hx;rw[Yzm]at q1 q4 q5;have hmm:m=m':=by grind[ur]
       subst hmm;rw[hget]at h3;cases h3;show (if k≤cmG l m then _ else _)=_;rw[Yze (by omega)];unfold obG
       grind
   obtain⟨X',hsub,h',he⟩:=hex;have hnone:=FGn k Hk i o ho hm hH;rcases zbf (a:={ tmps:=vK φ nt g.tr,defers:=[] }) he Tr' with⟨hw,hc⟩|⟨hw,hv,hh⟩
   ·rw[Yze (by grind)];refine zg6 C HR (ar:={ tmps:=vK φ nt g.tr,defers:=[] }) Tr' hexec (zsk P o.op hq _ _ _ _ _ _ hc hsub) ?_;intro φ2 w2 he2 H2 hv hle;exact next φ2 w2 Hk H he2.w (he2.mono (by omega)) hle (by grind) (by grind) H2 hv (badK φ2 fun m hmN _ _=>he2 _ (by grind[y1]))
   ·rw[Yzb (by grind)];have:=next φ w Hk H (Ext.refl _ _).w (Ext.refl _ _) (LzB _) (by grind) (by grind) HR (by rw[hv];exact fun _ hv=>by cases hv) (badK φ fun _ _ _ _=>rfl)
    rw[hv]at this;exact⟨fun f _=>trivial,this⟩
end
end Go.CE
end
section
namespace Go.CE
open Go.RowKit
section
variable {P:Program} {w0:World} {S:Nat→Prop} {nt:Nat} {call:zj}
theorem zr0(C:y4 P call)(id:Nat)(ops:Array Oper):uC P w0 S nt call (.region id ops true):=by
 intro f fn round ro φ s s2 e a w Q hc R hr hQ;have hc:(bif P.follows .mixedOrders&&zaJ P ops (xM ops.toList) then zlk (zbS P nt ops) else bif P.follows .mixedOrders&&jw P ops (xM ops.toList) then zlj (um P nt ops) else zy4) call f fn round s=some (e,s2):=hc;cases hb:(P.follows .mixedOrders&&zaJ P ops (xM ops.toList)) with
 |false=>
  rw[hb]at hc;simp only[Yzd]at hc;cases hb2:(P.follows .mixedOrders&&jw P ops (xM ops.toList)) with
  |false=>rw[hb2]at hc;cases hc
  |true=>
   rw[hb2]at hc;obtain⟨hm,hok⟩:=uL hb2;obtain⟨t,d,h⟩:=s;simp only[Yza,zlj]at hc;have hlen:(um P nt ops).length=ops.size:=by
    have key:∀(os:List Oper) (i:Nat),(xI P nt ops (xM ops.toList) (kR P ops.toList) i os).length=os.length:=by
     intro os
     induction os<;>grind[xI]
    grind[um]
   rw[hlen]at hc;cases hev:evG call h.n.toNat 0 (um P nt ops) t ⟨bn (Nat.add h.n.toNat ops.size),h.t⟩ with
   |none=>grind
   |some p=>
    obtain⟨l,t2,h2⟩:=p;rw[hev]at hc;simp only at hc;cases hch:uy call h.n.toNat (ziy h.n.toNat 0 0 l) (⟨bn (Nat.add h.n.toNat ops.size),h.t⟩::hsG l) l with
    |false=>grind
    |true=>
     rw[hch]at hc;cases hc;have hkn:(bn (Nat.add h.n.toNat ops.size)).toNat=h.n.toNat+ops.size:=zW _;have X:=zw3 (P:=P) hev (fun m hm=>by
      show h.t.get (nm h.n.toNat m)=none;cases hx:h.t.get (nm h.n.toNat m) with
      |none=>rfl
      |some o=>have:=R.H.keys _ _ hx;grind[y1])
     refine wpIn_region_any hm ?_;have hz:∀i,lst (Array.replicate ops.size false) i=false:=by
      intro i;unfold lst;rw[YzG,Array.getElem?_replicate]
      grind
     have hzf:lst (Array.replicate ops.size false)=fun _=>false:=funext hz;have hfr:∀(r:List (Option BN×Zb)) (i:Nat) (t:Tr Zb),frL (fun _=>false) i r t=t:=by
      intro r
      induction r<;>grind[frL]
     have he:=zeD φ h.n.toNat ops.size;refine zm4 (hh0:=h) (φ0:=φ) C hok X hch rfl hkn (fun a2 w2 hn=>hQ a2 w2 (za5 R hn)) ops.size (Array.replicate ops.size false) (zeE φ h.n.toNat ops.size) a _ ⟨bn (Nat.add h.n.toNat ops.size),h.t⟩ ⟨bn (Nat.add h.n.toNat ops.size),h.t⟩
      (by simp) (by unfold unl;simp) ?_ he ?_ ?_ (R.H.drew.keep ops.size) (by grind) ?_ rfl (fun m hm _=>zpr φ _ _ m hm)
     ·intro i hi;grind
     ·grind[zcn]
     ·rw[hzf,zcn];exact⟨rfl,fun _ _=>rfl,fun m hm=>by rw[Yzb (by simp)];exact X.fresh m hm⟩
     ·rw[hzf,hfr,hkn];exact R.T.ext he (by simp)
 |true=>
  rw[hb]at hc;obtain⟨hm,hok⟩:=uL hb;obtain⟨t,d,h⟩:=s;simp only[Yza,zlk]at hc;cases hev:evD call (zbS P nt ops) t h with
  |none=>grind
  |some p=>
   obtain⟨l,t2,hs⟩:=p;rw[hev]at hc;simp only at hc;cases hch:uz call hs l with
   |false=>grind
   |true=>
    rw[hch]at hc;cases hc;refine wpIn_region_any hm ?_;have hz:∀i,lst (Array.replicate ops.size false) i=false:=by
     intro i;unfold lst;rw[YzG,Array.getElem?_replicate]
     grind
    have hzf:lst (Array.replicate ops.size false)=fun _=>false:=funext hz;have hce:∀(es:List Bool) (i:Nat),ce (fun _=>false) i es=0:=by
     intro es
     induction es<;>grind[ce]
    have hfr:∀(r:List (Option BN×Zb)) (i:Nat) (t:Tr Zb),frL (fun _=>false) i r t=t:=by
     intro r
     induction r<;>grind[frL]
    obtain⟨_,g2,_,_,_⟩:=zga call _ _ _ _ _ _ hev;refine zp5 C hok hev hch (fun a2 w2 hn=>hQ a2 w2 (za5 R hn)) ops.size (Array.replicate ops.size false) φ a _ h (by simp) (by unfold unl;simp) ?_ (Ext.refl _ _) ?_ R.H.drew (LzB _) ?_ rfl
    ·intro i hi;grind
    ·grind
    ·rw[hzf,hfr];exact R.T
end
end Go.CE
end
section
namespace Go.CE
open Go.RowKit
section
variable {P:Program} {w0:World} {S:Nat→Prop} {nt:Nat} {call:zj}
theorem zjI(C:y4 P call)(c:Code):uC P w0 S nt call c:=by
 induction c with
 |skip=>intro f fn round ro φ s s2 e a w Q hc R hr hQ;cases hc;exact wpIn_skip (hQ _ _ R.after)
 |region id ops draw=>cases draw<;>grind[zoD,zr0]
 |seq x y hx hy=>grind[zxP]
 |cond c x y hx hy=>grind[zu5]
 |block id x hx=>exact zr1 hx
 |loop x hx=>exact zu4 hx
 |rangeFunc g ps assign body _ _=>exact zrZ C
 |exit id=>intro f fn round ro φ s s2 e a w Q hc R hr hQ;cases hc;exact wpIn_exit (hQ _ _ R.after)
 |ret=>intro f fn round ro φ s s2 e a w Q hc R hr hQ;cases hc;exact wpIn_ret (hQ _ _ R.after)
 |_=>intro f fn round ro φ s s2 e a w Q hc R hr hQ;cases hc
theorem ztt:∀(d:List BN) (h h2:Za),shut d h=some h2→h2.n=h.n
 | [],h,h2,e=>by cases e;rfl
 |b::d,h,h2,e=>by
  unfold shut at e;split at e
  ·exact(ztt d _ _ e).trans rfl
  ·cases e
theorem zpn{φ:Phi}{fn:Func}{tmps:Array Value}{R:Ending→World→Prop}{h2:Za}(hR:∀w2,Zd w0 S φ h2 w2→LeavesIn (FR none) 0 P fn tmps R [] .returning w2):
  ∀(d:List BN) (h:Za) (w:World),shut d h=some h2→Zd w0 S φ h w→LeavesInM (FR none) 0 P fn tmps R (marks φ d) .returning w
 | [],h,w,e,H=>by cases e;exact hR w H
 |b::d,h,w,e,H=>by
  unfold shut at e;split at e
  ·rename_i hb;have g1:w.heap[(φ b).blk]? = some (.deferred (some [])):=H.obj b _ hb;refine⟨by simp,.inl ⟨(φ b).blk,_,rfl,run_takeDeferred g1,?_⟩⟩;refine zpn hR d _ _ e ?_;exact H.put hb trivial (fun k hk=>World.putObj_heap_other hk) (by simp) rfl rfl rfl trivial
  ·cases e
def zuQ(tmps:Array Value):ResultVar→Sem Value
 | .tmp t=>pure (tmps.getD t undef)
 | .cell a t=>do loadVar t (←asAddr (tmps.getD a undef))
theorem zhs{φ:Phi}{n:Nat}{t:Tr Zb}{tmps:Array Value}(T:Zi φ nt n t tmps){i:Nat}{v:Zb}(hi:t.get (bn i)=some v):tmps.getD i undef=zz φ v∧wfA φ n v:=by
 have hlt:i<nt:=by apply Decidable.byContradiction;intro hn;rw[T.out i (by omega)]at hi;cases hi
 have:=T.get i hlt;rw[hi]at this;refine⟨?_,T.wf _ _ hi⟩;simp_all
theorem zeN{t:Tr Zb}{h:Za}{r:BN×Option (Option Nat)}{rs:List (BN×Option (Option Nat))}{vs:List SVal}(e:kE t h (r::rs)=some vs):
  ∃v vs',vs=v::vs'∧zeO t h r=some v∧kE t h rs=some vs':=by
 unfold kE at e;split at e
 ·rename_i v hv;unfold wJ at e
  grind
 ·cases e
theorem jR{φ:Phi}{h:Za}{w:World}{t:Tr Zb}{tmps:Array Value}(H:Zd w0 S φ h w)(T:Zi φ nt h.n.toNat t tmps):∀(l:List ResultVar) (rs:List (BN×Option (Option Nat))) (vs:List SVal),
  zgs P l=some rs→kE t h rs=some vs→(l.mapM (zuQ tmps)).run P w=.ok (vs.map (zP φ)) w∧∀v∈vs,wfS φ h.n.toNat v
 | [],rs,vs,hc,he=>by cases hc;cases he<;>simp_all
 | .tmp i::l,rs,vs,hc,he=>by
  unfold zgs at hc;split at hc
  ·rename_i rs' hrs;cases hc;obtain⟨v1,vs',rfl,hv1,hvs⟩:=zeN he;simp only[zeO]at hv1;split at hv1
   ·rename_i u hu;cases hv1;obtain⟨h1,h2⟩:=jR H T l rs' vs' hrs hvs;obtain⟨g1,g2⟩:=zhs T hu;refine⟨?_,fun v hv=>?_⟩
    ·rw[List.mapM_cons];simp only[zuQ,Sem.run_bind,Sem.run_pure,Result.andThen_ok,h1,g1];rfl
    ·cases hv with
     |head=>exact g2
     |tail _ hm=>exact h2 v hm
   trivial
  ·cases hc
 | .cell i ty::l,rs,vs,hc,he=>by
  unfold zgs at hc;split at hc
  ·rename_i n rs' hn hrs;cases hc;obtain⟨v1,vs',rfl,hv1,hvs⟩:=zeN he;simp only[zeO]at hv1;split at hv1
   ·rename_i b off hu;obtain⟨h1,h2⟩:=jR H T l rs' vs' hrs hvs;obtain⟨g1,g2⟩:=zhs T hu;have key:(loadVar ty (adr φ b off)).run P w=.ok (zP φ v1) w∧wfS φ h.n.toNat v1:=by
     unfold jh at hv1;split at hv1
     ·rename_i cs st hb;have hp:part n cs off h=some (.s v1,h):=by
       grind[part,zaU,zfi]
      obtain⟨k1,k2,_⟩:=zc4 (P:=P) H hn hb hp;trivial
     trivial
    grind[zuQ,Sem.run_bind,zz,zP,zm,asAddr,Sem.run_pure,Result.andThen_ok]
   trivial
  ·cases hc
theorem zme(fn:Func)(tmps:Array Value):results fn tmps=(do
  let vs ←fn.results.toList.mapM (zuQ tmps)
  pure (match vs with | [v]=>v|vs=>.tuple vs.toArray)):=by
 have:fn.results.mapM (zuQ tmps)=List.toArray <$> fn.results.toList.mapM (zuQ tmps):=by rw[←List.mapM_toArray]
 have e:results fn tmps=(do
   let vs ←fn.results.mapM (zuQ tmps)
   pure (if h:vs.size=1 then vs[0] else .tuple vs)):=by
  rfl
 rw[e,this,map_eq_pure_bind,bind_assoc]
 congr 1
 funext vs
 rw[pure_bind]
 congr 1
 match vs with
 | []=>rfl
 | [v]=>rfl
 |v::u::vs=>rfl
theorem zmd{φ:Phi}{h:Za}{w:World}{t:Tr Zb}{tmps:Array Value}(H:Zd w0 S φ h w)(T:Zi φ nt h.n.toNat t tmps){fn:Func}{rs:List (BN×Option (Option Nat))}(hc:zgs P fn.results.toList=some rs)
  {v:Zb} {h2:Za} (he:zdi h (kE t h rs)=some (v,h2)):(results fn tmps).run P w=.ok (zz φ v) w∧wfA φ h.n.toNat v∧h2=h:=by
 cases hv:kE t h rs with
 |none=>rw[hv]at he;cases he
 |some vs=>
  rw[hv]at he;obtain⟨h1,hw⟩:=jR H T _ rs vs hc hv;rw[zme,Sem.run_bind,h1]
  match vs,he,hw with
  | [],he,hw=>cases he;trivial
  | [u],he,hw=>cases he;exact⟨rfl,hw u (by simp),rfl⟩
  |u::u'::vs,he,hw=>cases he;trivial
theorem zbg:∀(args:List Zb) (i:Nat) (t:Tr Zb) (j:Nat),(wN (bn i) t args).get (bn j)=if j<i then t.get (bn j) else(args[j-i]?).or (t.get (bn j))
 | [],i,t,j=>by simp[wN]
 |v::vs,i,t,j=>by
  unfold wN;rw[qU,zbg vs (i+1) _ j];by_cases h1:j<i
  ·rw[Yze h1,Yze (by omega),zy _ _ _ _ (fun hh=>by grind[jF])]
  ·rw[Yzb h1];by_cases h2:j=i
   ·simp_all[zK]
   ·rw[Yzb (by omega),zy _ _ _ _ (fun hh=>by grind[jF])]
    grind
theorem zs0{φ:Phi}{n nt:Nat}{args:List Zb}(hl:args.length≤nt)(hw:∀x∈args,wfA φ n x):
  Zi φ nt n (wN .z .nil args) ((args.map (zz φ)).toArray++Array.replicate (nt-(args.map (zz φ)).toArray.size) undef):=by
 have key:∀j,(wN .z .nil args).get (bn j)=args[j]?:=by intro j;have:=zbg args 0 .nil j;simp only[Nat.not_lt_zero,if_false,Yyq]at this;have e0:bn 0=.z:=rfl;simp_all
 refine⟨by simp;omega,fun i hi=>?_,fun i hi=>?_,fun i v hv=>?_⟩
 ·rw[key];by_cases hlt:i<args.length
  ·grind
  ·rw[Array.getElem?_append_right (by simp;omega)];have:args[i]? = none:=by simp;omega
   rw[this];simp only[List.size_toArray,Yzq,Option.getD_none];rw[Array.getElem?_replicate,Yze (by omega)];rfl
 ·grind
 ·rw[←yh i,key]at hv
  grind
theorem zjM{g:Nat}{fn:Func}{c:Code}(hf:P.funcs[g]? = some fn)(hb:fn.body=some c)(hn:(fn.name == "runtime.NumGoroutine")=false)(as:Array Value)(w:World):(callFunc g as).run P w=.ok (.enter g as) w:=by simp_all[callFunc]
theorem zqo{fn:Func}{r:Zm}(h:zjN P fn=some r):∃c rs,fn.body=some c∧zgs P fn.results.toList=some rs∧(fn.name == "runtime.NumGoroutine")=false∧r=⟨fn.ntmps,rs,ye P fn.ntmps c⟩:=by
 unfold zjN at h
 grind
def zuc(P:Program)(fs:Nat→Option Zm):Prop:=∀g r,fs g=some r→∃fn,P.funcs[g]? = some fn∧zjN P fn=some r
theorem zyt(C:y4 P call){fs:Nat→Option Zm}(hfs:zuc P fs){f g:Nat}{φ:Phi}{h h2:Za}{w:World}{args:List Zb}{v:Zb}(H:Zd w0 S φ h w)(hw:∀x∈args,wfA φ h.n.toNat x)
  (e:zpS fs call f g args h=some (v,h2)):(∀as w,(callFunc g as).run P w=.ok (.enter g as) w)∧CallsIn (FR none) 0 P g (args.map (zz φ)).toArray w (Ret w0 S φ h v h2):=by
 unfold zpS at e;split at e
 ·rename_i ntmps rs body hfg;obtain⟨fn,hf,hcf⟩:=hfs g _ hfg;obtain⟨c,rs',hb,hrs,hname,hr⟩:=zqo hcf;cases hr;refine⟨zjM hf hb hname,?_⟩;cases hl:zsC args fn.ntmps with
  |false=>grind
  |true=>
   rw[hl]at e;simp only[Yza]at e;cases hbody:ye P fn.ntmps c call f g none ⟨wN .z .nil args,[],h⟩ with
   |none=>rw[hbody]at e;cases e
   |some p=>
    obtain⟨ex,t1,d1,h1⟩:=p;rw[hbody]at e;refine callsIn_of_wp_marks hf hb trivial (zjI C c f g none none φ _ _ ex _ w _ hbody ⟨H,zs0 (zpm _ _ hl) hw,rfl,fun b hb=>by cases hb⟩ rfl fun a2 w2 hA=>?_) rfl;obtain⟨φ2,he2,⟨H2,T2,D2,dn2⟩,hle⟩:=hA;simp only at H2 T2 D2 dn2 he2 hle;have key:leave rs (some (.normal,⟨t1,d1,h1⟩))=some (v,h2)→LeavesInM (FR none) 0 P fn a2.tmps (Ret w0 S φ h v h2) a2.defers .returning w2:=by
     intro e;simp only[leave]at e;split at e
     ·rename_i h3 hs;rw[D2];refine zpn (fun w3 H3=>?_) d1 h1 w2 hs H2;have hn3:=ztt _ _ _ hs;have T3:Zi φ2 fn.ntmps h3.n.toNat t1 a2.tmps:=by grind
      obtain⟨k1,k2,rfl⟩:=zmd H3 T3 hrs e;exact⟨_,k1,φ2,rfl,he2,H3,k2,by grind⟩
     ·cases e
    cases ex with
    |normal=>exact key e
    |exit id=>cases e
    |ret=>exact key e
 ·cases e
theorem zke{φ:Phi}{n:Nat}:∀(ps:List Nat) (args:List Zb) (t t2:Tr Zb) (arr:Array Value),zrE nt t ps args=some t2→Zi φ nt n t arr→(∀x∈args,wfA φ n x)→
  Zi φ nt n t2 ((ps.zip (args.map (zz φ))).foldl (fun t (p:Nat×Value)=>t.setIfInBounds p.1 p.2) arr)∧args.length=ps.length
 | [],[],t,t2,arr,e,T,hw=>by cases e<;>simp_all
 |p::ps,v::vs,t,t2,arr,e,T,hw=>by
  unfold zrE at e;cases hp:Nat.ble (Nat.succ p) nt with
  |false=>grind
  |true=>rw[hp]at e;simp only[Yza]at e;have T2:=Zi.put (a:={ tmps:=arr,defers:=[] }) T (hw v (by simp)) (some p) hp;obtain⟨k1,k2⟩:=zke ps vs _ t2 _ e T2 fun x hx=>hw x (by simp[hx]);exact⟨k1,by simp[k2]⟩
 | [],_::_,t,t2,arr,e,T,hw=>by cases e
 |_::_,[],t,t2,arr,e,T,hw=>by cases e
theorem zrN(C:y4 P call){f:Nat}{l:BN}{φ:Phi}{h h2:Za}{w:World}{args:List Zb}{v:Zb}(H:Zd w0 S φ h w)(hw:∀x∈args,wfA φ h.n.toNat x)
  (e:zjr (ye P) call f l args h=some (v,h2)):∃f tmps assign body,(Instr.yield (φ l).blk (args.map (zz φ)).toArray).run P w=.ok (.round (φ l).blk f tmps assign body) w∧
   RoundIn (FR none) 0 P (φ l).blk f tmps assign body w (Ret w0 S φ h v h2):=by
 unfold zjr at e;split at e
 ·rename_i pend lf ln lt lps la lb ld hl;split at e
  ·rename_i t ht;obtain⟨arr,f8,g1,g2,g3⟩:=H.obj l _ hl;have hln:=H.okk _ _ hl;obtain⟨T,hlen⟩:=zke _ _ _ _ arr ht g2 hw;refine⟨f8,_,la,lb,run_yield g1 (by simp[hlen]),?_⟩;have harr:((lps.zip (args.map (zz φ)).toArray).foldl (fun tmps (x:Nat×Value)=>tmps.setIfInBounds x.1 x.2) arr)=((lps.toList.zip (args.map (zz φ))).foldl (fun t (p:Nat×Value)=>t.setIfInBounds p.1 p.2) arr):=by
    grind[Array.toList_zip]
   split at e
   ·rename_i t1 d1 h1 has;split at e
    ·rename_i h3 hbe;refine roundIn_of_wpIn trivial ?_;refine zjI C la f lf (some l) (some (φ l).blk) φ ⟨t,[],h⟩ ⟨t1,d1,h1⟩ .normal _ w _ has ⟨H,?_,rfl,fun b hb=>by cases hb⟩ ⟨rfl,hln⟩ fun a1 w1 hA=>?_
     ·grind
     ·obtain⟨φ1,he1,⟨H1,T1,D1,dn1⟩,hle1⟩:=hA;simp only at H1 T1 D1 dn1 he1 hle1;unfold zt4 at hbe;split at hbe
      ·rename_i p9 lf9 ln9 lt9 lps9 la9 lb9 ld9 hl9;cases hbe;obtain⟨arr9,f9,k1,k2,k3⟩:=H1.obj l _ hl9;have el:φ1 l=φ l:=he1 l hln.1;have hlt:(φ1 l).blk<w1.heap.size:=(Lz7.1 k1).1;have H3:Zd w0 S φ1 (h1.put l (.loop .busy p9 lf9 ln9 lt9 lps9 la9 lb9 ld9)) (w1.putObj (φ1 l).blk (.loop { state:=.busy,pending:=p9.map zbI,fn:=f9,tmps:=arr9,params:=lps9,assign:=la9,body:=lb9,defers:=(φ1 ld9).blk })):=
        H1.put hl9 trivial (fun k hk=>World.putObj_heap_other hk) (by simp) rfl rfl rfl ⟨arr9,f9,World.putObj_heap_same hlt,k2,k3⟩
       have hbr:=run_beginRound (P:=P) k1 rfl;rw[el]at hbr;refine⟨_,hbr,?_⟩;rw[el]at H3;cases hbd:ye P ln lb call f lf (some l) ⟨t1,d1,h1.put l (.loop .busy p9 lf9 ln9 lt9 lps9 la9 lb9 ld9)⟩ with
       |none=>rw[hbd]at e;cases e
       |some p=>
        obtain⟨ex,t4,d4,h4⟩:=p;rw[hbd]at e;refine zjI C lb f lf (some l) (some (φ l).blk) φ1 _ _ ex a1 _ _ hbd ⟨H3,T1,D1,dn1⟩ ⟨by rw[el],okB.ext he1 hle1 hln⟩ fun a5 w5 hA5=>?_;obtain⟨φ5,he5,⟨H5,T5,D5,dn5⟩,hle5⟩:=hA5;simp only[zrP]at H5 T5 D5 dn5 he5 hle5;cases d4 with
        |cons b d=>cases e
        |nil=>
         simp only[ztO,zCh]at e;split at e
         ·rename_i s6 p6 lf6 ln6 lt6 lps6 la6 lb6 ld6 hl6;obtain⟨arr6,f6,m1,m2,m3⟩:=H5.obj l _ hl6;have el5:φ5 l=φ l:=(he5 l (okB.ext he1 hle1 hln).1).trans el;rw[el5]at m1;have hlt5:(φ l).blk<w5.heap.size:=(Lz7.1 m1).1;have hE:Ext h.n.toNat φ φ5:=he1.trans he5 hle1;have fin:∀(j:Option Zh) (st:LoopState),st=(if (j.map zbI).isNone then .ready else .done)→Zd w0 S φ5 (h4.put l (.loop st j lf6 ln6 lt6 lps6 la6 lb6 ld6)) (w5.putObj (φ l).blk (.loop { state:=if (j.map zbI).isNone then .ready else .done,pending:=j.map zbI,fn:=f6,tmps:=arr6,params:=lps6,assign:=la6,body:=lb6,defers:=(φ5 ld6).blk })):=by
           intro j st hst;subst hst;refine H5.put hl6 trivial (fun k hk=>?_) (by simp) rfl rfl rfl ⟨arr6,f6,?_,m2,m3⟩
           ·grind[World.putObj_heap_other]
           ·grind[World.putObj_heap_same]
          cases ex with
          |normal=>cases e;exact⟨_,_,run_endRound none m1,φ5,rfl,hE,fin none .ready rfl,trivial,Yzr hle1 hle5⟩
          |exit id=>cases e;exact⟨_,_,run_endRound (some (.exit id)) m1,φ5,rfl,hE,fin (some (.exit id)) .done rfl,trivial,Yzr hle1 hle5⟩
          |ret=>cases e;exact⟨_,_,run_endRound (some .ret) m1,φ5,rfl,hE,fin (some .ret) .done rfl,trivial,Yzr hle1 hle5⟩
         ·cases e
      trivial
    ·cases e
   ·cases e
  ·cases e
 ·cases e
theorem zgu(C:y4 P call){fs:Nat→Option Zm}(hfs:zuc P fs)(f:Nat):y4 P (zbO (ye P) fs call f):=
 fun _ _ _ _ _ _ _ _ H hw=>⟨fun _ e=>zyt C hfs H hw e,fun _ e=>zrN C H hw e⟩
theorem zfE:y4 P (fun _ _ _=>none):=
 fun _ _ _ _ _ _ _ _ _ _=>⟨fun _ e=>(by cases e),fun _ e=>(by cases e)⟩
theorem zqj{fs:Nat→Option Zm}(hfs:zuc P fs):∀n,y4 P (ztV (ye P) fs n)
 |0=>zfE
 |n+1=>zgu (zqj hfs n) hfs n
theorem vY{α:Type}:∀(l:List α) (i:Nat) (t:Tr α) (j:Nat),(Tr.ofList (bn i) l t).get (bn j)=if j<i then t.get (bn j) else(l[j-i]?).or (t.get (bn j))
 | [],i,t,j=>by simp[Tr.ofList]
 |v::vs,i,t,j=>by
  unfold Tr.ofList;rw[qU,vY vs (i+1) _ j];by_cases h1:j<i
  ·rw[Yze h1,Yze (by omega),zy _ _ _ _ (fun hh=>by grind[jF])]
  ·rw[Yzb h1];by_cases h2:j=i
   ·simp_all[zK]
   ·rw[Yzb (by omega),zy _ _ _ _ (fun hh=>by grind[jF])]
    grind
theorem zfp(P:Program):zuc P (cFs (xS P)):=by
 intro g r h;unfold cFs xS at h;have e0:BN.z=bn 0:=rfl;rw[e0,vY]at h;have:(Tr.nil:Tr (Option Zm)).get (bn g)=none:=by simp
 grind
end
end Go.CE
end
section
namespace Go.CE
open Go.RowKit
noncomputable section
structure Mt where
 ρ:Tr BN
 inv:Tr BN
 work:List (BN×BN)
def mB(b b':BN)(m:Mt):Option Mt:=
 match m with
 |⟨ρ,inv,work⟩=>
  match ρ.get b with
  |some b''=>bif zm1 b'' b' then some ⟨ρ,inv,work⟩ else none
  |none=>
   match inv.get b' with
   |some _=>none
   |none=>some ⟨ρ.set b b',inv.set b' b,(b,b')::work⟩
def wE:Zc→Bool
 | .bool _ | .int _ _ | .str _ | .nilp | .nils | .nilm | .nilf | .nili=>true
 |_=>false
def mC(m:Mt)(c c':Zc):Option Mt:=
 match c with
 | .ptr b o=>
  match c' with
  | .ptr b' o'=>bif Nat.beq o o' then mB b b' m else none
  |_=>none
 | .slc b o l k e=>
  match c' with
  | .slc b' o' l' k' e'=>bif Nat.beq o o'&&Nat.beq l l'&&Nat.beq k k'&&eqB e e' then mB b b' m else none
  |_=>none
 |c=>bif wE c&&eqV c c' then some m else none
def mCs:List Zc→List Zc→Mt→Option Mt
 | [],[],m=>some m
 |c::cs,c'::cs',m=>
  match mC m c c' with
  |some m'=>mCs cs cs' m'
  |none=>none
 |_,_,_=>none
def mS(m:Mt):SVal→SVal→Option Mt
 | .one c,.one c'=>mC m c c'
 | .agg cs,.agg cs'=>mCs cs cs' m
 |_,_=>none
def mA:List Zb→List Zb→Mt→Option Mt
 | [],[],m=>some m
 | .s v::vs,.s v'::vs',m=>
  match mS m v v' with
  |some m'=>mA vs vs' m'
  |none=>none
 |_,_,_=>none
def zmC(hc h:Za):Nat→Mt→Option (Tr BN)
 |0,_=>none
 |f+1,⟨ρ,inv,work⟩=>
  match work with
  | []=>some ρ
  |(b,b')::ws=>
   match hc.t.get b,h.t.get b' with
   |some (.cells cs st),some (.cells cs' st')=>
    bif Nat.beq st st' then
     match mCs cs cs' ⟨ρ,inv,ws⟩ with
     |some m'=>zmC hc h f m'
     |none=>none
    else none
   |_,_=>none
structure Sum where
 g:Nat
 args:List Zb
 objs:List Zg
 res:Zb
def Sum.heap(s:Sum):Za:=⟨bn s.objs.length,Tr.ofList .z s.objs .nil⟩
def ztf(ρ:Tr BN):BN→List Zg→Bool
 |_,[]=>true
 |i,_::l=>
  match ρ.get i with
  |some _=>ztf ρ i.succ l
  |none=>false
def Sum.fits(s:Sum)(args:List Zb)(h:Za):Bool:=
 match mA s.args args ⟨.nil,.nil,[]⟩ with
 |some m=>
  match zmC s.heap h (Nat.succ s.objs.length) m with
  |some ρ=>ztf ρ .z s.objs
  |none=>false
 |none=>false
def zkt:SVal→Bool
 | .one c=>wE c
 | .agg cs=>cs.all wE
def vi:Zb→Bool
 | .s v=>zkt v
 | .tup vs=>vs.all zkt
def znY(h2:Za):BN→List Zg→Bool
 |_,[]=>true
 |i,.cells cs st::l=>
  match h2.t.get i with
  |some (.cells cs' st')=>zwR cs cs'&&Nat.beq st st'&&znY h2 i.succ l
  |_=>false
 |_,_::_=>false
def Sum.chk(call:zj)(s:Sum):Bool:=
 match call (.inl s.g) s.args s.heap with
 |some (v,h2)=>eqA s.res v&&vi s.res&&znY h2 .z s.objs
 |none=>false
def wB(g:Nat)(args:List Zb)(h:Za):List Sum→Option Zb
 | []=>none
 |s::l=>bif Nat.beq g s.g&&s.fits args h then some s.res else wB g args h l
def zdN(sums:List Sum)(call:zj):zj
 | .inl g,args,h=>
  match wB g args h sums with
  |some v=>some (v,h)
  |none=>call (.inl g) args h
 | .inr l,args,h=>call (.inr l) args h
def zjs(cc:Nat→Code→xV)(fs:Nat→Option Zm)(sums:List Sum)(n:Nat):zj:=
 Nat.rec (motive:=fun _=>zj) (fun _ _ _=>none) (fun f ih=>zdN sums (zbO cc fs ih f)) n
def isTrue:Res→Bool
 |some (.s (.one (.bool b)),_)=>b
 |_=>false
end
theorem zmO{r:Res}(h:isTrue r=true):∃h2,r=some (.s (.one (.bool true)),h2):=by
 unfold isTrue at h
 grind
def RC(ρ:Tr BN):Zc→Zc→Prop
 | .ptr b o,c'=>∃b',c'=.ptr b' o∧ρ.get b=some b'
 | .slc b o l k e,c'=>∃b',c'=.slc b' o l k e∧ρ.get b=some b'
 |c,c'=>wE c=true∧c'=c
def Sub(ρ ρ':Tr BN):Prop:=∀b b',ρ.get b=some b'→ρ'.get b=some b'
theorem Sub.refl(ρ:Tr BN):Sub ρ ρ:=fun _ _ h=>h
theorem Sub.trans{a b c:Tr BN}(h:Sub a b)(k:Sub b c):Sub a c:=fun _ _ hh=>k _ _ (h _ _ hh)
theorem RC.mono{ρ ρ':Tr BN}(hs:Sub ρ ρ'){c c':Zc}(h:RC ρ c c'):RC ρ' c c':=by
 cases c with
 |ptr b o=>obtain⟨b',h1,h2⟩:=h;exact⟨b',h1,hs _ _ h2⟩
 |slc b o l k e=>obtain⟨b',h1,h2⟩:=h;exact⟨b',h1,hs _ _ h2⟩
 |_=>exact h
def RCs(ρ:Tr BN)(cs cs':List Zc):Prop:=cs'.length=cs.length∧∀(i:Nat) (c:Zc),cs[i]? = some c→∃c',cs'[i]? = some c'∧RC ρ c c'
theorem RCs.mono{ρ ρ':Tr BN}(hs:Sub ρ ρ'){cs cs':List Zc}(h:RCs ρ cs cs'):RCs ρ' cs cs':=
 ⟨h.1,fun i c hc=>by obtain⟨c',h1,h2⟩:=h.2 i c hc;exact⟨c',h1,h2.mono hs⟩⟩
def RS(ρ:Tr BN):SVal→SVal→Prop
 | .one c,v=>∃c',v=.one c'∧RC ρ c c'
 | .agg cs,v=>∃cs',v=.agg cs'∧RCs ρ cs cs'
theorem RS.mono{ρ ρ':Tr BN}(hs:Sub ρ ρ'){v v':SVal}(h:RS ρ v v'):RS ρ' v v':=by
 cases v with
 |one c=>obtain⟨c',h1,h2⟩:=h;exact⟨c',h1,h2.mono hs⟩
 |agg cs=>obtain⟨cs',h1,h2⟩:=h;exact⟨cs',h1,h2.mono hs⟩
structure MI (D:BN→BN→Prop) (hc h:Za) (m:Mt):Prop where
 inv:∀b b',m.ρ.get b=some b'→m.inv.get b'=some b
 pairs:∀b b',m.ρ.get b=some b'→(b,b')∈m.work∨D b b'∨∃cs cs' st,hc.t.get b=some (.cells cs st)∧h.t.get b'=some (.cells cs' st)∧RCs m.ρ cs cs'
section
variable {D:BN→BN→Prop} {hc h:Za}
theorem zvl{m m':Mt}{b b':BN}(I:MI D hc h m)(e:mB b b' m=some m'):MI D hc h m'∧Sub m.ρ m'.ρ∧m'.ρ.get b=some b':=by
 obtain⟨ρ,inv,work⟩:=m;unfold mB at e;simp only at e;split at e
 ·grind[kG,Sub.refl]
 ·rename_i hb;split at e
  ·cases e
  ·rename_i hi;cases e;have hsub:Sub ρ (ρ.set b b'):=by
    intro x y hx
    grind[zy]
   refine⟨⟨fun x y hx=>?_,fun x y hx=>?_⟩,hsub,zK _ _ _⟩
   ·show (inv.set b' b).get y=some x;by_cases hxb:x=b
    ·grind[zK]
    ·have hx:(ρ.set b b').get x=some y:=hx;rw[zy _ _ _ _ hxb]at hx;have h1:=I.inv x y hx
     grind[zy]
   ·by_cases hxb:x=b
    ·grind[zK]
    ·have hx:(ρ.set b b').get x=some y:=hx;rw[zy _ _ _ _ hxb]at hx;rcases I.pairs x y hx with h1|h1|⟨cs,cs',st,h1,h2,h3⟩
     ·grind
     ·grind
     ·exact .inr (.inr ⟨cs,cs',st,h1,h2,h3.mono hsub⟩)
theorem zx8{m m':Mt}{c c':Zc}(I:MI D hc h m)(e:mC m c c'=some m'):MI D hc h m'∧Sub m.ρ m'.ρ∧RC m'.ρ c c':=by
 have rest:(bif wE c&&eqV c c' then some m else none)=some m'→(wE c=true→RC m'.ρ c c'∨True)→MI D hc h m'∧Sub m.ρ m'.ρ∧wE c=true∧c'=c:=by
  intro e _;cases hq:(wE c&&eqV c c') with
  |false=>grind
  |true=>
   rw[hq]at e;cases e;obtain⟨h1,h2⟩:=uL hq
   grind[Sub.refl,zpT]
 cases c with
 |ptr b o=>
  cases c' with
  |ptr b' o'=>
   simp only[mC]at e;cases hq:Nat.beq o o' with
   |false=>grind
   |true=>rw[hq]at e;obtain⟨h1,h2,h3⟩:=zvl I e;exact⟨h1,h2,b',by rw[beq_true hq],h3⟩
  |_=>cases e
 |slc b o l k x=>
  cases c' with
  |slc b' o' l' k' x'=>
   simp only[mC]at e;cases hq:(Nat.beq o o'&&Nat.beq l l'&&Nat.beq k k'&&eqB x x') with
   |false=>grind
   |true=>rw[hq]at e;obtain⟨h1,h2,h3⟩:=zvl I e;obtain⟨q1,q2⟩:=uL hq;obtain⟨q1,q3⟩:=uL q1;obtain⟨q1,q4⟩:=uL q1;exact⟨h1,h2,b',by grind[beq_true,zp1],h3⟩
  |_=>cases e
 |_=>exact rest e (fun _=>.inr trivial)
theorem zpg:∀(cs cs':List Zc) (m m':Mt),MI D hc h m→mCs cs cs' m=some m'→MI D hc h m'∧Sub m.ρ m'.ρ∧RCs m'.ρ cs cs'
 | [],[],m,m',I,e=>by cases e;exact⟨I,Sub.refl _,rfl,fun i c hc=>by simp at hc⟩
 |c::cs,c'::cs',m,m',I,e=>by
  unfold mCs at e;split at e
  ·rename_i m1 h1;obtain⟨I1,s1,r1⟩:=zx8 I h1;obtain⟨I2,s2,r2⟩:=zpg cs cs' m1 m' I1 e;refine⟨I2,s1.trans s2,by simp[r2.1],fun i x hx=>?_⟩;cases i with
   |zero=>simp only[Yzi,Option.some.injEq]at hx;subst hx;exact⟨c',rfl,r1.mono s2⟩
   |succ i=>simp only[Yzt]at hx ⊢;exact r2.2 i x hx
  ·cases e
 | [],_::_,m,m',I,e=>by cases e
 |_::_,[],m,m',I,e=>by cases e
theorem zx7{m m':Mt}{v v':SVal}(I:MI D hc h m)(e:mS m v v'=some m'):MI D hc h m'∧Sub m.ρ m'.ρ∧RS m'.ρ v v':=by
 cases v with
 |one c=>
  cases v' with
  |one c'=>obtain⟨h1,h2,h3⟩:=zx8 I e;exact⟨h1,h2,c',rfl,h3⟩
  |agg cs'=>cases e
 |agg cs=>
  cases v' with
  |one c'=>cases e
  |agg cs'=>obtain⟨h1,h2,h3⟩:=zpg _ _ _ _ I e;exact⟨h1,h2,cs',rfl,h3⟩
def RAs(ρ:Tr BN):List Zb→List Zb→Prop
 | [],[]=>True
 | .s v::vs,.s v'::vs'=>RS ρ v v'∧RAs ρ vs vs'
 |_,_=>False
theorem RAs.mono{ρ ρ':Tr BN}(hs:Sub ρ ρ'):∀{vs vs':List Zb},RAs ρ vs vs'→RAs ρ' vs vs'
 | [],[],_=>trivial
 | .s _::_,.s _::_,h=>⟨h.1.mono hs,RAs.mono hs h.2⟩
 | [],_::_,h=>h.elim
 | .tup _::_,_,h=>by cases h
 | .s _::_,[],h=>by cases h
 | .s _::_,.tup _::_,h=>by cases h
theorem zss:∀(vs vs':List Zb) (m m':Mt),MI D hc h m→mA vs vs' m=some m'→MI D hc h m'∧Sub m.ρ m'.ρ∧RAs m'.ρ vs vs'
 | [],[],m,m',I,e=>by cases e;exact⟨I,Sub.refl _,trivial⟩
 | .s v::vs,.s v'::vs',m,m',I,e=>by
  unfold mA at e;split at e
  ·rename_i m1 h1;obtain⟨I1,s1,r1⟩:=zx7 I h1;obtain⟨I2,s2,r2⟩:=zss vs vs' m1 m' I1 e;exact⟨I2,s1.trans s2,r1.mono s2,r2⟩
  ·cases e
 | [],_::_,m,m',I,e=>by cases e
 | .tup _::_,_,m,m',I,e=>by trivial
 | .s _::_,[],m,m',I,e=>by cases e
 | .s _::_,.tup _::_,m,m',I,e=>by cases e
theorem zci:∀(f:Nat) (m:Mt) (ρ:Tr BN),MI (fun _ _=>False) hc h m→zmC hc h f m=some ρ→∃inv,MI (fun _ _=>False) hc h ⟨ρ,inv,[]⟩∧Sub m.ρ ρ
 |0,m,ρ,I,e=>by cases e
 |f+1,⟨ρ0,inv,work⟩,ρ,I,e=>by
  unfold zmC at e;cases work with
  |nil=>grind[Sub.refl]
  |cons p ws=>
   obtain⟨b,b'⟩:=p;simp only at e;split at e
   ·rename_i cs st cs' st' h1 h2;cases hq:Nat.beq st st' with
    |false=>grind
    |true=>
     rw[hq]at e;simp only[Yza]at e;have hst:=beq_true hq;subst hst;cases hm:mCs cs cs' ⟨ρ0,inv,ws⟩ with
     |none=>grind
     |some m1=>
      rw[hm]at e;have I0:MI (fun x y=>x=b∧y=b') hc h ⟨ρ0,inv,ws⟩:=by refine⟨I.inv,fun x y hx=>?_⟩;rcases I.pairs x y hx with k|k|k<;>grind
      obtain⟨I1,s1,r1⟩:=zpg cs cs' _ m1 I0 hm;have I2:MI (fun _ _=>False) hc h m1:=by refine⟨I1.inv,fun x y hx=>?_⟩;rcases I1.pairs x y hx with k|⟨rfl,rfl⟩|k<;>grind
      obtain⟨inv',k1,k2⟩:=zci f m1 ρ I2 e;exact⟨inv',k1,s1.trans k2⟩
   ·cases e
theorem yM{s:Sum}{args:List Zb}(e:s.fits args h=true):∃ρ:Tr BN,RAs ρ s.args args∧(∀b c b',ρ.get b=some b'→ρ.get c=some b'→b=c)∧
  (∀b b',ρ.get b=some b'→∃cs cs' st,s.heap.t.get b=some (.cells cs st)∧h.t.get b'=some (.cells cs' st)∧RCs ρ cs cs')∧ztf ρ .z s.objs=true:=by
 unfold Sum.fits at e;split at e
 ·rename_i m hm;split at e
  ·rename_i ρ hρ;have I0:MI (fun _ _=>False) s.heap h ⟨.nil,.nil,[]⟩:=⟨(fun b b' hb=>by simp_all),(fun b b' hb=>by simp_all)⟩;obtain⟨I1,s1,r1⟩:=zss _ _ _ _ I0 hm;obtain⟨inv,I2,s2⟩:=zci _ _ _ I1 hρ;refine⟨ρ,r1.mono s2,fun b c b' hb hc=>?_,fun b b' hb=>?_,e⟩
   ·have h1:=I2.inv b b' hb;have h2:=I2.inv c b' hc
    grind
   ·rcases I2.pairs b b' hb with k|k|k<;>grind
  ·cases e
 ·cases e
end
section
variable {P:Program} {w0:World} {S:Nat→Prop} {φ:Phi} {h:Za} {w:World}
noncomputable def via(ρ:Tr BN)(φ:Phi):Phi:=fun b=>match ρ.get b with|some b'=>φ b'|none=>⟨0,0,0,true,none⟩
theorem xA{ρ:Tr BN}{b b':BN}(hb:ρ.get b=some b'):via ρ φ b=φ b':=by grind[via]
theorem zby{ρ:Tr BN}{c c':Zc}(hr:RC ρ c c'):zm φ c'=zm (via ρ φ) c:=by
 cases c with
 |ptr b o=>obtain⟨b',rfl,hb⟩:=hr;grind[zm,adr,xA]
 |slc b o l k e=>obtain⟨b',rfl,hb⟩:=hr;grind[zm,adr,xA]
 |_=>obtain⟨hp,rfl⟩:=hr;first|rfl|cases hp
theorem zng{ρ:Tr BN}{n m:Nat}(hlt:∀b b',ρ.get b=some b'→b.toNat<m){c c':Zc}(hr:RC ρ c c')(hw:wfC φ n c'):wfC (via ρ φ) m c:=by
 cases c with
 |ptr b o=>obtain⟨b',rfl,hb⟩:=hr;exact⟨hlt _ _ hb,by rw[xA hb];exact hw.2⟩
 |slc b o l k e=>obtain⟨b',rfl,hb⟩:=hr;exact⟨⟨hlt _ _ hb,by rw[xA hb];exact hw.1.2⟩,by rw[xA hb];exact hw.2.1,hw.2.2⟩
 |_=>obtain⟨hp,rfl⟩:=hr;first|trivial|cases hp
theorem zti{ρ:Tr BN}{cs cs':List Zc}(hr:RCs ρ cs cs'):cs'.map (zm φ)=cs.map (zm (via ρ φ)):=by
 apply Yyl;intro i;rw[Lz6,Lz6];cases hc:cs[i]? with
 |none=>
  have:cs'[i]? = none:=by
   have:=hr.1
   grind
  grind
 |some c=>
  obtain⟨c',h1,h2⟩:=hr.2 i c hc
  grind[zby]
theorem zwB{ρ:Tr BN}{v v':SVal}(hr:RS ρ v v'):zP φ v'=zP (via ρ φ) v:=by
 cases v with
 |one c=>obtain⟨c',rfl,h2⟩:=hr;exact zby h2
 |agg cs=>obtain⟨cs',rfl,h2⟩:=hr;grind[zP,zti]
theorem zBs{ρ:Tr BN}{n m:Nat}(hlt:∀b b',ρ.get b=some b'→b.toNat<m){v v':SVal}(hr:RS ρ v v')(hw:wfS φ n v'):wfS (via ρ φ) m v:=by
 cases v with
 |one c=>obtain⟨c',rfl,h2⟩:=hr;exact zng hlt h2 hw
 |agg cs=>obtain⟨cs',rfl,h2⟩:=hr;intro c hc;obtain⟨i,hi⟩:=List.mem_iff_getElem?.1 hc;obtain⟨c',h3,h4⟩:=h2.2 i c hi;exact zng hlt h4 (hw c' (Lz3 h3))
theorem zqF{ρ:Tr BN}{n m:Nat}(hlt:∀b b',ρ.get b=some b'→b.toNat<m):∀{vs vs':List Zb},RAs ρ vs vs'→(∀x∈vs',wfA φ n x)→vs'.map (zz φ)=vs.map (zz (via ρ φ))∧∀x∈vs,wfA (via ρ φ) m x
 | [],[],_,_=>⟨rfl,fun x hx=>by cases hx⟩
 | .s v::vs,.s v'::vs',hr,hw=>by
  obtain⟨h1,h2⟩:=zqF (n:=n) hlt hr.2 fun x hx=>hw x (by simp[hx]);refine⟨?_,fun x hx=>?_⟩
  ·simp only[Yzy,h1,zz,zwB hr.1]
  ·cases hx with
   |head=>exact zBs hlt hr.1 (hw (.s v') (by simp))
   |tail _ hm=>exact h2 x hm
 | [],_::_,hr,_=>hr.elim
 | .tup _::_,_,hr,_=>by cases hr
 | .s _::_,[],hr,_=>by cases hr
 | .s _::_,.tup _::_,hr,_=>by cases hr
theorem zaT{ρ:Tr BN}:∀(l:List Zg) (i j:Nat) (o:Zg),ztf ρ (bn i) l=true→l[j]? = some o→∃b',ρ.get (bn (i+j))=some b'
 | [],i,j,o,e,hj=>by simp at hj
 |x::l,i,j,o,e,hj=>by
  unfold ztf at e;split at e
  ·rename_i b' hb;cases j with
   |zero=>grind
   |succ j=>
    rw[qU]at e;obtain⟨b'',hb''⟩:=zaT l (i+1) j o e (by trivial)
    grind
  ·cases e
theorem zf3(s:Sum)(b:BN):s.heap.t.get b=s.objs[b.toNat]?:=by have e0:BN.z=bn 0:=rfl;show (Tr.ofList .z s.objs .nil).get b=_;have:=vY s.objs 0 (.nil:Tr Zg) b.toNat;simp_all[yh]
theorem kU{h2:Za}:∀(l:List Zg) (i j:Nat) (o:Zg),znY h2 (bn i) l=true→l[j]? = some o→∃cs st,o=.cells cs st∧h2.t.get (bn (i+j))=some (.cells cs st)
 | [],i,j,o,e,hj=>by simp at hj
 |x::l,i,j,o,e,hj=>by
  cases x with
  |cells cs st=>
   unfold znY at e;split at e
   ·rename_i cs' st' hb;obtain⟨e1,e2⟩:=uL e;obtain⟨e1,e3⟩:=uL e1;cases j with
    |zero=>grind[zju,beq_true]
    |succ j=>
     rw[qU]at e2;obtain⟨cs2,st2,k1,k2⟩:=kU l (i+1) j o e2 (by trivial)
     grind
   ·cases e
  |_=>cases e
theorem qE{φ ψ:Phi}{c:Zc}(hp:wE c=true):zm φ c=zm ψ c:=by cases c<;>first|rfl|cases hp
theorem zcH{n:Nat}{c:Zc}(hp:wE c=true):wfC φ n c:=by cases c<;>first|trivial|cases hp
theorem zcG{φ ψ:Phi}{v:SVal}(hp:zkt v=true):zP φ v=zP ψ v:=by
 cases v with
 |one c=>exact qE hp
 |agg cs=>
  simp only[zP]
  congr 2
  exact Yz9 fun c hc=>qE (Yz3.1 hp c hc)
theorem zg0{n:Nat}{v:SVal}(hp:zkt v=true):wfS φ n v:=by
 cases v with
 |one c=>exact zcH hp
 |agg cs=>exact fun c hc=>zcH (Yz3.1 hp c hc)
theorem ziX{φ ψ:Phi}{v:Zb}(hp:vi v=true):zz φ v=zz ψ v:=by
 cases v with
 |s v=>exact zcG hp
 |tup vs=>
  simp only[zz]
  congr 2
  exact Yz9 fun c hc=>zcG (Yz3.1 hp c hc)
theorem zoq{n:Nat}{v:Zb}(hp:vi v=true):wfA φ n v:=by
 cases v with
 |s v=>exact zg0 hp
 |tup vs=>exact fun c hc=>zg0 (Yz3.1 hp c hc)
def jM(P:Program)(s:Sum):Prop:=∃call,y4 P call∧s.chk call=true
theorem zw6{s:Sum}(hs:jM P s){args:List Zb}(H:Zd w0 S φ h w)(hw:∀x∈args,wfA φ h.n.toNat x)(hf:s.fits args h=true):
  (∀as w,(callFunc s.g as).run P w=.ok (.enter s.g as) w)∧CallsIn (FR none) 0 P s.g (args.map (zz φ)).toArray w (Ret w0 S φ h s.res h):=by
 obtain⟨call,C,hchk⟩:=hs;obtain⟨ρ,hargs,hinj,hpair,hall⟩:=yM hf;unfold Sum.chk at hchk;split at hchk
 ·rename_i v h2 hcall;obtain⟨e1,e2⟩:=uL hchk;obtain⟨e1,e3⟩:=uL e1;have hv:=zlg e1;subst hv;have hn:s.heap.n.toNat=s.objs.length:=zW _;have hlt:∀b b',ρ.get b=some b'→b.toNat<s.heap.n.toNat:=by
   grind[zf3]
  have hin:∀b o,s.heap.t.get b=some o→∃b' cs cs' st,ρ.get b=some b'∧o=.cells cs st∧h.t.get b'=some (.cells cs' st)∧RCs ρ cs cs':=by
   intro b o hb;have hb':=hb;rw[zf3]at hb';obtain⟨b',hρ⟩:=zaT s.objs 0 b.toNat o hall hb';rw[Yzm,yh]at hρ
   grind
  obtain⟨hconc,hwf⟩:=zqF (φ:=φ) (n:=h.n.toNat) (m:=s.heap.n.toNat) hlt hargs hw;have HC:Zd w (fun k=>∃b b',ρ.get b=some b'∧k=(φ b').blk) (via ρ φ) s.heap w:=by
   refine⟨fun b o hb=>?_,fun b o hb=>?_,fun b o hb=>?_,fun b c o o' hb hc _ _ hh=>?_,fun b o hb _=>?_,rfl,rfl,rfl,LzB _,LzB _,fun _ _ _=>rfl,H.glob,fun b o hb _=>?_,fun b o hb _=>?_⟩
   ·grind
   ·obtain⟨b',cs,cs',st,hρ,rfl,hb',hr⟩:=hin b o hb;rw[xA hρ];exact H.okb b' _ hb'
   ·obtain⟨b',cs,cs',st,hρ,rfl,hb',hr⟩:=hin b o hb;obtain⟨arr,e,g1,g2,g3,g4⟩:=H.obj b' _ hb';refine⟨arr,e,by grind[xA],fun i c hc=>?_,by grind[xA],fun c hc=>?_⟩
    ·obtain⟨c',k1,k2⟩:=hr.2 i c hc
     grind[xA,zby]
    ·obtain⟨i,hi⟩:=List.mem_iff_getElem?.1 hc;obtain⟨c',k1,k2⟩:=hr.2 i c hi;exact zng hlt k2 (g4 c' (Lz3 k1))
   ·obtain⟨b',cs,cs',st,hρ,rfl,hb',_⟩:=hin b o hb;obtain⟨c',ds,ds',st2,hρc,rfl,hc',_⟩:=hin c o' hc;rw[xA hρ,xA hρc]at hh;have:=H.inj b' c' _ _ hb' hc' trivial trivial hh
    grind
   ·obtain⟨b',cs,cs',st,hρ,rfl,hb',_⟩:=hin b o hb
    grind[xA]
   ·obtain⟨b',cs,cs',st,hρ,rfl,hb',_⟩:=hin b o hb;rw[xA hρ];exact H.flat b' _ hb' trivial
   ·obtain⟨b',cs,cs',st,hρ,rfl,hb',_⟩:=hin b o hb;rw[xA hρ];exact H.ng b' _ hb' trivial
  obtain⟨hcf,hcl⟩:=(C w _ _ _ w _ _ h2 HC hwf).1 s.g hcall;refine⟨hcf,?_⟩;rw[hconc];refine hcl.mono ?_
  rintro e9 w9 ⟨φ2,rfl,he,H2,_,hle⟩
  refine⟨φ,by grind[ziX],Ext.refl _ _,?_,zoq e3,LzB _⟩;have hkeep:∀k,k<w.heap.size→(¬∃b b',ρ.get b=some b'∧k=(φ b').blk)→w9.heap[k]? = w.heap[k]?:=fun k hk hS=>H2.kept k hk hS;refine⟨H.keys,H.okb,fun b o hb=>?_,H.inj,H.own,H2.os.trans H.os,H2.tape.trans H.tape,H2.output.trans H.output,Yzr H.size H2.size,Yzr H.drawn H2.drawn,fun k hk hS=>?_,H2.glob,H.flat,H.ng⟩
  ·by_cases hl:live o
   ·by_cases hm:∃c c',ρ.get c=some c'∧(φ b).blk=(φ c').blk
    ·obtain⟨c,c',hρ,hblk⟩:=hm;obtain⟨cs,cs',st,k1,k2,k3⟩:=hpair c c' hρ;have:=H.inj b c' _ _ hb k2 hl trivial hblk;subst this;cases hb.symm.trans k2;have k1':=k1;rw[zf3]at k1';obtain⟨cs2,st2,q1,q2⟩:=kU s.objs 0 c.toNat _ e2 k1';rw[Yzm,yh]at q2;cases q1;obtain⟨arr,e,g1,g2,g3,g4⟩:=H2.obj c _ q2;have ec:φ2 c=φ b:=(he c (hlt _ _ hρ)).trans (xA hρ);obtain⟨_,_,_,_,_,o4⟩:=H.obj b _ hb;refine⟨arr,e,by grind,fun i x hx=>?_,by grind,o4⟩;have hi:i<cs.length:=by
      have:=(Lz0.1 hx).1;have:=k3.1;omega
     obtain⟨x',j1,j2⟩:=k3.2 i cs[i] (Lz5 hi);rw[hx]at j1;cases j1;have:=g2 i cs[i] (Lz5 hi);rw[ec]at this;rw[this,zby j2];have hwc:wfC (via ρ φ) s.heap.n.toNat cs[i]:=zng hlt j2 (o4 x (Lz3 hx))
     grind[ul]
    ·exact(H.obj b o hb).world fun _=>hkeep _ ((H.obj b o hb).there hl) (fun⟨c,c',h1,h2⟩=>hm ⟨c,c',h1,h2⟩)
   ·exact(H.obj b o hb).world fun hh=>absurd hh hl
  ·by_cases hm:∃c c',ρ.get c=some c'∧k=(φ c').blk
   ·obtain⟨c,c',hρ,rfl⟩:=hm;obtain⟨cs,cs',st,_,k2,_⟩:=hpair c c' hρ;rcases H.own c' _ k2 trivial with h1|h1<;>grind
   ·rw[hkeep k (Lz9 hk H.size) hm];exact H.kept k hk hS
 trivial
theorem zeJ{g:Nat}{args:List Zb}{v:Zb}:∀(l:List Sum),wB g args h l=some v→∃s∈l,s.g=g∧s.fits args h=true∧s.res=v
 | [],e=>by cases e
 |s::l,e=>by
  unfold wB at e;cases hq:(Nat.beq g s.g&&s.fits args h) with
  |true=>simp_all
  |false=>
   rw[hq]at e;obtain⟨s',k1,k2⟩:=zeJ l e
   grind
theorem ze4{sums:List Sum}(hs:∀s∈sums,jM P s){call:zj}(C:y4 P call):y4 P (zdN sums call):=by
 intro w0 S φ h w args v h2 H hw;refine⟨fun g e=>?_,fun l e=>(C w0 S φ h w args v h2 H hw).2 l e⟩;unfold zdN at e;simp only at e;split at e
 ·rename_i v' hf;cases e;obtain⟨s,h1,rfl,h3,rfl⟩:=zeJ sums hf
  grind[zw6]
 ·exact(C w0 S φ h w args v h2 H hw).1 g e
theorem zgr{fs:Nat→Option Zm}(hfs:zuc P fs){sums:List Sum}(hs:∀s∈sums,jM P s):∀n,y4 P (zjs (ye P) fs sums n)
 |0=>zfE
 |n+1=>ze4 hs (zgu (zgr hfs hs n) hfs n)
theorem zrg{call:zj}(C:y4 P call){f:Nat}{c:Zc}{h2:Za}(e:call (.inl f) [] ⟨.z,.nil⟩=some (.s (.one c),h2))(w:World)(hG:GOk w):
  (∀as w,(callFunc f as).run P w=.ok (.enter f as) w)∧CallsIn (FR none) 0 P f #[] w (fun e w2=>∃φ,e=.returned (zm φ c)∧Below w.heap.size w w2):=by
 have H:Zd w (fun _=>False) (fun _=>⟨0,0,0,true,none⟩) ⟨.z,.nil⟩ w:=by
  have hnil:∀b,(Tr.nil:Tr Zg).get b=none:=by simp
  refine⟨?_,?_,?_,?_,?_,rfl,rfl,rfl,LzB _,LzB _,fun _ _ _=>rfl,hG,?_,?_⟩
  ·simp
  ·simp
  ·simp
  ·simp
  ·simp
  ·simp
  ·simp
 have:=(C w _ _ _ w [] _ h2 H (fun x hx=>by cases hx)).1 f e;refine⟨this.1,this.2.mono ?_⟩
 rintro e9 w9 ⟨φ2,rfl,he,H2,_,_⟩
 exact⟨φ2,rfl,⟨H2.os,H2.tape,H2.output,H2.size,fun k hk=>H2.kept k hk (fun hh=>hh)⟩⟩
end
end Go.CE
end
section
namespace Go.CE
open Go.RowKit
noncomputable section
structure Zn where
 g:Nat
 args:List Zb
 objs:List Zg
 res:Zb
 news:List Zg
def Zn.heap(s:Zn):Za:=⟨bn s.objs.length,Tr.ofList .z s.objs .nil⟩
def Zn.heap1(s:Zn):Za:=⟨bn (s.objs.length+s.news.length),Tr.ofList .z (s.objs++s.news) .nil⟩
def mR(m:Mt):Zb→Zb→Option Mt
 | .s v,.s v'=>mS m v v'
 | .tup vs,.tup vs'=>mA (vs.map .s) (vs'.map .s) m
 |_,_=>none
def zzT:BN→List Zg→Mt→Option Mt
 |_,[],m=>some m
 |i,_::l,m=>
  match mB i i m with
  |some m'=>zzT i.succ l m'
  |none=>none
def Zn.back(s:Zn)(v:Zb)(h2:Za):Option (Tr BN):=
 match zzT .z s.objs ⟨.nil,.nil,[]⟩ with
 |some m0=>
  match mR m0 s.res v with
  |some m=>zmC s.heap1 h2 (Nat.succ (s.objs.length+s.news.length)) m
  |none=>none
 |none=>none
def Zn.chk(call:zj)(s:Zn):Bool:=
 match call (.inl s.g) s.args s.heap with
 |some (v,h2)=>
  match s.back v h2 with
  |some ρ=>ztf ρ .z (s.objs++s.news)&&znY h2 .z s.objs
  |none=>false
 |none=>false
def Zn.fits(s:Zn)(args:List Zb)(h:Za):Option (Tr BN):=
 match mA s.args args ⟨.nil,.nil,[]⟩ with
 |some m=>
  match zmC s.heap h (Nat.succ s.objs.length) m with
  |some ρ=>bif ztf ρ .z s.objs then some ρ else none
  |none=>none
 |none=>none
def sC(ρ:Tr BN):Zc→Option Zc
 | .ptr b o=>match ρ.get b with|some b'=>some (.ptr b' o)|none=>none
 | .slc b o l k e=>match ρ.get b with|some b'=>some (.slc b' o l k e)|none=>none
 |c=>bif wE c then some c else none
def sCs(ρ:Tr BN):List Zc→Option (List Zc)
 | []=>some []
 |c::cs=>
  match sC ρ c with
  |some c'=>match sCs ρ cs with|some cs'=>some (c'::cs')|none=>none
  |none=>none
def sS(ρ:Tr BN):SVal→Option SVal
 | .one c=>match sC ρ c with|some c'=>some (.one c')|none=>none
 | .agg cs=>match sCs ρ cs with|some cs'=>some (.agg cs')|none=>none
def sSs(ρ:Tr BN):List SVal→Option (List SVal)
 | []=>some []
 |v::vs=>
  match sS ρ v with
  |some v'=>match sSs ρ vs with|some vs'=>some (v'::vs')|none=>none
  |none=>none
def sA(ρ:Tr BN):Zb→Option Zb
 | .s v=>match sS ρ v with|some v'=>some (.s v')|none=>none
 | .tup vs=>match sSs ρ vs with|some vs'=>some (.tup vs')|none=>none
def ztg:BN→BN→List Zg→Tr BN→Tr BN
 |_,_,[],ρ=>ρ
 |i,k,_::l,ρ=>ztg i.succ k.succ l (ρ.set i k)
def zzZ(ρ:Tr BN):List Zg→Za→Option Za
 | [],h=>some h
 | .cells cs st::l,h=>
  match sCs ρ cs with
  |some cs'=>zzZ ρ l (h.new (.cells cs' st))
  |none=>none
 |_::_,_=>none
def Zn.app(s:Zn)(h:Za)(ρ:Tr BN):Res:=
 match zzZ (ztg (bn s.objs.length) h.n s.news ρ) s.news h with
 |some h'=>match sA (ztg (bn s.objs.length) h.n s.news ρ) s.res with|some v=>some (v,h')|none=>none
 |none=>none
def zaC(g:Nat)(args:List Zb)(h:Za):List Zn→Res
 | []=>none
 |s::l=>
  bif Nat.beq g s.g then
   match s.fits args h with
   |some ρ=>s.app h ρ
   |none=>zaC g args h l
  else zaC g args h l
def zuk(sums:List Zn)(call:zj):zj
 | .inl g,args,h=>
  match zaC g args h sums with
  |some r=>some r
  |none=>call (.inl g) args h
 | .inr l,args,h=>call (.inr l) args h
def zjt(cc:Nat→Code→xV)(fs:Nat→Option Zm)(sums:List Sum)(nsums:List Zn)(n:Nat):zj:=
 Nat.rec (motive:=fun _=>zj) (fun _ _ _=>none) (fun f ih=>zuk nsums (zdN sums (zbO cc fs ih f))) n
end
theorem zAG{D:BN→BN→Prop}{hc h:Za}{m m':Mt}:∀{v v':Zb},MI D hc h m→mR m v v'=some m'→MI D hc h m'∧Sub m.ρ m'.ρ∧
  (match v,v' with | .s a,.s b=>RS m'.ρ a b | .tup as,.tup bs=>RAs m'.ρ (as.map .s) (bs.map .s)|_,_=>False)
 | .s v,.s v',I,e=>zx7 I e
 | .tup vs,.tup vs',I,e=>zss _ _ _ _ I e
 | .s _,.tup _,_,e=>by cases e
 | .tup _,.s _,_,e=>by cases e
theorem zpf{D:BN→BN→Prop}{hc h:Za}:∀(l:List Zg) (i:Nat) (m m':Mt),MI D hc h m→zzT (bn i) l m=some m'→MI D hc h m'∧Sub m.ρ m'.ρ∧∀j,j<l.length→m'.ρ.get (bn (i+j))=some (bn (i+j))
 | [],_,m,m',I,e=>by cases e<;>simp_all[Sub.refl]
 |o::l,i,m,m',I,e=>by
  unfold zzT at e;split at e
  ·rename_i m1 h1;obtain⟨I1,s1,r1⟩:=zvl I h1;rw[qU]at e;obtain⟨I2,s2,r2⟩:=zpf l (i+1) m1 m' I1 e;refine⟨I2,s1.trans s2,fun j hj=>?_⟩;cases j with
   |zero=>exact s2 _ _ r1
   |succ j=>grind
  ·cases e
theorem zxv{ρ:Tr BN}{c c':Zc}(e:sC ρ c=some c'):RC ρ c c':=by
 have rest:∀c,(bif wE c then some c else none)=some c'→wE c=true∧c'=c:=by grind
 cases c with
 |ptr b o=>
  simp only[sC]at e;split at e
  ·rename_i b' hb;cases e;exact⟨b',rfl,hb⟩
  ·cases e
 |slc b o l k x=>
  simp only[sC]at e;split at e
  ·rename_i b' hb;cases e;exact⟨b',rfl,hb⟩
  ·cases e
 |_=>exact rest _ e
theorem zn5{ρ:Tr BN}:∀{cs cs':List Zc},sCs ρ cs=some cs'→RCs ρ cs cs'
 | [],cs',e=>by cases e;exact⟨rfl,fun i c hc=>by simp at hc⟩
 |c::cs,cs',e=>by
  unfold sCs at e;split at e
  ·rename_i c1 h1;split at e
   ·rename_i cs1 h2;cases e;have r:=zn5 h2;refine⟨by simp[r.1],fun i x hx=>?_⟩;cases i with
    |zero=>simp only[Yzi,Option.some.injEq]at hx;subst hx;exact⟨c1,rfl,zxv h1⟩
    |succ i=>simp only[Yzt]at hx ⊢;exact r.2 i x hx
   ·cases e
  ·cases e
theorem zxu{ρ:Tr BN}{v v':SVal}(e:sS ρ v=some v'):RS ρ v v':=by
 cases v with
 |one c=>
  simp only[sS]at e;split at e
  ·rename_i c' h;cases e;exact⟨c',rfl,zxv h⟩
  ·cases e
 |agg cs=>
  simp only[sS]at e;split at e
  ·rename_i c' h;cases e;exact⟨c',rfl,zn5 h⟩
  ·cases e
def RR(ρ:Tr BN):Zb→Zb→Prop
 | .s v,.s v'=>RS ρ v v'
 | .tup vs,.tup vs'=>RAs ρ (vs.map .s) (vs'.map .s)
 |_,_=>False
theorem RR.mono{ρ ρ':Tr BN}(hs:Sub ρ ρ'){v v':Zb}(h:RR ρ v v'):RR ρ' v v':=by
 cases v with
 |s v=>cases v' with|s v'=>exact RS.mono hs h|tup _=>trivial
 |tup vs=>cases v' with|s v'=>trivial|tup vs'=>exact RAs.mono hs h
theorem ztz{ρ:Tr BN}:∀{vs vs':List SVal},sSs ρ vs=some vs'→RAs ρ (vs.map .s) (vs'.map .s)
 | [],vs',e=>by cases e;trivial
 |v::vs,vs',e=>by
  unfold sSs at e;split at e
  ·rename_i v1 h1;split at e
   ·rename_i vs1 h2;cases e;exact⟨zxu h1,ztz h2⟩
   ·cases e
  ·cases e
theorem zAp{ρ:Tr BN}{v v':Zb}(e:sA ρ v=some v'):RR ρ v v':=by
 cases v with
 |s v=>
  simp only[sA]at e;split at e
  ·rename_i c' h;cases e;exact zxu h
  ·cases e
 |tup vs=>
  simp only[sA]at e;split at e
  ·rename_i c' h;cases e;exact ztz h
  ·cases e
theorem zqD{ρ ρ':Tr BN}{φ φ':Phi}(ha:∀b x x',ρ.get b=some x→ρ'.get b=some x'→φ' x'=φ x){c c1 c2:Zc}(h1:RC ρ c c1)(h2:RC ρ' c c2):zm φ' c2=zm φ c1:=by
 cases c with
 |ptr b o=>obtain⟨x,rfl,hx⟩:=h1;obtain⟨x',rfl,hx'⟩:=h2;grind[zm,adr]
 |slc b o l k e=>obtain⟨x,rfl,hx⟩:=h1;obtain⟨x',rfl,hx'⟩:=h2;grind[zm,adr]
 |_=>obtain⟨hp,rfl⟩:=h1;obtain⟨_,rfl⟩:=h2;exact qE hp
theorem zhX{ρ ρ':Tr BN}{φ φ':Phi}{n n':Nat}(ha:∀b x x',ρ.get b=some x→ρ'.get b=some x'→φ' x'=φ x)(hlt:∀b x,ρ'.get b=some x→x.toNat<n'){c c1 c2:Zc}(h1:RC ρ c c1)(h2:RC ρ' c c2)(hw:wfC φ n c1):wfC φ' n' c2:=by
 cases c with
 |ptr b o=>obtain⟨x,rfl,hx⟩:=h1;obtain⟨x',rfl,hx'⟩:=h2;exact⟨hlt _ _ hx',by rw[ha b x x' hx hx'];exact hw.2⟩
 |slc b o l k e=>obtain⟨x,rfl,hx⟩:=h1;obtain⟨x',rfl,hx'⟩:=h2;exact⟨⟨hlt _ _ hx',by rw[ha b x x' hx hx'];exact hw.1.2⟩,by rw[ha b x x' hx hx'];exact hw.2.1,hw.2.2⟩
 |_=>obtain⟨hp,rfl⟩:=h1;obtain⟨_,rfl⟩:=h2;exact zcH hp
theorem zwC{ρ ρ':Tr BN}{φ φ':Phi}(ha:∀b x x',ρ.get b=some x→ρ'.get b=some x'→φ' x'=φ x){cs c1 c2:List Zc}(h1:RCs ρ cs c1)(h2:RCs ρ' cs c2):c2.map (zm φ')=c1.map (zm φ):=by
 apply Yyl;intro i;rw[Lz6,Lz6];cases hc:cs[i]? with
 |none=>
  have k1:c1[i]? = none:=by
   have:=h1.1
   grind
  have k2:c2[i]? = none:=by
   have:=h2.1
   grind
  grind
 |some c=>
  obtain⟨x1,p1,q1⟩:=h1.2 i c hc;obtain⟨x2,p2,q2⟩:=h2.2 i c hc
  grind[zqD]
theorem zub{ρ ρ':Tr BN}{φ φ':Phi}(ha:∀b x x',ρ.get b=some x→ρ'.get b=some x'→φ' x'=φ x){v v1 v2:SVal}(h1:RS ρ v v1)(h2:RS ρ' v v2):zP φ' v2=zP φ v1:=by
 cases v with
 |one c=>obtain⟨c1,rfl,q1⟩:=h1;obtain⟨c2,rfl,q2⟩:=h2;exact zqD ha q1 q2
 |agg cs=>obtain⟨c1,rfl,q1⟩:=h1;obtain⟨c2,rfl,q2⟩:=h2;grind[zP,zwC]
theorem zqE{ρ ρ':Tr BN}{φ φ':Phi}(ha:∀b x x',ρ.get b=some x→ρ'.get b=some x'→φ' x'=φ x):∀{vs v1 v2:List SVal},RAs ρ (vs.map .s) (v1.map .s)→RAs ρ' (vs.map .s) (v2.map .s)→v2.map (zP φ')=v1.map (zP φ)
 | [],[],[],_,_=>rfl
 |v::vs,a::as,b::bs,h1,h2=>by simp only[Yzy,zub ha h1.1 h2.1,zqE ha h1.2 h2.2]
 | [],_::_,_,h,_=>h.elim
 | [],[],_::_,_,h=>h.elim
 |_::_,[],_,h,_=>h.elim
 |_::_,_::_,[],_,h=>h.elim
theorem zzq{ρ ρ':Tr BN}{φ φ':Phi}(ha:∀b x x',ρ.get b=some x→ρ'.get b=some x'→φ' x'=φ x){v v1 v2:Zb}(h1:RR ρ v v1)(h2:RR ρ' v v2):zz φ' v2=zz φ v1:=by
 cases v with
 |s v=>
  cases v1 with
  |s v1=>cases v2 with|s v2=>exact zub ha h1 h2|tup _=>trivial
  |tup _=>trivial
 |tup vs=>
  cases v1 with
  |s v1=>trivial
  |tup v1=>cases v2 with|s v2=>trivial|tup v2=>simp only[zz,zqE ha h1 h2]
theorem zeZ{ρ ρ':Tr BN}{φ φ':Phi}{n n':Nat}(ha:∀b x x',ρ.get b=some x→ρ'.get b=some x'→φ' x'=φ x)(hlt:∀b x,ρ'.get b=some x→x.toNat<n'){cs c1 c2:List Zc}(h1:RCs ρ cs c1)(h2:RCs ρ' cs c2)(hw:∀c∈c1,wfC φ n c):∀c∈c2,wfC φ' n' c:=by
 intro c hc;obtain⟨i,hi⟩:=List.mem_iff_getElem?.1 hc;have hl:i<cs.length:=by have:=(Lz0.1 hi).1;have:=h2.1;omega
 obtain⟨x1,p1,q1⟩:=h1.2 i cs[i] (Lz5 hl);obtain⟨x2,p2,q2⟩:=h2.2 i cs[i] (Lz5 hl);rw[hi]at p2;cases p2;exact zhX ha hlt q1 q2 (hw x1 (Lz3 p1))
theorem zhW{ρ ρ':Tr BN}{φ φ':Phi}{n n':Nat}(ha:∀b x x',ρ.get b=some x→ρ'.get b=some x'→φ' x'=φ x)(hlt:∀b x,ρ'.get b=some x→x.toNat<n'){v v1 v2:SVal}(h1:RS ρ v v1)(h2:RS ρ' v v2)(hw:wfS φ n v1):wfS φ' n' v2:=by
 cases v with
 |one c=>obtain⟨c1,rfl,q1⟩:=h1;obtain⟨c2,rfl,q2⟩:=h2;exact zhX ha hlt q1 q2 hw
 |agg cs=>obtain⟨c1,rfl,q1⟩:=h1;obtain⟨c2,rfl,q2⟩:=h2;exact zeZ ha hlt q1 q2 hw
theorem ze0{ρ ρ':Tr BN}{φ φ':Phi}{n n':Nat}(ha:∀b x x',ρ.get b=some x→ρ'.get b=some x'→φ' x'=φ x)(hlt:∀b x,ρ'.get b=some x→x.toNat<n'):∀{vs v1 v2:List SVal},RAs ρ (vs.map .s) (v1.map .s)→RAs ρ' (vs.map .s) (v2.map .s)→(∀v∈v1,wfS φ n v)→∀v∈v2,wfS φ' n' v
 | [],[],[],_,_,_=>fun v hv=>by cases hv
 |v::vs,a::as,b::bs,h1,h2,hw=>fun x hx=>by
  rcases YzA.1 hx with rfl|hx
  ·exact zhW ha hlt h1.1 h2.1 (hw a (by simp))
  ·exact ze0 ha hlt h1.2 h2.2 (fun y hy=>hw y (by simp[hy])) x hx
 | [],_::_,_,h,_,_=>h.elim
 | [],[],_::_,_,h,_=>h.elim
 |_::_,[],_,h,_,_=>h.elim
 |_::_,_::_,[],_,h,_=>h.elim
theorem zqC{ρ ρ':Tr BN}{φ φ':Phi}{n n':Nat}(ha:∀b x x',ρ.get b=some x→ρ'.get b=some x'→φ' x'=φ x)(hlt:∀b x,ρ'.get b=some x→x.toNat<n'){v v1 v2:Zb}(h1:RR ρ v v1)(h2:RR ρ' v v2)(hw:wfA φ n v1):wfA φ' n' v2:=by
 cases v with
 |s v=>
  cases v1 with
  |s v1=>cases v2 with|s v2=>exact zhW ha hlt h1 h2 hw|tup _=>trivial
  |tup _=>trivial
 |tup vs=>
  cases v1 with
  |s v1=>trivial
  |tup v1=>cases v2 with|s v2=>trivial|tup v2=>exact ze0 ha hlt h1 h2 hw
theorem zwD{ρ:Tr BN}{cs cs':List Zc}(h:RCs ρ cs cs'){i:Nat}{c':Zc}(hc:cs'[i]? = some c'):∃c,cs[i]? = some c∧RC ρ c c':=by
 have hi:i<cs.length:=by have:=(Lz0.1 hc).1;have:=h.1;omega
 obtain⟨x,k1,k2⟩:=h.2 i cs[i] (Lz5 hi)
 grind
section
variable {P:Program} {w0:World} {S:Nat→Prop} {φ:Phi} {h:Za} {w:World}
theorem zlE:∀(l:List Zg) (i k:Nat) (ρ:Tr BN) (b:Nat),(ztg (bn i) (bn k) l ρ).get (bn b)=if i≤b∧b<i+l.length then some (bn (k+(b-i))) else ρ.get (bn b)
 | [],i,k,ρ,b=>by rw[Yzb (by simp)];rfl
 |o::l,i,k,ρ,b=>by
  show (ztg (bn i).succ (bn k).succ l (ρ.set (bn i) (bn k))).get (bn b)=_;rw[qU,qU,zlE l (i+1) (k+1) _ b];by_cases h1:b=i
  ·subst h1;rw[Yzb (by omega),Yze (by simp),zK,Nat.sub_self];rfl
  ·have hne:bn b≠bn i:=fun hh=>h1 (by have:=congrArg BN.toNat hh;grind[zW]);rw[zy _ _ _ _ hne]
   grind
theorem zlF{ρ:Tr BN}:∀(l:List Zg) (h h':Za),zzZ ρ l h=some h'→h'.n.toNat=h.n.toNat+l.length∧(∀b,b<h.n.toNat→h'.t.get (bn b)=h.t.get (bn b))∧
  (∀j o,l[j]? = some o→∃cs cs' st,o=.cells cs st∧RCs ρ cs cs'∧h'.t.get (bn (h.n.toNat+j))=some (.cells cs' st))∧∀b,h.n.toNat+l.length≤b→h'.t.get (bn b)=h.t.get (bn b)
 | [],h,h',e=>by cases e<;>grind
 |o::l,h,h',e=>by
  cases o with
  |cells cs st=>
   simp only[zzZ]at e;split at e
   ·rename_i cs' hcs;obtain⟨k1,k2,k3,k4⟩:=zlF l _ h' e;rw[yO]at k1 k2 k3 k4;have hne:∀b,b≠h.n.toNat→(h.new (.cells cs' st)).t.get (bn b)=h.t.get (bn b):=fun b hb=>
     zy _ _ _ _ (fun hh=>hb (by have:=congrArg BN.toNat hh;grind[zW]))
    refine⟨by grind,fun b hb=>?_,fun j o hj=>?_,fun b hb=>?_⟩
    ·grind
    ·cases j with
     |zero=>simp only[Yzi,Option.some.injEq]at hj;subst hj;refine⟨cs,cs',st,rfl,zn5 hcs,?_⟩;rw[YzH,k2 _ (by omega),yh];exact zK _ _ _
     |succ j=>grind
    ·grind
   ·cases e
  |_=>cases e
theorem zsV{s:Zn}{args:List Zb}{ρ:Tr BN}(e:s.fits args h=some ρ):RAs ρ s.args args∧(∀b c b',ρ.get b=some b'→ρ.get c=some b'→b=c)∧
  (∀b b',ρ.get b=some b'→∃cs cs' st,s.heap.t.get b=some (.cells cs st)∧h.t.get b'=some (.cells cs' st)∧RCs ρ cs cs')∧ztf ρ .z s.objs=true:=by
 unfold Zn.fits at e;split at e
 ·rename_i m hm;split at e
  ·rename_i ρ1 hρ;cases hq:ztf ρ1 .z s.objs with
   |false=>grind
   |true=>
    rw[hq]at e;cases e;have I0:MI (fun _ _=>False) s.heap h ⟨.nil,.nil,[]⟩:=⟨(fun b b' hb=>by simp_all),(fun b b' hb=>by simp_all)⟩;obtain⟨I1,s1,r1⟩:=zss _ _ _ _ I0 hm;obtain⟨inv,I2,s2⟩:=zci _ _ _ I1 hρ;refine⟨r1.mono s2,fun b c b' hb hc=>?_,fun b b' hb=>?_,hq⟩
    ·have h1:=I2.inv b b' hb;have h2:=I2.inv c b' hc
     grind
    ·rcases I2.pairs b b' hb with k|k|k<;>grind
  ·cases e
 ·cases e
theorem zqv{s:Zn}{v:Zb}{h2:Za}{ρ:Tr BN}(e:s.back v h2=some ρ):RR ρ s.res v∧(∀b c b',ρ.get b=some b'→ρ.get c=some b'→b=c)∧
  (∀b b',ρ.get b=some b'→∃cs cs' st,s.heap1.t.get b=some (.cells cs st)∧h2.t.get b'=some (.cells cs' st)∧RCs ρ cs cs')∧∀j,j<s.objs.length→ρ.get (bn j)=some (bn j):=by
 unfold Zn.back at e;split at e
 ·rename_i m0 hm0;split at e
  ·rename_i m hm;have I0:MI (fun _ _=>False) s.heap1 h2 ⟨.nil,.nil,[]⟩:=⟨(fun b b' hb=>by simp_all),(fun b b' hb=>by simp_all)⟩;obtain⟨I1,s1,r1⟩:=zpf s.objs 0 _ _ I0 hm0;obtain⟨I2,s2,r2⟩:=zAG I1 hm;obtain⟨inv,I3,s3⟩:=zci _ _ _ I2 e;have hr:RR m.ρ s.res v:=by
    trivial
   refine⟨hr.mono s3,fun b c b' hb hc=>?_,fun b b' hb=>?_,fun j hj=>?_⟩
   ·have h1:=I3.inv b b' hb;have h2:=I3.inv c b' hc
    grind
   ·rcases I3.pairs b b' hb with k|k|k<;>grind
   ·have:=r1 j hj;rw[Yzm]at this;exact s3 _ _ (s2 _ _ this)
  ·cases e
 ·cases e
def uB(P:Program)(s:Zn):Prop:=∃call,y4 P call∧s.chk call=true
theorem zar(l:List Zg)(n:BN)(b:BN):(⟨n,Tr.ofList .z l .nil⟩:Za).t.get b=l[b.toNat]?:=by have e0:BN.z=bn 0:=rfl;show (Tr.ofList .z l .nil).get b=_;have:=vY l 0 (.nil:Tr Zg) b.toNat;simp_all[yh]
noncomputable def zbF(φ φ2:Phi)(ρ:Tr BN)(n N:Nat):Phi:=fun b=>if b.toNat<N then φ b else via ρ φ2 (bn (n+(b.toNat-N)))
theorem zux{s:Zn}(hs:uB P s){args:List Zb}(H:Zd w0 S φ h w)(hw:∀x∈args,wfA φ h.n.toNat x){ρ:Tr BN}(hf:s.fits args h=some ρ){v:Zb}{h':Za}(ha:s.app h ρ=some (v,h')):
  (∀as w,(callFunc s.g as).run P w=.ok (.enter s.g as) w)∧CallsIn (FR none) 0 P s.g (args.map (zz φ)).toArray w (Ret w0 S φ h v h'):=by
 obtain⟨call,C,hchk⟩:=hs;obtain⟨hargs,hinj,hpair,hall⟩:=zsV hf;unfold Zn.chk at hchk;split at hchk
 ·rename_i v0 h2 hcall;split at hchk
  ·rename_i ρc hback;obtain⟨hallc,e2⟩:=uL hchk;obtain⟨hres,hinjc,hpairc,hid⟩:=zqv hback;have hn:s.heap.n.toNat=s.objs.length:=zW _;have hlt:∀b b',ρ.get b=some b'→b.toNat<s.heap.n.toNat:=by
    intro b b' hb;obtain⟨cs,cs',st,h1,_⟩:=hpair b b' hb;unfold Zn.heap at h1;rw[zar]at h1
    grind
   have hin:∀b o,s.heap.t.get b=some o→∃b' cs cs' st,ρ.get b=some b'∧o=.cells cs st∧h.t.get b'=some (.cells cs' st)∧RCs ρ cs cs':=by
    intro b o hb;have hb':=hb;unfold Zn.heap at hb';rw[zar]at hb';obtain⟨b',hρ⟩:=zaT s.objs 0 b.toNat o hall hb';rw[Yzm,yh]at hρ
    grind
   obtain⟨hconc,hwf⟩:=zqF (φ:=φ) (n:=h.n.toNat) (m:=s.heap.n.toNat) hlt hargs hw;have HC:Zd w (fun k=>∃b b',ρ.get b=some b'∧k=(φ b').blk) (via ρ φ) s.heap w:=by
    refine⟨fun b o hb=>?_,fun b o hb=>?_,fun b o hb=>?_,fun b c o o' hb hc _ _ hh=>?_,fun b o hb _=>?_,rfl,rfl,rfl,LzB _,LzB _,fun _ _ _=>rfl,H.glob,fun b o hb _=>?_,fun b o hb _=>?_⟩
    ·grind
    ·obtain⟨b',cs,cs',st,hρ,rfl,hb',hr⟩:=hin b o hb;rw[xA hρ];exact H.okb b' _ hb'
    ·obtain⟨b',cs,cs',st,hρ,rfl,hb',hr⟩:=hin b o hb;obtain⟨arr,e,g1,g2,g3,g4⟩:=H.obj b' _ hb';refine⟨arr,e,by grind[xA],fun i c hc=>?_,by grind[xA],fun c hc=>?_⟩
     ·obtain⟨c',k1,k2⟩:=hr.2 i c hc
      grind[xA,zby]
     ·obtain⟨i,hi⟩:=List.mem_iff_getElem?.1 hc;obtain⟨c',k1,k2⟩:=hr.2 i c hi;exact zng hlt k2 (g4 c' (Lz3 k1))
    ·obtain⟨b',cs,cs',st,hρ,rfl,hb',_⟩:=hin b o hb;obtain⟨c',ds,ds',st2,hρc,rfl,hc',_⟩:=hin c o' hc;rw[xA hρ,xA hρc]at hh;have:=H.inj b' c' _ _ hb' hc' trivial trivial hh
     grind
    ·obtain⟨b',cs,cs',st,hρ,rfl,hb',_⟩:=hin b o hb
     grind[xA]
    ·obtain⟨b',cs,cs',st,hρ,rfl,hb',_⟩:=hin b o hb;rw[xA hρ];exact H.flat b' _ hb' trivial
    ·obtain⟨b',cs,cs',st,hρ,rfl,hb',_⟩:=hin b o hb;rw[xA hρ];exact H.ng b' _ hb' trivial
   obtain⟨hcf,hcl⟩:=(C w _ _ _ w _ _ h2 HC hwf).1 s.g hcall;refine⟨hcf,?_⟩;rw[hconc];refine hcl.mono ?_
   rintro e9 w9 ⟨φ2,rfl,he,H2,hv2,hle⟩
   unfold Zn.app at ha;split at ha
   ·rename_i h1 hO;split at ha
    ·rename_i v1 hA;cases ha;have eN:h.n=bn h.n.toNat:=(yh _).symm;obtain⟨a1,a2,a3,a4⟩:=zlF s.news h h' hO;have hg:∀b,(ztg (bn s.objs.length) h.n s.news ρ).get b=if s.objs.length≤b.toNat∧b.toNat<s.objs.length+s.news.length then some (bn (h.n.toNat+(b.toNat-s.objs.length))) else ρ.get b:=by
      grind[zlE,yh]
     have hlt2:∀b b',ρ.get b=some b'→b'.toNat<h.n.toNat:=fun b b' hb=>by obtain⟨cs,cs',st,_,q,_⟩:=hpair b b' hb;exact H.keys b' _ q
     have agree:∀b x x',ρc.get b=some x→(ztg (bn s.objs.length) h.n s.news ρ).get b=some x'→zbF φ φ2 ρc s.objs.length h.n.toNat x'=φ2 x:=by
      intro b x x' q1 q2;rw[hg b]at q2;split at q2
      ·rename_i hr;cases q2;unfold zbF;rw[zW,Yzb (by omega),show s.objs.length+(h.n.toNat+(b.toNat-s.objs.length)-h.n.toNat)=b.toNat by omega,yh,xA q1]
      ·have hb:=hlt b x' q2;have hi:=hid b.toNat (by omega);rw[yh,q1]at hi;cases hi;unfold zbF;rw[Yze (hlt2 b x' q2),he _ hb,xA q2]
     have rng:∀b x',(ztg (bn s.objs.length) h.n s.news ρ).get b=some x'→x'.toNat<h'.n.toNat:=by intro b x' q;rw[hg b]at q;split at q<;>grind[zW]
     have hext:Ext h.n.toNat φ (zbF φ φ2 ρc s.objs.length h.n.toNat):=fun b hb=>by unfold zbF;rw[Yze hb]
     have hrA:=zAp hA;have hnew:∀j o,s.news[j]? = some o→∃cs cs' cs2 st x,o=.cells cs st∧RCs (ztg (bn s.objs.length) h.n s.news ρ) cs cs'∧h'.t.get (bn (h.n.toNat+j))=some (.cells cs' st)∧ρc.get (bn (s.objs.length+j))=some x∧h2.t.get x=some (.cells cs2 st)∧RCs ρc cs cs2∧
       zbF φ φ2 ρc s.objs.length h.n.toNat (bn (h.n.toNat+j))=φ2 x∧w.heap.size≤(φ2 x).blk:=by
      intro j o hj;obtain⟨cs,cs',st,rfl,r1,g1⟩:=a3 j o hj;have hjl:=(Lz0.1 hj).1;have hj1:(s.objs++s.news)[s.objs.length+j]? = some (.cells cs st):=by rw[Lz8 (by omega),Yyn];exact hj
      obtain⟨x,hx⟩:=zaT (s.objs++s.news) 0 _ _ hallc hj1;rw[Yzm]at hx;obtain⟨d1,d2,st2,k1,k2,k3⟩:=hpairc _ x hx;unfold Zn.heap1 at k1;rw[zar,zW,hj1]at k1;cases k1;refine⟨cs,cs',d2,st,x,rfl,r1,g1,hx,k2,k3,agree _ x _ hx ?_,?_⟩
      ·rw[hg,zW,Yze (by omega),Yyn]
      ·rcases H2.own x _ k2 trivial with⟨b,b',q1,q2⟩|q
       ·exfalso;have hb:=hlt b b' q1;have e1:φ2 b=φ b':=(he b hb).trans (xA q1);obtain⟨c1,c2,st3,z1,_,_⟩:=hpair b b' q1;unfold Zn.heap at z1;rw[zar]at z1;obtain⟨c3,st4,z2,z3⟩:=kU s.objs 0 b.toNat _ e2 z1;rw[Yzm,yh]at z3;have:=H2.inj x b _ _ k2 z3 trivial trivial (by rw[q2,e1]);subst this;have hi:=hid x.toNat (by omega);rw[yh]at hi;have:=congrArg BN.toNat (hinjc _ _ _ hx hi)
        grind[zW]
       ·exact q
     have hcase:∀b o,h'.t.get b=some o→(b.toNat<h.n.toNat∧h.t.get b=some o)∨∃j,b=bn (h.n.toNat+j)∧∃o',s.news[j]? = some o':=by
      intro b o hb;by_cases h1:b.toNat<h.n.toNat
      ·grind[yh]
      ·by_cases h3:b.toNat<h.n.toNat+s.news.length
       ·refine .inr ⟨b.toNat-h.n.toNat,?_,_,Lz5 (by omega)⟩;rw[show h.n.toNat+(b.toNat-h.n.toNat)=b.toNat by omega,yh]
       ·have:=a4 b.toNat (by omega);rw[yh]at this;rw[this]at hb;exact absurd (H.keys b o hb) h1
     have hkeep:∀k,k<w.heap.size→(¬∃b b',ρ.get b=some b'∧k=(φ b').blk)→w9.heap[k]? = w.heap[k]?:=fun k hk hS=>H2.kept k hk hS;have hold:∀b o,h.t.get b=some o→ORel φ h.n.toNat w9 b o:=by
      intro b o hb;by_cases hl:live o
      ·by_cases hm:∃c c',ρ.get c=some c'∧(φ b).blk=(φ c').blk
       ·obtain⟨c,c',hρ,hblk⟩:=hm;obtain⟨cs,cs',st,k1,k2,k3⟩:=hpair c c' hρ;have:=H.inj b c' _ _ hb k2 hl trivial hblk;subst this;cases hb.symm.trans k2;have k1':=k1;unfold Zn.heap at k1';rw[zar]at k1';obtain⟨cs2,st2,q1,q2⟩:=kU s.objs 0 c.toNat _ e2 k1';rw[Yzm,yh]at q2;cases q1;obtain⟨arr,e,g1,g2,g3,g4⟩:=H2.obj c _ q2;have ec:φ2 c=φ b:=(he c (hlt _ _ hρ)).trans (xA hρ);obtain⟨_,_,_,_,_,o4⟩:=H.obj b _ hb;refine⟨arr,e,by grind,fun i x hx=>?_,by grind,o4⟩;have hi:i<cs.length:=by
         have:=(Lz0.1 hx).1;have:=k3.1;omega
        obtain⟨x',j1,j2⟩:=k3.2 i cs[i] (Lz5 hi);rw[hx]at j1;cases j1;have:=g2 i cs[i] (Lz5 hi);rw[ec]at this;rw[this,zby j2];have hwc:wfC (via ρ φ) s.heap.n.toNat cs[i]:=zng hlt j2 (o4 x (Lz3 hx))
        grind[ul]
       ·exact(H.obj b o hb).world fun _=>hkeep _ ((H.obj b o hb).there hl) (fun⟨c,c',h1,h2⟩=>hm ⟨c,c',h1,h2⟩)
      ·exact(H.obj b o hb).world fun hh=>absurd hh hl
     have hle':h.n.toNat≤h'.n.toNat:=by omega
     have eold:∀b,b.toNat<h.n.toNat→zbF φ φ2 ρc s.objs.length h.n.toNat b=φ b:=fun b hb=>hext b hb;refine⟨zbF φ φ2 ρc s.objs.length h.n.toNat,by rw[zzq agree hres hrA],hext,?_,zqC agree rng hres hrA hv2,hle'⟩;refine⟨fun b o hb=>?_,fun b o hb=>?_,fun b o hb=>?_,fun b c o o' hb hc hl hl' hh=>?_,fun b o hb hl=>?_,H2.os.trans H.os,H2.tape.trans H.tape,H2.output.trans H.output,Yzr H.size H2.size,Yzr H.drawn H2.drawn,fun k hk hS=>?_,H2.glob,fun b o hb hl=>?_,fun b o hb hl=>?_⟩
     ·rcases hcase b o hb with⟨q,_⟩|⟨j,rfl,o',hj⟩
      ·omega
      ·grind[zW]
     ·rcases hcase b o hb with⟨q,hb'⟩|⟨j,rfl,o',hj⟩
      ·rw[eold b q];exact H.okb b o hb'
      ·obtain⟨cs,cs',cs2,st,x,rfl,r1,g1,hx,g2,r2,ex,fr⟩:=hnew j o' hj;rw[ex];exact H2.okb x _ g2
     ·rcases hcase b o hb with⟨q,hb'⟩|⟨j,rfl,o',hj⟩
      ·exact(hold b o hb').extW (H.okk b o hb') hext.w hle'
      ·obtain⟨cs,cs',cs2,st,x,rfl,r1,g1,hx,g2,r2,ex,fr⟩:=hnew j o' hj;rw[g1]at hb;cases hb;obtain⟨arr,e,z1,z2,z3,z4⟩:=H2.obj x _ g2;refine⟨arr,e,by grind,fun i c hc=>?_,by grind,zeZ agree rng r2 r1 z4⟩;obtain⟨p,hp,hpc⟩:=zwD r1 hc;obtain⟨c2,k1,k2⟩:=r2.2 i p hp;rw[ex,zqD agree k2 hpc]
       grind
     ·rcases hcase b o hb with⟨q,hb'⟩|⟨j,rfl,p,hj⟩
      ·rcases hcase c o' hc with⟨q',hc'⟩|⟨j',rfl,p',hj'⟩
       ·rw[eold b q,eold c q']at hh;exact H.inj b c o o' hb' hc' hl hl' hh
       ·obtain⟨cs,cs',cs2,st,x,rfl,r1,g1,hx,g2,r2,ex,fr⟩:=hnew j' p' hj';have:=(H.obj b o hb').there hl
        grind
      ·obtain⟨cs,cs',cs2,st,x,rfl,r1,g1,hx,g2,r2,ex,fr⟩:=hnew j p hj;rcases hcase c o' hc with⟨q',hc'⟩|⟨j',rfl,p',hj'⟩
       ·have:=(H.obj c o' hc').there hl'
        grind
       ·obtain⟨ds,ds',ds2,st',x',rfl,r1',g1',hx',g2',r2',ex',fr'⟩:=hnew j' p' hj';rw[ex,ex']at hh;have:=H2.inj x x' _ _ g2 g2' trivial trivial hh;subst this;have:=congrArg BN.toNat (hinjc _ _ _ hx hx');rw[zW,zW]at this
        grind
     ·rcases hcase b o hb with⟨q,hb'⟩|⟨j,rfl,o',hj⟩
      ·rw[eold b q];exact H.own b o hb' hl
      ·obtain⟨cs,cs',cs2,st,x,rfl,r1,g1,hx,g2,r2,ex,fr⟩:=hnew j o' hj;rw[ex];exact .inr (Yzr H.size fr)
     ·by_cases hm:∃c c',ρ.get c=some c'∧k=(φ c').blk
      ·obtain⟨c,c',hρ,rfl⟩:=hm;obtain⟨cs,cs',st,_,k2,_⟩:=hpair c c' hρ;rcases H.own c' _ k2 trivial with h1|h1<;>grind
      ·rw[hkeep k (Lz9 hk H.size) hm];exact H.kept k hk hS
     ·rcases hcase b o hb with⟨q,hb'⟩|⟨j,rfl,o',hj⟩
      ·rw[eold b q];exact H.flat b o hb' hl
      ·obtain⟨cs,cs',cs2,st,x,rfl,r1,g1,hx,g2,r2,ex,fr⟩:=hnew j o' hj;rw[ex];exact H2.flat x _ g2 trivial
     ·rcases hcase b o hb with⟨q,hb'⟩|⟨j,rfl,o',hj⟩
      ·rw[eold b q];exact H.ng b o hb' hl
      ·obtain⟨cs,cs',cs2,st,x,rfl,r1,g1,hx,g2,r2,ex,fr⟩:=hnew j o' hj;rw[ex];exact H2.ng x _ g2 trivial
    ·cases ha
   ·cases ha
  trivial
 trivial
theorem qM{g:Nat}{args:List Zb}{r:Zb×Za}:∀(l:List Zn),zaC g args h l=some r→∃s∈l,∃ρ,s.g=g∧s.fits args h=some ρ∧s.app h ρ=some r
 | [],e=>by cases e
 |s::l,e=>by
  unfold zaC at e;cases hq:Nat.beq g s.g with
  |true=>
   rw[hq]at e;simp only[Yza]at e;split at e
   ·simp_all
   ·obtain⟨s',k1,k2⟩:=qM l e
    grind
  |false=>
   rw[hq]at e;obtain⟨s',k1,k2⟩:=qM l e
   grind
theorem zrk{sums:List Zn}(hs:∀s∈sums,uB P s){call:zj}(C:y4 P call):y4 P (zuk sums call):=by
 intro w0 S φ h w args v h2 H hw;refine⟨fun g e=>?_,fun l e=>(C w0 S φ h w args v h2 H hw).2 l e⟩;unfold zuk at e;simp only at e;split at e
 ·rename_i r hf;cases e;obtain⟨s,h1,ρ,rfl,h3,h4⟩:=qM sums hf
  grind[zux]
 ·exact(C w0 S φ h w args v h2 H hw).1 g e
theorem zlv{fs:Nat→Option Zm}(hfs:zuc P fs){sums:List Sum}(hs:∀s∈sums,jM P s){nsums:List Zn}(hn:∀s∈nsums,uB P s):∀n,y4 P (zjt (ye P) fs sums nsums n)
 |0=>zfE
 |n+1=>zrk hn (ze4 hs (zgu (zlv hfs hs hn n) hfs n))
end
end Go.CE
end
section
namespace Go.CE
open Go.RowKit
noncomputable section
structure Srt where
 f:List Nat
 st:Nat
def ltZ:List Int→List Int→Bool
 |a::as,b::bs=>if a<b then true else if b<a then false else ltZ as bs
 |_,_=>false
def leZ(a b:List Int):Bool:=!ltZ b a
def inZ(r:List Int):Bool:=r.all fun a=>decide (-2305843009213693952≤a)&&decide (a≤2305843009213693952)
def zhV(k:Nat)(r:List Int):Prop:=r.length=k∧inZ r=true
def qB(l:List (List Int)):List (List Int):=l.mergeSort leZ
def ztZ(a b:List Int):Int:=if ltZ a b=true then -1 else if ltZ b a=true then 1 else 0
def xm(l:List (List Int)):List Zc:=l.flatten.map (Zc.int .i64)
open Classical in
def zbA(t:Srt):List Zb→Za→Res
 | [.s (.one .nils),.s (.one (.fn f []))],h=>if f∈t.f then some (.tup [],h) else none
 | [.s (.one (.slc b off len _ _)),.s (.one (.fn f []))],h=>
  if H:f∈t.f∧off=0∧∃l:List (List Int),l.length=len∧(∀r∈l,zhV t.st r)∧h.t.get b=some (.cells (xm l) t.st)∧len<4611686018427387904 then
   some (.tup [],h.put b (.cells (xm (qB (Classical.choose H.2.2))) t.st))
  else none
 |_,_=>none
def ze3(srt:Nat→Option Srt)(call:zj):zj
 | .inl g,args,h=>
  match srt g with
  |some t=>zbA t args h
  |none=>call (.inl g) args h
 | .inr l,args,h=>call (.inr l) args h
def yk(cc:Nat→Code→xV)(fs:Nat→Option Zm)(sums:List Sum)(srt:Nat→Option Srt)(n:Nat):zj:=
 Nat.rec (motive:=fun _=>zj) (fun _ _ _=>none) (fun f ih=>ze3 srt (zdN sums (zbO cc fs ih f))) n
end
theorem zkk{st:Nat}:∀{l l':List (List Int)},l.length=l'.length→(∀r∈l,r.length=st)→(∀r∈l',r.length=st)→l.flatten=l'.flatten→l=l'
 | [],[],_,_,_,_=>rfl
 |r::l,r'::l',hl,h,h',e=>by rw[List.flatten_cons,List.flatten_cons]at e;have hr:r.length=r'.length:=(h r (Yzh ..)).trans (h' r' (Yzh ..)).symm;obtain⟨e1,e2⟩:=List.append_inj e hr;rw[e1,zkk (by grind) (fun x hx=>h x (Yzf _ hx)) (fun x hx=>h' x (Yzf _ hx)) e2]
 | [],_::_,hl,_,_,_=>by simp at hl
 |_::_,[],hl,_,_,_=>by simp at hl
theorem int_inj:∀{l l':List Int},l.map (Zc.int .i64)=l'.map (Zc.int .i64)→l=l'
 | [],[],_=>rfl
 |a::l,b::l',e=>by simp only[Yzy,List.cons.injEq,Zc.int.injEq,true_and]at e;rw[e.1,int_inj e.2]
 | [],_::_,e=>by simp at e
 |_::_,[],e=>by simp at e
theorem zd5{t:Srt}{f:Nat}(hf:f∈t.f)(h:Za):zbA t [.s (.one .nils),.s (.one (.fn f []))] h=some (.tup [],h):=Yze hf
theorem zl1{t:Srt}{f:Nat}(hf:f∈t.f){b:BN}{len cap:Nat}{ex:Bool}{h:Za}{l:List (List Int)}(h1:l.length=len)(h2:∀r∈l,zhV t.st r)(h3:h.t.get b=some (.cells (xm l) t.st))(h4:len<4611686018427387904):
  zbA t [.s (.one (.slc b 0 len cap ex)),.s (.one (.fn f []))] h=some (.tup [],h.put b (.cells (xm (qB l)) t.st)):=by
 have H:f∈t.f∧0=0∧∃l:List (List Int),l.length=len∧(∀r∈l,zhV t.st r)∧h.t.get b=some (.cells (xm l) t.st)∧len<4611686018427387904:=⟨hf,rfl,l,h1,h2,h3,h4⟩;unfold zbA;simp only;rw[dif_pos H];obtain⟨k1,k2,k3,_⟩:=Classical.choose_spec H.2.2;have e:Classical.choose H.2.2=l:=zkk (k1.trans h1.symm) (fun r hr=>(k2 r hr).1) (fun r hr=>(h2 r hr).1) (int_inj (Zg.cells.inj (Option.some.inj (h3.symm.trans k3))).1.symm);rw[e]
theorem zl2{t:Srt}{args:List Zb}{h h2:Za}{v:Zb}(e:zbA t args h=some (v,h2)):v=.tup []∧∃f∈t.f,((args=[.s (.one .nils),.s (.one (.fn f []))]∧h2=h)∨
  ∃b len cap ex l,args=[.s (.one (.slc b 0 len cap ex)),.s (.one (.fn f []))]∧l.length=len∧(∀r∈l,zhV t.st r)∧h.t.get b=some (.cells (xm l) t.st)∧len<4611686018427387904∧h2=h.put b (.cells (xm (qB l)) t.st)):=by
 unfold zbA at e;split at e
 ·grind
 ·rename_i b off len cap ex f;split at e<;>grind
 ·cases e
def zhU(P:Program)(g:Nat)(t:Srt):Prop:=
 ∀(w0:World) (S:Nat→Prop) (φ:Phi) (h:Za) (w:World) (args:List Zb) (v:Zb) (h2:Za),Zd w0 S φ h w→(∀x∈args,wfA φ h.n.toNat x)→zbA t args h=some (v,h2)→
  (∀as w,(callFunc g as).run P w=.ok (.enter g as) w)∧CallsIn (FR none) 0 P g (args.map (zz φ)).toArray w (Ret w0 S φ h v h2)
theorem zrj{P:Program}{srt:Nat→Option Srt}(hs:∀g t,srt g=some t→zhU P g t){call:zj}(C:y4 P call):y4 P (ze3 srt call):=by
 intro w0 S φ h w args v h2 H hw;refine⟨fun g e=>?_,fun l e=>(C w0 S φ h w args v h2 H hw).2 l e⟩;unfold ze3 at e;simp only at e;split at e
 ·rename_i t ht;exact hs g t ht w0 S φ h w args v h2 H hw e
 ·exact(C w0 S φ h w args v h2 H hw).1 g e
theorem zgq{P:Program}{fs:Nat→Option Zm}(hfs:zuc P fs){sums:List Sum}(hs:∀s∈sums,jM P s){srt:Nat→Option Srt}(ht:∀g t,srt g=some t→zhU P g t):∀n,y4 P (yk (ye P) fs sums srt n)
 |0=>zfE
 |n+1=>zrj ht (ze4 hs (zgu (zgq hfs hs ht n) hfs n))
def zx3:Nat→Option Srt:=fun _=>none
theorem zr8{P:Program}:∀g t,zx3 g=some t→zhU P g t:=fun g t e=>by cases e
end Go.CE
end
section
namespace Go.CE
noncomputable section
abbrev Fr:=Nat→Zb
def wu(t:Tr Zb):Fr:=fun i=>zlO (bn i) t
def coK(r:Fr):Operand→Option Opd
 | .tmp t=>some (zD (r t))
 | .const v=>match zqk v with|some s=>some (zD (.s s))|none=>none
 | .func f=>some (zD (.s (.one (.fn f []))))
 | .global g=>match zbd g with|some _=>some (zD (.s (.one (.gptr g 0))))|none=>none
def qy(co:Operand→Option Opd):List Operand→Option (List Opd)
 | []=>some []
 |x::xs=>
  match co x,qy co xs with
  |some y,some ys=>some (y::ys)
  |_,_=>none
def zbq(co:Operand→Option Opd):Option Operand→Option (Option Opd)
 |none=>some none
 |some x=>match co x with|some y=>some (some y)|none=>none
section
variable (P:Program)
def wC(co:Operand→Option Opd)(fs:Array Field):List (Nat×Operand)→Option (List (Nat×Nat×Opd))
 | []=>some []
 |(i,x)::r=>
  match fs[i]?,co x,wC co fs r with
  |some f,some y,some rest=>
   match P.info? f.type with
   |some info=>some ((f.offset,info.size,y)::rest)
   |none=>none
  |_,_,_=>none
def wG(co:Operand→Option Opd)(size:Nat):List (Nat×Operand)→Option (List (Nat×Nat×Opd))
 | []=>some []
 |(i,x)::r=>
  match co x,wG co size r with
  |some y,some rest=>some ((i*size,size,y)::rest)
  |_,_=>none
def xH(co:Operand→Option Opd)(o:Op):zdX:=zT <| match o with
 | .move x | .assign x=>(co x).map zkA
 | .pick c a b=>do pure (jV (←co c) (←co a) (←co b))
 | .alloc t=>bif zas P t then do pure (zcf t (←yA P t).cells) else do pure (zcV (←yA P t).cells)
 | .box _ x=>do pure (zfD (←co x))
 | .build t parts=>
  match P.underlying t,yA P t with
  |some (.struct fs),some z=>bif qW P fs.toList then do pure (ui z.cells (←wC P co fs parts.toList)) else none
  |some (.array _ e),some z=>
   match P.info? e with
   |some i=>do pure (ui z.cells (←wG co i.size parts.toList))
   |none=>none
  |_,_=>none
 | .buildSlice t len parts=>
  match P.underlying t with
  |some (.slice e)=>
   match P.info? e with
   |some i=>
    bif Nat.ble (len*i.size) 16777216 then
     match (bif Nat.beq (len*i.size) 0 then some [] else(yA P e).map SVal.cells) with
     |some zs=>bif Nat.beq (len*i.size) 0||Nat.beq zs.length i.size then do pure (vS i.size len (uE zs len) (←wG co i.size parts.toList)) else none
     |none=>none
    else none
   |none=>none
  |_=>none
 | .load t x=>do pure (jY (←wy P t) (←co x))
 | .store t x v=>do pure (za2 (←P.info? t).size (←co x) (←co v))
 | .nilCheck x=>do pure (ud (←co x))
 | .binOp op t x y _=>
  match P.underlying t with
  |some (.int _)=>
   match op with
   | .shl=>do pure (wT zf9 (←co x) (←co y))
   | .shr=>do pure (wT zf8 (←co x) (←co y))
   |op=>do pure (zbZ (uG op) (←co x) (←co y))
  |some .string=>do pure (zcP op (←co x) (←co y))
  |some (.slice _)=>
   match op with
   | .eql=>do pure (uP false (←co x) (←co y))
   | .neq=>do pure (uP true (←co x) (←co y))
   |_=>none
  |some (.pointer e)=>
   bif wA P e then
   match op with
   | .eql=>do pure (uc false (←co x) (←co y))
   | .neq=>do pure (uc true (←co x) (←co y))
   |_=>none
   else none
  |some (.func _ _ _)=>
   match op with
   | .eql=>do pure (jW false (←co x) (←co y))
   | .neq=>do pure (jW true (←co x) (←co y))
   |_=>none
  |some _=>
   bif P.eqGuardType P.depth t then none else
   match op with
   | .eql=>do pure (zkB (←u7 P t) false (←co x) (←co y))
   | .neq=>do pure (zkB (←u7 P t) true (←co x) (←co y))
   |_=>none
  |none=>none
 | .unOp .not _ x=>do pure (zcQ (←co x))
 | .unOp .neg _ x=>do pure (zcR (←co x))
 | .convert s d x=>
  match P.underlying s,P.underlying d with
  |some (.int _),some (.int k)=>do pure (j5 k (←co x))
  |some .string,some (.slice e)=>bif y8 P e then do pure (zmp (←co x)) else none
  |some (.slice e),some .string=>bif y8 P e then do pure (zam (←co x)) else none
  |some (.pointer e),some .unsafePointer=>bif wA P e then do pure (zfC (←co x)) else none
  |some .unsafePointer,some (.pointer u)=>bif zmM P u then do pure (zfB u (P.cellsOf u) (←co x)) else none
  |_,_=>none
 | .makeFunc (.func f) first captured=>bif first.isEmpty then do pure (jX f (←qy co captured.toList)) else none
 | .makeMap _ none=>some zcT
 | .makeSlice t l c=>
  match P.underlying t with
  |some (.slice e)=>
   match P.info? e,yA P e with
   |some i,some z=>bif Nat.beq z.cells.length i.size && !Nat.beq i.size 0 then do pure (wq i.size z.cells i.bytes (←co l) (←co c)) else none
   |_,_=>none
  |_=>none
 | .slice t x lo hi mx=>
  match P.underlying t with
  |some (.slice e)=>
   match P.info? e with
   |some i=>bif mx.isSome && !hi.isSome then none else do pure (ub i.size (←co x) (←zbq co lo) (←zbq co hi) (←zbq co mx))
   |none=>none
  |some (.array n e)=>
   match P.info? e with
   |some i=>bif mx.isSome && !hi.isSome then none else do pure (vR n i.size (←co x) (←zbq co lo) (←zbq co hi) (←zbq co mx))
   |none=>none
  |some .string=>bif mx.isSome then none else do pure (wh (←co x) (←zbq co lo) (←zbq co hi))
  |_=>none
 | .fieldAddr t x f=>
  match P.underlying t with
  |some (.struct fs)=>
   match fs[f]? with
   |some fd=>
    match P.info? fd.type with
    |some i=>bif Nat.beq i.size 0 then none else do pure (j4 (←co x) fd.offset)
    |none=>none
   |none=>none
  |_=>none
 | .field t x f=>
  match P.underlying t with
  |some (.struct fs)=>
   match fs[f]? with
   |some fd=>do pure (uh (←co x) fd.offset (←wy P fd.type))
   |none=>none
  |_=>none
 | .indexAddr t x i=>
  match P.underlying t with
  |some (.slice e)=>
   match P.info? e with
   |some info=>do pure (zcU info.size (←co x) (←co i))
   |none=>none
  |some (.array len e)=>
   match P.info? e with
   |some info=>do pure (uf len info.size (←co x) (←co i))
   |none=>none
  |_=>none
 | .index t x i=>
  match P.underlying t with
  |some (.array len e)=>
   match P.info? e with
   |some info=>do pure (ug len info.size (←wy P e) (←co x) (←co i))
   |none=>none
  |some .string=>do pure (ue (←co x) (←co i))
  |_=>none
 | .lookup t m k ok=>
  match P.underlying t with
  |some (.map key e)=>do pure (wZ (←u7 P key) (←yA P e) ok (←co m) (←co k))
  |_=>none
 | .mapUpdate t m k v | .insert t m k v=>
  match P.underlying t with
  |some (.map key _)=>do pure (zcS (←u7 P key) (←co m) (←co k) (←co v))
  |_=>none
 | .mapEntry t m k=>
  match P.underlying t with
  |some (.map key e)=>do pure (zak (←u7 P key) (←yA P e) (←co m) (←co k))
  |_=>none
 | .entryStore _ m s v=>do pure (zal (←co m) (←co s) (←co v))
 | .extract x i=>do pure (x6 (←co x) i)
 | .call c=>
  match c.callee with
  | .value f=>bif Nat.beq (qN P f) 0 then do pure (zem (←co f) (←qy co c.args.toList)) else zy1 co (qN P f) c.args.toList
  | .builtin .unsafeSliceData=>
   match c.args.toList with
   | [x]=>do pure (ua (←co x))
   |_=>none
  | .builtin .unsafeString=>
   match c.argTypes.toList,c.args.toList with
   | [pt,_],[x,n]=>
    match P.underlying pt with
    |some (.pointer e)=>bif y8 P e&&Nat.beq (P.cellsOf e) 1 then do pure (zg7 e (←co x) (←co n)) else none
    |_=>none
   |_,_=>none
  | .builtin .cap=>
   match c.argTypes[0]?,c.args[0]? with
   |some t,some x=>
    match P.underlying t with
    |some (.slice _)=>do pure (zoB (←co x))
    |_=>none
   |_,_=>none
  | .builtin .copy=>
   match c.argTypes.toList,c.args.toList with
   | [t,t2],[d,s]=>
    match P.underlying t,P.underlying t2 with
    |some (.slice e),some (.slice _)=>
     match P.info? e with
     |some i=>bif Nat.beq i.size 0 then none else do pure (zg8 i.size (←co d) (←co s))
     |none=>none
    |_,_=>none
   |_,_=>none
  | .builtin .len=>
   match c.argTypes[0]?,c.args[0]? with
   |some t,some x=>
    match P.underlying t with
    |some .string=>do pure (jZ (←co x))
    |some (.slice _)=>do pure (j0 (←co x))
    |some (.map _ _)=>do pure (qt (←co x))
    |some (.array n _)=>some (zkA (zD (.s (.one (.int .i64 (.ofNat n))))))
    |_=>none
   |_,_=>none
  | .builtin .append=>
   match c.argTypes.toList,c.args.toList with
   | [t,t2],[s,x]=>
    match P.underlying t with
    |some (.slice e)=>
     match P.info? e,yA P e with
     |some i,some z=>
      bif Nat.beq z.cells.length i.size && !Nat.beq i.size 0 then
       match P.underlying t2 with
       |some (.slice _)=>bif y8 P e&&Nat.beq i.size 1 then do pure (j7 e i.bytes (←co s) (←co x)) else do pure (wi false i.size i.bytes (←co s) (←co x))
       |some .string=>bif Nat.beq i.size 1 then do pure (j6 e i.bytes (←co s) (←co x)) else none
       |_=>none
      else none
     |_,_=>none
    |_=>none
   |_,_=>none
  | .builtin .clear=>
   match c.argTypes[0]?,c.args[0]? with
   |some t,some x=>
    match P.underlying t with
    |some (.slice e)=>
     match P.info? e,yA P e with
     |some i,some z=>bif Nat.beq z.cells.length i.size && !Nat.beq i.size 0 then do pure (za3 i.size z.cells (←co x)) else none
     |_,_=>none
    |_=>none
   |_,_=>none
  | .builtin .max=>
   match qy co c.args.toList with
   |some (x::xs)=>some (xG true x xs)
   |_=>none
  | .builtin .min=>
   match qy co c.args.toList with
   |some (x::xs)=>some (xG false x xs)
   |_=>none
  |_=>none
 |_=>none
end
end
section
variable {P:Program} {t:Tr Zb}
def OR(t:Tr Zb)(a b:Option Opd):Prop:=(a=none∧b=none)∨∃x y,a=some x∧b=some y∧x .nil=y t
theorem zV(x:Operand):OR t (coK (wu t) x) (yd x):=by
 cases x with
 |tmp i=>exact .inr ⟨_,_,rfl,rfl,rfl⟩
 |const v=>
  simp only[coK,yd];cases zqk v with
  |none=>exact .inl ⟨rfl,rfl⟩
  |some s=>exact .inr ⟨_,_,rfl,rfl,rfl⟩
 |func f=>exact .inr ⟨_,_,rfl,rfl,rfl⟩
 |global g=>
  simp only[coK,yd];cases zbd g with
  |none=>exact .inl ⟨rfl,rfl⟩
  |some q=>exact .inr ⟨_,_,rfl,rfl,rfl⟩
def LR(t:Tr Zb):List Opd→List Opd→Prop
 | [],[]=>True
 |x::xs,y::ys=>x .nil=y t∧LR t xs ys
 |_,_=>False
theorem zds:∀l:List Operand,(qy (coK (wu t)) l=none∧uJ l=none)∨∃xs ys,qy (coK (wu t)) l=some xs∧uJ l=some ys∧LR t xs ys
 | []=>.inr ⟨[],[],rfl,rfl,trivial⟩
 |x::l=>by
  simp only[qy,uJ];rcases zV (t:=t) x with⟨h1,h2⟩|⟨a,b,h1,h2,h3⟩
  ·grind
  ·rw[h1,h2];rcases zds l with⟨k1,k2⟩|⟨as,bs,k1,k2,k3⟩
   ·grind
   ·rw[k1,k2];exact .inr ⟨_,_,rfl,rfl,h3,k3⟩
def PR(t:Tr Zb):List (Nat×Nat×Opd)→List (Nat×Nat×Opd)→Prop
 | [],[]=>True
 |x::xs,y::ys=>x.1=y.1∧x.2.1=y.2.1∧x.2.2 .nil=y.2.2 t∧PR t xs ys
 |_,_=>False
theorem qu(fs:Array Field):∀l:List (Nat×Operand),(wC P (coK (wu t)) fs l=none∧wk P fs l=none)∨∃xs ys,wC P (coK (wu t)) fs l=some xs∧wk P fs l=some ys∧PR t xs ys
 | []=>.inr ⟨[],[],rfl,rfl,trivial⟩
 |(i,x)::l=>by
  simp only[wC,wk];cases fs[i]? with
  |none=>simp
  |some f=>
   rcases zV (t:=t) x with⟨h1,h2⟩|⟨a,b,h1,h2,h3⟩
   ·grind
   ·rw[h1,h2];rcases qu fs l with⟨k1,k2⟩|⟨as,bs,k1,k2,k3⟩
    ·grind
    ·rw[k1,k2];simp only;cases P.info? f.type with
     |none=>simp
     |some i=>exact .inr ⟨_,_,rfl,rfl,rfl,rfl,h3,k3⟩
theorem ju(n:Nat):∀l:List (Nat×Operand),(wG (coK (wu t)) n l=none∧xT n l=none)∨∃xs ys,wG (coK (wu t)) n l=some xs∧xT n l=some ys∧PR t xs ys
 | []=>.inr ⟨[],[],rfl,rfl,trivial⟩
 |(i,x)::l=>by
  simp only[wG,xT];rcases zV (t:=t) x with⟨h1,h2⟩|⟨a,b,h1,h2,h3⟩
  ·grind
  ·rw[h1,h2];rcases ju n l with⟨k1,k2⟩|⟨as,bs,k1,k2,k3⟩
   ·grind
   ·rw[k1,k2];exact .inr ⟨_,_,rfl,rfl,rfl,rfl,h3,k3⟩
theorem zaE:∀(xs ys:List (Nat×Nat×Opd)) (cs:List Zc),PR t xs ys→zaF .nil xs cs=zaF t ys cs
 | [],[],_,_=>rfl
 |(a,b,x)::xs,(a',b',y)::ys,cs,⟨h1,h2,h3,h4⟩=>by
  simp only at h1 h2 h3;subst h1 h2;simp only[zaF];rw[h3];cases y t with
  |tup _=>rfl
  |s v=>
   simp only;cases kg v.cells b with
   |false=>rfl
   |true=>
    simp only[Yza];cases putAt v.cells cs a with
    |none=>rfl
    |some cs'=>exact zaE xs ys cs' h4
theorem zpd:∀(xs ys:List Opd),LR t xs ys→xs.map (fun x=>x .nil)=ys.map (fun x=>x t)
 | [],[],_=>rfl
 |x::xs,y::ys,⟨h1,h2⟩=>by rw[Yzy,Yzy,h1,zpd xs ys h2]
theorem zkr:∀(xs ys:List Opd),LR t xs ys→zom .nil xs=zom t ys
 | [],[],_=>rfl
 |x::xs,y::ys,⟨h1,h2⟩=>by simp only[zom];rw[h1,zkr xs ys h2]
theorem zfH(m:Bool)(k:IntKind):∀(xs ys:List Opd) (z:Int),LR t xs ys→zrd m k .nil xs z=zrd m k t ys z
 | [],[],_,_=>rfl
 |x::xs,y::ys,z,⟨h1,h2⟩=>by
  simp only[zrd];rw[h1];split
  ·rename_i k' y' _;cases eqK k k' with
   |false=>rfl
   |true=>exact zfH m k xs ys _ h2
  ·rfl
def QR(t:Tr Zb)(a b:Option Opd):Prop:=(a=none∧b=none)∨∃x y,a=some x∧b=some y∧x .nil=y t
theorem QR.bnd{a b:Option Opd}(h:QR t a b)(d y:Nat):bnd .nil a d y=CE.bnd t b d y:=by
 rcases h with⟨rfl,rfl⟩|⟨x,z,rfl,rfl,h⟩
 ·rfl
 ·grind[CE.bnd]
theorem jU(x:Option Operand):(zbq (coK (wu t)) x=none∧qY x=none)∨∃a b,zbq (coK (wu t)) x=some a∧qY x=some b∧QR t a b:=by
 cases x with
 |none=>exact .inr ⟨none,none,rfl,rfl,.inl ⟨rfl,rfl⟩⟩
 |some x=>
  simp only[zbq,qY];rcases zV (t:=t) x with⟨h1,h2⟩|⟨a,b,h1,h2,h3⟩
  ·grind
  ·rw[h1,h2];exact .inr ⟨_,_,rfl,rfl,.inr ⟨_,_,rfl,rfl,h3⟩⟩
theorem ziQ{lo hi mx lo' hi' mx':Option Opd}(h1:QR t lo lo')(h2:QR t hi hi')(h3:QR t mx mx')(st:Nat)(h:Za)(b:BN)(off len cap:Nat):
  xP st lo hi mx .nil h b off len cap=xP st lo' hi' mx' t h b off len cap:=by
 have e1:=h1.bnd;have e2:=h2.bnd;have e3:=h3.bnd;rcases h3 with⟨rfl,rfl⟩|⟨x,z,rfl,rfl,h⟩
 ·grind[xP]
 ·rcases h2 with⟨rfl,rfl⟩|⟨x',z',rfl,rfl,h'⟩
  ·grind[xP]
  ·grind[xP]
variable (call:zj) (h:Za)
theorem zqn(o:Op):xH P (coK (wu t)) o call .nil h=cOp P o call t h:=by
 cases o with
 |move x=>rcases zV (t:=t) x with⟨h1,h2⟩|⟨a,b,h1,h2,h3⟩<;>simp only[xH,cOp,zT,Option.map_none,Yz0,zkA,xz, *]
 |assign x=>rcases zV (t:=t) x with⟨h1,h2⟩|⟨a,b,h1,h2,h3⟩<;>simp only[xH,cOp,zT,Option.map_none,Yz0,zkA,xz, *]
 |pick c a b=>rcases zV (t:=t) c with⟨h1c,h2c⟩|⟨oac,obc,h1c,h2c,h3c⟩<;>rcases zV (t:=t) a with⟨h1a,h2a⟩|⟨oaa,oba,h1a,h2a,h3a⟩<;>rcases zV (t:=t) b with⟨h1b,h2b⟩|⟨oab,obb,h1b,h2b,h3b⟩<;>simp[xH,cOp,zT,xz,jV, *]
 |alloc ty=>simp only[xH,cOp];cases zas P ty<;>cases yA P ty<;>rfl
 |box ty x=>rcases zV (t:=t) x with⟨h1,h2⟩|⟨a,b,h1,h2,h3⟩<;>simp[xH,cOp,zT,xz,zfD, *]
 |build ty parts=>
  simp only[xH,cOp];cases P.underlying ty with
  |none=>rfl
  |some u=>
   cases yA P ty with
   |none=>cases u<;>rfl
   |some z=>
    cases u with
    |struct fs=>
     simp only;cases qW P fs.toList with
     |false=>rfl
     |true=>
      rcases qu (P:=P) (t:=t) fs parts.toList with⟨h1,h2⟩|⟨xs,ys,h1,h2,h3⟩
      ·simp only[Yza,h1,h2];rfl
      ·simp only[Yza,h1,h2,Yz4,Yz2,Yyd,zT,ui,zaE _ _ _ h3]
    |array n e=>
     simp only;cases P.info? e with
     |none=>rfl
     |some i=>
      rcases ju (t:=t) i.size parts.toList with⟨h1,h2⟩|⟨xs,ys,h1,h2,h3⟩
      ·simp only[h1,h2];rfl
      ·simp only[h1,h2,Yz4,Yz2,Yyd,zT,ui,zaE _ _ _ h3]
    |_=>rfl
 |buildSlice ty len parts=>
  simp only[xH,cOp];cases P.underlying ty with
  |none=>rfl
  |some u=>
   cases u with
   |slice e=>
    simp only;cases P.info? e with
    |none=>rfl
    |some i=>
     simp only;cases Nat.ble (len*i.size) 16777216 with
     |false=>rfl
     |true=>
      simp only[Yza];generalize (bif Nat.beq (len*i.size) 0 then some [] else(yA P e).map SVal.cells)=q;cases q with
      |none=>rfl
      |some zs=>
       simp only;generalize (Nat.beq (len*i.size) 0||Nat.beq zs.length i.size)=q2;cases q2 with
       |false=>rfl
       |true=>
        rcases ju (t:=t) i.size parts.toList with⟨h1,h2⟩|⟨xs,ys,h1,h2,h3⟩
        ·simp only[Yza,h1,h2];rfl
        ·simp only[Yza,h1,h2,Yz4,Yz2,Yyd,zT,vS,zaE _ _ _ h3]
   |_=>rfl
 |load ty x=>
  simp only[xH,cOp];cases wy P ty with
  |none=>rfl
  |some n=>rcases zV (t:=t) x with⟨h1,h2⟩|⟨a,b,h1,h2,h3⟩<;>simp[zT,xz,jY, *]
 |store ty x v=>
  simp only[xH,cOp];cases P.info? ty with
  |none=>rfl
  |some n=>rcases zV (t:=t) x with⟨h1x,h2x⟩|⟨oax,obx,h1x,h2x,h3x⟩<;>rcases zV (t:=t) v with⟨h1v,h2v⟩|⟨oav,obv,h1v,h2v,h3v⟩<;>simp[zT,xz,za2, *]
 |nilCheck x=>rcases zV (t:=t) x with⟨h1,h2⟩|⟨a,b,h1,h2,h3⟩<;>simp[xH,cOp,zT,xz,ud, *]
 |binOp op ty x y ty2=>
  simp only[xH,cOp];cases P.underlying ty with
  |none=>rfl
  |some u=>
   by_cases hu:∃te,u=.pointer te
   ·obtain⟨te,rfl⟩:=hu;simp only;cases wA P te with
    |false=>rfl
    |true=>rcases zV (t:=t) x with⟨h1x,h2x⟩|⟨oax,obx,h1x,h2x,h3x⟩<;>rcases zV (t:=t) y with⟨h1y,h2y⟩|⟨oay,oby,h1y,h2y,h3y⟩<;>cases op<;>first|rfl|simp[zT,xz,uc, *]
   ·rcases zV (t:=t) x with⟨h1x,h2x⟩|⟨oax,obx,h1x,h2x,h3x⟩<;>rcases zV (t:=t) y with⟨h1y,h2y⟩|⟨oay,oby,h1y,h2y,h3y⟩<;>simp only[h1x,h2x,h1y,h2y]
    all_goals (cases u<;>first|rfl|(exfalso;exact hu ⟨_,rfl⟩)|skip)
    all_goals (clear hu)
    all_goals (try generalize P.eqGuardType P.depth ty=q)
    all_goals (try generalize u7 P ty=q2)
    all_goals (cases op<;>first|rfl|simp only[Yz4,Yz2,Option.bind_none,Yyd,zT,zbZ,wT,zcP,uP,jW, *])
    all_goals (cases q<;>first|rfl|skip)
    all_goals (cases q2<;>first|rfl|simp only[Yzd,Yz2,zkB, *])
 |unOp op ty x=>cases op<;>first|rfl|(rcases zV (t:=t) x with⟨h1,h2⟩|⟨a,b,h1,h2,h3⟩<;>simp[xH,cOp,zT,xz,zcQ,zcR, *])
 |convert s d x=>
  simp only[xH,cOp];cases P.underlying s with
  |none=>rfl
  |some u=>
   cases P.underlying d with
   |none=>cases u<;>rfl
   |some u2=>
    cases u<;>first|rfl|skip
    all_goals (cases u2<;>first|rfl|skip)
    case string.slice el=>cases hb:y8 P el<;>rcases zV (t:=t) x with⟨h1,h2⟩|⟨a,b,h1,h2,h3⟩<;>simp[zT,xz,zmp, *]
    case slice.string el=>cases hb:y8 P el<;>rcases zV (t:=t) x with⟨h1,h2⟩|⟨a,b,h1,h2,h3⟩<;>simp[zT,xz,zam, *]
    case pointer.unsafePointer el=>cases hb:wA P el<;>rcases zV (t:=t) x with⟨h1,h2⟩|⟨a,b,h1,h2,h3⟩<;>simp[zT,xz,zfC, *]
    case unsafePointer.pointer el=>cases hb:zmM P el<;>rcases zV (t:=t) x with⟨h1,h2⟩|⟨a,b,h1,h2,h3⟩<;>simp[zT,xz,zfB, *]
    all_goals (rcases zV (t:=t) x with⟨h1,h2⟩|⟨a,b,h1,h2,h3⟩<;>simp[zT,xz,j5, *])
 |makeFunc fn first captured=>
  cases fn<;>first|rfl|skip
  simp only[xH,cOp];cases first.isEmpty with
  |false=>rfl
  |true=>
   rcases zds (t:=t) captured.toList with⟨h1,h2⟩|⟨xs,ys,h1,h2,h3⟩
   ·simp only[Yza,h1,h2];rfl
   ·simp only[Yza,h1,h2,Yz4,Yz2,Yyd,zT,jX,zkr _ _ h3]
 |makeMap ty r=>cases r<;>rfl
 |makeSlice ty l c=>
  simp only[xH,cOp];cases P.underlying ty with
  |none=>rfl
  |some u=>
   cases u with
   |slice e=>
    simp only;cases P.info? e with
    |none=>rfl
    |some i=>
     cases yA P e with
     |none=>rfl
     |some z=>
      simp only;generalize (Nat.beq z.cells.length i.size && !Nat.beq i.size 0)=q;cases q with
      |false=>rfl
      |true=>rcases zV (t:=t) l with⟨h1l,h2l⟩|⟨oal,obl,h1l,h2l,h3l⟩<;>rcases zV (t:=t) c with⟨h1c,h2c⟩|⟨oac,obc,h1c,h2c,h3c⟩<;>simp[zT,xz,wq, *]
   |_=>rfl
 |slice ty x lo hi mx=>
  simp only[xH,cOp];cases P.underlying ty with
  |none=>rfl
  |some u=>
   cases u with
   |slice e=>
    simp only;cases P.info? e with
    |none=>rfl
    |some i=>
     simp only;generalize (mx.isSome && !hi.isSome)=q;cases q with
     |true=>rfl
     |false=>
      rcases zV (t:=t) x with⟨h1x,h2x⟩|⟨oax,obx,h1x,h2x,h3x⟩
      ·simp only[h1x,h2x,Yzd];rfl
      ·rcases jU (t:=t) lo with⟨k1,k2⟩|⟨l1,l2,k1,k2,k3⟩
       ·simp only[h1x,h2x,k1,k2,Yzd];rfl
       ·rcases jU (t:=t) hi with⟨m1,m2⟩|⟨g1,g2,m1,m2,m3⟩
        ·simp only[h1x,h2x,k1,k2,m1,m2,Yzd];rfl
        ·rcases jU (t:=t) mx with⟨n1,n2⟩|⟨j1,j2,n1,n2,n3⟩
         ·simp only[h1x,h2x,k1,k2,m1,m2,n1,n2,Yzd];rfl
         ·simp only[h1x,h2x,k1,k2,m1,m2,n1,n2,Yzd,Yz4,Yz2,Yyd,zT,ub,h3x,wg,xW,ziQ k3 m3 n3,k3.bnd,m3.bnd,n3.bnd]
   |array len e=>
    simp only;cases P.info? e with
    |none=>rfl
    |some i=>
     simp only;generalize (mx.isSome && !hi.isSome)=q;cases q with
     |true=>rfl
     |false=>
      rcases zV (t:=t) x with⟨h1x,h2x⟩|⟨oax,obx,h1x,h2x,h3x⟩
      ·simp only[h1x,h2x,Yzd];rfl
      ·rcases jU (t:=t) lo with⟨k1,k2⟩|⟨l1,l2,k1,k2,k3⟩
       ·simp only[h1x,h2x,k1,k2,Yzd];rfl
       ·rcases jU (t:=t) hi with⟨m1,m2⟩|⟨g1,g2,m1,m2,m3⟩
        ·simp only[h1x,h2x,k1,k2,m1,m2,Yzd];rfl
        ·rcases jU (t:=t) mx with⟨n1,n2⟩|⟨j1,j2,n1,n2,n3⟩
         ·simp only[h1x,h2x,k1,k2,m1,m2,n1,n2,Yzd];rfl
         ·simp only[h1x,h2x,k1,k2,m1,m2,n1,n2,Yzd,Yz4,Yz2,Yyd,zT,vR,h3x,xW,k3.bnd,m3.bnd,n3.bnd]
   |string=>
    simp only;cases mx.isSome with
    |true=>rfl
    |false=>
     rcases zV (t:=t) x with⟨h1x,h2x⟩|⟨oax,obx,h1x,h2x,h3x⟩
     ·simp only[h1x,h2x,Yzd];rfl
     ·rcases jU (t:=t) lo with⟨k1,k2⟩|⟨l1,l2,k1,k2,k3⟩
      ·simp only[h1x,h2x,k1,k2,Yzd];rfl
      ·rcases jU (t:=t) hi with⟨m1,m2⟩|⟨g1,g2,m1,m2,m3⟩
       ·simp only[h1x,h2x,k1,k2,m1,m2,Yzd];rfl
       ·simp only[h1x,h2x,k1,k2,m1,m2,Yzd,Yz4,Yz2,Yyd,zT,wh,h3x,k3.bnd,m3.bnd]
   |_=>rfl
 |fieldAddr ty x f=>
  simp only[xH,cOp];cases P.underlying ty with
  |none=>rfl
  |some u=>
   cases u with
   |struct fs=>
    simp only;cases fs[f]? with
    |none=>rfl
    |some fd=>
     simp only;cases P.info? fd.type with
     |none=>rfl
     |some i=>
      simp only;cases Nat.beq i.size 0 with
      |true=>rfl
      |false=>rcases zV (t:=t) x with⟨h1,h2⟩|⟨a,b,h1,h2,h3⟩<;>simp[zT,xz,j4, *]
   |_=>rfl
 |field ty x f=>
  simp only[xH,cOp];cases P.underlying ty with
  |none=>rfl
  |some u=>
   cases u with
   |struct fs=>
    simp only;cases fs[f]? with
    |none=>rfl
    |some fd=>simp only;rcases zV (t:=t) x with⟨h1,h2⟩|⟨a,b,h1,h2,h3⟩<;>cases wy P fd.type<;>simp[zT,xz,uh, *]
   |_=>rfl
 |indexAddr ty x i=>
  simp only[xH,cOp];cases P.underlying ty with
  |none=>rfl
  |some u=>
   cases u with
   |slice e=>
    simp only;cases P.info? e with
    |none=>rfl
    |some n=>rcases zV (t:=t) x with⟨h1x,h2x⟩|⟨oax,obx,h1x,h2x,h3x⟩<;>rcases zV (t:=t) i with⟨h1i,h2i⟩|⟨oai,obi,h1i,h2i,h3i⟩<;>simp[zT,xz,zcU, *]
   |array len e=>
    simp only;cases P.info? e with
    |none=>rfl
    |some n=>rcases zV (t:=t) x with⟨h1x,h2x⟩|⟨oax,obx,h1x,h2x,h3x⟩<;>rcases zV (t:=t) i with⟨h1i,h2i⟩|⟨oai,obi,h1i,h2i,h3i⟩<;>simp[zT,xz,uf, *]
   |_=>rfl
 |index ty x i=>
  simp only[xH,cOp];cases P.underlying ty with
  |none=>rfl
  |some u=>
   cases u with
   |array len e=>
    simp only;cases P.info? e with
    |none=>rfl
    |some n=>rcases zV (t:=t) x with⟨h1x,h2x⟩|⟨oax,obx,h1x,h2x,h3x⟩<;>rcases zV (t:=t) i with⟨h1i,h2i⟩|⟨oai,obi,h1i,h2i,h3i⟩<;>cases wy P e<;>simp[zT,xz,ug, *]
   |string=>rcases zV (t:=t) x with⟨h1x,h2x⟩|⟨oax,obx,h1x,h2x,h3x⟩<;>rcases zV (t:=t) i with⟨h1i,h2i⟩|⟨oai,obi,h1i,h2i,h3i⟩<;>simp[zT,xz,ue, *]
   |_=>rfl
 |lookup ty m k ok=>
  simp only[xH,cOp];cases P.underlying ty with
  |none=>rfl
  |some u=>
   cases u with
   |map key e=>simp only;rcases zV (t:=t) m with⟨h1m,h2m⟩|⟨oam,obm,h1m,h2m,h3m⟩<;>rcases zV (t:=t) k with⟨h1k,h2k⟩|⟨oak,obk,h1k,h2k,h3k⟩<;>generalize u7 P key=q1<;>generalize yA P e=q2<;>cases q1<;>cases q2<;>simp only[h1m,h2m,h1k,h2k]<;>first|rfl|simp[zT,wZ, *]
   |_=>rfl
 |mapUpdate ty m k v=>
  simp only[xH,cOp];cases P.underlying ty with
  |none=>rfl
  |some u=>
   cases u with
   |map key e=>simp only;rcases zV (t:=t) m with⟨h1m,h2m⟩|⟨oam,obm,h1m,h2m,h3m⟩<;>rcases zV (t:=t) k with⟨h1k,h2k⟩|⟨oak,obk,h1k,h2k,h3k⟩<;>rcases zV (t:=t) v with⟨h1v,h2v⟩|⟨oav,obv,h1v,h2v,h3v⟩<;>generalize u7 P key=q1<;>cases q1<;>simp only[h1m,h2m,h1k,h2k]<;>first|rfl|simp[zT,xz,zcS, *]
   |_=>rfl
 |insert ty m k v=>
  simp only[xH,cOp];cases P.underlying ty with
  |none=>rfl
  |some u=>
   cases u with
   |map key e=>simp only;rcases zV (t:=t) m with⟨h1m,h2m⟩|⟨oam,obm,h1m,h2m,h3m⟩<;>rcases zV (t:=t) k with⟨h1k,h2k⟩|⟨oak,obk,h1k,h2k,h3k⟩<;>rcases zV (t:=t) v with⟨h1v,h2v⟩|⟨oav,obv,h1v,h2v,h3v⟩<;>generalize u7 P key=q1<;>cases q1<;>simp only[h1m,h2m,h1k,h2k]<;>first|rfl|simp[zT,xz,zcS, *]
   |_=>rfl
 |mapEntry ty m k=>
  simp only[xH,cOp];cases P.underlying ty with
  |none=>rfl
  |some u=>
   cases u with
   |map key e=>simp only;rcases zV (t:=t) m with⟨h1m,h2m⟩|⟨oam,obm,h1m,h2m,h3m⟩<;>rcases zV (t:=t) k with⟨h1k,h2k⟩|⟨oak,obk,h1k,h2k,h3k⟩<;>generalize u7 P key=q1<;>generalize yA P e=q2<;>cases q1<;>cases q2<;>simp only[h1m,h2m,h1k,h2k]<;>first|rfl|simp[zT,zak, *]
   |_=>rfl
 |entryStore ty m s v=>simp only[xH,cOp];rcases zV (t:=t) m with⟨h1m,h2m⟩|⟨oam,obm,h1m,h2m,h3m⟩<;>rcases zV (t:=t) s with⟨h1k,h2k⟩|⟨oak,obk,h1k,h2k,h3k⟩<;>rcases zV (t:=t) v with⟨h1v,h2v⟩|⟨oav,obv,h1v,h2v,h3v⟩<;>simp only[h1m,h2m,h1k,h2k]<;>first|rfl|simp[zT,xz,zal, *]
 |extract x i=>rcases zV (t:=t) x with⟨h1,h2⟩|⟨a,b,h1,h2,h3⟩<;>simp[xH,cOp,zT,xz,x6, *]
 |call c=>
  obtain⟨callee,args,tys⟩:=c;cases callee with
  |invoke _ _=>rfl
  |value f=>
   simp only[xH,cOp];cases hk:Nat.beq (qN P f) 0 with
   |false=>
    simp only[Yzd];unfold zy1;rcases args.toList with _|⟨x,_|⟨y,_|⟨z,l⟩⟩⟩<;>try rfl
    ·simp only;cases Nat.beq (qN P f) 1 with
     |false=>rfl
     |true=>rcases zV (t:=t) x with⟨h1,h2⟩|⟨a,b,h1,h2,h3⟩<;>simp[zT,xz,zkA, *]
    ·simp only;cases Nat.beq (qN P f) 2 with
     |false=>rfl
     |true=>rcases zV (t:=t) x with⟨h1,h2⟩|⟨a,b,h1,h2,h3⟩<;>rcases zV (t:=t) y with⟨h1x,h2x⟩|⟨oax,obx,h1x,h2x,h3x⟩<;>simp[zT,xz,zkC, *]
   |true=>
   simp only[Yza];rcases zV (t:=t) f with⟨h1x,h2x⟩|⟨oax,obx,h1x,h2x,h3x⟩
   ·simp only[h1x,h2x];rfl
   ·rcases zds (t:=t) args.toList with⟨h1,h2⟩|⟨xs,ys,h1,h2,h3⟩
    ·simp only[h1x,h2x,h1,h2];rfl
    ·simp only[h1x,h2x,h1,h2,Yz4,Yz2,Yyd,zT,zem,h3x,zpd _ _ h3]
  |builtin b=>
   cases b with
   |len=>
    simp only[xH,cOp];cases tys[0]? with
    |none=>rfl
    |some ty=>
     cases args[0]? with
     |none=>rfl
     |some x=>
      simp only;cases P.underlying ty with
      |none=>rfl
      |some u=>cases u<;>first|rfl|(rcases zV (t:=t) x with⟨h1,h2⟩|⟨a,b,h1,h2,h3⟩<;>simp[zT,xz,jZ,j0,qt, *])
   |append=>
    simp only[xH,cOp];rcases tys.toList with _|⟨t1,_|⟨t2,_|⟨t3,l⟩⟩⟩<;>try rfl
    rcases args.toList with _|⟨s,_|⟨x,_|⟨y,l⟩⟩⟩<;>try rfl
    simp only;cases P.underlying t1 with
    |none=>rfl
    |some u=>
     cases u<;>try rfl
     rename_i e;simp only;cases P.info? e with
     |none=>rfl
     |some i=>
      cases yA P e with
      |none=>rfl
      |some z=>
       simp only;generalize (Nat.beq z.cells.length i.size && !Nat.beq i.size 0)=q;cases q with
       |false=>rfl
       |true=>
        cases P.underlying t2 with
        |none=>rfl
        |some u2=>generalize (y8 P e&&Nat.beq i.size 1)=q6;generalize Nat.beq i.size 1=q5;rcases zV (t:=t) s with⟨h1,h2⟩|⟨a,b,h1,h2,h3⟩<;>rcases zV (t:=t) x with⟨h1x,h2x⟩|⟨oax,obx,h1x,h2x,h3x⟩<;>cases u2<;>cases q5<;>cases q6<;>first|rfl|simp[zT,xz,wi,j6,j7, *]
   |unsafeSliceData=>
    simp only[xH,cOp];rcases args.toList with _|⟨x,_|⟨y,l⟩⟩<;>try rfl
    rcases zV (t:=t) x with⟨h1,h2⟩|⟨a,b,h1,h2,h3⟩<;>simp[zT,xz,ua, *]
   |unsafeString=>
    simp only[xH,cOp];rcases tys.toList with _|⟨t1,_|⟨t2,_|⟨t3,l⟩⟩⟩<;>try rfl
    rcases args.toList with _|⟨x,_|⟨y,_|⟨z,l⟩⟩⟩<;>try rfl
    simp only;cases P.underlying t1 with
    |none=>rfl
    |some u=>
     cases u<;>try rfl
     rename_i e;simp only;generalize (y8 P e&&Nat.beq (P.cellsOf e) 1)=q;cases q with
     |false=>rfl
     |true=>rcases zV (t:=t) x with⟨h1,h2⟩|⟨a,b,h1,h2,h3⟩<;>rcases zV (t:=t) y with⟨h1x,h2x⟩|⟨oax,obx,h1x,h2x,h3x⟩<;>simp[zT,xz,zg7, *]
   |cap=>
    simp only[xH,cOp];cases tys[0]? with
    |none=>rfl
    |some ty=>
     cases args[0]? with
     |none=>rfl
     |some x=>
      simp only;cases P.underlying ty with
      |none=>rfl
      |some u=>cases u<;>first|rfl|(rcases zV (t:=t) x with⟨h1,h2⟩|⟨a,b,h1,h2,h3⟩<;>simp[zT,xz,zoB, *])
   |copy=>
    simp only[xH,cOp];rcases tys.toList with _|⟨t1,_|⟨t2,_|⟨t3,l⟩⟩⟩<;>try rfl
    rcases args.toList with _|⟨x,_|⟨y,_|⟨z,l⟩⟩⟩<;>try rfl
    simp only;cases P.underlying t1 with
    |none=>rfl
    |some u=>
     cases P.underlying t2 with
     |none=>cases u<;>rfl
     |some u2=>
      cases u<;>try rfl
      all_goals (cases u2<;>try rfl)
      rename_i e e2;simp only;cases P.info? e with
      |none=>rfl
      |some i=>
       simp only;generalize Nat.beq i.size 0=q;cases q with
       |true=>rfl
       |false=>rcases zV (t:=t) x with⟨h1,h2⟩|⟨a,b,h1,h2,h3⟩<;>rcases zV (t:=t) y with⟨h1x,h2x⟩|⟨oax,obx,h1x,h2x,h3x⟩<;>simp[zT,xz,zg8, *]
   |clear=>
    simp only[xH,cOp];cases tys[0]? with
    |none=>rfl
    |some ty=>
     cases args[0]? with
     |none=>rfl
     |some x=>
      simp only;cases P.underlying ty with
      |none=>rfl
      |some u=>
       cases u<;>try rfl
       rename_i e;simp only;cases P.info? e with
       |none=>rfl
       |some i=>
        cases yA P e with
        |none=>rfl
        |some z=>
         simp only;generalize (Nat.beq z.cells.length i.size && !Nat.beq i.size 0)=q;cases q with
         |false=>rfl
         |true=>rcases zV (t:=t) x with⟨h1,h2⟩|⟨a,b,h1,h2,h3⟩<;>simp[zT,xz,za3, *]
   |max=>
    simp only[xH,cOp];rcases zds (t:=t) args.toList with⟨h1,h2⟩|⟨xs,ys,h1,h2,h3⟩
    ·simp only[h1,h2];rfl
    ·simp only[h1,h2];cases xs<;>cases ys<;>first|rfl|exact h3.elim|simp only[zT,xG,h3.1,zfH _ _ _ _ _ h3.2]
   |min=>
    simp only[xH,cOp];rcases zds (t:=t) args.toList with⟨h1,h2⟩|⟨xs,ys,h1,h2,h3⟩
    ·simp only[h1,h2];rfl
    ·simp only[h1,h2];cases xs<;>cases ys<;>first|rfl|exact h3.elim|simp only[zT,xG,h3.1,zfH _ _ _ _ _ h3.2]
   |_=>rfl
 |_=>rfl
end
end Go.CE
end
section
namespace Go.CE
noncomputable section
def uN(r:Fr)(v:Zb):Option Nat→Fr
 |none=>r
 |some d=>fun i=>bif Nat.beq i d then v else r i
def bindR{β:Type}(x:Res)(k:Zb→Za→Option β):Option β:=
 match x with
 |some (v,h)=>k v h
 |none=>none
def zgC(v:Zb)(b:Bool):Bool:=
 match v with
 | .s (.one (.bool c))=>c==b
 |_=>false
section
variable (P:Program)
def yL(nt:Nat)(ops:Array Oper)(o:Oper)(call:zj)(r:Fr)(h:Za):Res:=
 bif inT nt o.dst then
  match o.guard with
  |none=>xH P (coK r) o.op call .nil h
  |some (j,b)=>
   match (ops[j]?).bind (·.dst) with
   |some d=>bif Nat.ble (Nat.succ d) nt then(bif zgC (r d) b then xH P (coK r) o.op call .nil h else some (yp,h)) else none
   |none=>none
 else none
def zzR(nt:Nat)(o:Oper)(r:Fr):Option Zb:=
 match o.guard with
 |some _=>none
 |none=>
  bif inT nt o.dst then
   match o.op with
   | .move x=>(coK r x).map fun c=>c .nil
   | .assign x=>(coK r x).map fun c=>c .nil
   |_=>none
  else none
def zmN{β:Type}(nt:Nat)(ops:Array Oper)(call:zj):List Oper→Fr→Za→(Fr→Za→Option β)→Option β
 | [],r,h,k=>k r h
 |o::os,r,h,k=>
  match zzR nt o r with
  |some v=>zmN nt ops call os (uN r v o.dst) h k
  |none=>bindR (yL P nt ops o call r h) fun v h'=>zmN nt ops call os (uN r v o.dst) h' k
def zmB(i:Nat):List Nat→Bool
 | []=>false
 |j::l=>bif Nat.beq i j then true else zmB i l
def z6(r:Fr)(l:List Nat):Fr:=fun i=>bif zmB i l then r i else yp
def zma(run:Za→Res)(v:Zb):List Za→Bool
 | []=>true
 |h::hs=>
  (match run h with
  |some (v',_)=>eqA v v'
  |none=>false)&&zma run v hs
def zt1(hs:List Za):List ((Za→Res)×Zb×Nat×Nat)→Bool
 | []=>true
 |(run,v,lo,hi)::l=>(Nat.beq lo hi||zma run v ((hs.drop lo).take (Nat.sub (Nat.succ hi) lo)))&&zt1 hs l
def kDr{β:Type}(nt:Nat)(ops:Array Oper)(call:zj)(bs:List Nat)(es:List Bool):Nat→List Oper→Fr→Za→List Za→List ((Za→Res)×Zb×Nat×Nat)→(Fr→Za→Option β)→Option β
 |_,[],r,h,hs,cs,k=>bif zt1 (hs++[h]) cs then k r h else none
 |i,o::os,r,h,hs,cs,k=>
  match zzR nt o (z6 r (o.looksAt ops)) with
  |some v=>kDr nt ops call bs es (Nat.succ i) os (uN r v o.dst) h hs (cs++[(yL P nt ops o call (z6 r (o.looksAt ops)),v,ce (fun j=>bef bs j i) 0 es,ce (fun j=>!bef bs i j) 0 es)]) k
  |none=>bindR (yL P nt ops o call (z6 r (o.looksAt ops)) h) fun v h'=>
  bif yW P o.op then kDr nt ops call bs es (Nat.succ i) os (uN r v o.dst) h hs (cs++[(yL P nt ops o call (z6 r (o.looksAt ops)),v,ce (fun j=>bef bs j i) 0 es,ce (fun j=>!bef bs i j) 0 es)]) k
  else kDr nt ops call bs es (Nat.succ i) os (uN r v o.dst) h' (hs++[h]) cs k
abbrev CkG:=(Za→Res)×Zb×Nat×Nat×List Nat
def zeb(run:Za→Res)(v:Zb)(n0:Nat)(hide:List Nat)(mks:List (Nat×Nat×Zg)):Nat→List Za→Bool
 |_,[]=>true
 |k,h::hs=>
  match run ⟨h.n,zbj n0 hide (qL n0 k mks h.t)⟩ with
  |some (v',_)=>eqA v v'&&zeb run v n0 hide mks (Nat.succ k) hs
  |none=>false
def zjK(n0:Nat)(mks:List (Nat×Nat×Zg))(hs:List Za):List CkG→Bool
 | []=>true
 |(run,v,lo,hi,hide)::l=>(Nat.beq lo hi||zeb run v n0 hide mks lo ((hs.drop lo).take (Nat.sub (Nat.succ hi) lo)))&&zjK n0 mks hs l
def mk1(n0 c j:Nat)(t:Tr Zg):List (Nat×Nat×Zg):=
 match t.get (bn (Nat.add n0 j)) with
 |some o=>[(c,j,o)]
 |none=>[]
def zdU{β:Type}(nt:Nat)(ops:Array Oper)(call:zj)(bs:List Nat)(es:List Bool)(n0:Nat):Nat→List Oper→Fr→Za→Nat→List Za→List CkG→List (Nat×Nat×Zg)→(Fr→Za→Option β)→Option β
 |_,[],r,h,_,hs,cs,mks,k=>bif zjK n0 mks hs cs then k r h else none
 |i,o::os,r,h,c,hs,cs,mks,k=>
  bif qk o.op then
   bindR (yL P nt ops o call (z6 r (o.looksAt ops)) ⟨bn (Nat.add n0 i),h.t⟩) fun v h'=>zdU nt ops call bs es n0 (Nat.succ i) os (uN r v o.dst) ⟨h.n,h'.t⟩ c hs cs (mks++mk1 n0 c i h'.t) k
  else
   bindR (yL P nt ops o call (z6 r (o.looksAt ops)) ⟨h.n,zbj n0 (yY bs i 0 ops.toList) h.t⟩) fun v h'=>
    bif anchor P o.op then
     match zgw n0 h.t (yY bs i 0 ops.toList) h'.t with
     |some t=>zdU nt ops call bs es n0 (Nat.succ i) os (uN r v o.dst) ⟨h'.n,t⟩ (Nat.succ c) (hs++[⟨h'.n,t⟩]) cs mks k
     |none=>none
    else zdU nt ops call bs es n0 (Nat.succ i) os (uN r v o.dst) h c hs (cs++[(yL P nt ops o call (z6 r (o.looksAt ops)),v,ce (fun j=>bef bs j i) 0 es,ce (fun j=>!bef bs i j) 0 es,yY bs i 0 ops.toList)]) mks k
def zb0(c:List Zb→Za→Option (Zh×List Zb×Za)):Nat→List Zb→Za→Option (Zh×List Zb×Za)
 |0,_,_=>none
 |n+1,r,h=>
  match c r h with
  |some (.normal,r',h')=>zb0 c n r' h'
  |x=>x
def bindX{β:Type}(x:Option (Zh×List Zb×Za))(kx:Nat→List Zb→Za→Option β)(kr:List Zb→Za→Option β):Option β:=
 match x with
 |some (.exit id,r,h)=>kx id r h
 |some (.ret,r,h)=>kr r h
 |_=>none
def ifK{β:Type}(v:Zb)(a b:Option β):Option β:=
 match v with
 | .s (.one (.bool q))=>bif q then a else b
 |_=>none
def zut{β:Type}(a:Fr→Za→Option β)(k:Zh→Fr→Za→Option β):Zh→Fr→Za→Option β
 | .normal,r,h=>a r h
 | .exit id,r,h=>k (.exit id) r h
 | .ret,r,h=>k .ret r h
def zxL{β:Type}(id:Nat)(k:Zh→Fr→Za→Option β):Zh→Fr→Za→Option β
 | .exit id',r,h=>bif Nat.beq id' id then k .normal r h else k (.exit id') r h
 | .normal,r,h=>k .normal r h
 | .ret,r,h=>k .ret r h
def writes:Code→List Nat
 | .region _ ops _=>ops.toList.filterMap (·.dst)
 | .seq a b=>writes a++writes b
 | .cond _ a b=>writes a++writes b
 | .block _ c=>writes c
 | .loop c=>writes c
 |_=>[]
def zzQ:List Zb→Nat→Zb
 | [],_=>yp
 |v::l,n=>bif Nat.beq n 0 then v else zzQ l (Nat.sub n 1)
def zmA:List Nat→Nat→Fr→List Zb→Fr
 | [],_,r,_=>r
 |w::W,k,r,ys=>fun i=>bif Nat.beq i w then zzQ ys k else zmA W (Nat.succ k) r ys i
def xO(nt:Nat)(call:zj)(f:Nat):Code→{β:Type}→Fr→Za→(Zh→Fr→Za→Option β)→Option β
 | .skip,_,r,h,k=>k .normal r h
 | .region _ ops draw,_,r,h,k=>
  bif draw then(bif P.follows .mixedOrders&&zaJ P ops (xM ops.toList) then kDr P nt ops call (xM ops.toList) (zaI P ops.toList) 0 ops.toList r h [] [] (fun r h=>k .normal r h)
   else bif P.follows .mixedOrders&&jw P ops (xM ops.toList) then zdU P nt ops call (xM ops.toList) (kR P ops.toList) h.n.toNat 0 ops.toList r ⟨bn (Nat.add h.n.toNat ops.toList.length),h.t⟩ 0 [⟨bn (Nat.add h.n.toNat ops.toList.length),h.t⟩] [] [] (fun r h=>k .normal r h) else none)
  else zmN P nt ops call ops.toList r h (fun r h=>k .normal r h)
 | .seq a b,_,r,h,k=>xO nt call f a r h (zut (fun r h=>xO nt call f b r h k) k)
 | .cond c a b,_,r,h,k=>
  match coK r c with
  |some c=>ifK (c .nil) (xO nt call f a r h k) (xO nt call f b r h k)
  |none=>none
 | .block id c,_,r,h,k=>xO nt call f c r h (zxL id k)
 | .loop c,_,r,h,k=>bindX (zb0 (fun ys h=>xO nt call f c (zmA (writes c) 0 r ys) h (fun e s h=>some (e,(writes c).map s,h))) f ((writes c).map r) h)
   (fun id ys h=>k (.exit id) (zmA (writes c) 0 r ys) h) (fun ys h=>k .ret (zmA (writes c) 0 r ys) h)
 | .exit id,_,r,h,k=>k (.exit id) r h
 | .ret,_,r,h,k=>k .ret r h
 |_,_,_,_,_=>none
def zzG(v:Zb):Option SVal:=
 match v with
 | .s v=>some v
 |_=>none
def zzH(n:Option Nat)(v:Zb)(h:Za):Option SVal:=
 match v with
 | .s (.one (.ptr b off))=>jh n off (h.t.get b)
 |_=>none
def zp7(v:Option SVal)(l:Option (List SVal)):Option (List SVal):=
 match v with
 |some v=>wJ v l
 |none=>none
def zdP(r:Fr)(h:Za):ResultVar→Option SVal
 | .tmp i=>zzG (r i)
 | .cell i t=>
  match wy P t with
  |some n=>zzH n (r i) h
  |none=>none
def qi(r:Fr)(h:Za):List ResultVar→Option (List SVal)
 | []=>some []
 |x::rs=>zp7 (zdP P r h x) (qi r h rs)
def zp3(rs:List ResultVar):Zh→Fr→Za→Res
 | .exit _,_,_=>none
 | .normal,r,h=>zdi h (qi P r h rs)
 | .ret,r,h=>zdi h (qi P r h rs)
def zsI(g:Nat)(call:zj)(f:Nat)(args:List Zb)(h:Za):Res:=
 match P.funcs[g]? with
 |some fn=>
  match fn.body with
  |some c=>bif (zgs P fn.results.toList).isNone||fn.name == "runtime.NumGoroutine" then none else bif zsC args fn.ntmps then xO P fn.ntmps call f c (wu (wN .z .nil args)) h (zp3 P fn.results.toList) else none
  |none=>none
 |none=>none
end
end
section
variable {P:Program} {nt:Nat}
theorem beq_iff(a b:Nat):Nat.beq a b=true↔a=b:=⟨Lz1,fun h=>by simp_all⟩
theorem vB(t:Tr Zb)(v:Zb)(d:Option Nat):wu (zcy t v (d.map bn))=uN (wu t) v d:=by cases d<;>grind[wu,zcy,uN,zlO,beq_iff,zK,jF,zy]
theorem zul(t:Tr Zb)(g:Nat)(b:Bool):want t (some (bn g,b))=zgC (wu t g) b:=by
 simp only[want,wu,zlO];cases t.get (bn g) with
 |none=>rfl
 |some v=>cases v with
  |tup _=>rfl
  |s v=>cases v with
   |agg _=>rfl
   |one c=>cases c<;>rfl
theorem kZ(ops:Array Oper)(o:Oper)(call:zj)(t:Tr Zb)(h:Za)(v:Zb)(h':Za)(e:yL P nt ops o call (wu t) h=some (v,h')):
  x5 call (xd P nt ops o) t h=some (v,h')∧(xd P nt ops o).dst=o.dst.map bn:=by
 unfold yL at e;unfold xd;cases hin:inT nt o.dst with
 |false=>grind
 |true=>
  rw[hin]at e;simp only[Yza]at e ⊢;cases hg:o.guard with
  |none=>rw[hg]at e;simp only[zqn]at e;trivial
  |some p=>
   obtain⟨j,b⟩:=p;rw[hg]at e;simp only at e ⊢;cases hd:(ops[j]?).bind (·.dst) with
   |none=>grind
   |some d=>rw[hd]at e;simp only at e ⊢;cases hb:Nat.ble (Nat.succ d) nt<;>simp_all[zqn,x5,zul]
theorem zpR(call:zj)(o:Zo)(t:Tr Zb)(h:Za):zbN call o t h=zAc t o.dst (x5 call o t h):=by obtain⟨d,op,g⟩:=o;simp only[zbN,x5];cases want t g<;>rfl
theorem wF{r:Fr}{v:Zb}{d:Option Nat}{i:Nat}(h:d≠some i):uN r v d i=r i:=by
 cases d with
 |none=>rfl
 |some d=>grind[uN,beq_iff]
theorem zi8{ops:Array Oper}{o:Oper}{call:zj}{r:Fr}{v:Zb}(e:zzR nt o r=some v)(h:Za):yL P nt ops o call r h=some (v,h)∧yW P o.op=true:=by
 unfold zzR at e;unfold yL;cases hg:o.guard with
 |some p=>grind
 |none=>
  rw[hg]at e;simp only at e ⊢;cases hi:inT nt o.dst with
  |false=>grind
  |true=>
   rw[hi]at e;simp only[Yza]at e ⊢;split at e
   ·rename_i x hx;rw[hx];simp only[xH,yW];cases hc:coK r x with
    |none=>grind
    |some c=>rw[hc]at e;cases e;trivial
   ·rename_i x hx;rw[hx];simp only[xH,yW];cases hc:coK r x with
    |none=>grind
    |some c=>rw[hc]at e;cases e;trivial
   ·cases e
theorem zc6{β:Type}(ops:Array Oper)(call:zj)(o:Oper)(os:List Oper)(r:Fr)(h:Za)(k:Fr→Za→Option β):
  zmN P nt ops call (o::os) r h k=bindR (yL P nt ops o call r h) fun v h'=>zmN P nt ops call os (uN r v o.dst) h' k:=by
 rw[zmN];split
 ·rename_i v hv;rw[(zi8 hv h).1];rfl
 ·rfl
theorem zkU{β:Type}(ops:Array Oper)(call:zj)(bs:List Nat)(es:List Bool)(i:Nat)(o:Oper)(os:List Oper)(r:Fr)(h:Za)(hs:List Za)(cs:List ((Za→Res)×Zb×Nat×Nat))(k:Fr→Za→Option β):
  kDr P nt ops call bs es i (o::os) r h hs cs k=bindR (yL P nt ops o call (z6 r (o.looksAt ops)) h) fun v h'=>
   bif yW P o.op then kDr P nt ops call bs es (Nat.succ i) os (uN r v o.dst) h hs (cs++[(yL P nt ops o call (z6 r (o.looksAt ops)),v,ce (fun j=>bef bs j i) 0 es,ce (fun j=>!bef bs i j) 0 es)]) k
   else kDr P nt ops call bs es (Nat.succ i) os (uN r v o.dst) h' (hs++[h]) cs k:=by
 rw[kDr];split
 ·rename_i v hv;rw[(zi8 hv h).1];simp only[bindR];rw[(zi8 (P:=P) (ops:=ops) (call:=call) hv h).2];rfl
 ·rfl
theorem zpx{β:Type}(ops:Array Oper)(call:zj):∀(os:List Oper) (t:Tr Zb) (h:Za) (k:Fr→Za→Option β) (x:β),zmN P nt ops call os (wu t) h k=some x→
  ∃t' h',zmZ call (os.map (xd P nt ops)) t h=some (t',h')∧k (wu t') h'=some x∧∀i,i∉os.filterMap (·.dst)→wu t' i=wu t i
 | [],t,h,k,x,e=>⟨t,h,rfl,e,fun _ _=>rfl⟩
 |o::os,t,h,k,x,e=>by
  rw[zc6]at e;simp only[bindR]at e;split at e
  ·rename_i v h' hq;obtain⟨e1,e2⟩:=kZ ops o call t h v h' hq;rw[←vB]at e;obtain⟨t',h'',e3,e4,e5⟩:=zpx ops call os _ _ _ _ e;refine⟨t',h'',?_,e4,fun i hi=>?_⟩
   ·rw[Yzy,zeP,zpR,e1,e2];exact e3
   ·simp only[Yyg]at hi;rw[e5 i,vB,wF]
    ·grind
    ·grind
  ·cases e
theorem zap(i:Nat):∀l:List Nat,zmB i l=true↔i∈l
 | []=>by simp[zmB]
 |j::l=>by
  simp only[zmB,YzA];cases hq:Nat.beq i j with
  |true=>simp_all
  |false=>
   have:i≠j:=fun e=>by simp_all
   simp[this,zap i l]
theorem k8(t:Tr Zb)(l:List Nat):wu (jg t (l.map bn))=z6 (wu t) l:=by
 funext i
 simp only[wu,z6,zlO];rw[v7];have hm:bn i∈l.map bn↔i∈l:=⟨fun h=>by grind[jF],fun h=>List.mem_map_of_mem h⟩;cases hq:zmB i l with
 |true=>simp_all[zap]
 |false=>rw[Yzb (fun hh=>by grind[zap])];rfl
theorem zkh{call:zj}{ops:Array Oper}{o:Oper}{t:Tr Zb}{v:Zb}:∀hs:List Za,zma (yL P nt ops o call (wu t)) v hs=true→sameAt call (xd P nt ops o) t v hs=true
 | [],_=>rfl
 |h::hs,e=>by
  simp only[zma]at e;obtain⟨e1,e2⟩:=uL e;unfold sameAt;split at e1
  ·rename_i v' h' hq;obtain⟨k1,_⟩:=kZ ops o call t h v' h' hq;rw[k1];simp only;rw[e1,zkh hs e2];rfl
  ·cases e1
def CkR(P:Program)(nt:Nat)(ops:Array Oper)(call:zj):List ((Za→Res)×Zb×Nat×Nat)→List (Zl×Tr Zb×Zb)→Prop
 | [],l=>∀x∈l,x.1.eff=true
 |(run,v,lo,hi)::cs,l=>∃pre d tr rest,l=pre++(d,tr,v)::rest∧(∀x∈pre,x.1.eff=true)∧d.lo=lo∧d.hi=hi∧(∃o,d.rop=xd P nt ops o∧run=yL P nt ops o call (wu tr))∧CkR P nt ops call cs rest
theorem zm8(call:zj)(hs:List Za)(l l':List (Zl×Tr Zb×Zb)):uz call hs (l++l')=(uz call hs l&&uz call hs l'):=by induction l<;>grind[uz]
theorem zbp(call:zj)(hs:List Za):∀l:List (Zl×Tr Zb×Zb),(∀x∈l,x.1.eff=true)→uz call hs l=true
 | [],_=>rfl
 |(d,tr,v)::l,h=>by simp only[uz];rw[h _ (Yzh ..),zbp call hs l fun x hx=>h x (Yzf _ hx)];rfl
theorem zlr{call:zj}{ops:Array Oper}{hs:List Za}:∀(cs:List ((Za→Res)×Zb×Nat×Nat)) (l:List (Zl×Tr Zb×Zb)),CkR P nt ops call cs l→zt1 hs cs=true→uz call hs l=true
 | [],l,h,_=>zbp call hs l h
 |(run,v,lo,hi)::cs,l,⟨pre,d,tr,rest,h1,h2,h3,h4,⟨o,h5,h6⟩,h7⟩,e=>by
  subst h1 h3 h4 h6;simp only[zt1]at e;obtain⟨e1,e2⟩:=uL e;rw[zm8,zbp call hs pre h2];simp only[uz,Yz1];rw[zlr cs rest h7 e2,Yyi];rcases YzJ _ _ |>.mp e1 with k|k
  ·grind
  ·grind[zkh]
theorem zq8{call:zj}{ops:Array Oper}{x:Zl×Tr Zb×Zb}(hx:x.1.eff=true):∀(cs:List ((Za→Res)×Zb×Nat×Nat)) (l:List (Zl×Tr Zb×Zb)),CkR P nt ops call cs l→CkR P nt ops call cs (l++[x])
 | [],l,h=>fun y hy=>by
  rcases YzI.1 hy with k|k
  ·exact h y k
  ·grind
 |(run,v,lo,hi)::cs,l,⟨pre,d,tr,rest,h1,h2,h3,h4,h5,h6⟩=>⟨pre,d,tr,rest++[x],by grind,h2,h3,h4,h5,zq8 hx cs rest h6⟩
theorem zix{call:zj}{ops:Array Oper}{d:Zl}{tr:Tr Zb}{v:Zb}{o:Oper}(hd:d.rop=xd P nt ops o):∀(cs:List ((Za→Res)×Zb×Nat×Nat)) (l:List (Zl×Tr Zb×Zb)),CkR P nt ops call cs l→
  CkR P nt ops call (cs++[(yL P nt ops o call (wu tr),v,d.lo,d.hi)]) (l++[(d,tr,v)])
 | [],l,h=>⟨l,d,tr,[],rfl,h,rfl,rfl,⟨o,hd,rfl⟩,fun y hy=>by cases hy⟩
 |(run,v',lo,hi)::cs,l,⟨pre,d',tr',rest,h1,h2,h3,h4,h5,h6⟩=>⟨pre,d',tr',rest++[(d,tr,v)],by grind,h2,h3,h4,h5,zix hd cs rest h6⟩
theorem zpy{β:Type}(ops:Array Oper)(call:zj)(bs:List Nat)(es:List Bool)(k:Fr→Za→Option β)(x:β):
  ∀(os:List Oper) (i:Nat) (t:Tr Zb) (h:Za) (hs:List Za) (cs:List ((Za→Res)×Zb×Nat×Nat)) (l0:List (Zl×Tr Zb×Zb)),CkR P nt ops call cs l0→
   kDr P nt ops call bs es i os (wu t) h hs cs k=some x→
   ∃l t' hs',evD call (uK P nt ops bs es i os) t h=some (l,t',hs')∧uz call (hs++hs') (l0++l)=true∧hs'≠[]∧k (wu t') (zfP h hs')=some x∧∀i,i∉os.filterMap (·.dst)→wu t' i=wu t i
 | [],i,t,h,hs,cs,l0,hc,e=>by
  simp only[kDr]at e;cases hq:zt1 (hs++[h]) cs with
  |false=>grind
  |true=>rw[hq]at e;exact⟨[],t,[h],rfl,by grind[zlr],by simp,e,fun _ _=>rfl⟩
 |o::os,i,t,h,hs,cs,l0,hc,e=>by
  rw[zkU]at e;simp only[bindR]at e;split at e
  ·rename_i v h' hq;rw[←k8]at hq e;obtain⟨e1,e2⟩:=kZ ops o call _ h v h' hq;rw[←vB]at e;simp only[uK,evD];rw[e1];simp only;cases hqo:yW P o.op with
   |true=>
    rw[hqo]at e;simp only[Yza,Yzw,Yzd]at e ⊢;obtain⟨l,t',hs',k1,k2,k3,k4,k5⟩:=zpy ops call bs es k x os _ _ _ _ _ (l0++[(⟨xd P nt ops o,(o.looksAt ops).map bn,false,ce (fun j=>bef bs j i) 0 es,ce (fun j=>!bef bs i j) 0 es⟩,jg t ((o.looksAt ops).map bn),v)])
     (zix (d:=⟨xd P nt ops o,(o.looksAt ops).map bn,false,ce (fun j=>bef bs j i) 0 es,ce (fun j=>!bef bs i j) 0 es⟩) rfl cs l0 hc) e
    rw[e2,k1];refine⟨_,_,_,rfl,?_,?_,?_,fun i hi=>?_⟩
    ·grind
    ·exact k3
    ·exact k4
    ·simp only[Yyg]at hi;rw[k5 i,vB,wF]
     ·grind
     ·grind
   |false=>
    rw[hqo]at e;simp only[Yzd,Bool.not_false,Yza]at e ⊢;obtain⟨l,t',hs',k1,k2,k3,k4,k5⟩:=zpy ops call bs es k x os _ _ _ _ _ (l0++[(⟨xd P nt ops o,(o.looksAt ops).map bn,true,ce (fun j=>bef bs j i) 0 es,ce (fun j=>!bef bs i j) 0 es⟩,jg t ((o.looksAt ops).map bn),v)])
     (zq8 rfl cs l0 hc) e
    rw[e2,k1];refine⟨_,_,_,rfl,?_,?_,?_,fun i hi=>?_⟩
    ·grind
    ·simp
    ·simp only[Yza,zfP];cases hs' with
     |nil=>trivial
     |cons a b=>exact k4
    ·simp only[Yyg]at hi;rw[k5 i,vB,wF]
     ·grind
     ·grind
  ·cases e
section
variable {ops:Array Oper} {call:zj} {n0:Nat}
theorem zgU{o:Oper}{t:Tr Zb}{v:Zb}{d:Zq}(hd:d.rop=xd P nt ops o){mks:List (Nat×Nat×Zg)}:∀(hs:List Za) (k:Nat),zeb (yL P nt ops o call (wu t)) v n0 d.hide mks k hs=true→zmb call n0 d t v mks k hs=true
 | [],_,_=>rfl
 |h::hs,k,e=>by
  simp only[zeb]at e;simp only[zmb];split at e
  ·rename_i v' h' hq;obtain⟨k1,_⟩:=kZ ops o call t _ v' h' hq;obtain⟨e1,e2⟩:=uL e;rw[hd,k1];simp only;rw[e1,zgU hd hs _ e2];rfl
  ·cases e
def zwH(P:Program)(nt:Nat)(ops:Array Oper)(call:zj):List CkG→List GE→Prop
 | [],l=>∀g∈l,(g.d.eff||g.d.mkb)=true
 |(run,v,lo,hi,hide)::cs,l=>∃pre g rest,l=pre++g::rest∧(∀x∈pre,(x.d.eff||x.d.mkb)=true)∧g.v=v∧g.d.lo=lo∧g.d.hi=hi∧g.d.hide=hide∧(∃o,g.d.rop=xd P nt ops o∧run=yL P nt ops o call (wu g.tr))∧zwH P nt ops call cs rest
theorem zm7{mks:List (Nat×Nat×Zg)}{hs:List Za}(l l':List GE):uy call n0 mks hs (l++l')=(uy call n0 mks hs l&&uy call n0 mks hs l'):=by induction l<;>grind[uy]
theorem zbo{mks:List (Nat×Nat×Zg)}{hs:List Za}:∀l:List GE,(∀x∈l,(x.d.eff||x.d.mkb)=true)→uy call n0 mks hs l=true
 | [],_=>rfl
 |g::l,h=>by simp only[uy];rw[h _ (Yzh ..),zbo l fun x hx=>h x (Yzf _ hx)];simp
theorem zqe{mks:List (Nat×Nat×Zg)}{hs:List Za}:∀(cs:List CkG) (l:List GE),zwH P nt ops call cs l→zjK n0 mks hs cs=true→uy call n0 mks hs l=true
 | [],l,h,_=>zbo l h
 |(run,v,lo,hi,hide)::cs,l,⟨pre,g,rest,h1,h2,h3,h4,h5,h6,⟨o,h7,h8⟩,h9⟩,e=>by
  subst h1 h3 h4 h5 h6 h8;simp only[zjK]at e;obtain⟨e1,e2⟩:=uL e;rw[zm7,zbo pre h2];simp only[uy,Yz1];rw[zqe cs rest h9 e2,Yyi];rcases YzJ _ _ |>.mp e1 with k|k
  ·grind
  ·grind[zgU]
theorem zgA{x:GE}(hx:(x.d.eff||x.d.mkb)=true):∀(cs:List CkG) (l:List GE),zwH P nt ops call cs l→zwH P nt ops call cs (l++[x])
 | [],l,h=>fun y hy=>by
  rcases YzI.1 hy with k|k
  ·exact h y k
  ·grind
 |(run,v,lo,hi,hide)::cs,l,⟨pre,g,rest,h1,h2,h3,h4,h5,h6,h7,h8⟩=>⟨pre,g,rest++[x],by grind,h2,h3,h4,h5,h6,h7,zgA hx cs rest h8⟩
theorem ze2{g:GE}{o:Oper}(hd:g.d.rop=xd P nt ops o):∀(cs:List CkG) (l:List GE),zwH P nt ops call cs l→
  zwH P nt ops call (cs++[(yL P nt ops o call (wu g.tr),g.v,g.d.lo,g.d.hi,g.d.hide)]) (l++[g])
 | [],l,h=>⟨l,g,[],rfl,h,rfl,rfl,rfl,rfl,⟨o,hd,rfl⟩,fun y hy=>by cases hy⟩
 |(run,v',lo,hi,hide)::cs,l,⟨pre,g',rest,h1,h2,h3,h4,h5,h6,h7,h8⟩=>⟨pre,g',rest++[g],by grind,h2,h3,h4,h5,h6,h7,ze2 hd cs rest h8⟩
theorem zfR{β:Type}(bs:List Nat)(es:List Bool)(k:Fr→Za→Option β)(x:β):
  ∀(os:List Oper) (i:Nat) (t:Tr Zb) (h:Za) (c:Nat) (hs:List Za) (cs:List CkG) (mks:List (Nat×Nat×Zg)) (l0:List GE),zwH P nt ops call cs l0→
   zdU P nt ops call bs es n0 i os (wu t) h c hs cs mks k=some x→
   ∃l t' h',evG call n0 i (xI P nt ops bs es i os) t h=some (l,t',h')∧uy call n0 (mks++ziy n0 c i l) (hs++hsG l) (l0++l)=true∧k (wu t') h'=some x∧∀i,i∉os.filterMap (·.dst)→wu t' i=wu t i
 | [],i,t,h,c,hs,cs,mks,l0,hc,e=>by
  simp only[zdU]at e;cases hq:zjK n0 mks hs cs with
  |false=>grind
  |true=>rw[hq]at e;exact⟨[],t,h,rfl,by grind[ziy,hsG,zqe],e,fun _ _=>rfl⟩
 |o::os,i,t,h,c,hs,cs,mks,l0,hc,e=>by
  have agree:∀(t2 t':Tr Zb) (v:Zb),(xd P nt ops o).dst=o.dst.map bn→t2=zcy t v (xd P nt ops o).dst→(∀i,i∉os.filterMap (·.dst)→wu t' i=wu t2 i)→∀i,i∉(o::os).filterMap (·.dst)→wu t' i=wu t i:=by
   intro t2 t' v hd h2 H i hi;subst h2;simp only[Yyg]at hi;rw[H i (fun hm=>hi (by grind)),hd,vB]
   grind[wF]
  simp only[zdU]at e;simp only[xI,evG,stepG];cases hm:qk o.op with
  |true=>
   rw[hm]at e;have ha:anchor P o.op=false:=by grind[anchor]
   simp only[Yza,bindR]at e ⊢;split at e
   ·rename_i v h' hq;rw[←k8]at hq;obtain⟨e1,e2⟩:=kZ ops o call _ _ v h' hq;rw[←vB,←e2]at e;rw[e1];simp only
    let g:GE:=⟨⟨xd P nt ops o,(o.looksAt ops).map bn,anchor P o.op,true,ce (fun j=>bef bs j i) 0 es,ce (fun j=>!bef bs i j) 0 es,yY bs i 0 ops.toList⟩,jg t ((o.looksAt ops).map bn),v,h,⟨h.n,h'.t⟩⟩
    obtain⟨l,t',h2,k1,k2,k3,k4⟩:=zfR bs es k x os _ _ _ _ _ _ _ (l0++[g]) (zgA (x:=g) (by grind) cs l0 hc) e;rw[k1];refine⟨_,_,_,rfl,?_,k3,agree _ _ v e2 rfl k4⟩;simp only[ziy,hsG,ha,Yza,Yzd];rw[YzC]at k2;simp only[List.singleton_append,YzC]at k2;simp only[mk1]at k2
    grind
   ·cases e
  |false=>
   rw[hm]at e;simp only[Yzd,bindR]at e ⊢;split at e
   ·rename_i v h' hq;rw[←k8]at hq;obtain⟨e1,e2⟩:=kZ ops o call _ _ v h' hq;rw[←vB,←e2]at e;rw[e1];simp only;cases ha:anchor P o.op with
    |true=>
     rw[ha]at e;simp only[Yza]at e ⊢;split at e
     ·rename_i t1 ht;rw[ht];simp only
      let g:GE:=⟨⟨xd P nt ops o,(o.looksAt ops).map bn,true,false,ce (fun j=>bef bs j i) 0 es,ce (fun j=>!bef bs i j) 0 es,yY bs i 0 ops.toList⟩,jg t ((o.looksAt ops).map bn),v,h,⟨h'.n,t1⟩⟩
      obtain⟨l,t',h2,k1,k2,k3,k4⟩:=zfR bs es k x os _ _ _ _ _ _ _ (l0++[g]) (zgA (x:=g) rfl cs l0 hc) e;rw[k1];refine⟨_,_,_,rfl,?_,k3,agree _ _ v e2 rfl k4⟩
      grind[ziy,hsG]
     ·cases e
    |false=>
     rw[ha,←k8]at e;simp only[Yzd]at e ⊢
     let g:GE:=⟨⟨xd P nt ops o,(o.looksAt ops).map bn,false,false,ce (fun j=>bef bs j i) 0 es,ce (fun j=>!bef bs i j) 0 es,yY bs i 0 ops.toList⟩,jg t ((o.looksAt ops).map bn),v,h,h⟩
     obtain⟨l,t',h2,k1,k2,k3,k4⟩:=zfR bs es k x os _ _ _ _ _ _ _ (l0++[g]) (ze2 (g:=g) rfl cs l0 hc) e;rw[k1];refine⟨_,_,_,rfl,?_,k3,agree _ _ v e2 rfl k4⟩
     grind[ziy,hsG]
   ·cases e
theorem zbQ(bs:List Nat)(es:List Bool):∀(os:List Oper) (i:Nat),(xI P nt ops bs es i os).length=os.length
 | [],_=>rfl
 |o::os,i=>by simp only[xI,Yzg,zbQ bs es os]
end
theorem zoT:∀(l:List Zb) (n:Nat),zzQ l n=(l[n]?).getD yp
 | [],_=>rfl
 |v::l,n=>by
  cases n with
  |zero=>rfl
  |succ n=>simp only[zzQ,Yzt];exact zoT l n
theorem zkP{r s:Fr}(V:List Nat):∀(W:List Nat) (k:Nat),(∀n w,W[n]? = some w→V[k+n]? = some w)→∀i,(i∉W→s i=r i)→zmA W k r (V.map s) i=s i
 | [],k,_,i,h=>(h (by simp)).symm
 |w::W,k,hW,i,h=>by
  simp only[zmA];cases hq:Nat.beq i w with
  |true=>have:=hW 0 w rfl;simp_all[zoT]
  |false=>
   simp only[Yzd];refine zkP V W (k+1) (fun n w' hn=>?_) i (fun hi=>h ?_)
   ·have:=hW (n+1) w' hn
    grind
   ·intro hm;simp_all
theorem zc1{W:List Nat}{r s:Fr}(h:∀i,i∉W→s i=r i):zmA W 0 r (W.map s)=s:=
 funext fun i=>zkP W W 0 (fun n w hn=>by rwa [Yzm]) i (h i)
theorem zfJ{call:zj}{f fn:Nat}{c:Code}{r0:Fr} (H:∀(β:Type) (t:Tr Zb) (d:List BN) (h:Za) (k:Zh→Fr→Za→Option β) (x:β),xO P nt call f c (wu t) h k=some x→
   ∃e t' h',ye P nt c call f fn none ⟨t,d,h⟩=some (e,⟨t',d,h'⟩)∧k e (wu t') h'=some x∧∀i,i∉writes c→wu t' i=wu t i):
  ∀(n:Nat) (t:Tr Zb) (d:List BN) (h:Za) (e:Zh) (ys:List Zb) (h':Za),(∀i,i∉writes c→wu t i=r0 i)→
   zb0 (fun ys h=>xO P nt call f c (zmA (writes c) 0 r0 ys) h (fun e s h=>some (e,(writes c).map s,h))) n ((writes c).map (wu t)) h=some (e,ys,h')→
   ∃t',zhk (ye P nt c call f fn none) n ⟨t,d,h⟩=some (e,⟨t',d,h'⟩)∧ys=(writes c).map (wu t')∧∀i,i∉writes c→wu t' i=r0 i
 |0,_,_,_,_,_,_,_,e=>by cases e
 |n+1,t,d,h,e,ys,h',ht,hh=>by
  simp only[zb0]at hh;rw[zc1 ht]at hh;have hN:zhk (ye P nt c call f fn none) (n+1) ⟨t,d,h⟩=(match ye P nt c call f fn none ⟨t,d,h⟩ with
   |some (.normal,s')=>zhk (ye P nt c call f fn none) n s'
   |r=>r):=rfl
  rw[hN];split at hh
  ·rename_i r1 h1 hq;obtain⟨e1,t1,h2,k1,k2,k3⟩:=H _ t d h _ _ hq;cases k2;rw[k1];exact zfJ H n t1 d h1 e ys h' (fun i hi=>(k3 i hi).trans (ht i hi)) hh
  ·rename_i x hx;obtain⟨e1,t1,h2,k1,k2,k3⟩:=H _ t d h _ _ hh;simp_all
theorem zsJ{call:zj}{f fn:Nat}(c:Code):∀(β:Type) (t:Tr Zb) (d:List BN) (h:Za) (k:Zh→Fr→Za→Option β) (x:β),xO P nt call f c (wu t) h k=some x→
  ∃e t' h',ye P nt c call f fn none ⟨t,d,h⟩=some (e,⟨t',d,h'⟩)∧k e (wu t') h'=some x∧∀i,i∉writes c→wu t' i=wu t i:=by
 induction c with
 |skip=>exact fun β t d h k x e=>⟨.normal,t,h,rfl,e,fun _ _=>rfl⟩
 |region id ops draw=>
  intro β t d h k x e;simp only[xO]at e;simp only[ye];cases draw with
  |false=>simp only[Yzd]at e ⊢;obtain⟨t',h',k1,k2,k3⟩:=zpx ops call ops.toList t h _ x e;exact⟨.normal,t',h',by simp only[zzI,k1];rfl,k2,k3⟩
  |true=>
   simp only[Yza]at e ⊢;cases hq:P.follows .mixedOrders&&zaJ P ops (xM ops.toList) with
   |false=>
    rw[hq]at e;simp only[Yzd]at e ⊢;cases hq2:P.follows .mixedOrders&&jw P ops (xM ops.toList) with
    |false=>grind
    |true=>
     rw[hq2]at e;simp only[Yza]at e ⊢;obtain⟨l,t',h',k1,k2,k3,k4⟩:=zfR (call:=call) (n0:=h.n.toNat) _ _ _ x ops.toList 0 t _ 0 _ [] [] [] (fun y hy=>by cases hy) e;refine⟨.normal,t',h',?_,k3,k4⟩;simp only[zlj,um,zbQ]
     grind
   |true=>
    rw[hq]at e;simp only[Yza]at e ⊢;obtain⟨l,t',hs',k1,k2,k3,k4,k5⟩:=zpy ops call _ _ _ x ops.toList 0 t h [] [] [] (fun y hy=>by cases hy) e;refine⟨.normal,t',zfP h hs',?_,k4,k5⟩
    grind[zlk,zbS]
 |seq a b iha ihb=>
  intro β t d h k x e;simp only[xO]at e;obtain⟨e1,t1,h1,k1,k2,k3⟩:=iha β t d h _ x e;simp only[ye,zBY];rw[k1];have hw:∀i,i∉writes (a.seq b)→i∉writes a∧i∉writes b:=fun i hi=>by grind[writes]
  cases e1 with
  |normal=>obtain⟨e2,t2,h2,j1,j2,j3⟩:=ihb β t1 d h1 k x k2;exact⟨e2,t2,h2,j1,j2,fun i hi=>(j3 i (hw i hi).2).trans (k3 i (hw i hi).1)⟩
  |exit id=>exact⟨_,t1,h1,rfl,k2,fun i hi=>k3 i (hw i hi).1⟩
  |ret=>exact⟨_,t1,h1,rfl,k2,fun i hi=>k3 i (hw i hi).1⟩
 |cond c a b iha ihb=>
  intro β t d h k x e;simp only[xO]at e;simp only[ye];have hw:∀i,i∉writes (Code.cond c a b)→i∉writes a∧i∉writes b:=fun i hi=>by grind[writes]
  rcases zV (t:=t) c with⟨h1,h2⟩|⟨p,q,h1,h2,h3⟩
  ·grind
  ·rw[h1]at e;rw[h2];simp only[ifK,zwn]at e ⊢;rw[h3]at e;split at e
   ·rename_i qq hqq;rw[hqq];cases qq with
    |true=>
     obtain⟨e2,t2,h2,j1,j2,j3⟩:=iha β t d h k x e
     grind
    |false=>
     obtain⟨e2,t2,h2,j1,j2,j3⟩:=ihb β t d h k x e
     grind
   ·cases e
 |block id c ih=>
  intro β t d h k x e;simp only[xO]at e;obtain⟨e1,t1,h1,k1,k2,k3⟩:=ih β t d h _ x e;simp only[ye,zt3];rw[k1];cases e1 with
  |normal=>exact⟨_,t1,h1,rfl,k2,k3⟩
  |ret=>exact⟨_,t1,h1,rfl,k2,k3⟩
  |exit id'=>
   simp only[zzM,zxL]at k2 ⊢;cases hq:Nat.beq id' id with
   |true=>rw[hq]at k2;exact⟨_,t1,h1,rfl,k2,k3⟩
   |false=>rw[hq]at k2;exact⟨_,t1,h1,rfl,k2,k3⟩
 |loop c ih=>
  intro β t d h k x e;simp only[xO,bindX]at e;simp only[ye,zyb];split at e
  ·rename_i id ys h1 hq;obtain⟨t',k1,k2,k3⟩:=zfJ ih f t d h _ ys h1 (fun _ _=>rfl) hq;rw[k2,zc1 k3]at e;exact⟨_,t',h1,k1,e,k3⟩
  ·rename_i ys h1 hq;obtain⟨t',k1,k2,k3⟩:=zfJ ih f t d h _ ys h1 (fun _ _=>rfl) hq;rw[k2,zc1 k3]at e;exact⟨_,t',h1,k1,e,k3⟩
  ·cases e
 |exit id=>exact fun β t d h k x e=>⟨.exit id,t,h,rfl,e,fun _ _=>rfl⟩
 |ret=>exact fun β t d h k x e=>⟨.ret,t,h,rfl,e,fun _ _=>rfl⟩
 |_=>grind[xO]
theorem zfj(t:Tr Zb)(h:Za):∀(l:List ResultVar) (rs:List (BN×Option (Option Nat))),zgs P l=some rs→qi P (wu t) h l=kE t h rs
 | [],rs,e=>by cases e;rfl
 | .tmp i::l,rs,e=>by
  simp only[zgs]at e;split at e
  ·rename_i rs' hq;cases e;simp only[qi,kE];rw[zfj t h l rs' hq];simp only[zdP,zeO,zzG,wu,zlO];cases t.get (bn i) with
   |none=>rfl
   |some v=>cases v<;>rfl
  ·cases e
 | .cell i ty::l,rs,e=>by
  simp only[zgs]at e;split at e
  ·rename_i n rs' hn hq;cases e;simp only[qi,kE];rw[zfj t h l rs' hq];simp only[zdP,zeO,zzH,wu,zlO,hn];cases t.get (bn i) with
   |none=>rfl
   |some v=>
    cases v with
    |tup _=>rfl
    |s v=>cases v with
     |agg _=>rfl
     |one c=>cases c<;>rfl
  ·cases e
theorem zy0(P:Program)(g:Nat):cFs (xS P) g=(P.funcs[g]?).bind (zjN P):=by
 unfold cFs xS;have:=vY (P.funcs.toList.map (zjN P)) 0 .nil g;rw[show bn 0=BN.z from rfl]at this;rw[this];simp only[Nat.not_lt_zero,if_false,Yyq,Lz6,LzA];have hn:(Tr.nil:Tr (Option Zm)).get (bn g)=none:=by simp
 grind
theorem zvW{g:Nat}{call:zj}{f:Nat}{args:List Zb}{h:Za}{x:Zb×Za}(e:zsI P g call f args h=some x):zpS (cFs (xS P)) call f g args h=some x:=by
 unfold zsI at e;unfold zpS;rw[zy0];cases hf:P.funcs[g]? with
 |none=>grind
 |some fn=>
  rw[hf]at e;simp only[Yz2]at e ⊢;unfold zjN;cases hb:fn.body with
  |none=>grind
  |some c=>
   rw[hb]at e;simp only at e ⊢;cases hr:zgs P fn.results.toList with
   |none=>grind
   |some rs=>
    rw[hr]at e;simp only[Option.isNone_some,Yz7]at e ⊢;cases hn:fn.name == "runtime.NumGoroutine" with
    |true=>grind
    |false=>
     rw[hn]at e;simp only[Yzd]at e ⊢;cases hl:zsC args fn.ntmps with
     |false=>grind
     |true=>
      rw[hl]at e;simp only[Yza]at e ⊢;obtain⟨e1,t1,h1,k1,k2,_⟩:=zsJ (fn:=g) c _ _ [] h _ _ e;rw[k1];cases e1 with
      |exit id=>cases k2
      |normal=>simp only[zp3,zfj _ _ _ _ hr]at k2;exact k2
      |ret=>simp only[zp3,zfj _ _ _ _ hr]at k2;exact k2
end
end Go.CE
end
section
namespace Go.CE
noncomputable section
def yJ:zj:=fun _ _ _=>none
def cP(l:List (Nat×Nat×Zb)):List (Nat×Nat×Opd):=l.map fun p=>(p.1,p.2.1,zD p.2.2)
def cL(l:List Zb):List Opd:=l.map zD
def cO:Option Zb→Option Opd
 |none=>none
 |some v=>some (zD v)
def zrm(c a b:Zb)(h:Za):Res:=jV (zD c) (zD a) (zD b) yJ .nil h
def zw1(zs:List Zc)(h:Za):Res:=zcV zs yJ .nil h
def zCS(x:Zb)(h:Za):Res:=zfD (zD x) yJ .nil h
def znt(zs:List Zc)(l:List (Nat×Nat×Zb))(h:Za):Res:=ui zs (cP l) yJ .nil h
def zuo(st len:Nat)(zs:List Zc)(l:List (Nat×Nat×Zb))(h:Za):Res:=vS st len zs (cP l) yJ .nil h
def zrp(n:Option Nat)(x:Zb)(h:Za):Res:=jY n (zD x) yJ .nil h
def zwZ(n:Nat)(x v:Zb)(h:Za):Res:=za2 n (zD x) (zD v) yJ .nil h
def zj7(x:Zb)(h:Za):Res:=ud (zD x) yJ .nil h
def zzC(g:IntKind→Int→Int→Option Zc)(x y:Zb)(h:Za):Res:=zbZ g (zD x) (zD y) yJ .nil h
def zj6(g:IntKind→Int→Int→Option Zc)(x y:Zb)(h:Za):Res:=wT g (zD x) (zD y) yJ .nil h
def zzy(op:BinOp)(x y:Zb)(h:Za):Res:=zcP op (zD x) (zD y) yJ .nil h
def vEq(ks:Nat⊕List Nat)(neg:Bool)(x y:Zb)(h:Za):Res:=zkB ks neg (zD x) (zD y) yJ .nil h
def znr(neg:Bool)(x y:Zb)(h:Za):Res:=uP neg (zD x) (zD y) yJ .nil h
def zzz(x:Zb)(h:Za):Res:=zcQ (zD x) yJ .nil h
def zzA(x:Zb)(h:Za):Res:=zcR (zD x) yJ .nil h
def zrs(k:IntKind)(x:Zb)(h:Za):Res:=j5 k (zD x) yJ .nil h
def zro(f:Nat)(caps:List Zb)(h:Za):Res:=jX f (cL caps) yJ .nil h
def zw0(h:Za):Res:=zcT yJ .nil h
def zrn(st:Nat)(zs:List Zc)(bytes:Nat)(l c:Zb)(h:Za):Res:=wq st zs bytes (zD l) (zD c) yJ .nil h
def jB(st:Nat)(x:Zb)(lo hi mx:Option Zb)(h:Za):Res:=ub st (zD x) (cO lo) (cO hi) (cO mx) yJ .nil h
def ze8(x:Zb)(lo hi:Option Zb)(h:Za):Res:=wh (zD x) (cO lo) (cO hi) yJ .nil h
def zrr(x:Zb)(off:Nat)(h:Za):Res:=j4 (zD x) off yJ .nil h
def zkb(x:Zb)(off:Nat)(n:Option Nat)(h:Za):Res:=uh (zD x) off n yJ .nil h
def zzB(st:Nat)(x i:Zb)(h:Za):Res:=zcU st (zD x) (zD i) yJ .nil h
def zj9(len st:Nat)(x i:Zb)(h:Za):Res:=uf len st (zD x) (zD i) yJ .nil h
def zka(len st:Nat)(n:Option Nat)(x i:Zb)(h:Za):Res:=ug len st n (zD x) (zD i) yJ .nil h
def zj8(x i:Zb)(h:Za):Res:=ue (zD x) (zD i) yJ .nil h
def zun(q:Nat⊕List Nat)(z:SVal)(ok:Bool)(m k:Zb)(h:Za):Res:=wZ q z ok (zD m) (zD k) yJ .nil h
def zz1(q:Nat⊕List Nat)(m k v:Zb)(h:Za):Res:=zcS q (zD m) (zD k) (zD v) yJ .nil h
def zb6(x:Zb)(i:Nat)(h:Za):Res:=x6 (zD x) i yJ .nil h
def zrq(x:Zb)(h:Za):Res:=jZ (zD x) yJ .nil h
def zns(x:Zb)(h:Za):Res:=j0 (zD x) yJ .nil h
def zz2(x:Zb)(h:Za):Res:=qt (zD x) yJ .nil h
def zup(str:Bool)(st bytes:Nat)(s x:Zb)(h:Za):Res:=wi str st bytes (zD s) (zD x) yJ .nil h
def ze9(m:Bool)(x:Zb)(xs:List Zb)(h:Za):Res:=xG m (zD x) (cL xs) yJ .nil h
def ztp(st:Nat)(zs:List Zc)(x:Zb)(h:Za):Res:=za3 st zs (zD x) yJ .nil h
def zz4(call:zj)(f:Zb)(args:List Zb)(h:Za):Res:=zem (zD f) (cL args) call .nil h
end
end Go.CE
end
section
namespace Go.CE
def Ev{α:Type}(m:Nat→Option α)(Q:α→Prop):Prop:=∃a,Q a∧∃N,∀n,N≤n→m n=some a
theorem Ev.some{α:Type}{a:α}{Q:α→Prop}(h:Q a):Ev (fun _=>some a) Q:=⟨a,h,0,fun _ _=>rfl⟩
theorem Ev.mono{α:Type}{m:Nat→Option α}{Q Q':α→Prop}(h:Ev m Q)(hq:∀a,Q a→Q' a):Ev m Q':=by obtain⟨a,h1,h2⟩:=h;exact⟨a,hq a h1,h2⟩
theorem Ev.bindR{β:Type}{m:Nat→Res}{k:Nat→Zb→Za→Option β}{Q:β→Prop}(h:Ev m (fun p=>Ev (fun n=>k n p.1 p.2) Q)):Ev (fun n=>CE.bindR (m n) (k n)) Q:=by
 obtain⟨⟨v,h'⟩,⟨x,h1,N1,h2⟩,N2,h3⟩:=h;refine⟨x,h1,max N1 N2,fun n hn=>?_⟩
 grind[CE.bindR]
theorem Ev.bindX{β:Type}{m:Nat→Option (Zh×List Zb×Za)}{kx:Nat→Nat→List Zb→Za→Option β}{kr:Nat→List Zb→Za→Option β}{Q:β→Prop}
  (h : Ev m (fun p => match p.1 with
   | .exit id=>Ev (fun n=>kx n id p.2.1 p.2.2) Q
   | .ret=>Ev (fun n=>kr n p.2.1 p.2.2) Q
   | .normal=>False)):Ev (fun n=>CE.bindX (m n) (kx n) (kr n)) Q:=by
 obtain⟨⟨e,ys,h'⟩,h1,N2,h3⟩:=h;cases e with
 |normal=>trivial
 |exit id=>obtain⟨x,h1,N1,h2⟩:=h1;exact⟨x,h1,max N1 N2,fun n hn=>by grind[CE.bindX]⟩
 |ret=>obtain⟨x,h1,N1,h2⟩:=h1;exact⟨x,h1,max N1 N2,fun n hn=>by grind[CE.bindX]⟩
theorem Ev.loop{c:Nat→List Zb→Za→Option (Zh×List Zb×Za)}{Q:Zh×List Zb×Za→Prop}(I:Nat→List Zb→Za→Prop)
  (H : ∀ k ys h, I k ys h → Ev (fun n => c n ys h) (fun p => match p.1 with
   | .normal=>∃k',k'<k∧I k' p.2.1 p.2.2
   |e=>Q (e,p.2.1,p.2.2))):
  ∀k ys h,I k ys h→Ev (fun n=>zb0 (c n) n ys h) Q:=by
 have key:∀K k ys h,k≤K→I k ys h→∃a,Q a∧∃N,∀n,N≤n→∀f,N≤f→zb0 (c n) f ys h=Option.some a:=by
  intro K
  induction K with
  |zero=>
   intro k ys h hk hi;obtain⟨⟨e,ys',h'⟩,h1,N,h2⟩:=H k ys h hi;cases e with
   |normal=>omega
   |exit id=>refine⟨_,h1,N+1,fun n hn f hf=>?_⟩;cases f<;>grind[zb0]
   |ret=>refine⟨_,h1,N+1,fun n hn f hf=>?_⟩;cases f<;>grind[zb0]
  |succ K ih=>
   intro k ys h hk hi;obtain⟨⟨e,ys',h'⟩,h1,N,h2⟩:=H k ys h hi;cases e with
   |normal=>obtain⟨k',hk',hi'⟩:=h1;obtain⟨a,ha,N',h3⟩:=ih k' ys' h' (by omega) hi';refine⟨a,ha,max N N'+1,fun n hn f hf=>?_⟩;cases f<;>grind[zb0]
   |exit id=>refine⟨_,h1,N+1,fun n hn f hf=>?_⟩;cases f<;>grind[zb0]
   |ret=>refine⟨_,h1,N+1,fun n hn f hf=>?_⟩;cases f<;>grind[zb0]
 intro k ys h hi;obtain⟨a,ha,N,h1⟩:=key k k ys h (LzB _) hi;exact⟨a,ha,N,fun n hn=>h1 n hn n hn⟩
def HW(h:Za):Prop:=∀b o,h.t.get b=some o→b.toNat<h.n.toNat
structure Gr (h h':Za):Prop where
 le:h.n.toNat≤h'.n.toNat
 old:∀b:BN,b.toNat<h.n.toNat→h'.t.get b=h.t.get b
theorem Gr.refl(h:Za):Gr h h:=⟨LzB _,fun _ _=>rfl⟩
theorem Gr.get{h h':Za}(g:Gr h h')(w:HW h){b:BN}{o:Zg}(e:h.t.get b=some o):h'.t.get b=some o:=(g.old b (w b o e)).trans e
theorem zD4{a b:BN}(h:a.toNat≠b.toNat):a≠b:=fun e=>h (by rw[e])
theorem HW.new{h:Za}(w:HW h)(o:Zg):HW (h.new o):=fun b o' e=>by
 simp only[Za.new]at e ⊢;rw[BN.toNat_succ];by_cases hb:b=h.n
 ·grind
 ·rw[zy _ _ _ _ hb]at e;have:=w b o' e;omega
theorem Gr.new(h:Za)(o:Zg):Gr h (h.new o):=⟨by grind[Za.new,BN.toNat_succ],fun b hb=>by grind[Za.new,zy]⟩
theorem HW.put{h:Za}(w:HW h){b:BN}{o o':Zg}(e:h.t.get b=some o):HW (h.put b o'):=fun c x hx=>by
 simp only[Za.put]at hx ⊢;by_cases hb:c=b
 ·rw[hb];exact w b o e
 ·rw[zy _ _ _ _ hb]at hx;exact w c x hx
theorem ji(h:Za)(b:BN)(o:Zg):(h.put b o).t.get b=some o:=zK _ _ _
theorem vh(h:Za){b c:BN}(o:Zg)(hc:c≠b):(h.put b o).t.get c=h.t.get c:=zy _ _ _ _ hc
theorem zlf:∀v:Zb,eqA v v=true:=by
 have hbn:∀a:BN,zm1 a a=true:=fun a=>by induction a with|z=>rfl|o n ih=>exact ih|d n ih=>exact ih
 have hn:∀a:Nat,Nat.beq a a=true:=Yzj;have hps:∀l:List (BN×Nat),zyG l l=true:=fun l=>by induction l<;>grind[zyG]
 have hu:∀l:List UInt8,eqU l l=true:=fun l=>by induction l<;>grind[eqU]
 have hb:∀b:Bool,eqB b b=true:=fun b=>by cases b<;>rfl
 have hi:∀i:Int,eqI i i=true:=fun i=>by cases i<;>exact hn _
 have hk:∀k:IntKind,eqK k k=true:=fun k=>by cases k<;>rfl
 have hv:∀c:Zc,eqV c c=true:=fun c=>by cases c<;>simp only[eqV,hbn,hn,hps,hu,hb,hi,hk,Yyw]
 have hvs:∀l:List Zc,zwR l l=true:=fun l=>by induction l<;>grind[zwR]
 have hsv:∀v:SVal,zyE v v=true:=fun v=>by cases v<;>simp only[zyE,hv,hvs]
 have hss:∀l:List SVal,zyF l l=true:=fun l=>by induction l<;>grind[zyF]
 intro v;cases v<;>simp only[eqA,hsv,hss]
end Go.CE
end
section
namespace Go.CE
theorem Ev.call{P:Program}{sums:List Sum}{srt:Nat→Option Srt}{g:Nat}{args:List Zb}{h:Za}{Q:Zb×Za→Prop}(ht:srt g=none)(hs:wB g args h sums=none)
  (H:Ev (fun n=>zsI P g (yk (ye P) (cFs (xS P)) sums srt n) n args h) Q):Ev (fun n=>yk (ye P) (cFs (xS P)) sums srt n (.inl g) args h) Q:=by
 obtain⟨x,hx,N,hN⟩:=H;refine⟨x,hx,N+1,fun n hn=>?_⟩;cases n with
 |zero=>omega
 |succ n=>have e:=zvW (hN n (by omega));have:yk (ye P) (cFs (xS P)) sums srt (n+1) (.inl g) args h=ze3 srt (zdN sums (zbO (ye P) (cFs (xS P)) (yk (ye P) (cFs (xS P)) sums srt n) n)) (.inl g) args h:=rfl;show yk (ye P) (cFs (xS P)) sums srt (n+1) (.inl g) args h=_;rw[this];unfold ze3 zdN;simp only[ht,hs];exact e
theorem Ev.sum{P:Program}{fs:Nat→Option Zm}{sums:List Sum}{srt:Nat→Option Srt}{g:Nat}{args:List Zb}{h:Za}{v:Zb}(ht:srt g=none)(hs:wB g args h sums=Option.some v):
  Ev (fun n=>yk (ye P) fs sums srt n (.inl g) args h) (fun p=>p=(v,h)):=by
 refine⟨_,rfl,1,fun n hn=>?_⟩;cases n with
 |zero=>omega
 |succ n=>
  have:yk (ye P) fs sums srt (n+1) (.inl g) args h=ze3 srt (zdN sums (zbO (ye P) fs (yk (ye P) fs sums srt n) n)) (.inl g) args h:=rfl
  grind[ze3,zdN]
theorem Ev.sort{P:Program}{fs:Nat→Option Zm}{sums:List Sum}{srt:Nat→Option Srt}{g:Nat}{t:Srt}{args:List Zb}{h h2:Za}{v:Zb}(ht:srt g=Option.some t)(hs:zbA t args h=Option.some (v,h2)):
  Ev (fun n=>yk (ye P) fs sums srt n (.inl g) args h) (fun p=>p=(v,h2)):=by
 refine⟨_,rfl,1,fun n hn=>?_⟩;cases n with
 |zero=>omega
 |succ n=>
  have:yk (ye P) fs sums srt (n+1) (.inl g) args h=ze3 srt (zdN sums (zbO (ye P) fs (yk (ye P) fs sums srt n) n)) (.inl g) args h:=rfl
  grind[ze3]
def rd(n off:Nat):Zg→Option (List Zc)
 | .cells cs _=>cut n cs off
 | .ro _ f=>zdq f n off
 | .void=>bif Nat.beq n 0 then some [] else none
 |_=>none
def Sl{α:Type}(st:Nat)(R:Za→List Zc→α→Prop)(h:Za)(c:Zc)(l:List α):Prop:=
 (c=.nils∧l=[])∨∃b off cap ex,c=.slc b off l.length cap ex∧∀i x,l[i]? = some x→∃o ds,h.t.get b=some o∧rd st (off+i*st) o=some ds∧R h ds x
theorem zwl{cs:List Zc}{i:Nat}{c:Zc}(h:cut 1 cs i=some [c]):uV cs i=some c:=by rw[wj];have:=(zbk h).2 0 c rfl;omega
theorem zxC{o:Zg}{off:Nat}{c:Zc}{h:Za}(e:rd 1 off o=some [c]):loadAt none h off (some o)=some (.s (.one c),h):=by
 cases o with
 |cells cs st=>show zaU h (uV cs off)=_;rw[zwl e];rfl
 |ro x f=>
  show zaU h (f off)=_;simp only[rd,zdq]at e;cases hf:f off with
  |none=>grind
  |some d=>rw[hf]at e;cases e;rfl
 |_=>cases e
end Go.CE
end
section
namespace Go.CE
theorem zd2:∀l:List Zc,takeN l.length l=some l
 | []=>rfl
 |c::l=>by simp only[Yzg,takeN,zd2 l,wJ]
theorem zgi(l:List Zc):cut l.length l 0=some l:=by
 cases l with
 |nil=>rfl
 |cons c l=>simp only[cut];exact zd2 (c::l)
end Go.CE
end
section
namespace Go.CE
open Go.RowKit
section
variable (w:World)
def zB2:Value→List Addr
 | .slice (some a) 0 0=>[a]
 |_=>[]
def zDg:Obj→List Addr
 | .cells arr _ _=>arr.toList.flatMap zB2
 |_=>[]
def zen(w:World):List Addr:=w.heap.toList.flatMap zDg
theorem zr3{w:World}{b:Nat}{arr:Array Value}{e:TypeId}{fr:Nat×Nat}{i:Nat}{a:Addr}(h:w.heap[b]? = some (.cells arr e fr))(hi:arr[i]? = some (.slice (some a) 0 0)):a∈zen w:=by
 unfold zen;refine List.mem_flatMap.2 ⟨.cells arr e fr,?_,List.mem_flatMap.2 ⟨.slice (some a) 0 0,?_,by simp[zB2]⟩⟩
 ·grind
 ·grind
def zb2(w:World)(k:Nat):Bool:=match w.heap[k]? with|some (.cells _ _ _)=>true|_=>false
theorem zdn{w:World}{k:Nat}(h:zb2 w k=true):∃arr e fr,w.heap[k]? = some (.cells arr e fr):=by grind[zb2]
theorem zll{w:World}{k:Nat}(h:zb2 w k=true):k<w.heap.size:=by grind[zdn]
def zwP(a:Addr):List Addr→Nat
 | []=>0
 |x::l=>if x=a then 0 else zwP a l+1
theorem zf1{a:Addr}:∀{l:List Addr},a∈l→l[zwP a l]? = some a
 | [],h=>by cases h
 |x::l,h=>by
  unfold zwP;by_cases hx:x=a
  ·grind
  ·rw[Yzb hx];rcases YzA.1 h with h|h
   ·grind
   ·rw[Yzt];exact zf1 h
noncomputable def znl(w:World):Value→Option Zc
 | .bool b=>some (.bool b)
 | .int k n=>some (.int k n)
 | .string s=>some (.str s)
 | .pointer none=>some .nilp
 | .pointer (some a)=>bif decide (a.block<w.heap.size∧a.spot=none) then some (.ptr (bn a.block) a.off) else none
 | .slice none len cap=>bif decide (len=0∧cap=0) then some .nils else none
 | .slice (some a) len cap=>
  bif decide (zb2 w a.block=true∧a.spot=none∧len≤cap) then some (.slc (bn a.block) a.off len cap true)
  else bif decide (len=0∧cap=0∧a∈zen w) then some (.slc (bn (w.heap.size+zwP a (zen w))) 0 0 0 true) else none
 | .map none=>some .nilm
 | .nilFunc=>some .nilf
 | .nilIface=>some .nili
 |_=>none
def φ0(w:World):Phi:=fun b=>
 if b.toNat<w.heap.size then⟨b.toNat,0,0,true,none⟩
 else match (zen w)[b.toNat-w.heap.size]? with|some a=>⟨a.block,a.off,0,true,a.spot⟩|none=>⟨b.toNat,0,0,true,none⟩
theorem zcq{b:BN}(h:b.toNat<w.heap.size):φ0 w b=⟨b.toNat,0,0,true,none⟩:=Yze h
theorem zui{i:Nat}{a:Addr}(h:(zen w)[i]? = some a):φ0 w (bn (w.heap.size+i))=⟨a.block,a.off,0,true,a.spot⟩:=by simp_all[φ0,Yzb,zW]
theorem zj0(b:BN):(φ0 w b).ok=true:=by grind[φ0]
noncomputable def zuO(w:World):Obj→Zg
 | .cells arr e fr=>.ro (some (.cells arr e fr)) (fun i=>(arr[i]?).bind (znl w))
 |_=>.dead
noncomputable def zrb(w:World)(k:Nat):Zg:=match w.heap[k]? with|some x=>zuO w x|none=>.dead
noncomputable def yS(w:World):Za:=⟨bn (w.heap.size+(zen w).length),Tr.ofList .z ((List.range w.heap.size).map (zrb w)++(zen w).map fun _=>.void) .nil⟩
theorem wV(b:BN):(yS w).t.get b=if b.toNat<w.heap.size then some (zrb w b.toNat) else if b.toNat<w.heap.size+(zen w).length then some .void else none:=by
 have e0:BN.z=bn 0:=rfl;show (Tr.ofList .z ((List.range w.heap.size).map (zrb w)++(zen w).map fun _=>.void) .nil).get b=_;have:=vY ((List.range w.heap.size).map (zrb w)++(zen w).map fun _=>Zg.void) 0 (.nil:Tr Zg) b.toNat;rw[yh,←e0]at this;rw[this];have hn:(Tr.nil:Tr Zg).get b=none:=by simp
 grind
theorem zav:(yS w).n.toNat=w.heap.size+(zen w).length:=zW _
theorem zbJ{b:BN}{arr:Array Value}{e:TypeId}{fr:Nat×Nat}(h:w.heap[b.toNat]? = some (.cells arr e fr)):(yS w).t.get b=some (zuO w (.cells arr e fr)):=by
 rw[wV,Yze (Lz7.1 h).1]
 grind[zrb]
theorem zmT{i:Nat}(h:i<(zen w).length):(yS w).t.get (bn (w.heap.size+i))=some .void:=by simp_all[wV,zW,Yzb]
theorem zua{v:Value}{c:Zc}(h:znl w v=some c):zm (φ0 w) c=v∧wfC (φ0 w) (yS w).n.toNat c:=by
 rw[zav];unfold znl at h;split at h
 ·cases h;trivial
 ·cases h;trivial
 ·cases h;trivial
 ·cases h;trivial
 ·rename_i a;by_cases hc:a.block<w.heap.size∧a.spot=none
  ·rw[decide_eq_true hc]at h;cases h;obtain⟨b,off,sp⟩:=a;obtain⟨h1,rfl⟩:=hc;have hp:=zcq w (b:=bn b) (by grind[zW]);refine⟨?_,by rw[zW];omega,zj0 w _⟩;simp_all[zm,zlD,zW]
  ·grind
 ·rename_i len cap;by_cases hc:len=0∧cap=0
  ·rw[decide_eq_true hc]at h;cases h;obtain⟨rfl,rfl⟩:=hc;trivial
  ·grind
 ·rename_i a len cap;by_cases hc:zb2 w a.block=true∧a.spot=none∧len≤cap
  ·rw[decide_eq_true hc]at h;cases h;obtain⟨b,off,sp⟩:=a;obtain⟨h1,rfl,h3⟩:=hc;have h1:=zll h1;have hp:=zcq w (b:=bn b) (by grind[zW]);refine⟨?_,⟨by rw[zW];omega,zj0 w _⟩,fun hh=>(by cases hh),fun _=>h3⟩;simp_all[zm,zlD,zW]
  ·rw[decide_eq_false hc,Yzd]at h;by_cases hc2:len=0∧cap=0∧a∈zen w
   ·rw[decide_eq_true hc2]at h;cases h;obtain⟨rfl,rfl,hm⟩:=hc2;have hi:=zf1 hm;have hlt:=(Lz0.1 hi).1;have hp:=zui w hi;refine⟨?_,⟨by grind[zW],zj0 w _⟩,fun hh=>(by cases hh),fun _=>LzB _⟩;rw[zm,Yza];unfold adr;rw[hp];rfl
   ·grind
 ·cases h;trivial
 ·cases h;trivial
 ·cases h;trivial
 ·cases h
theorem zhr:HW (yS w):=fun b o hb=>by
 rw[wV]at hb;rw[zav]
 grind
def SW(w:World)(k:Nat):Prop:=∃arr e fr,w.heap[k]? = some (.cells arr e fr)
theorem zcB{k:Nat}(hl:live (zrb w k)):∃arr e fr,w.heap[k]? = some (.cells arr e fr)∧zrb w k=zuO w (.cells arr e fr):=by
 unfold zrb at hl ⊢;split at hl
 ·rename_i x hx;cases x with
  |cells arr e fr=>grind
  |_=>exact hl.elim
 ·trivial
theorem zmS(hG:GOk w):Zd w (SW w) (φ0 w) (yS w) w:=by
 refine⟨zhr w,fun b o hb=>zj0 w b,fun b o hb=>?_,fun b b' o o' hb hb' hl hl' hh=>?_,fun b o hb hl=>?_,rfl,rfl,rfl,LzB _,LzB _,fun _ _ _=>rfl,hG,fun b o hb hl=>?_,fun b o hb hl=>?_⟩
 ·rw[wV]at hb;by_cases hlt:b.toNat<w.heap.size
  ·rw[Yze hlt]at hb;cases hb;have hp:=zcq w hlt;by_cases hl:live (zrb w b.toNat)
   ·obtain⟨arr,e,fr,hx,hr⟩:=zcB w hl;rw[hr];refine⟨fun y hy=>by grind,arr,e,fr,by grind,fun i c hc=>?_⟩
    replace hc:(arr[i]?).bind (znl w)=some c:=hc
    cases ha:arr[i]? with
    |none=>grind
    |some v=>
     rw[ha]at hc;obtain⟨k1,k2⟩:=zua w hc
     grind
   ·generalize zrb w b.toNat=o at hl;cases o with
    |dead=>trivial
    |void=>trivial
    |_=>exact absurd trivial hl
  ·rw[Yzb hlt]at hb;by_cases h2:b.toNat<w.heap.size+(zen w).length
   ·rw[Yze h2]at hb;cases hb;trivial
   ·grind
 ·have k1:=lt_live hb hl;have k2:=lt_live hb' hl'
  grind[zcq,yh]
 ·have k1:=lt_live hb hl;rw[zcq w k1];rw[wV,Yze k1]at hb;cases hb;obtain⟨arr,e,fr,h2,_⟩:=zcB w hl;exact .inl ⟨arr,e,fr,h2⟩
 ·rw[zcq w (lt_live hb hl)]
 ·have k1:=lt_live hb hl.live;rw[wV,Yze k1]at hb;cases hb;obtain⟨arr,e,fr,_,h2⟩:=zcB w hl.live;rw[h2]at hl;trivial
where
 lt_live {b:BN} {o:Zg} (hb:(yS w).t.get b=some o) (hl:live o):b.toNat<w.heap.size:=by
  rw[wV]at hb;by_cases hlt:b.toNat<w.heap.size
  ·exact hlt
  ·rw[Yzb hlt]at hb;by_cases h2:b.toNat<w.heap.size+(zen w).length
   ·rw[Yze h2]at hb;cases hb;trivial
   ·grind
theorem zjL{P:Program}{call:zj}(C:y4 P call)(hG:GOk w){f:Nat}{args:List Zb}{v:Zb}{h2:Za}(ha:∀x∈args,wfA (φ0 w) (yS w).n.toNat x)(e:call (.inl f) args (yS w)=some (v,h2))(hg:Gr (yS w) h2):
  CallsIn (FR none) 0 P f (args.map (zz (φ0 w))).toArray w (fun e w2=>∃φ,e=.returned (zz φ v)∧Below w.heap.size w w2):=by
 refine ((C w _ _ _ w args v h2 (zmS w hG) ha).1 f e).2.mono ?_
 rintro e9 w9 ⟨φ2,rfl,he,H2,_,_⟩
 refine⟨φ2,rfl,H2.os,H2.tape,H2.output,H2.size,fun k hk=>?_⟩;by_cases hc:SW w k
 ·obtain⟨arr,e,fr,hc⟩:=hc;have hb:(yS w).t.get (bn k)=some (zuO w (.cells arr e fr)):=zbJ w (by grind[zW]);have hn:(bn k).toNat<(yS w).n.toNat:=by grind[zav,zW]
  have hb2:=(hg.old _ hn).trans hb;obtain⟨h1,_⟩:=H2.obj _ _ hb2;have h1:=h1 _ rfl;rw[he _ hn,zcq w (by grind[zW])]at h1
  grind[zW]
 ·exact H2.kept k hk hc
end
end Go.CE
end
section
namespace Go.CE
open Go Go.ChangeShapes Go.WideShapes Go.ChangeAt Go.RowKit
theorem zlu{w:World}{b off:Nat}{v:Value}(h:w.cell? ⟨b,off,none⟩=some v):∃arr e fr,w.heap[b]? = some (.cells arr e fr)∧arr[off]? = some v:=by
 unfold World.cell? at h
 grind
def zyd(k:IntKind)(n:Nat):DataW Unit:=.lit (.int k (n:Int))
theorem zhm{P:Program}{w:World}{nm:String}{g:Nat}{t e:TypeId}{n:Nat}{k:IntKind}{ns:List Nat}{cs:Array Value}{fuel:Nat}{q:List MemPlace}
  (hg:P.globalNamed nm=some g) (ht:P.underlying t=some (.array n e)) (he:P.underlying e=some (.int k)) (hc:P.cellsOf e=1) (hv:w.var? P nm=some cs)
  (h:DataW.trod (fun _=>()) P w 0 (fun _=>true) false fuel t cs.toList=some (.agg (ns.map (zyd k)),q)) {off m:Nat} (hm:ns[off]? = some m):
  ∃arr ty fr,w.heap[g]? = some (.cells arr ty fr)∧arr[off]? = some (.int k (m:Int)):=by
 obtain⟨xs,m1,rfl,hx1,hlen,hn,hel⟩:=DataW.trod_array ht h;simp only[Prod.mk.injEq,DataW.agg.injEq]at hx1;have hxl:xs.length=ns.length:=by have:=congrArg List.length hx1.1;grind
 have hoff:off<ns.length:=(Lz0.1 hm).1;have h0:=hel off (by omega);obtain⟨x,hx⟩:∃x,xs[off]? = some x:=⟨_,Lz5 (by omega)⟩;rw[hx,hc,Nat.mul_one]at h0;obtain⟨r,e1,e2,_⟩:=DataW.trod_int he h0;have e3:x.1=zyd k m:=by
  have h1:(xs.map (·.1))[off]? = some x.1:=by grind
  grind
 have hr:r=(m:Int):=by grind[zyd]
 subst hr;have h2:cs.toList[off]? = some (.int k (m:Int)):=by
  have:((cs.toList.drop off).take 1)[0]? = some (.int k (m:Int)):=by grind
  grind
 refine zlu ?_
 grind[World.var?_cell]
theorem zkI:∀(l:List Nat) (i:Nat),zx2 l i=l[i]?
 | [],i=>by simp[zx2]
 |x::l,0=>rfl
 |x::l,i+1=>by show zx2 l i=_;rw[zkI l i];simp
theorem ztQ{w:World}{g:Nat}{k:IntKind}{ns:List Nat}(hg:zbd g=some (k,ns))(H:∀(off m:Nat),ns[off]? = some m→∃arr ty fr,w.heap[g]? = some (.cells arr ty fr)∧arr[off]? = some (.int k (m:Int)))
  {off:Nat} {c:Zc} (h:zdV g off=some c):∃arr e fr,w.heap[g]? = some (.cells arr e fr)∧∀φ,arr[off]? = some (zm φ c):=by
 unfold zdV at h;rw[hg]at h;simp only[zkI]at h;cases hm:ns[off]? with
 |none=>grind
 |some m=>rw[hm]at h;cases h;obtain⟨arr,ty,fr,h1,h2⟩:=H off m hm;exact⟨arr,ty,fr,h1,fun φ=>h2⟩
end Go.CE
end
