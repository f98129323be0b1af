/-
  Lemmas. No condition.
-/
import Derived.Test.YtaknlhnolkgndaaGreatDoorVa
import Derived.RangeFuncRecord
import Derived.RangeFuncNested
import Derived.LoopNIn
import Derived.OrdersIn
import Derived.RangeFuncLeaves
import Derived.RangeFuncIn
import Derived.Laws.Sem
import Derived.ProofKit
import Derived.OpenShut
import Derived.FnData
import Derived.MakeChecks
set_option linter.unusedSimpArgs false
set_option linter.unusedVariables false
section
namespace Go.CE
open Go.RowKit
def zxx:Zg->Exit
 | .normal=>.normal
 | .exit id=>.exit id
 | .ret=>.ret
def marks(φ:Phi)(d:List BN):List Deferred:=d.map fun b=>{ target:=.collected (φ b).blk,args:=#[] }
structure Zt (w0:World) (S:Nat->Prop) (φ:Phi) (nt:Nat) (s:St) (a:Act) (w:World):Prop where
 H:Ze w0 S φ s.h w
 T:Zh φ nt s.h.n.toNat s.t a.tmps
 D:a.defers=marks φ s.d
 dn:∀b∈s.d,okB φ s.h.n.toNat b
def After(w0:World)(S:Nat->Prop)(φ:Phi)(nt:Nat)(h:Za)(s2:St)(a2:Act)(w2:World):Prop:=
 ∃φ2,Ext h.n.toNat φ φ2/\Zt w0 S φ2 nt s2 a2 w2/\h.n.toNat<=s2.h.n.toNat
def RoRel(φ:Phi)(n:Nat):Option BN->Option Nat->Prop
 |none,ro=>ro=none
 |some l,ro=>ro=some (φ l).blk/\okB φ n l
theorem RoRel.ext{φ φ2:Phi}{n m:Nat}{round:Option BN}{ro:Option Nat}(h:RoRel φ n round ro)(he:Ext n φ φ2)(hn:n<=m):RoRel φ2 m round ro:=by
 rcases round with _|l
 .exact h
 exact⟨by rw[he l h.2.1];exact h.1,okB.ext he hn h.2⟩
theorem zbZ{φ φ2:Phi}{n:Nat}(he:Ext n φ φ2){d:List BN}(hd:∀b∈d,okB φ n b):marks φ2 d=marks φ d:=
 YzK fun b hb=>by rw[he b (hd b hb).1]
theorem After.trans{w0:World}{S:Nat->Prop}{φ φ1:Phi}{nt:Nat}{h h1:Za}{s2:St}{a2:Act}{w2:World}(he:Ext h.n.toNat φ φ1)(hn:h.n.toNat<=h1.n.toNat)(hA:After w0 S φ1 nt h1 s2 a2 w2):After w0 S φ nt h s2 a2 w2:=by obtain⟨φ2,he2,hs,hle⟩:=hA;exact⟨φ2,he.trans he2 hn,hs,Yzl hn hle⟩
section
variable {P:Program} {w0:World} {S:Nat->Prop} {nt:Nat} {call:zc}
def v7(P:Program)(w0:World)(S:Nat->Prop)(nt:Nat)(call:zc)(c:Code):Prop:=
 ∀(f fn:Nat) (round:Option BN) (ro:Option Nat) (φ:Phi) (s s2:St) (e:Zg) (a:Act) (w:World) (Q:Exit->Act->World->Prop),zH P nt c call f fn round s=some (e,s2)->Zt w0 S φ nt s a w->RoRel φ s.h.n.toNat round ro->
  (∀a2 w2,After w0 S φ nt s.h s2 a2 w2->Q (zxx e) a2 w2)->c.wpIn (FR ro) 0 P Q a w
theorem Zt.after{φ:Phi}{s:St}{a:Act}{w:World}(R:Zt w0 S φ nt s a w):After w0 S φ nt s.h s a w:=⟨φ,Ext.refl _ _,R,LzB _⟩
theorem zah{φ:Phi}{s:St}{a a2:Act}{w w2:World}{t2:Tr Zb}{h2:Za}(R:Zt w0 S φ nt s a w)(hn:Next1 w0 S φ nt s.h t2 h2 a a2 w2):After w0 S φ nt s.h ⟨t2,s.d,h2⟩ a2 w2:=by obtain⟨φ2,he,H2,T2,hd,hle⟩:=hn;exact⟨φ2,he,⟨H2,T2,by rw[hd,R.D,zbZ he R.dn],fun b hb=>okB.ext he hle (R.dn b hb)⟩,hle⟩
theorem zl4(C:yQ P call)(id:Nat)(ops:Array Oper):v7 P w0 S nt call (.region id ops false):=by
 intro f fn round ro φ s s2 e a w Q hc R hr hQ;have hc:zvU (ops.toList.map (yF P nt ops)) call f fn round s=some (e,s2):=hc;obtain⟨t,d,h⟩:=s;simp only[zvU]at hc;rcases he:zkC call (ops.toList.map (yF P nt ops)) t h with _|p
 .rw[he]at hc;cases hc
 obtain⟨t2,h2⟩:=p;rw[he]at hc;cases hc;exact wpIn_region_list (zl1 C ops.toList R.H R.T he fun a2 w2 hn=>hQ a2 w2 (zah R hn))
theorem zui{x y:Code}(hx:v7 P w0 S nt call x)(hy:v7 P w0 S nt call y):v7 P w0 S nt call (.seq x y):=by
 intro f fn round ro φ s s2 e a w Q hc R hr hQ;have hc:ztB call f fn round (zH P nt y) (zH P nt x call f fn round s)=some (e,s2):=hc;rcases h1:zH P nt x call f fn round s with _|p
 .rw[h1]at hc;cases hc
 obtain⟨e1,s1⟩:=p;rw[h1]at hc;refine wpIn_seq (hx f fn round ro φ s s1 e1 a w _ h1 R hr fun a1 w1 hA=>?_);cases e1 with
 |normal=>obtain⟨φ1,he1,R1,hle1⟩:=hA;show y.wpIn (FR ro) 0 P Q a1 w1;exact hy f fn round ro φ1 s1 s2 e a1 w1 Q hc R1 (hr.ext he1 hle1) fun a2 w2 hA2=>hQ a2 w2 (hA2.trans he1 hle1)
 |exit id=>cases hc;exact hQ a1 w1 hA
 |ret=>cases hc;exact hQ a1 w1 hA
theorem zrx{c:Operand}{x y:Code}(hx:v7 P w0 S nt call x)(hy:v7 P w0 S nt call y):v7 P w0 S nt call (.cond c x y):=by
 intro f fn round ro φ s s2 e a w Q hc R hr hQ;rcases hf:zO c with _|g
 .simp only[zH,hf]at hc;cases hc
 simp only[zH,hf]at hc;obtain⟨t,d,h⟩:=s;simp only[zsP]at hc;split at hc
 .rename_i q hq;have ho:=(zi R.T hf).1;simp only at ho;rw[hq]at ho;refine wpIn_cond (t:=q) ho ?_;cases q
  .exact hy f fn round ro φ _ s2 e a w Q hc R hr hQ
  exact hx f fn round ro φ _ s2 e a w Q hc R hr hQ
 cases hc
theorem zoY{id:Nat}{x:Code}(hx:v7 P w0 S nt call x):v7 P w0 S nt call (.block id x):=by
 intro f fn round ro φ s s2 e a w Q hc R hr hQ;have hc:zvZ id (zH P nt x call f fn round s)=some (e,s2):=hc;rcases h1:zH P nt x call f fn round s with _|p
 .rw[h1]at hc;cases hc
 obtain⟨e1,s1⟩:=p;rw[h1]at hc;refine wpIn_block (hx f fn round ro φ s s1 e1 a w _ h1 R hr fun a1 w1 hA=>?_);cases e1 with
 |normal=>cases hc;exact hQ a1 w1 hA
 |ret=>cases hc;exact hQ a1 w1 hA
 |exit id'=>
  simp only[zvZ]at hc;show (if id'=id then Q .normal a1 w1 else Q (.exit id') a1 w1);cases hb:Nat.beq id' id
  case true=>rw[hb]at hc;cases hc;rw[Yzd (beq_true hb)];exact hQ a1 w1 hA
  rw[hb]at hc;cases hc;rw[Yzb (beq_false hb)];exact hQ a1 w1 hA
theorem zko(c:St->Option (Zg×St))(n:Nat)(s:St):zfH c (n+1) s=match c s with|some (.normal,s2)=>zfH c n s2|r=>r:=rfl
theorem zrw{x:Code}(hx:v7 P w0 S nt call x):v7 P w0 S nt call (.loop x):=by
 intro f fn round ro φ s s2 e a w Q hc R hr hQ;have hc:zfH (zH P nt x call f fn round) f s=some (e,s2):=hc;have key:∀(n:Nat) (φ:Phi) (s:St) (a:Act) (w:World),zfH (zH P nt x call f fn round) n s=some (e,s2)->Zt w0 S φ nt s a w->RoRel φ s.h.n.toNat round ro->
   (∀a2 w2,After w0 S φ nt s.h s2 a2 w2->Q (zxx e) a2 w2)->Code.roundsIn (FR ro) 0 P x Q n a w:=by
  intro n
  induction n with
  |zero=>intro φ s a w hc;cases hc
  |succ n ih=>
   intro φ s a w hc R hr hQ;rw[zko]at hc;rcases h1:zH P nt x call f fn round s with _|p
   .grind
   obtain⟨e1,s1⟩:=p;rw[h1]at hc;rw[roundsIn_succ];refine hx f fn round ro φ s s1 e1 a w _ h1 R hr fun a1 w1 hA=>?_;cases e1 with
   |normal=>obtain⟨φ1,he1,R1,hle1⟩:=hA;show Code.roundsIn (FR ro) 0 P x Q n a1 w1;exact ih φ1 s1 a1 w1 hc R1 (hr.ext he1 hle1) fun a2 w2 hA2=>hQ a2 w2 (hA2.trans he1 hle1)
   |exit id=>cases hc;exact hQ a1 w1 hA
   |ret=>cases hc;exact hQ a1 w1 hA
 grind[wpIn_loop_rounds]
theorem zj2{t:Tr Zb}{ds:List BN}{l:BN}{r:Res}{e:Zg}{s2:St}(hc:zc9 t ds l r=some (e,s2)):
  ∃x h st pend lf ln lt lps la lb ld,r=some (x,h)/\h.t.get l=some (.loop st pend lf ln lt lps la lb ld)/\st≠.busy/\e=pend.getD .normal/\s2=⟨t,ds,h.put l (.loop .exhausted pend lf ln lt lps la lb ld)⟩:=by
 unfold zc9 at hc
 grind
theorem zkW{ro:Option Nat}{Q:Exit->Act->World->Prop}{a:Act}{w:World}(e:Zg)(h:Q (zxx e) a w):(zaQ e).wpIn (FR ro) 0 P Q a w:=by
 cases e with
 |normal=>exact wpIn_skip h
 |exit id=>exact wpIn_exit h
 |ret=>exact wpIn_ret h
theorem uy(r:Nat->Zb):∀(nt i:Nat),(xY r nt).get (bn i)=if i<nt then some (r i) else none
 |0,i=>by show (Tr.nil:Tr Zb).get (bn i)=_;simp
 |nt+1,i=>by
  show ((xY r nt).set (bn nt) (r nt)).get (bn i)=_;by_cases h:i=nt
  .simp_all[zq]
  rw[zl _ _ _ _ (fun e=>h (uz e)),uy r nt i]
  grind
theorem zdz(r:Nat->Zb):∀(nt:Nat) (b:BN) (v:Zb),(xY r nt).get b=some v->∃i,i<nt/\v=r i
 |0,b,v,h=>by have h:(Tr.nil:Tr Zb).get b=some v:=h;simp at h
 |nt+1,b,v,h=>by
  by_cases e:b=bn nt
  .subst e;rw[uy,Yzd (by omega)]at h
   grind
  have h:((xY r nt).set (bn nt) (r nt)).get b=some v:=h;rw[zl _ _ _ _ e]at h;obtain⟨i,h1,h2⟩:=zdz r nt b v h
  grind
theorem Zh.canon{φ:Phi}{nt n:Nat}{t:Tr Zb}{a:Array Value}(h:Zh φ nt n t a):Zh φ nt n (xY (fun i=>zaF (bn i) t) nt) a:=by
 refine⟨h.size,fun i hi=>?_,fun i hi=>?_,fun b v hv=>?_⟩
 .rw[h.get i hi,uy,Yzd hi]
  grind[zaF]
 .simp_all[uy]
 obtain⟨i,_,rfl⟩:=zdz _ _ _ _ hv;unfold zaF;cases hg:t.get (bn i)
 case some=>exact h.wf _ _ hg
 exact fun _ hv=>by cases hv
theorem zoW(C:yQ P call){g:Operand}{ps:Array Tmp}{assign body:Code}:v7 P w0 S nt call (.rangeFunc g ps assign body):=by
 intro f fn round ro φ s s2 e a w Q hc R hr hQ;rcases hg:zO g with _|gg
 .simp only[zH,hg]at hc;cases hc
 simp only[zH,hg]at hc;obtain⟨t,d,h⟩:=s;simp only[zlI]at hc;have R':=R;obtain⟨H,T,D,dn⟩:=R;simp only at H T D dn;split at hc
 .cases hc
 rename_i bd ds h0 hD;split at hc
 .rename_i gf caps hgv;obtain⟨xv,h3,st,pend,lf,ln,lt,lps,la,lb,ld,hcall,hl3,hnb,he,hs2⟩:=zj2 hc;refine wpIn_rangeFunc fun fn' _=>?_;obtain⟨φ0,mark,w0',hE0,H0,hn0,hbd,hmark,hrunE⟩:∃(φ0:Phi) (mark:List Deferred) (w1:World),Ext h.n.toNat φ φ0/\Ze w0 S φ0 h0 w1/\h.n.toNat<=h0.n.toNat/\okB φ0 h0.n.toNat bd/\
    (marks φ0 ds=mark++a.defers/\∀b∈ds,okB φ0 h0.n.toNat b)/\
    (Instr.enterLoop fn' a.tmps ps assign body ro).run P w=.ok (w1.heap.size,mark) (w1.alloc (.loop { state:=.ready,pending:=none,fn:=fn',tmps:=a.tmps,params:=ps,assign:=assign,body:=body,defers:=(φ0 bd).blk })):=by
   rcases round with _|l
   .have hro:ro=none:=hr;subst hro;simp only[zin]at hD;cases hD;refine⟨upd φ h.n ⟨w.heap.size,0,0,true,none⟩,[{ target:=.collected w.heap.size,args:=#[] }],w.alloc (.deferred (some [])),z8 _ _ _,H.new _ _ _ rfl ?_,by grind[yc],⟨by grind[yc],by rw[zj]⟩,⟨?_,?_⟩,?_⟩
    .show _=_;grind[zj,heap_alloc_new]
    .show marks _ (h.n::d)=_;simp only[marks,Yzu,zj];have:=zbZ (z8 φ h.n ⟨w.heap.size,0,0,true,none⟩) dn
     grind[marks]
    .intro b hb;rw[yc];cases hb with
     |head=>grind[zj]
     |tail _ hm=>exact okB.ext (z8 _ _ _) (Yz8 _) (dn b hm)
    simp_all[zj,run_enterLoop_outer]
   obtain⟨hro,hln⟩:=hr;subst hro;simp only[zin]at hD;split at hD
   .rename_i st9 p9 f9 n9 t9 ps9 a9 b9 d9 hl9;cases hD;obtain⟨arr,f8,g1,g2,g3⟩:=H.obj l _ hl9;refine⟨φ,[],w,Ext.refl _ _,H,LzB _,g3,⟨by rw[D];rfl,dn⟩,?_⟩;simp_all[run_enterLoop_inner]
   cases hD
  have T0:Zh φ0 nt h0.n.toNat t a.tmps:=T.ext hE0 hn0;have H1:Ze w0 S (upd φ0 h0.n ⟨w0'.heap.size,0,0,true,none⟩) (h0.new (.loop .ready none fn nt (xY (fun i=>zaF (bn i) t) nt) ps assign body bd)) (w0'.alloc (.loop { state:=.ready,pending:=none,fn:=fn',tmps:=a.tmps,params:=ps,assign:=assign,body:=body,defers:=(φ0 bd).blk })):=by
   refine H0.new _ _ ⟨w0'.heap.size,0,0,true,none⟩ rfl ?_;refine⟨a.tmps,fn',?_,T0.canon.ext (z8 _ _ _) (Yz8 _),okB.ext (z8 _ _ _) (Yz8 _) hbd⟩;rw[zj,z8 φ0 h0.n _ bd hbd.1]
   grind[heap_alloc_new]
  have hE1:Ext h.n.toNat φ (upd φ0 h0.n ⟨w0'.heap.size,0,0,true,none⟩):=hE0.trans (z8 _ _ _) hn0;have hn1:(h0.new (.loop .ready none fn nt (xY (fun i=>zaF (bn i) t) nt) ps assign body bd)).n.toNat=h0.n.toNat+1:=yc _ _;have og:=zi T0 hg;rw[hgv]at og;have hwcaps:∀x∈([Zb.s (.one (.yld h0.n))]++caps.map fun p=>Zb.s (.one (.ptr p.1 p.2))),wfA (upd φ0 h0.n ⟨w0'.heap.size,0,0,true,none⟩) (h0.new (.loop .ready none fn nt (xY (fun i=>zaF (bn i) t) nt) ps assign body bd)).n.toNat x:=by
   intro x hx;rw[hn1];rcases List.mem_append.1 hx with hx|hx
   .simp only[Yz4]at hx;subst hx;exact⟨Nat.lt_succ_self _,by rw[zj]⟩
   obtain⟨p,hp,rfl⟩:=List.mem_map.1 hx;exact okB.ext (z8 _ _ _) (Yz8 _) (og.2 p hp)
  obtain⟨hcf,hcl⟩:=(C w0 S _ _ _ _ xv h3 H1 hwcaps).1 gf hcall;have hargs:(([Zb.s (.one (.yld h0.n))]++caps.map fun p=>Zb.s (.one (.ptr p.1 p.2))).map (zm (upd φ0 h0.n ⟨w0'.heap.size,0,0,true,none⟩))).toArray=#[Value.func (.yield w0'.heap.size) #[] #[]]++(caps.map fun p=>Value.pointer (some (adr φ0 p.1 p.2))).toArray:=by
   rw[Yye,<-List.append_toArray]
   congr 1
   .simp[zm,zA,zf,zj]
   simp only[List.map_map,Function.comp_def]
   congr 1
   refine YzK fun p hp=>?_;have:=z8 φ0 h0.n ⟨w0'.heap.size,0,0,true,none⟩ p.1 (og.2 p hp).1
   grind[zm,zA,zf,adr]
  rw[hargs]at hcl;have hgval:a.eval g=.func (.func gf) #[] (caps.map fun p=>Value.pointer (some (adr φ0 p.1 p.2))).toArray:=og.1;refine⟨w0'.heap.size,mark,_,{ target:=.fn (.func gf) (caps.map fun p=>Value.pointer (some (adr φ0 p.1 p.2))).toArray,args:=#[Value.func (.yield w0'.heap.size) #[] #[]] },w0'.alloc (.loop { state:=.ready,pending:=none,fn:=fn',tmps:=a.tmps,params:=ps,assign:=assign,body:=body,defers:=(φ0 bd).blk }),gf,
   #[Value.func (.yield w0'.heap.size) #[] #[]]++(caps.map fun p=>Value.pointer (some (adr φ0 p.1 p.2))).toArray,w0'.alloc (.loop { state:=.ready,pending:=none,fn:=fn',tmps:=a.tmps,params:=ps,assign:=assign,body:=body,defers:=(φ0 bd).blk }),hrunE,?_,fun _ _=>trivial,?_,fun hh=>by trivial,zjF hcl |>.mono ?_⟩
  .simp_all[resolve,Deferred.ofValue,Act.eval]
  .grind[invoke]
  rintro e9 w9 ⟨φ3,rfl,he3,H3,_,hle3⟩
  rw[hn1]at he3 hle3;obtain⟨arr,f8,g1,g2,g3⟩:=H3.obj h0.n _ hl3;have eb:(φ3 h0.n).blk=w0'.heap.size:=by
   have:=he3 h0.n (Nat.lt_succ_self _)
   grind[zj]
  rw[eb]at g1;have hend:=run_endLoop (P:=P) g1 hnb;have hlt:w0'.heap.size<w9.heap.size:=(Lz7.1 g1).1;have H4:Ze w0 S φ3 (h3.put h0.n (.loop .exhausted pend lf ln lt lps la lb ld)) (w9.putObj w0'.heap.size (.loop { state:=.exhausted,pending:=pend.map zaQ,fn:=f8,tmps:=arr,params:=lps,assign:=la,body:=lb,defers:=(φ3 ld).blk })):=by
   refine H3.put hl3 trivial (fun k hk=>?_) (by simp) rfl rfl rfl ⟨arr,f8,?_,g2,g3⟩
   .grind[World.putObj_heap_other]
   grind[World.putObj_heap_same]
  have hE3:Ext h.n.toNat φ φ3:=hE1.trans he3 (by omega);have hA:After w0 S φ nt h s2 { a with defers:=mark++a.defers } (w9.putObj w0'.heap.size (.loop { state:=.exhausted,pending:=pend.map zaQ,fn:=f8,tmps:=arr,params:=lps,assign:=la,body:=lb,defers:=(φ3 ld).blk })):=by
   subst hs2;refine⟨φ3,hE3,⟨H4,?_,?_,?_⟩,?_⟩
   .exact T0.ext (fun b hb=>(he3 b (by omega)).trans (z8 _ _ _ b hb)) (by show h0.n.toNat<=h3.n.toNat;omega)
   .show mark++a.defers=marks φ3 ds;rw[<-hmark.1];refine (zbZ (n:=h0.n.toNat) (fun b hb=>?_) hmark.2).symm;exact(he3 b (by omega)).trans (z8 _ _ _ b hb)
   .intro b hb;have:=okB.ext (z8 φ0 h0.n ⟨w0'.heap.size,0,0,true,none⟩) (Yz8 _) (hmark.2 b hb);exact okB.ext he3 (by trivial) this
   show h.n.toNat<=h3.n.toNat;omega
  refine⟨_,_,hend,?_⟩;subst he;rcases pend with _|e1
  .exact hQ _ _ hA
  grind[zkW]
 cases hc
end
end Go.CE
end
section
namespace Go.CE
open Go.RowKit
def ya(f:zcP):Prop:=∀call t h v h2,f call t h=some (v,h2)->h2=h
theorem zB:ya (zD none):=fun _ _ _ _ _ e=>by cases e
theorem yx{f:zcP}(hf:ya f):ya (zD (some f)):=hf
theorem zjR{α:Type}{a:Option α}{g:α->Option zcP}(hg:∀x,ya (zD (g x))):ya (zD (a.bind g)):=by cases a<;>grind[zB]
theorem zo{α:Type}{a:Option α}{g:α->Option zcP}(hg:∀x,ya (zD (g x))):ya (zD (a >>= g)):=zjR hg
theorem zfd{α:Type}{a:Option α}{g:α->zcP}(hg:∀x,ya (g x)):ya (zD (a.map g)):=by cases a<;>grind[zB,zD]
theorem y1{b:Bool}{x y:Option zcP}(hx:ya (zD x))(hy:ya (zD y)):ya (zD (bif b then x else y)):=by grind
theorem x8{h h2:Za}{c:Option Zc}{v:Zb}(e:qZ h c=some (v,h2)):h2=h:=by cases c<;>cases e;rfl
theorem uY{h h2:Za}{c:Option (List Zc)}{v:Zb}(e:zd1 h c=some (v,h2)):h2=h:=by cases c<;>cases e;rfl
theorem wE{h h2:Za}{n:Option Nat}{cs:List Zc}{off:Nat}{v:Zb}(e:part n cs off h=some (v,h2)):h2=h:=by
 cases n
 .exact x8 e
 exact uY e
theorem jx{h h2:Za}{b:Bool}{x y:Res}{v:Zb}(hx:x=some (v,h2)->h2=h)(hy:y=some (v,h2)->h2=h)(e:(bif b then x else y)=some (v,h2)):h2=h:=by grind
theorem zfi{st:Nat}{lo hi mx:Option Opd}{t:Tr Zb}{h h2:Za}{b:BN}{off len cap:Nat}{v:Zb}(e:y2 st lo hi mx t h b off len cap=some (v,h2)):h2=h:=by grind[y2]
theorem zlm{st:Nat}{lo hi mx:Option Opd}{t:Tr Zb}{h h2:Za}{b:BN}{off len cap:Nat}{v:Zb}(e:yT st lo hi mx t h b off len cap=some (v,h2)):h2=h:=by
 unfold yT at e
 (repeat' split at e)<;>first|(cases e;done)|(cases e;rfl)|exact jx (fun e=>by cases e;rfl) (fun e=>by cases e) e
theorem zjU{lo hi mx:Option Opd}{t:Tr Zb}{h h2:Za}{v:Zb}(e:xD lo hi mx t h=some (v,h2)):h2=h:=by grind[xD]
theorem zdR(x:Opd):ya (ziC x):=by
 intro call t h v h2 e
 grind[ziC]
theorem zjH(x y z:Opd):ya (u4 x y z):=by
 intro call t h v h2 e
 grind[u4]
theorem zbq(zs ps):ya (vB zs ps):=by intro call t h v h2 e;exact uY e
theorem zjL(n x):ya (u7 n x):=by
 intro call t h v h2 e;unfold u7 loadAt at e
 (repeat' split at e)<;>first|(cases e;done)|exact wE e|(unfold zfr at e;split at e;exact x8 e;exact uY e)|exact jx x8 (fun e=>by cases e) e
theorem zgI(x):ya (vq x):=by
 intro call t h v h2 e
 grind[vq]
theorem zlg(g x y):ya (za2 g x y):=by
 intro call t h v h2 e;unfold za2 at e
 (repeat' split at e)<;>first|(cases e;done)|(cases e;rfl)|exact x8 e|exact uY e|exact wE e|exact jx (fun e=>by first|(cases e;rfl)|exact x8 e|exact wE e) (fun e=>by cases e) e
theorem zgG(g x y):ya (wt g x y):=by
 intro call t h v h2 e;unfold wt at e
 (repeat' split at e)<;>first|(cases e;done)|(cases e;rfl)|exact x8 e|exact uY e|exact wE e|exact jx (fun e=>by first|(cases e;rfl)|exact x8 e|exact wE e) (fun e=>by cases e) e
theorem zlb(g x y):ya (zbN g x y):=by
 intro call t h v h2 e;unfold zbN at e
 (repeat' split at e)<;>first|(cases e;done)|(cases e;rfl)|exact x8 e|exact uY e|exact wE e|exact jx (fun e=>by first|(cases e;rfl)|exact x8 e|exact wE e) (fun e=>by cases e) e
theorem zow(g n x y):ya (ziE g n x y):=by
 intro call t h v h2 e
 grind[ziE]
theorem zjI(n x y):ya (ui n x y):=by
 intro call t h v h2 e
 grind[ui]
theorem zjJ(n x y):ya (u5 n x y):=by
 intro call t h v h2 e
 grind[u5]
theorem zld(x):ya (zbO x):=by
 intro call t h v h2 e
 grind[zbO]
theorem zle(x):ya (zbP x):=by
 intro call t h v h2 e
 grind[zbP]
theorem zjQ(k x):ya (jd k x):=by
 intro call t h v h2 e
 grind[jd]
theorem zt4{h h2:Za}{c:Option (List Zc)}{v:Zb}(e:zba h c=some (v,h2)):h2=h:=by
 unfold zba at e
 grind
theorem zli(x):ya (qv x):=by
 intro call t h v h2 e
 grind[qv,zt4]
theorem zlc(x):ya (zeh x):=by
 intro call t h v h2 e
 grind[zeh]
theorem zla(u n x):ya (zeg u n x):=by
 intro call t h v h2 e
 grind[zeg]
theorem zgH(n x y):ya (vn n x y):=by
 intro call t h v h2 e
 grind[vn]
theorem zfc(l st x lo hi mx):ya (wR l st x lo hi mx):=by
 intro call t h v h2 e
 grind[wR,zfi]
theorem zjK(f x):ya (u6 f x):=by
 intro call t h v h2 e
 grind[u6]
theorem zgF(st x lo hi mx):ya (vi st x lo hi mx):=by
 intro call t h v h2 e;unfold vi at e;split at e
 .exact zjU e
 .exact jx zfi zlm e
 cases e
theorem zfb(x lo hi):ya (xE x lo hi):=by
 intro call t h v h2 e
 grind[xE]
theorem zjP(x o):ya (jc x o):=by
 intro call t h v h2 e
 grind[jc]
theorem zgM(x o n):ya (vA x o n):=by
 intro call t h v h2 e;unfold vA at e
 (repeat' split at e)<;>first|(cases e;done)|(cases e;rfl)|exact x8 e|exact uY e|exact wE e|exact jx (fun e=>by first|(cases e;rfl)|exact x8 e|exact wE e) (fun e=>by cases e) e
theorem zlf(st x i):ya (zbS st x i):=by
 intro call t h v h2 e;unfold zbS at e
 (repeat' split at e)<;>first|(cases e;done)|(cases e;rfl)|exact x8 e|exact uY e|exact wE e|exact jx (fun e=>by first|(cases e;rfl)|exact x8 e|exact wE e) (fun e=>by cases e) e
theorem zgK(l st x i):ya (vu l st x i):=by
 intro call t h v h2 e;unfold vu at e
 (repeat' split at e)<;>first|(cases e;done)|(cases e;rfl)|exact x8 e|exact uY e|exact wE e|exact jx (fun e=>by first|(cases e;rfl)|exact x8 e|exact wE e) (fun e=>by cases e) e
theorem zgL(l st n x i):ya (vz l st n x i):=by
 intro call t h v h2 e;unfold vz at e
 (repeat' split at e)<;>first|(cases e;done)|(cases e;rfl)|exact x8 e|exact uY e|exact wE e|exact jx (fun e=>by first|(cases e;rfl)|exact x8 e|exact wE e) (fun e=>by cases e) e
theorem zgJ(x i):ya (vt x i):=by
 intro call t h v h2 e;unfold vt at e
 (repeat' split at e)<;>first|(cases e;done)|(cases e;rfl)|exact x8 e|exact uY e|exact wE e|exact jx (fun e=>by first|(cases e;rfl)|exact x8 e|exact wE e) (fun e=>by cases e) e
theorem zfe(q z ok m k):ya (wz q z ok m k):=by
 intro call t h v h2 e
 grind[wz]
theorem zdS(x i):ya (xq x i):=by
 intro call t h v h2 e
 grind[xq]
theorem zjM(x):ya (ja x):=by
 intro call t h v h2 e
 grind[ja]
theorem zjO(x):ya (jb x):=by
 intro call t h v h2 e
 grind[jb]
theorem zjN(x):ya (kj x):=by
 intro call t h v h2 e
 grind[kj]
theorem zaG(b x xs):ya (yY b x xs):=by
 intro call t h v h2 e
 grind[yY]
theorem zlh(P:Program)(o:Op)(hq:yv P o=true):ya (cOp P o):=by
 cases o with
 |move x=>exact zfd zdR
 |assign x=>exact zfd zdR
 |pick c x y=>exact zo fun _=>zo fun _=>zo fun _=>yx (zjH _ _ _)
 |build t parts=>
  unfold cOp;simp only;split
  .exact y1 (zo fun _=>yx (zbq _ _)) zB
  .grind[zo,zbq,zB,zD]
  exact zB
 |load t x=>exact zo fun _=>zo fun _=>yx (zjL _ _)
 |nilCheck x=>exact zo fun _=>yx (zgI _)
 |binOp op t x y u=>
  unfold cOp;simp only;split
  .grind[zo,zgG,zlg,zD]
  .grind[zo,zlb,zD]
  .grind[zo,zjI,zB,zD]
  .refine y1 ?_ zB
   grind[zo,zgH,zB,zD]
  .grind[zo,zjJ,zB,zD]
  .refine y1 zB ?_
   grind[zo,zow,zB,zD]
  exact zB
 |unOp u t x=>
  cases u with
  |not=>exact zo fun _=>yx (zld _)
  |neg=>exact zo fun _=>yx (zle _)
  |_=>exact zB
 |convert a b x=>
  unfold cOp;simp only;split
  .grind[zo,zjQ,zD]
  .grind[yv,zmS,zeA]
  .exact y1 (zo fun _=>yx (zli _)) zB
  .exact y1 (zo fun _=>yx (zlc _)) zB
  .exact y1 (zo fun _=>yx (zla _ _ _)) zB
  exact zB
 |makeFunc f first captured=>
  cases f with
  |func f=>exact y1 (zo fun _=>yx (zjK _ _)) zB
  |_=>exact zB
 |slice t x lo hi mx=>
  unfold cOp;simp only;split
  .split
   .exact y1 zB (zo fun _=>zo fun _=>zo fun _=>zo fun _=>yx (zgF _ _ _ _ _))
   exact zB
  .split
   .exact y1 zB (zo fun _=>zo fun _=>zo fun _=>zo fun _=>yx (zfc _ _ _ _ _ _))
   exact zB
  .exact y1 zB (zo fun _=>zo fun _=>zo fun _=>yx (zfb _ _ _))
  exact zB
 |fieldAddr t x f=>
  unfold cOp;simp only;split
  .split
   .split
    .exact y1 zB (zo fun _=>yx (zjP _ _))
    exact zB
   exact zB
  exact zB
 |field t x f=>
  unfold cOp
  grind[zo,zgM,zB,zD]
 |indexAddr t x i=>
  unfold cOp
  grind[zo,zlf,zB,zgK,zD]
 |index t x i=>unfold cOp;simp only;split<;>grind[zo,zgL,zB,zgJ,zD]
 |lookup t m k ok=>
  unfold cOp
  grind[zo,zfe,zB,zD]
 |extract x i=>exact zo fun _=>yx (zdS _ _)
 |call c=>
  obtain⟨callee,args,ts⟩:=c;cases callee with
  |builtin b=>
   cases b with
   |len=>grind[cOp,zo,zjM,zjO,zjN,zdR,zB,zD]
   |max=>grind[cOp,zaG,zB,zD]
   |min=>grind[cOp,zaG,zB,zD]
   |_=>cases hq
  |_=>cases hq
 |_=>cases hq
end Go.CE
end
section
namespace Go.CE
open Go.RowKit
theorem ue{a b:Bool}(h:(a&&b)=true):a=true/\b=true:=by grind
theorem uN:∀{a b:BN},zjd a b=true->a=b
 | .z,.z,_=>rfl
 | .o a,.o b,h=>by rw[uN (a:=a) (b:=b) h]
 | .d a,.d b,h=>by rw[uN (a:=a) (b:=b) h]
 | .z,.o _,h=>by cases h
 | .z,.d _,h=>by cases h
 | .o _,.z,h=>by cases h
 | .o _,.d _,h=>by cases h
 | .d _,.z,h=>by cases h
 | .d _,.o _,h=>by cases h
theorem zjc{a b:Bool}(h:eqB a b=true):a=b:=by cases a<;>cases b<;>first|rfl|cases h
theorem zne:∀{a b:List (BN×Nat)},zvb a b=true->a=b
 | [],[],_=>rfl
 |(b,o)::l,(b',o')::l',h=>by obtain⟨h1,h2⟩:=ue h;obtain⟨h3,h4⟩:=ue h1;rw[uN h3,beq_true h4,zne h2]
 | [],_::_,h=>by cases h
 |_::_,[],h=>by cases h
theorem zqz:∀{a b:List UInt8},eqU a b=true->a=b
 | [],[],_=>rfl
 |a::l,b::l',h=>by obtain⟨h1,h2⟩:=ue h;rw[UInt8.toNat_inj.1 (beq_true h1),zqz h2]
 | [],_::_,h=>by cases h
 |_::_,[],h=>by cases h
theorem zpK{a b:ByteArray}(h:eqU a.data.toList b.data.toList=true):a=b:=by have:=zqz h;cases a<;>simp_all
theorem zzG{a b:Int}(h:eqI a b=true):a=b:=by grind[ju]
theorem zsK{a b:Option BN}(h:zxA a b=true):a=b:=by rcases a with _|a<;>rcases b with _|b<;>first|rfl|(cases h;done)|exact congrArg some (uN h)
theorem znb{a b:Zc}(h:eqV a b=true):a=b:=by
 cases a<;>cases b<;>first
  |rfl
  |(cases h;done)
  |skip
 .exact congrArg _ (zjc h)
 .obtain⟨h1,h2⟩:=ue h
  grind[zhx,zzG]
 .exact congrArg _ (zpK h)
 .obtain⟨h1,h2⟩:=ue h
  grind[uN,beq_true]
 .obtain⟨h1,h2⟩:=ue h;obtain⟨h1,h3⟩:=ue h1;obtain⟨h1,h4⟩:=ue h1;obtain⟨h1,h5⟩:=ue h1
  grind[uN,beq_true,zjc]
 .exact congrArg _ (uN h)
 .obtain⟨h1,h2⟩:=ue h
  grind[beq_true,zne]
 .exact congrArg _ (uN h)
 .obtain⟨h1,h2⟩:=ue h;simp_all
 simp only[eqV,LzC]at h;obtain⟨⟨⟨⟨⟨⟨⟨⟨h1,h2⟩,h3⟩,h4⟩,h5⟩,h6⟩,h7⟩,h8⟩,h9⟩:=h;rw[beq_true h1,beq_true h2,beq_true h3,beq_true h4,zsK h5,beq_true h6,beq_true h7,beq_true h8,zjc h9]
theorem zhv:∀{a b:List Zc},ztk a b=true->a=b
 | [],[],_=>rfl
 |a::l,b::l',h=>by obtain⟨h1,h2⟩:=ue h;rw[znb h1,zhv h2]
 | [],_::_,h=>by cases h
 |_::_,[],h=>by cases h
theorem znc{a b:SVal}(h:zu9 a b=true):a=b:=by
 cases a<;>cases b<;>first
  |(cases h;done)
  |exact congrArg _ (znb h)
  |exact congrArg _ (zhv h)
theorem znd:∀{a b:List SVal},zva a b=true->a=b
 | [],[],_=>rfl
 |a::l,b::l',h=>by obtain⟨h1,h2⟩:=ue h;rw[znc h1,znd h2]
 | [],_::_,h=>by cases h
 |_::_,[],h=>by cases h
theorem zjf{a b:Zb}(h:eqA a b=true):a=b:=by
 cases a<;>cases b<;>first
  |(cases h;done)
  |exact congrArg _ (znc h)
  |exact congrArg _ (znd h)
noncomputable def frL(L:Nat->Bool):Nat->List (Option BN×Zb)->Tr Zb->Tr Zb
 |_,[],t=>t
 |i,(d,v)::r,t=>frL L (i+1) r (bif L i then zbv t v d else t)
open Classical in
noncomputable def lw(L:Nat->Bool)(s:BN):Nat->List (Option BN×Zb)->Option Zb
 |_,[]=>none
 |i,(d,v)::r=>(lw L s (i+1) r).or (if L i=true/\d=some s then some v else none)
theorem zdW(t:Tr Zb)(v:Zb)(d:Option BN)(s:BN)[Decidable (d=some s)]:(zbv t v d).get s=if d=some s then some v else t.get s:=by
 rcases d with _|d
 .simp[zbv]
 by_cases h:d=s
 .grind[zbv,zq]
 rw[Yzb (fun hh=>h (Option.some.inj hh))];exact zl _ _ _ _ (fun hh=>h hh.symm)
section
variable {L L':Nat->Bool} {s:BN}
open Classical in
theorem uL:∀(r:List (Option BN×Zb)) (i:Nat) (t:Tr Zb),(frL L i r t).get s=(lw L s i r).or (t.get s)
 | [],i,t=>rfl
 |(d,v)::r,i,t=>by
  unfold frL lw;rw[uL r (i+1),Option.or_assoc]
  congr 1
  cases hL:L i
  .simp
  simp only[Yza,true_and]
  grind[zdW]
theorem qz:∀(r:List (Option BN×Zb)) (i:Nat),(∀j d v,r[j]? = some (d,v)->d=some s->L (i+j)=L' (i+j))->lw L s i r=lw L' s i r
 | [],i,_=>rfl
 |(d,v)::r,i,h=>by
  unfold lw;rw[qz r (i+1) fun j d v hj hd=>by have:=h (j+1) d v (by trivial) hd;grind]
  congr 1
  by_cases hd:d=some s
  .have:=h 0 d v (by simp) hd
   grind
  grind
theorem zmE:∀(r:List (Option BN×Zb)) (i:Nat),(∀j d v,r[j]? = some (d,v)->d=some s->L (i+j)=false)->lw L s i r=none
 | [],i,_=>rfl
 |(d,v)::r,i,h=>by
  unfold lw;rw[zmE r (i+1) fun j d v hj hd=>by have:=h (j+1) d v (by trivial) hd;grind];by_cases hd:d=some s
  .have:=h 0 d v (by simp) hd
   grind
  grind
theorem zhf:∀(r:List (Option BN×Zb)) (i k:Nat) (v:Zb),r[k]? = some (some s,v)->L (i+k)=true->(∀j d u,k<j->r[j]? = some (d,u)->d=some s->L (i+j)=false)->lw L s i r=some v
 | [],i,k,v,hk,_,_=>by simp at hk
 |(d,u)::r,i,0,v,hk,hL,h=>by
  simp only[Yzf,Option.some.injEq,Prod.mk.injEq]at hk;obtain⟨rfl,rfl⟩:=hk;unfold lw;rw[zmE r (i+1) fun j d v hj hd=>by have:=h (j+1) d v (by omega) (by trivial) hd;grind]
  grind
 |(d,u)::r,i,k+1,v,hk,hL,h=>by
  unfold lw;rw[zhf r (i+1) k v (by trivial) (by grind) fun j d v hj hjr hd=>by have:=h (j+1) d v (by omega) (by trivial) hd;grind]
  rfl
theorem zi3(d:Option BN)(v:Zb)(r:List (Option BN×Zb))(i:Nat)(t:Tr Zb):frL L i ((d,v)::r) t=frL L (i+1) r (bif L i then zbv t v d else t):=rfl
theorem znv(e:Bool)(es:List Bool)(i:Nat):ce L i (e::es)=bif L i&&e then ce L (i+1) es+1 else ce L (i+1) es:=rfl
theorem zcd:∀(r:List (Option BN×Zb)) (i:Nat) (t:Tr Zb),frL L (i+1) r t=frL (fun k=>L (k+1)) i r t
 | [],i,t=>rfl
 |(d,v)::r,i,t=>by unfold frL;exact zcd r (i+1) _
theorem qM:∀(r:List (Option BN×Zb)) (i:Nat) (t:Tr Zb),(∀j,j<r.length->L (i+j)=L' (i+j))->frL L i r t=frL L' i r t
 | [],i,t,_=>rfl
 |(d,v)::r,i,t,h=>by unfold frL;have h0:=h 0 (by simp);simp only[Yzy]at h0;rw[h0];exact qM r (i+1) _ fun j hj=>by have:=h (j+1) (by grind);grind
theorem zeX:∀(es:List Bool) (i:Nat),ce L (i+1) es=ce (fun k=>L (k+1)) i es
 | [],i=>rfl
 |e::es,i=>by unfold ce;rw[Yyh,Yyh,zeX es (i+1)]
theorem wB:∀(es:List Bool) (i:Nat),(∀j,es[j]? = some true->L (i+j)=L' (i+j))->ce L i es=ce L' i es
 | [],i,_=>rfl
 |e::es,i,h=>by
  unfold ce;have ih:=wB es (i+1) fun j hj=>by have:=h (j+1) (by trivial);grind
  rw[Yyh,ih];cases e
  .simp
  have h0:=h 0 (by simp)
  grind
theorem wn:∀(es:List Bool) (i:Nat),(∀j,es[j]? = some true->L (i+j)=true->L' (i+j)=true)->ce L i es<=ce L' i es
 | [],i,_=>LzB _
 |e::es,i,h=>by
  unfold ce;have ih:=wn es (i+1) fun j hj hL=>by have:=h (j+1) (by trivial) (by grind);grind
  simp only[Yyh];cases e
  .grind
  have h0:=h 0 (by simp)
  grind
theorem zf8:∀(es:List Bool) (i k:Nat),es[k]? = some true->L (i+k)=false->L' (i+k)=true->(∀j,j≠i+k->L' j=L j)->ce L' i es=ce L i es+1
 | [],i,k,hk,_,_,_=>by simp at hk
 |e::es,i,0,hk,h1,h2,h3=>by
  simp only[Yzf,Option.some.injEq]at hk;subst hk;simp only[Yzy]at h1 h2 h3;unfold ce;rw[h1,h2];simp only[Yyh,Yyi,Yza,Yzc]
  grind[wB]
 |e::es,i,k+1,hk,h1,h2,h3=>by
  unfold ce;have ih:=zf8 es (i+1) k (by trivial) (by grind) (by grind) fun j hj=>h3 j (by omega)
  grind
end
theorem vg(t:Tr Zb)(s:BN)[DecidableEq BN]:∀(l:List BN),(uC t l).get s=if s∈l then t.get s else none
 | []=>by cases s<;>rfl
 |x::l=>by
  unfold uC;split
  .rename_i v hv;by_cases hx:s=x
   .grind[zq]
   rw[zl _ _ _ _ hx,vg t s l];simp[hx]
  rename_i hv;rw[vg t s l]
  grind
def dv(x:Zi×Tr Zb×Zb):Option BN×Zb:=(x.1.rop.dst,x.2.2)
theorem zeM(call:zc):∀(ds:List Zi) (t:Tr Zb) (h:Za) (l:List (Zi×Tr Zb×Zb)) (t2:Tr Zb) (hs:List Za),evD call ds t h=some (l,t2,hs)->
  l.map (·.1)=ds/\hs[0]? = some h/\hs.length=ce (fun _=>true) 0 (ds.map (·.eff))+1/\t2=frL (fun _=>true) 0 (l.map dv) t/\
  ∀j d tr v,l[j]? = some (d,tr,v)->tr=uC (frL (fun k=>decide (k<j)) 0 (l.map dv) t) d.looks/\
   ∃hk h',hs[ce (fun k=>decide (k<j)) 0 (ds.map (·.eff))]? = some hk/\xw call d.rop tr hk=some (v,h')/\(d.eff=true->hs[ce (fun k=>decide (k<j)) 0 (ds.map (·.eff))+1]? = some h')
 | [],t,h,l,t2,hs,e=>by cases e;exact⟨rfl,rfl,rfl,rfl,fun j d tr v hj=>by simp at hj⟩
 |d::ds,t,h,l,t2,hs,e=>by
  unfold evD at e;split at e
  .rename_i v0 h0 hv0;rcases hr:evD call ds (zbv t v0 d.rop.dst) (bif d.eff then h0 else h) with _|p
   .rw[hr]at e;cases e
   obtain⟨l',t',hs'⟩:=p;rw[hr]at e;simp only[zvo,Option.some.injEq,Prod.mk.injEq]at e;obtain⟨rfl,rfl,rfl⟩:=e;obtain⟨g1,g2,g3,g4,g5⟩:=zeM call ds _ _ l' _ hs' hr;have hsh:∀(L:Nat->Bool),ce L 0 ((d::ds).map (·.eff))=(bif L 0&&d.eff then 1 else 0)+ce (fun k=>L (k+1)) 0 (ds.map (·.eff)):=by grind[znv,zeX]
   have hfr:∀(L:Nat->Bool),frL L 0 (((d,uC t d.looks,v0)::l').map dv) t=frL (fun k=>L (k+1)) 0 (l'.map dv) (bif L 0 then zbv t v0 d.rop.dst else t):=by grind[dv,zi3,zcd]
   refine⟨by simp[g1],?_,?_,?_,?_⟩
   .grind
   .grind
   .grind
   intro j dj tr v hj;cases j with
   |zero=>
    simp only[Yzf,Option.some.injEq,Prod.mk.injEq]at hj;obtain⟨rfl,rfl,rfl⟩:=hj;have hz:ce (fun k=>decide (k<0)) 0 ((d::ds).map (·.eff))=0:=by
     rw[hsh];simp only[Nat.not_lt_zero,decide_false,Bool.false_and,Yzc,Yzg];have:∀(es:List Bool) (i:Nat),ce (fun _=>false) i es=0:=by
      intro es
      induction es<;>grind[ce]
     grind
    refine⟨?_,h,h0,?_,hv0,?_⟩
    .rw[hfr];simp only[Nat.not_lt_zero,decide_false,Yzc]
     congr 1
     have:∀(r:List (Option BN×Zb)) (i:Nat) (t:Tr Zb),frL (fun _=>false) i r t=t:=by
      intro r
      induction r<;>grind[frL]
     grind
    .grind
    grind
   |succ j=>grind
  cases e
theorem zbx{call:zc}{o:Zm}{tr:Tr Zb}{v:Zb}:∀(hs:List Za),sameAt call o tr v hs=true->∀(k:Nat) (hk:Za),hs[k]? = some hk->∃h',xw call o tr hk=some (v,h')
 | [],_,k,hk,hh=>by simp at hh
 |h::hs,e,k,hk,hh=>by
  unfold sameAt at e;split at e
  .rename_i v' h' hv;obtain⟨e1,e2⟩:=ue e;cases k with
   |zero=>grind[zjf]
   |succ k=>exact zbx hs e2 k hk (by trivial)
  cases e
theorem zcu{call:zc}{hs:List Za}:∀(l:List (Zi×Tr Zb×Zb)),vZ call hs l=true->∀(j:Nat) (d:Zi) (tr:Tr Zb) (v:Zb),l[j]? = some (d,tr,v)->d.eff=false->
  d.lo=d.hi\/∀k hk,d.lo<=k->k<=d.hi->hs[k]? = some hk->∃h',xw call d.rop tr hk=some (v,h')
 | [],_,j,d,tr,v,hj,_=>by simp at hj
 |(d0,tr0,v0)::l,e,j,d,tr,v,hj,hd=>by
  obtain⟨e1,e2⟩:=ue e;cases j with
  |zero=>
   simp only[Yzf,Option.some.injEq,Prod.mk.injEq]at hj;obtain⟨rfl,rfl,rfl⟩:=hj;rw[hd]at e1;simp only[YzO,YzB]at e1;rcases e1 with e1|e1
   .simp_all
   refine .inr fun k hk h1 h2 h3=>?_;refine zbx _ e1 (k-d0.lo) hk ?_
   grind
  |succ j=>exact zcu l e2 j d tr v (by trivial) hd
theorem zet:∀(hs:List Za) (h:Za),hs≠[]->hs[hs.length-1]? = some (zeu h hs)
 | [],_,h=>absurd rfl h
 | [x],_,_=>rfl
 |x::y::hs,h,_=>by have:=zet (y::hs) x (by simp);trivial
theorem zcx(P:Program)(nt:Nat)(ops:Array Oper)(bs:List Nat)(es:List Bool):∀(os:List Oper) (i j:Nat),(ud P nt ops bs es i os)[j]? = (os[j]?).map fun o=>
  (⟨yF P nt ops o,(o.looksAt ops).map bn,!yv P o.op,ce (fun k=>bef bs k (i+j)) 0 es,ce (fun k=>!bef bs (i+j) k) 0 es⟩:Zi)
 | [],i,j=>by simp[ud]
 |o::os,i,0=>by simp[ud]
 |o::os,i,j+1=>by simp only[ud,Yzm];rw[zcx P nt ops bs es os (Nat.succ i) j,show Nat.succ i+j=i+(j+1) by omega]
theorem zcy(P:Program)(nt:Nat)(ops:Array Oper)(bs:List Nat)(es:List Bool):∀(os:List Oper) (i:Nat),(ud P nt ops bs es i os).map (·.eff)=qS P os
 | [],i=>rfl
 |o::os,i=>by have:=zcy P nt ops bs es os (Nat.succ i);simp only[ud,Yzu,this];rfl
theorem vL{p:Nat->Oper->Bool}:∀(os:List Oper) (i:Nat),allI p i os=true->∀(j:Nat) (o:Oper),os[j]? = some o->p (i+j) o=true
 | [],_,_,j,o,hj=>by simp at hj
 |o::os,i,e,0,o',hj=>by simp only[Yzf,Option.some.injEq]at hj;subst hj;exact(ue e).1
 |o::os,i,e,j+1,o',hj=>by
  have:=vL os (Nat.succ i) (ue e).2 j o' (by trivial)
  grind
section
variable {ops:Array Oper}
def Rdy(ops:Array Oper)(L:Nat->Bool)(i:Nat):Prop:=∀o e,ops[i]? = some o->e∈o.after.toList->Region.binds .any e=true->L e.on=true
def Clo(ops:Array Oper)(L:Nat->Bool):Prop:=∀i,L i=true->Rdy ops L i
def zs6(ops:Array Oper)(acc:List Nat):Prop:=∀(i x:Nat),acc[i]? = some x->∀(j:Nat),Nat.testBit x j=true->∀(L:Nat->Bool),Clo ops L->Rdy ops L i->L j=true
theorem zaB{acc:List Nat}{j:Nat}:∀(es:List Edge),Nat.testBit (zhU acc es) j=true->∃e∈es,Region.binds .any e=true/\(e.on=j\/∃x,acc[e.on]? = some x/\Nat.testBit x j=true)
 | [],h=>by grind[zhU]
 |e::es,h=>by
  unfold zhU at h;cases hb:Region.binds .any e
  .rw[hb]at h;obtain⟨e',h1,h2⟩:=zaB es h
   grind
  rw[hb]at h;simp only[Yza]at h;have h:Nat.testBit ((2^e.on ||| (acc[e.on]?).getD 0) ||| zhU acc es) j=true:=h;rw[Nat.testBit_or,Nat.testBit_or,YzB,YzB]at h;rcases h with (h|h)|h
  .grind
  .grind
  obtain⟨e',h1,h2⟩:=zaB es h
  grind
theorem zcD:∀(os pre:List Oper) (acc:List Nat),ops.toList=pre++os->acc.length=pre.length->zs6 ops acc->zs6 ops (zjy os acc)
 | [],_,acc,_,_,hg=>hg
 |o::os,pre,acc,hp,hl,hg=>by
  unfold zjy;refine zcD os (pre++[o]) _ (by simp[hp]) (by simp[hl]) ?_;intro i x hi j hj L hC hR;by_cases hlt:i<acc.length
  .rw[Lz2 hlt]at hi;exact hg i x hi j hj L hC hR
  rw[Lz8 (by omega)]at hi;have h0:i-acc.length=0:=by grind
  rw[h0]at hi;simp only[Yzf,Option.some.injEq]at hi;subst hi;obtain⟨e,he,hb,hh⟩:=zaB _ hj;have ho:ops[i]? = some o:=by
   rw[<-LzA,hp,Lz8 (by omega)]
   grind
  have hon:=hR o e ho he hb;rcases hh with hh|⟨x,hx,hh⟩
  .grind
  exact hg _ x hx j hh L hC (hC _ hon)
theorem wY{i j:Nat}(h:bef (y5 ops.toList) j i=true){L:Nat->Bool}(hC:Clo ops L)(hR:Rdy ops L i):L j=true:=by
 have hg:zs6 ops (y5 ops.toList):=zcD ops.toList [] [] rfl rfl (fun i x hi=>by simp at hi);unfold bef at h;rcases hx:(y5 ops.toList)[i]? with _|x
 .grind
 rw[hx]at h;exact hg i x hx j h L hC hR
def lst(listed:Array Bool)(i:Nat):Bool:=listed.getD i false
theorem mem_ready{listed:Array Bool}{i:Nat}(h:i∈Region.ready .any ops listed):∃o,ops[i]? = some o/\i<listed.size/\lst listed i=false/\Rdy ops (lst listed) i:=by
 unfold Region.ready at h;rw[List.mem_filter]at h;obtain⟨h1,h2⟩:=h;obtain⟨h3,h4⟩:=ue h2;have hlt:i<listed.size:=by grind
 rcases ho:ops[i]? with _|o
 .grind
 rw[ho]at h4;refine⟨o,rfl,hlt,?_,?_⟩
 .grind[lst]
 intro o' e ho' he hb
 grind[Array.all_eq_true',lst]
theorem zlG{listed:Array Bool}(hsz:listed.size=ops.size){i:Nat}{o:Oper}(ho:ops[i]? = some o)(hl:lst listed i=false)(hR:Rdy ops (lst listed) i):i∈Region.ready .any ops listed:=by
 have hi:i<ops.size:=(Lz7.1 ho).1;unfold Region.ready;rw[List.mem_filter];refine⟨by grind,?_⟩;rw[LzC]
 constructor
 .grind[lst]
 rw[ho];simp only[YzF,Option.getD_some,Array.all_eq_true'];intro e he;cases hb:Region.binds .any e
 .rfl
 simpa[lst] using hR o e ho (by grind) hb
theorem zdE{listed:Array Bool}(hsz:listed.size=ops.size)(hA:∀(i:Nat) (o:Oper) (e:Edge),ops[i]? = some o->e∈o.after.toList->Region.binds .any e=true->e.on<i)
  (hnil:Region.ready .any ops listed=[]):∀i,i<ops.size->lst listed i=true:=by
 intro i
 induction i using Nat.strongRecOn with
 |_ i ih=>
  intro hi;cases hl:lst listed i
  case true=>rfl
  have:=zlG (ops:=ops) hsz (YzA hi) hl (fun o e ho he hb=>by grind)
  grind
theorem wJ{listed:Array Bool}{i:Nat}(hi:i<listed.size)(j:Nat):lst (listed.setIfInBounds i true) j=(decide (j=i)||lst listed j):=by
 unfold lst;rw[Yzw,Yzw,Array.getElem?_setIfInBounds]
 grind
def unl(listed:Array Bool):Nat:=listed.toList.count false
theorem zk3{listed:Array Bool}{i:Nat}(hi:i<listed.size)(hl:lst listed i=false):unl (listed.setIfInBounds i true)+1=unl listed:=by
 unfold unl;rw[Array.toList_setIfInBounds,List.count_set (by omega)];have hg:listed.toList[i]'(by omega)=false:=by simp_all[lst]
 grind
theorem zh8{listed:Array Bool}(h:unl listed=0){i:Nat}(hi:i<listed.size):lst listed i=true:=by
 unfold unl at h;rw[List.count_eq_zero]at h;unfold lst;rw[Yzw,YzA hi]
 grind
end
end Go.CE
end
section
namespace Go.CE
open Go.RowKit
section
variable {P:Program} {w0:World} {S:Nat->Prop} {nt:Nat} {call:zc} {ops:Array Oper}
theorem Zh.of_get{φ:Phi}{n:Nat}{t t':Tr Zb}{arr:Array Value}(T:Zh φ nt n t arr)(h:∀s,t'.get s=t.get s):Zh φ nt n t' arr:=
 ⟨T.size,fun i hi=>by rw[h];exact T.get i hi,fun i hi=>by rw[h];exact T.out i hi,fun i v hv=>T.wf i v (by grind)⟩
noncomputable def wK(φ:Phi)(nt:Nat)(t:Tr Zb):Array Value:=Array.ofFn (n:=nt) fun i=>zm φ ((t.get (bn i.val)).getD zP)
theorem zf3{φ:Phi}{n:Nat}{t:Tr Zb}(h1:∀i,nt<=i->t.get (bn i)=none)(h2:∀i v,t.get i=some v->wfA φ n v):Zh φ nt n t (wK φ nt t):=
 ⟨by simp[wK],fun i hi=>by simp[wK,hi],h1,h2⟩
theorem zfU{φ:Phi}{t:Tr Zb}{h h2:Za}{a:Act}{v:Zb}{o:Oper}(e:xw call (yF P nt ops o) t h=some (v,h2))(T:Zh φ nt h.n.toNat t a.tmps):
  (Region.wanted o (yielded ops a.tmps)=true/\cOp P o.op call t h=some (v,h2))\/(Region.wanted o (yielded ops a.tmps)=false/\v=zP/\h2=h):=by
 unfold yF at e;have bad:∀{o':Zm},o'=⟨none,yR,none⟩->xw call o' t h=some (v,h2)->False:=by intro o' ho' e;subst ho';cases e
 cases hd:inT nt o.dst
 .grind
 rw[hd]at e;simp only[Yza]at e
 grind[xw,Region.wanted,q7,zY]
theorem qR{t:Tr Zb}{h:Za}{r:Zb×Za}{o:Oper}(e:xw call (yF P nt ops o) t h=some r):(yF P nt ops o).dst=o.dst.map bn/\inT nt o.dst=true:=by
 have bad:∀{o':Zm},o'=⟨none,yR,none⟩->xw call o' t h=some r->False:=by intro o' ho' e;subst ho';cases e
 grind[yF]
theorem zhF(hok:qT P ops (y5 ops.toList)=true):(∀(i:Nat) (o:Oper),ops[i]? = some o->(∀cs b,o.op≠.select cs b)/\∀e∈o.after.toList,Region.binds .any e=true->e.on<i)/\
  ∀(i j:Nat) (oi oj:Oper),ops[i]? = some oi->ops[j]? = some oj->i<j->bef (y5 ops.toList) i j=true\/(oi.apart ops oj=true/\(yv P oi.op=true\/yv P oj.op=true)):=by
 obtain⟨h1,h2⟩:=ue hok
 constructor
 .intro i o ho;have:=vL _ 0 h1 i o (by grind);rw[Yzg]at this;obtain⟨g1,g2⟩:=ue this;refine⟨(fun cs b hh=>by rw[hh]at g1;cases g1),fun e he hb=>?_⟩;rw[YzI]at g2;have:=g2 e he;rw[hb]at this;exact zY (by trivial)
 intro i j oi oj hi hj hlt;have:=vL _ 0 h2 j oj (by grind);rw[Yzg]at this;have:=vL _ 0 this i oi (by grind);rw[Yzg]at this;simp only[YzB]at this
 grind[Yze]
theorem znl(C:yQ P call){Q:Exit->Act->World->Prop}{a0:Act}{t t2:Tr Zb}{h:Za}{φ0:Phi}{l:List (Zi×Tr Zb×Zb)}{hs:List Za}{ro:Option Nat}
  (hok:qT P ops (y5 ops.toList)=true) (hev:evD call (za0 P nt ops) t h=some (l,t2,hs)) (hch:vZ call hs l=true)
  (hQ:∀a2 w2,Next1 w0 S φ0 nt h t2 (zeu h hs) a0 a2 w2->Q .normal a2 w2):
  ∀(fuel:Nat) (listed:Array Bool) (φ:Phi) (a:Act) (w:World) (Hk:Za),listed.size=ops.size->unl listed<=fuel->Clo ops (lst listed)->Ext h.n.toNat φ0 φ->
   hs[ce (lst listed) 0 (qS P ops.toList)]? = some Hk->Ze w0 S φ Hk w->h.n.toNat<=Hk.n.toNat->Zh φ nt Hk.n.toNat (frL (lst listed) 0 (l.map dv) t) a.tmps->a.defers=a0.defers->
   wpAnyIn (FR ro) 0 P .any ops Q fuel listed a w:=by
 obtain⟨hA,hord⟩:=zhF hok;obtain⟨g1,g2,g3,g4,g5⟩:=zeM call _ _ _ _ _ _ hev;have heff:(za0 P nt ops).map (·.eff)=qS P ops.toList:=zcy _ _ _ _ _ _ _;rw[heff]at g3 g5;have hl:∀(j:Nat) (o:Oper),ops[j]? = some o->∃tr v,l[j]? = some ((⟨yF P nt ops o,(o.looksAt ops).map bn,!yv P o.op,ce (fun k=>bef (y5 ops.toList) k j) 0 (qS P ops.toList),ce (fun k=>!bef (y5 ops.toList) j k) 0 (qS P ops.toList)⟩:Zi),tr,v):=by
  intro j o ho;have h1:(za0 P nt ops)[j]? = some ⟨yF P nt ops o,(o.looksAt ops).map bn,!yv P o.op,ce (fun k=>bef (y5 ops.toList) k j) 0 (qS P ops.toList),ce (fun k=>!bef (y5 ops.toList) j k) 0 (qS P ops.toList)⟩:=by grind[za0,zcx]
  grind
 have hlen:l.length=ops.size:=by
  have h1:=congrArg List.length g1;have h2:=congrArg List.length heff
  grind[qS]
 have hdst:∀(j:Nat) (o:Oper) (d:Zi) (tr:Tr Zb) (v:Zb),ops[j]? = some o->l[j]? = some (d,tr,v)->d.rop.dst=o.dst.map bn/\inT nt o.dst=true:=by grind[qR]
 have hdv:∀(j:Nat) (d:Option BN) (v:Zb) (s:BN),(l.map dv)[j]? = some (d,v)->d=some s->∃o sn,ops[j]? = some o/\o.dst=some sn/\bn sn=s:=by
  intro j d v s hj hd;rw[Lz6]at hj;rcases hx:l[j]? with _|x
  .grind
  obtain⟨d',tr,v'⟩:=x;rw[hx]at hj;simp only[YzF,Option.some.injEq,dv,Prod.mk.injEq]at hj;have hjl:j<ops.size:=by grind
  have ho:ops[j]? = some ops[j]:=YzA hjl;have:=(hdst j _ d' tr v' ho hx).1;simp_all
 have hes:∀(j:Nat),(qS P ops.toList)[j]? = some true->∃o,ops[j]? = some o/\yv P o.op=false:=by grind[qS]
 have hes':∀(j:Nat) (o:Oper),ops[j]? = some o->(qS P ops.toList)[j]? = some (!yv P o.op):=by grind
 intro fuel
 induction fuel with
 |zero=>
  intro listed φ a w Hk hsz hu hC hE hH HR hn T hdf;have hall:∀i,i<ops.size->lst listed i=true:=fun i hi=>zh8 (by omega) (by omega);have hnil:Region.ready .any ops listed=[]:=by
   cases hr:Region.ready .any ops listed with
   |nil=>rfl
   |cons i r=>
    obtain⟨o,ho,h1,h2,h3⟩:=mem_ready (ops:=ops) (listed:=listed) (i:=i) (by grind)
    grind
  refine⟨hnil,hQ a w ⟨φ,hE,?_,?_,hdf,?_⟩⟩
  all_goals
   have hk:Hk=zeu h hs:=by have h1:=zet hs h (fun hh=>by rw[hh]at g2;cases g2);rw[g3,Nat.add_sub_cancel]at h1;rw[wB (L:=lst listed) (L':=fun _=>true) _ 0 (fun j hj=>by obtain⟨o,ho,_⟩:=hes j hj;rw[Yzg];exact hall j (Lz7.1 ho).1)]at hH;exact Option.some.inj (hH.symm.trans h1)
   subst hk
  .exact HR
  .grind[qM]
  exact hn
 |succ fuel ih=>
  intro listed φ a w Hk hsz hu hC hE hH HR hn T hdf;refine⟨fun hnil=>?_,fun i hi=>?_⟩
  .have hall:=zdE (ops:=ops) hsz (fun i o e ho he hb=>(hA i o ho).2 e he hb) hnil;have hk:Hk=zeu h hs:=by
    have h1:=zet hs h (fun hh=>by grind)
    grind[wB]
   subst hk;refine hQ a w ⟨φ,hE,HR,?_,hdf,hn⟩
   grind[qM]
  obtain⟨o,ho,hlt,hli,hR⟩:=mem_ready hi;obtain⟨tr,v,hj⟩:=hl i o ho;obtain⟨htr,hk0,h0',hk0s,hone0,heff0⟩:=g5 i _ tr v hj;obtain⟨hnosel,hedge⟩:=hA i o ho;obtain⟨hdd,hdin⟩:=hdst i o _ tr v ho hj;have before:∀j,bef (y5 ops.toList) j i=true->lst listed j=true:=fun j hb=>wY hb hC hR;have after:∀j,bef (y5 ops.toList) i j=true->lst listed j=false:=by
   intro j hb;cases hj:lst listed j
   .rfl
   have:=wY hb hC (hC j hj)
   grind
  have hCi:Clo ops (fun k=>decide (k<i)):=by
   intro j hj o' e ho' he hb
   grind
  have hRi:Rdy ops (fun k=>decide (k<i)) i:=by
   intro o' e ho' he hb
   grind
  have hagree:∀s∈(o.looksAt ops).map bn,(frL (fun k=>decide (k<i)) 0 (l.map dv) t).get s=(frL (lst listed) 0 (l.map dv) t).get s:=by
   intro s hs';obtain⟨sn,hsn,rfl⟩:=List.mem_map.1 hs';rw[uL,uL]
   congr 1
   refine qz _ 0 fun j d v hjd hds=>?_;obtain⟨oj,sj,hoj,hsj,hbe⟩:=hdv j d v _ hjd hds;have:=uz hbe;subst this;rw[Yzg]
   grind[Oper.apart_spec]
  have htrg:∀s,tr.get s=(frL (lst listed) 0 (l.map dv) t).get s/\s∈(o.looksAt ops).map bn\/tr.get s=none:=by grind[vg]
  have Tr':Zh φ nt Hk.n.toNat tr (wK φ nt tr):=by
   refine zf3 (fun j hj=>?_) (fun s v hv=>?_)
   .rcases htrg (bn j) with⟨h1,_⟩|h1
    .rw[h1];exact T.out j hj
    exact h1
   rcases htrg s with⟨h1,_⟩|h1
   .rw[h1]at hv;exact T.wf s v hv
   grind
  have htmps:∀sn∈o.looksAt ops,a.tmps[sn]? = (wK φ nt tr)[sn]?:=by
   intro sn hsn;by_cases hlt':sn<nt
   .rw[T.get sn hlt',Tr'.get sn hlt'];have hm:bn sn∈(o.looksAt ops).map bn:=List.mem_map.2 ⟨sn,hsn,rfl⟩
    grind[vg]
   have e1:a.tmps[sn]? = none:=YzP (by rw[T.size];grind);have e2:(wK φ nt tr)[sn]? = none:=YzP (by rw[Tr'.size];grind);rw[e1,e2]
  have hexec:execOp a.eval o=execOp ({ tmps:=wK φ nt tr,defers:=[] }:Act).eval o:=by
   refine execOp_congr o hnosel fun x hx=>?_;cases x with
   |tmp sn=>have:=htmps sn (YzG _ (List.mem_filterMap.2 ⟨.tmp sn,by grind,rfl⟩));simp only[Act.eval,Yzw,this]
   |_=>rfl
  have hwant:Region.wanted o (yielded ops a.tmps)=Region.wanted o (yielded ops (wK φ nt tr)):=by
   unfold Region.wanted;rcases hg:o.guard with _|gb
   .rfl
   obtain⟨g,b⟩:=gb;simp only;have:yielded ops a.tmps g=yielded ops (wK φ nt tr) g:=by
    unfold yielded;rcases hd:(ops[g]?).bind (·.dst) with _|sn
    .rfl
    have:=htmps sn (YzM _ (by grind))
    grind
   rw[this]
  have hone:∃h',xw call (yF P nt ops o) tr Hk=some (v,h')/\hs[ce (lst (listed.setIfInBounds i true)) 0 (qS P ops.toList)]? = some h':=by
   cases hq:yv P o.op
   .have hce:ce (lst listed) 0 (qS P ops.toList)=ce (fun k=>decide (k<i)) 0 (qS P ops.toList):=by
     refine wB _ 0 fun j hj=>?_
     grind
    rw[hce]at hH;cases hH.symm.trans hk0s;refine⟨h0',hone0,?_⟩;have:=heff0 (by simp[hq]);rw[<-hce]at this;rw[zf8 (L:=lst listed) (qS P ops.toList) 0 i (by grind) (by grind) (by grind[wJ]) (fun j hj=>by rw[Yzg]at hj;grind[wJ])];exact this
   have hsame:ce (lst (listed.setIfInBounds i true)) 0 (qS P ops.toList)=ce (lst listed) 0 (qS P ops.toList):=by
    refine wB _ 0 fun j hj=>?_;rw[Yzg,wJ hlt]
    grind
   have hlo:ce (fun k=>bef (y5 ops.toList) k i) 0 (qS P ops.toList)<=ce (lst listed) 0 (qS P ops.toList):=wn _ 0 fun j _ hb=>by grind
   have hhi:ce (lst listed) 0 (qS P ops.toList)<=ce (fun k=>!bef (y5 ops.toList) i k) 0 (qS P ops.toList):=wn _ 0 fun j _ hb=>by grind
   have hlo0:ce (fun k=>bef (y5 ops.toList) k i) 0 (qS P ops.toList)<=ce (fun k=>decide (k<i)) 0 (qS P ops.toList):=wn _ 0 fun j _ hb=>by rw[Yzg]at hb ⊢;grind[wY]
   have hhi0:ce (fun k=>decide (k<i)) 0 (qS P ops.toList)<=ce (fun k=>!bef (y5 ops.toList) i k) 0 (qS P ops.toList):=wn _ 0 fun j _ hb=>by
    rw[Yzg]at hb ⊢;cases hbb:bef (y5 ops.toList) i j
    .rfl
    have:=wY hbb hCi (hCi j hb)
    grind
   have hex:∃h',xw call (yF P nt ops o) tr Hk=some (v,h'):=by
    rcases zcu l hch i _ tr v hj (by simp[hq]) with heq|hall
    .grind
    grind
   obtain⟨h',hh'⟩:=hex;refine⟨h',hh',?_⟩;have:h'=Hk:=by
    rcases zfU (a:={ tmps:=wK φ nt tr,defers:=[] }) hh' Tr' with⟨_,hc⟩|⟨_,_,hc⟩
    .exact zlh P o.op hq _ _ _ _ _ hc
    exact hc
   grind
  obtain⟨h',hone,hH'⟩:=hone;have hC':Clo ops (lst (listed.setIfInBounds i true)):=by
   intro j hj o' e ho' he hb;rw[wJ hlt]at hj ⊢;rw[YzB]
   right
   simp only[YzB,YzL]at hj;rcases hj with hj|hj
   .subst hj;exact hR o' e ho' he hb
   exact hC j hj o' e ho' he hb
  have next:∀(φ2:Phi) (w2:World),Ext Hk.n.toNat φ φ2->Ze w0 S φ2 h' w2->wfA φ2 h'.n.toNat v->Hk.n.toNat<=h'.n.toNat->wpAnyIn (FR ro) 0 P .any ops Q fuel (listed.setIfInBounds i true) (a.put o.dst (zm φ2 v)) w2:=by
   intro φ2 w2 he H2 hv hle;refine ih _ φ2 _ w2 h' (by grind) ?_ hC' (hE.trans he hn) hH' H2 (Yzl hn hle) ?_ ((put_defers _ _ _).trans hdf)
   .grind[zk3]
   refine Zh.of_get (Zh.put (T.ext he hle) hv o.dst hdin) fun s=>?_
   classical
   rw[zdW,uL];have hri:(l.map dv)[i]? = some (o.dst.map bn,v):=by grind[dv]
   by_cases hd:o.dst.map bn=some s
   .rw[Yzd hd];rw[hd]at hri;rw[zhf (l.map dv) 0 i v hri (by rw[Yzg,wJ hlt];simp) (fun j d u hij hjd hds=>?_)]
    .rfl
    rw[Yzg,wJ hlt];obtain⟨oj,sj,hoj,hsj,hbe⟩:=hdv j d u _ hjd hds;have hne:¬j=i:=by omega
    simp only[hne,decide_false,YzO]
    grind[uz,Oper.apart_spec]
   rw[Yzb hd,uL]
   congr 1
   refine qz _ 0 fun j d u hjd hds=>?_;rw[Yzg,wJ hlt]
   grind
  unfold wpOpIn;simp only[ho];rcases zfU (a:={ tmps:=wK φ nt tr,defers:=[] }) hone Tr' with⟨hw,hc⟩|⟨hw,hv,hh⟩
  .rw[Yzd (by grind)];exact zfx C HR (ar:={ tmps:=wK φ nt tr,defers:=[] }) Tr' hexec hc next
  rw[Yzb (by grind)];subst hv hh;exact⟨fun f _=>trivial,next φ w (Ext.refl _ _) HR (fun _ hv=>by cases hv) (LzB _)⟩
end
end Go.CE
end
section
namespace Go.CE
open Go.RowKit
section
variable {α:Type}
theorem jq:∀(n:BN) (t:Tr α),(t.del n).get n=none:=by
 intro n
 induction n with
 |z=>intro t;cases t<;>rfl
 |o n ih=>intro t;cases t with
  |nil=>rfl
  |node l v r=>exact ih l
 |d n ih=>intro t;cases t with
  |nil=>rfl
  |node l v r=>exact ih r
theorem uJ:∀(n m:BN) (t:Tr α),m≠n->(t.del n).get m=t.get m:=by
 intro n
 induction n with
 |z=>intro m t h;cases t with
  |nil=>rfl
  |node l v r=>cases m with
   |z=>trivial
   |o m=>rfl
   |d m=>rfl
 |o n ih=>intro m t h;cases t with
  |nil=>rfl
  |node l v r=>cases m with
   |z=>rfl
   |o m=>exact ih m l (fun e=>h (by rw[e]))
   |d m=>rfl
 |d n ih=>intro m t h;cases t with
  |nil=>rfl
  |node l v r=>cases m with
   |z=>rfl
   |o m=>rfl
   |d m=>exact ih m r (fun e=>h (by rw[e]))
end
abbrev nm(n0 j:Nat):BN:=bn (Nat.add n0 j)
theorem yw(n0 j:Nat):(nm n0 j).toNat=n0+j:=zF _
theorem vT{n0 i j:Nat}(h:nm n0 i=nm n0 j):i=j:=by
 have:=congrArg BN.toNat h
 grind[yw]
theorem zw1{n0:Nat}{b:BN}(h:n0<=b.toNat):b=nm n0 (b.toNat-n0):=by grind[BN.toNat_inj,yw]
theorem zco{n0:Nat}:∀(l:List Nat) (t:Tr Zf) (j:Nat),j∈l->(zar n0 l t).get (nm n0 j)=none
 | [],_,j,h=>by cases h
 |i::l,t,j,h=>by
  unfold zar;by_cases hj:j∈l
  .exact zco l _ j hj
  have hji:j=i:=by grind
  subst hji;have key:∀(l:List Nat) (t:Tr Zf) (b:BN),t.get b=none->(zar n0 l t).get b=none:=by
   intro l
   induction l with
   |nil=>intro t b h;exact h
   |cons i l ih=>intro t b h;unfold zar;apply ih;by_cases hb:b=bn (Nat.add n0 i)<;>simp_all[jq,uJ]
  grind[jq]
theorem vX{n0:Nat}:∀(l:List Nat) (t:Tr Zf) (b:BN),(∀j∈l,b≠nm n0 j)->(zar n0 l t).get b=t.get b
 | [],_,_,_=>rfl
 |i::l,t,b,h=>by unfold zar;rw[vX l _ b fun j hj=>h j (by simp[hj]),uJ _ _ _ (h i (by simp))]
theorem jV{n0:Nat}{h:Tr Zf}:∀(l:List Nat) (t t':Tr Zf),ze4 n0 h l t=some t'->
  (∀j∈l,t'.get (nm n0 j)=h.get (nm n0 j))/\(∀b,(∀j∈l,b≠nm n0 j)->t'.get b=t.get b)/\∀j∈l,t.get (nm n0 j)=none
 | [],t,t',e=>by cases e<;>grind
 |i::l,t,t',e=>by
  unfold ze4 at e;split at e
  .cases e
  rename_i hn;split at e
  .rename_i o ho;obtain⟨g1,g2,g3⟩:=jV l _ t' e;have hni:∀j∈l,nm n0 i≠nm n0 j:=fun j hj hh=>by
    have:=g3 j hj;rw[<-hh]at this;rw[show nm n0 i=bn (Nat.add n0 i) from rfl,zq]at this;cases this
   refine⟨fun j hj=>?_,fun b hb=>?_,fun j hj=>?_⟩
   .rcases Yzv.1 hj with rfl|hj
    .rw[g2 _ hni,show nm n0 j=bn (Nat.add n0 j) from rfl,zq,ho]
    grind
   .grind[zl]
   rcases Yzv.1 hj with rfl|hj
   .exact hn
   grind[zl]
  rename_i ho;obtain⟨g1,g2,g3⟩:=jV l _ t' e
  grind
theorem zyl{n0:Nat}(h t:Tr Zf):∀(l:List Nat),∃t':Tr Zf,(∀j∈l,t'.get (nm n0 j)=h.get (nm n0 j))/\∀b,(∀j∈l,b≠nm n0 j)->t'.get b=t.get b
 | []=>⟨t,fun j hj=>(by cases hj),fun _ _=>rfl⟩
 |i::l=>by
  obtain⟨t1,g1,g2⟩:=zyl h t l;have key:∃t2:Tr Zf,t2.get (nm n0 i)=h.get (nm n0 i)/\∀b,b≠nm n0 i->t2.get b=t1.get b:=by
   rcases ho:h.get (nm n0 i) with _|o
   .exact⟨t1.del (nm n0 i),jq _ _,fun b hb=>uJ _ _ _ hb⟩
   exact⟨t1.set (nm n0 i) o,zq _ _ _,fun b hb=>zl _ _ _ _ hb⟩
  obtain⟨t2,k1,k2⟩:=key;refine⟨t2,fun j hj=>?_,fun b hb=>?_⟩
  .by_cases hji:nm n0 j=nm n0 i
   .grind
   rw[k2 _ hji];rcases Yzv.1 hj with rfl|hj
   .trivial
   exact g1 j hj
  grind
def Sbh(e h:Za):Prop:=∀b o,e.t.get b=some o->h.t.get b=some o
section
variable {w0:World} {S:Nat->Prop} {φ φ2:Phi} {h e e2 h2:Za} {w w2:World}
def zvI(φ:Phi)(e:Za)(k:Nat):Prop:=∃b o,e.t.get b=some o/\live o/\(φ b).blk=k
theorem Ze.sub(H:Ze w0 S φ h w)(hs:Sbh e h)(hn:e.n.toNat=h.n.toNat):Ze w (zvI φ e) φ e w:=
 ⟨fun b o hb => by rw [hn]; exact H.keys b o (hs b o hb), fun b o hb => H.okb b o (hs b o hb), fun b o hb => by rw [hn]; exact H.obj b o (hs b o hb),
  fun b b' o o' hb hb' hl hl' he=>H.inj b b' o o' (hs b o hb) (hs b' o' hb') hl hl' he,fun b o hb hl=>.inl ⟨b,o,hb,hl,rfl⟩,rfl,rfl,rfl,LzB _,LzB _,fun _ _ _=>rfl,H.glob,fun b o hb hl=>H.flat b o (hs b o hb) hl,fun b o hb hl=>H.ng b o (hs b o hb) hl⟩
theorem Ze.join(H:Ze w0 S φ h w)(hs:Sbh e h)(_hn:e.n.toNat=h.n.toNat)(H2:Ze w (zvI φ e) φ2 e2 w2)(he:Ext h.n.toNat φ φ2)(hle:h.n.toNat<=e2.n.toNat)
  (hn2:h2.n.toNat=e2.n.toNat) (hg:∀b o,h2.t.get b=some o->e2.t.get b=some o\/(h.t.get b=some o/\e.t.get b=none)):Ze w0 S φ2 h2 w2:=by
 have hold:∀b o,h.t.get b=some o->φ2 b=φ b:=fun b o hb=>he b (H.keys b o hb);have hdesc:∀k,zvI φ e k->S k\/w0.heap.size<=k:=by
  rintro k ⟨b,o,hb,hl,rfl⟩
  exact H.own b o (hs b o hb) hl
 have hrest:∀b o,h.t.get b=some o->e.t.get b=none->live o->¬zvI φ e (φ b).blk:=by
  rintro b o hb hn hl ⟨c,o',hc,hl',hcc⟩
  have:=H.inj c b o' o (hs c o' hc) hb hl' hl hcc
  grind
 have hlt:∀b o,h.t.get b=some o->live o->(φ b).blk<w.heap.size:=fun b o hb hl=>(H.obj b o hb).there hl;refine⟨fun b o hb=>?_,fun b o hb=>?_,fun b o hb=>?_,fun b b' o o' hb hb' hl hl' hh=>?_,fun b o hb hl=>?_,H2.os.trans H.os,H2.tape.trans H.tape,H2.output.trans H.output,Yzl H.size H2.size,Yzl H.drawn H2.drawn,fun k hk hS=>?_,H2.glob,fun b o hb hl=>?_,fun b o hb hl=>?_⟩
 .rw[hn2];rcases hg b o hb with hb|⟨hb,_⟩
  .exact H2.keys b o hb
  exact Lz9 (H.keys b o hb) hle
 .rcases hg b o hb with hb|⟨hb,_⟩
  .exact H2.okb b o hb
  rw[hold b o hb];exact H.okb b o hb
 .rw[hn2];rcases hg b o hb with hb|⟨hb,hnone⟩
  .exact H2.obj b o hb
  exact((H.obj b o hb).world fun hl=>H2.kept _ (hlt b o hb hl) (hrest b o hb hnone hl)).ext (H.okk b o hb) he hle
 .have hcross:∀b b' o o',e2.t.get b=some o->h.t.get b'=some o'->e.t.get b'=none->live o->live o'->(φ2 b).blk=(φ2 b').blk->False:=by
   intro b b' o o' hb hb' hn hl hl' hh;rw[hold b' o' hb']at hh;rcases H2.own b o hb hl with h1|h1<;>grind
  rcases hg b o hb with hb|⟨hb,hnb⟩<;>rcases hg b' o' hb' with hb'|⟨hb',hnb'⟩
  .exact H2.inj b b' o o' hb hb' hl hl' hh
  .grind
  .grind
  rw[hold b o hb,hold b' o' hb']at hh;exact H.inj b b' o o' hb hb' hl hl' hh
 .rcases hg b o hb with hb|⟨hb,_⟩
  .rcases H2.own b o hb hl with h1|h1
   .grind
   exact .inr (Yzl H.size h1)
  rw[hold b o hb];exact H.own b o hb hl
 .rw[H2.kept k (Lz9 hk H.size) (fun hd=>by
   grind)]
  exact H.kept k hk hS
 .rcases hg b o hb with hb|⟨hb,_⟩
  .exact H2.flat b o hb hl
  rw[hold b o hb];exact H.flat b o hb hl
 rcases hg b o hb with hb|⟨hb,_⟩
 .exact H2.ng b o hb hl
 rw[hold b o hb];exact H.ng b o hb hl
theorem Ze.of_get(H:Ze w0 S φ h w)(hg:∀b,e.t.get b=h.t.get b)(hn:e.n.toNat=h.n.toNat):Ze w0 S φ e w:=
 ⟨fun b o hb => by rw [hn]; exact H.keys b o (by grind), fun b o hb => H.okb b o (by grind), fun b o hb => by rw [hn]; exact H.obj b o (by grind),
  fun b b' o o' hb hb'=>H.inj b b' o o' (by grind) (by grind),fun b o hb=>H.own b o (by grind),H.os,H.tape,H.output,H.size,H.drawn,H.kept,H.glob,fun b o hb hl=>H.flat b o (by grind) hl,fun b o hb hl=>H.ng b o (by grind) hl⟩
noncomputable def zdo(φ:Phi)(n0 N:Nat):Phi:=fun b=>if n0<=b.toNat/\b.toNat<n0+N then⟨0,0,0,false,none⟩ else φ b
theorem zdn(φ:Phi)(n0 N:Nat):Ext n0 φ (zdo φ n0 N):=fun b hb=>by grind[zdo]
theorem zmJ(φ:Phi)(n0 N j:Nat)(hj:j<N):(zdo φ n0 N (nm n0 j)).ok=false:=by grind[zdo,yw]
theorem Ze.keep(H:Ze w0 S φ h w)(N:Nat):Ze w0 S (zdo φ h.n.toNat N) ⟨bn (Nat.add h.n.toNat N),h.t⟩ w:=by
 have he:=zdn φ h.n.toNat N;have hn:(bn (Nat.add h.n.toNat N)).toNat=h.n.toNat+N:=zF _;refine⟨fun b o hb=>?_,fun b o hb=>?_,fun b o hb=>?_,fun b b' o o' hb hb' hl hl' hh=>?_,fun b o hb hl=>?_,H.os,H.tape,H.output,H.size,H.drawn,H.kept,H.glob,fun b o hb hl=>?_,fun b o hb hl=>?_⟩
 .show b.toNat<(bn (Nat.add h.n.toNat N)).toNat;rw[hn];have:=H.keys b o hb;omega
 .rw[he b (H.keys b o hb)];exact H.okb b o hb
 .show ORel _ (bn (Nat.add h.n.toNat N)).toNat w b o;rw[hn];exact(H.obj b o hb).ext (H.okk b o hb) he (by omega)
 .rw[he b (H.keys b o hb),he b' (H.keys b' o' hb')]at hh;exact H.inj b b' o o' hb hb' hl hl' hh
 .rw[he b (H.keys b o hb)];exact H.own b o hb hl
 .rw[he b (H.keys b o hb)];exact H.flat b o hb hl
 rw[he b (H.keys b o hb)];exact H.ng b o hb hl
def OWf(φ:Phi)(n:Nat):Zf->Prop
 | .cells cs _=>∀c∈cs,wfC φ n c
 | .ro _ f=>∀i c,f i=some c->wfC φ n c
 | .tcells cs _ _=>∀c∈cs,wfC φ n c
 | .map es=>∀p∈es,wfS φ n p.1/\wfS φ n p.2
 | .loop _ _ _ _ tmps _ _ _ d=>(∀i v,tmps.get i=some v->wfA φ n v)/\okB φ n d
 |_=>True
theorem ORel.wf{n:Nat}{b:BN}{o:Zf}(h:ORel φ n w b o):OWf φ n o:=by
 cases o with
 |cells cs st=>obtain⟨_,_,_,_,_,h4⟩:=h;exact h4
 |ro x f=>obtain⟨_,_,_,_,_,h4⟩:=h;exact fun i c hc=>(h4 i c hc).2
 |tcells cs ty var=>obtain⟨_,_,_,_,_,_,h4⟩:=h;exact h4
 |map es=>obtain⟨_,_,_,_,h3,_⟩:=h;exact h3
 |loop st pend fn nt tmps ps assign body d=>obtain⟨_,_,_,h2,h3⟩:=h;exact⟨h2.wf,h3⟩
 |_=>trivial
theorem ORel.recast{φ1 φ2:Phi}{n n1 n2:Nat}{b b2:BN}{o:Zf}(h:ORel φ1 n1 w b o)(hw:OWf φ n o)(hb:φ2 b2=φ1 b)(e1:zgB n φ φ1)(e2:zgB n φ φ2)(hn2:n<=n2):ORel φ2 n2 w b2 o:=by
 have cc:∀c,wfC φ n c->zf φ2 c=zf φ1 c:=fun c hc=>(xX e2 hc).trans (xX e1 hc).symm;have cs':∀c,wfS φ n c->zA φ2 c=zA φ1 c:=fun c hc=>(uw e2 hc).trans (uw e1 hc).symm;have ca:∀c,wfA φ n c->zm φ2 c=zm φ1 c:=fun c hc=>(zau e2 hc).trans (zau e1 hc).symm;cases o with
 |cells cs st=>
  obtain⟨arr,e,h1,h2,h3,h4⟩:=h;refine⟨arr,e,by grind,fun i c hc=>?_,by grind,fun c hc=>ww e2 hn2 (hw c hc)⟩;rw[hb,cc c (hw c (Lz3 hc))]
  grind
 |ro x f=>obtain⟨h0,arr,e,fr,h1,h2⟩:=h;refine⟨fun y hy=>by grind,arr,e,fr,by grind,fun i c hc=>?_⟩;obtain⟨k1,_⟩:=h2 i c hc;exact⟨by rw[hb,cc c (hw i c hc)];exact k1,ww e2 hn2 (hw i c hc)⟩
 |tcells cs ty var=>
  obtain⟨arr,h1,h2,h3,h4,h5,h6⟩:=h;refine⟨arr,by grind,fun i c hc=>?_,by grind,by grind,h5,fun c hc=>ww e2 hn2 (hw c hc)⟩;rw[cc c (hw c (Lz3 hc))]
  grind
 |dead=>trivial
 |void=>trivial
 |map es=>obtain⟨ents,clock,h1,h2,h3,h4⟩:=h;refine⟨ents,clock,by grind,?_,fun p hp=>⟨uB e2 hn2 (hw p hp).1,uB e2 hn2 (hw p hp).2⟩,h4⟩;rw[h2];exact YzK fun p hp=>by rw[cs' _ (hw p hp).1,cs' _ (hw p hp).2]
 |loop st pend fn nt tmps ps assign body d=>
  obtain⟨arr,f,h1,h2,h3⟩:=h;obtain⟨w1,w2'⟩:=hw;refine⟨arr,f,by rw[hb,(e2 d w2').trans (e1 d w2').symm];exact h1,⟨h2.size,fun i hi=>?_,h2.out,fun i v hv=>zh1 e2 hn2 (w1 i v hv)⟩,okB.extW e2 hn2 w2'⟩;rw[h2.get i hi];rcases hg:tmps.get (bn i) with _|v
  .rfl
  grind
 |defer=>grind[ORel]
theorem Ze.rename(H:Ze w0 S φ h w){o:Zf}{φ1:Phi}(H1:Ze w0 S φ1 (h.new o) w2)(he:Ext h.n.toNat φ φ1)(hw:OWf φ h.n.toNat o){b:BN}(hb:b.toNat<h.n.toNat)(hbad:(φ b).ok=false)(hnone:h.t.get b=none):
  Ze w0 S (upd φ b (φ1 h.n)) (h.put b o) w2/\zgB h.n.toNat φ (upd φ b (φ1 h.n)):=by
 have hnb:∀c o',h.t.get c=some o'->c≠b:=fun c o' hc hh=>by grind
 have hnn:∀c o',h.t.get c=some o'->c≠h.n:=fun c o' hc hh=>by have:=H.keys c o' hc;grind
 have hupd:∀c,c≠b->upd φ b (φ1 h.n) c=φ c:=fun c hc=>by grind[upd]
 have hget:∀c x,(h.put b o).t.get c=some x->(c=b/\x=o)\/(c≠b/\h.t.get c=some x):=by grind[Za.put,jp]
 have hold:∀c x,h.t.get c=some x->(h.new o).t.get c=some x:=fun c x hc=>by grind[Za.new,zl]
 have hnew:(h.new o).t.get h.n=some o:=by grind[Za.new,zq]
 have e2:zgB h.n.toNat φ (upd φ b (φ1 h.n)):=fun c hc=>hupd c fun hh=>by grind
 refine⟨⟨fun c x hc=>?_,fun c x hc=>?_,fun c x hc=>?_,fun c c' x x' hc hc' hl hl' hh=>?_,fun c x hc hl=>?_,H1.os,H1.tape,H1.output,H1.size,H1.drawn,H1.kept,H1.glob,fun c x hc hl=>?_,fun c x hc hl=>?_⟩,e2⟩
 .rcases hget c x hc with⟨rfl,_⟩|⟨_,hc'⟩
  .exact hb
  exact H.keys c x hc'
 .rcases hget c x hc with⟨rfl,_⟩|⟨hne,hc'⟩
  .rw[zj];exact H1.okb _ _ hnew
  rw[hupd c hne];exact H.okb c x hc'
 .rcases hget c x hc with⟨rfl,rfl⟩|⟨hne,hc'⟩
  .exact(H1.obj _ _ hnew).recast hw (zj _ _ _) he.w e2 (LzB _)
  exact(H1.obj _ _ (hold c x hc')).recast (H.obj c x hc').wf ((hupd c hne).trans (he c (H.keys c x hc')).symm) he.w e2 (LzB _)
 .rcases hget c x hc with⟨rfl,rfl⟩|⟨hne,hc1⟩<;>rcases hget c' x' hc' with⟨rfl,rfl⟩|⟨hne',hc2⟩
  .rfl
  .rw[zj,hupd c' hne',<-he c' (H.keys c' x' hc2)]at hh;exact absurd (H1.inj _ _ _ _ hnew (hold c' x' hc2) hl hl' hh).symm (hnn c' x' hc2)
  .rw[zj,hupd c hne,<-he c (H.keys c x hc1)]at hh;exact absurd (H1.inj _ _ _ _ (hold c x hc1) hnew hl hl' hh) (hnn c x hc1)
  rw[hupd c hne,hupd c' hne']at hh;exact H.inj c c' x x' hc1 hc2 hl hl' hh
 .rcases hget c x hc with⟨rfl,rfl⟩|⟨hne,hc'⟩
  .rw[zj];exact H1.own _ _ hnew hl
  rw[hupd c hne];exact H.own c x hc' hl
 .rcases hget c x hc with⟨rfl,rfl⟩|⟨hne,hc'⟩
  .rw[zj];exact H1.flat _ _ hnew hl
  rw[hupd c hne];exact H.flat c x hc' hl
 rcases hget c x hc with⟨rfl,rfl⟩|⟨hne,hc'⟩
 .rw[zj];exact H1.ng _ _ hnew hl
 rw[hupd c hne];exact H.ng c x hc' hl
end
end Go.CE
end
section
namespace Go.CE
open Go.RowKit
def yN(f:zcP):Prop:=∀call t h h' v h2,f call t h=some (v,h2)->Sbh h h'->f call t h'=some (v,h')
theorem zM:yN (zD none):=fun _ _ _ _ _ _ e=>by cases e
theorem yJ{f:zcP}(hf:yN f):yN (zD (some f)):=hf
theorem zmv{α:Type}{a:Option α}{g:α->Option zcP}(hg:∀x,yN (zD (g x))):yN (zD (a.bind g)):=by cases a<;>grind[zM]
theorem zt{α:Type}{a:Option α}{g:α->Option zcP}(hg:∀x,yN (zD (g x))):yN (zD (a >>= g)):=zmv hg
theorem ziN{α:Type}{a:Option α}{g:α->zcP}(hg:∀x,yN (g x)):yN (zD (a.map g)):=by cases a<;>grind[zM,zD]
theorem xt{b:Bool}{x y:Option zcP}(hx:yN (zD x))(hy:yN (zD y)):yN (zD (bif b then x else y)):=by grind
section
variable {h h' h2:Za} {v:Zb}
theorem yg{c:Option Zc}(e:qZ h c=some (v,h2)):qZ h' c=some (v,h'):=by cases c<;>cases e;rfl
theorem yh{c:Option (List Zc)}(e:zd1 h c=some (v,h2)):zd1 h' c=some (v,h'):=by cases c<;>cases e;rfl
theorem yk{n:Option Nat}{cs:List Zc}{off:Nat}(e:part n cs off h=some (v,h2)):part n cs off h'=some (v,h'):=by
 cases n
 .exact yg e
 exact yh e
theorem xc{b:Bool}{x y x' y':Res}(hx:x=some (v,h2)->x'=some (v,h'))(hy:y=some (v,h2)->y'=some (v,h'))(e:(bif b then x else y)=some (v,h2)):(bif b then x' else y')=some (v,h'):=by grind
theorem zfh{st:Nat}{lo hi mx:Option Opd}{t:Tr Zb}{b:BN}{off len cap:Nat}(e:y2 st lo hi mx t h b off len cap=some (v,h2)):y2 st lo hi mx t h' b off len cap=some (v,h'):=by
 unfold y2 at e ⊢
 (repeat' split at e)<;>first|(cases e;done)|((try simp only[*]);exact xc (fun e=>by cases e;rfl) (fun e=>by cases e) e)
theorem zll{st:Nat}{lo hi mx:Option Opd}{t:Tr Zb}{b:BN}{off len cap:Nat}(e:yT st lo hi mx t h b off len cap=some (v,h2)):yT st lo hi mx t h' b off len cap=some (v,h'):=by
 unfold yT at e ⊢
 (repeat' split at e)<;>first|(cases e;done)|(cases e;simp only[*];done)|((try simp only[*]);exact xc (fun e=>by cases e;rfl) (fun e=>by cases e) e)
theorem zjT{lo hi mx:Option Opd}{t:Tr Zb}(e:xD lo hi mx t h=some (v,h2)):xD lo hi mx t h'=some (v,h'):=by grind[xD]
end
theorem zhb(x):yN (ziC x):=by intro call t h h' v h2 e _;simp_all[ziC]
theorem zml(x y z):yN (u4 x y z):=by
 intro call t h h' v h2 e _;unfold u4 at e ⊢
 (repeat' split at e)<;>first
  |(cases e;done)
  |(cases e;simp only[*];done)
  |((try simp only[*]);first|exact yg e|exact yh e|exact yk e|exact xc (fun e=>by first|(cases e;rfl)|exact yg e|exact yh e|exact yk e) (fun e=>by cases e) e)
theorem zdh(zs ps):yN (vB zs ps):=by intro call t h h' v h2 e _;exact yh e
theorem zkf(x):yN (vq x):=by
 intro call t h h' v h2 e _;unfold vq at e ⊢
 (repeat' split at e)<;>first
  |(cases e;done)
  |(cases e;simp only[*];done)
  |((try simp only[*]);first|exact yg e|exact yh e|exact yk e|exact xc (fun e=>by first|(cases e;rfl)|exact yg e|exact yh e|exact yk e) (fun e=>by cases e) e)
theorem zpd(g x y):yN (za2 g x y):=by
 intro call t h h' v h2 e _;unfold za2 at e ⊢
 (repeat' split at e)<;>first
  |(cases e;done)
  |(cases e;simp only[*];done)
  |((try simp only[*]);first|exact yg e|exact yh e|exact yk e|exact xc (fun e=>by first|(cases e;rfl)|exact yg e|exact yh e|exact yk e) (fun e=>by cases e) e)
theorem zkd(g x y):yN (wt g x y):=by
 intro call t h h' v h2 e _;unfold wt at e ⊢
 (repeat' split at e)<;>first
  |(cases e;done)
  |(cases e;simp only[*];done)
  |((try simp only[*]);first|exact yg e|exact yh e|exact yk e|exact xc (fun e=>by first|(cases e;rfl)|exact yg e|exact yh e|exact yk e) (fun e=>by cases e) e)
theorem zo8(g x y):yN (zbN g x y):=by
 intro call t h h' v h2 e _;unfold zbN at e ⊢
 (repeat' split at e)<;>first
  |(cases e;done)
  |(cases e;simp only[*];done)
  |((try simp only[*]);first|exact yg e|exact yh e|exact yk e|exact xc (fun e=>by first|(cases e;rfl)|exact yg e|exact yh e|exact yk e) (fun e=>by cases e) e)
theorem zrH(g n x y):yN (ziE g n x y):=by
 intro call t h h' v h2 e _;unfold ziE at e ⊢
 (repeat' split at e)<;>first
  |(cases e;done)
  |(cases e;simp only[*];done)
  |((try simp only[*]);first|exact yg e|exact yh e|exact yk e|exact xc (fun e=>by first|(cases e;rfl)|exact yg e|exact yh e|exact yk e) (fun e=>by cases e) e)
theorem zmm(n x y):yN (ui n x y):=by
 intro call t h h' v h2 e _
 grind[ui]
theorem zmn(n x y):yN (u5 n x y):=by
 intro call t h h' v h2 e _
 grind[u5]
theorem zpa(x):yN (zbO x):=by
 intro call t h h' v h2 e _;unfold zbO at e ⊢
 (repeat' split at e)<;>first
  |(cases e;done)
  |(cases e;simp only[*];done)
  |((try simp only[*]);first|exact yg e|exact yh e|exact yk e|exact xc (fun e=>by first|(cases e;rfl)|exact yg e|exact yh e|exact yk e) (fun e=>by cases e) e)
theorem zpb(x):yN (zbP x):=by
 intro call t h h' v h2 e _;unfold zbP at e ⊢
 (repeat' split at e)<;>first
  |(cases e;done)
  |(cases e;simp only[*];done)
  |((try simp only[*]);first|exact yg e|exact yh e|exact yk e|exact xc (fun e=>by first|(cases e;rfl)|exact yg e|exact yh e|exact yk e) (fun e=>by cases e) e)
theorem zmu(k x):yN (jd k x):=by
 intro call t h h' v h2 e _;unfold jd at e ⊢
 (repeat' split at e)<;>first
  |(cases e;done)
  |(cases e;simp only[*];done)
  |((try simp only[*]);first|exact yg e|exact yh e|exact yk e|exact xc (fun e=>by first|(cases e;rfl)|exact yg e|exact yh e|exact yk e) (fun e=>by cases e) e)
theorem zmo(f x):yN (u6 f x):=by
 intro call t h h' v h2 e _;unfold u6 at e ⊢
 (repeat' split at e)<;>first
  |(cases e;done)
  |(cases e;simp only[*];done)
  |((try simp only[*]);first|exact yg e|exact yh e|exact yk e|exact xc (fun e=>by first|(cases e;rfl)|exact yg e|exact yh e|exact yk e) (fun e=>by cases e) e)
theorem zg9(x lo hi):yN (xE x lo hi):=by
 intro call t h h' v h2 e _;unfold xE at e ⊢
 (repeat' split at e)<;>first
  |(cases e;done)
  |(cases e;simp only[*];done)
  |((try simp only[*]);first|exact yg e|exact yh e|exact yk e|exact xc (fun e=>by first|(cases e;rfl)|exact yg e|exact yh e|exact yk e) (fun e=>by cases e) e)
theorem zmt(x o):yN (jc x o):=by
 intro call t h h' v h2 e _;unfold jc at e ⊢
 (repeat' split at e)<;>first
  |(cases e;done)
  |(cases e;simp only[*];done)
  |((try simp only[*]);first|exact yg e|exact yh e|exact yk e|exact xc (fun e=>by first|(cases e;rfl)|exact yg e|exact yh e|exact yk e) (fun e=>by cases e) e)
theorem zkj(x o n):yN (vA x o n):=by
 intro call t h h' v h2 e _;unfold vA at e ⊢
 (repeat' split at e)<;>first
  |(cases e;done)
  |(cases e;simp only[*];done)
  |((try simp only[*]);first|exact yg e|exact yh e|exact yk e|exact xc (fun e=>by first|(cases e;rfl)|exact yg e|exact yh e|exact yk e) (fun e=>by cases e) e)
theorem zpc(st x i):yN (zbS st x i):=by
 intro call t h h' v h2 e _;unfold zbS at e ⊢
 (repeat' split at e)<;>first
  |(cases e;done)
  |(cases e;simp only[*];done)
  |((try simp only[*]);first|exact yg e|exact yh e|exact yk e|exact xc (fun e=>by first|(cases e;rfl)|exact yg e|exact yh e|exact yk e) (fun e=>by cases e) e)
theorem zkh(l st x i):yN (vu l st x i):=by
 intro call t h h' v h2 e _;unfold vu at e ⊢
 (repeat' split at e)<;>first
  |(cases e;done)
  |(cases e;simp only[*];done)
  |((try simp only[*]);first|exact yg e|exact yh e|exact yk e|exact xc (fun e=>by first|(cases e;rfl)|exact yg e|exact yh e|exact yk e) (fun e=>by cases e) e)
theorem zki(l st n x i):yN (vz l st n x i):=by
 intro call t h h' v h2 e _;unfold vz at e ⊢
 (repeat' split at e)<;>first
  |(cases e;done)
  |(cases e;simp only[*];done)
  |((try simp only[*]);first|exact yg e|exact yh e|exact yk e|exact xc (fun e=>by first|(cases e;rfl)|exact yg e|exact yh e|exact yk e) (fun e=>by cases e) e)
theorem zkg(x i):yN (vt x i):=by
 intro call t h h' v h2 e _;unfold vt at e ⊢
 (repeat' split at e)<;>first
  |(cases e;done)
  |(cases e;simp only[*];done)
  |((try simp only[*]);first|exact yg e|exact yh e|exact yk e|exact xc (fun e=>by first|(cases e;rfl)|exact yg e|exact yh e|exact yk e) (fun e=>by cases e) e)
theorem zfC(x i):yN (xq x i):=by
 intro call t h h' v h2 e _;unfold xq at e ⊢
 (repeat' split at e)<;>first
  |(cases e;done)
  |(cases e;simp only[*];done)
  |((try simp only[*]);first|exact yg e|exact yh e|exact yk e|exact xc (fun e=>by first|(cases e;rfl)|exact yg e|exact yh e|exact yk e) (fun e=>by cases e) e)
theorem zmq(x):yN (ja x):=by
 intro call t h h' v h2 e _;unfold ja at e ⊢
 (repeat' split at e)<;>first
  |(cases e;done)
  |(cases e;simp only[*];done)
  |((try simp only[*]);first|exact yg e|exact yh e|exact yk e|exact xc (fun e=>by first|(cases e;rfl)|exact yg e|exact yh e|exact yk e) (fun e=>by cases e) e)
theorem zms(x):yN (jb x):=by
 intro call t h h' v h2 e _
 grind[jb]
theorem zbV(b x xs):yN (yY b x xs):=by
 intro call t h h' v h2 e _;unfold yY at e ⊢
 (repeat' split at e)<;>first
  |(cases e;done)
  |(cases e;simp only[*];done)
  |((try simp only[*]);first|exact yg e|exact yh e|exact yk e|exact xc (fun e=>by first|(cases e;rfl)|exact yg e|exact yh e|exact yk e) (fun e=>by cases e) e)
theorem zkc(st x lo hi mx):yN (vi st x lo hi mx):=by
 intro call t h h' v h2 e _;unfold vi at e ⊢;split at e
 .grind[zjT]
 ·(try simp only[*]);exact xc zfh zll e
 cases e
theorem zke(n x y):yN (vn n x y):=by
 intro call t h h' v h2 e _
 grind[vn]
theorem zha(l st x lo hi mx):yN (wR l st x lo hi mx):=by
 intro call t h h' v h2 e _
 grind[wR,zfh]
theorem zo9(x):yN (zeh x):=by
 intro call t h h' v h2 e hs;unfold zeh at e ⊢;split at e
 .grind
 .rename_i b o hx;rcases hb:h.t.get b with _|ob
  .grind
  rw[hb]at e;rw[hs b ob hb];cases ob<;>grind
 cases e
theorem zo7(u n x):yN (zeg u n x):=by
 intro call t h h' v h2 e hs;unfold zeg at e ⊢;split at e
 .grind
 .rename_i b o hx;refine xc (fun e=>?_) (fun e=>by cases e) e;rcases hb:h.t.get b with _|ob
  .grind
  rw[hb]at e;rw[hs b ob hb];cases ob<;>grind
 cases e
theorem zpl{n:Option Nat}{h h' h2:Za}{off:Nat}{o:Zf}{v:Zb}(e:loadAt n h off (some o)=some (v,h2)):loadAt n h' off (some o)=some (v,h'):=by
 cases o with
 |cells cs st=>exact yk (e:part n cs off h=some (v,h2))
 |tcells cs ty var=>exact yk (e:part n cs off h=some (v,h2))
 |ro x f=>have e:zfr n f off h=some (v,h2):=e;show zfr n f off h'=some (v,h');unfold zfr at e ⊢;cases n<;>grind[yg,yh]
 |_=>cases e
theorem zt3{h h' h2:Za}{c:Option (List Zc)}{v:Zb}(e:zba h c=some (v,h2)):zba h' c=some (v,h'):=by
 unfold zba at e ⊢
 (repeat' split at e)<;>first|(cases e;done)|(cases e;rfl)
theorem zpf(x):yN (qv x):=by
 intro call t h h' v h2 e hs;unfold qv at e ⊢;split at e
 .grind
 .rename_i b off len cap ex hx;rcases hb:h.t.get b with _|o
  .grind
  rw[hb]at e;rw[hs b o hb];cases o<;>grind[zt3]
 cases e
theorem zmp(n x):yN (u7 n x):=by
 intro call t h h' v h2 e hs;unfold u7 at e ⊢;split at e
 .rename_i b off hx
  try simp only[hx]
  rcases hb:h.t.get b with _|o
  .rw[hb]at e;cases e
  rw[hb]at e;rw[hs b o hb];exact zpl e
 .exact xc yg (fun e=>by cases e) e
 cases e
theorem zrN{h h':Za}(hs:Sbh h h'){m:Zb}{es:List (SVal×SVal)}(e:mapOf h m=some es):mapOf h' m=some es:=by
 unfold mapOf at e ⊢;split at e
 .exact e
 .rename_i b;split at e
  .rename_i es' hb;rw[hs b _ hb];exact e
  cases e
 cases e
theorem zhc(q z ok m k):yN (wz q z ok m k):=by
 intro call t h h' v h2 e hs
 grind[wz,zrN]
theorem zmr(x):yN (kj x):=by
 intro call t h h' v h2 e hs;unfold kj at e ⊢;split at e
 .grind
 .rename_i b hx
  try rw[hx]
  try simp only
  split at e
  .rename_i es hb;rw[hs b _ hb]
   grind
  cases e
 cases e
theorem zpe(P:Program)(o:Op)(hq:yv P o=true):yN (cOp P o):=by
 cases o with
 |move x=>exact ziN zhb
 |assign x=>exact ziN zhb
 |pick c x y=>exact zt fun _=>zt fun _=>zt fun _=>yJ (zml _ _ _)
 |build t parts=>
  unfold cOp;simp only;split
  .exact xt (zt fun _=>yJ (zdh _ _)) zM
  .grind[zt,zdh,zM,zD]
  exact zM
 |load t x=>exact zt fun _=>zt fun _=>yJ (zmp _ _)
 |nilCheck x=>exact zt fun _=>yJ (zkf _)
 |binOp op t x y u=>
  unfold cOp;simp only;split
  .grind[zt,zkd,zpd,zD]
  .grind[zt,zo8,zD]
  .grind[zt,zmm,zM,zD]
  .refine xt ?_ zM
   grind[zt,zke,zM,zD]
  .grind[zt,zmn,zM,zD]
  .refine xt zM ?_
   grind[zt,zrH,zM,zD]
  exact zM
 |unOp u t x=>
  cases u with
  |not=>exact zt fun _=>yJ (zpa _)
  |neg=>exact zt fun _=>yJ (zpb _)
  |_=>exact zM
 |convert a b x=>
  unfold cOp;simp only;split
  .grind[zt,zmu,zD]
  .grind[yv,zmS,zeA]
  .exact xt (zt fun _=>yJ (zpf _)) zM
  .exact xt (zt fun _=>yJ (zo9 _)) zM
  .exact xt (zt fun _=>yJ (zo7 _ _ _)) zM
  exact zM
 |makeFunc f first captured=>
  cases f with
  |func f=>exact xt (zt fun _=>yJ (zmo _ _)) zM
  |_=>exact zM
 |slice t x lo hi mx=>
  unfold cOp;simp only;split
  .split
   .exact xt zM (zt fun _=>zt fun _=>zt fun _=>zt fun _=>yJ (zkc _ _ _ _ _))
   exact zM
  .split
   .exact xt zM (zt fun _=>zt fun _=>zt fun _=>zt fun _=>yJ (zha _ _ _ _ _ _))
   exact zM
  .exact xt zM (zt fun _=>zt fun _=>zt fun _=>yJ (zg9 _ _ _))
  exact zM
 |fieldAddr t x f=>
  unfold cOp;simp only;split
  .split
   .split
    .exact xt zM (zt fun _=>yJ (zmt _ _))
    exact zM
   exact zM
  exact zM
 |field t x f=>
  unfold cOp
  grind[zt,zkj,zM,zD]
 |indexAddr t x i=>
  unfold cOp
  grind[zt,zpc,zM,zkh,zD]
 |index t x i=>unfold cOp;simp only;split<;>grind[zt,zki,zM,zkg,zD]
 |lookup t m k ok=>
  unfold cOp
  grind[zt,zhc,zM,zD]
 |extract x i=>exact zt fun _=>yJ (zfC _ _)
 |call c=>
  obtain⟨callee,args,ts⟩:=c;cases callee with
  |builtin b=>
   cases b with
   |len=>grind[cOp,zt,zmq,zms,zmr,zhb,zM,zD]
   |max=>grind[cOp,zbV,zM,zD]
   |min=>grind[cOp,zbV,zM,zD]
   |_=>cases hq
  |_=>cases hq
 |_=>cases hq
section
variable {P:Program} {t:Tr Zb} {call:zc}
def zs5(f:zcP)(call:zc)(t:Tr Zb)(nt:Nat):Prop:=∃(obj:Zf) (vf:BN->Zc),(∀hh:Za,f call t hh=some (.s (.one (vf hh.n)),hh.new obj))/\
 (∀(φ φ':Phi) b b',φ b=φ' b'->zf φ (vf b)=zf φ' (vf b'))/\(∀φ n b,okB φ n b->wfC φ n (vf b))/\∀φ n arr,Zh φ nt n t arr->OWf φ n obj
theorem zbg(hh:Za)(o:Zf)(g:BN->Zc):zcI hh o g=some (.s (.one (g hh.n)),hh.new o):=by rfl
theorem zbt(φ φ':Phi)(b b':BN)(h:φ b=φ' b'):zf φ (.ptr b 0)=zf φ' (.ptr b' 0):=by grind[zf,adr]
theorem zfj(l c:Nat)(φ φ':Phi)(b b':BN)(h:φ b=φ' b'):zf φ (.slc b 0 l c true)=zf φ' (.slc b' 0 l c true):=by grind[zf,adr]
theorem zbL{α:Type}{a:Option α}{g:α->Option zcP}{h h2:Za}{v:Zb}(e:zD (a >>= g) call t h=some (v,h2)):∃x,a=some x/\zD (g x) call t h=some (v,h2):=by
 cases a
 case some=>grind
 cases e
theorem ziO{nt:Nat}{o:Op}(hm:j6 o=true){h h2:Za}{v:Zb}(e:cOp P o call t h=some (v,h2)):zs5 (cOp P o) call t nt:=by
 cases o with
 |alloc ty=>
  rcases hz:yb P ty with _|z
  .simp only[cOp,hz]at e;cases hb:qD P ty<;>rw[hb]at e<;>cases e
  cases hb:qD P ty
  .refine⟨.cells z.cells 0,fun b=>.ptr b 0,fun hh=>?_,zbt,fun φ n b hb=>hb,fun φ n arr _=>?_⟩
   .simp_all[cOp,zbT,zbg,zD]
   obtain⟨_,_,_,_,_,hwz⟩:=yH (φ:=φ) hz;exact fun c hc=>yX (Yzn _) (hwz c hc)
  refine⟨.tcells z.cells ty true,fun b=>.ptr b 0,fun hh=>?_,zbt,fun φ n b hb=>hb,fun φ n arr _=>?_⟩
  .simp_all[cOp,zbf,zbg,zD]
  obtain⟨_,_,_,_,_,hwz⟩:=yH (φ:=φ) hz;exact fun c hc=>yX (Yzn _) (hwz c hc)
 |box ty x=>
  rcases hx:zO x with _|f
  .simp only[cOp,hx]at e;cases e
  simp only[cOp,hx]at e;have e:zei f call t h=some (v,h2):=e;unfold zei at e;split at e
  .rename_i u hu;refine⟨.cells u.cells 0,fun b=>.ptr b 0,fun hh=>?_,zbt,fun φ n b hb=>hb,fun φ n arr T=>?_⟩
   .simp_all[cOp,zei,zbg,zD]
   have:=(zi (a:=⟨arr,[]⟩) T hx).2;rw[hu]at this;exact w8 this
  cases e
 |buildSlice ty len parts=>
  simp only[cOp]at e;split at e
  .rename_i el hu;split at e
   .rename_i i hi;cases hle:Nat.ble (len*i.size) 16777216
    .rw[hle]at e;cases e
    rw[hle]at e;simp only[Yza]at e;split at e
    .rename_i zs hzs;cases hq:Nat.beq (len*i.size) 0||Nat.beq zs.length i.size
     .rw[hq]at e;cases e
     rw[hq]at e;simp only[Yza]at e;obtain⟨r,hr,e⟩:=zbL e;have e:wS i.size len (v8 zs len) r call t h=some (v,h2):=e;unfold wS at e;split at e
     .rename_i cs hc;refine⟨.cells cs i.size,fun b=>.slc b 0 len len true,fun hh=>?_,zfj len len,fun φ n b hb=>⟨hb,(fun hh=>by cases hh),fun _=>LzB _⟩,fun φ n arr T=>?_⟩
      .simp only[cOp,hu,hi,hle,Yza,hzs,hq,hr];simp_all[wS,zbg,zD]
      have T':Zh φ nt (Za.n ⟨bn n,.nil⟩).toNat t (Act.tmps ⟨arr,[]⟩):=by grind[zF]
      obtain⟨hp,hw⟩:=xM T' i.size hr;have hwz:∀c∈v8 zs len,wfC φ (Za.n ⟨bn n,.nil⟩).toNat c:=by
       refine kG (fun c hc=>?_) len;cases h0:Nat.beq (len*i.size) 0
       case true=>grind
       rw[h0]at hzs;simp only[Yzc]at hzs;rcases hz:yb P el with _|z
       .grind
       rw[hz]at hzs;cases hzs;obtain⟨_,_,_,_,_,hwz⟩:=yH (φ:=φ) hz;exact yX (Yzn _) (hwz c hc)
      have hf:=(ut hp hwz hw hc).2.1;intro c hc;have:=hf c hc
      rwa [show (Za.n ⟨bn n,.nil⟩).toNat=n from zF n]at this
     cases e
    cases e
   cases e
  cases e
 |makeMap ty r=>
  cases r
  case some=>cases e
  refine⟨.map [],fun b=>.map b,fun hh=>?_,fun φ φ' b b' h=>by grind[zf],fun φ n b hb=>hb,fun φ n arr _ p hp=>by cases hp⟩;rfl
 |makeSlice ty l c=>
  simp only[cOp]at e;split at e
  .rename_i el hu;split at e
   .rename_i i z hi hz;cases hq:Nat.beq z.cells.length i.size && !Nat.beq i.size 0
    .rw[hq]at e;cases e
    rw[hq]at e;simp only[Yza]at e;obtain⟨fl,hl,e⟩:=zbL e;obtain⟨fc,hc,e⟩:=zbL e;have e:xK i.size z.cells i.bytes fl fc call t h=some (v,h2):=e;unfold xK at e;split at e
    .rename_i x y hx hy;cases hb:Nat.ble x y&&Nat.ble y 1073741824&&Nat.ble (i.bytes*y) 281474976710656
     .grind
     obtain⟨hb1,_⟩:=ue hb;obtain⟨hb1,_⟩:=ue hb1;refine⟨.cells (v8 z.cells y) i.size,fun b=>.slc b 0 x y true,fun hh=>?_,zfj x y,fun φ n b hb=>⟨hb,(fun hh=>by cases hh),fun _=>zY hb1⟩,fun φ n arr T=>?_⟩
     .simp only[cOp,hu,hi,hz,hq,Yza,hl,hc];show xK i.size z.cells i.bytes fl fc call t hh=_;unfold xK;rw[hx,hy];simp only[hb,Yza];rfl
     obtain⟨_,_,_,_,_,hwz⟩:=yH (φ:=φ) hz;exact kG (fun c hc=>yX (Yzn _) (hwz c hc)) y
    cases e
   cases e
  cases e
 |_=>cases hm
end
end Go.CE
end
noncomputable section
namespace Go.CE
open Go.RowKit
def gdv(g:GE):Option BN×Zb:=(g.d.rop.dst,g.v)
def hAt:Za->List GE->Nat->Za
 |h,_,0=>h
 |h,[],_+1=>h
 |_,g::l,j+1=>hAt g.ha l j
theorem zeH:∀(l:List GE) (h:Za) (j:Nat) (g:GE),l[j]? = some g->hAt h l (j+1)=g.ha
 | [],_,j,g,hj=>by simp at hj
 |g0::l,h,0,g,hj=>by simp only[Yzf,Option.some.injEq]at hj;subst hj;cases l<;>rfl
 |g0::l,h,j+1,g,hj=>by simp only[Yzm]at hj;exact zeH l g0.ha j g hj
theorem zjb(call:zc)(n0:Nat):∀(ds:List Zn) (i:Nat) (t:Tr Zb) (h:Za) (l:List GE) (t2:Tr Zb) (h2:Za),evG call n0 i ds t h=some (l,t2,h2)->
  l.map (·.d)=ds/\t2=frL (fun _=>true) 0 (l.map gdv) t/\h2=hAt h l l.length/\
  ∀j g,l[j]? = some g->g.tr=uC (frL (fun k=>decide (k<j)) 0 (l.map gdv) t) g.d.looks/\g.hb=hAt h l j/\stepG call n0 (i+j) g.d g.tr g.hb=some (g.v,g.ha)
 | [],i,t,h,l,t2,h2,e=>by cases e;exact⟨rfl,rfl,rfl,fun j g hj=>by simp at hj⟩
 |d::ds,i,t,h,l,t2,h2,e=>by
  unfold evG at e;split at e
  .rename_i v0 h0 hv0;rcases hr:evG call n0 (Nat.succ i) ds (zbv t v0 d.rop.dst) h0 with _|p
   .rw[hr]at e;cases e
   obtain⟨l',t',h'⟩:=p;rw[hr]at e;simp only[zvn,Option.some.injEq,Prod.mk.injEq]at e;obtain⟨rfl,rfl,rfl⟩:=e;obtain⟨g1,g2,g3,g4⟩:=zjb call n0 ds _ _ _ l' _ _ hr;have hfr:∀(L:Nat->Bool),frL L 0 (((⟨d,uC t d.looks,v0,h,h0⟩:GE)::l').map gdv) t=frL (fun k=>L (k+1)) 0 (l'.map gdv) (bif L 0 then zbv t v0 d.rop.dst else t):=by grind[gdv,zi3,zcd]
   refine⟨by simp[g1],by grind,g3,?_⟩;intro j g hj;cases j with
   |zero=>
    simp only[Yzf,Option.some.injEq]at hj;subst hj;refine⟨?_,rfl,hv0⟩;rw[hfr];simp only[Nat.not_lt_zero,decide_false,Yzc]
    congr 1
    have:∀(r:List (Option BN×Zb)) (i:Nat) (t:Tr Zb),frL (fun _=>false) i r t=t:=by
     intro r
     induction r<;>grind[frL]
    grind
   |succ j=>simp only[Yzm]at hj;obtain⟨k1,k2,k3⟩:=g4 j g hj;refine⟨?_,k2,?_⟩<;>grind
  cases e
theorem zbk(es:List Bool):∀i,ce (fun _=>false) i es=0:=by induction es<;>grind[ce]
theorem znu(L:Nat->Bool)(e:Bool)(es:List Bool):ce L 0 (e::es)=(bif L 0&&e then 1 else 0)+ce (fun k=>L (k+1)) 0 es:=by grind[znv,zeX]
theorem zhl:∀(l:List GE) (j:Nat) (g:GE),l[j]? = some g->g.d.eff=true->(hsG l)[ce (fun k=>decide (k<j)) 0 (l.map (·.d.eff))]? = some g.ha
 | [],j,g,hj,_=>by simp at hj
 |g0::l,0,g,hj,he=>by
  simp only[Yzf,Option.some.injEq]at hj;subst hj;have hz:ce (fun k=>decide (k<0)) 0 ((g0::l).map (·.d.eff))=0:=by rw[show (fun k=>decide (k<0))=(fun _:Nat=>false) from funext fun k=>by simp,zbk]
  grind[hsG]
 |g0::l,j+1,g,hj,he=>by
  simp only[Yzm]at hj;have ih:=zhl l j g hj he;simp only[Yzu];rw[znu];simp only[Nat.zero_lt_succ,decide_true,Yyc,Nat.succ_lt_succ_iff]
  grind[hsG]
theorem zps(g:GE)(l:List GE):hsG (g::l)=bif g.d.eff then g.ha::hsG l else hsG l:=rfl
def obG(n0:Nat)(l:List GE)(m:Nat):Option Zf:=
 match l[m]? with
 |some g=>bif g.d.mkb then g.ha.t.get (nm n0 m) else none
 |none=>none
def cmG(l:List GE)(m:Nat):Nat:=ce (fun k=>decide (k<m)) 0 (l.map (·.d.eff))
theorem zeT(l:List GE):cmG l 0=0:=by unfold cmG;rw[show (fun k=>decide (k<0))=(fun _:Nat=>false) from funext fun k=>by simp,zbk]
theorem zeU(g:GE)(l:List GE)(m:Nat):cmG (g::l) (m+1)=(bif g.d.eff then 1 else 0)+cmG l m:=by grind[cmG,znu]
theorem zem{n0:Nat}:∀(l:List GE) (c i:Nat) (x:Nat×Nat×Zf),(∀g∈l,g.d.mkb=true->g.d.eff=false)->x∈zgx n0 c i l->
  ∃m,x.2.1=i+m/\(∃g,l[m]? = some g/\g.d.mkb=true/\g.ha.t.get (nm n0 (i+m))=some x.2.2)/\x.1=c+cmG l m
 | [],c,i,x,_,hx=>by cases hx
 |g::l,c,i,x,hall,hx=>by
  have step:∀c',x∈zgx n0 c' (Nat.succ i) l->c'=c+(bif g.d.eff then 1 else 0)->∃m,x.2.1=i+m/\(∃g',(g::l)[m]? = some g'/\g'.d.mkb=true/\g'.ha.t.get (nm n0 (i+m))=some x.2.2)/\x.1=c+cmG (g::l) m:=by
   intro c' hx' hc;obtain⟨m,k1,⟨g',k2,k3,k4⟩,k5⟩:=zem l c' (Nat.succ i) x (fun g' hg'=>hall g' (by simp[hg'])) hx';refine⟨m+1,by omega,⟨g',by trivial,k3,by grind⟩,?_⟩
   grind[zeU]
  unfold zgx at hx;cases hm:g.d.mkb
  .grind
  have he:=hall g (by simp) hm;rw[hm]at hx;simp only[Yza]at hx;split at hx
  .rename_i o ho;rcases Yzv.1 hx with rfl|hx
   .exact⟨0,rfl,⟨g,rfl,hm,ho⟩,by rw[zeT];rfl⟩
   grind
  grind
theorem zcb{n0 k:Nat}:∀(l:List (Nat×Nat×Zf)) (t:Tr Zf) (b:BN),(kQ n0 k l t).get b=t.get b\/∃x∈l,k<=x.1/\b=nm n0 x.2.1/\(kQ n0 k l t).get b=some x.2.2
 | [],t,b=>.inl rfl
 |(c,j,o)::l,t,b=>by
  unfold kQ;rcases zcb l (bif Nat.ble k c then t.set (bn (Nat.add n0 j)) o else t) b with h|⟨x,hx,h1,h2,h3⟩
  .rw[h];cases hk:Nat.ble k c
   .simp
   simp only[Yza];by_cases hb:b=bn (Nat.add n0 j)
   .subst hb;exact .inr ⟨(c,j,o),by simp,zY hk,rfl,zq _ _ _⟩
   grind[zl]
  grind
end Go.CE
end
section
namespace Go.CE
open Go.RowKit
theorem zeF:∀(l:List GE) (k:Nat) (h:Za),(hsG l)[k]? = some h->∃j g,l[j]? = some g/\g.d.eff=true/\cmG l j=k/\g.ha=h
 | [],k,h,e=>by trivial
 |g::l,k,h,e=>by
  rw[zps]at e;cases he:g.d.eff
  .rw[he]at e;obtain⟨j,g',k1,k2,k3,k4⟩:=zeF l k h e;exact⟨j+1,g',by trivial,k2,by grind[zeU],k4⟩
  rw[he]at e;simp only[Yza]at e;cases k with
  |zero=>simp only[Yzf,Option.some.injEq]at e;exact⟨0,g,rfl,he,zeT _,e⟩
  |succ k=>simp only[Yzm]at e;obtain⟨j,g',k1,k2,k3,k4⟩:=zeF l k h e;exact⟨j+1,g',by trivial,k2,by grind[zeU],k4⟩
theorem ul{bs:List Nat}{i:Nat}:∀(os:List Oper) (off j':Nat),j'∈yp bs i off os↔∃j o,os[j]? = some o/\j'=off+j/\(j6 o.op&&bef bs (off+j) i)=false
 | [],off,j'=>by simp[yp]
 |o::os,off,j'=>by
  have ih:=ul (bs:=bs) (i:=i) os (Nat.succ off) j';have tail:(∃j o',os[j]? = some o'/\j'=Nat.succ off+j/\(j6 o'.op&&bef bs (Nat.succ off+j) i)=false)↔∃j o',(o::os)[j+1]? = some o'/\j'=off+(j+1)/\(j6 o'.op&&bef bs (off+(j+1)) i)=false:=by grind
  unfold yp;cases hq:j6 o.op&&bef bs off i
  case true=>grind
  simp only[Yzc,Yzv];rw[ih,tail]
  constructor
  .rintro (rfl|⟨j,o',h1,h2,h3⟩)<;>grind
  grind
theorem zaZ(P:Program)(nt:Nat)(ops:Array Oper)(bs:List Nat)(es:List Bool):∀(os:List Oper) (i j:Nat),(y0 P nt ops bs es i os)[j]? = (os[j]?).map fun o=>
  (⟨yF P nt ops o,(o.looksAt ops).map bn,anchor P o.op,j6 o.op,ce (fun k=>bef bs k (i+j)) 0 es,ce (fun k=>!bef bs (i+j) k) 0 es,yp bs (i+j) 0 ops.toList⟩:Zn)
 | [],i,j=>by simp[y0]
 |o::os,i,0=>by simp[y0]
 |o::os,i,j+1=>by simp only[y0,Yzm];rw[zaZ P nt ops bs es os (Nat.succ i) j,show Nat.succ i+j=i+(j+1) by omega]
structure Spc (n0 N:Nat) (l:List GE) (L:Nat->Bool) (k:Nat) (Hk H:Za):Prop where
 n:H.n.toNat=Hk.n.toNat
 old:∀b:BN,(b.toNat<n0\/n0+N<=b.toNat)->H.t.get b=Hk.t.get b
 res:∀m,m<N->H.t.get (nm n0 m)=if L m=true then(if k<=cmG l m then obG n0 l m else Hk.t.get (nm n0 m)) else none
noncomputable abbrev FG(n0:Nat)(l:List GE)(k:Nat)(Hk:Za)(m:Nat):Option Zf:=if k<=cmG l m then obG n0 l m else Hk.t.get (nm n0 m)
theorem zdg(n0 N:Nat)(b:BN):(b.toNat<n0\/n0+N<=b.toNat)\/∃m,m<N/\b=nm n0 m:=by
 by_cases h:b.toNat<n0\/n0+N<=b.toNat
 .omega
 exact .inr ⟨b.toNat-n0,by omega,zw1 (by omega)⟩
section
variable {P:Program} {nt:Nat} {call:zc} {ops:Array Oper} {n0:Nat} {t t2:Tr Zb} {h0 h2:Za} {l:List GE}
structure Txt (P:Program) (nt:Nat) (call:zc) (ops:Array Oper) (n0:Nat) (t t2:Tr Zb) (h0 h2:Za) (l:List GE):Prop where
 len:l.length=ops.size
 es:l.map (·.d.eff)=jG P ops.toList
 ent:∀(j:Nat) (o:Oper),ops[j]? = some o->∃g,l[j]? = some g/\g.d=⟨yF P nt ops o,(o.looksAt ops).map bn,anchor P o.op,j6 o.op,ce (fun k=>bef (y5 ops.toList) k j) 0 (jG P ops.toList),ce (fun k=>!bef (y5 ops.toList) j k) 0 (jG P ops.toList),yp (y5 ops.toList) j 0 ops.toList⟩
 fr:t2=frL (fun _=>true) 0 (l.map gdv) t
 fin:h2=hAt h0 l ops.size
 step:∀j g,l[j]? = some g->g.tr=uC (frL (fun k=>decide (k<j)) 0 (l.map gdv) t) g.d.looks/\g.hb=hAt h0 l j/\stepG call n0 j g.d g.tr g.hb=some (g.v,g.ha)
 fresh:∀m,m<ops.size->h0.t.get (nm n0 m)=none
theorem ztA(e:evG call n0 0 (vJ P nt ops) t h0=some (l,t2,h2))(hf:∀m,m<ops.size->h0.t.get (nm n0 m)=none):Txt P nt call ops n0 t t2 h0 h2 l:=by
 obtain⟨g1,g2,g3,g4⟩:=zjb call n0 _ _ _ _ _ _ _ e;have hget:∀(j:Nat) (o:Oper),ops[j]? = some o->(vJ P nt ops)[j]? = some ⟨yF P nt ops o,(o.looksAt ops).map bn,anchor P o.op,j6 o.op,ce (fun k=>bef (y5 ops.toList) k j) 0 (jG P ops.toList),ce (fun k=>!bef (y5 ops.toList) j k) 0 (jG P ops.toList),yp (y5 ops.toList) j 0 ops.toList⟩:=by grind[vJ,zaZ]
 have hlen:(vJ P nt ops).length=ops.size:=by
  have key:∀(os:List Oper) (i:Nat),(y0 P nt ops (y5 ops.toList) (jG P ops.toList) i os).length=os.length:=by
   intro os
   induction os<;>grind[y0]
  grind[vJ]
 have hll:l.length=ops.size:=by grind
 refine⟨hll,?_,fun j o ho=>?_,g2,by grind,fun j g hj=>by grind,hf⟩
 .rw[show (fun x:GE=>x.d.eff)=Zn.eff ∘ GE.d from rfl,<-List.map_map,g1];have key:∀(os:List Oper) (i:Nat),(y0 P nt ops (y5 ops.toList) (jG P ops.toList) i os).map Zn.eff=jG P os:=by
   intro os
   induction os with
   |nil=>intro i;rfl
   |cons o os ih=>intro i;simp only[y0,Yzu,ih];rfl
  exact key _ _
 grind
theorem zao{φ:Phi}{n:Nat}{tr:Tr Zb}{h h2:Za}{a:Act}{v:Zb}{o:Oper}(e:xw call (yF P nt ops o) tr h=some (v,h2))(T:Zh φ nt n tr a.tmps):
  (Region.wanted o (yielded ops a.tmps)=true/\cOp P o.op call tr h=some (v,h2))\/(Region.wanted o (yielded ops a.tmps)=false/\v=zP/\h2=h):=by
 have key:∀hh:Za,hh.n.toNat=n->xw call (yF P nt ops o) tr ⟨hh.n,h.t⟩=xw call (yF P nt ops o) tr ⟨hh.n,h.t⟩->True:=fun _ _ _=>trivial;unfold yF at e;have bad:∀{o':Zm},o'=⟨none,yR,none⟩->xw call o' tr h=some (v,h2)->False:=by intro o' ho' e;subst ho';cases e
 cases hd:inT nt o.dst
 .grind
 rw[hd]at e;simp only[Yza]at e;have fin:∀g,xw call ⟨o.dst.map bn,cOp P o.op,g⟩ tr h=some (v,h2)->(want tr g=true/\cOp P o.op call tr h=some (v,h2))\/(want tr g=false/\v=zP/\h2=h):=by grind[xw]
 split at e
 .rename_i hg;rcases fin none e with hh|⟨hw,_⟩
  .grind[Region.wanted]
  cases hw
 rename_i j b hg;split at e
 .rename_i d hjd;cases hb:Nat.ble (Nat.succ d) nt
  .grind
  rw[hb]at e;have T':Zh φ nt (Za.n ⟨bn n,.nil⟩).toNat tr a.tmps:=by grind[zF]
  have hyd:=q7 T' hjd (zY hb) b
  grind[Region.wanted]
 trivial
theorem zpH{tr:Tr Zb}{h h2:Za}{v:Zb}{o:Oper}(e:xw call (yF P nt ops o) tr h=some (v,h2)):cOp P o.op call tr h=some (v,h2)\/(v=zP/\h2=h):=by
 unfold yF at e;have fin:∀(d:Option BN) (f:zcP) g,xw call ⟨d,f,g⟩ tr h=some (v,h2)->f call tr h=some (v,h2)\/(v=zP/\h2=h):=by grind[xw]
 have bad:∀(g:Option (BN×Bool)),xw call ⟨none,yR,none⟩ tr h=some (v,h2)->False:=fun _ e=>by cases e
 cases hd:inT nt o.dst
 .simp_all
 rw[hd]at e;simp only[Yza]at e;split at e
 .grind
 split at e
 .rename_i d _;cases hb:Nat.ble (Nat.succ d) nt
  case true=>grind
  simp_all
 trivial
theorem wT{o:Op}(h:j6 o=true):anchor P o=false:=by simp[anchor,h]
theorem zmI(P:Program)(o:Op):j6 o=true\/(j6 o=false/\anchor P o=true)\/(j6 o=false/\anchor P o=false/\yv P o=true):=by
 cases hm:j6 o
 case true=>simp
 cases hq:yv P o
 case true=>simp
 exact .inr (.inl ⟨rfl,by grind[anchor]⟩)
theorem Txt.made(X:Txt P nt call ops n0 t t2 h0 h2 l){j:Nat}{o:Oper}{g:GE}(ho:ops[j]? = some o)(hg:l[j]? = some g)(hm:j6 o.op=true):
  g.ha.n=g.hb.n/\(∀b,b≠nm n0 j->g.ha.t.get b=g.hb.t.get b)/\∃h',xw call (yF P nt ops o) g.tr ⟨nm n0 j,g.hb.t⟩=some (g.v,h')/\h'.t=g.ha.t:=by
 obtain⟨g',hg',hd⟩:=X.ent j o ho;cases hg.symm.trans hg';obtain⟨_,_,hs⟩:=X.step j g hg;unfold stepG at hs;rw[hd]at hs;simp only[hm,Yza]at hs;split at hs
 .rename_i v h' he;simp only[Option.some.injEq,Prod.mk.injEq]at hs;obtain⟨rfl,hs⟩:=hs;rw[<-hs];refine⟨rfl,fun b hb=>?_,h',he,rfl⟩;rcases zpH he with hc|⟨_,rfl⟩
  .obtain⟨obj,vf,hsh,_⟩:=ziO (nt:=nt) hm hc;have:=hsh ⟨nm n0 j,g.hb.t⟩;rw[hc]at this;simp only[Option.some.injEq,Prod.mk.injEq]at this;rw[this.2];exact zl _ _ _ _ hb
  rfl
 cases hs
theorem Txt.quiet(X:Txt P nt call ops n0 t t2 h0 h2 l){j:Nat}{o:Oper}{g:GE}(ho:ops[j]? = some o)(hg:l[j]? = some g)(hm:j6 o.op=false)(ha:anchor P o.op=false):
  g.ha=g.hb/\∃h',xw call (yF P nt ops o) g.tr ⟨g.hb.n,zar n0 (yp (y5 ops.toList) j 0 ops.toList) g.hb.t⟩=some (g.v,h'):=by
 obtain⟨g',hg',hd⟩:=X.ent j o ho;cases hg.symm.trans hg';obtain⟨_,_,hs⟩:=X.step j g hg
 grind[stepG]
theorem Txt.anchor(X:Txt P nt call ops n0 t t2 h0 h2 l){j:Nat}{o:Oper}{g:GE}(ho:ops[j]? = some o)(hg:l[j]? = some g)(hm:j6 o.op=false)(ha:anchor P o.op=true):
  ∃h',xw call (yF P nt ops o) g.tr ⟨g.hb.n,zar n0 (yp (y5 ops.toList) j 0 ops.toList) g.hb.t⟩=some (g.v,h')/\g.ha.n=h'.n/\(∀i∈yp (y5 ops.toList) j 0 ops.toList,g.ha.t.get (nm n0 i)=g.hb.t.get (nm n0 i)/\h'.t.get (nm n0 i)=none)/\
   ∀b,(∀i∈yp (y5 ops.toList) j 0 ops.toList,b≠nm n0 i)->g.ha.t.get b=h'.t.get b:=by
 obtain⟨g',hg',hd⟩:=X.ent j o ho;cases hg.symm.trans hg';obtain⟨_,_,hs⟩:=X.step j g hg;unfold stepG at hs;rw[hd]at hs;simp only[hm,ha,Yzc,Yza]at hs;split at hs
 .rename_i v h' he;split at hs
  .rename_i t' ht;simp only[Option.some.injEq,Prod.mk.injEq]at hs;obtain⟨rfl,hs⟩:=hs
   grind[jV]
  cases hs
 cases hs
theorem Txt.mkeff(X:Txt P nt call ops n0 t t2 h0 h2 l):∀g∈l,g.d.mkb=true->g.d.eff=false:=by
 intro g hg hm;obtain⟨j,hj⟩:=List.mem_iff_getElem?.1 hg;have hjl:j<ops.size:=by rw[<-X.len];grind
 obtain⟨g',hg',hd⟩:=X.ent j _ (YzA hjl)
 grind[wT]
theorem Txt.ob(X:Txt P nt call ops n0 t t2 h0 h2 l){j:Nat}{o:Oper}{g:GE}(ho:ops[j]? = some o)(hg:l[j]? = some g):obG n0 l j=bif j6 o.op then g.ha.t.get (nm n0 j) else none:=by
 obtain⟨g',hg',hd⟩:=X.ent j o ho
 grind[obG]
theorem Txt.spc(X:Txt P nt call ops n0 t t2 h0 h2 l)(hA:∀(i:Nat) (o:Oper),ops[i]? = some o->∀e∈o.after.toList,Region.binds .any e=true->e.on<i):
  ∀j,j<=ops.size->∃Hk,(h0::hsG l)[cmG l j]? = some Hk/\Spc n0 ops.size l (fun m=>decide (m<j)) (cmG l j) Hk (hAt h0 l j):=by
 have hbef:∀i j,bef (y5 ops.toList) i j=true->i<j:=by
  intro i j hb;have hC:Clo ops (fun k=>decide (k<j)):=by
   intro q hq o' e ho' he hb'
   grind
  grind[Rdy,wY]
 intro j
 induction j with
 |zero=>
  intro _;have e0:hAt h0 l 0=h0:=by cases l<;>rfl
  rw[e0,zeT];refine⟨h0,rfl,rfl,fun _ _=>rfl,fun m hm=>?_⟩;rw[Yzb (by simp)];exact X.fresh m hm
 |succ j ih=>
  intro hj;obtain⟨Hk,hHk,S⟩:=ih (by omega);have hjs:j<ops.size:=by omega
  have ho:ops[j]? = some ops[j]:=YzA hjs;generalize ops[j]=o at ho;obtain⟨g,hg,hd⟩:=X.ent j o ho;have hhb:=(X.step j g hg).2.1;have hha:hAt h0 l (j+1)=g.ha:=zeH l h0 j g hg;have heff:(l.map (·.d.eff))[j]? = some (CE.anchor P o.op):=by grind
  have hcm:cmG l (j+1)=cmG l j+(bif CE.anchor P o.op then 1 else 0):=by
   cases ha:CE.anchor P o.op
   .rw[Yzc,Yzy];refine wB _ 0 fun k hk=>?_
    grind
   rw[Yza];exact zf8 _ 0 j (by grind) (by simp) (by simp) (fun k hk=>by grind)
  rw[hha];rcases zmI P o.op with hm|⟨hm,ha⟩|⟨hm,ha,_⟩
  ·
   obtain⟨k1,k2,h',k3,k4⟩:=X.made ho hg hm;rw[hcm,wT hm,Yzc,Yzy];refine⟨Hk,hHk,by rw[k1,hhb];exact S.n,fun b hb=>?_,fun m hmN=>?_⟩
   .rw[k2 b (fun hh=>by grind[yw]),hhb];exact S.old b hb
   by_cases hmj:m=j
   .subst hmj;rw[Yzd (by simp),Yzd (LzB _),X.ob ho hg,hm];rfl
   rw[k2 _ (fun hh=>hmj (vT hh)),hhb,S.res m hmN]
   grind
  ·
   obtain⟨h',k1,k2,k3,k4⟩:=X.anchor ho hg hm ha;rw[hcm,ha,Yza];refine⟨g.ha,?_,rfl,fun _ _=>rfl,fun m hmN=>?_⟩
   .rw[Yzm];exact zhl l j g hg (by grind)
   by_cases hlt:m<j+1
   .rw[Yzd (by grind),Yzb]
    grind[cmG,wn]
   rw[Yzb (by grind)];have hmem:m∈yp (y5 ops.toList) j 0 ops.toList:=by grind[ul]
   rw[(k3 m hmem).1,hhb,S.res m hmN,Yzb (show ¬decide (m<j)=true by grind)]
  obtain⟨k1,_⟩:=X.quiet ho hg hm ha;rw[hcm,ha,Yzc,Yzy,k1,hhb];refine⟨Hk,hHk,S.n,S.old,fun m hmN=>?_⟩;rw[S.res m hmN];by_cases hmj:m=j
  .subst hmj;rw[Yzb (show ¬decide (m<m)=true by simp),Yzd (show decide (m<m+1)=true by simp),Yzd (LzB _),X.ob ho hg,hm];rfl
  grind
end
end Go.CE
end
section
namespace Go.CE
open Go.RowKit
section
variable {P:Program} {w0:World} {S:Nat->Prop} {nt:Nat} {call:zc} {ops:Array Oper}
theorem zfX(hok:uP P ops (y5 ops.toList)=true):(∀(i:Nat) (o:Oper),ops[i]? = some o->(∀cs b,o.op≠.select cs b)/\∀e∈o.after.toList,Region.binds .any e=true->e.on<i)/\
  ∀(i j:Nat) (oi oj:Oper),ops[i]? = some oi->ops[j]? = some oj->i<j->bef (y5 ops.toList) i j=true\/(oi.apart ops oj=true/\(anchor P oi.op=false\/anchor P oj.op=false)):=by
 obtain⟨h1,h2⟩:=ue hok
 constructor
 .intro i o ho;have:=vL _ 0 h1 i o (by grind);rw[Yzg]at this;obtain⟨g1,g2⟩:=ue this;refine⟨(fun cs b hh=>by rw[hh]at g1;cases g1),fun e he hb=>?_⟩;rw[YzI]at g2;have:=g2 e he;rw[hb]at this;exact zY (by trivial)
 intro i j oi oj hi hj hlt;have:=vL _ 0 h2 j oj (by grind);rw[Yzg]at this;have:=vL _ 0 this i oi (by grind);rw[Yzg]at this;simp only[YzB]at this
 grind[Yze]
theorem zc1{n0:Nat}{d:Zn}{tr:Tr Zb}{v:Zb}{mks:List (Nat×Nat×Zf)}:∀(hs:List Za) (c:Nat),zjY call n0 d tr v mks c hs=true->∀(k:Nat) (hk:Za),hs[k]? = some hk->
  ∃h',xw call d.rop tr ⟨hk.n,zar n0 d.hide (kQ n0 (c+k) mks hk.t)⟩=some (v,h')
 | [],_,_,k,hk,hh=>by simp at hh
 |h::hs,c,e,k,hk,hh=>by
  unfold zjY at e;split at e
  .rename_i v' h' hv;obtain⟨e1,e2⟩:=ue e;cases k with
   |zero=>simp only[Yzf,Option.some.injEq]at hh;subst hh;exact⟨h',by rw[Yzy,hv,zjf e1]⟩
   |succ k=>
    have:=zc1 hs (Nat.succ c) e2 k hk (by trivial)
    grind
  cases e
theorem zct{n0:Nat}{mks:List (Nat×Nat×Zf)}{hs:List Za}:∀(l:List GE),vY call n0 mks hs l=true->∀(j:Nat) (g:GE),l[j]? = some g->g.d.eff=false->g.d.mkb=false->
  g.d.lo=g.d.hi\/∀k hk,g.d.lo<=k->k<=g.d.hi->hs[k]? = some hk->∃h',xw call g.d.rop g.tr ⟨hk.n,zar n0 g.d.hide (kQ n0 k mks hk.t)⟩=some (g.v,h')
 | [],_,j,g,hj,_,_=>by simp at hj
 |g0::l,e,j,g,hj,hd,hm=>by
  obtain⟨e1,e2⟩:=ue e;cases j with
  |zero=>
   simp only[Yzf,Option.some.injEq]at hj;subst hj;rw[hd,hm]at e1;simp only[YzO,YzB]at e1;rcases e1 with e1|e1
   .simp_all
   refine .inr fun k hk h1 h2 h3=>?_;have:=zc1 _ _ e1 (k-g0.d.lo) hk (by grind)
   grind
  |succ j=>exact zct l e2 j g (by trivial) hd hm
set_option maxHeartbeats 1000000 in
theorem zkD(C:yQ P call){Q:Exit->Act->World->Prop}{a0:Act}{t t2:Tr Zb}{hh0 h0 h2:Za}{φ0:Phi}{l:List GE}{ro:Option Nat}{n0:Nat}
  (hok:uP P ops (y5 ops.toList)=true) (X:Txt P nt call ops n0 t t2 h0 h2 l) (hch:vY call n0 (zgx n0 0 0 l) (h0::hsG l) l=true) (hn0:hh0.n.toNat=n0) (hh0n:h0.n.toNat=n0+ops.size)
  (hQ:∀a2 w2,Next1 w0 S φ0 nt hh0 t2 h2 a0 a2 w2->Q .normal a2 w2):
  ∀(fuel:Nat) (listed:Array Bool) (φ:Phi) (a:Act) (w:World) (Hk H:Za),listed.size=ops.size->unl listed<=fuel->Clo ops (lst listed)->Ext n0 φ0 φ->
   (h0::hsG l)[ce (lst listed) 0 (jG P ops.toList)]? = some Hk->Spc n0 ops.size l (lst listed) (ce (lst listed) 0 (jG P ops.toList)) Hk H->Ze w0 S φ H w->n0+ops.size<=H.n.toNat->
   Zh φ nt H.n.toNat (frL (lst listed) 0 (l.map gdv) t) a.tmps->a.defers=a0.defers->(∀m,m<ops.size->lst listed m=false->(φ (nm n0 m)).ok=false)->
   wpAnyIn (FR ro) 0 P .any ops Q fuel listed a w:=by
 obtain⟨hA,hord⟩:=zfX hok;have hA':∀(i:Nat) (o:Oper),ops[i]? = some o->∀e∈o.after.toList,Region.binds .any e=true->e.on<i:=fun i o ho=>(hA i o ho).2;have hbef:∀i j,bef (y5 ops.toList) i j=true->i<j:=by
  intro i j hb;have hC:Clo ops (fun k=>decide (k<j)):=by
   intro q hq o' e ho' he hb'
   grind
  grind[Rdy,wY]
 have hspc:=X.spc hA';have hcmE:∀j,cmG l j=ce (fun k=>decide (k<j)) 0 (jG P ops.toList):=fun j=>by unfold cmG;rw[X.es]
 have hdst:∀(j:Nat) (o:Oper) (g:GE),ops[j]? = some o->l[j]? = some g->g.d.rop.dst=o.dst.map bn/\inT nt o.dst=true:=by
  intro j o g ho hj;obtain⟨g',hj',hd⟩:=X.ent j o ho;cases hj.symm.trans hj';rw[hd];rcases zmI P o.op with hm|⟨hm,ha⟩|⟨hm,ha,_⟩
  .obtain⟨_,_,h',he,_⟩:=X.made ho hj hm;exact qR he
  .obtain⟨h',he,_⟩:=X.anchor ho hj hm ha;exact qR he
  obtain⟨_,h',he⟩:=X.quiet ho hj hm ha;exact qR he
 have hdv:∀(j:Nat) (d:Option BN) (v:Zb) (s:BN),(l.map gdv)[j]? = some (d,v)->d=some s->∃o sn,ops[j]? = some o/\o.dst=some sn/\bn sn=s:=by
  intro j d v s hj hd;rw[Lz6]at hj;rcases hx:l[j]? with _|g
  .grind
  rw[hx]at hj;simp only[YzF,Option.some.injEq,gdv,Prod.mk.injEq]at hj;have hjl:j<ops.size:=by have:=(Lz0.1 hx).1;have:=X.len;omega
  have ho:ops[j]? = some ops[j]:=YzA hjl;have:=(hdst j _ g ho hx).1;simp_all
 have hes:∀(j:Nat),(jG P ops.toList)[j]? = some true->∃o,ops[j]? = some o/\anchor P o.op=true:=by grind[jG]
 have hes':∀(j:Nat) (o:Oper),ops[j]? = some o->(jG P ops.toList)[j]? = some (anchor P o.op):=by grind[jG]
 have hhid:∀(i m:Nat) (om:Oper),ops[m]? = some om->(m∈yp (y5 ops.toList) i 0 ops.toList↔(j6 om.op&&bef (y5 ops.toList) m i)=false):=by grind[ul]
 have hhidlt:∀(i m:Nat),m∈yp (y5 ops.toList) i 0 ops.toList->m<ops.size:=by grind[ul]
 have hFG:∀(j:Nat) (o:Oper) (g:GE) (Hk:Za) (m:Nat),ops[j]? = some o->l[j]? = some g->j6 o.op=false->anchor P o.op=true->(h0::hsG l)[cmG l j]? = some Hk->m∈yp (y5 ops.toList) j 0 ops.toList->
   FG n0 l (cmG l j+1) g.ha m=FG n0 l (cmG l j) Hk m:=by
  intro j o g Hk m ho hg hm ha hHk hmem;have hmN:=hhidlt j m hmem;obtain⟨h',k1,k2,k3,k4⟩:=X.anchor ho hg hm ha;have hjN:j<ops.size:=(Lz7.1 ho).1;obtain⟨Hk',hHk',Sp⟩:=hspc j (by omega);cases hHk.symm.trans hHk';have hhb:=(X.step j g hg).2.1;have hgm:g.ha.t.get (nm n0 m)=if decide (m<j)=true then FG n0 l (cmG l j) Hk m else none:=by rw[(k3 m hmem).1,hhb];exact Sp.res m hmN
  show (if cmG l j+1<=cmG l m then obG n0 l m else g.ha.t.get (nm n0 m))=if cmG l j<=cmG l m then obG n0 l m else Hk.t.get (nm n0 m)
  rcases Nat.lt_trichotomy m j with hmj|hmj|hmj
  .grind
  .subst hmj;rw[Yzb (by omega),hgm,Yzb (by simp),Yzd (LzB _),X.ob ho hg,hm];rfl
  have hle:cmG l j+1<=cmG l m:=by
   have h1:cmG l (j+1)=cmG l j+1:=by refine zf8 _ 0 j ?_ (by simp) (by simp) (fun k hk=>by grind);rw[X.es,hes' j o ho,ha]
   have h2:cmG l (j+1)<=cmG l m:=wn _ 0 fun k _ hk=>by grind
   omega
  grind
 have FGu:∀(k:Nat) (Hk:Za) (m:Nat),m<ops.size->(h0::hsG l)[k]? = some Hk->(∀(j:Nat) (oj:Oper),ops[j]? = some oj->anchor P oj.op=true->cmG l j<k->m∈yp (y5 ops.toList) j 0 ops.toList)->FG n0 l k Hk m=obG n0 l m:=by
  intro k
  induction k with
  |zero=>simp
  |succ k ih=>
   intro Hk m hmN hHk hall;rw[Yzm]at hHk;obtain⟨j,g,k1,k2,k3,k4⟩:=zeF l k Hk hHk;have hjN:j<ops.size:=by rw[<-X.len];grind
   have ho:ops[j]? = some ops[j]:=YzA hjN;obtain⟨g',hg',hd⟩:=X.ent j _ ho;cases k1.symm.trans hg';have ha:anchor P ops[j].op=true:=by grind
   have hm:j6 ops[j].op=false:=by grind[wT]
   obtain⟨Hk',hHk',_⟩:=hspc j (by omega);have:=hFG j _ g Hk' m ho k1 hm ha hHk' (hall j _ ho ha (by omega));rw[k3,k4]at this;rw[this];rw[k3]at hHk';exact ih Hk' m hmN hHk' fun j oj hoj haj hlt=>hall j oj hoj haj (by omega)
 have FGn:∀(k:Nat) (Hk:Za) (m:Nat) (om:Oper),ops[m]? = some om->j6 om.op=false->(h0::hsG l)[k]? = some Hk->FG n0 l k Hk m=none:=by intro k Hk m om hom hmk hHk;have hmN:m<ops.size:=(Lz7.1 hom).1;obtain⟨g,hg,_⟩:=X.ent m om hom;rw[FGu k Hk m hmN hHk fun j oj _ _ _=>(hhid j m om hom).2 (by grind),X.ob hom hg,hmk];rfl
 have hkNone:∀(k:Nat) (Hk:Za) (m:Nat),m<ops.size->(h0::hsG l)[k]? = some Hk->k<=cmG l m->Hk.t.get (nm n0 m)=none:=by
  intro k Hk m hmN hHk hle;cases k with
  |zero=>simp only[Yzf,Option.some.injEq]at hHk;subst hHk;exact X.fresh m hmN
  |succ k=>
   rw[Yzm]at hHk;obtain⟨j,g,k1,k2,k3,k4⟩:=zeF l k Hk hHk;have hjN:j<ops.size:=by rw[<-X.len];grind
   obtain⟨Hk',_,Sp⟩:=hspc (j+1) (by omega);rw[zeH l h0 j g k1,k4]at Sp;have hmj:¬m<j+1:=fun hh=>by
    have:cmG l m<=cmG l j:=wn _ 0 fun q _ hq=>by grind
    omega
   rw[Sp.res m hmN,Yzb (show ¬decide (m<j+1)=true by grind)]
 have finish:∀(listed:Array Bool) (φ:Phi) (a:Act) (w:World) (Hk H:Za),(∀i,i<ops.size->lst listed i=true)->Ext n0 φ0 φ->
   (h0::hsG l)[ce (lst listed) 0 (jG P ops.toList)]? = some Hk->Spc n0 ops.size l (lst listed) (ce (lst listed) 0 (jG P ops.toList)) Hk H->Ze w0 S φ H w->n0+ops.size<=H.n.toNat->
   Zh φ nt H.n.toNat (frL (lst listed) 0 (l.map gdv) t) a.tmps->a.defers=a0.defers->Q .normal a w:=by
  intro listed φ a w Hk H hall hE hH Sp HR hn T hdf;have hce:ce (lst listed) 0 (jG P ops.toList)=cmG l ops.size:=by grind[wB]
  rw[hce]at hH Sp;obtain⟨Hk',hHk',Sp'⟩:=hspc ops.size (LzB _);cases hH.symm.trans hHk';rw[<-X.fin]at Sp';have hg:∀b,h2.t.get b=H.t.get b:=by
   intro b;rcases zdg n0 ops.size b with hb|⟨m,hm,rfl⟩
   .rw[Sp.old b hb,Sp'.old b hb]
   rw[Sp.res m hm,Sp'.res m hm,Yzd (hall m hm),Yzd (show decide (m<ops.size)=true by grind)]
  have hnn:h2.n.toNat=H.n.toNat:=by rw[Sp.n,Sp'.n]
  refine hQ a w ⟨φ,by grind,HR.of_get hg hnn,?_,hdf,by omega⟩;rw[hnn,X.fr,<-qM (L:=lst listed) (l.map gdv) 0 t (fun j hj=>by rw[Yzg];exact hall j (by simpa[X.len] using hj))];exact T
 intro fuel
 induction fuel with
 |zero=>
  intro listed φ a w Hk H hsz hu hC hE hH Sp HR hn T hdf hbad;have hall:∀i,i<ops.size->lst listed i=true:=fun i hi=>zh8 (by omega) (by omega);have hnil:Region.ready .any ops listed=[]:=by
   cases hr:Region.ready .any ops listed with
   |nil=>rfl
   |cons i r=>
    obtain⟨o,ho,h1,h2,h3⟩:=mem_ready (ops:=ops) (listed:=listed) (i:=i) (by grind)
    grind
  exact⟨hnil,finish listed φ a w Hk H hall hE hH Sp HR hn T hdf⟩
 |succ fuel ih=>
  intro listed φ a w Hk H hsz hu hC hE hH Sp HR hn T hdf hbad;refine⟨fun hnil=>finish listed φ a w Hk H (zdE (ops:=ops) hsz (fun i o e ho he hb=>hA' i o ho e he hb) hnil) hE hH Sp HR hn T hdf,fun i hi=>?_⟩;obtain⟨o,ho,hlt,hli,hR⟩:=mem_ready hi;have hiN:i<ops.size:=(Lz7.1 ho).1;obtain⟨g,hj,hgd⟩:=X.ent i o ho;obtain⟨htr,hhb,_⟩:=X.step i g hj;obtain⟨hnosel,hedge⟩:=hA i o ho;obtain⟨hdd,hdin⟩:=hdst i o g ho hj;generalize hk:ce (lst listed) 0 (jG P ops.toList)=k at hH Sp;have before:∀j,bef (y5 ops.toList) j i=true->lst listed j=true:=fun j hb=>wY hb hC hR;have after:∀j,bef (y5 ops.toList) i j=true->lst listed j=false:=by
   intro j hb;cases hj:lst listed j
   .rfl
   have:=wY hb hC (hC j hj)
   grind
  have hCi:Clo ops (fun k=>decide (k<i)):=by
   intro j hj o' e ho' he hb
   grind
  have hRi:Rdy ops (fun k=>decide (k<i)) i:=by
   intro o' e ho' he hb
   grind
  have hlk:g.d.looks=(o.looksAt ops).map bn:=by rw[hgd]
  rw[hlk]at htr;have hagree:∀s∈(o.looksAt ops).map bn,(frL (fun k=>decide (k<i)) 0 (l.map gdv) t).get s=(frL (lst listed) 0 (l.map gdv) t).get s:=by
   intro s hs';obtain⟨sn,hsn,rfl⟩:=List.mem_map.1 hs';rw[uL,uL]
   congr 1
   refine qz _ 0 fun j d v hjd hds=>?_;obtain⟨oj,sj,hoj,hsj,hbe⟩:=hdv j d v _ hjd hds;have:=uz hbe;subst this;rw[Yzg];rcases Nat.lt_trichotomy j i with hji|hji|hji
   .grind[Oper.apart_spec]
   .grind
   grind[Oper.apart_spec]
  have htrg:∀s,g.tr.get s=(frL (lst listed) 0 (l.map gdv) t).get s/\s∈(o.looksAt ops).map bn\/g.tr.get s=none:=by
   intro s
   classical
   have:=vg (frL (fun k=>decide (k<i)) 0 (l.map gdv) t) s ((o.looksAt ops).map bn);rw[<-htr]at this;by_cases hm:s∈(o.looksAt ops).map bn<;>grind
  have Tr':Zh φ nt H.n.toNat g.tr (wK φ nt g.tr):=by
   refine zf3 (fun j hj=>?_) (fun s v hv=>?_)
   .rcases htrg (bn j) with⟨h1,_⟩|h1
    .rw[h1];exact T.out j hj
    exact h1
   rcases htrg s with⟨h1,_⟩|h1
   .rw[h1]at hv;exact T.wf s v hv
   grind
  have htmps:∀sn∈o.looksAt ops,a.tmps[sn]? = (wK φ nt g.tr)[sn]?:=by
   intro sn hsn;by_cases hlt':sn<nt
   .rw[T.get sn hlt',Tr'.get sn hlt'];have hm:bn sn∈(o.looksAt ops).map bn:=List.mem_map.2 ⟨sn,hsn,rfl⟩
    grind[vg]
   have e1:a.tmps[sn]? = none:=YzP (by rw[T.size];grind);have e2:(wK φ nt g.tr)[sn]? = none:=YzP (by rw[Tr'.size];grind);rw[e1,e2]
  have hexec:execOp a.eval o=execOp ({ tmps:=wK φ nt g.tr,defers:=[] }:Act).eval o:=by
   refine execOp_congr o hnosel fun x hx=>?_;cases x with
   |tmp sn=>have:=htmps sn (YzG _ (List.mem_filterMap.2 ⟨.tmp sn,by grind,rfl⟩));simp only[Act.eval,Yzw,this]
   |_=>rfl
  have hwant:Region.wanted o (yielded ops a.tmps)=Region.wanted o (yielded ops (wK φ nt g.tr)):=by
   unfold Region.wanted;rcases hg:o.guard with _|gb
   .rfl
   obtain⟨q,b⟩:=gb;simp only;have:yielded ops a.tmps q=yielded ops (wK φ nt g.tr) q:=by
    unfold yielded;rcases hd:(ops[q]?).bind (·.dst) with _|sn
    .rfl
    have:=htmps sn (YzM _ (by grind))
    grind
   rw[this]
  have hC':Clo ops (lst (listed.setIfInBounds i true)):=by
   intro j hj o' e ho' he hb;rw[wJ hlt]at hj ⊢;rw[YzB]
   right
   simp only[YzB,YzL]at hj;rcases hj with hj|hj
   .subst hj;exact hR o' e ho' he hb
   exact hC j hj o' e ho' he hb
  have next:∀(φ2:Phi) (w2:World) (Hk' H':Za),zgB H.n.toNat φ φ2->Ext n0 φ φ2->H.n.toNat<=H'.n.toNat->
    (h0::hsG l)[ce (lst (listed.setIfInBounds i true)) 0 (jG P ops.toList)]? = some Hk'->Spc n0 ops.size l (lst (listed.setIfInBounds i true)) (ce (lst (listed.setIfInBounds i true)) 0 (jG P ops.toList)) Hk' H'->
    Ze w0 S φ2 H' w2->wfA φ2 H'.n.toNat g.v->(∀m,m<ops.size->lst (listed.setIfInBounds i true) m=false->(φ2 (nm n0 m)).ok=false)->
    wpAnyIn (FR ro) 0 P .any ops Q fuel (listed.setIfInBounds i true) (a.put o.dst (zm φ2 g.v)) w2:=by
   intro φ2 w2 Hk' H' he he0 hle hH' Sp' H2 hv hbad';refine ih _ φ2 _ w2 Hk' H' (by grind) ?_ hC' (hE.trans he0 (LzB _)) hH' Sp' H2 (Yzl hn hle) ?_ ((put_defers _ _ _).trans hdf) hbad'
   .grind[zk3]
   refine Zh.of_get (Zh.put (T.extW he hle) hv o.dst hdin) fun s=>?_
   classical
   rw[zdW,uL];have hri:(l.map gdv)[i]? = some (o.dst.map bn,g.v):=by grind[gdv]
   by_cases hd:o.dst.map bn=some s
   .rw[Yzd hd];rw[hd]at hri;rw[zhf (l.map gdv) 0 i g.v hri (by rw[Yzg,wJ hlt];simp) (fun j d u hij hjd hds=>?_)]
    .rfl
    rw[Yzg,wJ hlt];obtain⟨oj,sj,hoj,hsj,hbe⟩:=hdv j d u _ hjd hds;have hne:¬j=i:=by omega
    simp only[hne,decide_false,YzO];rcases hord i j o oj ho hoj hij with hb|⟨hap,_⟩
    .grind
    rcases hod:o.dst with _|so
    .grind
    grind[uz,Oper.apart_spec]
   rw[Yzb hd,uL]
   congr 1
   refine qz _ 0 fun j d u hjd hds=>?_;rw[Yzg,wJ hlt];have hne:¬j=i:=fun hh=>by grind
   simp[hne]
  have lset:∀m,lst (listed.setIfInBounds i true) m=(decide (m=i)||lst listed m):=wJ hlt;have badK:∀(φ2:Phi),(∀m,m<ops.size->m≠i->lst listed m=false->φ2 (nm n0 m)=φ (nm n0 m))->∀m,m<ops.size->lst (listed.setIfInBounds i true) m=false->(φ2 (nm n0 m)).ok=false:=by grind
  unfold wpOpIn;simp only[ho];obtain⟨Hi,hHi,Spi⟩:=hspc i (by omega);rw[<-hhb]at Spi;have partOf:∀(t':Tr Zf) (n':BN),(∀b o',(b.toNat<n0\/n0+ops.size<=b.toNat)->t'.get b=some o'->Hk.t.get b=some o')->
    (∀m,m<ops.size->m∉yp (y5 ops.toList) i 0 ops.toList->∀o',t'.get (nm n0 m)=some o'->FG n0 l k Hk m=some o')->(∀m∈yp (y5 ops.toList) i 0 ops.toList,t'.get (nm n0 m)=none)->Sbh ⟨n',t'⟩ H:=by
   intro t' n' h1 h2 h3 b o' hb;rcases zdg n0 ops.size b with hb'|⟨m,hm,rfl⟩
   .rw[Sp.old b hb'];grind
   by_cases hmem:m∈yp (y5 ops.toList) i 0 ops.toList
   .grind
   have hq:(j6 ops[m].op&&bef (y5 ops.toList) m i)=true:=by grind
   rw[Sp.res m hm,Yzd (before m (ue hq).2)]
   grind
  have hself:Sbh ⟨g.hb.n,zar n0 (yp (y5 ops.toList) i 0 ops.toList) g.hb.t⟩ H\/cmG l i≠k:=by
   by_cases hki:cmG l i=k
   .left
    rw[hki]at hHi Spi;cases hH.symm.trans hHi;refine partOf _ _ (fun b o' hb hget=>?_) (fun m hmN hmem o' hget=>?_) (fun m hmem=>zco _ _ m hmem)
    .rw[vX _ _ b fun j hj hh=>by have:=hhidlt i j hj;rw[hh,yw]at hb;omega]at hget;rw[<-Spi.old b hb];exact hget
    rw[vX _ _ _ fun j hj hh=>hmem (by grind[vT]),Spi.res m hmN]at hget
    grind
   omega
  have hnE:cmG l i=k->g.hb.n.toNat=H.n.toNat:=by intro hki;rw[hki]at hHi;cases hH.symm.trans hHi;rw[Spi.n,Sp.n]
  have ceSame:anchor P o.op=false->ce (lst (listed.setIfInBounds i true)) 0 (jG P ops.toList)=k:=by
   intro ha;rw[<-hk];refine wB _ 0 fun j hj=>?_;rw[Yzg,lset];obtain⟨oj,hoj,haj⟩:=hes j hj;have:j≠i:=fun hh=>by grind
   simp[this]
  have spcSame:anchor P o.op=false->FG n0 l k Hk i=none->Spc n0 ops.size l (lst (listed.setIfInBounds i true)) k Hk H:=by
   intro ha hnone;refine⟨Sp.n,Sp.old,fun m hmN=>?_⟩;rw[Sp.res m hmN,lset];by_cases hmi:m=i
   .grind
   simp only[hmi,decide_false,YzO]
  rcases zmI P o.op with hm|⟨hm,ha⟩|⟨hm,ha,hq⟩
  ·
   have ha:=wT (P:=P) hm;obtain⟨k1,k2,h',k3,k4⟩:=X.made ho hj hm;have hob:FG n0 l k Hk i=obG n0 l i:=by
    refine FGu k Hk i hiN hH fun j oj hoj haj hlt=>(hhid j i o ho).2 ?_;cases hb:bef (y5 ops.toList) i j
    .simp
    have hlj:=after j hb;exfalso;have hle:ce (lst listed) 0 (jG P ops.toList)<=ce (fun q=>decide (q<j)) 0 (jG P ops.toList):=by
     refine wn _ 0 fun q hq hlq=>?_;rw[Yzg]at hlq ⊢;obtain⟨oq,hoq,haq⟩:=hes q hq;rcases Nat.lt_trichotomy q j with hqj|hqj|hqj
     .grind
     .grind
     rcases hord j q oj oq hoj hoq hqj with hb'|⟨_,hc|hc⟩
     .have:=wY hb' hC (hC q hlq)
      grind
     .grind
     grind
    grind
   have hHnone:H.t.get (nm n0 i)=none:=by rw[Sp.res i hiN,Yzb (by grind)]
   have hnmlt:(nm n0 i).toNat<H.n.toNat:=by grind[yw]
   rcases zao (a:={ tmps:=wK φ nt g.tr,defers:=[] }) k3 Tr' with⟨hw,hc⟩|⟨hw,hv,hh⟩
   .rw[Yzd (by grind)];obtain⟨obj,vf,hsh,hconc,hwf,howf⟩:=ziO (nt:=nt) hm hc;have e1:=hsh ⟨nm n0 i,g.hb.t⟩;rw[hc]at e1;simp only[Option.some.injEq,Prod.mk.injEq]at e1;obtain⟨ev,eh⟩:=e1;have hobj:obG n0 l i=some obj:=by
     rw[X.ob ho hj,hm];show g.ha.t.get (nm n0 i)=some obj;rw[<-k4,eh];exact zq _ _ _
    refine zfx C HR (ar:={ tmps:=wK φ nt g.tr,defers:=[] }) Tr' hexec (hsh H) ?_;intro φ1 w2 he H2 hv hle;obtain⟨HR2,he2⟩:=HR.rename H2 he (howf φ _ _ Tr') hnmlt (hbad i hiN hli) hHnone;have hcv:zm φ1 (.s (.one (vf H.n)))=zm (upd φ (nm n0 i) (φ1 H.n)) g.v:=by rw[ev];exact hconc _ _ _ _ (zj _ _ _).symm
    rw[hcv];refine next _ w2 Hk (H.put (nm n0 i) obj) he2 (fun b hb=>?_) (LzB _) (by grind) ?_ HR2 ?_ (badK _ fun m hmN hmi _=>?_)
    .have:b≠nm n0 i:=fun hh=>by grind[yw]
     grind[upd]
    .rw[ceSame ha];refine⟨Sp.n,fun b hb=>?_,fun m hmN=>?_⟩
     .show (H.t.set (nm n0 i) obj).get b=_;rw[zl _ _ _ _ (fun hh=>by grind[yw])];exact Sp.old b hb
     show (H.t.set (nm n0 i) obj).get (nm n0 m)=_;rw[lset];by_cases hmi:m=i
     .subst hmi;rw[zq,Yzd (by simp)]
      grind
     rw[zl _ _ _ _ (fun hh=>hmi (vT hh)),Sp.res m hmN];simp only[hmi,decide_false,YzO]
    .rw[ev];refine hwf _ _ _ ⟨hnmlt,?_⟩;rw[zj];exact H2.okb H.n obj (by grind[Za.new,zq])
    have:nm n0 m≠nm n0 i:=fun hh=>hmi (vT hh)
    grind[upd]
   rw[Yzb (by grind)];have hnone:FG n0 l k Hk i=none:=by rw[hob,X.ob ho hj,hm];show g.ha.t.get (nm n0 i)=none;rw[<-k4,hh];show g.hb.t.get (nm n0 i)=none;rw[Spi.res i hiN,Yzb (by simp)]
   have hn':=next φ w Hk H (Ext.refl _ _).w (Ext.refl _ _) (LzB _) (by grind) (by grind) HR (by rw[hv];exact fun _ hv=>by cases hv) (badK φ fun _ _ _ _=>rfl)
   rw[hv]at hn';exact⟨fun f _=>trivial,hn'⟩
  ·
   have hki:cmG l i=k:=by
    rw[hcmE,<-hk];refine (wB _ 0 fun j hj=>?_).symm;obtain⟨oj,hoj,haj⟩:=hes j hj;rw[Yzg];rcases Nat.lt_trichotomy j i with hji|hji|hji
    .grind
    .grind
    grind
   have hsub:=hself.resolve_right (fun hh=>hh hki);have hEn:=hnE hki;obtain⟨h',k1,k2,k3,k4⟩:=X.anchor ho hj hm ha;have hce1:ce (lst (listed.setIfInBounds i true)) 0 (jG P ops.toList)=k+1:=by rw[<-hk];exact zf8 (L:=lst listed) (jG P ops.toList) 0 i (by grind) (by grind) (by grind) (fun j hj=>by rw[Yzg]at hj;rw[lset];simp[hj])
   have hH1:(h0::hsG l)[k+1]? = some g.ha:=by rw[Yzm,<-hki];exact zhl l i g hj (by grind)
   have HE:=HR.sub hsub hEn;have go:∀(φ2:Phi) (w2:World),Ext H.n.toNat φ φ2->Ze w (zvI φ ⟨g.hb.n,zar n0 (yp (y5 ops.toList) i 0 ops.toList) g.hb.t⟩) φ2 h' w2->wfA φ2 h'.n.toNat g.v->H.n.toNat<=h'.n.toNat->
     wpAnyIn (FR ro) 0 P .any ops Q fuel (listed.setIfInBounds i true) (a.put o.dst (zm φ2 g.v)) w2:=by
    intro φ2 w2 he H2 hv hle;obtain⟨t',m1,m2⟩:=zyl (n0:=n0) H.t h'.t (yp (y5 ops.toList) i 0 ops.toList);have HR2:Ze w0 S φ2 ⟨h'.n,t'⟩ w2:=by
     refine HR.join hsub hEn H2 he hle rfl fun b o' hb=>?_;by_cases hmem:∃m∈yp (y5 ops.toList) i 0 ops.toList,b=nm n0 m
     .obtain⟨m,hmem,rfl⟩:=hmem
      grind[zco]
     left
     rw[<-m2 b fun j hj hh=>hmem ⟨j,hj,hh⟩];exact hb
    refine next φ2 w2 g.ha ⟨h'.n,t'⟩ he.w (he.mono (by omega)) hle (by grind) ?_ HR2 hv (badK φ2 fun m hmN _ _=>he _ (by grind[yw]))
    rw[hce1];refine⟨by rw[k2],fun b hb=>?_,fun m hmN=>?_⟩
    .have hb':∀j∈yp (y5 ops.toList) i 0 ops.toList,b≠nm n0 j:=fun j hj hh=>by have:=hhidlt i j hj;rw[hh,yw]at hb;omega
     show t'.get b=_;rw[m2 b hb',k4 b hb']
    show t'.get (nm n0 m)=_;rw[lset];by_cases hmem:m∈yp (y5 ops.toList) i 0 ops.toList
    .have hfg:FG n0 l (k+1) g.ha m=FG n0 l k Hk m:=by
      have:=hFG i o g Hk m ho hj hm ha (by grind) hmem
      rwa [hki]at this
     rw[m1 m hmem,Sp.res m hmN];by_cases hmi:m=i
     .grind
     simp only[hmi,decide_false,YzO]
     grind
    have hq:(j6 ops[m].op&&bef (y5 ops.toList) m i)=true:=by grind
    have hbm:=(ue hq).2;have hmi:=hbef m i hbm;have hle':cmG l m<=cmG l i:=wn _ 0 fun q _ hq=>by grind
    have hb':∀j∈yp (y5 ops.toList) i 0 ops.toList,nm n0 m≠nm n0 j:=fun j hj hh=>hmem (by grind[vT]);rw[m2 _ hb',Yzd (by grind),Yzb (by omega),k4 _ hb']
   have TrE:Zh φ nt (Za.n ⟨g.hb.n,zar n0 (yp (y5 ops.toList) i 0 ops.toList) g.hb.t⟩).toNat g.tr (wK φ nt g.tr):=by grind
   rcases zao (a:={ tmps:=wK φ nt g.tr,defers:=[] }) k1 Tr' with⟨hw,hc⟩|⟨hw,hv,hh⟩
   .rw[Yzd (by grind)];refine zfx C HE (ar:={ tmps:=wK φ nt g.tr,defers:=[] }) TrE hexec hc ?_
    grind
   rw[Yzb (by grind)];have:=go φ w (Ext.refl _ _) (by grind) (by rw[hv];exact fun _ hv=>by cases hv) (by grind);rw[hv]at this;exact⟨fun f _=>trivial,this⟩
  have hex:∃X':Za,Sbh X' H/\∃h',xw call (yF P nt ops o) g.tr X'=some (g.v,h'):=by
   obtain⟨_,h',he⟩:=X.quiet ho hj hm ha;have hlo:ce (fun q=>bef (y5 ops.toList) q i) 0 (jG P ops.toList)<=k:=by rw[<-hk];exact wn _ 0 fun j _ hb=>by grind
   have hhi:k<=ce (fun q=>!bef (y5 ops.toList) i q) 0 (jG P ops.toList):=by
    rw[<-hk];refine wn _ 0 fun j _ hb=>?_
    grind
   have hlo0:ce (fun q=>bef (y5 ops.toList) q i) 0 (jG P ops.toList)<=cmG l i:=by rw[hcmE];exact wn _ 0 fun j _ hb=>by grind
   have hhi0:cmG l i<=ce (fun q=>!bef (y5 ops.toList) i q) 0 (jG P ops.toList):=by
    rw[hcmE];refine wn _ 0 fun j _ hb=>?_
    grind
   rcases zct l hch i g hj (by grind) (by grind) with heq|hall
   .grind
   rw[hgd]at hall;obtain⟨h'',he''⟩:=hall k Hk hlo hhi hH;refine⟨_,partOf _ _ (fun b o' hb hget=>?_) (fun m hmN hmem o' hget=>?_) (fun m hmem=>zco _ _ m hmem),h'',he''⟩
   .rw[vX _ _ b fun j hj hh=>by have:=hhidlt i j hj;rw[hh,yw]at hb;omega]at hget;rcases zcb (zgx n0 0 0 l) Hk.t b (n0:=n0) (k:=k) with h1|⟨x,hx,_,h2,_⟩
    .grind
    obtain⟨m,q1,⟨gm,q2,_⟩,_⟩:=zem l 0 0 x X.mkeff hx;have:m<ops.size:=by rw[<-X.len];grind
    rw[h2,yw,q1]at hb;omega
   rw[vX _ _ _ fun j hj hh=>hmem (by grind[vT])]at hget;rcases zcb (zgx n0 0 0 l) Hk.t (nm n0 m) (n0:=n0) (k:=k) with h1|⟨x,hx,hkx,h2,h3⟩
   .grind
   obtain⟨m',q1,⟨gm,q2,q3,q4⟩,q5⟩:=zem l 0 0 x X.mkeff hx;rw[Yzg]at q1 q4 q5;have hmm:m=m':=by grind[vT]
   subst hmm;rw[hget]at h3;cases h3;show (if k<=cmG l m then _ else _)=_;rw[Yzd (by omega)]
   grind[obG]
  obtain⟨X',hsub,h',he⟩:=hex;have hnone:=FGn k Hk i o ho hm hH;rcases zao (a:={ tmps:=wK φ nt g.tr,defers:=[] }) he Tr' with⟨hw,hc⟩|⟨hw,hv,hh⟩
  .rw[Yzd (by grind)];refine zfx C HR (ar:={ tmps:=wK φ nt g.tr,defers:=[] }) Tr' hexec (zpe P o.op hq _ _ _ _ _ _ hc hsub) ?_;intro φ2 w2 he2 H2 hv hle;exact next φ2 w2 Hk H he2.w (he2.mono (by omega)) hle (by grind) (by grind) H2 hv (badK φ2 fun m hmN _ _=>he2 _ (by grind[yw]))
  rw[Yzb (by grind)];have:=next φ w Hk H (Ext.refl _ _).w (Ext.refl _ _) (LzB _) (by grind) (by grind) HR (by rw[hv];exact fun _ hv=>by cases hv) (badK φ fun _ _ _ _=>rfl)
  rw[hv]at this;exact⟨fun f _=>trivial,this⟩
end
end Go.CE
end
section
namespace Go.CE
open Go.RowKit
section
variable {P:Program} {w0:World} {S:Nat->Prop} {nt:Nat} {call:zc}
theorem zoX(C:yQ P call)(id:Nat)(ops:Array Oper):v7 P w0 S nt call (.region id ops true):=by
 intro f fn round ro φ s s2 e a w Q hc R hr hQ;have hc:(bif P.follows .mixedOrders&&qT P ops (y5 ops.toList) then zjk (za0 P nt ops) else bif P.follows .mixedOrders&&uP P ops (y5 ops.toList) then zjj (vJ P nt ops) else zvy) call f fn round s=some (e,s2):=hc;cases hb:(P.follows .mixedOrders&&qT P ops (y5 ops.toList))
 .rw[hb]at hc;simp only[Yzc]at hc;cases hb2:(P.follows .mixedOrders&&uP P ops (y5 ops.toList))
  .rw[hb2]at hc;cases hc
  rw[hb2]at hc;obtain⟨hm,hok⟩:=ue hb2;obtain⟨t,d,h⟩:=s;simp only[Yza,zjj]at hc;have hlen:(vJ P nt ops).length=ops.size:=by
   have key:∀(os:List Oper) (i:Nat),(y0 P nt ops (y5 ops.toList) (jG P ops.toList) i os).length=os.length:=by
    intro os
    induction os<;>grind[y0]
   grind[vJ]
  rw[hlen]at hc;rcases hev:evG call h.n.toNat 0 (vJ P nt ops) t ⟨bn (Nat.add h.n.toNat ops.size),h.t⟩ with _|p
  .grind
  obtain⟨l,t2,h2⟩:=p;rw[hev]at hc;simp only at hc;cases hch:vY call h.n.toNat (zgx h.n.toNat 0 0 l) (⟨bn (Nat.add h.n.toNat ops.size),h.t⟩::hsG l) l
  .grind
  rw[hch]at hc;cases hc;have hkn:(bn (Nat.add h.n.toNat ops.size)).toNat=h.n.toNat+ops.size:=zF _;have X:=ztA (P:=P) hev (fun m hm=>by
   show h.t.get (nm h.n.toNat m)=none;rcases hx:h.t.get (nm h.n.toNat m) with _|o
   .rfl
   have:=R.H.keys _ _ hx;grind[yw])
  refine wpIn_region_any hm ?_;have hz:∀i,lst (Array.replicate ops.size false) i=false:=by
   intro i;unfold lst;rw[Yzw,Array.getElem?_replicate]
   grind
  have hzf:lst (Array.replicate ops.size false)=fun _=>false:=funext hz;have hfr:∀(r:List (Option BN×Zb)) (i:Nat) (t:Tr Zb),frL (fun _=>false) i r t=t:=by
   intro r
   induction r<;>grind[frL]
  have he:=zdn φ h.n.toNat ops.size;refine zkD (hh0:=h) (φ0:=φ) C hok X hch rfl hkn (fun a2 w2 hn=>hQ a2 w2 (zah R hn)) ops.size (Array.replicate ops.size false) (zdo φ h.n.toNat ops.size) a _ ⟨bn (Nat.add h.n.toNat ops.size),h.t⟩ ⟨bn (Nat.add h.n.toNat ops.size),h.t⟩
   (by simp) (by unfold unl;simp) ?_ he ?_ ?_ (R.H.drew.keep ops.size) (by grind) ?_ rfl (fun m hm _=>zmJ φ _ _ m hm)
  .intro i hi;grind
  .grind[zbk]
  .rw[hzf,zbk];exact⟨rfl,fun _ _=>rfl,fun m hm=>by rw[Yzb (by simp)];exact X.fresh m hm⟩
  rw[hzf,hfr,hkn];exact R.T.ext he (by simp)
 rw[hb]at hc;obtain⟨hm,hok⟩:=ue hb;obtain⟨t,d,h⟩:=s;simp only[Yza,zjk]at hc;rcases hev:evD call (za0 P nt ops) t h with _|p
 .grind
 obtain⟨l,t2,hs⟩:=p;rw[hev]at hc;simp only at hc;cases hch:vZ call hs l
 .grind
 rw[hch]at hc;cases hc;refine wpIn_region_any hm ?_;have hz:∀i,lst (Array.replicate ops.size false) i=false:=by
  intro i;unfold lst;rw[Yzw,Array.getElem?_replicate]
  grind
 have hzf:lst (Array.replicate ops.size false)=fun _=>false:=funext hz;have hce:∀(es:List Bool) (i:Nat),ce (fun _=>false) i es=0:=by
  intro es
  induction es<;>grind[ce]
 have hfr:∀(r:List (Option BN×Zb)) (i:Nat) (t:Tr Zb),frL (fun _=>false) i r t=t:=by
  intro r
  induction r<;>grind[frL]
 obtain⟨_,g2,_,_,_⟩:=zeM call _ _ _ _ _ _ hev;refine znl C hok hev hch (fun a2 w2 hn=>hQ a2 w2 (zah R hn)) ops.size (Array.replicate ops.size false) φ a _ h (by simp) (by unfold unl;simp) ?_ (Ext.refl _ _) ?_ R.H.drew (LzB _) ?_ rfl
 .intro i hi;grind
 .grind
 rw[hzf,hfr];exact R.T
end
end Go.CE
end
section
namespace Go.CE
open Go.RowKit
section
variable {P:Program} {w0:World} {S:Nat->Prop} {nt:Nat} {call:zc}
theorem zhK(C:yQ P call)(c:Code):v7 P w0 S nt call c:=by
 induction c with
 |skip=>intro f fn round ro φ s s2 e a w Q hc R hr hQ;cases hc;exact wpIn_skip (hQ _ _ R.after)
 |region id ops draw=>cases draw<;>grind[zl4,zoX]
 |seq x y hx hy=>grind[zui]
 |cond c x y hx hy=>grind[zrx]
 |block id x hx=>exact zoY hx
 |loop x hx=>exact zrw hx
 |rangeFunc g ps assign body _ _=>exact zoW C
 |exit id=>intro f fn round ro φ s s2 e a w Q hc R hr hQ;cases hc;exact wpIn_exit (hQ _ _ R.after)
 |ret=>intro f fn round ro φ s s2 e a w Q hc R hr hQ;cases hc;exact wpIn_ret (hQ _ _ R.after)
 |_=>intro f fn round ro φ s s2 e a w Q hc R hr hQ;cases hc
theorem zp8:∀(d:List BN) (h h2:Za),shut d h=some h2->h2.n=h.n
 | [],h,h2,e=>by cases e;rfl
 |b::d,h,h2,e=>by
  unfold shut at e;split at e
  .exact(zp8 d _ _ e).trans rfl
  cases e
theorem zmG{φ:Phi}{fn:Func}{tmps:Array Value}{R:Ending->World->Prop}{h2:Za}(hR:∀w2,Ze w0 S φ h2 w2->LeavesIn (FR none) 0 P fn tmps R [] .returning w2):
  ∀(d:List BN) (h:Za) (w:World),shut d h=some h2->Ze w0 S φ h w->LeavesInM (FR none) 0 P fn tmps R (marks φ d) .returning w
 | [],h,w,e,H=>by cases e;exact hR w H
 |b::d,h,w,e,H=>by
  unfold shut at e;split at e
  .rename_i hb;have g1:w.heap[(φ b).blk]? = some (.deferred (some [])):=H.obj b _ hb;refine⟨by simp,.inl ⟨(φ b).blk,_,rfl,run_takeDeferred g1,?_⟩⟩;refine zmG hR d _ _ e ?_;exact H.put hb trivial (fun k hk=>World.putObj_heap_other hk) (by simp) rfl rfl rfl trivial
  cases e
def zrh(tmps:Array Value):ResultVar->Sem Value
 | .tmp t=>pure (tmps.getD t undef)
 | .cell a t=>do loadVar t (<-asAddr (tmps.getD a undef))
theorem zfO{φ:Phi}{n:Nat}{t:Tr Zb}{tmps:Array Value}(T:Zh φ nt n t tmps){i:Nat}{v:Zb}(hi:t.get (bn i)=some v):tmps.getD i undef=zm φ v/\wfA φ n v:=by
 have hlt:i<nt:=by apply Decidable.byContradiction;intro hn;rw[T.out i (by omega)]at hi;cases hi
 have:=T.get i hlt;rw[hi]at this;refine⟨?_,T.wf _ _ hi⟩;simp_all
theorem zdw{t:Tr Zb}{h:Za}{r:BN×Option (Option Nat)}{rs:List (BN×Option (Option Nat))}{vs:List SVal}(e:jt t h (r::rs)=some vs):
  ∃v vs',vs=v::vs'/\zdx t h r=some v/\jt t h rs=some vs':=by
 unfold jt at e;split at e
 .rename_i v hv;unfold x6 at e
  grind
 cases e
theorem uD{φ:Phi}{h:Za}{w:World}{t:Tr Zb}{tmps:Array Value}(H:Ze w0 S φ h w)(T:Zh φ nt h.n.toNat t tmps):∀(l:List ResultVar) (rs:List (BN×Option (Option Nat))) (vs:List SVal),
  ze0 P l=some rs->jt t h rs=some vs->(l.mapM (zrh tmps)).run P w=.ok (vs.map (zA φ)) w/\∀v∈vs,wfS φ h.n.toNat v
 | [],rs,vs,hc,he=>by cases hc;cases he<;>simp_all
 | .tmp i::l,rs,vs,hc,he=>by
  unfold ze0 at hc;split at hc
  .rename_i rs' hrs;cases hc;obtain⟨v1,vs',rfl,hv1,hvs⟩:=zdw he;simp only[zdx]at hv1;split at hv1
   .rename_i u hu;cases hv1;obtain⟨h1,h2⟩:=uD H T l rs' vs' hrs hvs;obtain⟨g1,g2⟩:=zfO T hu;refine⟨?_,fun v hv=>?_⟩
    .rw[List.mapM_cons];simp only[zrh,Sem.run_bind,Sem.run_pure,Result.andThen_ok,h1,g1];rfl
    cases hv with
    |head=>exact g2
    |tail _ hm=>exact h2 v hm
   trivial
  cases hc
 | .cell i ty::l,rs,vs,hc,he=>by
  unfold ze0 at hc;split at hc
  .rename_i n rs' hn hrs;cases hc;obtain⟨v1,vs',rfl,hv1,hvs⟩:=zdw he;simp only[zdx]at hv1;split at hv1
   .rename_i b off hu;obtain⟨h1,h2⟩:=uD H T l rs' vs' hrs hvs;obtain⟨g1,g2⟩:=zfO T hu;have key:(loadVar ty (adr φ b off)).run P w=.ok (zA φ v1) w/\wfS φ h.n.toNat v1:=by
     unfold uE at hv1;split at hv1
     .rename_i cs st hb;have hp:part n cs off h=some (.s v1,h):=by
       grind[part,qZ,zd1]
      obtain⟨k1,k2,_⟩:=zb0 (P:=P) H hn hb hp;trivial
     trivial
    grind[zrh,Sem.run_bind,zm,zA,zf,asAddr,Sem.run_pure,Result.andThen_ok]
   trivial
  cases hc
theorem zj0(fn:Func)(tmps:Array Value):results fn tmps=(do
  let vs <-fn.results.toList.mapM (zrh tmps)
  pure (match vs with | [v]=>v|vs=>.tuple vs.toArray)):=by
 have:fn.results.mapM (zrh tmps)=List.toArray <$> fn.results.toList.mapM (zrh tmps):=by rw[<-List.mapM_toArray]
 have e:results fn tmps=(do
   let vs <-fn.results.mapM (zrh tmps)
   pure (if h:vs.size=1 then vs[0] else .tuple vs)):=by
  rfl
 rw[e,this,map_eq_pure_bind,bind_assoc]
 congr 1
 funext vs
 rw[pure_bind]
 congr 1
 match vs with
 | []=>rfl
 | [v]=>rfl
 |v::u::vs=>rfl
theorem zjZ{φ:Phi}{h:Za}{w:World}{t:Tr Zb}{tmps:Array Value}(H:Ze w0 S φ h w)(T:Zh φ nt h.n.toNat t tmps){fn:Func}{rs:List (BN×Option (Option Nat))}(hc:ze0 P fn.results.toList=some rs)
  {v:Zb} {h2:Za} (he:zeL h (jt t h rs)=some (v,h2)):(results fn tmps).run P w=.ok (zm φ v) w/\wfA φ h.n.toNat v/\h2=h:=by
 rcases hv:jt t h rs with _|vs
 .rw[hv]at he;cases he
 rw[hv]at he;obtain⟨h1,hw⟩:=uD H T _ rs vs hc hv;rw[zj0,Sem.run_bind,h1]
 match vs,he,hw with
 | [],he,hw=>cases he;trivial
 | [u],he,hw=>cases he;exact⟨rfl,hw u (by simp),rfl⟩
 |u::u'::vs,he,hw=>cases he;trivial
theorem zap:∀(args:List Zb) (i:Nat) (t:Tr Zb) (j:Nat),(wj (bn i) t args).get (bn j)=if j<i then t.get (bn j) else(args[j-i]?).or (t.get (bn j))
 | [],i,t,j=>by simp[wj]
 |v::vs,i,t,j=>by
  unfold wj;rw[kY,zap vs (i+1) _ j];by_cases h1:j<i
  .rw[Yzd h1,Yzd (by omega),zl _ _ _ _ (fun hh=>by grind[uz])]
  rw[Yzb h1];by_cases h2:j=i
  .simp_all[zq]
  rw[Yzb (by omega),zl _ _ _ _ (fun hh=>by grind[uz])]
  grind
theorem zpL{φ:Phi}{n nt:Nat}{args:List Zb}(hl:args.length<=nt)(hw:∀x∈args,wfA φ n x):
  Zh φ nt n (wj .z .nil args) ((args.map (zm φ)).toArray++Array.replicate (nt-(args.map (zm φ)).toArray.size) undef):=by
 have key:∀j,(wj .z .nil args).get (bn j)=args[j]?:=by intro j;have:=zap args 0 .nil j;simp only[Nat.not_lt_zero,if_false,Nat.sub_zero]at this;have e0:bn 0=.z:=rfl;simp_all
 refine⟨by simp;omega,fun i hi=>?_,fun i hi=>?_,fun i v hv=>?_⟩
 .rw[key];by_cases hlt:i<args.length
  .grind
  rw[Array.getElem?_append_right (by simp;omega)];have:args[i]? = none:=by simp;omega
  rw[this];simp only[List.size_toArray,Yzh,Option.getD_none];rw[Array.getElem?_replicate,Yzd (by omega)];rfl
 .grind
 rw[<-zS i,key]at hv
 grind
theorem zhO{g:Nat}{fn:Func}{c:Code}(hf:P.funcs[g]? = some fn)(hb:fn.body=some c)(hn:(fn.name == "runtime.NumGoroutine")=false)(as:Array Value)(w:World):(callFunc g as).run P w=.ok (.enter g as) w:=by simp_all[callFunc]
theorem znD{fn:Func}{r:Zj}(h:zhQ P fn=some r):∃c rs,fn.body=some c/\ze0 P fn.results.toList=some rs/\(fn.name == "runtime.NumGoroutine")=false/\r=⟨fn.ntmps,rs,zH P fn.ntmps c⟩:=by grind[zhQ]
def zqI(P:Program)(fs:Nat->Option Zj):Prop:=∀g r,fs g=some r->∃fn,P.funcs[g]? = some fn/\zhQ P fn=some r
theorem zu2(C:yQ P call){fs:Nat->Option Zj}(hfs:zqI P fs){f g:Nat}{φ:Phi}{h h2:Za}{w:World}{args:List Zb}{v:Zb}(H:Ze w0 S φ h w)(hw:∀x∈args,wfA φ h.n.toNat x)
  (e:zm9 fs call f g args h=some (v,h2)):(∀as w,(callFunc g as).run P w=.ok (.enter g as) w)/\CallsIn (FR none) 0 P g (args.map (zm φ)).toArray w (Ret w0 S φ h v h2):=by
 unfold zm9 at e;split at e
 .rename_i ntmps rs body hfg;obtain⟨fn,hf,hcf⟩:=hfs g _ hfg;obtain⟨c,rs',hb,hrs,hname,hr⟩:=znD hcf;cases hr;refine⟨zhO hf hb hname,?_⟩;cases hl:zpm args fn.ntmps
  .grind
  rw[hl]at e;simp only[Yza]at e;rcases hbody:zH P fn.ntmps c call f g none ⟨wj .z .nil args,[],h⟩ with _|p
  .rw[hbody]at e;cases e
  obtain⟨ex,t1,d1,h1⟩:=p;rw[hbody]at e;refine callsIn_of_wp_marks hf hb trivial (zhK C c f g none none φ _ _ ex _ w _ hbody ⟨H,zpL (zmF _ _ hl) hw,rfl,fun b hb=>by cases hb⟩ rfl fun a2 w2 hA=>?_) rfl;obtain⟨φ2,he2,⟨H2,T2,D2,dn2⟩,hle⟩:=hA;simp only at H2 T2 D2 dn2 he2 hle;have key:leave rs (some (.normal,⟨t1,d1,h1⟩))=some (v,h2)->LeavesInM (FR none) 0 P fn a2.tmps (Ret w0 S φ h v h2) a2.defers .returning w2:=by
   intro e;simp only[leave]at e;split at e
   .rename_i h3 hs;rw[D2];refine zmG (fun w3 H3=>?_) d1 h1 w2 hs H2;have hn3:=zp8 _ _ _ hs;have T3:Zh φ2 fn.ntmps h3.n.toNat t1 a2.tmps:=by grind
    obtain⟨k1,k2,rfl⟩:=zjZ H3 T3 hrs e;exact⟨_,k1,φ2,rfl,he2,H3,k2,by grind⟩
   cases e
  cases ex with
  |normal=>exact key e
  |exit id=>cases e
  |ret=>exact key e
 cases e
theorem zic{φ:Phi}{n:Nat}:∀(ps:List Nat) (args:List Zb) (t t2:Tr Zb) (arr:Array Value),zgQ nt t ps args=some t2->Zh φ nt n t arr->(∀x∈args,wfA φ n x)->
  Zh φ nt n t2 ((ps.zip (args.map (zm φ))).foldl (fun t (p:Nat×Value)=>t.setIfInBounds p.1 p.2) arr)/\args.length=ps.length
 | [],[],t,t2,arr,e,T,hw=>by cases e<;>simp_all
 |p::ps,v::vs,t,t2,arr,e,T,hw=>by
  unfold zgQ at e;cases hp:Nat.ble (Nat.succ p) nt
  .grind
  rw[hp]at e;simp only[Yza]at e;have T2:=Zh.put (a:={ tmps:=arr,defers:=[] }) T (hw v (by simp)) (some p) hp;obtain⟨k1,k2⟩:=zic ps vs _ t2 _ e T2 fun x hx=>hw x (by simp[hx]);exact⟨k1,by simp[k2]⟩
 | [],_::_,t,t2,arr,e,T,hw=>by cases e
 |_::_,[],t,t2,arr,e,T,hw=>by cases e
theorem zoI(C:yQ P call){f:Nat}{l:BN}{φ:Phi}{h h2:Za}{w:World}{args:List Zb}{v:Zb}(H:Ze w0 S φ h w)(hw:∀x∈args,wfA φ h.n.toNat x)
  (e:zcf (zH P) call f l args h=some (v,h2)):∃f tmps assign body,(Instr.yield (φ l).blk (args.map (zm φ)).toArray).run P w=.ok (.round (φ l).blk f tmps assign body) w/\
   RoundIn (FR none) 0 P (φ l).blk f tmps assign body w (Ret w0 S φ h v h2):=by
 unfold zcf at e;split at e
 .rename_i pend lf ln lt lps la lb ld hl;split at e
  .rename_i t ht;obtain⟨arr,f8,g1,g2,g3⟩:=H.obj l _ hl;have hln:=H.okk _ _ hl;obtain⟨T,hlen⟩:=zic _ _ _ _ arr ht g2 hw;refine⟨f8,_,la,lb,run_yield g1 (by simp[hlen]),?_⟩;have harr:((lps.zip (args.map (zm φ)).toArray).foldl (fun tmps (x:Nat×Value)=>tmps.setIfInBounds x.1 x.2) arr)=((lps.toList.zip (args.map (zm φ))).foldl (fun t (p:Nat×Value)=>t.setIfInBounds p.1 p.2) arr):=by
    grind[Array.toList_zip]
   split at e
   .rename_i t1 d1 h1 has;split at e
    .rename_i h3 hbe;refine roundIn_of_wpIn trivial ?_;refine zhK C la f lf (some l) (some (φ l).blk) φ ⟨t,[],h⟩ ⟨t1,d1,h1⟩ .normal _ w _ has ⟨H,?_,rfl,fun b hb=>by cases hb⟩ ⟨rfl,hln⟩ fun a1 w1 hA=>?_
     .grind
     obtain⟨φ1,he1,⟨H1,T1,D1,dn1⟩,hle1⟩:=hA;simp only at H1 T1 D1 dn1 he1 hle1;unfold zcC at hbe;split at hbe
     .rename_i p9 lf9 ln9 lt9 lps9 la9 lb9 ld9 hl9;cases hbe;obtain⟨arr9,f9,k1,k2,k3⟩:=H1.obj l _ hl9;have el:φ1 l=φ l:=he1 l hln.1;have hlt:(φ1 l).blk<w1.heap.size:=(Lz7.1 k1).1;have H3:Ze w0 S φ1 (h1.put l (.loop .busy p9 lf9 ln9 lt9 lps9 la9 lb9 ld9)) (w1.putObj (φ1 l).blk (.loop { state:=.busy,pending:=p9.map zaQ,fn:=f9,tmps:=arr9,params:=lps9,assign:=la9,body:=lb9,defers:=(φ1 ld9).blk })):=
       H1.put hl9 trivial (fun k hk=>World.putObj_heap_other hk) (by simp) rfl rfl rfl ⟨arr9,f9,World.putObj_heap_same hlt,k2,k3⟩
      have hbr:=run_beginRound (P:=P) k1 rfl;rw[el]at hbr;refine⟨_,hbr,?_⟩;rw[el]at H3;rcases hbd:zH P ln lb call f lf (some l) ⟨t1,d1,h1.put l (.loop .busy p9 lf9 ln9 lt9 lps9 la9 lb9 ld9)⟩ with _|p
      .rw[hbd]at e;cases e
      obtain⟨ex,t4,d4,h4⟩:=p;rw[hbd]at e;refine zhK C lb f lf (some l) (some (φ l).blk) φ1 _ _ ex a1 _ _ hbd ⟨H3,T1,D1,dn1⟩ ⟨by rw[el],okB.ext he1 hle1 hln⟩ fun a5 w5 hA5=>?_;obtain⟨φ5,he5,⟨H5,T5,D5,dn5⟩,hle5⟩:=hA5;simp only[zoM]at H5 T5 D5 dn5 he5 hle5;cases d4 with
      |cons b d=>cases e
      |nil=>
       simp only[zqt,k7]at e;split at e
       .rename_i s6 p6 lf6 ln6 lt6 lps6 la6 lb6 ld6 hl6;obtain⟨arr6,f6,m1,m2,m3⟩:=H5.obj l _ hl6;have el5:φ5 l=φ l:=(he5 l (okB.ext he1 hle1 hln).1).trans el;rw[el5]at m1;have hlt5:(φ l).blk<w5.heap.size:=(Lz7.1 m1).1;have hE:Ext h.n.toNat φ φ5:=he1.trans he5 hle1;have fin:∀(j:Option Zg) (st:LoopState),st=(if (j.map zaQ).isNone then .ready else .done)->Ze w0 S φ5 (h4.put l (.loop st j lf6 ln6 lt6 lps6 la6 lb6 ld6)) (w5.putObj (φ l).blk (.loop { state:=if (j.map zaQ).isNone then .ready else .done,pending:=j.map zaQ,fn:=f6,tmps:=arr6,params:=lps6,assign:=la6,body:=lb6,defers:=(φ5 ld6).blk })):=by
         intro j st hst;subst hst;refine H5.put hl6 trivial (fun k hk=>?_) (by simp) rfl rfl rfl ⟨arr6,f6,?_,m2,m3⟩
         .grind[World.putObj_heap_other]
         grind[World.putObj_heap_same]
        cases ex with
        |normal=>cases e;exact⟨_,_,run_endRound none m1,φ5,rfl,hE,fin none .ready rfl,trivial,Yzl hle1 hle5⟩
        |exit id=>cases e;exact⟨_,_,run_endRound (some (.exit id)) m1,φ5,rfl,hE,fin (some (.exit id)) .done rfl,trivial,Yzl hle1 hle5⟩
        |ret=>cases e;exact⟨_,_,run_endRound (some .ret) m1,φ5,rfl,hE,fin (some .ret) .done rfl,trivial,Yzl hle1 hle5⟩
       cases e
     trivial
    cases e
   cases e
  cases e
 cases e
theorem ze2(C:yQ P call){fs:Nat->Option Zj}(hfs:zqI P fs)(f:Nat):yQ P (zaV (zH P) fs call f):=
 fun _ _ _ _ _ _ _ _ H hw=>⟨fun _ e=>zu2 C hfs H hw e,fun _ e=>zoI C H hw e⟩
theorem zek:yQ P (fun _ _ _=>none):=
 fun _ _ _ _ _ _ _ _ _ _=>⟨fun _ e=>(by cases e),fun _ e=>(by cases e)⟩
theorem wZ{α:Type}:∀(l:List α) (i:Nat) (t:Tr α) (j:Nat),(Tr.ofList (bn i) l t).get (bn j)=if j<i then t.get (bn j) else(l[j-i]?).or (t.get (bn j))
 | [],i,t,j=>by simp[Tr.ofList]
 |v::vs,i,t,j=>by
  unfold Tr.ofList;rw[kY,wZ vs (i+1) _ j];by_cases h1:j<i
  .rw[Yzd h1,Yzd (by omega),zl _ _ _ _ (fun hh=>by grind[uz])]
  rw[Yzb h1];by_cases h2:j=i
  .simp_all[zq]
  rw[Yzb (by omega),zl _ _ _ _ (fun hh=>by grind[uz])]
  grind
theorem zlQ(P:Program):zqI P (cFs (yL P)):=by
 intro g r h;unfold cFs yL at h;have e0:BN.z=bn 0:=rfl;rw[e0,wZ]at h;have:(Tr.nil:Tr (Option Zj)).get (bn g)=none:=by simp
 grind
end
end Go.CE
end
section
namespace Go.CE
open Go.RowKit
noncomputable section
structure Mt where
 ρ:Tr BN
 inv:Tr BN
 work:List (BN×BN)
def mB(b b':BN)(m:Mt):Option Mt:=
 match m with
 |⟨ρ,inv,work⟩=>
  match ρ.get b with
  |some b''=>bif zjd b'' b' then some ⟨ρ,inv,work⟩ else none
  |none=>
   match inv.get b' with
   |some _=>none
   |none=>some ⟨ρ.set b b',inv.set b' b,(b,b')::work⟩
def xV:Zc->Bool
 | .bool _ | .int _ _ | .str _ | .nilp | .nils | .nilm | .nilf | .nili=>true
 |_=>false
def mC(m:Mt)(c c':Zc):Option Mt:=
 match c with
 | .ptr b o=>
  match c' with
  | .ptr b' o'=>bif Nat.beq o o' then mB b b' m else none
  |_=>none
 | .slc b o l k e=>
  match c' with
  | .slc b' o' l' k' e'=>bif Nat.beq o o'&&Nat.beq l l'&&Nat.beq k k'&&eqB e e' then mB b b' m else none
  |_=>none
 |c=>bif xV c&&eqV c c' then some m else none
def mCs:List Zc->List Zc->Mt->Option Mt
 | [],[],m=>some m
 |c::cs,c'::cs',m=>
  match mC m c c' with
  |some m'=>mCs cs cs' m'
  |none=>none
 |_,_,_=>none
def mS(m:Mt):SVal->SVal->Option Mt
 | .one c,.one c'=>mC m c c'
 | .agg cs,.agg cs'=>mCs cs cs' m
 |_,_=>none
def mA:List Zb->List Zb->Mt->Option Mt
 | [],[],m=>some m
 | .s v::vs,.s v'::vs',m=>
  match mS m v v' with
  |some m'=>mA vs vs' m'
  |none=>none
 |_,_,_=>none
def zkn(hc h:Za):Nat->Mt->Option (Tr BN)
 |0,_=>none
 |f+1,⟨ρ,inv,work⟩=>
  match work with
  | []=>some ρ
  |(b,b')::ws=>
   match hc.t.get b,h.t.get b' with
   |some (.cells cs st),some (.cells cs' st')=>
    bif Nat.beq st st' then
     match mCs cs cs' ⟨ρ,inv,ws⟩ with
     |some m'=>zkn hc h f m'
     |none=>none
    else none
   |_,_=>none
structure Sum where
 g:Nat
 args:List Zb
 objs:List Zf
 res:Zb
def Sum.heap(s:Sum):Za:=⟨bn s.objs.length,Tr.ofList .z s.objs .nil⟩
def zpW(ρ:Tr BN):BN->List Zf->Bool
 |_,[]=>true
 |i,_::l=>
  match ρ.get i with
  |some _=>zpW ρ i.succ l
  |none=>false
def Sum.fits(s:Sum)(args:List Zb)(h:Za):Bool:=
 match mA s.args args ⟨.nil,.nil,[]⟩ with
 |some m=>
  match zkn s.heap h (Nat.succ s.objs.length) m with
  |some ρ=>zpW ρ .z s.objs
  |none=>false
 |none=>false
def zit:SVal->Bool
 | .one c=>xV c
 | .agg cs=>cs.all xV
def wD:Zb->Bool
 | .s v=>zit v
 | .tup vs=>vs.all zit
def zlt(h2:Za):BN->List Zf->Bool
 |_,[]=>true
 |i,.cells cs st::l=>
  match h2.t.get i with
  |some (.cells cs' st')=>ztk cs cs'&&Nat.beq st st'&&zlt h2 i.succ l
  |_=>false
 |_,_::_=>false
def Sum.chk(call:zc)(s:Sum):Bool:=
 match call (.inl s.g) s.args s.heap with
 |some (v,h2)=>eqA s.res v&&wD s.res&&zlt h2 .z s.objs
 |none=>false
def xS(g:Nat)(args:List Zb)(h:Za):List Sum->Option Zb
 | []=>none
 |s::l=>bif Nat.beq g s.g&&s.fits args h then some s.res else xS g args h l
def zcJ(sums:List Sum)(call:zc):zc
 | .inl g,args,h=>
  match xS g args h sums with
  |some v=>some (v,h)
  |none=>call (.inl g) args h
 | .inr l,args,h=>call (.inr l) args h
def zht(cc:Nat->Code->xd)(fs:Nat->Option Zj)(sums:List Sum)(n:Nat):zc:=
 Nat.rec (motive:=fun _=>zc) (fun _ _ _=>none) (fun f ih=>zcJ sums (zaV cc fs ih f)) n
def isTrue:Res->Bool
 |some (.s (.one (.bool b)),_)=>b
 |_=>false
end
theorem zkr{r:Res}(h:isTrue r=true):∃h2,r=some (.s (.one (.bool true)),h2):=by
 unfold isTrue at h
 grind
def RC(ρ:Tr BN):Zc->Zc->Prop
 | .ptr b o,c'=>∃b',c'=.ptr b' o/\ρ.get b=some b'
 | .slc b o l k e,c'=>∃b',c'=.slc b' o l k e/\ρ.get b=some b'
 |c,c'=>xV c=true/\c'=c
def Sub(ρ ρ':Tr BN):Prop:=∀b b',ρ.get b=some b'->ρ'.get b=some b'
theorem Sub.refl(ρ:Tr BN):Sub ρ ρ:=fun _ _ h=>h
theorem Sub.trans{a b c:Tr BN}(h:Sub a b)(k:Sub b c):Sub a c:=fun _ _ hh=>k _ _ (h _ _ hh)
theorem RC.mono{ρ ρ':Tr BN}(hs:Sub ρ ρ'){c c':Zc}(h:RC ρ c c'):RC ρ' c c':=by
 cases c with
 |ptr b o=>obtain⟨b',h1,h2⟩:=h;exact⟨b',h1,hs _ _ h2⟩
 |slc b o l k e=>obtain⟨b',h1,h2⟩:=h;exact⟨b',h1,hs _ _ h2⟩
 |_=>exact h
def RCs(ρ:Tr BN)(cs cs':List Zc):Prop:=cs'.length=cs.length/\∀(i:Nat) (c:Zc),cs[i]? = some c->∃c',cs'[i]? = some c'/\RC ρ c c'
theorem RCs.mono{ρ ρ':Tr BN}(hs:Sub ρ ρ'){cs cs':List Zc}(h:RCs ρ cs cs'):RCs ρ' cs cs':=
 ⟨h.1,fun i c hc=>by obtain⟨c',h1,h2⟩:=h.2 i c hc;exact⟨c',h1,h2.mono hs⟩⟩
def RS(ρ:Tr BN):SVal->SVal->Prop
 | .one c,v=>∃c',v=.one c'/\RC ρ c c'
 | .agg cs,v=>∃cs',v=.agg cs'/\RCs ρ cs cs'
theorem RS.mono{ρ ρ':Tr BN}(hs:Sub ρ ρ'){v v':SVal}(h:RS ρ v v'):RS ρ' v v':=by
 cases v with
 |one c=>obtain⟨c',h1,h2⟩:=h;exact⟨c',h1,h2.mono hs⟩
 |agg cs=>obtain⟨cs',h1,h2⟩:=h;exact⟨cs',h1,h2.mono hs⟩
structure MI (D:BN->BN->Prop) (hc h:Za) (m:Mt):Prop where
 inv:∀b b',m.ρ.get b=some b'->m.inv.get b'=some b
 pairs:∀b b',m.ρ.get b=some b'->(b,b')∈m.work\/D b b'\/∃cs cs' st,hc.t.get b=some (.cells cs st)/\h.t.get b'=some (.cells cs' st)/\RCs m.ρ cs cs'
section
variable {D:BN->BN->Prop} {hc h:Za}
theorem zrO{m m':Mt}{b b':BN}(I:MI D hc h m)(e:mB b b' m=some m'):MI D hc h m'/\Sub m.ρ m'.ρ/\m'.ρ.get b=some b':=by
 obtain⟨ρ,inv,work⟩:=m;unfold mB at e;simp only at e;split at e
 .grind[uN,Sub.refl]
 rename_i hb;split at e
 .cases e
 rename_i hi;cases e;have hsub:Sub ρ (ρ.set b b'):=by
  intro x y hx
  grind[zl]
 refine⟨⟨fun x y hx=>?_,fun x y hx=>?_⟩,hsub,zq _ _ _⟩
 .show (inv.set b' b).get y=some x;by_cases hxb:x=b
  .grind[zq]
  have hx:(ρ.set b b').get x=some y:=hx;rw[zl _ _ _ _ hxb]at hx;have h1:=I.inv x y hx
  grind[zl]
 by_cases hxb:x=b
 .grind[zq]
 have hx:(ρ.set b b').get x=some y:=hx;rw[zl _ _ _ _ hxb]at hx;rcases I.pairs x y hx with h1|h1|⟨cs,cs',st,h1,h2,h3⟩
 .grind
 .grind
 exact .inr (.inr ⟨cs,cs',st,h1,h2,h3.mono hsub⟩)
theorem zuA{m m':Mt}{c c':Zc}(I:MI D hc h m)(e:mC m c c'=some m'):MI D hc h m'/\Sub m.ρ m'.ρ/\RC m'.ρ c c':=by
 have rest:(bif xV c&&eqV c c' then some m else none)=some m'->(xV c=true->RC m'.ρ c c'\/True)->MI D hc h m'/\Sub m.ρ m'.ρ/\xV c=true/\c'=c:=by
  intro e _;cases hq:(xV c&&eqV c c')
  .grind
  rw[hq]at e;cases e;obtain⟨h1,h2⟩:=ue hq
  grind[Sub.refl,znb]
 cases c with
 |ptr b o=>
  cases c' with
  |ptr b' o'=>
   simp only[mC]at e;cases hq:Nat.beq o o'
   .grind
   rw[hq]at e;obtain⟨h1,h2,h3⟩:=zrO I e;exact⟨h1,h2,b',by rw[beq_true hq],h3⟩
  |_=>cases e
 |slc b o l k x=>
  cases c' with
  |slc b' o' l' k' x'=>
   simp only[mC]at e;cases hq:(Nat.beq o o'&&Nat.beq l l'&&Nat.beq k k'&&eqB x x')
   .grind
   rw[hq]at e;obtain⟨h1,h2,h3⟩:=zrO I e;obtain⟨q1,q2⟩:=ue hq;obtain⟨q1,q3⟩:=ue q1;obtain⟨q1,q4⟩:=ue q1;exact⟨h1,h2,b',by grind[beq_true,zjc],h3⟩
  |_=>cases e
 |_=>exact rest e (fun _=>.inr trivial)
theorem zmD:∀(cs cs':List Zc) (m m':Mt),MI D hc h m->mCs cs cs' m=some m'->MI D hc h m'/\Sub m.ρ m'.ρ/\RCs m'.ρ cs cs'
 | [],[],m,m',I,e=>by cases e;exact⟨I,Sub.refl _,rfl,fun i c hc=>by simp at hc⟩
 |c::cs,c'::cs',m,m',I,e=>by
  unfold mCs at e;split at e
  .rename_i m1 h1;obtain⟨I1,s1,r1⟩:=zuA I h1;obtain⟨I2,s2,r2⟩:=zmD cs cs' m1 m' I1 e;refine⟨I2,s1.trans s2,by simp[r2.1],fun i x hx=>?_⟩;cases i with
   |zero=>simp only[Yzf,Option.some.injEq]at hx;subst hx;exact⟨c',rfl,r1.mono s2⟩
   |succ i=>simp only[Yzm]at hx ⊢;exact r2.2 i x hx
  cases e
 | [],_::_,m,m',I,e=>by cases e
 |_::_,[],m,m',I,e=>by cases e
theorem zuz{m m':Mt}{v v':SVal}(I:MI D hc h m)(e:mS m v v'=some m'):MI D hc h m'/\Sub m.ρ m'.ρ/\RS m'.ρ v v':=by
 cases v with
 |one c=>
  cases v' with
  |one c'=>obtain⟨h1,h2,h3⟩:=zuA I e;exact⟨h1,h2,c',rfl,h3⟩
  |agg cs'=>cases e
 |agg cs=>
  cases v' with
  |one c'=>cases e
  |agg cs'=>obtain⟨h1,h2,h3⟩:=zmD _ _ _ _ I e;exact⟨h1,h2,cs',rfl,h3⟩
def RAs(ρ:Tr BN):List Zb->List Zb->Prop
 | [],[]=>True
 | .s v::vs,.s v'::vs'=>RS ρ v v'/\RAs ρ vs vs'
 |_,_=>False
theorem RAs.mono{ρ ρ':Tr BN}(hs:Sub ρ ρ'):∀{vs vs':List Zb},RAs ρ vs vs'->RAs ρ' vs vs'
 | [],[],_=>trivial
 | .s _::_,.s _::_,h=>⟨h.1.mono hs,RAs.mono hs h.2⟩
 | [],_::_,h=>h.elim
 | .tup _::_,_,h=>by cases h
 | .s _::_,[],h=>by cases h
 | .s _::_,.tup _::_,h=>by cases h
theorem zpi:∀(vs vs':List Zb) (m m':Mt),MI D hc h m->mA vs vs' m=some m'->MI D hc h m'/\Sub m.ρ m'.ρ/\RAs m'.ρ vs vs'
 | [],[],m,m',I,e=>by cases e;exact⟨I,Sub.refl _,trivial⟩
 | .s v::vs,.s v'::vs',m,m',I,e=>by
  unfold mA at e;split at e
  .rename_i m1 h1;obtain⟨I1,s1,r1⟩:=zuz I h1;obtain⟨I2,s2,r2⟩:=zpi vs vs' m1 m' I1 e;exact⟨I2,s1.trans s2,r1.mono s2,r2⟩
  cases e
 | [],_::_,m,m',I,e=>by cases e
 | .tup _::_,_,m,m',I,e=>by trivial
 | .s _::_,[],m,m',I,e=>by cases e
 | .s _::_,.tup _::_,m,m',I,e=>by cases e
theorem zbh:∀(f:Nat) (m:Mt) (ρ:Tr BN),MI (fun _ _=>False) hc h m->zkn hc h f m=some ρ->∃inv,MI (fun _ _=>False) hc h ⟨ρ,inv,[]⟩/\Sub m.ρ ρ
 |0,m,ρ,I,e=>by cases e
 |f+1,⟨ρ0,inv,work⟩,ρ,I,e=>by
  unfold zkn at e;cases work with
  |nil=>grind[Sub.refl]
  |cons p ws=>
   obtain⟨b,b'⟩:=p;simp only at e;split at e
   .rename_i cs st cs' st' h1 h2;cases hq:Nat.beq st st'
    .grind
    rw[hq]at e;simp only[Yza]at e;have hst:=beq_true hq;subst hst;rcases hm:mCs cs cs' ⟨ρ0,inv,ws⟩ with _|m1
    .grind
    rw[hm]at e;have I0:MI (fun x y=>x=b/\y=b') hc h ⟨ρ0,inv,ws⟩:=by refine⟨I.inv,fun x y hx=>?_⟩;rcases I.pairs x y hx with k|k|k<;>grind
    obtain⟨I1,s1,r1⟩:=zmD cs cs' _ m1 I0 hm;have I2:MI (fun _ _=>False) hc h m1:=by refine⟨I1.inv,fun x y hx=>?_⟩;rcases I1.pairs x y hx with k|⟨rfl,rfl⟩|k<;>grind
    obtain⟨inv',k1,k2⟩:=zbh f m1 ρ I2 e;exact⟨inv',k1,s1.trans k2⟩
   cases e
theorem y8{s:Sum}{args:List Zb}(e:s.fits args h=true):∃ρ:Tr BN,RAs ρ s.args args/\(∀b c b',ρ.get b=some b'->ρ.get c=some b'->b=c)/\
  (∀b b',ρ.get b=some b'->∃cs cs' st,s.heap.t.get b=some (.cells cs st)/\h.t.get b'=some (.cells cs' st)/\RCs ρ cs cs')/\zpW ρ .z s.objs=true:=by
 unfold Sum.fits at e;split at e
 .rename_i m hm;split at e
  .rename_i ρ hρ;have I0:MI (fun _ _=>False) s.heap h ⟨.nil,.nil,[]⟩:=⟨(fun b b' hb=>by simp_all),(fun b b' hb=>by simp_all)⟩;obtain⟨I1,s1,r1⟩:=zpi _ _ _ _ I0 hm;obtain⟨inv,I2,s2⟩:=zbh _ _ _ I1 hρ;refine⟨ρ,r1.mono s2,fun b c b' hb hc=>?_,fun b b' hb=>?_,e⟩
   .have h1:=I2.inv b b' hb;have h2:=I2.inv c b' hc
    grind
   rcases I2.pairs b b' hb with k|k|k<;>grind
  cases e
 cases e
end
section
variable {P:Program} {w0:World} {S:Nat->Prop} {φ:Phi} {h:Za} {w:World}
noncomputable def via(ρ:Tr BN)(φ:Phi):Phi:=fun b=>match ρ.get b with|some b'=>φ b'|none=>⟨0,0,0,true,none⟩
theorem yU{ρ:Tr BN}{b b':BN}(hb:ρ.get b=some b'):via ρ φ b=φ b':=by grind[via]
theorem zaE{ρ:Tr BN}{c c':Zc}(hr:RC ρ c c'):zf φ c'=zf (via ρ φ) c:=by
 cases c with
 |ptr b o=>obtain⟨b',rfl,hb⟩:=hr;grind[zf,adr,yU]
 |slc b o l k e=>obtain⟨b',rfl,hb⟩:=hr;grind[zf,adr,yU]
 |_=>obtain⟨hp,rfl⟩:=hr;first|rfl|cases hp
theorem zkQ{ρ:Tr BN}{n m:Nat}(hlt:∀b b',ρ.get b=some b'->b.toNat<m){c c':Zc}(hr:RC ρ c c')(hw:wfC φ n c'):wfC (via ρ φ) m c:=by
 cases c with
 |ptr b o=>obtain⟨b',rfl,hb⟩:=hr;exact⟨hlt _ _ hb,by rw[yU hb];exact hw.2⟩
 |slc b o l k e=>obtain⟨b',rfl,hb⟩:=hr;exact⟨⟨hlt _ _ hb,by rw[yU hb];exact hw.1.2⟩,by rw[yU hb];exact hw.2.1,hw.2.2⟩
 |_=>obtain⟨hp,rfl⟩:=hr;first|trivial|cases hp
theorem zp0{ρ:Tr BN}{cs cs':List Zc}(hr:RCs ρ cs cs'):cs'.map (zf φ)=cs.map (zf (via ρ φ)):=by
 apply Yya;intro i;rw[Lz6,Lz6];rcases hc:cs[i]? with _|c
 .have:cs'[i]? = none:=by
   have:=hr.1
   grind
  grind
 obtain⟨c',h1,h2⟩:=hr.2 i c hc
 grind[zaE]
theorem zs2{ρ:Tr BN}{v v':SVal}(hr:RS ρ v v'):zA φ v'=zA (via ρ φ) v:=by
 cases v with
 |one c=>obtain⟨c',rfl,h2⟩:=hr;exact zaE h2
 |agg cs=>obtain⟨cs',rfl,h2⟩:=hr;grind[zA,zp0]
theorem zxU{ρ:Tr BN}{n m:Nat}(hlt:∀b b',ρ.get b=some b'->b.toNat<m){v v':SVal}(hr:RS ρ v v')(hw:wfS φ n v'):wfS (via ρ φ) m v:=by
 cases v with
 |one c=>obtain⟨c',rfl,h2⟩:=hr;exact zkQ hlt h2 hw
 |agg cs=>obtain⟨cs',rfl,h2⟩:=hr;intro c hc;obtain⟨i,hi⟩:=List.mem_iff_getElem?.1 hc;obtain⟨c',h3,h4⟩:=h2.2 i c hi;exact zkQ hlt h4 (hw c' (Lz3 h3))
theorem znP{ρ:Tr BN}{n m:Nat}(hlt:∀b b',ρ.get b=some b'->b.toNat<m):∀{vs vs':List Zb},RAs ρ vs vs'->(∀x∈vs',wfA φ n x)->vs'.map (zm φ)=vs.map (zm (via ρ φ))/\∀x∈vs,wfA (via ρ φ) m x
 | [],[],_,_=>⟨rfl,fun x hx=>by cases hx⟩
 | .s v::vs,.s v'::vs',hr,hw=>by
  obtain⟨h1,h2⟩:=znP (n:=n) hlt hr.2 fun x hx=>hw x (by simp[hx]);refine⟨?_,fun x hx=>?_⟩
  .simp only[Yzu,h1,zm,zs2 hr.1]
  cases hx with
  |head=>exact zxU hlt hr.1 (hw (.s v') (by simp))
  |tail _ hm=>exact h2 x hm
 | [],_::_,hr,_=>hr.elim
 | .tup _::_,_,hr,_=>by cases hr
 | .s _::_,[],hr,_=>by cases hr
 | .s _::_,.tup _::_,hr,_=>by cases hr
theorem qY{ρ:Tr BN}:∀(l:List Zf) (i j:Nat) (o:Zf),zpW ρ (bn i) l=true->l[j]? = some o->∃b',ρ.get (bn (i+j))=some b'
 | [],i,j,o,e,hj=>by simp at hj
 |x::l,i,j,o,e,hj=>by
  unfold zpW at e;split at e
  .rename_i b' hb;cases j with
   |zero=>grind
   |succ j=>
    rw[kY]at e;obtain⟨b'',hb''⟩:=qY l (i+1) j o e (by trivial)
    grind
  cases e
theorem zeG(s:Sum)(b:BN):s.heap.t.get b=s.objs[b.toNat]?:=by have e0:BN.z=bn 0:=rfl;show (Tr.ofList .z s.objs .nil).get b=_;have:=wZ s.objs 0 (.nil:Tr Zf) b.toNat;simp_all[zS]
theorem jJ{h2:Za}:∀(l:List Zf) (i j:Nat) (o:Zf),zlt h2 (bn i) l=true->l[j]? = some o->∃cs st,o=.cells cs st/\h2.t.get (bn (i+j))=some (.cells cs st)
 | [],i,j,o,e,hj=>by simp at hj
 |x::l,i,j,o,e,hj=>by
  cases x with
  |cells cs st=>
   unfold zlt at e;split at e
   .rename_i cs' st' hb;obtain⟨e1,e2⟩:=ue e;obtain⟨e1,e3⟩:=ue e1;cases j with
    |zero=>grind[zhv,beq_true]
    |succ j=>
     rw[kY]at e2;obtain⟨cs2,st2,k1,k2⟩:=jJ l (i+1) j o e2 (by trivial)
     grind
   cases e
  |_=>cases e
theorem kJ{φ ψ:Phi}{c:Zc}(hp:xV c=true):zf φ c=zf ψ c:=by cases c<;>first|rfl|cases hp
theorem zbF{n:Nat}{c:Zc}(hp:xV c=true):wfC φ n c:=by cases c<;>first|trivial|cases hp
theorem zbE{φ ψ:Phi}{v:SVal}(hp:zit v=true):zA φ v=zA ψ v:=by
 cases v with
 |one c=>exact kJ hp
 |agg cs=>
  simp only[zA]
  congr 2
  exact YzK fun c hc=>kJ (YzI.1 hp c hc)
theorem zfq{n:Nat}{v:SVal}(hp:zit v=true):wfS φ n v:=by
 cases v with
 |one c=>exact zbF hp
 |agg cs=>exact fun c hc=>zbF (YzI.1 hp c hc)
theorem zgV{φ ψ:Phi}{v:Zb}(hp:wD v=true):zm φ v=zm ψ v:=by
 cases v with
 |s v=>exact zbE hp
 |tup vs=>
  simp only[zm]
  congr 2
  exact YzK fun c hc=>zbE (YzI.1 hp c hc)
theorem zlT{n:Nat}{v:Zb}(hp:wD v=true):wfA φ n v:=by
 cases v with
 |s v=>exact zfq hp
 |tup vs=>exact fun c hc=>zfq (YzI.1 hp c hc)
def ke(P:Program)(s:Sum):Prop:=∃call,yQ P call/\s.chk call=true
theorem ztE{s:Sum}(hs:ke P s){args:List Zb}(H:Ze w0 S φ h w)(hw:∀x∈args,wfA φ h.n.toNat x)(hf:s.fits args h=true):
  (∀as w,(callFunc s.g as).run P w=.ok (.enter s.g as) w)/\CallsIn (FR none) 0 P s.g (args.map (zm φ)).toArray w (Ret w0 S φ h s.res h):=by
 obtain⟨call,C,hchk⟩:=hs;obtain⟨ρ,hargs,hinj,hpair,hall⟩:=y8 hf;unfold Sum.chk at hchk;split at hchk
 .rename_i v h2 hcall;obtain⟨e1,e2⟩:=ue hchk;obtain⟨e1,e3⟩:=ue e1;have hv:=zjf e1;subst hv;have hn:s.heap.n.toNat=s.objs.length:=zF _;have hlt:∀b b',ρ.get b=some b'->b.toNat<s.heap.n.toNat:=by
   grind[zeG]
  have hin:∀b o,s.heap.t.get b=some o->∃b' cs cs' st,ρ.get b=some b'/\o=.cells cs st/\h.t.get b'=some (.cells cs' st)/\RCs ρ cs cs':=by
   intro b o hb;have hb':=hb;rw[zeG]at hb';obtain⟨b',hρ⟩:=qY s.objs 0 b.toNat o hall hb';rw[Yzg,zS]at hρ
   grind
  obtain⟨hconc,hwf⟩:=znP (φ:=φ) (n:=h.n.toNat) (m:=s.heap.n.toNat) hlt hargs hw;have HC:Ze w (fun k=>∃b b',ρ.get b=some b'/\k=(φ b').blk) (via ρ φ) s.heap w:=by
   refine⟨fun b o hb=>?_,fun b o hb=>?_,fun b o hb=>?_,fun b c o o' hb hc _ _ hh=>?_,fun b o hb _=>?_,rfl,rfl,rfl,LzB _,LzB _,fun _ _ _=>rfl,H.glob,fun b o hb _=>?_,fun b o hb _=>?_⟩
   .grind
   .obtain⟨b',cs,cs',st,hρ,rfl,hb',hr⟩:=hin b o hb;rw[yU hρ];exact H.okb b' _ hb'
   .obtain⟨b',cs,cs',st,hρ,rfl,hb',hr⟩:=hin b o hb;obtain⟨arr,e,g1,g2,g3,g4⟩:=H.obj b' _ hb';refine⟨arr,e,by grind[yU],fun i c hc=>?_,by grind[yU],fun c hc=>?_⟩
    .obtain⟨c',k1,k2⟩:=hr.2 i c hc
     grind[yU,zaE]
    obtain⟨i,hi⟩:=List.mem_iff_getElem?.1 hc;obtain⟨c',k1,k2⟩:=hr.2 i c hi;exact zkQ hlt k2 (g4 c' (Lz3 k1))
   .obtain⟨b',cs,cs',st,hρ,rfl,hb',_⟩:=hin b o hb;obtain⟨c',ds,ds',st2,hρc,rfl,hc',_⟩:=hin c o' hc;rw[yU hρ,yU hρc]at hh;have:=H.inj b' c' _ _ hb' hc' trivial trivial hh
    grind
   .obtain⟨b',cs,cs',st,hρ,rfl,hb',_⟩:=hin b o hb
    grind[yU]
   .obtain⟨b',cs,cs',st,hρ,rfl,hb',_⟩:=hin b o hb;rw[yU hρ];exact H.flat b' _ hb' trivial
   obtain⟨b',cs,cs',st,hρ,rfl,hb',_⟩:=hin b o hb;rw[yU hρ];exact H.ng b' _ hb' trivial
  obtain⟨hcf,hcl⟩:=(C w _ _ _ w _ _ h2 HC hwf).1 s.g hcall;refine⟨hcf,?_⟩;rw[hconc];refine hcl.mono ?_
  rintro e9 w9 ⟨φ2,rfl,he,H2,_,hle⟩
  refine⟨φ,by grind[zgV],Ext.refl _ _,?_,zlT e3,LzB _⟩;have hkeep:∀k,k<w.heap.size->(¬∃b b',ρ.get b=some b'/\k=(φ b').blk)->w9.heap[k]? = w.heap[k]?:=fun k hk hS=>H2.kept k hk hS;refine⟨H.keys,H.okb,fun b o hb=>?_,H.inj,H.own,H2.os.trans H.os,H2.tape.trans H.tape,H2.output.trans H.output,Yzl H.size H2.size,Yzl H.drawn H2.drawn,fun k hk hS=>?_,H2.glob,H.flat,H.ng⟩
  .by_cases hl:live o
   .by_cases hm:∃c c',ρ.get c=some c'/\(φ b).blk=(φ c').blk
    .obtain⟨c,c',hρ,hblk⟩:=hm;obtain⟨cs,cs',st,k1,k2,k3⟩:=hpair c c' hρ;have:=H.inj b c' _ _ hb k2 hl trivial hblk;subst this;cases hb.symm.trans k2;have k1':=k1;rw[zeG]at k1';obtain⟨cs2,st2,q1,q2⟩:=jJ s.objs 0 c.toNat _ e2 k1';rw[Yzg,zS]at q2;cases q1;obtain⟨arr,e,g1,g2,g3,g4⟩:=H2.obj c _ q2;have ec:φ2 c=φ b:=(he c (hlt _ _ hρ)).trans (yU hρ);obtain⟨_,_,_,_,_,o4⟩:=H.obj b _ hb;refine⟨arr,e,by grind,fun i x hx=>?_,by grind,o4⟩;have hi:i<cs.length:=by
      have:=(Lz0.1 hx).1;have:=k3.1;omega
     obtain⟨x',j1,j2⟩:=k3.2 i cs[i] (Lz5 hi);rw[hx]at j1;cases j1;have:=g2 i cs[i] (Lz5 hi);rw[ec]at this;rw[this,zaE j2];have hwc:wfC (via ρ φ) s.heap.n.toNat cs[i]:=zkQ hlt j2 (o4 x (Lz3 hx))
     grind[vH]
    exact(H.obj b o hb).world fun _=>hkeep _ ((H.obj b o hb).there hl) (fun⟨c,c',h1,h2⟩=>hm ⟨c,c',h1,h2⟩)
   exact(H.obj b o hb).world fun hh=>absurd hh hl
  by_cases hm:∃c c',ρ.get c=some c'/\k=(φ c').blk
  .obtain⟨c,c',hρ,rfl⟩:=hm;obtain⟨cs,cs',st,_,k2,_⟩:=hpair c c' hρ;rcases H.own c' _ k2 trivial with h1|h1<;>grind
  rw[hkeep k (Lz9 hk H.size) hm];exact H.kept k hk hS
 trivial
theorem zdu{g:Nat}{args:List Zb}{v:Zb}:∀(l:List Sum),xS g args h l=some v->∃s∈l,s.g=g/\s.fits args h=true/\s.res=v
 | [],e=>by cases e
 |s::l,e=>by
  unfold xS at e;cases hq:(Nat.beq g s.g&&s.fits args h)
  case true=>simp_all
  rw[hq]at e;obtain⟨s',k1,k2⟩:=zdu l e
  grind
theorem zdK{sums:List Sum}(hs:∀s∈sums,ke P s){call:zc}(C:yQ P call):yQ P (zcJ sums call):=by
 intro w0 S φ h w args v h2 H hw;refine⟨fun g e=>?_,fun l e=>(C w0 S φ h w args v h2 H hw).2 l e⟩;unfold zcJ at e;simp only at e;split at e
 .rename_i v' hf;cases e;obtain⟨s,h1,rfl,h3,rfl⟩:=zdu sums hf
  grind[ztE]
 exact(C w0 S φ h w args v h2 H hw).1 g e
theorem zeZ{fs:Nat->Option Zj}(hfs:zqI P fs){sums:List Sum}(hs:∀s∈sums,ke P s):∀n,yQ P (zht (zH P) fs sums n)
 |0=>zek
 |n+1=>zdK hs (ze2 (zeZ hfs hs n) hfs n)
theorem zoa{call:zc}(C:yQ P call){f:Nat}{c:Zc}{h2:Za}(e:call (.inl f) [] ⟨.z,.nil⟩=some (.s (.one c),h2))(w:World)(hG:GOk w):
  (∀as w,(callFunc f as).run P w=.ok (.enter f as) w)/\CallsIn (FR none) 0 P f #[] w (fun e w2=>∃φ,e=.returned (zf φ c)/\Below w.heap.size w w2):=by
 have H:Ze w (fun _=>False) (fun _=>⟨0,0,0,true,none⟩) ⟨.z,.nil⟩ w:=by
  have hnil:∀b,(Tr.nil:Tr Zf).get b=none:=by simp
  refine⟨?_,?_,?_,?_,?_,rfl,rfl,rfl,LzB _,LzB _,fun _ _ _=>rfl,hG,?_,?_⟩
  .simp
  .simp
  .simp
  .simp
  .simp
  .simp
  simp
 have:=(C w _ _ _ w [] _ h2 H (fun x hx=>by cases hx)).1 f e;refine⟨this.1,this.2.mono ?_⟩
 rintro e9 w9 ⟨φ2,rfl,he,H2,_,_⟩
 exact⟨φ2,rfl,⟨H2.os,H2.tape,H2.output,H2.size,fun k hk=>H2.kept k hk (fun hh=>hh)⟩⟩
end
end Go.CE
end
section
namespace Go.CE
open Go.RowKit
noncomputable section
structure Zl where
 g:Nat
 args:List Zb
 objs:List Zf
 res:Zb
 news:List Zf
def Zl.heap(s:Zl):Za:=⟨bn s.objs.length,Tr.ofList .z s.objs .nil⟩
def Zl.heap1(s:Zl):Za:=⟨bn (s.objs.length+s.news.length),Tr.ofList .z (s.objs++s.news) .nil⟩
def mR(m:Mt):Zb->Zb->Option Mt
 | .s v,.s v'=>mS m v v'
 | .tup vs,.tup vs'=>mA (vs.map .s) (vs'.map .s) m
 |_,_=>none
def zv7:BN->List Zf->Mt->Option Mt
 |_,[],m=>some m
 |i,_::l,m=>
  match mB i i m with
  |some m'=>zv7 i.succ l m'
  |none=>none
def Zl.back(s:Zl)(v:Zb)(h2:Za):Option (Tr BN):=
 match zv7 .z s.objs ⟨.nil,.nil,[]⟩ with
 |some m0=>
  match mR m0 s.res v with
  |some m=>zkn s.heap1 h2 (Nat.succ (s.objs.length+s.news.length)) m
  |none=>none
 |none=>none
def Zl.chk(call:zc)(s:Zl):Bool:=
 match call (.inl s.g) s.args s.heap with
 |some (v,h2)=>
  match s.back v h2 with
  |some ρ=>zpW ρ .z (s.objs++s.news)&&zlt h2 .z s.objs
  |none=>false
 |none=>false
def Zl.fits(s:Zl)(args:List Zb)(h:Za):Option (Tr BN):=
 match mA s.args args ⟨.nil,.nil,[]⟩ with
 |some m=>
  match zkn s.heap h (Nat.succ s.objs.length) m with
  |some ρ=>bif zpW ρ .z s.objs then some ρ else none
  |none=>none
 |none=>none
def sC(ρ:Tr BN):Zc->Option Zc
 | .ptr b o=>match ρ.get b with|some b'=>some (.ptr b' o)|none=>none
 | .slc b o l k e=>match ρ.get b with|some b'=>some (.slc b' o l k e)|none=>none
 |c=>bif xV c then some c else none
def sCs(ρ:Tr BN):List Zc->Option (List Zc)
 | []=>some []
 |c::cs=>
  match sC ρ c with
  |some c'=>match sCs ρ cs with|some cs'=>some (c'::cs')|none=>none
  |none=>none
def sS(ρ:Tr BN):SVal->Option SVal
 | .one c=>match sC ρ c with|some c'=>some (.one c')|none=>none
 | .agg cs=>match sCs ρ cs with|some cs'=>some (.agg cs')|none=>none
def sSs(ρ:Tr BN):List SVal->Option (List SVal)
 | []=>some []
 |v::vs=>
  match sS ρ v with
  |some v'=>match sSs ρ vs with|some vs'=>some (v'::vs')|none=>none
  |none=>none
def sA(ρ:Tr BN):Zb->Option Zb
 | .s v=>match sS ρ v with|some v'=>some (.s v')|none=>none
 | .tup vs=>match sSs ρ vs with|some vs'=>some (.tup vs')|none=>none
def zpX:BN->BN->List Zf->Tr BN->Tr BN
 |_,_,[],ρ=>ρ
 |i,k,_::l,ρ=>zpX i.succ k.succ l (ρ.set i k)
def zwj(ρ:Tr BN):List Zf->Za->Option Za
 | [],h=>some h
 | .cells cs st::l,h=>
  match sCs ρ cs with
  |some cs'=>zwj ρ l (h.new (.cells cs' st))
  |none=>none
 |_::_,_=>none
def Zl.app(s:Zl)(h:Za)(ρ:Tr BN):Res:=
 match zwj (zpX (bn s.objs.length) h.n s.news ρ) s.news h with
 |some h'=>match sA (zpX (bn s.objs.length) h.n s.news ρ) s.res with|some v=>some (v,h')|none=>none
 |none=>none
def qO(g:Nat)(args:List Zb)(h:Za):List Zl->Res
 | []=>none
 |s::l=>
  bif Nat.beq g s.g then
   match s.fits args h with
   |some ρ=>s.app h ρ
   |none=>qO g args h l
  else qO g args h l
def zqM(sums:List Zl)(call:zc):zc
 | .inl g,args,h=>
  match qO g args h sums with
  |some r=>some r
  |none=>call (.inl g) args h
 | .inr l,args,h=>call (.inr l) args h
def zhu(cc:Nat->Code->xd)(fs:Nat->Option Zj)(sums:List Sum)(nsums:List Zl)(n:Nat):zc:=
 Nat.rec (motive:=fun _=>zc) (fun _ _ _=>none) (fun f ih=>zqM nsums (zcJ sums (zaV cc fs ih f))) n
end
theorem zw4{D:BN->BN->Prop}{hc h:Za}{m m':Mt}:∀{v v':Zb},MI D hc h m->mR m v v'=some m'->MI D hc h m'/\Sub m.ρ m'.ρ/\
  (match v,v' with | .s a,.s b=>RS m'.ρ a b | .tup as,.tup bs=>RAs m'.ρ (as.map .s) (bs.map .s)|_,_=>False)
 | .s v,.s v',I,e=>zuz I e
 | .tup vs,.tup vs',I,e=>zpi _ _ _ _ I e
 | .s _,.tup _,_,e=>by cases e
 | .tup _,.s _,_,e=>by cases e
theorem zmC{D:BN->BN->Prop}{hc h:Za}:∀(l:List Zf) (i:Nat) (m m':Mt),MI D hc h m->zv7 (bn i) l m=some m'->MI D hc h m'/\Sub m.ρ m'.ρ/\∀j,j<l.length->m'.ρ.get (bn (i+j))=some (bn (i+j))
 | [],_,m,m',I,e=>by cases e<;>simp_all[Sub.refl]
 |o::l,i,m,m',I,e=>by
  unfold zv7 at e;split at e
  .rename_i m1 h1;obtain⟨I1,s1,r1⟩:=zrO I h1;rw[kY]at e;obtain⟨I2,s2,r2⟩:=zmC l (i+1) m1 m' I1 e;refine⟨I2,s1.trans s2,fun j hj=>?_⟩;cases j with
   |zero=>exact s2 _ _ r1
   |succ j=>grind
  cases e
theorem zt1{ρ:Tr BN}{c c':Zc}(e:sC ρ c=some c'):RC ρ c c':=by
 have rest:∀c,(bif xV c then some c else none)=some c'->xV c=true/\c'=c:=by grind
 cases c with
 |ptr b o=>
  simp only[sC]at e;split at e
  .rename_i b' hb;cases e;exact⟨b',rfl,hb⟩
  cases e
 |slc b o l k x=>
  simp only[sC]at e;split at e
  .rename_i b' hb;cases e;exact⟨b',rfl,hb⟩
  cases e
 |_=>exact rest _ e
theorem zlA{ρ:Tr BN}:∀{cs cs':List Zc},sCs ρ cs=some cs'->RCs ρ cs cs'
 | [],cs',e=>by cases e;exact⟨rfl,fun i c hc=>by simp at hc⟩
 |c::cs,cs',e=>by
  unfold sCs at e;split at e
  .rename_i c1 h1;split at e
   .rename_i cs1 h2;cases e;have r:=zlA h2;refine⟨by simp[r.1],fun i x hx=>?_⟩;cases i with
    |zero=>simp only[Yzf,Option.some.injEq]at hx;subst hx;exact⟨c1,rfl,zt1 h1⟩
    |succ i=>simp only[Yzm]at hx ⊢;exact r.2 i x hx
   cases e
  cases e
theorem zt0{ρ:Tr BN}{v v':SVal}(e:sS ρ v=some v'):RS ρ v v':=by
 cases v with
 |one c=>
  simp only[sS]at e;split at e
  .rename_i c' h;cases e;exact⟨c',rfl,zt1 h⟩
  cases e
 |agg cs=>
  simp only[sS]at e;split at e
  .rename_i c' h;cases e;exact⟨c',rfl,zlA h⟩
  cases e
def RR(ρ:Tr BN):Zb->Zb->Prop
 | .s v,.s v'=>RS ρ v v'
 | .tup vs,.tup vs'=>RAs ρ (vs.map .s) (vs'.map .s)
 |_,_=>False
theorem RR.mono{ρ ρ':Tr BN}(hs:Sub ρ ρ'){v v':Zb}(h:RR ρ v v'):RR ρ' v v':=by
 cases v with
 |s v=>cases v' with|s v'=>exact RS.mono hs h|tup _=>trivial
 |tup vs=>cases v' with|s v'=>trivial|tup vs'=>exact RAs.mono hs h
theorem zqe{ρ:Tr BN}:∀{vs vs':List SVal},sSs ρ vs=some vs'->RAs ρ (vs.map .s) (vs'.map .s)
 | [],vs',e=>by cases e;trivial
 |v::vs,vs',e=>by
  unfold sSs at e;split at e
  .rename_i v1 h1;split at e
   .rename_i vs1 h2;cases e;exact⟨zt0 h1,zqe h2⟩
   cases e
  cases e
theorem zwM{ρ:Tr BN}{v v':Zb}(e:sA ρ v=some v'):RR ρ v v':=by
 cases v with
 |s v=>
  simp only[sA]at e;split at e
  .rename_i c' h;cases e;exact zt0 h
  cases e
 |tup vs=>
  simp only[sA]at e;split at e
  .rename_i c' h;cases e;exact zqe h
  cases e
theorem znN{ρ ρ':Tr BN}{φ φ':Phi}(ha:∀b x x',ρ.get b=some x->ρ'.get b=some x'->φ' x'=φ x){c c1 c2:Zc}(h1:RC ρ c c1)(h2:RC ρ' c c2):zf φ' c2=zf φ c1:=by
 cases c with
 |ptr b o=>obtain⟨x,rfl,hx⟩:=h1;obtain⟨x',rfl,hx'⟩:=h2;grind[zf,adr]
 |slc b o l k e=>obtain⟨x,rfl,hx⟩:=h1;obtain⟨x',rfl,hx'⟩:=h2;grind[zf,adr]
 |_=>obtain⟨hp,rfl⟩:=h1;obtain⟨_,rfl⟩:=h2;exact kJ hp
theorem zgg{ρ ρ':Tr BN}{φ φ':Phi}{n n':Nat}(ha:∀b x x',ρ.get b=some x->ρ'.get b=some x'->φ' x'=φ x)(hlt:∀b x,ρ'.get b=some x->x.toNat<n'){c c1 c2:Zc}(h1:RC ρ c c1)(h2:RC ρ' c c2)(hw:wfC φ n c1):wfC φ' n' c2:=by
 cases c with
 |ptr b o=>obtain⟨x,rfl,hx⟩:=h1;obtain⟨x',rfl,hx'⟩:=h2;exact⟨hlt _ _ hx',by rw[ha b x x' hx hx'];exact hw.2⟩
 |slc b o l k e=>obtain⟨x,rfl,hx⟩:=h1;obtain⟨x',rfl,hx'⟩:=h2;exact⟨⟨hlt _ _ hx',by rw[ha b x x' hx hx'];exact hw.1.2⟩,by rw[ha b x x' hx hx'];exact hw.2.1,hw.2.2⟩
 |_=>obtain⟨hp,rfl⟩:=h1;obtain⟨_,rfl⟩:=h2;exact zbF hp
theorem zs3{ρ ρ':Tr BN}{φ φ':Phi}(ha:∀b x x',ρ.get b=some x->ρ'.get b=some x'->φ' x'=φ x){cs c1 c2:List Zc}(h1:RCs ρ cs c1)(h2:RCs ρ' cs c2):c2.map (zf φ')=c1.map (zf φ):=by
 apply Yya;intro i;rw[Lz6,Lz6];rcases hc:cs[i]? with _|c
 .have k1:c1[i]? = none:=by
   have:=h1.1
   grind
  have k2:c2[i]? = none:=by
   have:=h2.1
   grind
  grind
 obtain⟨x1,p1,q1⟩:=h1.2 i c hc;obtain⟨x2,p2,q2⟩:=h2.2 i c hc
 grind[znN]
theorem zqH{ρ ρ':Tr BN}{φ φ':Phi}(ha:∀b x x',ρ.get b=some x->ρ'.get b=some x'->φ' x'=φ x){v v1 v2:SVal}(h1:RS ρ v v1)(h2:RS ρ' v v2):zA φ' v2=zA φ v1:=by
 cases v with
 |one c=>obtain⟨c1,rfl,q1⟩:=h1;obtain⟨c2,rfl,q2⟩:=h2;exact znN ha q1 q2
 |agg cs=>obtain⟨c1,rfl,q1⟩:=h1;obtain⟨c2,rfl,q2⟩:=h2;grind[zA,zs3]
theorem znO{ρ ρ':Tr BN}{φ φ':Phi}(ha:∀b x x',ρ.get b=some x->ρ'.get b=some x'->φ' x'=φ x):∀{vs v1 v2:List SVal},RAs ρ (vs.map .s) (v1.map .s)->RAs ρ' (vs.map .s) (v2.map .s)->v2.map (zA φ')=v1.map (zA φ)
 | [],[],[],_,_=>rfl
 |v::vs,a::as,b::bs,h1,h2=>by simp only[Yzu,zqH ha h1.1 h2.1,znO ha h1.2 h2.2]
 | [],_::_,_,h,_=>h.elim
 | [],[],_::_,_,h=>h.elim
 |_::_,[],_,h,_=>h.elim
 |_::_,_::_,[],_,h=>h.elim
theorem zvF{ρ ρ':Tr BN}{φ φ':Phi}(ha:∀b x x',ρ.get b=some x->ρ'.get b=some x'->φ' x'=φ x){v v1 v2:Zb}(h1:RR ρ v v1)(h2:RR ρ' v v2):zm φ' v2=zm φ v1:=by
 cases v with
 |s v=>
  cases v1 with
  |s v1=>cases v2 with|s v2=>exact zqH ha h1 h2|tup _=>trivial
  |tup _=>trivial
 |tup vs=>
  cases v1 with
  |s v1=>trivial
  |tup v1=>cases v2 with|s v2=>trivial|tup v2=>simp only[zm,znO ha h1 h2]
theorem zdF{ρ ρ':Tr BN}{φ φ':Phi}{n n':Nat}(ha:∀b x x',ρ.get b=some x->ρ'.get b=some x'->φ' x'=φ x)(hlt:∀b x,ρ'.get b=some x->x.toNat<n'){cs c1 c2:List Zc}(h1:RCs ρ cs c1)(h2:RCs ρ' cs c2)(hw:∀c∈c1,wfC φ n c):∀c∈c2,wfC φ' n' c:=by
 intro c hc;obtain⟨i,hi⟩:=List.mem_iff_getElem?.1 hc;have hl:i<cs.length:=by have:=(Lz0.1 hi).1;have:=h2.1;omega
 obtain⟨x1,p1,q1⟩:=h1.2 i cs[i] (Lz5 hl);obtain⟨x2,p2,q2⟩:=h2.2 i cs[i] (Lz5 hl);rw[hi]at p2;cases p2;exact zgg ha hlt q1 q2 (hw x1 (Lz3 p1))
theorem zgf{ρ ρ':Tr BN}{φ φ':Phi}{n n':Nat}(ha:∀b x x',ρ.get b=some x->ρ'.get b=some x'->φ' x'=φ x)(hlt:∀b x,ρ'.get b=some x->x.toNat<n'){v v1 v2:SVal}(h1:RS ρ v v1)(h2:RS ρ' v v2)(hw:wfS φ n v1):wfS φ' n' v2:=by
 cases v with
 |one c=>obtain⟨c1,rfl,q1⟩:=h1;obtain⟨c2,rfl,q2⟩:=h2;exact zgg ha hlt q1 q2 hw
 |agg cs=>obtain⟨c1,rfl,q1⟩:=h1;obtain⟨c2,rfl,q2⟩:=h2;exact zdF ha hlt q1 q2 hw
theorem zdG{ρ ρ':Tr BN}{φ φ':Phi}{n n':Nat}(ha:∀b x x',ρ.get b=some x->ρ'.get b=some x'->φ' x'=φ x)(hlt:∀b x,ρ'.get b=some x->x.toNat<n'):∀{vs v1 v2:List SVal},RAs ρ (vs.map .s) (v1.map .s)->RAs ρ' (vs.map .s) (v2.map .s)->(∀v∈v1,wfS φ n v)->∀v∈v2,wfS φ' n' v
 | [],[],[],_,_,_=>fun v hv=>by cases hv
 |v::vs,a::as,b::bs,h1,h2,hw=>fun x hx=>by
  rcases Yzv.1 hx with rfl|hx
  .exact zgf ha hlt h1.1 h2.1 (hw a (by simp))
  exact zdG ha hlt h1.2 h2.2 (fun y hy=>hw y (by simp[hy])) x hx
 | [],_::_,_,h,_,_=>h.elim
 | [],[],_::_,_,h,_=>h.elim
 |_::_,[],_,h,_,_=>h.elim
 |_::_,_::_,[],_,h,_=>h.elim
theorem znM{ρ ρ':Tr BN}{φ φ':Phi}{n n':Nat}(ha:∀b x x',ρ.get b=some x->ρ'.get b=some x'->φ' x'=φ x)(hlt:∀b x,ρ'.get b=some x->x.toNat<n'){v v1 v2:Zb}(h1:RR ρ v v1)(h2:RR ρ' v v2)(hw:wfA φ n v1):wfA φ' n' v2:=by
 cases v with
 |s v=>
  cases v1 with
  |s v1=>cases v2 with|s v2=>exact zgf ha hlt h1 h2 hw|tup _=>trivial
  |tup _=>trivial
 |tup vs=>
  cases v1 with
  |s v1=>trivial
  |tup v1=>cases v2 with|s v2=>trivial|tup v2=>exact zdG ha hlt h1 h2 hw
theorem zs4{ρ:Tr BN}{cs cs':List Zc}(h:RCs ρ cs cs'){i:Nat}{c':Zc}(hc:cs'[i]? = some c'):∃c,cs[i]? = some c/\RC ρ c c':=by
 have hi:i<cs.length:=by have:=(Lz0.1 hc).1;have:=h.1;omega
 obtain⟨x,k1,k2⟩:=h.2 i cs[i] (Lz5 hi)
 grind
section
variable {P:Program} {w0:World} {S:Nat->Prop} {φ:Phi} {h:Za} {w:World}
theorem zjA:∀(l:List Zf) (i k:Nat) (ρ:Tr BN) (b:Nat),(zpX (bn i) (bn k) l ρ).get (bn b)=if i<=b/\b<i+l.length then some (bn (k+(b-i))) else ρ.get (bn b)
 | [],i,k,ρ,b=>by rw[Yzb (by simp)];rfl
 |o::l,i,k,ρ,b=>by
  show (zpX (bn i).succ (bn k).succ l (ρ.set (bn i) (bn k))).get (bn b)=_;rw[kY,kY,zjA l (i+1) (k+1) _ b];by_cases h1:b=i
  .subst h1;rw[Yzb (by omega),Yzd (by simp),zq,Nat.sub_self];rfl
  have hne:bn b≠bn i:=fun hh=>h1 (by have:=congrArg BN.toNat hh;grind[zF])
  grind[zl]
theorem zjB{ρ:Tr BN}:∀(l:List Zf) (h h':Za),zwj ρ l h=some h'->h'.n.toNat=h.n.toNat+l.length/\(∀b,b<h.n.toNat->h'.t.get (bn b)=h.t.get (bn b))/\
  (∀j o,l[j]? = some o->∃cs cs' st,o=.cells cs st/\RCs ρ cs cs'/\h'.t.get (bn (h.n.toNat+j))=some (.cells cs' st))/\∀b,h.n.toNat+l.length<=b->h'.t.get (bn b)=h.t.get (bn b)
 | [],h,h',e=>by cases e<;>grind
 |o::l,h,h',e=>by
  cases o with
  |cells cs st=>
   simp only[zwj]at e;split at e
   .rename_i cs' hcs;obtain⟨k1,k2,k3,k4⟩:=zjB l _ h' e;rw[yc]at k1 k2 k3 k4;have hne:∀b,b≠h.n.toNat->(h.new (.cells cs' st)).t.get (bn b)=h.t.get (bn b):=fun b hb=>
     zl _ _ _ _ (fun hh=>hb (by have:=congrArg BN.toNat hh;grind[zF]))
    refine⟨by grind,fun b hb=>?_,fun j o hj=>?_,fun b hb=>?_⟩
    .grind
    .cases j with
     |zero=>simp only[Yzf,Option.some.injEq]at hj;subst hj;refine⟨cs,cs',st,rfl,zlA hcs,?_⟩;rw[Yzy,k2 _ (by omega),zS];exact zq _ _ _
     |succ j=>grind
    grind
   cases e
  |_=>cases e
theorem zpF{s:Zl}{args:List Zb}{ρ:Tr BN}(e:s.fits args h=some ρ):RAs ρ s.args args/\(∀b c b',ρ.get b=some b'->ρ.get c=some b'->b=c)/\
  (∀b b',ρ.get b=some b'->∃cs cs' st,s.heap.t.get b=some (.cells cs st)/\h.t.get b'=some (.cells cs' st)/\RCs ρ cs cs')/\zpW ρ .z s.objs=true:=by
 unfold Zl.fits at e;split at e
 .rename_i m hm;split at e
  .rename_i ρ1 hρ;cases hq:zpW ρ1 .z s.objs
   .grind
   rw[hq]at e;cases e;have I0:MI (fun _ _=>False) s.heap h ⟨.nil,.nil,[]⟩:=⟨(fun b b' hb=>by simp_all),(fun b b' hb=>by simp_all)⟩;obtain⟨I1,s1,r1⟩:=zpi _ _ _ _ I0 hm;obtain⟨inv,I2,s2⟩:=zbh _ _ _ I1 hρ;refine⟨r1.mono s2,fun b c b' hb hc=>?_,fun b b' hb=>?_,hq⟩
   .have h1:=I2.inv b b' hb;have h2:=I2.inv c b' hc
    grind
   rcases I2.pairs b b' hb with k|k|k<;>grind
  cases e
 cases e
theorem znH{s:Zl}{v:Zb}{h2:Za}{ρ:Tr BN}(e:s.back v h2=some ρ):RR ρ s.res v/\(∀b c b',ρ.get b=some b'->ρ.get c=some b'->b=c)/\
  (∀b b',ρ.get b=some b'->∃cs cs' st,s.heap1.t.get b=some (.cells cs st)/\h2.t.get b'=some (.cells cs' st)/\RCs ρ cs cs')/\∀j,j<s.objs.length->ρ.get (bn j)=some (bn j):=by
 unfold Zl.back at e;split at e
 .rename_i m0 hm0;split at e
  .rename_i m hm;have I0:MI (fun _ _=>False) s.heap1 h2 ⟨.nil,.nil,[]⟩:=⟨(fun b b' hb=>by simp_all),(fun b b' hb=>by simp_all)⟩;obtain⟨I1,s1,r1⟩:=zmC s.objs 0 _ _ I0 hm0;obtain⟨I2,s2,r2⟩:=zw4 I1 hm;obtain⟨inv,I3,s3⟩:=zbh _ _ _ I2 e;have hr:RR m.ρ s.res v:=by
    trivial
   refine⟨hr.mono s3,fun b c b' hb hc=>?_,fun b b' hb=>?_,fun j hj=>?_⟩
   .have h1:=I3.inv b b' hb;have h2:=I3.inv c b' hc
    grind
   .rcases I3.pairs b b' hb with k|k|k<;>grind
   have:=r1 j hj;rw[Yzg]at this;exact s3 _ _ (s2 _ _ this)
  cases e
 cases e
def kE(P:Program)(s:Zl):Prop:=∃call,yQ P call/\s.chk call=true
theorem qC(l:List Zf)(n:BN)(b:BN):(⟨n,Tr.ofList .z l .nil⟩:Za).t.get b=l[b.toNat]?:=by have e0:BN.z=bn 0:=rfl;show (Tr.ofList .z l .nil).get b=_;have:=wZ l 0 (.nil:Tr Zf) b.toNat;simp_all[zS]
noncomputable def zaL(φ φ2:Phi)(ρ:Tr BN)(n N:Nat):Phi:=fun b=>if b.toNat<N then φ b else via ρ φ2 (bn (n+(b.toNat-N)))
theorem zqZ{s:Zl}(hs:kE P s){args:List Zb}(H:Ze w0 S φ h w)(hw:∀x∈args,wfA φ h.n.toNat x){ρ:Tr BN}(hf:s.fits args h=some ρ){v:Zb}{h':Za}(ha:s.app h ρ=some (v,h')):
  (∀as w,(callFunc s.g as).run P w=.ok (.enter s.g as) w)/\CallsIn (FR none) 0 P s.g (args.map (zm φ)).toArray w (Ret w0 S φ h v h'):=by
 obtain⟨call,C,hchk⟩:=hs;obtain⟨hargs,hinj,hpair,hall⟩:=zpF hf;unfold Zl.chk at hchk;split at hchk
 .rename_i v0 h2 hcall;split at hchk
  .rename_i ρc hback;obtain⟨hallc,e2⟩:=ue hchk;obtain⟨hres,hinjc,hpairc,hid⟩:=znH hback;have hn:s.heap.n.toNat=s.objs.length:=zF _;have hlt:∀b b',ρ.get b=some b'->b.toNat<s.heap.n.toNat:=by
    intro b b' hb;obtain⟨cs,cs',st,h1,_⟩:=hpair b b' hb;unfold Zl.heap at h1;rw[qC]at h1
    grind
   have hin:∀b o,s.heap.t.get b=some o->∃b' cs cs' st,ρ.get b=some b'/\o=.cells cs st/\h.t.get b'=some (.cells cs' st)/\RCs ρ cs cs':=by
    intro b o hb;have hb':=hb;unfold Zl.heap at hb';rw[qC]at hb';obtain⟨b',hρ⟩:=qY s.objs 0 b.toNat o hall hb';rw[Yzg,zS]at hρ
    grind
   obtain⟨hconc,hwf⟩:=znP (φ:=φ) (n:=h.n.toNat) (m:=s.heap.n.toNat) hlt hargs hw;have HC:Ze w (fun k=>∃b b',ρ.get b=some b'/\k=(φ b').blk) (via ρ φ) s.heap w:=by
    refine⟨fun b o hb=>?_,fun b o hb=>?_,fun b o hb=>?_,fun b c o o' hb hc _ _ hh=>?_,fun b o hb _=>?_,rfl,rfl,rfl,LzB _,LzB _,fun _ _ _=>rfl,H.glob,fun b o hb _=>?_,fun b o hb _=>?_⟩
    .grind
    .obtain⟨b',cs,cs',st,hρ,rfl,hb',hr⟩:=hin b o hb;rw[yU hρ];exact H.okb b' _ hb'
    .obtain⟨b',cs,cs',st,hρ,rfl,hb',hr⟩:=hin b o hb;obtain⟨arr,e,g1,g2,g3,g4⟩:=H.obj b' _ hb';refine⟨arr,e,by grind[yU],fun i c hc=>?_,by grind[yU],fun c hc=>?_⟩
     .obtain⟨c',k1,k2⟩:=hr.2 i c hc
      grind[yU,zaE]
     obtain⟨i,hi⟩:=List.mem_iff_getElem?.1 hc;obtain⟨c',k1,k2⟩:=hr.2 i c hi;exact zkQ hlt k2 (g4 c' (Lz3 k1))
    .obtain⟨b',cs,cs',st,hρ,rfl,hb',_⟩:=hin b o hb;obtain⟨c',ds,ds',st2,hρc,rfl,hc',_⟩:=hin c o' hc;rw[yU hρ,yU hρc]at hh;have:=H.inj b' c' _ _ hb' hc' trivial trivial hh
     grind
    .obtain⟨b',cs,cs',st,hρ,rfl,hb',_⟩:=hin b o hb
     grind[yU]
    .obtain⟨b',cs,cs',st,hρ,rfl,hb',_⟩:=hin b o hb;rw[yU hρ];exact H.flat b' _ hb' trivial
    obtain⟨b',cs,cs',st,hρ,rfl,hb',_⟩:=hin b o hb;rw[yU hρ];exact H.ng b' _ hb' trivial
   obtain⟨hcf,hcl⟩:=(C w _ _ _ w _ _ h2 HC hwf).1 s.g hcall;refine⟨hcf,?_⟩;rw[hconc];refine hcl.mono ?_
   rintro e9 w9 ⟨φ2,rfl,he,H2,hv2,hle⟩
   unfold Zl.app at ha;split at ha
   .rename_i h1 hO;split at ha
    .rename_i v1 hA;cases ha;have eN:h.n=bn h.n.toNat:=(zS _).symm;obtain⟨a1,a2,a3,a4⟩:=zjB s.news h h' hO;have hg:∀b,(zpX (bn s.objs.length) h.n s.news ρ).get b=if s.objs.length<=b.toNat/\b.toNat<s.objs.length+s.news.length then some (bn (h.n.toNat+(b.toNat-s.objs.length))) else ρ.get b:=by
      grind[zjA,zS]
     have hlt2:∀b b',ρ.get b=some b'->b'.toNat<h.n.toNat:=fun b b' hb=>by obtain⟨cs,cs',st,_,q,_⟩:=hpair b b' hb;exact H.keys b' _ q
     have agree:∀b x x',ρc.get b=some x->(zpX (bn s.objs.length) h.n s.news ρ).get b=some x'->zaL φ φ2 ρc s.objs.length h.n.toNat x'=φ2 x:=by
      intro b x x' q1 q2;rw[hg b]at q2;split at q2
      .rename_i hr;cases q2;unfold zaL;rw[zF,Yzb (by omega),show s.objs.length+(h.n.toNat+(b.toNat-s.objs.length)-h.n.toNat)=b.toNat by omega,zS,yU q1]
      have hb:=hlt b x' q2;have hi:=hid b.toNat (by omega);rw[zS,q1]at hi;cases hi;unfold zaL;rw[Yzd (hlt2 b x' q2),he _ hb,yU q2]
     have rng:∀b x',(zpX (bn s.objs.length) h.n s.news ρ).get b=some x'->x'.toNat<h'.n.toNat:=by intro b x' q;rw[hg b]at q;split at q<;>grind[zF]
     have hext:Ext h.n.toNat φ (zaL φ φ2 ρc s.objs.length h.n.toNat):=fun b hb=>by unfold zaL;rw[Yzd hb]
     have hrA:=zwM hA;have hnew:∀j o,s.news[j]? = some o->∃cs cs' cs2 st x,o=.cells cs st/\RCs (zpX (bn s.objs.length) h.n s.news ρ) cs cs'/\h'.t.get (bn (h.n.toNat+j))=some (.cells cs' st)/\ρc.get (bn (s.objs.length+j))=some x/\h2.t.get x=some (.cells cs2 st)/\RCs ρc cs cs2/\
       zaL φ φ2 ρc s.objs.length h.n.toNat (bn (h.n.toNat+j))=φ2 x/\w.heap.size<=(φ2 x).blk:=by
      intro j o hj;obtain⟨cs,cs',st,rfl,r1,g1⟩:=a3 j o hj;have hjl:=(Lz0.1 hj).1;have hj1:(s.objs++s.news)[s.objs.length+j]? = some (.cells cs st):=by rw[Lz8 (by omega),Yz5];exact hj
      obtain⟨x,hx⟩:=qY (s.objs++s.news) 0 _ _ hallc hj1;rw[Yzg]at hx;obtain⟨d1,d2,st2,k1,k2,k3⟩:=hpairc _ x hx;unfold Zl.heap1 at k1;rw[qC,zF,hj1]at k1;cases k1;refine⟨cs,cs',d2,st,x,rfl,r1,g1,hx,k2,k3,agree _ x _ hx ?_,?_⟩
      .rw[hg,zF,Yzd (by omega),Yz5]
      rcases H2.own x _ k2 trivial with⟨b,b',q1,q2⟩|q
      .exfalso;have hb:=hlt b b' q1;have e1:φ2 b=φ b':=(he b hb).trans (yU q1);obtain⟨c1,c2,st3,z1,_,_⟩:=hpair b b' q1;unfold Zl.heap at z1;rw[qC]at z1;obtain⟨c3,st4,z2,z3⟩:=jJ s.objs 0 b.toNat _ e2 z1;rw[Yzg,zS]at z3;have:=H2.inj x b _ _ k2 z3 trivial trivial (by rw[q2,e1]);subst this;have hi:=hid x.toNat (by omega);rw[zS]at hi;have:=congrArg BN.toNat (hinjc _ _ _ hx hi)
       grind[zF]
      exact q
     have hcase:∀b o,h'.t.get b=some o->(b.toNat<h.n.toNat/\h.t.get b=some o)\/∃j,b=bn (h.n.toNat+j)/\∃o',s.news[j]? = some o':=by
      intro b o hb;by_cases h1:b.toNat<h.n.toNat
      .grind[zS]
      by_cases h3:b.toNat<h.n.toNat+s.news.length
      .refine .inr ⟨b.toNat-h.n.toNat,?_,_,Lz5 (by omega)⟩;rw[show h.n.toNat+(b.toNat-h.n.toNat)=b.toNat by omega,zS]
      have:=a4 b.toNat (by omega);rw[zS]at this;rw[this]at hb;exact absurd (H.keys b o hb) h1
     have hkeep:∀k,k<w.heap.size->(¬∃b b',ρ.get b=some b'/\k=(φ b').blk)->w9.heap[k]? = w.heap[k]?:=fun k hk hS=>H2.kept k hk hS;have hold:∀b o,h.t.get b=some o->ORel φ h.n.toNat w9 b o:=by
      intro b o hb;by_cases hl:live o
      .by_cases hm:∃c c',ρ.get c=some c'/\(φ b).blk=(φ c').blk
       .obtain⟨c,c',hρ,hblk⟩:=hm;obtain⟨cs,cs',st,k1,k2,k3⟩:=hpair c c' hρ;have:=H.inj b c' _ _ hb k2 hl trivial hblk;subst this;cases hb.symm.trans k2;have k1':=k1;unfold Zl.heap at k1';rw[qC]at k1';obtain⟨cs2,st2,q1,q2⟩:=jJ s.objs 0 c.toNat _ e2 k1';rw[Yzg,zS]at q2;cases q1;obtain⟨arr,e,g1,g2,g3,g4⟩:=H2.obj c _ q2;have ec:φ2 c=φ b:=(he c (hlt _ _ hρ)).trans (yU hρ);obtain⟨_,_,_,_,_,o4⟩:=H.obj b _ hb;refine⟨arr,e,by grind,fun i x hx=>?_,by grind,o4⟩;have hi:i<cs.length:=by
         have:=(Lz0.1 hx).1;have:=k3.1;omega
        obtain⟨x',j1,j2⟩:=k3.2 i cs[i] (Lz5 hi);rw[hx]at j1;cases j1;have:=g2 i cs[i] (Lz5 hi);rw[ec]at this;rw[this,zaE j2];have hwc:wfC (via ρ φ) s.heap.n.toNat cs[i]:=zkQ hlt j2 (o4 x (Lz3 hx))
        grind[vH]
       exact(H.obj b o hb).world fun _=>hkeep _ ((H.obj b o hb).there hl) (fun⟨c,c',h1,h2⟩=>hm ⟨c,c',h1,h2⟩)
      exact(H.obj b o hb).world fun hh=>absurd hh hl
     have hle':h.n.toNat<=h'.n.toNat:=by omega
     have eold:∀b,b.toNat<h.n.toNat->zaL φ φ2 ρc s.objs.length h.n.toNat b=φ b:=fun b hb=>hext b hb;refine⟨zaL φ φ2 ρc s.objs.length h.n.toNat,by rw[zvF agree hres hrA],hext,?_,znM agree rng hres hrA hv2,hle'⟩;refine⟨fun b o hb=>?_,fun b o hb=>?_,fun b o hb=>?_,fun b c o o' hb hc hl hl' hh=>?_,fun b o hb hl=>?_,H2.os.trans H.os,H2.tape.trans H.tape,H2.output.trans H.output,Yzl H.size H2.size,Yzl H.drawn H2.drawn,fun k hk hS=>?_,H2.glob,fun b o hb hl=>?_,fun b o hb hl=>?_⟩
     .rcases hcase b o hb with⟨q,_⟩|⟨j,rfl,o',hj⟩
      .omega
      grind[zF]
     .rcases hcase b o hb with⟨q,hb'⟩|⟨j,rfl,o',hj⟩
      .rw[eold b q];exact H.okb b o hb'
      obtain⟨cs,cs',cs2,st,x,rfl,r1,g1,hx,g2,r2,ex,fr⟩:=hnew j o' hj;rw[ex];exact H2.okb x _ g2
     .rcases hcase b o hb with⟨q,hb'⟩|⟨j,rfl,o',hj⟩
      .exact(hold b o hb').extW (H.okk b o hb') hext.w hle'
      obtain⟨cs,cs',cs2,st,x,rfl,r1,g1,hx,g2,r2,ex,fr⟩:=hnew j o' hj;rw[g1]at hb;cases hb;obtain⟨arr,e,z1,z2,z3,z4⟩:=H2.obj x _ g2;refine⟨arr,e,by grind,fun i c hc=>?_,by grind,zdF agree rng r2 r1 z4⟩;obtain⟨p,hp,hpc⟩:=zs4 r1 hc;obtain⟨c2,k1,k2⟩:=r2.2 i p hp;rw[ex,znN agree k2 hpc]
      grind
     .rcases hcase b o hb with⟨q,hb'⟩|⟨j,rfl,p,hj⟩
      .rcases hcase c o' hc with⟨q',hc'⟩|⟨j',rfl,p',hj'⟩
       .rw[eold b q,eold c q']at hh;exact H.inj b c o o' hb' hc' hl hl' hh
       obtain⟨cs,cs',cs2,st,x,rfl,r1,g1,hx,g2,r2,ex,fr⟩:=hnew j' p' hj';have:=(H.obj b o hb').there hl
       grind
      obtain⟨cs,cs',cs2,st,x,rfl,r1,g1,hx,g2,r2,ex,fr⟩:=hnew j p hj;rcases hcase c o' hc with⟨q',hc'⟩|⟨j',rfl,p',hj'⟩
      .have:=(H.obj c o' hc').there hl'
       grind
      obtain⟨ds,ds',ds2,st',x',rfl,r1',g1',hx',g2',r2',ex',fr'⟩:=hnew j' p' hj';rw[ex,ex']at hh;have:=H2.inj x x' _ _ g2 g2' trivial trivial hh;subst this;have:=congrArg BN.toNat (hinjc _ _ _ hx hx');rw[zF,zF]at this
      grind
     .rcases hcase b o hb with⟨q,hb'⟩|⟨j,rfl,o',hj⟩
      .rw[eold b q];exact H.own b o hb' hl
      obtain⟨cs,cs',cs2,st,x,rfl,r1,g1,hx,g2,r2,ex,fr⟩:=hnew j o' hj;rw[ex];exact .inr (Yzl H.size fr)
     .by_cases hm:∃c c',ρ.get c=some c'/\k=(φ c').blk
      .obtain⟨c,c',hρ,rfl⟩:=hm;obtain⟨cs,cs',st,_,k2,_⟩:=hpair c c' hρ;rcases H.own c' _ k2 trivial with h1|h1<;>grind
      rw[hkeep k (Lz9 hk H.size) hm];exact H.kept k hk hS
     .rcases hcase b o hb with⟨q,hb'⟩|⟨j,rfl,o',hj⟩
      .rw[eold b q];exact H.flat b o hb' hl
      obtain⟨cs,cs',cs2,st,x,rfl,r1,g1,hx,g2,r2,ex,fr⟩:=hnew j o' hj;rw[ex];exact H2.flat x _ g2 trivial
     rcases hcase b o hb with⟨q,hb'⟩|⟨j,rfl,o',hj⟩
     .rw[eold b q];exact H.ng b o hb' hl
     obtain⟨cs,cs',cs2,st,x,rfl,r1,g1,hx,g2,r2,ex,fr⟩:=hnew j o' hj;rw[ex];exact H2.ng x _ g2 trivial
    cases ha
   cases ha
  trivial
 trivial
theorem kS{g:Nat}{args:List Zb}{r:Zb×Za}:∀(l:List Zl),qO g args h l=some r->∃s∈l,∃ρ,s.g=g/\s.fits args h=some ρ/\s.app h ρ=some r
 | [],e=>by cases e
 |s::l,e=>by
  unfold qO at e;cases hq:Nat.beq g s.g
  .rw[hq]at e;obtain⟨s',k1,k2⟩:=kS l e
   grind
  rw[hq]at e;simp only[Yza]at e;split at e
  .simp_all
  obtain⟨s',k1,k2⟩:=kS l e
  grind
theorem zod{sums:List Zl}(hs:∀s∈sums,kE P s){call:zc}(C:yQ P call):yQ P (zqM sums call):=by
 intro w0 S φ h w args v h2 H hw;refine⟨fun g e=>?_,fun l e=>(C w0 S φ h w args v h2 H hw).2 l e⟩;unfold zqM at e;simp only at e;split at e
 .rename_i r hf;cases e;obtain⟨s,h1,ρ,rfl,h3,h4⟩:=kS sums hf
  grind[zqZ]
 exact(C w0 S φ h w args v h2 H hw).1 g e
theorem zju{fs:Nat->Option Zj}(hfs:zqI P fs){sums:List Sum}(hs:∀s∈sums,ke P s){nsums:List Zl}(hn:∀s∈nsums,kE P s):∀n,yQ P (zhu (zH P) fs sums nsums n)
 |0=>zek
 |n+1=>zod hn (zdK hs (ze2 (zju hfs hs hn n) hfs n))
end
end Go.CE
end
section
namespace Go.CE
open Go.RowKit
noncomputable section
structure Srt where
 f:List Nat
 st:Nat
def ltZ:List Int->List Int->Bool
 |a::as,b::bs=>if a<b then true else if b<a then false else ltZ as bs
 |_,_=>false
def leZ(a b:List Int):Bool:=!ltZ b a
def inZ(r:List Int):Bool:=r.all fun a=>decide (-2305843009213693952<=a)&&decide (a<=2305843009213693952)
def zvE(k:Nat)(r:List Int):Prop:=r.length=k/\inZ r=true
def zcK(l:List (List Int)):List (List Int):=l.mergeSort leZ
def vI(l:List (List Int)):List Zc:=l.flatten.map (Zc.int .i64)
open Classical in
def zcW(t:Srt):List Zb->Za->Res
 | [.s (.one .nils),.s (.one (.fn f []))],h=>if f∈t.f then some (.tup [],h) else none
 | [.s (.one (.slc b off len _ _)),.s (.one (.fn f []))],h=>
  if H:f∈t.f/\off=0/\∃l:List (List Int),l.length=len/\(∀r∈l,zvE t.st r)/\h.t.get b=some (.cells (vI l) t.st)/\len<4611686018427387904 then
   some (.tup [],h.put b (.cells (vI (zcK (Classical.choose H.2.2))) t.st))
  else none
 |_,_=>none
def zdJ(srt:Nat->Option Srt)(call:zc):zc
 | .inl g,args,h=>
  match srt g with
  |some t=>zcW t args h
  |none=>call (.inl g) args h
 | .inr l,args,h=>call (.inr l) args h
def zJ(cc:Nat->Code->xd)(fs:Nat->Option Zj)(sums:List Sum)(srt:Nat->Option Srt)(n:Nat):zc:=
 Nat.rec (motive:=fun _=>zc) (fun _ _ _=>none) (fun f ih=>zdJ srt (zcJ sums (zaV cc fs ih f))) n
end
def zpY(P:Program)(g:Nat)(t:Srt):Prop:=
 ∀(w0:World) (S:Nat->Prop) (φ:Phi) (h:Za) (w:World) (args:List Zb) (v:Zb) (h2:Za),Ze w0 S φ h w->(∀x∈args,wfA φ h.n.toNat x)->zcW t args h=some (v,h2)->
  (∀as w,(callFunc g as).run P w=.ok (.enter g as) w)/\CallsIn (FR none) 0 P g (args.map (zm φ)).toArray w (Ret w0 S φ h v h2)
theorem zoc{P:Program}{srt:Nat->Option Srt}(hs:∀g t,srt g=some t->zpY P g t){call:zc}(C:yQ P call):yQ P (zdJ srt call):=by
 intro w0 S φ h w args v h2 H hw;refine⟨fun g e=>?_,fun l e=>(C w0 S φ h w args v h2 H hw).2 l e⟩;unfold zdJ at e;simp only at e;split at e
 .rename_i t ht;exact hs g t ht w0 S φ h w args v h2 H hw e
 exact(C w0 S φ h w args v h2 H hw).1 g e
theorem zjt{P:Program}{fs:Nat->Option Zj}(hfs:zqI P fs){sums:List Sum}(hs:∀s∈sums,ke P s){srt:Nat->Option Srt}(ht:∀g t,srt g=some t->zpY P g t):∀n,yQ P (zJ (zH P) fs sums srt n)
 |0=>zek
 |n+1=>zoc ht (zdK hs (ze2 (zjt hfs hs ht n) hfs n))
def zwZ:Nat->Option Srt:=fun _=>none
theorem wh{P:Program}:∀g t,zwZ g=some t->zpY P g t:=fun g t e=>by cases e
end Go.CE
end
section
namespace Go.CE
noncomputable section
abbrev Fr:=Nat->Zb
def xC(t:Tr Zb):Fr:=fun i=>zaF (bn i) t
def coK(r:Fr):Operand->Option Opd
 | .tmp t=>some (zn (r t))
 | .const v=>match znz v with|some s=>some (zn (.s s))|none=>none
 | .func f=>some (zn (.s (.one (.fn f []))))
 | .global g=>match zam g with|some _=>some (zn (.s (.one (.gptr g 0))))|none=>none
def kC(co:Operand->Option Opd):List Operand->Option (List Opd)
 | []=>some []
 |x::xs=>
  match co x,kC co xs with
  |some y,some ys=>some (y::ys)
  |_,_=>none
def zaz(co:Operand->Option Opd):Option Operand->Option (Option Opd)
 |none=>some none
 |some x=>match co x with|some y=>some (some y)|none=>none
section
variable (P:Program)
def xT(co:Operand->Option Opd)(fs:Array Field):List (Nat×Operand)->Option (List (Nat×Nat×Opd))
 | []=>some []
 |(i,x)::r=>
  match fs[i]?,co x,xT co fs r with
  |some f,some y,some rest=>
   match P.info? f.type with
   |some info=>some ((f.offset,info.size,y)::rest)
   |none=>none
  |_,_,_=>none
def xW(co:Operand->Option Opd)(size:Nat):List (Nat×Operand)->Option (List (Nat×Nat×Opd))
 | []=>some []
 |(i,x)::r=>
  match co x,xW co size r with
  |some y,some rest=>some ((i*size,size,y)::rest)
  |_,_=>none
def yV(co:Operand->Option Opd)(o:Op):zcP:=zD <| match o with
 | .move x | .assign x=>(co x).map ziC
 | .pick c a b=>do pure (u4 (<-co c) (<-co a) (<-co b))
 | .alloc t=>bif qD P t then do pure (zbf t (<-yb P t).cells) else do pure (zbT (<-yb P t).cells)
 | .box _ x=>do pure (zei (<-co x))
 | .makeInterface t x=>
  match P.underlying t with
  |some (.slice _)=>do pure (zl2 t (<-co x))
  |_=>none
 | .build t parts=>
  match P.underlying t,yb P t with
  |some (.struct fs),some z=>bif k8 P fs.toList then do pure (vB z.cells (<-xT P co fs parts.toList)) else none
  |some (.array _ e),some z=>
   match P.info? e with
   |some i=>do pure (vB z.cells (<-xW co i.size parts.toList))
   |none=>none
  |_,_=>none
 | .buildSlice t len parts=>
  match P.underlying t with
  |some (.slice e)=>
   match P.info? e with
   |some i=>
    bif Nat.ble (len*i.size) 16777216 then
     match (bif Nat.beq (len*i.size) 0 then some [] else(yb P e).map SVal.cells) with
     |some zs=>bif Nat.beq (len*i.size) 0||Nat.beq zs.length i.size then do pure (wS i.size len (v8 zs len) (<-xW co i.size parts.toList)) else none
     |none=>none
    else none
   |none=>none
  |_=>none
 | .load t x=>do pure (u7 (<-xP P t) (<-co x))
 | .store t x v=>do pure (zae (<-P.info? t).size (<-co x) (<-co v))
 | .nilCheck x=>do pure (vq (<-co x))
 | .binOp op t x y _=>
  match P.underlying t with
  |some (.int _)=>
   match op with
   | .shl=>do pure (wt zeK (<-co x) (<-co y))
   | .shr=>do pure (wt zhs (<-co x) (<-co y))
   |op=>do pure (za2 (uk op) (<-co x) (<-co y))
  |some .string=>do pure (zbN op (<-co x) (<-co y))
  |some (.slice _)=>
   match op with
   | .eql=>do pure (ui false (<-co x) (<-co y))
   | .neq=>do pure (ui true (<-co x) (<-co y))
   |_=>none
  |some (.pointer e)=>
   bif xQ P e then
   match op with
   | .eql=>do pure (vn false (<-co x) (<-co y))
   | .neq=>do pure (vn true (<-co x) (<-co y))
   |_=>none
   else none
  |some (.func _ _ _)=>
   match op with
   | .eql=>do pure (u5 false (<-co x) (<-co y))
   | .neq=>do pure (u5 true (<-co x) (<-co y))
   |_=>none
  |some _=>
   bif P.eqGuardType P.depth t then none else
   match op with
   | .eql=>do pure (ziE (<-uA P t) false (<-co x) (<-co y))
   | .neq=>do pure (ziE (<-uA P t) true (<-co x) (<-co y))
   |_=>none
  |none=>none
 | .unOp .not _ x=>do pure (zbO (<-co x))
 | .unOp .neg _ x=>do pure (zbP (<-co x))
 | .convert s d x=>
  match P.underlying s,P.underlying d with
  |some (.int _),some (.int k)=>do pure (jd k (<-co x))
  |some .string,some (.slice e)=>bif yB P e then do pure (zka (<-co x)) else none
  |some (.slice e),some .string=>bif yB P e then do pure (qv (<-co x)) else none
  |some (.pointer e),some .unsafePointer=>bif xQ P e then do pure (zeh (<-co x)) else none
  |some .unsafePointer,some (.pointer u)=>bif zkq P u then do pure (zeg u (P.cellsOf u) (<-co x)) else none
  |_,_=>none
 | .makeFunc (.func f) first captured=>bif first.isEmpty then do pure (u6 f (<-kC co captured.toList)) else none
 | .makeMap _ none=>some zbR
 | .makeSlice t l c=>
  match P.underlying t with
  |some (.slice e)=>
   match P.info? e,yb P e with
   |some i,some z=>bif Nat.beq z.cells.length i.size && !Nat.beq i.size 0 then do pure (xK i.size z.cells i.bytes (<-co l) (<-co c)) else none
   |_,_=>none
  |_=>none
 | .slice t x lo hi mx=>
  match P.underlying t with
  |some (.slice e)=>
   match P.info? e with
   |some i=>bif mx.isSome && !hi.isSome then none else do pure (vi i.size (<-co x) (<-zaz co lo) (<-zaz co hi) (<-zaz co mx))
   |none=>none
  |some (.array n e)=>
   match P.info? e with
   |some i=>bif mx.isSome && !hi.isSome then none else do pure (wR n i.size (<-co x) (<-zaz co lo) (<-zaz co hi) (<-zaz co mx))
   |none=>none
  |some .string=>bif mx.isSome then none else do pure (xE (<-co x) (<-zaz co lo) (<-zaz co hi))
  |_=>none
 | .fieldAddr t x f=>
  match P.underlying t with
  |some (.struct fs)=>
   match fs[f]? with
   |some fd=>
    match P.info? fd.type with
    |some i=>bif Nat.beq i.size 0 then none else do pure (jc (<-co x) fd.offset)
    |none=>none
   |none=>none
  |_=>none
 | .field t x f=>
  match P.underlying t with
  |some (.struct fs)=>
   match fs[f]? with
   |some fd=>do pure (vA (<-co x) fd.offset (<-xP P fd.type))
   |none=>none
  |_=>none
 | .indexAddr t x i=>
  match P.underlying t with
  |some (.slice e)=>
   match P.info? e with
   |some info=>do pure (zbS info.size (<-co x) (<-co i))
   |none=>none
  |some (.array len e)=>
   match P.info? e with
   |some info=>do pure (vu len info.size (<-co x) (<-co i))
   |none=>none
  |_=>none
 | .index t x i=>
  match P.underlying t with
  |some (.array len e)=>
   match P.info? e with
   |some info=>do pure (vz len info.size (<-xP P e) (<-co x) (<-co i))
   |none=>none
  |some .string=>do pure (vt (<-co x) (<-co i))
  |_=>none
 | .lookup t m k ok=>
  match P.underlying t with
  |some (.map key e)=>do pure (wz (<-uA P key) (<-yb P e) ok (<-co m) (<-co k))
  |_=>none
 | .mapUpdate t m k v | .insert t m k v=>
  match P.underlying t with
  |some (.map key _)=>do pure (zbQ (<-uA P key) (<-co m) (<-co k) (<-co v))
  |_=>none
 | .mapEntry t m k=>
  match P.underlying t with
  |some (.map key e)=>do pure (qt (<-uA P key) (<-yb P e) (<-co m) (<-co k))
  |_=>none
 | .entryStore _ m s v=>do pure (qu (<-co m) (<-co s) (<-co v))
 | .extract x i=>do pure (xq (<-co x) i)
 | .call c=>
  match c.callee with
  | .value f=>bif Nat.beq (vO P f) 0 then do pure (zde (<-co f) (<-kC co c.args.toList)) else zvt P co (vO P f) c.args.toList
  | .builtin .unsafeSliceData=>
   match c.args.toList with
   | [x]=>do pure (vh (<-co x))
   |_=>none
  | .builtin .unsafeString=>
   match c.argTypes.toList,c.args.toList with
   | [pt,_],[x,n]=>
    match P.underlying pt with
    |some (.pointer e)=>bif yB P e&&Nat.beq (P.cellsOf e) 1 then do pure (zfy e (<-co x) (<-co n)) else none
    |_=>none
   |_,_=>none
  | .builtin .cap=>
   match c.argTypes[0]?,c.args[0]? with
   |some t,some x=>
    match P.underlying t with
    |some (.slice _)=>do pure (zl3 (<-co x))
    |_=>none
   |_,_=>none
  | .builtin .copy=>
   match c.argTypes.toList,c.args.toList with
   | [t,t2],[d,s]=>
    match P.underlying t,P.underlying t2 with
    |some (.slice e),some (.slice _)=>
     match P.info? e with
     |some i=>bif Nat.beq i.size 0 then none else do pure (zfz i.size (<-co d) (<-co s))
     |none=>none
    |_,_=>none
   |_,_=>none
  | .builtin .len=>
   match c.argTypes[0]?,c.args[0]? with
   |some t,some x=>
    match P.underlying t with
    |some .string=>do pure (ja (<-co x))
    |some (.slice _)=>do pure (jb (<-co x))
    |some (.map _ _)=>do pure (kj (<-co x))
    |some (.array n _)=>some (ziC (zn (.s (.one (.int .i64 (.ofNat n))))))
    |_=>none
   |_,_=>none
  | .builtin .append=>
   match c.argTypes.toList,c.args.toList with
   | [t,t2],[s,x]=>
    match P.underlying t with
    |some (.slice e)=>
     match P.info? e,yb P e with
     |some i,some z=>
      bif Nat.beq z.cells.length i.size && !Nat.beq i.size 0 then
       match P.underlying t2 with
       |some (.slice _)=>bif yB P e&&Nat.beq i.size 1 then do pure (jf e i.bytes (<-co s) (<-co x)) else do pure (xF false i.size i.bytes (<-co s) (<-co x))
       |some .string=>bif Nat.beq i.size 1 then do pure (je e i.bytes (<-co s) (<-co x)) else none
       |_=>none
      else none
     |_,_=>none
    |_=>none
   |_,_=>none
  | .builtin .clear=>
   match c.argTypes[0]?,c.args[0]? with
   |some t,some x=>
    match P.underlying t with
    |some (.slice e)=>
     match P.info? e,yb P e with
     |some i,some z=>bif Nat.beq z.cells.length i.size && !Nat.beq i.size 0 then do pure (zaf i.size z.cells (<-co x)) else none
     |_,_=>none
    |_=>none
   |_,_=>none
  | .builtin .max=>
   match kC co c.args.toList with
   |some (x::xs)=>some (yY true x xs)
   |_=>none
  | .builtin .min=>
   match kC co c.args.toList with
   |some (x::xs)=>some (yY false x xs)
   |_=>none
  |_=>none
 |_=>none
end
end
section
variable {P:Program} {t:Tr Zb}
def OR(t:Tr Zb)(a b:Option Opd):Prop:=(a=none/\b=none)\/∃x y,a=some x/\b=some y/\x .nil=y t
theorem zE(x:Operand):OR t (coK (xC t) x) (zO x):=by
 cases x with
 |tmp i=>exact .inr ⟨_,_,rfl,rfl,rfl⟩
 |const v=>
  simp only[coK,zO];rcases znz v with _|s
  .exact .inl ⟨rfl,rfl⟩
  exact .inr ⟨_,_,rfl,rfl,rfl⟩
 |func f=>exact .inr ⟨_,_,rfl,rfl,rfl⟩
 |global g=>
  simp only[coK,zO];rcases zam g with _|q
  .exact .inl ⟨rfl,rfl⟩
  exact .inr ⟨_,_,rfl,rfl,rfl⟩
def LR(t:Tr Zb):List Opd->List Opd->Prop
 | [],[]=>True
 |x::xs,y::ys=>x .nil=y t/\LR t xs ys
 |_,_=>False
theorem zcr:∀l:List Operand,(kC (coK (xC t)) l=none/\uc l=none)\/∃xs ys,kC (coK (xC t)) l=some xs/\uc l=some ys/\LR t xs ys
 | []=>.inr ⟨[],[],rfl,rfl,trivial⟩
 |x::l=>by
  simp only[kC,uc];rcases zE (t:=t) x with⟨h1,h2⟩|⟨a,b,h1,h2,h3⟩
  .grind
  rw[h1,h2];rcases zcr l with⟨k1,k2⟩|⟨as,bs,k1,k2,k3⟩
  .grind
  rw[k1,k2];exact .inr ⟨_,_,rfl,rfl,h3,k3⟩
def PR(t:Tr Zb):List (Nat×Nat×Opd)->List (Nat×Nat×Opd)->Prop
 | [],[]=>True
 |x::xs,y::ys=>x.1=y.1/\x.2.1=y.2.1/\x.2.2 .nil=y.2.2 t/\PR t xs ys
 |_,_=>False
theorem ky(fs:Array Field):∀l:List (Nat×Operand),(xT P (coK (xC t)) fs l=none/\xG P fs l=none)\/∃xs ys,xT P (coK (xC t)) fs l=some xs/\xG P fs l=some ys/\PR t xs ys
 | []=>.inr ⟨[],[],rfl,rfl,trivial⟩
 |(i,x)::l=>by
  simp only[xT,xG];rcases fs[i]? with _|f
  .simp
  rcases zE (t:=t) x with⟨h1,h2⟩|⟨a,b,h1,h2,h3⟩
  .grind
  rw[h1,h2];rcases ky fs l with⟨k1,k2⟩|⟨as,bs,k1,k2,k3⟩
  .grind
  rw[k1,k2];simp only;rcases P.info? f.type with _|i
  .simp
  exact .inr ⟨_,_,rfl,rfl,rfl,rfl,h3,k3⟩
theorem uO(n:Nat):∀l:List (Nat×Operand),(xW (coK (xC t)) n l=none/\xb n l=none)\/∃xs ys,xW (coK (xC t)) n l=some xs/\xb n l=some ys/\PR t xs ys
 | []=>.inr ⟨[],[],rfl,rfl,trivial⟩
 |(i,x)::l=>by
  simp only[xW,xb];rcases zE (t:=t) x with⟨h1,h2⟩|⟨a,b,h1,h2,h3⟩
  .grind
  rw[h1,h2];rcases uO n l with⟨k1,k2⟩|⟨as,bs,k1,k2,k3⟩
  .grind
  rw[k1,k2];exact .inr ⟨_,_,rfl,rfl,rfl,rfl,h3,k3⟩
theorem qQ:∀(xs ys:List (Nat×Nat×Opd)) (cs:List Zc),PR t xs ys->zan .nil xs cs=zan t ys cs
 | [],[],_,_=>rfl
 |(a,b,x)::xs,(a',b',y)::ys,cs,⟨h1,h2,h3,h4⟩=>by
  simp only at h1 h2 h3;subst h1 h2;simp only[zan];rw[h3];cases y t with
  |tup _=>rfl
  |s v=>
   simp only;cases j7 v.cells b
   .rfl
   simp only[Yza];rcases putAt v.cells cs a with _|cs'
   .rfl
   exact qQ xs ys cs' h4
theorem zmA:∀(xs ys:List Opd),LR t xs ys->xs.map (fun x=>x .nil)=ys.map (fun x=>x t)
 | [],[],_=>rfl
 |x::xs,y::ys,⟨h1,h2⟩=>by rw[Yzu,Yzu,h1,zmA xs ys h2]
theorem zir:∀(xs ys:List Opd),LR t xs ys->zlO .nil xs=zlO t ys
 | [],[],_=>rfl
 |x::xs,y::ys,⟨h1,h2⟩=>by simp only[zlO];rw[h1,zir xs ys h2]
theorem zen(m:Bool)(k:IntKind):∀(xs ys:List Opd) (z:Int),LR t xs ys->zn8 m k .nil xs z=zn8 m k t ys z
 | [],[],_,_=>rfl
 |x::xs,y::ys,z,⟨h1,h2⟩=>by
  simp only[zn8];rw[h1];split
  .rename_i k' y' _;cases eqK k k'
   .rfl
   exact zen m k xs ys _ h2
  rfl
def QR(t:Tr Zb)(a b:Option Opd):Prop:=(a=none/\b=none)\/∃x y,a=some x/\b=some y/\x .nil=y t
theorem QR.bnd{a b:Option Opd}(h:QR t a b)(d y:Nat):bnd .nil a d y=CE.bnd t b d y:=by
 rcases h with⟨rfl,rfl⟩|⟨x,z,rfl,rfl,h⟩
 .rfl
 grind[CE.bnd]
theorem u3(x:Option Operand):(zaz (coK (xC t)) x=none/\qb x=none)\/∃a b,zaz (coK (xC t)) x=some a/\qb x=some b/\QR t a b:=by
 rcases x with _|x
 .exact .inr ⟨none,none,rfl,rfl,.inl ⟨rfl,rfl⟩⟩
 simp only[zaz,qb];rcases zE (t:=t) x with⟨h1,h2⟩|⟨a,b,h1,h2,h3⟩
 .grind
 rw[h1,h2];exact .inr ⟨_,_,rfl,rfl,.inr ⟨_,_,rfl,rfl,h3⟩⟩
theorem zgO{lo hi mx lo' hi' mx':Option Opd}(h1:QR t lo lo')(h2:QR t hi hi')(h3:QR t mx mx')(st:Nat)(h:Za)(b:BN)(off len cap:Nat):
  yT st lo hi mx .nil h b off len cap=yT st lo' hi' mx' t h b off len cap:=by
 have e1:=h1.bnd;have e2:=h2.bnd;have e3:=h3.bnd;rcases h3 with⟨rfl,rfl⟩|⟨x,z,rfl,rfl,h⟩
 .grind[yT]
 rcases h2 with⟨rfl,rfl⟩|⟨x',z',rfl,rfl,h'⟩
 .grind[yT]
 grind[yT]
variable (call:zc) (h:Za)
theorem znC(o:Op):yV P (coK (xC t)) o call .nil h=cOp P o call t h:=by
 cases o with
 |move x=>rcases zE (t:=t) x with⟨h1,h2⟩|⟨a,b,h1,h2,h3⟩<;>simp only[yV,cOp,zD,Option.map_none,YzF,ziC,yR, *]
 |assign x=>rcases zE (t:=t) x with⟨h1,h2⟩|⟨a,b,h1,h2,h3⟩<;>simp only[yV,cOp,zD,Option.map_none,YzF,ziC,yR, *]
 |pick c a b=>rcases zE (t:=t) c with⟨h1c,h2c⟩|⟨oac,obc,h1c,h2c,h3c⟩<;>rcases zE (t:=t) a with⟨h1a,h2a⟩|⟨oaa,oba,h1a,h2a,h3a⟩<;>rcases zE (t:=t) b with⟨h1b,h2b⟩|⟨oab,obb,h1b,h2b,h3b⟩<;>simp[yV,cOp,zD,yR,u4, *]
 |alloc ty=>simp only[yV,cOp];cases qD P ty<;>cases yb P ty<;>rfl
 |box ty x=>rcases zE (t:=t) x with⟨h1,h2⟩|⟨a,b,h1,h2,h3⟩<;>simp[yV,cOp,zD,yR,zei, *]
 |makeInterface ty x=>
  simp only[yV,cOp];rcases P.underlying ty with _|d
  .rfl
  cases d<;>try rfl
  rcases zE (t:=t) x with⟨h1,h2⟩|⟨a,b,h1,h2,h3⟩<;>simp[zD,yR,zl2, *]
 |build ty parts=>
  simp only[yV,cOp];rcases P.underlying ty with _|u
  .rfl
  rcases yb P ty with _|z
  .cases u<;>rfl
  cases u with
  |struct fs=>
   simp only;cases k8 P fs.toList
   .rfl
   rcases ky (P:=P) (t:=t) fs parts.toList with⟨h1,h2⟩|⟨xs,ys,h1,h2,h3⟩
   .simp only[Yza,h1,h2];rfl
   simp only[Yza,h1,h2,YzD,YzC,Yz1,zD,vB,qQ _ _ _ h3]
  |array n e=>
   simp only;rcases P.info? e with _|i
   .rfl
   rcases uO (t:=t) i.size parts.toList with⟨h1,h2⟩|⟨xs,ys,h1,h2,h3⟩
   .simp only[h1,h2];rfl
   simp only[h1,h2,YzD,YzC,Yz1,zD,vB,qQ _ _ _ h3]
  |_=>rfl
 |buildSlice ty len parts=>
  simp only[yV,cOp];rcases P.underlying ty with _|u
  .rfl
  cases u with
  |slice e=>
   simp only;rcases P.info? e with _|i
   .rfl
   simp only;cases Nat.ble (len*i.size) 16777216
   .rfl
   simp only[Yza];generalize (bif Nat.beq (len*i.size) 0 then some [] else(yb P e).map SVal.cells)=q;rcases q with _|zs
   .rfl
   simp only;generalize (Nat.beq (len*i.size) 0||Nat.beq zs.length i.size)=q2;cases q2
   .rfl
   rcases uO (t:=t) i.size parts.toList with⟨h1,h2⟩|⟨xs,ys,h1,h2,h3⟩
   .simp only[Yza,h1,h2];rfl
   simp only[Yza,h1,h2,YzD,YzC,Yz1,zD,wS,qQ _ _ _ h3]
  |_=>rfl
 |load ty x=>
  simp only[yV,cOp];rcases xP P ty with _|n
  .rfl
  rcases zE (t:=t) x with⟨h1,h2⟩|⟨a,b,h1,h2,h3⟩<;>simp[zD,yR,u7, *]
 |store ty x v=>
  simp only[yV,cOp];rcases P.info? ty with _|n
  .rfl
  rcases zE (t:=t) x with⟨h1x,h2x⟩|⟨oax,obx,h1x,h2x,h3x⟩<;>rcases zE (t:=t) v with⟨h1v,h2v⟩|⟨oav,obv,h1v,h2v,h3v⟩<;>simp[zD,yR,zae, *]
 |nilCheck x=>rcases zE (t:=t) x with⟨h1,h2⟩|⟨a,b,h1,h2,h3⟩<;>simp[yV,cOp,zD,yR,vq, *]
 |binOp op ty x y ty2=>
  simp only[yV,cOp];rcases P.underlying ty with _|u
  .rfl
  by_cases hu:∃te,u=.pointer te
  .obtain⟨te,rfl⟩:=hu;simp only;cases xQ P te
   .rfl
   rcases zE (t:=t) x with⟨h1x,h2x⟩|⟨oax,obx,h1x,h2x,h3x⟩<;>rcases zE (t:=t) y with⟨h1y,h2y⟩|⟨oay,oby,h1y,h2y,h3y⟩<;>cases op<;>first|rfl|simp[zD,yR,vn, *]
  rcases zE (t:=t) x with⟨h1x,h2x⟩|⟨oax,obx,h1x,h2x,h3x⟩<;>rcases zE (t:=t) y with⟨h1y,h2y⟩|⟨oay,oby,h1y,h2y,h3y⟩<;>simp only[h1x,h2x,h1y,h2y]
  all_goals (cases u<;>first|rfl|(exfalso;exact hu ⟨_,rfl⟩)|skip)
  all_goals (clear hu)
  all_goals (try generalize P.eqGuardType P.depth ty=q)
  all_goals (try generalize uA P ty=q2)
  all_goals (cases op<;>first|rfl|simp only[YzD,YzC,Option.bind_none,Yz1,zD,za2,wt,zbN,ui,u5, *])
  all_goals (cases q<;>first|rfl|skip)
  all_goals (cases q2<;>first|rfl|simp only[Yzc,YzC,ziE, *])
 |unOp op ty x=>cases op<;>first|rfl|(rcases zE (t:=t) x with⟨h1,h2⟩|⟨a,b,h1,h2,h3⟩<;>simp[yV,cOp,zD,yR,zbO,zbP, *])
 |convert s d x=>
  simp only[yV,cOp];rcases P.underlying s with _|u
  .rfl
  rcases P.underlying d with _|u2
  .cases u<;>rfl
  cases u<;>first|rfl|skip
  all_goals (cases u2<;>first|rfl|skip)
  case string.slice el=>cases hb:yB P el<;>rcases zE (t:=t) x with⟨h1,h2⟩|⟨a,b,h1,h2,h3⟩<;>simp[zD,yR,zka, *]
  case slice.string el=>cases hb:yB P el<;>rcases zE (t:=t) x with⟨h1,h2⟩|⟨a,b,h1,h2,h3⟩<;>simp[zD,yR,qv, *]
  case pointer.unsafePointer el=>cases hb:xQ P el<;>rcases zE (t:=t) x with⟨h1,h2⟩|⟨a,b,h1,h2,h3⟩<;>simp[zD,yR,zeh, *]
  case unsafePointer.pointer el=>cases hb:zkq P el<;>rcases zE (t:=t) x with⟨h1,h2⟩|⟨a,b,h1,h2,h3⟩<;>simp[zD,yR,zeg, *]
  all_goals (rcases zE (t:=t) x with⟨h1,h2⟩|⟨a,b,h1,h2,h3⟩<;>simp[zD,yR,jd, *])
 |makeFunc fn first captured=>
  cases fn<;>first|rfl|skip
  simp only[yV,cOp];cases first.isEmpty
  .rfl
  rcases zcr (t:=t) captured.toList with⟨h1,h2⟩|⟨xs,ys,h1,h2,h3⟩
  .simp only[Yza,h1,h2];rfl
  simp only[Yza,h1,h2,YzD,YzC,Yz1,zD,u6,zir _ _ h3]
 |makeMap ty r=>cases r<;>rfl
 |makeSlice ty l c=>
  simp only[yV,cOp];rcases P.underlying ty with _|u
  .rfl
  cases u with
  |slice e=>
   simp only;rcases P.info? e with _|i
   .rfl
   rcases yb P e with _|z
   .rfl
   simp only;generalize (Nat.beq z.cells.length i.size && !Nat.beq i.size 0)=q;cases q
   .rfl
   rcases zE (t:=t) l with⟨h1l,h2l⟩|⟨oal,obl,h1l,h2l,h3l⟩<;>rcases zE (t:=t) c with⟨h1c,h2c⟩|⟨oac,obc,h1c,h2c,h3c⟩<;>simp[zD,yR,xK, *]
  |_=>rfl
 |slice ty x lo hi mx=>
  simp only[yV,cOp];rcases P.underlying ty with _|u
  .rfl
  cases u with
  |slice e=>
   simp only;rcases P.info? e with _|i
   .rfl
   simp only;generalize (mx.isSome && !hi.isSome)=q;cases q
   case true=>rfl
   rcases zE (t:=t) x with⟨h1x,h2x⟩|⟨oax,obx,h1x,h2x,h3x⟩
   .simp only[h1x,h2x,Yzc];rfl
   rcases u3 (t:=t) lo with⟨k1,k2⟩|⟨l1,l2,k1,k2,k3⟩
   .simp only[h1x,h2x,k1,k2,Yzc];rfl
   rcases u3 (t:=t) hi with⟨m1,m2⟩|⟨g1,g2,m1,m2,m3⟩
   .simp only[h1x,h2x,k1,k2,m1,m2,Yzc];rfl
   rcases u3 (t:=t) mx with⟨n1,n2⟩|⟨j1,j2,n1,n2,n3⟩
   .simp only[h1x,h2x,k1,k2,m1,m2,n1,n2,Yzc];rfl
   simp only[h1x,h2x,k1,k2,m1,m2,n1,n2,Yzc,YzD,YzC,Yz1,zD,vi,h3x,xD,y2,zgO k3 m3 n3,k3.bnd,m3.bnd,n3.bnd]
  |array len e=>
   simp only;rcases P.info? e with _|i
   .rfl
   simp only;generalize (mx.isSome && !hi.isSome)=q;cases q
   case true=>rfl
   rcases zE (t:=t) x with⟨h1x,h2x⟩|⟨oax,obx,h1x,h2x,h3x⟩
   .simp only[h1x,h2x,Yzc];rfl
   rcases u3 (t:=t) lo with⟨k1,k2⟩|⟨l1,l2,k1,k2,k3⟩
   .simp only[h1x,h2x,k1,k2,Yzc];rfl
   rcases u3 (t:=t) hi with⟨m1,m2⟩|⟨g1,g2,m1,m2,m3⟩
   .simp only[h1x,h2x,k1,k2,m1,m2,Yzc];rfl
   rcases u3 (t:=t) mx with⟨n1,n2⟩|⟨j1,j2,n1,n2,n3⟩
   .simp only[h1x,h2x,k1,k2,m1,m2,n1,n2,Yzc];rfl
   simp only[h1x,h2x,k1,k2,m1,m2,n1,n2,Yzc,YzD,YzC,Yz1,zD,wR,h3x,y2,k3.bnd,m3.bnd,n3.bnd]
  |string=>
   simp only;cases mx.isSome
   case true=>rfl
   rcases zE (t:=t) x with⟨h1x,h2x⟩|⟨oax,obx,h1x,h2x,h3x⟩
   .simp only[h1x,h2x,Yzc];rfl
   rcases u3 (t:=t) lo with⟨k1,k2⟩|⟨l1,l2,k1,k2,k3⟩
   .simp only[h1x,h2x,k1,k2,Yzc];rfl
   rcases u3 (t:=t) hi with⟨m1,m2⟩|⟨g1,g2,m1,m2,m3⟩
   .simp only[h1x,h2x,k1,k2,m1,m2,Yzc];rfl
   simp only[h1x,h2x,k1,k2,m1,m2,Yzc,YzD,YzC,Yz1,zD,xE,h3x,k3.bnd,m3.bnd]
  |_=>rfl
 |fieldAddr ty x f=>
  simp only[yV,cOp];rcases P.underlying ty with _|u
  .rfl
  cases u with
  |struct fs=>
   simp only;rcases fs[f]? with _|fd
   .rfl
   simp only;rcases P.info? fd.type with _|i
   .rfl
   simp only;cases Nat.beq i.size 0
   case true=>rfl
   rcases zE (t:=t) x with⟨h1,h2⟩|⟨a,b,h1,h2,h3⟩<;>simp[zD,yR,jc, *]
  |_=>rfl
 |field ty x f=>
  simp only[yV,cOp];rcases P.underlying ty with _|u
  .rfl
  cases u with
  |struct fs=>
   simp only;rcases fs[f]? with _|fd
   .rfl
   simp only;rcases zE (t:=t) x with⟨h1,h2⟩|⟨a,b,h1,h2,h3⟩<;>cases xP P fd.type<;>simp[zD,yR,vA, *]
  |_=>rfl
 |indexAddr ty x i=>
  simp only[yV,cOp];rcases P.underlying ty with _|u
  .rfl
  cases u with
  |slice e=>
   simp only;rcases P.info? e with _|n
   .rfl
   rcases zE (t:=t) x with⟨h1x,h2x⟩|⟨oax,obx,h1x,h2x,h3x⟩<;>rcases zE (t:=t) i with⟨h1i,h2i⟩|⟨oai,obi,h1i,h2i,h3i⟩<;>simp[zD,yR,zbS, *]
  |array len e=>
   simp only;rcases P.info? e with _|n
   .rfl
   rcases zE (t:=t) x with⟨h1x,h2x⟩|⟨oax,obx,h1x,h2x,h3x⟩<;>rcases zE (t:=t) i with⟨h1i,h2i⟩|⟨oai,obi,h1i,h2i,h3i⟩<;>simp[zD,yR,vu, *]
  |_=>rfl
 |index ty x i=>
  simp only[yV,cOp];rcases P.underlying ty with _|u
  .rfl
  cases u with
  |array len e=>
   simp only;rcases P.info? e with _|n
   .rfl
   rcases zE (t:=t) x with⟨h1x,h2x⟩|⟨oax,obx,h1x,h2x,h3x⟩<;>rcases zE (t:=t) i with⟨h1i,h2i⟩|⟨oai,obi,h1i,h2i,h3i⟩<;>cases xP P e<;>simp[zD,yR,vz, *]
  |string=>rcases zE (t:=t) x with⟨h1x,h2x⟩|⟨oax,obx,h1x,h2x,h3x⟩<;>rcases zE (t:=t) i with⟨h1i,h2i⟩|⟨oai,obi,h1i,h2i,h3i⟩<;>simp[zD,yR,vt, *]
  |_=>rfl
 |lookup ty m k ok=>
  simp only[yV,cOp];rcases P.underlying ty with _|u
  .rfl
  cases u with
  |map key e=>simp only;rcases zE (t:=t) m with⟨h1m,h2m⟩|⟨oam,obm,h1m,h2m,h3m⟩<;>rcases zE (t:=t) k with⟨h1k,h2k⟩|⟨oak,obk,h1k,h2k,h3k⟩<;>generalize uA P key=q1<;>generalize yb P e=q2<;>cases q1<;>cases q2<;>simp only[h1m,h2m,h1k,h2k]<;>first|rfl|simp[zD,wz, *]
  |_=>rfl
 |mapUpdate ty m k v=>
  simp only[yV,cOp];rcases P.underlying ty with _|u
  .rfl
  cases u with
  |map key e=>simp only;rcases zE (t:=t) m with⟨h1m,h2m⟩|⟨oam,obm,h1m,h2m,h3m⟩<;>rcases zE (t:=t) k with⟨h1k,h2k⟩|⟨oak,obk,h1k,h2k,h3k⟩<;>rcases zE (t:=t) v with⟨h1v,h2v⟩|⟨oav,obv,h1v,h2v,h3v⟩<;>generalize uA P key=q1<;>cases q1<;>simp only[h1m,h2m,h1k,h2k]<;>first|rfl|simp[zD,yR,zbQ, *]
  |_=>rfl
 |insert ty m k v=>
  simp only[yV,cOp];rcases P.underlying ty with _|u
  .rfl
  cases u with
  |map key e=>simp only;rcases zE (t:=t) m with⟨h1m,h2m⟩|⟨oam,obm,h1m,h2m,h3m⟩<;>rcases zE (t:=t) k with⟨h1k,h2k⟩|⟨oak,obk,h1k,h2k,h3k⟩<;>rcases zE (t:=t) v with⟨h1v,h2v⟩|⟨oav,obv,h1v,h2v,h3v⟩<;>generalize uA P key=q1<;>cases q1<;>simp only[h1m,h2m,h1k,h2k]<;>first|rfl|simp[zD,yR,zbQ, *]
  |_=>rfl
 |mapEntry ty m k=>
  simp only[yV,cOp];rcases P.underlying ty with _|u
  .rfl
  cases u with
  |map key e=>simp only;rcases zE (t:=t) m with⟨h1m,h2m⟩|⟨oam,obm,h1m,h2m,h3m⟩<;>rcases zE (t:=t) k with⟨h1k,h2k⟩|⟨oak,obk,h1k,h2k,h3k⟩<;>generalize uA P key=q1<;>generalize yb P e=q2<;>cases q1<;>cases q2<;>simp only[h1m,h2m,h1k,h2k]<;>first|rfl|simp[zD,qt, *]
  |_=>rfl
 |entryStore ty m s v=>simp only[yV,cOp];rcases zE (t:=t) m with⟨h1m,h2m⟩|⟨oam,obm,h1m,h2m,h3m⟩<;>rcases zE (t:=t) s with⟨h1k,h2k⟩|⟨oak,obk,h1k,h2k,h3k⟩<;>rcases zE (t:=t) v with⟨h1v,h2v⟩|⟨oav,obv,h1v,h2v,h3v⟩<;>simp only[h1m,h2m,h1k,h2k]<;>first|rfl|simp[zD,yR,qu, *]
 |extract x i=>rcases zE (t:=t) x with⟨h1,h2⟩|⟨a,b,h1,h2,h3⟩<;>simp[yV,cOp,zD,yR,xq, *]
 |call c=>
  obtain⟨callee,args,tys⟩:=c;cases callee with
  |invoke _ _=>rfl
  |value f=>
   simp only[yV,cOp];cases hk:Nat.beq (vO P f) 0 with
   |false=>
    simp only[Yzc];unfold zvt;rcases args.toList with _|⟨x,_|⟨y,_|⟨z,l⟩⟩⟩<;>try rfl
    .simp only;rcases zE (t:=t) x with⟨h1,h2⟩|⟨a,b,h1,h2,h3⟩
     .rw[h1,h2];rfl
     rw[h1,h2];simp only;cases Nat.beq (vO P f) 1<;>cases Nat.beq (vO P f) 3<;>cases Nat.beq (vO P f) 4<;>cases Nat.beq (vO P f) 5<;>simp[zD,yR,ziC,zoU,zoV,ziD,h3]
    simp only;cases Nat.beq (vO P f) 2
    .rfl
    rcases zE (t:=t) x with⟨h1,h2⟩|⟨a,b,h1,h2,h3⟩<;>rcases zE (t:=t) y with⟨h1x,h2x⟩|⟨oax,obx,h1x,h2x,h3x⟩<;>simp[zD,yR,ziF, *]
   |true=>
   simp only[Yza];rcases zE (t:=t) f with⟨h1x,h2x⟩|⟨oax,obx,h1x,h2x,h3x⟩
   .simp only[h1x,h2x];rfl
   rcases zcr (t:=t) args.toList with⟨h1,h2⟩|⟨xs,ys,h1,h2,h3⟩
   .simp only[h1x,h2x,h1,h2];rfl
   simp only[h1x,h2x,h1,h2,YzD,YzC,Yz1,zD,zde,h3x,zmA _ _ h3]
  |builtin b=>
   cases b with
   |len=>
    simp only[yV,cOp];rcases tys[0]? with _|ty
    .rfl
    rcases args[0]? with _|x
    .rfl
    simp only;rcases P.underlying ty with _|u
    .rfl
    cases u<;>first|rfl|(rcases zE (t:=t) x with⟨h1,h2⟩|⟨a,b,h1,h2,h3⟩<;>simp[zD,yR,ja,jb,kj, *])
   |append=>
    simp only[yV,cOp];rcases tys.toList with _|⟨t1,_|⟨t2,_|⟨t3,l⟩⟩⟩<;>try rfl
    rcases args.toList with _|⟨s,_|⟨x,_|⟨y,l⟩⟩⟩<;>try rfl
    simp only;rcases P.underlying t1 with _|u
    .rfl
    cases u<;>try rfl
    rename_i e;simp only;rcases P.info? e with _|i
    .rfl
    rcases yb P e with _|z
    .rfl
    simp only;generalize (Nat.beq z.cells.length i.size && !Nat.beq i.size 0)=q;cases q
    .rfl
    rcases P.underlying t2 with _|u2
    .rfl
    generalize (yB P e&&Nat.beq i.size 1)=q6;generalize Nat.beq i.size 1=q5;rcases zE (t:=t) s with⟨h1,h2⟩|⟨a,b,h1,h2,h3⟩<;>rcases zE (t:=t) x with⟨h1x,h2x⟩|⟨oax,obx,h1x,h2x,h3x⟩<;>cases u2<;>cases q5<;>cases q6<;>first|rfl|simp[zD,yR,xF,je,jf, *]
   |unsafeSliceData=>
    simp only[yV,cOp];rcases args.toList with _|⟨x,_|⟨y,l⟩⟩<;>try rfl
    rcases zE (t:=t) x with⟨h1,h2⟩|⟨a,b,h1,h2,h3⟩<;>simp[zD,yR,vh, *]
   |unsafeString=>
    simp only[yV,cOp];rcases tys.toList with _|⟨t1,_|⟨t2,_|⟨t3,l⟩⟩⟩<;>try rfl
    rcases args.toList with _|⟨x,_|⟨y,_|⟨z,l⟩⟩⟩<;>try rfl
    simp only;rcases P.underlying t1 with _|u
    .rfl
    cases u<;>try rfl
    rename_i e;simp only;generalize (yB P e&&Nat.beq (P.cellsOf e) 1)=q;cases q
    .rfl
    rcases zE (t:=t) x with⟨h1,h2⟩|⟨a,b,h1,h2,h3⟩<;>rcases zE (t:=t) y with⟨h1x,h2x⟩|⟨oax,obx,h1x,h2x,h3x⟩<;>simp[zD,yR,zfy, *]
   |cap=>
    simp only[yV,cOp];rcases tys[0]? with _|ty
    .rfl
    rcases args[0]? with _|x
    .rfl
    simp only;rcases P.underlying ty with _|u
    .rfl
    cases u<;>first|rfl|(rcases zE (t:=t) x with⟨h1,h2⟩|⟨a,b,h1,h2,h3⟩<;>simp[zD,yR,zl3, *])
   |copy=>
    simp only[yV,cOp];rcases tys.toList with _|⟨t1,_|⟨t2,_|⟨t3,l⟩⟩⟩<;>try rfl
    rcases args.toList with _|⟨x,_|⟨y,_|⟨z,l⟩⟩⟩<;>try rfl
    simp only;rcases P.underlying t1 with _|u
    .rfl
    rcases P.underlying t2 with _|u2
    .cases u<;>rfl
    cases u<;>try rfl
    all_goals (cases u2<;>try rfl)
    rename_i e e2;simp only;rcases P.info? e with _|i
    .rfl
    simp only;generalize Nat.beq i.size 0=q;cases q
    case true=>rfl
    rcases zE (t:=t) x with⟨h1,h2⟩|⟨a,b,h1,h2,h3⟩<;>rcases zE (t:=t) y with⟨h1x,h2x⟩|⟨oax,obx,h1x,h2x,h3x⟩<;>simp[zD,yR,zfz, *]
   |clear=>
    simp only[yV,cOp];rcases tys[0]? with _|ty
    .rfl
    rcases args[0]? with _|x
    .rfl
    simp only;rcases P.underlying ty with _|u
    .rfl
    cases u<;>try rfl
    rename_i e;simp only;rcases P.info? e with _|i
    .rfl
    rcases yb P e with _|z
    .rfl
    simp only;generalize (Nat.beq z.cells.length i.size && !Nat.beq i.size 0)=q;cases q
    .rfl
    rcases zE (t:=t) x with⟨h1,h2⟩|⟨a,b,h1,h2,h3⟩<;>simp[zD,yR,zaf, *]
   |max=>
    simp only[yV,cOp];rcases zcr (t:=t) args.toList with⟨h1,h2⟩|⟨xs,ys,h1,h2,h3⟩
    .simp only[h1,h2];rfl
    simp only[h1,h2];cases xs<;>cases ys<;>first|rfl|exact h3.elim|simp only[zD,yY,h3.1,zen _ _ _ _ _ h3.2]
   |min=>
    simp only[yV,cOp];rcases zcr (t:=t) args.toList with⟨h1,h2⟩|⟨xs,ys,h1,h2,h3⟩
    .simp only[h1,h2];rfl
    simp only[h1,h2];cases xs<;>cases ys<;>first|rfl|exact h3.elim|simp only[zD,yY,h3.1,zen _ _ _ _ _ h3.2]
   |_=>rfl
 |_=>rfl
end
end Go.CE
end
section
namespace Go.CE
noncomputable section
def vM(r:Fr)(v:Zb):Option Nat->Fr
 |none=>r
 |some d=>fun i=>bif Nat.beq i d then v else r i
def z0{β:Type}(x:Res)(k:Zb->Za->Option β):Option β:=
 match x with
 |some (v,h)=>k v h
 |none=>none
def zdM(v:Zb)(b:Bool):Bool:=
 match v with
 | .s (.one (.bool c))=>c==b
 |_=>false
section
variable (P:Program)
def z9(nt:Nat)(ops:Array Oper)(o:Oper)(call:zc)(r:Fr)(h:Za):Res:=
 bif inT nt o.dst then
  match o.guard with
  |none=>yV P (coK r) o.op call .nil h
  |some (j,b)=>
   match (ops[j]?).bind (·.dst) with
   |some d=>bif Nat.ble (Nat.succ d) nt then(bif zdM (r d) b then yV P (coK r) o.op call .nil h else some (zP,h)) else none
   |none=>none
 else none
def zv4(nt:Nat)(o:Oper)(r:Fr):Option Zb:=
 match o.guard with
 |some _=>none
 |none=>
  bif inT nt o.dst then
   match o.op with
   | .move x=>(coK r x).map fun c=>c .nil
   | .assign x=>(coK r x).map fun c=>c .nil
   |_=>none
  else none
def zew{β:Type}(nt:Nat)(ops:Array Oper)(call:zc):List Oper->Fr->Za->(Fr->Za->Option β)->Option β
 | [],r,h,k=>k r h
 |o::os,r,h,k=>
  match zv4 nt o r with
  |some v=>zew nt ops call os (vM r v o.dst) h k
  |none=>z0 (z9 P nt ops o call r h) fun v h'=>zew nt ops call os (vM r v o.dst) h' k
def zkm(i:Nat):List Nat->Bool
 | []=>false
 |j::l=>bif Nat.beq i j then true else zkm i l
def zI(r:Fr)(l:List Nat):Fr:=fun i=>bif zkm i l then r i else zP
def zjX(run:Za->Res)(v:Zb):List Za->Bool
 | []=>true
 |h::hs=>
  (match run h with
  |some (v',_)=>eqA v v'
  |none=>false)&&zjX run v hs
def zqA(hs:List Za):List ((Za->Res)×Zb×Nat×Nat)->Bool
 | []=>true
 |(run,v,lo,hi)::l=>(Nat.beq lo hi||zjX run v ((hs.drop lo).take (Nat.sub (Nat.succ hi) lo)))&&zqA hs l
def kDr{β:Type}(nt:Nat)(ops:Array Oper)(call:zc)(bs:List Nat)(es:List Bool):Nat->List Oper->Fr->Za->List Za->List ((Za->Res)×Zb×Nat×Nat)->(Fr->Za->Option β)->Option β
 |_,[],r,h,hs,cs,k=>bif zqA (hs++[h]) cs then k r h else none
 |i,o::os,r,h,hs,cs,k=>
  match zv4 nt o (zI r (o.looksAt ops)) with
  |some v=>kDr nt ops call bs es (Nat.succ i) os (vM r v o.dst) h hs (cs++[(z9 P nt ops o call (zI r (o.looksAt ops)),v,ce (fun j=>bef bs j i) 0 es,ce (fun j=>!bef bs i j) 0 es)]) k
  |none=>z0 (z9 P nt ops o call (zI r (o.looksAt ops)) h) fun v h'=>
  bif yv P o.op then kDr nt ops call bs es (Nat.succ i) os (vM r v o.dst) h hs (cs++[(z9 P nt ops o call (zI r (o.looksAt ops)),v,ce (fun j=>bef bs j i) 0 es,ce (fun j=>!bef bs i j) 0 es)]) k
  else kDr nt ops call bs es (Nat.succ i) os (vM r v o.dst) h' (hs++[h]) cs k
abbrev CkG:=(Za->Res)×Zb×Nat×Nat×List Nat
def zc2(run:Za->Res)(v:Zb)(n0:Nat)(hide:List Nat)(mks:List (Nat×Nat×Zf)):Nat->List Za->Bool
 |_,[]=>true
 |k,h::hs=>
  match run ⟨h.n,zar n0 hide (kQ n0 k mks h.t)⟩ with
  |some (v',_)=>eqA v v'&&zc2 run v n0 hide mks (Nat.succ k) hs
  |none=>false
def zhM(n0:Nat)(mks:List (Nat×Nat×Zf))(hs:List Za):List CkG->Bool
 | []=>true
 |(run,v,lo,hi,hide)::l=>(Nat.beq lo hi||zc2 run v n0 hide mks lo ((hs.drop lo).take (Nat.sub (Nat.succ hi) lo)))&&zhM n0 mks hs l
def mk1(n0 c j:Nat)(t:Tr Zf):List (Nat×Nat×Zf):=
 match t.get (bn (Nat.add n0 j)) with
 |some o=>[(c,j,o)]
 |none=>[]
def zcM{β:Type}(nt:Nat)(ops:Array Oper)(call:zc)(bs:List Nat)(es:List Bool)(n0:Nat):Nat->List Oper->Fr->Za->Nat->List Za->List CkG->List (Nat×Nat×Zf)->(Fr->Za->Option β)->Option β
 |_,[],r,h,_,hs,cs,mks,k=>bif zhM n0 mks hs cs then k r h else none
 |i,o::os,r,h,c,hs,cs,mks,k=>
  bif j6 o.op then
   z0 (z9 P nt ops o call (zI r (o.looksAt ops)) ⟨bn (Nat.add n0 i),h.t⟩) fun v h'=>zcM nt ops call bs es n0 (Nat.succ i) os (vM r v o.dst) ⟨h.n,h'.t⟩ c hs cs (mks++mk1 n0 c i h'.t) k
  else
   z0 (z9 P nt ops o call (zI r (o.looksAt ops)) ⟨h.n,zar n0 (yp bs i 0 ops.toList) h.t⟩) fun v h'=>
    bif anchor P o.op then
     match ze4 n0 h.t (yp bs i 0 ops.toList) h'.t with
     |some t=>zcM nt ops call bs es n0 (Nat.succ i) os (vM r v o.dst) ⟨h'.n,t⟩ (Nat.succ c) (hs++[⟨h'.n,t⟩]) cs mks k
     |none=>none
    else zcM nt ops call bs es n0 (Nat.succ i) os (vM r v o.dst) h c hs (cs++[(z9 P nt ops o call (zI r (o.looksAt ops)),v,ce (fun j=>bef bs j i) 0 es,ce (fun j=>!bef bs i j) 0 es,yp bs i 0 ops.toList)]) mks k
def za4(c:List Zb->Za->List BN->Option (Zg×List Zb×Za×List BN)):Nat->List Zb->Za->List BN->Option (Zg×List Zb×Za×List BN)
 |0,_,_,_=>none
 |n+1,r,h,d=>
  match c r h d with
  |some (.normal,r',h',d')=>za4 c n r' h' d'
  |x=>x
def km{β:Type}(x:Option (Zg×List Zb×Za×List BN))(kx:Nat->List Zb->Za->List BN->Option β)(kr:List Zb->Za->List BN->Option β):Option β:=
 match x with
 |some (.exit id,r,h,d)=>kx id r h d
 |some (.ret,r,h,d)=>kr r h d
 |_=>none
def ifK{β:Type}(v:Zb)(a b:Option β):Option β:=
 match v with
 | .s (.one (.bool q))=>bif q then a else b
 |_=>none
abbrev KK(β:Type):=Zg->Fr->Za->List BN->Option β
def zqW{β:Type}(a:Fr->Za->List BN->Option β)(k:KK β):KK β
 | .normal,r,h,d=>a r h d
 | .exit id,r,h,d=>k (.exit id) r h d
 | .ret,r,h,d=>k .ret r h d
def zue{β:Type}(id:Nat)(k:KK β):KK β
 | .exit id',r,h,d=>bif Nat.beq id' id then k .normal r h d else k (.exit id') r h d
 | .normal,r,h,d=>k .normal r h d
 | .ret,r,h,d=>k .ret r h d
def wm{β:Type}(l:BN)(k:Zg->Za->Option β):Res->Option β
 |some (_,h)=>
  match h.t.get l with
  |some (.loop st pend lf ln lt lps la lb ld)=>
   match st with
   | .busy=>none
   |_=>k (pend.getD .normal) (h.put l (.loop .exhausted pend lf ln lt lps la lb ld))
  |_=>none
 |none=>none
def writes:Code->List Nat
 | .region _ ops _=>ops.toList.filterMap (·.dst)
 | .seq a b=>writes a++writes b
 | .cond _ a b=>writes a++writes b
 | .block _ c=>writes c
 | .loop c=>writes c
 |_=>[]
def zv3:List Zb->Nat->Zb
 | [],_=>zP
 |v::l,n=>bif Nat.beq n 0 then v else zv3 l (Nat.sub n 1)
def zkl:List Nat->Nat->Fr->List Zb->Fr
 | [],_,r,_=>r
 |w::W,k,r,ys=>fun i=>bif Nat.beq i w then zv3 ys k else zkl W (Nat.succ k) r ys i
def yG(nt:Nat)(call:zc)(f fn:Nat)(top:Bool):Code->{β:Type}->Fr->Za->List BN->KK β->Option β
 | .skip,_,r,h,d,k=>k .normal r h d
 | .region _ ops draw,_,r,h,d,k=>
  bif draw then(bif P.follows .mixedOrders&&qT P ops (y5 ops.toList) then kDr P nt ops call (y5 ops.toList) (qS P ops.toList) 0 ops.toList r h [] [] (fun r h=>k .normal r h d)
   else bif P.follows .mixedOrders&&uP P ops (y5 ops.toList) then zcM P nt ops call (y5 ops.toList) (jG P ops.toList) h.n.toNat 0 ops.toList r ⟨bn (Nat.add h.n.toNat ops.toList.length),h.t⟩ 0 [⟨bn (Nat.add h.n.toNat ops.toList.length),h.t⟩] [] [] (fun r h=>k .normal r h d) else none)
  else zew P nt ops call ops.toList r h (fun r h=>k .normal r h d)
 | .seq a b,_,r,h,d,k=>yG nt call f fn top a r h d (zqW (fun r h d=>yG nt call f fn top b r h d k) k)
 | .cond c a b,_,r,h,d,k=>
  match coK r c with
  |some c=>ifK (c .nil) (yG nt call f fn top a r h d k) (yG nt call f fn top b r h d k)
  |none=>none
 | .block id c,_,r,h,d,k=>yG nt call f fn top c r h d (zue id k)
 | .loop c,_,r,h,d,k=>km (za4 (fun ys h d=>yG nt call f fn top c (zkl (writes c) 0 r ys) h d (fun e s h d=>some (e,(writes c).map s,h,d))) f ((writes c).map r) h d)
   (fun id ys h d=>k (.exit id) (zkl (writes c) 0 r ys) h d) (fun ys h d=>k .ret (zkl (writes c) 0 r ys) h d)
 | .rangeFunc g ps assign body,_,r,h,d,k=>
  bif top then
   match coK r g with
   |some gv=>
    match gv .nil with
    | .s (.one (.fn gf caps))=>wm (h.new .defer).n (fun e h'=>k e r h' (h.n::d)) (call (.inl gf) ([.s (.one (.yld (h.new .defer).n))]++caps.map fun p=>.s (.one (.ptr p.1 p.2))) ((h.new .defer).new (.loop .ready none fn nt (xY r nt) ps assign body h.n)))
    |_=>none
   |none=>none
  else none
 | .exit id,_,r,h,d,k=>k (.exit id) r h d
 | .ret,_,r,h,d,k=>k .ret r h d
 |_,_,_,_,_,_=>none
def zvR(v:Zb):Option SVal:=
 match v with
 | .s v=>some v
 |_=>none
def zvS(n:Option Nat)(v:Zb)(h:Za):Option SVal:=
 match v with
 | .s (.one (.ptr b off))=>uE n off (h.t.get b)
 |_=>none
def zkF(v:Option SVal)(l:Option (List SVal)):Option (List SVal):=
 match v with
 |some v=>x6 v l
 |none=>none
def zaa(r:Fr)(h:Za):ResultVar->Option SVal
 | .tmp i=>zvR (r i)
 | .cell i t=>
  match xP P t with
  |some n=>zvS n (r i) h
  |none=>none
def jX(r:Fr)(h:Za):List ResultVar->Option (List SVal)
 | []=>some []
 |x::rs=>zkF (zaa P r h x) (jX r h rs)
def zfV(rs:List ResultVar):Zg->Fr->Za->List BN->Res
 | .exit _,_,_,_=>none
 |_,r,h,d=>
  match shut d h with
  |some h'=>zeL h' (jX P r h' rs)
  |none=>none
def zpq(g:Nat)(call:zc)(f:Nat)(args:List Zb)(h:Za):Res:=
 match P.funcs[g]? with
 |some fn=>
  match fn.body with
  |some c=>bif (ze0 P fn.results.toList).isNone||fn.name == "runtime.NumGoroutine" then none else bif zpm args fn.ntmps then yG P fn.ntmps call f g true c (xC (wj .z .nil args)) h [] (zfV P fn.results.toList) else none
  |none=>none
 |none=>none
end
end
section
variable {P:Program} {nt:Nat}
theorem beq_iff(a b:Nat):Nat.beq a b=true↔a=b:=⟨Lz1,fun h=>by simp_all⟩
theorem wi(t:Tr Zb)(v:Zb)(d:Option Nat):xC (zbv t v (d.map bn))=vM (xC t) v d:=by cases d<;>grind[xC,zbv,vM,zaF,beq_iff,zq,uz,zl]
theorem zqN(t:Tr Zb)(g:Nat)(b:Bool):want t (some (bn g,b))=zdM (xC t g) b:=by
 simp only[want,xC,zaF];cases t.get (bn g) with
 |none=>rfl
 |some v=>cases v with
  |tup _=>rfl
  |s v=>cases v with
   |agg _=>rfl
   |one c=>cases c<;>rfl
theorem jQ(ops:Array Oper)(o:Oper)(call:zc)(t:Tr Zb)(h:Za)(v:Zb)(h':Za)(e:z9 P nt ops o call (xC t) h=some (v,h')):
  xw call (yF P nt ops o) t h=some (v,h')/\(yF P nt ops o).dst=o.dst.map bn:=by
 unfold z9 at e;unfold yF;cases hin:inT nt o.dst
 .grind
 rw[hin]at e;simp only[Yza]at e ⊢;rcases hg:o.guard with _|p
 .rw[hg]at e;simp only[znC]at e;trivial
 grind[znC,xw,zqN]
theorem zm8(call:zc)(o:Zm)(t:Tr Zb)(h:Za):zaU call o t h=zww t o.dst (xw call o t h):=by obtain⟨d,op,g⟩:=o;simp only[zaU,xw];cases want t g<;>rfl
theorem xe{r:Fr}{v:Zb}{d:Option Nat}{i:Nat}(h:d≠some i):vM r v d i=r i:=by
 rcases d with _|d
 .rfl
 grind[vM,beq_iff]
theorem zg8{ops:Array Oper}{o:Oper}{call:zc}{r:Fr}{v:Zb}(e:zv4 nt o r=some v)(h:Za):z9 P nt ops o call r h=some (v,h)/\yv P o.op=true:=by
 unfold zv4 at e;unfold z9;cases hg:o.guard
 case some=>grind
 rw[hg]at e;simp only at e ⊢;cases hi:inT nt o.dst
 .grind
 rw[hi]at e;simp only[Yza]at e ⊢;split at e
 .rename_i x hx;rw[hx];simp only[yV,yv];rcases hc:coK r x with _|c
  .grind
  rw[hc]at e;cases e;trivial
 .rename_i x hx;rw[hx];simp only[yV,yv];rcases hc:coK r x with _|c
  .grind
  rw[hc]at e;cases e;trivial
 cases e
theorem jn{β:Type}(ops:Array Oper)(call:zc)(o:Oper)(os:List Oper)(r:Fr)(h:Za)(k:Fr->Za->Option β):
  zew P nt ops call (o::os) r h k=z0 (z9 P nt ops o call r h) fun v h'=>zew P nt ops call os (vM r v o.dst) h' k:=by
 rw[zew];split
 .rename_i v hv;rw[(zg8 hv h).1];rfl
 rfl
theorem ziU{β:Type}(ops:Array Oper)(call:zc)(bs:List Nat)(es:List Bool)(i:Nat)(o:Oper)(os:List Oper)(r:Fr)(h:Za)(hs:List Za)(cs:List ((Za->Res)×Zb×Nat×Nat))(k:Fr->Za->Option β):
  kDr P nt ops call bs es i (o::os) r h hs cs k=z0 (z9 P nt ops o call (zI r (o.looksAt ops)) h) fun v h'=>
   bif yv P o.op then kDr P nt ops call bs es (Nat.succ i) os (vM r v o.dst) h hs (cs++[(z9 P nt ops o call (zI r (o.looksAt ops)),v,ce (fun j=>bef bs j i) 0 es,ce (fun j=>!bef bs i j) 0 es)]) k
   else kDr P nt ops call bs es (Nat.succ i) os (vM r v o.dst) h' (hs++[h]) cs k:=by
 rw[kDr];split
 .rename_i v hv;rw[(zg8 hv h).1];simp only[z0];rw[(zg8 (P:=P) (ops:=ops) (call:=call) hv h).2];rfl
 rfl
theorem zmQ{β:Type}(ops:Array Oper)(call:zc):∀(os:List Oper) (t:Tr Zb) (h:Za) (k:Fr->Za->Option β) (x:β),zew P nt ops call os (xC t) h k=some x->
  ∃t' h',zkC call (os.map (yF P nt ops)) t h=some (t',h')/\k (xC t') h'=some x/\∀i,i∉os.filterMap (·.dst)->xC t' i=xC t i
 | [],t,h,k,x,e=>⟨t,h,rfl,e,fun _ _=>rfl⟩
 |o::os,t,h,k,x,e=>by
  rw[jn]at e;simp only[z0]at e;split at e
  .rename_i v h' hq;obtain⟨e1,e2⟩:=jQ ops o call t h v h' hq;rw[<-wi]at e;obtain⟨t',h'',e3,e4,e5⟩:=zmQ ops call os _ _ _ _ e;refine⟨t',h'',?_,e4,fun i hi=>?_⟩
   .rw[Yzu,zdy,zm8,e1,e2];exact e3
   simp only[List.filterMap_cons]at hi;rw[e5 i,wi,xe]
   .grind
   grind
  cases e
theorem qy(i:Nat):∀l:List Nat,zkm i l=true↔i∈l
 | []=>by simp[zkm]
 |j::l=>by
  simp only[zkm,Yzv];cases hq:Nat.beq i j
  case true=>simp_all
  have:i≠j:=fun e=>by simp_all
  simp[this,qy i l]
theorem jR(t:Tr Zb)(l:List Nat):xC (uC t (l.map bn))=zI (xC t) l:=by
 funext i
 simp only[xC,zI,zaF];rw[vg];have hm:bn i∈l.map bn↔i∈l:=⟨fun h=>by grind[uz],fun h=>List.mem_map_of_mem h⟩;cases hq:zkm i l
 case true=>simp_all[qy]
 rw[Yzb (fun hh=>by grind[qy])];rfl
theorem zif{call:zc}{ops:Array Oper}{o:Oper}{t:Tr Zb}{v:Zb}:∀hs:List Za,zjX (z9 P nt ops o call (xC t)) v hs=true->sameAt call (yF P nt ops o) t v hs=true
 | [],_=>rfl
 |h::hs,e=>by
  simp only[zjX]at e;obtain⟨e1,e2⟩:=ue e;unfold sameAt;split at e1
  .rename_i v' h' hq;obtain⟨k1,_⟩:=jQ ops o call t h v' h' hq;rw[k1];simp only;rw[e1,zif hs e2];rfl
  cases e1
def CkR(P:Program)(nt:Nat)(ops:Array Oper)(call:zc):List ((Za->Res)×Zb×Nat×Nat)->List (Zi×Tr Zb×Zb)->Prop
 | [],l=>∀x∈l,x.1.eff=true
 |(run,v,lo,hi)::cs,l=>∃pre d tr rest,l=pre++(d,tr,v)::rest/\(∀x∈pre,x.1.eff=true)/\d.lo=lo/\d.hi=hi/\(∃o,d.rop=yF P nt ops o/\run=z9 P nt ops o call (xC tr))/\CkR P nt ops call cs rest
theorem zkI(call:zc)(hs:List Za)(l l':List (Zi×Tr Zb×Zb)):vZ call hs (l++l')=(vZ call hs l&&vZ call hs l'):=by induction l<;>grind[vZ]
theorem zay(call:zc)(hs:List Za):∀l:List (Zi×Tr Zb×Zb),(∀x∈l,x.1.eff=true)->vZ call hs l=true
 | [],_=>rfl
 |(d,tr,v)::l,h=>by simp only[vZ];rw[h _ (Yzk ..),zay call hs l fun x hx=>h x (Yzi _ hx)];rfl
theorem zjp{call:zc}{ops:Array Oper}{hs:List Za}:∀(cs:List ((Za->Res)×Zb×Nat×Nat)) (l:List (Zi×Tr Zb×Zb)),CkR P nt ops call cs l->zqA hs cs=true->vZ call hs l=true
 | [],l,h,_=>zay call hs l h
 |(run,v,lo,hi)::cs,l,⟨pre,d,tr,rest,h1,h2,h3,h4,⟨o,h5,h6⟩,h7⟩,e=>by
  subst h1 h3 h4 h6;simp only[zqA]at e;obtain⟨e1,e2⟩:=ue e;rw[zkI,zay call hs pre h2];simp only[vZ,Yyc];rw[zjp cs rest h7 e2,Yyi];rcases YzB _ _ |>.mp e1 with k|k
  .grind
  grind[zif]
theorem zn4{call:zc}{ops:Array Oper}{x:Zi×Tr Zb×Zb}(hx:x.1.eff=true):∀(cs:List ((Za->Res)×Zb×Nat×Nat)) (l:List (Zi×Tr Zb×Zb)),CkR P nt ops call cs l->CkR P nt ops call cs (l++[x])
 | [],l,h=>fun y hy=>by
  rcases List.mem_append.1 hy with k|k
  .exact h y k
  grind
 |(run,v,lo,hi)::cs,l,⟨pre,d,tr,rest,h1,h2,h3,h4,h5,h6⟩=>⟨pre,d,tr,rest++[x],by grind,h2,h3,h4,h5,zn4 hx cs rest h6⟩
theorem zgu{call:zc}{ops:Array Oper}{d:Zi}{tr:Tr Zb}{v:Zb}{o:Oper}(hd:d.rop=yF P nt ops o):∀(cs:List ((Za->Res)×Zb×Nat×Nat)) (l:List (Zi×Tr Zb×Zb)),CkR P nt ops call cs l->
  CkR P nt ops call (cs++[(z9 P nt ops o call (xC tr),v,d.lo,d.hi)]) (l++[(d,tr,v)])
 | [],l,h=>⟨l,d,tr,[],rfl,h,rfl,rfl,⟨o,hd,rfl⟩,fun y hy=>by cases hy⟩
 |(run,v',lo,hi)::cs,l,⟨pre,d',tr',rest,h1,h2,h3,h4,h5,h6⟩=>⟨pre,d',tr',rest++[(d,tr,v)],by grind,h2,h3,h4,h5,zgu hd cs rest h6⟩
theorem zmR{β:Type}(ops:Array Oper)(call:zc)(bs:List Nat)(es:List Bool)(k:Fr->Za->Option β)(x:β):
  ∀(os:List Oper) (i:Nat) (t:Tr Zb) (h:Za) (hs:List Za) (cs:List ((Za->Res)×Zb×Nat×Nat)) (l0:List (Zi×Tr Zb×Zb)),CkR P nt ops call cs l0->
   kDr P nt ops call bs es i os (xC t) h hs cs k=some x->
   ∃l t' hs',evD call (ud P nt ops bs es i os) t h=some (l,t',hs')/\vZ call (hs++hs') (l0++l)=true/\hs'≠[]/\k (xC t') (zeu h hs')=some x/\∀i,i∉os.filterMap (·.dst)->xC t' i=xC t i
 | [],i,t,h,hs,cs,l0,hc,e=>by
  simp only[kDr]at e;cases hq:zqA (hs++[h]) cs
  .grind
  rw[hq]at e;exact⟨[],t,[h],rfl,by grind[zjp],by simp,e,fun _ _=>rfl⟩
 |o::os,i,t,h,hs,cs,l0,hc,e=>by
  rw[ziU]at e;simp only[z0]at e;split at e
  .rename_i v h' hq;rw[<-jR]at hq e;obtain⟨e1,e2⟩:=jQ ops o call _ h v h' hq;rw[<-wi]at e;simp only[ud,evD];rw[e1];simp only;cases hqo:yv P o.op
   .rw[hqo]at e;simp only[Yzc,Bool.not_false,Yza]at e ⊢;obtain⟨l,t',hs',k1,k2,k3,k4,k5⟩:=zmR ops call bs es k x os _ _ _ _ _ (l0++[(⟨yF P nt ops o,(o.looksAt ops).map bn,true,ce (fun j=>bef bs j i) 0 es,ce (fun j=>!bef bs i j) 0 es⟩,uC t ((o.looksAt ops).map bn),v)])
     (zn4 rfl cs l0 hc) e
    rw[e2,k1];refine⟨_,_,_,rfl,?_,?_,?_,fun i hi=>?_⟩
    .grind
    .simp
    .simp only[Yza,zeu];cases hs' with
     |nil=>trivial
     |cons a b=>exact k4
    simp only[List.filterMap_cons]at hi;rw[k5 i,wi,xe]
    .grind
    grind
   rw[hqo]at e;simp only[Yza,Bool.not_true,Yzc]at e ⊢;obtain⟨l,t',hs',k1,k2,k3,k4,k5⟩:=zmR ops call bs es k x os _ _ _ _ _ (l0++[(⟨yF P nt ops o,(o.looksAt ops).map bn,false,ce (fun j=>bef bs j i) 0 es,ce (fun j=>!bef bs i j) 0 es⟩,uC t ((o.looksAt ops).map bn),v)])
    (zgu (d:=⟨yF P nt ops o,(o.looksAt ops).map bn,false,ce (fun j=>bef bs j i) 0 es,ce (fun j=>!bef bs i j) 0 es⟩) rfl cs l0 hc) e
   rw[e2,k1];refine⟨_,_,_,rfl,?_,?_,?_,fun i hi=>?_⟩
   .grind
   .exact k3
   .exact k4
   simp only[List.filterMap_cons]at hi;rw[k5 i,wi,xe]
   .grind
   grind
  cases e
section
variable {ops:Array Oper} {call:zc} {n0:Nat}
theorem zfo{o:Oper}{t:Tr Zb}{v:Zb}{d:Zn}(hd:d.rop=yF P nt ops o){mks:List (Nat×Nat×Zf)}:∀(hs:List Za) (k:Nat),zc2 (z9 P nt ops o call (xC t)) v n0 d.hide mks k hs=true->zjY call n0 d t v mks k hs=true
 | [],_,_=>rfl
 |h::hs,k,e=>by
  simp only[zc2]at e;simp only[zjY];split at e
  .rename_i v' h' hq;obtain⟨k1,_⟩:=jQ ops o call t _ v' h' hq;obtain⟨e1,e2⟩:=ue e;rw[hd,k1];simp only;rw[e1,zfo hd hs _ e2];rfl
  cases e
def zs7(P:Program)(nt:Nat)(ops:Array Oper)(call:zc):List CkG->List GE->Prop
 | [],l=>∀g∈l,(g.d.eff||g.d.mkb)=true
 |(run,v,lo,hi,hide)::cs,l=>∃pre g rest,l=pre++g::rest/\(∀x∈pre,(x.d.eff||x.d.mkb)=true)/\g.v=v/\g.d.lo=lo/\g.d.hi=hi/\g.d.hide=hide/\(∃o,g.d.rop=yF P nt ops o/\run=z9 P nt ops o call (xC g.tr))/\zs7 P nt ops call cs rest
theorem zkH{mks:List (Nat×Nat×Zf)}{hs:List Za}(l l':List GE):vY call n0 mks hs (l++l')=(vY call n0 mks hs l&&vY call n0 mks hs l'):=by induction l<;>grind[vY]
theorem zax{mks:List (Nat×Nat×Zf)}{hs:List Za}:∀l:List GE,(∀x∈l,(x.d.eff||x.d.mkb)=true)->vY call n0 mks hs l=true
 | [],_=>rfl
 |g::l,h=>by simp only[vY];rw[h _ (Yzk ..),zax l fun x hx=>h x (Yzi _ hx)];simp
theorem zns{mks:List (Nat×Nat×Zf)}{hs:List Za}:∀(cs:List CkG) (l:List GE),zs7 P nt ops call cs l->zhM n0 mks hs cs=true->vY call n0 mks hs l=true
 | [],l,h,_=>zax l h
 |(run,v,lo,hi,hide)::cs,l,⟨pre,g,rest,h1,h2,h3,h4,h5,h6,⟨o,h7,h8⟩,h9⟩,e=>by
  subst h1 h3 h4 h5 h6 h8;simp only[zhM]at e;obtain⟨e1,e2⟩:=ue e;rw[zkH,zax pre h2];simp only[vY,Yyc];rw[zns cs rest h9 e2,Yyi];rcases YzB _ _ |>.mp e1 with k|k
  .grind
  grind[zfo]
theorem ze7{x:GE}(hx:(x.d.eff||x.d.mkb)=true):∀(cs:List CkG) (l:List GE),zs7 P nt ops call cs l->zs7 P nt ops call cs (l++[x])
 | [],l,h=>fun y hy=>by
  rcases List.mem_append.1 hy with k|k
  .exact h y k
  grind
 |(run,v,lo,hi,hide)::cs,l,⟨pre,g,rest,h1,h2,h3,h4,h5,h6,h7,h8⟩=>⟨pre,g,rest++[x],by grind,h2,h3,h4,h5,h6,h7,ze7 hx cs rest h8⟩
theorem zdI{g:GE}{o:Oper}(hd:g.d.rop=yF P nt ops o):∀(cs:List CkG) (l:List GE),zs7 P nt ops call cs l->
  zs7 P nt ops call (cs++[(z9 P nt ops o call (xC g.tr),g.v,g.d.lo,g.d.hi,g.d.hide)]) (l++[g])
 | [],l,h=>⟨l,g,[],rfl,h,rfl,rfl,rfl,rfl,⟨o,hd,rfl⟩,fun y hy=>by cases hy⟩
 |(run,v',lo,hi,hide)::cs,l,⟨pre,g',rest,h1,h2,h3,h4,h5,h6,h7,h8⟩=>⟨pre,g',rest++[g],by grind,h2,h3,h4,h5,h6,h7,zdI hd cs rest h8⟩
theorem zex{β:Type}(bs:List Nat)(es:List Bool)(k:Fr->Za->Option β)(x:β):
  ∀(os:List Oper) (i:Nat) (t:Tr Zb) (h:Za) (c:Nat) (hs:List Za) (cs:List CkG) (mks:List (Nat×Nat×Zf)) (l0:List GE),zs7 P nt ops call cs l0->
   zcM P nt ops call bs es n0 i os (xC t) h c hs cs mks k=some x->
   ∃l t' h',evG call n0 i (y0 P nt ops bs es i os) t h=some (l,t',h')/\vY call n0 (mks++zgx n0 c i l) (hs++hsG l) (l0++l)=true/\k (xC t') h'=some x/\∀i,i∉os.filterMap (·.dst)->xC t' i=xC t i
 | [],i,t,h,c,hs,cs,mks,l0,hc,e=>by
  simp only[zcM]at e;cases hq:zhM n0 mks hs cs
  .grind
  rw[hq]at e;exact⟨[],t,h,rfl,by grind[zgx,hsG,zns],e,fun _ _=>rfl⟩
 |o::os,i,t,h,c,hs,cs,mks,l0,hc,e=>by
  have agree:∀(t2 t':Tr Zb) (v:Zb),(yF P nt ops o).dst=o.dst.map bn->t2=zbv t v (yF P nt ops o).dst->(∀i,i∉os.filterMap (·.dst)->xC t' i=xC t2 i)->∀i,i∉(o::os).filterMap (·.dst)->xC t' i=xC t i:=by
   intro t2 t' v hd h2 H i hi;subst h2;simp only[List.filterMap_cons]at hi;rw[H i (fun hm=>hi (by grind)),hd,wi]
   grind[xe]
  simp only[zcM]at e;simp only[y0,evG,stepG];cases hm:j6 o.op
  .rw[hm]at e;simp only[Yzc,z0]at e ⊢;split at e
   .rename_i v h' hq;rw[<-jR]at hq;obtain⟨e1,e2⟩:=jQ ops o call _ _ v h' hq;rw[<-wi,<-e2]at e;rw[e1];simp only;cases ha:anchor P o.op
    .rw[ha,<-jR]at e;simp only[Yzc]at e ⊢
     let g:GE:=⟨⟨yF P nt ops o,(o.looksAt ops).map bn,false,false,ce (fun j=>bef bs j i) 0 es,ce (fun j=>!bef bs i j) 0 es,yp bs i 0 ops.toList⟩,uC t ((o.looksAt ops).map bn),v,h,h⟩
     obtain⟨l,t',h2,k1,k2,k3,k4⟩:=zex bs es k x os _ _ _ _ _ _ _ (l0++[g]) (zdI (g:=g) rfl cs l0 hc) e;rw[k1];refine⟨_,_,_,rfl,?_,k3,agree _ _ v e2 rfl k4⟩
     grind[zgx,hsG]
    rw[ha]at e;simp only[Yza]at e ⊢;split at e
    .rename_i t1 ht;rw[ht];simp only
     let g:GE:=⟨⟨yF P nt ops o,(o.looksAt ops).map bn,true,false,ce (fun j=>bef bs j i) 0 es,ce (fun j=>!bef bs i j) 0 es,yp bs i 0 ops.toList⟩,uC t ((o.looksAt ops).map bn),v,h,⟨h'.n,t1⟩⟩
     obtain⟨l,t',h2,k1,k2,k3,k4⟩:=zex bs es k x os _ _ _ _ _ _ _ (l0++[g]) (ze7 (x:=g) rfl cs l0 hc) e;rw[k1];refine⟨_,_,_,rfl,?_,k3,agree _ _ v e2 rfl k4⟩
     grind[zgx,hsG]
    cases e
   cases e
  rw[hm]at e;have ha:anchor P o.op=false:=by grind[anchor]
  simp only[Yza,z0]at e ⊢;split at e
  .rename_i v h' hq;rw[<-jR]at hq;obtain⟨e1,e2⟩:=jQ ops o call _ _ v h' hq;rw[<-wi,<-e2]at e;rw[e1];simp only
   let g:GE:=⟨⟨yF P nt ops o,(o.looksAt ops).map bn,anchor P o.op,true,ce (fun j=>bef bs j i) 0 es,ce (fun j=>!bef bs i j) 0 es,yp bs i 0 ops.toList⟩,uC t ((o.looksAt ops).map bn),v,h,⟨h.n,h'.t⟩⟩
   obtain⟨l,t',h2,k1,k2,k3,k4⟩:=zex bs es k x os _ _ _ _ _ _ _ (l0++[g]) (ze7 (x:=g) (by grind) cs l0 hc) e;rw[k1];refine⟨_,_,_,rfl,?_,k3,agree _ _ v e2 rfl k4⟩;simp only[zgx,hsG,ha,Yza,Yzc]
   grind[mk1]
  cases e
theorem zaY(bs:List Nat)(es:List Bool):∀(os:List Oper) (i:Nat),(y0 P nt ops bs es i os).length=os.length
 | [],_=>rfl
 |o::os,i=>by simp only[y0,YzJ,zaY bs es os]
end
theorem zmi:∀(l:List Zb) (n:Nat),zv3 l n=(l[n]?).getD zP
 | [],_=>rfl
 |v::l,n=>by
  cases n with
  |zero=>rfl
  |succ n=>simp only[zv3,Yzm];exact zmi l n
theorem ziP{r s:Fr}(V:List Nat):∀(W:List Nat) (k:Nat),(∀n w,W[n]? = some w->V[k+n]? = some w)->∀i,(i∉W->s i=r i)->zkl W k r (V.map s) i=s i
 | [],k,_,i,h=>(h (by simp)).symm
 |w::W,k,hW,i,h=>by
  simp only[zkl];cases hq:Nat.beq i w
  .simp only[Yzc];refine ziP V W (k+1) (fun n w' hn=>?_) i (fun hi=>h ?_)
   .have:=hW (n+1) w' hn
    grind
   intro hm;simp_all
  have:=hW 0 w rfl;simp_all[zmi]
theorem zbY{W:List Nat}{r s:Fr}(h:∀i,i∉W->s i=r i):zkl W 0 r (W.map s)=s:=
 funext fun i=>ziP W W 0 (fun n w hn=>by rwa [Yzg]) i (h i)
theorem zeo{call:zc}{f fn:Nat}{ro:Option BN}{top:Bool}{c:Code}{r0:Fr} (H:∀(β:Type) (t:Tr Zb) (d:List BN) (h:Za) (k:KK β) (x:β),yG P nt call f fn top c (xC t) h d k=some x->
   ∃e t' h' d',zH P nt c call f fn ro ⟨t,d,h⟩=some (e,⟨t',d',h'⟩)/\k e (xC t') h' d'=some x/\∀i,i∉writes c->xC t' i=xC t i):
  ∀(n:Nat) (t:Tr Zb) (d:List BN) (h:Za) (e:Zg) (ys:List Zb) (h':Za) (d':List BN),(∀i,i∉writes c->xC t i=r0 i)->
   za4 (fun ys h d=>yG P nt call f fn top c (zkl (writes c) 0 r0 ys) h d (fun e s h d=>some (e,(writes c).map s,h,d))) n ((writes c).map (xC t)) h d=some (e,ys,h',d')->
   ∃t',zfH (zH P nt c call f fn ro) n ⟨t,d,h⟩=some (e,⟨t',d',h'⟩)/\ys=(writes c).map (xC t')/\∀i,i∉writes c->xC t' i=r0 i
 |0,_,_,_,_,_,_,_,_,e=>by cases e
 |n+1,t,d,h,e,ys,h',d',ht,hh=>by
  simp only[za4]at hh;rw[zbY ht]at hh;have hN:zfH (zH P nt c call f fn ro) (n+1) ⟨t,d,h⟩=(match zH P nt c call f fn ro ⟨t,d,h⟩ with
   |some (.normal,s')=>zfH (zH P nt c call f fn ro) n s'
   |r=>r):=rfl
  rw[hN];split at hh
  .rename_i r1 h1 d1 hq;obtain⟨e1,t1,h2,d2,k1,k2,k3⟩:=H _ t d h _ _ hq;cases k2;rw[k1];exact zeo H n t1 d1 h1 e ys h' d' (fun i hi=>(k3 i hi).trans (ht i hi)) hh
  rename_i x hx;obtain⟨e1,t1,h2,d2,k1,k2,k3⟩:=H _ t d h _ _ hh;cases k2;rw[k1];cases e<;>grind
theorem zey{call:zc}{f fn:Nat}{ro:Option BN}{top:Bool}(hro:top=true->ro=none)(c:Code):∀(β:Type) (t:Tr Zb) (d:List BN) (h:Za) (k:KK β) (x:β),yG P nt call f fn top c (xC t) h d k=some x->
  ∃e t' h' d',zH P nt c call f fn ro ⟨t,d,h⟩=some (e,⟨t',d',h'⟩)/\k e (xC t') h' d'=some x/\∀i,i∉writes c->xC t' i=xC t i:=by
 induction c with
 |skip=>exact fun β t d h k x e=>⟨.normal,t,h,d,rfl,e,fun _ _=>rfl⟩
 |region id ops draw=>
  intro β t d h k x e;simp only[yG]at e;simp only[zH];cases draw
  .simp only[Yzc]at e ⊢;obtain⟨t',h',k1,k2,k3⟩:=zmQ ops call ops.toList t h _ x e;exact⟨.normal,t',h',d,by simp only[zvU,k1];rfl,k2,k3⟩
  simp only[Yza]at e ⊢;cases hq:P.follows .mixedOrders&&qT P ops (y5 ops.toList)
  .rw[hq]at e;simp only[Yzc]at e ⊢;cases hq2:P.follows .mixedOrders&&uP P ops (y5 ops.toList)
   .grind
   rw[hq2]at e;simp only[Yza]at e ⊢;obtain⟨l,t',h',k1,k2,k3,k4⟩:=zex (call:=call) (n0:=h.n.toNat) _ _ _ x ops.toList 0 t _ 0 _ [] [] [] (fun y hy=>by cases hy) e;refine⟨.normal,t',h',d,?_,k3,k4⟩
   grind[zjj,vJ,zaY]
  rw[hq]at e;simp only[Yza]at e ⊢;obtain⟨l,t',hs',k1,k2,k3,k4,k5⟩:=zmR ops call _ _ _ x ops.toList 0 t h [] [] [] (fun y hy=>by cases hy) e;refine⟨.normal,t',zeu h hs',d,?_,k4,k5⟩
  grind[zjk,za0]
 |seq a b iha ihb=>
  intro β t d h k x e;simp only[yG]at e;obtain⟨e1,t1,h1,d1,k1,k2,k3⟩:=iha β t d h _ x e;simp only[zH,zx6];rw[k1];have hw:∀i,i∉writes (a.seq b)->i∉writes a/\i∉writes b:=fun i hi=>by grind[writes]
  cases e1 with
  |normal=>obtain⟨e2,t2,h2,d2,j1,j2,j3⟩:=ihb β t1 d1 h1 k x k2;exact⟨e2,t2,h2,d2,j1,j2,fun i hi=>(j3 i (hw i hi).2).trans (k3 i (hw i hi).1)⟩
  |exit id=>exact⟨_,t1,h1,d1,rfl,k2,fun i hi=>k3 i (hw i hi).1⟩
  |ret=>exact⟨_,t1,h1,d1,rfl,k2,fun i hi=>k3 i (hw i hi).1⟩
 |cond c a b iha ihb=>
  intro β t d h k x e;simp only[yG]at e;simp only[zH];have hw:∀i,i∉writes (Code.cond c a b)->i∉writes a/\i∉writes b:=fun i hi=>by grind[writes]
  rcases zE (t:=t) c with⟨h1,h2⟩|⟨p,q,h1,h2,h3⟩
  .grind
  rw[h1]at e;rw[h2];simp only[ifK,zsP]at e ⊢
  grind
 |block id c ih=>
  intro β t d h k x e;simp only[yG]at e;obtain⟨e1,t1,h1,d1,k1,k2,k3⟩:=ih β t d h _ x e;simp only[zH,zqB];rw[k1];cases e1 with
  |normal=>exact⟨_,t1,h1,d1,rfl,k2,k3⟩
  |ret=>exact⟨_,t1,h1,d1,rfl,k2,k3⟩
  |exit id'=>
   simp only[zvZ,zue]at k2 ⊢;cases hq:Nat.beq id' id
   .rw[hq]at k2;exact⟨_,t1,h1,d1,rfl,k2,k3⟩
   rw[hq]at k2;exact⟨_,t1,h1,d1,rfl,k2,k3⟩
 |loop c ih=>
  intro β t d h k x e;simp only[yG,km]at e;simp only[zH,zuD];split at e
  .rename_i id ys h1 d1 hq;obtain⟨t',k1,k2,k3⟩:=zeo ih f t d h _ ys h1 d1 (fun _ _=>rfl) hq;rw[k2,zbY k3]at e;exact⟨_,t',h1,d1,k1,e,k3⟩
  .rename_i ys h1 d1 hq;obtain⟨t',k1,k2,k3⟩:=zeo ih f t d h _ ys h1 d1 (fun _ _=>rfl) hq;rw[k2,zbY k3]at e;exact⟨_,t',h1,d1,k1,e,k3⟩
  cases e
 |rangeFunc g ps assign body=>
  intro β t d h k x e;simp only[yG]at e;cases top with
  |false=>cases e
  |true=>
  obtain rfl:=hro rfl;simp only[Yza]at e;simp only[zH];rcases zE (t:=t) g with⟨h1,h2⟩|⟨p,q,h1,h2,h3⟩
  .grind
  rw[h1]at e;rw[h2];simp only[zlI,zin]at e ⊢;rw[h3]at e;split at e
  .rename_i gf caps hq;rw[hq];simp only;unfold wm at e;split at e
   .rename_i v hh hc;split at e
    .rename_i st pend lf ln lt lps la lb ld hl;have hc':call (.inl gf) ([.s (.one (.yld (h.new .defer).n))]++caps.map fun p=>.s (.one (.ptr p.1 p.2))) ((h.new .defer).new (.loop .ready none fn nt (xY (fun i=>zaF (bn i) t) nt) ps assign body h.n))=some (v,hh):=hc;cases st with
     |busy=>cases e
     |ready=>exact⟨_,t,_,_,by grind[zc9],e,fun _ _=>rfl⟩
     |done=>exact⟨_,t,_,_,by grind[zc9],e,fun _ _=>rfl⟩
     |exhausted=>exact⟨_,t,_,_,by grind[zc9],e,fun _ _=>rfl⟩
    cases e
   cases e
  cases e
 |exit id=>exact fun β t d h k x e=>⟨.exit id,t,h,d,rfl,e,fun _ _=>rfl⟩
 |ret=>exact fun β t d h k x e=>⟨.ret,t,h,d,rfl,e,fun _ _=>rfl⟩
 |_=>grind[yG]
theorem zgU(t:Tr Zb)(h:Za):∀(l:List ResultVar) (rs:List (BN×Option (Option Nat))),ze0 P l=some rs->jX P (xC t) h l=jt t h rs
 | [],rs,e=>by cases e;rfl
 | .tmp i::l,rs,e=>by
  simp only[ze0]at e;split at e
  .rename_i rs' hq;cases e;simp only[jX,jt];rw[zgU t h l rs' hq];simp only[zaa,zdx,zvR,xC,zaF];rcases t.get (bn i) with _|v
   .rfl
   cases v<;>rfl
  cases e
 | .cell i ty::l,rs,e=>by
  simp only[ze0]at e;split at e
  .rename_i n rs' hn hq;cases e;simp only[jX,jt];rw[zgU t h l rs' hq];simp only[zaa,zdx,zvS,xC,zaF,hn];rcases t.get (bn i) with _|v
   .rfl
   cases v with
   |tup _=>rfl
   |s v=>cases v with
    |agg _=>rfl
    |one c=>cases c<;>rfl
  cases e
theorem zvs(P:Program)(g:Nat):cFs (yL P) g=(P.funcs[g]?).bind (zhQ P):=by
 unfold cFs yL;have:=wZ (P.funcs.toList.map (zhQ P)) 0 .nil g;rw[show bn 0=BN.z from rfl]at this;rw[this];simp only[Nat.not_lt_zero,if_false,Nat.sub_zero,Lz6,LzA];have hn:(Tr.nil:Tr (Option Zj)).get (bn g)=none:=by simp
 grind
theorem zsm{g:Nat}{call:zc}{f:Nat}{args:List Zb}{h:Za}{x:Zb×Za}(e:zpq P g call f args h=some x):zm9 (cFs (yL P)) call f g args h=some x:=by
 unfold zpq at e;unfold zm9;rw[zvs];rcases hf:P.funcs[g]? with _|fn
 .grind
 rw[hf]at e;simp only[YzC]at e ⊢;unfold zhQ;rcases hb:fn.body with _|c
 .grind
 rw[hb]at e;simp only at e ⊢;rcases hr:ze0 P fn.results.toList with _|rs
 .grind
 rw[hr]at e;simp only[Option.isNone_some,YzO]at e ⊢;cases hn:fn.name == "runtime.NumGoroutine"
 case true=>grind
 rw[hn]at e;simp only[Yzc]at e ⊢;cases hl:zpm args fn.ntmps
 .grind
 rw[hl]at e;simp only[Yza]at e ⊢;obtain⟨e1,t1,h1,d1,k1,k2,_⟩:=zey (fn:=g) (ro:=none) (fun _=>rfl) c _ _ [] h _ _ e;rw[k1];cases e1<;>grind[zfV,leave,zgU]
end
end Go.CE
end
section
namespace Go.CE
noncomputable section
def yi:zc:=fun _ _ _=>none
def cP(l:List (Nat×Nat×Zb)):List (Nat×Nat×Opd):=l.map fun p=>(p.1,p.2.1,zn p.2.2)
def cL(l:List Zb):List Opd:=l.map zn
def cO:Option Zb->Option Opd
 |none=>none
 |some v=>some (zn v)
def gK(v:Zb)(b:Bool)(h:Za)(x:Res):Res:=bif zdM v b then x else some (zP,h)
def zog(c a b:Zb)(h:Za):Res:=u4 (zn c) (zn a) (zn b) yi .nil h
def ztv(zs:List Zc)(h:Za):Res:=zbT zs yi .nil h
def zyX(x:Zb)(h:Za):Res:=zei (zn x) yi .nil h
def zk2(zs:List Zc)(l:List (Nat×Nat×Zb))(h:Za):Res:=vB zs (cP l) yi .nil h
def zqR(st len:Nat)(zs:List Zc)(l:List (Nat×Nat×Zb))(h:Za):Res:=wS st len zs (cP l) yi .nil h
def zoj(n:Option Nat)(x:Zb)(h:Za):Res:=u7 n (zn x) yi .nil h
def ztt(n:Nat)(x v:Zb)(h:Za):Res:=zae n (zn x) (zn v) yi .nil h
def zh3(x:Zb)(h:Za):Res:=vq (zn x) yi .nil h
def zvO(g:IntKind->Int->Int->Option Zc)(x y:Zb)(h:Za):Res:=za2 g (zn x) (zn y) yi .nil h
def zh2(g:IntKind->Int->Int->Option Zc)(x y:Zb)(h:Za):Res:=wt g (zn x) (zn y) yi .nil h
def zvK(op:BinOp)(x y:Zb)(h:Za):Res:=zbN op (zn x) (zn y) yi .nil h
def vEq(ks:Nat⊕List Nat)(neg:Bool)(x y:Zb)(h:Za):Res:=ziE ks neg (zn x) (zn y) yi .nil h
def zk0(neg:Bool)(x y:Zb)(h:Za):Res:=ui neg (zn x) (zn y) yi .nil h
def zvL(x:Zb)(h:Za):Res:=zbO (zn x) yi .nil h
def zvM(x:Zb)(h:Za):Res:=zbP (zn x) yi .nil h
def zom(k:IntKind)(x:Zb)(h:Za):Res:=jd k (zn x) yi .nil h
def zoi(f:Nat)(caps:List Zb)(h:Za):Res:=u6 f (cL caps) yi .nil h
def ztu(h:Za):Res:=zbR yi .nil h
def zoh(st:Nat)(zs:List Zc)(bytes:Nat)(l c:Zb)(h:Za):Res:=xK st zs bytes (zn l) (zn c) yi .nil h
def wM(st:Nat)(x:Zb)(lo hi mx:Option Zb)(h:Za):Res:=vi st (zn x) (cO lo) (cO hi) (cO mx) yi .nil h
def zdO(x:Zb)(lo hi:Option Zb)(h:Za):Res:=xE (zn x) (cO lo) (cO hi) yi .nil h
def zol(x:Zb)(off:Nat)(h:Za):Res:=jc (zn x) off yi .nil h
def zh7(x:Zb)(off:Nat)(n:Option Nat)(h:Za):Res:=vA (zn x) off n yi .nil h
def zvN(st:Nat)(x i:Zb)(h:Za):Res:=zbS st (zn x) (zn i) yi .nil h
def zh5(len st:Nat)(x i:Zb)(h:Za):Res:=vu len st (zn x) (zn i) yi .nil h
def zh6(len st:Nat)(n:Option Nat)(x i:Zb)(h:Za):Res:=vz len st n (zn x) (zn i) yi .nil h
def zh4(x i:Zb)(h:Za):Res:=vt (zn x) (zn i) yi .nil h
def zqQ(q:Nat⊕List Nat)(z:SVal)(ok:Bool)(m k:Zb)(h:Za):Res:=wz q z ok (zn m) (zn k) yi .nil h
def zwl(q:Nat⊕List Nat)(m k v:Zb)(h:Za):Res:=zbQ q (zn m) (zn k) (zn v) yi .nil h
def za7(x:Zb)(i:Nat)(h:Za):Res:=xq (zn x) i yi .nil h
def zok(x:Zb)(h:Za):Res:=ja (zn x) yi .nil h
def zk1(x:Zb)(h:Za):Res:=jb (zn x) yi .nil h
def zwm(x:Zb)(h:Za):Res:=kj (zn x) yi .nil h
def zqS(str:Bool)(st bytes:Nat)(s x:Zb)(h:Za):Res:=xF str st bytes (zn s) (zn x) yi .nil h
def zdP(m:Bool)(x:Zb)(xs:List Zb)(h:Za):Res:=yY m (zn x) (cL xs) yi .nil h
def zp7(st:Nat)(zs:List Zc)(x:Zb)(h:Za):Res:=zaf st zs (zn x) yi .nil h
def zwo(call:zc)(f:Zb)(args:List Zb)(h:Za):Res:=zde (zn f) (cL args) call .nil h
end
end Go.CE
end
section
namespace Go.CE
def Ev{α:Type}(m:Nat->Option α)(Q:α->Prop):Prop:=∃a,Q a/\∃N,∀n,N<=n->m n=some a
theorem Ev.mono{α:Type}{m:Nat->Option α}{Q Q':α->Prop}(h:Ev m Q)(hq:∀a,Q a->Q' a):Ev m Q':=by obtain⟨a,h1,h2⟩:=h;exact⟨a,hq a h1,h2⟩
def HW(h:Za):Prop:=∀b o,h.t.get b=some o->b.toNat<h.n.toNat
structure Gr (h h':Za):Prop where
 le:h.n.toNat<=h'.n.toNat
 old:∀b:BN,b.toNat<h.n.toNat->h'.t.get b=h.t.get b
theorem Gr.refl(h:Za):Gr h h:=⟨LzB _,fun _ _=>rfl⟩
theorem Gr.get{h h':Za}(g:Gr h h')(w:HW h){b:BN}{o:Zf}(e:h.t.get b=some o):h'.t.get b=some o:=(g.old b (w b o e)).trans e
theorem HW.new{h:Za}(w:HW h)(o:Zf):HW (h.new o):=fun b o' e=>by
 simp only[Za.new]at e ⊢;rw[BN.toNat_succ];by_cases hb:b=h.n
 .grind
 rw[zl _ _ _ _ hb]at e;have:=w b o' e;omega
theorem Gr.new(h:Za)(o:Zf):Gr h (h.new o):=⟨by grind[Za.new,BN.toNat_succ],fun b hb=>by grind[Za.new,zl]⟩
theorem HW.put{h:Za}(w:HW h){b:BN}{o o':Zf}(e:h.t.get b=some o):HW (h.put b o'):=fun c x hx=>by
 simp only[Za.put]at hx ⊢;by_cases hb:c=b
 .rw[hb];exact w b o e
 rw[zl _ _ _ _ hb]at hx;exact w c x hx
theorem xn(h:Za){b c:BN}(o:Zf)(hc:c≠b):(h.put b o).t.get c=h.t.get c:=zl _ _ _ _ hc
end Go.CE
end
section
namespace Go.CE
theorem Ev.sum{P:Program}{fs:Nat->Option Zj}{sums:List Sum}{srt:Nat->Option Srt}{g:Nat}{args:List Zb}{h:Za}{v:Zb}(ht:srt g=none)(hs:xS g args h sums=Option.some v):
  Ev (fun n=>zJ (zH P) fs sums srt n (.inl g) args h) (fun p=>p=(v,h)):=by
 refine⟨_,rfl,1,fun n hn=>?_⟩;cases n with
 |zero=>omega
 |succ n=>
  have:zJ (zH P) fs sums srt (n+1) (.inl g) args h=zdJ srt (zcJ sums (zaV (zH P) fs (zJ (zH P) fs sums srt n) n)) (.inl g) args h:=rfl
  grind[zdJ,zcJ]
def rd(n off:Nat):Zf->Option (List Zc)
 | .cells cs _=>cut n cs off
 | .ro _ f=>zcq f n off
 | .void=>bif Nat.beq n 0 then some [] else none
 |_=>none
end Go.CE
end
section
namespace Go.CE
theorem zcU:∀l:List Zc,takeN l.length l=some l
 | []=>rfl
 |c::l=>by simp only[YzJ,takeN,zcU l,x6]
theorem zeS(l:List Zc):cut l.length l 0=some l:=by
 cases l with
 |nil=>rfl
 |cons c l=>simp only[cut];exact zcU (c::l)
end Go.CE
end
section
namespace Go.CE
open Go.RowKit
section
variable (w:World)
def zye:Value->List Addr
 | .slice (some a) 0 0=>[a]
 |_=>[]
def zy5:Obj->List Addr
 | .cells arr _ _=>arr.toList.flatMap zye
 |_=>[]
def ze9(w:World):List Addr:=w.heap.toList.flatMap zy5
theorem zo0{w:World}{b:Nat}{arr:Array Value}{e:TypeId}{fr:Nat×Nat}{i:Nat}{a:Addr}(h:w.heap[b]? = some (.cells arr e fr))(hi:arr[i]? = some (.slice (some a) 0 0)):a∈ze9 w:=by
 unfold ze9;refine List.mem_flatMap.2 ⟨.cells arr e fr,?_,List.mem_flatMap.2 ⟨.slice (some a) 0 0,?_,by simp[zye]⟩⟩
 .grind
 grind
def zcn(w:World)(k:Nat):Bool:=match w.heap[k]? with|some (.cells _ _ _)=>true|_=>false
theorem zcm{w:World}{k:Nat}(h:zcn w k=true):∃arr e fr,w.heap[k]? = some (.cells arr e fr):=by grind[zcn]
theorem zjl{w:World}{k:Nat}(h:zcn w k=true):k<w.heap.size:=by grind[zcm]
def zuU(a:Addr):List Addr->Nat
 | []=>0
 |x::l=>if x=a then 0 else zuU a l+1
theorem zeE{a:Addr}:∀{l:List Addr},a∈l->l[zuU a l]? = some a
 | [],h=>by cases h
 |x::l,h=>by
  unfold zuU;by_cases hx:x=a
  .grind
  rw[Yzb hx];rcases Yzv.1 h with h|h
  .grind
  rw[Yzm];exact zeE h
noncomputable def znL(w:World):Value->Option Zc
 | .bool b=>some (.bool b)
 | .int k n=>some (.int k n)
 | .string s=>some (.str s)
 | .pointer none=>some .nilp
 | .pointer (some a)=>bif decide (a.block<w.heap.size/\a.spot=none) then some (.ptr (bn a.block) a.off) else none
 | .slice none len cap=>bif decide (len=0/\cap=0) then some .nils else none
 | .slice (some a) len cap=>
  bif decide (zcn w a.block=true/\a.spot=none/\len<=cap) then some (.slc (bn a.block) a.off len cap true)
  else bif decide (len=0/\cap=0/\a∈ze9 w) then some (.slc (bn (w.heap.size+zuU a (ze9 w))) 0 0 0 true) else none
 | .map none=>some .nilm
 | .nilFunc=>some .nilf
 | .nilIface=>some .nili
 |_=>none
def φ0(w:World):Phi:=fun b=>
 if b.toNat<w.heap.size then⟨b.toNat,0,0,true,none⟩
 else match (ze9 w)[b.toNat-w.heap.size]? with|some a=>⟨a.block,a.off,0,true,a.spot⟩|none=>⟨b.toNat,0,0,true,none⟩
theorem zbm{b:BN}(h:b.toNat<w.heap.size):φ0 w b=⟨b.toNat,0,0,true,none⟩:=Yzd h
theorem zqK{i:Nat}{a:Addr}(h:(ze9 w)[i]? = some a):φ0 w (bn (w.heap.size+i))=⟨a.block,a.off,0,true,a.spot⟩:=by simp_all[φ0,Yzb,zF]
theorem zhZ(b:BN):(φ0 w b).ok=true:=by grind[φ0]
noncomputable def zrf(w:World):Obj->Zf
 | .cells arr e fr=>.ro (some (.cells arr e fr)) (fun i=>(arr[i]?).bind (znL w))
 |_=>.dead
noncomputable def zn6(w:World)(k:Nat):Zf:=match w.heap[k]? with|some x=>zrf w x|none=>.dead
noncomputable def ym(w:World):Za:=⟨bn (w.heap.size+(ze9 w).length),Tr.ofList .z ((List.range w.heap.size).map (zn6 w)++(ze9 w).map fun _=>.void) .nil⟩
theorem wu(b:BN):(ym w).t.get b=if b.toNat<w.heap.size then some (zn6 w b.toNat) else if b.toNat<w.heap.size+(ze9 w).length then some .void else none:=by
 have e0:BN.z=bn 0:=rfl;show (Tr.ofList .z ((List.range w.heap.size).map (zn6 w)++(ze9 w).map fun _=>.void) .nil).get b=_;have:=wZ ((List.range w.heap.size).map (zn6 w)++(ze9 w).map fun _=>Zf.void) 0 (.nil:Tr Zf) b.toNat;rw[zS,<-e0]at this;rw[this];have hn:(Tr.nil:Tr Zf).get b=none:=by simp
 grind
theorem qH:(ym w).n.toNat=w.heap.size+(ze9 w).length:=zF _
theorem zaR{b:BN}{arr:Array Value}{e:TypeId}{fr:Nat×Nat}(h:w.heap[b.toNat]? = some (.cells arr e fr)):(ym w).t.get b=some (zrf w (.cells arr e fr)):=by
 rw[wu,Yzd (Lz7.1 h).1]
 grind[zn6]
theorem zkw{i:Nat}(h:i<(ze9 w).length):(ym w).t.get (bn (w.heap.size+i))=some .void:=by simp_all[wu,zF,Yzb]
theorem zqG{v:Value}{c:Zc}(h:znL w v=some c):zf (φ0 w) c=v/\wfC (φ0 w) (ym w).n.toNat c:=by
 rw[qH];unfold znL at h;split at h
 .cases h;trivial
 .cases h;trivial
 .cases h;trivial
 .cases h;trivial
 .rename_i a;by_cases hc:a.block<w.heap.size/\a.spot=none
  .rw[decide_eq_true hc]at h;cases h;obtain⟨b,off,sp⟩:=a;obtain⟨h1,rfl⟩:=hc;have hp:=zbm w (b:=bn b) (by grind[zF]);refine⟨?_,by grind[zF],zhZ w _⟩
   grind[zf,zjz,zF]
  grind
 .rename_i len cap;by_cases hc:len=0/\cap=0
  .rw[decide_eq_true hc]at h;cases h;obtain⟨rfl,rfl⟩:=hc;trivial
  grind
 .rename_i a len cap;by_cases hc:zcn w a.block=true/\a.spot=none/\len<=cap
  .rw[decide_eq_true hc]at h;cases h;obtain⟨b,off,sp⟩:=a;obtain⟨h1,rfl,h3⟩:=hc;have h1:=zjl h1;have hp:=zbm w (b:=bn b) (by grind[zF]);refine⟨?_,⟨by grind[zF],zhZ w _⟩,fun hh=>(by cases hh),fun _=>h3⟩
   grind[zf,zjz,zF]
  rw[decide_eq_false hc,Yzc]at h;by_cases hc2:len=0/\cap=0/\a∈ze9 w
  .rw[decide_eq_true hc2]at h;cases h;obtain⟨rfl,rfl,hm⟩:=hc2;have hi:=zeE hm;have hlt:=(Lz0.1 hi).1;have hp:=zqK w hi;refine⟨?_,⟨by grind[zF],zhZ w _⟩,fun hh=>(by cases hh),fun _=>LzB _⟩;rw[zf,Yza];unfold adr;rw[hp];rfl
  grind
 .cases h;trivial
 .cases h;trivial
 .cases h;trivial
 cases h
theorem zfN:HW (ym w):=fun b o hb=>by grind[wu,qH]
def SW(w:World)(k:Nat):Prop:=∃arr e fr,w.heap[k]? = some (.cells arr e fr)
theorem zby{k:Nat}(hl:live (zn6 w k)):∃arr e fr,w.heap[k]? = some (.cells arr e fr)/\zn6 w k=zrf w (.cells arr e fr):=by
 unfold zn6 at hl ⊢;split at hl
 .rename_i x hx;cases x with
  |cells arr e fr=>grind
  |_=>exact hl.elim
 trivial
theorem zkv(hG:GOk w):Ze w (SW w) (φ0 w) (ym w) w:=by
 refine⟨zfN w,fun b o hb=>zhZ w b,fun b o hb=>?_,fun b b' o o' hb hb' hl hl' hh=>?_,fun b o hb hl=>?_,rfl,rfl,rfl,LzB _,LzB _,fun _ _ _=>rfl,hG,fun b o hb hl=>?_,fun b o hb hl=>?_⟩
 .rw[wu]at hb;by_cases hlt:b.toNat<w.heap.size
  .rw[Yzd hlt]at hb;cases hb;have hp:=zbm w hlt;by_cases hl:live (zn6 w b.toNat)
   .obtain⟨arr,e,fr,hx,hr⟩:=zby w hl;rw[hr];refine⟨fun y hy=>by grind,arr,e,fr,by grind,fun i c hc=>?_⟩
    grind[zqG]
   generalize zn6 w b.toNat=o at hl;cases o with
   |dead=>trivial
   |void=>trivial
   |_=>exact absurd trivial hl
  rw[Yzb hlt]at hb;by_cases h2:b.toNat<w.heap.size+(ze9 w).length
  .rw[Yzd h2]at hb;cases hb;trivial
  grind
 .have k1:=lt_live hb hl;have k2:=lt_live hb' hl'
  grind[zbm,zS]
 .have k1:=lt_live hb hl;rw[zbm w k1];rw[wu,Yzd k1]at hb;cases hb;obtain⟨arr,e,fr,h2,_⟩:=zby w hl;exact .inl ⟨arr,e,fr,h2⟩
 .rw[zbm w (lt_live hb hl)]
 have k1:=lt_live hb hl.live;rw[wu,Yzd k1]at hb;cases hb;obtain⟨arr,e,fr,_,h2⟩:=zby w hl.live;rw[h2]at hl;trivial
where
 lt_live {b:BN} {o:Zf} (hb:(ym w).t.get b=some o) (hl:live o):b.toNat<w.heap.size:=by
  rw[wu]at hb;by_cases hlt:b.toNat<w.heap.size
  .exact hlt
  .rw[Yzb hlt]at hb;by_cases h2:b.toNat<w.heap.size+(ze9 w).length
   .rw[Yzd h2]at hb;cases hb;trivial
   .grind
theorem zhN{P:Program}{call:zc}(C:yQ P call)(hG:GOk w){f:Nat}{args:List Zb}{v:Zb}{h2:Za}(ha:∀x∈args,wfA (φ0 w) (ym w).n.toNat x)(e:call (.inl f) args (ym w)=some (v,h2))(hg:Gr (ym w) h2):
  CallsIn (FR none) 0 P f (args.map (zm (φ0 w))).toArray w (fun e w2=>∃φ,e=.returned (zm φ v)/\Below w.heap.size w w2):=by
 refine ((C w _ _ _ w args v h2 (zkv w hG) ha).1 f e).2.mono ?_
 rintro e9 w9 ⟨φ2,rfl,he,H2,_,_⟩
 refine⟨φ2,rfl,H2.os,H2.tape,H2.output,H2.size,fun k hk=>?_⟩;by_cases hc:SW w k
 .obtain⟨arr,e,fr,hc⟩:=hc;have hb:(ym w).t.get (bn k)=some (zrf w (.cells arr e fr)):=zaR w (by grind[zF]);have hn:(bn k).toNat<(ym w).n.toNat:=by grind[qH,zF]
  have hb2:=(hg.old _ hn).trans hb;obtain⟨h1,_⟩:=H2.obj _ _ hb2;have h1:=h1 _ rfl;rw[he _ hn,zbm w (by grind[zF])]at h1
  grind[zF]
 exact H2.kept k hk hc
end
end Go.CE
end
section
namespace Go.CE
open Go Go.ChangeShapes Go.WideShapes Go.ChangeAt Go.RowKit
theorem zjr{w:World}{b off:Nat}{v:Value}(h:w.cell? ⟨b,off,none⟩=some v):∃arr e fr,w.heap[b]? = some (.cells arr e fr)/\arr[off]? = some v:=by grind[World.cell?]
def zuF(k:IntKind)(n:Nat):DataW Unit:=.lit (.int k (n:Int))
theorem zfI{P:Program}{w:World}{nm:String}{g:Nat}{t e:TypeId}{n:Nat}{k:IntKind}{ns:List Nat}{cs:Array Value}{fuel:Nat}{q:List MemPlace}
  (hg:P.globalNamed nm=some g) (ht:P.underlying t=some (.array n e)) (he:P.underlying e=some (.int k)) (hc:P.cellsOf e=1) (hv:w.var? P nm=some cs)
  (h:DataW.trod (fun _=>()) P w 0 (fun _=>true) false fuel t cs.toList=some (.agg (ns.map (zuF k)),q)) {off m:Nat} (hm:ns[off]? = some m):
  ∃arr ty fr,w.heap[g]? = some (.cells arr ty fr)/\arr[off]? = some (.int k (m:Int)):=by
 obtain⟨xs,m1,rfl,hx1,hlen,hn,hel⟩:=DataW.trod_array ht h;simp only[Prod.mk.injEq,DataW.agg.injEq]at hx1;have hxl:xs.length=ns.length:=by have:=congrArg List.length hx1.1;grind
 have hoff:off<ns.length:=(Lz0.1 hm).1;have h0:=hel off (by omega);obtain⟨x,hx⟩:∃x,xs[off]? = some x:=⟨_,Lz5 (by omega)⟩;rw[hx,hc,Nat.mul_one]at h0;obtain⟨r,e1,e2,_⟩:=DataW.trod_int he h0;have e3:x.1=zuF k m:=by
  have h1:(xs.map (·.1))[off]? = some x.1:=by grind
  grind
 have hr:r=(m:Int):=by grind[zuF]
 subst hr;have h2:cs.toList[off]? = some (.int k (m:Int)):=by
  have:((cs.toList.drop off).take 1)[0]? = some (.int k (m:Int)):=by grind
  grind
 refine zjr ?_
 grind[World.var?_cell]
theorem ziM:∀(l:List Nat) (i:Nat),zuv l i=l[i]?
 | [],i=>by simp[zuv]
 |x::l,0=>rfl
 |x::l,i+1=>by show zuv l i=_;rw[ziM l i];simp
theorem zqv{w:World}{g:Nat}{k:IntKind}{ns:List Nat}(hg:zam g=some (k,ns))(H:∀(off m:Nat),ns[off]? = some m->∃arr ty fr,w.heap[g]? = some (.cells arr ty fr)/\arr[off]? = some (.int k (m:Int)))
  {off:Nat} {c:Zc} (h:zcO g off=some c):∃arr e fr,w.heap[g]? = some (.cells arr e fr)/\∀φ,arr[off]? = some (zf φ c):=by
 unfold zcO at h;rw[hg]at h;simp only[ziM]at h;rcases hm:ns[off]? with _|m
 .grind
 rw[hm]at h;cases h;obtain⟨arr,ty,fr,h1,h2⟩:=H off m hm;exact⟨arr,ty,fr,h1,fun φ=>h2⟩
end Go.CE
end
section
namespace Go.PE
open Go Go.CE
inductive DV where
 |bool (b:Bool)
 |int (k:IntKind) (n:Int)
 |str (s:ByteArray)
 |nils
 |lst (st:Nat) (xs:List (List DV))
 |fp (xs:List DV) (off:Nat)
 |fn (f:Nat) (caps:List (List DV))
 |nilf
 |nilp
 |nilm
 |nili
 |u
inductive DS where
 |one (d:DV)
 |agg (ds:List DV)
inductive DA where
 |s (d:DS)
 |tup (l:List DS)
def DS.cells:DS->List DV
 | .one d=>[d]
 | .agg ds=>ds
inductive Rep (fz:BN->Prop) (h:Za):Zc->DV->Prop
 |bool (b:Bool):Rep fz h (.bool b) (.bool b)
 |int (k:IntKind) (n:Int):Rep fz h (.int k n) (.int k n)
 |str (s:ByteArray):Rep fz h (.str s) (.str s)
 |nils:Rep fz h .nils .nils
 |nilf:Rep fz h .nilf .nilf
 |nilp:Rep fz h .nilp .nilp
 |nilm:Rep fz h .nilm .nilm
 |nili:Rep fz h .nili .nili
 |u (c:Zc):Rep fz h c .u
 |lst {b:BN} {o:Zf} {off cap:Nat} {ex:Bool} {st:Nat} {xs:List (List DV)} (cs:List Zc) (hb:fz b) (hg:h.t.get b=some o) (hc:ex=true->xs.length<=cap)
   (ha:rd (xs.length*st) off o=some cs) (h1:∀(i:Nat) (x:List DV),xs[i]? = some x->x.length=st)
   (h2:∀(i:Nat) (x:List DV) (j:Nat) (c:Zc) (d:DV),xs[i]? = some x->cs[i*st+j]? = some c->x[j]? = some d->Rep fz h c d):Rep fz h (.slc b off xs.length cap ex) (.lst st xs)
 |fp {b:BN} {o:Zf} {base:Nat} {xs:List DV} {off:Nat} (cs:List Zc) (hb:fz b) (hg:h.t.get b=some o) (h1:rd xs.length base o=some cs)
   (h2:∀(j:Nat) (c:Zc) (d:DV),cs[j]? = some c->xs[j]? = some d->Rep fz h c d):Rep fz h (.ptr b (base+off)) (.fp xs off)
 |fn {f:Nat} {ps:List (BN×Nat)} {caps:List (List DV)} (css:Nat->List Zc) (os:Nat->Zf) (hl:ps.length=caps.length)
   (h1:∀(i:Nat) (p:BN×Nat) (x:List DV),ps[i]? = some p->caps[i]? = some x->fz p.1/\h.t.get p.1=some (os i)/\rd x.length p.2 (os i)=some (css i))
   (h2:∀(i:Nat) (p:BN×Nat) (x:List DV) (j:Nat) (c:Zc) (d:DV),ps[i]? = some p->caps[i]? = some x->(css i)[j]? = some c->x[j]? = some d->Rep fz h c d):Rep fz h (.fn f ps) (.fn f caps)
structure FG (fz:BN->Prop) (h:Za) (fz':BN->Prop) (h':Za):Prop where
 sub:∀b o,fz b->h.t.get b=some o->fz' b
 old:∀b o,fz b->h.t.get b=some o->h'.t.get b=some o
theorem FG.refl(fz:BN->Prop)(h:Za):FG fz h fz h:=⟨fun _ _ h _=>h,fun _ _ _ h=>h⟩
theorem FG.trans{f1 f2 f3:BN->Prop}{h1 h2 h3:Za}(a:FG f1 h1 f2 h2)(b:FG f2 h2 f3 h3):FG f1 h1 f3 h3:=⟨fun x o hx ho=>b.sub x o (a.sub x o hx ho) (a.old x o hx ho),fun x o hx ho=>b.old x o (a.sub x o hx ho) (a.old x o hx ho)⟩
theorem Rep.mono{fz fz':BN->Prop}{h h':Za}(g:FG fz h fz' h'){c:Zc}{d:DV}(H:Rep fz h c d):Rep fz' h' c d:=by
 induction H with
 |bool b=>exact .bool b
 |int k n=>exact .int k n
 |str s=>exact .str s
 |nils=>exact .nils
 |nilf=>exact .nilf
 |nilp=>exact .nilp
 |nilm=>exact .nilm
 |nili=>exact .nili
 |u c=>exact .u c
 |lst cs hb hg hc ha h1 h2 ih=>exact .lst cs (g.sub _ _ hb hg) (g.old _ _ hb hg) hc ha h1 ih
 |fp cs hb hg h1 h2 ih=>exact .fp cs (g.sub _ _ hb hg) (g.old _ _ hb hg) h1 ih
 |fn css os hl h1 h2 ih=>exact .fn css os hl (fun i p x hp hx=>by obtain⟨a,b,c⟩:=h1 i p x hp hx;exact⟨g.sub _ _ a b,g.old _ _ a b,c⟩) ih
def RepL(fz:BN->Prop)(h:Za)(cs:List Zc)(ds:List DV):Prop:=cs.length=ds.length/\∀(j:Nat) (c:Zc) (d:DV),cs[j]? = some c->ds[j]? = some d->Rep fz h c d
theorem RepL.mono{fz fz':BN->Prop}{h h':Za}(g:FG fz h fz' h'){cs:List Zc}{ds:List DV}(H:RepL fz h cs ds):RepL fz' h' cs ds:=⟨H.1,fun j c d a b=>(H.2 j c d a b).mono g⟩
theorem RepL.nil(fz:BN->Prop)(h:Za):RepL fz h [] []:=⟨rfl,fun j c d a=>by simp at a⟩
theorem RepL.cons{fz:BN->Prop}{h:Za}{c:Zc}{d:DV}{cs:List Zc}{ds:List DV}(a:Rep fz h c d)(b:RepL fz h cs ds):RepL fz h (c::cs) (d::ds):=by
 refine⟨by simp[b.1],fun j c' d' hc hd=>?_⟩;cases j with
 |zero=>grind
 |succ j=>simp only[Yzm]at hc hd;exact b.2 j c' d' hc hd
theorem RepL.inv{fz:BN->Prop}{h:Za}{c:Zc}{d:DV}{cs:List Zc}{ds:List DV}(H:RepL fz h (c::cs) (d::ds)):Rep fz h c d/\RepL fz h cs ds:=
 ⟨H.2 0 c d rfl rfl,by have:=H.1;grind,fun j c' d' hc hd=>H.2 (j+1) c' d' (by trivial) (by trivial)⟩
theorem RepL.app{fz:BN->Prop}{h:Za}{cs cs':List Zc}{ds ds':List DV}(a:RepL fz h cs ds)(b:RepL fz h cs' ds'):RepL fz h (cs++cs') (ds++ds'):=by
 refine⟨by simp[a.1,b.1],fun j c d hc hd=>?_⟩;by_cases hj:j<cs.length
 .rw[Lz2 hj]at hc;rw[Lz2 (by have:=a.1;omega)]at hd;exact a.2 j c d hc hd
 rw[Lz8 (by omega)]at hc;rw[Lz8 (by have:=a.1;omega),<-a.1]at hd;exact b.2 _ c d hc hd
theorem RepL.sub{fz:BN->Prop}{h:Za}{cs:List Zc}{ds:List DV}(a:RepL fz h cs ds)(i n:Nat):RepL fz h ((cs.drop i).take n) ((ds.drop i).take n):=by
 refine⟨by simp[a.1],fun j c d hc hd=>?_⟩;rw[YzH]at hc hd;split at hc
 .rename_i hj;rw[Yzd hj]at hd;rw[Yzo]at hc hd;exact a.2 _ c d hc hd
 cases hc
def RepS(fz:BN->Prop)(h:Za):SVal->DS->Prop
 | .one c,.one d=>Rep fz h c d
 | .agg cs,.agg ds=>RepL fz h cs ds
 |_,_=>False
theorem RepS.mono{fz fz':BN->Prop}{h h':Za}(g:FG fz h fz' h'){c:SVal}{d:DS}(H:RepS fz h c d):RepS fz' h' c d:=by
 cases c<;>cases d<;>simp only[RepS]at H ⊢
 .exact H.mono g
 exact H.mono g
def RepSL(fz:BN->Prop)(h:Za):List SVal->List DS->Prop
 | [],[]=>True
 |c::cs,d::ds=>RepS fz h c d/\RepSL fz h cs ds
 |_,_=>False
theorem RepSL.mono{fz fz':BN->Prop}{h h':Za}(g:FG fz h fz' h'):∀{c:List SVal} {d:List DS},RepSL fz h c d->RepSL fz' h' c d
 | [],[],_=>trivial
 |_::_,_::_,H=>⟨H.1.mono g,RepSL.mono g H.2⟩
 | [],_::_,H=>H.elim
 |_::_,[],H=>H.elim
def RepA(fz:BN->Prop)(h:Za):Zb->DA->Prop
 | .s c,.s d=>RepS fz h c d
 | .tup cs,.tup ds=>RepSL fz h cs ds
 |_,_=>False
theorem RepA.inv{fz:BN->Prop}{h:Za}{v:Zb}{d:DS}(H:RepA fz h v (.s d)):∃w,v=.s w/\RepS fz h w d:=by
 cases v with
 |s v=>exact⟨_,rfl,H⟩
 |tup l=>trivial
def wk(fz:BN->Prop)(h:Za):List Zb->List DA->Prop
 | [],[]=>True
 |c::cs,d::ds=>RepA fz h c d/\wk fz h cs ds
 |_,_=>False
theorem zcp:∀(cs:List Zc) (n i:Nat),i+n<=cs.length->cut n cs i=some ((cs.drop i).take n):=by
 have tk:∀(n:Nat) (cs:List Zc),n<=cs.length->takeN n cs=some (cs.take n):=by
  intro n
  induction n with
  |zero=>grind[takeN]
  |succ n ih=>intro cs h;cases cs<;>grind[takeN,x6]
 intro cs
 induction cs with
 |nil=>intro n i h;simp at h;obtain⟨rfl,rfl⟩:=h;rfl
 |cons c cs ih=>
  intro n i h;cases i with
  |zero=>
   show takeN n (c::cs)=_
   grind
  |succ i=>
   show cut n cs i=_
   grind
theorem zhH{f:Nat->Option Zc}:∀{n i:Nat} {l:List Zc},l.length=n->(∀j c,l[j]? = some c->f (i+j)=some c)->zcq f n i=some l:=by
 intro n
 induction n with
 |zero=>intro i l hl _;rw[List.length_eq_zero_iff.1 hl];rfl
 |succ n ih=>
  intro i l hl H;cases l with
  |nil=>simp at hl
  |cons c l=>
   have h0:=H 0 c rfl;simp only[Yzy]at h0;have h1:=ih (i:=i+1) (l:=l) (by grind) (fun j d hd=>by have:=H (j+1) d (by trivial);grind)
   grind[zcq,x6]
theorem zd4{n off:Nat}{cs:List Zc}(h:rd n off .void=some cs):n=0/\cs=[]:=by have h:(bif Nat.beq n 0 then some [] else none)=some cs:=h;cases hn:Nat.beq n 0<;>simp_all
theorem zc8{n off:Nat}{o:Zf}{cs:List Zc}(h:rd n off o=some cs):cs.length=n:=by
 cases o with
 |void=>obtain⟨rfl,rfl⟩:=zd4 h;rfl
 |cells l st=>exact(zat h).1
 |ro x f=>exact(qU h).1
 |_=>cases h
theorem zc7{n base:Nat}{o:Zf}{cs:List Zc}(h:rd n base o=some cs){off m:Nat}(hm:off+m<=n):rd m (base+off) o=some ((cs.drop off).take m):=by
 cases o with
 |void=>
  obtain⟨rfl,rfl⟩:=zd4 h
  grind
 |cells l st=>
  obtain⟨rfl,h2⟩:=zjm n l base cs h;show cut m l (base+off)=_
  grind[zcp,List.drop_take,YzE]
 |ro x f=>
  obtain⟨h1,h2⟩:=qU h;refine zhH (by simp;omega) fun j c hc=>?_
  grind
 |_=>cases h
def DV.scal:DV->Option Zc
 | .bool b=>some (.bool b)
 | .int k n=>some (.int k n)
 | .str s=>some (.str s)
 | .nils=>some .nils
 | .nilf=>some .nilf
 | .nilp=>some .nilp
 | .nilm=>some .nilm
 | .nili=>some .nili
 |_=>none
theorem Rep.scal{fz:BN->Prop}{h:Za}{c:Zc}{d:DV}(H:Rep fz h c d){c':Zc}(e:d.scal=some c'):c=c':=by cases H<;>simp only[DV.scal]at e<;>first|cases e;rfl|cases e
theorem Rep.lst_inv{fz:BN->Prop}{h:Za}{c:Zc}{st:Nat}{xs:List (List DV)}(H:Rep fz h c (.lst st xs)):
  ∃b o off cap ex cs,c=.slc b off xs.length cap ex/\fz b/\h.t.get b=some o/\(ex=true->xs.length<=cap)/\rd (xs.length*st) off o=some cs/\
   ∀(i:Nat) (x:List DV),xs[i]? = some x->x.length=st/\RepL fz h ((cs.drop (i*st)).take st) x:=by
 cases H with
 |lst cs hb hg hc ha h1 h2=>
  refine⟨_,_,_,_,_,cs,rfl,hb,hg,hc,ha,fun i x hx=>⟨h1 i x hx,?_,fun j c d hc hd=>?_⟩⟩
  .have hi:=(Lz0.1 hx).1;have:(i+1)*st<=xs.length*st:=Yzj st hi
   grind[zc8]
  grind
theorem Rep.lst_mk{fz:BN->Prop}{h:Za}{b:BN}{o:Zf}{off cap:Nat}{ex:Bool}{st:Nat}{xs:List (List DV)}{cs:List Zc}(hb:fz b)(hg:h.t.get b=some o)(hc:ex=true->xs.length<=cap)
  (ha:rd (xs.length*st) off o=some cs) (H:∀(i:Nat) (x:List DV),xs[i]? = some x->x.length=st/\RepL fz h ((cs.drop (i*st)).take st) x):Rep fz h (.slc b off xs.length cap ex) (.lst st xs):=by
 refine .lst cs hb hg hc ha (fun i x hx=>(H i x hx).1) (fun i x j c d hx hcs hd=>(H i x hx).2.2 j c d ?_ hd)
 grind
theorem Rep.fp_inv{fz:BN->Prop}{h:Za}{c:Zc}{xs:List DV}{off:Nat}(H:Rep fz h c (.fp xs off)):
  ∃b o base cs,c=.ptr b (base+off)/\fz b/\h.t.get b=some o/\rd xs.length base o=some cs/\RepL fz h cs xs:=by
 cases H with
 |fp cs hb hg h1 h2=>exact⟨_,_,_,cs,rfl,hb,hg,h1,zc8 h1,h2⟩
theorem Rep.fp_mk{fz:BN->Prop}{h:Za}{b:BN}{o:Zf}{base:Nat}{cs:List Zc}{xs:List DV}{off:Nat}(hb:fz b)(hg:h.t.get b=some o)(h1:rd xs.length base o=some cs)(h2:RepL fz h cs xs):
  Rep fz h (.ptr b (base+off)) (.fp xs off):=.fp cs hb hg h1 h2.2
theorem Rep.fn_mk{fz:BN->Prop}{h:Za}{f:Nat}{ps:List (BN×Nat)}{caps:List (List DV)}(H:RepL fz h (ps.map fun p=>.ptr p.1 p.2) (caps.map fun x=>.fp x 0)):Rep fz h (.fn f ps) (.fn f caps):=by
 have hl:ps.length=caps.length:=by simpa using H.1
 have:∀i:Nat,∃q:List Zc×Zf,∀(p:BN×Nat) (x:List DV),ps[i]? = some p->caps[i]? = some x->fz p.1/\h.t.get p.1=some q.2/\rd x.length p.2 q.2=some q.1/\RepL fz h q.1 x:=by
  intro i;rcases hp:ps[i]? with _|p
  .exact⟨([],.dead),fun p x hp'=>by cases hp'⟩
  rcases hx:caps[i]? with _|x
  .grind
  have:=H.2 i (.ptr p.1 p.2) (.fp x 0) (by simp[hp]) (by simp[hx]);obtain⟨b,o,base,cs,e,a1,a2,a3,a4⟩:=this.fp_inv;simp_all
 obtain⟨q,hq⟩:=Classical.axiomOfChoice this;exact .fn (fun i=>(q i).1) (fun i=>(q i).2) hl (fun i p x hp hx=>⟨(hq i p x hp hx).1,(hq i p x hp hx).2.1,(hq i p x hp hx).2.2.1⟩) (fun i p x j c d hp hx hc hd=>(hq i p x hp hx).2.2.2.2 j c d hc hd)
end Go.PE
end
