/-
  Lemmas: PEz, CEun. No condition.
-/
import Derived.Test.YtekpghfdglhonaaGreatDoorVd
section
namespace Go.PE
open Go Go.CE Go.RowKit
def zeY(P:Program):List Field→Nat→Option Nat
 | [],o=>some o
 |f::l,o=>bif Nat.beq f.offset o then zeY P l (o+P.cellsOf f.type) else none
def qE(P:Program):Nat→TypeId→Bool
 |0,_=>false
 |n+1,t=>
  match P.underlying t with
  |some .bool=>Nat.beq (P.cellsOf t) 1
  |some (.int _)=>Nat.beq (P.cellsOf t) 1
  |some .string=>Nat.beq (P.cellsOf t) 1
  |some (.slice e)=>qE P n e&&Nat.ble 1 (P.cellsOf e)&&Nat.beq (P.cellsOf t) 1
  |some (.struct fs)=>(fs.toList.all fun f=>qE P n f.type)&&(match zeY P fs.toList 0 with|some m=>Nat.beq m (P.cellsOf t)|none=>false)
  |some (.array k e)=>qE P n e&&Nat.beq (P.cellsOf t) (k*P.cellsOf e)
  |_=>false
def TyFs(T:TypeId→List DV→Prop):List TypeId→List DV→Prop
 | [],ds=>ds=[]
 |t::l,ds=>∃a b,ds=a++b∧T t a∧TyFs T l b
def Ty(P:Program):Nat→TypeId→List DV→Prop
 |0,_,_=>False
 |n+1,t,ds=>
  match P.underlying t with
  |some .bool=>∃b,ds=[.bool b]
  |some (.int k)=>∃m,ds=[.int k m]∧(Lit.int k m).wf=true
  |some .string=>∃s,ds=[.str s]∧s.size≤maxLen
  |some (.slice e)=>ds=[.nils]∨∃xs,ds=[.lst (P.cellsOf e) xs]∧xs.length≤maxLen∧∀x∈xs,Ty P n e x
  |some (.struct fs)=>TyFs (Ty P n) (fs.toList.map (·.type)) ds
  |some (.array k e)=>TyFs (Ty P n) (List.replicate k e) ds
  |_=>False
def AbsL(w:World)(cs:List Value)(vs:List CVal):Prop:=cs.map (absV w)=vs.map some
theorem AbsL.len{w:World}{cs:List Value}{vs:List CVal}(h:AbsL w cs vs):cs.length=vs.length:=by have:=congrArg List.length h;simpa using this
theorem AbsL.get{w:World}{cs:List Value}{vs:List CVal}(h:AbsL w cs vs){i:Nat}{v:Value}(hi:cs[i]? = some v):∃c,vs[i]? = some c∧absV w v=some c:=by
 have:=congrArg (·[i]?) h;simp only[Lz6,hi,Option.map_some]at this;cases hv:vs[i]? with
 |none=>rw[hv]at this;cases this
 |some c=>rw[hv]at this;exact⟨c,rfl,by simpa using this⟩
theorem AbsL.app{w:World}{a b:List Value}{x y:List CVal}(h:AbsL w a x)(k:AbsL w b y):AbsL w (a++b) (x++y):=by
 unfold AbsL at *;rw[List.map_append,List.map_append,h,k]
theorem AbsL.conc{w:World}:∀{cs:List Value} {vs:List CVal},AbsL w cs vs→vs.map (zi (φ0 w))=cs∧∀c∈vs,wfC (φ0 w) (yp w).n.toNat c
 | [],[],_=>⟨rfl,fun c h=>by cases h⟩
 |v::cs,c::vs,h=>by
  simp only[AbsL,List.map_cons,List.cons.injEq]at h;obtain⟨k1,k2⟩:=zoo w h.1;obtain⟨k3,k4⟩:=AbsL.conc (show AbsL w cs vs from h.2)
  refine⟨by rw[List.map_cons,k1,k3],fun x hx=>?_⟩
  rcases List.mem_cons.1 hx with rfl|hx
  ·exact k2
  ·exact k4 x hx
 | [],_::_,h=>by cases h
 |_::_,[],h=>by cases h
def okV(w:World)(v:Value):Prop:=∀a,v=.slice (some a) 0 0→(zaq w a.block=true∧a.spot=none)∨a∈odds w
theorem zha{w:World}{a:Addr}{v:Value}(h:w.cell? a=some v):okV w v∧a.spot=none∧∃arr e fr,w.heap[a.block]? = some (.cells arr e fr)∧arr[a.off]? = some v:=by
 have key:a.spot=none∧∃arr e fr,w.heap[a.block]? = some (.cells arr e fr)∧arr[a.off]? = some v:=by
  unfold World.cell? at h;split at h
  ·rename_i arr e fr hx;split at h
   ·cases h
   ·rename_i hs;exact⟨by simpa using hs,arr,e,fr,hx,h⟩
  ·cases h
 obtain⟨h1,arr,e,fr,h2,h3⟩:=key;exact⟨fun b hb=>by subst hb;exact .inr (zmR h2 h3),h1,arr,e,fr,h2,h3⟩
theorem zhk{α β:Type}{f:α→Option β}:∀{l:List α} {r:List β},l.mapM f=some r→r.length=l.length∧∀(i:Nat) (x:α),l[i]? = some x→∃y,r[i]? = some y∧f x=some y
 | [],r,h=>by simp at h;subst h;exact⟨rfl,fun i x hi=>by simp at hi⟩
 |a::l,r,h=>by
  simp only[List.mapM_cons,Option.bind_eq_bind,Option.bind_eq_some_iff,Option.pure_def,Option.some.injEq]at h;obtain⟨b,hb,bs,hbs,rfl⟩:=h;obtain⟨k1,k2⟩:=zhk hbs;refine⟨by simp[k1],fun i x hi=>?_⟩
  cases i with
  |zero=>simp at hi;subst hi;exact⟨b,rfl,hb⟩
  |succ i=>simp at hi;obtain⟨y,h1,h2⟩:=k2 i x hi;exact⟨y,by simpa using h1,h2⟩
section
variable {H:Type} {enc:TypeId×Value→H} {P:Program} {w:World} {base:Nat} {held:Bool}
def zh4(P:Program)(w:World)(m:Nat)(t:TypeId)(cs:List Value):Prop:=
 ∃vs ds,AbsL w cs vs∧RepL (fun b=>b.toNat<(yp w).n.toNat) (yp w) vs ds∧Ty P m t ds
theorem ze2{a:Addr}{n:Nat}{cs:List Value}(h:w.cells? base a n=some cs):cs.length=n∧∀j,j<n→∃v,cs[j]? = some v∧w.cell? (a.add j)=some v:=by
 unfold World.cells? at h;split at h
 ·obtain⟨k1,k2⟩:=zhk h;refine⟨by simpa using k1,fun j hj=>?_⟩
  exact k2 j j (by rw[List.getElem?_range hj])
 ·cases h
theorem zaP{a:Addr}{len cap st:Nat}(hst:1≤st)(hlc:len≤cap){arr:Array Value}{e:TypeId}{fr:Nat×Nat}(hb:w.heap[a.block]? = some (.cells arr e fr))(hsp:a.spot=none)
  (C:Nat→List CVal) (X:Nat→List DV) (hC:∀i,i<len→(C i).length=st∧(X i).length=st∧(∀j c,(C i)[j]? = some c→(arr[a.off+(i*st+j)]?).bind (absV w)=some c)∧RepL (fun b=>b.toNat<(yp w).n.toNat) (yp w) (C i) (X i)):
  ∃c,absV w (.slice (some a) len cap)=some c∧Rep (fun b=>b.toNat<(yp w).n.toNat) (yp w) c (.lst st ((List.range len).map X)):=by
 have hd:zaq w a.block=true:=by unfold zaq;rw[hb]
 have hlt:=zhL hd;refine⟨.slc (bn a.block) a.off len cap true,?_,?_⟩
 ·show (bif decide (zaq w a.block=true∧a.spot=none∧len≤cap) then _ else _)=_
  rw[decide_eq_true ⟨hd,hsp,hlc⟩];rfl
 ·have hg:(yp w).t.get (bn a.block)=some (roOf w (.cells arr e fr)):=zab w (by rw[zD];exact hb)
  let L:=(List.range (len*st)).map fun j=>((C (j / st))[j % st]?).getD .nilp
  have hLl:L.length=len*st:=by simp[L]
  have hLg:∀i j,i<len→j<st→∃c,L[i*st+j]? = some c∧(C i)[j]? = some c:=fun i j hi hj=>by
   obtain⟨c,hc⟩:∃c,(C i)[j]? = some c:=⟨_,Lz5 (by rw[(hC i hi).1];exact hj)⟩
   refine⟨c,?_,hc⟩;have h1:i*st+j<len*st:=by
    have:(i+1)*st≤len*st:=Nat.mul_le_mul_right st hi;rw[Nat.succ_mul]at this;omega
   have e1:(i*st+j) / st=i:=by rw[Nat.mul_comm,Nat.mul_add_div (by omega),Nat.div_eq_of_lt hj,Nat.add_zero]
   have e2:(i*st+j) % st=j:=by rw[Nat.mul_comm,Nat.mul_add_mod,Nat.mod_eq_of_lt hj]
   simp only[L,Lz6,List.getElem?_range h1,Option.map_some,e1,e2,hc,Option.getD_some]
  have hrd:rd (((List.range len).map X).length*st) a.off (roOf w (.cells arr e fr))=some L:=by
   rw[List.length_map,List.length_range];refine zgk hLl fun j c hj=>?_
   have hjl:j<len*st:=by rw[←hLl];exact(Lz0.1 hj).1
   have hi:j / st<len:=Nat.div_lt_of_lt_mul (by rw[Nat.mul_comm];exact hjl)
   have hr:j % st<st:=Nat.mod_lt _ (by omega)
   have hj':j / st*st+j % st=j:=by rw[Nat.mul_comm];exact Nat.div_add_mod j st
   obtain⟨c',k1,k2⟩:=hLg (j / st) (j % st) hi hr;rw[hj',hj]at k1;cases k1;have:=(hC _ hi).2.2.1 _ _ k2;rw[hj']at this;exact this
  have hX:∀(i:Nat) (x:List DV),((List.range len).map X)[i]? = some x→i<len∧x=X i:=fun i x hx=>by
   rw[Lz6]at hx;cases hr:(List.range len)[i]? with
   |none=>rw[hr]at hx;cases hx
   |some q=>
    rw[hr]at hx;have hi:i<len:=by have:=(Lz0.1 hr).1;simpa using this
    rw[List.getElem?_range hi]at hr;cases hr;cases hx;exact⟨hi,rfl⟩
  have:=Rep.lst (fz:=fun b=>b.toNat<(yp w).n.toNat) (h:=yp w) (b:=bn a.block) (o:=roOf w (.cells arr e fr)) (off:=a.off) (cap:=cap) (ex:=true) (st:=st) (xs:=(List.range len).map X) L
   (by rw[zD,kP];omega) hg (fun _=>by simpa using hlc) hrd (fun i x hx=>by obtain⟨hi,rfl⟩:=hX i x hx;exact(hC i hi).2.1)
   (fun i x j c d hx hc hd => by
    obtain⟨hi,rfl⟩:=hX i x hx;have hj:j<st:=by rw[←(hC i hi).2.1];exact(Lz0.1 hd).1
    obtain⟨c',k1,k2⟩:=hLg i j hi hj;rw[hc]at k1;cases k1;exact(hC i hi).2.2.2.2 j c d k2 hd)
  rw[List.length_map,List.length_range]at this;exact this
theorem ze8{m n:Nat}{held:Bool}(ih:∀{t:TypeId} {cs:List Value} {x:DataW H×List MemPlace},qE P m t=true→DataW.trod enc P w base (fun _=>true) held n t cs=some x→(∀v∈cs,okV w v)→zh4 P w m t cs∧cs.length=P.cellsOf t):
  ∀(fs:List Field) (o e:Nat) (cs:List Value),(fs.all fun f=>qE P m f.type)=true→zeY P fs o=some e→e=cs.length→o≤e→
   (∀f∈fs,∃y,DataW.trod enc P w base (fun _=>true) held n f.type ((cs.drop f.offset).take (P.cellsOf f.type))=some y)→(∀v∈cs,okV w v)→
   ∃vs ds,AbsL w (cs.drop o) vs∧RepL (fun b=>b.toNat<(yp w).n.toNat) (yp w) vs ds∧TyFs (Ty P m) (fs.map (·.type)) ds
 | [],o,e,cs,_,hc,he,_,_,_=>by
  cases hc;subst he;exact⟨[],[],by simp[AbsL],RepL.nil _ _,rfl⟩
 |f::fs,o,e,cs,hd,hc,he,hle,hm,hok=>by
  simp only[List.all_cons,LzC]at hd;simp only[zeY]at hc;cases hb:Nat.beq f.offset o with
  |false=>rw[hb]at hc;cases hc
  |true=>
   rw[hb,cond_true]at hc;have ho:=Lz1 hb;obtain⟨x,hx⟩:=hm f (List.mem_cons_self ..);rw[ho]at hx;obtain⟨⟨v1,d1,a1,r1,t1⟩,hl⟩:=ih hd.1 hx (fun v hv=>hok v (List.mem_of_mem_drop (List.mem_of_mem_take hv)))
   have hle2:o+P.cellsOf f.type≤cs.length:=by
    simp only[List.length_take,List.length_drop]at hl;rcases Nat.eq_zero_or_pos (P.cellsOf f.type) with h0|h0
    ·omega
    ·omega
   obtain⟨v2,d2,a2,r2,t2⟩:=ze8 ih fs (o+P.cellsOf f.type) e cs hd.2 hc he (by omega) (fun g hg=>hm g (List.mem_cons_of_mem _ hg)) hok
   refine⟨v1++v2,d1++d2,?_,r1.app r2,d1,d2,rfl,t1,t2⟩;have:cs.drop o=(cs.drop o).take (P.cellsOf f.type)++cs.drop (o+P.cellsOf f.type):=by
    rw[←List.drop_drop,List.take_append_drop]
   rw[this];exact a1.app a2
theorem zh2{m n:Nat}{held:Bool}{e:TypeId}(ih:∀{t:TypeId} {cs:List Value} {x:DataW H×List MemPlace},qE P m t=true→DataW.trod enc P w base (fun _=>true) held n t cs=some x→(∀v∈cs,okV w v)→zh4 P w m t cs∧cs.length=P.cellsOf t)
  (hd : qE P m e = true) : ∀ (k : Nat) (cs : List Value), cs.length = k * P.cellsOf e → (∀ i, i < k → ∃ x, DataW.trod enc P w base (fun _ => true) held n e ((cs.drop (i * P.cellsOf e)).take (P.cellsOf e)) = some x) → (∀ v ∈ cs, okV w v) →
   ∃vs ds,AbsL w cs vs∧RepL (fun b=>b.toNat<(yp w).n.toNat) (yp w) vs ds∧TyFs (Ty P m) (List.replicate k e) ds
 |0,cs,hl,_,_=>by
  have:cs=[]:=List.length_eq_zero_iff.1 (by simpa using hl)
  subst this;exact⟨[],[],by simp[AbsL],RepL.nil _ _,rfl⟩
 |k+1,cs,hl,hx,hok=>by
  obtain⟨x,h0⟩:=hx 0 (by omega)
  rw[Nat.zero_mul,List.drop_zero]at h0;obtain⟨⟨v1,d1,a1,r1,t1⟩,_⟩:=ih hd h0 (fun v hv=>hok v (List.mem_of_mem_take hv))
  rw[Nat.succ_mul]at hl;obtain⟨v2,d2,a2,r2,t2⟩:=zh2 ih hd k (cs.drop (P.cellsOf e)) (by simp;omega) (fun i hi=>by
   obtain⟨y,hy⟩:=hx (i+1) (by omega)
   refine⟨y,?_⟩;rw[List.drop_drop,show P.cellsOf e+i*P.cellsOf e=(i+1)*P.cellsOf e by rw[Nat.succ_mul,Nat.add_comm]]
   exact hy) (fun v hv=>hok v (List.mem_of_mem_drop hv))
  refine⟨v1++v2,d1++d2,?_,r1.app r2,d1,d2,rfl,t1,t2⟩;rw[←List.take_append_drop (P.cellsOf e) cs];exact a1.app a2
theorem zeu:∀(m:Nat) {q:Nat} {t:TypeId} {cs:List Value} {x:DataW H×List MemPlace},qE P m t=true→DataW.trod enc P w base (fun _=>true) held q t cs=some x→(∀v∈cs,okV w v)→zh4 P w m t cs∧cs.length=P.cellsOf t
 |0,_,_,_,_,h,_,_=>by cases h
 |m+1,fu,t,cs,x,hd,ht,hok=>by
  have ih:=@zeu m;unfold qE at hd;unfold zh4;unfold Ty;cases hu:P.underlying t with
  |none=>rw[hu]at hd;cases hd
  |some d=>
   rw[hu]at hd;cases d<;>first|(cases (show false=true from hd);done)|skip
   case bool=>
    have h1:=Lz1 hd;obtain⟨b,rfl,_⟩:=DataW.trod_bool hu ht;exact⟨⟨[_],[_],rfl,RepL.cons (.bool _) (RepL.nil _ _),b,rfl⟩,h1.symm⟩
   case int k=>
    have h1:=Lz1 hd;obtain⟨n,rfl,_,hw⟩:=DataW.trod_int hu ht;exact⟨⟨[_],[_],rfl,RepL.cons (.int _ _) (RepL.nil _ _),n,rfl,hw⟩,h1.symm⟩
   case string=>
    have h1:=Lz1 hd;obtain⟨s,rfl,_,hw⟩:=DataW.trod_string hu ht;exact⟨⟨[_],[_],rfl,RepL.cons (.str _) (RepL.nil _ _),s,rfl,hw⟩,h1.symm⟩
   case slice e=>
    simp only[LzC]at hd;obtain⟨⟨hd1,hst⟩,hc1⟩:=hd;have hst:=Lz4 hst;have hc1:=Lz1 hc1;rcases DataW.trod_slice hu ht with⟨rfl,_⟩|⟨a,len,cap,elems,rest,n,hn,rfl,_,_,hlc,hcap,hel,hE,hR,_⟩
    ·exact⟨⟨[_],[_],rfl,RepL.cons .nils (RepL.nil _ _),.inl rfl⟩,hc1.symm⟩
    ·subst hn;have hok:=hok _ (List.mem_cons_self ..);refine⟨?_,hc1.symm⟩;have one:∀i,i<len→∃vs ds,(vs.length=P.cellsOf e∧ds.length=P.cellsOf e∧(∀j c,vs[j]? = some c→∃v,w.cell? ((a.add (i*P.cellsOf e)).add j)=some v∧absV w v=some c))∧RepL (fun b=>b.toNat<(yp w).n.toNat) (yp w) vs ds∧Ty P m e ds:=fun i hi=>by
      have h:=hE i hi;obtain⟨y,hy⟩:∃y,elems[i]? = some y:=⟨_,Lz5 (by omega)⟩
      rw[hy,Option.bind_eq_some_iff]at h;obtain⟨cs,h1,h2⟩:=h;obtain⟨k1,k2⟩:=ze2 h1;obtain⟨⟨vs,ds,a1,r1,t1⟩,hl⟩:=ih hd1 h2 (fun v hv=>by
       obtain⟨j,hj⟩:=List.mem_iff_getElem?.1 hv;obtain⟨v',g1,g2⟩:=k2 j (by rw[←k1];exact(Lz0.1 hj).1)
       rw[hj]at g1;cases g1;exact(zha g2).1)
      refine⟨vs,ds,⟨by rw[←a1.len,hl],by rw[←r1.1,←a1.len,hl],fun j c hj=>?_⟩,r1,t1⟩
      obtain⟨v',g1,g2⟩:=k2 j (by rw[←k1,a1.len];exact(Lz0.1 hj).1)
      obtain⟨c',q1,q2⟩:=a1.get g1;rw[hj]at q1;cases q1;exact⟨v',g2,q2⟩
     by_cases hc0:cap=0
     ·have hl0:len=0:=by omega
      subst hc0 hl0;rcases hok a rfl with⟨hdb,hsp⟩|hm
      ·obtain⟨arr,el,fr,hb⟩:=zbz hdb;obtain⟨c,q1,q2⟩:=zaP (len:=0) (cap:=0) hst (LzB _) hb hsp (fun _=>[]) (fun _=>[]) (fun i hi=>by omega)
       exact⟨[c],[.lst (P.cellsOf e) []],by simp only[AbsL,List.map_cons,List.map_nil,q1],RepL.cons q2 (RepL.nil _ _),.inr ⟨[],rfl,by simp,fun x hx=>by cases hx⟩⟩
      ·by_cases hdb:zaq w a.block=true∧a.spot=none
       ·obtain⟨arr,el,fr,hb⟩:=zbz hdb.1;obtain⟨c,q1,q2⟩:=zaP (len:=0) (cap:=0) hst (LzB _) hb hdb.2 (fun _=>[]) (fun _=>[]) (fun i hi=>by omega)
        exact⟨[c],[.lst (P.cellsOf e) []],by simp only[AbsL,List.map_cons,List.map_nil,q1],RepL.cons q2 (RepL.nil _ _),.inr ⟨[],rfl,by simp,fun x hx=>by cases hx⟩⟩
       ·have hi:=zdy hm;have hlt:=(Lz0.1 hi).1;refine⟨[.slc (bn (w.heap.size+idxA a (odds w))) 0 0 0 true],[.lst (P.cellsOf e) []],?_,RepL.cons ?_ (RepL.nil _ _),.inr ⟨[],rfl,by simp,fun x hx=>by cases hx⟩⟩
        ·have:absV w (.slice (some a) 0 0)=some (.slc (bn (w.heap.size+idxA a (odds w))) 0 0 0 true):=by
          show (bif decide (zaq w a.block=true∧a.spot=none∧0≤0) then _ else bif decide (0=0∧0=0∧a∈odds w) then _ else _)=_
          rw[decide_eq_false (fun hh=>hdb ⟨hh.1,hh.2.1⟩),decide_eq_true ⟨rfl,rfl,hm⟩];rfl
         simp only[AbsL,List.map_cons,List.map_nil,this]
        ·exact Rep.lst (o:=.void) (xs:=[]) [] (by rw[zD,kP];omega) (ziR w hlt) (fun _=>LzB _) (by simp[rd]) (fun i x hx=>by simp at hx) (fun i x j c d hx=>by simp at hx)
     ·
      have hthere:a.spot=none∧∃arr el fr,w.heap[a.block]? = some (.cells arr el fr):=by
       have go:∀cs,w.cells? base (a.add (0*P.cellsOf e)) (P.cellsOf e)=some cs→a.spot=none∧∃arr el fr,w.heap[a.block]? = some (.cells arr el fr):=fun cs h=>by
        obtain⟨v,_,g2⟩:=(ze2 h).2 0 (by omega)
        have e0:(a.add (0*P.cellsOf e)).add 0=a:=by rw[Nat.zero_mul];rfl
        rw[e0]at g2;obtain⟨_,g3,arr,el,fr,g4,_⟩:=zha g2;exact⟨g3,arr,el,fr,g4⟩
       by_cases hl0:0<len
       ·have h:=hE 0 hl0;obtain⟨y,hy⟩:∃y,elems[0]? = some y:=⟨_,Lz5 (by omega)⟩
        rw[hy,Option.bind_eq_some_iff]at h;obtain⟨cs,h1,_⟩:=h;exact go cs h1
       ·obtain⟨hrl,hr⟩:=hR rfl;have h:=hr 0 (by omega)
        obtain⟨y,hy⟩:∃y,rest[0]? = some y:=⟨_,Lz5 (by omega)⟩
        rw[hy,Option.bind_eq_some_iff]at h;obtain⟨cs,h1,_⟩:=h;rw[show len+0=0 by omega]at h1
        exact go cs h1
      obtain⟨hsp,arr,el,fr,hb⟩:=hthere;have hch:∃(C:Nat→List CVal) (X:Nat→List DV),∀i,i<len→((C i).length=P.cellsOf e∧(X i).length=P.cellsOf e∧(∀j c,(C i)[j]? = some c→∃v,w.cell? ((a.add (i*P.cellsOf e)).add j)=some v∧absV w v=some c))∧RepL (fun b=>b.toNat<(yp w).n.toNat) (yp w) (C i) (X i)∧Ty P m e (X i):=by
       have:∀i:Nat,∃q:List CVal×List DV,i<len→(q.1.length=P.cellsOf e∧q.2.length=P.cellsOf e∧(∀j c,q.1[j]? = some c→∃v,w.cell? ((a.add (i*P.cellsOf e)).add j)=some v∧absV w v=some c))∧RepL (fun b=>b.toNat<(yp w).n.toNat) (yp w) q.1 q.2∧Ty P m e q.2:=fun i=>by
        by_cases hi:i<len
        ·obtain⟨vs,ds,h1,h2,h3⟩:=one i hi;exact⟨(vs,ds),fun _=>⟨h1,h2,h3⟩⟩
        ·exact⟨([],[]),fun h=>absurd h hi⟩
       obtain⟨q,hq⟩:=Classical.axiomOfChoice this;exact⟨fun i=>(q i).1,fun i=>(q i).2,hq⟩
      obtain⟨C,X,hCX⟩:=hch;obtain⟨c,q1,q2⟩:=zaP hst hlc hb hsp C X (fun i hi=>by
       obtain⟨⟨g1,g2,g3⟩,g4,_⟩:=hCX i hi;refine⟨g1,g2,fun j c hj=>?_,g4⟩
       obtain⟨v,k1,k2⟩:=g3 j c hj;have e1:(a.add (i*P.cellsOf e)).add j=⟨a.block,a.off+(i*P.cellsOf e+j),none⟩:=by
        obtain⟨ab,ao,as⟩:=a;simp only at hsp;subst hsp;unfold Addr.add;split<;>split<;>simp_all [Nat.add_assoc]
       rw[e1]at k1;obtain⟨arr2,el2,fr2,z1,z2⟩:=zhR k1;rw[hb]at z1;cases z1;rw[z2];exact k2)
      refine⟨[c],[.lst (P.cellsOf e) ((List.range len).map X)],by simp only[AbsL,List.map_cons,List.map_nil,q1],RepL.cons q2 (RepL.nil _ _),.inr ⟨_,rfl,by simp;omega,fun x hx=>?_⟩⟩
      obtain⟨i,hi,rfl⟩:=List.mem_map.1 hx;exact(hCX i (by simpa using hi)).2.2
   case struct fs=>
    simp only[LzC]at hd;obtain⟨xs,n,hn,_,hl,hxl,hx⟩:=DataW.trod_struct hu ht;subst hn;refine⟨?_,hl⟩;cases hc:zeY P fs.toList 0 with
    |none=>rw[hc]at hd;cases hd.2
    |some q=>
     rw[hc]at hd;have hq:=Lz1 hd.2;have:=ze8 (held:=held) (fun a b c=>ih a b c) fs.toList 0 q cs hd.1 hc (by rw[hq,hl]) (Nat.zero_le _) (fun f hf=>by
      obtain⟨i,hi⟩:=List.mem_iff_getElem?.1 hf;have h1:=hx i f (by rw[←LzA];exact hi)
      have hlt:i<xs.length:=by rw[hxl];have:=(Lz0.1 hi).1;simpa using this
      exact⟨_,h1.trans (Lz5 hlt)⟩) hok
     rw[List.drop_zero]at this;exact this
   case array k e=>
    simp only[LzC]at hd;obtain⟨xs,n,hn,_,hl,hxl,hx⟩:=DataW.trod_array hu ht;subst hn;refine⟨?_,hl⟩;exact zh2 (held:=held) (fun a b c=>ih a b c) hd.1 k cs (by rw[hl];exact Lz1 hd.2) (fun i hi=>⟨_,(hx i hi).trans (Lz5 (by omega))⟩) hok
theorem zo6{P:Program}{w:World}{base:Nat}{t:TypeId}{v:Value}(h:Cell.okWide P w .any base t v):okV w v:=by
 intro a ha;subst ha
 left
 have h:Cell.ok P w .any base t (.slice (some a) 0 0):=by
  unfold Cell.okWide at h;split at h<;>first|(rename_i hh;cases hh;done)|skip
  all_goals first|exact h|(exfalso;simp_all)
 unfold Cell.ok at h;split at h<;>first|(rename_i hh;cases hh;done)|skip
 all_goals simp_all
 obtain⟨_,_,_,h1,row,cells,h2,_⟩:=h;refine⟨?_,h1⟩;unfold World.shape? at h2;unfold zaq;split at h2
 ·rename_i hh;rw[hh]
 ·cases h2
theorem open_row{t:TypeId}{v:Value}{d:DataW H}{p:List MemPlace}(m:Nat)(hu:(match P.underlying t with|some (.struct _)|some (.array _ _)=>true|_=>false)=true)(hd:qE P m t=true)
  (hv:Value.okWide P w .any base t v) (h:DataW.Trod enc P w 0 (fun _=>true) held t v d p):
  ∃vs ds,v=zp (φ0 w) (.s (.agg vs))∧RepL (fun b=>b.toNat<(yp w).n.toNat) (yp w) vs ds∧wfA (φ0 w) (yp w).n.toNat (.s (.agg vs))∧Ty P m t ds:=by
 have:∃cs,v=.agg cs∧cs.size=P.cellsOf t∧Row.okWide P w .any base t cs:=by
  unfold Value.okWide at hv;split at hv
  ·exact hv
  ·exact hv
  ·rename_i h1 h2;exfalso;split at hu
   ·rename_i fs h3;exact h1 fs h3
   ·rename_i n e h3;exact h2 n e h3
   ·cases hu
 obtain⟨cs,rfl,hsz,ts,_,_,hc⟩:=this;obtain⟨q,hq⟩:=h;obtain⟨⟨vs,ds,a,r,ty⟩,_⟩:=zeu m hd hq (fun v hv=>by
  obtain⟨i,hi⟩:=List.mem_iff_getElem?.1 hv;obtain⟨u,_,ho⟩:=hc i v (by rw[←LzA];exact hi)
  exact zo6 ho)
 obtain⟨k1,k2⟩:=a.conc;refine⟨vs,ds,?_,r,k2,ty⟩;show Value.agg cs=.agg ((vs.map (zi (φ0 w))).toArray);rw[k1];rfl
end
end Go.PE
end
section
namespace Go.CE
open Go.RowKit
noncomputable section
structure SumN where
 g:Nat
 args:List AVal
 objs:List AObj
 res:AVal
 news:List AObj
def SumN.heap(s:SumN):AHeap:=⟨bn s.objs.length,Tr.ofList .z s.objs .nil⟩
def SumN.heap1(s:SumN):AHeap:=⟨bn (s.objs.length+s.news.length),Tr.ofList .z (s.objs++s.news) .nil⟩
def mR(m:Mt):AVal→AVal→Option Mt
 | .s v,.s v'=>mS m v v'
 | .tup vs,.tup vs'=>mA (vs.map .s) (vs'.map .s) m
 |_,_=>none
def mIds:BN→List AObj→Mt→Option Mt
 |_,[],m=>some m
 |i,_::l,m=>
  match mB i i m with
  |some m'=>mIds i.succ l m'
  |none=>none
def SumN.back(s:SumN)(v:AVal)(h2:AHeap):Option (Tr BN):=
 match mIds .z s.objs ⟨.nil,.nil,[]⟩ with
 |some m0=>
  match mR m0 s.res v with
  |some m=>ziI s.heap1 h2 (Nat.succ (s.objs.length+s.news.length)) m
  |none=>none
 |none=>none
def SumN.chk(call:zh)(s:SumN):Bool:=
 match call (.inl s.g) s.args s.heap with
 |some (v,h2)=>
  match s.back v h2 with
  |some ρ=>allR ρ .z (s.objs++s.news)&&zjB h2 .z s.objs
  |none=>false
 |none=>false
def SumN.fits(s:SumN)(args:List AVal)(h:AHeap):Option (Tr BN):=
 match mA s.args args ⟨.nil,.nil,[]⟩ with
 |some m=>
  match ziI s.heap h (Nat.succ s.objs.length) m with
  |some ρ=>bif allR ρ .z s.objs then some ρ else none
  |none=>none
 |none=>none
def sC(ρ:Tr BN):CVal→Option CVal
 | .ptr b o=>match ρ.get b with|some b'=>some (.ptr b' o)|none=>none
 | .slc b o l k e=>match ρ.get b with|some b'=>some (.slc b' o l k e)|none=>none
 |c=>bif xk c then some c else none
def sCs(ρ:Tr BN):List CVal→Option (List CVal)
 | []=>some []
 |c::cs=>
  match sC ρ c with
  |some c'=>match sCs ρ cs with|some cs'=>some (c'::cs')|none=>none
  |none=>none
def sS(ρ:Tr BN):SVal→Option SVal
 | .one c=>match sC ρ c with|some c'=>some (.one c')|none=>none
 | .agg cs=>match sCs ρ cs with|some cs'=>some (.agg cs')|none=>none
def sSs(ρ:Tr BN):List SVal→Option (List SVal)
 | []=>some []
 |v::vs=>
  match sS ρ v with
  |some v'=>match sSs ρ vs with|some vs'=>some (v'::vs')|none=>none
  |none=>none
def sA(ρ:Tr BN):AVal→Option AVal
 | .s v=>match sS ρ v with|some v'=>some (.s v')|none=>none
 | .tup vs=>match sSs ρ vs with|some vs'=>some (.tup vs')|none=>none
def addR:BN→BN→List AObj→Tr BN→Tr BN
 |_,_,[],ρ=>ρ
 |i,k,_::l,ρ=>addR i.succ k.succ l (ρ.set i k)
def addO(ρ:Tr BN):List AObj→AHeap→Option AHeap
 | [],h=>some h
 | .cells cs st::l,h=>
  match sCs ρ cs with
  |some cs'=>addO ρ l (h.new (.cells cs' st))
  |none=>none
 |_::_,_=>none
def SumN.app(s:SumN)(h:AHeap)(ρ:Tr BN):Res:=
 match addO (addR (bn s.objs.length) h.n s.news ρ) s.news h with
 |some h'=>match sA (addR (bn s.objs.length) h.n s.news ρ) s.res with|some v=>some (v,h')|none=>none
 |none=>none
def kW(g:Nat)(args:List AVal)(h:AHeap):List SumN→Res
 | []=>none
 |s::l=>
  bif Nat.beq g s.g then
   match s.fits args h with
   |some ρ=>s.app h ρ
   |none=>kW g args h l
  else kW g args h l
def zot(sums:List SumN)(call:zh):zh
 | .inl g,args,h=>
  match kW g args h sums with
  |some r=>some r
  |none=>call (.inl g) args h
 | .inr l,args,h=>call (.inr l) args h
def zf8(cc:Nat→Code→xi)(fs:Nat→Option RFunc)(sums:List Sum)(nsums:List SumN)(n:Nat):zh:=
 Nat.rec (motive:=fun _=>zh) (fun _ _ _=>none) (fun f ih=>zot nsums (zd3 sums (zcG cc fs ih f))) n
end
theorem zsU{D:BN→BN→Prop}{hc h:AHeap}{m m':Mt}:∀{v v':AVal},MI D hc h m→mR m v v'=some m'→MI D hc h m'∧Sub m.ρ m'.ρ∧
  (match v,v' with | .s a,.s b=>RS m'.ρ a b | .tup as,.tup bs=>RAs m'.ρ (as.map .s) (bs.map .s)|_,_=>False)
 | .s v,.s v',I,e=>zrj I e
 | .tup vs,.tup vs',I,e=>znb _ _ _ _ I e
 | .s _,.tup _,_,e=>by cases e
 | .tup _,.s _,_,e=>by cases e
theorem zkH{D:BN→BN→Prop}{hc h:AHeap}:∀(l:List AObj) (i:Nat) (m m':Mt),MI D hc h m→mIds (bn i) l m=some m'→MI D hc h m'∧Sub m.ρ m'.ρ∧∀j,j<l.length→m'.ρ.get (bn (i+j))=some (bn (i+j))
 | [],_,m,m',I,e=>by cases e;exact⟨I,Sub.refl _,fun j hj=>absurd hj (Nat.not_lt_zero _)⟩
 |o::l,i,m,m',I,e=>by
  unfold mIds at e;split at e
  ·rename_i m1 h1;obtain⟨I1,s1,r1⟩:=zpj I h1;rw[j7]at e;obtain⟨I2,s2,r2⟩:=zkH l (i+1) m1 m' I1 e;refine⟨I2,s1.trans s2,fun j hj=>?_⟩
   cases j with
   |zero=>exact s2 _ _ r1
   |succ j=>
    have:=r2 j (by simpa using hj)
    rwa [show i+1+j=i+(j+1) by omega]at this
  ·cases e
theorem zqU{ρ:Tr BN}{c c':CVal}(e:sC ρ c=some c'):RC ρ c c':=by
 have rest:∀c,(bif xk c then some c else none)=some c'→xk c=true∧c'=c:=by
  intro c e;cases hq:xk c with
  |false=>rw[hq]at e;cases e
  |true=>rw[hq]at e;cases e;exact⟨rfl,rfl⟩
 cases c with
 |ptr b o=>
  simp only[sC]at e;split at e
  ·rename_i b' hb;cases e;exact⟨b',rfl,hb⟩
  ·cases e
 |slc b o l k x=>
  simp only[sC]at e;split at e
  ·rename_i b' hb;cases e;exact⟨b',rfl,hb⟩
  ·cases e
 |_=>exact rest _ e
theorem zjI{ρ:Tr BN}:∀{cs cs':List CVal},sCs ρ cs=some cs'→RCs ρ cs cs'
 | [],cs',e=>by cases e;exact⟨rfl,fun i c hc=>by simp at hc⟩
 |c::cs,cs',e=>by
  unfold sCs at e;split at e
  ·rename_i c1 h1;split at e
   ·rename_i cs1 h2;cases e;have r:=zjI h2;refine⟨by simp[r.1],fun i x hx=>?_⟩
    cases i with
    |zero=>
     simp only[List.getElem?_cons_zero,Option.some.injEq]at hx;subst hx;exact⟨c1,rfl,zqU h1⟩
    |succ i=>
     simp only[List.getElem?_cons_succ]at hx ⊢;exact r.2 i x hx
   ·cases e
  ·cases e
theorem zqT{ρ:Tr BN}{v v':SVal}(e:sS ρ v=some v'):RS ρ v v':=by
 cases v with
 |one c=>
  simp only[sS]at e;split at e
  ·rename_i c' h;cases e;exact⟨c',rfl,zqU h⟩
  ·cases e
 |agg cs=>
  simp only[sS]at e;split at e
  ·rename_i c' h;cases e;exact⟨c',rfl,zjI h⟩
  ·cases e
def RR(ρ:Tr BN):AVal→AVal→Prop
 | .s v,.s v'=>RS ρ v v'
 | .tup vs,.tup vs'=>RAs ρ (vs.map .s) (vs'.map .s)
 |_,_=>False
theorem RR.mono{ρ ρ':Tr BN}(hs:Sub ρ ρ'){v v':AVal}(h:RR ρ v v'):RR ρ' v v':=by
 cases v with
 |s v=>cases v' with|s v'=>exact RS.mono hs h|tup _=>exact h.elim
 |tup vs=>cases v' with|s v'=>exact h.elim|tup vs'=>exact RAs.mono hs h
theorem znV{ρ:Tr BN}:∀{vs vs':List SVal},sSs ρ vs=some vs'→RAs ρ (vs.map .s) (vs'.map .s)
 | [],vs',e=>by cases e;trivial
 |v::vs,vs',e=>by
  unfold sSs at e;split at e
  ·rename_i v1 h1;split at e
   ·rename_i vs1 h2;cases e;exact⟨zqT h1,znV h2⟩
   ·cases e
  ·cases e
theorem zsG{ρ:Tr BN}{v v':AVal}(e:sA ρ v=some v'):RR ρ v v':=by
 cases v with
 |s v=>
  simp only[sA]at e;split at e
  ·rename_i c' h;cases e;exact zqT h
  ·cases e
 |tup vs=>
  simp only[sA]at e;split at e
  ·rename_i c' h;cases e;exact znV h
  ·cases e
theorem zlI{ρ ρ':Tr BN}{φ φ':Phi}(ha:∀b x x',ρ.get b=some x→ρ'.get b=some x'→φ' x'=φ x){c c1 c2:CVal}(h1:RC ρ c c1)(h2:RC ρ' c c2):zi φ' c2=zi φ c1:=by
 cases c with
 |ptr b o=>obtain⟨x,rfl,hx⟩:=h1;obtain⟨x',rfl,hx'⟩:=h2;simp only[zi,adr,ha b x x' hx hx']
 |slc b o l k e=>obtain⟨x,rfl,hx⟩:=h1;obtain⟨x',rfl,hx'⟩:=h2;simp only[zi,adr,ha b x x' hx hx']
 |_=>obtain⟨hp,rfl⟩:=h1;obtain⟨_,rfl⟩:=h2;exact jR hp
theorem zfa{ρ ρ':Tr BN}{φ φ':Phi}{n n':Nat}(ha:∀b x x',ρ.get b=some x→ρ'.get b=some x'→φ' x'=φ x)(hlt:∀b x,ρ'.get b=some x→x.toNat<n'){c c1 c2:CVal}(h1:RC ρ c c1)(h2:RC ρ' c c2)(hw:wfC φ n c1):wfC φ' n' c2:=by
 cases c with
 |ptr b o=>
  obtain⟨x,rfl,hx⟩:=h1;obtain⟨x',rfl,hx'⟩:=h2;exact⟨hlt _ _ hx',by rw[ha b x x' hx hx'];exact hw.2⟩
 |slc b o l k e=>
  obtain⟨x,rfl,hx⟩:=h1;obtain⟨x',rfl,hx'⟩:=h2;exact⟨⟨hlt _ _ hx',by rw[ha b x x' hx hx'];exact hw.1.2⟩,by rw[ha b x x' hx hx'];exact hw.2.1,hw.2.2⟩
 |_=>obtain⟨hp,rfl⟩:=h1;obtain⟨_,rfl⟩:=h2;exact zaZ hp
theorem zqj{ρ ρ':Tr BN}{φ φ':Phi}(ha:∀b x x',ρ.get b=some x→ρ'.get b=some x'→φ' x'=φ x){cs c1 c2:List CVal}(h1:RCs ρ cs c1)(h2:RCs ρ' cs c2):c2.map (zi φ')=c1.map (zi φ):=by
 apply List.ext_getElem?;intro i;rw[Lz6,Lz6];cases hc:cs[i]? with
 |none=>
  have k1:c1[i]? = none:=by
   have:=h1.1;rw[List.getElem?_eq_none_iff]at hc ⊢;omega
  have k2:c2[i]? = none:=by
   have:=h2.1;rw[List.getElem?_eq_none_iff]at hc ⊢;omega
  rw[k1,k2];rfl
 |some c=>
  obtain⟨x1,p1,q1⟩:=h1.2 i c hc;obtain⟨x2,p2,q2⟩:=h2.2 i c hc;rw[p1,p2];simp only[Option.map_some,zlI ha q1 q2]
theorem zop{ρ ρ':Tr BN}{φ φ':Phi}(ha:∀b x x',ρ.get b=some x→ρ'.get b=some x'→φ' x'=φ x){v v1 v2:SVal}(h1:RS ρ v v1)(h2:RS ρ' v v2):zB φ' v2=zB φ v1:=by
 cases v with
 |one c=>obtain⟨c1,rfl,q1⟩:=h1;obtain⟨c2,rfl,q2⟩:=h2;exact zlI ha q1 q2
 |agg cs=>obtain⟨c1,rfl,q1⟩:=h1;obtain⟨c2,rfl,q2⟩:=h2;simp only[zB,zqj ha q1 q2]
theorem zlJ{ρ ρ':Tr BN}{φ φ':Phi}(ha:∀b x x',ρ.get b=some x→ρ'.get b=some x'→φ' x'=φ x):∀{vs v1 v2:List SVal},RAs ρ (vs.map .s) (v1.map .s)→RAs ρ' (vs.map .s) (v2.map .s)→v2.map (zB φ')=v1.map (zB φ)
 | [],[],[],_,_=>rfl
 |v::vs,a::as,b::bs,h1,h2=>by
  simp only[List.map_cons,zop ha h1.1 h2.1,zlJ ha h1.2 h2.2]
 | [],_::_,_,h,_=>h.elim
 | [],[],_::_,_,h=>h.elim
 |_::_,[],_,h,_=>h.elim
 |_::_,_::_,[],_,h=>h.elim
theorem zse{ρ ρ':Tr BN}{φ φ':Phi}(ha:∀b x x',ρ.get b=some x→ρ'.get b=some x'→φ' x'=φ x){v v1 v2:AVal}(h1:RR ρ v v1)(h2:RR ρ' v v2):zp φ' v2=zp φ v1:=by
 cases v with
 |s v=>
  cases v1 with
  |s v1=>cases v2 with|s v2=>exact zop ha h1 h2|tup _=>exact h2.elim
  |tup _=>exact h1.elim
 |tup vs=>
  cases v1 with
  |s v1=>exact h1.elim
  |tup v1=>cases v2 with|s v2=>exact h2.elim|tup v2=>simp only[zp,zlJ ha h1 h2]
theorem zcO{ρ ρ':Tr BN}{φ φ':Phi}{n n':Nat}(ha:∀b x x',ρ.get b=some x→ρ'.get b=some x'→φ' x'=φ x)(hlt:∀b x,ρ'.get b=some x→x.toNat<n'){cs c1 c2:List CVal}(h1:RCs ρ cs c1)(h2:RCs ρ' cs c2)(hw:∀c∈c1,wfC φ n c):∀c∈c2,wfC φ' n' c:=by
 intro c hc;obtain⟨i,hi⟩:=List.mem_iff_getElem?.1 hc;have hl:i<cs.length:=by
  have:=(Lz0.1 hi).1;have:=h2.1;omega
 obtain⟨x1,p1,q1⟩:=h1.2 i cs[i] (Lz5 hl);obtain⟨x2,p2,q2⟩:=h2.2 i cs[i] (Lz5 hl);rw[hi]at p2;cases p2;exact zfa ha hlt q1 q2 (hw x1 (Lz3 p1))
theorem ze9{ρ ρ':Tr BN}{φ φ':Phi}{n n':Nat}(ha:∀b x x',ρ.get b=some x→ρ'.get b=some x'→φ' x'=φ x)(hlt:∀b x,ρ'.get b=some x→x.toNat<n'){v v1 v2:SVal}(h1:RS ρ v v1)(h2:RS ρ' v v2)(hw:wfS φ n v1):wfS φ' n' v2:=by
 cases v with
 |one c=>obtain⟨c1,rfl,q1⟩:=h1;obtain⟨c2,rfl,q2⟩:=h2;exact zfa ha hlt q1 q2 hw
 |agg cs=>obtain⟨c1,rfl,q1⟩:=h1;obtain⟨c2,rfl,q2⟩:=h2;exact zcO ha hlt q1 q2 hw
theorem zcP{ρ ρ':Tr BN}{φ φ':Phi}{n n':Nat}(ha:∀b x x',ρ.get b=some x→ρ'.get b=some x'→φ' x'=φ x)(hlt:∀b x,ρ'.get b=some x→x.toNat<n'):∀{vs v1 v2:List SVal},RAs ρ (vs.map .s) (v1.map .s)→RAs ρ' (vs.map .s) (v2.map .s)→(∀v∈v1,wfS φ n v)→∀v∈v2,wfS φ' n' v
 | [],[],[],_,_,_=>fun v hv=>by cases hv
 |v::vs,a::as,b::bs,h1,h2,hw=>fun x hx=>by
  rcases List.mem_cons.1 hx with rfl|hx
  ·exact ze9 ha hlt h1.1 h2.1 (hw a (by simp))
  ·exact zcP ha hlt h1.2 h2.2 (fun y hy=>hw y (by simp[hy])) x hx
 | [],_::_,_,h,_,_=>h.elim
 | [],[],_::_,_,h,_=>h.elim
 |_::_,[],_,h,_,_=>h.elim
 |_::_,_::_,[],_,h,_=>h.elim
theorem zlH{ρ ρ':Tr BN}{φ φ':Phi}{n n':Nat}(ha:∀b x x',ρ.get b=some x→ρ'.get b=some x'→φ' x'=φ x)(hlt:∀b x,ρ'.get b=some x→x.toNat<n'){v v1 v2:AVal}(h1:RR ρ v v1)(h2:RR ρ' v v2)(hw:wfA φ n v1):wfA φ' n' v2:=by
 cases v with
 |s v=>
  cases v1 with
  |s v1=>cases v2 with|s v2=>exact ze9 ha hlt h1 h2 hw|tup _=>exact h2.elim
  |tup _=>exact h1.elim
 |tup vs=>
  cases v1 with
  |s v1=>exact h1.elim
  |tup v1=>cases v2 with|s v2=>exact h2.elim|tup v2=>exact zcP ha hlt h1 h2 hw
theorem zqk{ρ:Tr BN}{cs cs':List CVal}(h:RCs ρ cs cs'){i:Nat}{c':CVal}(hc:cs'[i]? = some c'):∃c,cs[i]? = some c∧RC ρ c c':=by
 have hi:i<cs.length:=by
  have:=(Lz0.1 hc).1;have:=h.1;omega
 obtain⟨x,k1,k2⟩:=h.2 i cs[i] (Lz5 hi);rw[hc]at k1;cases k1;exact⟨cs[i],Lz5 hi,k2⟩
section
variable {P:Program} {w0:World} {S:Nat→Prop} {φ:Phi} {h:AHeap} {w:World}
theorem zh0:∀(l:List AObj) (i k:Nat) (ρ:Tr BN) (b:Nat),(addR (bn i) (bn k) l ρ).get (bn b)=if i≤b∧b<i+l.length then some (bn (k+(b-i))) else ρ.get (bn b)
 | [],i,k,ρ,b=>by
  rw[if_neg (by simp only[List.length_nil];omega)];rfl
 |o::l,i,k,ρ,b=>by
  show (addR (bn i).succ (bn k).succ l (ρ.set (bn i) (bn k))).get (bn b)=_;rw[j7,j7,zh0 l (i+1) (k+1) _ b];by_cases h1:b=i
  ·subst h1;rw[if_neg (by omega),if_pos (by simp only[List.length_cons];omega),zw,Nat.sub_self];rfl
  ·have hne:bn b≠bn i:=fun hh=>h1 (by have:=congrArg BN.toNat hh;rwa [zD,zD]at this)
   rw[zo _ _ _ _ hne];by_cases h2:i+1≤b∧b<i+1+l.length
   ·rw[if_pos h2,if_pos (by simp only[List.length_cons];omega)]
    congr 2;omega
   ·rw[if_neg h2,if_neg (by simp only[List.length_cons];omega)]
theorem zh1{ρ:Tr BN}:∀(l:List AObj) (h h':AHeap),addO ρ l h=some h'→h'.n.toNat=h.n.toNat+l.length∧(∀b,b<h.n.toNat→h'.t.get (bn b)=h.t.get (bn b))∧
  (∀j o,l[j]? = some o→∃cs cs' st,o=.cells cs st∧RCs ρ cs cs'∧h'.t.get (bn (h.n.toNat+j))=some (.cells cs' st))∧∀b,h.n.toNat+l.length≤b→h'.t.get (bn b)=h.t.get (bn b)
 | [],h,h',e=>by cases e;exact⟨rfl,fun _ _=>rfl,fun j o hj=>by simp at hj,fun _ _=>rfl⟩
 |o::l,h,h',e=>by
  cases o with
  |cells cs st=>
   simp only[addO]at e;split at e
   ·rename_i cs' hcs;obtain⟨k1,k2,k3,k4⟩:=zh1 l _ h' e;rw[yj]at k1 k2 k3 k4;have hne:∀b,b≠h.n.toNat→(h.new (.cells cs' st)).t.get (bn b)=h.t.get (bn b):=fun b hb=>
     zo _ _ _ _ (fun hh=>hb (by have:=congrArg BN.toNat hh;rwa [zD]at this))
    refine⟨by rw[k1,List.length_cons];omega,fun b hb=>?_,fun j o hj=>?_,fun b hb=>?_⟩
    ·rw[k2 b (by omega),hne b (by omega)]
    ·cases j with
     |zero=>
      simp only[List.getElem?_cons_zero,Option.some.injEq]at hj;subst hj;refine⟨cs,cs',st,rfl,zjI hcs,?_⟩;rw[Nat.add_zero,k2 _ (by omega),zL]
      exact zw _ _ _
     |succ j=>
      simp only[List.getElem?_cons_succ]at hj;obtain⟨c1,c2,st2,q1,q2,q3⟩:=k3 j o hj;exact⟨c1,c2,st2,q1,q2,by rwa [show h.n.toNat+1+j=h.n.toNat+(j+1) by omega]at q3⟩
    ·rw[List.length_cons]at hb;rw[k4 b (by omega),hne b (by omega)]
   ·cases e
  |_=>cases e
theorem znu{s:SumN}{args:List AVal}{ρ:Tr BN}(e:s.fits args h=some ρ):RAs ρ s.args args∧(∀b c b',ρ.get b=some b'→ρ.get c=some b'→b=c)∧
  (∀b b',ρ.get b=some b'→∃cs cs' st,s.heap.t.get b=some (.cells cs st)∧h.t.get b'=some (.cells cs' st)∧RCs ρ cs cs')∧allR ρ .z s.objs=true:=by
 unfold SumN.fits at e;split at e
 ·rename_i m hm;split at e
  ·rename_i ρ1 hρ;cases hq:allR ρ1 .z s.objs with
   |false=>rw[hq]at e;cases e
   |true=>
    rw[hq]at e;cases e;have I0:MI (fun _ _=>False) s.heap h ⟨.nil,.nil,[]⟩:=⟨(fun b b' hb=>by cases b<;>cases hb),(fun b b' hb=>by cases b<;>cases hb)⟩
    obtain⟨I1,s1,r1⟩:=znb _ _ _ _ I0 hm;obtain⟨inv,I2,s2⟩:=zaD _ _ _ I1 hρ;refine⟨r1.mono s2,fun b c b' hb hc=>?_,fun b b' hb=>?_,hq⟩
    ·have h1:=I2.inv b b' hb;have h2:=I2.inv c b' hc;exact Option.some.inj (h1.symm.trans h2)
    ·rcases I2.pairs b b' hb with k|k|k
     ·cases k
     ·exact k.elim
     ·exact k
  ·cases e
 ·cases e
theorem zlE{s:SumN}{v:AVal}{h2:AHeap}{ρ:Tr BN}(e:s.back v h2=some ρ):RR ρ s.res v∧(∀b c b',ρ.get b=some b'→ρ.get c=some b'→b=c)∧
  (∀b b',ρ.get b=some b'→∃cs cs' st,s.heap1.t.get b=some (.cells cs st)∧h2.t.get b'=some (.cells cs' st)∧RCs ρ cs cs')∧∀j,j<s.objs.length→ρ.get (bn j)=some (bn j):=by
 unfold SumN.back at e;split at e
 ·rename_i m0 hm0;split at e
  ·rename_i m hm;have I0:MI (fun _ _=>False) s.heap1 h2 ⟨.nil,.nil,[]⟩:=⟨(fun b b' hb=>by cases b<;>cases hb),(fun b b' hb=>by cases b<;>cases hb)⟩
   obtain⟨I1,s1,r1⟩:=zkH s.objs 0 _ _ I0 hm0;obtain⟨I2,s2,r2⟩:=zsU I1 hm;obtain⟨inv,I3,s3⟩:=zaD _ _ _ I2 e;have hr:RR m.ρ s.res v:=by
    cases hv:s.res with
    |s a=>rw[hv]at r2;cases v with|s b=>exact r2|tup _=>exact r2.elim
    |tup a=>rw[hv]at r2;cases v with|s b=>exact r2.elim|tup _=>exact r2
   refine⟨hr.mono s3,fun b c b' hb hc=>?_,fun b b' hb=>?_,fun j hj=>?_⟩
   ·have h1:=I3.inv b b' hb;have h2:=I3.inv c b' hc;exact Option.some.inj (h1.symm.trans h2)
   ·rcases I3.pairs b b' hb with k|k|k
    ·cases k
    ·exact k.elim
    ·exact k
   ·have:=r1 j hj;rw[Nat.zero_add]at this;exact s3 _ _ (s2 _ _ this)
  ·cases e
 ·cases e
def vE(P:Program)(s:SumN):Prop:=∃call,y8 P call∧s.chk call=true
theorem jn(l:List AObj)(n:BN)(b:BN):(⟨n,Tr.ofList .z l .nil⟩:AHeap).t.get b=l[b.toNat]?:=by
 have e0:BN.z=bn 0:=rfl;show (Tr.ofList .z l .nil).get b=_;have:=wO l 0 (.nil:Tr AObj) b.toNat;rw[zL,←e0]at this;rw[this];have hn:(Tr.nil:Tr AObj).get b=none:=by cases b<;>rfl
 rw[hn];simp
noncomputable def qZ(φ φ2:Phi)(ρ:Tr BN)(n N:Nat):Phi:=fun b=>if b.toNat<N then φ b else via ρ φ2 (bn (n+(b.toNat-N)))
theorem zoE{s:SumN}(hs:vE P s){args:List AVal}(H:HRel w0 S φ h w)(hw:∀x∈args,wfA φ h.n.toNat x){ρ:Tr BN}(hf:s.fits args h=some ρ){v:AVal}{h':AHeap}(ha:s.app h ρ=some (v,h')):
  (∀as w,(callFunc s.g as).run P w=.ok (.enter s.g as) w)∧CallsIn (FR none) 0 P s.g (args.map (zp φ)).toArray w (Ret w0 S φ h v h'):=by
 obtain⟨call,C,hchk⟩:=hs;obtain⟨hargs,hinj,hpair,hall⟩:=znu hf;unfold SumN.chk at hchk;split at hchk
 ·rename_i v0 h2 hcall;split at hchk
  ·rename_i ρc hback;obtain⟨hallc,e2⟩:=and2 hchk;obtain⟨hres,hinjc,hpairc,hid⟩:=zlE hback;have hn:s.heap.n.toNat=s.objs.length:=zD _;have hlt:∀b b',ρ.get b=some b'→b.toNat<s.heap.n.toNat:=by
    intro b b' hb;obtain⟨cs,cs',st,h1,_⟩:=hpair b b' hb;unfold SumN.heap at h1;rw[jn]at h1;rw[hn];exact(Lz0.1 h1).1
   have hin:∀b o,s.heap.t.get b=some o→∃b' cs cs' st,ρ.get b=some b'∧o=.cells cs st∧h.t.get b'=some (.cells cs' st)∧RCs ρ cs cs':=by
    intro b o hb;have hb':=hb;unfold SumN.heap at hb';rw[jn]at hb';obtain⟨b',hρ⟩:=qj s.objs 0 b.toNat o hall hb';rw[Nat.zero_add,zL]at hρ;obtain⟨cs,cs',st,h1,h3,h4⟩:=hpair b b' hρ;rw[hb]at h1;exact⟨b',cs,cs',st,hρ,Option.some.inj h1,h3,h4⟩
   obtain⟨hconc,hwf⟩:=zlK (φ:=φ) (n:=h.n.toNat) (m:=s.heap.n.toNat) hlt hargs hw;have HC:HRel w (fun k=>∃b b',ρ.get b=some b'∧k=(φ b').blk) (via ρ φ) s.heap w:=by
    refine⟨fun b o hb=>?_,fun b o hb=>?_,fun b o hb=>?_,fun b c o o' hb hc _ _ hh=>?_,fun b o hb _=>?_,rfl,rfl,rfl,LzB _,LzB _,fun _ _ _=>rfl,H.glob,fun b o hb _=>?_,fun b o hb _=>?_⟩
    ·unfold SumN.heap at hb;rw[jn]at hb;rw[hn];exact(Lz0.1 hb).1
    ·obtain⟨b',cs,cs',st,hρ,rfl,hb',hr⟩:=hin b o hb;rw[yW hρ];exact H.okb b' _ hb'
    ·obtain⟨b',cs,cs',st,hρ,rfl,hb',hr⟩:=hin b o hb;obtain⟨arr,e,g1,g2,g3,g4⟩:=H.obj b' _ hb';refine⟨arr,e,by rw[yW hρ];exact g1,fun i c hc=>?_,by rw[yW hρ];exact g3,fun c hc=>?_⟩
     ·obtain⟨c',k1,k2⟩:=hr.2 i c hc;rw[yW hρ,←qR k2];exact g2 i c' k1
     ·obtain⟨i,hi⟩:=List.mem_iff_getElem?.1 hc;obtain⟨c',k1,k2⟩:=hr.2 i c hi;exact zi5 hlt k2 (g4 c' (Lz3 k1))
    ·obtain⟨b',cs,cs',st,hρ,rfl,hb',_⟩:=hin b o hb;obtain⟨c',ds,ds',st2,hρc,rfl,hc',_⟩:=hin c o' hc;rw[yW hρ,yW hρc]at hh;have:=H.inj b' c' _ _ hb' hc' trivial trivial hh;subst this;exact hinj b c b' hρ hρc
    ·obtain⟨b',cs,cs',st,hρ,rfl,hb',_⟩:=hin b o hb;exact .inl ⟨b,b',hρ,by rw[yW hρ]⟩
    ·obtain⟨b',cs,cs',st,hρ,rfl,hb',_⟩:=hin b o hb;rw[yW hρ];exact H.flat b' _ hb' trivial
    ·obtain⟨b',cs,cs',st,hρ,rfl,hb',_⟩:=hin b o hb;rw[yW hρ];exact H.ng b' _ hb' trivial
   obtain⟨hcf,hcl⟩:=(C w _ _ _ w _ _ h2 HC hwf).1 s.g hcall;refine⟨hcf,?_⟩;rw[hconc];refine hcl.mono ?_
   rintro e9 w9 ⟨φ2,rfl,he,H2,hv2,hle⟩
   unfold SumN.app at ha;split at ha
   ·rename_i h1 hO;split at ha
    ·rename_i v1 hA;cases ha;have eN:h.n=bn h.n.toNat:=(zL _).symm;obtain⟨a1,a2,a3,a4⟩:=zh1 s.news h h' hO;have hg:∀b,(addR (bn s.objs.length) h.n s.news ρ).get b=if s.objs.length≤b.toNat∧b.toNat<s.objs.length+s.news.length then some (bn (h.n.toNat+(b.toNat-s.objs.length))) else ρ.get b:=by
      intro b;have:=zh0 s.news s.objs.length h.n.toNat ρ b.toNat
      rwa [zL,zL]at this
     have hlt2:∀b b',ρ.get b=some b'→b'.toNat<h.n.toNat:=fun b b' hb=>by
      obtain⟨cs,cs',st,_,q,_⟩:=hpair b b' hb;exact H.keys b' _ q
     have agree:∀b x x',ρc.get b=some x→(addR (bn s.objs.length) h.n s.news ρ).get b=some x'→qZ φ φ2 ρc s.objs.length h.n.toNat x'=φ2 x:=by
      intro b x x' q1 q2;rw[hg b]at q2;split at q2
      ·rename_i hr;cases q2;unfold qZ;rw[zD,if_neg (by omega),show s.objs.length+(h.n.toNat+(b.toNat-s.objs.length)-h.n.toNat)=b.toNat by omega,zL,yW q1]
      ·have hb:=hlt b x' q2;have hi:=hid b.toNat (by rwa [hn]at hb)
       rw[zL,q1]at hi;cases hi;unfold qZ;rw[if_pos (hlt2 b x' q2),he _ hb,yW q2]
     have rng:∀b x',(addR (bn s.objs.length) h.n s.news ρ).get b=some x'→x'.toNat<h'.n.toNat:=by
      intro b x' q;rw[hg b]at q;split at q
      ·cases q;rw[zD,a1];omega
      ·have:=hlt2 b x' q;omega
     have hext:Ext h.n.toNat φ (qZ φ φ2 ρc s.objs.length h.n.toNat):=fun b hb=>by unfold qZ;rw[if_pos hb]
     have hrA:=zsG hA;have hnew:∀j o,s.news[j]? = some o→∃cs cs' cs2 st x,o=.cells cs st∧RCs (addR (bn s.objs.length) h.n s.news ρ) cs cs'∧h'.t.get (bn (h.n.toNat+j))=some (.cells cs' st)∧ρc.get (bn (s.objs.length+j))=some x∧h2.t.get x=some (.cells cs2 st)∧RCs ρc cs cs2∧
       qZ φ φ2 ρc s.objs.length h.n.toNat (bn (h.n.toNat+j))=φ2 x∧w.heap.size≤(φ2 x).blk:=by
      intro j o hj;obtain⟨cs,cs',st,rfl,r1,g1⟩:=a3 j o hj;have hjl:=(Lz0.1 hj).1;have hj1:(s.objs++s.news)[s.objs.length+j]? = some (.cells cs st):=by
       rw[Lz8 (by omega),Nat.add_sub_cancel_left];exact hj
      obtain⟨x,hx⟩:=qj (s.objs++s.news) 0 _ _ hallc hj1;rw[Nat.zero_add]at hx;obtain⟨d1,d2,st2,k1,k2,k3⟩:=hpairc _ x hx;unfold SumN.heap1 at k1;rw[jn,zD,hj1]at k1;cases k1;refine⟨cs,cs',d2,st,x,rfl,r1,g1,hx,k2,k3,agree _ x _ hx ?_,?_⟩
      ·rw[hg,zD,if_pos (by omega),Nat.add_sub_cancel_left]
      ·rcases H2.own x _ k2 trivial with⟨b,b',q1,q2⟩|q
       ·exfalso;have hb:=hlt b b' q1;have e1:φ2 b=φ b':=(he b hb).trans (yW q1);obtain⟨c1,c2,st3,z1,_,_⟩:=hpair b b' q1;unfold SumN.heap at z1;rw[jn]at z1;obtain⟨c3,st4,z2,z3⟩:=jg s.objs 0 b.toNat _ e2 z1;rw[Nat.zero_add,zL]at z3;have:=H2.inj x b _ _ k2 z3 trivial trivial (by rw[q2,e1])
        subst this;have hi:=hid x.toNat (by rwa [hn]at hb)
        rw[zL]at hi;have:=congrArg BN.toNat (hinjc _ _ _ hx hi);rw[zD]at this;rw[hn]at hb;omega
       ·exact q
     have hcase:∀b o,h'.t.get b=some o→(b.toNat<h.n.toNat∧h.t.get b=some o)∨∃j,b=bn (h.n.toNat+j)∧∃o',s.news[j]? = some o':=by
      intro b o hb;by_cases h1:b.toNat<h.n.toNat
      ·have:=a2 b.toNat h1;rw[zL]at this;exact .inl ⟨h1,by rw[←this];exact hb⟩
      ·by_cases h3:b.toNat<h.n.toNat+s.news.length
       ·refine .inr ⟨b.toNat-h.n.toNat,?_,_,Lz5 (by omega)⟩
        rw[show h.n.toNat+(b.toNat-h.n.toNat)=b.toNat by omega,zL]
       ·have:=a4 b.toNat (by omega)
        rw[zL]at this;rw[this]at hb;exact absurd (H.keys b o hb) h1
     have hkeep:∀k,k<w.heap.size→(¬∃b b',ρ.get b=some b'∧k=(φ b').blk)→w9.heap[k]? = w.heap[k]?:=fun k hk hS=>H2.kept k hk hS
     have hold:∀b o,h.t.get b=some o→ORel φ h.n.toNat w9 b o:=by
      intro b o hb;by_cases hl:live o
      ·by_cases hm:∃c c',ρ.get c=some c'∧(φ b).blk=(φ c').blk
       ·obtain⟨c,c',hρ,hblk⟩:=hm;obtain⟨cs,cs',st,k1,k2,k3⟩:=hpair c c' hρ;have:=H.inj b c' _ _ hb k2 hl trivial hblk;subst this;cases hb.symm.trans k2;have k1':=k1;unfold SumN.heap at k1';rw[jn]at k1';obtain⟨cs2,st2,q1,q2⟩:=jg s.objs 0 c.toNat _ e2 k1';rw[Nat.zero_add,zL]at q2;cases q1;obtain⟨arr,e,g1,g2,g3,g4⟩:=H2.obj c _ q2;have ec:φ2 c=φ b:=(he c (hlt _ _ hρ)).trans (yW hρ);obtain⟨_,_,_,_,_,o4⟩:=H.obj b _ hb;refine⟨arr,e,by rw[←ec];exact g1,fun i x hx=>?_,by rw[←ec];exact g3,o4⟩
        have hi:i<cs.length:=by
         have:=(Lz0.1 hx).1;have:=k3.1;omega
        obtain⟨x',j1,j2⟩:=k3.2 i cs[i] (Lz5 hi);rw[hx]at j1;cases j1;have:=g2 i cs[i] (Lz5 hi);rw[ec]at this;rw[this,qR j2];have hwc:wfC (via ρ φ) s.heap.n.toNat cs[i]:=zi5 hlt j2 (o4 x (Lz3 hx));rw[vg he hwc]
       ·exact(H.obj b o hb).world fun _=>hkeep _ ((H.obj b o hb).there hl) (fun⟨c,c',h1,h2⟩=>hm ⟨c,c',h1,h2⟩)
      ·exact(H.obj b o hb).world fun hh=>absurd hh hl
     have hle':h.n.toNat≤h'.n.toNat:=by omega
     have eold:∀b,b.toNat<h.n.toNat→qZ φ φ2 ρc s.objs.length h.n.toNat b=φ b:=fun b hb=>hext b hb
     refine⟨qZ φ φ2 ρc s.objs.length h.n.toNat,by rw[zse agree hres hrA],hext,?_,zlH agree rng hres hrA hv2,hle'⟩
     refine⟨fun b o hb=>?_,fun b o hb=>?_,fun b o hb=>?_,fun b c o o' hb hc hl hl' hh=>?_,fun b o hb hl=>?_,H2.os.trans H.os,H2.tape.trans H.tape,H2.output.trans H.output,Nat.le_trans H.size H2.size,Nat.le_trans H.drawn H2.drawn,fun k hk hS=>?_,H2.glob,fun b o hb hl=>?_,fun b o hb hl=>?_⟩
     ·rcases hcase b o hb with⟨q,_⟩|⟨j,rfl,o',hj⟩
      ·omega
      ·have:=(Lz0.1 hj).1;rw[zD];omega
     ·rcases hcase b o hb with⟨q,hb'⟩|⟨j,rfl,o',hj⟩
      ·rw[eold b q];exact H.okb b o hb'
      ·obtain⟨cs,cs',cs2,st,x,rfl,r1,g1,hx,g2,r2,ex,fr⟩:=hnew j o' hj;rw[ex];exact H2.okb x _ g2
     ·rcases hcase b o hb with⟨q,hb'⟩|⟨j,rfl,o',hj⟩
      ·exact(hold b o hb').extW (H.okk b o hb') hext.w hle'
      ·obtain⟨cs,cs',cs2,st,x,rfl,r1,g1,hx,g2,r2,ex,fr⟩:=hnew j o' hj;rw[g1]at hb;cases hb;obtain⟨arr,e,z1,z2,z3,z4⟩:=H2.obj x _ g2;refine⟨arr,e,by rw[ex];exact z1,fun i c hc=>?_,by rw[ex];exact z3,zcO agree rng r2 r1 z4⟩
       obtain⟨p,hp,hpc⟩:=zqk r1 hc;obtain⟨c2,k1,k2⟩:=r2.2 i p hp;rw[ex,zlI agree k2 hpc];exact z2 i c2 k1
     ·rcases hcase b o hb with⟨q,hb'⟩|⟨j,rfl,p,hj⟩
      ·rcases hcase c o' hc with⟨q',hc'⟩|⟨j',rfl,p',hj'⟩
       ·rw[eold b q,eold c q']at hh;exact H.inj b c o o' hb' hc' hl hl' hh
       ·obtain⟨cs,cs',cs2,st,x,rfl,r1,g1,hx,g2,r2,ex,fr⟩:=hnew j' p' hj';have:=(H.obj b o hb').there hl;rw[eold b q,ex]at hh;omega
      ·obtain⟨cs,cs',cs2,st,x,rfl,r1,g1,hx,g2,r2,ex,fr⟩:=hnew j p hj;rcases hcase c o' hc with⟨q',hc'⟩|⟨j',rfl,p',hj'⟩
       ·have:=(H.obj c o' hc').there hl';rw[ex,eold c q']at hh;omega
       ·obtain⟨ds,ds',ds2,st',x',rfl,r1',g1',hx',g2',r2',ex',fr'⟩:=hnew j' p' hj';rw[ex,ex']at hh;have:=H2.inj x x' _ _ g2 g2' trivial trivial hh;subst this;have:=congrArg BN.toNat (hinjc _ _ _ hx hx');rw[zD,zD]at this;rw[show j=j' by omega]
     ·rcases hcase b o hb with⟨q,hb'⟩|⟨j,rfl,o',hj⟩
      ·rw[eold b q];exact H.own b o hb' hl
      ·obtain⟨cs,cs',cs2,st,x,rfl,r1,g1,hx,g2,r2,ex,fr⟩:=hnew j o' hj;rw[ex];exact .inr (Nat.le_trans H.size fr)
     ·by_cases hm:∃c c',ρ.get c=some c'∧k=(φ c').blk
      ·obtain⟨c,c',hρ,rfl⟩:=hm;obtain⟨cs,cs',st,_,k2,_⟩:=hpair c c' hρ;rcases H.own c' _ k2 trivial with h1|h1
       ·exact absurd h1 hS
       ·omega
      ·rw[hkeep k (Lz9 hk H.size) hm];exact H.kept k hk hS
     ·rcases hcase b o hb with⟨q,hb'⟩|⟨j,rfl,o',hj⟩
      ·rw[eold b q];exact H.flat b o hb' hl
      ·obtain⟨cs,cs',cs2,st,x,rfl,r1,g1,hx,g2,r2,ex,fr⟩:=hnew j o' hj;rw[ex];exact H2.flat x _ g2 trivial
     ·rcases hcase b o hb with⟨q,hb'⟩|⟨j,rfl,o',hj⟩
      ·rw[eold b q];exact H.ng b o hb' hl
      ·obtain⟨cs,cs',cs2,st,x,rfl,r1,g1,hx,g2,r2,ex,fr⟩:=hnew j o' hj;rw[ex];exact H2.ng x _ g2 trivial
    ·cases ha
   ·cases ha
  ·cases hchk
 ·cases hchk
theorem jW{g:Nat}{args:List AVal}{r:AVal×AHeap}:∀(l:List SumN),kW g args h l=some r→∃s∈l,∃ρ,s.g=g∧s.fits args h=some ρ∧s.app h ρ=some r
 | [],e=>by cases e
 |s::l,e=>by
  unfold kW at e;cases hq:Nat.beq g s.g with
  |true=>
   rw[hq]at e;simp only[cond_true]at e;split at e
   ·rename_i ρ hf;exact⟨s,by simp,ρ,(beq_true hq).symm,hf,e⟩
   ·obtain⟨s',k1,k2⟩:=jW l e;exact⟨s',by simp[k1],k2⟩
  |false=>
   rw[hq]at e;obtain⟨s',k1,k2⟩:=jW l e;exact⟨s',by simp[k1],k2⟩
theorem zmc{sums:List SumN}(hs:∀s∈sums,vE P s){call:zh}(C:y8 P call):y8 P (zot sums call):=by
 intro w0 S φ h w args v h2 H hw;refine⟨fun g e=>?_,fun l e=>(C w0 S φ h w args v h2 H hw).2 l e⟩
 unfold zot at e;simp only at e;split at e
 ·rename_i r hf;cases e;obtain⟨s,h1,ρ,rfl,h3,h4⟩:=jW sums hf;exact zoE (hs s h1) H hw h3 h4
 ·exact(C w0 S φ h w args v h2 H hw).1 g e
theorem zhS{fs:Nat→Option RFunc}(hfs:FsOk P fs){sums:List Sum}(hs:∀s∈sums,jf P s){nsums:List SumN}(hn:∀s∈nsums,vE P s):∀n,y8 P (zf8 (z5 P) fs sums nsums n)
 |0=>zfL
 |n+1=>zmc hn (zgF hs (zgw (zhS hfs hs hn n) hfs n))
end
end Go.CE
end
