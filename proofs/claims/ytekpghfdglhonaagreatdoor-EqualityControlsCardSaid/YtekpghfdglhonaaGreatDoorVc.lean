/-
  Lemmas: CEw, CEx, CEy, CEz, CEza, CEzb, CEzc, PEa, PEb, PEc, PEd, PEe, PEf, PEg, PEh, PEha. No condition.
-/
import Derived.Test.YtekpghfdglhonaaGreatDoorVb
import Derived.ProofKit
import Derived.OpenShut
import Derived.FnData
import Derived.MakeChecks
section
namespace Go.CE
noncomputable section
def fset(r:Fr)(v:AVal):Option Nat→Fr
 |none=>r
 |some d=>fun i=>bif Nat.beq i d then v else r i
def bindR{β:Type}(x:Res)(k:AVal→AHeap→Option β):Option β:=
 match x with
 |some (v,h)=>k v h
 |none=>none
def zd4(v:AVal)(b:Bool):Bool:=
 match v with
 | .s (.one (.bool c))=>c==b
 |_=>false
section
variable (P:Program)
def yk(nt:Nat)(ops:Array Oper)(o:Oper)(call:zh)(r:Fr)(h:AHeap):Res:=
 bif inT nt o.dst then
  match o.guard with
  |none=>cOpG P (coK r) o.op call .nil h
  |some (j,b)=>
   match (ops[j]?).bind (·.dst) with
   |some d=>bif Nat.ble (Nat.succ d) nt then(bif zd4 (r d) b then cOpG P (coK r) o.op call .nil h else some (z7,h)) else none
   |none=>none
 else none
def movV(nt:Nat)(o:Oper)(r:Fr):Option AVal:=
 match o.guard with
 |some _=>none
 |none=>
  bif inT nt o.dst then
   match o.op with
   | .move x=>(coK r x).map fun c=>c .nil
   | .assign x=>(coK r x).map fun c=>c .nil
   |_=>none
  else none
def kOps{β:Type}(nt:Nat)(ops:Array Oper)(call:zh):List Oper→Fr→AHeap→(Fr→AHeap→Option β)→Option β
 | [],r,h,k=>k r h
 |o::os,r,h,k=>
  match movV nt o r with
  |some v=>kOps nt ops call os (fset r v o.dst) h k
  |none=>bindR (yk P nt ops o call r h) fun v h'=>kOps nt ops call os (fset r v o.dst) h' k
def memB(i:Nat):List Nat→Bool
 | []=>false
 |j::l=>bif Nat.beq i j then true else memB i l
def zM(r:Fr)(l:List Nat):Fr:=fun i=>bif memB i l then r i else z7
def zil(run:AHeap→Res)(v:AVal):List AHeap→Bool
 | []=>true
 |h::hs=>
  (match run h with
  |some (v',_)=>eqA v v'
  |none=>false)&&zil run v hs
def chkK(hs:List AHeap):List ((AHeap→Res)×AVal×Nat×Nat)→Bool
 | []=>true
 |(run,v,lo,hi)::l=>(Nat.beq lo hi||zil run v ((hs.drop lo).take (Nat.sub (Nat.succ hi) lo)))&&chkK hs l
def kDr{β:Type}(nt:Nat)(ops:Array Oper)(call:zh)(bs:List Nat)(es:List Bool):Nat→List Oper→Fr→AHeap→List AHeap→List ((AHeap→Res)×AVal×Nat×Nat)→(Fr→AHeap→Option β)→Option β
 |_,[],r,h,hs,cs,k=>bif chkK (hs++[h]) cs then k r h else none
 |i,o::os,r,h,hs,cs,k=>
  match movV nt o (zM r (o.looksAt ops)) with
  |some v=>kDr nt ops call bs es (Nat.succ i) os (fset r v o.dst) h hs (cs++[(yk P nt ops o call (zM r (o.looksAt ops)),v,ce (fun j=>bef bs j i) 0 es,ce (fun j=>!bef bs i j) 0 es)]) k
  |none=>bindR (yk P nt ops o call (zM r (o.looksAt ops)) h) fun v h'=>
  bif yx P o.op then kDr nt ops call bs es (Nat.succ i) os (fset r v o.dst) h hs (cs++[(yk P nt ops o call (zM r (o.looksAt ops)),v,ce (fun j=>bef bs j i) 0 es,ce (fun j=>!bef bs i j) 0 es)]) k
  else kDr nt ops call bs es (Nat.succ i) os (fset r v o.dst) h' (hs++[h]) cs k
abbrev CkG:=(AHeap→Res)×AVal×Nat×Nat×List Nat
def zb9(run:AHeap→Res)(v:AVal)(n0:Nat)(hide:List Nat)(mks:List (Nat×Nat×AObj)):Nat→List AHeap→Bool
 |_,[]=>true
 |k,h::hs=>
  match run ⟨h.n,delH n0 hide (jV n0 k mks h.t)⟩ with
  |some (v',_)=>eqA v v'&&zb9 run v n0 hide mks (Nat.succ k) hs
  |none=>false
def zgq(n0:Nat)(mks:List (Nat×Nat×AObj))(hs:List AHeap):List CkG→Bool
 | []=>true
 |(run,v,lo,hi,hide)::l=>(Nat.beq lo hi||zb9 run v n0 hide mks lo ((hs.drop lo).take (Nat.sub (Nat.succ hi) lo)))&&zgq n0 mks hs l
def mk1(n0 c j:Nat)(t:Tr AObj):List (Nat×Nat×AObj):=
 match t.get (bn (Nat.add n0 j)) with
 |some o=>[(c,j,o)]
 |none=>[]
def kDr2{β:Type}(nt:Nat)(ops:Array Oper)(call:zh)(bs:List Nat)(es:List Bool)(n0:Nat):Nat→List Oper→Fr→AHeap→Nat→List AHeap→List CkG→List (Nat×Nat×AObj)→(Fr→AHeap→Option β)→Option β
 |_,[],r,h,_,hs,cs,mks,k=>bif zgq n0 mks hs cs then k r h else none
 |i,o::os,r,h,c,hs,cs,mks,k=>
  bif mkOp o.op then
   bindR (yk P nt ops o call (zM r (o.looksAt ops)) ⟨bn (Nat.add n0 i),h.t⟩) fun v h'=>kDr2 nt ops call bs es n0 (Nat.succ i) os (fset r v o.dst) ⟨h.n,h'.t⟩ c hs cs (mks++mk1 n0 c i h'.t) k
  else
   bindR (yk P nt ops o call (zM r (o.looksAt ops)) ⟨h.n,delH n0 (yz bs i 0 ops.toList) h.t⟩) fun v h'=>
    bif anchor P o.op then
     match zdZ n0 h.t (yz bs i 0 ops.toList) h'.t with
     |some t=>kDr2 nt ops call bs es n0 (Nat.succ i) os (fset r v o.dst) ⟨h'.n,t⟩ (Nat.succ c) (hs++[⟨h'.n,t⟩]) cs mks k
     |none=>none
    else kDr2 nt ops call bs es n0 (Nat.succ i) os (fset r v o.dst) h c hs (cs++[(yk P nt ops o call (zM r (o.looksAt ops)),v,ce (fun j=>bef bs j i) 0 es,ce (fun j=>!bef bs i j) 0 es,yz bs i 0 ops.toList)]) mks k
def zap(c:List AVal→AHeap→Option (RExit×List AVal×AHeap)):Nat→List AVal→AHeap→Option (RExit×List AVal×AHeap)
 |0,_,_=>none
 |n+1,r,h=>
  match c r h with
  |some (.normal,r',h')=>zap c n r' h'
  |x=>x
def bindX{β:Type}(x:Option (RExit×List AVal×AHeap))(kx:Nat→List AVal→AHeap→Option β)(kr:List AVal→AHeap→Option β):Option β:=
 match x with
 |some (.exit id,r,h)=>kx id r h
 |some (.ret,r,h)=>kr r h
 |_=>none
def ifK{β:Type}(v:AVal)(a b:Option β):Option β:=
 match v with
 | .s (.one (.bool q))=>bif q then a else b
 |_=>none
def zoC{β:Type}(a:Fr→AHeap→Option β)(k:RExit→Fr→AHeap→Option β):RExit→Fr→AHeap→Option β
 | .normal,r,h=>a r h
 | .exit id,r,h=>k (.exit id) r h
 | .ret,r,h=>k .ret r h
def outK{β:Type}(id:Nat)(k:RExit→Fr→AHeap→Option β):RExit→Fr→AHeap→Option β
 | .exit id',r,h=>bif Nat.beq id' id then k .normal r h else k (.exit id') r h
 | .normal,r,h=>k .normal r h
 | .ret,r,h=>k .ret r h
def writes:Code→List Nat
 | .region _ ops _=>ops.toList.filterMap (·.dst)
 | .seq a b=>writes a++writes b
 | .cond _ a b=>writes a++writes b
 | .block _ c=>writes c
 | .loop c=>writes c
 |_=>[]
def nthA:List AVal→Nat→AVal
 | [],_=>z7
 |v::l,n=>bif Nat.beq n 0 then v else nthA l (Nat.sub n 1)
def mixL:List Nat→Nat→Fr→List AVal→Fr
 | [],_,r,_=>r
 |w::W,k,r,ys=>fun i=>bif Nat.beq i w then nthA ys k else mixL W (Nat.succ k) r ys i
def yY(nt:Nat)(call:zh)(f:Nat):Code→{β:Type}→Fr→AHeap→(RExit→Fr→AHeap→Option β)→Option β
 | .skip,_,r,h,k=>k .normal r h
 | .region _ ops draw,_,r,h,k=>
  bif draw then(bif P.follows .mixedOrders&&k8 P ops (befs ops.toList) then kDr P nt ops call (befs ops.toList) (effs P ops.toList) 0 ops.toList r h [] [] (fun r h=>k .normal r h)
   else bif P.follows .mixedOrders&&uu P ops (befs ops.toList) then kDr2 P nt ops call (befs ops.toList) (ancs P ops.toList) h.n.toNat 0 ops.toList r ⟨bn (Nat.add h.n.toNat ops.toList.length),h.t⟩ 0 [⟨bn (Nat.add h.n.toNat ops.toList.length),h.t⟩] [] [] (fun r h=>k .normal r h) else none)
  else kOps P nt ops call ops.toList r h (fun r h=>k .normal r h)
 | .seq a b,_,r,h,k=>yY nt call f a r h (zoC (fun r h=>yY nt call f b r h k) k)
 | .cond c a b,_,r,h,k=>
  match coK r c with
  |some c=>ifK (c .nil) (yY nt call f a r h k) (yY nt call f b r h k)
  |none=>none
 | .block id c,_,r,h,k=>yY nt call f c r h (outK id k)
 | .loop c,_,r,h,k=>bindX (zap (fun ys h=>yY nt call f c (mixL (writes c) 0 r ys) h (fun e s h=>some (e,(writes c).map s,h))) f ((writes c).map r) h)
   (fun id ys h=>k (.exit id) (mixL (writes c) 0 r ys) h) (fun ys h=>k .ret (mixL (writes c) 0 r ys) h)
 | .exit id,_,r,h,k=>k (.exit id) r h
 | .ret,_,r,h,k=>k .ret r h
 |_,_,_,_,_=>none
def resV(v:AVal):Option SVal:=
 match v with
 | .s v=>some v
 |_=>none
def resP(n:Option Nat)(v:AVal)(h:AHeap):Option SVal:=
 match v with
 | .s (.one (.ptr b off))=>uj n off (h.t.get b)
 |_=>none
def zlr(v:Option SVal)(l:Option (List SVal)):Option (List SVal):=
 match v with
 |some v=>xW v l
 |none=>none
def zbS(r:Fr)(h:AHeap):ResultVar→Option SVal
 | .tmp i=>resV (r i)
 | .cell i t=>
  match xN P t with
  |some n=>resP n (r i) h
  |none=>none
def jP(r:Fr)(h:AHeap):List ResultVar→Option (List SVal)
 | []=>some []
 |x::rs=>zlr (zbS P r h x) (jP r h rs)
def endK(rs:List ResultVar):RExit→Fr→AHeap→Res
 | .exit _,_,_=>none
 | .normal,r,h=>zbX h (jP P r h rs)
 | .ret,r,h=>zbX h (jP P r h rs)
def kFun(g:Nat)(call:zh)(f:Nat)(args:List AVal)(h:AHeap):Res:=
 match P.funcs[g]? with
 |some fn=>
  match fn.body with
  |some c=>bif (cRes P fn.results.toList).isNone||fn.name == "runtime.NumGoroutine" then none else bif lenA args fn.ntmps then yY P fn.ntmps call f c (frOf (ww .z .nil args)) h (endK P fn.results.toList) else none
  |none=>none
 |none=>none
end
end
section
variable {P:Program} {nt:Nat}
theorem beq_iff(a b:Nat):Nat.beq a b=true↔a=b:=⟨Lz1,fun h=>by subst h;exact Nat.beq_refl a⟩
theorem wu(t:Tr AVal)(v:AVal)(d:Option Nat):frOf (setT t v (d.map bn))=fset (frOf t) v d:=by
 cases d with
 |none=>rfl
 |some d=>
  funext i
  simp only[frOf,setT,fset,tmpF,Option.map_some];cases hq:Nat.beq i d with
  |true=>rw[(beq_iff i d).1 hq,zw];rfl
  |false=>
   have:bn i≠bn d:=fun e=>by rw[(beq_iff i d).2 (uz e)]at hq;cases hq
   rw[zo _ _ _ _ this];rfl
theorem zou(t:Tr AVal)(g:Nat)(b:Bool):want t (some (bn g,b))=zd4 (frOf t g) b:=by
 simp only[want,frOf,tmpF];cases t.get (bn g) with
 |none=>rfl
 |some v=>cases v with
  |tup _=>rfl
  |s v=>cases v with
   |agg _=>rfl
   |one c=>cases c<;>rfl
theorem jq(ops:Array Oper)(o:Oper)(call:zh)(t:Tr AVal)(h:AHeap)(v:AVal)(h':AHeap)(e:yk P nt ops o call (frOf t) h=some (v,h')):
  xj call (yL P nt ops o) t h=some (v,h')∧(yL P nt ops o).dst=o.dst.map bn:=by
 unfold yk at e;unfold yL;cases hin:inT nt o.dst with
 |false=>rw[hin]at e;cases e
 |true=>
  rw[hin]at e;simp only[cond_true]at e ⊢;cases hg:o.guard with
  |none=>
   rw[hg]at e;simp only[zlB]at e;exact⟨e,rfl⟩
  |some p=>
   obtain⟨j,b⟩:=p;rw[hg]at e;simp only at e ⊢;cases hd:(ops[j]?).bind (·.dst) with
   |none=>rw[hd]at e;cases e
   |some d=>
    rw[hd]at e;simp only at e ⊢;cases hb:Nat.ble (Nat.succ d) nt with
    |false=>rw[hb]at e;cases e
    |true=>
     rw[hb]at e;simp only[cond_true,zlB]at e ⊢;refine⟨?_,trivial⟩;unfold xj;simp only;rw[zou];exact e
theorem zlc(call:zh)(o:ROper)(t:Tr AVal)(h:AHeap):zag call o t h=setR t o.dst (xj call o t h):=by
 obtain⟨d,op,g⟩:=o;simp only[zag,xj];cases want t g<;>rfl
theorem xT{r:Fr}{v:AVal}{d:Option Nat}{i:Nat}(h:d≠some i):fset r v d i=r i:=by
 cases d with
 |none=>rfl
 |some d=>
  simp only[fset];cases hq:Nat.beq i d with
  |true=>exact absurd (by rw[(beq_iff i d).1 hq]) h
  |false=>rfl
theorem zfN{ops:Array Oper}{o:Oper}{call:zh}{r:Fr}{v:AVal}(e:movV nt o r=some v)(h:AHeap):yk P nt ops o call r h=some (v,h)∧yx P o.op=true:=by
 unfold movV at e;unfold yk;cases hg:o.guard with
 |some p=>rw[hg]at e;cases e
 |none=>
  rw[hg]at e;simp only at e ⊢;cases hi:inT nt o.dst with
  |false=>rw[hi]at e;cases e
  |true=>
   rw[hi]at e;simp only[cond_true]at e ⊢;split at e
   ·rename_i x hx;rw[hx];simp only[cOpG,yx];cases hc:coK r x with
    |none=>rw[hc]at e;cases e
    |some c=>rw[hc]at e;cases e;exact⟨rfl,trivial⟩
   ·rename_i x hx;rw[hx];simp only[cOpG,yx];cases hc:coK r x with
    |none=>rw[hc]at e;cases e
    |some c=>rw[hc]at e;cases e;exact⟨rfl,trivial⟩
   ·cases e
theorem zbm{β:Type}(ops:Array Oper)(call:zh)(o:Oper)(os:List Oper)(r:Fr)(h:AHeap)(k:Fr→AHeap→Option β):
  kOps P nt ops call (o::os) r h k=bindR (yk P nt ops o call r h) fun v h'=>kOps P nt ops call os (fset r v o.dst) h' k:=by
 rw[kOps];split
 ·rename_i v hv;rw[(zfN hv h).1];rfl
 ·rfl
theorem zhn{β:Type}(ops:Array Oper)(call:zh)(bs:List Nat)(es:List Bool)(i:Nat)(o:Oper)(os:List Oper)(r:Fr)(h:AHeap)(hs:List AHeap)(cs:List ((AHeap→Res)×AVal×Nat×Nat))(k:Fr→AHeap→Option β):
  kDr P nt ops call bs es i (o::os) r h hs cs k=bindR (yk P nt ops o call (zM r (o.looksAt ops)) h) fun v h'=>
   bif yx P o.op then kDr P nt ops call bs es (Nat.succ i) os (fset r v o.dst) h hs (cs++[(yk P nt ops o call (zM r (o.looksAt ops)),v,ce (fun j=>bef bs j i) 0 es,ce (fun j=>!bef bs i j) 0 es)]) k
   else kDr P nt ops call bs es (Nat.succ i) os (fset r v o.dst) h' (hs++[h]) cs k:=by
 rw[kDr];split
 ·rename_i v hv;rw[(zfN hv h).1];simp only[bindR];rw[(zfN (P:=P) (ops:=ops) (call:=call) hv h).2];rfl
 ·rfl
theorem zkU{β:Type}(ops:Array Oper)(call:zh):∀(os:List Oper) (t:Tr AVal) (h:AHeap) (k:Fr→AHeap→Option β) (x:β),kOps P nt ops call os (frOf t) h k=some x→
  ∃t' h',ziV call (os.map (yL P nt ops)) t h=some (t',h')∧k (frOf t') h'=some x∧∀i,i∉os.filterMap (·.dst)→frOf t' i=frOf t i
 | [],t,h,k,x,e=>⟨t,h,rfl,e,fun _ _=>rfl⟩
 |o::os,t,h,k,x,e=>by
  rw[zbm]at e;simp only[bindR]at e;split at e
  ·rename_i v h' hq;obtain⟨e1,e2⟩:=jq ops o call t h v h' hq;rw[←wu]at e;obtain⟨t',h'',e3,e4,e5⟩:=zkU ops call os _ _ _ _ e;refine⟨t',h'',?_,e4,fun i hi=>?_⟩
   ·rw[List.map_cons,zcF,zlc,e1,e2];exact e3
   ·simp only[List.filterMap_cons]at hi;rw[e5 i,wu,xT]
    ·intro hd;rw[hd]at hi;simp at hi
    ·intro hm;apply hi;cases o.dst<;>simp[hm]
  ·cases e
theorem kL(i:Nat):∀l:List Nat,memB i l=true↔i∈l
 | []=>by simp[memB]
 |j::l=>by
  simp only[memB,List.mem_cons];cases hq:Nat.beq i j with
  |true=>simp[(beq_iff i j).1 hq]
  |false=>
   have:i≠j:=fun e=>by rw[(beq_iff i j).2 e]at hq;cases hq
   simp[this,kL i l]
theorem js(t:Tr AVal)(l:List Nat):frOf (ui t (l.map bn))=zM (frOf t) l:=by
 funext i
 simp only[frOf,zM,tmpF];rw[wS];have hm:bn i∈l.map bn↔i∈l:=⟨fun h=>by obtain⟨j,h1,h2⟩:=List.mem_map.1 h;exact uz h2▸h1,fun h=>List.mem_map_of_mem h⟩
 cases hq:memB i l with
 |true=>rw[if_pos (hm.2 ((kL i l).1 hq))];rfl
 |false=>rw[if_neg (fun hh=>by rw[(kL i l).2 (hm.1 hh)]at hq;cases hq)];rfl
theorem zgS{call:zh}{ops:Array Oper}{o:Oper}{t:Tr AVal}{v:AVal}:∀hs:List AHeap,zil (yk P nt ops o call (frOf t)) v hs=true→sameAt call (yL P nt ops o) t v hs=true
 | [],_=>rfl
 |h::hs,e=>by
  simp only[zil]at e;obtain⟨e1,e2⟩:=and2 e;unfold sameAt;split at e1
  ·rename_i v' h' hq;obtain⟨k1,_⟩:=jq ops o call t h v' h' hq;rw[k1];simp only;rw[e1,zgS hs e2];rfl
  ·cases e1
def CkR(P:Program)(nt:Nat)(ops:Array Oper)(call:zh):List ((AHeap→Res)×AVal×Nat×Nat)→List (DOper×Tr AVal×AVal)→Prop
 | [],l=>∀x∈l,x.1.eff=true
 |(run,v,lo,hi)::cs,l=>∃pre d tr rest,l=pre++(d,tr,v)::rest∧(∀x∈pre,x.1.eff=true)∧d.lo=lo∧d.hi=hi∧(∃o,d.rop=yL P nt ops o∧run=yk P nt ops o call (frOf tr))∧CkR P nt ops call cs rest
theorem zi0(call:zh)(hs:List AHeap)(l l':List (DOper×Tr AVal×AVal)):vB call hs (l++l')=(vB call hs l&&vB call hs l'):=by
 induction l with
 |nil=>rfl
 |cons x l ih=>obtain⟨d,tr,v⟩:=x;simp only[List.cons_append,vB,ih,Bool.and_assoc]
theorem qK(call:zh)(hs:List AHeap):∀l:List (DOper×Tr AVal×AVal),(∀x∈l,x.1.eff=true)→vB call hs l=true
 | [],_=>rfl
 |(d,tr,v)::l,h=>by
  simp only[vB];rw[h _ (List.mem_cons_self ..),qK call hs l fun x hx=>h x (List.mem_cons_of_mem _ hx)]
  rfl
theorem zhQ{call:zh}{ops:Array Oper}{hs:List AHeap}:∀(cs:List ((AHeap→Res)×AVal×Nat×Nat)) (l:List (DOper×Tr AVal×AVal)),CkR P nt ops call cs l→chkK hs cs=true→vB call hs l=true
 | [],l,h,_=>qK call hs l h
 |(run,v,lo,hi)::cs,l,⟨pre,d,tr,rest,h1,h2,h3,h4,⟨o,h5,h6⟩,h7⟩,e=>by
  subst h1 h3 h4 h6;simp only[chkK]at e;obtain⟨e1,e2⟩:=and2 e;rw[zi0,qK call hs pre h2];simp only[vB,Bool.true_and];rw[zhQ cs rest h7 e2,Bool.and_true];rcases Bool.or_eq_true _ _ |>.mp e1 with k|k
  ·rw[k];simp
  ·rw[h5,zgS _ k];simp
theorem zl7{call:zh}{ops:Array Oper}{x:DOper×Tr AVal×AVal}(hx:x.1.eff=true):∀(cs:List ((AHeap→Res)×AVal×Nat×Nat)) (l:List (DOper×Tr AVal×AVal)),CkR P nt ops call cs l→CkR P nt ops call cs (l++[x])
 | [],l,h=>fun y hy=>by
  rcases List.mem_append.1 hy with k|k
  ·exact h y k
  ·rw[List.mem_singleton.1 k];exact hx
 |(run,v,lo,hi)::cs,l,⟨pre,d,tr,rest,h1,h2,h3,h4,h5,h6⟩=>⟨pre,d,tr,rest++[x],by rw[h1];simp,h2,h3,h4,h5,zl7 hx cs rest h6⟩
theorem zfn{call:zh}{ops:Array Oper}{d:DOper}{tr:Tr AVal}{v:AVal}{o:Oper}(hd:d.rop=yL P nt ops o):∀(cs:List ((AHeap→Res)×AVal×Nat×Nat)) (l:List (DOper×Tr AVal×AVal)),CkR P nt ops call cs l→
  CkR P nt ops call (cs++[(yk P nt ops o call (frOf tr),v,d.lo,d.hi)]) (l++[(d,tr,v)])
 | [],l,h=>⟨l,d,tr,[],rfl,h,rfl,rfl,⟨o,hd,rfl⟩,fun y hy=>by cases hy⟩
 |(run,v',lo,hi)::cs,l,⟨pre,d',tr',rest,h1,h2,h3,h4,h5,h6⟩=>⟨pre,d',tr',rest++[(d,tr,v)],by rw[h1];simp,h2,h3,h4,h5,zfn hd cs rest h6⟩
theorem zkV{β:Type}(ops:Array Oper)(call:zh)(bs:List Nat)(es:List Bool)(k:Fr→AHeap→Option β)(x:β):
  ∀(os:List Oper) (i:Nat) (t:Tr AVal) (h:AHeap) (hs:List AHeap) (cs:List ((AHeap→Res)×AVal×Nat×Nat)) (l0:List (DOper×Tr AVal×AVal)),CkR P nt ops call cs l0→
   kDr P nt ops call bs es i os (frOf t) h hs cs k=some x→
   ∃l t' hs',evD call (vO P nt ops bs es i os) t h=some (l,t',hs')∧vB call (hs++hs') (l0++l)=true∧hs'≠[]∧k (frOf t') (zbV h hs')=some x∧∀i,i∉os.filterMap (·.dst)→frOf t' i=frOf t i
 | [],i,t,h,hs,cs,l0,hc,e=>by
  simp only[kDr]at e;cases hq:chkK (hs++[h]) cs with
  |false=>rw[hq]at e;cases e
  |true=>
   rw[hq]at e;exact⟨[],t,[h],rfl,by rw[List.append_nil];exact zhQ cs l0 hc hq,by simp,e,fun _ _=>rfl⟩
 |o::os,i,t,h,hs,cs,l0,hc,e=>by
  rw[zhn]at e;simp only[bindR]at e;split at e
  ·rename_i v h' hq;rw[←js]at hq e;obtain⟨e1,e2⟩:=jq ops o call _ h v h' hq;rw[←wu]at e;simp only[vO,evD];rw[e1];simp only;cases hqo:yx P o.op with
   |true=>
    rw[hqo]at e;simp only[cond_true,Bool.not_true,cond_false]at e ⊢;obtain⟨l,t',hs',k1,k2,k3,k4,k5⟩:=zkV ops call bs es k x os _ _ _ _ _ (l0++[(⟨yL P nt ops o,(o.looksAt ops).map bn,false,ce (fun j=>bef bs j i) 0 es,ce (fun j=>!bef bs i j) 0 es⟩,ui t ((o.looksAt ops).map bn),v)])
     (zfn (d:=⟨yL P nt ops o,(o.looksAt ops).map bn,false,ce (fun j=>bef bs j i) 0 es,ce (fun j=>!bef bs i j) 0 es⟩) rfl cs l0 hc) e
    rw[e2,k1];refine⟨_,_,_,rfl,?_,?_,?_,fun i hi=>?_⟩
    ·rw[List.append_assoc]at k2;exact k2
    ·exact k3
    ·exact k4
    ·simp only[List.filterMap_cons]at hi;rw[k5 i,wu,xT]
     ·intro hd;rw[hd]at hi;simp at hi
     ·intro hm;apply hi;cases o.dst<;>simp[hm]
   |false=>
    rw[hqo]at e;simp only[cond_false,Bool.not_false,cond_true]at e ⊢;obtain⟨l,t',hs',k1,k2,k3,k4,k5⟩:=zkV ops call bs es k x os _ _ _ _ _ (l0++[(⟨yL P nt ops o,(o.looksAt ops).map bn,true,ce (fun j=>bef bs j i) 0 es,ce (fun j=>!bef bs i j) 0 es⟩,ui t ((o.looksAt ops).map bn),v)])
     (zl7 rfl cs l0 hc) e
    rw[e2,k1];refine⟨_,_,_,rfl,?_,?_,?_,fun i hi=>?_⟩
    ·rw[List.append_assoc,List.append_assoc]at k2;exact k2
    ·simp
    ·simp only[cond_true,zbV];cases hs' with
     |nil=>exact absurd rfl k3
     |cons a b=>exact k4
    ·simp only[List.filterMap_cons]at hi;rw[k5 i,wu,xT]
     ·intro hd;rw[hd]at hi;simp at hi
     ·intro hm;apply hi;cases o.dst<;>simp[hm]
  ·cases e
section
variable {ops:Array Oper} {call:zh} {n0:Nat}
theorem zei{o:Oper}{t:Tr AVal}{v:AVal}{d:GOper}(hd:d.rop=yL P nt ops o){mks:List (Nat×Nat×AObj)}:∀(hs:List AHeap) (k:Nat),zb9 (yk P nt ops o call (frOf t)) v n0 d.hide mks k hs=true→zim call n0 d t v mks k hs=true
 | [],_,_=>rfl
 |h::hs,k,e=>by
  simp only[zb9]at e;simp only[zim];split at e
  ·rename_i v' h' hq;obtain⟨k1,_⟩:=jq ops o call t _ v' h' hq;obtain⟨e1,e2⟩:=and2 e;rw[hd,k1];simp only;rw[e1,zei hd hs _ e2];rfl
  ·cases e
def CkGR(P:Program)(nt:Nat)(ops:Array Oper)(call:zh):List CkG→List GE→Prop
 | [],l=>∀g∈l,(g.d.eff||g.d.mkb)=true
 |(run,v,lo,hi,hide)::cs,l=>∃pre g rest,l=pre++g::rest∧(∀x∈pre,(x.d.eff||x.d.mkb)=true)∧g.v=v∧g.d.lo=lo∧g.d.hi=hi∧g.d.hide=hide∧(∃o,g.d.rop=yL P nt ops o∧run=yk P nt ops o call (frOf g.tr))∧CkGR P nt ops call cs rest
theorem ziZ{mks:List (Nat×Nat×AObj)}{hs:List AHeap}(l l':List GE):vA call n0 mks hs (l++l')=(vA call n0 mks hs l&&vA call n0 mks hs l'):=by
 induction l with
 |nil=>rfl
 |cons x l ih=>simp only[List.cons_append,vA,ih,Bool.and_assoc]
theorem qJ{mks:List (Nat×Nat×AObj)}{hs:List AHeap}:∀l:List GE,(∀x∈l,(x.d.eff||x.d.mkb)=true)→vA call n0 mks hs l=true
 | [],_=>rfl
 |g::l,h=>by
  simp only[vA];rw[h _ (List.mem_cons_self ..),qJ l fun x hx=>h x (List.mem_cons_of_mem _ hx)]
  simp
theorem zlt{mks:List (Nat×Nat×AObj)}{hs:List AHeap}:∀(cs:List CkG) (l:List GE),CkGR P nt ops call cs l→zgq n0 mks hs cs=true→vA call n0 mks hs l=true
 | [],l,h,_=>qJ l h
 |(run,v,lo,hi,hide)::cs,l,⟨pre,g,rest,h1,h2,h3,h4,h5,h6,⟨o,h7,h8⟩,h9⟩,e=>by
  subst h1 h3 h4 h5 h6 h8;simp only[zgq]at e;obtain⟨e1,e2⟩:=and2 e;rw[ziZ,qJ pre h2];simp only[vA,Bool.true_and];rw[zlt cs rest h9 e2,Bool.and_true];rcases Bool.or_eq_true _ _ |>.mp e1 with k|k
  ·rw[k];simp
  ·rw[zei h7 _ _ k];simp
theorem zd2{x:GE}(hx:(x.d.eff||x.d.mkb)=true):∀(cs:List CkG) (l:List GE),CkGR P nt ops call cs l→CkGR P nt ops call cs (l++[x])
 | [],l,h=>fun y hy=>by
  rcases List.mem_append.1 hy with k|k
  ·exact h y k
  ·rw[List.mem_singleton.1 k];exact hx
 |(run,v,lo,hi,hide)::cs,l,⟨pre,g,rest,h1,h2,h3,h4,h5,h6,h7,h8⟩=>⟨pre,g,rest++[x],by rw[h1];simp,h2,h3,h4,h5,h6,h7,zd2 hx cs rest h8⟩
theorem zcR{g:GE}{o:Oper}(hd:g.d.rop=yL P nt ops o):∀(cs:List CkG) (l:List GE),CkGR P nt ops call cs l→
  CkGR P nt ops call (cs++[(yk P nt ops o call (frOf g.tr),g.v,g.d.lo,g.d.hi,g.d.hide)]) (l++[g])
 | [],l,h=>⟨l,g,[],rfl,h,rfl,rfl,rfl,rfl,⟨o,hd,rfl⟩,fun y hy=>by cases hy⟩
 |(run,v',lo,hi,hide)::cs,l,⟨pre,g',rest,h1,h2,h3,h4,h5,h6,h7,h8⟩=>⟨pre,g',rest++[g],by rw[h1];simp,h2,h3,h4,h5,h6,h7,zcR hd cs rest h8⟩
theorem zdt{β:Type}(bs:List Nat)(es:List Bool)(k:Fr→AHeap→Option β)(x:β):
  ∀(os:List Oper) (i:Nat) (t:Tr AVal) (h:AHeap) (c:Nat) (hs:List AHeap) (cs:List CkG) (mks:List (Nat×Nat×AObj)) (l0:List GE),CkGR P nt ops call cs l0→
   kDr2 P nt ops call bs es n0 i os (frOf t) h c hs cs mks k=some x→
   ∃l t' h',evG call n0 i (y2 P nt ops bs es i os) t h=some (l,t',h')∧vA call n0 (mks++mksG n0 c i l) (hs++hsG l) (l0++l)=true∧k (frOf t') h'=some x∧∀i,i∉os.filterMap (·.dst)→frOf t' i=frOf t i
 | [],i,t,h,c,hs,cs,mks,l0,hc,e=>by
  simp only[kDr2]at e;cases hq:zgq n0 mks hs cs with
  |false=>rw[hq]at e;cases e
  |true=>
   rw[hq]at e;exact⟨[],t,h,rfl,by simp only[mksG,hsG,List.append_nil];exact zlt cs l0 hc hq,e,fun _ _=>rfl⟩
 |o::os,i,t,h,c,hs,cs,mks,l0,hc,e=>by
  have agree:∀(t2 t':Tr AVal) (v:AVal),(yL P nt ops o).dst=o.dst.map bn→t2=setT t v (yL P nt ops o).dst→(∀i,i∉os.filterMap (·.dst)→frOf t' i=frOf t2 i)→∀i,i∉(o::os).filterMap (·.dst)→frOf t' i=frOf t i:=by
   intro t2 t' v hd h2 H i hi;subst h2;simp only[List.filterMap_cons]at hi;rw[H i (fun hm=>hi (by cases o.dst<;>simp[hm])),hd,wu]
   exact xT (fun hd=>hi (by rw[hd];simp))
  simp only[kDr2]at e;simp only[y2,evG,stepG];cases hm:mkOp o.op with
  |true=>
   rw[hm]at e;have ha:anchor P o.op=false:=by unfold anchor;rw[hm];simp
   simp only[cond_true,bindR]at e ⊢;split at e
   ·rename_i v h' hq;rw[←js]at hq;obtain⟨e1,e2⟩:=jq ops o call _ _ v h' hq;rw[←wu,←e2]at e;rw[e1];simp only
    let g:GE:=⟨⟨yL P nt ops o,(o.looksAt ops).map bn,anchor P o.op,true,ce (fun j=>bef bs j i) 0 es,ce (fun j=>!bef bs i j) 0 es,yz bs i 0 ops.toList⟩,ui t ((o.looksAt ops).map bn),v,h,⟨h.n,h'.t⟩⟩
    obtain⟨l,t',h2,k1,k2,k3,k4⟩:=zdt bs es k x os _ _ _ _ _ _ _ (l0++[g]) (zd2 (x:=g) (by show (_||true)=true;simp) cs l0 hc) e
    rw[k1];refine⟨_,_,_,rfl,?_,k3,agree _ _ v e2 rfl k4⟩;simp only[mksG,hsG,ha,cond_true,cond_false];rw[List.append_assoc]at k2;simp only[List.singleton_append,List.append_assoc]at k2;simp only[mk1]at k2
    revert k2
    cases hx:h'.t.get (bn (Nat.add n0 i)) with
    |none=>intro k2;simpa[hx,g,ha] using k2
    |some ob=>intro k2;simpa[hx,g,ha] using k2
   ·cases e
  |false=>
   rw[hm]at e;simp only[cond_false,bindR]at e ⊢;split at e
   ·rename_i v h' hq;rw[←js]at hq;obtain⟨e1,e2⟩:=jq ops o call _ _ v h' hq;rw[←wu,←e2]at e;rw[e1];simp only;cases ha:anchor P o.op with
    |true=>
     rw[ha]at e;simp only[cond_true]at e ⊢;split at e
     ·rename_i t1 ht;rw[ht];simp only
      let g:GE:=⟨⟨yL P nt ops o,(o.looksAt ops).map bn,true,false,ce (fun j=>bef bs j i) 0 es,ce (fun j=>!bef bs i j) 0 es,yz bs i 0 ops.toList⟩,ui t ((o.looksAt ops).map bn),v,h,⟨h'.n,t1⟩⟩
      obtain⟨l,t',h2,k1,k2,k3,k4⟩:=zdt bs es k x os _ _ _ _ _ _ _ (l0++[g]) (zd2 (x:=g) rfl cs l0 hc) e;rw[k1];refine⟨_,_,_,rfl,?_,k3,agree _ _ v e2 rfl k4⟩
      simpa[mksG,hsG,g] using k2
     ·cases e
    |false=>
     rw[ha,←js]at e;simp only[cond_false]at e ⊢
     let g:GE:=⟨⟨yL P nt ops o,(o.looksAt ops).map bn,false,false,ce (fun j=>bef bs j i) 0 es,ce (fun j=>!bef bs i j) 0 es,yz bs i 0 ops.toList⟩,ui t ((o.looksAt ops).map bn),v,h,h⟩
     obtain⟨l,t',h2,k1,k2,k3,k4⟩:=zdt bs es k x os _ _ _ _ _ _ _ (l0++[g]) (zcR (g:=g) rfl cs l0 hc) e;rw[k1];refine⟨_,_,_,rfl,?_,k3,agree _ _ v e2 rfl k4⟩
     simpa[mksG,hsG,g] using k2
   ·cases e
theorem zai(bs:List Nat)(es:List Bool):∀(os:List Oper) (i:Nat),(y2 P nt ops bs es i os).length=os.length
 | [],_=>rfl
 |o::os,i=>by simp only[y2,List.length_cons,zai bs es os]
end
theorem zkn:∀(l:List AVal) (n:Nat),nthA l n=(l[n]?).getD z7
 | [],_=>rfl
 |v::l,n=>by
  cases n with
  |zero=>rfl
  |succ n=>simp only[nthA,List.getElem?_cons_succ];exact zkn l n
theorem zhj{r s:Fr}(V:List Nat):∀(W:List Nat) (k:Nat),(∀n w,W[n]? = some w→V[k+n]? = some w)→∀i,(i∉W→s i=r i)→mixL W k r (V.map s) i=s i
 | [],k,_,i,h=>(h (by simp)).symm
 |w::W,k,hW,i,h=>by
  simp only[mixL];cases hq:Nat.beq i w with
  |true=>
   have:=hW 0 w rfl;simp only[cond_true,zkn,Lz6];rw[Nat.add_zero]at this;rw[this,(beq_iff i w).1 hq];rfl
  |false=>
   simp only[cond_false];refine zhj V W (k+1) (fun n w' hn=>?_) i (fun hi=>h ?_)
   ·have:=hW (n+1) w' hn
    rwa [show k+1+n=k+(n+1) by omega]
   ·intro hm;rcases List.mem_cons.1 hm with rfl|hm
    ·rw[(beq_iff i i).2 rfl]at hq;cases hq
    ·exact hi hm
theorem zbi{W:List Nat}{r s:Fr}(h:∀i,i∉W→s i=r i):mixL W 0 r (W.map s)=s:=
 funext fun i=>zhj W W 0 (fun n w hn=>by rwa [Nat.zero_add]) i (h i)
theorem zdp{call:zh}{f fn:Nat}{c:Code}{r0:Fr} (H:∀(β:Type) (t:Tr AVal) (d:List BN) (h:AHeap) (k:RExit→Fr→AHeap→Option β) (x:β),yY P nt call f c (frOf t) h k=some x→
   ∃e t' h',z5 P nt c call f fn none ⟨t,d,h⟩=some (e,⟨t',d,h'⟩)∧k e (frOf t') h'=some x∧∀i,i∉writes c→frOf t' i=frOf t i):
  ∀(n:Nat) (t:Tr AVal) (d:List BN) (h:AHeap) (e:RExit) (ys:List AVal) (h':AHeap),(∀i,i∉writes c→frOf t i=r0 i)→
   zap (fun ys h=>yY P nt call f c (mixL (writes c) 0 r0 ys) h (fun e s h=>some (e,(writes c).map s,h))) n ((writes c).map (frOf t)) h=some (e,ys,h')→
   ∃t',zeI (z5 P nt c call f fn none) n ⟨t,d,h⟩=some (e,⟨t',d,h'⟩)∧ys=(writes c).map (frOf t')∧∀i,i∉writes c→frOf t' i=r0 i
 |0,_,_,_,_,_,_,_,e=>by cases e
 |n+1,t,d,h,e,ys,h',ht,hh=>by
  simp only[zap]at hh;rw[zbi ht]at hh;have hN:zeI (z5 P nt c call f fn none) (n+1) ⟨t,d,h⟩=(match z5 P nt c call f fn none ⟨t,d,h⟩ with
   |some (.normal,s')=>zeI (z5 P nt c call f fn none) n s'
   |r=>r):=rfl
  rw[hN];split at hh
  ·rename_i r1 h1 hq;obtain⟨e1,t1,h2,k1,k2,k3⟩:=H _ t d h _ _ hq;cases k2;rw[k1];exact zdp H n t1 d h1 e ys h' (fun i hi=>(k3 i hi).trans (ht i hi)) hh
  ·rename_i x hx;obtain⟨e1,t1,h2,k1,k2,k3⟩:=H _ t d h _ _ hh;cases k2;rw[k1];cases e with
   |normal=>exact absurd hh (hx _ _)
   |exit id=>exact⟨t1,rfl,rfl,fun i hi=>(k3 i hi).trans (ht i hi)⟩
   |ret=>exact⟨t1,rfl,rfl,fun i hi=>(k3 i hi).trans (ht i hi)⟩
theorem zni{call:zh}{f fn:Nat}(c:Code):∀(β:Type) (t:Tr AVal) (d:List BN) (h:AHeap) (k:RExit→Fr→AHeap→Option β) (x:β),yY P nt call f c (frOf t) h k=some x→
  ∃e t' h',z5 P nt c call f fn none ⟨t,d,h⟩=some (e,⟨t',d,h'⟩)∧k e (frOf t') h'=some x∧∀i,i∉writes c→frOf t' i=frOf t i:=by
 induction c with
 |skip=>exact fun β t d h k x e=>⟨.normal,t,h,rfl,e,fun _ _=>rfl⟩
 |region id ops draw=>
  intro β t d h k x e;simp only[yY]at e;simp only[z5];cases draw with
  |false=>
   simp only[cond_false]at e ⊢;obtain⟨t',h',k1,k2,k3⟩:=zkU ops call ops.toList t h _ x e;exact⟨.normal,t',h',by simp only[regF,k1];rfl,k2,k3⟩
  |true=>
   simp only[cond_true]at e ⊢;cases hq:P.follows .mixedOrders&&k8 P ops (befs ops.toList) with
   |false=>
    rw[hq]at e;simp only[cond_false]at e ⊢;cases hq2:P.follows .mixedOrders&&uu P ops (befs ops.toList) with
    |false=>rw[hq2]at e;cases e
    |true=>
     rw[hq2]at e;simp only[cond_true]at e ⊢;obtain⟨l,t',h',k1,k2,k3,k4⟩:=zdt (call:=call) (n0:=h.n.toNat) _ _ _ x ops.toList 0 t _ 0 _ [] [] [] (fun y hy=>by cases hy) e
     refine⟨.normal,t',h',?_,k3,k4⟩;simp only[zhJ,vh,zai];rw[k1];simp only;rw[List.nil_append,List.nil_append]at k2;rw[show ((⟨bn (Nat.add h.n.toNat ops.toList.length),h.t⟩:AHeap)::hsG l)=[⟨bn (Nat.add h.n.toNat ops.toList.length),h.t⟩]++hsG l from rfl,k2]
     rfl
   |true=>
    rw[hq]at e;simp only[cond_true]at e ⊢;obtain⟨l,t',hs',k1,k2,k3,k4,k5⟩:=zkV ops call _ _ _ x ops.toList 0 t h [] [] [] (fun y hy=>by cases hy) e
    refine⟨.normal,t',zbV h hs',?_,k4,k5⟩;simp only[zhK,zak];rw[k1];simp only;rw[List.nil_append,List.nil_append]at k2;rw[k2];rfl
 |seq a b iha ihb=>
  intro β t d h k x e;simp only[yY]at e;obtain⟨e1,t1,h1,k1,k2,k3⟩:=iha β t d h _ x e;simp only[z5,seqF];rw[k1];have hw:∀i,i∉writes (a.seq b)→i∉writes a∧i∉writes b:=fun i hi=>by simpa[writes] using hi
  cases e1 with
  |normal=>
   obtain⟨e2,t2,h2,j1,j2,j3⟩:=ihb β t1 d h1 k x k2;exact⟨e2,t2,h2,j1,j2,fun i hi=>(j3 i (hw i hi).2).trans (k3 i (hw i hi).1)⟩
  |exit id=>exact⟨_,t1,h1,rfl,k2,fun i hi=>k3 i (hw i hi).1⟩
  |ret=>exact⟨_,t1,h1,rfl,k2,fun i hi=>k3 i (hw i hi).1⟩
 |cond c a b iha ihb=>
  intro β t d h k x e;simp only[yY]at e;simp only[z5];have hw:∀i,i∉writes (Code.cond c a b)→i∉writes a∧i∉writes b:=fun i hi=>by simpa[writes] using hi
  rcases zG (t:=t) c with⟨h1,h2⟩|⟨p,q,h1,h2,h3⟩
  ·rw[h1]at e;cases e
  ·rw[h1]at e;rw[h2];simp only[ifK,zqa]at e ⊢;rw[h3]at e;split at e
   ·rename_i qq hqq;rw[hqq];cases qq with
    |true=>
     obtain⟨e2,t2,h2,j1,j2,j3⟩:=iha β t d h k x e;exact⟨e2,t2,h2,j1,j2,fun i hi=>j3 i (hw i hi).1⟩
    |false=>
     obtain⟨e2,t2,h2,j1,j2,j3⟩:=ihb β t d h k x e;exact⟨e2,t2,h2,j1,j2,fun i hi=>j3 i (hw i hi).2⟩
   ·cases e
 |block id c ih=>
  intro β t d h k x e;simp only[yY]at e;obtain⟨e1,t1,h1,k1,k2,k3⟩:=ih β t d h _ x e;simp only[z5,zoj];rw[k1];cases e1 with
  |normal=>exact⟨_,t1,h1,rfl,k2,k3⟩
  |ret=>exact⟨_,t1,h1,rfl,k2,k3⟩
  |exit id'=>
   simp only[outF,outK]at k2 ⊢;cases hq:Nat.beq id' id with
   |true=>rw[hq]at k2;exact⟨_,t1,h1,rfl,k2,k3⟩
   |false=>rw[hq]at k2;exact⟨_,t1,h1,rfl,k2,k3⟩
 |loop c ih=>
  intro β t d h k x e;simp only[yY,bindX]at e;simp only[z5,zrn];split at e
  ·rename_i id ys h1 hq;obtain⟨t',k1,k2,k3⟩:=zdp ih f t d h _ ys h1 (fun _ _=>rfl) hq
   rw[k2,zbi k3]at e;exact⟨_,t',h1,k1,e,k3⟩
  ·rename_i ys h1 hq;obtain⟨t',k1,k2,k3⟩:=zdp ih f t d h _ ys h1 (fun _ _=>rfl) hq
   rw[k2,zbi k3]at e;exact⟨_,t',h1,k1,e,k3⟩
  ·cases e
 |exit id=>exact fun β t d h k x e=>⟨.exit id,t,h,rfl,e,fun _ _=>rfl⟩
 |ret=>exact fun β t d h k x e=>⟨.ret,t,h,rfl,e,fun _ _=>rfl⟩
 |_=>intro β t d h k x e;simp only[yY]at e;cases e
theorem zc5(t:Tr AVal)(h:AHeap):∀(l:List ResultVar) (rs:List (BN×Option (Option Nat))),cRes P l=some rs→jP P (frOf t) h l=uX t h rs
 | [],rs,e=>by cases e;rfl
 | .tmp i::l,rs,e=>by
  simp only[cRes]at e;split at e
  ·rename_i rs' hq;cases e;simp only[jP,uX];rw[zc5 t h l rs' hq];simp only[zbS,zcE,resV,frOf,tmpF];cases t.get (bn i) with
   |none=>rfl
   |some v=>cases v<;>rfl
  ·cases e
 | .cell i ty::l,rs,e=>by
  simp only[cRes]at e;split at e
  ·rename_i n rs' hn hq;cases e;simp only[jP,uX];rw[zc5 t h l rs' hq];simp only[zbS,zcE,resP,frOf,tmpF,hn];cases t.get (bn i) with
   |none=>rfl
   |some v=>
    cases v with
    |tup _=>rfl
    |s v=>cases v with
     |agg _=>rfl
     |one c=>cases c<;>rfl
  ·cases e
theorem zr4(P:Program)(g:Nat):cFs (xX P) g=(P.funcs[g]?).bind (zgt P):=by
 unfold cFs xX;have:=wO (P.funcs.toList.map (zgt P)) 0 .nil g;rw[show bn 0=BN.z from rfl]at this
 rw[this];simp only[Nat.not_lt_zero,if_false,Nat.sub_zero,Lz6,LzA];have hn:(Tr.nil:Tr (Option RFunc)).get (bn g)=none:=by cases bn g<;>rfl
 cases P.funcs[g]? with
 |none=>simp[hn]
 |some fn=>simp
theorem zpP{g:Nat}{call:zh}{f:Nat}{args:List AVal}{h:AHeap}{x:AVal×AHeap}(e:kFun P g call f args h=some x):zld (cFs (xX P)) call f g args h=some x:=by
 unfold kFun at e;unfold zld;rw[zr4];cases hf:P.funcs[g]? with
 |none=>rw[hf]at e;cases e
 |some fn=>
  rw[hf]at e;simp only[Option.bind_some]at e ⊢;unfold zgt;cases hb:fn.body with
  |none=>rw[hb]at e;cases e
  |some c=>
   rw[hb]at e;simp only at e ⊢;cases hr:cRes P fn.results.toList with
   |none=>rw[hr]at e;cases e
   |some rs=>
    rw[hr]at e;simp only[Option.isNone_some,Bool.false_or]at e ⊢;cases hn:fn.name == "runtime.NumGoroutine" with
    |true=>rw[hn]at e;cases e
    |false=>
     rw[hn]at e;simp only[cond_false]at e ⊢;cases hl:lenA args fn.ntmps with
     |false=>rw[hl]at e;cases e
     |true=>
      rw[hl]at e;simp only[cond_true]at e ⊢;obtain⟨e1,t1,h1,k1,k2,_⟩:=zni (fn:=g) c _ _ [] h _ _ e;rw[k1];cases e1 with
      |exit id=>cases k2
      |normal=>simp only[endK,zc5 _ _ _ _ hr]at k2;exact k2
      |ret=>simp only[endK,zc5 _ _ _ _ hr]at k2;exact k2
end
end Go.CE
end
section
namespace Go.CE
noncomputable section
def yh:zh:=fun _ _ _=>none
def cP(l:List (Nat×Nat×AVal)):List (Nat×Nat×Opd):=l.map fun p=>(p.1,p.2.1,zr p.2.2)
def cL(l:List AVal):List Opd:=l.map zr
def cO:Option AVal→Option Opd
 |none=>none
 |some v=>some (zr v)
def zmd(c a b:AVal)(h:AHeap):Res:=uH (zr c) (zr a) (zr b) yh .nil h
def zqv(zs:List CVal)(h:AHeap):Res:=zbb zs yh .nil h
def vBox(x:AVal)(h:AHeap):Res:=zbT (zr x) yh .nil h
def zjf(zs:List CVal)(l:List (Nat×Nat×AVal))(h:AHeap):Res:=w8 zs (cP l) yh .nil h
def zox(st len:Nat)(zs:List CVal)(l:List (Nat×Nat×AVal))(h:AHeap):Res:=wm st len zs (cP l) yh .nil h
def zmg(n:Option Nat)(x:AVal)(h:AHeap):Res:=uK n (zr x) yh .nil h
def zqt(n:Nat)(x v:AVal)(h:AHeap):Res:=qp n (zr x) (zr v) yh .nil h
def zgI(x:AVal)(h:AHeap):Res:=wX (zr x) yh .nil h
def vInt(g:IntKind→Int→Int→Option CVal)(x y:AVal)(h:AHeap):Res:=zao g (zr x) (zr y) yh .nil h
def zgH(g:IntKind→Int→Int→Option CVal)(x y:AVal)(h:AHeap):Res:=wg g (zr x) (zr y) yh .nil h
def vStr(op:BinOp)(x y:AVal)(h:AHeap):Res:=za5 op (zr x) (zr y) yh .nil h
def vEq(ks:Nat⊕List Nat)(neg:Bool)(x y:AVal)(h:AHeap):Res:=opEq ks neg (zr x) (zr y) yh .nil h
def zjd(neg:Bool)(x y:AVal)(h:AHeap):Res:=vS neg (zr x) (zr y) yh .nil h
def vNot(x:AVal)(h:AHeap):Res:=za6 (zr x) yh .nil h
def vNeg(x:AVal)(h:AHeap):Res:=za7 (zr x) yh .nil h
def zmj(k:IntKind)(x:AVal)(h:AHeap):Res:=uO k (zr x) yh .nil h
def zmf(f:Nat)(caps:List AVal)(h:AHeap):Res:=uJ f (cL caps) yh .nil h
def zqu(h:AHeap):Res:=za9 yh .nil h
def zme(st:Nat)(zs:List CVal)(bytes:Nat)(l c:AVal)(h:AHeap):Res:=xI st zs bytes (zr l) (zr c) yh .nil h
def ux(st:Nat)(x:AVal)(lo hi mx:Option AVal)(h:AHeap):Res:=wV st (zr x) (cO lo) (cO hi) (cO mx) yh .nil h
def zcT(x:AVal)(lo hi:Option AVal)(h:AHeap):Res:=xy (zr x) (cO lo) (cO hi) yh .nil h
def zmi(x:AVal)(off:Nat)(h:AHeap):Res:=uN (zr x) off yh .nil h
def zgM(x:AVal)(off:Nat)(n:Option Nat)(h:AHeap):Res:=w7 (zr x) off n yh .nil h
def vIxs(st:Nat)(x i:AVal)(h:AHeap):Res:=zba st (zr x) (zr i) yh .nil h
def zgK(len st:Nat)(x i:AVal)(h:AHeap):Res:=wZ len st (zr x) (zr i) yh .nil h
def zgL(len st:Nat)(n:Option Nat)(x i:AVal)(h:AHeap):Res:=w6 len st n (zr x) (zr i) yh .nil h
def zgJ(x i:AVal)(h:AHeap):Res:=wY (zr x) (zr i) yh .nil h
def zow(q:Nat⊕List Nat)(z:SVal)(ok:Bool)(m k:AVal)(h:AHeap):Res:=wl q z ok (zr m) (zr k) yh .nil h
def zsp(q:Nat⊕List Nat)(m k v:AVal)(h:AHeap):Res:=za8 q (zr m) (zr k) (zr v) yh .nil h
def zas(x:AVal)(i:Nat)(h:AHeap):Res:=xl (zr x) i yh .nil h
def zmh(x:AVal)(h:AHeap):Res:=uL (zr x) yh .nil h
def zje(x:AVal)(h:AHeap):Res:=uM (zr x) yh .nil h
def zsq(x:AVal)(h:AHeap):Res:=jE (zr x) yh .nil h
def zoy(str:Bool)(st bytes:Nat)(s x:AVal)(h:AHeap):Res:=xz str st bytes (zr s) (zr x) yh .nil h
def zcU(m:Bool)(x:AVal)(xs:List AVal)(h:AHeap):Res:=y0 m (zr x) (cL xs) yh .nil h
def znO(st:Nat)(zs:List CVal)(x:AVal)(h:AHeap):Res:=qr st zs (zr x) yh .nil h
def zss(call:zh)(f:AVal)(args:List AVal)(h:AHeap):Res:=zck (zr f) (cL args) call .nil h
end
end Go.CE
end
section
namespace Go.CE
def Ev{α:Type}(m:Nat→Option α)(Q:α→Prop):Prop:=∃a,Q a∧∃N,∀n,N≤n→m n=some a
theorem Ev.some{α:Type}{a:α}{Q:α→Prop}(h:Q a):Ev (fun _=>some a) Q:=⟨a,h,0,fun _ _=>rfl⟩
theorem Ev.mono{α:Type}{m:Nat→Option α}{Q Q':α→Prop}(h:Ev m Q)(hq:∀a,Q a→Q' a):Ev m Q':=by
 obtain⟨a,h1,h2⟩:=h;exact⟨a,hq a h1,h2⟩
theorem Ev.bindR{β:Type}{m:Nat→Res}{k:Nat→AVal→AHeap→Option β}{Q:β→Prop}(h:Ev m (fun p=>Ev (fun n=>k n p.1 p.2) Q)):Ev (fun n=>CE.bindR (m n) (k n)) Q:=by
 obtain⟨⟨v,h'⟩,⟨x,h1,N1,h2⟩,N2,h3⟩:=h;refine⟨x,h1,max N1 N2,fun n hn=>?_⟩
 have e:=h3 n (by omega)
 simp only[e,CE.bindR];exact h2 n (by omega)
theorem Ev.bindX{β:Type}{m:Nat→Option (RExit×List AVal×AHeap)}{kx:Nat→Nat→List AVal→AHeap→Option β}{kr:Nat→List AVal→AHeap→Option β}{Q:β→Prop}
  (h : Ev m (fun p => match p.1 with
   | .exit id=>Ev (fun n=>kx n id p.2.1 p.2.2) Q
   | .ret=>Ev (fun n=>kr n p.2.1 p.2.2) Q
   | .normal=>False)):Ev (fun n=>CE.bindX (m n) (kx n) (kr n)) Q:=by
 obtain⟨⟨e,ys,h'⟩,h1,N2,h3⟩:=h;cases e with
 |normal=>exact h1.elim
 |exit id=>
  obtain⟨x,h1,N1,h2⟩:=h1;exact⟨x,h1,max N1 N2,fun n hn=>by have e:=h3 n (by omega);simp only[e,CE.bindX];exact h2 n (by omega)⟩
 |ret=>
  obtain⟨x,h1,N1,h2⟩:=h1;exact⟨x,h1,max N1 N2,fun n hn=>by have e:=h3 n (by omega);simp only[e,CE.bindX];exact h2 n (by omega)⟩
theorem Ev.loop{c:Nat→List AVal→AHeap→Option (RExit×List AVal×AHeap)}{Q:RExit×List AVal×AHeap→Prop}(I:Nat→List AVal→AHeap→Prop)
  (H : ∀ k ys h, I k ys h → Ev (fun n => c n ys h) (fun p => match p.1 with
   | .normal=>∃k',k'<k∧I k' p.2.1 p.2.2
   |e=>Q (e,p.2.1,p.2.2))):
  ∀k ys h,I k ys h→Ev (fun n=>zap (c n) n ys h) Q:=by
 have key:∀K k ys h,k≤K→I k ys h→∃a,Q a∧∃N,∀n,N≤n→∀f,N≤f→zap (c n) f ys h=Option.some a:=by
  intro K
  induction K with
  |zero=>
   intro k ys h hk hi;obtain⟨⟨e,ys',h'⟩,h1,N,h2⟩:=H k ys h hi;cases e with
   |normal=>obtain⟨k',hk',_⟩:=h1;omega
   |exit id=>
    refine⟨_,h1,N+1,fun n hn f hf=>?_⟩
    cases f with
    |zero=>omega
    |succ f=>have e:=h2 n (by omega);simp only[zap,e]
   |ret=>
    refine⟨_,h1,N+1,fun n hn f hf=>?_⟩
    cases f with
    |zero=>omega
    |succ f=>have e:=h2 n (by omega);simp only[zap,e]
  |succ K ih=>
   intro k ys h hk hi;obtain⟨⟨e,ys',h'⟩,h1,N,h2⟩:=H k ys h hi;cases e with
   |normal=>
    obtain⟨k',hk',hi'⟩:=h1;obtain⟨a,ha,N',h3⟩:=ih k' ys' h' (by omega) hi'
    refine⟨a,ha,max N N'+1,fun n hn f hf=>?_⟩
    cases f with
    |zero=>omega
    |succ f=>have e:=h2 n (by omega);simp only[zap,e];exact h3 n (by omega) f (by omega)
   |exit id=>
    refine⟨_,h1,N+1,fun n hn f hf=>?_⟩
    cases f with
    |zero=>omega
    |succ f=>have e:=h2 n (by omega);simp only[zap,e]
   |ret=>
    refine⟨_,h1,N+1,fun n hn f hf=>?_⟩
    cases f with
    |zero=>omega
    |succ f=>have e:=h2 n (by omega);simp only[zap,e]
 intro k ys h hi;obtain⟨a,ha,N,h1⟩:=key k k ys h (LzB _) hi;exact⟨a,ha,N,fun n hn=>h1 n hn n hn⟩
def HW(h:AHeap):Prop:=∀b o,h.t.get b=some o→b.toNat<h.n.toNat
structure Gr (h h':AHeap):Prop where
 le:h.n.toNat≤h'.n.toNat
 old:∀b:BN,b.toNat<h.n.toNat→h'.t.get b=h.t.get b
theorem Gr.refl(h:AHeap):Gr h h:=⟨LzB _,fun _ _=>rfl⟩
theorem Gr.trans{a b c:AHeap}(h:Gr a b)(k:Gr b c):Gr a c:=⟨Nat.le_trans h.le k.le,fun x hx=>(k.old x (Lz9 hx h.le)).trans (h.old x hx)⟩
theorem Gr.get{h h':AHeap}(g:Gr h h')(w:HW h){b:BN}{o:AObj}(e:h.t.get b=some o):h'.t.get b=some o:=(g.old b (w b o e)).trans e
theorem zr7{a b:BN}(h:a.toNat≠b.toNat):a≠b:=fun e=>h (by rw[e])
theorem HW.new{h:AHeap}(w:HW h)(o:AObj):HW (h.new o):=fun b o' e=>by
 simp only[AHeap.new]at e ⊢;rw[BN.toNat_succ];by_cases hb:b=h.n
 ·rw[hb];omega
 ·rw[zo _ _ _ _ hb]at e;have:=w b o' e;omega
theorem Gr.new(h:AHeap)(o:AObj):Gr h (h.new o):=⟨by simp only[AHeap.new];rw[BN.toNat_succ];omega,fun b hb=>by
 simp only[AHeap.new];exact zo _ _ _ _ (zr7 (by omega))⟩
theorem HW.put{h:AHeap}(w:HW h){b:BN}{o o':AObj}(e:h.t.get b=some o):HW (h.put b o'):=fun c x hx=>by
 simp only[AHeap.put]at hx ⊢;by_cases hb:c=b
 ·rw[hb];exact w b o e
 ·rw[zo _ _ _ _ hb]at hx;exact w c x hx
theorem Gr.put{h0 h:AHeap}(g:Gr h0 h){b:BN}{o':AObj}(hb:h0.n.toNat≤b.toNat):Gr h0 (h.put b o'):=⟨g.le,fun c hc=>by
 simp only[AHeap.put];rw[zo _ _ _ _ (zr7 (by omega))]
 exact g.old c hc⟩
theorem zav(h:AHeap)(b:BN)(o:AObj):(h.put b o).t.get b=some o:=zw _ _ _
theorem wT(h:AHeap){b c:BN}(o:AObj)(hc:c≠b):(h.put b o).t.get c=h.t.get c:=zo _ _ _ _ hc
theorem zhF:∀v:AVal,eqA v v=true:=by
 have hbn:∀a:BN,eqBN a a=true:=fun a=>by induction a with|z=>rfl|o n ih=>exact ih|d n ih=>exact ih
 have hn:∀a:Nat,Nat.beq a a=true:=Nat.beq_refl;have hps:∀l:List (BN×Nat),eqPs l l=true:=fun l=>by
  induction l with
  |nil=>rfl
  |cons p l ih=>obtain⟨b,o⟩:=p;simp only[eqPs,hbn,hn,ih];rfl
 have hu:∀l:List UInt8,eqU l l=true:=fun l=>by
  induction l with
  |nil=>rfl
  |cons a l ih=>simp only[eqU,hn,ih];rfl
 have hb:∀b:Bool,eqB b b=true:=fun b=>by cases b<;>rfl
 have hi:∀i:Int,eqI i i=true:=fun i=>by cases i<;>exact hn _
 have hk:∀k:IntKind,eqK k k=true:=fun k=>by cases k<;>rfl
 have hv:∀c:CVal,eqV c c=true:=fun c=>by cases c<;>simp only[eqV,hbn,hn,hps,hu,hb,hi,hk,Bool.and_self]
 have hvs:∀l:List CVal,eqVs l l=true:=fun l=>by
  induction l with
  |nil=>rfl
  |cons a l ih=>simp only[eqVs,hv,ih,Bool.and_self]
 have hsv:∀v:SVal,eqSv v v=true:=fun v=>by cases v<;>simp only[eqSv,hv,hvs]
 have hss:∀l:List SVal,eqSs l l=true:=fun l=>by
  induction l with
  |nil=>rfl
  |cons a l ih=>simp only[eqSs,hsv,ih,Bool.and_self]
 intro v;cases v<;>simp only[eqA,hsv,hss]
end Go.CE
end
section
namespace Go.CE
theorem Ev.call{P:Program}{sums:List Sum}{g:Nat}{args:List AVal}{h:AHeap}{Q:AVal×AHeap→Prop}(hs:xQ g args h sums=none)
  (H:Ev (fun n=>kFun P g (yu (z5 P) (cFs (xX P)) sums n) n args h) Q):Ev (fun n=>yu (z5 P) (cFs (xX P)) sums n (.inl g) args h) Q:=by
 obtain⟨x,hx,N,hN⟩:=H;refine⟨x,hx,N+1,fun n hn=>?_⟩
 cases n with
 |zero=>omega
 |succ n=>
  have e:=zpP (hN n (by omega))
  have:yu (z5 P) (cFs (xX P)) sums (n+1) (.inl g) args h=zd3 sums (zcG (z5 P) (cFs (xX P)) (yu (z5 P) (cFs (xX P)) sums n) n) (.inl g) args h:=rfl;show yu (z5 P) (cFs (xX P)) sums (n+1) (.inl g) args h=_;rw[this];unfold zd3;simp only[hs];exact e
theorem Ev.sum{P:Program}{fs:Nat→Option RFunc}{sums:List Sum}{g:Nat}{args:List AVal}{h:AHeap}{v:AVal}(hs:xQ g args h sums=Option.some v):
  Ev (fun n=>yu (z5 P) fs sums n (.inl g) args h) (fun p=>p=(v,h)):=by
 refine⟨_,rfl,1,fun n hn=>?_⟩
 cases n with
 |zero=>omega
 |succ n=>
  have:yu (z5 P) fs sums (n+1) (.inl g) args h=zd3 sums (zcG (z5 P) fs (yu (z5 P) fs sums n) n) (.inl g) args h:=rfl;show yu (z5 P) fs sums (n+1) (.inl g) args h=_;rw[this];unfold zd3;simp only[hs]
def rd(n off:Nat):AObj→Option (List CVal)
 | .cells cs _=>cut n cs off
 | .ro _ f=>cutF f n off
 | .void=>bif Nat.beq n 0 then some [] else none
 |_=>none
def Sl{α:Type}(st:Nat)(R:AHeap→List CVal→α→Prop)(h:AHeap)(c:CVal)(l:List α):Prop:=
 (c=.nils∧l=[])∨∃b off cap ex,c=.slc b off l.length cap ex∧∀i x,l[i]? = some x→∃o ds,h.t.get b=some o∧rd st (off+i*st) o=some ds∧R h ds x
theorem zp8{cs:List CVal}{i:Nat}{c:CVal}(h:cut 1 cs i=some [c]):vY cs i=some c:=by
 rw[xK];have:=(qF h).2 0 c rfl
 simpa using this
theorem zqZ{o:AObj}{off:Nat}{c:CVal}{h:AHeap}(e:rd 1 off o=some [c]):loadAt none h off (some o)=some (.s (.one c),h):=by
 cases o with
 |cells cs st=>show retC h (vY cs off)=_;rw[zp8 e];rfl
 |ro x f=>
  show retC h (f off)=_;simp only[rd,cutF]at e;cases hf:f off with
  |none=>rw[hf]at e;cases e
  |some d=>rw[hf]at e;cases e;rfl
 |_=>cases e
end Go.CE
end
section
namespace Go.CE
theorem zb1:∀l:List CVal,takeN l.length l=some l
 | []=>rfl
 |c::l=>by simp only[List.length_cons,takeN,zb1 l,xW]
theorem zdP(l:List CVal):cut l.length l 0=some l:=by
 cases l with
 |nil=>rfl
 |cons c l=>simp only[cut];exact zb1 (c::l)
end Go.CE
end
section
namespace Go.CE
open Go.RowKit
section
variable (w:World)
def oddV:Value→List Addr
 | .slice (some a) 0 0=>[a]
 |_=>[]
def oddO:Obj→List Addr
 | .cells arr _ _=>arr.toList.flatMap oddV
 |_=>[]
def odds(w:World):List Addr:=w.heap.toList.flatMap oddO
theorem zmR{w:World}{b:Nat}{arr:Array Value}{e:TypeId}{fr:Nat×Nat}{i:Nat}{a:Addr}(h:w.heap[b]? = some (.cells arr e fr))(hi:arr[i]? = some (.slice (some a) 0 0)):a∈odds w:=by
 unfold odds;refine List.mem_flatMap.2 ⟨.cells arr e fr,?_,List.mem_flatMap.2 ⟨.slice (some a) 0 0,?_,by simp[oddV]⟩⟩
 ·exact Lz3 (by rw[LzA];exact h)
 ·exact Lz3 (by rw[LzA];exact hi)
def zaq(w:World)(k:Nat):Bool:=match w.heap[k]? with|some (.cells _ _ _)=>true|_=>false
theorem zbz{w:World}{k:Nat}(h:zaq w k=true):∃arr e fr,w.heap[k]? = some (.cells arr e fr):=by
 unfold zaq at h;split at h
 ·rename_i arr e fr hx;exact⟨arr,e,fr,hx⟩
 ·cases h
theorem zhL{w:World}{k:Nat}(h:zaq w k=true):k<w.heap.size:=by
 obtain⟨arr,e,fr,hx⟩:=zbz h;exact(Lz7.1 hx).1
def idxA(a:Addr):List Addr→Nat
 | []=>0
 |x::l=>if x=a then 0 else idxA a l+1
theorem zdy{a:Addr}:∀{l:List Addr},a∈l→l[idxA a l]? = some a
 | [],h=>by cases h
 |x::l,h=>by
  unfold idxA;by_cases hx:x=a
  ·rw[if_pos hx,hx];rfl
  ·rw[if_neg hx];rcases List.mem_cons.1 h with h|h
   ·exact absurd h.symm hx
   ·rw[List.getElem?_cons_succ];exact zdy h
noncomputable def absV(w:World):Value→Option CVal
 | .bool b=>some (.bool b)
 | .int k n=>some (.int k n)
 | .string s=>some (.str s)
 | .pointer none=>some .nilp
 | .pointer (some a)=>bif decide (a.block<w.heap.size∧a.spot=none) then some (.ptr (bn a.block) a.off) else none
 | .slice none len cap=>bif decide (len=0∧cap=0) then some .nils else none
 | .slice (some a) len cap=>
  bif decide (zaq w a.block=true∧a.spot=none∧len≤cap) then some (.slc (bn a.block) a.off len cap true)
  else bif decide (len=0∧cap=0∧a∈odds w) then some (.slc (bn (w.heap.size+idxA a (odds w))) 0 0 0 true) else none
 | .map none=>some .nilm
 | .nilFunc=>some .nilf
 | .nilIface=>some .nili
 |_=>none
def φ0(w:World):Phi:=fun b=>
 if b.toNat<w.heap.size then⟨b.toNat,0,0,true,none⟩
 else match (odds w)[b.toNat-w.heap.size]? with|some a=>⟨a.block,a.off,0,true,a.spot⟩|none=>⟨b.toNat,0,0,true,none⟩
theorem qS{b:BN}(h:b.toNat<w.heap.size):φ0 w b=⟨b.toNat,0,0,true,none⟩:=if_pos h
theorem zor{i:Nat}{a:Addr}(h:(odds w)[i]? = some a):φ0 w (bn (w.heap.size+i))=⟨a.block,a.off,0,true,a.spot⟩:=by
 unfold φ0;rw[if_neg (by rw[zD];omega),zD,show w.heap.size+i-w.heap.size=i by omega,h]
theorem zgD(b:BN):(φ0 w b).ok=true:=by
 unfold φ0;split
 ·rfl
 ·split<;>rfl
noncomputable def roOf(w:World):Obj→AObj
 | .cells arr e fr=>.ro (some (.cells arr e fr)) (fun i=>(arr[i]?).bind (absV w))
 |_=>.dead
noncomputable def roAt(w:World)(k:Nat):AObj:=match w.heap[k]? with|some x=>roOf w x|none=>.dead
noncomputable def yp(w:World):AHeap:=⟨bn (w.heap.size+(odds w).length),Tr.ofList .z ((List.range w.heap.size).map (roAt w)++(odds w).map fun _=>.void) .nil⟩
theorem wi(b:BN):(yp w).t.get b=if b.toNat<w.heap.size then some (roAt w b.toNat) else if b.toNat<w.heap.size+(odds w).length then some .void else none:=by
 have e0:BN.z=bn 0:=rfl;show (Tr.ofList .z ((List.range w.heap.size).map (roAt w)++(odds w).map fun _=>.void) .nil).get b=_
 have:=wO ((List.range w.heap.size).map (roAt w)++(odds w).map fun _=>AObj.void) 0 (.nil:Tr AObj) b.toNat
 rw[zL,←e0]at this;rw[this];have hn:(Tr.nil:Tr AObj).get b=none:=by cases b<;>rfl
 rw[hn];by_cases hb:b.toNat<w.heap.size
 ·rw[if_pos hb,Lz2 (by simpa using hb)]
  simp[List.getElem?_range hb,hb]
 ·rw[if_neg hb];by_cases hb2:b.toNat<w.heap.size+(odds w).length
  ·rw[if_pos hb2,Lz8 (by simp;omega)]
   have:b.toNat-w.heap.size<(odds w).length:=by omega
   simp[Lz5 this]
  ·rw[if_neg hb2];simp;omega
theorem kP:(yp w).n.toNat=w.heap.size+(odds w).length:=zD _
theorem zab{b:BN}{arr:Array Value}{e:TypeId}{fr:Nat×Nat}(h:w.heap[b.toNat]? = some (.cells arr e fr)):(yp w).t.get b=some (roOf w (.cells arr e fr)):=by
 rw[wi,if_pos (Lz7.1 h).1];simp only[roAt,h]
theorem ziR{i:Nat}(h:i<(odds w).length):(yp w).t.get (bn (w.heap.size+i))=some .void:=by
 rw[wi,zD,if_neg (by omega),if_pos (by omega)]
theorem zoo{v:Value}{c:CVal}(h:absV w v=some c):zi (φ0 w) c=v∧wfC (φ0 w) (yp w).n.toNat c:=by
 rw[kP];unfold absV at h;split at h
 ·cases h;exact⟨rfl,trivial⟩
 ·cases h;exact⟨rfl,trivial⟩
 ·cases h;exact⟨rfl,trivial⟩
 ·cases h;exact⟨rfl,trivial⟩
 ·rename_i a;by_cases hc:a.block<w.heap.size∧a.spot=none
  ·rw[decide_eq_true hc]at h;cases h;obtain⟨b,off,sp⟩:=a;obtain⟨h1,rfl⟩:=hc;have hp:=qS w (b:=bn b) (by rw[zD];exact h1)
   refine⟨?_,by rw[zD];exact Lz9 h1 (Nat.le_add_right _ _),zgD w _⟩
   rw[zi,zhZ (by rw[hp]),hp,zD,Nat.zero_add]
  ·rw[decide_eq_false hc]at h;cases h
 ·rename_i len cap;by_cases hc:len=0∧cap=0
  ·rw[decide_eq_true hc]at h;cases h;obtain⟨rfl,rfl⟩:=hc;exact⟨rfl,trivial⟩
  ·rw[decide_eq_false hc]at h;cases h
 ·rename_i a len cap;by_cases hc:zaq w a.block=true∧a.spot=none∧len≤cap
  ·rw[decide_eq_true hc]at h;cases h;obtain⟨b,off,sp⟩:=a;obtain⟨h1,rfl,h3⟩:=hc;have h1:=zhL h1;have hp:=qS w (b:=bn b) (by rw[zD];exact h1)
   refine⟨?_,⟨by rw[zD];exact Lz9 h1 (Nat.le_add_right _ _),zgD w _⟩,fun hh=>(by cases hh),fun _=>h3⟩
   rw[zi,zhZ (by rw[hp]),hp,zD,Nat.zero_add,cond_true]
  ·rw[decide_eq_false hc,cond_false]at h;by_cases hc2:len=0∧cap=0∧a∈odds w
   ·rw[decide_eq_true hc2]at h;cases h;obtain⟨rfl,rfl,hm⟩:=hc2;have hi:=zdy hm;have hlt:=(Lz0.1 hi).1;have hp:=zor w hi;refine⟨?_,⟨by rw[zD];omega,zgD w _⟩,fun hh=>(by cases hh),fun _=>LzB _⟩
    rw[zi,cond_true];unfold adr;rw[hp];rfl
   ·rw[decide_eq_false hc2]at h;cases h
 ·cases h;exact⟨rfl,trivial⟩
 ·cases h;exact⟨rfl,trivial⟩
 ·cases h;exact⟨rfl,trivial⟩
 ·cases h
theorem zeN:HW (yp w):=fun b o hb=>by
 rw[wi]at hb;rw[kP];by_cases h:b.toNat<w.heap.size
 ·omega
 ·rw[if_neg h]at hb;by_cases h2:b.toNat<w.heap.size+(odds w).length
  ·exact h2
  ·rw[if_neg h2]at hb;cases hb
def SW(w:World)(k:Nat):Prop:=∃arr e fr,w.heap[k]? = some (.cells arr e fr)
theorem zaT{k:Nat}(hl:live (roAt w k)):∃arr e fr,w.heap[k]? = some (.cells arr e fr)∧roAt w k=roOf w (.cells arr e fr):=by
 unfold roAt at hl ⊢;split at hl
 ·rename_i x hx;cases x with
  |cells arr e fr=>exact⟨arr,e,fr,hx,by simp only⟩
  |_=>exact hl.elim
 ·exact hl.elim
theorem ziQ(hG:GOk w):HRel w (SW w) (φ0 w) (yp w) w:=by
 refine⟨zeN w,fun b o hb=>zgD w b,fun b o hb=>?_,fun b b' o o' hb hb' hl hl' hh=>?_,fun b o hb hl=>?_,rfl,rfl,rfl,LzB _,LzB _,fun _ _ _=>rfl,hG,fun b o hb hl=>?_,fun b o hb hl=>?_⟩
 ·rw[wi]at hb;by_cases hlt:b.toNat<w.heap.size
  ·rw[if_pos hlt]at hb;cases hb;have hp:=qS w hlt;by_cases hl:live (roAt w b.toNat)
   ·obtain⟨arr,e,fr,hx,hr⟩:=zaT w hl;rw[hr];refine⟨fun y hy=>by cases hy;rw[hp];exact hx,arr,e,fr,by rw[hp];exact hx,fun i c hc=>?_⟩
    replace hc:(arr[i]?).bind (absV w)=some c:=hc
    cases ha:arr[i]? with
    |none=>rw[ha]at hc;cases hc
    |some v=>
     rw[ha]at hc;obtain⟨k1,k2⟩:=zoo w hc;refine⟨?_,k2⟩;rw[hp,Nat.zero_add,ha,k1]
   ·generalize roAt w b.toNat=o at hl;cases o with
    |dead=>trivial
    |void=>trivial
    |_=>exact absurd trivial hl
  ·rw[if_neg hlt]at hb;by_cases h2:b.toNat<w.heap.size+(odds w).length
   ·rw[if_pos h2]at hb;cases hb;trivial
   ·rw[if_neg h2]at hb;cases hb
 ·have k1:=lt_live hb hl;have k2:=lt_live hb' hl';rw[qS w k1,qS w k2]at hh;have h2:b.toNat=b'.toNat:=hh;rw[←zL b,h2,zL]
 ·have k1:=lt_live hb hl;rw[qS w k1];rw[wi,if_pos k1]at hb;cases hb;obtain⟨arr,e,fr,h2,_⟩:=zaT w hl;exact .inl ⟨arr,e,fr,h2⟩
 ·rw[qS w (lt_live hb hl)]
 ·have k1:=lt_live hb hl.live;rw[wi,if_pos k1]at hb;cases hb;obtain⟨arr,e,fr,_,h2⟩:=zaT w hl.live;rw[h2]at hl;exact hl.elim
where
 lt_live {b:BN} {o:AObj} (hb:(yp w).t.get b=some o) (hl:live o):b.toNat<w.heap.size:=by
  rw[wi]at hb;by_cases hlt:b.toNat<w.heap.size
  ·exact hlt
  ·rw[if_neg hlt]at hb;by_cases h2:b.toNat<w.heap.size+(odds w).length
   ·rw[if_pos h2]at hb;cases hb;exact hl.elim
   ·rw[if_neg h2]at hb;cases hb
theorem zgr{P:Program}{call:zh}(C:y8 P call)(hG:GOk w){f:Nat}{args:List AVal}{v:AVal}{h2:AHeap}(ha:∀x∈args,wfA (φ0 w) (yp w).n.toNat x)(e:call (.inl f) args (yp w)=some (v,h2))(hg:Gr (yp w) h2):
  CallsIn (FR none) 0 P f (args.map (zp (φ0 w))).toArray w (fun e w2=>∃φ,e=.returned (zp φ v)∧Below w.heap.size w w2):=by
 refine ((C w _ _ _ w args v h2 (ziQ w hG) ha).1 f e).2.mono ?_
 rintro e9 w9 ⟨φ2,rfl,he,H2,_,_⟩
 refine⟨φ2,rfl,H2.os,H2.tape,H2.output,H2.size,fun k hk=>?_⟩
 by_cases hc:SW w k
 ·obtain⟨arr,e,fr,hc⟩:=hc;have hb:(yp w).t.get (bn k)=some (roOf w (.cells arr e fr)):=zab w (by rw[zD];exact hc)
  have hn:(bn k).toNat<(yp w).n.toNat:=by rw[kP,zD];omega
  have hb2:=(hg.old _ hn).trans hb;obtain⟨h1,_⟩:=H2.obj _ _ hb2;have h1:=h1 _ rfl;rw[he _ hn,qS w (by rw[zD];exact hk)]at h1
  have h1:w9.heap[(bn k).toNat]? = _:=h1;rw[zD]at h1;rw[h1,hc]
 ·exact H2.kept k hk hc
end
end Go.CE
end
section
namespace Go.CE
open Go Go.ChangeShapes Go.WideShapes Go.ChangeAt Go.RowKit
theorem zhR{w:World}{b off:Nat}{v:Value}(h:w.cell? ⟨b,off,none⟩=some v):∃arr e fr,w.heap[b]? = some (.cells arr e fr)∧arr[off]? = some v:=by
 unfold World.cell? at h;cases hx:w.heap[b]? with
 |none=>simp[hx]at h
 |some x=>
  cases x with
  |cells arr e fr=>refine⟨arr,e,fr,rfl,?_⟩;simpa[hx] using h
  |_=>simp[hx]at h
def litI(k:IntKind)(n:Nat):DataW Unit:=.lit (.int k (n:Int))
theorem zeJ{P:Program}{w:World}{nm:String}{g:Nat}{t e:TypeId}{n:Nat}{k:IntKind}{ns:List Nat}{cs:Array Value}{fuel:Nat}{q:List MemPlace}
  (hg:P.globalNamed nm=some g) (ht:P.underlying t=some (.array n e)) (he:P.underlying e=some (.int k)) (hc:P.cellsOf e=1) (hv:w.var? P nm=some cs)
  (h:DataW.trod (fun _=>()) P w 0 (fun _=>true) false fuel t cs.toList=some (.agg (ns.map (litI k)),q)) {off m:Nat} (hm:ns[off]? = some m):
  ∃arr ty fr,w.heap[g]? = some (.cells arr ty fr)∧arr[off]? = some (.int k (m:Int)):=by
 obtain⟨xs,m1,rfl,hx1,hlen,hn,hel⟩:=DataW.trod_array ht h;simp only[Prod.mk.injEq,DataW.agg.injEq]at hx1;have hxl:xs.length=ns.length:=by have:=congrArg List.length hx1.1;simpa using this.symm
 have hoff:off<ns.length:=(Lz0.1 hm).1;have h0:=hel off (by omega)
 obtain⟨x,hx⟩:∃x,xs[off]? = some x:=⟨_,Lz5 (by omega)⟩
 rw[hx,hc,Nat.mul_one]at h0;obtain⟨r,e1,e2,_⟩:=DataW.trod_int he h0;have e3:x.1=litI k m:=by
  have h1:(xs.map (·.1))[off]? = some x.1:=by rw[Lz6,hx];rfl
  rw[←hx1.1,Lz6,hm]at h1;exact(Option.some.inj h1).symm
 have hr:r=(m:Int):=by rw[e2]at e3;simpa[litI] using e3
 subst hr;have h2:cs.toList[off]? = some (.int k (m:Int)):=by
  have:((cs.toList.drop off).take 1)[0]? = some (.int k (m:Int)):=by rw[e1];rfl
  rw[List.getElem?_take,if_pos (by decide),List.getElem?_drop]at this
  exact this
 refine zhR ?_;rw[World.var?_cell hg hv off,←LzA];exact h2
theorem zhe:∀(l:List Nat) (i:Nat),nthN l i=l[i]?
 | [],i=>by simp[nthN]
 |x::l,0=>rfl
 |x::l,i+1=>by show nthN l i=_;rw[zhe l i];simp
theorem zob{w:World}{g:Nat}{k:IntKind}{ns:List Nat}(hg:kT g=some (k,ns))(H:∀(off m:Nat),ns[off]? = some m→∃arr ty fr,w.heap[g]? = some (.cells arr ty fr)∧arr[off]? = some (.int k (m:Int)))
  {off:Nat} {c:CVal} (h:zbW g off=some c):∃arr e fr,w.heap[g]? = some (.cells arr e fr)∧∀φ,arr[off]? = some (zi φ c):=by
 unfold zbW at h;rw[hg]at h;simp only[zhe]at h;cases hm:ns[off]? with
 |none=>rw[hm]at h;cases h
 |some m=>
  rw[hm]at h;cases h;obtain⟨arr,ty,fr,h1,h2⟩:=H off m hm;exact⟨arr,ty,fr,h1,fun φ=>h2⟩
end Go.CE
end
section
namespace Go.PE
open Go Go.CE
inductive DV where
 |bool (b:Bool)
 |int (k:IntKind) (n:Int)
 |str (s:ByteArray)
 |nils
 |lst (st:Nat) (xs:List (List DV))
 |fp (xs:List DV) (off:Nat)
 |fn (f:Nat) (caps:List (List DV))
 |nilf
 |nilp
 |nilm
 |nili
 |u
inductive DS where
 |one (d:DV)
 |agg (ds:List DV)
inductive DA where
 |s (d:DS)
 |tup (l:List DS)
def DS.cells:DS→List DV
 | .one d=>[d]
 | .agg ds=>ds
inductive Rep (fz:BN→Prop) (h:AHeap):CVal→DV→Prop
 |bool (b:Bool):Rep fz h (.bool b) (.bool b)
 |int (k:IntKind) (n:Int):Rep fz h (.int k n) (.int k n)
 |str (s:ByteArray):Rep fz h (.str s) (.str s)
 |nils:Rep fz h .nils .nils
 |nilf:Rep fz h .nilf .nilf
 |nilp:Rep fz h .nilp .nilp
 |nilm:Rep fz h .nilm .nilm
 |nili:Rep fz h .nili .nili
 |u (c:CVal):Rep fz h c .u
 |lst {b:BN} {o:AObj} {off cap:Nat} {ex:Bool} {st:Nat} {xs:List (List DV)} (cs:List CVal) (hb:fz b) (hg:h.t.get b=some o) (hc:ex=true→xs.length≤cap)
   (ha:rd (xs.length*st) off o=some cs) (h1:∀(i:Nat) (x:List DV),xs[i]? = some x→x.length=st)
   (h2:∀(i:Nat) (x:List DV) (j:Nat) (c:CVal) (d:DV),xs[i]? = some x→cs[i*st+j]? = some c→x[j]? = some d→Rep fz h c d):Rep fz h (.slc b off xs.length cap ex) (.lst st xs)
 |fp {b:BN} {o:AObj} {base:Nat} {xs:List DV} {off:Nat} (cs:List CVal) (hb:fz b) (hg:h.t.get b=some o) (h1:rd xs.length base o=some cs)
   (h2:∀(j:Nat) (c:CVal) (d:DV),cs[j]? = some c→xs[j]? = some d→Rep fz h c d):Rep fz h (.ptr b (base+off)) (.fp xs off)
 |fn {f:Nat} {ps:List (BN×Nat)} {caps:List (List DV)} (css:Nat→List CVal) (os:Nat→AObj) (hl:ps.length=caps.length)
   (h1:∀(i:Nat) (p:BN×Nat) (x:List DV),ps[i]? = some p→caps[i]? = some x→fz p.1∧h.t.get p.1=some (os i)∧rd x.length p.2 (os i)=some (css i))
   (h2:∀(i:Nat) (p:BN×Nat) (x:List DV) (j:Nat) (c:CVal) (d:DV),ps[i]? = some p→caps[i]? = some x→(css i)[j]? = some c→x[j]? = some d→Rep fz h c d):Rep fz h (.fn f ps) (.fn f caps)
structure FG (fz:BN→Prop) (h:AHeap) (fz':BN→Prop) (h':AHeap):Prop where
 sub:∀b o,fz b→h.t.get b=some o→fz' b
 old:∀b o,fz b→h.t.get b=some o→h'.t.get b=some o
theorem FG.refl(fz:BN→Prop)(h:AHeap):FG fz h fz h:=⟨fun _ _ h _=>h,fun _ _ _ h=>h⟩
theorem FG.trans{f1 f2 f3:BN→Prop}{h1 h2 h3:AHeap}(a:FG f1 h1 f2 h2)(b:FG f2 h2 f3 h3):FG f1 h1 f3 h3:=⟨fun x o hx ho=>b.sub x o (a.sub x o hx ho) (a.old x o hx ho),fun x o hx ho=>b.old x o (a.sub x o hx ho) (a.old x o hx ho)⟩
theorem Rep.mono{fz fz':BN→Prop}{h h':AHeap}(g:FG fz h fz' h'){c:CVal}{d:DV}(H:Rep fz h c d):Rep fz' h' c d:=by
 induction H with
 |bool b=>exact .bool b
 |int k n=>exact .int k n
 |str s=>exact .str s
 |nils=>exact .nils
 |nilf=>exact .nilf
 |nilp=>exact .nilp
 |nilm=>exact .nilm
 |nili=>exact .nili
 |u c=>exact .u c
 |lst cs hb hg hc ha h1 h2 ih=>exact .lst cs (g.sub _ _ hb hg) (g.old _ _ hb hg) hc ha h1 ih
 |fp cs hb hg h1 h2 ih=>exact .fp cs (g.sub _ _ hb hg) (g.old _ _ hb hg) h1 ih
 |fn css os hl h1 h2 ih=>exact .fn css os hl (fun i p x hp hx=>by obtain⟨a,b,c⟩:=h1 i p x hp hx;exact⟨g.sub _ _ a b,g.old _ _ a b,c⟩) ih
def RepL(fz:BN→Prop)(h:AHeap)(cs:List CVal)(ds:List DV):Prop:=cs.length=ds.length∧∀(j:Nat) (c:CVal) (d:DV),cs[j]? = some c→ds[j]? = some d→Rep fz h c d
theorem RepL.mono{fz fz':BN→Prop}{h h':AHeap}(g:FG fz h fz' h'){cs:List CVal}{ds:List DV}(H:RepL fz h cs ds):RepL fz' h' cs ds:=⟨H.1,fun j c d a b=>(H.2 j c d a b).mono g⟩
theorem RepL.nil(fz:BN→Prop)(h:AHeap):RepL fz h [] []:=⟨rfl,fun j c d a=>by simp at a⟩
theorem RepL.cons{fz:BN→Prop}{h:AHeap}{c:CVal}{d:DV}{cs:List CVal}{ds:List DV}(a:Rep fz h c d)(b:RepL fz h cs ds):RepL fz h (c::cs) (d::ds):=by
 refine⟨by simp[b.1],fun j c' d' hc hd=>?_⟩
 cases j with
 |zero=>simp only[List.getElem?_cons_zero,Option.some.injEq]at hc hd;subst hc;subst hd;exact a
 |succ j=>simp only[List.getElem?_cons_succ]at hc hd;exact b.2 j c' d' hc hd
theorem RepL.inv{fz:BN→Prop}{h:AHeap}{c:CVal}{d:DV}{cs:List CVal}{ds:List DV}(H:RepL fz h (c::cs) (d::ds)):Rep fz h c d∧RepL fz h cs ds:=
 ⟨H.2 0 c d rfl rfl,by have:=H.1;simp at this;exact this,fun j c' d' hc hd=>H.2 (j+1) c' d' (by simpa using hc) (by simpa using hd)⟩
theorem RepL.app{fz:BN→Prop}{h:AHeap}{cs cs':List CVal}{ds ds':List DV}(a:RepL fz h cs ds)(b:RepL fz h cs' ds'):RepL fz h (cs++cs') (ds++ds'):=by
 refine⟨by simp[a.1,b.1],fun j c d hc hd=>?_⟩
 by_cases hj:j<cs.length
 ·rw[Lz2 hj]at hc;rw[Lz2 (by have:=a.1;omega)]at hd
  exact a.2 j c d hc hd
 ·rw[Lz8 (by omega)]at hc
  rw[Lz8 (by have:=a.1;omega),←a.1]at hd
  exact b.2 _ c d hc hd
theorem RepL.sub{fz:BN→Prop}{h:AHeap}{cs:List CVal}{ds:List DV}(a:RepL fz h cs ds)(i n:Nat):RepL fz h ((cs.drop i).take n) ((ds.drop i).take n):=by
 refine⟨by simp[a.1],fun j c d hc hd=>?_⟩
 rw[List.getElem?_take]at hc hd;split at hc
 ·rename_i hj;rw[if_pos hj]at hd;rw[List.getElem?_drop]at hc hd;exact a.2 _ c d hc hd
 ·cases hc
theorem RepL.set{fz:BN→Prop}{h:AHeap}{cs cs':List CVal}{ds ds':List DV}(a:RepL fz h cs ds)(b:RepL fz h cs' ds')(i:Nat):
  RepL fz h (cs.take i++cs'++cs.drop (i+cs'.length)) (ds.take i++ds'++ds.drop (i+ds'.length)):=by
 have h1:RepL fz h (cs.take i) (ds.take i):=by simpa using a.sub 0 i
 have h2:RepL fz h (cs.drop (i+cs'.length)) (ds.drop (i+ds'.length)):=by
  have:=a.sub (i+cs'.length) (cs.length-(i+cs'.length));rw[b.1]at this ⊢;have e1:List.take (cs.length-(i+ds'.length)) (List.drop (i+ds'.length) cs)=List.drop (i+ds'.length) cs:=List.take_of_length_le (by simp)
  have e2:List.take (cs.length-(i+ds'.length)) (List.drop (i+ds'.length) ds)=List.drop (i+ds'.length) ds:=List.take_of_length_le (by simp[a.1])
  rwa [e1,e2]at this
 exact(h1.app b).app h2
def RepS(fz:BN→Prop)(h:AHeap):SVal→DS→Prop
 | .one c,.one d=>Rep fz h c d
 | .agg cs,.agg ds=>RepL fz h cs ds
 |_,_=>False
theorem RepS.mono{fz fz':BN→Prop}{h h':AHeap}(g:FG fz h fz' h'){c:SVal}{d:DS}(H:RepS fz h c d):RepS fz' h' c d:=by
 cases c<;>cases d<;>simp only[RepS]at H ⊢
 ·exact H.mono g
 ·exact H.mono g
def RepSL(fz:BN→Prop)(h:AHeap):List SVal→List DS→Prop
 | [],[]=>True
 |c::cs,d::ds=>RepS fz h c d∧RepSL fz h cs ds
 |_,_=>False
theorem RepSL.mono{fz fz':BN→Prop}{h h':AHeap}(g:FG fz h fz' h'):∀{c:List SVal} {d:List DS},RepSL fz h c d→RepSL fz' h' c d
 | [],[],_=>trivial
 |_::_,_::_,H=>⟨H.1.mono g,RepSL.mono g H.2⟩
 | [],_::_,H=>H.elim
 |_::_,[],H=>H.elim
def RepA(fz:BN→Prop)(h:AHeap):AVal→DA→Prop
 | .s c,.s d=>RepS fz h c d
 | .tup cs,.tup ds=>RepSL fz h cs ds
 |_,_=>False
theorem RepA.of{fz:BN→Prop}{h:AHeap}{c:SVal}{d:DS}(H:RepS fz h c d):RepA fz h (.s c) (.s d):=H
theorem RepA.inv{fz:BN→Prop}{h:AHeap}{v:AVal}{d:DS}(H:RepA fz h v (.s d)):∃w,v=.s w∧RepS fz h w d:=by
 cases v with
 |s v=>exact⟨_,rfl,H⟩
 |tup l=>exact H.elim
theorem RepA.mono{fz fz':BN→Prop}{h h':AHeap}(g:FG fz h fz' h'){c:AVal}{d:DA}(H:RepA fz h c d):RepA fz' h' c d:=by
 cases d with
 |s d=>
  obtain⟨w,rfl,hw⟩:=H.inv;exact .of (hw.mono g)
 |tup ds=>
  cases c with
  |s c=>exact H.elim
  |tup cs=>exact RepSL.mono g H
def RepAL(fz:BN→Prop)(h:AHeap):List AVal→List DA→Prop
 | [],[]=>True
 |c::cs,d::ds=>RepA fz h c d∧RepAL fz h cs ds
 |_,_=>False
theorem RepAL.mono{fz fz':BN→Prop}{h h':AHeap}(g:FG fz h fz' h'):∀{c:List AVal} {d:List DA},RepAL fz h c d→RepAL fz' h' c d
 | [],[],_=>trivial
 |_::_,_::_,H=>⟨H.1.mono g,RepAL.mono g H.2⟩
 | [],_::_,H=>H.elim
 |_::_,[],H=>H.elim
theorem RepAL.app{fz:BN→Prop}{h:AHeap}:∀{c c':List AVal} {d d':List DA},RepAL fz h c d→RepAL fz h c' d'→RepAL fz h (c++c') (d++d')
 | [],_,[],_,_,H=>H
 |_::_,_,_::_,_,H,K=>⟨H.1,RepAL.app H.2 K⟩
 | [],_,_::_,_,H,_=>H.elim
 |_::_,_,[],_,H,_=>H.elim
theorem zbB:∀(cs:List CVal) (n i:Nat),i+n≤cs.length→cut n cs i=some ((cs.drop i).take n):=by
 have tk:∀(n:Nat) (cs:List CVal),n≤cs.length→takeN n cs=some (cs.take n):=by
  intro n
  induction n with
  |zero=>intro cs _;simp[takeN]
  |succ n ih=>
   intro cs h;cases cs with
   |nil=>simp at h
   |cons c cs=>simp only[takeN,ih cs (by simpa using h),xW,List.take_succ_cons]
 intro cs
 induction cs with
 |nil=>intro n i h;simp at h;obtain⟨rfl,rfl⟩:=h;rfl
 |cons c cs ih=>
  intro n i h;cases i with
  |zero=>
   show takeN n (c::cs)=_;rw[tk n _ (by simpa using h)]
   rfl
  |succ i=>
   show cut n cs i=_;rw[ih n i (by simp at h;omega)]
   rfl
theorem zgk{f:Nat→Option CVal}:∀{n i:Nat} {l:List CVal},l.length=n→(∀j c,l[j]? = some c→f (i+j)=some c)→cutF f n i=some l:=by
 intro n
 induction n with
 |zero=>intro i l hl _;rw[List.length_eq_zero_iff.1 hl];rfl
 |succ n ih=>
  intro i l hl H;cases l with
  |nil=>simp at hl
  |cons c l=>
   have h0:=H 0 c rfl;simp only[Nat.add_zero]at h0;have h1:=ih (i:=i+1) (l:=l) (by simpa using hl) (fun j d hd=>by have:=H (j+1) d (by simpa using hd);rw[←this];congr 1;omega)
   simp only[cutF,h0];show xW c (cutF f n (i+1))=_;rw[h1];rfl
theorem zc8{n off:Nat}{cs:List CVal}(h:rd n off .void=some cs):n=0∧cs=[]:=by
 have h:(bif Nat.beq n 0 then some [] else none)=some cs:=h
 cases hn:Nat.beq n 0 with
 |true=>rw[hn]at h;cases h;exact⟨Lz1 hn,rfl⟩
 |false=>rw[hn]at h;cases h
theorem zce{n off:Nat}{o:AObj}{cs:List CVal}(h:rd n off o=some cs):cs.length=n:=by
 cases o with
 |void=>obtain⟨rfl,rfl⟩:=zc8 h;rfl
 |cells l st=>exact(qF h).1
 |ro x f=>exact(qb h).1
 |_=>cases h
theorem zcd{n base:Nat}{o:AObj}{cs:List CVal}(h:rd n base o=some cs){off m:Nat}(hm:off+m≤n):rd m (base+off) o=some ((cs.drop off).take m):=by
 cases o with
 |void=>
  obtain⟨rfl,rfl⟩:=zc8 h;have:m=0:=by omega
  subst this;simp[rd]
 |cells l st=>
  obtain⟨rfl,h2⟩:=zhM n l base cs h;show cut m l (base+off)=_;rw[zbB l m (base+off) (by omega)]
  congr 1
  rw[List.drop_take,List.drop_drop,List.take_take]
  congr 1
  omega
 |ro x f=>
  obtain⟨h1,h2⟩:=qb h;refine zgk (by simp;omega) fun j c hc=>?_
  rw[List.getElem?_take]at hc;split at hc
  ·rw[List.getElem?_drop]at hc;rw[Nat.add_assoc];exact h2 _ c hc
  ·cases hc
 |_=>cases h
theorem zoU{n off:Nat}{o:AObj}{cs:List CVal}(h':AHeap)(h:rd n off o=some cs)(h0:n≠0∨o≠.void):loadAt (some n) h' off (some o)=some (.s (.agg cs),h'):=by
 cases o with
 |void=>
  obtain⟨rfl,_⟩:=zc8 h;rcases h0 with h0|h0<;>exact absurd rfl h0
 |cells l st=>show retA h' (cut n l off)=_;rw[show cut n l off=some cs from h];rfl
 |ro x f=>show retA h' (cutF f n off)=_;rw[show cutF f n off=some cs from h];rfl
 |_=>cases h
theorem zmE{n base:Nat}{o:AObj}{cs:List CVal}(h':AHeap)(h:rd n base o=some cs){off:Nat}{c:CVal}(hc:cs[off]? = some c):loadAt none h' (base+off) (some o)=some (.s (.one c),h'):=by
 have hl:=(Lz0.1 hc).1;have e:=zcd h (off:=off) (m:=1) (by have:=zce h;omega)
 refine zqZ (e.trans ?_)
 congr 1
 rw[List.take_one,List.head?_drop,hc];rfl
def DV.scal:DV→Option CVal
 | .bool b=>some (.bool b)
 | .int k n=>some (.int k n)
 | .str s=>some (.str s)
 | .nils=>some .nils
 | .nilf=>some .nilf
 | .nilp=>some .nilp
 | .nilm=>some .nilm
 | .nili=>some .nili
 |_=>none
theorem Rep.scal{fz:BN→Prop}{h:AHeap}{c:CVal}{d:DV}(H:Rep fz h c d){c':CVal}(e:d.scal=some c'):c=c':=by
 cases H<;>simp only[DV.scal]at e<;>first|cases e;rfl|cases e
theorem Rep.ofScal{fz:BN→Prop}{h:AHeap}{d:DV}{c:CVal}(e:d.scal=some c):Rep fz h c d:=by
 cases d<;>simp only[DV.scal]at e<;>cases e
 ·exact .bool _
 ·exact .int _ _
 ·exact .str _
 ·exact .nils
 ·exact .nilf
 ·exact .nilp
 ·exact .nilm
 ·exact .nili
theorem Rep.lst_inv{fz:BN→Prop}{h:AHeap}{c:CVal}{st:Nat}{xs:List (List DV)}(H:Rep fz h c (.lst st xs)):
  ∃b o off cap ex cs,c=.slc b off xs.length cap ex∧fz b∧h.t.get b=some o∧(ex=true→xs.length≤cap)∧rd (xs.length*st) off o=some cs∧
   ∀(i:Nat) (x:List DV),xs[i]? = some x→x.length=st∧RepL fz h ((cs.drop (i*st)).take st) x:=by
 cases H with
 |lst cs hb hg hc ha h1 h2=>
  refine⟨_,_,_,_,_,cs,rfl,hb,hg,hc,ha,fun i x hx=>⟨h1 i x hx,?_,fun j c d hc hd=>?_⟩⟩
  ·have hi:=(Lz0.1 hx).1;have:(i+1)*st≤xs.length*st:=Nat.mul_le_mul_right st hi;rw[Nat.succ_mul]at this;have hl:=zce ha;simp only[List.length_take,List.length_drop,h1 i x hx];omega
  ·rw[List.getElem?_take]at hc;split at hc
   ·rw[List.getElem?_drop]at hc;exact h2 i x j c d hx hc hd
   ·cases hc
theorem Rep.lst_mk{fz:BN→Prop}{h:AHeap}{b:BN}{o:AObj}{off cap:Nat}{ex:Bool}{st:Nat}{xs:List (List DV)}{cs:List CVal}(hb:fz b)(hg:h.t.get b=some o)(hc:ex=true→xs.length≤cap)
  (ha:rd (xs.length*st) off o=some cs) (H:∀(i:Nat) (x:List DV),xs[i]? = some x→x.length=st∧RepL fz h ((cs.drop (i*st)).take st) x):Rep fz h (.slc b off xs.length cap ex) (.lst st xs):=by
 refine .lst cs hb hg hc ha (fun i x hx=>(H i x hx).1) (fun i x j c d hx hcs hd=>(H i x hx).2.2 j c d ?_ hd)
 have hj:=(Lz0.1 hd).1;rw[List.getElem?_take,if_pos (by have:=(H i x hx).1;omega),List.getElem?_drop]
 exact hcs
theorem Rep.fp_inv{fz:BN→Prop}{h:AHeap}{c:CVal}{xs:List DV}{off:Nat}(H:Rep fz h c (.fp xs off)):
  ∃b o base cs,c=.ptr b (base+off)∧fz b∧h.t.get b=some o∧rd xs.length base o=some cs∧RepL fz h cs xs:=by
 cases H with
 |fp cs hb hg h1 h2=>exact⟨_,_,_,cs,rfl,hb,hg,h1,zce h1,h2⟩
theorem Rep.fp_mk{fz:BN→Prop}{h:AHeap}{b:BN}{o:AObj}{base:Nat}{cs:List CVal}{xs:List DV}{off:Nat}(hb:fz b)(hg:h.t.get b=some o)(h1:rd xs.length base o=some cs)(h2:RepL fz h cs xs):
  Rep fz h (.ptr b (base+off)) (.fp xs off):=.fp cs hb hg h1 h2.2
theorem Rep.fn_inv{fz:BN→Prop}{h:AHeap}{c:CVal}{f:Nat}{caps:List (List DV)}(H:Rep fz h c (.fn f caps)):
  ∃ps,c=.fn f ps∧RepL fz h (ps.map fun p=>.ptr p.1 p.2) (caps.map fun x=>.fp x 0):=by
 cases H with
 |fn css os hl h1 h2=>
  refine⟨_,rfl,by simp[hl],fun j c d hc hd=>?_⟩
  simp only[Lz6,Option.map_eq_some_iff]at hc hd;obtain⟨p,hp,rfl⟩:=hc;obtain⟨x,hx,rfl⟩:=hd;obtain⟨a,b,c⟩:=h1 j p x hp hx;exact .fp (base:=p.2) (off:=0) (css j) a b c (fun i c d hc hd=>h2 j p x i c d hp hx hc hd)
theorem Rep.fn_mk{fz:BN→Prop}{h:AHeap}{f:Nat}{ps:List (BN×Nat)}{caps:List (List DV)}(H:RepL fz h (ps.map fun p=>.ptr p.1 p.2) (caps.map fun x=>.fp x 0)):Rep fz h (.fn f ps) (.fn f caps):=by
 have hl:ps.length=caps.length:=by simpa using H.1
 have:∀i:Nat,∃q:List CVal×AObj,∀(p:BN×Nat) (x:List DV),ps[i]? = some p→caps[i]? = some x→fz p.1∧h.t.get p.1=some q.2∧rd x.length p.2 q.2=some q.1∧RepL fz h q.1 x:=by
  intro i;cases hp:ps[i]? with
  |none=>exact⟨([],.dead),fun p x hp'=>by cases hp'⟩
  |some p=>
   cases hx:caps[i]? with
   |none=>exact⟨([],.dead),fun p x _ hx'=>by cases hx'⟩
   |some x=>
    have:=H.2 i (.ptr p.1 p.2) (.fp x 0) (by simp[hp]) (by simp[hx])
    obtain⟨b,o,base,cs,e,a1,a2,a3,a4⟩:=this.fp_inv;simp only[CVal.ptr.injEq,Nat.add_zero]at e;obtain⟨rfl,rfl⟩:=e;exact⟨(cs,o),fun p' x' hp' hx'=>by cases hp';cases hx';exact⟨a1,a2,a3,a4⟩⟩
 obtain⟨q,hq⟩:=Classical.axiomOfChoice this;exact .fn (fun i=>(q i).1) (fun i=>(q i).2) hl (fun i p x hp hx=>⟨(hq i p x hp hx).1,(hq i p x hp hx).2.1,(hq i p x hp hx).2.2.1⟩) (fun i p x j c d hp hx hc hd=>(hq i p x hp hx).2.2.2.2 j c d hc hd)
end Go.PE
end
section
namespace Go.PE
open Go Go.CE
def shC:SVal→Nat
 | .one _=>0
 | .agg cs=>Nat.succ cs.length
def zsT(k v:SVal):Nat:=Nat.add 1048576 (Nat.add (Nat.mul (shC k) 1024) (shC v))
inductive KOp where
 |mv (x:Operand)
 |pick (c a b:Operand)
 |alloc (zs:List CVal)
 |box (x:Operand)
 |build (zs:List CVal) (parts:List (Nat×Nat×Operand))
 |bslice (st len:Nat) (zs:List CVal) (parts:List (Nat×Nat×Operand))
 |load (n:Option Nat) (x:Operand)
 |store (n:Nat) (x v:Operand)
 |nilck (x:Operand)
 |bin (op:BinOp) (x y:Operand)
 |shift (left:Bool) (x y:Operand)
 |str (op:BinOp) (x y:Operand)
 |nilS (neg:Bool) (x y:Operand)
 |eq (ks:Nat⊕List Nat) (neg:Bool) (x y:Operand)
 |not (x:Operand)
 |neg (x:Operand)
 |conv (k:IntKind) (x:Operand)
 |b2s (x:Operand)
 |s2b (x:Operand)
 |mkfn (f:Nat) (caps:List Operand)
 |mkmap (st:Nat)
 |mkslice (st:Nat) (zs:List CVal) (bytes:Nat) (l c:Operand)
 |slice (st:Nat) (x:Operand) (lo hi mx:Option Operand)
 |sslice (x:Operand) (lo hi:Option Operand)
 |foff (x:Operand) (off:Nat)
 |field (x:Operand) (off:Nat) (n:Option Nat)
 |ixs (st:Nat) (x i:Operand)
 |ixarr (len st:Nat) (x i:Operand)
 |ixagg (len st:Nat) (n:Option Nat) (x i:Operand)
 |ixstr (x i:Operand)
 |lookup (q:Nat⊕List Nat) (z:SVal) (ok:Bool) (m k:Operand)
 |mupd (q:Nat⊕List Nat) (m k v:Operand)
 |extract (x:Operand) (i:Nat)
 |lenS (x:Operand)
 |lenL (x:Operand)
 |lenM (x:Operand)
 |append (st bytes:Nat) (s x:Operand)
 |minmax (m:Bool) (x:Operand) (xs:List Operand)
 |clear (st:Nat) (zs:List CVal) (x:Operand)
 |call (f:Operand) (args:List Operand)
section
variable (P:Program)
def zcB(fs:Array Field):List (Nat×Operand)→Option (List (Nat×Nat×Operand))
 | []=>some []
 |(i,x)::r=>
  match fs[i]?,zcB fs r with
  |some f,some rest=>
   match P.info? f.type with
   |some info=>some ((f.offset,info.size,x)::rest)
   |none=>none
  |_,_=>none
def zah(size:Nat):List (Nat×Operand)→List (Nat×Nat×Operand)
 | []=>[]
 |(i,x)::r=>(i*size,size,x)::zah size r
def comp(o:Op):Option KOp:=
 match o with
 | .move x=>some (.mv x)
 | .assign x=>some (.mv x)
 | .pick c a b=>some (.pick c a b)
 | .alloc t=>bif kN P t then none else(match z9 P t with|some z=>some (.alloc z.cells)|none=>none)
 | .box _ x=>some (.box x)
 | .build t parts=>
  match P.underlying t,z9 P t with
  |some (.struct fs),some z=>bif j9 P fs.toList then(match zcB P fs parts.toList with|some l=>some (.build z.cells l)|none=>none) else none
  |some (.array _ e),some z=>
   match P.info? e with
   |some i=>some (.build z.cells (zah i.size parts.toList))
   |none=>none
  |_,_=>none
 | .buildSlice t len parts=>
  match P.underlying t with
  |some (.slice e)=>
   match P.info? e with
   |some i=>
    bif Nat.ble (len*i.size) 16777216 then
     match (bif Nat.beq (len*i.size) 0 then some [] else(z9 P e).map SVal.cells) with
     |some zs=>bif Nat.beq (len*i.size) 0||Nat.beq zs.length i.size then some (.bslice i.size len (repl zs len) (zah i.size parts.toList)) else none
     |none=>none
    else none
   |none=>none
  |_=>none
 | .load t x=>match xN P t with|some n=>some (.load n x)|none=>none
 | .store t x v=>match P.info? t with|some i=>some (.store i.size x v)|none=>none
 | .nilCheck x=>some (.nilck x)
 | .binOp op t x y _=>
  match P.underlying t with
  |some (.int _)=>
   match op with
   | .shl=>some (.shift true x y)
   | .shr=>some (.shift false x y)
   |op=>some (.bin op x y)
  |some .string=>some (.str op x y)
  |some (.slice _)=>
   match op with
   | .eql=>some (.nilS false x y)
   | .neq=>some (.nilS true x y)
   |_=>none
  |some (.struct _)=>
   bif P.eqGuardType P.depth t then none else
   match op,keyT P t with
   | .eql,some q=>some (.eq q false x y)
   | .neq,some q=>some (.eq q true x y)
   |_,_=>none
  |some .bool=>
   bif P.eqGuardType P.depth t then none else
   match op,keyT P t with
   | .eql,some q=>some (.eq q false x y)
   | .neq,some q=>some (.eq q true x y)
   |_,_=>none
  |_=>none
 | .unOp .not _ x=>some (.not x)
 | .unOp .neg _ x=>some (.neg x)
 | .convert s d x=>
  match P.underlying s,P.underlying d with
  |some (.int _),some (.int k)=>some (.conv k x)
  |some (.slice e),some .string=>bif yE P e then some (.b2s x) else none
  |some .string,some (.slice e)=>bif yE P e then some (.s2b x) else none
  |_,_=>none
 | .makeFunc (.func f) first captured=>bif first.isEmpty then some (.mkfn f captured.toList) else none
 | .makeMap t none=>
  match P.underlying t with
  |some (.map key e)=>match z9 P key,z9 P e with|some zk,some ze=>some (.mkmap (zsT zk ze))|_,_=>none
  |_=>none
 | .makeSlice t l c=>
  match P.underlying t with
  |some (.slice e)=>
   match P.info? e,z9 P e with
   |some i,some z=>bif Nat.beq z.cells.length i.size && !Nat.beq i.size 0 then some (.mkslice i.size z.cells i.bytes l c) else none
   |_,_=>none
  |_=>none
 | .slice t x lo hi mx=>
  match P.underlying t with
  |some (.slice e)=>
   match P.info? e with
   |some i=>bif mx.isSome && !hi.isSome then none else some (.slice i.size x lo hi mx)
   |none=>none
  |some .string=>bif mx.isSome then none else some (.sslice x lo hi)
  |_=>none
 | .fieldAddr t x f=>
  match P.underlying t with
  |some (.struct fs)=>
   match fs[f]? with
   |some fd=>
    match P.info? fd.type with
    |some i=>bif Nat.beq i.size 0 then none else some (.foff x fd.offset)
    |none=>none
   |none=>none
  |_=>none
 | .field t x f=>
  match P.underlying t with
  |some (.struct fs)=>
   match fs[f]? with
   |some fd=>match xN P fd.type with|some n=>some (.field x fd.offset n)|none=>none
   |none=>none
  |_=>none
 | .indexAddr t x i=>
  match P.underlying t with
  |some (.slice e)=>
   match P.info? e with
   |some info=>some (.ixs info.size x i)
   |none=>none
  |some (.array len e)=>
   match P.info? e with
   |some info=>some (.ixarr len info.size x i)
   |none=>none
  |_=>none
 | .index t x i=>
  match P.underlying t with
  |some (.array len e)=>
   match P.info? e,xN P e with
   |some info,some n=>some (.ixagg len info.size n x i)
   |_,_=>none
  |some .string=>some (.ixstr x i)
  |_=>none
 | .lookup t m k ok=>
  match P.underlying t with
  |some (.map key e)=>match keyT P key,z9 P e with|some q,some z=>some (.lookup q z ok m k)|_,_=>none
  |_=>none
 | .mapUpdate t m k v=>
  match P.underlying t with
  |some (.map key _)=>match keyT P key with|some q=>some (.mupd q m k v)|none=>none
  |_=>none
 | .extract x i=>some (.extract x i)
 | .call c=>
  match c.callee with
  | .value f=>bif Nat.beq (jX P f) 0 then some (.call f c.args.toList) else none
  | .builtin .len=>
   match c.argTypes[0]?,c.args[0]? with
   |some t,some x=>
    match P.underlying t with
    |some .string=>some (.lenS x)
    |some (.slice _)=>some (.lenL x)
    |some (.map _ _)=>some (.lenM x)
    |_=>none
   |_,_=>none
  | .builtin .append=>
   match c.argTypes.toList,c.args.toList with
   | [t,t2],[s,x]=>
    match P.underlying t with
    |some (.slice e)=>
     match P.info? e,z9 P e with
     |some i,some z=>
      bif Nat.beq z.cells.length i.size && !Nat.beq i.size 0 then
       match P.underlying t2 with
       |some (.slice _)=>bif yE P e&&Nat.beq i.size 1 then none else some (.append i.size i.bytes s x)
       |_=>none
      else none
     |_,_=>none
    |_=>none
   |_,_=>none
  | .builtin .clear=>
   match c.argTypes[0]?,c.args[0]? with
   |some t,some x=>
    match P.underlying t with
    |some (.slice e)=>
     match P.info? e,z9 P e with
     |some i,some z=>bif Nat.beq z.cells.length i.size && !Nat.beq i.size 0 then some (.clear i.size z.cells x) else none
     |_,_=>none
    |_=>none
   |_,_=>none
  | .builtin .max=>
   match c.args.toList with
   |x::xs=>some (.minmax true x xs)
   |_=>none
  | .builtin .min=>
   match c.args.toList with
   |x::xs=>some (.minmax false x xs)
   |_=>none
  |_=>none
 |_=>none
end
def kv(r:Fr):Operand→Option AVal
 | .tmp t=>some (r t)
 | .const v=>match cVal v with|some s=>some (.s s)|none=>none
 | .func f=>some (.s (.one (.fn f [])))
 | .global g=>match kT g with|some _=>some (.s (.one (.gptr g 0)))|none=>none
theorem ym(r:Fr)(x:Operand):coK r x=(kv r x).map zr:=by
 cases x with
 |tmp t=>rfl
 |const v=>simp only[coK,kv];cases cVal v<;>rfl
 |func f=>rfl
 |global g=>simp only[coK,kv];cases kT g<;>rfl
def kvs(r:Fr):List Operand→Option (List AVal)
 | []=>some []
 |x::xs=>
  match kv r x,kvs r xs with
  |some y,some ys=>some (y::ys)
  |_,_=>none
theorem ja(r:Fr):∀l:List Operand,jK (coK r) l=(kvs r l).map (·.map zr)
 | []=>rfl
 |x::l=>by
  simp only[jK,kvs,ym,ja r l];cases kv r x<;>cases kvs r l<;>rfl
def kvo(r:Fr):Option Operand→Option (Option AVal)
 |none=>some none
 |some x=>match kv r x with|some y=>some (some y)|none=>none
theorem zhT(r:Fr)(x:Option Operand):qL (coK r) x=(kvo r x).map (·.map zr):=by
 cases x with
 |none=>rfl
 |some x=>simp only[qL,kvo,ym];cases kv r x<;>rfl
def kvp(r:Fr):List (Nat×Nat×Operand)→Option (List (Nat×Nat×AVal))
 | []=>some []
 |(a,b,x)::l=>
  match kv r x,kvp r l with
  |some y,some ys=>some ((a,b,y)::ys)
  |_,_=>none
theorem zby(r:Fr)(n:Nat):∀l:List (Nat×Operand),xU (coK r) n l=(kvp r (zah n l)).map cP
 | []=>rfl
 |(i,x)::l=>by
  simp only[xU,zah,kvp,ym,zby r n l];cases kv r x<;>cases kvp r (zah n l)<;>rfl
theorem zeU(P:Program)(r:Fr)(fs:Array Field):∀(l:List (Nat×Operand)) (q:List (Nat×Nat×Operand)),zcB P fs l=some q→xR P (coK r) fs l=(kvp r q).map cP
 | [],q,h=>by cases h;rfl
 |(i,x)::l,q,h=>by
  simp only[zcB]at h;cases hf:fs[i]? with
  |none=>rw[hf]at h;cases h
  |some f=>
   cases hl:zcB P fs l with
   |none=>rw[hf,hl]at h;cases h
   |some rest=>
    rw[hf,hl]at h;simp only at h;cases hi:P.info? f.type with
    |none=>rw[hi]at h;cases h
    |some info=>
     rw[hi]at h;cases h;simp only[xR,kvp,hf,ym,zeU P r fs l rest hl];cases kv r x with
     |none=>rfl
     |some y=>
      cases kvp r rest with
      |none=>rfl
      |some ys=>simp only[Option.map_some,hi];rfl
def zC(x:Option AVal)(k:AVal→Res):Res:=match x with|some v=>k v|none=>none
noncomputable def runK(r:Fr)(o:KOp)(call:zh)(h:AHeap):Res:=
 match o with
 | .mv x=>zC (kv r x) fun x=>some (x,h)
 | .pick c a b=>zC (kv r c) fun c=>zC (kv r a) fun a=>zC (kv r b) fun b=>zmd c a b h
 | .alloc zs=>zqv zs h
 | .box x=>zC (kv r x) fun x=>vBox x h
 | .build zs parts=>match kvp r parts with|some l=>zjf zs l h|none=>none
 | .bslice st len zs parts=>match kvp r parts with|some l=>zox st len zs l h|none=>none
 | .load n x=>zC (kv r x) fun x=>zmg n x h
 | .store n x v=>zC (kv r x) fun x=>zC (kv r v) fun v=>zqt n x v h
 | .nilck x=>zC (kv r x) fun x=>zgI x h
 | .bin op x y=>zC (kv r x) fun x=>zC (kv r y) fun y=>vInt (vK op) x y h
 | .shift l x y=>zC (kv r x) fun x=>zC (kv r y) fun y=>zgH (bif l then zdG else zdF) x y h
 | .str op x y=>zC (kv r x) fun x=>zC (kv r y) fun y=>vStr op x y h
 | .nilS n x y=>zC (kv r x) fun x=>zC (kv r y) fun y=>zjd n x y h
 | .eq q n x y=>zC (kv r x) fun x=>zC (kv r y) fun y=>vEq q n x y h
 | .not x=>zC (kv r x) fun x=>vNot x h
 | .neg x=>zC (kv r x) fun x=>vNeg x h
 | .conv k x=>zC (kv r x) fun x=>zmj k x h
 | .b2s x=>zC (kv r x) fun x=>kH (zr x) yh .nil h
 | .s2b x=>zC (kv r x) fun x=>ziy (zr x) yh .nil h
 | .mkfn f caps=>match kvs r caps with|some l=>zmf f l h|none=>none
 | .mkmap _=>zqu h
 | .mkslice st zs bytes l c=>zC (kv r l) fun l=>zC (kv r c) fun c=>zme st zs bytes l c h
 | .slice st x lo hi mx=>zC (kv r x) fun x=>match kvo r lo,kvo r hi,kvo r mx with|some lo,some hi,some mx=>ux st x lo hi mx h|_,_,_=>none
 | .sslice x lo hi=>zC (kv r x) fun x=>match kvo r lo,kvo r hi with|some lo,some hi=>zcT x lo hi h|_,_=>none
 | .foff x off=>zC (kv r x) fun x=>zmi x off h
 | .field x off n=>zC (kv r x) fun x=>zgM x off n h
 | .ixs st x i=>zC (kv r x) fun x=>zC (kv r i) fun i=>vIxs st x i h
 | .ixarr len st x i=>zC (kv r x) fun x=>zC (kv r i) fun i=>zgK len st x i h
 | .ixagg len st n x i=>zC (kv r x) fun x=>zC (kv r i) fun i=>zgL len st n x i h
 | .ixstr x i=>zC (kv r x) fun x=>zC (kv r i) fun i=>zgJ x i h
 | .lookup q z ok m k=>zC (kv r m) fun m=>zC (kv r k) fun k=>zow q z ok m k h
 | .mupd q m k v=>zC (kv r m) fun m=>zC (kv r k) fun k=>zC (kv r v) fun v=>zsp q m k v h
 | .extract x i=>zC (kv r x) fun x=>zas x i h
 | .lenS x=>zC (kv r x) fun x=>zmh x h
 | .lenL x=>zC (kv r x) fun x=>zje x h
 | .lenM x=>zC (kv r x) fun x=>zsq x h
 | .append st bytes s x=>zC (kv r s) fun s=>zC (kv r x) fun x=>zoy false st bytes s x h
 | .minmax m x xs=>zC (kv r x) fun x=>match kvs r xs with|some l=>zcU m x l h|none=>none
 | .clear st zs x=>zC (kv r x) fun x=>znO st zs x h
 | .call f args=>zC (kv r f) fun f=>match kvs r args with|some l=>zss call f l h|none=>none
theorem zct(P:Program)(r:Fr){o:Op}{ko:KOp}(call:zh)(h:AHeap)(e:comp P o=some ko):cOpG P (coK r) o call .nil h=runK r ko call h:=by
 unfold comp at e;cases o with
 |move x=>cases e;simp only[cOpG,ym,runK];cases kv r x<;>rfl
 |assign x=>cases e;simp only[cOpG,ym,runK];cases kv r x<;>rfl
 |pick c a b=>cases e;simp only[cOpG,ym,runK];cases kv r c<;>cases kv r a<;>cases kv r b<;>rfl
 |alloc t=>
  simp only at e;cases hb:kN P t with
  |true=>rw[hb]at e;cases e
  |false=>
   cases hz:z9 P t with
   |none=>rw[hb,hz]at e;cases e
   |some z=>rw[hb,hz]at e;cases e;simp only[cOpG,hb,hz,runK];rfl
 |box t x=>cases e;simp only[cOpG,ym,runK];cases kv r x<;>rfl
 |build t parts=>
  simp only at e;split at e
  ·rename_i fs z hu hz;cases ha:j9 P fs.toList with
   |false=>rw[ha]at e;cases e
   |true=>
    rw[ha]at e;cases hf:zcB P fs parts.toList with
    |none=>rw[hf]at e;cases e
    |some l=>
     rw[hf]at e;cases e;simp only[cOpG,hu,hz,ha,cond_true,zeU P r fs _ _ hf,runK];cases kvp r l<;>rfl
  ·rename_i n e' z hu hz;split at e
   ·rename_i i hi;cases e;simp only[cOpG,hu,hz,hi,zby,runK];cases kvp r (zah i.size parts.toList)<;>rfl
   ·cases e
  ·cases e
 |buildSlice t len parts=>
  simp only at e;split at e
  ·rename_i e' hu;split at e
   ·rename_i i hi;cases hl:Nat.ble (len*i.size) 16777216 with
    |false=>rw[hl]at e;cases e
    |true=>
     rw[hl]at e;simp only[cond_true]at e;split at e
     ·rename_i zs hzs;cases hc:(Nat.beq (len*i.size) 0||Nat.beq zs.length i.size) with
      |false=>rw[hc]at e;cases e
      |true=>
       rw[hc]at e;cases e;simp only[cOpG,hu,hi,hl,cond_true,hzs,hc,zby,runK];cases kvp r (zah i.size parts.toList)<;>rfl
     ·cases e
   ·cases e
  ·cases e
 |load t x=>
  simp only at e;cases hs:xN P t with
  |none=>rw[hs]at e;cases e
  |some n=>rw[hs]at e;cases e;simp only[cOpG,hs,ym,runK];cases kv r x<;>rfl
 |store t x v=>
  simp only at e;cases hs:P.info? t with
  |none=>rw[hs]at e;cases e
  |some i=>rw[hs]at e;cases e;simp only[cOpG,hs,ym,runK];cases kv r x<;>cases kv r v<;>rfl
 |nilCheck x=>cases e;simp only[cOpG,ym,runK];cases kv r x<;>rfl
 |binOp op t x y p=>
  simp only at e;split at e
  ·rename_i hu;simp only[cOpG,hu];split at e<;>cases e<;>simp only[ym,runK]<;>cases kv r x<;>cases kv r y<;>rfl
  ·rename_i hu;cases e;simp only[cOpG,hu,ym,runK];cases kv r x<;>cases kv r y<;>rfl
  ·rename_i hu;simp only[cOpG,hu];split at e<;>cases e<;>simp only[ym,runK]<;>cases kv r x<;>cases kv r y<;>rfl
  ·rename_i fs hu;cases hg:P.eqGuardType P.depth t with
   |true=>rw[hg]at e;cases e
   |false=>
    rw[hg]at e;simp only[cond_false]at e;split at e
    ·rename_i q hk;cases e;simp only[cOpG,hu,hg,cond_false,hk,ym,runK];cases kv r x<;>cases kv r y<;>rfl
    ·rename_i q hk;cases e;simp only[cOpG,hu,hg,cond_false,hk,ym,runK];cases kv r x<;>cases kv r y<;>rfl
    ·cases e
  ·rename_i hu;cases hg:P.eqGuardType P.depth t with
   |true=>rw[hg]at e;cases e
   |false=>
    rw[hg]at e;simp only[cond_false]at e;split at e
    ·rename_i q hk;cases e;simp only[cOpG,hu,hg,cond_false,hk,ym,runK];cases kv r x<;>cases kv r y<;>rfl
    ·rename_i q hk;cases e;simp only[cOpG,hu,hg,cond_false,hk,ym,runK];cases kv r x<;>cases kv r y<;>rfl
    ·cases e
  ·cases e
 |unOp u t x=>
  cases u<;>first|cases e|skip
  ·simp only[cOpG,ym,runK];cases kv r x<;>rfl
  ·simp only[cOpG,ym,runK];cases kv r x<;>rfl
 |convert s d x=>
  simp only at e;split at e
  ·rename_i k hs hd;cases e;simp only[cOpG,hs,hd,ym,runK];cases kv r x<;>rfl
  ·rename_i el hs hd;cases hb:yE P el with
   |false=>rw[hb]at e;cases e
   |true=>rw[hb]at e;cases e;simp only[cOpG,hs,hd,hb,cond_true,ym,runK];cases kv r x<;>rfl
  ·rename_i el hs hd;cases hb:yE P el with
   |false=>rw[hb]at e;cases e
   |true=>rw[hb]at e;cases e;simp only[cOpG,hs,hd,hb,cond_true,ym,runK];cases kv r x<;>rfl
  ·cases e
 |makeFunc f first captured=>
  cases f with
  |func f=>
   simp only at e;cases hf:first.isEmpty with
   |false=>rw[hf]at e;cases e
   |true=>rw[hf]at e;cases e;simp only[cOpG,hf,cond_true,ja,runK];cases kvs r captured.toList<;>rfl
  |_=>cases e
 |makeMap t n=>
  cases n with
  |none=>
   simp only at e;split at e
   ·split at e
    ·cases e;rfl
    ·cases e
   ·cases e
  |some n=>cases e
 |makeSlice t l c=>
  simp only at e;split at e
  ·rename_i el hu;split at e
   ·rename_i i z hi hz;cases hc:(Nat.beq z.cells.length i.size && !Nat.beq i.size 0) with
    |false=>rw[hc]at e;cases e
    |true=>rw[hc]at e;cases e;simp only[cOpG,hu,hi,hz,hc,cond_true,ym,runK];cases kv r l<;>cases kv r c<;>rfl
   ·cases e
  ·cases e
 |slice t x lo hi mx=>
  simp only at e;split at e
  ·rename_i el hu;split at e
   ·rename_i i hi';cases hc:(mx.isSome && !hi.isSome) with
    |true=>rw[hc]at e;cases e
    |false=>rw[hc]at e;cases e;simp only[cOpG,hu,hi',hc,cond_false,ym,zhT,runK];cases kv r x<;>rcases kvo r lo with _|(_|_)<;>rcases kvo r hi with _|(_|_)<;>rcases kvo r mx with _|(_|_)<;>rfl
   ·cases e
  ·rename_i hu;cases hc:mx.isSome with
   |true=>rw[hc]at e;cases e
   |false=>rw[hc]at e;cases e;simp only[cOpG,hu,hc,cond_false,ym,zhT,runK];cases kv r x<;>rcases kvo r lo with _|(_|_)<;>rcases kvo r hi with _|(_|_)<;>rfl
  ·cases e
 |fieldAddr t x f=>
  simp only at e;split at e
  ·rename_i fs hu;split at e
   ·rename_i fd hf;split at e
    ·rename_i i hi;cases hc:Nat.beq i.size 0 with
     |true=>rw[hc]at e;cases e
     |false=>rw[hc]at e;cases e;simp only[cOpG,hu,hf,hi,hc,cond_false,ym,runK];cases kv r x<;>rfl
    ·cases e
   ·cases e
  ·cases e
 |field t x f=>
  simp only at e;split at e
  ·rename_i fs hu;split at e
   ·rename_i fd hf;split at e
    ·rename_i n hn;cases e;simp only[cOpG,hu,hf,hn,ym,runK];cases kv r x<;>rfl
    ·cases e
   ·cases e
  ·cases e
 |indexAddr t x i=>
  simp only at e;split at e
  ·rename_i el hu;split at e
   ·rename_i info hi;cases e;simp only[cOpG,hu,hi,ym,runK];cases kv r x<;>cases kv r i<;>rfl
   ·cases e
  ·rename_i len el hu;split at e
   ·rename_i info hi;cases e;simp only[cOpG,hu,hi,ym,runK];cases kv r x<;>cases kv r i<;>rfl
   ·cases e
  ·cases e
 |index t x i=>
  simp only at e;split at e
  ·rename_i len el hu;split at e
   ·rename_i info n hi hn;cases e;simp only[cOpG,hu,hi,hn,ym,runK];cases kv r x<;>cases kv r i<;>rfl
   ·cases e
  ·rename_i hu;cases e;simp only[cOpG,hu,ym,runK];cases kv r x<;>cases kv r i<;>rfl
  ·cases e
 |lookup t m k ok=>
  simp only at e;split at e
  ·rename_i key el hu;split at e
   ·rename_i q z hq hz;cases e;simp only[cOpG,hu,hq,hz,ym,runK];cases kv r m<;>cases kv r k<;>rfl
   ·cases e
  ·cases e
 |mapUpdate t m k v=>
  simp only at e;split at e
  ·rename_i key el hu;split at e
   ·rename_i q hq;cases e;simp only[cOpG,hu,hq,ym,runK];cases kv r m<;>cases kv r k<;>cases kv r v<;>rfl
   ·cases e
  ·cases e
 |extract x i=>cases e;simp only[cOpG,ym,runK];cases kv r x<;>rfl
 |call c=>
  simp only at e;split at e
  ·rename_i f hc;cases hx:Nat.beq (jX P f) 0 with
   |false=>rw[hx]at e;cases e
   |true=>
    rw[hx]at e;cases e;simp only[cOpG,hc,hx,cond_true,ym,ja,runK];cases kv r f<;>cases kvs r c.args.toList<;>rfl
  ·rename_i hc;split at e
   ·rename_i t x ht hx;simp only[cOpG,hc,ht,hx];split at e
    ·rename_i hu;cases e;simp only[hu,ym,runK];cases kv r x<;>rfl
    ·rename_i el hu;cases e;simp only[hu,ym,runK];cases kv r x<;>rfl
    ·rename_i k el hu;cases e;simp only[hu,ym,runK];cases kv r x<;>rfl
    ·cases e
   ·cases e
  ·rename_i hc;split at e
   ·rename_i t t2 s x ht hx;simp only[cOpG,hc,ht,hx];split at e
    ·rename_i el hu;split at e
     ·rename_i i z hi hz;cases hb:(Nat.beq z.cells.length i.size && !Nat.beq i.size 0) with
      |false=>rw[hb]at e;cases e
      |true=>
       rw[hb]at e;simp only[cond_true]at e;split at e
       ·rename_i e2 hu2;cases hB:(yE P el&&Nat.beq i.size 1) with
        |true=>rw[hB]at e;cases e
        |false=>
         rw[hB]at e;cases e;simp only[hu,hi,hz,hb,cond_true,hu2,hB,cond_false,ym,runK];cases kv r s<;>cases kv r x<;>rfl
       ·cases e
     ·cases e
    ·cases e
   ·cases e
  ·rename_i hc;split at e
   ·rename_i t x ht hx;simp only[cOpG,hc,ht,hx];split at e
    ·rename_i el hu;split at e
     ·rename_i i z hi hz;cases hb:(Nat.beq z.cells.length i.size && !Nat.beq i.size 0) with
      |false=>rw[hb]at e;cases e
      |true=>rw[hb]at e;cases e;simp only[hu,hi,hz,hb,cond_true,ym,runK];cases kv r x<;>rfl
     ·cases e
    ·cases e
   ·cases e
  ·rename_i hc;split at e
   ·rename_i x xs hx;cases e;simp only[cOpG,hc,hx,ja,kvs,runK];cases kv r x<;>cases kvs r xs<;>rfl
   ·cases e
  ·rename_i hc;split at e
   ·rename_i x xs hx;cases e;simp only[cOpG,hc,hx,ja,kvs,runK];cases kv r x<;>cases kvs r xs<;>rfl
   ·cases e
  ·cases e
 |_=>cases e
end Go.PE
end
section
namespace Go.PE
open Go Go.CE
inductive PC where
 |d (v:DV)
 |own (k:Nat)
 |ptr (k off:Nat)
 |ep (k st i off:Nat)
 |ip (k off len st i o:Nat)
 |vw (k st lo len:Nat)
 |clo (f:Nat) (caps:List (Nat⊕List DV))
inductive PV where
 |one (c:PC)
 |agg (cs:List PC)
inductive PA where
 |s (v:PV)
 |tup (l:List DS)
 |bad
 |undef
def PV.cells:PV→List PC
 | .one c=>[c]
 | .agg cs=>cs
abbrev OC:=Option (List (List DV))
def mkL(st:Nat):OC→DV
 |none=>.nils
 |some xs=>.lst st xs
inductive PO where
 |box (cs:List PC)
 |arr (st:Nat) (v:OC)
 |frz (v:DV)
 |fbox (ds:List DV)
 |mp (st:Nat) (xs:List (List DV))
 |dead
def og:List PO→Nat→PO
 | [],_=>.dead
 |o::l,k=>bif Nat.beq k 0 then o else og l (Nat.sub k 1)
def oset(o:PO):List PO→Nat→List PO
 | [],_=>[]
 |x::l,k=>bif Nat.beq k 0 then o::l else x::oset o l (Nat.sub k 1)
theorem qi(k:Nat):Nat.beq (k+1) 0=false:=rfl
theorem zdl:∀(l:List PO) (k:Nat),og l k=(l[k]?).getD .dead
 | [],k=>by simp[og]
 |o::l,0=>by simp[og]
 |o::l,k+1=>by
  have:=zdl l k;simp only[og,qi,cond_false,List.getElem?_cons_succ];exact this
theorem yK(o:PO):∀(l:List PO) (k:Nat),(oset o l k).length=l.length
 | [],k=>rfl
 |x::l,0=>rfl
 |x::l,k+1=>by
  have:=yK o l k;show ((x::oset o l k)).length=_;simp[this]
theorem yy(o:PO):∀(l:List PO) (k j:Nat),og (oset o l k) j=if j=k∧k<l.length then o else og l j
 | [],k,j=>by simp[oset,og]
 |x::l,0,j=>by
  cases j with
  |zero=>simp[oset,og]
  |succ j=>simp[oset,og,qi]
 |x::l,k+1,j=>by
  show og (x::oset o l k) j=_;cases j with
  |zero=>simp[og]
  |succ j=>
   have:=yy o l k j;show og (oset o l k) j=_;rw[this];show _=if j+1=k+1∧k+1<(x::l).length then o else og l j
   simp
theorem zet:∀(l:List PO) (k:Nat),oset (og l k) l k=l
 | [],_=>rfl
 |x::l,0=>rfl
 |x::l,k+1=>by
  show x::oset (og l k) l k=_;rw[zet l k]
theorem wC(l:List PO)(o:PO)(j:Nat):og (l++[o]) j=if j=l.length then o else og l j:=by
 rw[zdl,zdl];by_cases h:j<l.length
 ·rw[Lz2 h,if_neg (by omega)]
 ·rw[Lz8 (by omega)]
  by_cases h2:j=l.length
  ·subst h2;simp
  ·rw[if_neg h2];have h3:j-l.length≠0:=by omega
   obtain⟨m,hm⟩:=Nat.exists_eq_succ_of_ne_zero h3;rw[hm];simp;rw[List.getElem?_eq_none (by omega)]
   rfl
theorem zey{l:List PO}{k:Nat}(h:og l k≠.dead):k<l.length:=by
 rw[zdl]at h;by_cases hk:k<l.length
 ·exact hk
 ·exact absurd (by rw[List.getElem?_eq_none (by omega)];rfl) h
def blk:CVal→Option BN
 | .ptr b _=>some b
 | .slc b _ _ _ _=>some b
 | .map b=>some b
 |_=>none
def shN(n:Nat):Option Nat:=match n with|0=>none|n+1=>some n
def shK(st:Nat):Option Nat:=shN (Nat.mod (Nat.div st 1024) 1024)
def shV(st:Nat):Option Nat:=shN (Nat.mod st 1024)
def zqE:Option Nat→Nat
 |none=>1
 |some n=>n
def atD:List DV→Nat→DV
 | [],_=>.u
 |d::l,i=>bif Nat.beq i 0 then d else atD l (Nat.sub i 1)
def exp(x:List DV):Nat→Nat→List DV
 |0,_=>[]
 |n+1,i=>atD x i::exp x n (Nat.succ i)
def shD(sh:Option Nat)(x:List DV)(i:Nat):DS:=
 match sh with
 |none=>.one (atD x i)
 |some n=>.agg (exp x n i)
def kD(st:Nat)(x:List DV):DS:=shD (shK st) x 0
def vD(st:Nat)(x:List DV):DS:=shD (shV st) x (zqE (shK st))
structure Nm where
 μ:Nat→CVal
 n:Nat
 fz:BN→Prop
 h:AHeap
def RepCap(N:Nm):BN×Nat→Nat⊕List DV→Prop
 |p,.inl k=>k<N.n∧N.μ k=.ptr p.1 0∧p.2=0
 |p,.inr xs=>Rep N.fz N.h (.ptr p.1 p.2) (.fp xs 0)
def RepCaps(N:Nm):List (BN×Nat)→List (Nat⊕List DV)→Prop
 | [],[]=>True
 |p::ps,x::xs=>RepCap N p x∧RepCaps N ps xs
 |_,_=>False
def RepPC(N:Nm)(c:CVal):PC→Prop
 | .d v=>Rep N.fz N.h c v
 | .own k=>k<N.n∧c=N.μ k
 | .ptr k off=>k<N.n∧∃b,N.μ k=.ptr b 0∧c=.ptr b off
 | .ep k st i off=>k<N.n∧∃b l cap ex,N.μ k=.slc b 0 l cap ex∧c=.ptr b (i*st+off)∧i<l
 | .ip k off len st i o=>k<N.n∧∃b,N.μ k=.ptr b 0∧c=.ptr b (off+i*st+o)∧i<len
 | .vw k st lo len=>k<N.n∧((N.μ k=.nils∧c=.nils∧lo=0∧len=0)∨∃b l cap ex cap' ex',N.μ k=.slc b 0 l cap ex∧c=.slc b (lo*st) len cap' ex'∧lo+len≤l∧(ex'=true→len≤cap'))
 | .clo f caps=>∃ps,c=.fn f ps∧RepCaps N ps caps
def RepPL(N:Nm):List CVal→List PC→Prop
 | [],[]=>True
 |c::cs,p::ps=>RepPC N c p∧RepPL N cs ps
 |_,_=>False
def RepPV(N:Nm):SVal→PV→Prop
 | .one c,.one p=>RepPC N c p
 | .agg cs,.agg ps=>RepPL N cs ps
 |_,_=>False
def RepPA(N:Nm):AVal→PA→Prop
 |_,.bad=>True
 |v,.undef=>v=z7
 | .s v,.s p=>RepPV N v p
 | .tup l,.tup ds=>RepSL N.fz N.h l ds
 |_,_=>False
theorem RepPA.bad{N:Nm}(v:AVal):RepPA N v .bad:=by cases v<;>trivial
theorem RepPA.of{N:Nm}{v:SVal}{p:PV}(H:RepPV N v p):RepPA N (.s v) (.s p):=H
theorem RepPA.inv{N:Nm}{v:AVal}{p:PV}(H:RepPA N v (.s p)):∃w,v=.s w∧RepPV N w p:=by
 cases v with
 |s v=>exact⟨_,rfl,H⟩
 |tup l=>exact H.elim
def RepO(N:Nm)(k:Nat):PO→Prop
 | .box cs=>∃b vs,N.μ k=.ptr b 0∧¬N.fz b∧N.h.t.get b=some (.cells vs 0)∧RepPL N vs cs
 | .arr _ none=>N.μ k=.nils
 | .arr st (some xs)=>∃b vs ex,N.μ k=.slc b 0 xs.length (bif ex then xs.length else 0) ex∧¬N.fz b∧N.h.t.get b=some (.cells vs st)∧vs.length=xs.length*st∧
   ∀(i:Nat) (x:List DV),xs[i]? = some x→x.length=st∧RepL N.fz N.h ((vs.drop (i*st)).take st) x
 | .frz v=>Rep N.fz N.h (N.μ k) v
 | .fbox ds=>∃b,N.μ k=.ptr b 0∧Rep N.fz N.h (.ptr b 0) (.fp ds 0)
 | .mp st xs=>∃b es,N.μ k=.map b∧¬N.fz b∧N.h.t.get b=some (.map es)∧es.length=xs.length∧
   ∀(i:Nat) (e:SVal×SVal) (x:List DV),es[i]? = some e→xs[i]? = some x→RepS N.fz N.h e.1 (kD st x)∧RepS N.fz N.h e.2 (vD st x)
 | .dead=>True
def live:PO→Prop
 | .box _=>True
 | .arr _ (some _)=>True
 | .mp _ _=>True
 |_=>False
structure Nx (N N':Nm):Prop where
 fg:FG N.fz N.h N'.fz N'.h
 le:N.n≤N'.n
 mu:∀k,k<N.n→N'.μ k=N.μ k
theorem Nx.refl(N:Nm):Nx N N:=⟨FG.refl _ _,LzB _,fun _ _=>rfl⟩
theorem Nx.trans{A B C:Nm}(a:Nx A B)(b:Nx B C):Nx A C:=⟨a.fg.trans b.fg,Nat.le_trans a.le b.le,fun k hk=>(b.mu k (Lz9 hk a.le)).trans (a.mu k hk)⟩
section
variable {N N':Nm} (g:Nx N N')
include g
theorem RepCap.mono{p:BN×Nat}{x:Nat⊕List DV}(H:RepCap N p x):RepCap N' p x:=by
 cases x with
 |inl k=>exact⟨Lz9 H.1 g.le,(g.mu k H.1).trans H.2.1,H.2.2⟩
 |inr xs=>exact Rep.mono g.fg H
theorem RepCaps.mono:∀{ps:List (BN×Nat)} {xs:List (Nat⊕List DV)},RepCaps N ps xs→RepCaps N' ps xs
 | [],[],_=>trivial
 |_::_,_::_,H=>⟨RepCap.mono g H.1,RepCaps.mono H.2⟩
 | [],_::_,H=>H.elim
 |_::_,[],H=>H.elim
theorem RepPC.mono{c:CVal}{p:PC}(H:RepPC N c p):RepPC N' c p:=by
 cases p with
 |d v=>exact Rep.mono g.fg H
 |own k=>exact⟨Lz9 H.1 g.le,H.2.trans (g.mu k H.1).symm⟩
 |ptr k off=>obtain⟨h1,b,h2,h3⟩:=H;exact⟨Lz9 h1 g.le,b,(g.mu k h1).trans h2,h3⟩
 |ep k st i off=>obtain⟨h1,b,l,cap,ex,h2,h3,h4⟩:=H;exact⟨Lz9 h1 g.le,b,l,cap,ex,(g.mu k h1).trans h2,h3,h4⟩
 |ip k off len st i o=>obtain⟨h1,b,h2,h3,h4⟩:=H;exact⟨Lz9 h1 g.le,b,(g.mu k h1).trans h2,h3,h4⟩
 |vw k st lo len=>obtain⟨h1,h⟩:=H;exact⟨Lz9 h1 g.le,by rw[g.mu k h1];exact h⟩
 |clo f caps=>obtain⟨ps,h1,h2⟩:=H;exact⟨ps,h1,RepCaps.mono g h2⟩
theorem RepPL.mono:∀{cs:List CVal} {ps:List PC},RepPL N cs ps→RepPL N' cs ps
 | [],[],_=>trivial
 |_::_,_::_,H=>⟨RepPC.mono g H.1,RepPL.mono H.2⟩
 | [],_::_,H=>H.elim
 |_::_,[],H=>H.elim
theorem RepPV.mono{v:SVal}{p:PV}(H:RepPV N v p):RepPV N' v p:=by
 cases v<;>cases p<;>simp only[RepPV]at H ⊢
 ·exact RepPC.mono g H
 ·exact RepPL.mono g H
theorem RepPA.mono{v:AVal}{p:PA}(H:RepPA N v p):RepPA N' v p:=by
 cases p with
 |bad=>exact .bad v
 |undef=>cases v<;>exact H
 |s p=>
  obtain⟨w,rfl,h⟩:=H.inv;exact .of (RepPV.mono g h)
 |tup ds=>
  cases v with
  |s v=>exact H.elim
  |tup l=>exact RepSL.mono g.fg H
end
theorem RepPL.len{N:Nm}:∀{cs:List CVal} {ps:List PC},RepPL N cs ps→cs.length=ps.length
 | [],[],_=>rfl
 |_::_,_::_,H=>by simp[RepPL.len H.2]
 | [],_::_,H=>H.elim
 |_::_,[],H=>H.elim
theorem RepPL.get{N:Nm}:∀{cs:List CVal} {ps:List PC},RepPL N cs ps→∀{j:Nat} {c:CVal} {p:PC},cs[j]? = some c→ps[j]? = some p→RepPC N c p
 | [],[],_,j,c,p,hc,_=>by simp at hc
 |c0::cs,p0::ps,H,j,c,p,hc,hp=>by
  cases j with
  |zero=>simp only[List.getElem?_cons_zero,Option.some.injEq]at hc hp;subst hc;subst hp;exact H.1
  |succ j=>exact RepPL.get H.2 (j:=j) (by simpa using hc) (by simpa using hp)
 | [],_::_,H,_,_,_,_,_=>H.elim
 |_::_,[],H,_,_,_,_,_=>H.elim
theorem RepPL.of{N:Nm}:∀{cs:List CVal} {ps:List PC},cs.length=ps.length→(∀(j:Nat) (c:CVal) (p:PC),cs[j]? = some c→ps[j]? = some p→RepPC N c p)→RepPL N cs ps
 | [],[],_,_=>trivial
 |c::cs,p::ps,hl,H=>⟨H 0 c p rfl rfl,RepPL.of (by simpa using hl) fun j c p hc hp=>H (j+1) c p (by simpa using hc) (by simpa using hp)⟩
 | [],_::_,hl,_=>by simp at hl
 |_::_,[],hl,_=>by simp at hl
theorem RepPL.app{N:Nm}:∀{cs cs':List CVal} {ps ps':List PC},RepPL N cs ps→RepPL N cs' ps'→RepPL N (cs++cs') (ps++ps')
 | [],_,[],_,_,H=>H
 |_::_,_,_::_,_,H,K=>⟨H.1,RepPL.app H.2 K⟩
 | [],_,_::_,_,H,_=>H.elim
 |_::_,_,[],_,H,_=>H.elim
theorem RepPL.take{N:Nm}:∀{cs:List CVal} {ps:List PC} (n:Nat),RepPL N cs ps→RepPL N (cs.take n) (ps.take n)
 |_,_,0,_=>by simp[RepPL]
 | [],[],n+1,_=>by simp[RepPL]
 |_::_,_::_,n+1,H=>⟨H.1,RepPL.take n H.2⟩
 | [],_::_,_+1,H=>H.elim
 |_::_,[],_+1,H=>H.elim
theorem RepPL.drop{N:Nm}:∀{cs:List CVal} {ps:List PC} (n:Nat),RepPL N cs ps→RepPL N (cs.drop n) (ps.drop n)
 |_,_,0,H=>H
 | [],[],n+1,_=>by simp[RepPL]
 |_::_,_::_,n+1,H=>RepPL.drop n H.2
 | [],_::_,_+1,H=>H.elim
 |_::_,[],_+1,H=>H.elim
theorem RepPL.ofD{N:Nm}{cs:List CVal}{ds:List DV}(H:RepL N.fz N.h cs ds):RepPL N cs (ds.map .d):=
 RepPL.of (by simp[H.1]) fun j c p hc hp=>by
  simp only[Lz6,Option.map_eq_some_iff]at hp;obtain⟨d,hd,rfl⟩:=hp;exact H.2 j c d hc hd
structure En where
 h0:AHeap
 ok:BN→Prop
structure InvO (E:En) (N:Nm) (os:List PO):Prop where
 hw:HW N.h
 gr:Gr E.h0 N.h
 fzlt:∀b,N.fz b→b.toNat<N.h.n.toNat
 fzok:∀b,N.fz b→E.ok b∨E.h0.n.toNat≤b.toNat
 fzex:∀b,N.fz b→b.toNat<E.h0.n.toNat∨∃y,N.h.t.get b=some y
 len:N.n=os.length
 own:∀k b,live (og os k)→blk (N.μ k)=some b→E.h0.n.toNat≤b.toNat
 inj:∀k k' b,live (og os k)→live (og os k')→blk (N.μ k)=some b→blk (N.μ k')=some b→k=k'
 obj:∀k,RepO N k (og os k)
theorem yA{N:Nm}{k:Nat}{o:PO}(hl:live o)(H:RepO N k o):∃b x,blk (N.μ k)=some b∧¬N.fz b∧N.h.t.get b=some x:=by
 cases o with
 |box cs=>obtain⟨b,vs,h1,h2,h3,_⟩:=H;exact⟨b,_,by rw[h1];rfl,h2,h3⟩
 |arr st v=>
  cases v with
  |none=>exact hl.elim
  |some xs=>obtain⟨b,vs,ex,h1,h2,h3,_⟩:=H;exact⟨b,_,by rw[h1];rfl,h2,h3⟩
 |mp st xs=>obtain⟨b,es,h1,h2,h3,_⟩:=H;exact⟨b,_,by rw[h1];rfl,h2,h3⟩
 |_=>exact hl.elim
theorem RepO.mono{N N':Nm}{k:Nat}{o:PO}(g:Nx N N')(hk:N'.μ k=N.μ k)(hb:live o→∀b,blk (N.μ k)=some b→¬N'.fz b∧N'.h.t.get b=N.h.t.get b)(H:RepO N k o):RepO N' k o:=by
 cases o with
 |box cs=>
  obtain⟨b,vs,h1,h2,h3,h4⟩:=H;obtain⟨k1,k2⟩:=hb trivial b (by rw[h1];rfl)
  exact⟨b,vs,hk.trans h1,k1,k2.trans h3,h4.mono g⟩
 |arr st v=>
  cases v with
  |none=>exact hk.trans H
  |some xs=>
   obtain⟨b,vs,ex,h1,h2,h3,h4,h5⟩:=H;obtain⟨k1,k2⟩:=hb trivial b (by rw[h1];rfl)
   exact⟨b,vs,ex,hk.trans h1,k1,k2.trans h3,h4,fun i x hx=>⟨(h5 i x hx).1,(h5 i x hx).2.mono g.fg⟩⟩
 |frz v=>show Rep _ _ _ _;rw[hk];exact Rep.mono g.fg H
 |fbox ds=>obtain⟨b,h1,h2⟩:=H;exact⟨b,hk.trans h1,h2.mono g.fg⟩
 |mp st xs=>
  obtain⟨b,es,h1,h2,h3,h4,h5⟩:=H;obtain⟨k1,k2⟩:=hb trivial b (by rw[h1];rfl)
  exact⟨b,es,hk.trans h1,k1,k2.trans h3,h4,fun i e x he hx=>⟨(h5 i e x he hx).1.mono g.fg,(h5 i e x he hx).2.mono g.fg⟩⟩
 |dead=>trivial
def upd(μ:Nat→CVal)(k:Nat)(c:CVal):Nat→CVal:=fun j=>if j=k then c else μ j
theorem InvO.new{E:En}{N:Nm}{os:List PO}(I:InvO E N os)(x:AObj)(o:PO)(c:CVal)(hc:blk c=some N.h.n)
  (ho:RepO ⟨upd N.μ os.length c,os.length+1,N.fz,N.h.new x⟩ os.length o):
  InvO E ⟨upd N.μ os.length c,os.length+1,N.fz,N.h.new x⟩ (os++[o])∧Nx N ⟨upd N.μ os.length c,os.length+1,N.fz,N.h.new x⟩∧
   (∀b y,N.h.t.get b=some y→(N.h.new x).t.get b=some y):=by
 have G:=Gr.new N.h x;have old:∀b y,N.h.t.get b=some y→(N.h.new x).t.get b=some y:=fun b y hy=>G.get I.hw hy
 have nx:Nx N ⟨upd N.μ os.length c,os.length+1,N.fz,N.h.new x⟩:=⟨⟨fun _ _ h _=>h,fun b y _ hy=>old b y hy⟩,by have:=I.len;show N.n≤os.length+1;omega,fun k hk=>by
  have:=I.len;show (if k=os.length then c else N.μ k)=_
  rw[if_neg (by omega)]⟩
 have mu:∀k,k≠os.length→upd N.μ os.length c k=N.μ k:=fun k hk=>by show (if k=os.length then c else N.μ k)=_;rw[if_neg hk]
 have muL:upd N.μ os.length c os.length=c:=by show (if os.length=os.length then c else _)=_;rw[if_pos rfl]
 have lt:∀k b,live (og os k)→blk (N.μ k)=some b→b.toNat<N.h.n.toNat:=fun k b hl hb=>by
  obtain⟨b',x',h1,_,h3⟩:=yA hl (I.obj k);rw[h1]at hb;cases hb;exact I.hw _ _ h3
 refine⟨⟨I.hw.new x,I.gr.trans G,fun b hb=>Lz9 (I.fzlt b hb) G.le,I.fzok,fun b hb=>(I.fzex b hb).imp id fun⟨y,hy⟩=>⟨y,old b y hy⟩,by simp,?_,?_,?_⟩,nx,old⟩
 ·intro k b hl hb;rw[wC]at hl;by_cases hk:k=os.length
  ·subst hk;rw[show (Nm.mk (upd N.μ os.length c) (os.length+1) N.fz (N.h.new x)).μ os.length=c from muL,hc]at hb
   cases hb;exact I.gr.le
  ·rw[if_neg hk]at hl;rw[show (Nm.mk (upd N.μ os.length c) (os.length+1) N.fz (N.h.new x)).μ k=N.μ k from mu k hk]at hb
   exact I.own k b hl hb
 ·intro k k' b hl hl' hb hb';rw[wC]at hl hl';simp only at hb hb';by_cases hk:k=os.length<;>by_cases hk':k'=os.length
  ·rw[hk,hk']
  ·subst hk;rw[muL,hc]at hb;rw[if_neg hk']at hl';rw[mu k' hk']at hb';cases hb;have:=lt k' _ hl' hb';omega
  ·subst hk';rw[muL,hc]at hb';rw[if_neg hk]at hl;rw[mu k hk]at hb;cases hb';have:=lt k _ hl hb;omega
  ·rw[if_neg hk]at hl;rw[if_neg hk']at hl';rw[mu k hk]at hb;rw[mu k' hk']at hb';exact I.inj k k' b hl hl' hb hb'
 ·intro k;rw[wC];by_cases hk:k=os.length
  ·rw[if_pos hk,hk];exact ho
  ·rw[if_neg hk];refine (I.obj k).mono nx (mu k hk) fun hl b hb=>?_
   obtain⟨b',x',h1,h2,h3⟩:=yA hl (I.obj k);rw[h1]at hb;cases hb;exact⟨h2,(old _ _ h3).trans h3.symm⟩
theorem InvO.put{E:En}{N:Nm}{os:List PO}(I:InvO E N os){k:Nat}(hl:live (og os k)){b:BN}(hb:blk (N.μ k)=some b)(x:AObj)(o:PO)
  (ho:RepO ⟨N.μ,N.n,N.fz,N.h.put b x⟩ k o):InvO E ⟨N.μ,N.n,N.fz,N.h.put b x⟩ (oset o os k)∧Nx N ⟨N.μ,N.n,N.fz,N.h.put b x⟩∧(∀b' y,N.h.t.get b'=some y→b'≠b→(N.h.put b x).t.get b'=some y):=by
 obtain⟨b0,x0,h1,h2,h3⟩:=yA hl (I.obj k);rw[h1]at hb;cases hb;have hk:k<os.length:=zey (by intro e;rw[e]at hl;exact hl)
 have old:∀b' y,N.h.t.get b'=some y→b'≠b→(N.h.put b x).t.get b'=some y:=fun b' y hy hne=>by rw[wT _ _ hne];exact hy
 have nx:Nx N ⟨N.μ,N.n,N.fz,N.h.put b x⟩:=⟨⟨fun _ _ h _=>h,fun b' y hf hy=>old b' y hy (fun e=>h2 (e▸hf))⟩,LzB _,fun _ _=>rfl⟩
 refine⟨⟨HW.put I.hw h3,I.gr.put (I.own k b hl h1),I.fzlt,I.fzok,fun b' hb'=>(I.fzex b' hb').imp id fun⟨y,hy⟩=>⟨y,old b' y hy (fun e=>h2 (e▸hb'))⟩,I.len.trans (yK o os k).symm,?_,?_,?_⟩,nx,old⟩
 ·intro j b' hl' hb';by_cases hj:j=k
  ·subst hj;exact I.own j b' hl hb'
  ·rw[yy,if_neg (fun e=>hj e.1)]at hl'
   exact I.own j b' hl' hb'
 ·intro j j' b' hl1 hl2 hb1 hb2;have t:∀i,live (og (oset o os k) i)→live (og os i):=fun i hi=>by
   by_cases hj:i=k
   ·subst hj;exact hl
   ·rwa [yy,if_neg (fun e=>hj e.1)]at hi
  exact I.inj j j' b' (t j hl1) (t j' hl2) hb1 hb2
 ·intro j;by_cases hj:j=k
  ·subst hj;rw[yy,if_pos ⟨rfl,hk⟩];exact ho
  ·rw[yy,if_neg (fun e=>hj e.1)]
   refine (I.obj j).mono nx rfl fun hlj b' hb'=>?_
   obtain⟨b1,x1,k1,k2,k3⟩:=yA hlj (I.obj j);rw[k1]at hb';cases hb';have hne:b'≠b:=fun e=>hj (I.inj j k b' hlj hl k1 (by rw[e];exact h1))
   exact⟨k2,wT _ _ hne⟩
theorem InvO.freeze{E:En}{N:Nm}{os:List PO}(I:InvO E N os){k:Nat}(hl:live (og os k)){b:BN}(hb:blk (N.μ k)=some b)(o:PO)(hno:¬live o)
  (ho:RepO ⟨N.μ,N.n,fun b'=>N.fz b'∨b'=b,N.h⟩ k o):InvO E ⟨N.μ,N.n,fun b'=>N.fz b'∨b'=b,N.h⟩ (oset o os k)∧Nx N ⟨N.μ,N.n,fun b'=>N.fz b'∨b'=b,N.h⟩:=by
 obtain⟨b0,x0,h1,h2,h3⟩:=yA hl (I.obj k);rw[h1]at hb;cases hb;have hk:k<os.length:=zey (by intro e;rw[e]at hl;exact hl)
 have nx:Nx N ⟨N.μ,N.n,fun b'=>N.fz b'∨b'=b,N.h⟩:=⟨⟨fun _ _ h _=>.inl h,fun _ _ _ hy=>hy⟩,LzB _,fun _ _=>rfl⟩
 have t:∀i,live (og (oset o os k) i)→i≠k∧live (og os i):=fun i hi=>by
  by_cases hj:i=k
  ·subst hj;rw[yy,if_pos ⟨rfl,hk⟩]at hi;exact(hno hi).elim
  ·rw[yy,if_neg (fun e=>hj e.1)]at hi;exact⟨hj,hi⟩
 refine⟨⟨I.hw,I.gr,fun b' hb'=>hb'.elim (I.fzlt b') (fun e=>by rw[e];exact I.hw _ _ h3),fun b' hb'=>hb'.elim (I.fzok b') (fun e=>.inr (by rw[e];exact I.own k b hl h1)),fun b' hb'=>hb'.elim (I.fzex b') (fun e=>.inr ⟨x0,by rw[e];exact h3⟩),I.len.trans (yK o os k).symm,?_,?_,?_⟩,nx⟩
 ·intro j b' hl' hb';exact I.own j b' (t j hl').2 hb'
 ·intro j j' b' hl1 hl2 hb1 hb2;exact I.inj j j' b' (t j hl1).2 (t j' hl2).2 hb1 hb2
 ·intro j;by_cases hj:j=k
  ·subst hj;rw[yy,if_pos ⟨rfl,hk⟩];exact ho
  ·rw[yy,if_neg (fun e=>hj e.1)]
   refine (I.obj j).mono nx rfl fun hlj b' hb'=>?_
   obtain⟨b1,x1,k1,k2,k3⟩:=yA hlj (I.obj j);rw[k1]at hb';cases hb';exact⟨fun e=>e.elim k2 (fun e=>hj (I.inj j k b' hlj hl k1 (by rw[e];exact h1))),rfl⟩
theorem InvO.turn{E:En}{N:Nm}{os:List PO}(I:InvO E N os)(k:Nat)(o:PO)(hno:¬live o)(ho:RepO N k o):InvO E N (oset o os k):=by
 have t:∀i,live (og (oset o os k) i)→live (og os i):=fun i hi=>by
  rw[yy]at hi;split at hi
  ·exact(hno hi).elim
  ·exact hi
 refine⟨I.hw,I.gr,I.fzlt,I.fzok,I.fzex,I.len.trans (yK o os k).symm,fun j b' hl' hb'=>I.own j b' (t j hl') hb',fun j j' b' hl1 hl2 hb1 hb2=>I.inj j j' b' (t j hl1) (t j' hl2) hb1 hb2,fun j=>?_⟩
 rw[yy];split
 ·rename_i e;rw[e.1];exact ho
 ·exact I.obj j
theorem InvO.grow{E:En}{N:Nm}{os:List PO}(I:InvO E N os){h':AHeap}(hw:HW h')(G:Gr N.h h'):
  InvO E ⟨N.μ,N.n,fun b=>N.fz b∨(N.h.n.toNat≤b.toNat∧∃y,h'.t.get b=some y),h'⟩ os∧Nx N ⟨N.μ,N.n,fun b=>N.fz b∨(N.h.n.toNat≤b.toNat∧∃y,h'.t.get b=some y),h'⟩:=by
 have nx:Nx N ⟨N.μ,N.n,fun b=>N.fz b∨(N.h.n.toNat≤b.toNat∧∃y,h'.t.get b=some y),h'⟩:=⟨⟨fun _ _ h _=>.inl h,fun b y _ hy=>G.get I.hw hy⟩,LzB _,fun _ _=>rfl⟩
 refine⟨⟨hw,I.gr.trans G,fun b hb=>hb.elim (fun h=>Lz9 (I.fzlt b h) G.le) (fun h=>by obtain⟨_,y,hy⟩:=h;exact hw b y hy),fun b hb=>hb.elim (I.fzok b) (fun h=>.inr (Nat.le_trans I.gr.le h.1)),fun b hb=>hb.elim (fun h=>(I.fzex b h).imp id fun⟨y,hy⟩=>⟨y,G.get I.hw hy⟩) (fun h=>.inr h.2),I.len,I.own,I.inj,fun k=>?_⟩,nx⟩
 refine (I.obj k).mono nx rfl fun hl b hb=>?_
 obtain⟨b',x',h1,h2,h3⟩:=yA hl (I.obj k);rw[h1]at hb;cases hb;exact⟨fun e=>e.elim h2 (fun e=>absurd (I.hw _ _ h3) (by omega)),(G.get I.hw h3).trans h3.symm⟩
end Go.PE
end
section
namespace Go.PE
open Go Go.CE
def oD:Option CVal→Option DV
 |some (.int k n)=>some (.int k n)
 |some (.bool b)=>some (.bool b)
 |some (.str s)=>some (.str s)
 |_=>none
def pBin(op:BinOp):DV→DV→Option DV
 | .int k a,.int k' b=>bif eqK k k' then oD (vK op k a b) else none
 |_,_=>none
def yv(l:Bool):DV→DV→Option DV
 | .int k a,.int _ b=>oD ((bif l then zdG else zdF) k a b)
 |_,_=>none
def pStr(op:BinOp):DV→DV→Option DV
 | .str a,.str b=>oD (znv op a b)
 |_,_=>none
def eqD:Nat→DV→DV→Option Bool
 |1,.int k a,.int k' b=>bif eqK k k' then some (eqI a b) else none
 |2,.str a,.str b=>some (a.data.toList==b.data.toList)
 |0,.bool a,.bool b=>some (a==b)
 |_,_,_=>none
def eqDs:List Nat→List DV→List DV→Option Bool
 | [],[],[]=>some true
 |k::ks,x::xs,y::ys=>
  match eqD k x y with
  |some true=>eqDs ks xs ys
  |some false=>some false
  |none=>none
 |_,_,_=>none
def pNot:DV→Option DV
 | .bool q=>some (.bool (!q))
 |_=>none
def pNeg:DV→Option DV
 | .int k n=>some (.int k (wp k (Int.sub 0 n)))
 |_=>none
def yg(k:IntKind):DV→Option DV
 | .int _ n=>some (.int k (wp k n))
 |_=>none
def zoY:DV→DV→DV→Option DV
 | .bool q,a,b=>some (bif q then a else b)
 |_,_,_=>none
def za1:DV→Option Bool
 | .nils=>some true
 | .lst _ _=>some false
 |_=>none
def pIdx(st:Nat):DV→DV→Option (List DV)
 | .lst st' xs,.int _ (.ofNat i)=>bif Nat.beq st st' then xs[i]? else none
 |_,_=>none
def jy(v:OC):DV→Option Nat
 | .int _ (.ofNat i)=>match v with|some xs=>bif Nat.ble (Nat.succ i) xs.length then some i else none|none=>none
 |_=>none
def jz(len:Nat):DV→Option Nat
 | .int _ (.ofNat i)=>bif Nat.ble (Nat.succ i) len then some i else none
 |_=>none
def bndD(x:Option DV)(d y:Nat):Option Nat:=
 match x with
 |none=>some d
 |some (.int _ (.ofNat i))=>bif Nat.ble i y then some i else none
 |_=>none
def uE(st:Nat)(v:DV)(lo hi:Option DV):Option DV:=
 match v with
 | .nils=>match bndD hi 0 0,bndD lo 0 0 with|some _,some _=>some .nils|_,_=>none
 | .lst st' xs=>
  bif Nat.beq st st' then
   match bndD hi xs.length xs.length with
   |some hh=>
    match bndD lo 0 hh with
    |some l=>bif Nat.beq l 0 || !Nat.beq l hh then some (.lst st ((xs.drop l).take (hh-l))) else none
    |none=>none
   |none=>none
  else none
 |_=>none
def vwB(lo hi:Option DV)(y:Nat):Option (Nat×Nat):=
 match bndD hi y y with
 |some hh=>
  match bndD lo 0 hh with
  |some l=>bif Nat.beq l 0 || !Nat.beq l hh then some (l,hh-l) else none
  |none=>none
 |none=>none
def zmG(st lo len:Nat):DV→DV
 | .nils=>.nils
 | .lst st' xs=>bif Nat.beq st st' then .lst st' ((xs.drop lo).take len) else .u
 |_=>.u
def pLen:DV→Option DV
 | .nils=>some (.int .i64 (.ofNat 0))
 | .lst _ xs=>some (.int .i64 (.ofNat xs.length))
 |_=>none
def lenO:OC→Nat
 |none=>0
 |some xs=>xs.length
def ziv:DV→Option DV
 | .str s=>some (.int .i64 (.ofNat s.size))
 |_=>none
def zgv:List UInt8→Nat→Option DV
 | [],_=>none
 |c::cs,i=>bif Nat.beq i 0 then some (.int .u8 (.ofNat c.toNat)) else zgv cs (Nat.sub i 1)
def qV:DV→DV→Option DV
 | .str s,.int _ (.ofNat i)=>zgv s.data.toList i
 |_,_=>none
def zfD(v:DV)(lo hi:Option DV):Option DV:=
 match v with
 | .str s=>
  match bndD hi s.size s.size with
  |some hh=>
   match bndD lo 0 hh with
   |some l=>some (.str (s.extract l hh))
   |none=>none
  |none=>none
 |_=>none
def uF(st:Nat):DV→Option (List (List DV))
 | .nils=>some []
 | .lst st' xs=>bif Nat.beq st st' then some xs else none
 |_=>none
def zI:OC→List (List DV)
 |none=>[]
 |some xs=>xs
def appO(v:OC)(new:List (List DV)):OC:=
 match new with
 | []=>v
 |x::l=>some (zI v++(x::l))
def ziz:List (List DV)→Option (List Int)
 | []=>some []
 | [.int .u8 n]::cs=>match ziz cs with|some l=>some (n::l)|none=>none
 |_=>none
def pB2s:DV→Option DV
 | .nils=>some (.str ByteArray.empty)
 | .lst 1 xs=>match ziz xs with|some ns=>some (.str (zaW ns ByteArray.empty))|none=>none
 |_=>none
def minD(isMax:Bool)(k:IntKind):List DV→Int→Option Int
 | [],x=>some x
 | .int k' y::r,x=>bif eqK k k' then minD isMax k r (bif isMax then(bif ltI x y then y else x) else(bif ltI y x then y else x)) else none
 |_::_,_=>none
def ul(isMax:Bool)(v:DV)(l:List DV):Option DV:=
 match v with
 | .int k n=>match minD isMax k l n with|some m=>some (.int k m)|none=>none
 |_=>none
def nthO(v:OC)(i:Nat):Option (List DV):=match v with|some xs=>xs[i]? |none=>none
def setO(st:Nat)(v:OC)(i off:Nat)(ds:List DV):Option OC:=
 match v with
 |some xs=>
  match xs[i]? with
  |some x=>bif Nat.ble (off+ds.length) st then some (some (xs.set i (x.take off++ds++x.drop (off+ds.length)))) else none
  |none=>none
 |none=>none
section
variable {α β:Type}
def za(o:Option α)(k:α→Option β):Option β:=match o with|some a=>k a|none=>none
def ifB(v:DV)(a b:Option β):Option β:=match v with | .bool q=>bif q then a else b|_=>none
def gd(b:Bool)(k:Option β):Option β:=bif b then k else none
def gdN(v:DV)(k:Option β):Option β:=match v with | .nils=>k|_=>none
def w1(a:Option PA)(k:PC→Option β):Option β:=match a with|some (.s (.one c))=>k c|_=>none
def wd(a:Option PA)(k:DV→Option β):Option β:=match a with|some (.s (.one (.d v)))=>k v|_=>none
inductive Sh where
 |one
 |agg (n:Nat)
 |tup (l:List (Option Nat))
 |no
 |sc
 |tsc (n:Nat)
def b1(r:Option DA)(k:DV→Option β):Option β:=match r with|some (.s (.one d))=>k d|_=>none
def bA(n:Nat)(r:Option DA)(k:List DV→Option β):Option β:=match r with|some (.s (.agg l))=>bif Nat.beq l.length n then k l else none|_=>none
def okT:List (Option Nat)→List DS→Bool
 | [],[]=>true
 |none::shs,.one _::l=>okT shs l
 |some n::shs,.agg ds::l=>Nat.beq ds.length n&&okT shs l
 |_,_=>false
def bT(shs:List (Option Nat))(r:Option DA)(k:List DS→Option β):Option β:=match r with|some (.tup l)=>bif okT shs l then k l else none|_=>none
def bN(r:Option DA)(k:Option β):Option β:=match r with|some _=>k|none=>none
def zmu:DV→Bool
 | .bool _=>true
 | .int _ _=>true
 | .str _=>true
 |_=>false
def zjA:List DS→Bool
 | []=>true
 | .one d::l=>zmu d&&zjA l
 |_::_=>false
def zeA:Nat→List (Option Nat)
 |0=>[]
 |n+1=>none::zeA n
def b1s(r:Option DA)(k:DV→Option β):Option β:=match r with|some (.s (.one d))=>bif zmu d then k d else none|_=>none
def bTs(n:Nat)(r:Option DA)(k:List DS→Option β):Option β:=match r with|some (.tup l)=>bif okT (zeA n) l&&zjA l then k l else none|_=>none
def dsAt:List DS→Nat→DS
 | [],_=>.one .u
 |d::l,i=>bif Nat.beq i 0 then d else dsAt l (Nat.sub i 1)
def dsO:DS→DV
 | .one d=>d
 | .agg _=>.u
def dsA:DS→List DV
 | .agg l=>l
 | .one _=>[]
def zar(l:List DS):List (Option Nat)→Nat→List DS
 | [],_=>[]
 |none::shs,i=>.one (dsO (dsAt l i))::zar l shs (Nat.succ i)
 |some n::shs,i=>.agg (exp (dsA (dsAt l i)) n 0)::zar l shs (Nat.succ i)
end
def cD:CVal→Option DV
 | .bool b=>some (.bool b)
 | .int k n=>some (.int k n)
 | .str s=>some (.str s)
 | .nilp=>some .nilp
 | .nils=>some .nils
 | .nilm=>some .nilm
 | .nilf=>some .nilf
 | .nili=>some .nili
 | .fn f []=>some (.fn f [])
 |_=>none
def cDs:List CVal→Option (List PC)
 | []=>some []
 |c::cs=>
  match cD c,cDs cs with
  |some d,some ds=>some (.d d::ds)
  |_,_=>none
def pvS:SVal→Option PV
 | .one c=>match cD c with|some d=>some (.one (.d d))|none=>none
 | .agg cs=>match cDs cs with|some ds=>some (.agg ds)|none=>none
def pv(ρ:Nat→PA):Operand→Option PA
 | .tmp t=>some (ρ t)
 | .const v=>match cVal v with|some s=>(match pvS s with|some p=>some (.s p)|none=>none)|none=>none
 | .func f=>some (.s (.one (.d (.fn f []))))
 | .global _=>none
def pvs(ρ:Nat→PA):List Operand→Option (List PA)
 | []=>some []
 |x::xs=>
  match pv ρ x,pvs ρ xs with
  |some a,some l=>some (a::l)
  |_,_=>none
def pvo(ρ:Nat→PA):Option Operand→Option (Option DV)
 |none=>some none
 |some x=>match pv ρ x with|some (.s (.one (.d v)))=>some (some v)|_=>none
def pvd(ρ:Nat→PA):List Operand→Option (List DV)
 | []=>some []
 |x::xs=>
  match pv ρ x,pvd ρ xs with
  |some (.s (.one (.d v))),some l=>some (v::l)
  |_,_=>none
def zeT(ρ:Nat→PA):List (Nat×Nat×Operand)→List PC→Option (List PC)
 | [],cs=>some cs
 |(off,size,x)::rest,cs=>
  match pv ρ x with
  |some (.s v)=>bif Nat.beq v.cells.length size&&Nat.ble (off+size) cs.length then zeT ρ rest (cs.take off++v.cells++cs.drop (off+size)) else none
  |_=>none
mutual
def frC(lk:Nat→Bool):Nat→List PO→PC→Option (List PO×DV)
 |_,os,.d v=>some (os,v)
 |_,os,.own k=>
  match og os k with
  | .frz v=>some (os,v)
  | .arr st v=>bif lk k then none else some (oset (.frz (mkL st v)) os k,mkL st v)
  |_=>none
 |n+1,os,.ptr k off=>
  match og os k with
  | .fbox ds=>some (os,.fp ds off)
  | .box cs=>
   bif lk k then none else
   match frL lk n os cs with
   |some (os',ds)=>
    match og os' k with
    | .box cs'=>bif Nat.beq cs'.length cs.length then some (oset (.fbox ds) os' k,.fp ds off) else none
    |_=>none
   |none=>none
  |_=>none
 |_+1,os,.vw k st lo len=>
  match og os k with
  | .frz v=>some (os,zmG st lo len v)
  | .arr st' v=>bif lk k then none else some (oset (.frz (mkL st' v)) os k,zmG st lo len (mkL st' v))
  |_=>none
 |n+1,os,.clo f caps=>
  match frK lk n os caps with
  |some (os',l)=>some (os',.fn f l)
  |none=>none
 |_,_,_=>none
def frL(lk:Nat→Bool):Nat→List PO→List PC→Option (List PO×List DV)
 |_,os,[]=>some (os,[])
 |n,os,c::cs=>
  match n with
  |0=>none
  |n+1=>
   match frC lk n os c with
   |some (os',d)=>
    match frL lk n os' cs with
    |some (os'',ds)=>some (os'',d::ds)
    |none=>none
   |none=>none
def frK(lk:Nat→Bool):Nat→List PO→List (Nat⊕List DV)→Option (List PO×List (List DV))
 |_,os,[]=>some (os,[])
 |n,os,c::cs=>
  match n with
  |0=>none
  |n+1=>
   match (match c with | .inl k=>frC lk n os (.ptr k 0) | .inr xs=>some (os,.fp xs 0)) with
   |some (os',.fp x 0)=>
    match frK lk n os' cs with
    |some (os'',xs)=>some (os'',x::xs)
    |none=>none
   |_=>none
end
def xg:Nat:=100
def frV(lk:Nat→Bool)(os:List PO):PV→Option (List PO×DS)
 | .one c=>match frC lk xg os c with|some (os',d)=>some (os',.one d)|none=>none
 | .agg cs=>match frL lk xg os cs with|some (os',ds)=>some (os',.agg ds)|none=>none
def frA(lk:Nat→Bool)(os:List PO):List PA→Option (List PO×List DA)
 | []=>some (os,[])
 | .s v::l=>
  match frV lk os v with
  |some (os',d)=>
   match frA lk os' l with
   |some (os'',ds)=>some (os'',.s d::ds)
   |none=>none
  |none=>none
 |_::_=>none
abbrev KT(β:Type):=PA→List PO→List Nat→List Nat→Option β
abbrev Orc:=Nat→List DA→Option DA
abbrev und:PA:=.bad
abbrev pd(v:DV):PA:=.s (.one (.d v))
abbrev pc(c:PC):PA:=.s (.one c)
def appF(O:Orc)(v:DV)(ds:List DA):Option DA:=
 match v with
 | .fn g caps=>O g (ds++caps.map fun x=>.s (.one (.fp x 0)))
 |_=>none
def mkN(bytes:Nat)(l c:DV):Option Nat:=
 match l,c with
 | .int _ (.ofNat l),.int _ (.ofNat c)=>bif Nat.beq l c&&Nat.ble c 1073741824&&Nat.ble (bytes*c) 281474976710656 then some l else none
 |_,_=>none
def pS2b:DV→Option DV
 | .str s=>some (.lst 1 (s.data.toList.map fun c=>[.int .u8 (.ofNat c.toNat)]))
 |_=>none
def chunks(st:Nat):Nat→List DV→List (List DV)
 |0,_=>[]
 |n+1,ds=>ds.take st::chunks st n (ds.drop st)
def allD:List PC→Option (List DV)
 | []=>some []
 | .d v::cs=>match allD cs with|some l=>some (v::l)|none=>none
 |_=>none
def gath(cs:List PC)(st:Nat):Nat→Nat→Option (List DV)
 |0,_=>some []
 |n+1,off=>
  match cs[off]?,gath cs st n (off+st) with
  |some (.d v),some l=>some (v::l)
  |_,_=>none
def ipC(cs:List PC)(st len i:Nat):Nat→Nat→Option (List PC)
 |0,_=>some []
 |m+1,off=>
  match gath cs st len off,ipC cs st len i m (Nat.succ off) with
  |some l,some r=>some (.d (atD l i)::r)
  |_,_=>none
def zan{β:Type}(n:Option Nat)(cs:List PC)(off:Nat)(k:PV→Option β):Option β:=
 match n with
 |none=>za cs[off]? fun c=>k (.one c)
 |some m=>bif Nat.ble (off+m) cs.length then k (.agg ((cs.drop off).take m)) else none
def zep{β:Type}(n:Option Nat)(cs:List PC)(off:Nat)(k:PV→Option β):Option β:=
 match n with
 |some 0=>none
 |n=>zan n cs off k
def zlx(ρ:Nat→PA):List Operand→Option (List (Nat⊕List DV))
 | []=>some []
 |x::xs=>
  match pv ρ x,zlx ρ xs with
  |some (.s (.one (.ptr k 0))),some l=>some (.inl k::l)
  |some (.s (.one (.d (.fp y 0)))),some l=>some (.inr y::l)
  |_,_=>none
def bSh{β:Type}(sh:Sh)(r:Option DA)(k:PA→Option β):Option β:=
 match sh with
 | .one=>b1 r fun d=>k (pd d)
 | .agg n=>bA n r fun l=>k (.s (.agg ((exp l n 0).map .d)))
 | .tup shs=>bT shs r fun l=>k (.tup (zar l shs 0))
 | .no=>bN r (k und)
 | .sc=>b1 r fun d=>k (pd d)
 | .tsc n=>bT (zeA n) r fun l=>k (.tup (zar l (zeA n) 0))
def bShS{β:Type}(sh:Sh)(r:Option DA)(k:PA→Option β):Option β:=
 match sh with
 | .sc=>b1s r fun d=>k (pd d)
 | .tsc n=>bTs n r fun l=>k (.tup (zar l (zeA n) 0))
 |_=>none
def scSh:Sh→Bool
 | .sc=>true
 | .tsc _=>true
 |_=>false
def lvO:PO→Bool
 | .box _=>true
 | .arr _ _=>true
 | .mp _ _=>true
 |_=>false
def tchK(os:List PO):List (Nat⊕List DV)→Bool
 | []=>false
 | .inl k::l=>lvO (og os k)||tchK os l
 | .inr _::l=>tchK os l
def tchC(os:List PO):PC→Bool
 | .own k=>lvO (og os k)
 | .ptr k _=>lvO (og os k)
 | .vw k _ _ _=>lvO (og os k)
 | .clo _ caps=>tchK os caps
 |_=>false
def tchL(os:List PO):List PC→Bool
 | []=>false
 |c::l=>tchC os c||tchL os l
def tchA(os:List PO):List PA→Bool
 | []=>false
 | .s v::l=>tchL os v.cells||tchA os l
 |_::l=>tchA os l
def srcP{β:Type}(os:List PO)(st:Nat)(c:PC)(k:List (List DV)→Option β):Option β:=
 match c with
 | .d v=>za (uF st v) k
 | .own j=>
  match og os j with
  | .arr st' v=>bif Nat.beq st st' then k (zI v) else none
  | .frz v=>za (uF st v) k
  |_=>none
 |_=>none
variable {β:Type}
def zj2(os:List PO)(n:Option Nat)(c:PC)(k:KT β):Option β:=
 match c with
 | .ptr j off=>
  match og os j with
  | .box cs=>zan n cs off fun v=>k (.s v) os [] [j]
  | .fbox ds=>zep n (ds.map .d) off fun v=>k (.s v) os [] [j]
  |_=>none
 | .d (.fp xs off)=>zep n (xs.map .d) off fun v=>k (.s v) os [] []
 | .ep j st i off=>
  match og os j with
  | .arr st' v=>bif Nat.beq st st' then za (nthO v i) fun x=>zan n ((exp x st 0).map .d) off fun v=>k (.s v) os [] [j] else none
  |_=>none
 | .ip j off len st i o=>
  match og os j with
  | .box cs=>
   match n with
   |none=>za (ipC cs st len i 1 (off+o)) fun l=>match l with | [c]=>k (pc c) os [] [j]|_=>none
   |some m=>bif Nat.beq m 0 then none else za (ipC cs st len i m (off+o)) fun l=>k (.s (.agg l)) os [] [j]
  |_=>none
 |_=>none
def zj1(lk:Nat→Bool)(os:List PO)(n:Nat)(c:PC)(v:PV)(k:KT β):Option β:=
 bif Nat.beq v.cells.length n then
  match c with
  | .ptr j off=>
   match og os j with
   | .box cs=>bif lk j then none else bif Nat.ble (off+n) cs.length then k und (oset (.box (cs.take off++v.cells++cs.drop (off+n))) os j) [j] [] else none
   |_=>none
  | .ep j st i off=>
   bif lk j then none else
   za (frL lk xg os v.cells) fun p=>
   match og p.1 j with
   | .arr st' w=>bif Nat.beq st st' then za (setO st w i off p.2) fun w'=>k und (oset (.arr st w') p.1 j) [j] [] else none
   |_=>none
  |_=>none
 else none
def pIxs(os:List PO)(st:Nat)(c:PC)(i:DV)(k:KT β):Option β:=
 match c with
 | .d v=>za (pIdx st v i) fun x=>k (pd (.fp (exp x st 0) 0)) os [] []
 | .own j=>
  match og os j with
  | .frz v=>za (pIdx st v i) fun x=>k (pd (.fp (exp x st 0) 0)) os [] []
  | .arr st' v=>bif Nat.beq st st' then za (jy v i) fun n=>k (pc (.ep j st n 0)) os [] [] else none
  |_=>none
 | .vw j st' lo len=>
  match og os j with
  | .frz v=>za (pIdx st (zmG st' lo len v) i) fun x=>k (pd (.fp (exp x st 0) 0)) os [] []
  | .arr _ _=>bif Nat.beq st st' then za (jz len i) fun n=>k (pc (.ep j st (lo+n) 0)) os [] [] else none
  |_=>none
 |_=>none
def zde(os:List PO)(st:Nat)(c:PC)(lo hi:Option DV)(k:KT β):Option β:=
 match c with
 | .own j=>
  match og os j with
  | .arr st' v=>bif Nat.beq st st' then za (vwB lo hi (lenO v)) fun p=>k (pc (.vw j st p.1 p.2)) os [] [] else none
  | .frz v=>za (uE st v lo hi) fun z=>k (pd z) os [] []
  |_=>none
 | .vw j st' l n=>bif Nat.beq st st' then za (vwB lo hi n) fun p=>k (pc (.vw j st (l+p.1) p.2)) os [] [] else none
 | .d v=>za (uE st v lo hi) fun z=>k (pd z) os [] []
 |_=>none
def clrO(v:OC)(lo len:Nat)(ds:List DV):OC:=
 match v with
 |none=>none
 |some xs=>some (xs.take lo++List.replicate len ds++xs.drop (lo+len))
def zj5(lk:Nat→Bool)(os:List PO)(st:Nat)(zs:List CVal)(c:PC)(k:KT β):Option β:=
 match c with
 | .vw j st' lo len=>
  match og os j with
  | .arr st'' v=>bif lk j then none else bif Nat.beq st st'&&Nat.beq st st''&&Nat.beq zs.length st then za (cDs zs) fun ps=>za (allD ps) fun ds=>k und (oset (.arr st'' (clrO v lo len ds)) os j) [j] [] else none
  |_=>none
 |_=>none
def zfG(lk:Nat→Bool)(os:List PO)(st bytes:Nat)(s:PC)(x:PC)(k:KT β):Option β:=
 srcP os st x fun new=>
 match s with
 | .d v=>gdN v (gd (fits bytes new.length) (k (pc (.own os.length)) (os++[.arr st (appO none new)]) [] []))
 | .own j=>
  match og os j with
  | .arr st' v=>bif lk j then none else bif Nat.beq st st' then gd (fits bytes (lenO v+new.length)) (k (pc (.own os.length)) (oset .dead os j++[.arr st (appO v new)]) [j] []) else none
  |_=>none
 |_=>none
def eqSh:Option Nat→Option Nat→Bool
 |none,none=>true
 |some a,some b=>Nat.beq a b
 |_,_=>false
def dsSh:DS→Option Nat
 | .one _=>none
 | .agg l=>some l.length
def dsOf:PV→Option DS
 | .one (.d v)=>some (.one v)
 | .agg cs=>match allD cs with|some l=>some (.agg l)|none=>none
 |_=>none
def zDs(z:SVal):Option DS:=match pvS z with|some p=>dsOf p|none=>none
def eqDS(q:Nat⊕List Nat)(a b:DS):Option Bool:=
 match q,a,b with
 | .inl t,.one x,.one y=>eqD t x y
 | .inr ks,.agg xs,.agg ys=>eqDs ks xs ys
 |_,_,_=>none
def zdD(q:Nat⊕List Nat)(st:Nat)(kd:DS):List (List DV)→Option (Option DS)
 | []=>some none
 |x::xs=>
  match eqDS q kd (kD st x) with
  |some true=>some (some (vD st x))
  |some false=>zdD q st kd xs
  |none=>none
def putP(q:Nat⊕List Nat)(st:Nat)(kd:DS)(row:List DV):List (List DV)→Option (List (List DV))
 | []=>some [row]
 |x::xs=>
  match eqDS q kd (kD st x) with
  |some true=>some (row::xs)
  |some false=>match putP q st kd row xs with|some l=>some (x::l)|none=>none
  |none=>none
def lkD(z:DS)(r:Option DS):DS:=match r with|some v=>v|none=>z
def znc{β:Type}(z:DS)(ok:Bool)(r:Option DS)(os:List PO)(k:KT β):Option β:=
 match z with
 | .one _=>bif ok then k (.tup [.one (dsO (lkD z r)),.one (.bool r.isSome)]) os [] [] else k (pd (dsO (lkD z r))) os [] []
 | .agg l=>bif ok then k (.tup [.agg (exp (dsA (lkD z r)) l.length 0),.one (.bool r.isSome)]) os [] [] else k (.s (.agg ((exp (dsA (lkD z r)) l.length 0).map .d))) os [] []
def zfF{β:Type}(os:List PO)(q:Nat⊕List Nat)(z:SVal)(ok:Bool)(c:PC)(kp:PV)(k:KT β):Option β:=
 za (dsOf kp) fun kd=>za (zDs z) fun zd=>za (eqDS q kd kd) fun _=>
 match c with
 | .own j=>
  match og os j with
  | .mp st xs=>bif eqSh (shV st) (dsSh zd) then za (zdD q st kd xs) fun r=>znc zd ok r os k else none
  |_=>none
 | .d .nilm=>znc zd ok none os k
 |_=>none
def zo0{β:Type}(lk:Nat→Bool)(os:List PO)(q:Nat⊕List Nat)(c:PC)(kp vp:PV)(k:KT β):Option β:=
 za (dsOf kp) fun kd=>za (frV lk os vp) fun p=>za (eqDS q kd kd) fun _=>
 match c with
 | .own j=>
  match og p.1 j with
  | .mp st xs=>
   bif lk j then none else
   bif eqSh (shK st) (dsSh kd)&&eqSh (shV st) (dsSh p.2) then za (putP q st kd (kd.cells++p.2.cells) xs) fun ys=>k und (oset (.mp st ys) p.1 j) [j] [] else none
  |_=>none
 |_=>none
def pOp(O:Orc)(lk:Nat→Bool)(sh:Sh)(ρ:Nat→PA)(os:List PO)(o:KOp)(k:KT β):Option β:=
 match o with
 | .mv x=>za (pv ρ x) fun a=>k a os [] []
 | .pick c a b=>wd (pv ρ c) fun v=>za (pv ρ a) fun a=>za (pv ρ b) fun b=>
  match a,b with
  | .s (.one (.d x)),.s (.one (.d y))=>za (zoY v x y) fun z=>k (pd z) os [] []
  |a,b=>ifB v (k a os [] []) (k b os [] [])
 | .alloc zs=>za (cDs zs) fun cs=>k (pc (.ptr os.length 0)) (os++[.box cs]) [] []
 | .box x=>
  match pv ρ x with
  |some (.s v)=>k (pc (.ptr os.length 0)) (os++[.box v.cells]) [] []
  |_=>none
 | .build zs parts=>za (cDs zs) fun cs=>za (zeT ρ parts cs) fun cs=>k (.s (.agg cs)) os [] []
 | .bslice st len zs parts=>za (cDs zs) fun cs=>za (zeT ρ parts cs) fun cs=>za (frL lk xg os cs) fun p=>
  bif Nat.beq p.2.length (len*st) then k (pc (.own p.1.length)) (p.1++[.arr st (some (chunks st len p.2))]) [] [] else none
 | .load n x=>w1 (pv ρ x) fun c=>zj2 os n c k
 | .store n x v=>w1 (pv ρ x) fun c=>
  match pv ρ v with
  |some (.s v)=>zj1 lk os n c v k
  |_=>none
 | .nilck x=>w1 (pv ρ x) fun c=>
  match c with
  | .ptr j off=>k (pc (.ptr j off)) os [] []
  | .clo f l=>k (pc (.clo f l)) os [] []
  | .d (.fp xs off)=>k (pd (.fp xs off)) os [] []
  |_=>none
 | .bin op x y=>wd (pv ρ x) fun v=>wd (pv ρ y) fun w=>za (pBin op v w) fun z=>k (pd z) os [] []
 | .shift l x y=>wd (pv ρ x) fun v=>wd (pv ρ y) fun w=>za (yv l v w) fun z=>k (pd z) os [] []
 | .str op x y=>wd (pv ρ x) fun v=>wd (pv ρ y) fun w=>za (pStr op v w) fun z=>k (pd z) os [] []
 | .nilS neg x y=>w1 (pv ρ x) fun c=>wd (pv ρ y) fun w=>
  match w with
  | .nils=>
   match c with
   | .d v=>za (za1 v) fun q=>k (pd (.bool (bif neg then !q else q))) os [] []
   | .own j=>
    match og os j with
    | .arr _ v=>k (pd (.bool (bif neg then v.isSome else v.isNone))) os [] []
    | .frz v=>za (za1 v) fun q=>k (pd (.bool (bif neg then !q else q))) os [] []
    |_=>none
   |_=>none
  |_=>none
 | .eq q neg x y=>
  match q with
  | .inl t=>wd (pv ρ x) fun v=>wd (pv ρ y) fun w=>za (eqD t v w) fun b=>k (pd (.bool (bif neg then !b else b))) os [] []
  | .inr ks=>
   match pv ρ x,pv ρ y with
   |some (.s (.agg xs)),some (.s (.agg ys))=>za (allD xs) fun xs=>za (allD ys) fun ys=>za (eqDs ks xs ys) fun b=>k (pd (.bool (bif neg then !b else b))) os [] []
   |_,_=>none
 | .not x=>wd (pv ρ x) fun v=>za (pNot v) fun z=>k (pd z) os [] []
 | .neg x=>wd (pv ρ x) fun v=>za (pNeg v) fun z=>k (pd z) os [] []
 | .conv t x=>wd (pv ρ x) fun v=>za (yg t v) fun z=>k (pd z) os [] []
 | .b2s x=>w1 (pv ρ x) fun c=>
  match c with
  | .d v=>za (pB2s v) fun z=>k (pd z) os [] []
  | .own j=>
   match og os j with
   | .arr st v=>za (pB2s (mkL st v)) fun z=>k (pd z) os [] [j]
   |_=>none
  |_=>none
 | .mkfn f caps=>za (zlx ρ caps) fun l=>
  match l with
  | []=>k (pd (.fn f [])) os [] []
  |x::l=>k (pc (.clo f (x::l))) os [] []
 | .slice st x lo hi mx=>
  match mx with
  |none=>w1 (pv ρ x) fun c=>za (pvo ρ lo) fun lo=>za (pvo ρ hi) fun hi=>zde os st c lo hi k
  |some _=>none
 | .sslice x lo hi=>wd (pv ρ x) fun v=>za (pvo ρ lo) fun lo=>za (pvo ρ hi) fun hi=>za (zfD v lo hi) fun z=>k (pd z) os [] []
 | .foff x off=>w1 (pv ρ x) fun c=>
  match c with
  | .ptr j o=>k (pc (.ptr j (o+off))) os [] []
  | .d (.fp xs o)=>k (pd (.fp xs (o+off))) os [] []
  | .ep j st i o=>k (pc (.ep j st i (o+off))) os [] []
  | .ip j f len st i o=>k (pc (.ip j f len st i (o+off))) os [] []
  |_=>none
 | .field x off n=>
  match pv ρ x with
  |some (.s (.agg cs))=>zan n cs off fun v=>k (.s v) os [] []
  |_=>none
 | .ixs st x i=>w1 (pv ρ x) fun c=>wd (pv ρ i) fun i=>pIxs os st c i k
 | .ixarr len st x i=>w1 (pv ρ x) fun c=>wd (pv ρ i) fun i=>
  match c with
  | .ptr j off=>za (jz len i) fun n=>k (pc (.ip j off len st n 0)) os [] []
  |_=>none
 | .ixagg len st n x i=>wd (pv ρ i) fun i=>
  match pv ρ x with
  |some (.s (.agg cs))=>za (jz len i) fun j=>
   match n with
   |none=>za (ipC cs st len j 1 0) fun l=>match l with | [c]=>k (pc c) os [] []|_=>none
   |some m=>bif Nat.beq m 0 then none else za (ipC cs st len j m 0) fun l=>k (.s (.agg l)) os [] []
  |_=>none
 | .ixstr x i=>wd (pv ρ x) fun v=>wd (pv ρ i) fun w=>za (qV v w) fun z=>k (pd z) os [] []
 | .extract x i=>
  match pv ρ x with
  |some (.tup l)=>
   match l[i]? with
   |some (.one d)=>k (pd d) os [] []
   |some (.agg ds)=>k (.s (.agg (ds.map .d))) os [] []
   |none=>none
  |_=>none
 | .lenS x=>wd (pv ρ x) fun v=>za (ziv v) fun z=>k (pd z) os [] []
 | .lenL x=>w1 (pv ρ x) fun c=>
  match c with
  | .d v=>za (pLen v) fun z=>k (pd z) os [] []
  | .own j=>
   match og os j with
   | .arr _ v=>k (pd (.int .i64 (.ofNat (lenO v)))) os [] []
   | .frz v=>za (pLen v) fun z=>k (pd z) os [] []
   |_=>none
  | .vw _ _ _ len=>k (pd (.int .i64 (.ofNat len))) os [] []
  |_=>none
 | .append st bytes s x=>w1 (pv ρ s) fun s=>w1 (pv ρ x) fun x=>zfG lk os st bytes s x k
 | .minmax m x xs=>wd (pv ρ x) fun v=>za (pvd ρ xs) fun l=>za (ul m v l) fun z=>k (pd z) os [] []
 | .mkslice st zs bytes l c=>wd (pv ρ l) fun l=>wd (pv ρ c) fun c=>za (mkN bytes l c) fun n=>za (cDs zs) fun ps=>za (allD ps) fun ds=>bif Nat.beq zs.length st then k (pc (.own os.length)) (os++[.arr st (some (List.replicate n ds))]) [] [] else none
 | .clear st zs x=>w1 (pv ρ x) fun c=>zj5 lk os st zs c k
 | .mkmap st=>k (pc (.own os.length)) (os++[.mp st []]) [] []
 | .lookup q z ok m x=>w1 (pv ρ m) fun c=>
  match pv ρ x with
  |some (.s kp)=>zfF os q z ok c kp k
  |_=>none
 | .mupd q m x v=>w1 (pv ρ m) fun c=>
  match pv ρ x,pv ρ v with
  |some (.s kp),some (.s vp)=>zo0 lk os q c kp vp k
  |_,_=>none
 | .lenM x=>w1 (pv ρ x) fun c=>
  match c with
  | .own j=>
   match og os j with
   | .mp _ xs=>k (pd (.int .i64 (.ofNat xs.length))) os [] []
   |_=>none
  | .d .nilm=>k (pd (.int .i64 (.ofNat 0))) os [] []
  |_=>none
 | .s2b x=>wd (pv ρ x) fun v=>za (pS2b v) fun z=>k (pd z) os [] []
 | .call f args=>w1 (pv ρ f) fun c=>za (pvs ρ args) fun as=>
  bif scSh sh&&(tchC os c||tchA os as) then za (frA (fun _=>false) os as) fun p=>za (frC (fun _=>false) xg p.1 c) fun q=>bShS sh (appF O q.2 p.2) fun a=>k a os [] []
  else za (frA lk os as) fun p=>za (frC lk xg p.1 c) fun q=>bSh sh (appF O q.2 p.2) fun a=>k a q.1 [] []
end Go.PE
end
section
namespace Go.PE
open Go Go.CE
structure Bk (N:Nm) (os:List PO) (N':Nm) (wr:List Nat):Prop where
 nle:N.h.n.toNat≤N'.h.n.toNat
 eq:∀b:BN,b.toNat<N.h.n.toNat→(∀j,j∈wr→j<N.n→live (og os j)→blk (N.μ j)≠some b)→N'.h.t.get b=N.h.t.get b
theorem Bk.same{N N':Nm}{os:List PO}{wr:List Nat}(h:N'.h=N.h):Bk N os N' wr:=⟨by rw[h];exact LzB _,fun b _ _=>by rw[h]⟩
theorem Bk.gr{N N':Nm}{os:List PO}{wr:List Nat}(g:Gr N.h N'.h):Bk N os N' wr:=⟨g.le,fun b hb _=>g.old b hb⟩
theorem Bk.put{N N':Nm}{os:List PO}{b:BN}{x:AObj}{j:Nat}(h:N'.h=N.h.put b x)(hj:j<N.n)(hl:live (og os j))(hb:blk (N.μ j)=some b):Bk N os N' [j]:=
 ⟨by rw[h];exact LzB _,fun b' _ H=>by rw[h];exact wT _ _ (fun e=>H j (List.mem_singleton_self j) hj hl (by rw[e];exact hb))⟩
def held:PO→Prop
 | .box _=>True
 | .arr _ (some _)=>True
 | .frz v=>∃st xs,v=.lst st xs
 | .fbox _=>True
 | .mp _ _=>True
 |_=>False
def Ho(n:Nat)(os os':List PO)(wr:List Nat):Prop:=∀k,k<n→(held (og os' k)→held (og os k))∧(held (og os k)→held (og os' k)∨k∈wr)∧(live (og os' k)→live (og os k))
theorem Ho.refl(n:Nat)(os:List PO)(wr:List Nat):Ho n os os wr:=fun _ _=>⟨id,.inl,id⟩
theorem Ho.trans{n:Nat}{a b c:List PO}{w1 w2:List Nat}(h:Ho n a b w1)(g:Ho n b c w2):Ho n a c (w1++w2):=fun k hk=>
 ⟨fun x=>(h k hk).1 ((g k hk).1 x),fun x=>((h k hk).2.1 x).elim (fun y=>((g k hk).2.1 y).imp id (List.mem_append_right _)) (fun y=>.inr (List.mem_append_left _ y)),fun x=>(h k hk).2.2 ((g k hk).2.2 x)⟩
theorem Ho.oset{n:Nat}{os:List PO}{o:PO}{j:Nat}{wr:List Nat}(hb:held o→held (og os j))(hf:held (og os j)→held o∨j∈wr)(hv:live o→live (og os j)):Ho n os (PE.oset o os j) wr:=fun k _=>by
 rw[yy];by_cases h:k=j∧j<os.length
 ·rw[if_pos h,h.1];exact⟨hb,hf,hv⟩
 ·rw[if_neg h];exact⟨id,.inl,id⟩
theorem Ho.app{n:Nat}{os:List PO}{o:PO}{wr:List Nat}(hn:n≤os.length):Ho n os (os++[o]) wr:=fun k hk=>by
 rw[wC,if_neg (by omega)];exact⟨id,.inl,id⟩
theorem zbr{N:Nm}{k:Nat}{o:PO}{b:BN}(hh:held o)(H:RepO N k o)(hb:blk (N.μ k)=some b):∃y,N.h.t.get b=some y:=by
 cases o with
 |box cs=>obtain⟨b',x,k1,_,k3⟩:=yA (o:=.box cs) trivial H;rw[k1]at hb;cases hb;exact⟨x,k3⟩
 |arr st v=>
  cases v with
  |none=>exact hh.elim
  |some xs=>obtain⟨b',x,k1,_,k3⟩:=yA (o:=.arr st (some xs)) trivial H;rw[k1]at hb;cases hb;exact⟨x,k3⟩
 |frz v=>
  obtain⟨st,xs,rfl⟩:=hh;obtain⟨b2,o2,off2,cap2,ex2,cs2,q1,q2,q3,_⟩:=Rep.lst_inv H;rw[q1]at hb;cases hb;exact⟨_,q3⟩
 |fbox ds=>
  obtain⟨b2,q1,q2⟩:=H;rw[q1]at hb;cases hb;obtain⟨b3,o3,base3,cs3,p1,p2,p3,_⟩:=q2.fp_inv;cases p1;exact⟨_,p3⟩
 |mp st xs=>obtain⟨b',x,k1,_,k3⟩:=yA (o:=.mp st xs) trivial H;rw[k1]at hb;cases hb;exact⟨x,k3⟩
 |dead=>exact hh.elim
def BkE(N:Nm)(os:List PO)(N':Nm)(wr:List Nat):Prop:=
 ∀(b:BN) y,N.h.t.get b=some y→(∀j,j∈wr→j<N.n→live (og os j)→blk (N.μ j)≠some b)→N'.h.t.get b=some y
theorem Bk.ex{N N':Nm}{os:List PO}{wr:List Nat}(K:Bk N os N' wr)(hw:HW N.h):BkE N os N' wr:=fun b y hy H=>(K.eq b (hw b y hy) H).trans hy
structure Sim (E:En) (lk:Nat→Bool) (N:Nm) (os:List PO) (wr:List Nat) (N':Nm) (os':List PO) (v:AVal) (a:PA):Prop where
 inv:InvO E N' os'
 nx:Nx N N'
 fr:Bk N os N' wr
 lock:∀j,lk j=true→og os' j=og os j
 ho:Ho N.n os os' wr
 val:RepPA N' v a
theorem Sim.quiet{E:En}{lk:Nat→Bool}{N:Nm}{os:List PO}{v:AVal}{a:PA}(I:InvO E N os)(H:RepPA N v a):Sim E lk N os [] N os v a:=⟨I,.refl N,.same rfl,fun _ _=>rfl,.refl _ _ _,H⟩
structure Stp (E:En) (lk:Nat→Bool) (N:Nm) (os:List PO) (wr:List Nat) (N':Nm) (os':List PO):Prop where
 inv:InvO E N' os'
 nx:Nx N N'
 fr:Bk N os N' wr
 lock:∀j,lk j=true→og os' j=og os j
 ho:Ho N.n os os' wr
theorem Stp.sim{E:En}{lk:Nat→Bool}{N N':Nm}{os os':List PO}{wr:List Nat}(S:Stp E lk N os wr N' os'){v:AVal}{a:PA}(H:RepPA N' v a):Sim E lk N os wr N' os' v a:=⟨S.inv,S.nx,S.fr,S.lock,S.ho,H⟩
theorem Stp.refl{E:En}{lk:Nat→Bool}{N:Nm}{os:List PO}(I:InvO E N os):Stp E lk N os [] N os:=⟨I,.refl N,.same rfl,fun _ _=>rfl,.refl _ _ _⟩
theorem Stp.trans{E:En}{lk:Nat→Bool}{A B C:Nm}{o1 o2 o3:List PO}{w1 w2:List Nat}(a:Stp E lk A o1 w1 B o2)(b:Stp E lk B o2 w2 C o3)(hn:B.n=A.n):Stp E lk A o1 (w1++w2) C o3:=
 ⟨b.inv, a.nx.trans b.nx, ⟨Nat.le_trans a.fr.nle b.fr.nle, fun x hx H => (b.fr.eq x (Lz9 hx a.fr.nle) fun j hj hl hv hb => by
  have hA:j<A.n:=hn▸hl;exact H j (List.mem_append_right _ hj) hA ((a.ho j hA).2.2 hv) (by rw[←a.nx.mu j hA];exact hb)).trans (a.fr.eq x hx fun j hj hl hv=>H j (List.mem_append_left _ hj) hl hv)⟩,fun j hj=>(b.lock j hj).trans (a.lock j hj),a.ho.trans (by rw[←hn];exact b.ho)⟩
structure Fz (N N':Nm):Prop where
 h:N'.h=N.h
 n:N'.n=N.n
 μ:N'.μ=N.μ
theorem Fz.refl(N:Nm):Fz N N:=⟨rfl,rfl,rfl⟩
theorem Fz.trans{A B C:Nm}(a:Fz A B)(b:Fz B C):Fz A C:=⟨b.h.trans a.h,b.n.trans a.n,b.μ.trans a.μ⟩
theorem zjO{cs:List CVal}{st n:Nat}(h:cs.length=n):rd n 0 (.cells cs st)=some cs:=by
 show cut n cs 0=some cs;rw[←h];exact zdP cs
variable {E:En} {lk:Nat→Bool}
theorem zgA{N:Nm}{k st:Nat}{v:OC}{fz':BN→Prop}(g:FG N.fz N.h fz' N.h)(H:RepO N k (.arr st v))(hb:v≠none→∀b,blk (N.μ k)=some b→fz' b):Rep fz' N.h (N.μ k) (mkL st v):=by
 cases v with
 |none=>rw[show N.μ k=.nils from H];exact .nils
 |some xs=>
  obtain⟨b,vs,ex,h1,h2,h3,h4,h5⟩:=H;rw[h1];refine Rep.lst_mk (cs:=vs) (hb (by simp) b (by rw[h1];rfl)) h3 (fun e=>by rw[e];exact LzB _) (zjO h4) fun i x hx=>⟨(h5 i x hx).1,(h5 i x hx).2.mono g⟩
theorem zlG{N:Nm}{os:List PO}(I:InvO E N os){k st:Nat}{v:OC}(ho:og os k=.arr st v)(hk:lk k=false):
  ∃N',Fz N N'∧Stp E lk N os [] N' (oset (.frz (mkL st v)) os k)∧Rep N'.fz N'.h (N.μ k) (mkL st v):=by
 have hlock:∀(o:PO) j,lk j=true→og (oset o os k) j=og os j:=fun o j hj=>by
  rw[yy,if_neg (fun e=>by rw[e.1]at hj;rw[hj]at hk;cases hk)]
 have hO:=I.obj k;rw[ho]at hO;cases v with
 |none=>
  have h1:RepO N k (.frz (mkL st none)):=by
   show Rep _ _ _ _;rw[show N.μ k=.nils from hO];exact .nils
  exact⟨N,.refl N,⟨I.turn k _ (fun e=>e) h1,.refl N,Bk.same rfl,hlock _,.oset (fun⟨_,_,h⟩=>by cases h) (fun h=>by rw[ho]at h;exact h.elim) (fun h=>h.elim)⟩,h1⟩
 |some xs=>
  obtain⟨b,vs,ex,h1,h2,h3,h4,h5⟩:=hO;have hb:blk (N.μ k)=some b:=by rw[h1];rfl
  have hl:live (og os k):=by rw[ho];trivial
  have g:FG N.fz N.h (fun b'=>N.fz b'∨b'=b) N.h:=⟨fun _ _ h _=>.inl h,fun _ _ _ h=>h⟩
  have hr:Rep (fun b'=>N.fz b'∨b'=b) N.h (N.μ k) (mkL st (some xs)):=zgA g (show RepO N k (.arr st (some xs)) from⟨b,vs,ex,h1,h2,h3,h4,h5⟩) fun _ b' hb'=>by rw[hb]at hb';cases hb';exact .inr rfl
  obtain⟨i1,i2⟩:=I.freeze hl hb (.frz (mkL st (some xs))) (fun e=>e) hr
  exact⟨⟨N.μ,N.n,fun b'=>N.fz b'∨b'=b,N.h⟩,⟨rfl,rfl,rfl⟩,⟨i1,i2,Bk.same rfl,hlock _,.oset (fun _=>by rw[ho];trivial) (fun _=>.inl ⟨_,_,rfl⟩) (fun h=>h.elim)⟩,hr⟩
theorem zdc{N:Nm}{fz:BN→Prop}{h:AHeap}{k st lo len:Nat}{c:CVal}{v:DV}(H:Rep fz h (N.μ k) v)(hc:RepPC N c (.vw k st lo len)):Rep fz h c (zmG st lo len v):=by
 obtain⟨_,hc⟩:=hc;cases v<;>first|exact .u _|skip
 ·have h1:=H.scal rfl;rcases hc with⟨_,rfl,_,_⟩|⟨b,l,cap,ex,cap',ex',h2,_⟩
  ·exact .nils
  ·rw[h1]at h2;cases h2
 ·rename_i st' xs;show Rep fz h c (bif Nat.beq st st' then .lst st' ((xs.drop lo).take len) else .u)
  cases hs:Nat.beq st st' with
  |false=>exact .u _
  |true=>
   have:=Lz1 hs;subst this;obtain⟨b,o,off,cap,ex,cs,e1,g1,g2,g3,g4,g5⟩:=H.lst_inv;rcases hc with⟨h2,_⟩|⟨b',l,cap2,ex2,cap',ex',h2,rfl,h3,h4⟩
   ·rw[e1]at h2;cases h2
   ·rw[e1]at h2;cases h2;have hlen:((xs.drop lo).take len).length=len:=by simp;omega
    have ml:(lo+len)*st≤xs.length*st:=Nat.mul_le_mul_right st h3;rw[Nat.add_mul]at ml;have:=Rep.lst_mk (fz:=fz) (off:=0+lo*st) (cap:=cap') (ex:=ex') (xs:=(xs.drop lo).take len) (cs:=(cs.drop (lo*st)).take (len*st)) g1 g2 (by rw[hlen];exact h4)
     (by rw [hlen]; exact zcd g4 ml) (fun i z hz => by
      rw[List.getElem?_take]at hz;split at hz
      ·rename_i hi;rw[List.getElem?_drop]at hz;obtain⟨q1,q2⟩:=g5 _ _ hz;refine⟨q1,?_⟩;have e1:List.take st (List.drop (i*st) (List.take (len*st) (List.drop (lo*st) cs)))=List.take st (List.drop ((lo+i)*st) cs):=by
        have:=Nat.mul_le_mul_right st (show i+1≤len from hi)
        rw[Nat.succ_mul]at this;rw[List.drop_take,List.drop_drop,List.take_take,Nat.add_mul,Nat.min_eq_left (by omega)]
       rw[e1];exact q2
      ·cases hz)
    rwa [hlen,Nat.zero_add]at this
theorem zrD:∀n:Nat,
  (∀(os:List PO) (N:Nm) (c:CVal) (p:PC) (os':List PO) (d:DV),InvO E N os→RepPC N c p→frC lk n os p=some (os',d)→∃N',Fz N N'∧Stp E lk N os [] N' os'∧Rep N'.fz N'.h c d)∧
  (∀(os:List PO) (N:Nm) (cs:List CVal) (ps:List PC) (os':List PO) (ds:List DV),InvO E N os→RepPL N cs ps→frL lk n os ps=some (os',ds)→∃N',Fz N N'∧Stp E lk N os [] N' os'∧RepL N'.fz N'.h cs ds)∧
  (∀ (os : List PO) (N : Nm) (qs : List (BN × Nat)) (xs : List (Nat ⊕ List DV)) (os' : List PO) (l : List (List DV)), InvO E N os → RepCaps N qs xs → frK lk n os xs = some (os', l) →
   ∃N',Fz N N'∧Stp E lk N os [] N' os'∧RepL N'.fz N'.h (qs.map fun p=>.ptr p.1 p.2) (l.map fun x=>.fp x 0)):=by
 intro n
 induction n with
 |zero=>
  refine⟨?_,?_,?_⟩
  ·intro os N c p os' d I H e;cases p with
   |d v=>simp only[frC]at e;cases e;exact⟨N,.refl N,.refl I,H⟩
   |own k=>
    simp only[frC]at e;obtain⟨hk,rfl⟩:=H;cases ho:og os k with
    |frz v=>rw[ho]at e;cases e;exact⟨N,.refl N,.refl I,by have:=I.obj k;rw[ho]at this;exact this⟩
    |arr st v=>
     rw[ho]at e;simp only at e;cases hlk:lk k with
     |true=>rw[hlk]at e;cases e
     |false=>rw[hlk]at e;cases e;exact zlG I ho hlk
    |_=>rw[ho]at e;cases e
   |_=>simp only[frC]at e;cases e
  ·intro os N cs ps os' ds I H e;cases ps with
   |nil=>simp only[frL]at e;cases e;cases cs with
    |nil=>exact⟨N,.refl N,.refl I,.nil _ _⟩
    |cons c cs=>exact H.elim
   |cons p ps=>simp only[frL]at e;cases e
  ·intro os N cs ps os' ds I H e;cases ps with
   |nil=>simp only[frK]at e;cases e;cases cs with
    |nil=>exact⟨N,.refl N,.refl I,.nil _ _⟩
    |cons c cs=>exact H.elim
   |cons p ps=>simp only[frK]at e;cases e
 |succ n ih=>
  obtain⟨ihC,ihL,ihK⟩:=ih;refine⟨?_,?_,?_⟩
  ·intro os N c p os' d I H e;cases p with
   |d v=>simp only[frC]at e;cases e;exact⟨N,.refl N,.refl I,H⟩
   |own k=>
    simp only[frC]at e;obtain⟨hk,rfl⟩:=H;cases ho:og os k with
    |frz v=>rw[ho]at e;cases e;exact⟨N,.refl N,.refl I,by have:=I.obj k;rw[ho]at this;exact this⟩
    |arr st v=>
     rw[ho]at e;simp only at e;cases hlk:lk k with
     |true=>rw[hlk]at e;cases e
     |false=>rw[hlk]at e;cases e;exact zlG I ho hlk
    |_=>rw[ho]at e;cases e
   |ptr k off=>
    simp only[frC]at e;obtain⟨hk,b,hb,rfl⟩:=H;cases ho:og os k with
    |fbox ds=>
     rw[ho]at e;cases e;have:=I.obj k;rw[ho]at this;obtain⟨b',h1,h2⟩:=this;rw[hb]at h1;cases h1;obtain⟨b1,o1,base,cs,e1,e2,e3,e4,e5⟩:=h2.fp_inv;cases e1;refine⟨N,.refl N,.refl I,?_⟩;have:=Rep.fp_mk (off:=off) e2 e3 e4 e5
     rwa [show (0+off)=off by omega]at this
    |box cs=>
     rw[ho]at e;simp only at e;cases hlk:lk k with
     |true=>rw[hlk]at e;cases e
     |false=>
      rw[hlk]at e;simp only[cond_false]at e;cases hf:frL lk n os cs with
      |none=>rw[hf]at e;cases e
      |some p=>
       obtain⟨os1,ds⟩:=p;rw[hf]at e;simp only at e;have hO:=I.obj k;rw[ho]at hO;obtain⟨b',vs,h1,h2,h3,h4⟩:=hO;rw[hb]at h1;cases h1;obtain⟨N1,f1,s1,r1⟩:=ihL os N vs cs os1 ds I h4 hf;cases ho1:og os1 k with
       |box cs'=>
        rw[ho1]at e;simp only at e;cases hq:Nat.beq cs'.length cs.length with
        |false=>rw[hq]at e;cases e
        |true=>
         rw[hq]at e;cases e;have hl:live (og os1 k):=by rw[ho1];trivial
         have hbk:blk (N1.μ k)=some b:=by rw[f1.μ,hb];rfl
         have g:FG N1.fz N1.h (fun b'=>N1.fz b'∨b'=b) N1.h:=⟨fun _ _ h _=>.inl h,fun _ _ _ h=>h⟩
         have h3':N1.h.t.get b=some (.cells vs 0):=by rw[f1.h];exact h3
         have hr:∀off,Rep (fun b'=>N1.fz b'∨b'=b) N1.h (.ptr b off) (.fp ds off):=fun off=>by
          have:=Rep.fp_mk (fz:=fun b'=>N1.fz b'∨b'=b) (off:=off) (base:=0) (.inr rfl) h3' (zjO r1.1) (r1.mono g)
          rwa [show (0+off)=off by omega]at this
         obtain⟨i1,i2⟩:=s1.inv.freeze hl hbk (.fbox ds) (fun e=>e) ⟨b,by rw[f1.μ];exact hb,hr 0⟩
         refine⟨⟨N1.μ,N1.n,fun b'=>N1.fz b'∨b'=b,N1.h⟩,f1.trans ⟨rfl,rfl,rfl⟩,s1.trans (w2:=[]) ⟨i1,i2,Bk.same rfl,fun j hj=>?_,.oset (fun _=>by rw[ho1];trivial) (fun _=>.inl trivial) (fun h=>h.elim)⟩ f1.n,hr off⟩
         rw[yy,if_neg (fun e=>by rw[e.1]at hj;rw[hj]at hlk;cases hlk)]
       |_=>rw[ho1]at e;cases e
    |_=>rw[ho]at e;cases e
   |ep k st i off=>simp only[frC]at e;cases e
   |ip k off len st i o=>simp only[frC]at e;cases e
   |vw k st lo len=>
    simp only[frC]at e;cases ho:og os k with
    |frz v=>rw[ho]at e;cases e;exact⟨N,.refl N,.refl I,zdc (by have:=I.obj k;rw[ho]at this;exact this) H⟩
    |arr st' v=>
     rw[ho]at e;simp only at e;cases hlk:lk k with
     |true=>rw[hlk]at e;cases e
     |false=>
      rw[hlk]at e;cases e;obtain⟨N',f1,s1,r1⟩:=zlG I ho hlk;exact⟨N',f1,s1,zdc (N:=N) r1 H⟩
    |_=>rw[ho]at e;cases e
   |clo f caps=>
    simp only[frC]at e;obtain⟨ps,rfl,hc⟩:=H;cases hf:frK lk n os caps with
    |none=>rw[hf]at e;cases e
    |some p=>
     obtain⟨os1,l⟩:=p;rw[hf]at e;cases e;obtain⟨N1,f1,s1,r1⟩:=ihK os N ps caps _ _ I hc hf;exact⟨N1,f1,s1,.fn_mk r1⟩
  ·intro os N cs ps os' ds I H e;cases ps with
   |nil=>simp only[frL]at e;cases e;cases cs with
    |nil=>exact⟨N,.refl N,.refl I,.nil _ _⟩
    |cons c cs=>exact H.elim
   |cons p ps=>
    cases cs with
    |nil=>exact H.elim
    |cons c cs=>
     simp only[frL]at e;cases h1:frC lk n os p with
     |none=>rw[h1]at e;cases e
     |some q=>
      obtain⟨os1,d⟩:=q;rw[h1]at e;simp only at e;cases h2:frL lk n os1 ps with
      |none=>rw[h2]at e;cases e
      |some q=>
       obtain⟨os2,ds2⟩:=q;rw[h2]at e;cases e;obtain⟨N1,f1,s1,r1⟩:=ihC os N c p os1 d I H.1 h1;obtain⟨N2,f2,s2,r2⟩:=ihL os1 N1 cs ps _ _ s1.inv (RepPL.mono s1.nx H.2) h2;exact⟨N2,f1.trans f2,s1.trans s2 f1.n,.cons (r1.mono s2.nx.fg) r2⟩
  ·intro os N qs xs os' l I H e;cases xs with
   |nil=>simp only[frK]at e;cases e;cases qs with
    |nil=>exact⟨N,.refl N,.refl I,.nil _ _⟩
    |cons c cs=>exact H.elim
   |cons x xs=>
    cases qs with
    |nil=>exact H.elim
    |cons q qs=>
     have hx:∀os1 d,(match x with | .inl k=>frC lk n os (.ptr k 0) | .inr xs=>some (os,.fp xs 0))=some (os1,d)→∃N',Fz N N'∧Stp E lk N os [] N' os1∧Rep N'.fz N'.h (.ptr q.1 q.2) d:=by
      intro os1 d h1;cases x with
      |inl k=>
       obtain⟨a1,a2,a3⟩:=H.1;exact ihC os N (.ptr q.1 q.2) (.ptr k 0) os1 d I ⟨a1,q.1,a2,by rw[a3]⟩ h1
      |inr xs=>cases h1;exact⟨N,.refl N,.refl I,H.1⟩
     have key:∀m:Option (List PO×DV),(∀os1 d,m=some (os1,d)→∃N',Fz N N'∧Stp E lk N os [] N' os1∧Rep N'.fz N'.h (.ptr q.1 q.2) d)→
       (match m with
        |some (os',.fp x 0)=>
         match frK lk n os' xs with
         |some (os'',xs)=>some (os'',x::xs)
         |none=>none
        |_=>none)=some (os',l)→∃N',Fz N N'∧Stp E lk N os [] N' os'∧RepL N'.fz N'.h ((q::qs).map fun p=>.ptr p.1 p.2) (l.map fun x=>.fp x 0):=by
      intro m hm e;split at e
      ·rename_i os1 y;cases h2:frK lk n os1 xs with
       |none=>rw[h2]at e;cases e
       |some q2=>
        obtain⟨os2,l2⟩:=q2;rw[h2]at e;cases e;obtain⟨N1,f1,s1,r1⟩:=hm os1 _ rfl;obtain⟨N2,f2,s2,r2⟩:=ihK os1 N1 qs xs _ _ s1.inv (RepCaps.mono s1.nx H.2) h2;exact⟨N2,f1.trans f2,s1.trans s2 f1.n,.cons (r1.mono s2.nx.fg) r2⟩
      ·cases e
     exact key _ hx e
theorem zeS{n:Nat}{os os':List PO}{N:Nm}{c:CVal}{p:PC}{d:DV}(I:InvO E N os)(H:RepPC N c p)(e:frC lk n os p=some (os',d)):∃N',Fz N N'∧Stp E lk N os [] N' os'∧Rep N'.fz N'.h c d:=(zrD n).1 _ _ _ _ _ _ I H e
theorem zhv{n:Nat}{os os':List PO}{N:Nm}{cs:List CVal}{ps:List PC}{ds:List DV}(I:InvO E N os)(H:RepPL N cs ps)(e:frL lk n os ps=some (os',ds)):∃N',Fz N N'∧Stp E lk N os [] N' os'∧RepL N'.fz N'.h cs ds:=(zrD n).2.1 _ _ _ _ _ _ I H e
theorem zeR{os os':List PO}{N:Nm}{v:SVal}{p:PV}{d:DS}(I:InvO E N os)(H:RepPV N v p)(e:frV lk os p=some (os',d)):∃N',Fz N N'∧Stp E lk N os [] N' os'∧RepS N'.fz N'.h v d:=by
 cases p with
 |one c=>
  cases v with
  |agg cs=>exact H.elim
  |one x=>
   simp only[frV]at e;cases h1:frC lk xg os c with
   |none=>rw[h1]at e;cases e
   |some q=>obtain⟨o1,d1⟩:=q;rw[h1]at e;cases e;exact zeS I H h1
 |agg cs=>
  cases v with
  |one x=>exact H.elim
  |agg xs=>
   simp only[frV]at e;cases h1:frL lk xg os cs with
   |none=>rw[h1]at e;cases e
   |some q=>obtain⟨o1,d1⟩:=q;rw[h1]at e;cases e;exact zhv I H h1
def RepPAL(N:Nm):List AVal→List PA→Prop
 | [],[]=>True
 |c::cs,d::ds=>RepPA N c d∧RepPAL N cs ds
 |_,_=>False
theorem RepPAL.mono{N N':Nm}(g:Nx N N'):∀{c:List AVal} {d:List PA},RepPAL N c d→RepPAL N' c d
 | [],[],_=>trivial
 |_::_,_::_,H=>⟨H.1.mono g,RepPAL.mono g H.2⟩
 | [],_::_,H=>H.elim
 |_::_,[],H=>H.elim
theorem zk6:∀{as:List PA} {vs:List AVal} {os os':List PO} {N:Nm} {ds:List DA},InvO E N os→RepPAL N vs as→frA lk os as=some (os',ds)→∃N',Fz N N'∧Stp E lk N os [] N' os'∧RepAL N'.fz N'.h vs ds
 | [],[],os,os',N,ds,I,H,e=>by simp only[frA]at e;cases e;exact⟨N,.refl N,.refl I,trivial⟩
 | .s p::as,v::vs,os,os',N,ds,I,H,e=>by
  simp only[frA]at e;cases h1:frV lk os p with
  |none=>rw[h1]at e;cases e
  |some q=>
   obtain⟨o1,d1⟩:=q;rw[h1]at e;simp only at e;cases h2:frA lk o1 as with
   |none=>rw[h2]at e;cases e
   |some q=>
    obtain⟨o2,ds2⟩:=q;rw[h2]at e;cases e;obtain⟨w,rfl,hw⟩:=H.1.inv
    ·obtain⟨N1,f1,s1,r1⟩:=zeR I hw h1;obtain⟨N2,f2,s2,r2⟩:=zk6 s1.inv (RepPAL.mono s1.nx H.2) h2;exact⟨N2,f1.trans f2,s1.trans s2 f1.n,.of (r1.mono s2.nx.fg),r2⟩
 | .tup l::as,_::_,os,os',N,ds,I,H,e=>by simp only[frA]at e;cases e
 | .bad::as,_::_,os,os',N,ds,I,H,e=>by simp only[frA]at e;cases e
 | .undef::as,_::_,os,os',N,ds,I,H,e=>by simp only[frA]at e;cases e
 | [],_::_,_,_,_,_,_,H,_=>H.elim
 |_::_,[],_,_,_,_,_,H,_=>H.elim
end Go.PE
end
section
namespace Go.PE
open Go Go.CE
def Goal{β:Type}(C:Nat→zh)(E:En)(lk:Nat→Bool)(N:Nm)(os:List PO)(r:Fr)(ko:KOp)(k:KT β)(x:β):Prop:=
 ∃a os' wr rd,k a os' wr rd=some x∧Ev (fun n=>runK r ko (C n) N.h) (fun p=>∃N',N'.h=p.2∧Sim E lk N os wr N' os' p.1 a)
def trk(ρ:Nat→PA):KOp→Option Operand
 | .mv x=>some x
 | .foff x _=>some x
 | .field x _ _=>some x
 | .ixs _ x _=>match pv ρ x with|some (.s (.one (.own _)))=>none|some (.s (.one (.vw _ _ _ _)))=>none|_=>some x
 | .extract x _=>some x
 | .nilck x=>some x
 |_=>none
def memX:KOp→Option Operand
 | .load _ x=>some x
 | .b2s x=>some x
 |_=>none
def MemI(N:Nm)(os:List PO)(r:Fr)(ρ:Nat→PA)(xo:Operand)(rd:List Nat):Prop:=
  ∃w,kv r xo=some (.s (.one w))∧(blk w=none∨∃b,blk w=some b∧
    ((∃ j, rd = [j] ∧ j < N.n ∧ blk (N.μ j) = some b ∧ held (og os j) ∧ ∀ N' : Nm, (∀ u pa, kv r xo = some u → pv ρ xo = some pa → RepPA N' u pa) → j < N'.n) ∨
     (rd=[]∧∀N':Nm,(∀u pa,kv r xo=some u→pv ρ xo=some pa→RepPA N' u pa)→N'.fz b∧∃y,N'.h.t.get b=some y)))
def GoalQ{β:Type}(N:Nm)(os:List PO)(r:Fr)(ρ:Nat→PA)(ko:KOp)(k:KT β)(x:β):Prop:=
 ∃v a rd,k a os [] rd=some x∧(∀call,runK r ko call N.h=some (v,N.h))∧RepPA N v a∧(∀xo,trk ρ ko=some xo→∀(N':Nm) u pa,kv r xo=some u→pv ρ xo=some pa→RepPA N' u pa→RepPA N' v a)∧
  (∀xo,memX ko=some xo→MemI N os r ρ xo rd)
section
variable {β:Type} {C:Nat→zh} {E:En} {lk:Nat→Bool} {N:Nm} {os:List PO} {r:Fr} {ρ:Nat→PA}
theorem GoalQ.quiet{ko:KOp}{k:KT β}{x:β}(_:InvO E N os){v:AVal}{a:PA}{rd:List Nat}(e:∀call,runK r ko call N.h=some (v,N.h))(H:RepPA N v a)(hk:k a os [] rd=some x)(ht:∀xo,trk ρ ko=some xo→∀(N':Nm) u pa,kv r xo=some u→pv ρ xo=some pa→RepPA N' u pa→RepPA N' v a:=by intro _ h;cases h)(hm:∀xo,memX ko=some xo→MemI N os r ρ xo rd:=by intro _ h;cases h):GoalQ N os r ρ ko k x:=⟨v,a,rd,hk,e,H,ht,hm⟩
theorem Goal.quiet{ko:KOp}{k:KT β}{x:β}(I:InvO E N os){v:AVal}{a:PA}{rd:List Nat}(e:∀call,runK r ko call N.h=some (v,N.h))(H:RepPA N v a)(hk:k a os [] rd=some x):Goal C E lk N os r ko k x:=
 ⟨a,os,[],rd,hk,⟨(v,N.h),⟨N,rfl,.quiet I H⟩,0,fun n _=>e (C n)⟩⟩
theorem zbo{a:Operand}{u0:AVal}{p0:PA}{v:AVal}{a':PA}(ku:kv r a=some u0)(kp:pv ρ a=some p0)(H:∀N':Nm,RepPA N' u0 p0→RepPA N' v a'):∀xo,some a=some xo→∀(N':Nm) u pa,kv r xo=some u→pv ρ xo=some pa→RepPA N' u pa→RepPA N' v a':=by
 intro xo h n u pa h1 h2 h3;cases h;rw[ku]at h1;cases h1;rw[kp]at h2;cases h2;exact H n h3
theorem GoalQ.goal{ko:KOp}{k:KT β}{x:β}(I:InvO E N os)(G:GoalQ N os r ρ ko k x):Goal C E lk N os r ko k x:=by
 obtain⟨v,a,rd,h1,h2,h3,_,_⟩:=G;exact .quiet I h2 h3 h1
theorem zr5{fz:BN→Prop}{h:AHeap}{c:CVal}{d:DV}(e:cD c=some d):Rep fz h c d:=by
 cases c<;>simp only[cD]at e<;>first|cases e|skip
 ·exact .bool _
 ·exact .int _ _
 ·exact .str _
 ·exact .nilp
 ·exact .nils
 ·exact .nilm
 ·rename_i f caps;cases caps with
  |nil=>cases e;exact .fn_mk (.nil _ _)
  |cons a l=>cases e
 ·exact .nilf
 ·exact .nili
theorem qg:∀{cs:List CVal} {ps:List PC},cDs cs=some ps→RepPL N cs ps
 | [],ps,e=>by cases e;trivial
 |c::cs,ps,e=>by
  simp only[cDs]at e;cases h1:cD c with
  |none=>rw[h1]at e;cases e
  |some d=>
   cases h2:cDs cs with
   |none=>rw[h1,h2]at e;cases e
   |some ds=>rw[h1,h2]at e;cases e;exact⟨zr5 h1,qg h2⟩
theorem zjR{s:SVal}{p:PV}(e:pvS s=some p):RepPV N s p:=by
 cases s with
 |one c=>
  simp only[pvS]at e;cases h1:cD c with
  |none=>rw[h1]at e;cases e
  |some d=>rw[h1]at e;cases e;exact zr5 h1
 |agg cs=>
  simp only[pvS]at e;cases h1:cDs cs with
  |none=>rw[h1]at e;cases e
  |some ds=>rw[h1]at e;cases e;exact qg h1
theorem wq(F:∀i,RepPA N (r i) (ρ i)){x:Operand}{a:PA}(e:pv ρ x=some a):∃v,kv r x=some v∧RepPA N v a:=by
 cases x with
 |tmp t=>cases e;exact⟨_,rfl,F t⟩
 |const v=>
  simp only[pv]at e;cases hv:cVal v with
  |none=>rw[hv]at e;cases e
  |some s=>
   rw[hv]at e;simp only at e;cases hp:pvS s with
   |none=>rw[hp]at e;cases e
   |some p=>rw[hp]at e;cases e;exact⟨.s s,by simp only[kv,hv],.of (zjR hp)⟩
 |func f=>cases e;exact⟨_,rfl,RepPA.of (p:=.one (.d (.fn f []))) (v:=.one (.fn f [])) (Rep.fn_mk (.nil _ _))⟩
 |global g=>cases e
theorem zem(F:∀i,RepPA N (r i) (ρ i)):∀{xs:List Operand} {as:List PA},pvs ρ xs=some as→∃vs,kvs r xs=some vs∧RepPAL N vs as
 | [],as,e=>by cases e;exact⟨[],rfl,trivial⟩
 |x::xs,as,e=>by
  simp only[pvs]at e;cases h1:pv ρ x with
  |none=>rw[h1]at e;cases e
  |some a=>
   cases h2:pvs ρ xs with
   |none=>rw[h1,h2]at e;cases e
   |some l=>
    rw[h1,h2]at e;cases e;obtain⟨v,k1,k2⟩:=wq F h1;obtain⟨vs,k3,k4⟩:=zem F h2;exact⟨v::vs,by simp only[kvs,k1,k3],k2,k4⟩
theorem ug(F:∀i,RepPA N (r i) (ρ i)){x:Operand}{K:PC→Option β}{y:β}(e:w1 (pv ρ x) K=some y):∃c v,K c=some y∧kv r x=some v∧RepPA N v (pc c)∧pv ρ x=some (pc c):=by
 cases h:pv ρ x with
 |none=>rw[h]at e;cases e
 |some a=>
  rw[h]at e;cases a with
  |tup l=>cases e
  |bad=>cases e
  |undef=>cases e
  |s p=>
   cases p with
   |agg cs=>cases e
   |one c=>
    obtain⟨v,k1,k2⟩:=wq F h;exact⟨c,v,e,k1,k2,rfl⟩
theorem wF(F:∀i,RepPA N (r i) (ρ i)){x:Operand}{K:DV→Option β}{y:β}(e:wd (pv ρ x) K=some y):∃d v,K d=some y∧kv r x=some v∧RepPA N v (pd d):=by
 cases h:pv ρ x with
 |none=>rw[h]at e;cases e
 |some a=>
  rw[h]at e;cases a with
  |tup l=>cases e
  |bad=>cases e
  |undef=>cases e
  |s p=>
   cases p with
   |agg cs=>cases e
   |one c=>
    cases c with
    |d d=>
     obtain⟨v,k1,k2⟩:=wq F h;exact⟨d,v,e,k1,k2⟩
    |_=>cases e
theorem zj{α:Type}{o:Option α}{K:α→Option β}{y:β}(e:za o K=some y):∃a,o=some a∧K a=some y:=by
 cases o with
 |none=>cases e
 |some a=>exact⟨a,rfl,e⟩
theorem yl{v:AVal}{c:PC}(H:RepPA N v (pc c)):∃w,v=.s (.one w)∧RepPC N w c:=by
 obtain⟨w,rfl,hw⟩:=H.inv;cases w with
 |one w=>exact⟨w,rfl,hw⟩
 |agg cs=>exact hw.elim
theorem wt{v:AVal}{d:DV}(H:RepPA N v (pd d)):∃w,v=.s (.one w)∧Rep N.fz N.h w d:=yl H
theorem ye{v:AVal}{d:DV}{c:CVal}(H:RepPA N v (pd d))(e:d.scal=some c):v=.s (.one c):=by
 obtain⟨w,rfl,hw⟩:=wt H;rw[hw.scal e]
theorem yG{d:DV}{c:CVal}(e:d.scal=some c):RepPA N (.s (.one c)) (pd d):=RepPA.of (p:=.one (.d d)) (v:=.one c) (Rep.ofScal e)
theorem vQ{d:DV}{c:CVal}(e:Rep N.fz N.h c d):RepPA N (.s (.one c)) (pd d):=RepPA.of (p:=.one (.d d)) (v:=.one c) e
theorem y7{p:PC}{c:CVal}(e:RepPC N c p):RepPA N (.s (.one c)) (pc p):=RepPA.of (p:=.one p) (v:=.one c) e
theorem zpc{o:Option CVal}{z:DV}(e:oD o=some z):∃c,o=some c∧z.scal=some c:=by
 cases o with
 |none=>cases e
 |some c=>cases c<;>simp only[oD]at e<;>cases e<;>exact⟨_,rfl,rfl⟩
variable {k:KT β} {x:β}
theorem o_mv(I:InvO E N os)(F:∀i,RepPA N (r i) (ρ i)){a:Operand}(e:za (pv ρ a) (fun a=>k a os [] [])=some x):GoalQ N os r ρ (.mv a) k x:=by
 obtain⟨p,h1,h2⟩:=zj e;obtain⟨v,k1,k2⟩:=wq F h1;exact .quiet I (fun call=>by simp only[runK,k1,zC]) k2 h2 (zbo k1 h1 fun N' H=>H)
theorem zrf(I:InvO E N os)(F:∀i,RepPA N (r i) (ρ i)){op:BinOp}{a b:Operand}(e:wd (pv ρ a) (fun v=>wd (pv ρ b) fun w=>za (pBin op v w) fun z=>k (pd z) os [] [])=some x):GoalQ N os r ρ (.bin op a b) k x:=by
 have hh:=wF F e;clear e;obtain⟨v,va,e,ka,ra⟩:=hh;have hh:=wF F e;clear e;obtain⟨w,vb,e,kb,rb⟩:=hh;have hh:=zj e;clear e;obtain⟨z,hz,e⟩:=hh;cases v<;>cases w<;>simp only[pBin]at hz<;>first|cases hz|skip
 rename_i k1 n1 k2 n2;cases hk:eqK k1 k2 with
 |false=>rw[hk]at hz;cases hz
 |true=>
  rw[hk]at hz;obtain⟨c,h1,h2⟩:=zpc hz;rw[ye ra rfl]at ka;rw[ye rb rfl]at kb;refine .quiet I (v:=.s (.one c)) (fun call=>?_) (yG h2) e
  simp only[runK,ka,kb,zC];show (bif eqK k1 k2 then retC N.h (vK op k1 n1 n2) else none)=_
  rw[hk,h1];rfl
theorem zkd(I:InvO E N os)(F:∀i,RepPA N (r i) (ρ i)){l:Bool}{a b:Operand}(e:wd (pv ρ a) (fun v=>wd (pv ρ b) fun w=>za (yv l v w) fun z=>k (pd z) os [] [])=some x):GoalQ N os r ρ (.shift l a b) k x:=by
 have hh:=wF F e;clear e;obtain⟨v,va,e,ka,ra⟩:=hh;have hh:=wF F e;clear e;obtain⟨w,vb,e,kb,rb⟩:=hh;have hh:=zj e;clear e;obtain⟨z,hz,e⟩:=hh;cases v<;>cases w<;>simp only[yv]at hz<;>first|cases hz|skip
 rename_i k1 n1 k2 n2;obtain⟨c,h1,h2⟩:=zpc hz;rw[ye ra rfl]at ka;rw[ye rb rfl]at kb;refine .quiet I (v:=.s (.one c)) (fun call=>?_) (yG h2) e
 simp only[runK,ka,kb,zC];show retC N.h ((bif l then zdG else zdF) k1 n1 n2)=_
 rw[h1];rfl
theorem zq7(I:InvO E N os)(F:∀i,RepPA N (r i) (ρ i)){op:BinOp}{a b:Operand}(e:wd (pv ρ a) (fun v=>wd (pv ρ b) fun w=>za (pStr op v w) fun z=>k (pd z) os [] [])=some x):GoalQ N os r ρ (.str op a b) k x:=by
 have hh:=wF F e;clear e;obtain⟨v,va,e,ka,ra⟩:=hh;have hh:=wF F e;clear e;obtain⟨w,vb,e,kb,rb⟩:=hh;have hh:=zj e;clear e;obtain⟨z,hz,e⟩:=hh;cases v<;>cases w<;>simp only[pStr]at hz<;>first|cases hz|skip
 rename_i s1 s2;obtain⟨c,h1,h2⟩:=zpc hz;rw[ye ra rfl]at ka;rw[ye rb rfl]at kb;refine .quiet I (v:=.s (.one c)) (fun call=>?_) (yG h2) e
 simp only[runK,ka,kb,zC];show retC N.h (znv op s1 s2)=_;rw[h1];rfl
theorem zq8(I:InvO E N os)(F:∀i,RepPA N (r i) (ρ i)){a:Operand}(e:wd (pv ρ a) (fun v=>za (pNot v) fun z=>k (pd z) os [] [])=some x):GoalQ N os r ρ (.not a) k x:=by
 have hh:=wF F e;clear e;obtain⟨v,va,e,ka,ra⟩:=hh;have hh:=zj e;clear e;obtain⟨z,hz,e⟩:=hh;cases v<;>simp only[pNot]at hz<;>cases hz;rw[ye ra rfl]at ka;exact .quiet I (fun call=>by simp only[runK,ka,zC];rfl) (yG rfl) e
theorem zq9(I:InvO E N os)(F:∀i,RepPA N (r i) (ρ i)){a:Operand}(e:wd (pv ρ a) (fun v=>za (pNeg v) fun z=>k (pd z) os [] [])=some x):GoalQ N os r ρ (.neg a) k x:=by
 have hh:=wF F e;clear e;obtain⟨v,va,e,ka,ra⟩:=hh;have hh:=zj e;clear e;obtain⟨z,hz,e⟩:=hh;cases v<;>simp only[pNeg]at hz<;>cases hz;rw[ye ra rfl]at ka;exact .quiet I (fun call=>by simp only[runK,ka,zC];rfl) (yG rfl) e
theorem zn8(I:InvO E N os)(F:∀i,RepPA N (r i) (ρ i)){t:IntKind}{a:Operand}(e:wd (pv ρ a) (fun v=>za (yg t v) fun z=>k (pd z) os [] [])=some x):GoalQ N os r ρ (.conv t a) k x:=by
 have hh:=wF F e;clear e;obtain⟨v,va,e,ka,ra⟩:=hh;have hh:=zj e;clear e;obtain⟨z,hz,e⟩:=hh;cases v<;>simp only[yg]at hz<;>cases hz;rw[ye ra rfl]at ka;exact .quiet I (fun call=>by simp only[runK,ka,zC];rfl) (yG rfl) e
theorem zn5(I:InvO E N os)(F:∀i,RepPA N (r i) (ρ i)){a:Operand}(e:wd (pv ρ a) (fun v=>za (ziv v) fun z=>k (pd z) os [] [])=some x):GoalQ N os r ρ (.lenS a) k x:=by
 have hh:=wF F e;clear e;obtain⟨v,va,e,ka,ra⟩:=hh;have hh:=zj e;clear e;obtain⟨z,hz,e⟩:=hh;cases v<;>simp only[ziv]at hz<;>cases hz;rw[ye ra rfl]at ka;exact .quiet I (fun call=>by simp only[runK,ka,zC];rfl) (yG rfl) e
theorem zhV:∀{l:List UInt8} {i:Nat} {z:DV},zgv l i=some z→∃c,zbK l i=some c∧z.scal=some c
 | [],i,z,e=>by cases e
 |u::l,i,z,e=>by
  simp only[zgv,zbK]at e ⊢;cases hb:Nat.beq i 0 with
  |true=>rw[hb]at e;cases e;exact⟨_,rfl,rfl⟩
  |false=>rw[hb]at e;exact zhV e
theorem zkg(I:InvO E N os)(F:∀i,RepPA N (r i) (ρ i)){a b:Operand}(e:wd (pv ρ a) (fun v=>wd (pv ρ b) fun w=>za (qV v w) fun z=>k (pd z) os [] [])=some x):GoalQ N os r ρ (.ixstr a b) k x:=by
 have hh:=wF F e;clear e;obtain⟨v,va,e,ka,ra⟩:=hh;have hh:=wF F e;clear e;obtain⟨w,vb,e,kb,rb⟩:=hh;have hh:=zj e;clear e;obtain⟨z,hz,e⟩:=hh;cases v<;>first|cases hz|skip
 cases w<;>first|cases hz|skip
 rename_i s kk n;cases n with
 |negSucc n=>cases hz
 |ofNat n=>
  simp only[qV]at hz;obtain⟨c,h1,h2⟩:=zhV hz;rw[ye ra rfl]at ka;rw[ye rb rfl]at kb;refine .quiet I (v:=.s (.one c)) (fun call=>?_) (yG h2) e
  simp only[runK,ka,kb,zC];show retC N.h (zbK s.data.toList n)=_;rw[h1];rfl
theorem ue{t:Tr AVal}{x:Option DV}{o:Option AVal}{d y i:Nat}(hx:∀v,x=some v→∃w,o=some w∧RepPA N w (pd v))(hn:x=none→o=none)(e:bndD x d y=some i):bnd t (cO o) d y=some i:=by
 cases x with
 |none=>rw[hn rfl];exact e
 |some v=>
  obtain⟨w,rfl,hw⟩:=hx v rfl;cases v<;>first|cases e|skip
  rename_i kk n;cases n with
  |negSucc n=>cases e
  |ofNat n=>rw[ye hw rfl];exact e
theorem zgY(F:∀i,RepPA N (r i) (ρ i)){a:Option Operand}{x:Option DV}(e:pvo ρ a=some x):∃o,kvo r a=some o∧(∀v,x=some v→∃w,o=some w∧RepPA N w (pd v))∧(x=none→o=none):=by
 cases a with
 |none=>cases e;exact⟨none,rfl,fun v h=>(by cases h),fun _=>rfl⟩
 |some a=>
  simp only[pvo]at e;split at e
  ·rename_i v hv;cases e;obtain⟨w,k1,k2⟩:=wq F hv;exact⟨some w,by simp only[kvo,k1],fun v h=>by cases h;exact⟨w,rfl,k2⟩,fun h=>by cases h⟩
  ·cases e
theorem zhb(I:InvO E N os)(F:∀i,RepPA N (r i) (ρ i)){a:Operand}{lo hi:Option Operand}(e:wd (pv ρ a) (fun v=>za (pvo ρ lo) fun lo=>za (pvo ρ hi) fun hi=>za (zfD v lo hi) fun z=>k (pd z) os [] [])=some x):GoalQ N os r ρ (.sslice a lo hi) k x:=by
 have hh:=wF F e;clear e;obtain⟨v,va,e,ka,ra⟩:=hh;have hh:=zj e;clear e;obtain⟨l,hl,e⟩:=hh;have hh:=zj e;clear e;obtain⟨h,hh,e⟩:=hh;have hh:=zj e;clear e;obtain⟨z,hz,e⟩:=hh;obtain⟨ol,kl,l1,l2⟩:=zgY F hl;obtain⟨oh,kh,h1,h2⟩:=zgY F hh;cases v<;>first|cases hz|skip
 rename_i s;simp only[zfD]at hz;cases hb:bndD h s.size s.size with
 |none=>rw[hb]at hz;cases hz
 |some y=>
  rw[hb]at hz;simp only at hz;cases hb2:bndD l 0 y with
  |none=>rw[hb2]at hz;cases hz
  |some q=>
   rw[hb2]at hz;cases hz;rw[ye ra rfl]at ka;refine .quiet I (v:=.s (.one (.str (s.extract q y)))) (fun call=>?_) (yG rfl) e
   simp only[runK,ka,kl,kh,zC];show xy (zr (.s (.one (.str s)))) (cO ol) (cO oh) yh .nil N.h=_;simp only[xy,zr,ue h1 h2 hb,ue l1 l2 hb2]
theorem zkD{m:Bool}{t:IntKind}:∀{l:List DV} {vs:List AVal} {a z:Int},(∀(j:Nat) (d:DV) (v:AVal),l[j]? = some d→vs[j]? = some v→RepPA N v (pd d))→vs.length=l.length→minD m t l a=some z→minI m t .nil (cL vs) a=some z
 | [],[],a,z,_,_,e=>e
 |d::l,v::vs,a,z,H,hl,e=>by
  cases d<;>first|cases e|skip
  rename_i t' n;simp only[minD]at e;have:=ye (H 0 _ _ rfl rfl) rfl;subst this;show minI m t .nil (zr _::cL vs) a=some z;simp only[minI,zr];cases hk:eqK t t' with
  |false=>rw[hk]at e;cases e
  |true=>
   rw[hk]at e;exact zkD (fun j d v h1 h2=>H (j+1) d v (by simpa using h1) (by simpa using h2)) (by simpa using hl) e
 | [],_::_,_,_,_,hl,_=>by simp at hl
 |_::_,[],_,_,_,hl,_=>by simp at hl
theorem znX(F:∀i,RepPA N (r i) (ρ i)):∀{xs:List Operand} {l:List DV},pvd ρ xs=some l→∃vs,kvs r xs=some vs∧vs.length=l.length∧∀(j:Nat) (d:DV) (v:AVal),l[j]? = some d→vs[j]? = some v→RepPA N v (pd d)
 | [],l,e=>by cases e;exact⟨[],rfl,rfl,fun j d v h=>by simp at h⟩
 |x::xs,l,e=>by
  simp only[pvd]at e;split at e
  ·rename_i v l' hv hl;cases e;obtain⟨w,k1,k2⟩:=wq F hv;obtain⟨vs,k3,k4,k5⟩:=znX F hl;refine⟨w::vs,by simp only[kvs,k1,k3],by simp[k4],fun j d u h1 h2=>?_⟩
   cases j with
   |zero=>simp only[List.getElem?_cons_zero,Option.some.injEq]at h1 h2;subst h1;subst h2;exact k2
   |succ j=>exact k5 j d u (by simpa using h1) (by simpa using h2)
  ·cases e
theorem zhc(I:InvO E N os)(F:∀i,RepPA N (r i) (ρ i)){m:Bool}{a:Operand}{xs:List Operand}(e:wd (pv ρ a) (fun v=>za (pvd ρ xs) fun l=>za (ul m v l) fun z=>k (pd z) os [] [])=some x):GoalQ N os r ρ (.minmax m a xs) k x:=by
 have hh:=wF F e;clear e;obtain⟨v,va,e,ka,ra⟩:=hh;have hh:=zj e;clear e;obtain⟨l,hl,e⟩:=hh;have hh:=zj e;clear e;obtain⟨z,hz,e⟩:=hh;obtain⟨vs,k3,k4,k5⟩:=znX F hl;cases v<;>first|cases hz|skip
 rename_i t n;simp only[ul]at hz;cases hm:minD m t l n with
 |none=>rw[hm]at hz;cases hz
 |some q=>
  rw[hm]at hz;cases hz;rw[ye ra rfl]at ka;refine .quiet I (v:=.s (.one (.int t q))) (fun call=>?_) (yG rfl) e
  simp only[runK,ka,k3,zC];show y0 m (zr (.s (.one (.int t n)))) (cL vs) yh .nil N.h=_;simp only[y0,zr,zkD k5 k4 hm]
theorem zn1(I:InvO E N os)(F:∀i,RepPA N (r i) (ρ i)){c a b:Operand} (e:wd (pv ρ c) (fun v=>za (pv ρ a) fun a=>za (pv ρ b) fun b=>
  match a,b with
  | .s (.one (.d x)),.s (.one (.d y))=>za (zoY v x y) fun z=>k (pd z) os [] []
  |a,b=>ifB v (k a os [] []) (k b os [] []))=some x):GoalQ N os r ρ (.pick c a b) k x:=by
 have hh:=wF F e;clear e;obtain⟨v,vc,e,kc,rc⟩:=hh;have hh:=zj e;clear e;obtain⟨pa,ha,e⟩:=hh;have hh:=zj e;clear e;obtain⟨pb,hb,e⟩:=hh;obtain⟨va,ka,ra⟩:=wq F ha;obtain⟨vb,kb,rb⟩:=wq F hb;have hv:∃q,v=.bool q∧k (bif q then pa else pb) os [] []=some x:=by
  split at e
  ·have hh:=zj e;clear e;obtain⟨z,hz,e⟩:=hh;cases v<;>simp only[zoY]at hz<;>cases hz;rename_i q;exact⟨q,rfl,by cases q<;>exact e⟩
  ·cases v<;>first|cases e|skip
   rename_i q;exact⟨q,rfl,by cases q<;>exact e⟩
 obtain⟨q,rfl,hk⟩:=hv;rw[ye rc rfl]at kc;refine .quiet I (v:=bif q then va else vb) (fun call=>by simp only[runK,ka,kb,kc,zC];rfl) ?_ hk
 cases q
 ·exact rb
 ·exact ra
end
end Go.PE
end
section
namespace Go.PE
open Go Go.CE
section
variable {β:Type} {C:Nat→zh} {E:En} {lk:Nat→Bool} {N:Nm} {os:List PO} {r:Fr} {ρ:Nat→PA} {k:KT β} {x:β}
theorem zj0{n:Option Nat}{ps:List PC}{off:Nat}{K:PV→Option β}{y:β}(e:zep n ps off K=some y):n≠some 0∧zan n ps off K=some y:=by
 unfold zep at e;split at e
 ·cases e
 ·rename_i h;exact⟨h,e⟩
theorem zdd{n:Option Nat}{ps:List PC}{cs:List CVal}{base off m:Nat}{o:AObj}{K:PV→Option β}{y:β}(h:AHeap)(hr:rd m base o=some cs)(H:RepPL N cs ps)(h0:n≠some 0∨o≠.void)(e:zan n ps off K=some y):
  ∃p s,K p=some y∧loadAt n h (base+off) (some o)=some (.s s,h)∧RepPV N s p:=by
 cases n with
 |none=>
  simp only[zan]at e;obtain⟨c,hc,e⟩:=zj e;have hl:=H.len;have hi:=(Lz0.1 hc).1;obtain⟨v,hv⟩:∃v,cs[off]? = some v:=⟨_,Lz5 (by omega)⟩
  exact⟨.one c,.one v,e,zmE h hr hv,H.get hv hc⟩
 |some n=>
  simp only[zan]at e;cases hb:Nat.ble (off+n) ps.length with
  |false=>rw[hb]at e;cases e
  |true=>
   rw[hb]at e;have hle:=Lz4 hb;have hl:=H.len;have hm:=zce hr;exact⟨_,.agg ((cs.drop off).take n),e,zoU h (zcd hr (by omega)) (h0.imp (fun hh he=>hh (by rw[he])) id),(H.drop off).take n⟩
theorem zoX{n:Option Nat}{ps:List PC}{cs:List CVal}{off:Nat}{K:PV→Option β}{y:β}(h:AHeap)(H:RepPL N cs ps)(e:zan n ps off K=some y):
  ∃p s,K p=some y∧CE.part n cs off h=some (.s s,h)∧RepPV N s p∧∀N':Nm,RepPL N' cs ps→RepPV N' s p:=by
 cases n with
 |none=>
  simp only[zan]at e;obtain⟨c,hc,e⟩:=zj e;have hl:=H.len;have hi:=(Lz0.1 hc).1;obtain⟨v,hv⟩:∃v,cs[off]? = some v:=⟨_,Lz5 (by omega)⟩
  refine⟨.one c,.one v,e,?_,H.get hv hc,fun N' X=>X.get hv hc⟩
  show retC h (vY cs off)=_;rw[xK,hv];rfl
 |some n=>
  simp only[zan]at e;cases hb:Nat.ble (off+n) ps.length with
  |false=>rw[hb]at e;cases e
  |true=>
   rw[hb]at e;have hle:=Lz4 hb;have hl:=H.len;refine⟨_,.agg ((cs.drop off).take n),e,?_,(H.drop off).take n,fun N' X=>(X.drop off).take n⟩
   show retA h (cut n cs off)=_;rw[zbB cs n off (by omega)];rfl
theorem zhB:∀(x:List DV),exp x x.length 0=x:=by
 have key:∀(p x:List DV),exp (p++x) x.length p.length=x:=by
  intro p x
  induction x generalizing p with
  |nil=>rfl
  |cons d x ih=>
   simp only[List.length_cons,exp];have h1:∀q:List DV,atD (q++d::x) q.length=d:=by
    intro q
    induction q with
    |nil=>rfl
    |cons a q ih=>show atD (q++d::x) q.length=d;exact ih
   have h2:=ih (p++[d]);simp only[List.append_assoc,List.cons_append,List.nil_append,List.length_append,List.length_cons,List.length_nil]at h2;rw[h1 p]
   congr 1
 intro x;exact key [] x
theorem uw(I:InvO E N os){j:Nat}{ps:List PC}(ho:og os j=.box ps):∃b cs,N.μ j=.ptr b 0∧¬N.fz b∧N.h.t.get b=some (.cells cs 0)∧RepPL N cs ps:=by
 have:=I.obj j;rw[ho]at this;exact this
theorem zbO(I:InvO E N os){j st:Nat}{xs:List (List DV)}(ho:og os j=.arr st (some xs)):∃b vs ex,N.μ j=.slc b 0 xs.length (bif ex then xs.length else 0) ex∧¬N.fz b∧N.h.t.get b=some (.cells vs st)∧vs.length=xs.length*st∧
   ∀(i:Nat) (x:List DV),xs[i]? = some x→x.length=st∧RepL N.fz N.h ((vs.drop (i*st)).take st) x:=by
 have:=I.obj j;rw[ho]at this;exact this
theorem zk5:∀{cs:List PC} {st n off:Nat} {l:List DV},gath cs st n off=some l→∀i,i<n→cs[off+i*st]? = some (.d (atD l i))
 |cs,st,0,off,l,_,i,hi=>by omega
 |cs,st,n+1,off,l,e,i,hi=>by
  simp only[gath]at e;split at e
  ·rename_i v l' h1 h2;cases e;cases i with
   |zero=>simpa[atD] using h1
   |succ i=>
    have:=zk5 h2 i (by omega)
    rw[show off+(i+1)*st=off+st+i*st by rw[Nat.succ_mul];omega,this]
    rfl
  ·cases e
theorem zhp:∀{cs:List PC} {st len i m off:Nat} {l:List PC},ipC cs st len i m off=some l→i<len→l.length=m∧∀j,j<m→cs[off+j+i*st]? = l[j]?
 |cs,st,len,i,0,off,l,e,_=>by cases e;exact⟨rfl,fun j hj=>by omega⟩
 |cs,st,len,i,m+1,off,l,e,hi=>by
  simp only[ipC]at e;split at e
  ·rename_i g r h1 h2;cases e;obtain⟨k1,k2⟩:=zhp h2 hi;refine⟨by simp[k1],fun j hj=>?_⟩
   cases j with
   |zero=>simpa using zk5 h1 i hi
   |succ j=>
    have:=k2 j (by omega)
    rw[List.getElem?_cons_succ,←this]
    congr 1
    omega
  ·cases e
theorem zdw{cs:List CVal}{ps:List PC}(H:RepPL N cs ps){st len i m off:Nat}{l:List PC}(e:ipC ps st len i m off=some l)(hi:i<len)(hm:m≠0):off+i*st+m≤cs.length∧RepPL N ((cs.drop (off+i*st)).take m) l:=by
 obtain⟨h1,h2⟩:=zhp e hi;have hb:off+m+i*st≤cs.length:=by
  have:=h2 (m-1) (by omega)
  have hx:(l[m-1]?).isSome=true:=by simp[h1];omega
  rw[←this]at hx;have:=(Lz0.1 (Option.eq_some_of_isSome hx)).1;have:=H.len;omega
 refine⟨by omega,RepPL.of ?_ fun j c p hc hp=>?_⟩
 ·simp;omega
 ·rw[List.getElem?_take]at hc;split at hc
  ·rename_i hj;rw[List.getElem?_drop]at hc;have:=h2 j hj;rw[hp]at this;exact H.get (j:=off+j+i*st) (by rw[←hc];congr 1;omega) this
  ·cases hc
theorem zn4(I:InvO E N os)(F:∀i,RepPA N (r i) (ρ i)){n:Option Nat}{a:Operand}(e:w1 (pv ρ a) (fun c=>zj2 os n c k)=some x):GoalQ N os r ρ (.load n a) k x:=by
 have hh:=ug F e;clear e;obtain⟨c,v,e,ka,ra,pka⟩:=hh;have fpc:∀(w:CVal) (xs:List DV) (off:Nat) (rd:List Nat),(v=.s (.one w)→MemI N os r ρ a rd)→Rep N.fz N.h w (.fp xs off)→(zep n (xs.map .d) off fun v=>k (.s v) os [] rd)=some x→v=.s (.one w)→GoalQ N os r ρ (.load n a) k x:=by
  intro w xs off rd hmi hw e hv;obtain⟨b,o,base,cs,rfl,h1,h2,h3,h4⟩:=hw.fp_inv;obtain⟨h0,e⟩:=zj0 e;obtain⟨p,s,e,hl,hp⟩:=zdd N.h h3 (.ofD h4) (.inl h0) e;refine .quiet I (v:=.s s) (fun call=>?_) (.of hp) e (hm:=fun xo hx=>by cases hx;exact hmi hv)
  simp only[runK,ka,hv,zC];show loadAt n N.h (base+off) (N.h.t.get b)=_;rw[h2,hl]
 cases c with
 |d d=>
  cases d<;>first|cases e|skip
  obtain⟨w,hv,hw⟩:=wt ra;refine fpc w _ _ _ (fun hv=>?_) hw e hv
  obtain⟨b,o,base,cs,rfl,h1,_⟩:=hw.fp_inv;refine⟨_,ka.trans (by rw[hv]),.inr ⟨b,rfl,.inr ⟨rfl,fun N' H=>?_⟩⟩⟩
  obtain⟨w',hw',hr'⟩:=wt (H _ _ ka pka);rw[hv]at hw';cases hw';obtain⟨b2,o2,base2,cs2,q1,q2,q3,_⟩:=hr'.fp_inv;rw[(CVal.ptr.inj q1).1];exact⟨q2,_,q3⟩
 |own j=>cases e
 |ptr j off=>
  simp only[zj2]at e;obtain⟨w,hv,hj,b,hb,rfl⟩:=yl ra;subst hv;cases ho:og os j with
  |box ps=>
   rw[ho]at e;simp only at e;obtain⟨b',cs,h1,h2,h3,h4⟩:=uw I ho;rw[hb]at h1;cases h1;obtain⟨p,s,e,hl,hp⟩:=zdd (o:=.cells cs 0) (base:=0) N.h (zjO rfl) h4 (.inr (by intro hh;cases hh)) e
   refine .quiet I (v:=.s s) (fun call=>?_) (.of hp) e (hm:=fun xo hx=>by
    cases hx;exact⟨_,ka,.inr ⟨b,rfl,.inl ⟨j,rfl,hj,by rw[hb];rfl,by rw[ho];trivial,fun N' H=>(yl (H _ _ ka pka)).elim fun _ q=>q.2.1⟩⟩⟩)
   simp only[runK,ka,zC];show loadAt n N.h off (N.h.t.get b)=_;rw[h3]
   simpa using hl
  |fbox ds=>
   rw[ho]at e;simp only at e;have hO:=I.obj j;rw[ho]at hO;obtain⟨b',h1,h2⟩:=hO;rw[hb]at h1;cases h1;obtain⟨b1,o1,base,cs,e1,e2,e3,e4,e5⟩:=h2.fp_inv;cases e1;refine fpc (.ptr b off) ds off _ (fun _=>⟨_,ka,.inr ⟨b,rfl,.inl ⟨j,rfl,hj,by rw[hb];rfl,by rw[ho];trivial,fun N' H=>(yl (H _ _ ka pka)).elim fun _ q=>q.2.1⟩⟩⟩) ?_ e rfl
   have:=Rep.fp_mk (off:=off) e2 e3 e4 e5
   rwa [show (0+off)=off by omega]at this
  |_=>rw[ho]at e;cases e
 |ep j st i off=>
  simp only[zj2]at e;obtain⟨w,hv,hj,b,l,cap,ex,hb,rfl,hil⟩:=yl ra;subst hv;cases ho:og os j with
  |arr st' vo=>
   rw[ho]at e;simp only at e;cases hs:Nat.beq st st' with
   |false=>rw[hs]at e;cases e
   |true=>
    rw[hs]at e;have:=Lz1 hs;subst this;simp only[cond_true]at e;have hh:=zj e;clear e;obtain⟨y,hy,e⟩:=hh;cases vo with
    |none=>cases hy
    |some xs=>
     obtain⟨b',vs,ex',h1,h2,h3,h4,h5⟩:=zbO I ho;rw[hb]at h1;cases h1;obtain⟨k1,k2⟩:=h5 i y hy;have he:=zhB y;rw[k1]at he;rw[he]at e;have hi:=(Lz0.1 hy).1;have hr:rd st (i*st) (.cells vs st)=some ((vs.drop (i*st)).take st):=by
      have:=Nat.mul_le_mul_right st (show i+1≤xs.length from hi)
      rw[Nat.succ_mul]at this;exact zbB vs st (i*st) (by omega)
     obtain⟨p,s,e,hl,hp⟩:=zdd N.h hr (.ofD k2) (.inr (by intro hh;cases hh)) e
     refine .quiet I (v:=.s s) (fun call=>?_) (.of hp) e (hm:=fun xo hx=>by
    cases hx;exact⟨_,ka,.inr ⟨b,rfl,.inl ⟨j,rfl,hj,by rw[hb];rfl,by rw[ho];trivial,fun N' H=>(yl (H _ _ ka pka)).elim fun _ q=>q.2.1⟩⟩⟩)
     simp only[runK,ka,zC];show loadAt n N.h (i*st+off) (N.h.t.get b)=_;rw[h3,hl]
  |_=>rw[ho]at e;cases e
 |ip j f len st i o=>
  simp only[zj2]at e;obtain⟨w,hv,hj,b,hb,rfl,hil⟩:=yl ra;subst hv;cases ho:og os j with
  |box ps=>
   rw[ho]at e;simp only at e;obtain⟨b',cs,h1,h2,h3,h4⟩:=uw I ho;rw[hb]at h1;cases h1;cases n with
   |none=>
    simp only at e;have hh:=zj e;clear e;obtain⟨l,hl,e⟩:=hh;obtain⟨q1,q2⟩:=zdw h4 hl hil (by omega)
    have ql:=(zhp hl hil).1
    match l,e,q2,ql with
    | [p],e,q2,_=>
     simp only at e
     match hc:(List.drop (f+o+i*st) cs).take 1,q2 with
     | [c],q2=>
      have hcc:cs[f+o+i*st]? = some c:=by
       have:=congrArg List.head? hc;rw[List.take_one]at this;cases hd:(List.drop (f+o+i*st) cs).head? with
       |none=>rw[hd]at this;cases this
       |some c'=>rw[hd]at this;cases this;rwa [List.head?_drop]at hd
      refine .quiet I (v:=.s (.one c)) (fun call=>?_) (y7 q2.1) e (hm:=fun xo hx=>by
    cases hx;exact⟨_,ka,.inr ⟨b,rfl,.inl ⟨j,rfl,hj,by rw[hb];rfl,by rw[ho];trivial,fun N' H=>(yl (H _ _ ka pka)).elim fun _ q=>q.2.1⟩⟩⟩)
      simp only[runK,ka,zC];show loadAt none N.h (f+i*st+o) (N.h.t.get b)=_;rw[h3,show f+i*st+o=f+o+i*st by omega]
      show retC N.h (vY cs _)=_;rw[xK,hcc];rfl
   |some m=>
    simp only at e;cases hm:Nat.beq m 0 with
    |true=>rw[hm]at e;cases e
    |false=>
     rw[hm]at e;simp only[cond_false]at e;have hh:=zj e;clear e;obtain⟨l,hl,e⟩:=hh;obtain⟨q1,q2⟩:=zdw h4 hl hil (fun h=>by subst h;cases hm)
     refine .quiet I (v:=.s (.agg ((cs.drop (f+o+i*st)).take m))) (fun call=>?_) (RepPA.of (v:=.agg _) (p:=.agg l) q2) e (hm:=fun xo hx=>by
    cases hx;exact⟨_,ka,.inr ⟨b,rfl,.inl ⟨j,rfl,hj,by rw[hb];rfl,by rw[ho];trivial,fun N' H=>(yl (H _ _ ka pka)).elim fun _ q=>q.2.1⟩⟩⟩)
     simp only[runK,ka,zC];show loadAt (some m) N.h (f+i*st+o) (N.h.t.get b)=_;rw[h3,show f+i*st+o=f+o+i*st by omega]
     show retA N.h (cut m cs _)=_;rw[zbB cs m _ (by omega)];rfl
  |_=>rw[ho]at e;cases e
 |vw j st lo len=>cases e
 |clo f caps=>cases e
theorem zke(I:InvO E N os)(F:∀i,RepPA N (r i) (ρ i)){a:Operand} (e:w1 (pv ρ a) (fun c=>
  match c with
  | .ptr j off=>k (pc (.ptr j off)) os [] []
  | .clo f l=>k (pc (.clo f l)) os [] []
  | .d (.fp xs off)=>k (pd (.fp xs off)) os [] []
  |_=>none)=some x):GoalQ N os r ρ (.nilck a) k x:=by
 have hh:=ug F e;clear e;obtain⟨c,v,e,ka,ra,pka⟩:=hh;split at e
 ·obtain⟨w,rfl,hw⟩:=yl ra;have hw':=hw;obtain⟨hj,b,hb,rfl⟩:=hw;exact .quiet I (fun call=>by simp only[runK,ka,zC];rfl) (y7 hw') e (zbo ka pka fun N' H=>H)
 ·obtain⟨w,rfl,hw⟩:=yl ra;have hw':=hw;obtain⟨ps,rfl,hc⟩:=hw;exact .quiet I (fun call=>by simp only[runK,ka,zC];rfl) (y7 hw') e (zbo ka pka fun N' H=>H)
 ·obtain⟨w,rfl,hw⟩:=wt ra;obtain⟨b,o,base,cs,rfl,_⟩:=hw.fp_inv;exact .quiet I (fun call=>by simp only[runK,ka,zC];rfl) ra e (zbo ka pka fun N' H=>H)
 ·cases e
theorem zg5{w:CVal}{v:DV}{q:Bool}(H:Rep N.fz N.h w v)(e:za1 v=some q)(neg:Bool)(h:AHeap):zjd neg (.s (.one w)) (.s (.one .nils)) h=some (.s (.one (.bool (bif neg then !q else q))),h):=by
 cases v<;>simp only[za1]at e<;>cases e
 ·rw[H.scal rfl];cases neg<;>rfl
 ·obtain⟨b,o,off,cap,ex,cs,rfl,_⟩:=H.lst_inv;cases neg<;>rfl
theorem zn2(I:InvO E N os)(F:∀i,RepPA N (r i) (ρ i)){neg:Bool}{a b:Operand} (e:w1 (pv ρ a) (fun c=>wd (pv ρ b) fun w=>
  match w with
  | .nils=>
   match c with
   | .d v=>za (za1 v) fun q=>k (pd (.bool (bif neg then !q else q))) os [] []
   | .own j=>
    match og os j with
    | .arr _ v=>k (pd (.bool (bif neg then v.isSome else v.isNone))) os [] []
    | .frz v=>za (za1 v) fun q=>k (pd (.bool (bif neg then !q else q))) os [] []
    |_=>none
   |_=>none
  |_=>none)=some x):GoalQ N os r ρ (.nilS neg a b) k x:=by
 have hh:=ug F e;clear e;obtain⟨c,v,e,ka,ra,pka⟩:=hh;have hh:=wF F e;clear e;obtain⟨w,u,e,kb,rb⟩:=hh;cases w<;>first|cases e|skip
 simp only at e;rw[ye rb rfl]at kb;cases c<;>first|cases e|skip
 ·rename_i d;simp only at e;have hh:=zj e;clear e;obtain⟨q,hq,e⟩:=hh;obtain⟨c,rfl,hc⟩:=wt ra;exact .quiet I (fun call=>by simp only[runK,ka,kb,zC];exact zg5 hc hq neg N.h) (yG rfl) e
 ·rename_i j;simp only at e;obtain⟨c,rfl,hj,hc⟩:=yl ra;cases ho:og os j with
  |arr st vo=>
   rw[ho]at e;simp only at e;have hO:=I.obj j;rw[ho]at hO;refine .quiet I (fun call=>?_) (yG rfl) e
   simp only[runK,ka,kb,zC];cases vo with
   |none=>rw[hc,show N.μ j=.nils from hO];cases neg<;>rfl
   |some xs=>
    obtain⟨b,vs,ex,h1,_⟩:=hO;rw[hc,h1];cases neg<;>rfl
  |frz d=>
   rw[ho]at e;simp only at e;have hO:=I.obj j;rw[ho]at hO;have hh:=zj e;clear e;obtain⟨q,hq,e⟩:=hh;exact .quiet I (fun call=>by simp only[runK,ka,kb,zC];rw[hc];exact zg5 hO hq neg N.h) (yG rfl) e
  |_=>rw[ho]at e;cases e
theorem zlj{t:Nat}{a b:CVal}{v w:DV}{q:Bool}{fz:BN→Prop}{h:AHeap}(ha:Rep fz h a v)(hb:Rep fz h b w)(e:eqD t v w=some q):eqC t a b=some q:=by
 unfold eqD at e;split at e
 ·rw[ha.scal rfl,hb.scal rfl];exact e
 ·rw[ha.scal rfl,hb.scal rfl];exact e
 ·rw[ha.scal rfl,hb.scal rfl];exact e
 ·cases e
theorem zge{fz:BN→Prop}{h:AHeap}:∀{ks:List Nat} {as bs:List CVal} {vs ws:List DV} {q:Bool},RepL fz h as vs→RepL fz h bs ws→eqDs ks vs ws=some q→eqCs ks as bs=some q
 | [],[],[],[],[],q,_,_,e=>e
 |k::ks,a::as,b::bs,v::vs,w::ws,q,ha,hb,e=>by
  obtain⟨a1,a2⟩:=ha.inv;obtain⟨b1,b2⟩:=hb.inv;simp only[eqDs,eqCs]at e ⊢;cases hq:eqD k v w with
  |none=>rw[hq]at e;cases e
  |some p=>
   rw[hq]at e;rw[zlj a1 b1 hq];cases p with
   |true=>exact zge a2 b2 e
   |false=>exact e
 |_,a::as,_,[],_,_,ha,_,_=>by have:=ha.1;simp at this
 |_,[],_,v::vs,_,_,ha,_,_=>by have:=ha.1;simp at this
 |_,_,b::bs,_,[],_,_,hb,_=>by have:=hb.1;simp at this
 |_,_,[],_,w::ws,_,_,hb,_=>by have:=hb.1;simp at this
 | [],[],b::bs,[],w::ws,q,_,_,e=>by cases e
 | [],a::as,[],v::vs,[],q,_,_,e=>by cases e
 | [],a::as,b::bs,v::vs,w::ws,q,_,_,e=>by cases e
 |k::ks,[],[],[],[],q,_,_,e=>by cases e
 |k::ks,[],b::bs,[],w::ws,q,_,_,e=>by cases e
 |k::ks,a::as,[],v::vs,[],q,_,_,e=>by cases e
theorem qQ:∀{ps:List PC} {cs:List CVal} {ds:List DV},allD ps=some ds→RepPL N cs ps→RepL N.fz N.h cs ds
 | [],[],ds,e,_=>by cases e;exact .nil _ _
 | .d v::ps,c::cs,ds,e,H=>by
  simp only[allD]at e;cases hd:allD ps with
  |none=>rw[hd]at e;cases e
  |some l=>rw[hd]at e;cases e;exact .cons H.1 (qQ hd H.2)
 | [],_::_,_,_,H=>H.elim
 |_::_,[],_,_,H=>H.elim
 | .own _::_,_::_,_,e,_=>by cases e
 | .ptr _ _::_,_::_,_,e,_=>by cases e
 | .ep _ _ _ _::_,_::_,_,e,_=>by cases e
 | .ip _ _ _ _ _ _::_,_::_,_,e,_=>by cases e
 | .vw _ _ _ _::_,_::_,_,e,_=>by cases e
 | .clo _ _::_,_::_,_,e,_=>by cases e
theorem zbQ{v:AVal}{ps:List PC}(H:RepPA N v (.s (.agg ps))):∃cs,v=.s (.agg cs)∧RepPL N cs ps:=by
 obtain⟨w,rfl,hw⟩:=H.inv;cases w with
 |one c=>exact hw.elim
 |agg cs=>exact⟨cs,rfl,hw⟩
theorem o_eq(I:InvO E N os)(F:∀i,RepPA N (r i) (ρ i)){q:Nat⊕List Nat}{neg:Bool}{a b:Operand} (e:(match q with
  | .inl t=>wd (pv ρ a) fun v=>wd (pv ρ b) fun w=>za (eqD t v w) fun b=>k (pd (.bool (bif neg then !b else b))) os [] []
  | .inr ks=>
   match pv ρ a,pv ρ b with
   |some (.s (.agg xs)),some (.s (.agg ys))=>za (allD xs) fun xs=>za (allD ys) fun ys=>za (eqDs ks xs ys) fun b=>k (pd (.bool (bif neg then !b else b))) os [] []
   |_,_=>none)=some x):GoalQ N os r ρ (.eq q neg a b) k x:=by
 cases q with
 |inl t=>
  simp only at e;have hh:=wF F e;clear e;obtain⟨v,va,e,ka,ra⟩:=hh;have hh:=wF F e;clear e;obtain⟨w,vb,e,kb,rb⟩:=hh;have hh:=zj e;clear e;obtain⟨p,hp,e⟩:=hh;obtain⟨ca,rfl,ha⟩:=wt ra;obtain⟨cb,rfl,hb⟩:=wt rb;refine .quiet I (v:=.s (.one (.bool (bif neg then !p else p)))) (fun call=>?_) (yG rfl) e
  simp only[runK,ka,kb,zC];show (match eqC t ca cb with|some q=>some (AVal.s (.one (.bool (bif neg then !q else q))),N.h)|none=>none)=_
  rw[zlj ha hb hp]
 |inr ks=>
  simp only at e;split at e
  ·rename_i xs ys hx hy;obtain⟨va,ka,ra⟩:=wq F hx;obtain⟨vb,kb,rb⟩:=wq F hy;have hh:=zj e;clear e;obtain⟨ds,hd,e⟩:=hh;have hh:=zj e;clear e;obtain⟨es,he,e⟩:=hh;have hh:=zj e;clear e;obtain⟨p,hp,e⟩:=hh;obtain⟨ca,rfl,ha⟩:=zbQ ra;obtain⟨cb,rfl,hb⟩:=zbQ rb;refine .quiet I (v:=.s (.one (.bool (bif neg then !p else p)))) (fun call=>?_) (yG rfl) e
   simp only[runK,ka,kb,zC];show (match eqCs ks ca cb with|some q=>some (AVal.s (.one (.bool (bif neg then !q else q))),N.h)|none=>none)=_
   rw[zge (qQ hd ha) (qQ he hb) hp]
  ·cases e
theorem zn7(I:InvO E N os)(F:∀i,RepPA N (r i) (ρ i)){a:Operand}{off:Nat} (e:w1 (pv ρ a) (fun c=>
  match c with
  | .ptr j o=>k (pc (.ptr j (o+off))) os [] []
  | .d (.fp xs o)=>k (pd (.fp xs (o+off))) os [] []
  | .ep j st i o=>k (pc (.ep j st i (o+off))) os [] []
  | .ip j f len st i o=>k (pc (.ip j f len st i (o+off))) os [] []
  |_=>none)=some x):GoalQ N os r ρ (.foff a off) k x:=by
 have hh:=ug F e;clear e;obtain⟨c,v,e,ka,ra,pka⟩:=hh;split at e
 ·rename_i j o;obtain⟨w,rfl,hj,b,hb,rfl⟩:=yl ra;exact .quiet I (v:=.s (.one (.ptr b (o+off)))) (fun call=>by simp only[runK,ka,zC];rfl) (y7 (p:=.ptr j (o+off)) ⟨hj,b,hb,rfl⟩) e (zbo ka pka fun N' H=>by
   obtain⟨w,hw,a1,b2,a2,a3⟩:=yl H;cases hw;cases a3;exact y7 (p:=.ptr j (o+off)) ⟨a1,b,a2,rfl⟩)
 ·obtain⟨w,rfl,hw⟩:=wt ra;obtain⟨b,o,base,cs,rfl,h1,h2,h3,h4⟩:=hw.fp_inv;rename_i xs off';exact .quiet I (v:=.s (.one (.ptr b (base+off'+off)))) (fun call=>by simp only[runK,ka,zC];rfl) (vQ (by rw[Nat.add_assoc];exact .fp_mk h1 h2 h3 h4)) e (zbo ka pka fun N' H=>by
   obtain⟨w,hw,hr⟩:=wt H;cases hw;obtain⟨b2,o2,base2,cs2,a1,a2,a3,a4,a5⟩:=hr.fp_inv;have hb2:b=b2∧base=base2:=by
    cases CVal.ptr.inj a1 with
    |intro x1 x2=>exact⟨x1,by omega⟩
   obtain⟨rfl,rfl⟩:=hb2;exact vQ (by rw[Nat.add_assoc];exact .fp_mk a2 a3 a4 a5))
 ·rename_i j st i o;obtain⟨w,rfl,hj,b,l,cap,ex,hb,rfl,hi⟩:=yl ra;exact .quiet I (v:=.s (.one (.ptr b (i*st+o+off)))) (fun call=>by simp only[runK,ka,zC];rfl) (y7 (p:=.ep j st i (o+off)) ⟨hj,b,l,cap,ex,hb,by simp[Nat.add_assoc],hi⟩) e (zbo ka pka fun N' H=>by
   obtain⟨w,hw,a1,b2,l2,cap2,ex2,a2,a3,a4⟩:=yl H;cases hw;have:=(CVal.ptr.inj a3).1;subst this;exact y7 (p:=.ep j st i (o+off)) ⟨a1,b,l2,cap2,ex2,a2,by simp[Nat.add_assoc],a4⟩)
 ·rename_i j f len st i o;obtain⟨w,rfl,hj,b,hb,rfl,hi⟩:=yl ra;exact .quiet I (v:=.s (.one (.ptr b (f+i*st+o+off)))) (fun call=>by simp only[runK,ka,zC];rfl) (y7 (p:=.ip j f len st i (o+off)) ⟨hj,b,hb,by simp[Nat.add_assoc],hi⟩) e (zbo ka pka fun N' H=>by
   obtain⟨w,hw,a1,b2,a2,a3,a4⟩:=yl H;cases hw;have:=(CVal.ptr.inj a3).1;subst this;exact y7 (p:=.ip j f len st i (o+off)) ⟨a1,b,a2,by simp[Nat.add_assoc],a4⟩)
 ·cases e
theorem zkj(I:InvO E N os)(F:∀i,RepPA N (r i) (ρ i)){a:Operand}{off:Nat}{n:Option Nat} (e:(match pv ρ a with
  |some (.s (.agg cs))=>zan n cs off fun v=>k (.s v) os [] []
  |_=>none)=some x):GoalQ N os r ρ (.field a off n) k x:=by
 split at e
 ·rename_i cs hx;obtain⟨va,ka,ra⟩:=wq F hx;obtain⟨ca,rfl,ha⟩:=zbQ ra;obtain⟨p,s,e,h1,h2,h3⟩:=zoX N.h ha e;exact .quiet I (v:=.s s) (fun call=>by simp only[runK,ka,zC];exact h1) (.of h2) e (zbo ka hx fun N' H=>by
   obtain⟨cs',hcs,hr⟩:=zbQ H;cases hcs;exact .of (h3 N' hr))
 ·cases e
theorem zdh{len:Nat}{i:DV}{n:Nat}(e:jz len i=some n):n<len∧Nat.ble (Nat.succ n) len=true∧∃t,i=.int t (.ofNat n):=by
 cases i<;>first|cases e|skip
 rename_i t m;cases m with
 |negSucc m=>cases e
 |ofNat m=>
  simp only[jz]at e;cases hb:Nat.ble (Nat.succ m) len with
  |false=>rw[hb]at e;cases e
  |true=>rw[hb]at e;cases e;exact⟨Lz4 hb,hb,t,rfl⟩
theorem zdu(I:InvO E N os){st:Nat}{a b:Operand}{v u:AVal}{i:DV}(ka:kv r a=some v)(kb:kv r b=some u)(rb:RepPA N u (pd i))(w:CVal)(d:DV){p:PC}(pka:pv ρ a=some (pc p))(hp:p=.d d∨(∃j,p=.own j)∨∃j s l n,p=.vw j s l n)(hw:Rep N.fz N.h w d)
  (e:(za (pIdx st d i) fun x=>k (pd (.fp (exp x st 0) 0)) os [] [])=some x) (hv:v=.s (.one w)):GoalQ N os r ρ (.ixs st a b) k x:=by
 have hh:=zj e;clear e;obtain⟨y,hy,e⟩:=hh;cases d<;>first|cases hy|skip
 rename_i st' xs;cases i<;>first|cases hy|skip
 rename_i t n;cases n with
 |negSucc n=>cases hy
 |ofNat n=>
  simp only[pIdx]at hy;cases hs:Nat.beq st st' with
  |false=>rw[hs]at hy;cases hy
  |true=>
   rw[hs]at hy;have:=Lz1 hs;subst this;simp only[cond_true]at hy;obtain⟨b',o,off,cap,ex,cs,rfl,h1,h2,h3,h4,h5⟩:=hw.lst_inv;obtain⟨k1,k2⟩:=h5 n y hy;have hi:=(Lz0.1 hy).1;rw[ye rb rfl]at kb;subst hv;have he:=zhB y;rw[k1]at he;rw[he]at e;have:=Nat.mul_le_mul_right st (show n+1≤xs.length from hi)
   rw[Nat.succ_mul]at this;refine .quiet I (v:=.s (.one (.ptr b' (off+n*st)))) (fun call=>?_) (vQ (Rep.fp_mk (off:=0) h1 h2 (cs:=(cs.drop (n*st)).take st) (by rw[k1];exact zcd h4 (by omega)) k2)) e (fun xo hxo N' u' pa' hu' hpa' H=>by
    have htk:trk ρ (.ixs st a b)=(match pv ρ a with|some (.s (.one (.own _)))=>none|some (.s (.one (.vw _ _ _ _)))=>none|_=>some a):=rfl
    rw[pka]at htk;rcases hp with rfl|⟨j,rfl⟩|⟨j,s,l,n,rfl⟩
    ·rw[htk]at hxo;cases hxo;rw[ka]at hu';cases hu';rw[pka]at hpa';cases hpa';obtain⟨w',hw',hr'⟩:=wt H;cases hw';obtain⟨b2,o2,off2,cap2,ex2,cs2,q1,q2,q3,q4,q5,q6⟩:=hr'.lst_inv;cases q1;obtain⟨g1,g2⟩:=q6 n y hy;exact vQ (Rep.fp_mk (off:=0) q2 q3 (cs:=(cs2.drop (n*st)).take st) (by rw[g1];exact zcd q5 (by omega)) g2)
    ·rw[htk]at hxo;cases hxo
    ·rw[htk]at hxo;cases hxo)
   simp only[runK,ka,kb,zC];show (bif Nat.ble (Nat.succ n) xs.length then some (AVal.s (.one (.ptr b' (off+n*st))),N.h) else none)=_
   rw[Nat.ble_eq_true_of_le hi];rfl
theorem zrd(I:InvO E N os)(F:∀i,RepPA N (r i) (ρ i)){st:Nat}{a b:Operand}(e:w1 (pv ρ a) (fun c=>wd (pv ρ b) fun i=>pIxs os st c i k)=some x):GoalQ N os r ρ (.ixs st a b) k x:=by
 have hh:=ug F e;clear e;obtain⟨c,v,e,ka,ra,pka⟩:=hh;have hh:=wF F e;clear e;obtain⟨i,u,e,kb,rb⟩:=hh;cases c<;>first|cases e|skip
 ·rename_i d;simp only[pIxs]at e;obtain⟨w,hv,hw⟩:=wt ra;exact zdu I ka kb rb w d pka (.inl rfl) hw e hv
 ·rename_i j;simp only[pIxs]at e;obtain⟨c,rfl,hj,hc⟩:=yl ra;cases ho:og os j with
  |frz d=>
   rw[ho]at e;have hO:=I.obj j;rw[ho]at hO;exact zdu I ka kb rb c d pka (.inr (.inl ⟨j,rfl⟩)) (by rw[hc];exact hO) e rfl
  |arr st' vo=>
   rw[ho]at e;simp only at e;cases hs:Nat.beq st st' with
   |false=>rw[hs]at e;cases e
   |true=>
    rw[hs]at e;have:=Lz1 hs;subst this;simp only[cond_true]at e;have hh:=zj e;clear e;obtain⟨n,hn,e⟩:=hh;cases i<;>first|cases hn|skip
    rename_i t m;cases m with
    |negSucc m=>cases hn
    |ofNat m=>
     cases vo with
     |none=>cases hn
     |some xs=>
      simp only[jy]at hn;cases hb:Nat.ble (Nat.succ m) xs.length with
      |false=>rw[hb]at hn;cases hn
      |true=>
       rw[hb]at hn;cases hn;obtain⟨b',vs,ex,h1,h2,h3,h4,h5⟩:=zbO I ho;rw[ye rb rfl]at kb;refine .quiet I (v:=.s (.one (.ptr b' (0+n*st)))) (fun call=>?_) (y7 (p:=.ep j st n 0) ⟨hj,b',_,_,_,h1,by simp,Lz4 hb⟩) e (fun xo hxo N' u' pa' hu' hpa' H=>by
        have htk:trk ρ (.ixs st a b)=(match pv ρ a with|some (.s (.one (.own _)))=>none|some (.s (.one (.vw _ _ _ _)))=>none|_=>some a):=rfl
        rw[pka]at htk;rw[htk]at hxo;cases hxo)
       simp only[runK,ka,kb,zC,hc,h1];show (bif Nat.ble (Nat.succ n) xs.length then some (AVal.s (.one (.ptr b' (0+n*st))),N.h) else none)=_
       rw[hb];rfl
  |_=>rw[ho]at e;cases e
 ·rename_i j st' lo len;simp only[pIxs]at e;obtain⟨c,rfl,hc⟩:=yl ra;cases ho:og os j with
  |frz d=>
   rw[ho]at e;have hO:=I.obj j;rw[ho]at hO;exact zdu I ka kb rb c _ pka (.inr (.inr ⟨j,st',lo,len,rfl⟩)) (zdc (N:=N) hO hc) e rfl
  |arr st'' vo=>
   rw[ho]at e;simp only at e;cases hs:Nat.beq st st' with
   |false=>rw[hs]at e;cases e
   |true=>
    rw[hs]at e;have:=Lz1 hs;subst this;simp only[cond_true]at e;have hh:=zj e;clear e;obtain⟨n,hn,e⟩:=hh;obtain⟨h1,h2,t,rfl⟩:=zdh hn;obtain⟨hj,hc⟩:=hc;rcases hc with⟨_,_,_,rfl⟩|⟨b',l,cap,ex,cap',ex',g1,rfl,g2,g3⟩
    ·omega
    ·rw[ye rb rfl]at kb;refine .quiet I (v:=.s (.one (.ptr b' (lo*st+n*st)))) (fun call=>?_) (y7 (p:=.ep j st (lo+n) 0) ⟨hj,b',_,_,_,g1,by rw[Nat.add_mul];rfl,by omega⟩) e (fun xo hxo N' u' pa' hu' hpa' H=>by
      have htk:trk ρ (.ixs st a b)=(match pv ρ a with|some (.s (.one (.own _)))=>none|some (.s (.one (.vw _ _ _ _)))=>none|_=>some a):=rfl
      rw[pka]at htk;rw[htk]at hxo;cases hxo)
     simp only[runK,ka,kb,zC];show (bif Nat.ble (Nat.succ n) len then some (AVal.s (.one (.ptr b' (lo*st+n*st))),N.h) else none)=_
     rw[h2];rfl
  |_=>rw[ho]at e;cases e
theorem zkh(I:InvO E N os)(F:∀i,RepPA N (r i) (ρ i)){len st:Nat}{a b:Operand} (e:w1 (pv ρ a) (fun c=>wd (pv ρ b) fun i=>
  match c with
  | .ptr j off=>za (jz len i) fun n=>k (pc (.ip j off len st n 0)) os [] []
  |_=>none)=some x):GoalQ N os r ρ (.ixarr len st a b) k x:=by
 have hh:=ug F e;clear e;obtain⟨c,v,e,ka,ra,pka⟩:=hh;have hh:=wF F e;clear e;obtain⟨i,u,e,kb,rb⟩:=hh;split at e
 ·have hh:=zj e;clear e;obtain⟨n,hn,e⟩:=hh;obtain⟨h1,h2,t,rfl⟩:=zdh hn;obtain⟨w,rfl,hj,b',hb,rfl⟩:=yl ra;rw[ye rb rfl]at kb;rename_i j off;refine .quiet I (v:=.s (.one (.ptr b' (off+n*st)))) (fun call=>?_) (y7 (p:=.ip j off len st n 0) ⟨hj,b',hb,by simp,h1⟩) e
  simp only[runK,ka,kb,zC];show (bif Nat.ble (Nat.succ n) len then some (AVal.s (.one (.ptr b' (off+n*st))),N.h) else none)=_
  rw[h2];rfl
 ·cases e
theorem zki(I:InvO E N os)(F:∀i,RepPA N (r i) (ρ i)){len st:Nat}{n:Option Nat}{a b:Operand} (e:wd (pv ρ b) (fun i=>
  match pv ρ a with
  |some (.s (.agg cs))=>za (jz len i) fun j=>
   match n with
   |none=>za (ipC cs st len j 1 0) fun l=>match l with | [c]=>k (pc c) os [] []|_=>none
   |some m=>bif Nat.beq m 0 then none else za (ipC cs st len j m 0) fun l=>k (.s (.agg l)) os [] []
  |_=>none)=some x):GoalQ N os r ρ (.ixagg len st n a b) k x:=by
 have hh:=wF F e;clear e;obtain⟨i,u,e,kb,rb⟩:=hh;split at e
 ·rename_i ps hx;obtain⟨va,ka,ra⟩:=wq F hx;obtain⟨cs,rfl,ha⟩:=zbQ ra;have hh:=zj e;clear e;obtain⟨j,hj,e⟩:=hh;obtain⟨h1,h2,t,rfl⟩:=zdh hj;rw[ye rb rfl]at kb;have run:∀call,runK r (.ixagg len st n a b) call N.h=CE.part n cs (j*st) N.h:=fun call=>by
   simp only[runK,ka,kb,zC];show (bif Nat.ble (Nat.succ j) len then CE.part n cs (j*st) N.h else none)=_
   rw[h2];rfl
  cases n with
  |none=>
   simp only at e;have hh:=zj e;clear e;obtain⟨l,hl,e⟩:=hh;obtain⟨q1,q2⟩:=zdw ha hl h1 (by omega)
   rw[Nat.zero_add]at q1 q2;have ql:=(zhp hl h1).1
   match l,e,q2,ql with
   | [p],e,q2,_=>
    simp only at e
    match hc:(List.drop (j*st) cs).take 1,q2 with
    | [c],q2=>
     have hcc:cs[j*st]? = some c:=by
      have:=congrArg List.head? hc;rw[List.take_one]at this;cases hd:(List.drop (j*st) cs).head? with
      |none=>rw[hd]at this;cases this
      |some c'=>rw[hd]at this;cases this;rwa [List.head?_drop]at hd
     refine .quiet I (v:=.s (.one c)) (fun call=>?_) (y7 q2.1) e
     rw[run];show retC N.h (vY cs _)=_;rw[xK,hcc];rfl
  |some m=>
   simp only at e;cases hm:Nat.beq m 0 with
   |true=>rw[hm]at e;cases e
   |false=>
    rw[hm]at e;simp only[cond_false]at e;have hh:=zj e;clear e;obtain⟨l,hl,e⟩:=hh;obtain⟨q1,q2⟩:=zdw ha hl h1 (fun h=>by subst h;cases hm)
    rw[Nat.zero_add]at q1 q2;refine .quiet I (v:=.s (.agg ((cs.drop (j*st)).take m))) (fun call=>?_) (RepPA.of (v:=.agg _) (p:=.agg l) q2) e
    rw[run];show retA N.h (cut m cs _)=_;rw[zbB cs m _ (by omega)];rfl
 ·cases e
theorem RepSL.get{fz:BN→Prop}{h:AHeap}:∀{cs:List SVal} {ds:List DS},RepSL fz h cs ds→∀{i:Nat} {d:DS},ds[i]? = some d→∃c,nthS cs i=some c∧RepS fz h c d
 | [],[],_,i,d,e=>by simp at e
 |c::cs,d0::ds,H,i,d,e=>by
  cases i with
  |zero=>simp only[List.getElem?_cons_zero,Option.some.injEq]at e;subst e;exact⟨c,rfl,H.1⟩
  |succ i=>exact RepSL.get H.2 (i:=i) (by simpa using e)
 | [],_::_,H,_,_,_=>H.elim
 |_::_,[],H,_,_,_=>H.elim
theorem zez(I:InvO E N os)(F:∀i,RepPA N (r i) (ρ i)){a:Operand}{i:Nat} (e:(match pv ρ a with
  |some (.tup l)=>
   match l[i]? with
   |some (.one d)=>k (pd d) os [] []
   |some (.agg ds)=>k (.s (.agg (ds.map .d))) os [] []
   |none=>none
  |_=>none)=some x):GoalQ N os r ρ (.extract a i) k x:=by
 split at e
 ·rename_i l hx;obtain⟨va,ka,ra⟩:=wq F hx;cases va with
  |s v=>exact ra.elim
  |tup vs=>
   have run:∀c,nthS vs i=some c→∀call,runK r (.extract a i) call N.h=some (.s c,N.h):=fun c hc call=>by
    simp only[runK,ka,zC];show (match nthS vs i with|some v=>some (AVal.s v,N.h)|none=>none)=_
    rw[hc]
   split at e
   ·rename_i d hd;obtain⟨c,h1,h2⟩:=RepSL.get ra hd;cases c with
    |agg cs=>exact h2.elim
    |one c=>exact .quiet I (run _ h1) (vQ h2) e (zbo ka hx fun N' H=>by
     obtain⟨c',g1,g2⟩:=RepSL.get (show RepSL N'.fz N'.h vs l from H) hd
     rw[h1]at g1;cases g1;exact vQ g2)
   ·rename_i ds hd;obtain⟨c,h1,h2⟩:=RepSL.get ra hd;cases c with
    |one c=>exact h2.elim
    |agg cs=>exact .quiet I (run _ h1) (RepPA.of (v:=.agg _) (p:=.agg _) (RepPL.ofD h2)) e (zbo ka hx fun N' H=>by
     obtain⟨c',g1,g2⟩:=RepSL.get (show RepSL N'.fz N'.h vs l from H) hd
     rw[h1]at g1;cases g1;exact RepPA.of (v:=.agg _) (p:=.agg _) (RepPL.ofD g2))
   ·cases e
 ·cases e
theorem zj3{w:CVal}{v z:DV}(H:Rep N.fz N.h w v)(e:pLen v=some z)(h:AHeap):∃c,zje (.s (.one w)) h=some (.s (.one c),h)∧z.scal=some c:=by
 cases v<;>simp only[pLen]at e<;>cases e
 ·rw[H.scal rfl];exact⟨_,rfl,rfl⟩
 ·obtain⟨b,o,off,cap,ex,cs,rfl,_⟩:=H.lst_inv;exact⟨_,rfl,rfl⟩
theorem zn6(I:InvO E N os)(F:∀i,RepPA N (r i) (ρ i)){a:Operand} (e:w1 (pv ρ a) (fun c=>
  match c with
  | .d v=>za (pLen v) fun z=>k (pd z) os [] []
  | .own j=>
   match og os j with
   | .arr _ v=>k (pd (.int .i64 (.ofNat (lenO v)))) os [] []
   | .frz v=>za (pLen v) fun z=>k (pd z) os [] []
   |_=>none
  | .vw _ _ _ len=>k (pd (.int .i64 (.ofNat len))) os [] []
  |_=>none)=some x):GoalQ N os r ρ (.lenL a) k x:=by
 have hh:=ug F e;clear e;obtain⟨c,v,e,ka,ra,pka⟩:=hh;cases c<;>first|cases e|skip
 ·rename_i d;simp only at e;have hh:=zj e;clear e;obtain⟨z,hz,e⟩:=hh;obtain⟨w,rfl,hw⟩:=wt ra;obtain⟨c,h1,h2⟩:=zj3 hw hz N.h;exact .quiet I (fun call=>by simp only[runK,ka,zC];exact h1) (yG h2) e
 ·rename_i j;simp only at e;obtain⟨c,rfl,hj,hc⟩:=yl ra;cases ho:og os j with
  |arr st vo=>
   rw[ho]at e;simp only at e;have hO:=I.obj j;rw[ho]at hO;refine .quiet I (fun call=>?_) (yG rfl) e
   simp only[runK,ka,zC];cases vo with
   |none=>rw[hc,show N.μ j=.nils from hO];rfl
   |some xs=>obtain⟨b,vs,ex,h1,_⟩:=hO;rw[hc,h1];rfl
  |frz d=>
   rw[ho]at e;simp only at e;have hO:=I.obj j;rw[ho]at hO;have hh:=zj e;clear e;obtain⟨z,hz,e⟩:=hh;obtain⟨c',h1,h2⟩:=zj3 (show Rep N.fz N.h (N.μ j) d from hO) hz N.h
   exact .quiet I (fun call=>by simp only[runK,ka,zC];rw[hc];exact h1) (yG h2) e
  |_=>rw[ho]at e;cases e
 ·rename_i j st lo len;simp only at e;obtain⟨c,rfl,hj,hc⟩:=yl ra;refine .quiet I (fun call=>?_) (yG rfl) e
  simp only[runK,ka,zC];rcases hc with⟨_,rfl,_,rfl⟩|⟨b',l,cap,ex,cap',ex',g1,rfl,g2,g3⟩<;>rfl
end
end Go.PE
end
section
namespace Go.PE
open Go Go.CE
def fzN(fz:BN→Prop)(h h':AHeap):BN→Prop:=fun b=>fz b∨(h.n.toNat≤b.toNat∧b.toNat<h'.n.toNat)
def zoq(C:Nat→zh)(g:Nat)(args:List DA)(res:DA):Prop:=
 ∀(fz:BN→Prop) (h:AHeap) (vs:List AVal),HW h→(∀b,fz b→b.toNat<h.n.toNat)→RepAL fz h vs args→
  Ev (fun n=>C n (.inl g) vs h) (fun p=>HW p.2∧Gr h p.2∧RepA (fzN fz h p.2) p.2 p.1 res)
def jB(O:Orc)(C:Nat→zh):Prop:=∀g args res,O g args=some res→zoq C g args res
theorem zaw(vs:List CVal):∀(cs:List CVal) (i:Nat),i+vs.length≤cs.length→putAt vs cs i=some (cs.take i++vs++cs.drop (i+vs.length)):=by
 have ov:∀(vs cs:List CVal),vs.length≤cs.length→over vs cs=some (vs++cs.drop vs.length):=by
  intro vs
  induction vs with
  |nil=>intro cs _;rfl
  |cons v vs ih=>
   intro cs h;cases cs with
   |nil=>simp at h
   |cons c cs=>simp only[over,ih cs (by simpa using h),xW,List.length_cons,List.drop_succ_cons,List.cons_append]
 intro cs
 induction cs with
 |nil=>intro i h;simp at h;obtain⟨rfl,h2⟩:=h;subst h2;rfl
 |cons c cs ih=>
  intro i h;cases i with
  |zero=>
   show over vs (c::cs)=_;rw[ov vs _ (by simpa using h)]
   simp
  |succ i=>
   show xW c (putAt vs cs i)=_;rw[ih i (by simp at h;omega)]
   simp[xW,Nat.succ_add]
theorem zdq:∀(cs:List CVal),uS cs cs.length=true
 | []=>rfl
 |c::cs=>by
  show (bif Nat.beq (cs.length+1) 0 then false else uS cs cs.length)=true
  rw[zdq cs];rfl
section
variable {β:Type} {C:Nat→zh} {E:En} {lk:Nat→Bool} {N:Nm} {os:List PO} {r:Fr} {ρ:Nat→PA} {k:KT β} {x:β}
theorem zfp(I:InvO E N os)(hlk:∀j,lk j=true→j<os.length)(y:AObj)(o:PO)(c:CVal)(hc:blk c=some N.h.n)
  (ho:∀N',Nx N N'→N'.μ os.length=c→¬N'.fz N.h.n→N'.h.t.get N.h.n=some y→RepO N' os.length o):
  ∃N',N'.h=N.h.new y∧N'.μ os.length=c∧N'.n=os.length+1∧Stp E lk N os [] N' (os++[o]):=by
 have G:=Gr.new N.h y;have nx:Nx N ⟨upd N.μ os.length c,os.length+1,N.fz,N.h.new y⟩:=⟨⟨fun _ _ h _=>h,fun b z _ hz=>G.get I.hw hz⟩,by have:=I.len;show N.n≤os.length+1;omega,fun k hk=>by
  have:=I.len;show (if k=os.length then c else N.μ k)=_
  rw[if_neg (by omega)]⟩
 have muL:upd N.μ os.length c os.length=c:=by show (if os.length=os.length then c else _)=_;rw[if_pos rfl]
 obtain⟨i1,i2,i3⟩:=I.new y o c hc (ho _ nx muL (fun h=>absurd (I.fzlt _ h) (by omega)) (zw _ _ _))
 refine⟨_,rfl,muL,rfl,⟨i1,i2,Bk.gr G,fun j hj=>?_,.app (Nat.le_of_eq I.len)⟩⟩
 rw[wC,if_neg (by have:=hlk j hj;omega)]
theorem vI(h:AHeap)(o:AObj)(v:BN→CVal):newB h o v=some (.s (.one (v h.n)),h.new o):=by cases h;rfl
theorem zko(I:InvO E N os)(hlk:∀j,lk j=true→j<os.length){vs:List CVal}{ps:List PC}(H:RepPL N vs ps){ko:KOp}(run:∀call,runK r ko call N.h=newB N.h (.cells vs 0) (fun b=>.ptr b 0))
  (e:k (pc (.ptr os.length 0)) (os++[.box ps]) [] []=some x):Goal C E lk N os r ko k x:=by
 obtain⟨N',h1,h2,h3,S⟩:=zfp (lk:=lk) I hlk (.cells vs 0) (.box ps) (.ptr N.h.n 0) rfl fun N' nx hmu hf hg=>⟨_,vs,hmu,hf,hg,H.mono nx⟩
 refine⟨_,_,_,_,e,⟨(.s (.one (.ptr N.h.n 0)),N.h.new (.cells vs 0)),⟨N',h1,S.sim (y7 (p:=.ptr os.length 0) (c:=.ptr N.h.n 0) ⟨by rw[h3];omega,_,h2,rfl⟩)⟩,0,fun n _=>(run (C n)).trans (vI _ _ _)⟩⟩
theorem zpb(I:InvO E N os)(hlk:∀j,lk j=true→j<os.length){zs:List CVal}(e:za (cDs zs) (fun cs=>k (pc (.ptr os.length 0)) (os++[.box cs]) [] [])=some x):Goal C E lk N os r (.alloc zs) k x:=by
 obtain⟨ps,h1,e⟩:=zj e;exact zko I hlk (qg h1) (fun call=>rfl) e
theorem RepPV.cells{v:SVal}{p:PV}(H:RepPV N v p):RepPL N v.cells p.cells:=by
 cases v<;>cases p<;>simp only[RepPV]at H
 ·exact⟨H,trivial⟩
 ·exact H
theorem zsR(I:InvO E N os)(F:∀i,RepPA N (r i) (ρ i))(hlk:∀j,lk j=true→j<os.length){a:Operand} (e:(match pv ρ a with
  |some (.s v)=>k (pc (.ptr os.length 0)) (os++[.box v.cells]) [] []
  |_=>none)=some x):Goal C E lk N os r (.box a) k x:=by
 split at e
 ·rename_i p hp;obtain⟨v,ka,ra⟩:=wq F hp;obtain⟨w,rfl,hw⟩:=ra.inv
  ·exact zko I hlk hw.cells (fun call=>by simp only[runK,ka,zC];rfl) e
 ·cases e
theorem zaF(F:∀i,RepPA N (r i) (ρ i)):∀{parts:List (Nat×Nat×Operand)} {ps ps':List PC} {cs:List CVal},zeT ρ parts ps=some ps'→RepPL N cs ps→∃l cs',kvp r parts=some l∧kZ .nil (cP l) cs=some cs'∧RepPL N cs' ps'
 | [],ps,ps',cs,e,H=>by cases e;exact⟨[],cs,rfl,rfl,H⟩
 |(off,size,a)::rest,ps,ps',cs,e,H=>by
  simp only[zeT]at e;split at e
  ·rename_i p hp;obtain⟨v,ka,ra⟩:=wq F hp;cases hb:(Nat.beq p.cells.length size&&Nat.ble (off+size) ps.length) with
   |false=>rw[hb]at e;cases e
   |true=>
    rw[hb]at e;simp only[LzC]at hb;have h1:=Lz1 hb.1;have h2:=Lz4 hb.2;simp only[cond_true]at e;have hcs:=H.len;obtain⟨w,rfl,hw⟩:=ra.inv;have hw:=hw.cells;have hl:=hw.len;obtain⟨l,cs',k1,k2,k3⟩:=zaF F e (cs:=cs.take off++w.cells++cs.drop (off+size)) (((H.take off).app hw).app (H.drop (off+size)));refine⟨(off,size,.s w)::l,cs',by simp only[kvp,ka,k1],?_,k3⟩
    show kZ .nil ((off,size,zr (.s w))::cP l) cs=_;simp only[kZ,zr];have hls:uS w.cells size=true:=by rw[←h1,←hl];exact zdq _
    rw[hls,cond_true,zaw w.cells cs off (by omega),show off+w.cells.length=off+size by omega]
    exact k2
  ·cases e
theorem zkk(I:InvO E N os)(F:∀i,RepPA N (r i) (ρ i)){zs:List CVal}{parts:List (Nat×Nat×Operand)}(e:za (cDs zs) (fun cs=>za (zeT ρ parts cs) fun cs=>k (.s (.agg cs)) os [] [])=some x):GoalQ N os r ρ (.build zs parts) k x:=by
 obtain⟨ps,h1,e⟩:=zj e;obtain⟨ps',h2,e⟩:=zj e;obtain⟨l,cs',k1,k2,k3⟩:=zaF F h2 (qg h1);refine .quiet I (v:=.s (.agg cs')) (fun call=>?_) (RepPA.of (v:=.agg cs') (p:=.agg ps') k3) e
 simp only[runK,k1];show retA N.h (kZ .nil (cP l) zs)=_;rw[k2];rfl
theorem qH(st:Nat):∀(n:Nat) (ds:List DV),(chunks st n ds).length=n
 |0,_=>rfl
 |n+1,ds=>by simp[chunks,qH st n]
theorem qI(st:Nat):∀(n:Nat) (ds:List DV) (i:Nat) (x:List DV),(chunks st n ds)[i]? = some x→x=(ds.drop (i*st)).take st∧i<n
 |0,_,i,x,e=>by simp[chunks]at e
 |n+1,ds,i,x,e=>by
  cases i with
  |zero=>simp only[chunks,List.getElem?_cons_zero,Option.some.injEq]at e;subst e;exact⟨by simp,by omega⟩
  |succ i=>
   obtain⟨h1,h2⟩:=qI st n (ds.drop st) i x (by simpa[chunks] using e)
   refine⟨?_,by omega⟩
   rw[h1,List.drop_drop,Nat.succ_mul,Nat.add_comm]
theorem zbe(I:InvO E N os)(hlk:∀j,lk j=true→j<os.length){st:Nat}{vs:List CVal}{xs:List (List DV)}{ex:Bool}(hl:vs.length=xs.length*st)
  (H:∀(i:Nat) (x:List DV),xs[i]? = some x→x.length=st∧RepL N.fz N.h ((vs.drop (i*st)).take st) x):
  ∃N',N'.h=N.h.new (.cells vs st)∧N'.n=os.length+1∧Stp E lk N os [] N' (os++[.arr st (some xs)])∧RepPA N' (.s (.one (.slc N.h.n 0 xs.length (bif ex then xs.length else 0) ex))) (pc (.own os.length)):=by
 obtain⟨N',h1,h2,h3,S⟩:=zfp (lk:=lk) I hlk (.cells vs st) (.arr st (some xs)) (.slc N.h.n 0 xs.length (bif ex then xs.length else 0) ex) rfl fun N' nx hmu hf hg=>
  ⟨_,vs,ex,hmu,hf,hg,hl,fun i x hx=>⟨(H i x hx).1,(H i x hx).2.mono nx.fg⟩⟩
 exact⟨N',h1,h3,S,y7 (p:=.own os.length) ⟨by rw[h3];omega,h2.symm⟩⟩
theorem zmT(I:InvO E N os)(F:∀i,RepPA N (r i) (ρ i))(hlk:∀j,lk j=true→j<os.length){st len:Nat}{zs:List CVal}{parts:List (Nat×Nat×Operand)} (e:za (cDs zs) (fun cs=>za (zeT ρ parts cs) fun cs=>za (frL lk xg os cs) fun p=>
  bif Nat.beq p.2.length (len*st) then k (pc (.own p.1.length)) (p.1++[.arr st (some (chunks st len p.2))]) [] [] else none)=some x):Goal C E lk N os r (.bslice st len zs parts) k x:=by
 obtain⟨ps,h1,e⟩:=zj e;obtain⟨ps',h2,e⟩:=zj e;obtain⟨⟨os1,ds⟩,h3,e⟩:=zj e;obtain⟨l,cs',k1,k2,k3⟩:=zaF F h2 (qg h1);obtain⟨N1,f1,S1,r1⟩:=zhv I k3 h3;simp only at e;cases hb:Nat.beq ds.length (len*st) with
 |false=>rw[hb]at e;cases e
 |true=>
  rw[hb]at e;have hd:=Lz1 hb;have hl1:os1.length=os.length:=by rw[←S1.inv.len,f1.n,I.len]
  have hlc:(chunks st len ds).length=len:=qH st len ds;obtain⟨N2,h4,h5,S2,r2⟩:=zbe (lk:=lk) (ex:=true) S1.inv (fun j hj=>by rw[hl1];exact hlk j hj) (st:=st) (vs:=cs') (xs:=chunks st len ds) (by rw[r1.1,hd,hlc]) fun i y hy=>by
   obtain⟨q1,q2⟩:=qI st len ds i y hy;subst q1;refine⟨?_,r1.sub (i*st) st⟩;have:=Nat.mul_le_mul_right st (show i+1≤len from q2)
   rw[Nat.succ_mul]at this;simp;omega
  refine⟨_,_,_,_,e,⟨(.s (.one (.slc N.h.n 0 len len true)),N.h.new (.cells cs' st)),⟨N2,by rw[h4,f1.h],?_⟩,0,fun n _=>?_⟩⟩
  ·rw[hlc]at r2;rw[f1.h]at r2;exact(S1.trans S2 f1.n).sim r2
  ·show runK r (.bslice st len zs parts) (C n) N.h=_;simp only[runK,k1];show (match kZ .nil (cP l) zs with|some cs=>newB N.h (.cells cs st) (fun b=>.slc b 0 len len true)|none=>none)=_
   rw[k2];exact vI _ _ _
theorem zoV(I:InvO E N os){j:Nat}(hj:lk j=false){ps qs:List PC}(ho:og os j=.box ps){b:BN}(hb:N.μ j=.ptr b 0){vs ws:List CVal}(_hg:N.h.t.get b=some (.cells vs 0))(hv:RepPL N vs ps)(hw:RepPL N ws qs){off:Nat}(_hl:off+ws.length≤vs.length):
  ∃N',N'.h=N.h.put b (.cells (vs.take off++ws++vs.drop (off+ws.length)) 0)∧Stp E lk N os [j] N' (oset (.box (ps.take off++qs++ps.drop (off+ws.length))) os j):=by
 have hlv:live (og os j):=by rw[ho];trivial
 have hbk:blk (N.μ j)=some b:=by rw[hb];rfl
 obtain⟨b0,x0,q1,q2,q3⟩:=yA hlv (I.obj j);rw[hbk]at q1;cases q1;have nx:Nx N ⟨N.μ,N.n,N.fz,N.h.put b (.cells (vs.take off++ws++vs.drop (off+ws.length)) 0)⟩:=⟨⟨fun _ _ h _=>h,fun b' y hf hy=>by
  show (N.h.put b _).t.get b'=_;rw[wT _ _ (fun(e:b'=b)=>q2 (by rw[←e];exact hf))];exact hy⟩,LzB _,fun _ _=>rfl⟩
 obtain⟨i1,i2,i3⟩:=I.put hlv hbk (.cells (vs.take off++ws++vs.drop (off+ws.length)) 0) (.box (ps.take off++qs++ps.drop (off+ws.length)))
  ⟨b,_,hb,q2,zav _ _ _,(((hv.take off).app hw).app (hv.drop (off+ws.length))).mono nx⟩
 exact⟨_,rfl,⟨i1,i2,Bk.put rfl (by
  rw[I.len];exact zey (by rw[ho];intro h;cases h)) hlv hbk,fun j' hj'=>by rw[yy,if_neg (fun e=>by rw[e.1,hj]at hj';cases hj')],.oset (fun _=>by rw[ho];trivial) (fun _=>.inl trivial) (fun _=>by rw[ho];trivial)⟩⟩
theorem zcV{vs ds:List CVal}{p st i off:Nat}(h:p+ds.length≤vs.length)(hp:p=i*st+off)(hs:off+ds.length≤st)(j:Nat)(hij:j≠i):
  ((vs.take p++ds++vs.drop (p+ds.length)).drop (j*st)).take st=(vs.drop (j*st)).take st:=by
 apply List.ext_getElem?;intro t;rw[List.getElem?_take,List.getElem?_take];split
 ·rename_i ht;rw[List.getElem?_drop,List.getElem?_drop];by_cases hlt:j<i
  ·have:=Nat.mul_le_mul_right st (show j+1≤i from hlt)
   rw[Nat.succ_mul]at this;rw[List.append_assoc,Lz2 (by simp;omega),List.getElem?_take,if_pos (by omega)]
  ·have:=Nat.mul_le_mul_right st (show i+1≤j by omega)
   rw[Nat.succ_mul]at this;rw[Lz8 (by simp;omega),List.getElem?_drop]
   congr 1
   simp;omega
 ·rfl
theorem kf{vs ds:List CVal}{p st i off:Nat}(h:p+ds.length≤vs.length)(hp:p=i*st+off)(hs:off+ds.length≤st)(hst:i*st+st≤vs.length):
  ((vs.take p++ds++vs.drop (p+ds.length)).drop (i*st)).take st=((vs.drop (i*st)).take st).take off++ds++((vs.drop (i*st)).take st).drop (off+ds.length):=by
 apply List.ext_getElem?;intro t;subst hp;have e1:(List.take (i*st+off) vs).length=i*st+off:=by simp;omega
 have e2:(((vs.drop (i*st)).take st).take off).length=off:=by simp;omega
 rw[List.getElem?_take];by_cases ht:t<st
 ·rw[if_pos ht,List.getElem?_drop];by_cases h1:t<off
  ·rw[List.append_assoc,Lz2 (by omega),List.append_assoc,Lz2 (by omega),List.getElem?_take,if_pos (by omega),List.getElem?_take,if_pos h1,List.getElem?_take,if_pos ht,List.getElem?_drop]
  ·by_cases h2:t<off+ds.length
   ·rw[List.append_assoc,Lz8 (by omega),Lz2 (by omega),List.append_assoc,Lz8 (by omega),Lz2 (by omega)]
    congr 1;omega
   ·rw[Lz8 (by simp;omega),List.getElem?_drop,Lz8 (by simp;omega),List.getElem?_drop,List.getElem?_take,if_pos (by simp;omega),List.getElem?_drop]
    congr 1;simp;omega
 ·rw[if_neg ht];symm;rw[List.getElem?_eq_none];simp;omega
theorem zo7(I:InvO E N os)(F:∀i,RepPA N (r i) (ρ i)){n:Nat}{a b:Operand} (e:w1 (pv ρ a) (fun c=>
  match pv ρ b with
  |some (.s v)=>zj1 lk os n c v k
  |_=>none)=some x):Goal C E lk N os r (.store n a b) k x:=by
 have hh:=ug F e;clear e;obtain⟨c,v,e,ka,ra,pka⟩:=hh;split at e
 case h_2=>cases e
 rename_i p hp;obtain⟨vb,kb,rb⟩:=wq F hp;obtain⟨w,rfl,hw⟩:=rb.inv;have hw:=hw.cells;unfold zj1 at e;cases hn:Nat.beq p.cells.length n with
 |false=>rw[hn]at e;cases e
 |true=>
  rw[hn]at e;have hn:=Lz1 hn;have hwl:=hw.len;have hls:uS w.cells n=true:=by rw[←hn,←hwl];exact zdq _
  simp only[cond_true]at e;cases c<;>first|cases e|skip
  ·rename_i j off;simp only at e;obtain⟨cv,rfl,hjn,bb,hb,rfl⟩:=yl ra;cases ho:og os j with
   |box ps=>
    rw[ho]at e;simp only at e;cases hlj:lk j with
    |true=>rw[hlj]at e;cases e
    |false=>
     rw[hlj]at e;simp only[cond_false]at e;cases hbd:Nat.ble (off+n) ps.length with
     |false=>rw[hbd]at e;cases e
     |true=>
      rw[hbd]at e;have hbd:=Lz4 hbd;obtain⟨b',cs,h1,h2,h3,h4⟩:=uw I ho;rw[hb]at h1;cases h1;have hcl:=h4.len;obtain⟨N',q1,q2⟩:=zoV I hlj ho hb h3 h4 hw (off:=off) (by omega)
      rw[show off+w.cells.length=off+n by omega]at q2
      refine⟨_,_,_,_,e,⟨(z7,_),⟨N',q1,q2.sim (.bad _)⟩,0,fun m _=>?_⟩⟩
      show runK r (.store n a b) (C m) N.h=_;simp only[runK,ka,kb,zC];show storeAt n N.h bb off w.cells (N.h.t.get bb)=_;rw[h3];simp only[storeAt,hls,cond_true];rw[zaw w.cells cs off (by omega)]
      rfl
   |_=>rw[ho]at e;cases e
  ·rename_i j st i off;simp only at e;cases hlj:lk j with
   |true=>rw[hlj]at e;cases e
   |false=>
    rw[hlj]at e;simp only[cond_false]at e;have hh:=zj e;clear e;obtain⟨⟨os1,ds⟩,hf,e⟩:=hh;obtain⟨N1,f1,S1,r1⟩:=zhv I hw hf;simp only at e;obtain⟨cv,rfl,hjn,bb,l0,cap0,ex0,hb,rfl,hil⟩:=yl ra;cases ho:og os1 j with
    |arr st' vo=>
     rw[ho]at e;simp only at e;cases hs:Nat.beq st st' with
     |false=>rw[hs]at e;cases e
     |true=>
      rw[hs]at e;have:=Lz1 hs;subst this;simp only[cond_true]at e;have hh:=zj e;clear e;obtain⟨vo',hvo,e⟩:=hh;cases vo with
      |none=>cases hvo
      |some xs=>
       simp only[setO]at hvo;cases hy:xs[i]? with
       |none=>rw[hy]at hvo;cases hvo
       |some y=>
        rw[hy]at hvo;simp only at hvo;cases hbd:Nat.ble (off+ds.length) st with
        |false=>rw[hbd]at hvo;cases hvo
        |true=>
         rw[hbd]at hvo;cases hvo;have hbd:=Lz4 hbd;obtain⟨b',vs,ex,h1,h2,h3,h4,h5⟩:=zbO S1.inv ho;have hmu:N1.μ j=N.μ j:=by rw[f1.μ]
         rw[hmu,hb]at h1;cases h1;have hi:=(Lz0.1 hy).1;have hil2:=Nat.mul_le_mul_right st (show i+1≤xs.length from hi)
         rw[Nat.succ_mul]at hil2;have hwd:w.cells.length=ds.length:=r1.1;have hp2:i*st+off+w.cells.length≤vs.length:=by omega
         have hlv:live (og os1 j):=by rw[ho];trivial
         have hbk:blk (N1.μ j)=some bb:=by rw[hmu,hb];rfl
         have hjl:j<os1.length:=zey (by rw[ho];intro h;cases h)
         let X:=vs.take (i*st+off)++w.cells++vs.drop (i*st+off+w.cells.length)
         have fg:FG N1.fz N1.h N1.fz (N1.h.put bb (.cells X st)):=⟨fun _ _ h _=>h,fun b2 z hf2 hz=>by
          rw[wT _ _ (fun(e:b2=bb)=>h2 (by rw[←e];exact hf2))];exact hz⟩
         obtain⟨i1,i2,i3⟩:=S1.inv.put hlv hbk (.cells X st) (.arr st (some (xs.set i (y.take off++ds++y.drop (off+ds.length)))))
          ⟨bb, X, _, by rw [List.length_set]; exact hmu.trans hb, h2, zav _ _ _, by rw [List.length_set, ← h4]; simp [X]; omega, fun t z hz => by
           rw[List.getElem?_set]at hz;by_cases ht:i=t
           ·subst ht;rw[if_pos rfl,if_pos hi]at hz;cases hz;obtain⟨g1,g2⟩:=h5 i y hy;refine⟨by simp[g1];omega,?_⟩
            show RepL _ _ ((X.drop (i*st)).take st) _;rw[kf hp2 rfl (by omega) (by omega)]
            rw[hwd];have:=(g2.mono fg).set (r1.mono fg) off
            rwa [hwd]at this
           ·rw[if_neg ht]at hz;obtain⟨g1,g2⟩:=h5 t z hz;refine⟨g1,?_⟩;show RepL _ _ ((X.drop (t*st)).take st) _;rw[zcV hp2 rfl (by omega) t (fun e=>ht e.symm)]
            exact g2.mono fg⟩
         have S2:Stp E lk N1 os1 [j] ⟨N1.μ,N1.n,N1.fz,N1.h.put bb (.cells X st)⟩ _:=⟨i1,i2,Bk.put rfl (by rw[S1.inv.len];exact hjl) hlv hbk,fun j' hj'=>by
          rw[yy,if_neg (fun e=>by rw[e.1,hlj]at hj';cases hj')],.oset (fun _=>by rw[ho];trivial) (fun _=>.inl trivial) (fun _=>by rw[ho];trivial)⟩
         refine⟨_,_,_,_,e,⟨(z7,N.h.put bb (.cells X st)),⟨_,by rw[←f1.h],(S1.trans S2 f1.n).sim (.bad _)⟩,0,fun m _=>?_⟩⟩
         show runK r (.store n a b) (C m) N.h=_;simp only[runK,ka,kb,zC];show storeAt n N.h bb (i*st+off) w.cells (N.h.t.get bb)=_;rw[f1.h]at h3;rw[h3];simp only[storeAt,hls,cond_true];rw[zaw w.cells vs _ hp2];rfl
    |_=>rw[ho]at e;cases e
end
end Go.PE
end
section
namespace Go.PE
open Go Go.CE
section
variable {β:Type} {C:Nat→zh} {E:En} {lk:Nat→Bool} {N:Nm} {os:List PO} {r:Fr} {ρ:Nat→PA} {k:KT β} {x:β}
theorem zo8(I:InvO E N os)(hlk:∀j,lk j=true→j<os.length){st:Nat}(e:k (pc (.own os.length)) (os++[.mp st []]) [] []=some x):Goal C E lk N os r (.mkmap st) k x:=by
 obtain⟨N',h1,h2,h3,S⟩:=zfp (lk:=lk) I hlk (.map []) (.mp st []) (.map N.h.n) rfl fun N' nx hmu hf hg=>⟨_,[],hmu,hf,hg,rfl,fun i e x he=>by simp at he⟩
 refine⟨_,_,_,_,e,⟨(.s (.one (.map N.h.n)),N.h.new (.map [])),⟨N',h1,S.sim (y7 (p:=.own os.length) (c:=.map N.h.n) ⟨by rw[h3];omega,h2.symm⟩)⟩,0,fun n _=>?_⟩⟩
 show runK r (.mkmap st) (C n) N.h=_;exact vI _ _ _
theorem zgg{v:SVal}{p:PV}{d:DS}(H:RepPV N v p)(e:dsOf p=some d):RepS N.fz N.h v d:=by
 cases p with
 |one c=>
  cases v with
  |agg cs=>exact H.elim
  |one y=>
   cases c<;>first|(cases e;done)|skip
   cases e;exact H
 |agg cs=>
  cases v with
  |one y=>exact H.elim
  |agg ys=>
   simp only[dsOf]at e;cases h:allD cs with
   |none=>rw[h]at e;cases e
   |some l=>rw[h]at e;cases e;exact qQ h H
theorem zqs{z:SVal}{d:DS}(e:zDs z=some d):RepS N.fz N.h z d:=by
 unfold zDs at e;cases h:pvS z with
 |none=>rw[h]at e;cases e
 |some p=>rw[h]at e;exact zgg (zjR h) e
theorem zdJ{q:Nat⊕List Nat}{a b:SVal}{v w:DS}{p:Bool}{fz:BN→Prop}{h:AHeap}(ha:RepS fz h a v)(hb:RepS fz h b w)(e:eqDS q v w=some p):eqS q a b=some p:=by
 cases q<;>cases v<;>cases w<;>first|(cases e;done)|skip
 ·cases a<;>first|exact ha.elim|skip
  cases b<;>first|exact hb.elim|skip
  exact zlj ha hb e
 ·cases a<;>first|exact ha.elim|skip
  cases b<;>first|exact hb.elim|skip
  exact zge ha hb e
def RepE(fz:BN→Prop)(h:AHeap)(st:Nat)(es:List (SVal×SVal))(xs:List (List DV)):Prop:=
 es.length=xs.length∧∀(i:Nat) (e:SVal×SVal) (x:List DV),es[i]? = some e→xs[i]? = some x→RepS fz h e.1 (kD st x)∧RepS fz h e.2 (vD st x)
theorem RepE.inv{fz:BN→Prop}{h:AHeap}{st:Nat}{e:SVal×SVal}{es:List (SVal×SVal)}{x:List DV}{xs:List (List DV)}(H:RepE fz h st (e::es) (x::xs)):RepS fz h e.1 (kD st x)∧RepS fz h e.2 (vD st x)∧RepE fz h st es xs:=
 ⟨(H.2 0 e x rfl rfl).1,(H.2 0 e x rfl rfl).2,by have:=H.1;simpa using this,fun i e' x' he hx=>H.2 (i+1) e' x' (by simpa using he) (by simpa using hx)⟩
theorem RepE.cons{fz:BN→Prop}{h:AHeap}{st:Nat}{e:SVal×SVal}{es:List (SVal×SVal)}{x:List DV}{xs:List (List DV)}(h1:RepS fz h e.1 (kD st x))(h2:RepS fz h e.2 (vD st x))(H:RepE fz h st es xs):RepE fz h st (e::es) (x::xs):=
 ⟨by simp [H.1], fun i e' x' he hx => by
  cases i with
  |zero=>simp only[List.getElem?_cons_zero,Option.some.injEq]at he hx;subst he;subst hx;exact⟨h1,h2⟩
  |succ i=>exact H.2 i e' x' (by simpa using he) (by simpa using hx)⟩
theorem RepE.nil{fz:BN→Prop}{h:AHeap}{st:Nat}:RepE fz h st [] []:=⟨rfl,fun i e x he=>by simp at he⟩
theorem RepE.ne{fz:BN→Prop}{h:AHeap}{st:Nat}{es:List (SVal×SVal)}{xs:List (List DV)}(H:RepE fz h st es xs):(es=[]∧xs=[])∨∃e es' x xs',es=e::es'∧xs=x::xs':=by
 cases es with
 |nil=>cases xs with
  |nil=>exact .inl ⟨rfl,rfl⟩
  |cons x xs=>have:=H.1;simp at this
 |cons e es=>cases xs with
  |nil=>have:=H.1;simp at this
  |cons x xs=>exact .inr ⟨e,es,x,xs,rfl,rfl⟩
def RepR(fz:BN→Prop)(h:AHeap):Option SVal→Option DS→Prop
 |none,none=>True
 |some v,some d=>RepS fz h v d
 |_,_=>False
theorem zhA{fz:BN→Prop}{h:AHeap}{q:Nat⊕List Nat}{st:Nat}{key:SVal}{kd:DS}(hk:RepS fz h key kd):∀{xs:List (List DV)} {es:List (SVal×SVal)} {d:Option DS},RepE fz h st es xs→zdD q st kd xs=some d→
  ∃v,uW q key es=some v∧RepR fz h v d∧∀y,d=some y→∃x,y=vD st x
 | [],es,d,H,e=>by
  rcases H.ne with⟨rfl,_⟩|⟨_,_,_,_,_,h2⟩
  ·cases e;exact⟨none,rfl,trivial,fun y h=>by cases h⟩
  ·cases h2
 |x::xs,es,d,H,e=>by
  rcases H.ne with⟨_,h2⟩|⟨e0,es',x',xs',rfl,h2⟩
  ·cases h2
  ·cases h2;obtain⟨h1,h2,h3⟩:=H.inv;simp only[zdD]at e;obtain⟨k0,v0⟩:=e0;cases hq:eqDS q kd (kD st x) with
   |none=>rw[hq]at e;cases e
   |some b=>
    rw[hq]at e;have hq':=zdJ hk h1 hq;cases b with
    |true=>
     cases e;exact⟨some v0,by simp only[uW,hq'],h2,fun y h=>by cases h;exact⟨x,rfl⟩⟩
    |false=>
     obtain⟨v,g1,g2⟩:=zhA hk h3 e;exact⟨v,by simp only[uW,hq'];exact g1,g2⟩
theorem zjT{fz:BN→Prop}{h:AHeap}{q:Nat⊕List Nat}{st:Nat}{key val:SVal}{kd:DS}{row:List DV}(hk:RepS fz h key kd)(h1:RepS fz h key (kD st row))(h2:RepS fz h val (vD st row)):∀{xs ys:List (List DV)} {es:List (SVal×SVal)},RepE fz h st es xs→putP q st kd row xs=some ys→
  ∃es',putE q key val es=some es'∧RepE fz h st es' ys
 | [],ys,es,H,e=>by
  rcases H.ne with⟨rfl,_⟩|⟨_,_,_,_,_,h2⟩
  ·cases e;exact⟨_,rfl,.cons h1 h2 .nil⟩
  ·cases h2
 |x::xs,ys,es,H,e=>by
  rcases H.ne with⟨_,h2⟩|⟨e0,es',x',xs',rfl,hh⟩
  ·cases h2
  ·cases hh;obtain⟨g1,g2,g3⟩:=H.inv;simp only[putP]at e;obtain⟨k0,v0⟩:=e0;cases hq:eqDS q kd (kD st x) with
   |none=>rw[hq]at e;cases e
   |some b=>
    rw[hq]at e;have hq':=zdJ hk g1 hq;cases b with
    |true=>
     cases e;exact⟨(key,val)::es',by simp only[putE,hq'],.cons h1 h2 g3⟩
    |false=>
     simp only at e;cases hp:putP q st kd row xs with
     |none=>rw[hp]at e;cases e
     |some l=>
      rw[hp]at e;cases e;obtain⟨es2,k1,k2⟩:=zjT hk h1 h2 g3 hp;exact⟨(k0,v0)::es2,by simp only[putE,hq',k1,xW],.cons g1 g2 k2⟩
theorem zkp(I:InvO E N os){j st:Nat}{xs:List (List DV)}(ho:og os j=.mp st xs):∃b es,N.μ j=.map b∧¬N.fz b∧N.h.t.get b=some (.map es)∧RepE N.fz N.h st es xs:=by
 have:=I.obj j;rw[ho]at this;obtain⟨b,es,h1,h2,h3,h4,h5⟩:=this;exact⟨b,es,h1,h2,h3,h4,h5⟩
theorem zga{a b:Option Nat}(h:eqSh a b=true):a=b:=by
 cases a<;>cases b<;>first|rfl|(cases h;done)|skip
 rw[Lz1 h]
theorem zk9(x:List DV):∀n i,(exp x n i).length=n
 |0,_=>rfl
 |n+1,i=>by simp[exp,zk9 x n]
theorem zgz(a b:List DV):∀i,atD (a++b) (a.length+i)=atD b i:=by
 induction a with
 |nil=>intro i;simp
 |cons x a ih=>
  intro i;show atD (x::(a++b)) (a.length+1+i)=_;rw[show a.length+1+i=(a.length+i)+1 by omega]
  show atD (a++b) (a.length+i)=_;exact ih i
theorem zla(a b:List DV):∀n i,exp (a++b) n (a.length+i)=exp b n i
 |0,_=>rfl
 |n+1,i=>by
  have:=zla a b n (i+1);show atD (a++b) (a.length+i)::exp (a++b) n (a.length+i+1)=atD b i::exp b n (i+1);rw[zgz,show a.length+i+1=a.length+(i+1) by omega,this]
theorem zdE(a b:List DV):exp (a++b) a.length 0=a:=by
 have key:∀(a p b:List DV),exp (p++(a++b)) a.length p.length=a:=by
  intro a
  induction a with
  |nil=>intro p b;rfl
  |cons x a ih=>
   intro p b;have h:=ih (p++[x]) b;have h0:=zgz p (x::(a++b)) 0;show atD (p++(x::(a++b))) p.length::exp (p++(x::(a++b))) a.length (p.length+1)=_;rw[Nat.add_zero]at h0;rw[h0];rw[List.length_append,List.append_assoc]at h;exact congrArg _ h
 exact key a [] b
theorem zsJ{st:Nat}{kd vd:DS}(h:shK st=dsSh kd):kD st (kd.cells++vd.cells)=kd:=by
 unfold kD;rw[h];cases kd with
 |one d=>rfl
 |agg l=>show DS.agg (exp (l++vd.cells) l.length 0)=_;rw[zdE]
theorem zsI{st:Nat}{kd vd:DS}(h:shK st=dsSh kd)(h2:shV st=dsSh vd):vD st (kd.cells++vd.cells)=vd:=by
 unfold vD;rw[h,h2];have hk:zqE (dsSh kd)=kd.cells.length:=by cases kd<;>rfl
 rw[hk];cases vd with
 |one d=>
  show DS.one (atD (kd.cells++[d]) (kd.cells.length+0))=_;rw[zgz];rfl
 |agg l=>
  have:=zla kd.cells l l.length 0;have h2:=zdE l [];rw[List.append_nil]at h2;show DS.agg (exp (kd.cells++l) l.length (kd.cells.length+0))=_;rw[this,h2]
theorem zsr(st:Nat)(x:List DV):dsSh (vD st x)=shV st:=by
 unfold vD;cases shV st with
 |none=>rfl
 |some n=>show some (exp x n _).length=_;rw[zk9]
theorem look_ok(_:InvO E N os){z:SVal}{zd:DS}{ok:Bool}{v:Option SVal}{d:Option DS}(hz:RepS N.fz N.h z zd)(hv:RepR N.fz N.h v d)(hs:∀y,d=some y→dsSh y=dsSh zd)(e:znc zd ok d os k=some x):
  ∃a,k a os [] []=some x∧RepPA N (bif ok then .tup [v.getD z,.one (.bool v.isSome)] else .s (v.getD z)) a:=by
 have hd:RepS N.fz N.h (v.getD z) (lkD zd d):=by
  cases v<;>cases d<;>first|exact hv.elim|skip
  ·exact hz
  ·exact hv
 have hi:d.isSome=v.isSome:=by cases v<;>cases d<;>first|exact hv.elim|rfl
 have hsh:dsSh (lkD zd d)=dsSh zd:=by
  cases d with
  |none=>rfl
  |some y=>exact hs y rfl
 have hb:RepS N.fz N.h (.one (.bool v.isSome)) (.one (.bool d.isSome)):=by rw[hi];exact Rep.bool _
 generalize hg:lkD zd d=g at hd hsh e;unfold znc at e;rw[hg]at e;cases zd with
 |one z0=>
  cases g with
  |agg l=>cases hsh
  |one g=>
   cases ok with
   |true=>exact⟨_,e,show RepSL N.fz N.h [v.getD z,.one (.bool v.isSome)] [.one g,.one (.bool d.isSome)] from⟨hd,hb,trivial⟩⟩
   |false=>
    refine⟨_,e,?_⟩;show RepPA N (.s (v.getD z)) (pd g);generalize v.getD z=w at hd;cases w with
    |agg cs=>exact hd.elim
    |one c=>exact RepPA.of (v:=.one c) (p:=.one (.d g)) hd
 |agg l=>
  cases g with
  |one g=>cases hsh
  |agg m=>
   have hm:m.length=l.length:=by simpa[dsSh] using hsh
   have he:exp m l.length 0=m:=by
    have:=zdE m []
    rwa [List.append_nil,hm]at this
   simp only[dsA,he]at e;cases ok with
   |true=>exact⟨_,e,show RepSL N.fz N.h [v.getD z,.one (.bool v.isSome)] [.agg m,.one (.bool d.isSome)] from⟨hd,hb,trivial⟩⟩
   |false=>
    refine⟨_,e,?_⟩;show RepPA N (.s (v.getD z)) (.s (.agg (m.map .d)));generalize v.getD z=w at hd;cases w with
    |one c=>exact hd.elim
    |agg cs=>exact RepPA.of (v:=.agg cs) (p:=.agg (m.map .d)) (RepPL.ofD hd)
theorem zmS(I:InvO E N os)(F:∀i,RepPA N (r i) (ρ i)){q:Nat⊕List Nat}{z:SVal}{ok:Bool}{a b:Operand} (e:w1 (pv ρ a) (fun c=>
  match pv ρ b with
  |some (.s kp)=>zfF os q z ok c kp k
  |_=>none)=some x):Goal C E lk N os r (.lookup q z ok a b) k x:=by
 have hh:=ug F e;clear e;obtain⟨c,v,e,ka,ra,pka⟩:=hh;split at e
 case h_2=>cases e
 rename_i p hp;obtain⟨vb,kb,rb⟩:=wq F hp;obtain⟨w,rfl,hw⟩:=rb.inv;unfold zfF at e;have hh:=zj e;clear e;obtain⟨kd,hkd,e⟩:=hh;have hh:=zj e;clear e;obtain⟨zd,hzd,e⟩:=hh;have hh:=zj e;clear e;obtain⟨pp,hpp,e⟩:=hh;have hk:=zgg hw hkd;have hz:=zqs (N:=N) hzd;have hself:(eqS q w w).isNone=false:=by rw[zdJ hk hk hpp];rfl
 cases c<;>first|(cases e;done)|skip
 ·rename_i dv;cases dv<;>first|(cases e;done)|skip
  simp only at e;have hv:v=.s (.one .nilm):=ye ra (c:=.nilm) rfl;subst hv;obtain⟨a',e1,e2⟩:=look_ok I (v:=none) (d:=none) hz trivial (fun y h=>by cases h) e
  refine .quiet I (fun call=>?_) e2 e1
  simp only[runK,ka,kb,zC];show (bif (eqS q w w).isNone then none else _)=_
  rw[hself];rfl
 ·rename_i j;simp only at e;obtain⟨c,rfl,hj,rfl⟩:=yl ra;cases ho:og os j with
  |mp st xs=>
   rw[ho]at e;simp only at e;cases hs:eqSh (shV st) (dsSh zd) with
   |false=>rw[hs]at e;cases e
   |true=>
    rw[hs]at e;have hh:=zj e;clear e;obtain⟨d,hd,e⟩:=hh;obtain⟨bb,es,g1,g2,g3,g4⟩:=zkp I ho;obtain⟨vv,f1,f2,f3⟩:=zhA hk g4 hd;obtain⟨a',e1,e2⟩:=look_ok I hz f2 (fun y h=>by obtain⟨x,rfl⟩:=f3 y h;rw[zsr];exact zga hs) e
    refine .quiet I (fun call=>?_) e2 e1
    simp only[runK,ka,kb,zC];rw[g1];show (match mapOf N.h (.s (.one (.map bb))),AVal.s w with
     |some es,.s k=>bif (eqS q k k).isNone then none else match uW q k es with|some r=>some (bif ok then AVal.tup [r.getD z,.one (.bool r.isSome)] else AVal.s (r.getD z),N.h)|none=>none
     |_,_=>none)=_
    simp only[mapOf,g3,hself,cond_false,f1]
  |_=>rw[ho]at e;cases e
theorem zrc(I:InvO E N os)(F:∀i,RepPA N (r i) (ρ i)){a:Operand} (e:w1 (pv ρ a) (fun c=>
  match c with
  | .own j=>
   match og os j with
   | .mp _ xs=>k (pd (.int .i64 (.ofNat xs.length))) os [] []
   |_=>none
  | .d .nilm=>k (pd (.int .i64 (.ofNat 0))) os [] []
  |_=>none)=some x):Goal C E lk N os r (.lenM a) k x:=by
 have hh:=ug F e;clear e;obtain⟨c,v,e,ka,ra,pka⟩:=hh;cases c<;>first|(cases e;done)|skip
 ·rename_i dv;cases dv<;>first|(cases e;done)|skip
  have hv:v=.s (.one .nilm):=ye ra (c:=.nilm) rfl;subst hv;exact .quiet I (fun call=>by simp only[runK,ka,zC];rfl) (yG rfl) e
 ·rename_i j;simp only at e;obtain⟨c,rfl,hj,rfl⟩:=yl ra;cases ho:og os j with
  |mp st xs=>
   rw[ho]at e;simp only at e;obtain⟨bb,es,g1,g2,g3,g4⟩:=zkp I ho;refine .quiet I (v:=.s (.one (.int .i64 (.ofNat xs.length)))) (fun call=>?_) (yG rfl) e
   simp only[runK,ka,zC];rw[g1];show (match N.h.t.get bb with|some (.map es)=>some (AVal.s (.one (.int .i64 (.ofNat es.length))),N.h)|_=>none)=_
   rw[g3,←g4.1]
  |_=>rw[ho]at e;cases e
theorem zra(I:InvO E N os)(F:∀i,RepPA N (r i) (ρ i)){q:Nat⊕List Nat}{a b c:Operand} (e:w1 (pv ρ a) (fun m=>
  match pv ρ b,pv ρ c with
  |some (.s kp),some (.s vp)=>zo0 lk os q m kp vp k
  |_,_=>none)=some x):Goal C E lk N os r (.mupd q a b c) k x:=by
 have hh:=ug F e;clear e;obtain⟨m,v,e,ka,ra,pka⟩:=hh;split at e
 case h_2=>cases e
 rename_i p vp hp hvp;obtain⟨vb,kb,rb⟩:=wq F hp;obtain⟨w,rfl,hw⟩:=rb.inv;obtain⟨vc,kc,rc⟩:=wq F hvp;obtain⟨u,rfl,hu⟩:=rc.inv;unfold zo0 at e;have hh:=zj e;clear e;obtain⟨kd,hkd,e⟩:=hh;have hh:=zj e;clear e;obtain⟨⟨os1,vd⟩,hvd,e⟩:=hh;have hh:=zj e;clear e;obtain⟨pp,hpp,e⟩:=hh;have hk:=zgg hw hkd;have hself:(eqS q w w).isNone=false:=by rw[zdJ hk hk hpp];rfl
 obtain⟨N1,f1,S1,r1⟩:=zeR I hu hvd;have hk1:RepS N1.fz N1.h w kd:=hk.mono S1.nx.fg;cases m<;>first|(cases e;done)|skip
 rename_i j;simp only at e;obtain⟨cm,rfl,hj,rfl⟩:=yl ra;cases ho:og os1 j with
 |mp st xs=>
  rw[ho]at e;simp only at e;cases hlj:lk j with
  |true=>rw[hlj]at e;cases e
  |false=>
   rw[hlj]at e;simp only[cond_false]at e;cases hs:(eqSh (shK st) (dsSh kd)&&eqSh (shV st) (dsSh vd)) with
   |false=>rw[hs]at e;cases e
   |true=>
    rw[hs]at e;rw[LzC]at hs;have s1:=zga hs.1;have s2:=zga hs.2;simp only[cond_true]at e;have hh:=zj e;clear e;obtain⟨ys,hys,e⟩:=hh;obtain⟨bb,es,g1,g2,g3,g4⟩:=zkp S1.inv ho;obtain⟨es',q1,q2⟩:=zjT hk1 (val:=u) (by rw[zsJ s1];exact hk1) (by rw[zsI s1 s2];exact r1) g4 hys
    have hmu:N1.μ j=N.μ j:=by rw[f1.μ]
    have hlv:live (og os1 j):=by rw[ho];trivial
    have hbk:blk (N1.μ j)=some bb:=by rw[g1];rfl
    have hjl:j<os1.length:=zey (by rw[ho];intro h;cases h)
    have fg:FG N1.fz N1.h N1.fz (N1.h.put bb (.map es')):=⟨fun _ _ h _=>h,fun b2 z hf2 hz=>by
     rw[wT _ _ (fun(e:b2=bb)=>g2 (by rw[←e];exact hf2))];exact hz⟩
    obtain⟨i1,i2,i3⟩:=S1.inv.put hlv hbk (.map es') (.mp st ys)
     ⟨bb,es',g1,g2,zav _ _ _,q2.1,fun i e x he hx=>⟨(q2.2 i e x he hx).1.mono fg,(q2.2 i e x he hx).2.mono fg⟩⟩
    have S2:Stp E lk N1 os1 [j] ⟨N1.μ,N1.n,N1.fz,N1.h.put bb (.map es')⟩ _:=⟨i1,i2,Bk.put rfl (by rw[S1.inv.len];exact hjl) hlv hbk,fun j' hj'=>by
     rw[yy,if_neg (fun e=>by rw[e.1,hlj]at hj';cases hj')],.oset (fun _=>by rw[ho];trivial) (fun _=>.inl trivial) (fun _=>by rw[ho];trivial)⟩
    refine⟨_,_,_,_,e,⟨(z7,N.h.put bb (.map es')),⟨_,by rw[←f1.h],(S1.trans S2 f1.n).sim (.bad _)⟩,0,fun n _=>?_⟩⟩
    show runK r (.mupd q a b c) (C n) N.h=_;simp only[runK,ka,kb,kc,zC];rw[←hmu,g1];rw[f1.h]at g3;show (bif (eqS q w w).isNone then none else match N.h.t.get bb with
     |some (.map es)=>match putE q w u es with|some es'=>some (z7,N.h.put bb (.map es'))|none=>none
     |_=>none)=_
    rw[hself,g3];simp only[cond_false,q1]
 |_=>rw[ho]at e;cases e
end
end Go.PE
end
