/-
  Lemmas. No condition.
-/
import Derived.Test.YtkgdjnaidkhniaaGreatDoorWl
set_option linter.unusedSimpArgs false
set_option linter.unusedVariables false
section
namespace Go.Proofs.Tryz.Kn
open Go Go.CE Go.PE
theorem zkE:∀(l:List Nat) (t:Int) (p:Option Int),0<=t->t+6*(l.length:Int)<=100000->leO t p=false->zdt p (t::wN t l)=0
 | [],t,p,h0,h1,hp=>by simp only[Yzv]at h1;unfold wN zdt;rw[Yza (by omega),Yza (by omega),Yza (by rw[hp];decide)];rfl
 |n::l,t,p,h0,h1,hp=>by have hn:n % 6<6:=Yzn _ (by decide);rw[Yzh]at h1;unfold wN zdt;rw[Yza (by omega),Yza (by omega),Yza (by rw[hp];decide)];exact zkE l _ _ (by omega) (by omega) (by show decide _=false;exact decide_eq_false (by omega))
theorem zBO(p:PPl)(h:Zu p):zaJ (0::wN 0 p.bars.els)=0:=by
 have h0:=h.b0;have h4:=h.b4
 have hl:(0::wN 0 p.bars.els).length=p.bars.els.length+1:=by rw[Yzh,uJ]
 unfold zaJ;rw[hl,Yza (by omega),Yza (by omega)];exact zkE _ _ _ (by decide) (by omega) rfl
theorem zhb(ks:List (Int×Int))(f l:Int):∀(q p:List Zh) (n:Zh),zaS ks f l p q=0->zaS ks f l p (q++[n])=zb1 ks f l (p++q) n
 | [],p,n,_=>by
  rw[YzM,YzP];unfold zaS;by_cases h:zb1 ks f l p n=0
  .rw[Yzc h,h];rfl
  .rw[Yza h]
 |m::q,p,n,hq=>by
  unfold zaS at hq;by_cases h:zb1 ks f l p m=0
  .rw[Yzc h]at hq;have:=zhb ks f l q (p++[m]) n hq;rw[List.cons_append];unfold zaS;rw[Yzc h,this,YzD];rfl
  .rw[Yza h]at hq;exact absurd hq h
theorem zru{ds:List Zo}(h0:0<ds.length)(hr:∀d∈ds,zAe d){E:Nat}(hE:0<E)(s:Snd){acc:List Zh}(ha:acc.any (fun m=>ovl m (wX ds E s))=false):zb1 (ds.map keyOf) 0 (E:Int) acc (wX ds E s)=0:=by
 have hi:s.dv % ds.length<ds.length:=Yzn _ h0;obtain⟨d,hd⟩:∃d,ds[s.dv % ds.length]? = some d:=⟨_,Lz5 hi⟩;obtain⟨r0,r1,r2⟩:=hr d (Lz3 hd);obtain⟨W,hW,hW0⟩:∃W:Nat,(d.high-d.low+1).toNat=W/\d.high-d.low+1=(W:Int):=⟨_,rfl,by omega⟩;have e:wX ds E s=⟨((s.st % E:Nat):Int),min (E:Int) (((s.st % E:Nat):Int)+1+((s.lng % 8:Nat):Int)),((s.dv % ds.length:Nat):Int),d.low+((s.key % W:Nat):Int)⟩:=by unfold wX;rw[hd,<-hW]
 have hk:s.key % W<W:=Yzn _ (by omega);have hs:s.st % E<E:=Yzn _ hE;rw[e]at ha ⊢;generalize s.dv % ds.length=j at *;generalize s.st % E=t at *;generalize s.key % W=y at *;generalize s.lng % 8=z at *;unfold zb1
 dsimp only
 have gk:(ds.map keyOf)[((j:Nat):Int).toNat]? = some (d.low,d.high):=by rw[YzO,Lz6,hd];rfl
 rw[Yza (by rw[Yzm];omega),gk]
 dsimp only
 rw[Yza (by omega),Yza (by omega),Yza (by omega),Yza];intro hc;obtain⟨m,hm,ho⟩:=List.any_eq_true.1 hc;obtain⟨hm1,hm2⟩:=List.mem_filter.1 hm;have:=List.any_eq_false.1 ha m hm1;refine this ?_;rw[LzC,beq_iff_eq,beq_iff_eq]at hm2;unfold ovN at ho;unfold ovl;rw[LzC,Yzo,Yzo]at ho;simp only[LzC,Yzo];exact⟨⟨⟨hm2.1,hm2.2⟩,ho.2⟩,ho.1⟩
theorem zfE{ds:List Zo}(h0:0<ds.length)(hr:∀d∈ds,zAe d){E:Nat}(hE:0<E):∀(r:List Snd) (acc:List Zh),zaS (ds.map keyOf) 0 (E:Int) [] acc=0->zaS (ds.map keyOf) 0 (E:Int) [] (uD ds E acc r)=0
 | [],_,h=>h
 |s::r,acc,h=>by
  unfold uD;cases hc:acc.any (fun m=>ovl m (wX ds E s)) with
  |true=>exact zfE h0 hr hE r acc h
  |false=>refine zfE h0 hr hE r _ ?_;rw[zhb _ _ _ acc [] _ h,YzM];exact zru h0 hr hE s hc
theorem zbJ(ds:List Zo)(E:Nat):∀(r:List Snd) (acc:List Zh),(uD ds E acc r).length<=acc.length+r.length
 | [],_=>LzB _
 |s::r,acc=>by
  unfold uD;split
  .have:=zbJ ds E r acc;rw[Yzh];omega
  .have:=zbJ ds E r (acc++[wX ds E s]);rw[Yzx]at this;rw[Yzh];simp only[Yzh,Yzv]at this;omega
theorem zpt(t:Int)(l:List Int):zdL (t::l)=zdK t l:=by unfold zdL;rw[Yzh,Nat.add_sub_cancel,zfQ];rfl
theorem zxz(p:PPl)(h:Zu p):zbK (zaW p.org) (zuI p)=0:=by obtain⟨E1,E2,E3⟩:=zn9 p h;have n8:=h.n8;have hl:=zbJ (zaW p.org).divs.els (zpU p) p.notes.els [];have e1:(zuI p).notes.els=uD (zaW p.org).divs.els (zpU p) [] p.notes.els:=zN _;have e2:(zuI p).bars.els=0::wN 0 p.bars.els:=rfl;unfold zbK;rw[e1,e2,Yza (by simp only[Yzv]at hl;omega),zpt,<-E1];exact zfE (zbM p.org h.org) (znB p.org) E2 p.notes.els [] rfl
theorem zfc(o:Org)(nb:Int):∀(q:List Stg) (p:Option Int) (s:Stg),j9 o nb p q=0->j9 o nb p (q++[s])=j9 o nb (match q.getLast? with|some y=>some y.bar|none=>p) [s]
 | [],_,_,_=>rfl
 |y::q,p,s,h=>by
  rw[List.cons_append];unfold j9 at h ⊢;by_cases h1:y.bar<0
  .rw[Yzc h1]at h;cases h
  rw[Yza h1]at h ⊢;by_cases h2:nb-1<=y.bar
  .rw[Yzc h2]at h;cases h
  rw[Yza h2]at h ⊢;by_cases h3:p=some y.bar
  .rw[Yzc h3]at h;cases h
  rw[Yza h3]at h ⊢;by_cases h4:gtO y.bar p=true
  .rw[Yzc h4]at h;cases h
  rw[Yza h4]at h ⊢;by_cases h5:wI o y.reg≠0
  .rw[Yzc h5]at h;exact absurd h h5
  rw[Yza h5]at h ⊢;rw[zfc o nb q (some y.bar) s h];cases q with
  |nil=>rfl
  |cons z q=>rw[List.getLast?_cons_cons];cases hq:(z::q).getLast? with
   |none=>simp at hq
   |some w=>rfl
theorem zhY(o:Org)(nb:Nat)(hnb:0<nb)(hr:∀b,(∀i,b i<256)->wI o (wo o b)=0):∀(r:List Mrk) (last:Int) (acc:List Stg),(∀m∈r,m.ok)->j9 o ((nb:Int)+1) none acc=0->(∀y,acc.getLast? = some y->y.bar=last)->(acc=[]->last=-1)->
  j9 o ((nb:Int)+1) none (zeD o nb last acc r)=0
 | [],_,_,_,h,_,_=>h
 |m::r,last,acc,hm,h,hl,hn=>by
  have hb:m.bar % nb<nb:=Yzn _ hnb;unfold zeD;by_cases hc:last<((m.bar % nb:Nat):Int)
  .rw[Yzc hc];refine zhY o nb hnb hr r _ _ (fun x hx=>hm x (Yze _ hx)) ?_ (fun y hy=>?_) (fun h=>?_)
   .rw[zfc _ _ _ _ _ h];unfold j9
    dsimp only
    rw[Yza (by omega),Yza (by omega),Yza,Yza,Yza (by rw[hr _ (hm m (Yzf ..)).h2];simp)]
    .rfl
    .cases hq:acc.getLast? with
     |none=>simp[gtO]
     |some y=>have:=hl y hq;show ¬decide (((m.bar % nb:Nat):Int)<y.bar)=true;rw[Yzo];omega
    .cases hq:acc.getLast? with
     |none=>simp
     |some y=>have:=hl y hq;intro h;have h:y.bar=((m.bar % nb:Nat):Int):=Option.some.inj h;omega
   .rw[List.getLast?_concat]at hy;cases hy;rfl
   .simp at h
  .rw[Yza hc];exact zhY o nb hnb hr r last acc (fun x hx=>hm x (Yze _ hx)) h hl hn
theorem zfb(o:Org)(nb:Nat):∀(r:List Mrk) (last:Int) (acc:List Stg),(zeD o nb last acc r).length<=acc.length+r.length
 | [],_,_=>LzB _
 |m::r,last,acc=>by
  unfold zeD;split
  .have:=zfb o nb r ((m.bar % nb:Nat):Int) (acc++[⟨((m.bar % nb:Nat):Int),wo o m.bits⟩]);rw[Yzx]at this;rw[Yzh];simp only[Yzh,Yzv]at this;omega
  .have:=zfb o nb r last acc;rw[Yzh];omega
theorem zhi(p:PPl)(hp:p.ok)(h:Zu p):zcT (zaW p.org) (zuI p)=0:=by
 have h0:=zhj p.org hp.org h.org;obtain⟨s1,s2,s3⟩:=kO p.org h.org;have e1:(zuI p).bars.els=0::wN 0 p.bars.els:=rfl;have e2:(zuI p).sets.els=zeD (zaW p.org) p.bars.els.length (-1) [] p.marks.els:=zN _;have hl:=zfb (zaW p.org) p.bars.els.length p.marks.els (-1) [];have m3:=h.m3;have hlen:((0::wN 0 p.bars.els).length:Int)=(p.bars.els.length:Int)+1:=by rw[Yzh,uJ];rfl
 unfold zcT;rw[h0,Yza (by simp),e1,zBO p h,Yza (by simp),zxz p h,Yza (by simp),e2,Yza (by simp only[Yzv]at hl;omega),hlen];exact zhY _ _ h.b0 (fun b hb=>zee h0 b hb s1 s2 s3) _ _ _ hp.marks rfl (fun y hy=>by cases hy) (fun _=>rfl)
end Go.Proofs.Tryz.Kn
end
section
namespace Go.Proofs.Tryz.Kn
open Go Go.CE Go.PE
structure CPl where
 pc:PPl
 mems:Sl (Nat->Nat)
 h0:Nat
 h1:Nat
 hp:Nat
 k0:Nat
 k1:Nat
 k2:Nat
 k3:Nat
structure CPl.ok (p:CPl):Prop where
 pc:p.pc.ok
 ml:p.mems.els.length<=9223372036854775807
 mb:∀b∈p.mems.els,∀i,b i<256
 h0:p.h0<256
 h1:p.h1<256
 hp:p.hp<256
 k0:p.k0<256
 k1:p.k1<256
 k2:p.k2<256
 k3:p.k3<256
def zi2(p:CPl):List DV:=[enL 9 zga p.pc.org.ranks,enL 4 uM p.pc.org.divs,enL 4 zkp p.pc.org.cpls,enL 1 zi3 p.pc.bars,enL 4 zl9 p.pc.notes,enL 6 zmd p.pc.marks,enL 5 enB p.mems,U8 (p.h0:Int),U8 (p.h1:Int),U8 (p.hp:Int),U8 (p.k0:Int),U8 (p.k1:Int),U8 (p.k2:Int),U8 (p.k3:Int)]
def zjv(l:List Boa):Nat:=(l.map fun b=>b.stops.els.length).sum
def zcb(p:CPl):Bool:=zet p.pc&&decide (p.mems.els.length<=3)&&decide (p.pc.org.divs.els.length+p.pc.org.cpls.els.length+zjv p.pc.org.divs.els<=7)
theorem zGA(l:Sl Boa)(hl:l.els.length<=1000)(hs:∀b∈l.els,b.stops.els.length<=3):∀(r:List Boa) (i n:Nat),l.els.drop i=r->n<=4*i+10000->
  zS (zB7 (enL 4 uM l)) [I6 (i:Int),I6 (n:Int)] []=some (.exit 0,[I6 ((n+zjv r:Nat):Int)],[]):=by
 intro r
 induction r with
 |nil=>intro i n h _;refine zr ?_;simp only[zB7,zA,yJ,zg,zi,zb,wq (z6 h),zm];rfl
 |cons b r ih=>
  intro i n h hn;have hlt:=yn h;have hb:=hs b (Lz3 (ye h));have ea:zc .add (I6 (i:Int)) (I6 1)=some (I6 ((i+1:Nat):Int)):=yG;have eb:zc .add (I6 (n:Int)) (I6 (b.stops.els.length:Int))=some (I6 ((n+b.stops.els.length:Nat):Int)):=yG;have body:zB7 (enL 4 uM l) [I6 (i:Int),I6 (n:Int)] []=some (.normal,[I6 ((i+1:Nat):Int),I6 ((n+b.stops.els.length:Nat):Int)],[]):=by simp only[zB7,zA,yJ,zg,zi,zb,zbN hlt,zm,if_true,zX h,uM,y4,ww,ea,eb]
  rw[zE body,ih (i+1) _ (zJ h) (by omega)];rw[show zjv (b::r)=b.stops.els.length+zjv r by unfold zjv;simp,Yz7]
theorem t8(k:Nat)(p:CPl)(hp:p.ok):D (k+3) 8 [SA (zi2 p)]=some (S1 (Bo (zcb p))):=by
 have cf:=t31 k p.pc hp.pc;unfold zmc at cf;unfold zi2;rw[D8];unfold P8 zcb;rw[cf,zR,xI,zb,zm];cases hf:zet p.pc with
 |false=>rfl
 |true=>
  obtain⟨f1,f2,f3,f4,f5,f6⟩:=q8 (zaA hf).org;rw[Yza (by simp),zg,zb,zW,zb,zm];by_cases h1:p.mems.els.length<=3
  .have h1':¬(3:Int)<(p.mems.els.length:Int):=by omega
   have l9:=zGA p.pc.org.divs (by omega) f6 p.pc.org.divs.els 0 (p.pc.org.divs.els.length+p.pc.org.cpls.els.length) rfl (by omega);rw[show (I6 ((0:Nat):Int):DV)=I6 0 from rfl]at l9;have ea:zc .add (I6 (p.pc.org.divs.els.length:Int)) (I6 (p.pc.org.cpls.els.length:Int))=some (I6 ((p.pc.org.divs.els.length+p.pc.org.cpls.els.length:Nat):Int)):=yG;rw[Yza (by simpa using h1')];have ed:decide (((p.pc.org.divs.els.length+p.pc.org.cpls.els.length+zjv p.pc.org.divs.els:Nat):Int)<=7)=decide (p.pc.org.divs.els.length+p.pc.org.cpls.els.length+zjv p.pc.org.divs.els<=7):=decide_eq_decide.2 (by omega);simp only[zg,zb,ea,l9,yi,Yzq,Yzb,zA,wV,ed,h1,decide_true,Yyb]
  .have h1':(3:Int)<(p.mems.els.length:Int):=by omega
   rw[Yzc (by simpa using h1')];simp[h1]
structure Prb where
 o:Org
 x:Pce
 hn:Int
 hs:Int
 fn:Int
 fs:Int
 mems:Sl Reg
 hp:Int
 k0:Int
 k1:Int
 k2:Int
 k3:Int
def yE(q:Prb):List DV:=[St q.o.name,enL 6 enR q.o.ranks,enL 5 enV q.o.divs,enL 5 enC q.o.cpls,enL 1 enW q.x.bars,enL 4 x7 q.x.notes,enL 4 zaC q.x.sets,I6 q.hn,I6 q.hs,I6 q.fn,I6 q.fs,enL 3 zY q.mems,I6 q.hp,I6 q.k0,I6 q.k1,I6 q.k2,I6 q.k3]
def zaM(p:CPl):Prb:=⟨zaW p.pc.org,zuI p.pc,((p.h0 % 4:Nat):Int),((p.h1 % 8:Nat):Int),1,5,grow (p.mems.els.map (wo (zaW p.pc.org))),((p.hp % 3:Nat):Int),((p.k0 % 8:Nat):Int),((p.k1 % 8:Nat):Int),((p.k2 % 8:Nat):Int),((p.k3 % 8:Nat):Int)⟩
theorem zDS(k:Nat)(o:Org)(x:List DV)(hd:o.divs.els.length<=60)(hs:∀d∈o.divs.els,d.stops.els.length<=60)(hc:o.cpls.els.length<=60)(l:Sl (Nat->Nat))(hl:l.els.length<=1000)(hb:∀b∈l.els,∀i,b i<256)(c0 c1 c2 c3 c4 c5 c6 c7 c8 c9 c10 c11 c12 c13 c14 c15:DV):
  ∀(r:List (Nat->Nat)) (i:Nat) (acc:List Reg),l.els.drop i=r->acc.length=i->
  zS (ztf (D (k+1)) (enL 5 enB l) [.agg (enO o),.agg x]) [I6 (i:Int),c0,c1,c2,c3,c4,c5,c6,c7,c8,c9,c10,c11,c12,c13,c14,c15] [ocL zY (grow acc)]=some (.exit 0,[c0,c1,c2,c3,c4,c5,c6,c7,c8,c9,c10,c11,c12,c13,c14,c15],[ocL zY (grow (acc++r.map (wo o)))]):=by
 intro r
 induction r with
 |nil=>intro i acc h ha;refine zr ?_;simp only[ztf,zA,yJ,yU,zg,zi,zb,wq (z6 h),zm,List.map_nil,YzP];rfl
 |cons b r ih=>
  intro i acc h ha;have hlt:=yn h;have hbb:=hb b (Lz3 (ye h));have ea:zc .add (I6 (i:Int)) (I6 1)=some (I6 ((i+1:Nat):Int)):=yG;have dr:=t14 k o b hbb hd hs hc;have ef:fits 40 ((grow acc).els.length+1)=true:=xf (by decide) (by rw[zN];omega);have e0:[atD (dsA (yR [.agg (enO o),.agg x] 0)) 0,atD (dsA (yR [.agg (enO o),.agg x] 0)) 1,atD (dsA (yR [.agg (enO o),.agg x] 0)) 2,atD (dsA (yR [.agg (enO o),.agg x] 0)) 3]=enO o:=rfl;have e1:[atD (enB b) 0,atD (enB b) 1,atD (enB b) 2,atD (enB b) 3,atD (enB b) 4]=enB b:=rfl;have e2:∀r:Reg,[atD (zY r) 0,atD (zY r) 1,atD (zY r) 2]=zY r:=fun r=>rfl;have body:ztf (D (k+1)) (enL 5 enB l) [.agg (enO o),.agg x] [I6 (i:Int),c0,c1,c2,c3,c4,c5,c6,c7,c8,c9,c10,c11,c12,c13,c14,c15] [ocL zY (grow acc)]=some (.normal,[I6 ((i+1:Nat):Int),c0,c1,c2,c3,c4,c5,c6,c7,c8,c9,c10,c11,c12,c13,c14,c15],[ocL zY (grow (acc++[wo o b]))]):=by rw[xx,<-wj (f:=zY)];simp only[ztf,zA,yJ,yU,zg,zi,zb,zbN hlt,zm,if_true,zX h,e0,e1,e2,dr,ztb,xQ,ef,xM,ea,xg]
  rw[zE body,ih (i+1) _ (zJ h) (by rw[Yzx,ha];rfl)];rw[Yzw,YzD];rfl
theorem zEx{β:Type}(o:Org)(x:Pce)(K:List DS->Option β):bT [some 4,some 3] (some (.tup [.agg (enO o),.agg (zko x)])) K=K [.agg (enO o),.agg (zko x)]:=rfl
theorem zde{p:CPl}(h:zcb p=true):zet p.pc=true/\p.mems.els.length<=3/\p.pc.org.divs.els.length+p.pc.org.cpls.els.length+zjv p.pc.org.divs.els<=7:=by unfold zcb at h;simp only[LzC,Yzo]at h;exact⟨h.1.1,h.1.2,h.2⟩
theorem t9(k:Nat)(p:CPl)(hp:p.ok)(hf:zcb p=true):D (k+9) 9 [SA (zi2 p)]=some (SA (yE (zaM p))):=by obtain⟨h45,hm,_⟩:=zde hf;obtain⟨s1,s2,s3⟩:=kO p.pc.org (zaA h45).org;have mk:=t32 k p.pc hp.pc h45;unfold zmc at mk;obtain⟨hpc,hml,hmb,h0,h1,h2,k0,k1,k2,k3⟩:=hp;have rm:∀(a b:Nat),b≠0->zc .rem (U8 (a:Int)) (U8 (b:Int))=some (U8 ((a % b:Nat):Int)):=fun a b hb=>zgG hb;have cv:∀(a:Nat),a<256->zx .i64 (U8 (a:Int))=some (I6 (a:Int)):=fun a ha=>vN;have m4:∀a:Nat,a % 4<256:=fun a=>Nat.lt_trans (Yzn _ (by decide)) (by decide);have m8:∀a:Nat,a % 8<256:=fun a=>Nat.lt_trans (Yzn _ (by decide)) (by decide);have m3:∀a:Nat,a % 3<256:=fun a=>Nat.lt_trans (Yzn _ (by decide)) (by decide);have r4:=fun a=>rm a 4 (by decide);have r8:=fun a=>rm a 8 (by decide);have r3:=fun a=>rm a 3 (by decide);rw[show (U8 ((4:Nat):Int):DV)=U8 4 from rfl]at r4;rw[show (U8 ((8:Nat):Int):DV)=U8 8 from rfl]at r8;rw[show (U8 ((3:Nat):Int):DV)=U8 3 from rfl]at r3;unfold zi2;rw[D9];unfold P9;rw[mk,zEx];simp only[y4,ww,r4,r8,r3,zb,cv _ (m4 _),cv _ (m8 _),cv _ (m3 _)];rw[show (I6 0:DV)=I6 ((0:Nat):Int) from rfl,show (none:OC)=ocL zY (grow []) from rfl];rw[zDS (k+7) (zaW p.pc.org) (zko (zuI p.pc)) (by omega) (fun d hd=>Yzl (s2 d hd) (by decide)) (by omega) p.mems (by omega) hmb _ _ _ _ _ _ _ _ _ _ _ _ _ _ _ _ p.mems.els 0 [] rfl rfl];simp only[yi,Yzq,Yzb,zA,yJ,yU,zbf,YzM];rfl
end Go.Proofs.Tryz.Kn
end
section
namespace Go.Proofs.Tryz.Kn
open Go Go.CE Go.PE
def ud(m n:Int):Bool:=decide (n<0)||decide (m<n)
theorem i0:(I6 0:DV)=I6 ((0:Nat):Int):=rfl
theorem zBN(F:DV->DV->List DV->List OC->Option PX)(m:Int)(id:Nat)(a c:Int)
  (h0:F (I6 a) (I6 c) [I6 0] []=some (if ud m a then(.ret,[I6 3],[]) else(.normal,[I6 1],[])))
  (h1:F (I6 a) (I6 c) [I6 1] []=some (if ud m c then(.ret,[I6 3],[]) else(.normal,[I6 2],[])))
  (h2:F (I6 a) (I6 c) [I6 2] []=some (.exit id,[],[])):
  zS (F (I6 a) (I6 c)) [I6 0] []=some (zhz id (if ud m a||ud m c then 3 else 0)):=by
 cases ha:ud m a with
 |true=>rw[ha,Yzc rfl]at h0;rw[zz h0];rfl
 |false=>
  rw[ha,Yza (by decide)]at h0;rw[zE h0];cases hc:ud m c with
  |true=>rw[hc,Yzc rfl]at h1;rw[zz h1];rfl
  |false=>rw[hc,Yza (by decide)]at h1;rw[zE h1,zr h2];rfl
def zan(hn hs fn fs:Int):Int:=if ud 10 hn||ud 10 fn then 3 else if ud 127 hs||ud 127 fs then 3 else 0
theorem p20:uc 2 (I6 0)=some 0:=uP (i:=0) (by decide)
theorem p21:uc 2 (I6 1)=some 1:=uP (i:=1) (by decide)
theorem a01:zc .add (I6 0) (I6 1)=some (I6 1):=yG
theorem a11:zc .add (I6 1) (I6 1)=some (I6 2):=yG
theorem a21:zc .add (I6 2) (I6 1)=some (I6 3):=yG
theorem a31:zc .add (I6 3) (I6 1)=some (I6 4):=yG
theorem t23(k:Nat)(hn hs fn fs:Int):D (k+1) 23 [SA [I6 hn,I6 hs,I6 fn,I6 fs]]=some (S1 (I6 (zan hn hs fn fs))):=by
  have l1:=zBN (fun a c=>ztr a c) 10 0 hn fn
    (by simp only [ztr, zA, zi, zb, p20, y4, zW, zm, a01, ud]
        by_cases h1:hn<0<;>by_cases h2:10<hn<;>simp[h1,h2])
    (by simp only [ztr, zA, zi, zb, p21, y4, ww, zW, zm, a11, ud]
        by_cases h1:fn<0<;>by_cases h2:10<fn<;>simp[h1,h2])
    (by simp only[ztr,zA,zi,zb,zm];simp)
  have l2:=zBN (fun a c=>zhG a c) 127 2 hs fs
    (by simp only [zhG, zA, zi, zb, p20, y4, zW, zm, a01, ud]
        by_cases h1:hs<0<;>by_cases h2:127<hs<;>simp[h1,h2])
    (by simp only [zhG, zA, zi, zb, p21, y4, ww, zW, zm, a11, ud]
        by_cases h1:fs<0<;>by_cases h2:127<fs<;>simp[h1,h2])
    (by simp only[zhG,zA,zi,zb,zm];simp)
  rw[D23];unfold P23 zan;rw[l1];cases h1:(ud 10 hn||ud 10 fn) with
  |true=>rfl
  |false=>show yP (zS (zhG (I6 hs) (I6 fs)) [I6 0] []) _ _=_;rw[l2];cases h2:(ud 127 hs||ud 127 fs)<;>rfl
def zb9(o:Org):List Reg->Int
 | []=>0
 |r::l=>if wI o r≠0 then wI o r else zb9 o l
theorem zDG(k:Nat)(o:Org)(ho:o.ok)(l:Sl Reg)(hl:l.els.length<=1000):∀(r:List Reg) (i:Nat),l.els.drop i=r->
  zS (ztp (D (k+10)) (I6 (l.els.length:Int)) (enL 3 zY l) (St o.name) (enL 6 enR o.ranks) (enL 5 enV o.divs) (enL 5 enC o.cpls)) [I6 (i:Int)] []=some (zhz 0 (zb9 o r)):=by
 intro r
 induction r with
 |nil=>intro i h;refine zr ?_;simp only[ztp,zA,zi,zb,wq (z6 h),zm,zb9];rfl
 |cons x r ih=>
  intro i h;have hlt:=yn h;have ea:zc .add (I6 (i:Int)) (I6 1)=some (I6 ((i+1:Nat):Int)):=yG;have rc:=t24 k o ho x;unfold enO zY at rc;have body:ztp (D (k+10)) (I6 (l.els.length:Int)) (enL 3 zY l) (St o.name) (enL 6 enR o.ranks) (enL 5 enV o.divs) (enL 5 enC o.cpls) [I6 (i:Int)] []=some (if wI o x≠0 then(.ret,[I6 (wI o x)],[]) else(.normal,[I6 ((i+1:Nat):Int)],[])):=by simp only[ztp,zA,zi,zb,zbN hlt,zm,if_true,zX h,zY,y4,ww,rc,zR,z7,ea];by_cases h5:wI o x=0<;>simp[h5]
  unfold zb9;by_cases h5:wI o x≠0
  .rw[Yzc h5]at body ⊢;rw[zz body];unfold zhz;rw[Yzc h5]
  .rw[Yza h5]at body ⊢;rw[zE body,ih (i+1) (zJ h)]
theorem q0:uc 4 (I6 0)=some 0:=uP (i:=0) (by decide)
theorem q1:uc 4 (I6 1)=some 1:=uP (i:=1) (by decide)
theorem q2:uc 4 (I6 2)=some 2:=uP (i:=2) (by decide)
theorem q3:uc 4 (I6 3)=some 3:=uP (i:=3) (by decide)
theorem zA4(a b c d:Int):zS (zaO (I6 a) (I6 b) (I6 c) (I6 d)) [I6 0] []=some (zhz 2 (if ud 1000 a||ud 1000 b||ud 1000 c||ud 1000 d then 3 else 0)):=by
 have h0:zaO (I6 a) (I6 b) (I6 c) (I6 d) [I6 0] []=some (if ud 1000 a then(.ret,[I6 3],[]) else(.normal,[I6 1],[])):=by simp only[zaO,zA,zi,zb,q0,y4,zW,zm,a01,ud];by_cases h1:a<0<;>by_cases h2:1000<a<;>simp[h1,h2]
 have h1:zaO (I6 a) (I6 b) (I6 c) (I6 d) [I6 1] []=some (if ud 1000 b then(.ret,[I6 3],[]) else(.normal,[I6 2],[])):=by simp only[zaO,zA,zi,zb,q1,y4,ww,zW,zm,a11,ud];by_cases h1:b<0<;>by_cases h2:1000<b<;>simp[h1,h2]
 have h2:zaO (I6 a) (I6 b) (I6 c) (I6 d) [I6 2] []=some (if ud 1000 c then(.ret,[I6 3],[]) else(.normal,[I6 3],[])):=by simp only[zaO,zA,zi,zb,q2,y4,ww,zW,zm,a21,ud];by_cases h1:c<0<;>by_cases h2:1000<c<;>simp[h1,h2]
 have h3:zaO (I6 a) (I6 b) (I6 c) (I6 d) [I6 3] []=some (if ud 1000 d then(.ret,[I6 3],[]) else(.normal,[I6 4],[])):=by simp only[zaO,zA,zi,zb,q3,y4,ww,zW,zm,a31,ud];by_cases h1:d<0<;>by_cases h2:1000<d<;>simp[h1,h2]
 have h4:zaO (I6 a) (I6 b) (I6 c) (I6 d) [I6 4] []=some (.exit 2,[],[]):=by simp only[zaO,zA,zi,zb,zm];simp
 cases ha:ud 1000 a with
 |true=>rw[ha,Yzc rfl]at h0;rw[zz h0];rfl
 |false=>
  rw[ha,Yza (by decide)]at h0;rw[zE h0];cases hb:ud 1000 b with
  |true=>rw[hb,Yzc rfl]at h1;rw[zz h1];rfl
  |false=>
   rw[hb,Yza (by decide)]at h1;rw[zE h1];cases hc:ud 1000 c with
   |true=>rw[hc,Yzc rfl]at h2;rw[zz h2];rfl
   |false=>
    rw[hc,Yza (by decide)]at h2;rw[zE h2];cases hd:ud 1000 d with
    |true=>rw[hd,Yzc rfl]at h3;rw[zz h3];rfl
    |false=>rw[hd,Yza (by decide)]at h3;rw[zE h3,zr h4];rfl
def zmu(q:Prb):Int:=if zcT q.o q.x≠0 then zcT q.o q.x else if zan q.hn q.hs q.fn q.fs≠0 then zan q.hn q.hs q.fn q.fs else if 40<q.mems.els.length then 4 else if zb9 q.o q.mems.els≠0 then zb9 q.o q.mems.els else if ud 20 q.hp then 3 else if ud 1000 q.k0||ud 1000 q.k1||ud 1000 q.k2||ud 1000 q.k3 then 3 else 0
structure Prb.ok (q:Prb):Prop where
 o:q.o.ok
 bl:q.x.bars.els.length<=9223372036854775807
theorem t25(k:Nat)(q:Prb)(hq:q.ok):D (k+12) 25 [SA (yE q)]=some (S1 (I6 (zmu q))):=by
 have pc:=t22 k q.o hq.o q.x hq.bl;have sc:=t23 (k+10) q.hn q.hs q.fn q.fs;unfold enO zko at pc;unfold yE;rw[D25];unfold P25 zmu;simp only[pc,sc,zR,z7,zW,zi,zb,zm,zg,Yzo];by_cases h1:zcT q.o q.x=0
 .by_cases h2:zan q.hn q.hs q.fn q.fs=0
  .by_cases h3:40<q.mems.els.length
   .have:(40:Int)<(q.mems.els.length:Int):=by omega
    simp[h1,h2,h3,this]
   .have:¬(40:Int)<(q.mems.els.length:Int):=by omega
    have l9:=zDG (k+1) q.o hq.o q.mems (by omega) q.mems.els 0 rfl;rw[<-i0]at l9;have l21:=zA4 q.k0 q.k1 q.k2 q.k3;simp only[h1,h2,h3,this,l9,l21];unfold zhz;by_cases h4:zb9 q.o q.mems.els=0
    .unfold ud;by_cases h5:q.hp<0
     .simp[h4,h5]
     by_cases h6:20<q.hp
     .simp[h4,h5,h6]
     simp only[h4,h5,h6];generalize (decide (q.k0<0)||decide (1000<q.k0)||(decide (q.k1<0)||decide (1000<q.k1))||(decide (q.k2<0)||decide (1000<q.k2))||(decide (q.k3<0)||decide (1000<q.k3)))=z;cases z<;>simp
    .simp[h4]
  .simp[h1,h2]
 .simp[h1]
theorem zj5(o:Org):∀l:List Reg,(∀r∈l,wI o r=0)->zb9 o l=0
 | [],_=>rfl
 |r::l,h=>by unfold zb9;rw[Yza (by rw[h r (Yzf ..)];simp)];exact zj5 o l fun x hx=>h x (Yze _ hx)
theorem zco{m n:Int}(h0:0<=n)(h1:n<=m):ud m n=false:=by unfold ud;rw[decide_eq_false (by omega),decide_eq_false (by omega)];rfl
theorem zxE(p:CPl)(hf:zcb p=true):(zaM p).ok:=by obtain⟨h45,hm,_⟩:=zde hf;have h:=zaA h45;have b4:=h.b4;exact⟨zxF _ h.org,by show (0::wN 0 p.pc.bars.els).length<=_;rw[Yzh,uJ];omega⟩
theorem zhh(p:CPl)(hp:p.ok)(hf:zcb p=true):zmu (zaM p)=0:=by
 obtain⟨h45,hm,_⟩:=zde hf;have h:=zaA h45;have h0:=zhj p.pc.org hp.pc.org h.org;obtain⟨s1,s2,s3⟩:=kO p.pc.org h.org;have em:(zaM p).mems.els=p.mems.els.map (wo (zaW p.pc.org)):=zN _;have m0:p.h0 % 4<4:=Yzn _ (by decide);have m1:p.h1 % 8<8:=Yzn _ (by decide);have m2:p.hp % 3<3:=Yzn _ (by decide);have n0:p.k0 % 8<8:=Yzn _ (by decide);have n1:p.k1 % 8<8:=Yzn _ (by decide);have n2:p.k2 % 8<8:=Yzn _ (by decide);have n3:p.k3 % 8<8:=Yzn _ (by decide);have e1:zcT (zaM p).o (zaM p).x=0:=zhi p.pc hp.pc h;have e2:zan (zaM p).hn (zaM p).hs (zaM p).fn (zaM p).fs=0:=by unfold zan;rw[show ud 10 (zaM p).hn=false from zco (by show (0:Int)<=((p.h0 % 4:Nat):Int);omega) (by show ((p.h0 % 4:Nat):Int)<=10;omega),show ud 127 (zaM p).hs=false from zco (by show (0:Int)<=((p.h1 % 8:Nat):Int);omega) (by show ((p.h1 % 8:Nat):Int)<=127;omega)];rfl
 have e3:zb9 (zaM p).o (zaM p).mems.els=0:=by rw[em];refine zj5 _ _ fun r hr=>?_;obtain⟨b,hb,rfl⟩:=List.mem_map.1 hr;exact zee h0 b (hp.mb b hb) s1 s2 s3
 unfold zmu;rw[e1,Yza (by simp),e2,Yza (by simp),em,Yzm,Yza (by omega),<-em,e3,Yza (by simp),
  show ud 20 (zaM p).hp=false from zco (by show (0:Int)<=((p.hp % 3:Nat):Int);omega) (by show ((p.hp % 3:Nat):Int)<=20;omega),
  show ud 1000 (zaM p).k0=false from zco (by show (0:Int)<=((p.k0 % 8:Nat):Int);omega) (by show ((p.k0 % 8:Nat):Int)<=1000;omega),
  show ud 1000 (zaM p).k1=false from zco (by show (0:Int)<=((p.k1 % 8:Nat):Int);omega) (by show ((p.k1 % 8:Nat):Int)<=1000;omega),
  show ud 1000 (zaM p).k2=false from zco (by show (0:Int)<=((p.k2 % 8:Nat):Int);omega) (by show ((p.k2 % 8:Nat):Int)<=1000;omega),
  show ud 1000 (zaM p).k3=false from zco (by show (0:Int)<=((p.k3 % 8:Nat):Int);omega) (by show ((p.k3 % 8:Nat):Int)<=1000;omega)]
 rfl
end Go.Proofs.Tryz.Kn
end
section
namespace Go.Proofs.Tryz.Kn
open Go Go.CE Go.PE
theorem zHi{β:Type}(q:Prb)(K:List DV->Option β):bA 17 (some (SA (yE q))) K=K (yE q):=rfl
theorem zvV(q:Prb):[atD (yE q) 0,atD (yE q) 1,atD (yE q) 2,atD (yE q) 3,atD (yE q) 4,atD (yE q) 5,atD (yE q) 6,atD (yE q) 7,atD (yE q) 8,atD (yE q) 9,atD (yE q) 10,atD (yE q) 11,atD (yE q) 12,atD (yE q) 13,atD (yE q) 14,atD (yE q) 15,atD (yE q) 16]=yE q:=rfl
end Go.Proofs.Tryz.Kn
end
section
namespace Go.Proofs.Tryz.Kn
open Go Go.CE Go.PE
section
variable {β:Type} {x y:Int} {a b:Option β}
theorem zfV(h:x=y):(za (zc .eql (I6 x) (I6 y)) fun v=>ifB v a b)=a:=by rw[xO,zb,zm,Yzc (by simpa using h)]
theorem zfU(h:¬x=y):(za (zc .eql (I6 x) (I6 y)) fun v=>ifB v a b)=b:=by rw[xO,zb,zm,Yza (by simpa using h)]
theorem zzC(h:x=y):(za (zc .neq (I6 x) (I6 y)) fun v=>ifB v a b)=b:=by rw[z7,zb,zm,Yza (by simpa using h)]
theorem zzB(h:¬x=y):(za (zc .neq (I6 x) (I6 y)) fun v=>ifB v a b)=a:=by rw[z7,zb,zm,Yzc (by simpa using h)]
theorem zD9(h:x<y):(za (zc .lss (I6 x) (I6 y)) fun v=>ifB v a b)=a:=by rw[zi,zb,zm,Yzc (by simpa using h)]
theorem zBh(h:¬x<y):(za (zc .lss (I6 x) (I6 y)) fun v=>ifB v a b)=b:=by rw[zi,zb,zm,Yza (by simpa using h)]
theorem zBi(h:y<=x):(za (zc .geq (I6 x) (I6 y)) fun v=>ifB v a b)=a:=by rw[xD,zb,zm,Yzc (by simpa using h)]
theorem zwc(h:¬y<=x):(za (zc .geq (I6 x) (I6 y)) fun v=>ifB v a b)=b:=by rw[xD,zb,zm,Yza (by simpa using h)]
end
structure Act where
 tick:Int
 way:Int
 kind:Int
 dv:Int
 ix:Int
def xa(a:Act):List DV:=[I6 a.tick,I6 a.way,I6 a.kind,I6 a.dv,I6 a.ix]
def zck(o:Org)(dv:Int):Int:=((o.divs.els[dv.toNat]?).map fun d=>(d.stops.els.length:Int)).getD 0
def zb3(n i:Int):Int:=if 0<=i/\i<n then 0 else 10
def vS(q:Prb)(a:Act):Int:=
 if a.kind=1 then(if 0<=a.dv/\a.dv<(q.o.divs.els.length:Int) then zb3 (zck q.o a.dv) a.ix else 10)
 else if a.dv=0 then zb3 (if a.kind=2 then(q.o.cpls.els.length:Int) else if a.kind=3 then(q.o.divs.els.length:Int) else(q.mems.els.length:Int)) a.ix else 10
def vi(q:Prb)(a:Act):Int:=
 if a.way=1\/a.way=4 then(if 1<=a.kind/\a.kind<=3 then vS q a else 12)
 else if a.way=2\/a.way=3 then(if a.kind=0 then vS q a else 12) else 12
theorem zhS{o:Org}{dv:Int}(h0:0<=dv)(h1:dv<(o.divs.els.length:Int)):∃d,o.divs.els[dv.toNat]? = some d/\zck o dv=(d.stops.els.length:Int)/\yb 5 (enL 5 enV o.divs) (I6 dv)=some (enV d):=by obtain⟨d,hd⟩:∃d,o.divs.els[dv.toNat]? = some d:=⟨_,Lz5 (by omega)⟩;refine⟨d,hd,by unfold zck;rw[hd];rfl,?_⟩;obtain⟨m,hm⟩:∃m:Nat,dv=(m:Int):=⟨dv.toNat,by omega⟩;rw[hm]at hd ⊢;rw[YzO]at hd;rw[xC,hd];rfl
theorem zsc(n i:Int):(za (zc .geq (I6 i) (I6 0)) fun v12=>ifB v12 (za (zc .lss (I6 i) (I6 n)) fun v14=>za (zbG v14) fun v15=>ifB v15 (some (S1 (I6 10))) (some (S1 (I6 0)))) (some (S1 (I6 10))))=some (S1 (I6 (zb3 n i))):=by
 unfold zb3;by_cases h:0<=i
 .rw[zBi h,zi,zb,xI,zb,zm];by_cases h2:i<n<;>simp[h,h2]
 .rw[zwc h,Yza (fun c=>h c.1)]
theorem t37(k:Nat)(q:Prb)(a:Act):D (k+1) 37 [SA (yE q),SA (xa a)]=some (S1 (I6 (vi q a))):=by
 have hk1:∀hk:a.kind=1,(za (zc .geq (I6 a.dv) (I6 0)) fun v2=>ifB v2
   (za (zV (enL 5 enV q.o.divs)) fun v3 => za (zc .lss (I6 a.dv) v3) fun v4 => ifB v4
    (za (zc .geq (I6 a.ix) (I6 0)) fun v5 => ifB v5
     (za (yb 5 (enL 5 enV q.o.divs) (I6 a.dv)) fun x6=>za (zV (atD x6 4)) fun v7=>za (zc .lss (I6 a.ix) v7) fun v8=>za (zbG v8) fun v9=>ifB v9 (some (S1 (I6 10))) (some (S1 (I6 0))))
     (some (S1 (I6 10))))
    (some (S1 (I6 10))))
   (some (S1 (I6 10))))=some (S1 (I6 (vS q a))):=by
  intro hk;unfold vS;rw[Yzc hk];by_cases h1:0<=a.dv
  .rw[zBi h1,zg,zb];by_cases h2:a.dv<(q.o.divs.els.length:Int)
   .obtain⟨d,hd,hs,ix⟩:=zhS h1 h2;have:=zsc (d.stops.els.length:Int) a.ix;have pl:zV (atD (enV d) 4)=some (I6 (d.stops.els.length:Int)):=zg _;rw[zD9 h2,ix,Yzc ⟨h1,h2⟩,hs,<-this];simp only[zb,pl]
   .rw[zBh h2,Yza (fun c=>h2 c.2)]
  .rw[zwc h1,Yza (fun c=>h1 c.1)]
 have hko:∀(n:Int) (v:DV),zV v=some (I6 n)->¬a.kind=1->(if a.kind=2 then(q.o.cpls.els.length:Int) else if a.kind=3 then(q.o.divs.els.length:Int) else(q.mems.els.length:Int))=n->(za (zc .eql (I6 a.dv) (I6 0)) fun v11=>ifB v11
   (za (zc .geq (I6 a.ix) (I6 0)) fun v12=>ifB v12 (za (zV v) fun v13=>za (zc .lss (I6 a.ix) v13) fun v14=>za (zbG v14) fun v15=>ifB v15 (some (S1 (I6 10))) (some (S1 (I6 0)))) (some (S1 (I6 10))))
   (some (S1 (I6 10))))=some (S1 (I6 (vS q a))):=by
  intro n v hv hk hn;unfold vS;rw[Yza hk,hn];by_cases h1:a.dv=0
  .rw[zfV h1,Yzc h1,<-zsc n a.ix,hv];rfl
  .rw[zfU h1,Yza h1]
 unfold yE xa;rw[D37];unfold P37 vi;by_cases w1:a.way=1
 .rw[zfV w1,Yzc (Or.inl w1)];by_cases k1:a.kind=1
  .rw[zfV k1,Yzc (by omega)];exact hk1 k1
  rw[zfU k1];by_cases k2:a.kind=2
  .rw[zfV k2,Yzc (by omega)];exact hko _ _ (zg _) k1 (Yzc k2)
  rw[zfU k2];by_cases k3:a.kind=3
  .rw[zfV k3,Yzc (by omega)];exact hko _ _ (zg _) k1 ((Yza k2).trans (Yzc k3))
  rw[zfU k3,Yza (by omega)]
 rw[zfU w1];by_cases w4:a.way=4
 .rw[zfV w4,Yzc (Or.inr w4)];by_cases k1:a.kind=1
  .rw[zfV k1,Yzc (by omega)];exact hk1 k1
  rw[zfU k1];by_cases k2:a.kind=2
  .rw[zfV k2,Yzc (by omega)];exact hko _ _ (zg _) k1 (Yzc k2)
  rw[zfU k2];by_cases k3:a.kind=3
  .rw[zfV k3,Yzc (by omega)];exact hko _ _ (zg _) k1 ((Yza k2).trans (Yzc k3))
  rw[zfU k3,Yza (by omega)]
 rw[zfU w4,Yza (by omega)];by_cases w2:a.way=2
 .rw[zfV w2,Yzc (Or.inl w2)];by_cases k0:a.kind=0
  .rw[zzC k0,Yzc k0];exact hko _ _ (zg _) (by omega) ((Yza (by omega)).trans (Yza (by omega)))
  rw[zzB k0,Yza k0]
 rw[zfU w2];by_cases w3:a.way=3
 .rw[zfV w3,Yzc (Or.inr w3)];by_cases k0:a.kind=0
  .rw[zzC k0,Yzc k0];exact hko _ _ (zg _) (by omega) ((Yza (by omega)).trans (Yza (by omega)))
  rw[zzB k0,Yza k0]
 rw[zfU w3,Yza (by omega)]
end Go.Proofs.Tryz.Kn
end
section
namespace Go.Proofs.Tryz.Kn
open Go Go.CE Go.PE
section
variable {β:Type} {x y:Int} {k:DV->Option β} {a b:Option β}
theorem vM(h:x=y):za (zc .eql (I6 x) (I6 y)) k=k (Bo true):=by rw[xO,zb,h,Yyh]
theorem yL(h:¬x=y):za (zc .eql (I6 x) (I6 y)) k=k (Bo false):=by rw[xO,zb,show (x==y)=false from beq_eq_false_iff_ne.2 h]
theorem zir(h:¬x=y):za (zc .neq (I6 x) (I6 y)) k=k (Bo true):=by rw[z7,zb,show (x==y)=false from beq_eq_false_iff_ne.2 h];rfl
theorem zgH(h:x=y):za (zc .neq (I6 x) (I6 y)) k=k (Bo false):=by rw[z7,zb,h,Yyh];rfl
theorem zaT(h:x<y):za (zc .lss (I6 x) (I6 y)) k=k (Bo true):=by rw[zi,zb,decide_eq_true h]
theorem uE(h:¬x<y):za (zc .lss (I6 x) (I6 y)) k=k (Bo false):=by rw[zi,zb,decide_eq_false h]
theorem zsn(h:x > y):za (zc .gtr (I6 x) (I6 y)) k=k (Bo true):=by rw[zW,zb,decide_eq_true h]
theorem zgK(h:¬x > y):za (zc .gtr (I6 x) (I6 y)) k=k (Bo false):=by rw[zW,zb,decide_eq_false h]
theorem zlZ(h:x>=y):za (zc .geq (I6 x) (I6 y)) k=k (Bo true):=by rw[xD,zb,decide_eq_true h]
theorem zl0(h:¬x>=y):za (zc .geq (I6 x) (I6 y)) k=k (Bo false):=by rw[xD,zb,decide_eq_false h]
theorem yl:ifB (Bo true) a b=a:=rfl
theorem zK:ifB (Bo false) a b=b:=rfl
theorem zin:za (zbG (Bo true)) k=k (Bo false):=rfl
theorem zpb:za (zbG (Bo false)) k=k (Bo true):=rfl
end
noncomputable def T16(D C M s c o nm nc nd kind dv ix:DV):Option DA:=
 za (zO (some [[nm],[I6 0],[nc],[nd]]) kind)
 fun n116=>za (xY (some [[nm],[I6 0],[nc],[nd]]) n116)
 fun x117=>za (zc .eql kind (I6 1))
 fun v118 => 
 ifB v118 (za (zc .lss dv (I6 0))
 fun v119 => 
 ifB v119 (some (.tup [.agg [.nils,U64 0,U64 0],.one (I6 10)])) (za (zV D)
 fun v120=>za (zc .geq dv v120)
 fun v121 => 
 ifB v121 (some (.tup [.agg [.nils,U64 0,U64 0],.one (I6 10)])) (za (yb 5 D dv)
 fun x122=>za (zV (atD x122 4))
 fun v123=>za (zc .lss ix (I6 0))
 fun v124 => 
 ifB v124 (some (.tup [.agg [.nils,U64 0,U64 0],.one (I6 10)])) (za (zc .geq ix v123)
 fun v125 => 
 ifB v125 (some (.tup [.agg [.nils,U64 0,U64 0],.one (I6 10)])) (za (yq 1 s)
 fun e126=>gd (fits 8 (xH (some [])+(e126:List (List DV)).length)) ( za (zc .eql kind (I6 0))
 fun v127 => 
 ifB v127 (za (yb 3 M ix)
 fun x128=>some (.tup [.agg [atD x128 0,atD x128 1,atD x128 2],.one (I6 0)])) (za (zc .eql kind (I6 1))
 fun v129 => 
 ifB v129 (za (zO (zP (some []) e126) dv)
 fun n130=>za (xY (zP (some []) e126) n130)
 fun x131=>za (zx .u64 ix)
 fun v132=>za (zq true (U64 1) v132)
 fun v133=>za (zc .xor (atD x131 0) v133)
 fun v134=>za (zO (zP (some []) e126) dv)
 fun n135=>za (zaR 1 (zP (some []) e126) n135 0 [v134])
 fun w136=>some (.tup [.agg [mkL 1 w136,c,o],.one (I6 0)])) (za (zc .eql kind (I6 2))
 fun v137 => 
 ifB v137 (za (zx .u64 ix)
 fun v138=>za (zq true (U64 1) v138)
 fun v139=>za (zc .xor c v139)
 fun v140=>some (.tup [.agg [mkL 1 (zP (some []) e126),v140,o],.one (I6 0)])) (za (zx .u64 ix)
 fun v141=>za (zq true (U64 1) v141)
 fun v142=>za (zc .xor o v142)
 fun v143=>some (.tup [.agg [mkL 1 (zP (some []) e126),c,v143],.one (I6 0)])))))))))) (za (zc .neq dv (I6 0))
 fun v144 => 
 ifB v144 (some (.tup [.agg [.nils,U64 0,U64 0],.one (I6 10)])) (za (zc .lss ix (I6 0))
 fun v145 => 
 ifB v145 (some (.tup [.agg [.nils,U64 0,U64 0],.one (I6 10)])) (za (zc .geq ix (atD x117 0))
 fun v146 => 
 ifB v146 (some (.tup [.agg [.nils,U64 0,U64 0],.one (I6 10)])) (za (yq 1 s)
 fun e147=>gd (fits 8 (xH (some [])+(e147:List (List DV)).length)) ( za (zc .eql kind (I6 0))
 fun v148 => 
 ifB v148 (za (yb 3 M ix)
 fun x149=>some (.tup [.agg [atD x149 0,atD x149 1,atD x149 2],.one (I6 0)])) (za (zc .eql kind (I6 1))
 fun v150 => 
 ifB v150 (za (zO (zP (some []) e147) dv)
 fun n151=>za (xY (zP (some []) e147) n151)
 fun x152=>za (zx .u64 ix)
 fun v153=>za (zq true (U64 1) v153)
 fun v154=>za (zc .xor (atD x152 0) v154)
 fun v155=>za (zO (zP (some []) e147) dv)
 fun n156=>za (zaR 1 (zP (some []) e147) n156 0 [v155])
 fun w157=>some (.tup [.agg [mkL 1 w157,c,o],.one (I6 0)])) (za (zc .eql kind (I6 2))
 fun v158 => 
 ifB v158 (za (zx .u64 ix)
 fun v159=>za (zq true (U64 1) v159)
 fun v160=>za (zc .xor c v160)
 fun v161=>some (.tup [.agg [mkL 1 (zP (some []) e147),v161,o],.one (I6 0)])) (za (zx .u64 ix)
 fun v162=>za (zq true (U64 1) v162)
 fun v163=>za (zc .xor o v163)
 fun v164=>some (.tup [.agg [mkL 1 (zP (some []) e147),c,v164],.one (I6 0)])))))))))
section
variable (O:Orc) (u0 u1 u4 u5 u6 u7 u8 u9 u10 u12 u13 u14 u15 u16 s c o tk:DV) (ds:Sl Zo) (cs:Sl Cpl) (ms:Sl Reg) {dv ix:Int}
theorem je{kd dv ix:DV}:ja (enL 3 zY ms) (enL 5 enC cs) (enL 5 enV ds) kd dv ix s c o=T16 (enL 5 enV ds) (enL 5 enC cs) (enL 3 zY ms) s c o (I6 (ms.els.length:Int)) (I6 (cs.els.length:Int)) (I6 (ds.els.length:Int)) kd dv ix:=by unfold ja;rw[zg,zb,zg,zb,zg,zb];unfold T16;rw[zg]
theorem zzA:P16 O u0 u1 (enL 5 enV ds) (enL 5 enC cs) u4 u5 u6 u7 u8 u9 u10 (enL 3 zY ms) u12 u13 u14 u15 u16 s c o tk (I6 1) (I6 1) (I6 dv) (I6 ix)=T16 (enL 5 enV ds) (enL 5 enC cs) (enL 3 zY ms) s c o (I6 (ms.els.length:Int)) (I6 (cs.els.length:Int)) (I6 (ds.els.length:Int)) (I6 1) (I6 dv) (I6 ix):=by unfold P16;rw[vM (show (1:Int)=1 by decide),yl,yL (show ¬(1:Int)=2 by decide),zK,yL (show ¬(1:Int)=3 by decide),uE (show ¬(1:Int)<1 by decide),zK,zgK (show ¬(1:Int) > 3 by decide),zK,zK];exact je s c o ds cs ms
theorem zzz:P16 O u0 u1 (enL 5 enV ds) (enL 5 enC cs) u4 u5 u6 u7 u8 u9 u10 (enL 3 zY ms) u12 u13 u14 u15 u16 s c o tk (I6 1) (I6 2) (I6 dv) (I6 ix)=T16 (enL 5 enV ds) (enL 5 enC cs) (enL 3 zY ms) s c o (I6 (ms.els.length:Int)) (I6 (cs.els.length:Int)) (I6 (ds.els.length:Int)) (I6 2) (I6 dv) (I6 ix):=by unfold P16;rw[vM (show (1:Int)=1 by decide),yl,yL (show ¬(1:Int)=2 by decide),zK,yL (show ¬(1:Int)=3 by decide),uE (show ¬(2:Int)<1 by decide),zK,zgK (show ¬(2:Int) > 3 by decide),zK,zK];exact je s c o ds cs ms
theorem zzy:P16 O u0 u1 (enL 5 enV ds) (enL 5 enC cs) u4 u5 u6 u7 u8 u9 u10 (enL 3 zY ms) u12 u13 u14 u15 u16 s c o tk (I6 1) (I6 3) (I6 dv) (I6 ix)=T16 (enL 5 enV ds) (enL 5 enC cs) (enL 3 zY ms) s c o (I6 (ms.els.length:Int)) (I6 (cs.els.length:Int)) (I6 (ds.els.length:Int)) (I6 3) (I6 dv) (I6 ix):=by unfold P16;rw[vM (show (1:Int)=1 by decide),yl,yL (show ¬(1:Int)=2 by decide),zK,yL (show ¬(1:Int)=3 by decide),uE (show ¬(3:Int)<1 by decide),zK,zgK (show ¬(3:Int) > 3 by decide),zK,zK];exact je s c o ds cs ms
theorem zzv:P16 O u0 u1 (enL 5 enV ds) (enL 5 enC cs) u4 u5 u6 u7 u8 u9 u10 (enL 3 zY ms) u12 u13 u14 u15 u16 s c o tk (I6 4) (I6 1) (I6 dv) (I6 ix)=T16 (enL 5 enV ds) (enL 5 enC cs) (enL 3 zY ms) s c o (I6 (ms.els.length:Int)) (I6 (cs.els.length:Int)) (I6 (ds.els.length:Int)) (I6 1) (I6 dv) (I6 ix):=by unfold P16;rw[yL (show ¬(4:Int)=1 by decide),zK,vM (show (4:Int)=4 by decide),yL (show ¬(4:Int)=2 by decide),zK,yL (show ¬(4:Int)=3 by decide),zin,zK,yl,uE (show ¬(1:Int)<1 by decide),zK,zgK (show ¬(1:Int) > 3 by decide),zK,zK];exact je s c o ds cs ms
theorem zzu:P16 O u0 u1 (enL 5 enV ds) (enL 5 enC cs) u4 u5 u6 u7 u8 u9 u10 (enL 3 zY ms) u12 u13 u14 u15 u16 s c o tk (I6 4) (I6 2) (I6 dv) (I6 ix)=T16 (enL 5 enV ds) (enL 5 enC cs) (enL 3 zY ms) s c o (I6 (ms.els.length:Int)) (I6 (cs.els.length:Int)) (I6 (ds.els.length:Int)) (I6 2) (I6 dv) (I6 ix):=by unfold P16;rw[yL (show ¬(4:Int)=1 by decide),zK,vM (show (4:Int)=4 by decide),yL (show ¬(4:Int)=2 by decide),zK,yL (show ¬(4:Int)=3 by decide),zin,zK,yl,uE (show ¬(2:Int)<1 by decide),zK,zgK (show ¬(2:Int) > 3 by decide),zK,zK];exact je s c o ds cs ms
theorem zzt:P16 O u0 u1 (enL 5 enV ds) (enL 5 enC cs) u4 u5 u6 u7 u8 u9 u10 (enL 3 zY ms) u12 u13 u14 u15 u16 s c o tk (I6 4) (I6 3) (I6 dv) (I6 ix)=T16 (enL 5 enV ds) (enL 5 enC cs) (enL 3 zY ms) s c o (I6 (ms.els.length:Int)) (I6 (cs.els.length:Int)) (I6 (ds.els.length:Int)) (I6 3) (I6 dv) (I6 ix):=by unfold P16;rw[yL (show ¬(4:Int)=1 by decide),zK,vM (show (4:Int)=4 by decide),yL (show ¬(4:Int)=2 by decide),zK,yL (show ¬(4:Int)=3 by decide),zin,zK,yl,uE (show ¬(3:Int)<1 by decide),zK,zgK (show ¬(3:Int) > 3 by decide),zK,zK];exact je s c o ds cs ms
theorem zzx:P16 O u0 u1 (enL 5 enV ds) (enL 5 enC cs) u4 u5 u6 u7 u8 u9 u10 (enL 3 zY ms) u12 u13 u14 u15 u16 s c o tk (I6 2) (I6 0) (I6 dv) (I6 ix)=T16 (enL 5 enV ds) (enL 5 enC cs) (enL 3 zY ms) s c o (I6 (ms.els.length:Int)) (I6 (cs.els.length:Int)) (I6 (ds.els.length:Int)) (I6 0) (I6 dv) (I6 ix):=by unfold P16;rw[yL (show ¬(2:Int)=1 by decide),zK,yL (show ¬(2:Int)=4 by decide),vM (show (2:Int)=2 by decide),yl,zpb,yl,zK,zgH (show (0:Int)=0 by decide),zK];exact je s c o ds cs ms
theorem zzw:P16 O u0 u1 (enL 5 enV ds) (enL 5 enC cs) u4 u5 u6 u7 u8 u9 u10 (enL 3 zY ms) u12 u13 u14 u15 u16 s c o tk (I6 3) (I6 0) (I6 dv) (I6 ix)=T16 (enL 5 enV ds) (enL 5 enC cs) (enL 3 zY ms) s c o (I6 (ms.els.length:Int)) (I6 (cs.els.length:Int)) (I6 (ds.els.length:Int)) (I6 0) (I6 dv) (I6 ix):=by unfold P16;rw[yL (show ¬(3:Int)=1 by decide),zK,yL (show ¬(3:Int)=4 by decide),yL (show ¬(3:Int)=2 by decide),zK,vM (show (3:Int)=3 by decide),zpb,yl,zin,zK,zK,yl,zgH (show (0:Int)=0 by decide),zK];exact je s c o ds cs ms
theorem zwz{kd:Int}(hkL_lss1:kd<1):P16 O u0 u1 (enL 5 enV ds) (enL 5 enC cs) u4 u5 u6 u7 u8 u9 u10 (enL 3 zY ms) u12 u13 u14 u15 u16 s c o tk (I6 1) (I6 kd) (I6 dv) (I6 ix)=some (.tup [.agg [.nils,U64 0,U64 0],.one (I6 12)]):=by unfold P16;rw[vM (show (1:Int)=1 by decide),yl,yL (show ¬(1:Int)=2 by decide),zK,yL (show ¬(1:Int)=3 by decide),zaT hkL_lss1,yl]
theorem zwv{kd:Int}(hkL_lss1:kd<1):P16 O u0 u1 (enL 5 enV ds) (enL 5 enC cs) u4 u5 u6 u7 u8 u9 u10 (enL 3 zY ms) u12 u13 u14 u15 u16 s c o tk (I6 4) (I6 kd) (I6 dv) (I6 ix)=some (.tup [.agg [.nils,U64 0,U64 0],.one (I6 12)]):=by unfold P16;rw[yL (show ¬(4:Int)=1 by decide),zK,vM (show (4:Int)=4 by decide),yL (show ¬(4:Int)=2 by decide),zK,yL (show ¬(4:Int)=3 by decide),zin,zK,yl,zaT hkL_lss1,yl]
theorem zwA{kd:Int}(hkG_lss1:¬kd<1)(hkG_gtr3:kd > 3):P16 O u0 u1 (enL 5 enV ds) (enL 5 enC cs) u4 u5 u6 u7 u8 u9 u10 (enL 3 zY ms) u12 u13 u14 u15 u16 s c o tk (I6 1) (I6 kd) (I6 dv) (I6 ix)=some (.tup [.agg [.nils,U64 0,U64 0],.one (I6 12)]):=by unfold P16;rw[vM (show (1:Int)=1 by decide),yl,yL (show ¬(1:Int)=2 by decide),zK,yL (show ¬(1:Int)=3 by decide),uE hkG_lss1,zK,zsn hkG_gtr3,yl]
theorem zww{kd:Int}(hkG_lss1:¬kd<1)(hkG_gtr3:kd > 3):P16 O u0 u1 (enL 5 enV ds) (enL 5 enC cs) u4 u5 u6 u7 u8 u9 u10 (enL 3 zY ms) u12 u13 u14 u15 u16 s c o tk (I6 4) (I6 kd) (I6 dv) (I6 ix)=some (.tup [.agg [.nils,U64 0,U64 0],.one (I6 12)]):=by unfold P16;rw[yL (show ¬(4:Int)=1 by decide),zK,vM (show (4:Int)=4 by decide),yL (show ¬(4:Int)=2 by decide),zK,yL (show ¬(4:Int)=3 by decide),zin,zK,yl,uE hkG_lss1,zK,zsn hkG_gtr3,yl]
theorem zwy{kd:Int}(hkN_neq0:¬kd=0):P16 O u0 u1 (enL 5 enV ds) (enL 5 enC cs) u4 u5 u6 u7 u8 u9 u10 (enL 3 zY ms) u12 u13 u14 u15 u16 s c o tk (I6 2) (I6 kd) (I6 dv) (I6 ix)=some (.tup [.agg [.nils,U64 0,U64 0],.one (I6 12)]):=by unfold P16;rw[yL (show ¬(2:Int)=1 by decide),zK,yL (show ¬(2:Int)=4 by decide),vM (show (2:Int)=2 by decide),yl,zpb,yl,zK,zir hkN_neq0,yl]
theorem zwx{kd:Int}(hkN_neq0:¬kd=0):P16 O u0 u1 (enL 5 enV ds) (enL 5 enC cs) u4 u5 u6 u7 u8 u9 u10 (enL 3 zY ms) u12 u13 u14 u15 u16 s c o tk (I6 3) (I6 kd) (I6 dv) (I6 ix)=some (.tup [.agg [.nils,U64 0,U64 0],.one (I6 12)]):=by unfold P16;rw[yL (show ¬(3:Int)=1 by decide),zK,yL (show ¬(3:Int)=4 by decide),yL (show ¬(3:Int)=2 by decide),zK,vM (show (3:Int)=3 by decide),zpb,yl,zin,zK,zK,yl,zir hkN_neq0,yl]
theorem zCF{wy kd:Int}(hw_eql1:¬wy=1)(hw_eql4:¬wy=4)(hw_eql2:¬wy=2)(hw_eql3:¬wy=3):P16 O u0 u1 (enL 5 enV ds) (enL 5 enC cs) u4 u5 u6 u7 u8 u9 u10 (enL 3 zY ms) u12 u13 u14 u15 u16 s c o tk (I6 wy) (I6 kd) (I6 dv) (I6 ix)=some (.tup [.agg [.nils,U64 0,U64 0],.one (I6 12)]):=by unfold P16;rw[yL hw_eql1,zK,yL hw_eql4,yL hw_eql2,zK,yL hw_eql3,zpb,yl,zpb,yl]
end
end Go.Proofs.Tryz.Kn
end
section
namespace Go.Proofs.Tryz.Kn
open Go Go.CE Go.PE
def zCa(a b:Int):Int:=IntKind.wrap .u64 (BitVec.ofInt IntKind.u64.bits a ^^^ BitVec.ofInt IntKind.u64.bits b).toNat
theorem zo2(x y:Int):zc .xor (U64 x) (U64 y)=some (U64 (zCa x y)):=(rfl)
def zyO(ix:Int):Int:=((2^ix.toNat:Nat):Int)
theorem zwU{ix:Int}(h0:0<=ix)(h1:ix<=62):zq true (U64 1) (I6 ix)=some (U64 (zyO ix)):=by obtain⟨m,rfl⟩:∃m:Nat,ix=(m:Int):=⟨ix.toNat,by omega⟩;unfold zyO;rw[YzO];exact zo3 (by omega)
theorem zwT{ix:Int}(h0:0<=ix)(h1:ix<=62):zq true (U64 1) (U64 ix)=some (U64 (zyO ix)):=by obtain⟨m,rfl⟩:∃m:Nat,ix=(m:Int):=⟨ix.toNat,by omega⟩;unfold zyO;rw[YzO];exact zo3 (by omega)
theorem zsS{ix:Int}(h0:0<=ix)(h1:ix<=62):zx .u64 (I6 ix)=some (U64 ix):=by obtain⟨m,rfl⟩:∃m:Nat,ix=(m:Int):=⟨ix.toNat,by omega⟩;exact zi7 (by omega)
def wT(q:Prb)(r:Reg)(a:Act):Reg:=
 if a.kind=0 then(q.mems.els[a.ix.toNat]?).getD r
 else if a.kind=1 then⟨some (r.stops.els.set a.dv.toNat (zCa ((r.stops.els[a.dv.toNat]?).getD 0) (zyO a.ix))),r.cpls,r.off⟩
 else if a.kind=2 then⟨r.stops,zCa r.cpls (zyO a.ix),r.off⟩ else⟨r.stops,r.cpls,zCa r.off (zyO a.ix)⟩
structure Prb.small (q:Prb):Prop where
 nd:q.o.divs.els.length<=60
 ns:∀d∈q.o.divs.els,d.stops.els.length<=60
 nc:q.o.cpls.els.length<=60
 nm:q.mems.els.length<=1000
 ms:∀m∈q.mems.els,∃l,m.stops=some l/\l.length=q.o.divs.els.length
theorem uZ(e:List (List DV)):zP (some []) e=some e:=by cases e<;>rfl
theorem zqs{l:List Int}{n:Nat}(hn:n<l.length)(v:Int):zaR 1 (some (l.map enU)) n 0 [U64 v]=some (some ((l.set n v).map enU)):=by
 obtain⟨x,hx⟩:∃x,l[n]? = some x:=⟨_,Lz5 hn⟩;have hm:(l.map enU)[n]? = some (enU x):=by rw[Lz6,hx];rfl
 show (match (l.map enU)[n]? with
  |some x=>bif Nat.ble (0+1) 1 then some (some ((l.map enU).set n (x.take 0++[U64 v]++x.drop (0+1)))) else none
  |none=>none)=_
 rw[hm,List.map_set];rfl
theorem zv9{q:Prb}{ix:Int}(h0:0<=ix)(h1:ix<(q.mems.els.length:Int)):∃m,q.mems.els[ix.toNat]? = some m/\yb 3 (enL 3 zY q.mems) (I6 ix)=some (zY m):=by obtain⟨m,hm⟩:∃m,q.mems.els[ix.toNat]? = some m:=⟨_,Lz5 (by omega)⟩;refine⟨m,hm,?_⟩;obtain⟨n,hn⟩:∃n:Nat,ix=(n:Int):=⟨ix.toNat,by omega⟩;rw[hn]at hm ⊢;rw[YzO]at hm;rw[xC,hm];rfl
def zui(q:Prb)(r:Reg)(a:Act)(e:Int):DA:=if e≠0 then .tup [.agg [.nils,U64 0,U64 0],.one (I6 e)] else .tup [.agg (zY (wT q r a)),.one (I6 0)]
theorem zek{q:Prb}{r:Reg}{a:Act}{e:Int}(h:e=10):zui q r a e=.tup [.agg [.nils,U64 0,U64 0],.one (I6 10)]:=by subst h;rfl
theorem znk{q:Prb}{r:Reg}{a:Act}{e:Int}(h:e=0):zui q r a e=.tup [.agg (zY (wT q r a)),.one (I6 0)]:=by subst h;rfl
theorem zeS{n i:Int}(h:i<0):zb3 n i=10:=Yza (by omega)
theorem zeT{n i:Int}(h:i>=n):zb3 n i=10:=Yza (by omega)
theorem zeR{n i:Int}(h0:¬i<0)(h1:¬i>=n):zb3 n i=0:=Yzc (by omega)
section
variable {q:Prb} (hs:q.small) {r:Reg} {l:List Int} (hr:r.stops=some l) (hl:l.length=q.o.divs.els.length) (tk wy dv ix:Int)
include hs hr hl
theorem zzS:T16 (enL 5 enV q.o.divs) (enL 5 enC q.o.cpls) (enL 3 zY q.mems) (enL 1 enU r.stops) (U64 r.cpls) (U64 r.off) (I6 (q.mems.els.length:Int)) (I6 (q.o.cpls.els.length:Int)) (I6 (q.o.divs.els.length:Int)) (I6 0) (I6 dv) (I6 ix)=some (zui q r ⟨tk,wy,0,dv,ix⟩ (vS q ⟨tk,wy,0,dv,ix⟩)):=by
 have i2:zO (some [[I6 (q.mems.els.length:Int)],[I6 0],[I6 (q.o.cpls.els.length:Int)],[I6 (q.o.divs.els.length:Int)]]) (I6 0)=some 0:=rfl;have n2:xY (some [[I6 (q.mems.els.length:Int)],[I6 0],[I6 (q.o.cpls.els.length:Int)],[I6 (q.o.divs.els.length:Int)]]) 0=some [I6 (q.mems.els.length:Int)]:=rfl;have de:vS q ⟨tk,wy,0,dv,ix⟩=if dv=0 then zb3 (q.mems.els.length:Int) ix else 10:=rfl
 have ff:fits 8 (xH (some [])+(l.map enU).length)=true:=xf (by decide) (by rw[k8,Yzm];have:=hs.nd;simp only[Yzv];omega);unfold T16;rw[i2,zb,n2,zb,yL (show ¬(0:Int)=1 by decide),zK];by_cases h1:dv=0
 .rw[zgH h1,zK,de,Yzc h1];by_cases h2:ix<0
  .rw[zaT h2,yl,zek (zeS h2)]
  rw[uE h2,zK,y4];by_cases h3:ix>=(q.mems.els.length:Int)
  .rw[zlZ h3,yl,zek (zeT h3)]
  obtain⟨m,hm,ixm⟩:=zv9 (q:=q) (ix:=ix) (by omega) (by omega);rw[zl0 h3,zK,hr,ul,zb,yW,ff,xM,vM rfl,yl,ixm,zb,znk (zeR h2 h3)];unfold wT;rw[Yzc rfl,hm];rfl
 .rw[zir h1,yl,de,Yza h1];rfl
theorem zzQ:T16 (enL 5 enV q.o.divs) (enL 5 enC q.o.cpls) (enL 3 zY q.mems) (enL 1 enU r.stops) (U64 r.cpls) (U64 r.off) (I6 (q.mems.els.length:Int)) (I6 (q.o.cpls.els.length:Int)) (I6 (q.o.divs.els.length:Int)) (I6 2) (I6 dv) (I6 ix)=some (zui q r ⟨tk,wy,2,dv,ix⟩ (vS q ⟨tk,wy,2,dv,ix⟩)):=by
 have i2:zO (some [[I6 (q.mems.els.length:Int)],[I6 0],[I6 (q.o.cpls.els.length:Int)],[I6 (q.o.divs.els.length:Int)]]) (I6 2)=some 2:=rfl;have n2:xY (some [[I6 (q.mems.els.length:Int)],[I6 0],[I6 (q.o.cpls.els.length:Int)],[I6 (q.o.divs.els.length:Int)]]) 2=some [I6 (q.o.cpls.els.length:Int)]:=rfl;have de:vS q ⟨tk,wy,2,dv,ix⟩=if dv=0 then zb3 (q.o.cpls.els.length:Int) ix else 10:=rfl
 have ff:fits 8 (xH (some [])+(l.map enU).length)=true:=xf (by decide) (by rw[k8,Yzm];have:=hs.nd;simp only[Yzv];omega);have hc:=hs.nc;unfold T16;rw[i2,zb,n2,zb,yL (show ¬(2:Int)=1 by decide),zK];by_cases h1:dv=0
 .rw[zgH h1,zK,de,Yzc h1];by_cases h2:ix<0
  .rw[zaT h2,yl,zek (zeS h2)]
  rw[uE h2,zK,y4];by_cases h3:ix>=(q.o.cpls.els.length:Int)
  .rw[zlZ h3,yl,zek (zeT h3)]
  rw[zl0 h3,zK,hr,ul,zb,yW,ff,xM,yL (show ¬(2:Int)=0 by decide),zK,yL (show ¬(2:Int)=1 by decide),zK,vM rfl,yl,zsS (by omega) (by omega),zb,zwT (by omega) (by omega),zb,zo2,zb,uZ,znk (zeR h2 h3)];unfold wT;rw[Yza (by simp),Yza (by simp),Yzc rfl,hr];rfl
 .rw[zir h1,yl,de,Yza h1];rfl
theorem zzP:T16 (enL 5 enV q.o.divs) (enL 5 enC q.o.cpls) (enL 3 zY q.mems) (enL 1 enU r.stops) (U64 r.cpls) (U64 r.off) (I6 (q.mems.els.length:Int)) (I6 (q.o.cpls.els.length:Int)) (I6 (q.o.divs.els.length:Int)) (I6 3) (I6 dv) (I6 ix)=some (zui q r ⟨tk,wy,3,dv,ix⟩ (vS q ⟨tk,wy,3,dv,ix⟩)):=by
 have i2:zO (some [[I6 (q.mems.els.length:Int)],[I6 0],[I6 (q.o.cpls.els.length:Int)],[I6 (q.o.divs.els.length:Int)]]) (I6 3)=some 3:=rfl;have n2:xY (some [[I6 (q.mems.els.length:Int)],[I6 0],[I6 (q.o.cpls.els.length:Int)],[I6 (q.o.divs.els.length:Int)]]) 3=some [I6 (q.o.divs.els.length:Int)]:=rfl;have de:vS q ⟨tk,wy,3,dv,ix⟩=if dv=0 then zb3 (q.o.divs.els.length:Int) ix else 10:=rfl
 have ff:fits 8 (xH (some [])+(l.map enU).length)=true:=xf (by decide) (by rw[k8,Yzm];have:=hs.nd;simp only[Yzv];omega);have hc:=hs.nd;unfold T16;rw[i2,zb,n2,zb,yL (show ¬(3:Int)=1 by decide),zK];by_cases h1:dv=0
 .rw[zgH h1,zK,de,Yzc h1];by_cases h2:ix<0
  .rw[zaT h2,yl,zek (zeS h2)]
  rw[uE h2,zK,y4];by_cases h3:ix>=(q.o.divs.els.length:Int)
  .rw[zlZ h3,yl,zek (zeT h3)]
  rw[zl0 h3,zK,hr,ul,zb,yW,ff,xM,yL (show ¬(3:Int)=0 by decide),zK,yL (show ¬(3:Int)=1 by decide),zK,yL (show ¬(3:Int)=2 by decide),zK,zsS (by omega) (by omega),zb,zwT (by omega) (by omega),zb,zo2,zb,uZ,znk (zeR h2 h3)];unfold wT;rw[Yza (by simp),Yza (by simp),Yza (by simp),hr];rfl
 .rw[zir h1,yl,de,Yza h1];rfl
theorem zzR:T16 (enL 5 enV q.o.divs) (enL 5 enC q.o.cpls) (enL 3 zY q.mems) (enL 1 enU r.stops) (U64 r.cpls) (U64 r.off) (I6 (q.mems.els.length:Int)) (I6 (q.o.cpls.els.length:Int)) (I6 (q.o.divs.els.length:Int)) (I6 1) (I6 dv) (I6 ix)=some (zui q r ⟨tk,wy,1,dv,ix⟩ (vS q ⟨tk,wy,1,dv,ix⟩)):=by
 have i2:zO (some [[I6 (q.mems.els.length:Int)],[I6 0],[I6 (q.o.cpls.els.length:Int)],[I6 (q.o.divs.els.length:Int)]]) (I6 1)=some 1:=rfl;have n2:xY (some [[I6 (q.mems.els.length:Int)],[I6 0],[I6 (q.o.cpls.els.length:Int)],[I6 (q.o.divs.els.length:Int)]]) 1=some [I6 0]:=rfl;have de:vS q ⟨tk,wy,1,dv,ix⟩=if 0<=dv/\dv<(q.o.divs.els.length:Int) then zb3 (zck q.o dv) ix else 10:=rfl
 have ff:fits 8 (xH (some [])+(l.map enU).length)=true:=xf (by decide) (by rw[k8,Yzm];have:=hs.nd;simp only[Yzv];omega);unfold T16;rw[i2,zb,n2,zb,vM rfl,yl];by_cases h1:dv<0
 .rw[zaT h1,yl,de,Yza (by omega)];rfl
 rw[uE h1,zK,zg,zb];by_cases h2:dv>=(q.o.divs.els.length:Int)
 .rw[zlZ h2,yl,de,Yza (by omega)];rfl
 obtain⟨d,hd,hst,ixd⟩:=zhS (o:=q.o) (dv:=dv) (by omega) (by omega);have hds:=hs.ns d (Lz3 hd);have pl:zV (atD (enV d) 4)=some (I6 (d.stops.els.length:Int)):=zg _;rw[zl0 h2,zK,ixd,zb,pl,zb,de,Yzc (by omega),hst];by_cases h3:ix<0
 .rw[zaT h3,yl,zek (zeS h3)]
 rw[uE h3,zK];by_cases h4:ix>=(d.stops.els.length:Int)
 .rw[zlZ h4,yl,zek (zeT h4)]
 obtain⟨n,hn⟩:∃n:Nat,dv=(n:Int):=⟨dv.toNat,by omega⟩;have hnl:n<l.length:=by omega
 obtain⟨x,hx⟩:∃x,l[n]? = some x:=⟨_,Lz5 hnl⟩;have p1:zO (some (l.map enU)) (I6 dv)=some n:=by rw[hn];exact zcU (by rw[Yzm];exact hnl)
 have p2:xY (some (l.map enU)) n=some (enU x):=by rw[zcY,hx];rfl
 rw[zl0 h4,zK,hr,ul,zb,yW,ff,xM,yL (show ¬(1:Int)=0 by decide),zK,vM rfl,yl,uZ,p1,zb,p2,zb,zsS (by omega) (by omega),zb,zwT (by omega) (by omega),zb,show atD (enU x) 0=U64 x from rfl,zo2,zb,zb,zqs hnl,zb,znk (zeR h3 h4)];unfold wT;rw[Yza (by simp),Yzc rfl,hr]
 dsimp only
 rw[hn,YzO,yW,hx];rfl
end
theorem t16(k:Nat)(q:Prb)(hs:q.small)(r:Reg){l:List Int}(hr:r.stops=some l)(hl:l.length=q.o.divs.els.length)(a:Act):D (k+1) 16 [SA (yE q),SA (zY r),SA (xa a)]=some (zui q r a (vi q a)):=by
 obtain⟨tk,wy,kd,dv,ix⟩:=a;unfold yE xa;rw[show zY r=[enL 1 enU r.stops,U64 r.cpls,U64 r.off] from rfl,D16]
 dsimp only
 by_cases w1:wy=1
 .subst w1;have ae:vi q ⟨tk,1,kd,dv,ix⟩=if 1<=kd/\kd<=3 then vS q ⟨tk,1,kd,dv,ix⟩ else 12:=rfl
  by_cases hk:kd<1
  .rw[zwz (hkL_lss1:=hk),ae,Yza (by omega)];rfl
  by_cases hk3:kd > 3
  .rw[zwA (hkG_lss1:=hk) (hkG_gtr3:=hk3),ae,Yza (by omega)];rfl
  rw[ae,Yzc (by omega)];rcases (show kd=1\/kd=2\/kd=3 by omega) with rfl|rfl|rfl
  .rw[zzA];exact zzR hs hr hl ..
  .rw[zzz];exact zzQ hs hr hl ..
  .rw[zzy];exact zzP hs hr hl ..
 by_cases w4:wy=4
 .subst w4;have ae:vi q ⟨tk,4,kd,dv,ix⟩=if 1<=kd/\kd<=3 then vS q ⟨tk,4,kd,dv,ix⟩ else 12:=rfl
  by_cases hk:kd<1
  .rw[zwv (hkL_lss1:=hk),ae,Yza (by omega)];rfl
  by_cases hk3:kd > 3
  .rw[zww (hkG_lss1:=hk) (hkG_gtr3:=hk3),ae,Yza (by omega)];rfl
  rw[ae,Yzc (by omega)];rcases (show kd=1\/kd=2\/kd=3 by omega) with rfl|rfl|rfl
  .rw[zzv];exact zzR hs hr hl ..
  .rw[zzu];exact zzQ hs hr hl ..
  .rw[zzt];exact zzP hs hr hl ..
 by_cases w2:wy=2
 .subst w2;have ae:vi q ⟨tk,2,kd,dv,ix⟩=if kd=0 then vS q ⟨tk,2,kd,dv,ix⟩ else 12:=rfl
  by_cases hk:kd=0
  .subst hk;rw[ae,Yzc rfl,zzx];exact zzS hs hr hl ..
  .rw[zwy (hkN_neq0:=hk),ae,Yza hk];rfl
 by_cases w3:wy=3
 .subst w3;have ae:vi q ⟨tk,3,kd,dv,ix⟩=if kd=0 then vS q ⟨tk,3,kd,dv,ix⟩ else 12:=rfl
  by_cases hk:kd=0
  .subst hk;rw[ae,Yzc rfl,zzw];exact zzS hs hr hl ..
  .rw[zwx (hkN_neq0:=hk),ae,Yza hk];rfl
 .rw[zCF (hw_eql1:=w1) (hw_eql4:=w4) (hw_eql2:=w2) (hw_eql3:=w3)];unfold vi;rw[Yza (fun h=>h.elim w1 w4),Yza (fun h=>h.elim w2 w3)];rfl
end Go.Proofs.Tryz.Kn
end
section
namespace Go.Proofs.Tryz.Kn
open Go Go.CE Go.PE
theorem zsd{n i:Int}(h:zb3 n i=0):0<=i/\i<n:=by
 unfold zb3 at h;by_cases hc:0<=i/\i<n
 .exact hc
 .rw[Yza hc]at h;cases h
theorem zyJ{q:Prb}{tk wy dv ix:Int}(h:vS q ⟨tk,wy,1,dv,ix⟩=0):0<=dv/\dv<(q.o.divs.els.length:Int)/\0<=ix/\ix<zck q.o dv:=by
 have de:vS q ⟨tk,wy,1,dv,ix⟩=if 0<=dv/\dv<(q.o.divs.els.length:Int) then zb3 (zck q.o dv) ix else 10:=rfl
 rw[de]at h;by_cases hc:0<=dv/\dv<(q.o.divs.els.length:Int)
 .rw[Yzc hc]at h;exact⟨hc.1,hc.2,zsd h⟩
 .rw[Yza hc]at h;cases h
theorem zme{q:Prb}{tk wy kd dv ix:Int}(hk:¬kd=1)(h:vS q ⟨tk,wy,kd,dv,ix⟩=0):0<=ix/\ix<(if kd=2 then(q.o.cpls.els.length:Int) else if kd=3 then(q.o.divs.els.length:Int) else(q.mems.els.length:Int)):=by
 have de:vS q ⟨tk,wy,kd,dv,ix⟩=if kd=1 then(if 0<=dv/\dv<(q.o.divs.els.length:Int) then zb3 (zck q.o dv) ix else 10) else if dv=0 then zb3 (if kd=2 then(q.o.cpls.els.length:Int) else if kd=3 then(q.o.divs.els.length:Int) else(q.mems.els.length:Int)) ix else 10:=rfl
 rw[de,Yza hk]at h;by_cases hc:dv=0
 .rw[Yzc hc]at h;exact zsd h
 .rw[Yza hc]at h;cases h
section
variable {q:Prb} (hs:q.small) {r:Reg} {l:List Int} (hr:r.stops=some l) (hl:l.length=q.o.divs.els.length)
include hs hr hl
omit hr in
theorem zBt:fits 8 (xH (some [])+(l.map enU).length)=true:=xf (by decide) (by rw[k8,Yzm];have:=hs.nd;simp only[Yzv];omega)
omit hr in
theorem zm7{ix:Int}(h0:0<=ix)(h1:ix<(q.mems.els.length:Int)):(za (yb 3 (enL 3 zY q.mems) (I6 ix)) fun x1=>za (zdA (atD x1 0)) fun q2=>ifB (.bool q2) (some (SA [.nils,atD x1 1,atD x1 2])) (za (yq 1 (atD x1 0)) fun e3=>gd (fits 8 (xH (some [])+(e3:List (List DV)).length)) (some (SA [mkL 1 (zP (some []) e3),atD x1 1,atD x1 2]))))=some (SA (zY ((q.mems.els[ix.toNat]?).getD r))):=by
 obtain⟨m,hm,ixm⟩:=zv9 (q:=q) h0 h1;obtain⟨lm,e1,e2⟩:=hs.ms m (Lz3 hm);have ff:fits 8 (xH (some [])+(lm.map enU).length)=true:=xf (by decide) (by rw[k8,Yzm];have:=hs.nd;simp only[Yzv];omega);have a0:atD (zY m) 0=enL 1 enU (some lm):=by rw[<-e1];rfl
 rw[ixm,zb,a0,zjQ,zb,show (some lm:Sl Int).isNone=false from rfl,zK,ul,zb,yW,ff,xM,uZ,hm];show some (SA [enL 1 enU (some lm),U64 m.cpls,U64 m.off])=some (SA (zY m));rw[<-e1];rfl
theorem ztP{tk wy kd dv ix:Int}(hk:kd=1\/kd=2\/kd=3)(he:vS q ⟨tk,wy,kd,dv,ix⟩=0):
  (za (yq 1 (enL 1 enU r.stops)) fun e19 => gd (fits 8 (xH (some []) + (e19 : List (List DV)).length)) (za (zc .eql (I6 kd) (I6 1)) fun v20 => ifB v20
   (za (zO (zP (some []) e19) (I6 dv)) fun n21=>za (xY (zP (some []) e19) n21) fun x22=>za (zq true (U64 1) (I6 ix)) fun v23=>za (zc .xor (atD x22 0) v23) fun v24=>za (zO (zP (some []) e19) (I6 dv)) fun n25=>za (zaR 1 (zP (some []) e19) n25 0 [v24]) fun w26=>some (SA [mkL 1 w26,U64 r.cpls,U64 r.off]))
   (za (zc .eql (I6 kd) (I6 2)) fun v27 => ifB v27
    (za (zq true (U64 1) (I6 ix)) fun v28=>za (zc .xor (U64 r.cpls) v28) fun v29=>some (SA [mkL 1 (zP (some []) e19),v29,U64 r.off]))
    (za (zq true (U64 1) (I6 ix)) fun v30=>za (zc .xor (U64 r.off) v30) fun v31=>some (SA [mkL 1 (zP (some []) e19),U64 r.cpls,v31])))))=some (SA (zY (wT q r ⟨tk,wy,kd,dv,ix⟩))):=by
 have ff:=zBt hs hl;rw[hr,ul,zb,yW,ff,xM];unfold wT;rcases hk with rfl|rfl|rfl
 .obtain⟨h1,h2,h3,h4⟩:=zyJ he;obtain⟨d,hd,hst,_⟩:=zhS (o:=q.o) h1 h2;have hds:=hs.ns d (Lz3 hd);obtain⟨n,hn⟩:∃n:Nat,dv=(n:Int):=⟨dv.toNat,by omega⟩;have hnl:n<l.length:=by omega
  obtain⟨x,hx⟩:∃x,l[n]? = some x:=⟨_,Lz5 hnl⟩;have p1:zO (some (l.map enU)) (I6 dv)=some n:=by rw[hn];exact zcU (by rw[Yzm];exact hnl)
  have p2:xY (some (l.map enU)) n=some (enU x):=by rw[zcY,hx];rfl
  rw[vM rfl,yl,uZ,p1,zb,p2,zb,zwU h3 (by omega),zb,show atD (enU x) 0=U64 x from rfl,zo2,zb,zb,zqs hnl,zb,Yza (by simp),Yzc rfl]
  dsimp only
  rw[hn,YzO,hr,yW,hx];rfl
 .obtain⟨h3,h4⟩:=zme (by decide) he;have hc:=hs.nc;rw[Yzc rfl]at h4;rw[yL (by decide),zK,vM rfl,yl,zwU h3 (by omega),zb,zo2,zb,uZ,Yza (by simp),Yza (by simp),Yzc rfl,hr];rfl
 .obtain⟨h3,h4⟩:=zme (by decide) he;have hc:=hs.nd;rw[Yza (by decide),Yzc rfl]at h4;rw[yL (by decide),zK,yL (by decide),zK,zwU h3 (by omega),zb,zo2,zb,uZ,Yza (by simp),Yza (by simp),Yza (by simp),hr];rfl
end
theorem t38(k:Nat)(q:Prb)(hs:q.small)(r:Reg){l:List Int}(hr:r.stops=some l)(hl:l.length=q.o.divs.els.length)(a:Act)(he:vi q a=0):D (k+1) 38 [SA (yE q),SA (zY r),SA (xa a)]=some (SA (zY (wT q r a))):=by
 obtain⟨tk,wy,kd,dv,ix⟩:=a;have ae:vi q ⟨tk,wy,kd,dv,ix⟩=if wy=1\/wy=4 then(if 1<=kd/\kd<=3 then vS q ⟨tk,wy,kd,dv,ix⟩ else 12) else if wy=2\/wy=3 then(if kd=0 then vS q ⟨tk,wy,kd,dv,ix⟩ else 12) else 12:=rfl
 rw[ae]at he;unfold yE xa;rw[show zY r=[enL 1 enU r.stops,U64 r.cpls,U64 r.off] from rfl,D38]
 dsimp only
 unfold P38;by_cases wt:wy=1\/wy=4
 .rw[Yzc wt]at he;by_cases hk:1<=kd/\kd<=3
  .rw[Yzc hk]at he;rw[yL (show ¬wy=2 by omega),zK,yL (show ¬wy=3 by omega),zK,zjQ,zb,show r.stops.isNone=false by rw[hr];rfl,zK];exact ztP hs hr hl (by omega) he
  .rw[Yza hk]at he;cases he
 .rw[Yza wt]at he;by_cases wr:wy=2\/wy=3
  .rw[Yzc wr]at he;by_cases hk:kd=0
   .subst hk;rw[Yzc rfl]at he;obtain⟨h3,h4⟩:=zme (by decide) he;rw[Yza (by decide),Yza (by decide)]at h4;have out:wT q r ⟨tk,wy,0,dv,ix⟩=(q.mems.els[ix.toNat]?).getD r:=rfl;rw[out];by_cases w2:wy=2
    .rw[vM w2,yl];exact zm7 hs hl h3 h4
    .rw[yL w2,zK,vM (show wy=3 by omega),yl];exact zm7 hs hl h3 h4
   .rw[Yza hk]at he;cases he
  .rw[Yza wr]at he;cases he
theorem zDK(l:Sl Int)(hl:l.els.length<=1000):∀(r:List Int) (i:Nat),l.els.drop i=r->zS (ztt (enL 1 enU l) (enL 1 enU l)) [I6 (i:Int)] []=some (.exit 0,[],[]):=by
 intro r
 induction r with
 |nil=>intro i h;refine zr ?_;simp only[ztt,zA,zg,zi,zb,wq (z6 h),zm];rfl
 |cons x r ih=>
  intro i h;have hlt:=yn h;have ea:zc .add (I6 (i:Int)) (I6 1)=some (I6 ((i+1:Nat):Int)):=yG;have body:ztt (enL 1 enU l) (enL 1 enU l) [I6 (i:Int)] []=some (.normal,[I6 ((i+1:Nat):Int)],[]):=by simp only[ztt,zA,zg,zi,zb,zbN hlt,zm,if_true,zX h,enU,y4,z7,ea];simp
  rw[zE body,ih (i+1) (zJ h)]
theorem t17(k:Nat)(r:Reg)(hl:r.stops.els.length<=1000):D (k+1) 17 [SA (zY r),SA (zY r)]=some (S1 (Bo true)):=by have l7:=zDK r.stops hl r.stops.els 0 rfl;rw[<-i0]at l7;unfold zY;rw[D17];unfold P17;simp only[zg,z7,zb,zm,l7];simp
theorem zyT{β:Type}(r:Reg)(K:List DV->Option β):bA 3 (some (SA (zY r))) K=K (zY r):=rfl
theorem jf(r:Reg):[atD (zY r) 0,atD (zY r) 1,atD (zY r) 2]=zY r:=rfl
theorem t15(k:Nat)(q:Prb)(ho:q.ok)(h0:zmu q=0)(hs:q.small)(r:Reg)(a:Act)(hf:wI q.o r=0->∃l,r.stops=some l/\l.length=q.o.divs.els.length):D (k+13) 15 [SA (yE q),SA (zY r),SA (xa a)]=some (if wI q.o r≠0 then .tup [.agg [.nils,U64 0,U64 0],.one (I6 (wI q.o r))] else zui q r a (vi q a)):=by
 have c1:=t25 k q ho;have c2:=t24 (k+2) q.o ho.o r;have c3:=t37 (k+11) q a;have c4:=fun(hr:wI q.o r=0) (he:vi q a=0)=>(hf hr).elim fun l hl=>t38 (k+11) q hs r hl.1 hl.2 a he;rw[h0]at c1;have eR:zY r=[enL 1 enU r.stops,U64 r.cpls,U64 r.off]:=rfl;rw[eR]at c2 ⊢;rw[eR]at c4;unfold yE xa at c3 c4 ⊢;unfold yE at c1;unfold enO at c2;rw[D15];unfold P15 zui;rw[c1,zR,zgH rfl,zK,c2,zR];by_cases hr:wI q.o r=0
 .rw[zgH hr,zK,c3,zR,Yza (by simp[hr])];by_cases he:vi q a=0
  .rw[zgH he,zK,c4 hr he,zyT,jf,Yza (by simp[he])]
  .rw[zir he,yl,Yzc he]
 .rw[zir hr,yl,Yzc hr]
end Go.Proofs.Tryz.Kn
end
section
namespace Go.Proofs.Tryz.Kn
open Go Go.CE Go.PE
theorem zmi(o:Org)(b:Nat->Nat)(h:0<o.divs.els.length):∃l,(wo o b).stops=some l/\l.length=o.divs.els.length:=by
 refine⟨vT b 0 o.divs.els,?_,zaE b _ 0⟩;have hl:=zaE b o.divs.els 0;show grow (vT b 0 o.divs.els)=_;cases hd:vT b 0 o.divs.els with
 |nil=>rw[hd,Yzv]at hl;omega
 |cons x l=>rfl
theorem zpl(p:CPl)(hf:zcb p=true):(zaM p).small:=by obtain⟨h45,hm,_⟩:=zde hf;have h:=zaA h45;obtain⟨s1,s2,s3⟩:=kO p.pc.org h.org;have em:(zaM p).mems.els=p.mems.els.map (wo (zaW p.pc.org)):=zN _;refine⟨Yzl s1 (by decide),fun d hd=>Yzl (s2 d hd) (by decide),Yzl s3 (by decide),by rw[em,Yzm];omega,fun m hm=>?_⟩;rw[em]at hm;obtain⟨b,_,rfl⟩:=List.mem_map.1 hm;exact zmi _ b (zbM p.pc.org h.org)
theorem zEw{β:Type}(r:Reg)(v:DV)(K:List DS->Option β):bT [some 3,none] (some (.tup [.agg (zY r),.one v])) K=K [.agg (zY r),.one v]:=rfl
theorem jg{β:Type}(v:DV)(K:List DS->Option β):bT [some 3,none] (some (.tup [.agg [.nils,U64 0,U64 0],.one v])) K=K [.agg [.nils,U64 0,U64 0],.one v]:=rfl
def znw:Reg:=⟨none,0,0⟩
theorem jd{o:Org}(h0:za1 o=0)(h:0<o.divs.els.length):wI o znw=5:=by unfold wI znw;rw[Yza (by simp[h0]),Yzc];show (0:Nat)≠o.divs.els.length;omega
theorem zdx{q:Prb}(hs:q.small){r:Reg}{l:List Int}(hr:r.stops=some l)(hl:l.length=q.o.divs.els.length)(a:Act):∃l',(wT q r a).stops=some l'/\l'.length=q.o.divs.els.length:=by
 unfold wT;split
 .cases hm:q.mems.els[a.ix.toNat]? with
  |none=>exact⟨l,hr,hl⟩
  |some m=>exact hs.ms m (Lz3 hm)
 split
 .exact⟨_,rfl,by rw[List.length_set,hr];exact hl⟩
 split
 .exact⟨l,hr,hl⟩
 .exact⟨l,hr,hl⟩
theorem t4(k:Nat)(p:CPl)(hp:p.ok)(b:Nat->Nat)(hb:∀i,b i<256)(a:Act):D (k+16) 4 [SA (zi2 p),SA (enB b),SA (xa a)]=some (S1 (Bo true)):=by
 have kn:=D7 (k+15);have cf:=t8 (k+12) p hp;unfold zi2 at cf ⊢;have eB:enB b=[U8 (b 0:Int),U8 (b 1:Int),U8 (b 2:Int),U8 (b 3:Int),U8 (b 4:Int)]:=rfl;have eA:xa a=[I6 a.tick,I6 a.way,I6 a.kind,I6 a.dv,I6 a.ix]:=rfl;rw[eB,eA,D4];unfold P4;rw[kn,zR,xI,zb,zm,Yza (by simp),cf,zR,xI,zb,zm];cases hf:zcb p with
 |false=>rfl
 |true=>
  have mk:=t9 (k+6) p hp hf;unfold zi2 at mk;obtain⟨h45,hm,_⟩:=zde hf;have h:=zaA h45;have hn:=zbM p.pc.org h.org;obtain⟨s1,s2,s3⟩:=kO p.pc.org h.org;have o0:=zhj p.pc.org hp.pc.org h.org;have S:=zpl p hf;have ok:=zxE p hf;have h0:=zhh p hp hf;have qo:(zaM p).o=zaW p.pc.org:=rfl;have dr:=t14 (k+14) (zaW p.pc.org) b hb (by omega) (fun d hd=>Yzl (s2 d hd) (by decide)) (by omega);have re:=zee o0 b hb s1 s2 s3;obtain⟨l,hr,hl⟩:=zmi (zaW p.pc.org) b hn;rw[<-qo]at dr re hr hl hn o0;generalize wo (zaM p).o b=r at *;have c8:=t15 (k+2) (zaM p) ok h0 S r a (fun _=>⟨l,hr,hl⟩);have c9:=t15 (k+2) (zaM p) ok h0 S znw a (fun h=>by rw[jd o0 hn]at h;cases h);have c10:=t16 (k+14) (zaM p) S r hr hl a;obtain⟨l',hr',hl'⟩:=zdx S hr hl a;have c17:=t17 (k+14) (wT (zaM p) r a) (by rw[hr'];show l'.length<=1000;have:=S.nd;omega);rw[re,Yza (by simp)]at c8;rw[jd o0 hn,Yzc (by decide),show zY znw=[.nils,U64 0,U64 0] from rfl]at c9;rw[eA]at c8 c9 c10;rw[eB]at dr;rw[Yza (by simp),mk,zHi];have e4:[atD (yE (zaM p)) 0,atD (yE (zaM p)) 1,atD (yE (zaM p)) 2,atD (yE (zaM p)) 3]=enO (zaM p).o:=rfl;rw[e4,dr,zyT,zvV,jf,c8,c9,c10];generalize vi (zaM p) a=e at *;unfold zui;by_cases he:e=0
  .rw[Yza (by simp[he]),zEw,jg,zEw];have eR:=jf (wT (zaM p) r a);show (za (zc .neq (I6 5) (I6 5)) fun v11=>ifB v11 (some (S1 (Bo false))) _)=_;rw[zgH rfl,zK];show (za (zc .neq (I6 0) (I6 0)) fun v12=>ifB v12 _ _)=_;rw[zgH rfl,zK];show (za (zc .eql (I6 0) (I6 0)) fun v16=>ifB v16 (b1 (D (k+15) 17 [SA (zY (wT (zaM p) r a)),SA (zY (wT (zaM p) r a))]) fun v17=>some (S1 v17)) (some (S1 (Bo false))))=_;rw[vM rfl,yl,c17];rfl
  .rw[Yzc he,jg,jg,jg];show (za (zc .neq (I6 5) (I6 5)) fun v11=>ifB v11 (some (S1 (Bo false))) _)=_;rw[zgH rfl,zK];show (za (zc .neq (I6 e) (I6 0)) fun v12=>ifB v12 (za (zV .nils) fun v13=>za (zc .eql v13 (I6 0)) fun v14=>ifB v14 (za (zc .eql (I6 e) (I6 e)) fun v15=>some (S1 v15)) (some (S1 (Bo false)))) _)=_;rw[zir he,yl,show zV .nils=some (I6 0) from rfl,zb,vM rfl,yl,vM rfl]
end Go.Proofs.Tryz.Kn
end
