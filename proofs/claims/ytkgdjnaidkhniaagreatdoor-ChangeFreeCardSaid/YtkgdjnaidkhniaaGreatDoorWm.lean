/-
  Lemmas. No condition.
-/
import Derived.Test.YtkgdjnaidkhniaaGreatDoorWl
set_option linter.unusedSimpArgs false
set_option linter.unusedVariables false
section
namespace Go.Proofs.Tryz.Kn
open Go Go.CE Go.PE
theorem zkE:∀(l:List Nat) (t:Int) (p:Option Int),0<=t->t+6*(l.length:Int)<=100000->leO t p=false->zdt p (t::wN t l)=0
 | [],t,p,h0,h1,hp=>by simp only[Yzv]at h1;unfold wN zdt;rw[Yza (by omega),Yza (by omega),Yza (by rw[hp];decide)];rfl
 |n::l,t,p,h0,h1,hp=>by have hn:n % 6<6:=Yzn _ (by decide);rw[Yzh]at h1;unfold wN zdt;rw[Yza (by omega),Yza (by omega),Yza (by rw[hp];decide)];exact zkE l _ _ (by omega) (by omega) (by show decide _=false;exact decide_eq_false (by omega))
theorem zBO(p:PPl)(h:Zu p):zaJ (0::wN 0 p.bars.els)=0:=by
 have h0:=h.b0;have h4:=h.b4
 have hl:(0::wN 0 p.bars.els).length=p.bars.els.length+1:=by rw[Yzh,uJ]
 unfold zaJ;rw[hl,Yza (by omega),Yza (by omega)];exact zkE _ _ _ (by decide) (by omega) rfl
theorem zhb(ks:List (Int×Int))(f l:Int):∀(q p:List Zh) (n:Zh),zaS ks f l p q=0->zaS ks f l p (q++[n])=zb1 ks f l (p++q) n
 | [],p,n,_=>by
  rw[YzM,YzP];unfold zaS;by_cases h:zb1 ks f l p n=0
  .rw[Yzc h,h];rfl
  .rw[Yza h]
 |m::q,p,n,hq=>by
  unfold zaS at hq;by_cases h:zb1 ks f l p m=0
  .rw[Yzc h]at hq;have:=zhb ks f l q (p++[m]) n hq;rw[List.cons_append];unfold zaS;rw[Yzc h,this,YzD];rfl
  .rw[Yza h]at hq;exact absurd hq h
theorem zru{ds:List Zo}(h0:0<ds.length)(hr:∀d∈ds,zAe d){E:Nat}(hE:0<E)(s:Snd){acc:List Zh}(ha:acc.any (fun m=>ovl m (wX ds E s))=false):zb1 (ds.map keyOf) 0 (E:Int) acc (wX ds E s)=0:=by
 have hi:s.dv % ds.length<ds.length:=Yzn _ h0;obtain⟨d,hd⟩:∃d,ds[s.dv % ds.length]? = some d:=⟨_,Lz5 hi⟩;obtain⟨r0,r1,r2⟩:=hr d (Lz3 hd);obtain⟨W,hW,hW0⟩:∃W:Nat,(d.high-d.low+1).toNat=W/\d.high-d.low+1=(W:Int):=⟨_,rfl,by omega⟩;have e:wX ds E s=⟨((s.st % E:Nat):Int),min (E:Int) (((s.st % E:Nat):Int)+1+((s.lng % 8:Nat):Int)),((s.dv % ds.length:Nat):Int),d.low+((s.key % W:Nat):Int)⟩:=by unfold wX;rw[hd,<-hW]
 have hk:s.key % W<W:=Yzn _ (by omega);have hs:s.st % E<E:=Yzn _ hE;rw[e]at ha ⊢;generalize s.dv % ds.length=j at *;generalize s.st % E=t at *;generalize s.key % W=y at *;generalize s.lng % 8=z at *;unfold zb1
 dsimp only
 have gk:(ds.map keyOf)[((j:Nat):Int).toNat]? = some (d.low,d.high):=by rw[YzO,Lz6,hd];rfl
 rw[Yza (by rw[Yzm];omega),gk]
 dsimp only
 rw[Yza (by omega),Yza (by omega),Yza (by omega),Yza];intro hc;obtain⟨m,hm,ho⟩:=List.any_eq_true.1 hc;obtain⟨hm1,hm2⟩:=List.mem_filter.1 hm;have:=List.any_eq_false.1 ha m hm1;refine this ?_;rw[LzC,beq_iff_eq,beq_iff_eq]at hm2;unfold ovN at ho;unfold ovl;rw[LzC,Yzo,Yzo]at ho;simp only[LzC,Yzo];exact⟨⟨⟨hm2.1,hm2.2⟩,ho.2⟩,ho.1⟩
theorem zfE{ds:List Zo}(h0:0<ds.length)(hr:∀d∈ds,zAe d){E:Nat}(hE:0<E):∀(r:List Snd) (acc:List Zh),zaS (ds.map keyOf) 0 (E:Int) [] acc=0->zaS (ds.map keyOf) 0 (E:Int) [] (uD ds E acc r)=0
 | [],_,h=>h
 |s::r,acc,h=>by
  unfold uD;cases hc:acc.any (fun m=>ovl m (wX ds E s)) with
  |true=>exact zfE h0 hr hE r acc h
  |false=>refine zfE h0 hr hE r _ ?_;rw[zhb _ _ _ acc [] _ h,YzM];exact zru h0 hr hE s hc
theorem zbJ(ds:List Zo)(E:Nat):∀(r:List Snd) (acc:List Zh),(uD ds E acc r).length<=acc.length+r.length
 | [],_=>LzB _
 |s::r,acc=>by
  unfold uD;split
  .have:=zbJ ds E r acc;rw[Yzh];omega
  .have:=zbJ ds E r (acc++[wX ds E s]);rw[Yzx]at this;rw[Yzh];simp only[Yzh,Yzv]at this;omega
theorem zpt(t:Int)(l:List Int):zdL (t::l)=zdK t l:=by unfold zdL;rw[Yzh,Nat.add_sub_cancel,zfQ];rfl
theorem zxz(p:PPl)(h:Zu p):zbK (zaW p.org) (zuI p)=0:=by obtain⟨E1,E2,E3⟩:=zn9 p h;have n8:=h.n8;have hl:=zbJ (zaW p.org).divs.els (zpU p) p.notes.els [];have e1:(zuI p).notes.els=uD (zaW p.org).divs.els (zpU p) [] p.notes.els:=zN _;have e2:(zuI p).bars.els=0::wN 0 p.bars.els:=rfl;unfold zbK;rw[e1,e2,Yza (by simp only[Yzv]at hl;omega),zpt,<-E1];exact zfE (zbM p.org h.org) (znB p.org) E2 p.notes.els [] rfl
theorem zfc(o:Org)(nb:Int):∀(q:List Stg) (p:Option Int) (s:Stg),j9 o nb p q=0->j9 o nb p (q++[s])=j9 o nb (match q.getLast? with|some y=>some y.bar|none=>p) [s]
 | [],_,_,_=>rfl
 |y::q,p,s,h=>by
  rw[List.cons_append];unfold j9 at h ⊢;by_cases h1:y.bar<0
  .rw[Yzc h1]at h;cases h
  rw[Yza h1]at h ⊢;by_cases h2:nb-1<=y.bar
  .rw[Yzc h2]at h;cases h
  rw[Yza h2]at h ⊢;by_cases h3:p=some y.bar
  .rw[Yzc h3]at h;cases h
  rw[Yza h3]at h ⊢;by_cases h4:gtO y.bar p=true
  .rw[Yzc h4]at h;cases h
  rw[Yza h4]at h ⊢;by_cases h5:wI o y.reg≠0
  .rw[Yzc h5]at h;exact absurd h h5
  rw[Yza h5]at h ⊢;rw[zfc o nb q (some y.bar) s h];cases q with
  |nil=>rfl
  |cons z q=>rw[List.getLast?_cons_cons];cases hq:(z::q).getLast? with
   |none=>simp at hq
   |some w=>rfl
theorem zhY(o:Org)(nb:Nat)(hnb:0<nb)(hr:∀b,(∀i,b i<256)->wI o (wo o b)=0):∀(r:List Mrk) (last:Int) (acc:List Stg),(∀m∈r,m.ok)->j9 o ((nb:Int)+1) none acc=0->(∀y,acc.getLast? = some y->y.bar=last)->(acc=[]->last=-1)->
  j9 o ((nb:Int)+1) none (zeD o nb last acc r)=0
 | [],_,_,_,h,_,_=>h
 |m::r,last,acc,hm,h,hl,hn=>by
  have hb:m.bar % nb<nb:=Yzn _ hnb;unfold zeD;by_cases hc:last<((m.bar % nb:Nat):Int)
  .rw[Yzc hc];refine zhY o nb hnb hr r _ _ (fun x hx=>hm x (Yze _ hx)) ?_ (fun y hy=>?_) (fun h=>?_)
   .rw[zfc _ _ _ _ _ h];unfold j9
    dsimp only
    rw[Yza (by omega),Yza (by omega),Yza,Yza,Yza (by rw[hr _ (hm m (Yzf ..)).h2];simp)]
    .rfl
    .cases hq:acc.getLast? with
     |none=>simp[gtO]
     |some y=>have:=hl y hq;show ¬decide (((m.bar % nb:Nat):Int)<y.bar)=true;rw[Yzo];omega
    .cases hq:acc.getLast? with
     |none=>simp
     |some y=>have:=hl y hq;intro h;have h:y.bar=((m.bar % nb:Nat):Int):=Option.some.inj h;omega
   .rw[List.getLast?_concat]at hy;cases hy;rfl
   .simp at h
  .rw[Yza hc];exact zhY o nb hnb hr r last acc (fun x hx=>hm x (Yze _ hx)) h hl hn
theorem zfb(o:Org)(nb:Nat):∀(r:List Mrk) (last:Int) (acc:List Stg),(zeD o nb last acc r).length<=acc.length+r.length
 | [],_,_=>LzB _
 |m::r,last,acc=>by
  unfold zeD;split
  .have:=zfb o nb r ((m.bar % nb:Nat):Int) (acc++[⟨((m.bar % nb:Nat):Int),wo o m.bits⟩]);rw[Yzx]at this;rw[Yzh];simp only[Yzh,Yzv]at this;omega
  .have:=zfb o nb r last acc;rw[Yzh];omega
theorem zhi(p:PPl)(hp:p.ok)(h:Zu p):zcT (zaW p.org) (zuI p)=0:=by
 have h0:=zhj p.org hp.org h.org;obtain⟨s1,s2,s3⟩:=kO p.org h.org;have e1:(zuI p).bars.els=0::wN 0 p.bars.els:=rfl;have e2:(zuI p).sets.els=zeD (zaW p.org) p.bars.els.length (-1) [] p.marks.els:=zN _;have hl:=zfb (zaW p.org) p.bars.els.length p.marks.els (-1) [];have m3:=h.m3;have hlen:((0::wN 0 p.bars.els).length:Int)=(p.bars.els.length:Int)+1:=by rw[Yzh,uJ];rfl
 unfold zcT;rw[h0,Yza (by simp),e1,zBO p h,Yza (by simp),zxz p h,Yza (by simp),e2,Yza (by simp only[Yzv]at hl;omega),hlen];exact zhY _ _ h.b0 (fun b hb=>zee h0 b hb s1 s2 s3) _ _ _ hp.marks rfl (fun y hy=>by cases hy) (fun _=>rfl)
end Go.Proofs.Tryz.Kn
end
section
namespace Go.Proofs.Tryz.Kn
open Go Go.CE Go.PE
structure CPl where
 pc:PPl
 mems:Sl (Nat->Nat)
 h0:Nat
 h1:Nat
 hp:Nat
 k0:Nat
 k1:Nat
 k2:Nat
 k3:Nat
structure CPl.ok (p:CPl):Prop where
 pc:p.pc.ok
 ml:p.mems.els.length<=9223372036854775807
 mb:∀b∈p.mems.els,∀i,b i<256
 h0:p.h0<256
 h1:p.h1<256
 hp:p.hp<256
 k0:p.k0<256
 k1:p.k1<256
 k2:p.k2<256
 k3:p.k3<256
def zi2(p:CPl):List DV:=[enL 9 zga p.pc.org.ranks,enL 4 uM p.pc.org.divs,enL 4 zkp p.pc.org.cpls,enL 1 zi3 p.pc.bars,enL 4 zl9 p.pc.notes,enL 6 zmd p.pc.marks,enL 5 enB p.mems,U8 (p.h0:Int),U8 (p.h1:Int),U8 (p.hp:Int),U8 (p.k0:Int),U8 (p.k1:Int),U8 (p.k2:Int),U8 (p.k3:Int)]
def zjv(l:List Boa):Nat:=(l.map fun b=>b.stops.els.length).sum
def zcb(p:CPl):Bool:=zet p.pc&&decide (p.mems.els.length<=3)&&decide (p.pc.org.divs.els.length+p.pc.org.cpls.els.length+zjv p.pc.org.divs.els<=7)
theorem zGA(l:Sl Boa)(hl:l.els.length<=1000)(hs:∀b∈l.els,b.stops.els.length<=3):∀(r:List Boa) (i n:Nat),l.els.drop i=r->n<=4*i+10000->
  zS (zB7 (enL 4 uM l)) [I6 (i:Int),I6 (n:Int)] []=some (.exit 0,[I6 ((n+zjv r:Nat):Int)],[]):=by
 intro r
 induction r with
 |nil=>intro i n h _;refine zr ?_;simp only[zB7,zA,yJ,zg,zi,zb,wq (z6 h),zm];rfl
 |cons b r ih=>
  intro i n h hn;have hlt:=yn h;have hb:=hs b (Lz3 (ye h));have ea:zc .add (I6 (i:Int)) (I6 1)=some (I6 ((i+1:Nat):Int)):=yG;have eb:zc .add (I6 (n:Int)) (I6 (b.stops.els.length:Int))=some (I6 ((n+b.stops.els.length:Nat):Int)):=yG;have body:zB7 (enL 4 uM l) [I6 (i:Int),I6 (n:Int)] []=some (.normal,[I6 ((i+1:Nat):Int),I6 ((n+b.stops.els.length:Nat):Int)],[]):=by simp only[zB7,zA,yJ,zg,zi,zb,zbN hlt,zm,if_true,zX h,uM,y4,ww,ea,eb]
  rw[zE body,ih (i+1) _ (zJ h) (by omega)];rw[show zjv (b::r)=b.stops.els.length+zjv r by unfold zjv;simp,Yz7]
theorem t8(k:Nat)(p:CPl)(hp:p.ok):D (k+3) 8 [SA (zi2 p)]=some (S1 (Bo (zcb p))):=by
 have cf:=t31 k p.pc hp.pc;unfold zmc at cf;unfold zi2;rw[D8];unfold P8 zcb;rw[cf,zR,xI,zb,zm];cases hf:zet p.pc with
 |false=>rfl
 |true=>
  obtain⟨f1,f2,f3,f4,f5,f6⟩:=q8 (zaA hf).org;rw[Yza (by simp),zg,zb,zW,zb,zm];by_cases h1:p.mems.els.length<=3
  .have h1':¬(3:Int)<(p.mems.els.length:Int):=by omega
   have l9:=zGA p.pc.org.divs (by omega) f6 p.pc.org.divs.els 0 (p.pc.org.divs.els.length+p.pc.org.cpls.els.length) rfl (by omega);rw[show (I6 ((0:Nat):Int):DV)=I6 0 from rfl]at l9;have ea:zc .add (I6 (p.pc.org.divs.els.length:Int)) (I6 (p.pc.org.cpls.els.length:Int))=some (I6 ((p.pc.org.divs.els.length+p.pc.org.cpls.els.length:Nat):Int)):=yG;rw[Yza (by simpa using h1')];have ed:decide (((p.pc.org.divs.els.length+p.pc.org.cpls.els.length+zjv p.pc.org.divs.els:Nat):Int)<=7)=decide (p.pc.org.divs.els.length+p.pc.org.cpls.els.length+zjv p.pc.org.divs.els<=7):=decide_eq_decide.2 (by omega);simp only[zg,zb,ea,l9,yi,Yzq,Yzb,zA,wV,ed,h1,decide_true,Yyb]
  .have h1':(3:Int)<(p.mems.els.length:Int):=by omega
   rw[Yzc (by simpa using h1')];simp[h1]
structure Prb where
 o:Org
 x:Pce
 hn:Int
 hs:Int
 fn:Int
 fs:Int
 mems:Sl Reg
 hp:Int
 k0:Int
 k1:Int
 k2:Int
 k3:Int
def yE(q:Prb):List DV:=[St q.o.name,enL 6 enR q.o.ranks,enL 5 enV q.o.divs,enL 5 enC q.o.cpls,enL 1 enW q.x.bars,enL 4 x7 q.x.notes,enL 4 zaC q.x.sets,I6 q.hn,I6 q.hs,I6 q.fn,I6 q.fs,enL 3 zY q.mems,I6 q.hp,I6 q.k0,I6 q.k1,I6 q.k2,I6 q.k3]
def zaM(p:CPl):Prb:=⟨zaW p.pc.org,zuI p.pc,((p.h0 % 4:Nat):Int),((p.h1 % 8:Nat):Int),1,5,grow (p.mems.els.map (wo (zaW p.pc.org))),((p.hp % 3:Nat):Int),((p.k0 % 8:Nat):Int),((p.k1 % 8:Nat):Int),((p.k2 % 8:Nat):Int),((p.k3 % 8:Nat):Int)⟩
theorem zDS(k:Nat)(o:Org)(x:List DV)(hd:o.divs.els.length<=60)(hs:∀d∈o.divs.els,d.stops.els.length<=60)(hc:o.cpls.els.length<=60)(l:Sl (Nat->Nat))(hl:l.els.length<=1000)(hb:∀b∈l.els,∀i,b i<256)(c0 c1 c2 c3 c4 c5 c6 c7 c8 c9 c10 c11 c12 c13 c14 c15:DV):
  ∀(r:List (Nat->Nat)) (i:Nat) (acc:List Reg),l.els.drop i=r->acc.length=i->
  zS (ztf (D (k+1)) (enL 5 enB l) [.agg (enO o),.agg x]) [I6 (i:Int),c0,c1,c2,c3,c4,c5,c6,c7,c8,c9,c10,c11,c12,c13,c14,c15] [ocL zY (grow acc)]=some (.exit 0,[c0,c1,c2,c3,c4,c5,c6,c7,c8,c9,c10,c11,c12,c13,c14,c15],[ocL zY (grow (acc++r.map (wo o)))]):=by
 intro r
 induction r with
 |nil=>intro i acc h ha;refine zr ?_;simp only[ztf,zA,yJ,yU,zg,zi,zb,wq (z6 h),zm,List.map_nil,YzP];rfl
 |cons b r ih=>
  intro i acc h ha;have hlt:=yn h;have hbb:=hb b (Lz3 (ye h));have ea:zc .add (I6 (i:Int)) (I6 1)=some (I6 ((i+1:Nat):Int)):=yG;have dr:=t14 k o b hbb hd hs hc;have ef:fits 40 ((grow acc).els.length+1)=true:=xf (by decide) (by rw[zN];omega);have e0:[atD (dsA (yR [.agg (enO o),.agg x] 0)) 0,atD (dsA (yR [.agg (enO o),.agg x] 0)) 1,atD (dsA (yR [.agg (enO o),.agg x] 0)) 2,atD (dsA (yR [.agg (enO o),.agg x] 0)) 3]=enO o:=rfl;have e1:[atD (enB b) 0,atD (enB b) 1,atD (enB b) 2,atD (enB b) 3,atD (enB b) 4]=enB b:=rfl;have e2:∀r:Reg,[atD (zY r) 0,atD (zY r) 1,atD (zY r) 2]=zY r:=fun r=>rfl;have body:ztf (D (k+1)) (enL 5 enB l) [.agg (enO o),.agg x] [I6 (i:Int),c0,c1,c2,c3,c4,c5,c6,c7,c8,c9,c10,c11,c12,c13,c14,c15] [ocL zY (grow acc)]=some (.normal,[I6 ((i+1:Nat):Int),c0,c1,c2,c3,c4,c5,c6,c7,c8,c9,c10,c11,c12,c13,c14,c15],[ocL zY (grow (acc++[wo o b]))]):=by rw[xx,<-wj (f:=zY)];simp only[ztf,zA,yJ,yU,zg,zi,zb,zbN hlt,zm,if_true,zX h,e0,e1,e2,dr,ztb,xQ,ef,xM,ea,xg]
  rw[zE body,ih (i+1) _ (zJ h) (by rw[Yzx,ha];rfl)];rw[Yzw,YzD];rfl
theorem zEx{β:Type}(o:Org)(x:Pce)(K:List DS->Option β):bT [some 4,some 3] (some (.tup [.agg (enO o),.agg (zko x)])) K=K [.agg (enO o),.agg (zko x)]:=rfl
theorem zde{p:CPl}(h:zcb p=true):zet p.pc=true/\p.mems.els.length<=3/\p.pc.org.divs.els.length+p.pc.org.cpls.els.length+zjv p.pc.org.divs.els<=7:=by unfold zcb at h;simp only[LzC,Yzo]at h;exact⟨h.1.1,h.1.2,h.2⟩
theorem t9(k:Nat)(p:CPl)(hp:p.ok)(hf:zcb p=true):D (k+9) 9 [SA (zi2 p)]=some (SA (yE (zaM p))):=by obtain⟨h45,hm,_⟩:=zde hf;obtain⟨s1,s2,s3⟩:=kO p.pc.org (zaA h45).org;have mk:=t32 k p.pc hp.pc h45;unfold zmc at mk;obtain⟨hpc,hml,hmb,h0,h1,h2,k0,k1,k2,k3⟩:=hp;have rm:∀(a b:Nat),b≠0->zc .rem (U8 (a:Int)) (U8 (b:Int))=some (U8 ((a % b:Nat):Int)):=fun a b hb=>zgG hb;have cv:∀(a:Nat),a<256->zx .i64 (U8 (a:Int))=some (I6 (a:Int)):=fun a ha=>vN;have m4:∀a:Nat,a % 4<256:=fun a=>Nat.lt_trans (Yzn _ (by decide)) (by decide);have m8:∀a:Nat,a % 8<256:=fun a=>Nat.lt_trans (Yzn _ (by decide)) (by decide);have m3:∀a:Nat,a % 3<256:=fun a=>Nat.lt_trans (Yzn _ (by decide)) (by decide);have r4:=fun a=>rm a 4 (by decide);have r8:=fun a=>rm a 8 (by decide);have r3:=fun a=>rm a 3 (by decide);rw[show (U8 ((4:Nat):Int):DV)=U8 4 from rfl]at r4;rw[show (U8 ((8:Nat):Int):DV)=U8 8 from rfl]at r8;rw[show (U8 ((3:Nat):Int):DV)=U8 3 from rfl]at r3;unfold zi2;rw[D9];unfold P9;rw[mk,zEx];simp only[y4,ww,r4,r8,r3,zb,cv _ (m4 _),cv _ (m8 _),cv _ (m3 _)];rw[show (I6 0:DV)=I6 ((0:Nat):Int) from rfl,show (none:OC)=ocL zY (grow []) from rfl];rw[zDS (k+7) (zaW p.pc.org) (zko (zuI p.pc)) (by omega) (fun d hd=>Yzl (s2 d hd) (by decide)) (by omega) p.mems (by omega) hmb _ _ _ _ _ _ _ _ _ _ _ _ _ _ _ _ p.mems.els 0 [] rfl rfl];simp only[yi,Yzq,Yzb,zA,yJ,yU,zbf,YzM];rfl
end Go.Proofs.Tryz.Kn
end
section
namespace Go.Proofs.Tryz.Kn
open Go Go.CE Go.PE
def ud(m n:Int):Bool:=decide (n<0)||decide (m<n)
theorem i0:(I6 0:DV)=I6 ((0:Nat):Int):=rfl
theorem zBN(F:DV->DV->List DV->List OC->Option PX)(m:Int)(id:Nat)(a c:Int)
  (h0:F (I6 a) (I6 c) [I6 0] []=some (if ud m a then(.ret,[I6 3],[]) else(.normal,[I6 1],[])))
  (h1:F (I6 a) (I6 c) [I6 1] []=some (if ud m c then(.ret,[I6 3],[]) else(.normal,[I6 2],[])))
  (h2:F (I6 a) (I6 c) [I6 2] []=some (.exit id,[],[])):
  zS (F (I6 a) (I6 c)) [I6 0] []=some (zhz id (if ud m a||ud m c then 3 else 0)):=by
 cases ha:ud m a with
 |true=>rw[ha,Yzc rfl]at h0;rw[zz h0];rfl
 |false=>
  rw[ha,Yza (by decide)]at h0;rw[zE h0];cases hc:ud m c with
  |true=>rw[hc,Yzc rfl]at h1;rw[zz h1];rfl
  |false=>rw[hc,Yza (by decide)]at h1;rw[zE h1,zr h2];rfl
def zan(hn hs fn fs:Int):Int:=if ud 10 hn||ud 10 fn then 3 else if ud 127 hs||ud 127 fs then 3 else 0
theorem p20:uc 2 (I6 0)=some 0:=uP (i:=0) (by decide)
theorem p21:uc 2 (I6 1)=some 1:=uP (i:=1) (by decide)
theorem a01:zc .add (I6 0) (I6 1)=some (I6 1):=yG
theorem a11:zc .add (I6 1) (I6 1)=some (I6 2):=yG
theorem a21:zc .add (I6 2) (I6 1)=some (I6 3):=yG
theorem a31:zc .add (I6 3) (I6 1)=some (I6 4):=yG
theorem t23(k:Nat)(hn hs fn fs:Int):D (k+1) 23 [SA [I6 hn,I6 hs,I6 fn,I6 fs]]=some (S1 (I6 (zan hn hs fn fs))):=by
  have l1:=zBN (fun a c=>ztr a c) 10 0 hn fn
    (by simp only [ztr, zA, zi, zb, p20, y4, zW, zm, a01, ud]
        by_cases h1:hn<0<;>by_cases h2:10<hn<;>simp[h1,h2])
    (by simp only [ztr, zA, zi, zb, p21, y4, ww, zW, zm, a11, ud]
        by_cases h1:fn<0<;>by_cases h2:10<fn<;>simp[h1,h2])
    (by simp only[ztr,zA,zi,zb,zm];simp)
  have l2:=zBN (fun a c=>zhG a c) 127 2 hs fs
    (by simp only [zhG, zA, zi, zb, p20, y4, zW, zm, a01, ud]
        by_cases h1:hs<0<;>by_cases h2:127<hs<;>simp[h1,h2])
    (by simp only [zhG, zA, zi, zb, p21, y4, ww, zW, zm, a11, ud]
        by_cases h1:fs<0<;>by_cases h2:127<fs<;>simp[h1,h2])
    (by simp only[zhG,zA,zi,zb,zm];simp)
  rw[D23];unfold P23 zan;rw[l1];cases h1:(ud 10 hn||ud 10 fn) with
  |true=>rfl
  |false=>show yP (zS (zhG (I6 hs) (I6 fs)) [I6 0] []) _ _=_;rw[l2];cases h2:(ud 127 hs||ud 127 fs)<;>rfl
def zb9(o:Org):List Reg->Int
 | []=>0
 |r::l=>if wI o r≠0 then wI o r else zb9 o l
theorem zDG(k:Nat)(o:Org)(ho:o.ok)(l:Sl Reg)(hl:l.els.length<=1000):∀(r:List Reg) (i:Nat),l.els.drop i=r->
  zS (ztp (D (k+10)) (I6 (l.els.length:Int)) (enL 3 zY l) (St o.name) (enL 6 enR o.ranks) (enL 5 enV o.divs) (enL 5 enC o.cpls)) [I6 (i:Int)] []=some (zhz 0 (zb9 o r)):=by
 intro r
 induction r with
 |nil=>intro i h;refine zr ?_;simp only[ztp,zA,zi,zb,wq (z6 h),zm,zb9];rfl
 |cons x r ih=>
  intro i h;have hlt:=yn h;have ea:zc .add (I6 (i:Int)) (I6 1)=some (I6 ((i+1:Nat):Int)):=yG;have rc:=t24 k o ho x;unfold enO zY at rc;have body:ztp (D (k+10)) (I6 (l.els.length:Int)) (enL 3 zY l) (St o.name) (enL 6 enR o.ranks) (enL 5 enV o.divs) (enL 5 enC o.cpls) [I6 (i:Int)] []=some (if wI o x≠0 then(.ret,[I6 (wI o x)],[]) else(.normal,[I6 ((i+1:Nat):Int)],[])):=by simp only[ztp,zA,zi,zb,zbN hlt,zm,if_true,zX h,zY,y4,ww,rc,zR,z7,ea];by_cases h5:wI o x=0<;>simp[h5]
  unfold zb9;by_cases h5:wI o x≠0
  .rw[Yzc h5]at body ⊢;rw[zz body];unfold zhz;rw[Yzc h5]
  .rw[Yza h5]at body ⊢;rw[zE body,ih (i+1) (zJ h)]
theorem q0:uc 4 (I6 0)=some 0:=uP (i:=0) (by decide)
theorem q1:uc 4 (I6 1)=some 1:=uP (i:=1) (by decide)
theorem q2:uc 4 (I6 2)=some 2:=uP (i:=2) (by decide)
theorem q3:uc 4 (I6 3)=some 3:=uP (i:=3) (by decide)
theorem zA4(a b c d:Int):zS (zaO (I6 a) (I6 b) (I6 c) (I6 d)) [I6 0] []=some (zhz 2 (if ud 1000 a||ud 1000 b||ud 1000 c||ud 1000 d then 3 else 0)):=by
 have h0:zaO (I6 a) (I6 b) (I6 c) (I6 d) [I6 0] []=some (if ud 1000 a then(.ret,[I6 3],[]) else(.normal,[I6 1],[])):=by simp only[zaO,zA,zi,zb,q0,y4,zW,zm,a01,ud];by_cases h1:a<0<;>by_cases h2:1000<a<;>simp[h1,h2]
 have h1:zaO (I6 a) (I6 b) (I6 c) (I6 d) [I6 1] []=some (if ud 1000 b then(.ret,[I6 3],[]) else(.normal,[I6 2],[])):=by simp only[zaO,zA,zi,zb,q1,y4,ww,zW,zm,a11,ud];by_cases h1:b<0<;>by_cases h2:1000<b<;>simp[h1,h2]
 have h2:zaO (I6 a) (I6 b) (I6 c) (I6 d) [I6 2] []=some (if ud 1000 c then(.ret,[I6 3],[]) else(.normal,[I6 3],[])):=by simp only[zaO,zA,zi,zb,q2,y4,ww,zW,zm,a21,ud];by_cases h1:c<0<;>by_cases h2:1000<c<;>simp[h1,h2]
 have h3:zaO (I6 a) (I6 b) (I6 c) (I6 d) [I6 3] []=some (if ud 1000 d then(.ret,[I6 3],[]) else(.normal,[I6 4],[])):=by simp only[zaO,zA,zi,zb,q3,y4,ww,zW,zm,a31,ud];by_cases h1:d<0<;>by_cases h2:1000<d<;>simp[h1,h2]
 have h4:zaO (I6 a) (I6 b) (I6 c) (I6 d) [I6 4] []=some (.exit 2,[],[]):=by simp only[zaO,zA,zi,zb,zm];simp
 cases ha:ud 1000 a with
 |true=>rw[ha,Yzc rfl]at h0;rw[zz h0];rfl
 |false=>
  rw[ha,Yza (by decide)]at h0;rw[zE h0];cases hb:ud 1000 b with
  |true=>rw[hb,Yzc rfl]at h1;rw[zz h1];rfl
  |false=>
   rw[hb,Yza (by decide)]at h1;rw[zE h1];cases hc:ud 1000 c with
   |true=>rw[hc,Yzc rfl]at h2;rw[zz h2];rfl
   |false=>
    rw[hc,Yza (by decide)]at h2;rw[zE h2];cases hd:ud 1000 d with
    |true=>rw[hd,Yzc rfl]at h3;rw[zz h3];rfl
    |false=>rw[hd,Yza (by decide)]at h3;rw[zE h3,zr h4];rfl
def zmu(q:Prb):Int:=if zcT q.o q.x≠0 then zcT q.o q.x else if zan q.hn q.hs q.fn q.fs≠0 then zan q.hn q.hs q.fn q.fs else if 40<q.mems.els.length then 4 else if zb9 q.o q.mems.els≠0 then zb9 q.o q.mems.els else if ud 20 q.hp then 3 else if ud 1000 q.k0||ud 1000 q.k1||ud 1000 q.k2||ud 1000 q.k3 then 3 else 0
structure Prb.ok (q:Prb):Prop where
 o:q.o.ok
 bl:q.x.bars.els.length<=9223372036854775807
theorem t25(k:Nat)(q:Prb)(hq:q.ok):D (k+12) 25 [SA (yE q)]=some (S1 (I6 (zmu q))):=by
 have pc:=t22 k q.o hq.o q.x hq.bl;have sc:=t23 (k+10) q.hn q.hs q.fn q.fs;unfold enO zko at pc;unfold yE;rw[D25];unfold P25 zmu;simp only[pc,sc,zR,z7,zW,zi,zb,zm,zg,Yzo];by_cases h1:zcT q.o q.x=0
 .by_cases h2:zan q.hn q.hs q.fn q.fs=0
  .by_cases h3:40<q.mems.els.length
   .have:(40:Int)<(q.mems.els.length:Int):=by omega
    simp[h1,h2,h3,this]
   .have:¬(40:Int)<(q.mems.els.length:Int):=by omega
    have l9:=zDG (k+1) q.o hq.o q.mems (by omega) q.mems.els 0 rfl;rw[<-i0]at l9;have l21:=zA4 q.k0 q.k1 q.k2 q.k3;simp only[h1,h2,h3,this,l9,l21];unfold zhz;by_cases h4:zb9 q.o q.mems.els=0
    .unfold ud;by_cases h5:q.hp<0
     .simp[h4,h5]
     by_cases h6:20<q.hp
     .simp[h4,h5,h6]
     simp only[h4,h5,h6];generalize (decide (q.k0<0)||decide (1000<q.k0)||(decide (q.k1<0)||decide (1000<q.k1))||(decide (q.k2<0)||decide (1000<q.k2))||(decide (q.k3<0)||decide (1000<q.k3)))=z;cases z<;>simp
    .simp[h4]
  .simp[h1,h2]
 .simp[h1]
theorem zj5(o:Org):∀l:List Reg,(∀r∈l,wI o r=0)->zb9 o l=0
 | [],_=>rfl
 |r::l,h=>by unfold zb9;rw[Yza (by rw[h r (Yzf ..)];simp)];exact zj5 o l fun x hx=>h x (Yze _ hx)
theorem zco{m n:Int}(h0:0<=n)(h1:n<=m):ud m n=false:=by unfold ud;rw[decide_eq_false (by omega),decide_eq_false (by omega)];rfl
theorem zxE(p:CPl)(hf:zcb p=true):(zaM p).ok:=by obtain⟨h45,hm,_⟩:=zde hf;have h:=zaA h45;have b4:=h.b4;exact⟨zxF _ h.org,by show (0::wN 0 p.pc.bars.els).length<=_;rw[Yzh,uJ];omega⟩
theorem zhh(p:CPl)(hp:p.ok)(hf:zcb p=true):zmu (zaM p)=0:=by
 obtain⟨h45,hm,_⟩:=zde hf;have h:=zaA h45;have h0:=zhj p.pc.org hp.pc.org h.org;obtain⟨s1,s2,s3⟩:=kO p.pc.org h.org;have em:(zaM p).mems.els=p.mems.els.map (wo (zaW p.pc.org)):=zN _;have m0:p.h0 % 4<4:=Yzn _ (by decide);have m1:p.h1 % 8<8:=Yzn _ (by decide);have m2:p.hp % 3<3:=Yzn _ (by decide);have n0:p.k0 % 8<8:=Yzn _ (by decide);have n1:p.k1 % 8<8:=Yzn _ (by decide);have n2:p.k2 % 8<8:=Yzn _ (by decide);have n3:p.k3 % 8<8:=Yzn _ (by decide);have e1:zcT (zaM p).o (zaM p).x=0:=zhi p.pc hp.pc h;have e2:zan (zaM p).hn (zaM p).hs (zaM p).fn (zaM p).fs=0:=by unfold zan;rw[show ud 10 (zaM p).hn=false from zco (by show (0:Int)<=((p.h0 % 4:Nat):Int);omega) (by show ((p.h0 % 4:Nat):Int)<=10;omega),show ud 127 (zaM p).hs=false from zco (by show (0:Int)<=((p.h1 % 8:Nat):Int);omega) (by show ((p.h1 % 8:Nat):Int)<=127;omega)];rfl
 have e3:zb9 (zaM p).o (zaM p).mems.els=0:=by rw[em];refine zj5 _ _ fun r hr=>?_;obtain⟨b,hb,rfl⟩:=List.mem_map.1 hr;exact zee h0 b (hp.mb b hb) s1 s2 s3
 unfold zmu;rw[e1,Yza (by simp),e2,Yza (by simp),em,Yzm,Yza (by omega),<-em,e3,Yza (by simp),
  show ud 20 (zaM p).hp=false from zco (by show (0:Int)<=((p.hp % 3:Nat):Int);omega) (by show ((p.hp % 3:Nat):Int)<=20;omega),
  show ud 1000 (zaM p).k0=false from zco (by show (0:Int)<=((p.k0 % 8:Nat):Int);omega) (by show ((p.k0 % 8:Nat):Int)<=1000;omega),
  show ud 1000 (zaM p).k1=false from zco (by show (0:Int)<=((p.k1 % 8:Nat):Int);omega) (by show ((p.k1 % 8:Nat):Int)<=1000;omega),
  show ud 1000 (zaM p).k2=false from zco (by show (0:Int)<=((p.k2 % 8:Nat):Int);omega) (by show ((p.k2 % 8:Nat):Int)<=1000;omega),
  show ud 1000 (zaM p).k3=false from zco (by show (0:Int)<=((p.k3 % 8:Nat):Int);omega) (by show ((p.k3 % 8:Nat):Int)<=1000;omega)]
 rfl
end Go.Proofs.Tryz.Kn
end
section
namespace Go.Proofs.Tryz.Kn
open Go Go.CE Go.PE
theorem zo7{x y:Nat}(hx:x<2^64)(hy:y<2^64):zc .and (U64 (x:Int)) (U64 (y:Int))=some (U64 ((x &&& y:Nat):Int)):=by rw[zij];exact congrArg (fun z=>some (U64 z)) (zBU hx hy)
theorem zDm{x y:Nat}(hx:x<2^64)(hy:y<2^64):x ||| y<2^64:=Nat.or_lt_two_pow hx hy
theorem zGu{x y:Nat}(hx:x<2^64)(hy:y<2^64):IntKind.wrap .u64 (BitVec.ofInt IntKind.u64.bits (x:Int) ||| BitVec.ofInt IntKind.u64.bits (y:Int)).toNat=((x ||| y:Nat):Int):=by
 have e:(BitVec.ofInt IntKind.u64.bits (x:Int) ||| BitVec.ofInt IntKind.u64.bits (y:Int)).toNat=x ||| y:=by show (BitVec.ofInt 64 (x:Int) ||| BitVec.ofInt 64 (y:Int)).toNat=x ||| y;rw[BitVec.toNat_or,BitVec.ofInt_natCast,BitVec.ofInt_natCast,BitVec.toNat_ofNat,BitVec.toNat_ofNat,Yyk hx,Yyk hy]
 rw[e];have:=zDm hx hy;rw[<-wO,zjs];omega
theorem zGd(x y:Int):zc .or (U64 x) (U64 y)=some (U64 (IntKind.wrap .u64 (BitVec.ofInt IntKind.u64.bits x ||| BitVec.ofInt IntKind.u64.bits y).toNat)):=(rfl)
theorem zq9{x y:Nat}(hx:x<2^64)(hy:y<2^64):zc .or (U64 (x:Int)) (U64 (y:Int))=some (U64 ((x ||| y:Nat):Int)):=by rw[zGd,zGu hx hy]
theorem zGy{x:Nat}(h:∀b,x.testBit b=true->b<=55):x<2^56:=by
 refine Nat.lt_pow_two_of_testBit _ fun i hi=>?_;cases hb:x.testBit i with
 |false=>rfl
 |true=>have:=h i hb;omega
def zpT(s:Nat)(l:List Nat):Nat:=l.foldl (fun s n=>s ||| 2^n) s
theorem zmW:∀(l:List Nat) (s i:Nat),(zpT s l).testBit i=(s.testBit i||decide (i∈l))
 | [],s,i=>by simp[zpT]
 |n::l,s,i=>by
  show (zpT (s ||| 2^n) l).testBit i=_;rw[zmW l,Nat.testBit_or,Nat.testBit_two_pow];by_cases h:n=i
  .subst h;simp
  .have:¬i=n:=fun e=>h e.symm;simp[h,this]
theorem zwV{l:List Nat}(h:∀n∈l,n<=55):zpT 0 l<2^56:=by refine zGy fun b hb=>?_;rw[zmW]at hb;simp at hb;exact h b hb
def enG(n:Nat):List DV:=[I6 (n:Int)]
def zsM(s:Nat):List DV:=[U64 (s:Int),U64 0]
theorem t63(k:Nat){n:Nat}(h:n<=127):D (k+1) 63 [S1 (I6 (n:Int))]=some (S1 (Bo true)):=by rw[D63];unfold P63;simp only[xD,wV,zb,zm];rw[Yzc (by simp),decide_eq_true (by omega)]
theorem t64(k:Nat){s n:Nat}(hs:s<2^64)(hn:n<=55):D (k+1) 64 [SA [U64 (s:Int),U64 0],S1 (I6 (n:Int))]=some (SA [U64 ((s ||| 2^n:Nat):Int),U64 0]):=by have e1:zq true (U64 1) (I6 (n:Int))=some (U64 ((2^n:Nat):Int)):=zo3 (by omega);have hp:2^n<2^64:=Nat.pow_lt_pow_right (by decide) (by omega);rw[D64];unfold P64;simp only[zi,zb,zm,decide_eq_true (show (n:Int)<64 by omega),if_true,e1,zq9 hs hp]
theorem bA2{β:Type}(a b:DV)(K:List DV->Option β):bA 2 (some (SA [a,b])) K=K [a,b]:=rfl
theorem zDO(k:Nat)(l:Sl Nat)(hl:l.els.length<=1000)(hn:∀n∈l.els,n<=55)(x y:DV):∀(r:List Nat) (i s:Nat),l.els.drop i=r->s<2^56->
  zS (zvC (D (k+1)) (I6 (l.els.length:Int)) (enL 1 enG l)) [I6 (i:Int),x,y,U64 (s:Int),U64 0] []=some (.exit 0,[x,y,U64 ((zpT s r:Nat):Int),U64 0],[]):=by
 intro r
 induction r with
 |nil=>intro i s h _;refine zr ?_;simp only[zvC,zA,yJ,zi,zb,wq (z6 h),zm,zpT,List.foldl_nil];rfl
 |cons n r ih=>
  intro i s h hs;have hlt:=yn h;have hn':=hn n (Lz3 (ye h));have ea:zc .add (I6 (i:Int)) (I6 1)=some (I6 ((i+1:Nat):Int)):=yG;have c1:=t63 k (n:=n) (by omega);have c2:=t64 k (s:=s) (n:=n) (Nat.lt_trans hs (by decide)) hn';have hs2:s ||| 2^n<2^56:=Nat.or_lt_two_pow hs (Nat.pow_lt_pow_right (by decide) (by omega));rw[zE (by simp only[zvC,zA,yJ,zi,zb,zbN hlt,zm,if_true,zX h,enG,y4,ww,c1,zR,xI,Yyo,Yzp,if_false,c2,bA2,ea];rfl),ih (i+1) _ (zJ h) hs2]
  rfl
theorem t35(k:Nat)(l:Sl Nat)(hl:l.els.length<=1000)(hn:∀n∈l.els,n<=55):D (k+2) 35 [S1 (enL 1 enG l)]=some (.tup [.agg (zsM (zpT 0 l.els)),.one (I6 0)]):=by have:=zDO k l hl hn (U64 0) (U64 0) l.els 0 0 rfl (by decide);rw[show (I6 ((0:Nat):Int):DV)=I6 0 from rfl,show (U64 ((0:Nat):Int):DV)=U64 0 from rfl]at this;rw[D35];unfold P35;simp only[zg,zb,this,yi,Yzq,Yzb,zA,yJ,zsM]
def zgz:Nat->Nat->List Nat
 |0,_=>[]
 |m+1,x=>if x=0 then[] else tzN x::zgz m (x &&& (x-1))
theorem zvJ:∀n x:Nat,tzF n x<=n
 |0,_=>LzB _
 |n+1,x=>by
  unfold tzF;cases Nat.beq (x % 2) 1 with
  |true=>exact Yzs _
  |false=>exact Nat.succ_le_succ (zvJ n (x / 2))
theorem zrO:∀(m x n:Nat),n∈zgz m x->n<=64
 |0,_,_,h=>by cases h
 |m+1,x,n,h=>by
  unfold zgz at h;split at h
  .cases h
  .rcases Yya.1 h with rfl|h
   .exact zvJ 64 x
   .exact zrO m _ n h
theorem znD:∀(m x:Nat),(zgz m x).length<=m
 |0,_=>LzB _
 |m+1,x=>by
  unfold zgz;split
  .exact Yzs _
  .exact Nat.succ_le_succ (znD m _)
theorem zDI(k:Nat):∀(m t x:Nat) (acc:List Nat),64<=t+m->x<2^64->(∀n,n<t->x.testBit n=false)->acc.length<=t->t<=64->
  (zgz m x).length+t<=64/\zS (zkK (D k) [I6 0]) [U64 (x:Int)] [ocL enG (grow acc)]=some (.exit 2,[],[ocL enG (grow (acc++zgz m x))]):=by
 intro m;have ext:∀acc:List Nat,zS (zkK (D k) [I6 0]) [U64 ((0:Nat):Int)] [ocL enG (grow acc)]=some (.exit 2,[],[ocL enG (grow (acc++[]))]):=by intro acc;refine zr ?_;simp only[zkK,zA,yU,z7,zb,zm,YzP];rfl
 induction m with
 |zero=>
  intro t x acc h h64 hz ha ht;have:x=0:=by
   refine Nat.eq_of_testBit_eq fun i=>?_;rw[Nat.zero_testBit];by_cases hi:i<t
   .exact hz i hi
   .exact Nat.testBit_lt_two_pow (Lz9 h64 (Nat.pow_le_pow_right (by decide) (by omega)))
  subst this;exact⟨by simpa[zgz] using ht,ext acc⟩
 |succ m ih=>
  intro t x acc h h64 hz ha ht;by_cases h0:x=0
  .subst h0;exact⟨by simpa[zgz] using ht,ext acc⟩
  have hp:0<x:=by omega
  have c:=zHx k hp h64;have t1:=zuO hp h64;have tt:t<=tzN x:=by refine Nat.le_of_not_lt fun hlt=>?_;rw[hz _ hlt]at t1;cases t1
  have t64:tzN x<64:=by obtain⟨_,_,g⟩:=zam 64 x hp h64;exact g
  have hx2:x &&& (x-1)<2^64:=Nat.lt_of_le_of_lt Nat.and_le_left h64;obtain⟨hll,hr⟩:=ih (tzN x+1) (x &&& (x-1)) (acc++[tzN x]) (by omega) hx2 (fun n hn=>by
   rw[zrU hp h64];by_cases he:n=tzN x
   .simp[he]
   .rw[zrT hp h64 (show n<tzN x by omega)];rfl) (by simp;omega) (by omega)
  have em:zgz (m+1) x=tzN x::zgz m (x &&& (x-1)):=Yza h0;refine⟨by rw[em,Yzh];omega,?_⟩
  .have e1:zc .mul (I6 64) (I6 0)=some (I6 0):=rfl;have e2:zc .add (I6 0) (I6 (tzN x:Int))=some (I6 (tzN x:Int)):=by
    rw[show (I6 (tzN x:Int):DV)=I6 (0+(tzN x:Int)) by rw[Int.zero_add],show (I6 (0+(tzN x:Int)):DV)=I6 (tzN x:Int) by rw[Int.zero_add]];exact(zg7 0 (tzN x:Int) (by omega) (by omega)).trans (by rw[Int.zero_add])
   have e3:zc .sub (U64 (x:Int)) (U64 1)=some (U64 ((x-1:Nat):Int)):=by rw[zii,zjs,show ((x:Int)-1) % 18446744073709551616=((x-1:Nat):Int) by omega]
   have e4:=zo7 h64 (show x-1<2^64 by omega);have ef:fits 8 ((grow acc).els.length+1)=true:=xf (by decide) (by rw[zN];omega);have en:(!((x:Int)==0))=true:=by
    have:¬((x:Int)=0):=by omega
    simpa using this
   have body:zkK (D k) [I6 0] [U64 (x:Int)] [ocL enG (grow acc)]=some (.normal,[U64 ((x &&& (x-1):Nat):Int)],[ocL enG (grow (acc++[tzN x]))]):=by rw[xx,<-wj (f:=enG)];unfold D at c ⊢;simp only[zkK,zA,yU,z7,en,zb,zm,if_true,e1,c,zR,e2,xQ,ef,xM,e3,e4,xg];rfl
   rw[zE body,hr,em];simp
theorem t66(k:Nat){s:Nat}(hs:s<2^56):D (k+1) 66 [SA (zsM s)]=some (S1 (enL 1 enG (grow (zgz 64 s)))):=by
 obtain⟨h2,h3⟩:=zDI k 64 0 s [] (by omega) (Nat.lt_trans hs (by decide)) (fun n hn=>by omega) (LzB _) (by omega);rw[show ocL enG (grow ([]:List Nat))=none from rfl,YzM]at h3;have x1:zS (zkK (D k) [I6 1]) [U64 0] [ocL enG (grow (zgz 64 s))]=some (.exit 2,[],[ocL enG (grow (zgz 64 s))]):=by refine zr ?_;simp only[zkK,zA,yU,z7,zb,zm];rfl
 have b0:zpR (D k) (U64 (s:Int)) (U64 0) [I6 0] [none]=some (.normal,[I6 1],[ocL enG (grow (zgz 64 s))]):=by have e0:zc .lss (I6 0) (I6 2)=some (Bo true):=rfl;have i0:uc 2 (I6 0)=some 0:=rfl;have ad:zc .add (I6 0) (I6 1)=some (I6 1):=rfl;simp only[zpR,zA,yU,e0,zb,zm,if_true,i0,y4,h3,yi,Yzq,Yzb,ad]
 have b1:zpR (D k) (U64 (s:Int)) (U64 0) [I6 1] [ocL enG (grow (zgz 64 s))]=some (.normal,[I6 2],[ocL enG (grow (zgz 64 s))]):=by have e0:zc .lss (I6 1) (I6 2)=some (Bo true):=rfl;have i0:uc 2 (I6 1)=some 1:=rfl;have ad:zc .add (I6 1) (I6 1)=some (I6 2):=rfl;simp only[zpR,zA,yU,e0,zb,zm,if_true,i0,y4,ww,x1,yi,Yzq,Yzb,ad]
 have b2:zpR (D k) (U64 (s:Int)) (U64 0) [I6 2] [ocL enG (grow (zgz 64 s))]=some (.exit 0,[],[ocL enG (grow (zgz 64 s))]):=rfl;unfold zsM;rw[D66];unfold P66;rw[zE b0,zE b1,zr b2];simp only[yi,Yzq,Yzb,yU,zbf]
def zp1(l:List Nat):Int:=match l[l.length-1]?,l[0]? with
 |some a,some b=>((a:Nat):Int)-((b:Nat):Int)
 |_,_=>0
theorem t85(k:Nat)(l:List Nat)(hl:l.length<=1000)(hb:∀n∈l,n<=64):D (k+1) 85 [S1 (enL 1 enG (grow l))]=some (S1 (I6 (zp1 l))):=by
 rw[D85];unfold P85 zp1;rw[zg,zN,zb,xO,zb,zm];cases l with
 |nil=>rfl
 |cons a r=>
  have h0:¬(((a::r).length:Int)=0):=by rw[Yzh];omega
  rw[Yza (by simpa using h0)];obtain⟨z,hz⟩:∃z,(a::r)[(a::r).length-1]? = some z:=⟨_,Lz5 (by rw[Yzh];omega)⟩;have b1:=hb z (Lz3 hz);have b2:=hb a (Yzf ..);have sb:zc .sub (I6 ((a::r).length:Int)) (I6 1)=some (I6 (((a::r).length-1:Nat):Int)):=by have h:zc .sub (I6 ((a::r).length:Int)) (I6 1)=some (I6 (((a::r).length:Int)-1)):=zci;exact h.trans (by rw[show ((a::r).length:Int)-1=(((a::r).length-1:Nat):Int) by rw[Yzh];omega])
  have i1:yb 1 (enL 1 enG (grow (a::r))) (I6 (((a::r).length-1:Nat):Int))=some (enG z):=by rw[xC,zN,hz];rfl
  have i2:yb 1 (enL 1 enG (grow (a::r))) (I6 0)=some (enG a):=by rw[i0,xC,zN];rfl
  have s2:zc .sub (I6 (z:Int)) (I6 (a:Int))=some (I6 ((z:Int)-(a:Int))):=zci;simp only[zb,zg,zN,sb,i1,i2,enG,y4,s2,hz];rfl
def zCn(hn hs:Int)(l:List Nat):Bool:=decide ((l.length:Int)<=hn)&&decide (zp1 l<=hs)
theorem t65(k:Nat)(hn hs fn fs:Int)(l:List Nat)(hl:l.length<=1000)(hb:∀n∈l,n<=64):D (k+2) 65 [SA [I6 hn,I6 hs,I6 fn,I6 fs],S1 (enL 1 enG (grow l))]=some (S1 (Bo (zCn hn hs l))):=by have w:=t85 k l hl hb;rw[D65];unfold P65 zCn;simp only[zg,zN,zb,wV,zm,w,zR];by_cases h:(l.length:Int)<=hn<;>simp[h]
theorem t36(k:Nat)(hn hs fn fs:Int)(h:zan hn hs fn fs=0){s:Nat}(h56:s<2^56):D (k+3) 36 [SA [I6 hn,I6 hs,I6 fn,I6 fs],SA (zsM s)]=some (.tup [.one (Bo (zCn hn hs (zgz 64 s))),.one (I6 0)]):=by have c:=t23 (k+1) hn hs fn fs;have m:=t66 (k+1) h56;have w:=t65 k hn hs fn fs (zgz 64 s) (Yzl (znD 64 s) (by decide)) (zrO 64 s);unfold zsM at m ⊢;rw[h]at c;rw[D36];unfold P36;simp only[c,zR,z7,zb,zm,m,w];rfl
end Go.Proofs.Tryz.Kn
end
section
namespace Go.Proofs.Tryz.Kn
open Go Go.CE Go.PE
structure FSt where
 man:Int
 hand:Bool
 feet:Bool
 keys:List Nat
def zlu(ds:List Zo)(i:Int):Bool:=((ds[i.toNat]?).map Zo.pedal).getD false
def ziR(ds:List Zo)(t:Int)(s:FSt)(n:Zh):FSt:=
 if t<n.st then s else if n.fin<=t then s else if zlu ds n.div then⟨s.man,s.hand,false,s.keys⟩ else⟨n.div,s.hand&&(decide (s.man<0)||decide (s.man=n.div)),s.feet,s.keys++[n.key.toNat]⟩
def zwe(ds:List Zo)(t:Int):FSt->List Zh->FSt
 |s,[]=>s
 |s,n::r=>zwe ds t (ziR ds t s n) r
def okN(o:Org)(n:Zh):Prop:=0<=n.div/\n.div<(o.divs.els.length:Int)/\0<=n.key/\n.key<=55
structure FSt.ok (s:FSt):Prop where
 len:∀n∈s.keys,n<=55
 man:s.man<0↔s.keys=[]
theorem znS{o:Org}{t:Int}{s:FSt}{n:Zh}(hn:okN o n)(hs:s.ok):(ziR o.divs.els t s n).ok/\(ziR o.divs.els t s n).keys.length<=s.keys.length+1:=by
 unfold ziR;split
 .exact⟨hs,Yz1 _⟩
 split
 .exact⟨hs,Yz1 _⟩
 split
 .exact⟨⟨hs.len,hs.man⟩,Yz1 _⟩
 .refine⟨⟨fun m hm=>?_,?_⟩,by simp⟩
  .rcases List.mem_append.1 hm with hm|hm
   .exact hs.len m hm
   .rw[Yz6.1 hm];obtain⟨_,_,h3,h4⟩:=hn;omega
  .obtain⟨h1,_,_,_⟩:=hn
   constructor
   .intro h;have h:n.div<0:=h;omega
   .intro h;simp at h
theorem zsr{o:Org}{t:Int}:∀(r:List Zh) (s:FSt),(∀n∈r,okN o n)->s.ok->(zwe o.divs.els t s r).ok/\(zwe o.divs.els t s r).keys.length<=s.keys.length+r.length
 | [],s,_,hs=>⟨hs,LzB _⟩
 |n::r,s,hn,hs=>by obtain⟨h1,h2⟩:=znS (t:=t) (hn n (Yzf ..)) hs;obtain⟨h3,h4⟩:=zsr (t:=t) r _ (fun m hm=>hn m (Yze _ hm)) h1;refine⟨h3,?_⟩;rw[Yzh];exact Yzl h4 (by omega)
theorem zAl{o:Org}{n:Zh}(hn:okN o n):∃d,o.divs.els[n.div.toNat]? = some d/\zlu o.divs.els n.div=d.pedal/\yb 5 (enL 5 enV o.divs) (I6 n.div)=some (enV d):=by obtain⟨h1,h2,_,_⟩:=hn;obtain⟨d,hd⟩:∃d,o.divs.els[n.div.toNat]? = some d:=⟨_,Lz5 (by omega)⟩;refine⟨d,hd,by unfold zlu;rw[hd];rfl,?_⟩;obtain⟨m,hm⟩:∃m:Nat,n.div=(m:Int):=⟨n.div.toNat,by omega⟩;rw[hm]at hd ⊢;rw[YzO]at hd;rw[xC,hd];rfl
theorem zA8{o:Org}{n:Zh}(hn:okN o n):[I6 n.key]=enG n.key.toNat:=by obtain⟨_,_,h3,_⟩:=hn;unfold enG;rw[show ((n.key.toNat:Nat):Int)=n.key by omega]
theorem zDP(o:Org)(t:Int)(l:Sl Zh)(hl:l.els.length<=1000)(hn:∀n∈l.els,okN o n):∀(r:List Zh) (i:Nat) (s:FSt),l.els.drop i=r->s.keys.length<=i->s.ok->
  zS (ztn (I6 (l.els.length:Int)) (enL 4 x7 l) (I6 t) (enL 5 enV o.divs)) [I6 (i:Int),I6 s.man,Bo s.hand,Bo s.feet] [ocL enG (grow s.keys)]=some (.exit 0,[Bo (zwe o.divs.els t s r).hand,Bo (zwe o.divs.els t s r).feet],[ocL enG (grow (zwe o.divs.els t s r).keys)]):=by
 intro r
 induction r with
 |nil=>intro i s h _ _;refine zr ?_;simp only[ztn,zA,yJ,yU,zi,zb,wq (z6 h),zm,zwe];rfl
 |cons n r ih=>
  intro i s h hk hs;have hlt:=yn h;have ok:=hn n (Lz3 (ye h));obtain⟨d,hd,hp,ix⟩:=zAl ok;have ke:=zA8 ok;obtain⟨s1,s2⟩:=znS (t:=t) ok hs;have ea:zc .add (I6 (i:Int)) (I6 1)=some (I6 ((i+1:Nat):Int)):=yG;have ef:fits 8 ((grow s.keys).els.length+1)=true:=xf (by decide) (by rw[zN];omega);have pu:(some ((grow s.keys).els.map enG++[[I6 n.key]]):OC)=ocL enG (grow (s.keys++[n.key.toNat])):=by rw[ke,wj,xx]
  have body:ztn (I6 (l.els.length:Int)) (enL 4 x7 l) (I6 t) (enL 5 enV o.divs) [I6 (i:Int),I6 s.man,Bo s.hand,Bo s.feet] [ocL enG (grow s.keys)]=some (.normal,[I6 ((i+1:Nat):Int),I6 (ziR o.divs.els t s n).man,Bo (ziR o.divs.els t s n).hand,Bo (ziR o.divs.els t s n).feet],[ocL enG (grow (ziR o.divs.els t s n).keys)]):=by
   unfold ziR;rw[hp];simp only[ztn,zA,yJ,yU,zi,zb,zbN hlt,zm,if_true,zX h,x7,y4,ww,ix,enV,xD,z7,ea,xQ,ef,xM,xg,pu,Yzo];by_cases h1:t<n.st
   .simp only[h1,if_true]
   by_cases h2:n.fin<=t
   .simp only[h1,h2,if_true,if_false]
   simp only[h1,h2,if_false];cases d.pedal with
   |true=>simp
   |false=>
    by_cases h3:0<=s.man
    .have h3':¬s.man<0:=by omega
     by_cases h4:s.man=n.div
     .simp[h3,h4,show ¬n.div<0 by omega,show 0<=n.div by omega]
     .simp[h3,h3',h4]
    .have h3':s.man<0:=by omega
     simp[h3,h3']
  rw[zE body,ih (i+1) _ (zJ h) (by omega) s1];rfl
theorem u1(o:Org)(t:Int)(l:Sl Zh)(hl:l.els.length<=1000)(hn:∀n∈l.els,okN o n):∀(r:List Zh) (i:Nat) (s:FSt),l.els.drop i=r->s.keys.length<=i->s.ok->
  zS (wy (enL 4 x7 l) (I6 t) (enL 5 enV o.divs)) [I6 (i:Int),Bo s.hand,I6 s.man,Bo s.feet] [ocL enG (grow s.keys)]=some (.exit 0,[Bo (zwe o.divs.els t s r).hand,I6 (zwe o.divs.els t s r).man,Bo (zwe o.divs.els t s r).feet],[ocL enG (grow (zwe o.divs.els t s r).keys)]):=by
 intro r
 induction r with
 |nil=>intro i s h _ _;refine zr ?_;simp only[wy,zA,yJ,yU,zg,zi,zb,wq (z6 h),zm,zwe];rfl
 |cons n r ih=>
  intro i s h hk hs;have hlt:=yn h;have ok:=hn n (Lz3 (ye h));obtain⟨d,hd,hp,ix⟩:=zAl ok;have ke:=zA8 ok;obtain⟨s1,s2⟩:=znS (t:=t) ok hs;have ea:zc .add (I6 (i:Int)) (I6 1)=some (I6 ((i+1:Nat):Int)):=yG;have ef:fits 8 ((grow s.keys).els.length+1)=true:=xf (by decide) (by rw[zN];omega);have pu:(some ((grow s.keys).els.map enG++[[I6 n.key]]):OC)=ocL enG (grow (s.keys++[n.key.toNat])):=by rw[ke,wj,xx]
  have body:wy (enL 4 x7 l) (I6 t) (enL 5 enV o.divs) [I6 (i:Int),Bo s.hand,I6 s.man,Bo s.feet] [ocL enG (grow s.keys)]=some (.normal,[I6 ((i+1:Nat):Int),Bo (ziR o.divs.els t s n).hand,I6 (ziR o.divs.els t s n).man,Bo (ziR o.divs.els t s n).feet],[ocL enG (grow (ziR o.divs.els t s n).keys)]):=by
   unfold ziR;rw[hp];simp only[wy,zA,yJ,yU,zg,zi,zW,xO,zb,zbN hlt,zm,if_true,zX h,x7,y4,ww,ix,enV,xD,ea,xQ,ef,xM,xg,pu,Yzo];by_cases h1:t<n.st
   .simp only[h1,if_true]
   by_cases h2:n.fin<=t
   .simp only[h1,h2,if_true,if_false]
   simp only[h1,h2,if_false];cases d.pedal with
   |true=>simp
   |false=>
    cases s.hand with
    |false=>simp
    |true=>
     by_cases h3:s.man<0
     .simp[h3]
     .by_cases h4:s.man=n.div
      .simp[h4,show ¬n.div<0 by rw[<-h4];exact h3]
      .simp[h3,h4]
  rw[zE body,ih (i+1) _ (zJ h) (by omega) s1];rfl
def f0:FSt:=⟨-1,true,true,[]⟩
theorem zBw:f0.ok:=⟨fun _ h=>(by cases h),by simp[f0]⟩
def vL(q:Prb)(t:Int):FSt:=zwe q.o.divs.els t f0 q.x.notes.els
def zyu(q:Prb)(t:Int):Bool:=(vL q t).hand&&(decide ((vL q t).keys=[])||zCn q.hn q.hs (zgz 64 (zpT 0 (vL q t).keys)))
structure Prb.fine (q:Prb):Prop where
 nl:q.x.notes.els.length<=1000
 nt:∀n∈q.x.notes.els,okN q.o n
 sp:zan q.hn q.hs q.fn q.fs=0
 b0:0<q.x.bars.els.length
 b1:q.x.bars.els.length<=1000000
theorem zHh{β:Type}(s:Nat)(e:DV)(K:List DS->Option β):bT [some 2,none] (some (.tup [.agg (zsM s),.one e])) K=K [.agg (zsM s),.one e]:=rfl
theorem zFr{β:Type}(a b:DV)(K:List DS->Option β):bT [none,none] (some (.tup [.one a,.one b])) K=K [.one a,.one b]:=rfl
theorem t34(k:Nat)(q:Prb)(hq:q.fine)(t:Int):D (k+4) 34 [SA (yE q),S1 (I6 t)]=some (.tup [.one (Bo (zyu q t)),.one (Bo (vL q t).feet)]):=by
 have l3:=zDP q.o t q.x.notes hq.nl hq.nt q.x.notes.els 0 f0 rfl (LzB _) zBw;obtain⟨s1,s2⟩:=zsr (t:=t) q.x.notes.els f0 hq.nt zBw;rw[show (f0.keys:List Nat)=[] from rfl,show ocL enG (grow ([]:List Nat))=none from rfl,show f0.man=-1 from rfl,show f0.hand=true from rfl,show f0.feet=true from rfl,show (I6 ((0:Nat):Int):DV)=I6 0 from rfl]at l3;have s2:(vL q t).keys.length<=1000:=Yzl s2 (by show 0+_<=_;have:=hq.nl;omega);have s1:(vL q t).ok:=s1;change _=some (Zf.exit 0,[Bo (vL q t).hand,Bo (vL q t).feet],[ocL enG (grow (vL q t).keys)]) at l3;have of:=t35 (k+1) (grow (vL q t).keys) (by rw[zN];exact s2) (by rw[zN];exact s1.len);have on:=t36 k q.hn q.hs q.fn q.fs hq.sp (s:=zpT 0 (vL q t).keys) (zwV s1.len);rw[zN]at of;unfold yE zyu;rw[D34];unfold P34;rw[zg,zb,l3];simp only[yi,Yzq,Yzb,zA,yJ,yU,zm,xQ,zN,zW,zb,zbf,of,zHh];have e1:SA [atD (dsA (yR [DS.agg (zsM (zpT 0 (vL q t).keys)),.one (I6 0)] 0)) 0,atD (dsA (yR [DS.agg (zsM (zpT 0 (vL q t).keys)),.one (I6 0)] 0)) 1]=SA (zsM (zpT 0 (vL q t).keys)):=rfl;rw[e1,on,zFr];cases (vL q t).hand with
 |false=>rfl
 |true=>
  cases hk:(vL q t).keys with
  |nil=>rfl
  |cons a l=>simp
theorem t13(k:Nat)(q:Prb)(hq:q.fine)(t:Int):D (k+4) 13 [SA (yE q),S1 (I6 t)]=some (.tup [.one (Bo (zyu q t)),.one (Bo (vL q t).feet)]):=by
 have l2:=u1 q.o t q.x.notes hq.nl hq.nt q.x.notes.els 0 f0 rfl (LzB _) zBw;obtain⟨s1,s2⟩:=zsr (t:=t) q.x.notes.els f0 hq.nt zBw;rw[show (f0.keys:List Nat)=[] from rfl,show ocL enG (grow ([]:List Nat))=none from rfl,show f0.man=-1 from rfl,show f0.hand=true from rfl,show f0.feet=true from rfl,show (I6 ((0:Nat):Int):DV)=I6 0 from rfl]at l2;have s2:(vL q t).keys.length<=1000:=Yzl s2 (by show 0+_<=_;have:=hq.nl;omega);have s1:(vL q t).ok:=s1;change _=some (Zf.exit 0,[Bo (vL q t).hand,I6 (vL q t).man,Bo (vL q t).feet],[ocL enG (grow (vL q t).keys)]) at l2;have of:=t35 (k+1) (grow (vL q t).keys) (by rw[zN];exact s2) (by rw[zN];exact s1.len);have on:=t36 k q.hn q.hs q.fn q.fs hq.sp (s:=zpT 0 (vL q t).keys) (zwV s1.len);rw[zN]at of;have mk:=s1.man;unfold yE zyu;rw[D13];unfold P13;rw[l2];simp only[yi,Yzq,Yzb,zA,yJ,yU,zm,zbf,of,zHh,zi,zb];have e1:SA [atD (dsA (yR [DS.agg (zsM (zpT 0 (vL q t).keys)),.one (I6 0)] 0)) 0,atD (dsA (yR [DS.agg (zsM (zpT 0 (vL q t).keys)),.one (I6 0)] 0)) 1]=SA (zsM (zpT 0 (vL q t).keys)):=rfl;rw[e1,on,zFr];cases (vL q t).hand with
 |false=>rfl
 |true=>
  by_cases hm:(vL q t).man<0
  .simp[hm,mk.1 hm]
  .have hk:¬(vL q t).keys=[]:=fun h=>hm (mk.2 h);simp[hm,hk]
theorem znZ(l:Sl Int)(h0:0<l.els.length):yb 1 (enL 1 enW l) (I6 0)=some [I6 (zbm l.els)]:=by obtain⟨a,ha⟩:∃a,l.els[0]? = some a:=⟨_,Lz5 h0⟩;unfold zbm;rw[i0,xC,ha];rfl
theorem zrZ(l:Sl Int)(h0:0<l.els.length):yb 1 (enL 1 enW l) (I6 ((l.els.length:Int)-1))=some [I6 (zdL l.els)]:=by obtain⟨a,ha⟩:∃a,l.els[l.els.length-1]? = some a:=⟨_,Lz5 (by omega)⟩;unfold zdL;rw[show (l.els.length:Int)-1=((l.els.length-1:Nat):Int) by omega,xC,ha];rfl
theorem zrW(l:Sl Int)(h1:l.els.length<=1000000):zc .sub (I6 (l.els.length:Int)) (I6 1)=some (I6 ((l.els.length:Int)-1)):=zci
theorem t61(k:Nat)(q:Prb)(hq:q.fine):D (k+1) 61 [SA (yE q)]=some (S1 (I6 (zbm q.x.bars.els))):=by unfold yE;rw[D61];unfold P61;rw[znZ _ hq.b0];rfl
theorem t11(k:Nat)(q:Prb)(hq:q.fine):D (k+1) 11 [SA (yE q)]=some (S1 (I6 (zbm q.x.bars.els))):=by unfold yE;rw[D11];unfold P11;rw[znZ _ hq.b0];rfl
theorem t62(k:Nat)(q:Prb)(hq:q.fine):D (k+1) 62 [SA (yE q)]=some (S1 (I6 (zdL q.x.bars.els))):=by unfold yE;rw[D62];unfold P62;rw[zg,zb,zrW _ hq.b1,zb,zrZ _ hq.b0];rfl
theorem t12(k:Nat)(q:Prb)(hq:q.fine):D (k+1) 12 [SA (yE q)]=some (S1 (I6 (zdL q.x.bars.els))):=by unfold yE;rw[D12];unfold P12;rw[zg,zb,zrW _ hq.b1,zb,zrZ _ hq.b0];rfl
def y6(q:Prb)(t:Int):Int:=if t<zbm q.x.bars.els then 3 else if zdL q.x.bars.els<=t then 3 else 0
theorem t33(k:Nat)(q:Prb)(hq:q.fine)(t:Int):D (k+2) 33 [SA (yE q),S1 (I6 t)]=some (S1 (I6 (y6 q t))):=by
 have c1:=t61 k q hq;have c2:=t62 k q hq;unfold yE at c1 c2 ⊢;rw[D33];unfold P33 y6;simp only[c1,c2,zR,zi,xD,zb,zm,Yzo];by_cases h1:t<zbm q.x.bars.els
 .simp only[h1,if_true]
 .by_cases h2:zdL q.x.bars.els<=t<;>simp only[h1,h2,if_true,if_false]
theorem t10(k:Nat)(q:Prb)(ho:q.ok)(h0:zmu q=0)(hq:q.fine)(t:Int):D (k+13) 10 [SA (yE q),S1 (I6 t)]=some (if y6 q t≠0 then .tup [.one (Bo false),.one (Bo false),.one (I6 (y6 q t))] else .tup [.one (Bo (zyu q t)),.one (Bo (vL q t).feet),.one (I6 0)]):=by
 have c1:=t25 k q ho;have c2:=t33 (k+10) q hq t;have c3:=t34 (k+8) q hq t;rw[h0]at c1;unfold yE at c1 c2 c3 ⊢;rw[D10];unfold P10;simp only[c1,c2,zR,z7,zb,zm,c3,zFr];by_cases h:y6 q t=0
 .simp[h]
 .simp[h]
theorem zpa{o:Org}(h0:0<o.divs.els.length)(hr:∀d∈o.divs.els,0<=d.low/\d.low<=d.high/\d.high<=55)(E:Nat)(s:Snd):okN o (wX o.divs.els E s):=by
 have hi:s.dv % o.divs.els.length<o.divs.els.length:=Yzn _ h0;obtain⟨d,hd⟩:∃d,o.divs.els[s.dv % o.divs.els.length]? = some d:=⟨_,Lz5 hi⟩;obtain⟨r0,r1,r2⟩:=hr d (Lz3 hd);have hk:s.key % (d.high-d.low+1).toNat<(d.high-d.low+1).toNat:=Yzn _ (by omega);unfold okN wX;rw[hd]
 dsimp only
 omega
theorem zdF{o:Org}(h0:0<o.divs.els.length)(hr:∀d∈o.divs.els,0<=d.low/\d.low<=d.high/\d.high<=55)(E:Nat):∀(r:List Snd) (acc:List Zh),(∀n∈acc,okN o n)->∀n∈uD o.divs.els E acc r,okN o n
 | [],_,h=>h
 |s::r,acc,h=>by
  unfold uD;split
  .exact zdF h0 hr E r acc h
  .refine zdF h0 hr E r _ fun n hn=>?_;rcases List.mem_append.1 hn with hn|hn
   .exact h n hn
   .rw[Yz6.1 hn];exact zpa h0 hr E s
theorem zj2(rs:List Zm):∀(l:List Boa) (i:Nat),∀d∈vW rs i l,0<=d.low/\d.low<=d.high/\d.high<=55
 | [],_,_,h=>by cases h
 |b::l,i,d,h=>by
  rcases Yya.1 h with rfl|h
  .show 0<=zfM b/\zfM b<=zbi b/\zbi b<=55;have h1:b.low % 12<12:=Yzn _ (by decide);have h2:b.keys % 9<9:=Yzn _ (by decide);unfold zbi zfM;omega
  .exact zj2 rs l (i+1) d h
theorem zxG(p:Pln):∀d∈(zaW p).divs.els,0<=d.low/\d.low<=d.high/\d.high<=55:=by unfold zaW;rw[zN];exact zj2 _ _ _
theorem zrK(p:CPl)(hp:p.ok)(hf:zcb p=true):(zaM p).fine:=by
 obtain⟨h45,hm,_⟩:=zde hf;have h:=zaA h45;have b4:=h.b4;have n8:=h.n8
 have hl:=zbJ (zaW p.pc.org).divs.els (zpU p.pc) p.pc.notes.els [];have e1:(zaM p).x.notes.els=uD (zaW p.pc.org).divs.els (zpU p.pc) [] p.pc.notes.els:=zN _;have e2:(zaM p).x.bars.els.length=p.pc.bars.els.length+1:=by show (0::wN 0 p.pc.bars.els).length=_;rw[Yzh,uJ]
 have c0:=zhh p hp hf;refine⟨by rw[e1];simp only[Yzv]at hl;omega,?_,?_,by omega,by omega⟩
 .rw[e1];exact zdF (o:=zaW p.pc.org) (zbM p.pc.org h.org) (zxG p.pc.org) _ _ _ fun n hn=>by cases hn
 .refine Classical.byContradiction fun hne=>?_;unfold zmu at c0;rw[show zcT (zaM p).o (zaM p).x=0 from zhi p.pc hp.pc h,Yza (by simp),Yzc hne]at c0;exact hne c0
theorem zHi{β:Type}(q:Prb)(K:List DV->Option β):bA 17 (some (SA (yE q))) K=K (yE q):=rfl
theorem u4{β:Type}(a b c:DV)(K:List DS->Option β):bT [none,none,none] (some (.tup [.one a,.one b,.one c])) K=K [.one a,.one b,.one c]:=rfl
theorem zvV(q:Prb):[atD (yE q) 0,atD (yE q) 1,atD (yE q) 2,atD (yE q) 3,atD (yE q) 4,atD (yE q) 5,atD (yE q) 6,atD (yE q) 7,atD (yE q) 8,atD (yE q) 9,atD (yE q) 10,atD (yE q) 11,atD (yE q) 12,atD (yE q) 13,atD (yE q) 14,atD (yE q) 15,atD (yE q) 16]=yE q:=rfl
theorem v8(a:Bool):eqD 0 (Bo a) (Bo a)=some true:=by cases a<;>rfl
theorem t3(k:Nat)(p:CPl)(hp:p.ok)(t:Int):D (k+16) 3 [SA (zi2 p),S1 (I6 t)]=some (S1 (Bo true)):=by
 have kn:=D7 (k+15);have cf:=t8 (k+12) p hp;unfold zi2 at cf ⊢;rw[D3];unfold P3;rw[kn,zR,xI,zb,zm,Yza (by simp),cf,zR,xI,zb,zm];cases hf:zcb p with
 |false=>rfl
 |true=>
  have mk:=t9 (k+6) p hp hf;unfold zi2 at mk;have F:=zrK p hp hf;have c1:=t10 (k+2) (zaM p) (zxE p hf) (zhh p hp hf) F t;have c2:=t11 (k+14) (zaM p) F;have c3:=t12 (k+14) (zaM p) F;have c4:=t13 (k+11) (zaM p) F t;generalize zaM p=q at *;rw[Yza (by simp),mk,zHi];simp only[zvV,c1,c2,c3,c4,zR,zi,xD,zb,zm,Yzo];unfold y6;by_cases h1:t<zbm q.x.bars.els
  .rw[Yzc h1,Yzc (by decide),u4,Yzc h1];rfl
  .rw[Yza h1];by_cases h2:zdL q.x.bars.els<=t
   .rw[Yzc h2,Yzc (by decide),u4,Yza h1,Yzc h2];rfl
   .rw[Yza h2,Yza (by simp),u4,Yza h1,Yza h2,zFr];show (za (zc .eql (I6 0) (I6 0)) fun v19=>_)=_;rw[xO,zb,zm,Yzc (by simp)];show (za (eqD 0 (Bo (zyu q t)) (Bo (zyu q t))) fun q20=>_)=_;rw[v8,zb,Yzc rfl];show (za (eqD 0 (Bo (vL q t).feet) (Bo (vL q t).feet)) fun q20=>_)=_;rw[v8];rfl
end Go.Proofs.Tryz.Kn
end
