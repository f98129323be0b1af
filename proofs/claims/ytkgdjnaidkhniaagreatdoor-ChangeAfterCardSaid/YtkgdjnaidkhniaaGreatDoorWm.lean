/-
  Lemmas. No condition.
-/
import Derived.Test.YtkgdjnaidkhniaaGreatDoorWl
set_option linter.unusedSimpArgs false
set_option linter.unusedVariables false
section
namespace Go.Proofs.Tryz.Kn
open Go Go.CE Go.PE
structure Snd where
 st:Nat
 lng:Nat
 dv:Nat
 key:Nat
structure Snd.ok (s:Snd):Prop where
 h1:s.st<256
 h2:s.lng<256
 h3:s.dv<256
 h4:s.key<256
def zl9(s:Snd):List DV:=[U8 (s.st:Int),U8 (s.lng:Int),U8 (s.dv:Int),U8 (s.key:Int)]
structure Mrk where
 bar:Nat
 bits:Nat->Nat
structure Mrk.ok (m:Mrk):Prop where
 h1:m.bar<256
 h2:∀i,m.bits i<256
def zmd(m:Mrk):List DV:=[U8 (m.bar:Int),U8 (m.bits 0:Int),U8 (m.bits 1:Int),U8 (m.bits 2:Int),U8 (m.bits 3:Int),U8 (m.bits 4:Int)]
def zi3(n:Nat):List DV:=[U8 (n:Int)]
structure PPl where
 org:Pln
 bars:Sl Nat
 notes:Sl Snd
 marks:Sl Mrk
structure PPl.ok (p:PPl):Prop where
 org:p.org.ok
 bl:p.bars.els.length<=9223372036854775807
 nl:p.notes.els.length<=9223372036854775807
 ml:p.marks.els.length<=9223372036854775807
 bars:∀n∈p.bars.els,n<256
 notes:∀s∈p.notes.els,s.ok
 marks:∀m∈p.marks.els,m.ok
def zmc(p:PPl):List DV:=[enL 9 zga p.org.ranks,enL 4 uM p.org.divs,enL 4 zkp p.org.cpls,enL 1 zi3 p.bars,enL 4 zl9 p.notes,enL 6 zmd p.marks]
def zet(p:PPl):Bool:=zeG p.org&&decide (0<p.bars.els.length)&&decide (p.bars.els.length<=4)&&decide (p.notes.els.length<=8)&&decide (p.marks.els.length<=3)
theorem t31(k:Nat)(p:PPl)(hp:p.ok):D (k+2) 31 [SA (zmc p)]=some (S1 (Bo (zet p))):=by
 have cf:=t56 k p.org hp.org;unfold zmb at cf;unfold zmc;rw[D31];unfold P31 zet;simp only[cf,zR,zm,zg,zW,wV,zb];cases zeG p.org with
 |false=>rfl
 |true=>
  by_cases h1:0<p.bars.els.length
  .by_cases h2:p.bars.els.length<=4
   .by_cases h3:p.notes.els.length<=8
    .have e1:(0:Int)<(p.bars.els.length:Int):=by omega
     have e2:(p.bars.els.length:Int)<=4:=by omega
     have e3:(p.notes.els.length:Int)<=8:=by omega
     by_cases h4:p.marks.els.length<=3
     .have e4:(p.marks.els.length:Int)<=3:=by omega
      simp[h1,h2,h3,h4,e1,e2,e3,e4]
     .have e4:¬(p.marks.els.length:Int)<=3:=by omega
      simp[h1,h2,h3,h4,e1,e2,e3,e4]
    .have e1:(0:Int)<(p.bars.els.length:Int):=by omega
     have e2:(p.bars.els.length:Int)<=4:=by omega
     have e3:¬(p.notes.els.length:Int)<=8:=by omega
     simp[h1,h2,h3,e1,e2,e3]
   .have e1:(0:Int)<(p.bars.els.length:Int):=by omega
    have e2:¬(p.bars.els.length:Int)<=4:=by omega
    simp[h1,h2,e1,e2]
  .have e1:¬(0:Int)<(p.bars.els.length:Int):=by omega
   simp[h1,e1]
structure Stg where
 bar:Int
 reg:Reg
def zaC(s:Stg):List DV:=[I6 s.bar,enL 1 enU s.reg.stops,U64 s.reg.cpls,U64 s.reg.off]
structure Pce where
 bars:Sl Int
 notes:Sl Zh
 sets:Sl Stg
def zko(x:Pce):List DV:=[enL 1 enW x.bars,enL 4 x7 x.notes,enL 4 zaC x.sets]
def wN:Int->List Nat->List Int
 |_,[]=>[]
 |t,n::l=>(t+1+((n % 6:Nat):Int))::wN (t+1+((n % 6:Nat):Int)) l
theorem uJ:∀(l:List Nat) (t:Int),(wN t l).length=l.length
 | [],_=>rfl
 |n::l,t=>by rw[wN,Yzh,Yzh,uJ l]
theorem zor:∀(l:List Nat) (t:Int) (x:Int),x∈wN t l->t<x/\x<=t+6*(l.length:Int)
 | [],_,_,h=>by cases h
 |n::l,t,x,h=>by
  have hn:n % 6<6:=Yzn _ (by decide);rcases Yya.1 h with rfl|h
  .rw[Yzh];omega
  .have:=zor l _ x h;rw[Yzh];omega
def zdK(t:Int):List Int->Int
 | []=>t
 |x::l=>zdK x l
theorem zfQ:∀(l:List Int) (t:Int),(t::l)[l.length]? = some (zdK t l)
 | [],_=>rfl
 |x::l,t=>by rw[Yzh,Yzt];exact zfQ l x
theorem zj9:∀(l:List Int) (t:Int),zdK t l=t\/zdK t l∈l
 | [],_=>.inl rfl
 |x::l,t=>by
  rcases zj9 l x with h|h
  .exact .inr (by rw[zdK,h];exact Yzf ..)
  .exact .inr (Yze _ h)
theorem zrr{α:Type}{f:α->List DV}{v:Sl α}{i:Nat}{x:α}(h:v.els[i]? = some x):xY (ocL f v) i=some (f x):=by
 cases v with
 |none=>cases h
 |some l=>rw[zuq,zcY,show l[i]? = some x from h];rfl
theorem znj{α:Type}{f:α->List DV}{v:Sl α}{k:IntKind}{i:Nat}(h:i<v.els.length):zO (ocL f v) (.int k (i:Int))=some i:=by
 cases v with
 |none=>cases h
 |some l=>exact zcU (by rw[Yzm];exact h)
theorem zDM(l:Sl Nat)(hl:l.els.length<=1000)(hb:∀n∈l.els,n<256)(m1 m2:OC):∀(r:List Nat) (i:Nat) (acc:List Int) (t:Int),l.els.drop i=r->acc.length=i+1->acc[i]? = some t->0<=t->t<=6*(i:Int)->
  zS (zto (I6 (l.els.length:Int)) (enL 1 zi3 l)) [I6 (i:Int)] [ocL enW (some acc),m1,m2]=some (.exit 0,[],[ocL enW (some (acc++wN t r)),m1,m2]):=by
 intro r
 induction r with
 |nil=>intro i acc t h ha ht h0 h1;refine zr ?_;simp only[zto,zA,yU,uC,zi,zb,wq (z6 h),zm,wN,YzP];rfl
 |cons n r ih=>
  intro i acc t h ha ht h0 h1;have hlt:=yn h;have hn:=hb n (Lz3 (ye h));have hm:n % 6<6:=Yzn _ (by decide);have ea:zc .add (I6 (i:Int)) (I6 1)=some (I6 ((i+1:Nat):Int)):=yG;have e1:zO (ocL enW (some acc)) (I6 (i:Int))=some i:=znj (by show i<acc.length;omega);have e2:xY (ocL enW (some acc)) i=some (enW t):=zrr ht;have e3:zc .add (I6 t) (I6 1)=some (I6 (t+1)):=yG;have e4:zc .rem (U8 (n:Int)) (U8 6)=some (U8 ((n % 6:Nat):Int)):=zgG (b:=6) (by decide);have e5:zx .i64 (U8 ((n % 6:Nat):Int))=some (I6 ((n % 6:Nat):Int)):=vN;have e6:zc .add (I6 (t+1)) (I6 ((n % 6:Nat):Int))=some (I6 (t+1+((n % 6:Nat):Int))):=yG;have ef:fits 8 (acc.length+1)=true:=xf (by decide) (by omega);have body:zto (I6 (l.els.length:Int)) (enL 1 zi3 l) [I6 (i:Int)] [ocL enW (some acc),m1,m2]=some (.normal,[I6 ((i+1:Nat):Int)],[ocL enW (some (acc++[t+1+((n % 6:Nat):Int)])),m1,m2]):=by have:=wj (f:=enW) (some acc) (t+1+((n % 6:Nat):Int));rw[yW]at this;rw[<-this];simp only[zto,zA,yU,uC,zi,zb,zbN hlt,zm,if_true,zX h,zi3,e1,e2,enW,y4,e3,e4,e5,e6,xQ,ef,xM,ea,xg,yW]
  rw[zE body,ih (i+1) (acc++[t+1+((n % 6:Nat):Int)]) (t+1+((n % 6:Nat):Int)) (zJ h) (by rw[Yzx,ha];rfl) (by rw[Lz8 (by omega),ha,Nat.sub_self];rfl) (by omega) (by omega)];rw[wN,YzD];rfl
end Go.Proofs.Tryz.Kn
end
section
namespace Go.Proofs.Tryz.Kn
open Go Go.CE Go.PE
def ovl(m n:Zh):Bool:=decide (m.div=n.div)&&decide (m.key=n.key)&&decide (m.st<n.fin)&&decide (n.st<m.fin)
theorem t60(k:Nat)(m n:Zh):D (k+1) 60 [SA (x7 m),SA (x7 n)]=some (S1 (Bo (ovl m n))):=by
 unfold x7;rw[D60];unfold P60 ovl;simp only[xO,zi,zb,zm];by_cases h1:m.div=n.div
 .by_cases h2:m.key=n.key
  .by_cases h3:m.st<n.fin<;>simp[h1,h2,h3]
  .simp[h1,h2]
 .simp[h1]
theorem t59(k:Nat)(m n:Zh):D (k+2) 59 [SA (x7 m),S1 (.fp (x7 n) 0)]=some (S1 (Bo (ovl m n))):=by have c:=t60 k m n;unfold x7 at c ⊢;rw[D59];unfold P59;rw[c];rfl
theorem zDN(k:Nat)(f:DV)(p:Zh->Bool)(l:Sl Zh)(hl:l.els.length<=9223372036854775806)(hf:∀x∈l.els,zjr (D k) f [SA (x7 x)]=some (S1 (Bo (p x)))):∀(r:List Zh) (i:Nat),l.els.drop i=r->
  zS (zjo (D k) (I6 (l.els.length:Int)) (enL 4 x7 l) f) [I6 (i:Int)] []=some (zv8 (zpc p r i)):=by
 intro r
 induction r with
 |nil=>intro i h;refine zr ?_;simp only[zjo,zA,zi,zb,wq (z6 h),zm];rfl
 |cons x r ih=>
  intro i h;have hlt:=yn h;have ea:zc .add (I6 (i:Int)) (I6 1)=some (I6 ((i+1:Nat):Int)):=yG;have cx:=hf x (Lz3 (ye h));have body:zjo (D k) (I6 (l.els.length:Int)) (enL 4 x7 l) f [I6 (i:Int)] []=some (if p x then(.ret,[I6 (i:Int)],[]) else(.normal,[I6 ((i+1:Nat):Int)],[])):=by have en:SA [atD (x7 x) 0,atD (x7 x) 1,atD (x7 x) 2,atD (x7 x) 3]=SA (x7 x):=rfl;simp only[zjo,zA,zi,zb,zbN hlt,zm,if_true,zX h,en,cx,zR,ea];cases p x<;>rfl
  unfold zpc;cases hx:p x with
  |true=>rw[hx,Yzc rfl]at body;rw[zz body,Yzc rfl];rfl
  |false=>rw[hx,Yza (by decide)]at body;rw[zE body,ih (i+1) (zJ h),Yza (by decide)]
theorem t58(k:Nat)(f:DV)(p:Zh->Bool)(l:Sl Zh)(hl:l.els.length<=9223372036854775806)(hf:∀x∈l.els,zjr (D k) f [SA (x7 x)]=some (S1 (Bo (p x)))):D (k+2) 58 [S1 (enL 4 x7 l),S1 f]=some (S1 (Bo (l.els.any p))):=by
 have e:D (k+1) 84 [S1 (enL 4 x7 l),S1 f]=some (S1 (I6 (match zpc p l.els 0 with|some i=>(i:Int)|none=>-1))):=by have:=zDN k f p l hl hf l.els 0 rfl;rw[show (I6 ((0:Nat):Int):DV)=I6 0 from rfl]at this;rw[D84];unfold P84;rw[zg,zb,this];cases zpc p l.els 0<;>rfl
 rw[D58];unfold P58;rw[e,zR,xD,zb,<-zfG p l.els 0];cases zpc p l.els 0 with
 |none=>rfl
 |some i=>have:(0:Int)<=(i:Int):=Int.natCast_nonneg i;simp[this]
def wX(ds:List Zo)(E:Nat)(s:Snd):Zh:=match ds[s.dv % ds.length]? with
 |none=>⟨0,0,0,0⟩
 |some d=>⟨((s.st % E:Nat):Int),min (E:Int) (((s.st % E:Nat):Int)+1+((s.lng % 8:Nat):Int)),((s.dv % ds.length:Nat):Int),d.low+((s.key % (d.high-d.low+1).toNat:Nat):Int)⟩
def uD(ds:List Zo)(E:Nat):List Zh->List Snd->List Zh
 |acc,[]=>acc
 |acc,s::r=>if acc.any (fun m=>ovl m (wX ds E s)) then uD ds E acc r else uD ds E (acc++[wX ds E s]) r
def zAe(d:Zo):Prop:=0<=d.low/\d.low<=d.high/\d.high<=1000
theorem zhg(rs:List Zm):∀(l:List Boa) (i:Nat),∀d∈vW rs i l,zAe d
 | [],_,_,h=>by cases h
 |b::l,i,d,h=>by
  rcases Yya.1 h with rfl|h
  .show 0<=zfM b/\zfM b<=zbi b/\zbi b<=1000;have h1:b.low % 12<12:=Yzn _ (by decide);have h2:b.keys % 9<9:=Yzn _ (by decide);unfold zbi zfM;omega
  .exact zhg rs l (i+1) d h
theorem znB(p:Pln):∀d∈(zaW p).divs.els,zAe d:=by unfold zaW;rw[zN];exact zhg _ _ _
theorem zA3(k:Nat)(o:Org)(h1:0<o.divs.els.length)(h2:o.divs.els.length<=1000)(hr:∀d∈o.divs.els,zAe d)(E:Nat)(hE:0<E)(hE2:E<=1000)(l:Sl Snd)(hl:l.els.length<=1000)(hs:∀s∈l.els,s.ok)(m0 m2:OC):∀(r:List Snd) (i:Nat) (acc:List Zh),l.els.drop i=r->acc.length<=i->
  zS (zkR (D (k+4)) (I6 (l.els.length:Int)) (enL 4 zl9 l) (enO o) (enW (E:Int))) [I6 (i:Int)] [m0,ocL x7 (grow acc),m2]=some (.exit 2,[],[m0,ocL x7 (grow (uD o.divs.els E acc r)),m2]):=by
 intro r
 induction r with
 |nil=>intro i acc h ha;refine zr ?_;simp only[zkR,zA,yU,uC,zi,zb,wq (z6 h),zm,uD];rfl
 |cons s r ih=>
  intro i acc h ha;have hlt:=yn h;have ok:=hs s (Lz3 (ye h));obtain⟨d,hd⟩:∃d,o.divs.els[s.dv % o.divs.els.length]? = some d:=⟨_,Lz5 (Yzn _ h1)⟩;obtain⟨r0,r1,r2⟩:=hr d (Lz3 hd);obtain⟨s1,s2,s3,s4⟩:=ok;obtain⟨W,hW,hW0⟩:∃W:Nat,d.high-d.low+1=(W:Int)/\0<W:=⟨(d.high-d.low+1).toNat,by omega,by omega⟩;have hWm:s.key % W<W:=Yzn _ hW0;have hEm:s.st % E<E:=Yzn _ hE;have hL:s.lng % 8<8:=Yzn _ (by decide);have ea:zc .add (I6 (i:Int)) (I6 1)=some (I6 ((i+1:Nat):Int)):=yG;have e1:zx .i64 (U8 (s.dv:Int))=some (I6 (s.dv:Int)):=vN;have e2:zc .rem (I6 (s.dv:Int)) (I6 (o.divs.els.length:Int))=some (I6 ((s.dv % o.divs.els.length:Nat):Int)):=zgG (by omega);have e3:yb 5 (enL 5 enV o.divs) (I6 ((s.dv % o.divs.els.length:Nat):Int))=some (enV d):=by rw[xC,hd];rfl
  have e4:zx .i64 (U8 (s.st:Int))=some (I6 (s.st:Int)):=vN;have e5:zc .rem (I6 (s.st:Int)) (I6 (E:Int))=some (I6 ((s.st % E:Nat):Int)):=zgG (by omega);have e6:zx .i64 (U8 (s.key:Int))=some (I6 (s.key:Int)):=vN;have e7:zc .sub (I6 d.high) (I6 d.low)=some (I6 (d.high-d.low)):=zci;have e8:zc .add (I6 (d.high-d.low)) (I6 1)=some (I6 (W:Int)):=by rw[<-hW];exact yG
  have e9:zc .rem (I6 (s.key:Int)) (I6 (W:Int))=some (I6 ((s.key % W:Nat):Int)):=zgG (by omega);have e10:zc .add (I6 d.low) (I6 ((s.key % W:Nat):Int))=some (I6 (d.low+((s.key % W:Nat):Int))):=yG;have e11:zc .add (I6 ((s.st % E:Nat):Int)) (I6 1)=some (I6 (((s.st % E:Nat):Int)+1)):=yG;have e12:zc .rem (U8 (s.lng:Int)) (U8 8)=some (U8 ((s.lng % 8:Nat):Int)):=zgG (b:=8) (by decide);have e13:zx .i64 (U8 ((s.lng % 8:Nat):Int))=some (I6 ((s.lng % 8:Nat):Int)):=vN;have e14:zc .add (I6 (((s.st % E:Nat):Int)+1)) (I6 ((s.lng % 8:Nat):Int))=some (I6 (((s.st % E:Nat):Int)+1+((s.lng % 8:Nat):Int))):=yG;have nt:x7 (wX o.divs.els E s)=[I6 ((s.st % E:Nat):Int),I6 (min (E:Int) (((s.st % E:Nat):Int)+1+((s.lng % 8:Nat):Int))),I6 ((s.dv % o.divs.els.length:Nat):Int),I6 (d.low+((s.key % W:Nat):Int))]:=by
   have hWn:(d.high-d.low+1).toNat=W:=by omega
   unfold wX;rw[hd];show x7 ⟨_,_,_,d.low+((s.key % (d.high-d.low+1).toNat:Nat):Int)⟩=_;rw[hWn];rfl
  have ha2:(grow acc).els.length<=9223372036854775806:=by rw[zN];omega
  have cl:=t58 (k+2) (.fn 59 [x7 (wX o.divs.els E s)]) (fun m=>ovl m (wX o.divs.els E s)) (grow acc) ha2 (fun m _=>(zwp ..).trans (t59 k m (wX o.divs.els E s)));rw[zN,nt]at cl;have ef:fits 32 ((grow acc).els.length+1)=true:=xf (by decide) (by rw[zN];omega);have body:zkR (D (k+4)) (I6 (l.els.length:Int)) (enL 4 zl9 l) (enO o) (enW (E:Int)) [I6 (i:Int)] [m0,ocL x7 (grow acc),m2]=some (.normal,[I6 ((i+1:Nat):Int)],[m0,ocL x7 (grow (if acc.any (fun m=>ovl m (wX o.divs.els E s)) then acc else acc++[wX o.divs.els E s])),m2]):=by
   simp only[zkR,zA,yU,uC,zi,zb,zbN hlt,zm,if_true,zX h,zl9,enO,enW,enV,y4,ww,zg,e1,e2,e3,e4,e5,e6,e7,e8,e9,e10,e11,e12,e13,e14,zxi,zbf,cl,zBQ,xI,xQ,ef,xM,ea,xg];cases acc.any (fun m=>ovl m (wX o.divs.els E s)) with
   |true=>rfl
   |false=>simp only[Bool.not_false,if_true,Yzp,if_false];rw[<-nt,wj,xx]
  rw[zE body,uD];by_cases hc:acc.any (fun m=>ovl m (wX o.divs.els E s))=true
  .rw[Yzc hc,Yzc hc,ih (i+1) acc (zJ h) (by omega)]
  .rw[Yza hc,Yza hc,ih (i+1) _ (zJ h) (by rw[Yzx];exact Nat.succ_le_succ ha)]
def zeD(o:Org)(nb:Nat):Int->List Stg->List Mrk->List Stg
 |_,acc,[]=>acc
 |last,acc,m::r=>if last<((m.bar % nb:Nat):Int) then zeD o nb ((m.bar % nb:Nat):Int) (acc++[⟨((m.bar % nb:Nat):Int),wo o m.bits⟩]) r else zeD o nb last acc r
theorem zA0(k:Nat)(o:Org)(hd:o.divs.els.length<=60)(hs:∀d∈o.divs.els,d.stops.els.length<=60)(hc:o.cpls.els.length<=60)(bs:Sl Nat)(hb0:0<bs.els.length)(hb:bs.els.length<=1000)(l:Sl Mrk)(hl:l.els.length<=1000)(hm:∀m∈l.els,m.ok)(m0 m1:OC):
  ∀(r:List Mrk) (i:Nat) (last:Int) (acc:List Stg),l.els.drop i=r->acc.length<=i->
  zS (zkQ (D (k+1)) (I6 (l.els.length:Int)) (enL 6 zmd l) (enL 1 zi3 bs) (enO o)) [I6 (i:Int),I6 last] [m0,m1,ocL zaC (grow acc)]=some (.exit 4,[],[m0,m1,ocL zaC (grow (zeD o bs.els.length last acc r))]):=by
 intro r
 induction r with
 |nil=>intro i last acc h ha;refine zr ?_;simp only[zkQ,zA,yU,uC,zi,zb,wq (z6 h),zm,zeD];rfl
 |cons m r ih=>
  intro i last acc h ha;have hlt:=yn h;obtain⟨k1,k2⟩:=hm m (Lz3 (ye h));have ea:zc .add (I6 (i:Int)) (I6 1)=some (I6 ((i+1:Nat):Int)):=yG;have e1:zx .i64 (U8 (m.bar:Int))=some (I6 (m.bar:Int)):=vN;have e2:zc .rem (I6 (m.bar:Int)) (I6 (bs.els.length:Int))=some (I6 ((m.bar % bs.els.length:Nat):Int)):=zgG (by omega);have dr:=t14 k o m.bits k2 hd hs hc;unfold enB enO at dr;have ef:fits 48 ((grow acc).els.length+1)=true:=xf (by decide) (by rw[zN];omega);have body:zkQ (D (k+1)) (I6 (l.els.length:Int)) (enL 6 zmd l) (enL 1 zi3 bs) (enO o) [I6 (i:Int),I6 last] [m0,m1,ocL zaC (grow acc)]=some (if last<((m.bar % bs.els.length:Nat):Int) then(.normal,[I6 ((i+1:Nat):Int),I6 ((m.bar % bs.els.length:Nat):Int)],[m0,m1,ocL zaC (grow (acc++[⟨((m.bar % bs.els.length:Nat):Int),wo o m.bits⟩]))]) else(.normal,[I6 ((i+1:Nat):Int),I6 last],[m0,m1,ocL zaC (grow acc)])):=by
   rw[xx,<-wj (f:=zaC)];simp only[zkQ,zA,yJ,yU,uC,zi,zW,zb,zbN hlt,zm,if_true,zX h,zmd,enO,y4,ww,zg,e1,e2,dr,ztb,xQ,ef,xM,ea,xg,Yzo];by_cases hg:last<((m.bar % bs.els.length:Nat):Int)
   .simp only[hg,if_true];rfl
   .simp only[hg,if_false]
  by_cases hg:last<((m.bar % bs.els.length:Nat):Int)
  .rw[Yzc hg]at body;rw[zE body,ih (i+1) _ _ (zJ h) (by rw[Yzx];exact Nat.succ_le_succ ha),zeD,Yzc hg]
  .rw[Yza hg]at body;rw[zE body,ih (i+1) _ _ (zJ h) (by omega),zeD,Yza hg]
def zpU(p:PPl):Nat:=(zdK 0 (wN 0 p.bars.els)).toNat
def zuI(p:PPl):Pce:=⟨some (0::wN 0 p.bars.els),grow (uD (zaW p.org).divs.els (zpU p) [] p.notes.els),grow (zeD (zaW p.org) p.bars.els.length (-1) [] p.marks.els)⟩
structure Zu (p:PPl):Prop where
 org:zeG p.org=true
 b0:0<p.bars.els.length
 b4:p.bars.els.length<=4
 n8:p.notes.els.length<=8
 m3:p.marks.els.length<=3
theorem zaA{p:PPl}(h:zet p=true):Zu p:=by unfold zet at h;simp only[LzC,Yzo]at h;exact⟨h.1.1.1.1,h.1.1.1.2,h.1.1.2,h.1.2,h.2⟩
theorem zbM(p:Pln)(hf:zeG p=true):0<(zaW p).divs.els.length:=by obtain⟨f1,f2,f3,f4,f5,f6⟩:=q8 hf;unfold zaW;rw[zN,vA];omega
theorem zn9(p:PPl)(h:Zu p):(zpU p:Int)=zdK 0 (wN 0 p.bars.els)/\0<zpU p/\zpU p<=24:=by
 have h4:=h.b4;have h0:=h.b0;have:∀x∈wN 0 p.bars.els,0<x/\x<=24:=fun x hx=>by have:=zor _ _ x hx;omega
 have hl:zdK 0 (wN 0 p.bars.els)∈wN 0 p.bars.els:=by
  cases hb:wN 0 p.bars.els with
  |nil=>have:=uJ p.bars.els 0;rw[hb]at this;simp at this;omega
  |cons x l=>
   show zdK x l∈_;rcases zj9 l x with h|h
   .rw[h];exact Yzf ..
   .exact Yze _ h
 have:=this _ hl;unfold zpU;omega
theorem zyR{β:Type}(o:Org)(K:List DV->Option β):bA 4 (some (SA (enO o))) K=K (enO o):=rfl
theorem t32(k:Nat)(p:PPl)(hp:p.ok)(hf:zet p=true):D (k+8) 32 [SA (zmc p)]=some (.tup [.agg (enO (zaW p.org)),.agg (zko (zuI p))]):=by
 have F:=zaA hf;obtain⟨E1,E2,E3⟩:=zn9 p F;obtain⟨s1,s2,s3⟩:=kO p.org F.org;have mk:=t57 k p.org hp.org F.org;unfold zmb at mk;have b4:=F.b4;have n8:=F.n8;have m3:=F.m3;have b0:=F.b0
 have l4:=zDM p.bars (by omega) hp.bars none none p.bars.els 0 [0] 0 rfl rfl rfl (by decide) (by decide);have l22:=zA3 (k+3) (zaW p.org) (zbM p.org F.org) (by omega) (znB p.org) (zpU p) E2 (by omega) p.notes (by omega) hp.notes (ocL enW (some (0::wN 0 p.bars.els))) none p.notes.els 0 [] rfl (LzB _);have l50:=zA0 (k+6) (zaW p.org) (by omega) (fun d hd=>Yzl (s2 d hd) (by decide)) (by omega) p.bars b0 (by omega) p.marks (by omega) hp.marks (ocL enW (some (0::wN 0 p.bars.els))) (ocL x7 (grow (uD (zaW p.org).divs.els (zpU p) [] p.notes.els))) p.marks.els 0 (-1) [] rfl (LzB _);rw[show ocL x7 (grow ([]:List Zh))=none from rfl]at l22;rw[show ocL zaC (grow ([]:List Stg))=none from rfl]at l50;rw[show ocL enW (some [(0:Int)])=some [[I6 0]] from rfl]at l4;rw[show (I6 ((0:Nat):Int):DV)=I6 0 from rfl]at l4 l22 l50;have bl:(wN 0 p.bars.els).length=p.bars.els.length:=uJ _ _;have sb:zc .sub (I6 (Int.ofNat ((wN 0 p.bars.els).length+1))) (I6 1)=some (I6 (p.bars.els.length:Int)):=by rw[bl];have h:zc .sub (I6 ((p.bars.els.length+1:Nat):Int)) (I6 1)=some (I6 (((p.bars.els.length+1:Nat):Int)-1)):=zci;exact h.trans (by rw[show ((p.bars.els.length+1:Nat):Int)-1=(p.bars.els.length:Int) by omega])
 have i1:zO (ocL enW (some (0::wN 0 p.bars.els))) (I6 (p.bars.els.length:Int))=some p.bars.els.length:=znj (by rw[yW,Yzh,bl];omega);have i2:xY (ocL enW (some (0::wN 0 p.bars.els))) p.bars.els.length=some (enW (zpU p:Int)):=by refine zrr ?_;rw[yW,E1,<-bl];exact zfQ _ _
 unfold zmc;rw[D32];unfold P32;rw[mk,zyR,zg,zb,l4];simp only[yi,Yzq,Yzb,yU,uC,List.cons_append,YzM,xQ,yW,Yzh,sb,zb,i1,i2,zg,l22,l50,zbf];rfl
end Go.Proofs.Tryz.Kn
end
section
namespace Go.Proofs.Tryz.Kn
open Go Go.CE Go.PE
def zdt:Option Int->List Int->Int
 |_,[]=>0
 |p,t::r=>if t<0 then 3 else if 100000<t then 3 else if leO t p then 6 else zdt (some t) r
def zaJ(l:List Int):Int:=if l.length<2 then 5 else if 201<l.length then 4 else zdt none l
def zls(l:List Int):Nat->Option Int
 |0=>none
 |j+1=>l[j]?
theorem zDJ(l:Sl Int)(hl:l.els.length<=1000):∀(r:List Int) (i:Nat),l.els.drop i=r->
  zS (ztk (I6 (l.els.length:Int)) (enL 1 enW l)) [I6 (i:Int)] []=some (zhz 1 (zdt (zls l.els i) r)):=by
 intro r
 induction r with
 |nil=>intro i h;refine zr ?_;simp only[ztk,zA,zi,zb,wq (z6 h),zm,zdt];rfl
 |cons t r ih=>
  intro i h;have hlt:=yn h;have ea:zc .add (I6 (i:Int)) (I6 1)=some (I6 ((i+1:Nat):Int)):=yG;have hp:zls l.els (i+1)=some t:=ye h;have body:ztk (I6 (l.els.length:Int)) (enL 1 enW l) [I6 (i:Int)] []=some (if t<0 then(.ret,[I6 3],[]) else if 100000<t then(.ret,[I6 3],[]) else if leO t (zls l.els i) then(.ret,[I6 6],[]) else(.normal,[I6 ((i+1:Nat):Int)],[])):=by
   simp only[ztk,zA,zi,zb,zbN hlt,zm,if_true,zX h,enW,y4,zW,Yzo];by_cases h1:t<0
   .simp only[h1,if_true]
   by_cases h2:100000<t
   .simp only[h1,h2,if_true,if_false]
   simp only[h1,h2,if_false];cases i with
   |zero=>
    have:¬(0:Int)<((0:Nat):Int):=by decide
    simp only[this,if_false,ea,zb,zls,leO,Yzp]
   |succ j=>
    have hj:(0:Int)<((j+1:Nat):Int):=by omega
    have sb:zc .sub (I6 ((j+1:Nat):Int)) (I6 1)=some (I6 (j:Int)):=by have h:zc .sub (I6 ((j+1:Nat):Int)) (I6 1)=some (I6 (((j+1:Nat):Int)-1)):=zci;exact h.trans (by rw[show ((j+1:Nat):Int)-1=(j:Int) by omega])
    obtain⟨y,hy⟩:∃y,l.els[j]? = some y:=⟨_,Lz5 (by omega)⟩;have ix:yb 1 (enL 1 enW l) (I6 (j:Int))=some (enW y):=by rw[xC,hy];rfl
    simp only[hj,if_true,sb,zb,ix,enW,y4,wV,zm,zls,hy,leO,ea];by_cases hc:t<=y<;>simp[hc]
  unfold zdt;by_cases h1:t<0
  .rw[Yzc h1]at body ⊢;rw[zz body];rfl
  rw[Yza h1]at body ⊢;by_cases h2:100000<t
  .rw[Yzc h2]at body ⊢;rw[zz body];rfl
  rw[Yza h2]at body ⊢;by_cases h3:leO t (zls l.els i)=true
  .rw[Yzc h3]at body ⊢;rw[zz body];rfl
  .rw[Yza h3]at body ⊢;rw[zE body,ih (i+1) (zJ h),hp]
theorem t45(k:Nat)(l:Sl Int)(hl:l.els.length<=9223372036854775807):D (k+1) 45 [S1 (enL 1 enW l)]=some (S1 (I6 (zaJ l.els))):=by
 rw[D45];unfold P45 zaJ;simp only[zg,zb,zi,zW,zm,Yzo];by_cases h1:l.els.length<2
 .have:(l.els.length:Int)<2:=by omega
  simp only[h1,this,if_true]
 have h1':¬(l.els.length:Int)<2:=by omega
 by_cases h2:201<l.els.length
 .have:(201:Int)<(l.els.length:Int):=by omega
  simp only[h1,h1',h2,this,if_true,if_false]
 have h2':¬(201:Int)<(l.els.length:Int):=by omega
 simp only[h1,h1',h2,h2',if_false];have:=zDJ l (by omega) l.els 0 rfl;rw[show (I6 ((0:Nat):Int):DV)=I6 0 from rfl]at this;rw[this,show zls l.els 0=none from rfl];unfold zhz;by_cases he:zdt none l.els=0
 .simp[he]
 .simp[he]
theorem zsQ(l:Sl Zo):ztA 5 ztB (enL 5 enV l)=some (l.els.map keyOf):=by
 cases l with
 |none=>rfl
 |some l=>
  show zpV ztB (l.map enV)=_;rw[yW]
  induction l with
  |nil=>rfl
  |cons d l ih=>rw[Yzw];unfold zpV;rw[ih];rfl
theorem zmk(l:Sl Zh):ztA 4 zgL (enL 4 x7 l)=some l.els:=by
 cases l with
 |none=>rfl
 |some l=>exact zhA l
def zbm(l:List Int):Int:=(l[0]?).getD 0
def zdL(l:List Int):Int:=(l[l.length-1]?).getD 0
theorem zsR(l:Sl Int)(h0:0<l.els.length)(h1:l.els.length<=1000000):zml (enL 1 enW l)=some (zbm l.els,zdL l.els):=by
 cases l with
 |none=>cases h0
 |some l=>have h0:0<l.length:=h0;have h1:l.length<=1000000:=h1;obtain⟨a,ha⟩:∃a,l[0]? = some a:=⟨_,Lz5 h0⟩;obtain⟨b,hb⟩:∃b,l[l.length-1]? = some b:=⟨_,Lz5 (by omega)⟩;show (bif Nat.beq 1 1&&Nat.ble (l.map enW).length 1000000 then(match ztC (l.map enW)[0]?,ztC (l.map enW)[(l.map enW).length-1]? with|some a,some b=>some (a,b)|_,_=>none) else none)=_;rw[Yzm,Yzg h1,Lz6,Lz6,ha,hb];unfold zbm zdL;rw[yW,ha,hb];rfl
def zbK(o:Org)(x:Pce):Int:=if 1000<x.notes.els.length then 4 else zaS (o.divs.els.map keyOf) (zbm x.bars.els) (zdL x.bars.els) [] x.notes.els
theorem t46(k:Nat)(o:Org)(x:Pce)(h0:0<x.bars.els.length)(h1:x.bars.els.length<=1000000):D k 46 [SA (enO o),SA (zko x)]=some (S1 (I6 (zbK o x))):=
 zdn ((zHD _).trans (zAL (zsQ o.divs) (zmk x.notes) (zsR x.bars h0 h1)))
def gtO(a:Int):Option Int->Bool
 |some t=>decide (a<t)
 |none=>false
def j9(o:Org)(nb:Int):Option Int->List Stg->Int
 |_,[]=>0
 |p,s::r=>if s.bar<0 then 3 else if nb-1<=s.bar then 3 else if p=some s.bar then 9 else if gtO s.bar p then 6 else if wI o s.reg≠0 then wI o s.reg else j9 o nb (some s.bar) r
def zh8(l:List Stg):Nat->Option Int
 |0=>none
 |j+1=>(l[j]?).map Stg.bar
theorem zA6(k:Nat)(o:Org)(ho:o.ok)(x:Pce)(hb:x.bars.els.length<=1000000)(hl:x.sets.els.length<=1000):∀(r:List Stg) (i:Nat),x.sets.els.drop i=r->
  zS (zkS (D (k+10)) (I6 (x.sets.els.length:Int)) (enL 4 zaC x.sets) (enL 1 enW x.bars) (St o.name) (enL 6 enR o.ranks) (enL 5 enV o.divs) (enL 5 enC o.cpls)) [I6 (i:Int)] []=some (zhz 0 (j9 o (x.bars.els.length:Int) (zh8 x.sets.els i) r)):=by
 intro r
 induction r with
 |nil=>intro i h;refine zr ?_;simp only[zkS,zA,zi,zb,wq (z6 h),zm,j9];rfl
 |cons s r ih=>
  intro i h;have hlt:=yn h;have ea:zc .add (I6 (i:Int)) (I6 1)=some (I6 ((i+1:Nat):Int)):=yG;have hp:zh8 x.sets.els (i+1)=some s.bar:=by show (x.sets.els[i]?).map Stg.bar=_;rw[ye h];rfl
  have rc:=t24 k o ho s.reg;unfold enO zY at rc;have e1:zc .sub (I6 (x.bars.els.length:Int)) (I6 1)=some (I6 ((x.bars.els.length:Int)-1)):=zci;have body:zkS (D (k+10)) (I6 (x.sets.els.length:Int)) (enL 4 zaC x.sets) (enL 1 enW x.bars) (St o.name) (enL 6 enR o.ranks) (enL 5 enV o.divs) (enL 5 enC o.cpls) [I6 (i:Int)] []=some (if s.bar<0 then(.ret,[I6 3],[]) else if (x.bars.els.length:Int)-1<=s.bar then(.ret,[I6 3],[]) else if zh8 x.sets.els i=some s.bar then(.ret,[I6 9],[]) else if gtO s.bar (zh8 x.sets.els i) then(.ret,[I6 6],[]) else if wI o s.reg≠0 then(.ret,[I6 (wI o s.reg)],[]) else(.normal,[I6 ((i+1:Nat):Int)],[])):=by
   simp only[zkS,zA,zi,zb,zbN hlt,zm,if_true,zX h,zaC,y4,ww,zg,e1,xD,Yzo];by_cases h1:s.bar<0
   .simp only[h1,if_true]
   by_cases h2:(x.bars.els.length:Int)-1<=s.bar
   .simp only[h1,h2,if_true,if_false]
   simp only[h1,h2,if_false,zW,zb,zm,Yzo];cases i with
   |zero=>
    have:¬(0:Int)<((0:Nat):Int):=by decide
    simp only[this,if_false,rc,zR,z7,zb,zm,ea,zh8,gtO,Yzp];by_cases h5:wI o s.reg=0<;>simp[h5]
   |succ j=>
    have hj:(0:Int)<((j+1:Nat):Int):=by omega
    have sb:zc .sub (I6 ((j+1:Nat):Int)) (I6 1)=some (I6 (j:Int)):=by have h:zc .sub (I6 ((j+1:Nat):Int)) (I6 1)=some (I6 (((j+1:Nat):Int)-1)):=zci;exact h.trans (by rw[show ((j+1:Nat):Int)-1=(j:Int) by omega])
    obtain⟨y,hy⟩:∃y,x.sets.els[j]? = some y:=⟨_,Lz5 (by omega)⟩;have ix:yb 4 (enL 4 zaC x.sets) (I6 (j:Int))=some (zaC y):=by rw[xC,hy];rfl
    simp only[hj,if_true,sb,zb,ix,zaC,y4,xO,zi,zm,zh8,hy,YzG,gtO,rc,zR,z7,ea];by_cases h3:s.bar=y.bar
    .simp[h3]
    have h3':¬y.bar=s.bar:=fun h=>h3 h.symm;by_cases h4:s.bar<y.bar
    .simp[h3,h3',h4]
    by_cases h5:wI o s.reg=0<;>simp[h3,h3',h4,h5]
  unfold j9;by_cases h1:s.bar<0
  .rw[Yzc h1]at body ⊢;rw[zz body];rfl
  rw[Yza h1]at body ⊢;by_cases h2:(x.bars.els.length:Int)-1<=s.bar
  .rw[Yzc h2]at body ⊢;rw[zz body];rfl
  rw[Yza h2]at body ⊢;by_cases h3:zh8 x.sets.els i=some s.bar
  .rw[Yzc h3]at body ⊢;rw[zz body];rfl
  rw[Yza h3]at body ⊢;by_cases h4:gtO s.bar (zh8 x.sets.els i)=true
  .rw[Yzc h4]at body ⊢;rw[zz body];rfl
  rw[Yza h4]at body ⊢;by_cases h5:wI o s.reg≠0
  .rw[Yzc h5]at body ⊢;rw[zz body];unfold zhz;rw[Yzc h5]
  .rw[Yza h5]at body ⊢;rw[zE body,ih (i+1) (zJ h),hp]
def zcT(o:Org)(x:Pce):Int:=if za1 o≠0 then za1 o else if zaJ x.bars.els≠0 then zaJ x.bars.els else if zbK o x≠0 then zbK o x else if 100<x.sets.els.length then 4 else j9 o (x.bars.els.length:Int) none x.sets.els
theorem zmE{l:List Int}(h:zaJ l=0):2<=l.length/\l.length<=201:=by
 unfold zaJ at h;by_cases h1:l.length<2
 .rw[Yzc h1]at h;cases h
 rw[Yza h1]at h;by_cases h2:201<l.length
 .rw[Yzc h2]at h;cases h
 omega
theorem t22(k:Nat)(o:Org)(ho:o.ok)(x:Pce)(hb:x.bars.els.length<=9223372036854775807):D (k+11) 22 [SA (enO o),SA (zko x)]=some (S1 (I6 (zcT o x))):=by
 have oc:=t44 (k+1) o ho;have bc:=t45 (k+9) x.bars hb;have nc:=fun h0 h1=>t46 (k+10) o x h0 h1;unfold enO at oc;unfold enO zko at nc ⊢;rw[D22];unfold P22 zcT;simp only[oc,zR,z7,zb,zm,bc,zg,zW,Yzo];by_cases h1:za1 o=0
 .by_cases h2:zaJ x.bars.els=0
  .obtain⟨l1,l2⟩:=zmE h2;rw[nc (by omega) (by omega)];simp only[h1,h2,zR,z7,zb,zm];by_cases h3:zbK o x=0
   .by_cases h4:100<x.sets.els.length
    .have:(100:Int)<(x.sets.els.length:Int):=by omega
     simp[h3,h4,this]
    .have:¬(100:Int)<(x.sets.els.length:Int):=by omega
     have l11:=zA6 k o ho x (by omega) (by omega) x.sets.els 0 rfl;rw[show (I6 ((0:Nat):Int):DV)=I6 0 from rfl,show zh8 x.sets.els 0=none from rfl]at l11;simp only[h3,h4,this,l11];unfold zhz;by_cases h5:j9 o (x.bars.els.length:Int) none x.sets.els=0<;>simp[h5]
   .simp[h3]
  .simp[h1,h2]
 .simp[h1]
end Go.Proofs.Tryz.Kn
end
section
namespace Go.Proofs.Tryz.Kn
open Go Go.CE Go.PE
theorem zkE:∀(l:List Nat) (t:Int) (p:Option Int),0<=t->t+6*(l.length:Int)<=100000->leO t p=false->zdt p (t::wN t l)=0
 | [],t,p,h0,h1,hp=>by simp only[Yzv]at h1;unfold wN zdt;rw[Yza (by omega),Yza (by omega),Yza (by rw[hp];decide)];rfl
 |n::l,t,p,h0,h1,hp=>by have hn:n % 6<6:=Yzn _ (by decide);rw[Yzh]at h1;unfold wN zdt;rw[Yza (by omega),Yza (by omega),Yza (by rw[hp];decide)];exact zkE l _ _ (by omega) (by omega) (by show decide _=false;exact decide_eq_false (by omega))
theorem zBO(p:PPl)(h:Zu p):zaJ (0::wN 0 p.bars.els)=0:=by
 have h0:=h.b0;have h4:=h.b4
 have hl:(0::wN 0 p.bars.els).length=p.bars.els.length+1:=by rw[Yzh,uJ]
 unfold zaJ;rw[hl,Yza (by omega),Yza (by omega)];exact zkE _ _ _ (by decide) (by omega) rfl
theorem zhb(ks:List (Int×Int))(f l:Int):∀(q p:List Zh) (n:Zh),zaS ks f l p q=0->zaS ks f l p (q++[n])=zb1 ks f l (p++q) n
 | [],p,n,_=>by
  rw[YzM,YzP];unfold zaS;by_cases h:zb1 ks f l p n=0
  .rw[Yzc h,h];rfl
  .rw[Yza h]
 |m::q,p,n,hq=>by
  unfold zaS at hq;by_cases h:zb1 ks f l p m=0
  .rw[Yzc h]at hq;have:=zhb ks f l q (p++[m]) n hq;rw[List.cons_append];unfold zaS;rw[Yzc h,this,YzD];rfl
  .rw[Yza h]at hq;exact absurd hq h
theorem zru{ds:List Zo}(h0:0<ds.length)(hr:∀d∈ds,zAe d){E:Nat}(hE:0<E)(s:Snd){acc:List Zh}(ha:acc.any (fun m=>ovl m (wX ds E s))=false):zb1 (ds.map keyOf) 0 (E:Int) acc (wX ds E s)=0:=by
 have hi:s.dv % ds.length<ds.length:=Yzn _ h0;obtain⟨d,hd⟩:∃d,ds[s.dv % ds.length]? = some d:=⟨_,Lz5 hi⟩;obtain⟨r0,r1,r2⟩:=hr d (Lz3 hd);obtain⟨W,hW,hW0⟩:∃W:Nat,(d.high-d.low+1).toNat=W/\d.high-d.low+1=(W:Int):=⟨_,rfl,by omega⟩;have e:wX ds E s=⟨((s.st % E:Nat):Int),min (E:Int) (((s.st % E:Nat):Int)+1+((s.lng % 8:Nat):Int)),((s.dv % ds.length:Nat):Int),d.low+((s.key % W:Nat):Int)⟩:=by unfold wX;rw[hd,<-hW]
 have hk:s.key % W<W:=Yzn _ (by omega);have hs:s.st % E<E:=Yzn _ hE;rw[e]at ha ⊢;generalize s.dv % ds.length=j at *;generalize s.st % E=t at *;generalize s.key % W=y at *;generalize s.lng % 8=z at *;unfold zb1
 dsimp only
 have gk:(ds.map keyOf)[((j:Nat):Int).toNat]? = some (d.low,d.high):=by rw[YzO,Lz6,hd];rfl
 rw[Yza (by rw[Yzm];omega),gk]
 dsimp only
 rw[Yza (by omega),Yza (by omega),Yza (by omega),Yza];intro hc;obtain⟨m,hm,ho⟩:=List.any_eq_true.1 hc;obtain⟨hm1,hm2⟩:=List.mem_filter.1 hm;have:=List.any_eq_false.1 ha m hm1;refine this ?_;rw[LzC,beq_iff_eq,beq_iff_eq]at hm2;unfold ovN at ho;unfold ovl;rw[LzC,Yzo,Yzo]at ho;simp only[LzC,Yzo];exact⟨⟨⟨hm2.1,hm2.2⟩,ho.2⟩,ho.1⟩
theorem zfE{ds:List Zo}(h0:0<ds.length)(hr:∀d∈ds,zAe d){E:Nat}(hE:0<E):∀(r:List Snd) (acc:List Zh),zaS (ds.map keyOf) 0 (E:Int) [] acc=0->zaS (ds.map keyOf) 0 (E:Int) [] (uD ds E acc r)=0
 | [],_,h=>h
 |s::r,acc,h=>by
  unfold uD;cases hc:acc.any (fun m=>ovl m (wX ds E s)) with
  |true=>exact zfE h0 hr hE r acc h
  |false=>refine zfE h0 hr hE r _ ?_;rw[zhb _ _ _ acc [] _ h,YzM];exact zru h0 hr hE s hc
theorem zbJ(ds:List Zo)(E:Nat):∀(r:List Snd) (acc:List Zh),(uD ds E acc r).length<=acc.length+r.length
 | [],_=>LzB _
 |s::r,acc=>by
  unfold uD;split
  .have:=zbJ ds E r acc;rw[Yzh];omega
  .have:=zbJ ds E r (acc++[wX ds E s]);rw[Yzx]at this;rw[Yzh];simp only[Yzh,Yzv]at this;omega
theorem zpt(t:Int)(l:List Int):zdL (t::l)=zdK t l:=by unfold zdL;rw[Yzh,Nat.add_sub_cancel,zfQ];rfl
theorem zxz(p:PPl)(h:Zu p):zbK (zaW p.org) (zuI p)=0:=by obtain⟨E1,E2,E3⟩:=zn9 p h;have n8:=h.n8;have hl:=zbJ (zaW p.org).divs.els (zpU p) p.notes.els [];have e1:(zuI p).notes.els=uD (zaW p.org).divs.els (zpU p) [] p.notes.els:=zN _;have e2:(zuI p).bars.els=0::wN 0 p.bars.els:=rfl;unfold zbK;rw[e1,e2,Yza (by simp only[Yzv]at hl;omega),zpt,<-E1];exact zfE (zbM p.org h.org) (znB p.org) E2 p.notes.els [] rfl
theorem zfc(o:Org)(nb:Int):∀(q:List Stg) (p:Option Int) (s:Stg),j9 o nb p q=0->j9 o nb p (q++[s])=j9 o nb (match q.getLast? with|some y=>some y.bar|none=>p) [s]
 | [],_,_,_=>rfl
 |y::q,p,s,h=>by
  rw[List.cons_append];unfold j9 at h ⊢;by_cases h1:y.bar<0
  .rw[Yzc h1]at h;cases h
  rw[Yza h1]at h ⊢;by_cases h2:nb-1<=y.bar
  .rw[Yzc h2]at h;cases h
  rw[Yza h2]at h ⊢;by_cases h3:p=some y.bar
  .rw[Yzc h3]at h;cases h
  rw[Yza h3]at h ⊢;by_cases h4:gtO y.bar p=true
  .rw[Yzc h4]at h;cases h
  rw[Yza h4]at h ⊢;by_cases h5:wI o y.reg≠0
  .rw[Yzc h5]at h;exact absurd h h5
  rw[Yza h5]at h ⊢;rw[zfc o nb q (some y.bar) s h];cases q with
  |nil=>rfl
  |cons z q=>rw[List.getLast?_cons_cons];cases hq:(z::q).getLast? with
   |none=>simp at hq
   |some w=>rfl
theorem zhY(o:Org)(nb:Nat)(hnb:0<nb)(hr:∀b,(∀i,b i<256)->wI o (wo o b)=0):∀(r:List Mrk) (last:Int) (acc:List Stg),(∀m∈r,m.ok)->j9 o ((nb:Int)+1) none acc=0->(∀y,acc.getLast? = some y->y.bar=last)->(acc=[]->last=-1)->
  j9 o ((nb:Int)+1) none (zeD o nb last acc r)=0
 | [],_,_,_,h,_,_=>h
 |m::r,last,acc,hm,h,hl,hn=>by
  have hb:m.bar % nb<nb:=Yzn _ hnb;unfold zeD;by_cases hc:last<((m.bar % nb:Nat):Int)
  .rw[Yzc hc];refine zhY o nb hnb hr r _ _ (fun x hx=>hm x (Yze _ hx)) ?_ (fun y hy=>?_) (fun h=>?_)
   .rw[zfc _ _ _ _ _ h];unfold j9
    dsimp only
    rw[Yza (by omega),Yza (by omega),Yza,Yza,Yza (by rw[hr _ (hm m (Yzf ..)).h2];simp)]
    .rfl
    .cases hq:acc.getLast? with
     |none=>simp[gtO]
     |some y=>have:=hl y hq;show ¬decide (((m.bar % nb:Nat):Int)<y.bar)=true;rw[Yzo];omega
    .cases hq:acc.getLast? with
     |none=>simp
     |some y=>have:=hl y hq;intro h;have h:y.bar=((m.bar % nb:Nat):Int):=Option.some.inj h;omega
   .rw[List.getLast?_concat]at hy;cases hy;rfl
   .simp at h
  .rw[Yza hc];exact zhY o nb hnb hr r last acc (fun x hx=>hm x (Yze _ hx)) h hl hn
theorem zfb(o:Org)(nb:Nat):∀(r:List Mrk) (last:Int) (acc:List Stg),(zeD o nb last acc r).length<=acc.length+r.length
 | [],_,_=>LzB _
 |m::r,last,acc=>by
  unfold zeD;split
  .have:=zfb o nb r ((m.bar % nb:Nat):Int) (acc++[⟨((m.bar % nb:Nat):Int),wo o m.bits⟩]);rw[Yzx]at this;rw[Yzh];simp only[Yzh,Yzv]at this;omega
  .have:=zfb o nb r last acc;rw[Yzh];omega
theorem zhi(p:PPl)(hp:p.ok)(h:Zu p):zcT (zaW p.org) (zuI p)=0:=by
 have h0:=zhj p.org hp.org h.org;obtain⟨s1,s2,s3⟩:=kO p.org h.org;have e1:(zuI p).bars.els=0::wN 0 p.bars.els:=rfl;have e2:(zuI p).sets.els=zeD (zaW p.org) p.bars.els.length (-1) [] p.marks.els:=zN _;have hl:=zfb (zaW p.org) p.bars.els.length p.marks.els (-1) [];have m3:=h.m3;have hlen:((0::wN 0 p.bars.els).length:Int)=(p.bars.els.length:Int)+1:=by rw[Yzh,uJ];rfl
 unfold zcT;rw[h0,Yza (by simp),e1,zBO p h,Yza (by simp),zxz p h,Yza (by simp),e2,Yza (by simp only[Yzv]at hl;omega),hlen];exact zhY _ _ h.b0 (fun b hb=>zee h0 b hb s1 s2 s3) _ _ _ hp.marks rfl (fun y hy=>by cases hy) (fun _=>rfl)
end Go.Proofs.Tryz.Kn
end
section
namespace Go.Proofs.Tryz.Kn
open Go Go.CE Go.PE
structure CPl where
 pc:PPl
 mems:Sl (Nat->Nat)
 h0:Nat
 h1:Nat
 hp:Nat
 k0:Nat
 k1:Nat
 k2:Nat
 k3:Nat
structure CPl.ok (p:CPl):Prop where
 pc:p.pc.ok
 ml:p.mems.els.length<=9223372036854775807
 mb:∀b∈p.mems.els,∀i,b i<256
 h0:p.h0<256
 h1:p.h1<256
 hp:p.hp<256
 k0:p.k0<256
 k1:p.k1<256
 k2:p.k2<256
 k3:p.k3<256
def zi2(p:CPl):List DV:=[enL 9 zga p.pc.org.ranks,enL 4 uM p.pc.org.divs,enL 4 zkp p.pc.org.cpls,enL 1 zi3 p.pc.bars,enL 4 zl9 p.pc.notes,enL 6 zmd p.pc.marks,enL 5 enB p.mems,U8 (p.h0:Int),U8 (p.h1:Int),U8 (p.hp:Int),U8 (p.k0:Int),U8 (p.k1:Int),U8 (p.k2:Int),U8 (p.k3:Int)]
def zjv(l:List Boa):Nat:=(l.map fun b=>b.stops.els.length).sum
def zcb(p:CPl):Bool:=zet p.pc&&decide (p.mems.els.length<=3)&&decide (p.pc.org.divs.els.length+p.pc.org.cpls.els.length+zjv p.pc.org.divs.els<=7)
theorem zGA(l:Sl Boa)(hl:l.els.length<=1000)(hs:∀b∈l.els,b.stops.els.length<=3):∀(r:List Boa) (i n:Nat),l.els.drop i=r->n<=4*i+10000->
  zS (zB7 (enL 4 uM l)) [I6 (i:Int),I6 (n:Int)] []=some (.exit 0,[I6 ((n+zjv r:Nat):Int)],[]):=by
 intro r
 induction r with
 |nil=>intro i n h _;refine zr ?_;simp only[zB7,zA,yJ,zg,zi,zb,wq (z6 h),zm];rfl
 |cons b r ih=>
  intro i n h hn;have hlt:=yn h;have hb:=hs b (Lz3 (ye h));have ea:zc .add (I6 (i:Int)) (I6 1)=some (I6 ((i+1:Nat):Int)):=yG;have eb:zc .add (I6 (n:Int)) (I6 (b.stops.els.length:Int))=some (I6 ((n+b.stops.els.length:Nat):Int)):=yG;have body:zB7 (enL 4 uM l) [I6 (i:Int),I6 (n:Int)] []=some (.normal,[I6 ((i+1:Nat):Int),I6 ((n+b.stops.els.length:Nat):Int)],[]):=by simp only[zB7,zA,yJ,zg,zi,zb,zbN hlt,zm,if_true,zX h,uM,y4,ww,ea,eb]
  rw[zE body,ih (i+1) _ (zJ h) (by omega)];rw[show zjv (b::r)=b.stops.els.length+zjv r by unfold zjv;simp,Yz7]
theorem t8(k:Nat)(p:CPl)(hp:p.ok):D (k+3) 8 [SA (zi2 p)]=some (S1 (Bo (zcb p))):=by
 have cf:=t31 k p.pc hp.pc;unfold zmc at cf;unfold zi2;rw[D8];unfold P8 zcb;rw[cf,zR,xI,zb,zm];cases hf:zet p.pc with
 |false=>rfl
 |true=>
  obtain⟨f1,f2,f3,f4,f5,f6⟩:=q8 (zaA hf).org;rw[Yza (by simp),zg,zb,zW,zb,zm];by_cases h1:p.mems.els.length<=3
  .have h1':¬(3:Int)<(p.mems.els.length:Int):=by omega
   have l9:=zGA p.pc.org.divs (by omega) f6 p.pc.org.divs.els 0 (p.pc.org.divs.els.length+p.pc.org.cpls.els.length) rfl (by omega);rw[show (I6 ((0:Nat):Int):DV)=I6 0 from rfl]at l9;have ea:zc .add (I6 (p.pc.org.divs.els.length:Int)) (I6 (p.pc.org.cpls.els.length:Int))=some (I6 ((p.pc.org.divs.els.length+p.pc.org.cpls.els.length:Nat):Int)):=yG;rw[Yza (by simpa using h1')];have ed:decide (((p.pc.org.divs.els.length+p.pc.org.cpls.els.length+zjv p.pc.org.divs.els:Nat):Int)<=7)=decide (p.pc.org.divs.els.length+p.pc.org.cpls.els.length+zjv p.pc.org.divs.els<=7):=decide_eq_decide.2 (by omega);simp only[zg,zb,ea,l9,yi,Yzq,Yzb,zA,wV,ed,h1,decide_true,Yyb]
  .have h1':(3:Int)<(p.mems.els.length:Int):=by omega
   rw[Yzc (by simpa using h1')];simp[h1]
structure Prb where
 o:Org
 x:Pce
 hn:Int
 hs:Int
 fn:Int
 fs:Int
 mems:Sl Reg
 hp:Int
 k0:Int
 k1:Int
 k2:Int
 k3:Int
def yE(q:Prb):List DV:=[St q.o.name,enL 6 enR q.o.ranks,enL 5 enV q.o.divs,enL 5 enC q.o.cpls,enL 1 enW q.x.bars,enL 4 x7 q.x.notes,enL 4 zaC q.x.sets,I6 q.hn,I6 q.hs,I6 q.fn,I6 q.fs,enL 3 zY q.mems,I6 q.hp,I6 q.k0,I6 q.k1,I6 q.k2,I6 q.k3]
def zaM(p:CPl):Prb:=⟨zaW p.pc.org,zuI p.pc,((p.h0 % 4:Nat):Int),((p.h1 % 8:Nat):Int),1,5,grow (p.mems.els.map (wo (zaW p.pc.org))),((p.hp % 3:Nat):Int),((p.k0 % 8:Nat):Int),((p.k1 % 8:Nat):Int),((p.k2 % 8:Nat):Int),((p.k3 % 8:Nat):Int)⟩
theorem zDS(k:Nat)(o:Org)(x:List DV)(hd:o.divs.els.length<=60)(hs:∀d∈o.divs.els,d.stops.els.length<=60)(hc:o.cpls.els.length<=60)(l:Sl (Nat->Nat))(hl:l.els.length<=1000)(hb:∀b∈l.els,∀i,b i<256)(c0 c1 c2 c3 c4 c5 c6 c7 c8 c9 c10 c11 c12 c13 c14 c15:DV):
  ∀(r:List (Nat->Nat)) (i:Nat) (acc:List Reg),l.els.drop i=r->acc.length=i->
  zS (ztf (D (k+1)) (enL 5 enB l) [.agg (enO o),.agg x]) [I6 (i:Int),c0,c1,c2,c3,c4,c5,c6,c7,c8,c9,c10,c11,c12,c13,c14,c15] [ocL zY (grow acc)]=some (.exit 0,[c0,c1,c2,c3,c4,c5,c6,c7,c8,c9,c10,c11,c12,c13,c14,c15],[ocL zY (grow (acc++r.map (wo o)))]):=by
 intro r
 induction r with
 |nil=>intro i acc h ha;refine zr ?_;simp only[ztf,zA,yJ,yU,zg,zi,zb,wq (z6 h),zm,List.map_nil,YzP];rfl
 |cons b r ih=>
  intro i acc h ha;have hlt:=yn h;have hbb:=hb b (Lz3 (ye h));have ea:zc .add (I6 (i:Int)) (I6 1)=some (I6 ((i+1:Nat):Int)):=yG;have dr:=t14 k o b hbb hd hs hc;have ef:fits 40 ((grow acc).els.length+1)=true:=xf (by decide) (by rw[zN];omega);have e0:[atD (dsA (yR [.agg (enO o),.agg x] 0)) 0,atD (dsA (yR [.agg (enO o),.agg x] 0)) 1,atD (dsA (yR [.agg (enO o),.agg x] 0)) 2,atD (dsA (yR [.agg (enO o),.agg x] 0)) 3]=enO o:=rfl;have e1:[atD (enB b) 0,atD (enB b) 1,atD (enB b) 2,atD (enB b) 3,atD (enB b) 4]=enB b:=rfl;have e2:∀r:Reg,[atD (zY r) 0,atD (zY r) 1,atD (zY r) 2]=zY r:=fun r=>rfl;have body:ztf (D (k+1)) (enL 5 enB l) [.agg (enO o),.agg x] [I6 (i:Int),c0,c1,c2,c3,c4,c5,c6,c7,c8,c9,c10,c11,c12,c13,c14,c15] [ocL zY (grow acc)]=some (.normal,[I6 ((i+1:Nat):Int),c0,c1,c2,c3,c4,c5,c6,c7,c8,c9,c10,c11,c12,c13,c14,c15],[ocL zY (grow (acc++[wo o b]))]):=by rw[xx,<-wj (f:=zY)];simp only[ztf,zA,yJ,yU,zg,zi,zb,zbN hlt,zm,if_true,zX h,e0,e1,e2,dr,ztb,xQ,ef,xM,ea,xg]
  rw[zE body,ih (i+1) _ (zJ h) (by rw[Yzx,ha];rfl)];rw[Yzw,YzD];rfl
theorem zEx{β:Type}(o:Org)(x:Pce)(K:List DS->Option β):bT [some 4,some 3] (some (.tup [.agg (enO o),.agg (zko x)])) K=K [.agg (enO o),.agg (zko x)]:=rfl
theorem zde{p:CPl}(h:zcb p=true):zet p.pc=true/\p.mems.els.length<=3/\p.pc.org.divs.els.length+p.pc.org.cpls.els.length+zjv p.pc.org.divs.els<=7:=by unfold zcb at h;simp only[LzC,Yzo]at h;exact⟨h.1.1,h.1.2,h.2⟩
theorem t9(k:Nat)(p:CPl)(hp:p.ok)(hf:zcb p=true):D (k+9) 9 [SA (zi2 p)]=some (SA (yE (zaM p))):=by obtain⟨h45,hm,_⟩:=zde hf;obtain⟨s1,s2,s3⟩:=kO p.pc.org (zaA h45).org;have mk:=t32 k p.pc hp.pc h45;unfold zmc at mk;obtain⟨hpc,hml,hmb,h0,h1,h2,k0,k1,k2,k3⟩:=hp;have rm:∀(a b:Nat),b≠0->zc .rem (U8 (a:Int)) (U8 (b:Int))=some (U8 ((a % b:Nat):Int)):=fun a b hb=>zgG hb;have cv:∀(a:Nat),a<256->zx .i64 (U8 (a:Int))=some (I6 (a:Int)):=fun a ha=>vN;have m4:∀a:Nat,a % 4<256:=fun a=>Nat.lt_trans (Yzn _ (by decide)) (by decide);have m8:∀a:Nat,a % 8<256:=fun a=>Nat.lt_trans (Yzn _ (by decide)) (by decide);have m3:∀a:Nat,a % 3<256:=fun a=>Nat.lt_trans (Yzn _ (by decide)) (by decide);have r4:=fun a=>rm a 4 (by decide);have r8:=fun a=>rm a 8 (by decide);have r3:=fun a=>rm a 3 (by decide);rw[show (U8 ((4:Nat):Int):DV)=U8 4 from rfl]at r4;rw[show (U8 ((8:Nat):Int):DV)=U8 8 from rfl]at r8;rw[show (U8 ((3:Nat):Int):DV)=U8 3 from rfl]at r3;unfold zi2;rw[D9];unfold P9;rw[mk,zEx];simp only[y4,ww,r4,r8,r3,zb,cv _ (m4 _),cv _ (m8 _),cv _ (m3 _)];rw[show (I6 0:DV)=I6 ((0:Nat):Int) from rfl,show (none:OC)=ocL zY (grow []) from rfl];rw[zDS (k+7) (zaW p.pc.org) (zko (zuI p.pc)) (by omega) (fun d hd=>Yzl (s2 d hd) (by decide)) (by omega) p.mems (by omega) hmb _ _ _ _ _ _ _ _ _ _ _ _ _ _ _ _ p.mems.els 0 [] rfl rfl];simp only[yi,Yzq,Yzb,zA,yJ,yU,zbf,YzM];rfl
end Go.Proofs.Tryz.Kn
end
section
namespace Go.Proofs.Tryz.Kn
open Go Go.CE Go.PE
def ud(m n:Int):Bool:=decide (n<0)||decide (m<n)
theorem i0:(I6 0:DV)=I6 ((0:Nat):Int):=rfl
theorem zBN(F:DV->DV->List DV->List OC->Option PX)(m:Int)(id:Nat)(a c:Int)
  (h0:F (I6 a) (I6 c) [I6 0] []=some (if ud m a then(.ret,[I6 3],[]) else(.normal,[I6 1],[])))
  (h1:F (I6 a) (I6 c) [I6 1] []=some (if ud m c then(.ret,[I6 3],[]) else(.normal,[I6 2],[])))
  (h2:F (I6 a) (I6 c) [I6 2] []=some (.exit id,[],[])):
  zS (F (I6 a) (I6 c)) [I6 0] []=some (zhz id (if ud m a||ud m c then 3 else 0)):=by
 cases ha:ud m a with
 |true=>rw[ha,Yzc rfl]at h0;rw[zz h0];rfl
 |false=>
  rw[ha,Yza (by decide)]at h0;rw[zE h0];cases hc:ud m c with
  |true=>rw[hc,Yzc rfl]at h1;rw[zz h1];rfl
  |false=>rw[hc,Yza (by decide)]at h1;rw[zE h1,zr h2];rfl
def zan(hn hs fn fs:Int):Int:=if ud 10 hn||ud 10 fn then 3 else if ud 127 hs||ud 127 fs then 3 else 0
theorem p20:uc 2 (I6 0)=some 0:=uP (i:=0) (by decide)
theorem p21:uc 2 (I6 1)=some 1:=uP (i:=1) (by decide)
theorem a01:zc .add (I6 0) (I6 1)=some (I6 1):=yG
theorem a11:zc .add (I6 1) (I6 1)=some (I6 2):=yG
theorem a21:zc .add (I6 2) (I6 1)=some (I6 3):=yG
theorem a31:zc .add (I6 3) (I6 1)=some (I6 4):=yG
theorem t23(k:Nat)(hn hs fn fs:Int):D (k+1) 23 [SA [I6 hn,I6 hs,I6 fn,I6 fs]]=some (S1 (I6 (zan hn hs fn fs))):=by
  have l1:=zBN (fun a c=>ztr a c) 10 0 hn fn
    (by simp only [ztr, zA, zi, zb, p20, y4, zW, zm, a01, ud]
        by_cases h1:hn<0<;>by_cases h2:10<hn<;>simp[h1,h2])
    (by simp only [ztr, zA, zi, zb, p21, y4, ww, zW, zm, a11, ud]
        by_cases h1:fn<0<;>by_cases h2:10<fn<;>simp[h1,h2])
    (by simp only[ztr,zA,zi,zb,zm];simp)
  have l2:=zBN (fun a c=>zhG a c) 127 2 hs fs
    (by simp only [zhG, zA, zi, zb, p20, y4, zW, zm, a01, ud]
        by_cases h1:hs<0<;>by_cases h2:127<hs<;>simp[h1,h2])
    (by simp only [zhG, zA, zi, zb, p21, y4, ww, zW, zm, a11, ud]
        by_cases h1:fs<0<;>by_cases h2:127<fs<;>simp[h1,h2])
    (by simp only[zhG,zA,zi,zb,zm];simp)
  rw[D23];unfold P23 zan;rw[l1];cases h1:(ud 10 hn||ud 10 fn) with
  |true=>rfl
  |false=>show yP (zS (zhG (I6 hs) (I6 fs)) [I6 0] []) _ _=_;rw[l2];cases h2:(ud 127 hs||ud 127 fs)<;>rfl
def zb9(o:Org):List Reg->Int
 | []=>0
 |r::l=>if wI o r≠0 then wI o r else zb9 o l
theorem zDG(k:Nat)(o:Org)(ho:o.ok)(l:Sl Reg)(hl:l.els.length<=1000):∀(r:List Reg) (i:Nat),l.els.drop i=r->
  zS (ztp (D (k+10)) (I6 (l.els.length:Int)) (enL 3 zY l) (St o.name) (enL 6 enR o.ranks) (enL 5 enV o.divs) (enL 5 enC o.cpls)) [I6 (i:Int)] []=some (zhz 0 (zb9 o r)):=by
 intro r
 induction r with
 |nil=>intro i h;refine zr ?_;simp only[ztp,zA,zi,zb,wq (z6 h),zm,zb9];rfl
 |cons x r ih=>
  intro i h;have hlt:=yn h;have ea:zc .add (I6 (i:Int)) (I6 1)=some (I6 ((i+1:Nat):Int)):=yG;have rc:=t24 k o ho x;unfold enO zY at rc;have body:ztp (D (k+10)) (I6 (l.els.length:Int)) (enL 3 zY l) (St o.name) (enL 6 enR o.ranks) (enL 5 enV o.divs) (enL 5 enC o.cpls) [I6 (i:Int)] []=some (if wI o x≠0 then(.ret,[I6 (wI o x)],[]) else(.normal,[I6 ((i+1:Nat):Int)],[])):=by simp only[ztp,zA,zi,zb,zbN hlt,zm,if_true,zX h,zY,y4,ww,rc,zR,z7,ea];by_cases h5:wI o x=0<;>simp[h5]
  unfold zb9;by_cases h5:wI o x≠0
  .rw[Yzc h5]at body ⊢;rw[zz body];unfold zhz;rw[Yzc h5]
  .rw[Yza h5]at body ⊢;rw[zE body,ih (i+1) (zJ h)]
theorem q0:uc 4 (I6 0)=some 0:=uP (i:=0) (by decide)
theorem q1:uc 4 (I6 1)=some 1:=uP (i:=1) (by decide)
theorem q2:uc 4 (I6 2)=some 2:=uP (i:=2) (by decide)
theorem q3:uc 4 (I6 3)=some 3:=uP (i:=3) (by decide)
theorem zA4(a b c d:Int):zS (zaO (I6 a) (I6 b) (I6 c) (I6 d)) [I6 0] []=some (zhz 2 (if ud 1000 a||ud 1000 b||ud 1000 c||ud 1000 d then 3 else 0)):=by
 have h0:zaO (I6 a) (I6 b) (I6 c) (I6 d) [I6 0] []=some (if ud 1000 a then(.ret,[I6 3],[]) else(.normal,[I6 1],[])):=by simp only[zaO,zA,zi,zb,q0,y4,zW,zm,a01,ud];by_cases h1:a<0<;>by_cases h2:1000<a<;>simp[h1,h2]
 have h1:zaO (I6 a) (I6 b) (I6 c) (I6 d) [I6 1] []=some (if ud 1000 b then(.ret,[I6 3],[]) else(.normal,[I6 2],[])):=by simp only[zaO,zA,zi,zb,q1,y4,ww,zW,zm,a11,ud];by_cases h1:b<0<;>by_cases h2:1000<b<;>simp[h1,h2]
 have h2:zaO (I6 a) (I6 b) (I6 c) (I6 d) [I6 2] []=some (if ud 1000 c then(.ret,[I6 3],[]) else(.normal,[I6 3],[])):=by simp only[zaO,zA,zi,zb,q2,y4,ww,zW,zm,a21,ud];by_cases h1:c<0<;>by_cases h2:1000<c<;>simp[h1,h2]
 have h3:zaO (I6 a) (I6 b) (I6 c) (I6 d) [I6 3] []=some (if ud 1000 d then(.ret,[I6 3],[]) else(.normal,[I6 4],[])):=by simp only[zaO,zA,zi,zb,q3,y4,ww,zW,zm,a31,ud];by_cases h1:d<0<;>by_cases h2:1000<d<;>simp[h1,h2]
 have h4:zaO (I6 a) (I6 b) (I6 c) (I6 d) [I6 4] []=some (.exit 2,[],[]):=by simp only[zaO,zA,zi,zb,zm];simp
 cases ha:ud 1000 a with
 |true=>rw[ha,Yzc rfl]at h0;rw[zz h0];rfl
 |false=>
  rw[ha,Yza (by decide)]at h0;rw[zE h0];cases hb:ud 1000 b with
  |true=>rw[hb,Yzc rfl]at h1;rw[zz h1];rfl
  |false=>
   rw[hb,Yza (by decide)]at h1;rw[zE h1];cases hc:ud 1000 c with
   |true=>rw[hc,Yzc rfl]at h2;rw[zz h2];rfl
   |false=>
    rw[hc,Yza (by decide)]at h2;rw[zE h2];cases hd:ud 1000 d with
    |true=>rw[hd,Yzc rfl]at h3;rw[zz h3];rfl
    |false=>rw[hd,Yza (by decide)]at h3;rw[zE h3,zr h4];rfl
def zmu(q:Prb):Int:=if zcT q.o q.x≠0 then zcT q.o q.x else if zan q.hn q.hs q.fn q.fs≠0 then zan q.hn q.hs q.fn q.fs else if 40<q.mems.els.length then 4 else if zb9 q.o q.mems.els≠0 then zb9 q.o q.mems.els else if ud 20 q.hp then 3 else if ud 1000 q.k0||ud 1000 q.k1||ud 1000 q.k2||ud 1000 q.k3 then 3 else 0
structure Prb.ok (q:Prb):Prop where
 o:q.o.ok
 bl:q.x.bars.els.length<=9223372036854775807
theorem t25(k:Nat)(q:Prb)(hq:q.ok):D (k+12) 25 [SA (yE q)]=some (S1 (I6 (zmu q))):=by
 have pc:=t22 k q.o hq.o q.x hq.bl;have sc:=t23 (k+10) q.hn q.hs q.fn q.fs;unfold enO zko at pc;unfold yE;rw[D25];unfold P25 zmu;simp only[pc,sc,zR,z7,zW,zi,zb,zm,zg,Yzo];by_cases h1:zcT q.o q.x=0
 .by_cases h2:zan q.hn q.hs q.fn q.fs=0
  .by_cases h3:40<q.mems.els.length
   .have:(40:Int)<(q.mems.els.length:Int):=by omega
    simp[h1,h2,h3,this]
   .have:¬(40:Int)<(q.mems.els.length:Int):=by omega
    have l9:=zDG (k+1) q.o hq.o q.mems (by omega) q.mems.els 0 rfl;rw[<-i0]at l9;have l21:=zA4 q.k0 q.k1 q.k2 q.k3;simp only[h1,h2,h3,this,l9,l21];unfold zhz;by_cases h4:zb9 q.o q.mems.els=0
    .unfold ud;by_cases h5:q.hp<0
     .simp[h4,h5]
     by_cases h6:20<q.hp
     .simp[h4,h5,h6]
     simp only[h4,h5,h6];generalize (decide (q.k0<0)||decide (1000<q.k0)||(decide (q.k1<0)||decide (1000<q.k1))||(decide (q.k2<0)||decide (1000<q.k2))||(decide (q.k3<0)||decide (1000<q.k3)))=z;cases z<;>simp
    .simp[h4]
  .simp[h1,h2]
 .simp[h1]
theorem zj5(o:Org):∀l:List Reg,(∀r∈l,wI o r=0)->zb9 o l=0
 | [],_=>rfl
 |r::l,h=>by unfold zb9;rw[Yza (by rw[h r (Yzf ..)];simp)];exact zj5 o l fun x hx=>h x (Yze _ hx)
theorem zco{m n:Int}(h0:0<=n)(h1:n<=m):ud m n=false:=by unfold ud;rw[decide_eq_false (by omega),decide_eq_false (by omega)];rfl
theorem zxE(p:CPl)(hf:zcb p=true):(zaM p).ok:=by obtain⟨h45,hm,_⟩:=zde hf;have h:=zaA h45;have b4:=h.b4;exact⟨zxF _ h.org,by show (0::wN 0 p.pc.bars.els).length<=_;rw[Yzh,uJ];omega⟩
theorem zhh(p:CPl)(hp:p.ok)(hf:zcb p=true):zmu (zaM p)=0:=by
 obtain⟨h45,hm,_⟩:=zde hf;have h:=zaA h45;have h0:=zhj p.pc.org hp.pc.org h.org;obtain⟨s1,s2,s3⟩:=kO p.pc.org h.org;have em:(zaM p).mems.els=p.mems.els.map (wo (zaW p.pc.org)):=zN _;have m0:p.h0 % 4<4:=Yzn _ (by decide);have m1:p.h1 % 8<8:=Yzn _ (by decide);have m2:p.hp % 3<3:=Yzn _ (by decide);have n0:p.k0 % 8<8:=Yzn _ (by decide);have n1:p.k1 % 8<8:=Yzn _ (by decide);have n2:p.k2 % 8<8:=Yzn _ (by decide);have n3:p.k3 % 8<8:=Yzn _ (by decide);have e1:zcT (zaM p).o (zaM p).x=0:=zhi p.pc hp.pc h;have e2:zan (zaM p).hn (zaM p).hs (zaM p).fn (zaM p).fs=0:=by unfold zan;rw[show ud 10 (zaM p).hn=false from zco (by show (0:Int)<=((p.h0 % 4:Nat):Int);omega) (by show ((p.h0 % 4:Nat):Int)<=10;omega),show ud 127 (zaM p).hs=false from zco (by show (0:Int)<=((p.h1 % 8:Nat):Int);omega) (by show ((p.h1 % 8:Nat):Int)<=127;omega)];rfl
 have e3:zb9 (zaM p).o (zaM p).mems.els=0:=by rw[em];refine zj5 _ _ fun r hr=>?_;obtain⟨b,hb,rfl⟩:=List.mem_map.1 hr;exact zee h0 b (hp.mb b hb) s1 s2 s3
 unfold zmu;rw[e1,Yza (by simp),e2,Yza (by simp),em,Yzm,Yza (by omega),<-em,e3,Yza (by simp),
  show ud 20 (zaM p).hp=false from zco (by show (0:Int)<=((p.hp % 3:Nat):Int);omega) (by show ((p.hp % 3:Nat):Int)<=20;omega),
  show ud 1000 (zaM p).k0=false from zco (by show (0:Int)<=((p.k0 % 8:Nat):Int);omega) (by show ((p.k0 % 8:Nat):Int)<=1000;omega),
  show ud 1000 (zaM p).k1=false from zco (by show (0:Int)<=((p.k1 % 8:Nat):Int);omega) (by show ((p.k1 % 8:Nat):Int)<=1000;omega),
  show ud 1000 (zaM p).k2=false from zco (by show (0:Int)<=((p.k2 % 8:Nat):Int);omega) (by show ((p.k2 % 8:Nat):Int)<=1000;omega),
  show ud 1000 (zaM p).k3=false from zco (by show (0:Int)<=((p.k3 % 8:Nat):Int);omega) (by show ((p.k3 % 8:Nat):Int)<=1000;omega)]
 rfl
end Go.Proofs.Tryz.Kn
end
section
namespace Go.Proofs.Tryz.Kn
open Go Go.CE Go.PE
theorem zo7{x y:Nat}(hx:x<2^64)(hy:y<2^64):zc .and (U64 (x:Int)) (U64 (y:Int))=some (U64 ((x &&& y:Nat):Int)):=by rw[zij];exact congrArg (fun z=>some (U64 z)) (zBU hx hy)
theorem zDm{x y:Nat}(hx:x<2^64)(hy:y<2^64):x ||| y<2^64:=Nat.or_lt_two_pow hx hy
theorem zGu{x y:Nat}(hx:x<2^64)(hy:y<2^64):IntKind.wrap .u64 (BitVec.ofInt IntKind.u64.bits (x:Int) ||| BitVec.ofInt IntKind.u64.bits (y:Int)).toNat=((x ||| y:Nat):Int):=by
 have e:(BitVec.ofInt IntKind.u64.bits (x:Int) ||| BitVec.ofInt IntKind.u64.bits (y:Int)).toNat=x ||| y:=by show (BitVec.ofInt 64 (x:Int) ||| BitVec.ofInt 64 (y:Int)).toNat=x ||| y;rw[BitVec.toNat_or,BitVec.ofInt_natCast,BitVec.ofInt_natCast,BitVec.toNat_ofNat,BitVec.toNat_ofNat,Yyk hx,Yyk hy]
 rw[e];have:=zDm hx hy;rw[<-wO,zjs];omega
theorem zGd(x y:Int):zc .or (U64 x) (U64 y)=some (U64 (IntKind.wrap .u64 (BitVec.ofInt IntKind.u64.bits x ||| BitVec.ofInt IntKind.u64.bits y).toNat)):=(rfl)
theorem zq9{x y:Nat}(hx:x<2^64)(hy:y<2^64):zc .or (U64 (x:Int)) (U64 (y:Int))=some (U64 ((x ||| y:Nat):Int)):=by rw[zGd,zGu hx hy]
theorem zGy{x:Nat}(h:∀b,x.testBit b=true->b<=55):x<2^56:=by
 refine Nat.lt_pow_two_of_testBit _ fun i hi=>?_;cases hb:x.testBit i with
 |false=>rfl
 |true=>have:=h i hb;omega
def zpT(s:Nat)(l:List Nat):Nat:=l.foldl (fun s n=>s ||| 2^n) s
theorem zmW:∀(l:List Nat) (s i:Nat),(zpT s l).testBit i=(s.testBit i||decide (i∈l))
 | [],s,i=>by simp[zpT]
 |n::l,s,i=>by
  show (zpT (s ||| 2^n) l).testBit i=_;rw[zmW l,Nat.testBit_or,Nat.testBit_two_pow];by_cases h:n=i
  .subst h;simp
  .have:¬i=n:=fun e=>h e.symm;simp[h,this]
theorem zwV{l:List Nat}(h:∀n∈l,n<=55):zpT 0 l<2^56:=by refine zGy fun b hb=>?_;rw[zmW]at hb;simp at hb;exact h b hb
def enG(n:Nat):List DV:=[I6 (n:Int)]
def zsM(s:Nat):List DV:=[U64 (s:Int),U64 0]
theorem t63(k:Nat){n:Nat}(h:n<=127):D (k+1) 63 [S1 (I6 (n:Int))]=some (S1 (Bo true)):=by rw[D63];unfold P63;simp only[xD,wV,zb,zm];rw[Yzc (by simp),decide_eq_true (by omega)]
theorem t64(k:Nat){s n:Nat}(hs:s<2^64)(hn:n<=55):D (k+1) 64 [SA [U64 (s:Int),U64 0],S1 (I6 (n:Int))]=some (SA [U64 ((s ||| 2^n:Nat):Int),U64 0]):=by have e1:zq true (U64 1) (I6 (n:Int))=some (U64 ((2^n:Nat):Int)):=zo3 (by omega);have hp:2^n<2^64:=Nat.pow_lt_pow_right (by decide) (by omega);rw[D64];unfold P64;simp only[zi,zb,zm,decide_eq_true (show (n:Int)<64 by omega),if_true,e1,zq9 hs hp]
theorem bA2{β:Type}(a b:DV)(K:List DV->Option β):bA 2 (some (SA [a,b])) K=K [a,b]:=rfl
theorem zDO(k:Nat)(l:Sl Nat)(hl:l.els.length<=1000)(hn:∀n∈l.els,n<=55)(x y:DV):∀(r:List Nat) (i s:Nat),l.els.drop i=r->s<2^56->
  zS (zvC (D (k+1)) (I6 (l.els.length:Int)) (enL 1 enG l)) [I6 (i:Int),x,y,U64 (s:Int),U64 0] []=some (.exit 0,[x,y,U64 ((zpT s r:Nat):Int),U64 0],[]):=by
 intro r
 induction r with
 |nil=>intro i s h _;refine zr ?_;simp only[zvC,zA,yJ,zi,zb,wq (z6 h),zm,zpT,List.foldl_nil];rfl
 |cons n r ih=>
  intro i s h hs;have hlt:=yn h;have hn':=hn n (Lz3 (ye h));have ea:zc .add (I6 (i:Int)) (I6 1)=some (I6 ((i+1:Nat):Int)):=yG;have c1:=t63 k (n:=n) (by omega);have c2:=t64 k (s:=s) (n:=n) (Nat.lt_trans hs (by decide)) hn';have hs2:s ||| 2^n<2^56:=Nat.or_lt_two_pow hs (Nat.pow_lt_pow_right (by decide) (by omega));rw[zE (by simp only[zvC,zA,yJ,zi,zb,zbN hlt,zm,if_true,zX h,enG,y4,ww,c1,zR,xI,Yyo,Yzp,if_false,c2,bA2,ea];rfl),ih (i+1) _ (zJ h) hs2]
  rfl
theorem t35(k:Nat)(l:Sl Nat)(hl:l.els.length<=1000)(hn:∀n∈l.els,n<=55):D (k+2) 35 [S1 (enL 1 enG l)]=some (.tup [.agg (zsM (zpT 0 l.els)),.one (I6 0)]):=by have:=zDO k l hl hn (U64 0) (U64 0) l.els 0 0 rfl (by decide);rw[show (I6 ((0:Nat):Int):DV)=I6 0 from rfl,show (U64 ((0:Nat):Int):DV)=U64 0 from rfl]at this;rw[D35];unfold P35;simp only[zg,zb,this,yi,Yzq,Yzb,zA,yJ,zsM]
def zgz:Nat->Nat->List Nat
 |0,_=>[]
 |m+1,x=>if x=0 then[] else tzN x::zgz m (x &&& (x-1))
theorem zvJ:∀n x:Nat,tzF n x<=n
 |0,_=>LzB _
 |n+1,x=>by
  unfold tzF;cases Nat.beq (x % 2) 1 with
  |true=>exact Yzs _
  |false=>exact Nat.succ_le_succ (zvJ n (x / 2))
theorem zrO:∀(m x n:Nat),n∈zgz m x->n<=64
 |0,_,_,h=>by cases h
 |m+1,x,n,h=>by
  unfold zgz at h;split at h
  .cases h
  .rcases Yya.1 h with rfl|h
   .exact zvJ 64 x
   .exact zrO m _ n h
theorem znD:∀(m x:Nat),(zgz m x).length<=m
 |0,_=>LzB _
 |m+1,x=>by
  unfold zgz;split
  .exact Yzs _
  .exact Nat.succ_le_succ (znD m _)
theorem zDI(k:Nat):∀(m t x:Nat) (acc:List Nat),64<=t+m->x<2^64->(∀n,n<t->x.testBit n=false)->acc.length<=t->t<=64->
  (zgz m x).length+t<=64/\zS (zkK (D k) [I6 0]) [U64 (x:Int)] [ocL enG (grow acc)]=some (.exit 2,[],[ocL enG (grow (acc++zgz m x))]):=by
 intro m;have ext:∀acc:List Nat,zS (zkK (D k) [I6 0]) [U64 ((0:Nat):Int)] [ocL enG (grow acc)]=some (.exit 2,[],[ocL enG (grow (acc++[]))]):=by intro acc;refine zr ?_;simp only[zkK,zA,yU,z7,zb,zm,YzP];rfl
 induction m with
 |zero=>
  intro t x acc h h64 hz ha ht;have:x=0:=by
   refine Nat.eq_of_testBit_eq fun i=>?_;rw[Nat.zero_testBit];by_cases hi:i<t
   .exact hz i hi
   .exact Nat.testBit_lt_two_pow (Lz9 h64 (Nat.pow_le_pow_right (by decide) (by omega)))
  subst this;exact⟨by simpa[zgz] using ht,ext acc⟩
 |succ m ih=>
  intro t x acc h h64 hz ha ht;by_cases h0:x=0
  .subst h0;exact⟨by simpa[zgz] using ht,ext acc⟩
  have hp:0<x:=by omega
  have c:=zHx k hp h64;have t1:=zuO hp h64;have tt:t<=tzN x:=by refine Nat.le_of_not_lt fun hlt=>?_;rw[hz _ hlt]at t1;cases t1
  have t64:tzN x<64:=by obtain⟨_,_,g⟩:=zam 64 x hp h64;exact g
  have hx2:x &&& (x-1)<2^64:=Nat.lt_of_le_of_lt Nat.and_le_left h64;obtain⟨hll,hr⟩:=ih (tzN x+1) (x &&& (x-1)) (acc++[tzN x]) (by omega) hx2 (fun n hn=>by
   rw[zrU hp h64];by_cases he:n=tzN x
   .simp[he]
   .rw[zrT hp h64 (show n<tzN x by omega)];rfl) (by simp;omega) (by omega)
  have em:zgz (m+1) x=tzN x::zgz m (x &&& (x-1)):=Yza h0;refine⟨by rw[em,Yzh];omega,?_⟩
  .have e1:zc .mul (I6 64) (I6 0)=some (I6 0):=rfl;have e2:zc .add (I6 0) (I6 (tzN x:Int))=some (I6 (tzN x:Int)):=by
    rw[show (I6 (tzN x:Int):DV)=I6 (0+(tzN x:Int)) by rw[Int.zero_add],show (I6 (0+(tzN x:Int)):DV)=I6 (tzN x:Int) by rw[Int.zero_add]];exact(zg7 0 (tzN x:Int) (by omega) (by omega)).trans (by rw[Int.zero_add])
   have e3:zc .sub (U64 (x:Int)) (U64 1)=some (U64 ((x-1:Nat):Int)):=by rw[zii,zjs,show ((x:Int)-1) % 18446744073709551616=((x-1:Nat):Int) by omega]
   have e4:=zo7 h64 (show x-1<2^64 by omega);have ef:fits 8 ((grow acc).els.length+1)=true:=xf (by decide) (by rw[zN];omega);have en:(!((x:Int)==0))=true:=by
    have:¬((x:Int)=0):=by omega
    simpa using this
   have body:zkK (D k) [I6 0] [U64 (x:Int)] [ocL enG (grow acc)]=some (.normal,[U64 ((x &&& (x-1):Nat):Int)],[ocL enG (grow (acc++[tzN x]))]):=by rw[xx,<-wj (f:=enG)];unfold D at c ⊢;simp only[zkK,zA,yU,z7,en,zb,zm,if_true,e1,c,zR,e2,xQ,ef,xM,e3,e4,xg];rfl
   rw[zE body,hr,em];simp
theorem t66(k:Nat){s:Nat}(hs:s<2^56):D (k+1) 66 [SA (zsM s)]=some (S1 (enL 1 enG (grow (zgz 64 s)))):=by
 obtain⟨h2,h3⟩:=zDI k 64 0 s [] (by omega) (Nat.lt_trans hs (by decide)) (fun n hn=>by omega) (LzB _) (by omega);rw[show ocL enG (grow ([]:List Nat))=none from rfl,YzM]at h3;have x1:zS (zkK (D k) [I6 1]) [U64 0] [ocL enG (grow (zgz 64 s))]=some (.exit 2,[],[ocL enG (grow (zgz 64 s))]):=by refine zr ?_;simp only[zkK,zA,yU,z7,zb,zm];rfl
 have b0:zpR (D k) (U64 (s:Int)) (U64 0) [I6 0] [none]=some (.normal,[I6 1],[ocL enG (grow (zgz 64 s))]):=by have e0:zc .lss (I6 0) (I6 2)=some (Bo true):=rfl;have i0:uc 2 (I6 0)=some 0:=rfl;have ad:zc .add (I6 0) (I6 1)=some (I6 1):=rfl;simp only[zpR,zA,yU,e0,zb,zm,if_true,i0,y4,h3,yi,Yzq,Yzb,ad]
 have b1:zpR (D k) (U64 (s:Int)) (U64 0) [I6 1] [ocL enG (grow (zgz 64 s))]=some (.normal,[I6 2],[ocL enG (grow (zgz 64 s))]):=by have e0:zc .lss (I6 1) (I6 2)=some (Bo true):=rfl;have i0:uc 2 (I6 1)=some 1:=rfl;have ad:zc .add (I6 1) (I6 1)=some (I6 2):=rfl;simp only[zpR,zA,yU,e0,zb,zm,if_true,i0,y4,ww,x1,yi,Yzq,Yzb,ad]
 have b2:zpR (D k) (U64 (s:Int)) (U64 0) [I6 2] [ocL enG (grow (zgz 64 s))]=some (.exit 0,[],[ocL enG (grow (zgz 64 s))]):=rfl;unfold zsM;rw[D66];unfold P66;rw[zE b0,zE b1,zr b2];simp only[yi,Yzq,Yzb,yU,zbf]
def zp1(l:List Nat):Int:=match l[l.length-1]?,l[0]? with
 |some a,some b=>((a:Nat):Int)-((b:Nat):Int)
 |_,_=>0
theorem t85(k:Nat)(l:List Nat)(hl:l.length<=1000)(hb:∀n∈l,n<=64):D (k+1) 85 [S1 (enL 1 enG (grow l))]=some (S1 (I6 (zp1 l))):=by
 rw[D85];unfold P85 zp1;rw[zg,zN,zb,xO,zb,zm];cases l with
 |nil=>rfl
 |cons a r=>
  have h0:¬(((a::r).length:Int)=0):=by rw[Yzh];omega
  rw[Yza (by simpa using h0)];obtain⟨z,hz⟩:∃z,(a::r)[(a::r).length-1]? = some z:=⟨_,Lz5 (by rw[Yzh];omega)⟩;have b1:=hb z (Lz3 hz);have b2:=hb a (Yzf ..);have sb:zc .sub (I6 ((a::r).length:Int)) (I6 1)=some (I6 (((a::r).length-1:Nat):Int)):=by have h:zc .sub (I6 ((a::r).length:Int)) (I6 1)=some (I6 (((a::r).length:Int)-1)):=zci;exact h.trans (by rw[show ((a::r).length:Int)-1=(((a::r).length-1:Nat):Int) by rw[Yzh];omega])
  have i1:yb 1 (enL 1 enG (grow (a::r))) (I6 (((a::r).length-1:Nat):Int))=some (enG z):=by rw[xC,zN,hz];rfl
  have i2:yb 1 (enL 1 enG (grow (a::r))) (I6 0)=some (enG a):=by rw[i0,xC,zN];rfl
  have s2:zc .sub (I6 (z:Int)) (I6 (a:Int))=some (I6 ((z:Int)-(a:Int))):=zci;simp only[zb,zg,zN,sb,i1,i2,enG,y4,s2,hz];rfl
def zCn(hn hs:Int)(l:List Nat):Bool:=decide ((l.length:Int)<=hn)&&decide (zp1 l<=hs)
theorem t65(k:Nat)(hn hs fn fs:Int)(l:List Nat)(hl:l.length<=1000)(hb:∀n∈l,n<=64):D (k+2) 65 [SA [I6 hn,I6 hs,I6 fn,I6 fs],S1 (enL 1 enG (grow l))]=some (S1 (Bo (zCn hn hs l))):=by have w:=t85 k l hl hb;rw[D65];unfold P65 zCn;simp only[zg,zN,zb,wV,zm,w,zR];by_cases h:(l.length:Int)<=hn<;>simp[h]
theorem t36(k:Nat)(hn hs fn fs:Int)(h:zan hn hs fn fs=0){s:Nat}(h56:s<2^56):D (k+3) 36 [SA [I6 hn,I6 hs,I6 fn,I6 fs],SA (zsM s)]=some (.tup [.one (Bo (zCn hn hs (zgz 64 s))),.one (I6 0)]):=by have c:=t23 (k+1) hn hs fn fs;have m:=t66 (k+1) h56;have w:=t65 k hn hs fn fs (zgz 64 s) (Yzl (znD 64 s) (by decide)) (zrO 64 s);unfold zsM at m ⊢;rw[h]at c;rw[D36];unfold P36;simp only[c,zR,z7,zb,zm,m,w];rfl
end Go.Proofs.Tryz.Kn
end
section
namespace Go.Proofs.Tryz.Kn
open Go Go.CE Go.PE
structure FSt where
 man:Int
 hand:Bool
 feet:Bool
 keys:List Nat
def zlu(ds:List Zo)(i:Int):Bool:=((ds[i.toNat]?).map Zo.pedal).getD false
def ziR(ds:List Zo)(t:Int)(s:FSt)(n:Zh):FSt:=
 if t<n.st then s else if n.fin<=t then s else if zlu ds n.div then⟨s.man,s.hand,false,s.keys⟩ else⟨n.div,s.hand&&(decide (s.man<0)||decide (s.man=n.div)),s.feet,s.keys++[n.key.toNat]⟩
def zwe(ds:List Zo)(t:Int):FSt->List Zh->FSt
 |s,[]=>s
 |s,n::r=>zwe ds t (ziR ds t s n) r
def okN(o:Org)(n:Zh):Prop:=0<=n.div/\n.div<(o.divs.els.length:Int)/\0<=n.key/\n.key<=55
structure FSt.ok (s:FSt):Prop where
 len:∀n∈s.keys,n<=55
 man:s.man<0↔s.keys=[]
theorem znS{o:Org}{t:Int}{s:FSt}{n:Zh}(hn:okN o n)(hs:s.ok):(ziR o.divs.els t s n).ok/\(ziR o.divs.els t s n).keys.length<=s.keys.length+1:=by
 unfold ziR;split
 .exact⟨hs,Yz1 _⟩
 split
 .exact⟨hs,Yz1 _⟩
 split
 .exact⟨⟨hs.len,hs.man⟩,Yz1 _⟩
 .refine⟨⟨fun m hm=>?_,?_⟩,by simp⟩
  .rcases List.mem_append.1 hm with hm|hm
   .exact hs.len m hm
   .rw[Yz6.1 hm];obtain⟨_,_,h3,h4⟩:=hn;omega
  .obtain⟨h1,_,_,_⟩:=hn
   constructor
   .intro h;have h:n.div<0:=h;omega
   .intro h;simp at h
theorem zsr{o:Org}{t:Int}:∀(r:List Zh) (s:FSt),(∀n∈r,okN o n)->s.ok->(zwe o.divs.els t s r).ok/\(zwe o.divs.els t s r).keys.length<=s.keys.length+r.length
 | [],s,_,hs=>⟨hs,LzB _⟩
 |n::r,s,hn,hs=>by obtain⟨h1,h2⟩:=znS (t:=t) (hn n (Yzf ..)) hs;obtain⟨h3,h4⟩:=zsr (t:=t) r _ (fun m hm=>hn m (Yze _ hm)) h1;refine⟨h3,?_⟩;rw[Yzh];exact Yzl h4 (by omega)
theorem zAl{o:Org}{n:Zh}(hn:okN o n):∃d,o.divs.els[n.div.toNat]? = some d/\zlu o.divs.els n.div=d.pedal/\yb 5 (enL 5 enV o.divs) (I6 n.div)=some (enV d):=by obtain⟨h1,h2,_,_⟩:=hn;obtain⟨d,hd⟩:∃d,o.divs.els[n.div.toNat]? = some d:=⟨_,Lz5 (by omega)⟩;refine⟨d,hd,by unfold zlu;rw[hd];rfl,?_⟩;obtain⟨m,hm⟩:∃m:Nat,n.div=(m:Int):=⟨n.div.toNat,by omega⟩;rw[hm]at hd ⊢;rw[YzO]at hd;rw[xC,hd];rfl
theorem zA8{o:Org}{n:Zh}(hn:okN o n):[I6 n.key]=enG n.key.toNat:=by obtain⟨_,_,h3,_⟩:=hn;unfold enG;rw[show ((n.key.toNat:Nat):Int)=n.key by omega]
theorem zDP(o:Org)(t:Int)(l:Sl Zh)(hl:l.els.length<=1000)(hn:∀n∈l.els,okN o n):∀(r:List Zh) (i:Nat) (s:FSt),l.els.drop i=r->s.keys.length<=i->s.ok->
  zS (ztn (I6 (l.els.length:Int)) (enL 4 x7 l) (I6 t) (enL 5 enV o.divs)) [I6 (i:Int),I6 s.man,Bo s.hand,Bo s.feet] [ocL enG (grow s.keys)]=some (.exit 0,[Bo (zwe o.divs.els t s r).hand,Bo (zwe o.divs.els t s r).feet],[ocL enG (grow (zwe o.divs.els t s r).keys)]):=by
 intro r
 induction r with
 |nil=>intro i s h _ _;refine zr ?_;simp only[ztn,zA,yJ,yU,zi,zb,wq (z6 h),zm,zwe];rfl
 |cons n r ih=>
  intro i s h hk hs;have hlt:=yn h;have ok:=hn n (Lz3 (ye h));obtain⟨d,hd,hp,ix⟩:=zAl ok;have ke:=zA8 ok;obtain⟨s1,s2⟩:=znS (t:=t) ok hs;have ea:zc .add (I6 (i:Int)) (I6 1)=some (I6 ((i+1:Nat):Int)):=yG;have ef:fits 8 ((grow s.keys).els.length+1)=true:=xf (by decide) (by rw[zN];omega);have pu:(some ((grow s.keys).els.map enG++[[I6 n.key]]):OC)=ocL enG (grow (s.keys++[n.key.toNat])):=by rw[ke,wj,xx]
  have body:ztn (I6 (l.els.length:Int)) (enL 4 x7 l) (I6 t) (enL 5 enV o.divs) [I6 (i:Int),I6 s.man,Bo s.hand,Bo s.feet] [ocL enG (grow s.keys)]=some (.normal,[I6 ((i+1:Nat):Int),I6 (ziR o.divs.els t s n).man,Bo (ziR o.divs.els t s n).hand,Bo (ziR o.divs.els t s n).feet],[ocL enG (grow (ziR o.divs.els t s n).keys)]):=by
   unfold ziR;rw[hp];simp only[ztn,zA,yJ,yU,zi,zb,zbN hlt,zm,if_true,zX h,x7,y4,ww,ix,enV,xD,z7,ea,xQ,ef,xM,xg,pu,Yzo];by_cases h1:t<n.st
   .simp only[h1,if_true]
   by_cases h2:n.fin<=t
   .simp only[h1,h2,if_true,if_false]
   simp only[h1,h2,if_false];cases d.pedal with
   |true=>simp
   |false=>
    by_cases h3:0<=s.man
    .have h3':¬s.man<0:=by omega
     by_cases h4:s.man=n.div
     .simp[h3,h4,show ¬n.div<0 by omega,show 0<=n.div by omega]
     .simp[h3,h3',h4]
    .have h3':s.man<0:=by omega
     simp[h3,h3']
  rw[zE body,ih (i+1) _ (zJ h) (by omega) s1];rfl
def f0:FSt:=⟨-1,true,true,[]⟩
theorem zBw:f0.ok:=⟨fun _ h=>(by cases h),by simp[f0]⟩
def vL(q:Prb)(t:Int):FSt:=zwe q.o.divs.els t f0 q.x.notes.els
def zyu(q:Prb)(t:Int):Bool:=(vL q t).hand&&(decide ((vL q t).keys=[])||zCn q.hn q.hs (zgz 64 (zpT 0 (vL q t).keys)))
structure Prb.fine (q:Prb):Prop where
 nl:q.x.notes.els.length<=1000
 nt:∀n∈q.x.notes.els,okN q.o n
 sp:zan q.hn q.hs q.fn q.fs=0
 b0:0<q.x.bars.els.length
 b1:q.x.bars.els.length<=1000000
theorem zHh{β:Type}(s:Nat)(e:DV)(K:List DS->Option β):bT [some 2,none] (some (.tup [.agg (zsM s),.one e])) K=K [.agg (zsM s),.one e]:=rfl
theorem zFr{β:Type}(a b:DV)(K:List DS->Option β):bT [none,none] (some (.tup [.one a,.one b])) K=K [.one a,.one b]:=rfl
theorem t34(k:Nat)(q:Prb)(hq:q.fine)(t:Int):D (k+4) 34 [SA (yE q),S1 (I6 t)]=some (.tup [.one (Bo (zyu q t)),.one (Bo (vL q t).feet)]):=by
 have l3:=zDP q.o t q.x.notes hq.nl hq.nt q.x.notes.els 0 f0 rfl (LzB _) zBw;obtain⟨s1,s2⟩:=zsr (t:=t) q.x.notes.els f0 hq.nt zBw;rw[show (f0.keys:List Nat)=[] from rfl,show ocL enG (grow ([]:List Nat))=none from rfl,show f0.man=-1 from rfl,show f0.hand=true from rfl,show f0.feet=true from rfl,show (I6 ((0:Nat):Int):DV)=I6 0 from rfl]at l3;have s2:(vL q t).keys.length<=1000:=Yzl s2 (by show 0+_<=_;have:=hq.nl;omega);have s1:(vL q t).ok:=s1;change _=some (Zf.exit 0,[Bo (vL q t).hand,Bo (vL q t).feet],[ocL enG (grow (vL q t).keys)]) at l3;have of:=t35 (k+1) (grow (vL q t).keys) (by rw[zN];exact s2) (by rw[zN];exact s1.len);have on:=t36 k q.hn q.hs q.fn q.fs hq.sp (s:=zpT 0 (vL q t).keys) (zwV s1.len);rw[zN]at of;unfold yE zyu;rw[D34];unfold P34;rw[zg,zb,l3];simp only[yi,Yzq,Yzb,zA,yJ,yU,zm,xQ,zN,zW,zb,zbf,of,zHh];have e1:SA [atD (dsA (yR [DS.agg (zsM (zpT 0 (vL q t).keys)),.one (I6 0)] 0)) 0,atD (dsA (yR [DS.agg (zsM (zpT 0 (vL q t).keys)),.one (I6 0)] 0)) 1]=SA (zsM (zpT 0 (vL q t).keys)):=rfl;rw[e1,on,zFr];cases (vL q t).hand with
 |false=>rfl
 |true=>
  cases hk:(vL q t).keys with
  |nil=>rfl
  |cons a l=>simp
theorem znZ(l:Sl Int)(h0:0<l.els.length):yb 1 (enL 1 enW l) (I6 0)=some [I6 (zbm l.els)]:=by obtain⟨a,ha⟩:∃a,l.els[0]? = some a:=⟨_,Lz5 h0⟩;unfold zbm;rw[i0,xC,ha];rfl
theorem zrZ(l:Sl Int)(h0:0<l.els.length):yb 1 (enL 1 enW l) (I6 ((l.els.length:Int)-1))=some [I6 (zdL l.els)]:=by obtain⟨a,ha⟩:∃a,l.els[l.els.length-1]? = some a:=⟨_,Lz5 (by omega)⟩;unfold zdL;rw[show (l.els.length:Int)-1=((l.els.length-1:Nat):Int) by omega,xC,ha];rfl
theorem zrW(l:Sl Int)(h1:l.els.length<=1000000):zc .sub (I6 (l.els.length:Int)) (I6 1)=some (I6 ((l.els.length:Int)-1)):=zci
theorem t61(k:Nat)(q:Prb)(hq:q.fine):D (k+1) 61 [SA (yE q)]=some (S1 (I6 (zbm q.x.bars.els))):=by unfold yE;rw[D61];unfold P61;rw[znZ _ hq.b0];rfl
theorem t11(k:Nat)(q:Prb)(hq:q.fine):D (k+1) 11 [SA (yE q)]=some (S1 (I6 (zbm q.x.bars.els))):=by unfold yE;rw[D11];unfold P11;rw[znZ _ hq.b0];rfl
theorem t62(k:Nat)(q:Prb)(hq:q.fine):D (k+1) 62 [SA (yE q)]=some (S1 (I6 (zdL q.x.bars.els))):=by unfold yE;rw[D62];unfold P62;rw[zg,zb,zrW _ hq.b1,zb,zrZ _ hq.b0];rfl
theorem t12(k:Nat)(q:Prb)(hq:q.fine):D (k+1) 12 [SA (yE q)]=some (S1 (I6 (zdL q.x.bars.els))):=by unfold yE;rw[D12];unfold P12;rw[zg,zb,zrW _ hq.b1,zb,zrZ _ hq.b0];rfl
def y6(q:Prb)(t:Int):Int:=if t<zbm q.x.bars.els then 3 else if zdL q.x.bars.els<=t then 3 else 0
theorem t33(k:Nat)(q:Prb)(hq:q.fine)(t:Int):D (k+2) 33 [SA (yE q),S1 (I6 t)]=some (S1 (I6 (y6 q t))):=by
 have c1:=t61 k q hq;have c2:=t62 k q hq;unfold yE at c1 c2 ⊢;rw[D33];unfold P33 y6;simp only[c1,c2,zR,zi,xD,zb,zm,Yzo];by_cases h1:t<zbm q.x.bars.els
 .simp only[h1,if_true]
 .by_cases h2:zdL q.x.bars.els<=t<;>simp only[h1,h2,if_true,if_false]
theorem t10(k:Nat)(q:Prb)(ho:q.ok)(h0:zmu q=0)(hq:q.fine)(t:Int):D (k+13) 10 [SA (yE q),S1 (I6 t)]=some (if y6 q t≠0 then .tup [.one (Bo false),.one (Bo false),.one (I6 (y6 q t))] else .tup [.one (Bo (zyu q t)),.one (Bo (vL q t).feet),.one (I6 0)]):=by
 have c1:=t25 k q ho;have c2:=t33 (k+10) q hq t;have c3:=t34 (k+8) q hq t;rw[h0]at c1;unfold yE at c1 c2 c3 ⊢;rw[D10];unfold P10;simp only[c1,c2,zR,z7,zb,zm,c3,zFr];by_cases h:y6 q t=0
 .simp[h]
 .simp[h]
theorem zpa{o:Org}(h0:0<o.divs.els.length)(hr:∀d∈o.divs.els,0<=d.low/\d.low<=d.high/\d.high<=55)(E:Nat)(s:Snd):okN o (wX o.divs.els E s):=by
 have hi:s.dv % o.divs.els.length<o.divs.els.length:=Yzn _ h0;obtain⟨d,hd⟩:∃d,o.divs.els[s.dv % o.divs.els.length]? = some d:=⟨_,Lz5 hi⟩;obtain⟨r0,r1,r2⟩:=hr d (Lz3 hd);have hk:s.key % (d.high-d.low+1).toNat<(d.high-d.low+1).toNat:=Yzn _ (by omega);unfold okN wX;rw[hd]
 dsimp only
 omega
theorem zdF{o:Org}(h0:0<o.divs.els.length)(hr:∀d∈o.divs.els,0<=d.low/\d.low<=d.high/\d.high<=55)(E:Nat):∀(r:List Snd) (acc:List Zh),(∀n∈acc,okN o n)->∀n∈uD o.divs.els E acc r,okN o n
 | [],_,h=>h
 |s::r,acc,h=>by
  unfold uD;split
  .exact zdF h0 hr E r acc h
  .refine zdF h0 hr E r _ fun n hn=>?_;rcases List.mem_append.1 hn with hn|hn
   .exact h n hn
   .rw[Yz6.1 hn];exact zpa h0 hr E s
theorem zj2(rs:List Zm):∀(l:List Boa) (i:Nat),∀d∈vW rs i l,0<=d.low/\d.low<=d.high/\d.high<=55
 | [],_,_,h=>by cases h
 |b::l,i,d,h=>by
  rcases Yya.1 h with rfl|h
  .show 0<=zfM b/\zfM b<=zbi b/\zbi b<=55;have h1:b.low % 12<12:=Yzn _ (by decide);have h2:b.keys % 9<9:=Yzn _ (by decide);unfold zbi zfM;omega
  .exact zj2 rs l (i+1) d h
theorem zxG(p:Pln):∀d∈(zaW p).divs.els,0<=d.low/\d.low<=d.high/\d.high<=55:=by unfold zaW;rw[zN];exact zj2 _ _ _
theorem zrK(p:CPl)(hp:p.ok)(hf:zcb p=true):(zaM p).fine:=by
 obtain⟨h45,hm,_⟩:=zde hf;have h:=zaA h45;have b4:=h.b4;have n8:=h.n8
 have hl:=zbJ (zaW p.pc.org).divs.els (zpU p.pc) p.pc.notes.els [];have e1:(zaM p).x.notes.els=uD (zaW p.pc.org).divs.els (zpU p.pc) [] p.pc.notes.els:=zN _;have e2:(zaM p).x.bars.els.length=p.pc.bars.els.length+1:=by show (0::wN 0 p.pc.bars.els).length=_;rw[Yzh,uJ]
 have c0:=zhh p hp hf;refine⟨by rw[e1];simp only[Yzv]at hl;omega,?_,?_,by omega,by omega⟩
 .rw[e1];exact zdF (o:=zaW p.pc.org) (zbM p.pc.org h.org) (zxG p.pc.org) _ _ _ fun n hn=>by cases hn
 .refine Classical.byContradiction fun hne=>?_;unfold zmu at c0;rw[show zcT (zaM p).o (zaM p).x=0 from zhi p.pc hp.pc h,Yza (by simp),Yzc hne]at c0;exact hne c0
theorem zHi{β:Type}(q:Prb)(K:List DV->Option β):bA 17 (some (SA (yE q))) K=K (yE q):=rfl
theorem zvV(q:Prb):[atD (yE q) 0,atD (yE q) 1,atD (yE q) 2,atD (yE q) 3,atD (yE q) 4,atD (yE q) 5,atD (yE q) 6,atD (yE q) 7,atD (yE q) 8,atD (yE q) 9,atD (yE q) 10,atD (yE q) 11,atD (yE q) 12,atD (yE q) 13,atD (yE q) 14,atD (yE q) 15,atD (yE q) 16]=yE q:=rfl
end Go.Proofs.Tryz.Kn
end
section
namespace Go.Proofs.Tryz.Kn
open Go Go.CE Go.PE
section
variable {β:Type} {x y:Int} {a b:Option β}
theorem zfV(h:x=y):(za (zc .eql (I6 x) (I6 y)) fun v=>ifB v a b)=a:=by rw[xO,zb,zm,Yzc (by simpa using h)]
theorem zfU(h:¬x=y):(za (zc .eql (I6 x) (I6 y)) fun v=>ifB v a b)=b:=by rw[xO,zb,zm,Yza (by simpa using h)]
theorem zzC(h:x=y):(za (zc .neq (I6 x) (I6 y)) fun v=>ifB v a b)=b:=by rw[z7,zb,zm,Yza (by simpa using h)]
theorem zzB(h:¬x=y):(za (zc .neq (I6 x) (I6 y)) fun v=>ifB v a b)=a:=by rw[z7,zb,zm,Yzc (by simpa using h)]
theorem zD9(h:x<y):(za (zc .lss (I6 x) (I6 y)) fun v=>ifB v a b)=a:=by rw[zi,zb,zm,Yzc (by simpa using h)]
theorem zBh(h:¬x<y):(za (zc .lss (I6 x) (I6 y)) fun v=>ifB v a b)=b:=by rw[zi,zb,zm,Yza (by simpa using h)]
theorem zBi(h:y<=x):(za (zc .geq (I6 x) (I6 y)) fun v=>ifB v a b)=a:=by rw[xD,zb,zm,Yzc (by simpa using h)]
theorem zwc(h:¬y<=x):(za (zc .geq (I6 x) (I6 y)) fun v=>ifB v a b)=b:=by rw[xD,zb,zm,Yza (by simpa using h)]
end
structure Act where
 tick:Int
 way:Int
 kind:Int
 dv:Int
 ix:Int
def xa(a:Act):List DV:=[I6 a.tick,I6 a.way,I6 a.kind,I6 a.dv,I6 a.ix]
def zck(o:Org)(dv:Int):Int:=((o.divs.els[dv.toNat]?).map fun d=>(d.stops.els.length:Int)).getD 0
def zb3(n i:Int):Int:=if 0<=i/\i<n then 0 else 10
def vS(q:Prb)(a:Act):Int:=
 if a.kind=1 then(if 0<=a.dv/\a.dv<(q.o.divs.els.length:Int) then zb3 (zck q.o a.dv) a.ix else 10)
 else if a.dv=0 then zb3 (if a.kind=2 then(q.o.cpls.els.length:Int) else if a.kind=3 then(q.o.divs.els.length:Int) else(q.mems.els.length:Int)) a.ix else 10
def vi(q:Prb)(a:Act):Int:=
 if a.way=1\/a.way=4 then(if 1<=a.kind/\a.kind<=3 then vS q a else 12)
 else if a.way=2\/a.way=3 then(if a.kind=0 then vS q a else 12) else 12
theorem zhS{o:Org}{dv:Int}(h0:0<=dv)(h1:dv<(o.divs.els.length:Int)):∃d,o.divs.els[dv.toNat]? = some d/\zck o dv=(d.stops.els.length:Int)/\yb 5 (enL 5 enV o.divs) (I6 dv)=some (enV d):=by obtain⟨d,hd⟩:∃d,o.divs.els[dv.toNat]? = some d:=⟨_,Lz5 (by omega)⟩;refine⟨d,hd,by unfold zck;rw[hd];rfl,?_⟩;obtain⟨m,hm⟩:∃m:Nat,dv=(m:Int):=⟨dv.toNat,by omega⟩;rw[hm]at hd ⊢;rw[YzO]at hd;rw[xC,hd];rfl
theorem zsc(n i:Int):(za (zc .geq (I6 i) (I6 0)) fun v12=>ifB v12 (za (zc .lss (I6 i) (I6 n)) fun v14=>za (zbG v14) fun v15=>ifB v15 (some (S1 (I6 10))) (some (S1 (I6 0)))) (some (S1 (I6 10))))=some (S1 (I6 (zb3 n i))):=by
 unfold zb3;by_cases h:0<=i
 .rw[zBi h,zi,zb,xI,zb,zm];by_cases h2:i<n<;>simp[h,h2]
 .rw[zwc h,Yza (fun c=>h c.1)]
theorem t37(k:Nat)(q:Prb)(a:Act):D (k+1) 37 [SA (yE q),SA (xa a)]=some (S1 (I6 (vi q a))):=by
 have hk1:∀hk:a.kind=1,(za (zc .geq (I6 a.dv) (I6 0)) fun v2=>ifB v2
   (za (zV (enL 5 enV q.o.divs)) fun v3 => za (zc .lss (I6 a.dv) v3) fun v4 => ifB v4
    (za (zc .geq (I6 a.ix) (I6 0)) fun v5 => ifB v5
     (za (yb 5 (enL 5 enV q.o.divs) (I6 a.dv)) fun x6=>za (zV (atD x6 4)) fun v7=>za (zc .lss (I6 a.ix) v7) fun v8=>za (zbG v8) fun v9=>ifB v9 (some (S1 (I6 10))) (some (S1 (I6 0))))
     (some (S1 (I6 10))))
    (some (S1 (I6 10))))
   (some (S1 (I6 10))))=some (S1 (I6 (vS q a))):=by
  intro hk;unfold vS;rw[Yzc hk];by_cases h1:0<=a.dv
  .rw[zBi h1,zg,zb];by_cases h2:a.dv<(q.o.divs.els.length:Int)
   .obtain⟨d,hd,hs,ix⟩:=zhS h1 h2;have:=zsc (d.stops.els.length:Int) a.ix;have pl:zV (atD (enV d) 4)=some (I6 (d.stops.els.length:Int)):=zg _;rw[zD9 h2,ix,Yzc ⟨h1,h2⟩,hs,<-this];simp only[zb,pl]
   .rw[zBh h2,Yza (fun c=>h2 c.2)]
  .rw[zwc h1,Yza (fun c=>h1 c.1)]
 have hko:∀(n:Int) (v:DV),zV v=some (I6 n)->¬a.kind=1->(if a.kind=2 then(q.o.cpls.els.length:Int) else if a.kind=3 then(q.o.divs.els.length:Int) else(q.mems.els.length:Int))=n->(za (zc .eql (I6 a.dv) (I6 0)) fun v11=>ifB v11
   (za (zc .geq (I6 a.ix) (I6 0)) fun v12=>ifB v12 (za (zV v) fun v13=>za (zc .lss (I6 a.ix) v13) fun v14=>za (zbG v14) fun v15=>ifB v15 (some (S1 (I6 10))) (some (S1 (I6 0)))) (some (S1 (I6 10))))
   (some (S1 (I6 10))))=some (S1 (I6 (vS q a))):=by
  intro n v hv hk hn;unfold vS;rw[Yza hk,hn];by_cases h1:a.dv=0
  .rw[zfV h1,Yzc h1,<-zsc n a.ix,hv];rfl
  .rw[zfU h1,Yza h1]
 unfold yE xa;rw[D37];unfold P37 vi;by_cases w1:a.way=1
 .rw[zfV w1,Yzc (Or.inl w1)];by_cases k1:a.kind=1
  .rw[zfV k1,Yzc (by omega)];exact hk1 k1
  rw[zfU k1];by_cases k2:a.kind=2
  .rw[zfV k2,Yzc (by omega)];exact hko _ _ (zg _) k1 (Yzc k2)
  rw[zfU k2];by_cases k3:a.kind=3
  .rw[zfV k3,Yzc (by omega)];exact hko _ _ (zg _) k1 ((Yza k2).trans (Yzc k3))
  rw[zfU k3,Yza (by omega)]
 rw[zfU w1];by_cases w4:a.way=4
 .rw[zfV w4,Yzc (Or.inr w4)];by_cases k1:a.kind=1
  .rw[zfV k1,Yzc (by omega)];exact hk1 k1
  rw[zfU k1];by_cases k2:a.kind=2
  .rw[zfV k2,Yzc (by omega)];exact hko _ _ (zg _) k1 (Yzc k2)
  rw[zfU k2];by_cases k3:a.kind=3
  .rw[zfV k3,Yzc (by omega)];exact hko _ _ (zg _) k1 ((Yza k2).trans (Yzc k3))
  rw[zfU k3,Yza (by omega)]
 rw[zfU w4,Yza (by omega)];by_cases w2:a.way=2
 .rw[zfV w2,Yzc (Or.inl w2)];by_cases k0:a.kind=0
  .rw[zzC k0,Yzc k0];exact hko _ _ (zg _) (by omega) ((Yza (by omega)).trans (Yza (by omega)))
  rw[zzB k0,Yza k0]
 rw[zfU w2];by_cases w3:a.way=3
 .rw[zfV w3,Yzc (Or.inr w3)];by_cases k0:a.kind=0
  .rw[zzC k0,Yzc k0];exact hko _ _ (zg _) (by omega) ((Yza (by omega)).trans (Yza (by omega)))
  rw[zzB k0,Yza k0]
 rw[zfU w3,Yza (by omega)]
end Go.Proofs.Tryz.Kn
end
section
namespace Go.Proofs.Tryz.Kn
open Go Go.CE Go.PE
section
variable {β:Type} {x y:Int} {k:DV->Option β} {a b:Option β}
theorem vM(h:x=y):za (zc .eql (I6 x) (I6 y)) k=k (Bo true):=by rw[xO,zb,h,Yyh]
theorem yL(h:¬x=y):za (zc .eql (I6 x) (I6 y)) k=k (Bo false):=by rw[xO,zb,show (x==y)=false from beq_eq_false_iff_ne.2 h]
theorem zir(h:¬x=y):za (zc .neq (I6 x) (I6 y)) k=k (Bo true):=by rw[z7,zb,show (x==y)=false from beq_eq_false_iff_ne.2 h];rfl
theorem zgH(h:x=y):za (zc .neq (I6 x) (I6 y)) k=k (Bo false):=by rw[z7,zb,h,Yyh];rfl
theorem zaT(h:x<y):za (zc .lss (I6 x) (I6 y)) k=k (Bo true):=by rw[zi,zb,decide_eq_true h]
theorem uE(h:¬x<y):za (zc .lss (I6 x) (I6 y)) k=k (Bo false):=by rw[zi,zb,decide_eq_false h]
theorem zsn(h:x > y):za (zc .gtr (I6 x) (I6 y)) k=k (Bo true):=by rw[zW,zb,decide_eq_true h]
theorem zgK(h:¬x > y):za (zc .gtr (I6 x) (I6 y)) k=k (Bo false):=by rw[zW,zb,decide_eq_false h]
theorem zlZ(h:x>=y):za (zc .geq (I6 x) (I6 y)) k=k (Bo true):=by rw[xD,zb,decide_eq_true h]
theorem zl0(h:¬x>=y):za (zc .geq (I6 x) (I6 y)) k=k (Bo false):=by rw[xD,zb,decide_eq_false h]
theorem yl:ifB (Bo true) a b=a:=rfl
theorem zK:ifB (Bo false) a b=b:=rfl
theorem zin:za (zbG (Bo true)) k=k (Bo false):=rfl
theorem zpb:za (zbG (Bo false)) k=k (Bo true):=rfl
end
noncomputable def T16(D C M s c o nm nc nd kind dv ix:DV):Option DA:=
 za (zO (some [[nm],[I6 0],[nc],[nd]]) kind)
 fun n116=>za (xY (some [[nm],[I6 0],[nc],[nd]]) n116)
 fun x117=>za (zc .eql kind (I6 1))
 fun v118 => 
 ifB v118 (za (zc .lss dv (I6 0))
 fun v119 => 
 ifB v119 (some (.tup [.agg [.nils,U64 0,U64 0],.one (I6 10)])) (za (zV D)
 fun v120=>za (zc .geq dv v120)
 fun v121 => 
 ifB v121 (some (.tup [.agg [.nils,U64 0,U64 0],.one (I6 10)])) (za (yb 5 D dv)
 fun x122=>za (zV (atD x122 4))
 fun v123=>za (zc .lss ix (I6 0))
 fun v124 => 
 ifB v124 (some (.tup [.agg [.nils,U64 0,U64 0],.one (I6 10)])) (za (zc .geq ix v123)
 fun v125 => 
 ifB v125 (some (.tup [.agg [.nils,U64 0,U64 0],.one (I6 10)])) (za (yq 1 s)
 fun e126=>gd (fits 8 (xH (some [])+(e126:List (List DV)).length)) ( za (zc .eql kind (I6 0))
 fun v127 => 
 ifB v127 (za (yb 3 M ix)
 fun x128=>some (.tup [.agg [atD x128 0,atD x128 1,atD x128 2],.one (I6 0)])) (za (zc .eql kind (I6 1))
 fun v129 => 
 ifB v129 (za (zO (zP (some []) e126) dv)
 fun n130=>za (xY (zP (some []) e126) n130)
 fun x131=>za (zx .u64 ix)
 fun v132=>za (zq true (U64 1) v132)
 fun v133=>za (zc .xor (atD x131 0) v133)
 fun v134=>za (zO (zP (some []) e126) dv)
 fun n135=>za (zaR 1 (zP (some []) e126) n135 0 [v134])
 fun w136=>some (.tup [.agg [mkL 1 w136,c,o],.one (I6 0)])) (za (zc .eql kind (I6 2))
 fun v137 => 
 ifB v137 (za (zx .u64 ix)
 fun v138=>za (zq true (U64 1) v138)
 fun v139=>za (zc .xor c v139)
 fun v140=>some (.tup [.agg [mkL 1 (zP (some []) e126),v140,o],.one (I6 0)])) (za (zx .u64 ix)
 fun v141=>za (zq true (U64 1) v141)
 fun v142=>za (zc .xor o v142)
 fun v143=>some (.tup [.agg [mkL 1 (zP (some []) e126),c,v143],.one (I6 0)])))))))))) (za (zc .neq dv (I6 0))
 fun v144 => 
 ifB v144 (some (.tup [.agg [.nils,U64 0,U64 0],.one (I6 10)])) (za (zc .lss ix (I6 0))
 fun v145 => 
 ifB v145 (some (.tup [.agg [.nils,U64 0,U64 0],.one (I6 10)])) (za (zc .geq ix (atD x117 0))
 fun v146 => 
 ifB v146 (some (.tup [.agg [.nils,U64 0,U64 0],.one (I6 10)])) (za (yq 1 s)
 fun e147=>gd (fits 8 (xH (some [])+(e147:List (List DV)).length)) ( za (zc .eql kind (I6 0))
 fun v148 => 
 ifB v148 (za (yb 3 M ix)
 fun x149=>some (.tup [.agg [atD x149 0,atD x149 1,atD x149 2],.one (I6 0)])) (za (zc .eql kind (I6 1))
 fun v150 => 
 ifB v150 (za (zO (zP (some []) e147) dv)
 fun n151=>za (xY (zP (some []) e147) n151)
 fun x152=>za (zx .u64 ix)
 fun v153=>za (zq true (U64 1) v153)
 fun v154=>za (zc .xor (atD x152 0) v154)
 fun v155=>za (zO (zP (some []) e147) dv)
 fun n156=>za (zaR 1 (zP (some []) e147) n156 0 [v155])
 fun w157=>some (.tup [.agg [mkL 1 w157,c,o],.one (I6 0)])) (za (zc .eql kind (I6 2))
 fun v158 => 
 ifB v158 (za (zx .u64 ix)
 fun v159=>za (zq true (U64 1) v159)
 fun v160=>za (zc .xor c v160)
 fun v161=>some (.tup [.agg [mkL 1 (zP (some []) e147),v161,o],.one (I6 0)])) (za (zx .u64 ix)
 fun v162=>za (zq true (U64 1) v162)
 fun v163=>za (zc .xor o v163)
 fun v164=>some (.tup [.agg [mkL 1 (zP (some []) e147),c,v164],.one (I6 0)])))))))))
section
variable (O:Orc) (u0 u1 u4 u5 u6 u7 u8 u9 u10 u12 u13 u14 u15 u16 s c o tk:DV) (ds:Sl Zo) (cs:Sl Cpl) (ms:Sl Reg) {dv ix:Int}
theorem jb{kd dv ix:DV}:ja (enL 3 zY ms) (enL 5 enC cs) (enL 5 enV ds) kd dv ix s c o=T16 (enL 5 enV ds) (enL 5 enC cs) (enL 3 zY ms) s c o (I6 (ms.els.length:Int)) (I6 (cs.els.length:Int)) (I6 (ds.els.length:Int)) kd dv ix:=by unfold ja;rw[zg,zb,zg,zb,zg,zb];unfold T16;rw[zg]
theorem zzA:P16 O u0 u1 (enL 5 enV ds) (enL 5 enC cs) u4 u5 u6 u7 u8 u9 u10 (enL 3 zY ms) u12 u13 u14 u15 u16 s c o tk (I6 1) (I6 1) (I6 dv) (I6 ix)=T16 (enL 5 enV ds) (enL 5 enC cs) (enL 3 zY ms) s c o (I6 (ms.els.length:Int)) (I6 (cs.els.length:Int)) (I6 (ds.els.length:Int)) (I6 1) (I6 dv) (I6 ix):=by unfold P16;rw[vM (show (1:Int)=1 by decide),yl,yL (show ¬(1:Int)=2 by decide),zK,yL (show ¬(1:Int)=3 by decide),uE (show ¬(1:Int)<1 by decide),zK,zgK (show ¬(1:Int) > 3 by decide),zK,zK];exact jb s c o ds cs ms
theorem zzz:P16 O u0 u1 (enL 5 enV ds) (enL 5 enC cs) u4 u5 u6 u7 u8 u9 u10 (enL 3 zY ms) u12 u13 u14 u15 u16 s c o tk (I6 1) (I6 2) (I6 dv) (I6 ix)=T16 (enL 5 enV ds) (enL 5 enC cs) (enL 3 zY ms) s c o (I6 (ms.els.length:Int)) (I6 (cs.els.length:Int)) (I6 (ds.els.length:Int)) (I6 2) (I6 dv) (I6 ix):=by unfold P16;rw[vM (show (1:Int)=1 by decide),yl,yL (show ¬(1:Int)=2 by decide),zK,yL (show ¬(1:Int)=3 by decide),uE (show ¬(2:Int)<1 by decide),zK,zgK (show ¬(2:Int) > 3 by decide),zK,zK];exact jb s c o ds cs ms
theorem zzy:P16 O u0 u1 (enL 5 enV ds) (enL 5 enC cs) u4 u5 u6 u7 u8 u9 u10 (enL 3 zY ms) u12 u13 u14 u15 u16 s c o tk (I6 1) (I6 3) (I6 dv) (I6 ix)=T16 (enL 5 enV ds) (enL 5 enC cs) (enL 3 zY ms) s c o (I6 (ms.els.length:Int)) (I6 (cs.els.length:Int)) (I6 (ds.els.length:Int)) (I6 3) (I6 dv) (I6 ix):=by unfold P16;rw[vM (show (1:Int)=1 by decide),yl,yL (show ¬(1:Int)=2 by decide),zK,yL (show ¬(1:Int)=3 by decide),uE (show ¬(3:Int)<1 by decide),zK,zgK (show ¬(3:Int) > 3 by decide),zK,zK];exact jb s c o ds cs ms
theorem zzv:P16 O u0 u1 (enL 5 enV ds) (enL 5 enC cs) u4 u5 u6 u7 u8 u9 u10 (enL 3 zY ms) u12 u13 u14 u15 u16 s c o tk (I6 4) (I6 1) (I6 dv) (I6 ix)=T16 (enL 5 enV ds) (enL 5 enC cs) (enL 3 zY ms) s c o (I6 (ms.els.length:Int)) (I6 (cs.els.length:Int)) (I6 (ds.els.length:Int)) (I6 1) (I6 dv) (I6 ix):=by unfold P16;rw[yL (show ¬(4:Int)=1 by decide),zK,vM (show (4:Int)=4 by decide),yL (show ¬(4:Int)=2 by decide),zK,yL (show ¬(4:Int)=3 by decide),zin,zK,yl,uE (show ¬(1:Int)<1 by decide),zK,zgK (show ¬(1:Int) > 3 by decide),zK,zK];exact jb s c o ds cs ms
theorem zzu:P16 O u0 u1 (enL 5 enV ds) (enL 5 enC cs) u4 u5 u6 u7 u8 u9 u10 (enL 3 zY ms) u12 u13 u14 u15 u16 s c o tk (I6 4) (I6 2) (I6 dv) (I6 ix)=T16 (enL 5 enV ds) (enL 5 enC cs) (enL 3 zY ms) s c o (I6 (ms.els.length:Int)) (I6 (cs.els.length:Int)) (I6 (ds.els.length:Int)) (I6 2) (I6 dv) (I6 ix):=by unfold P16;rw[yL (show ¬(4:Int)=1 by decide),zK,vM (show (4:Int)=4 by decide),yL (show ¬(4:Int)=2 by decide),zK,yL (show ¬(4:Int)=3 by decide),zin,zK,yl,uE (show ¬(2:Int)<1 by decide),zK,zgK (show ¬(2:Int) > 3 by decide),zK,zK];exact jb s c o ds cs ms
theorem zzt:P16 O u0 u1 (enL 5 enV ds) (enL 5 enC cs) u4 u5 u6 u7 u8 u9 u10 (enL 3 zY ms) u12 u13 u14 u15 u16 s c o tk (I6 4) (I6 3) (I6 dv) (I6 ix)=T16 (enL 5 enV ds) (enL 5 enC cs) (enL 3 zY ms) s c o (I6 (ms.els.length:Int)) (I6 (cs.els.length:Int)) (I6 (ds.els.length:Int)) (I6 3) (I6 dv) (I6 ix):=by unfold P16;rw[yL (show ¬(4:Int)=1 by decide),zK,vM (show (4:Int)=4 by decide),yL (show ¬(4:Int)=2 by decide),zK,yL (show ¬(4:Int)=3 by decide),zin,zK,yl,uE (show ¬(3:Int)<1 by decide),zK,zgK (show ¬(3:Int) > 3 by decide),zK,zK];exact jb s c o ds cs ms
theorem zzx:P16 O u0 u1 (enL 5 enV ds) (enL 5 enC cs) u4 u5 u6 u7 u8 u9 u10 (enL 3 zY ms) u12 u13 u14 u15 u16 s c o tk (I6 2) (I6 0) (I6 dv) (I6 ix)=T16 (enL 5 enV ds) (enL 5 enC cs) (enL 3 zY ms) s c o (I6 (ms.els.length:Int)) (I6 (cs.els.length:Int)) (I6 (ds.els.length:Int)) (I6 0) (I6 dv) (I6 ix):=by unfold P16;rw[yL (show ¬(2:Int)=1 by decide),zK,yL (show ¬(2:Int)=4 by decide),vM (show (2:Int)=2 by decide),yl,zpb,yl,zK,zgH (show (0:Int)=0 by decide),zK];exact jb s c o ds cs ms
theorem zzw:P16 O u0 u1 (enL 5 enV ds) (enL 5 enC cs) u4 u5 u6 u7 u8 u9 u10 (enL 3 zY ms) u12 u13 u14 u15 u16 s c o tk (I6 3) (I6 0) (I6 dv) (I6 ix)=T16 (enL 5 enV ds) (enL 5 enC cs) (enL 3 zY ms) s c o (I6 (ms.els.length:Int)) (I6 (cs.els.length:Int)) (I6 (ds.els.length:Int)) (I6 0) (I6 dv) (I6 ix):=by unfold P16;rw[yL (show ¬(3:Int)=1 by decide),zK,yL (show ¬(3:Int)=4 by decide),yL (show ¬(3:Int)=2 by decide),zK,vM (show (3:Int)=3 by decide),zpb,yl,zin,zK,zK,yl,zgH (show (0:Int)=0 by decide),zK];exact jb s c o ds cs ms
theorem zwz{kd:Int}(hkL_lss1:kd<1):P16 O u0 u1 (enL 5 enV ds) (enL 5 enC cs) u4 u5 u6 u7 u8 u9 u10 (enL 3 zY ms) u12 u13 u14 u15 u16 s c o tk (I6 1) (I6 kd) (I6 dv) (I6 ix)=some (.tup [.agg [.nils,U64 0,U64 0],.one (I6 12)]):=by unfold P16;rw[vM (show (1:Int)=1 by decide),yl,yL (show ¬(1:Int)=2 by decide),zK,yL (show ¬(1:Int)=3 by decide),zaT hkL_lss1,yl]
theorem zwv{kd:Int}(hkL_lss1:kd<1):P16 O u0 u1 (enL 5 enV ds) (enL 5 enC cs) u4 u5 u6 u7 u8 u9 u10 (enL 3 zY ms) u12 u13 u14 u15 u16 s c o tk (I6 4) (I6 kd) (I6 dv) (I6 ix)=some (.tup [.agg [.nils,U64 0,U64 0],.one (I6 12)]):=by unfold P16;rw[yL (show ¬(4:Int)=1 by decide),zK,vM (show (4:Int)=4 by decide),yL (show ¬(4:Int)=2 by decide),zK,yL (show ¬(4:Int)=3 by decide),zin,zK,yl,zaT hkL_lss1,yl]
theorem zwA{kd:Int}(hkG_lss1:¬kd<1)(hkG_gtr3:kd > 3):P16 O u0 u1 (enL 5 enV ds) (enL 5 enC cs) u4 u5 u6 u7 u8 u9 u10 (enL 3 zY ms) u12 u13 u14 u15 u16 s c o tk (I6 1) (I6 kd) (I6 dv) (I6 ix)=some (.tup [.agg [.nils,U64 0,U64 0],.one (I6 12)]):=by unfold P16;rw[vM (show (1:Int)=1 by decide),yl,yL (show ¬(1:Int)=2 by decide),zK,yL (show ¬(1:Int)=3 by decide),uE hkG_lss1,zK,zsn hkG_gtr3,yl]
theorem zww{kd:Int}(hkG_lss1:¬kd<1)(hkG_gtr3:kd > 3):P16 O u0 u1 (enL 5 enV ds) (enL 5 enC cs) u4 u5 u6 u7 u8 u9 u10 (enL 3 zY ms) u12 u13 u14 u15 u16 s c o tk (I6 4) (I6 kd) (I6 dv) (I6 ix)=some (.tup [.agg [.nils,U64 0,U64 0],.one (I6 12)]):=by unfold P16;rw[yL (show ¬(4:Int)=1 by decide),zK,vM (show (4:Int)=4 by decide),yL (show ¬(4:Int)=2 by decide),zK,yL (show ¬(4:Int)=3 by decide),zin,zK,yl,uE hkG_lss1,zK,zsn hkG_gtr3,yl]
theorem zwy{kd:Int}(hkN_neq0:¬kd=0):P16 O u0 u1 (enL 5 enV ds) (enL 5 enC cs) u4 u5 u6 u7 u8 u9 u10 (enL 3 zY ms) u12 u13 u14 u15 u16 s c o tk (I6 2) (I6 kd) (I6 dv) (I6 ix)=some (.tup [.agg [.nils,U64 0,U64 0],.one (I6 12)]):=by unfold P16;rw[yL (show ¬(2:Int)=1 by decide),zK,yL (show ¬(2:Int)=4 by decide),vM (show (2:Int)=2 by decide),yl,zpb,yl,zK,zir hkN_neq0,yl]
theorem zwx{kd:Int}(hkN_neq0:¬kd=0):P16 O u0 u1 (enL 5 enV ds) (enL 5 enC cs) u4 u5 u6 u7 u8 u9 u10 (enL 3 zY ms) u12 u13 u14 u15 u16 s c o tk (I6 3) (I6 kd) (I6 dv) (I6 ix)=some (.tup [.agg [.nils,U64 0,U64 0],.one (I6 12)]):=by unfold P16;rw[yL (show ¬(3:Int)=1 by decide),zK,yL (show ¬(3:Int)=4 by decide),yL (show ¬(3:Int)=2 by decide),zK,vM (show (3:Int)=3 by decide),zpb,yl,zin,zK,zK,yl,zir hkN_neq0,yl]
theorem zCF{wy kd:Int}(hw_eql1:¬wy=1)(hw_eql4:¬wy=4)(hw_eql2:¬wy=2)(hw_eql3:¬wy=3):P16 O u0 u1 (enL 5 enV ds) (enL 5 enC cs) u4 u5 u6 u7 u8 u9 u10 (enL 3 zY ms) u12 u13 u14 u15 u16 s c o tk (I6 wy) (I6 kd) (I6 dv) (I6 ix)=some (.tup [.agg [.nils,U64 0,U64 0],.one (I6 12)]):=by unfold P16;rw[yL hw_eql1,zK,yL hw_eql4,yL hw_eql2,zK,yL hw_eql3,zpb,yl,zpb,yl]
end
end Go.Proofs.Tryz.Kn
end
section
namespace Go.Proofs.Tryz.Kn
open Go Go.CE Go.PE
def zCa(a b:Int):Int:=IntKind.wrap .u64 (BitVec.ofInt IntKind.u64.bits a ^^^ BitVec.ofInt IntKind.u64.bits b).toNat
theorem zo2(x y:Int):zc .xor (U64 x) (U64 y)=some (U64 (zCa x y)):=(rfl)
def zyO(ix:Int):Int:=((2^ix.toNat:Nat):Int)
theorem zwU{ix:Int}(h0:0<=ix)(h1:ix<=62):zq true (U64 1) (I6 ix)=some (U64 (zyO ix)):=by obtain⟨m,rfl⟩:∃m:Nat,ix=(m:Int):=⟨ix.toNat,by omega⟩;unfold zyO;rw[YzO];exact zo3 (by omega)
theorem zwT{ix:Int}(h0:0<=ix)(h1:ix<=62):zq true (U64 1) (U64 ix)=some (U64 (zyO ix)):=by obtain⟨m,rfl⟩:∃m:Nat,ix=(m:Int):=⟨ix.toNat,by omega⟩;unfold zyO;rw[YzO];exact zo3 (by omega)
theorem zsS{ix:Int}(h0:0<=ix)(h1:ix<=62):zx .u64 (I6 ix)=some (U64 ix):=by obtain⟨m,rfl⟩:∃m:Nat,ix=(m:Int):=⟨ix.toNat,by omega⟩;exact zi7 (by omega)
def wT(q:Prb)(r:Reg)(a:Act):Reg:=
 if a.kind=0 then(q.mems.els[a.ix.toNat]?).getD r
 else if a.kind=1 then⟨some (r.stops.els.set a.dv.toNat (zCa ((r.stops.els[a.dv.toNat]?).getD 0) (zyO a.ix))),r.cpls,r.off⟩
 else if a.kind=2 then⟨r.stops,zCa r.cpls (zyO a.ix),r.off⟩ else⟨r.stops,r.cpls,zCa r.off (zyO a.ix)⟩
structure Prb.small (q:Prb):Prop where
 nd:q.o.divs.els.length<=60
 ns:∀d∈q.o.divs.els,d.stops.els.length<=60
 nc:q.o.cpls.els.length<=60
 nm:q.mems.els.length<=1000
 ms:∀m∈q.mems.els,∃l,m.stops=some l/\l.length=q.o.divs.els.length
theorem uZ(e:List (List DV)):zP (some []) e=some e:=by cases e<;>rfl
theorem zqs{l:List Int}{n:Nat}(hn:n<l.length)(v:Int):zaR 1 (some (l.map enU)) n 0 [U64 v]=some (some ((l.set n v).map enU)):=by
 obtain⟨x,hx⟩:∃x,l[n]? = some x:=⟨_,Lz5 hn⟩;have hm:(l.map enU)[n]? = some (enU x):=by rw[Lz6,hx];rfl
 show (match (l.map enU)[n]? with
  |some x=>bif Nat.ble (0+1) 1 then some (some ((l.map enU).set n (x.take 0++[U64 v]++x.drop (0+1)))) else none
  |none=>none)=_
 rw[hm,List.map_set];rfl
theorem zv9{q:Prb}{ix:Int}(h0:0<=ix)(h1:ix<(q.mems.els.length:Int)):∃m,q.mems.els[ix.toNat]? = some m/\yb 3 (enL 3 zY q.mems) (I6 ix)=some (zY m):=by obtain⟨m,hm⟩:∃m,q.mems.els[ix.toNat]? = some m:=⟨_,Lz5 (by omega)⟩;refine⟨m,hm,?_⟩;obtain⟨n,hn⟩:∃n:Nat,ix=(n:Int):=⟨ix.toNat,by omega⟩;rw[hn]at hm ⊢;rw[YzO]at hm;rw[xC,hm];rfl
def zui(q:Prb)(r:Reg)(a:Act)(e:Int):DA:=if e≠0 then .tup [.agg [.nils,U64 0,U64 0],.one (I6 e)] else .tup [.agg (zY (wT q r a)),.one (I6 0)]
theorem zek{q:Prb}{r:Reg}{a:Act}{e:Int}(h:e=10):zui q r a e=.tup [.agg [.nils,U64 0,U64 0],.one (I6 10)]:=by subst h;rfl
theorem znk{q:Prb}{r:Reg}{a:Act}{e:Int}(h:e=0):zui q r a e=.tup [.agg (zY (wT q r a)),.one (I6 0)]:=by subst h;rfl
theorem zeS{n i:Int}(h:i<0):zb3 n i=10:=Yza (by omega)
theorem zeT{n i:Int}(h:i>=n):zb3 n i=10:=Yza (by omega)
theorem zeR{n i:Int}(h0:¬i<0)(h1:¬i>=n):zb3 n i=0:=Yzc (by omega)
section
variable {q:Prb} (hs:q.small) {r:Reg} {l:List Int} (hr:r.stops=some l) (hl:l.length=q.o.divs.els.length) (tk wy dv ix:Int)
include hs hr hl
theorem zzS:T16 (enL 5 enV q.o.divs) (enL 5 enC q.o.cpls) (enL 3 zY q.mems) (enL 1 enU r.stops) (U64 r.cpls) (U64 r.off) (I6 (q.mems.els.length:Int)) (I6 (q.o.cpls.els.length:Int)) (I6 (q.o.divs.els.length:Int)) (I6 0) (I6 dv) (I6 ix)=some (zui q r ⟨tk,wy,0,dv,ix⟩ (vS q ⟨tk,wy,0,dv,ix⟩)):=by
 have i2:zO (some [[I6 (q.mems.els.length:Int)],[I6 0],[I6 (q.o.cpls.els.length:Int)],[I6 (q.o.divs.els.length:Int)]]) (I6 0)=some 0:=rfl;have n2:xY (some [[I6 (q.mems.els.length:Int)],[I6 0],[I6 (q.o.cpls.els.length:Int)],[I6 (q.o.divs.els.length:Int)]]) 0=some [I6 (q.mems.els.length:Int)]:=rfl;have de:vS q ⟨tk,wy,0,dv,ix⟩=if dv=0 then zb3 (q.mems.els.length:Int) ix else 10:=rfl
 have ff:fits 8 (xH (some [])+(l.map enU).length)=true:=xf (by decide) (by rw[k8,Yzm];have:=hs.nd;simp only[Yzv];omega);unfold T16;rw[i2,zb,n2,zb,yL (show ¬(0:Int)=1 by decide),zK];by_cases h1:dv=0
 .rw[zgH h1,zK,de,Yzc h1];by_cases h2:ix<0
  .rw[zaT h2,yl,zek (zeS h2)]
  rw[uE h2,zK,y4];by_cases h3:ix>=(q.mems.els.length:Int)
  .rw[zlZ h3,yl,zek (zeT h3)]
  obtain⟨m,hm,ixm⟩:=zv9 (q:=q) (ix:=ix) (by omega) (by omega);rw[zl0 h3,zK,hr,ul,zb,yW,ff,xM,vM rfl,yl,ixm,zb,znk (zeR h2 h3)];unfold wT;rw[Yzc rfl,hm];rfl
 .rw[zir h1,yl,de,Yza h1];rfl
theorem zzQ:T16 (enL 5 enV q.o.divs) (enL 5 enC q.o.cpls) (enL 3 zY q.mems) (enL 1 enU r.stops) (U64 r.cpls) (U64 r.off) (I6 (q.mems.els.length:Int)) (I6 (q.o.cpls.els.length:Int)) (I6 (q.o.divs.els.length:Int)) (I6 2) (I6 dv) (I6 ix)=some (zui q r ⟨tk,wy,2,dv,ix⟩ (vS q ⟨tk,wy,2,dv,ix⟩)):=by
 have i2:zO (some [[I6 (q.mems.els.length:Int)],[I6 0],[I6 (q.o.cpls.els.length:Int)],[I6 (q.o.divs.els.length:Int)]]) (I6 2)=some 2:=rfl;have n2:xY (some [[I6 (q.mems.els.length:Int)],[I6 0],[I6 (q.o.cpls.els.length:Int)],[I6 (q.o.divs.els.length:Int)]]) 2=some [I6 (q.o.cpls.els.length:Int)]:=rfl;have de:vS q ⟨tk,wy,2,dv,ix⟩=if dv=0 then zb3 (q.o.cpls.els.length:Int) ix else 10:=rfl
 have ff:fits 8 (xH (some [])+(l.map enU).length)=true:=xf (by decide) (by rw[k8,Yzm];have:=hs.nd;simp only[Yzv];omega);have hc:=hs.nc;unfold T16;rw[i2,zb,n2,zb,yL (show ¬(2:Int)=1 by decide),zK];by_cases h1:dv=0
 .rw[zgH h1,zK,de,Yzc h1];by_cases h2:ix<0
  .rw[zaT h2,yl,zek (zeS h2)]
  rw[uE h2,zK,y4];by_cases h3:ix>=(q.o.cpls.els.length:Int)
  .rw[zlZ h3,yl,zek (zeT h3)]
  rw[zl0 h3,zK,hr,ul,zb,yW,ff,xM,yL (show ¬(2:Int)=0 by decide),zK,yL (show ¬(2:Int)=1 by decide),zK,vM rfl,yl,zsS (by omega) (by omega),zb,zwT (by omega) (by omega),zb,zo2,zb,uZ,znk (zeR h2 h3)];unfold wT;rw[Yza (by simp),Yza (by simp),Yzc rfl,hr];rfl
 .rw[zir h1,yl,de,Yza h1];rfl
theorem zzP:T16 (enL 5 enV q.o.divs) (enL 5 enC q.o.cpls) (enL 3 zY q.mems) (enL 1 enU r.stops) (U64 r.cpls) (U64 r.off) (I6 (q.mems.els.length:Int)) (I6 (q.o.cpls.els.length:Int)) (I6 (q.o.divs.els.length:Int)) (I6 3) (I6 dv) (I6 ix)=some (zui q r ⟨tk,wy,3,dv,ix⟩ (vS q ⟨tk,wy,3,dv,ix⟩)):=by
 have i2:zO (some [[I6 (q.mems.els.length:Int)],[I6 0],[I6 (q.o.cpls.els.length:Int)],[I6 (q.o.divs.els.length:Int)]]) (I6 3)=some 3:=rfl;have n2:xY (some [[I6 (q.mems.els.length:Int)],[I6 0],[I6 (q.o.cpls.els.length:Int)],[I6 (q.o.divs.els.length:Int)]]) 3=some [I6 (q.o.divs.els.length:Int)]:=rfl;have de:vS q ⟨tk,wy,3,dv,ix⟩=if dv=0 then zb3 (q.o.divs.els.length:Int) ix else 10:=rfl
 have ff:fits 8 (xH (some [])+(l.map enU).length)=true:=xf (by decide) (by rw[k8,Yzm];have:=hs.nd;simp only[Yzv];omega);have hc:=hs.nd;unfold T16;rw[i2,zb,n2,zb,yL (show ¬(3:Int)=1 by decide),zK];by_cases h1:dv=0
 .rw[zgH h1,zK,de,Yzc h1];by_cases h2:ix<0
  .rw[zaT h2,yl,zek (zeS h2)]
  rw[uE h2,zK,y4];by_cases h3:ix>=(q.o.divs.els.length:Int)
  .rw[zlZ h3,yl,zek (zeT h3)]
  rw[zl0 h3,zK,hr,ul,zb,yW,ff,xM,yL (show ¬(3:Int)=0 by decide),zK,yL (show ¬(3:Int)=1 by decide),zK,yL (show ¬(3:Int)=2 by decide),zK,zsS (by omega) (by omega),zb,zwT (by omega) (by omega),zb,zo2,zb,uZ,znk (zeR h2 h3)];unfold wT;rw[Yza (by simp),Yza (by simp),Yza (by simp),hr];rfl
 .rw[zir h1,yl,de,Yza h1];rfl
theorem zzR:T16 (enL 5 enV q.o.divs) (enL 5 enC q.o.cpls) (enL 3 zY q.mems) (enL 1 enU r.stops) (U64 r.cpls) (U64 r.off) (I6 (q.mems.els.length:Int)) (I6 (q.o.cpls.els.length:Int)) (I6 (q.o.divs.els.length:Int)) (I6 1) (I6 dv) (I6 ix)=some (zui q r ⟨tk,wy,1,dv,ix⟩ (vS q ⟨tk,wy,1,dv,ix⟩)):=by
 have i2:zO (some [[I6 (q.mems.els.length:Int)],[I6 0],[I6 (q.o.cpls.els.length:Int)],[I6 (q.o.divs.els.length:Int)]]) (I6 1)=some 1:=rfl;have n2:xY (some [[I6 (q.mems.els.length:Int)],[I6 0],[I6 (q.o.cpls.els.length:Int)],[I6 (q.o.divs.els.length:Int)]]) 1=some [I6 0]:=rfl;have de:vS q ⟨tk,wy,1,dv,ix⟩=if 0<=dv/\dv<(q.o.divs.els.length:Int) then zb3 (zck q.o dv) ix else 10:=rfl
 have ff:fits 8 (xH (some [])+(l.map enU).length)=true:=xf (by decide) (by rw[k8,Yzm];have:=hs.nd;simp only[Yzv];omega);unfold T16;rw[i2,zb,n2,zb,vM rfl,yl];by_cases h1:dv<0
 .rw[zaT h1,yl,de,Yza (by omega)];rfl
 rw[uE h1,zK,zg,zb];by_cases h2:dv>=(q.o.divs.els.length:Int)
 .rw[zlZ h2,yl,de,Yza (by omega)];rfl
 obtain⟨d,hd,hst,ixd⟩:=zhS (o:=q.o) (dv:=dv) (by omega) (by omega);have hds:=hs.ns d (Lz3 hd);have pl:zV (atD (enV d) 4)=some (I6 (d.stops.els.length:Int)):=zg _;rw[zl0 h2,zK,ixd,zb,pl,zb,de,Yzc (by omega),hst];by_cases h3:ix<0
 .rw[zaT h3,yl,zek (zeS h3)]
 rw[uE h3,zK];by_cases h4:ix>=(d.stops.els.length:Int)
 .rw[zlZ h4,yl,zek (zeT h4)]
 obtain⟨n,hn⟩:∃n:Nat,dv=(n:Int):=⟨dv.toNat,by omega⟩;have hnl:n<l.length:=by omega
 obtain⟨x,hx⟩:∃x,l[n]? = some x:=⟨_,Lz5 hnl⟩;have p1:zO (some (l.map enU)) (I6 dv)=some n:=by rw[hn];exact zcU (by rw[Yzm];exact hnl)
 have p2:xY (some (l.map enU)) n=some (enU x):=by rw[zcY,hx];rfl
 rw[zl0 h4,zK,hr,ul,zb,yW,ff,xM,yL (show ¬(1:Int)=0 by decide),zK,vM rfl,yl,uZ,p1,zb,p2,zb,zsS (by omega) (by omega),zb,zwT (by omega) (by omega),zb,show atD (enU x) 0=U64 x from rfl,zo2,zb,zb,zqs hnl,zb,znk (zeR h3 h4)];unfold wT;rw[Yza (by simp),Yzc rfl,hr]
 dsimp only
 rw[hn,YzO,yW,hx];rfl
end
theorem t16(k:Nat)(q:Prb)(hs:q.small)(r:Reg){l:List Int}(hr:r.stops=some l)(hl:l.length=q.o.divs.els.length)(a:Act):D (k+1) 16 [SA (yE q),SA (zY r),SA (xa a)]=some (zui q r a (vi q a)):=by
 obtain⟨tk,wy,kd,dv,ix⟩:=a;unfold yE xa;rw[show zY r=[enL 1 enU r.stops,U64 r.cpls,U64 r.off] from rfl,D16]
 dsimp only
 by_cases w1:wy=1
 .subst w1;have ae:vi q ⟨tk,1,kd,dv,ix⟩=if 1<=kd/\kd<=3 then vS q ⟨tk,1,kd,dv,ix⟩ else 12:=rfl
  by_cases hk:kd<1
  .rw[zwz (hkL_lss1:=hk),ae,Yza (by omega)];rfl
  by_cases hk3:kd > 3
  .rw[zwA (hkG_lss1:=hk) (hkG_gtr3:=hk3),ae,Yza (by omega)];rfl
  rw[ae,Yzc (by omega)];rcases (show kd=1\/kd=2\/kd=3 by omega) with rfl|rfl|rfl
  .rw[zzA];exact zzR hs hr hl ..
  .rw[zzz];exact zzQ hs hr hl ..
  .rw[zzy];exact zzP hs hr hl ..
 by_cases w4:wy=4
 .subst w4;have ae:vi q ⟨tk,4,kd,dv,ix⟩=if 1<=kd/\kd<=3 then vS q ⟨tk,4,kd,dv,ix⟩ else 12:=rfl
  by_cases hk:kd<1
  .rw[zwv (hkL_lss1:=hk),ae,Yza (by omega)];rfl
  by_cases hk3:kd > 3
  .rw[zww (hkG_lss1:=hk) (hkG_gtr3:=hk3),ae,Yza (by omega)];rfl
  rw[ae,Yzc (by omega)];rcases (show kd=1\/kd=2\/kd=3 by omega) with rfl|rfl|rfl
  .rw[zzv];exact zzR hs hr hl ..
  .rw[zzu];exact zzQ hs hr hl ..
  .rw[zzt];exact zzP hs hr hl ..
 by_cases w2:wy=2
 .subst w2;have ae:vi q ⟨tk,2,kd,dv,ix⟩=if kd=0 then vS q ⟨tk,2,kd,dv,ix⟩ else 12:=rfl
  by_cases hk:kd=0
  .subst hk;rw[ae,Yzc rfl,zzx];exact zzS hs hr hl ..
  .rw[zwy (hkN_neq0:=hk),ae,Yza hk];rfl
 by_cases w3:wy=3
 .subst w3;have ae:vi q ⟨tk,3,kd,dv,ix⟩=if kd=0 then vS q ⟨tk,3,kd,dv,ix⟩ else 12:=rfl
  by_cases hk:kd=0
  .subst hk;rw[ae,Yzc rfl,zzw];exact zzS hs hr hl ..
  .rw[zwx (hkN_neq0:=hk),ae,Yza hk];rfl
 .rw[zCF (hw_eql1:=w1) (hw_eql4:=w4) (hw_eql2:=w2) (hw_eql3:=w3)];unfold vi;rw[Yza (fun h=>h.elim w1 w4),Yza (fun h=>h.elim w2 w3)];rfl
end Go.Proofs.Tryz.Kn
end
section
namespace Go.Proofs.Tryz.Kn
open Go Go.CE Go.PE
theorem zsd{n i:Int}(h:zb3 n i=0):0<=i/\i<n:=by
 unfold zb3 at h;by_cases hc:0<=i/\i<n
 .exact hc
 .rw[Yza hc]at h;cases h
theorem zyJ{q:Prb}{tk wy dv ix:Int}(h:vS q ⟨tk,wy,1,dv,ix⟩=0):0<=dv/\dv<(q.o.divs.els.length:Int)/\0<=ix/\ix<zck q.o dv:=by
 have de:vS q ⟨tk,wy,1,dv,ix⟩=if 0<=dv/\dv<(q.o.divs.els.length:Int) then zb3 (zck q.o dv) ix else 10:=rfl
 rw[de]at h;by_cases hc:0<=dv/\dv<(q.o.divs.els.length:Int)
 .rw[Yzc hc]at h;exact⟨hc.1,hc.2,zsd h⟩
 .rw[Yza hc]at h;cases h
theorem zme{q:Prb}{tk wy kd dv ix:Int}(hk:¬kd=1)(h:vS q ⟨tk,wy,kd,dv,ix⟩=0):0<=ix/\ix<(if kd=2 then(q.o.cpls.els.length:Int) else if kd=3 then(q.o.divs.els.length:Int) else(q.mems.els.length:Int)):=by
 have de:vS q ⟨tk,wy,kd,dv,ix⟩=if kd=1 then(if 0<=dv/\dv<(q.o.divs.els.length:Int) then zb3 (zck q.o dv) ix else 10) else if dv=0 then zb3 (if kd=2 then(q.o.cpls.els.length:Int) else if kd=3 then(q.o.divs.els.length:Int) else(q.mems.els.length:Int)) ix else 10:=rfl
 rw[de,Yza hk]at h;by_cases hc:dv=0
 .rw[Yzc hc]at h;exact zsd h
 .rw[Yza hc]at h;cases h
section
variable {q:Prb} (hs:q.small) {r:Reg} {l:List Int} (hr:r.stops=some l) (hl:l.length=q.o.divs.els.length)
include hs hr hl
omit hr in
theorem zBt:fits 8 (xH (some [])+(l.map enU).length)=true:=xf (by decide) (by rw[k8,Yzm];have:=hs.nd;simp only[Yzv];omega)
omit hr in
theorem zm7{ix:Int}(h0:0<=ix)(h1:ix<(q.mems.els.length:Int)):(za (yb 3 (enL 3 zY q.mems) (I6 ix)) fun x1=>za (zdA (atD x1 0)) fun q2=>ifB (.bool q2) (some (SA [.nils,atD x1 1,atD x1 2])) (za (yq 1 (atD x1 0)) fun e3=>gd (fits 8 (xH (some [])+(e3:List (List DV)).length)) (some (SA [mkL 1 (zP (some []) e3),atD x1 1,atD x1 2]))))=some (SA (zY ((q.mems.els[ix.toNat]?).getD r))):=by
 obtain⟨m,hm,ixm⟩:=zv9 (q:=q) h0 h1;obtain⟨lm,e1,e2⟩:=hs.ms m (Lz3 hm);have ff:fits 8 (xH (some [])+(lm.map enU).length)=true:=xf (by decide) (by rw[k8,Yzm];have:=hs.nd;simp only[Yzv];omega);have a0:atD (zY m) 0=enL 1 enU (some lm):=by rw[<-e1];rfl
 rw[ixm,zb,a0,zjQ,zb,show (some lm:Sl Int).isNone=false from rfl,zK,ul,zb,yW,ff,xM,uZ,hm];show some (SA [enL 1 enU (some lm),U64 m.cpls,U64 m.off])=some (SA (zY m));rw[<-e1];rfl
theorem ztP{tk wy kd dv ix:Int}(hk:kd=1\/kd=2\/kd=3)(he:vS q ⟨tk,wy,kd,dv,ix⟩=0):
  (za (yq 1 (enL 1 enU r.stops)) fun e19 => gd (fits 8 (xH (some []) + (e19 : List (List DV)).length)) (za (zc .eql (I6 kd) (I6 1)) fun v20 => ifB v20
   (za (zO (zP (some []) e19) (I6 dv)) fun n21=>za (xY (zP (some []) e19) n21) fun x22=>za (zq true (U64 1) (I6 ix)) fun v23=>za (zc .xor (atD x22 0) v23) fun v24=>za (zO (zP (some []) e19) (I6 dv)) fun n25=>za (zaR 1 (zP (some []) e19) n25 0 [v24]) fun w26=>some (SA [mkL 1 w26,U64 r.cpls,U64 r.off]))
   (za (zc .eql (I6 kd) (I6 2)) fun v27 => ifB v27
    (za (zq true (U64 1) (I6 ix)) fun v28=>za (zc .xor (U64 r.cpls) v28) fun v29=>some (SA [mkL 1 (zP (some []) e19),v29,U64 r.off]))
    (za (zq true (U64 1) (I6 ix)) fun v30=>za (zc .xor (U64 r.off) v30) fun v31=>some (SA [mkL 1 (zP (some []) e19),U64 r.cpls,v31])))))=some (SA (zY (wT q r ⟨tk,wy,kd,dv,ix⟩))):=by
 have ff:=zBt hs hl;rw[hr,ul,zb,yW,ff,xM];unfold wT;rcases hk with rfl|rfl|rfl
 .obtain⟨h1,h2,h3,h4⟩:=zyJ he;obtain⟨d,hd,hst,_⟩:=zhS (o:=q.o) h1 h2;have hds:=hs.ns d (Lz3 hd);obtain⟨n,hn⟩:∃n:Nat,dv=(n:Int):=⟨dv.toNat,by omega⟩;have hnl:n<l.length:=by omega
  obtain⟨x,hx⟩:∃x,l[n]? = some x:=⟨_,Lz5 hnl⟩;have p1:zO (some (l.map enU)) (I6 dv)=some n:=by rw[hn];exact zcU (by rw[Yzm];exact hnl)
  have p2:xY (some (l.map enU)) n=some (enU x):=by rw[zcY,hx];rfl
  rw[vM rfl,yl,uZ,p1,zb,p2,zb,zwU h3 (by omega),zb,show atD (enU x) 0=U64 x from rfl,zo2,zb,zb,zqs hnl,zb,Yza (by simp),Yzc rfl]
  dsimp only
  rw[hn,YzO,hr,yW,hx];rfl
 .obtain⟨h3,h4⟩:=zme (by decide) he;have hc:=hs.nc;rw[Yzc rfl]at h4;rw[yL (by decide),zK,vM rfl,yl,zwU h3 (by omega),zb,zo2,zb,uZ,Yza (by simp),Yza (by simp),Yzc rfl,hr];rfl
 .obtain⟨h3,h4⟩:=zme (by decide) he;have hc:=hs.nd;rw[Yza (by decide),Yzc rfl]at h4;rw[yL (by decide),zK,yL (by decide),zK,zwU h3 (by omega),zb,zo2,zb,uZ,Yza (by simp),Yza (by simp),Yza (by simp),hr];rfl
end
theorem t38(k:Nat)(q:Prb)(hs:q.small)(r:Reg){l:List Int}(hr:r.stops=some l)(hl:l.length=q.o.divs.els.length)(a:Act)(he:vi q a=0):D (k+1) 38 [SA (yE q),SA (zY r),SA (xa a)]=some (SA (zY (wT q r a))):=by
 obtain⟨tk,wy,kd,dv,ix⟩:=a;have ae:vi q ⟨tk,wy,kd,dv,ix⟩=if wy=1\/wy=4 then(if 1<=kd/\kd<=3 then vS q ⟨tk,wy,kd,dv,ix⟩ else 12) else if wy=2\/wy=3 then(if kd=0 then vS q ⟨tk,wy,kd,dv,ix⟩ else 12) else 12:=rfl
 rw[ae]at he;unfold yE xa;rw[show zY r=[enL 1 enU r.stops,U64 r.cpls,U64 r.off] from rfl,D38]
 dsimp only
 unfold P38;by_cases wt:wy=1\/wy=4
 .rw[Yzc wt]at he;by_cases hk:1<=kd/\kd<=3
  .rw[Yzc hk]at he;rw[yL (show ¬wy=2 by omega),zK,yL (show ¬wy=3 by omega),zK,zjQ,zb,show r.stops.isNone=false by rw[hr];rfl,zK];exact ztP hs hr hl (by omega) he
  .rw[Yza hk]at he;cases he
 .rw[Yza wt]at he;by_cases wr:wy=2\/wy=3
  .rw[Yzc wr]at he;by_cases hk:kd=0
   .subst hk;rw[Yzc rfl]at he;obtain⟨h3,h4⟩:=zme (by decide) he;rw[Yza (by decide),Yza (by decide)]at h4;have out:wT q r ⟨tk,wy,0,dv,ix⟩=(q.mems.els[ix.toNat]?).getD r:=rfl;rw[out];by_cases w2:wy=2
    .rw[vM w2,yl];exact zm7 hs hl h3 h4
    .rw[yL w2,zK,vM (show wy=3 by omega),yl];exact zm7 hs hl h3 h4
   .rw[Yza hk]at he;cases he
  .rw[Yza wr]at he;cases he
theorem zDK(l:Sl Int)(hl:l.els.length<=1000):∀(r:List Int) (i:Nat),l.els.drop i=r->zS (ztt (enL 1 enU l) (enL 1 enU l)) [I6 (i:Int)] []=some (.exit 0,[],[]):=by
 intro r
 induction r with
 |nil=>intro i h;refine zr ?_;simp only[ztt,zA,zg,zi,zb,wq (z6 h),zm];rfl
 |cons x r ih=>
  intro i h;have hlt:=yn h;have ea:zc .add (I6 (i:Int)) (I6 1)=some (I6 ((i+1:Nat):Int)):=yG;have body:ztt (enL 1 enU l) (enL 1 enU l) [I6 (i:Int)] []=some (.normal,[I6 ((i+1:Nat):Int)],[]):=by simp only[ztt,zA,zg,zi,zb,zbN hlt,zm,if_true,zX h,enU,y4,z7,ea];simp
  rw[zE body,ih (i+1) (zJ h)]
theorem t17(k:Nat)(r:Reg)(hl:r.stops.els.length<=1000):D (k+1) 17 [SA (zY r),SA (zY r)]=some (S1 (Bo true)):=by have l7:=zDK r.stops hl r.stops.els 0 rfl;rw[<-i0]at l7;unfold zY;rw[D17];unfold P17;simp only[zg,z7,zb,zm,l7];simp
theorem zyT{β:Type}(r:Reg)(K:List DV->Option β):bA 3 (some (SA (zY r))) K=K (zY r):=rfl
end Go.Proofs.Tryz.Kn
end
section
namespace Go.Proofs.Tryz.Kn
open Go Go.CE Go.PE
theorem zmi(o:Org)(b:Nat->Nat)(h:0<o.divs.els.length):∃l,(wo o b).stops=some l/\l.length=o.divs.els.length:=by
 refine⟨vT b 0 o.divs.els,?_,zaE b _ 0⟩;have hl:=zaE b o.divs.els 0;show grow (vT b 0 o.divs.els)=_;cases hd:vT b 0 o.divs.els with
 |nil=>rw[hd,Yzv]at hl;omega
 |cons x l=>rfl
theorem zpl(p:CPl)(hf:zcb p=true):(zaM p).small:=by obtain⟨h45,hm,_⟩:=zde hf;have h:=zaA h45;obtain⟨s1,s2,s3⟩:=kO p.pc.org h.org;have em:(zaM p).mems.els=p.mems.els.map (wo (zaW p.pc.org)):=zN _;refine⟨Yzl s1 (by decide),fun d hd=>Yzl (s2 d hd) (by decide),Yzl s3 (by decide),by rw[em,Yzm];omega,fun m hm=>?_⟩;rw[em]at hm;obtain⟨b,_,rfl⟩:=List.mem_map.1 hm;exact zmi _ b (zbM p.pc.org h.org)
theorem zEw{β:Type}(r:Reg)(v:DV)(K:List DS->Option β):bT [some 3,none] (some (.tup [.agg (zY r),.one v])) K=K [.agg (zY r),.one v]:=rfl
def znw:Reg:=⟨none,0,0⟩
theorem zdx{q:Prb}(hs:q.small){r:Reg}{l:List Int}(hr:r.stops=some l)(hl:l.length=q.o.divs.els.length)(a:Act):∃l',(wT q r a).stops=some l'/\l'.length=q.o.divs.els.length:=by
 unfold wT;split
 .cases hm:q.mems.els[a.ix.toNat]? with
  |none=>exact⟨l,hr,hl⟩
  |some m=>exact hs.ms m (Lz3 hm)
 split
 .exact⟨_,rfl,by rw[List.length_set,hr];exact hl⟩
 split
 .exact⟨l,hr,hl⟩
 .exact⟨l,hr,hl⟩
end Go.Proofs.Tryz.Kn
end
section
namespace Go.Proofs.Tryz.Kn
open Go Go.CE Go.PE
def zaQ(n:Nat):Reg:=⟨some (List.replicate n 0),0,0⟩
theorem zpX(n:Nat):[.lst 1 (List.replicate n [U64 0]),U64 0,U64 0]=zY (zaQ n):=by unfold zY zaQ;show _=[DV.lst 1 ((List.replicate n (0:Int)).map enU),U64 0,U64 0];rw[List.map_replicate]
theorem zAM{n:Nat}(h:n<=1000):mkN 8 (I6 (n:Int)) (I6 (n:Int))=some n:=by show (bif Nat.beq n n&&Nat.ble n 1073741824&&Nat.ble (8*n) 281474976710656 then some n else none)=_;rw[Yzq,Yzg (by omega),Yzg (by omega)];rfl
theorem t53(k:Nat)(q:Prb)(hs:q.small):D (k+1) 53 [SA (yE q)]=some (SA (zY (zaQ q.o.divs.els.length))):=by have:=hs.nd;unfold yE;rw[D53];unfold P53;rw[zg,zb,zAM (by omega),zb,zpX]
theorem t19(k:Nat)(q:Prb)(hs:q.small):D (k+1) 19 [SA (yE q),S1 (I6 (-1))]=some (SA (zY (zaQ q.o.divs.els.length))):=by have:=hs.nd;unfold yE;rw[D19];unfold P19;rw[zaT (by decide),yl,zg,zb,zAM (by omega),zb,zpX]
def uQ(q:Prb)(p:Option Int)(a:Act):Int:=if y6 q a.tick≠0 then y6 q a.tick else if gtO a.tick p then 6 else vi q a
def zdB(q:Prb):Option Int->List Act->Int
 |_,[]=>0
 |p,a::r=>if uQ q p a≠0 then uQ q p a else zdB q (some a.tick) r
def vO(l:List Act):Nat->Option Int
 |0=>none
 |j+1=>(l[j]?).map Act.tick
theorem ztd(a:Act):[atD (xa a) 0,atD (xa a) 1,atD (xa a) 2,atD (xa a) 3,atD (xa a) 4]=xa a:=rfl
theorem zke{l:Sl Act}{i:Nat}{a:Act}(h:l.els[i]? = some a):yb 5 (enL 5 xa l) (I6 (i:Int))=some (xa a):=by rw[xC,h];rfl
theorem zvU(j:Nat)(h:j<=1000000):zc .sub (I6 ((j+1:Nat):Int)) (I6 1)=some (I6 (j:Int)):=by have h:zc .sub (I6 ((j+1:Nat):Int)) (I6 1)=some (I6 (((j+1:Nat):Int)-1)):=zci;exact h.trans (by rw[show ((j+1:Nat):Int)-1=(j:Int) by omega])
theorem t39(k:Nat)(q:Prb)(hq:q.fine)(l:Sl Act)(hl:l.els.length<=5000){i:Nat}{a:Act}(h:l.els[i]? = some a):D (k+3) 39 [SA (yE q),S1 (enL 5 xa l),S1 (I6 (i:Int))]=some (S1 (I6 (uQ q (vO l.els i) a))):=by
 have hi:=(Lz0.1 h).1;have c1:=t33 k q hq a.tick;have c2:=t37 (k+1) q a;have ix:=zke h;have a0:atD (xa a) 0=I6 a.tick:=rfl;unfold yE at c1 c2 ⊢;rw[D39];unfold P39 uQ;rw[ix,zb,a0,c1,zR];by_cases h1:y6 q a.tick=0
 .rw[zgH h1,zK,Yza (by simp[h1])];cases i with
  |zero=>rw[zgK (by decide),zK,zb,ztd,c2];rfl
  |succ j=>
   obtain⟨y,hy⟩:∃y,l.els[j]? = some y:=⟨_,Lz5 (by omega)⟩;have pv:vO l.els (j+1)=some y.tick:=by show (l.els[j]?).map Act.tick=_;rw[hy];rfl
   rw[zsn (by omega),yl,zb,zvU j (by omega),zb,zke hy,zb,a0,show atD (xa y) 0=I6 y.tick from rfl,pv];by_cases h2:a.tick<y.tick
   .rw[zaT h2,yl,Yzc (by show decide (a.tick<y.tick)=true;exact decide_eq_true h2)]
   .rw[uE h2,zK,zb,ztd,c2,Yza (by show ¬decide (a.tick<y.tick)=true;rw[decide_eq_false h2];decide)];rfl
 .rw[zir h1,yl,Yzc h1]
def zaL(q:Prb)(t:Int):Reg->List Act->Reg
 |r,[]=>r
 |r,a::l=>zaL q t (if a.tick<=t then wT q r a else r) l
theorem zAX{β:Type}{x y:Int}{k:DV->Option β}(h:x<=y):za (zc .leq (I6 x) (I6 y)) k=k (Bo true):=by rw[wV,zb,decide_eq_true h]
theorem zAY{β:Type}{x y:Int}{k:DV->Option β}(h:¬x<=y):za (zc .leq (I6 x) (I6 y)) k=k (Bo false):=by rw[wV,zb,decide_eq_false h]
theorem zm5(r:Reg):zY r=[enL 1 enU r.stops,U64 r.cpls,U64 r.off]:=rfl
theorem zDL(k:Nat)(q:Prb)(hs:q.small)(t:Int)(l:Sl Act)(hl:l.els.length<=5000)(ha:∀a∈l.els,vi q a=0):∀(r:List Act) (i:Nat) (g:Reg),l.els.drop i=r->(∃s,g.stops=some s/\s.length=q.o.divs.els.length)->
  zS (ztm (D (k+1)) (I6 (l.els.length:Int)) (enL 5 xa l) (I6 t) (St q.o.name) (enL 6 enR q.o.ranks) (enL 5 enV q.o.divs) (enL 5 enC q.o.cpls) (enL 1 enW q.x.bars) (enL 4 x7 q.x.notes) (enL 4 zaC q.x.sets) (I6 q.hn) (I6 q.hs) (I6 q.fn) (I6 q.fs) (enL 3 zY q.mems) (I6 q.hp) (I6 q.k0) (I6 q.k1) (I6 q.k2) (I6 q.k3)) [I6 (i:Int),enL 1 enU g.stops,U64 g.cpls,U64 g.off] []=some (.exit 0,zY (zaL q t g r),[]):=by
 intro r
 induction r with
 |nil=>intro i g h _;refine zr ?_;unfold ztm;rw[zA,uE (by have:=z6 h;omega),zK];rfl
 |cons a r ih=>
  intro i g h hg;obtain⟨s,hs1,hs2⟩:=hg;have hlt:=yn h;have ix:=zke (ye h);have ae:=ha a (Lz3 (ye h));have ea:zc .add (I6 (i:Int)) (I6 1)=some (I6 ((i+1:Nat):Int)):=yG;have c:=t38 k q hs g hs1 hs2 a ae;rw[zm5 g]at c;unfold yE at c;have gl:=zdx hs hs1 hs2 a;have body:ztm (D (k+1)) (I6 (l.els.length:Int)) (enL 5 xa l) (I6 t) (St q.o.name) (enL 6 enR q.o.ranks) (enL 5 enV q.o.divs) (enL 5 enC q.o.cpls) (enL 1 enW q.x.bars) (enL 4 x7 q.x.notes) (enL 4 zaC q.x.sets) (I6 q.hn) (I6 q.hs) (I6 q.fn) (I6 q.fs) (enL 3 zY q.mems) (I6 q.hp) (I6 q.k0) (I6 q.k1) (I6 q.k2) (I6 q.k3) [I6 (i:Int),enL 1 enU g.stops,U64 g.cpls,U64 g.off] []=some (.normal,I6 ((i+1:Nat):Int)::zY (if a.tick<=t then wT q g a else g),[]):=by
   unfold ztm;simp only[zA,yJ];rw[zaT (by omega),yl,ix,zb,show atD (xa a) 0=I6 a.tick from rfl];by_cases hc:a.tick<=t
   .rw[zAX hc,yl,Yzc hc];have:[I6 a.tick,atD (xa a) 1,atD (xa a) 2,atD (xa a) 3,atD (xa a) 4]=xa a:=rfl;rw[this,c,zyT,ea];rfl
   .rw[zAY hc,zK,Yza hc,ea];rfl
  rw[zm5]at body;rw[zE body];refine (ih (i+1) (if a.tick<=t then wT q g a else g) (zJ h) ?_).trans rfl;by_cases hc:a.tick<=t
  .rw[Yzc hc];exact gl
  .rw[Yza hc];exact⟨s,hs1,hs2⟩
theorem zk6(n:Nat):∃s,(zaQ n).stops=some s/\s.length=n:=⟨_,rfl,Yyi ..⟩
theorem t40(k:Nat)(q:Prb)(hs:q.small)(t:Int)(l:Sl Act)(hl:l.els.length<=5000)(ha:∀a∈l.els,vi q a=0):D (k+2) 40 [SA (yE q),S1 (enL 5 xa l),S1 (I6 t)]=some (SA (zY (zaL q t (zaQ q.o.divs.els.length) l.els))):=by have c:=t53 k q hs;have l4:=zDL k q hs t l hl ha l.els 0 (zaQ q.o.divs.els.length) rfl (zk6 _);rw[<-i0]at l4;unfold yE at c ⊢;rw[D40];unfold P40;rw[c,zyT,zg,zb];have e0:[I6 0,atD (zY (zaQ q.o.divs.els.length)) 0,atD (zY (zaQ q.o.divs.els.length)) 1,atD (zY (zaQ q.o.divs.els.length)) 2]=[I6 0,enL 1 enU (zaQ q.o.divs.els.length).stops,U64 (zaQ q.o.divs.els.length).cpls,U64 (zaQ q.o.divs.els.length).off]:=rfl;rw[e0,l4];rfl
theorem zjT{q:Prb}:∀(l:List Act) (p:Option Int),zdB q p l=0->∀a∈l,vi q a=0
 | [],_,_,_,h=>by cases h
 |b::l,p,h,a,ha=>by
  unfold zdB at h;by_cases hb:uQ q p b=0
  .rw[Yza (by simp[hb])]at h;rcases Yya.1 ha with rfl|ha
   .unfold uQ at hb;by_cases h1:y6 q a.tick=0
    .rw[Yza (by simp[h1])]at hb;by_cases h2:gtO a.tick p=true
     .rw[Yzc h2]at hb;cases hb
     .rw[Yza h2]at hb;exact hb
    .rw[Yzc h1]at hb;exact absurd hb h1
   .exact zjT l _ h a ha
  .rw[Yzc hb]at h;exact absurd h hb
theorem zDH(k:Nat)(q:Prb)(hq:q.fine)(l:Sl Act)(hl:l.els.length<=5000):∀(r:List Act) (i:Nat),l.els.drop i=r->
  zS (zts (D (k+3)) (I6 (l.els.length:Int)) (St q.o.name) (enL 6 enR q.o.ranks) (enL 5 enV q.o.divs) (enL 5 enC q.o.cpls) (enL 1 enW q.x.bars) (enL 4 x7 q.x.notes) (enL 4 zaC q.x.sets) (I6 q.hn) (I6 q.hs) (I6 q.fn) (I6 q.fs) (enL 3 zY q.mems) (I6 q.hp) (I6 q.k0) (I6 q.k1) (I6 q.k2) (I6 q.k3) (enL 5 xa l)) [I6 (i:Int),.nils,U64 0,U64 0] []=some (if zdB q (vO l.els i) r≠0 then(.ret,[I6 (zdB q (vO l.els i) r),.nils,U64 0,U64 0],[]) else(.exit 0,[.nils,U64 0,U64 0],[])):=by
 intro r
 induction r with
 |nil=>intro i h;refine zr ?_;unfold zts;rw[zA,uE (by have:=z6 h;omega),zK];rfl
 |cons a r ih=>
  intro i h;have hlt:=yn h;have ea:zc .add (I6 (i:Int)) (I6 1)=some (I6 ((i+1:Nat):Int)):=yG;have c:=t39 k q hq l hl (ye h);unfold yE at c;have pv:vO l.els (i+1)=some a.tick:=by show (l.els[i]?).map Act.tick=_;rw[ye h];rfl
  have body:zts (D (k+3)) (I6 (l.els.length:Int)) (St q.o.name) (enL 6 enR q.o.ranks) (enL 5 enV q.o.divs) (enL 5 enC q.o.cpls) (enL 1 enW q.x.bars) (enL 4 x7 q.x.notes) (enL 4 zaC q.x.sets) (I6 q.hn) (I6 q.hs) (I6 q.fn) (I6 q.fs) (enL 3 zY q.mems) (I6 q.hp) (I6 q.k0) (I6 q.k1) (I6 q.k2) (I6 q.k3) (enL 5 xa l) [I6 (i:Int),.nils,U64 0,U64 0] []=some (if uQ q (vO l.els i) a≠0 then(.ret,[I6 (uQ q (vO l.els i) a),.nils,U64 0,U64 0],[]) else(.normal,[I6 ((i+1:Nat):Int),.nils,U64 0,U64 0],[])):=by
   unfold zts;simp only[zA,yJ];rw[zaT (by omega),yl,c,zR];by_cases he:uQ q (vO l.els i) a=0
   .rw[zgH he,zK,ea,Yza (by simp[he])];rfl
   .rw[zir he,yl,Yzc he]
  unfold zdB;by_cases he:uQ q (vO l.els i) a=0
  .rw[Yza (by simp[he])]at body;rw[zE body,ih (i+1) (zJ h),pv];simp[he]
  .rw[Yzc he]at body;rw[zz body];simp[he]
def vZ(q:Prb)(l:List Act)(t:Int):Int:=if y6 q t≠0 then y6 q t else zdB q none l
theorem t18(k:Nat)(q:Prb)(ho:q.ok)(h0:zmu q=0)(hq:q.fine)(hs:q.small)(l:Sl Act)(hl:l.els.length<=5000)(t:Int):D (k+13) 18 [SA (yE q),S1 (enL 5 xa l),S1 (I6 t)]=some (if vZ q l.els t≠0 then .tup [.agg [.nils,U64 0,U64 0],.one (I6 (vZ q l.els t))] else .tup [.agg (zY (zaL q t (zaQ q.o.divs.els.length) l.els)),.one (I6 0)]):=by
 have c1:=t25 k q ho;have c2:=t33 (k+10) q hq t;have l9:=zDH (k+9) q hq l hl l.els 0 rfl;have c4:=fun he=>t40 (k+10) q hs t l hl he;rw[h0]at c1;rw[<-i0,show vO l.els 0=none from rfl]at l9;unfold yE at c1 c2 c4 ⊢;rw[D18];unfold P18 vZ;rw[c1,zR,zgH rfl,zK,c2,zR];by_cases h1:y6 q t=0
 .rw[zgH h1,zK,zg,zb,zgK (by omega),zK,zb,l9,Yza (show ¬y6 q t≠0 by simp[h1])];by_cases h2:zdB q none l.els=0
  .rw[Yza (by simp[h2]),Yza (by simp[h2]),yi,Yzq,Yzb,c4 (zjT _ _ h2),zyT];rfl
  .rw[Yzc h2,Yzc h2,zrV];rfl
 .rw[zir h1,yl,Yzc (show y6 q t≠0 from h1)];rw[Yzc h1]
end Go.Proofs.Tryz.Kn
end
section
namespace Go.Proofs.Tryz.Kn
open Go Go.CE Go.PE
def zfP(q:Prb)(t:Int)(p:Option Int)(g:Reg)(a:Act):Reg:=
 if y6 q a.tick≠0 then g else if gtO a.tick p then g else if a.tick<=t then(if vi q a≠0 then znw else wT q g a) else g
theorem zxn{q:Prb}{g:Reg}{a:Act}{e:Int}:∃r,zui q g a e=.tup [.agg (zY r),.one (I6 e)]/\r=if e≠0 then znw else wT q g a:=by
 unfold zui;by_cases he:e=0
 .rw[Yza (by simp[he])];exact⟨_,by rw[he],(Yza (by simp[he])).symm⟩
 .rw[Yzc he];exact⟨znw,rfl,(Yzc he).symm⟩
theorem zyz(O:Orc)(l:Sl Act)(g9:List DV)(t:Int)(i:Nat){e:Int}(he:¬e=0)(x y z:DV):zvB O (enL 5 xa l) g9 (I6 t) [I6 (i:Int),I6 e,x,y,z] []=some (.exit 0,[I6 e,x,y,z],[]):=by
 unfold zvB;simp only[zA,yJ];rw[zg,zb];by_cases h:(i:Int)<(l.els.length:Int)
 .rw[zaT h,yl,yL he,zK]
 .rw[uE h,zK]
theorem zyy(O:Orc)(l:Sl Act)(g9:List DV)(t:Int)(i:Nat){e:Int}(he:¬e=0)(x y z:DV):zvA O (enL 5 xa l) g9 (I6 t) [I6 (i:Int),I6 e,x,y,z] []=some (.exit 0,[I6 e,x,y,z],[]):=by
 unfold zvA;simp only[zA,yJ];rw[zg,zb];by_cases h:(i:Int)<(l.els.length:Int)
 .rw[zaT h,yl,yL he,zK]
 .rw[uE h,zK]
theorem zvb(O:Orc)(l:Sl Act)(g9:List DV)(t:Int)(i:Nat){e:Int}(he:¬e=0)(x y z:DV):zeC O (enL 5 xa l) g9 (I6 t) [I6 (i:Int),I6 e,x,y,z] []=some (.exit 0,[I6 e,x,y,z],[]):=by
 unfold zeC;simp only[zA,yJ];rw[zg,zb];by_cases h:(i:Int)<(l.els.length:Int)
 .rw[zaT h,yl,yL he,zK]
 .rw[uE h,zK]
theorem zqF(k:Nat)(q:Prb)(hq:q.fine)(hs:q.small)(t:Int)(l:Sl Act)(hl:l.els.length<=5000){i:Nat}{a:Act}(h:l.els[i]? = some a)(g:Reg)(hg:∃s,g.stops=some s/\s.length=q.o.divs.els.length):
  zeC (D (k+1)) (enL 5 xa l) (yE q) (I6 t) [I6 (i:Int),I6 0,enL 1 enU g.stops,U64 g.cpls,U64 g.off] []=some (.normal,I6 ((i+1:Nat):Int)::I6 (uQ q (vO l.els i) a)::zY (zfP q t (vO l.els i) g a),[]):=by
 obtain⟨s,hs1,hs2⟩:=hg;have hi:=(Lz0.1 h).1;have ix:=zke h;have ea:zc .add (I6 (i:Int)) (I6 1)=some (I6 ((i+1:Nat):Int)):=yG;have cb:=t11 k q hq;have ce:=t12 k q hq;have ca:=t16 k q hs g hs1 hs2 a;rw[zm5 g]at ca;have a0:atD (xa a) 0=I6 a.tick:=rfl;have tail:(za (yb 5 (enL 5 xa l) (I6 (i:Int))) fun x125=>
   bT [some 3,none] (D (k+1) 16 [SA (yE q),SA [enL 1 enU g.stops,U64 g.cpls,U64 g.off],SA [atD x125 0,atD x125 1,atD x125 2,atD x125 3,atD x125 4]]) fun t126=>
   za (yb 5 (enL 5 xa l) (I6 (i:Int))) fun x127=>za (zc .leq (atD x127 0) (I6 t)) fun v128=>ifB v128
    (za (zc .add (I6 (i:Int)) (I6 1)) fun v129=>some (Zf.normal,[v129,dsO (yR t126 1),atD (dsA (yR t126 0)) 0,atD (dsA (yR t126 0)) 1,atD (dsA (yR t126 0)) 2],([]:List OC)))
    (za (zc .add (I6 (i:Int)) (I6 1)) fun v130=>some (Zf.normal,[v130,dsO (yR t126 1),enL 1 enU g.stops,U64 g.cpls,U64 g.off],([]:List OC)))) =
   some (Zf.normal,I6 ((i+1:Nat):Int)::I6 (vi q a)::zY (if a.tick<=t then(if vi q a≠0 then znw else wT q g a) else g),[]):=by
  obtain⟨r,e1,e2⟩:=zxn (q:=q) (g:=g) (a:=a) (e:=vi q a);rw[ix,zb,ztd,ca,e1,zEw,zb,a0,<-e2];by_cases hc:a.tick<=t
  .rw[zAX hc,yl,ea,zb,Yzc hc];rfl
  .rw[zAY hc,zK,ea,zb,Yza hc];rfl
 unfold zeC;simp only[zA,yJ];rw[zg,zb,zaT (by omega),yl,vM rfl,yl,ix,zb,zvV,cb,zR,a0];unfold uQ zfP;by_cases h1:a.tick<zbm q.x.bars.els
 .have te:y6 q a.tick=3:=Yzc h1;rw[zaT h1,yl,ea,zb,te];rfl
 rw[uE h1,zK,zb,ce,zR,a0];by_cases h2:a.tick>=zdL q.x.bars.els
 .have te:y6 q a.tick=3:=(Yza h1).trans (Yzc h2);rw[zlZ h2,yl,ea,zb,te];rfl
 have te:y6 q a.tick=0:=(Yza h1).trans (Yza h2);rw[zl0 h2,zK,te,Yza (show ¬(0:Int)≠0 by simp),Yza (show ¬(0:Int)≠0 by simp)];rw[ix]at tail;cases i with
 |zero=>rw[zgK (by decide),zK,show gtO a.tick (vO l.els 0)=false from rfl,Yza (show ¬false=true by simp),Yza (show ¬false=true by simp)];exact tail
 |succ j=>
  obtain⟨y,hy⟩:∃y,l.els[j]? = some y:=⟨_,Lz5 (by omega)⟩;have pv:vO l.els (j+1)=some y.tick:=by show (l.els[j]?).map Act.tick=_;rw[hy];rfl
  rw[zsn (by omega),yl,zb,zvU j (by omega),zb,zke hy,zb,a0,show atD (xa y) 0=I6 y.tick from rfl,pv];by_cases h3:a.tick<y.tick
  .have g3:gtO a.tick (some y.tick)=true:=decide_eq_true h3;rw[zaT h3,yl,ea,zb,g3,Yzc rfl,Yzc rfl];rfl
  .have g3:gtO a.tick (some y.tick)=false:=decide_eq_false h3;rw[uE h3,zK,g3,Yza (show ¬false=true by simp),Yza (show ¬false=true by simp)];exact tail
theorem zA7(k:Nat)(q:Prb)(hq:q.fine)(hs:q.small)(t:Int)(l:Sl Act)(hl:l.els.length<=5000):∀(r:List Act) (i:Nat) (g:Reg),l.els.drop i=r->(∃s,g.stops=some s/\s.length=q.o.divs.els.length)->
  ∃g',zS (zeC (D (k+1)) (enL 5 xa l) (yE q) (I6 t)) [I6 (i:Int),I6 0,enL 1 enU g.stops,U64 g.cpls,U64 g.off] []=some (.exit 0,I6 (zdB q (vO l.els i) r)::zY g',[])/\(zdB q (vO l.els i) r=0->g'=zaL q t g r):=by
 intro r
 induction r with
 |nil=>intro i g h _;refine⟨g,zr ?_,fun _=>rfl⟩;unfold zeC;simp only[zA,yJ];rw[zg,zb,uE (by have:=z6 h;omega),zK];rfl
 |cons a r ih=>
  intro i g h hg;have hlt:=yn h;have pv:vO l.els (i+1)=some a.tick:=by show (l.els[i]?).map Act.tick=_;rw[ye h];rfl
  have body:=zqF k q hq hs t l hl (ye h) g hg;rw[zm5 (zfP q t (vO l.els i) g a)]at body;unfold zdB;by_cases he:uQ q (vO l.els i) a=0
  .rw[Yza (by simp[he])];rw[he]at body;have lr:zfP q t (vO l.els i) g a=if a.tick<=t then wT q g a else g:=by
    unfold uQ at he;unfold zfP;by_cases h1:y6 q a.tick=0
    .rw[Yza (show ¬y6 q a.tick≠0 by simp[h1])]at he;rw[Yza (show ¬y6 q a.tick≠0 by simp[h1])];by_cases h2:gtO a.tick (vO l.els i)=true
     .rw[Yzc h2]at he;cases he
     .rw[Yza h2]at he;rw[Yza h2,Yza (show ¬vi q a≠0 by simp[he])]
    .rw[Yzc h1]at he;exact absurd he h1
   obtain⟨s,hs1,hs2⟩:=hg;have gl:=zdx hs hs1 hs2 a;obtain⟨g',e1,e2⟩:=ih (i+1) (zfP q t (vO l.els i) g a) (zJ h) (by
    rw[lr];by_cases hc:a.tick<=t
    .rw[Yzc hc];exact gl
    .rw[Yza hc];exact⟨s,hs1,hs2⟩)
   rw[pv]at e1 e2;refine⟨g',by rw[zE body,e1],fun h0=>?_⟩;rw[e2 h0,lr];rfl
  .rw[Yzc he];refine⟨zfP q t (vO l.els i) g a,?_,fun h0=>absurd h0 he⟩;rw[zE body,zr (zvb _ l _ t (i+1) he _ _ _)];rfl
theorem zyS{β:Type}(r:Reg)(K:List DV->Option β):bA 3 (some (SA (zY r))) K=K (zY r):=rfl
theorem zgw{q:Prb}(hs:q.small)(t:Int):∀(l:List Act) (g:Reg),(∃s,g.stops=some s/\s.length=q.o.divs.els.length)->∃s,(zaL q t g l).stops=some s/\s.length=q.o.divs.els.length
 | [],_,h=>h
 |a::l,g,h=>by
  refine zgw hs t l _ ?_;obtain⟨s,h1,h2⟩:=h;by_cases hc:a.tick<=t
  .rw[Yzc hc];exact zdx hs h1 h2 a
  .rw[Yza hc];exact⟨s,h1,h2⟩
theorem zf9(k:Nat)(q:Prb)(e w:Int)(g g':Reg)(hew:e=w)(hg:e=0->g'=g)(hl:e=0->g.stops.els.length<=1000){t10:List DS}(h10:t10=if e≠0 then[.agg [.nils,U64 0,U64 0],.one (I6 e)] else[.agg (zY g),.one (I6 0)]):
  (za (zc .neq (I6 w) (I6 0)) fun v48 => ifB v48
   (za (zV (atD (dsA (yR t10 0)) 0)) fun v49=>za (zc .eql v49 (I6 0)) fun v50=>ifB v50 (za (zc .eql (dsO (yR t10 1)) (I6 w)) fun v51=>some (S1 v51)) (some (S1 (Bo false))))
   (za (zc .eql (dsO (yR t10 1)) (I6 0)) fun v52 => ifB v52
    (b1 (D (k+1) 17 [SA [atD (dsA (yR t10 0)) 0,atD (dsA (yR t10 0)) 1,atD (dsA (yR t10 0)) 2],SA (zY g')]) fun v53=>some (S1 v53))
    (some (S1 (Bo false)))))=some (S1 (Bo true)):=by
 subst hew;by_cases he:e=0
 .rw[Yza (by simp[he])]at h10;subst h10;rw[hg he,zgH he,zK];show (za (zc .eql (I6 0) (I6 0)) fun v52=>ifB v52 (b1 (D (k+1) 17 [SA (zY g),SA (zY g)]) fun v53=>some (S1 v53)) (some (S1 (Bo false))))=_;rw[vM rfl,yl,t17 k g (hl he)];rfl
 .rw[Yzc he]at h10;subst h10;rw[zir he,yl];show (za (zV .nils) fun v49=>za (zc .eql v49 (I6 0)) fun v50=>ifB v50 (za (zc .eql (I6 e) (I6 e)) fun v51=>some (S1 v51)) (some (S1 (Bo false))))=_;rw[show zV .nils=some (I6 0) from rfl,zb,vM rfl,yl,vM rfl]
theorem t5(k:Nat)(p:CPl)(hp:p.ok)(l:Sl Act)(t:Int):D (k+16) 5 [SA (zi2 p),S1 (enL 5 xa l),S1 (I6 t)]=some (S1 (Bo true)):=by
 have kn:=D7 (k+15);have cf:=t8 (k+12) p hp;unfold zi2 at cf ⊢;rw[D5];unfold P5;rw[kn,zR,zin,zK,cf,zR];cases hf:zcb p with
 |false=>rfl
 |true=>
  rw[zin,zK,zg,zb];by_cases hl:(l.els.length:Int) > 8
  .rw[zsn hl,yl];rfl
  rw[zgK hl,zK];have hl5:l.els.length<=5000:=by omega
  have mk:=t9 (k+6) p hp hf;unfold zi2 at mk;have Q:=zrK p hp hf;have S:=zpl p hf;have c18:=t18 (k+2) (zaM p) (zxE p hf) (zhh p hp hf) Q S l hl5 t;have cb:=t11 (k+14) (zaM p) Q;have ce:=t12 (k+14) (zaM p) Q;have cw:=t19 (k+14) (zaM p) S;obtain⟨g',l1,l2⟩:=zA7 (k+14) (zaM p) Q S t l hl5 l.els 0 (zaQ (zaM p).o.divs.els.length) rfl (zk6 _);rw[<-i0,show vO l.els 0=none from rfl]at l1;rw[show vO l.els 0=none from rfl]at l2;have ln:=zgw S t l.els (zaQ (zaM p).o.divs.els.length) (zk6 _);have lz:(zaQ (zaM p).o.divs.els.length).stops.els.length<=1000:=by have:=S.nd;show (List.replicate (zaM p).o.divs.els.length (0:Int)).length<=1000;rw[Yyi];omega
  have la:(zaL (zaM p) t (zaQ (zaM p).o.divs.els.length) l.els).stops.els.length<=1000:=by obtain⟨s,h1,h2⟩:=ln;have:=S.nd;rw[h1];show s.length<=1000;omega
  rw[mk,zHi];generalize zaM p=q at *;rw[zvV,c18];obtain⟨t10,ht,hT⟩:∃t10:List DS,(if vZ q l.els t≠0 then DA.tup [.agg [.nils,U64 0,U64 0],.one (I6 (vZ q l.els t))] else DA.tup [.agg (zY (zaL q t (zaQ q.o.divs.els.length) l.els)),.one (I6 0)])=DA.tup t10/\t10=(if vZ q l.els t≠0 then[.agg [.nils,U64 0,U64 0],.one (I6 (vZ q l.els t))] else[.agg (zY (zaL q t (zaQ q.o.divs.els.length) l.els)),.one (I6 0)]):=by
   by_cases h:vZ q l.els t≠0
   .exact⟨_,by rw[Yzc h],(Yzc h).symm⟩
   .exact⟨_,by rw[Yza h],(Yza h).symm⟩
  have bt:∀{β:Type} (K:List DS->Option β),bT [some 3,none] (some (DA.tup t10)) K=K t10:=by
   intro β K;rw[hT];by_cases h:vZ q l.els t≠0
   .rw[Yzc h];rfl
   .rw[Yza h];rfl
  rw[ht,bt,cb,zR];have te3:∀h:y6 q t=3,vZ q l.els t=3:=fun h=>by unfold vZ;rw[h];rfl
  by_cases h1:t<zbm q.x.bars.els
  .have te:=te3 (Yzc h1);rw[zaT h1,yl,cw,zyS];have ex:=zr (zyz (D (k+15)) l (yE q) t 0 (e:=3) (by decide) (enL 1 enU (zaQ q.o.divs.els.length).stops) (U64 (zaQ q.o.divs.els.length).cpls) (U64 (zaQ q.o.divs.els.length).off));rw[<-i0]at ex;show yP (zS (zvB (D (k+15)) (enL 5 xa l) (yE q) (I6 t)) [I6 0,I6 3,enL 1 enU (zaQ q.o.divs.els.length).stops,U64 (zaQ q.o.divs.els.length).cpls,U64 (zaQ q.o.divs.els.length).off] []) _ _=_;rw[ex,yi,Yzq,Yzb];exact zf9 (k+14) q (vZ q l.els t) 3 _ (zaQ q.o.divs.els.length) te (fun h=>by rw[te]at h;cases h) (fun h=>by rw[te]at h;cases h) hT
  rw[uE h1,zK,ce,zR];by_cases h2:t>=zdL q.x.bars.els
  .have te:=te3 ((Yza h1).trans (Yzc h2));rw[zlZ h2,yl,cw,zyS];have ex:=zr (zyy (D (k+15)) l (yE q) t 0 (e:=3) (by decide) (enL 1 enU (zaQ q.o.divs.els.length).stops) (U64 (zaQ q.o.divs.els.length).cpls) (U64 (zaQ q.o.divs.els.length).off));rw[<-i0]at ex;show yP (zS (zvA (D (k+15)) (enL 5 xa l) (yE q) (I6 t)) [I6 0,I6 3,enL 1 enU (zaQ q.o.divs.els.length).stops,U64 (zaQ q.o.divs.els.length).cpls,U64 (zaQ q.o.divs.els.length).off] []) _ _=_;rw[ex,yi,Yzq,Yzb];exact zf9 (k+14) q (vZ q l.els t) 3 _ (zaQ q.o.divs.els.length) te (fun h=>by rw[te]at h;cases h) (fun h=>by rw[te]at h;cases h) hT
  have te:y6 q t=0:=(Yza h1).trans (Yza h2);have ae:vZ q l.els t=zdB q none l.els:=by unfold vZ;rw[te];rfl
  rw[zl0 h2,zK,cw,zyS];show yP (zS (zeC (D (k+15)) (enL 5 xa l) (yE q) (I6 t)) [I6 0,I6 0,enL 1 enU (zaQ q.o.divs.els.length).stops,U64 (zaQ q.o.divs.els.length).cpls,U64 (zaQ q.o.divs.els.length).off] []) _ _=_;rw[l1,yi,Yzq,Yzb];exact zf9 (k+14) q (vZ q l.els t) (zdB q none l.els) _ g' ae (fun h=>l2 (ae.symm.trans h)) (fun _=>la) hT
end Go.Proofs.Tryz.Kn
end
