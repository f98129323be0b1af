/-
  Lemmas. No condition.
-/
import Derived.Test.YtakbfapnhjkgoaaGreatDoorVd
import Derived.Test.YtakbfapnhjkgoaaGreatDoorVe
import Derived.Test.YtakbfapnhjkgoaaGreatDoorZk
import Derived.Test.YtakbfapnhjkgoaaGreatDoorZl
import Derived.Test.YtakbfapnhjkgoaaGreatDoorProg
set_option linter.unusedSimpArgs false
set_option linter.unusedVariables false
noncomputable section
namespace Go.Proofs.Tryz.Kn
open Go Go.CE Go.PE
abbrev prog:Program:=Tryz.prog
def yA:Nat→Bool:=fun g=>match g with|52=>true|97=>true|101=>true|99=>true|103=>true|100=>true|119=>true|45=>true|67=>true|28=>true|29=>true|32=>true|33=>true|34=>true|56=>true|59=>true|79=>true|95=>true|_=>false
abbrev redI:Red:=⟨fun _ _=>none,fun g=>match g with|97=>some ⟨[98,139],2⟩|101=>some ⟨[102],2⟩|_=>none⟩
def an0:Nat→Option LA:=fun _=>none
def zAI:Nat→List PA→Nat→Nat→Option LA:=fun _ _ _ _=>none
def an3:Nat→Option LA:=fun i=>match i with|0=>some ⟨[.slot 12],[],[],[],[],[],[.slot 4],[],[]⟩|_=>none
def zBB:Nat→List PA→Nat→Nat→Option LA:=fun h _ n i=>match h,n,i with|28,0,999=>some ⟨[],[],[],[],[],[],[],[],[]⟩  |_,_,_=>none
def zyC(O:Orc)(d:DV)(e:List DS)(a:List DV)(_l:List OC):Option PX:=za (zY d) fun f=>za (zc .lss (zf a 0) f) fun g=>ifB g (za (yW 3 (dsO (zT e 0)) (zf a 0)) fun b=>za (yW 3 d (zf a 0)) fun c=>b1 (O 13 [SA [atD b 0,atD b 1,atD b 2],SA [atD c 0,atD c 1,atD c 2]]) fun h=>za (uE h) fun j=>ifB j (some (.ret,[.bool false],[])) (za (zc .add (zf a 0) (I6 1)) fun k=>some (.normal,[k],[]))) (some (.exit 0,[],[]))
def zyE(O:Orc)(d:DV)(e:List DS)(a:List DV)(_l:List OC):Option PX:=za (zY d) fun f=>za (zc .lss (zf a 0) f) fun g=>ifB g (za (yW 3 (dsO (zT e 0)) (zf a 0)) fun b=>za (yW 3 d (zf a 0)) fun c=>b1 (O 13 [SA [atD b 0,atD b 1,atD b 2],SA [atD c 0,atD c 1,atD c 2]]) fun h=>za (uE h) fun j=>ifB j (some (.ret,[.bool false],[])) (za (zc .add (zf a 0) (I6 1)) fun k=>some (.normal,[k],[]))) (some (.exit 0,[],[]))
def zyD(O:Orc)(d:DV)(e:List DS)(a:List DV)(_l:List OC):Option PX:=za (zY d) fun f=>za (zc .lss (zf a 0) f) fun g=>ifB g (za (yW 3 (dsO (zT e 0)) (zf a 0)) fun b=>za (yW 3 d (zf a 0)) fun c=>b1 (O 13 [SA [atD b 0,atD b 1,atD b 2],SA [atD c 0,atD c 1,atD c 2]]) fun h=>za (uE h) fun j=>ifB j (some (.ret,[.bool false],[])) (za (zc .add (zf a 0) (I6 1)) fun k=>some (.normal,[k],[]))) (some (.exit 0,[],[]))
def zA0(O:Orc)(d:DV)(e:List DS)(a:List DV)(_l:List OC):Option PX:=za (zY d) fun f=>za (zc .lss (zf a 0) f) fun g=>ifB g (za (yW 3 (dsO (zT e 0)) (zf a 0)) fun b=>za (yW 3 d (zf a 0)) fun c=>b1 (O 13 [SA [atD b 0,atD b 1,atD b 2],SA [atD c 0,atD c 1,atD c 2]]) fun h=>za (uE h) fun j=>ifB j (some (.ret,[.bool false],[])) (za (zc .add (zf a 0) (I6 1)) fun k=>some (.normal,[k],[]))) (some (.exit 0,[],[]))
def zA2(O:Orc)(d:DV)(e:List DS)(a:List DV)(_l:List OC):Option PX:=za (zY d) fun f=>za (zc .lss (zf a 0) f) fun g=>ifB g (za (yW 3 (dsO (zT e 0)) (zf a 0)) fun b=>za (yW 3 d (zf a 0)) fun c=>b1 (O 13 [SA [atD b 0,atD b 1,atD b 2],SA [atD c 0,atD c 1,atD c 2]]) fun h=>za (uE h) fun j=>ifB j (some (.ret,[.bool false],[])) (za (zc .add (zf a 0) (I6 1)) fun k=>some (.normal,[k],[]))) (some (.exit 0,[],[]))
def zA1(O:Orc)(d:DV)(e:List DS)(a:List DV)(_l:List OC):Option PX:=za (zY d) fun f=>za (zc .lss (zf a 0) f) fun g=>ifB g (za (yW 3 (dsO (zT e 0)) (zf a 0)) fun b=>za (yW 3 d (zf a 0)) fun c=>b1 (O 13 [SA [atD b 0,atD b 1,atD b 2],SA [atD c 0,atD c 1,atD c 2]]) fun h=>za (uE h) fun j=>ifB j (some (.ret,[.bool false],[])) (za (zc .add (zf a 0) (I6 1)) fun k=>some (.normal,[k],[]))) (some (.exit 0,[],[]))
def zyF(O:Orc)(d:DV)(e:List DS)(a:List DV)(_l:List OC):Option PX:=za (zY d) fun f=>za (zc .lss (zf a 0) f) fun g=>ifB g (za (yW 3 (dsO (zT e 0)) (zf a 0)) fun b=>za (yW 3 d (zf a 0)) fun c=>b1 (O 13 [SA [atD b 0,atD b 1,atD b 2],SA [atD c 0,atD c 1,atD c 2]]) fun h=>za (uE h) fun j=>ifB j (some (.ret,[.bool false],[])) (za (zc .add (zf a 0) (I6 1)) fun k=>some (.normal,[k],[]))) (some (.exit 0,[],[]))
def zyH(O:Orc)(d:DV)(e:List DS)(a:List DV)(_l:List OC):Option PX:=za (zY d) fun f=>za (zc .lss (zf a 0) f) fun g=>ifB g (za (yW 3 (dsO (zT e 0)) (zf a 0)) fun b=>za (yW 3 d (zf a 0)) fun c=>b1 (O 13 [SA [atD b 0,atD b 1,atD b 2],SA [atD c 0,atD c 1,atD c 2]]) fun h=>za (uE h) fun j=>ifB j (some (.ret,[.bool false],[])) (za (zc .add (zf a 0) (I6 1)) fun k=>some (.normal,[k],[]))) (some (.exit 0,[],[]))
def zyG(O:Orc)(d:DV)(e:List DS)(a:List DV)(_l:List OC):Option PX:=za (zY d) fun f=>za (zc .lss (zf a 0) f) fun g=>ifB g (za (yW 3 (dsO (zT e 0)) (zf a 0)) fun b=>za (yW 3 d (zf a 0)) fun c=>b1 (O 13 [SA [atD b 0,atD b 1,atD b 2],SA [atD c 0,atD c 1,atD c 2]]) fun h=>za (uE h) fun j=>ifB j (some (.ret,[.bool false],[])) (za (zc .add (zf a 0) (I6 1)) fun k=>some (.normal,[k],[]))) (some (.exit 0,[],[]))
def zyu(O:Orc)(d:DV)(e:List DS)(a:List DV)(_l:List OC):Option PX:=za (zY d) fun f=>za (zc .lss (zf a 0) f) fun g=>ifB g (za (yW 3 (dsO (zT e 0)) (zf a 0)) fun b=>za (yW 3 d (zf a 0)) fun c=>b1 (O 13 [SA [atD b 0,atD b 1,atD b 2],SA [atD c 0,atD c 1,atD c 2]]) fun h=>za (uE h) fun j=>ifB j (some (.ret,[.bool false],[])) (za (zc .add (zf a 0) (I6 1)) fun k=>some (.normal,[k],[]))) (some (.exit 0,[],[]))
def zyw(O:Orc)(d:DV)(e:List DS)(a:List DV)(_l:List OC):Option PX:=za (zY d) fun f=>za (zc .lss (zf a 0) f) fun g=>ifB g (za (yW 3 (dsO (zT e 0)) (zf a 0)) fun b=>za (yW 3 d (zf a 0)) fun c=>b1 (O 13 [SA [atD b 0,atD b 1,atD b 2],SA [atD c 0,atD c 1,atD c 2]]) fun h=>za (uE h) fun j=>ifB j (some (.ret,[.bool false],[])) (za (zc .add (zf a 0) (I6 1)) fun k=>some (.normal,[k],[]))) (some (.exit 0,[],[]))
def zyv(O:Orc)(d:DV)(e:List DS)(a:List DV)(_l:List OC):Option PX:=za (zY d) fun f=>za (zc .lss (zf a 0) f) fun g=>ifB g (za (yW 3 (dsO (zT e 0)) (zf a 0)) fun b=>za (yW 3 d (zf a 0)) fun c=>b1 (O 13 [SA [atD b 0,atD b 1,atD b 2],SA [atD c 0,atD c 1,atD c 2]]) fun h=>za (uE h) fun j=>ifB j (some (.ret,[.bool false],[])) (za (zc .add (zf a 0) (I6 1)) fun k=>some (.normal,[k],[]))) (some (.exit 0,[],[]))
def zyA(O:Orc)(d:DV)(e:List DS)(a:List DV)(_l:List OC):Option PX:=za (zY d) fun f=>za (zc .lss (zf a 0) f) fun g=>ifB g (za (yW 3 (dsO (zT e 0)) (zf a 0)) fun b=>za (yW 3 d (zf a 0)) fun c=>b1 (O 13 [SA [atD b 0,atD b 1,atD b 2],SA [atD c 0,atD c 1,atD c 2]]) fun h=>za (uE h) fun j=>ifB j (some (.ret,[.bool false],[])) (za (zc .add (zf a 0) (I6 1)) fun k=>some (.normal,[k],[]))) (some (.exit 0,[],[]))
def zkY(O:Orc)(d:DV)(e:List DS)(a:List DV)(_l:List OC):Option PX:=za (zY d) fun f=>za (zc .lss (zf a 0) f) fun g=>ifB g (za (yW 3 (dsO (zT e 0)) (zf a 0)) fun b=>za (yW 3 d (zf a 0)) fun c=>b1 (O 13 [SA [atD b 0,atD b 1,atD b 2],SA [atD c 0,atD c 1,atD c 2]]) fun h=>za (uE h) fun j=>ifB j (some (.ret,[.bool false],[])) (za (zc .add (zf a 0) (I6 1)) fun k=>some (.normal,[k],[]))) (some (.exit 0,[],[]))
def zyB(O:Orc)(d:DV)(e:List DS)(a:List DV)(_l:List OC):Option PX:=za (zY d) fun f=>za (zc .lss (zf a 0) f) fun g=>ifB g (za (yW 3 (dsO (zT e 0)) (zf a 0)) fun b=>za (yW 3 d (zf a 0)) fun c=>b1 (O 13 [SA [atD b 0,atD b 1,atD b 2],SA [atD c 0,atD c 1,atD c 2]]) fun h=>za (uE h) fun j=>ifB j (some (.ret,[.bool false],[])) (za (zc .add (zf a 0) (I6 1)) fun k=>some (.normal,[k],[]))) (some (.exit 0,[],[]))
def zyx(O:Orc)(d:DV)(e:List DS)(a:List DV)(_l:List OC):Option PX:=za (zY d) fun f=>za (zc .lss (zf a 0) f) fun g=>ifB g (za (yW 3 (dsO (zT e 0)) (zf a 0)) fun b=>za (yW 3 d (zf a 0)) fun c=>b1 (O 13 [SA [atD b 0,atD b 1,atD b 2],SA [atD c 0,atD c 1,atD c 2]]) fun h=>za (uE h) fun j=>ifB j (some (.ret,[.bool false],[])) (za (zc .add (zf a 0) (I6 1)) fun k=>some (.normal,[k],[]))) (some (.exit 0,[],[]))
def zyz(O:Orc)(d:DV)(e:List DS)(a:List DV)(_l:List OC):Option PX:=za (zY d) fun f=>za (zc .lss (zf a 0) f) fun g=>ifB g (za (yW 3 (dsO (zT e 0)) (zf a 0)) fun b=>za (yW 3 d (zf a 0)) fun c=>b1 (O 13 [SA [atD b 0,atD b 1,atD b 2],SA [atD c 0,atD c 1,atD c 2]]) fun h=>za (uE h) fun j=>ifB j (some (.ret,[.bool false],[])) (za (zc .add (zf a 0) (I6 1)) fun k=>some (.normal,[k],[]))) (some (.exit 0,[],[]))
def zyy(O:Orc)(d:DV)(e:List DS)(a:List DV)(_l:List OC):Option PX:=za (zY d) fun f=>za (zc .lss (zf a 0) f) fun g=>ifB g (za (yW 3 (dsO (zT e 0)) (zf a 0)) fun b=>za (yW 3 d (zf a 0)) fun c=>b1 (O 13 [SA [atD b 0,atD b 1,atD b 2],SA [atD c 0,atD c 1,atD c 2]]) fun h=>za (uE h) fun j=>ifB j (some (.ret,[.bool false],[])) (za (zc .add (zf a 0) (I6 1)) fun k=>some (.normal,[k],[]))) (some (.exit 0,[],[]))
def P3(O:Orc)(a b c d f h j m r s:DV):Option DA:=b1 (O 5 []) fun ae=>za (uE ae) fun af=>ifB af (b1 (O 5 []) fun ag=>some (S1 ag)) (b1 (O 6 [SA [a,b,c]]) fun ah=>za (uE ah) fun aj=>ifB aj (b1 (O 5 []) fun ak=>some (S1 ak)) (za (zY d) fun al=>za (zc .gtr al (I6 10)) fun am=>ifB am (b1 (O 5 []) fun an=>some (S1 an)) (za (zY j) fun ao=>za (zc .gtr ao (I6 10)) fun ap=>ifB ap (b1 (O 5 []) fun aq=>some (S1 aq)) (bA 4 (O 7 [SA [a,b,c]]) fun g=>bT [none,none] (O 8 [SA [atD g 0,atD g 1,atD g 2,atD g 3],SA [d,f,h,j,m,r,s]]) fun e=>bT [none,none] (O 9 [SA [atD g 0,atD g 1,atD g 2,atD g 3],SA [d,f,h,j,m,r,s]]) fun k=>b1 (O 10 [SA [atD g 0,atD g 1,atD g 2,atD g 3],SA [d,f,h]]) fun l=>za (zc .eql l (I6 0)) fun ar=>ifB ar (b1 (O 10 [SA [atD g 0,atD g 1,atD g 2,atD g 3],SA [j,m,r]]) fun n=>za (zc .eql n (I6 0)) fun au=>ifB au (za (zc .lss s (I6 1)) fun av=>ifB av (za (zc .eql (I6 3) (I6 0)) fun aw=>ifB aw (b1 (O 11 [SA [d,f,h],SA [j,m,r]]) fun ax=>za (uE ax) fun ay=>ifB ay (za (zc .neq (I6 6) (I6 0)) fun ba=>ifB ba (za (zY (dsO (zT e 0))) fun bb=>za (zc .eql bb (I6 0)) fun bc=>ifB bc (za (zc .eql (dsO (zT e 1)) (I6 6)) fun bd=>ifB bd (za (zc .eql (dsO (zT k 0)) (I6 0)) fun be=>ifB be (za (zc .eql (dsO (zT k 1)) (I6 6)) fun bf=>some (S1 bf)) (some (S1 (.bool false)))) (some (S1 (.bool false)))) (some (S1 (.bool false)))) (b1 (O 12 [SA [atD g 0,atD g 1,atD g 2,atD g 3],SA [d,f,h,j,m,r,s]]) fun o=>za (zc .neq (dsO (zT e 1)) (I6 0)) fun bg=>ifB bg (some (S1 (.bool false))) (za (zc .neq (dsO (zT k 1)) (I6 0)) fun bh=>ifB bh (some (S1 (.bool false))) (za (zY o) fun bj=>za (zc .neq (dsO (zT k 0)) bj) fun bk=>ifB bk (some (S1 (.bool false))) (za (zY (dsO (zT e 0))) fun bl=>za (zY o) fun bm=>za (zc .neq bl bm) fun bn=>ifB bn (some (S1 (.bool false))) (z6 (zA (zyy O o e) [I6 0] []) (fun bo _L _bp=>bif Nat.beq bo 0 then (some (S1 (.bool true))) else(none)) (fun L _bp=>some (S1 (zf L 0))))))))) (za (zc .neq (I6 3) (I6 0)) fun bq=>ifB bq (za (zY (dsO (zT e 0))) fun br=>za (zc .eql br (I6 0)) fun bs=>ifB bs (za (zc .eql (dsO (zT e 1)) (I6 3)) fun bt=>ifB bt (za (zc .eql (dsO (zT k 0)) (I6 0)) fun bu=>ifB bu (za (zc .eql (dsO (zT k 1)) (I6 3)) fun bv=>some (S1 bv)) (some (S1 (.bool false)))) (some (S1 (.bool false)))) (some (S1 (.bool false)))) (b1 (O 12 [SA [atD g 0,atD g 1,atD g 2,atD g 3],SA [d,f,h,j,m,r,s]]) fun p=>za (zc .neq (dsO (zT e 1)) (I6 0)) fun bw=>ifB bw (some (S1 (.bool false))) (za (zc .neq (dsO (zT k 1)) (I6 0)) fun bx=>ifB bx (some (S1 (.bool false))) (za (zY p) fun bz=>za (zc .neq (dsO (zT k 0)) bz) fun ca=>ifB ca (some (S1 (.bool false))) (za (zY (dsO (zT e 0))) fun cb=>za (zY p) fun cc=>za (zc .neq cb cc) fun cd=>ifB cd (some (S1 (.bool false))) (z6 (zA (zyz O p e) [I6 0] []) (fun ce _M _cf=>bif Nat.beq ce 0 then (some (S1 (.bool true))) else(none)) (fun M _cf=>some (S1 (zf M 0)))))))))) (za (zc .neq (I6 3) (I6 0)) fun cg=>ifB cg (za (zY (dsO (zT e 0))) fun ch=>za (zc .eql ch (I6 0)) fun cj=>ifB cj (za (zc .eql (dsO (zT e 1)) (I6 3)) fun ck=>ifB ck (za (zc .eql (dsO (zT k 0)) (I6 0)) fun cl=>ifB cl (za (zc .eql (dsO (zT k 1)) (I6 3)) fun cm=>some (S1 cm)) (some (S1 (.bool false)))) (some (S1 (.bool false)))) (some (S1 (.bool false)))) (b1 (O 12 [SA [atD g 0,atD g 1,atD g 2,atD g 3],SA [d,f,h,j,m,r,s]]) fun q=>za (zc .neq (dsO (zT e 1)) (I6 0)) fun cn=>ifB cn (some (S1 (.bool false))) (za (zc .neq (dsO (zT k 1)) (I6 0)) fun co=>ifB co (some (S1 (.bool false))) (za (zY q) fun cp=>za (zc .neq (dsO (zT k 0)) cp) fun cq=>ifB cq (some (S1 (.bool false))) (za (zY (dsO (zT e 0))) fun cr=>za (zY q) fun cs=>za (zc .neq cr cs) fun ct=>ifB ct (some (S1 (.bool false))) (z6 (zA (zyx O q e) [I6 0] []) (fun cu _N _cv=>bif Nat.beq cu 0 then (some (S1 (.bool true))) else(none)) (fun N _cv=>some (S1 (zf N 0)))))))))) (za (zc .eql n (I6 0)) fun cw=>ifB cw (b1 (O 11 [SA [d,f,h],SA [j,m,r]]) fun cx=>za (uE cx) fun cy=>ifB cy (za (zc .neq (I6 6) (I6 0)) fun cz=>ifB cz (za (zY (dsO (zT e 0))) fun da=>za (zc .eql da (I6 0)) fun db=>ifB db (za (zc .eql (dsO (zT e 1)) (I6 6)) fun dc=>ifB dc (za (zc .eql (dsO (zT k 0)) (I6 0)) fun dd=>ifB dd (za (zc .eql (dsO (zT k 1)) (I6 6)) fun de=>some (S1 de)) (some (S1 (.bool false)))) (some (S1 (.bool false)))) (some (S1 (.bool false)))) (b1 (O 12 [SA [atD g 0,atD g 1,atD g 2,atD g 3],SA [d,f,h,j,m,r,s]]) fun t=>za (zc .neq (dsO (zT e 1)) (I6 0)) fun df=>ifB df (some (S1 (.bool false))) (za (zc .neq (dsO (zT k 1)) (I6 0)) fun dg=>ifB dg (some (S1 (.bool false))) (za (zY t) fun dh=>za (zc .neq (dsO (zT k 0)) dh) fun dj=>ifB dj (some (S1 (.bool false))) (za (zY (dsO (zT e 0))) fun dk=>za (zY t) fun dl=>za (zc .neq dk dl) fun dm=>ifB dm (some (S1 (.bool false))) (z6 (zA (zyB O t e) [I6 0] []) (fun dn _P _dp=>bif Nat.beq dn 0 then (some (S1 (.bool true))) else(none)) (fun P _dp=>some (S1 (zf P 0))))))))) (za (zc .neq n (I6 0)) fun dq=>ifB dq (za (zY (dsO (zT e 0))) fun dr=>za (zc .eql dr (I6 0)) fun ds=>ifB ds (za (zc .eql (dsO (zT e 1)) n) fun dt=>ifB dt (za (zc .eql (dsO (zT k 0)) (I6 0)) fun du=>ifB du (za (zc .eql (dsO (zT k 1)) n) fun dv=>some (S1 dv)) (some (S1 (.bool false)))) (some (S1 (.bool false)))) (some (S1 (.bool false)))) (b1 (O 12 [SA [atD g 0,atD g 1,atD g 2,atD g 3],SA [d,f,h,j,m,r,s]]) fun v=>za (zc .neq (dsO (zT e 1)) (I6 0)) fun dw=>ifB dw (some (S1 (.bool false))) (za (zc .neq (dsO (zT k 1)) (I6 0)) fun dx=>ifB dx (some (S1 (.bool false))) (za (zY v) fun dy=>za (zc .neq (dsO (zT k 0)) dy) fun dz=>ifB dz (some (S1 (.bool false))) (za (zY (dsO (zT e 0))) fun ea=>za (zY v) fun eb=>za (zc .neq ea eb) fun ec=>ifB ec (some (S1 (.bool false))) (z6 (zA (zkY O v e) [I6 0] []) (fun ed _Q _ee=>bif Nat.beq ed 0 then (some (S1 (.bool true))) else(none)) (fun Q _ee=>some (S1 (zf Q 0)))))))))) (za (zc .neq n (I6 0)) fun ef=>ifB ef (za (zY (dsO (zT e 0))) fun eg=>za (zc .eql eg (I6 0)) fun eh=>ifB eh (za (zc .eql (dsO (zT e 1)) n) fun ej=>ifB ej (za (zc .eql (dsO (zT k 0)) (I6 0)) fun ek=>ifB ek (za (zc .eql (dsO (zT k 1)) n) fun el=>some (S1 el)) (some (S1 (.bool false)))) (some (S1 (.bool false)))) (some (S1 (.bool false)))) (b1 (O 12 [SA [atD g 0,atD g 1,atD g 2,atD g 3],SA [d,f,h,j,m,r,s]]) fun w=>za (zc .neq (dsO (zT e 1)) (I6 0)) fun em=>ifB em (some (S1 (.bool false))) (za (zc .neq (dsO (zT k 1)) (I6 0)) fun en=>ifB en (some (S1 (.bool false))) (za (zY w) fun eo=>za (zc .neq (dsO (zT k 0)) eo) fun ep=>ifB ep (some (S1 (.bool false))) (za (zY (dsO (zT e 0))) fun eq=>za (zY w) fun er=>za (zc .neq eq er) fun es=>ifB es (some (S1 (.bool false))) (z6 (zA (zyA O w e) [I6 0] []) (fun et _R _eu=>bif Nat.beq et 0 then (some (S1 (.bool true))) else(none)) (fun R _eu=>some (S1 (zf R 0))))))))))) (za (zc .eql n (I6 0)) fun ev=>ifB ev (b1 (O 11 [SA [d,f,h],SA [j,m,r]]) fun ew=>za (uE ew) fun ex=>ifB ex (za (zc .neq (I6 6) (I6 0)) fun ey=>ifB ey (za (zY (dsO (zT e 0))) fun ez=>za (zc .eql ez (I6 0)) fun fa=>ifB fa (za (zc .eql (dsO (zT e 1)) (I6 6)) fun fb=>ifB fb (za (zc .eql (dsO (zT k 0)) (I6 0)) fun fc=>ifB fc (za (zc .eql (dsO (zT k 1)) (I6 6)) fun fd=>some (S1 fd)) (some (S1 (.bool false)))) (some (S1 (.bool false)))) (some (S1 (.bool false)))) (b1 (O 12 [SA [atD g 0,atD g 1,atD g 2,atD g 3],SA [d,f,h,j,m,r,s]]) fun x=>za (zc .neq (dsO (zT e 1)) (I6 0)) fun fe=>ifB fe (some (S1 (.bool false))) (za (zc .neq (dsO (zT k 1)) (I6 0)) fun ff=>ifB ff (some (S1 (.bool false))) (za (zY x) fun fg=>za (zc .neq (dsO (zT k 0)) fg) fun fh=>ifB fh (some (S1 (.bool false))) (za (zY (dsO (zT e 0))) fun fj=>za (zY x) fun fk=>za (zc .neq fj fk) fun fl=>ifB fl (some (S1 (.bool false))) (z6 (zA (zyv O x e) [I6 0] []) (fun fm _S _fn=>bif Nat.beq fm 0 then (some (S1 (.bool true))) else(none)) (fun S _fn=>some (S1 (zf S 0))))))))) (za (zc .neq n (I6 0)) fun fo=>ifB fo (za (zY (dsO (zT e 0))) fun fp=>za (zc .eql fp (I6 0)) fun fq=>ifB fq (za (zc .eql (dsO (zT e 1)) n) fun fr=>ifB fr (za (zc .eql (dsO (zT k 0)) (I6 0)) fun fs=>ifB fs (za (zc .eql (dsO (zT k 1)) n) fun ft=>some (S1 ft)) (some (S1 (.bool false)))) (some (S1 (.bool false)))) (some (S1 (.bool false)))) (b1 (O 12 [SA [atD g 0,atD g 1,atD g 2,atD g 3],SA [d,f,h,j,m,r,s]]) fun y=>za (zc .neq (dsO (zT e 1)) (I6 0)) fun fu=>ifB fu (some (S1 (.bool false))) (za (zc .neq (dsO (zT k 1)) (I6 0)) fun fv=>ifB fv (some (S1 (.bool false))) (za (zY y) fun fw=>za (zc .neq (dsO (zT k 0)) fw) fun fx=>ifB fx (some (S1 (.bool false))) (za (zY (dsO (zT e 0))) fun fy=>za (zY y) fun fz=>za (zc .neq fy fz) fun ga=>ifB ga (some (S1 (.bool false))) (z6 (zA (zyw O y e) [I6 0] []) (fun gb _T _gc=>bif Nat.beq gb 0 then (some (S1 (.bool true))) else(none)) (fun T _gc=>some (S1 (zf T 0)))))))))) (za (zc .neq n (I6 0)) fun gd=>ifB gd (za (zY (dsO (zT e 0))) fun ge=>za (zc .eql ge (I6 0)) fun gf=>ifB gf (za (zc .eql (dsO (zT e 1)) n) fun gg=>ifB gg (za (zc .eql (dsO (zT k 0)) (I6 0)) fun gh=>ifB gh (za (zc .eql (dsO (zT k 1)) n) fun gj=>some (S1 gj)) (some (S1 (.bool false)))) (some (S1 (.bool false)))) (some (S1 (.bool false)))) (b1 (O 12 [SA [atD g 0,atD g 1,atD g 2,atD g 3],SA [d,f,h,j,m,r,s]]) fun z=>za (zc .neq (dsO (zT e 1)) (I6 0)) fun gk=>ifB gk (some (S1 (.bool false))) (za (zc .neq (dsO (zT k 1)) (I6 0)) fun gl=>ifB gl (some (S1 (.bool false))) (za (zY z) fun gm=>za (zc .neq (dsO (zT k 0)) gm) fun gn=>ifB gn (some (S1 (.bool false))) (za (zY (dsO (zT e 0))) fun go=>za (zY z) fun gp=>za (zc .neq go gp) fun gq=>ifB gq (some (S1 (.bool false))) (z6 (zA (zyu O z e) [I6 0] []) (fun gr _U _gs=>bif Nat.beq gr 0 then (some (S1 (.bool true))) else(none)) (fun U _gs=>some (S1 (zf U 0))))))))))) (za (zc .eql l (I6 0)) fun gt=>ifB gt (za (zc .lss s (I6 1)) fun gu=>ifB gu (za (zc .eql (I6 3) (I6 0)) fun gv=>ifB gv (b1 (O 11 [SA [d,f,h],SA [j,m,r]]) fun gw=>za (uE gw) fun gx=>ifB gx (za (zc .neq (I6 6) (I6 0)) fun gy=>ifB gy (za (zY (dsO (zT e 0))) fun gz=>za (zc .eql gz (I6 0)) fun ha=>ifB ha (za (zc .eql (dsO (zT e 1)) (I6 6)) fun hb=>ifB hb (za (zc .eql (dsO (zT k 0)) (I6 0)) fun hc=>ifB hc (za (zc .eql (dsO (zT k 1)) (I6 6)) fun hd=>some (S1 hd)) (some (S1 (.bool false)))) (some (S1 (.bool false)))) (some (S1 (.bool false)))) (b1 (O 12 [SA [atD g 0,atD g 1,atD g 2,atD g 3],SA [d,f,h,j,m,r,s]]) fun A=>za (zc .neq (dsO (zT e 1)) (I6 0)) fun he=>ifB he (some (S1 (.bool false))) (za (zc .neq (dsO (zT k 1)) (I6 0)) fun hf=>ifB hf (some (S1 (.bool false))) (za (zY A) fun hg=>za (zc .neq (dsO (zT k 0)) hg) fun hh=>ifB hh (some (S1 (.bool false))) (za (zY (dsO (zT e 0))) fun hj=>za (zY A) fun hk=>za (zc .neq hj hk) fun hl=>ifB hl (some (S1 (.bool false))) (z6 (zA (zyG O A e) [I6 0] []) (fun hm _V _hn=>bif Nat.beq hm 0 then (some (S1 (.bool true))) else(none)) (fun V _hn=>some (S1 (zf V 0))))))))) (za (zc .neq (I6 3) (I6 0)) fun ho=>ifB ho (za (zY (dsO (zT e 0))) fun hp=>za (zc .eql hp (I6 0)) fun hq=>ifB hq (za (zc .eql (dsO (zT e 1)) (I6 3)) fun hr=>ifB hr (za (zc .eql (dsO (zT k 0)) (I6 0)) fun hs=>ifB hs (za (zc .eql (dsO (zT k 1)) (I6 3)) fun ht=>some (S1 ht)) (some (S1 (.bool false)))) (some (S1 (.bool false)))) (some (S1 (.bool false)))) (b1 (O 12 [SA [atD g 0,atD g 1,atD g 2,atD g 3],SA [d,f,h,j,m,r,s]]) fun B=>za (zc .neq (dsO (zT e 1)) (I6 0)) fun hu=>ifB hu (some (S1 (.bool false))) (za (zc .neq (dsO (zT k 1)) (I6 0)) fun hv=>ifB hv (some (S1 (.bool false))) (za (zY B) fun hw=>za (zc .neq (dsO (zT k 0)) hw) fun hx=>ifB hx (some (S1 (.bool false))) (za (zY (dsO (zT e 0))) fun hy=>za (zY B) fun hz=>za (zc .neq hy hz) fun ja=>ifB ja (some (S1 (.bool false))) (z6 (zA (zyH O B e) [I6 0] []) (fun jb _W _jc=>bif Nat.beq jb 0 then (some (S1 (.bool true))) else(none)) (fun W _jc=>some (S1 (zf W 0)))))))))) (za (zc .neq (I6 3) (I6 0)) fun jd=>ifB jd (za (zY (dsO (zT e 0))) fun je=>za (zc .eql je (I6 0)) fun jf=>ifB jf (za (zc .eql (dsO (zT e 1)) (I6 3)) fun jg=>ifB jg (za (zc .eql (dsO (zT k 0)) (I6 0)) fun jh=>ifB jh (za (zc .eql (dsO (zT k 1)) (I6 3)) fun jj=>some (S1 jj)) (some (S1 (.bool false)))) (some (S1 (.bool false)))) (some (S1 (.bool false)))) (b1 (O 12 [SA [atD g 0,atD g 1,atD g 2,atD g 3],SA [d,f,h,j,m,r,s]]) fun C=>za (zc .neq (dsO (zT e 1)) (I6 0)) fun jk=>ifB jk (some (S1 (.bool false))) (za (zc .neq (dsO (zT k 1)) (I6 0)) fun jl=>ifB jl (some (S1 (.bool false))) (za (zY C) fun jm=>za (zc .neq (dsO (zT k 0)) jm) fun jn=>ifB jn (some (S1 (.bool false))) (za (zY (dsO (zT e 0))) fun jo=>za (zY C) fun jp=>za (zc .neq jo jp) fun jq=>ifB jq (some (S1 (.bool false))) (z6 (zA (zyF O C e) [I6 0] []) (fun jr _X _js=>bif Nat.beq jr 0 then (some (S1 (.bool true))) else(none)) (fun X _js=>some (S1 (zf X 0)))))))))) (za (zc .eql l (I6 0)) fun jt=>ifB jt (b1 (O 11 [SA [d,f,h],SA [j,m,r]]) fun ju=>za (uE ju) fun jv=>ifB jv (za (zc .neq (I6 6) (I6 0)) fun jw=>ifB jw (za (zY (dsO (zT e 0))) fun jx=>za (zc .eql jx (I6 0)) fun jy=>ifB jy (za (zc .eql (dsO (zT e 1)) (I6 6)) fun jz=>ifB jz (za (zc .eql (dsO (zT k 0)) (I6 0)) fun ka=>ifB ka (za (zc .eql (dsO (zT k 1)) (I6 6)) fun kb=>some (S1 kb)) (some (S1 (.bool false)))) (some (S1 (.bool false)))) (some (S1 (.bool false)))) (b1 (O 12 [SA [atD g 0,atD g 1,atD g 2,atD g 3],SA [d,f,h,j,m,r,s]]) fun E=>za (zc .neq (dsO (zT e 1)) (I6 0)) fun kc=>ifB kc (some (S1 (.bool false))) (za (zc .neq (dsO (zT k 1)) (I6 0)) fun kd=>ifB kd (some (S1 (.bool false))) (za (zY E) fun ke=>za (zc .neq (dsO (zT k 0)) ke) fun kf=>ifB kf (some (S1 (.bool false))) (za (zY (dsO (zT e 0))) fun kg=>za (zY E) fun kh=>za (zc .neq kg kh) fun kj=>ifB kj (some (S1 (.bool false))) (z6 (zA (zA1 O E e) [I6 0] []) (fun kk _Y _kl=>bif Nat.beq kk 0 then (some (S1 (.bool true))) else(none)) (fun Y _kl=>some (S1 (zf Y 0))))))))) (za (zc .neq l (I6 0)) fun km=>ifB km (za (zY (dsO (zT e 0))) fun kn=>za (zc .eql kn (I6 0)) fun ko=>ifB ko (za (zc .eql (dsO (zT e 1)) l) fun kp=>ifB kp (za (zc .eql (dsO (zT k 0)) (I6 0)) fun kq=>ifB kq (za (zc .eql (dsO (zT k 1)) l) fun kr=>some (S1 kr)) (some (S1 (.bool false)))) (some (S1 (.bool false)))) (some (S1 (.bool false)))) (b1 (O 12 [SA [atD g 0,atD g 1,atD g 2,atD g 3],SA [d,f,h,j,m,r,s]]) fun F=>za (zc .neq (dsO (zT e 1)) (I6 0)) fun ks=>ifB ks (some (S1 (.bool false))) (za (zc .neq (dsO (zT k 1)) (I6 0)) fun kt=>ifB kt (some (S1 (.bool false))) (za (zY F) fun ku=>za (zc .neq (dsO (zT k 0)) ku) fun kv=>ifB kv (some (S1 (.bool false))) (za (zY (dsO (zT e 0))) fun kw=>za (zY F) fun kx=>za (zc .neq kw kx) fun ky=>ifB ky (some (S1 (.bool false))) (z6 (zA (zA2 O F e) [I6 0] []) (fun kz _Z _la=>bif Nat.beq kz 0 then (some (S1 (.bool true))) else(none)) (fun Z _la=>some (S1 (zf Z 0)))))))))) (za (zc .neq l (I6 0)) fun lb=>ifB lb (za (zY (dsO (zT e 0))) fun lc=>za (zc .eql lc (I6 0)) fun ld=>ifB ld (za (zc .eql (dsO (zT e 1)) l) fun le=>ifB le (za (zc .eql (dsO (zT k 0)) (I6 0)) fun lf=>ifB lf (za (zc .eql (dsO (zT k 1)) l) fun lg=>some (S1 lg)) (some (S1 (.bool false)))) (some (S1 (.bool false)))) (some (S1 (.bool false)))) (b1 (O 12 [SA [atD g 0,atD g 1,atD g 2,atD g 3],SA [d,f,h,j,m,r,s]]) fun G=>za (zc .neq (dsO (zT e 1)) (I6 0)) fun lh=>ifB lh (some (S1 (.bool false))) (za (zc .neq (dsO (zT k 1)) (I6 0)) fun lj=>ifB lj (some (S1 (.bool false))) (za (zY G) fun lk=>za (zc .neq (dsO (zT k 0)) lk) fun ll=>ifB ll (some (S1 (.bool false))) (za (zY (dsO (zT e 0))) fun lm=>za (zY G) fun ln=>za (zc .neq lm ln) fun lo=>ifB lo (some (S1 (.bool false))) (z6 (zA (zA0 O G e) [I6 0] []) (fun lp _aa _lq=>bif Nat.beq lp 0 then (some (S1 (.bool true))) else(none)) (fun aa _lq=>some (S1 (zf aa 0))))))))))) (za (zc .eql l (I6 0)) fun lr=>ifB lr (b1 (O 11 [SA [d,f,h],SA [j,m,r]]) fun ls=>za (uE ls) fun lt=>ifB lt (za (zc .neq (I6 6) (I6 0)) fun lu=>ifB lu (za (zY (dsO (zT e 0))) fun lv=>za (zc .eql lv (I6 0)) fun lw=>ifB lw (za (zc .eql (dsO (zT e 1)) (I6 6)) fun lx=>ifB lx (za (zc .eql (dsO (zT k 0)) (I6 0)) fun ly=>ifB ly (za (zc .eql (dsO (zT k 1)) (I6 6)) fun lz=>some (S1 lz)) (some (S1 (.bool false)))) (some (S1 (.bool false)))) (some (S1 (.bool false)))) (b1 (O 12 [SA [atD g 0,atD g 1,atD g 2,atD g 3],SA [d,f,h,j,m,r,s]]) fun H=>za (zc .neq (dsO (zT e 1)) (I6 0)) fun ma=>ifB ma (some (S1 (.bool false))) (za (zc .neq (dsO (zT k 1)) (I6 0)) fun mb=>ifB mb (some (S1 (.bool false))) (za (zY H) fun mc=>za (zc .neq (dsO (zT k 0)) mc) fun md=>ifB md (some (S1 (.bool false))) (za (zY (dsO (zT e 0))) fun me=>za (zY H) fun mf=>za (zc .neq me mf) fun mg=>ifB mg (some (S1 (.bool false))) (z6 (zA (zyD O H e) [I6 0] []) (fun mh _ab _mj=>bif Nat.beq mh 0 then (some (S1 (.bool true))) else(none)) (fun ab _mj=>some (S1 (zf ab 0))))))))) (za (zc .neq l (I6 0)) fun mk=>ifB mk (za (zY (dsO (zT e 0))) fun ml=>za (zc .eql ml (I6 0)) fun mm=>ifB mm (za (zc .eql (dsO (zT e 1)) l) fun mn=>ifB mn (za (zc .eql (dsO (zT k 0)) (I6 0)) fun mo=>ifB mo (za (zc .eql (dsO (zT k 1)) l) fun mp=>some (S1 mp)) (some (S1 (.bool false)))) (some (S1 (.bool false)))) (some (S1 (.bool false)))) (b1 (O 12 [SA [atD g 0,atD g 1,atD g 2,atD g 3],SA [d,f,h,j,m,r,s]]) fun J=>za (zc .neq (dsO (zT e 1)) (I6 0)) fun mq=>ifB mq (some (S1 (.bool false))) (za (zc .neq (dsO (zT k 1)) (I6 0)) fun mr=>ifB mr (some (S1 (.bool false))) (za (zY J) fun ms=>za (zc .neq (dsO (zT k 0)) ms) fun mt=>ifB mt (some (S1 (.bool false))) (za (zY (dsO (zT e 0))) fun mu=>za (zY J) fun mv=>za (zc .neq mu mv) fun mw=>ifB mw (some (S1 (.bool false))) (z6 (zA (zyE O J e) [I6 0] []) (fun mx _ac _my=>bif Nat.beq mx 0 then (some (S1 (.bool true))) else(none)) (fun ac _my=>some (S1 (zf ac 0)))))))))) (za (zc .neq l (I6 0)) fun mz=>ifB mz (za (zY (dsO (zT e 0))) fun na=>za (zc .eql na (I6 0)) fun nb=>ifB nb (za (zc .eql (dsO (zT e 1)) l) fun nc=>ifB nc (za (zc .eql (dsO (zT k 0)) (I6 0)) fun nd=>ifB nd (za (zc .eql (dsO (zT k 1)) l) fun ne=>some (S1 ne)) (some (S1 (.bool false)))) (some (S1 (.bool false)))) (some (S1 (.bool false)))) (b1 (O 12 [SA [atD g 0,atD g 1,atD g 2,atD g 3],SA [d,f,h,j,m,r,s]]) fun K=>za (zc .neq (dsO (zT e 1)) (I6 0)) fun nf=>ifB nf (some (S1 (.bool false))) (za (zc .neq (dsO (zT k 1)) (I6 0)) fun ng=>ifB ng (some (S1 (.bool false))) (za (zY K) fun nh=>za (zc .neq (dsO (zT k 0)) nh) fun nj=>ifB nj (some (S1 (.bool false))) (za (zY (dsO (zT e 0))) fun nk=>za (zY K) fun nl=>za (zc .neq nk nl) fun nm=>ifB nm (some (S1 (.bool false))) (z6 (zA (zyC O K e) [I6 0] []) (fun nn _ad _no=>bif Nat.beq nn 0 then (some (S1 (.bool true))) else(none)) (fun ad _no=>some (S1 (zf ad 0)))))))))))))))
theorem p3(O:Orc)(a b c d f h j m r s:DV):wM prog O yA (inl prog O yA zBB redI 6) an3 3 [SA [a,b,c],SA [d,f,h,j,m,r,s]]=P3 O a b c d f h j m r s:=by kernel_rfl
def an6:Nat→Option LA:=fun i=>match i with|0=>some ⟨[.slot 3],[],[],[],[],[],[.slot 2],[],[]⟩|_=>none
def zBA:Nat→List PA→Nat→Nat→Option LA:=fun h _ n i=>match h,n,i with|28,0,999=>some ⟨[],[],[],[],[],[],[],[],[]⟩  |_,_,_=>none
def zpE(a:DV)(b:List DV)(_j:List OC):Option PX:=za (zY a) fun c=>za (zc .lss (zf b 0) c) fun d=>ifB d (za (yW 4 a (zf b 0)) fun e=>za (zY (atD e 3)) fun f=>za (zc .gtr f (I6 3)) fun g=>ifB g (some (.ret,[.bool false],[])) (za (zc .add (zf b 0) (I6 1)) fun h=>some (.normal,[h],[]))) (some (.exit 0,[],[]))
def P6(_O:Orc)(a b c:DV):Option DA:=za (zY a) fun e=>za (zc .lss e (I6 1)) fun f=>ifB f (some (S1 (.bool false))) (za (zY a) fun g=>za (zc .gtr g (I6 3)) fun h=>ifB h (some (S1 (.bool false))) (za (zY b) fun j=>za (zc .lss j (I6 1)) fun k=>ifB k (some (S1 (.bool false))) (za (zY b) fun l=>za (zc .gtr l (I6 3)) fun m=>ifB m (some (S1 (.bool false))) (za (zY c) fun n=>za (zc .gtr n (I6 3)) fun o=>ifB o (some (S1 (.bool false))) (z6 (zA (zpE b) [I6 0] []) (fun p _d _q=>bif Nat.beq p 0 then (some (S1 (.bool true))) else(none)) (fun d _q=>some (S1 (zf d 0))))))))
theorem p6(O:Orc)(a b c:DV):wM prog O yA (inl prog O yA zBA redI 6) an6 6 [SA [a,b,c]]=P6 O a b c:=by kernel_rfl
def an7:Nat→Option LA:=fun i=>match i with|0=>some ⟨[.slot 4,.cell 2 0],[(.cell 2 1,6),(.cell 2 2,5),(.cell 2 3,5)],[(2,4)],[],[.cell 2 0],[(.cell 2 1,6),(.cell 2 2,5),(.cell 2 3,5)],[.cell 2 0,.cell 2 2,.cell 2 3],[(.cell 2 1,6)],[]⟩|1=>some ⟨[.slot 5,.cell 2 0,.cell 2 1],[(.cell 2 2,5),(.cell 2 3,5)],[(2,4)],[],[.cell 2 0,.cell 2 1],[(.cell 2 2,5),(.cell 2 3,5)],[.cell 2 0,.cell 2 1],[(.cell 2 2,5),(.cell 2 3,5)],[3]⟩|2=>some ⟨[.slot 9,.cell 10 0,.cell 10 1,.cell 10 2,.cell 10 3],[(.cell 10 4,4)],[(10,5)],[],[.cell 10 0,.cell 10 1,.cell 10 2,.cell 10 3],[(.cell 10 4,4)],[.cell 10 0,.cell 10 1,.cell 10 2,.cell 10 3],[(.cell 10 4,4)],[]⟩|3=>some ⟨[.slot 11,.cell 2 0,.cell 2 1],[(.cell 2 2,5),(.cell 2 3,5)],[(2,4)],[],[.cell 2 0,.cell 2 1],[(.cell 2 2,5),(.cell 2 3,5)],[.cell 2 0,.cell 2 1],[(.cell 2 2,5),(.cell 2 3,5)],[]⟩|_=>none
def zBz:Nat→List PA→Nat→Nat→Option LA:=fun h _ n i=>match h,n,i with|28,0,999=>some ⟨[],[],[],[],[],[],[],[],[]⟩  |_,_,_=>none
def zpB(a j:DV)(b:List DV)(c:List OC):Option PX:=za (zY a) fun k=>za (zc .lss (zf b 0) k) fun l=>ifB l (za (yW 4 a (zf b 0)) fun d=>za (zc .add (I6 48) (zf b 0)) fun m=>za (xx .u8 m) fun n=>za (znE (.lst 1 [[n]])) fun o=>za (znx .add (.str ⟨#[67]⟩) o) fun g=>za (xx .i64 (atD d 0)) fun p=>za (zc .rem p j) fun e=>za (xx .i64 (atD d 1)) fun q=>za (zc .rem q j) fun f=>za (xx .i64 (atD d 2)) fun r=>za (zc .rem r (I6 25)) fun h=>za (zc .eql e f) fun s=>ifB s (za (zc .eql h (I6 0)) fun t=>ifB t (gd (fits 48 (xR (zt c 1)+1)) (za (zc .add (zf b 0) (I6 1)) fun v=>some (.normal,[v,zf b 1,zf b 2],[zt c 0,some (zG (zt c 1)++[[g,e,f,I6 12,atD d 3]])]))) (gd (fits 48 (xR (zt c 1)+1)) (za (zc .add (zf b 0) (I6 1)) fun w=>some (.normal,[w,zf b 1,zf b 2],[zt c 0,some (zG (zt c 1)++[[g,e,f,h,atD d 3]])])))) (gd (fits 48 (xR (zt c 1)+1)) (za (zc .add (zf b 0) (I6 1)) fun x=>some (.normal,[x,zf b 1,zf b 2],[zt c 0,some (zG (zt c 1)++[[g,e,f,h,atD d 3]])])))) (some (.exit 6,[zf b 1,zf b 2],[zt c 0,zt c 1]))
def zpC(O:Orc)(e f:List DV)(a:List DV)(d:List OC):Option PX:=za (zY (atD e 3)) fun g=>za (zc .lss (zf a 0) g) fun h=>ifB h (za (yW 4 (atD e 3) (zf a 0)) fun b=>bA 4 (O 26 [S1 (zf f 2),SA [zf a 3,zf a 4],SA [atD b 0,atD b 1,atD b 2,atD b 3],S1 (zf a 0)]) fun c=>gd (fits 56 (xR (zt d 0)+1)) (za (zc .add (zf a 0) (I6 1)) fun j=>some (.normal,[j,zf a 1,zf a 2,zf a 3,zf a 4],[some (zG (zt d 0)++[[atD c 0,atD c 1,atD c 2,atD c 3]])]))) (some (.exit 4,[zf a 1,zf a 2,zf a 3,zf a 4],[zt d 0]))
def zpD(O:Orc)(a:DV)(b:List DV)(c:List OC):Option PX:=za (zY a) fun j=>za (zc .lss (zf b 0) j) fun k=>ifB k (za (yW 4 a (zf b 0)) fun e=>za (zc .rem (atD e 0) (U8 12)) fun l=>za (xx .i64 l) fun m=>za (zc .add (I6 36) m) fun g=>za (zc .add (I6 48) (zf b 0)) fun n=>za (xx .u8 n) fun o=>za (znE (.lst 1 [[o]])) fun p=>za (znx .add (.str ⟨#[68]⟩) p) fun q=>za (zc .rem (atD e 1) (U8 9)) fun r=>za (xx .i64 r) fun s=>za (zc .add g s) fun t=>z6 (zA (zpC O e b) [I6 0,q,atD e 2,g,t] [none]) (fun f d h=>bif Nat.beq f 4 then (gd (fits 64 (xR (zt c 0)+1)) (za (zc .add (zf b 0) (I6 1)) fun v=>some (.normal,[v,zf b 1,zf b 2],[some (zG (zt c 0)++[[zf d 0,zf d 1,zf d 2,zf d 3,mkL 4 (zt h 0)]]),zt c 1]))) else(bif Nat.beq f 3 then (za (zc .add (zf b 0) (I6 1)) fun w=>some (.normal,[w,zf b 1,zf b 2],[zt c 0,zt c 1])) else(some (.exit f,[zf b 1,zf b 2],[zt c 0,zt c 1])))) (fun _d _h=>none)) (some (.exit 2,[zf b 1,zf b 2],[zt c 0,zt c 1]))
def zyt(O:Orc)(a:DV)(d:List DV)(c:List OC):Option PX:=za (zY a) fun f=>za (zc .lss (zf d 0) f) fun g=>ifB g (za (yW 9 a (zf d 0)) fun b=>bA 6 (O 25 [SA [atD b 0,atD b 1,atD b 2,atD b 3,atD b 4,atD b 5,atD b 6,atD b 7,atD b 8],S1 (zf d 0)]) fun e=>gd (fits 80 (xR (zt c 0)+1)) (za (zc .add (zf d 0) (I6 1)) fun h=>some (.normal,[h,zf d 1],[some (zG (zt c 0)++[[atD e 0,atD e 1,atD e 2,atD e 3,atD e 4,atD e 5]]),zt c 1,zt c 2]))) (some (.exit 0,[zf d 1],[zt c 0,zt c 1,zt c 2]))
def P7(O:Orc)(a b c:DV):Option DA:=z6 (zA (zyt O a) [I6 0,.str ⟨#[79,114,103,97,110]⟩] [none,none,none]) (fun k j d=>bif Nat.beq k 0 then (z6 (zA (zpD O b) [I6 0,zf j 0,mkL 6 (zt d 0)] [zt d 1,zt d 2]) (fun l e f=>bif Nat.beq l 2 then (za (zY b) fun m=>z6 (zA (zpB c m) [I6 0,zf e 0,zf e 1] [zt f 0,zt f 1]) (fun n g h=>bif Nat.beq n 6 then (some (SA [zf g 0,zf g 1,mkL 5 (zt h 0),mkL 5 (zt h 1)])) else(none)) (fun _g _h=>none)) else(none)) (fun _e _f=>none)) else(none)) (fun _j _d=>none)
theorem p7(O:Orc)(a b c:DV):wM prog O yA (inl prog O yA zBz redI 6) an7 7 [SA [a,b,c]]=P7 O a b c:=by kernel_rfl
def an8:Nat→Option LA:=fun i=>match i with|0=>some ⟨[.slot 28,.cell 2 0,.cell 3 0],[],[(2,1),(3,1)],[],[.cell 2 0,.cell 3 0],[],[.cell 2 0,.cell 3 0],[],[]⟩|_=>none
def zBy:Nat→List PA→Nat→Nat→Option LA:=fun h _ n i=>match h,n,i with|28,0,999=>some ⟨[],[],[],[],[],[],[],[],[]⟩|56,6,0=>some ⟨[.slot 12],[(.cell 7 0,3)],[(7,1)],[],[],[(.cell 7 0,3)],[],[(.cell 7 0,3)],[]⟩|95,12,0=>some ⟨[.slot 4],[(.cell 7 0,3)],[(7,1)],[],[],[(.cell 7 0,3)],[.st 11 1000],[],[]⟩|95,11,0=>some ⟨[.slot 4],[(.cell 7 0,3)],[(7,1)],[],[],[(.cell 7 0,3)],[.st 10 1000],[],[]⟩|95,14,0=>some ⟨[.slot 4],[(.cell 7 0,3)],[(7,1)],[],[],[(.cell 7 0,3)],[.st 13 1000],[],[]⟩|56,18,0=>some ⟨[.slot 12],[(.cell 19 0,3)],[(19,1)],[],[],[(.cell 19 0,3)],[],[(.cell 19 0,3)],[]⟩|95,24,0=>some ⟨[.slot 4],[(.cell 19 0,3)],[(19,1)],[],[],[(.cell 19 0,3)],[.st 23 1000],[],[]⟩|95,23,0=>some ⟨[.slot 4],[(.cell 19 0,3)],[(19,1)],[],[],[(.cell 19 0,3)],[.st 22 1000],[],[]⟩|95,26,0=>some ⟨[.slot 4],[(.cell 19 0,3)],[(19,1)],[],[],[(.cell 19 0,3)],[.st 25 1000],[],[]⟩|29,27,0=>some ⟨[.slot 6,.slot 5],[],[],[(26,3)],[.slot 5],[],[],[],[]⟩|59,32,0=>some ⟨[.slot 4,.cell 28 0,.cell 28 1,.cell 28 2,.cell 2 0,.cell 3 0],[(.cell 27 0,3)],[(28,3),(27,1),(2,1),(3,1)],[],[.cell 28 0,.cell 28 1,.cell 28 2,.cell 2 0,.cell 3 0],[(.cell 27 0,3)],[.st 31 0,.cell 28 0,.cell 28 1,.cell 28 2,.cell 2 0,.cell 3 0],[(.cell 27 0,3)],[]⟩|2008001,33,0=>some ⟨[.slot 88,.cell 28 1,.cell 28 2],[(.cell 28 0,1)],[(28,3)],[],[.cell 28 1,.cell 28 2],[(.cell 28 0,1)],[.cell 28 1,.cell 28 2],[(.cell 28 0,1)],[]⟩|29,18,0=>some ⟨[.slot 6,.slot 5],[],[],[],[.slot 5],[],[],[],[]⟩|59,23,0=>some ⟨[.slot 4,.cell 19 0,.cell 19 1,.cell 19 2,.cell 2 0,.cell 3 0],[(.cell 18 0,3)],[(19,3),(18,1),(2,1),(3,1)],[],[.cell 19 0,.cell 19 1,.cell 19 2,.cell 2 0,.cell 3 0],[(.cell 18 0,3)],[.st 22 0,.cell 19 0,.cell 19 1,.cell 19 2,.cell 2 0,.cell 3 0],[(.cell 18 0,3)],[]⟩|2008001,24,0=>some ⟨[.slot 88,.cell 19 1,.cell 19 2],[(.cell 19 0,1)],[(19,3)],[],[.cell 19 1,.cell 19 2],[(.cell 19 0,1)],[.cell 19 1,.cell 19 2],[(.cell 19 0,1)],[]⟩|29,9,0=>some ⟨[.slot 6,.slot 5],[],[],[],[.slot 5],[],[],[],[]⟩|59,14,0=>some ⟨[.slot 4,.cell 10 0,.cell 10 1,.cell 10 2,.cell 2 0,.cell 3 0],[(.cell 9 0,3)],[(10,3),(9,1),(2,1),(3,1)],[],[.cell 10 0,.cell 10 1,.cell 10 2,.cell 2 0,.cell 3 0],[(.cell 9 0,3)],[.st 13 0,.cell 10 0,.cell 10 1,.cell 10 2,.cell 2 0,.cell 3 0],[(.cell 9 0,3)],[]⟩|2008001,15,0=>some ⟨[.slot 88,.cell 10 1,.cell 10 2],[(.cell 10 0,1)],[(10,3)],[],[.cell 10 1,.cell 10 2],[(.cell 10 0,1)],[.cell 10 1,.cell 10 2],[(.cell 10 0,1)],[]⟩|_,_,_=>none
def zys(d:Nat×Nat)(f:List OC)(e g:Nat×Nat)(a:List DV)(b:List OC):Option PX:=za (zc .lss (zf a 0) (.int .i64 (.ofNat d.2))) fun h=>ifB h (za (jV d.2 (zf a 0)) fun j=>za (jW (zms (zt f 0) e.1 e.2 [I6 0,I6 0,I6 0]) ((g.1+d.1)+j)) fun c=>za (zc .eql (atD c 0) (I6 1)) fun k=>ifB k (za (xe (zt b 0) (atD c 1)) fun l=>za (jW (zt b 0) l) fun m=>za (z7 true (U64 1) (atD c 2)) fun n=>za (zc .or (atD m 0) n) fun o=>za (xe (zt b 0) (atD c 1)) fun p=>za (zgo 1 (zt b 0) p 0 [o]) fun q=>za (zc .add (zf a 0) (I6 1)) fun r=>some (.normal,[r,zf a 1,zf a 2],[q])) (za (zc .eql (atD c 0) (I6 2)) fun s=>ifB s (za (z7 true (U64 1) (atD c 2)) fun t=>za (zc .or (zf a 1) t) fun v=>za (zc .add (zf a 0) (I6 1)) fun w=>some (.normal,[w,v,zf a 2],[zt b 0])) (za (zc .eql (atD c 0) (I6 3)) fun x=>ifB x (za (z7 true (U64 1) (atD c 1)) fun y=>za (zc .or (zf a 2) y) fun z=>za (zc .add (zf a 0) (I6 1)) fun A=>some (.normal,[A,zf a 1,z],[zt b 0])) (za (zc .add (zf a 0) (I6 1)) fun B=>some (.normal,[B,zf a 1,zf a 2],[zt b 0]))))) (some (.exit 5,[zf a 1,zf a 2],[zt b 0]))
def zyr(d:Nat×Nat)(f:List OC)(e g:Nat×Nat)(a:List DV)(b:List OC):Option PX:=za (zc .lss (zf a 0) (.int .i64 (.ofNat d.2))) fun h=>ifB h (za (jV d.2 (zf a 0)) fun j=>za (jW (zms (zt f 0) e.1 e.2 [I6 0,I6 0,I6 0]) ((g.1+d.1)+j)) fun c=>za (zc .eql (atD c 0) (I6 1)) fun k=>ifB k (za (xe (zt b 0) (atD c 1)) fun l=>za (jW (zt b 0) l) fun m=>za (z7 true (U64 1) (atD c 2)) fun n=>za (zc .or (atD m 0) n) fun o=>za (xe (zt b 0) (atD c 1)) fun p=>za (zgo 1 (zt b 0) p 0 [o]) fun q=>za (zc .add (zf a 0) (I6 1)) fun r=>some (.normal,[r,zf a 1,zf a 2],[q])) (za (zc .eql (atD c 0) (I6 2)) fun s=>ifB s (za (z7 true (U64 1) (atD c 2)) fun t=>za (zc .or (zf a 1) t) fun v=>za (zc .add (zf a 0) (I6 1)) fun w=>some (.normal,[w,v,zf a 2],[zt b 0])) (za (zc .eql (atD c 0) (I6 3)) fun x=>ifB x (za (z7 true (U64 1) (atD c 1)) fun y=>za (zc .or (zf a 2) y) fun z=>za (zc .add (zf a 0) (I6 1)) fun A=>some (.normal,[A,zf a 1,z],[zt b 0])) (za (zc .add (zf a 0) (I6 1)) fun B=>some (.normal,[B,zf a 1,zf a 2],[zt b 0]))))) (some (.exit 5,[zf a 1,zf a 2],[zt b 0]))
def zsE(f:Nat×Nat)(a:DV)(j:List OC)(k:Nat×Nat)(b:List DV)(c:List OC):Option PX:=za (zc .lss (zf b 0) (.int .i64 (.ofNat f.2))) fun q=>ifB q (za (vwB (some (zf b 0)) none f.2) fun r=>za (wp false a [.int .i64 (.ofNat r.2)]) fun l=>za (zc .add (zf b 0) l) fun s=>za (zc .add (zf b 0) l) fun t=>za (zmn (some (zf b 0)) (s) t f.2) fun m=>za (zc .eql (I6 (Int.ofNat (xR (zt c 0)))) (I6 100)) fun v=>ifB v (some (.ret,[I6 0,zf b 1,zf b 2,zf b 3,.nils,I6 4],[zt c 0])) (za (zau (zf b 1)) fun w=>ifB (.bool w) (z6 (zA (zyr m j k f) [I6 0,zf b 2,zf b 3] [none]) (fun n d g=>bif Nat.beq n 5 then (gd (fits 40 (xR (zt c 0)+1)) (za (zc .add (zf b 0) a) fun x=>some (.normal,[x,mkL 1 (zt g 0),zf d 0,zf d 1,zf b 4,zf b 5],[some (zG (zt c 0)++[[mkL 1 (zt g 0),zf d 0,zf d 1]])]))) else(bif Nat.beq n 4 then (za (zc .add (zf b 0) a) fun y=>some (.normal,[y,mkL 1 (zt g 0),zf d 0,zf d 1,zf b 4,zf b 5],[zt c 0])) else(none))) (fun _d _g=>none)) (za (vZ 1 (zf b 1)) fun o=>gd (fits 8 (xR (some [])+(o:List (List DV)).length)) (z6 (zA (zys m j k f) [I6 0,zf b 2,zf b 3] [zdU (some []) o]) (fun p e h=>bif Nat.beq p 5 then (gd (fits 40 (xR (zt c 0)+1)) (za (zc .add (zf b 0) a) fun z=>some (.normal,[z,mkL 1 (zt h 0),zf e 0,zf e 1,zf b 4,zf b 5],[some (zG (zt c 0)++[[mkL 1 (zt h 0),zf e 0,zf e 1]])]))) else(bif Nat.beq p 4 then (za (zc .add (zf b 0) a) fun A=>some (.normal,[A,mkL 1 (zt h 0),zf e 0,zf e 1,zf b 4,zf b 5],[zt c 0])) else(none))) (fun _e _h=>none))))) (some (.exit 0,[zf b 1,zf b 2,zf b 3,zf b 4,zf b 5],[zt c 0]))
def zdO(O:Orc)(d:List OC)(a:List DV)(b:List OC):Option PX:=za (zc .lss (zf a 0) (I6 (Int.ofNat (xR (zt b 0))))) fun e=>ifB e (za (xe (zt b 0) (zf a 0)) fun f=>za (jW (zt b 0) f) fun c=>b1s (O 30 [SA [atD c 0,atD c 1,atD c 2],.s (.one (.fp [mkL 3 (zt d 0)] 0))]) fun g=>za (uE g) fun h=>ifB h (za (xe (zt b 0) (zf a 1)) fun j=>za (zgo 3 (zt b 0) j 0 [atD c 0,atD c 1,atD c 2]) fun k=>za (zc .add (zf a 1) (I6 1)) fun l=>za (zc .add (zf a 0) (I6 1)) fun m=>some (.normal,[m,l],[k])) (za (zc .add (zf a 0) (I6 1)) fun n=>some (.normal,[n,zf a 1],[zt b 0]))) (some (.exit 0,[zf a 1],[zt b 0]))
def zyp(d:Nat×Nat)(e:List OC)(a:List DV)(b:List OC):Option PX:=za (zc .lss (zf a 0) (.int .i64 (.ofNat d.2))) fun f=>ifB f (za (jV d.2 (zf a 0)) fun g=>za (jW (zt e 0) (d.1+g)) fun c=>za (zc .eql (atD c 0) (I6 1)) fun h=>ifB h (za (xe (zt b 0) (atD c 1)) fun j=>za (jW (zt b 0) j) fun k=>za (z7 true (U64 1) (atD c 2)) fun l=>za (zc .or (atD k 0) l) fun m=>za (xe (zt b 0) (atD c 1)) fun n=>za (zgo 1 (zt b 0) n 0 [m]) fun o=>za (zc .add (zf a 0) (I6 1)) fun p=>some (.normal,[p,zf a 1,zf a 2],[o])) (za (zc .eql (atD c 0) (I6 2)) fun q=>ifB q (za (z7 true (U64 1) (atD c 2)) fun r=>za (zc .or (zf a 1) r) fun s=>za (zc .add (zf a 0) (I6 1)) fun t=>some (.normal,[t,s,zf a 2],[zt b 0])) (za (zc .eql (atD c 0) (I6 3)) fun v=>ifB v (za (z7 true (U64 1) (atD c 1)) fun w=>za (zc .or (zf a 2) w) fun x=>za (zc .add (zf a 0) (I6 1)) fun y=>some (.normal,[y,zf a 1,x],[zt b 0])) (za (zc .add (zf a 0) (I6 1)) fun z=>some (.normal,[z,zf a 1,zf a 2],[zt b 0]))))) (some (.exit 5,[zf a 1,zf a 2],[zt b 0]))
def zyo(d:Nat×Nat)(e:List OC)(a:List DV)(b:List OC):Option PX:=za (zc .lss (zf a 0) (.int .i64 (.ofNat d.2))) fun f=>ifB f (za (jV d.2 (zf a 0)) fun g=>za (jW (zt e 0) (d.1+g)) fun c=>za (zc .eql (atD c 0) (I6 1)) fun h=>ifB h (za (xe (zt b 0) (atD c 1)) fun j=>za (jW (zt b 0) j) fun k=>za (z7 true (U64 1) (atD c 2)) fun l=>za (zc .or (atD k 0) l) fun m=>za (xe (zt b 0) (atD c 1)) fun n=>za (zgo 1 (zt b 0) n 0 [m]) fun o=>za (zc .add (zf a 0) (I6 1)) fun p=>some (.normal,[p,zf a 1,zf a 2],[o])) (za (zc .eql (atD c 0) (I6 2)) fun q=>ifB q (za (z7 true (U64 1) (atD c 2)) fun r=>za (zc .or (zf a 1) r) fun s=>za (zc .add (zf a 0) (I6 1)) fun t=>some (.normal,[t,s,zf a 2],[zt b 0])) (za (zc .eql (atD c 0) (I6 3)) fun v=>ifB v (za (z7 true (U64 1) (atD c 1)) fun w=>za (zc .or (zf a 2) w) fun x=>za (zc .add (zf a 0) (I6 1)) fun y=>some (.normal,[y,zf a 1,x],[zt b 0])) (za (zc .add (zf a 0) (I6 1)) fun z=>some (.normal,[z,zf a 1,zf a 2],[zt b 0]))))) (some (.exit 5,[zf a 1,zf a 2],[zt b 0]))
def zpA(f:List OC)(a:DV)(b:List DV)(c:List OC):Option PX:=za (zc .lss (zf b 0) (I6 (Int.ofNat (xR (zt f 0))))) fun o=>ifB o (za (vwB (some (zf b 0)) none (xR (zt f 0))) fun p=>za (wp false a [.int .i64 (.ofNat p.2)]) fun j=>za (zc .add (zf b 0) j) fun q=>za (zc .add (zf b 0) j) fun r=>za (zmn (some (zf b 0)) (q) r (xR (zt f 0))) fun k=>za (zc .eql (I6 (Int.ofNat (xR (zt c 0)))) (I6 100)) fun s=>ifB s (some (.ret,[I6 0,zf b 1,zf b 2,zf b 3,.nils,I6 4],[zt c 0])) (za (zau (zf b 1)) fun t=>ifB (.bool t) (z6 (zA (zyo k f) [I6 0,zf b 2,zf b 3] [none]) (fun l d g=>bif Nat.beq l 5 then (gd (fits 40 (xR (zt c 0)+1)) (za (zc .add (zf b 0) a) fun v=>some (.normal,[v,mkL 1 (zt g 0),zf d 0,zf d 1,zf b 4,zf b 5],[some (zG (zt c 0)++[[mkL 1 (zt g 0),zf d 0,zf d 1]])]))) else(bif Nat.beq l 4 then (za (zc .add (zf b 0) a) fun w=>some (.normal,[w,mkL 1 (zt g 0),zf d 0,zf d 1,zf b 4,zf b 5],[zt c 0])) else(none))) (fun _d _g=>none)) (za (vZ 1 (zf b 1)) fun m=>gd (fits 8 (xR (some [])+(m:List (List DV)).length)) (z6 (zA (zyp k f) [I6 0,zf b 2,zf b 3] [zdU (some []) m]) (fun n e h=>bif Nat.beq n 5 then (gd (fits 40 (xR (zt c 0)+1)) (za (zc .add (zf b 0) a) fun x=>some (.normal,[x,mkL 1 (zt h 0),zf e 0,zf e 1,zf b 4,zf b 5],[some (zG (zt c 0)++[[mkL 1 (zt h 0),zf e 0,zf e 1]])]))) else(bif Nat.beq n 4 then (za (zc .add (zf b 0) a) fun y=>some (.normal,[y,mkL 1 (zt h 0),zf e 0,zf e 1,zf b 4,zf b 5],[zt c 0])) else(none))) (fun _e _h=>none))))) (some (.exit 0,[zf b 1,zf b 2,zf b 3,zf b 4,zf b 5],[zt c 0]))
def zyf(a:DV)(b:List DV)(c:List OC):Option PX:=za (zc .lss (zf b 0) (I6 64)) fun d=>ifB d (za (z7 false a (zf b 0)) fun e=>za (zc .and e (U64 1)) fun f=>za (zc .eql f (U64 1)) fun g=>ifB g (gd (fits 24 (xR (zt c 0)+1)) (za (zc .add (zf b 0) (I6 1)) fun h=>some (.normal,[h],[some (zG (zt c 0)++[[I6 3,zf b 0,I6 0]])]))) (za (zc .add (zf b 0) (I6 1)) fun j=>some (.normal,[j],[zt c 0]))) (some (.exit 0,[],[zt c 0]))
def zyg(a:DV)(b:List DV)(c:List OC):Option PX:=za (zc .lss (zf b 0) (I6 64)) fun d=>ifB d (za (z7 false a (zf b 0)) fun e=>za (zc .and e (U64 1)) fun f=>za (zc .eql f (U64 1)) fun g=>ifB g (gd (fits 24 (xR (zt c 0)+1)) (za (zc .add (zf b 0) (I6 1)) fun h=>some (.normal,[h],[some (zG (zt c 0)++[[I6 2,I6 0,zf b 0]])]))) (za (zc .add (zf b 0) (I6 1)) fun j=>some (.normal,[j],[zt c 0]))) (some (.exit 0,[],[zt c 0]))
def zAY(c d:List DV)(a:List DV)(b:List OC):Option PX:=za (zc .lss (zf a 0) (I6 64)) fun e=>ifB e (za (z7 false (atD c 0) (zf a 0)) fun f=>za (zc .and f (U64 1)) fun g=>za (zc .eql g (U64 1)) fun h=>ifB h (gd (fits 24 (xR (zt b 0)+1)) (za (zc .add (zf a 0) (I6 1)) fun j=>some (.normal,[j],[some (zG (zt b 0)++[[I6 1,zf d 0,zf a 0]])]))) (za (zc .add (zf a 0) (I6 1)) fun k=>some (.normal,[k],[zt b 0]))) (some (.exit 0,[],[zt b 0]))
def zyh(e a:DV)(b:List DV)(c:List OC):Option PX:=za (zc .lss (zf b 0) e) fun f=>ifB f (za (yW 1 a (zf b 0)) fun g=>z6 (zA (zAY g b) [I6 0] [zt c 0]) (fun h _j d=>bif Nat.beq h 0 then (za (zc .add (zf b 0) (I6 1)) fun k=>some (.normal,[k],[zt d 0])) else(none)) (fun _j _d=>none)) (some (.exit 0,[],[zt c 0]))
def zyn(O:Orc)(c:List OC)(a:List DV)(_j:List OC):Option PX:=za (zY .nils) fun d=>za (zc .lss (zf a 0) d) fun e=>ifB e (za (yW 3 .nils (zf a 0)) fun b=>b1s (O 30 [SA [atD b 0,atD b 1,atD b 2],.s (.one (.fp [mkL 3 (zt c 0)] 0))]) fun f=>za (uE f) fun g=>ifB g (za (yW 3 .nils (zf a 1)) fun _k=>none) (za (zc .add (zf a 0) (I6 1)) fun h=>some (.normal,[h,zf a 1],[]))) (some (.exit 0,[zf a 1],[]))
def zyl(d e:DV)(a:List DV)(b:List OC):Option PX:=za (zc .lss (zf a 0) d) fun f=>ifB f (za (yW 3 e (zf a 0)) fun c=>za (zc .eql (atD c 0) (I6 1)) fun g=>ifB g (za (xe (zt b 0) (atD c 1)) fun h=>za (jW (zt b 0) h) fun j=>za (z7 true (U64 1) (atD c 2)) fun k=>za (zc .or (atD j 0) k) fun l=>za (xe (zt b 0) (atD c 1)) fun m=>za (zgo 1 (zt b 0) m 0 [l]) fun n=>za (zc .add (zf a 0) (I6 1)) fun o=>some (.normal,[o,zf a 1,zf a 2],[n])) (za (zc .eql (atD c 0) (I6 2)) fun p=>ifB p (za (z7 true (U64 1) (atD c 2)) fun q=>za (zc .or (zf a 1) q) fun r=>za (zc .add (zf a 0) (I6 1)) fun s=>some (.normal,[s,r,zf a 2],[zt b 0])) (za (zc .eql (atD c 0) (I6 3)) fun t=>ifB t (za (z7 true (U64 1) (atD c 1)) fun v=>za (zc .or (zf a 2) v) fun w=>za (zc .add (zf a 0) (I6 1)) fun x=>some (.normal,[x,zf a 1,w],[zt b 0])) (za (zc .add (zf a 0) (I6 1)) fun y=>some (.normal,[y,zf a 1,zf a 2],[zt b 0]))))) (some (.exit 5,[zf a 1,zf a 2],[zt b 0]))
def zyk(d e:DV)(a:List DV)(b:List OC):Option PX:=za (zc .lss (zf a 0) d) fun f=>ifB f (za (yW 3 e (zf a 0)) fun c=>za (zc .eql (atD c 0) (I6 1)) fun g=>ifB g (za (xe (zt b 0) (atD c 1)) fun h=>za (jW (zt b 0) h) fun j=>za (z7 true (U64 1) (atD c 2)) fun k=>za (zc .or (atD j 0) k) fun l=>za (xe (zt b 0) (atD c 1)) fun m=>za (zgo 1 (zt b 0) m 0 [l]) fun n=>za (zc .add (zf a 0) (I6 1)) fun o=>some (.normal,[o,zf a 1,zf a 2],[n])) (za (zc .eql (atD c 0) (I6 2)) fun p=>ifB p (za (z7 true (U64 1) (atD c 2)) fun q=>za (zc .or (zf a 1) q) fun r=>za (zc .add (zf a 0) (I6 1)) fun s=>some (.normal,[s,r,zf a 2],[zt b 0])) (za (zc .eql (atD c 0) (I6 3)) fun t=>ifB t (za (z7 true (U64 1) (atD c 1)) fun v=>za (zc .or (zf a 2) v) fun w=>za (zc .add (zf a 0) (I6 1)) fun x=>some (.normal,[x,zf a 1,w],[zt b 0])) (za (zc .add (zf a 0) (I6 1)) fun y=>some (.normal,[y,zf a 1,zf a 2],[zt b 0]))))) (some (.exit 5,[zf a 1,zf a 2],[zt b 0]))
def zym(a:DV)(b:List DV)(c:List OC):Option PX:=za (zY .nils) fun n=>za (zc .lss (zf b 0) n) fun o=>ifB o (za (vY 3 .nils (some (zf b 0)) none) fun p=>za (zY p) fun q=>za (wp false a [q]) fun j=>za (zc .add (zf b 0) j) fun r=>za (zc .add (zf b 0) j) fun s=>za (qW 3 .nils (some (zf b 0)) (r) s) fun f=>za (zc .eql (I6 (Int.ofNat (xR (zt c 0)))) (I6 100)) fun t=>ifB t (some (.ret,[I6 0,zf b 1,zf b 2,zf b 3,.nils,I6 4],[zt c 0])) (za (zau (zf b 1)) fun v=>ifB (.bool v) (za (zY f) fun w=>z6 (zA (zyk w f) [I6 0,zf b 2,zf b 3] [none]) (fun k d g=>bif Nat.beq k 5 then (gd (fits 40 (xR (zt c 0)+1)) (za (zc .add (zf b 0) a) fun x=>some (.normal,[x,mkL 1 (zt g 0),zf d 0,zf d 1,zf b 4,zf b 5],[some (zG (zt c 0)++[[mkL 1 (zt g 0),zf d 0,zf d 1]])]))) else(bif Nat.beq k 4 then (za (zc .add (zf b 0) a) fun y=>some (.normal,[y,mkL 1 (zt g 0),zf d 0,zf d 1,zf b 4,zf b 5],[zt c 0])) else(none))) (fun _d _g=>none)) (za (vZ 1 (zf b 1)) fun l=>gd (fits 8 (xR (some [])+(l:List (List DV)).length)) (za (zY f) fun z=>z6 (zA (zyl z f) [I6 0,zf b 2,zf b 3] [zdU (some []) l]) (fun m e h=>bif Nat.beq m 5 then (gd (fits 40 (xR (zt c 0)+1)) (za (zc .add (zf b 0) a) fun A=>some (.normal,[A,mkL 1 (zt h 0),zf e 0,zf e 1,zf b 4,zf b 5],[some (zG (zt c 0)++[[mkL 1 (zt h 0),zf e 0,zf e 1]])]))) else(bif Nat.beq m 4 then (za (zc .add (zf b 0) a) fun B=>some (.normal,[B,mkL 1 (zt h 0),zf e 0,zf e 1,zf b 4,zf b 5],[zt c 0])) else(none))) (fun _e _h=>none))))) (some (.exit 0,[zf b 1,zf b 2,zf b 3,zf b 4,zf b 5],[zt c 0]))
def zyi(a:DV)(b:List DV)(c:List OC):Option PX:=za (zc .lss (zf b 0) (I6 64)) fun d=>ifB d (za (z7 false a (zf b 0)) fun e=>za (zc .and e (U64 1)) fun f=>za (zc .eql f (U64 1)) fun g=>ifB g (gd (fits 24 (xR (zt c 0)+1)) (za (zc .add (zf b 0) (I6 1)) fun h=>some (.normal,[h],[some (zG (zt c 0)++[[I6 3,zf b 0,I6 0]])]))) (za (zc .add (zf b 0) (I6 1)) fun j=>some (.normal,[j],[zt c 0]))) (some (.exit 0,[],[zt c 0]))
def zyj(a:DV)(b:List DV)(c:List OC):Option PX:=za (zc .lss (zf b 0) (I6 64)) fun d=>ifB d (za (z7 false a (zf b 0)) fun e=>za (zc .and e (U64 1)) fun f=>za (zc .eql f (U64 1)) fun g=>ifB g (gd (fits 24 (xR (zt c 0)+1)) (za (zc .add (zf b 0) (I6 1)) fun h=>some (.normal,[h],[some (zG (zt c 0)++[[I6 2,I6 0,zf b 0]])]))) (za (zc .add (zf b 0) (I6 1)) fun j=>some (.normal,[j],[zt c 0]))) (some (.exit 0,[],[zt c 0]))
def zAZ(c d:List DV)(a:List DV)(b:List OC):Option PX:=za (zc .lss (zf a 0) (I6 64)) fun e=>ifB e (za (z7 false (atD c 0) (zf a 0)) fun f=>za (zc .and f (U64 1)) fun g=>za (zc .eql g (U64 1)) fun h=>ifB h (gd (fits 24 (xR (zt b 0)+1)) (za (zc .add (zf a 0) (I6 1)) fun j=>some (.normal,[j],[some (zG (zt b 0)++[[I6 1,zf d 0,zf a 0]])]))) (za (zc .add (zf a 0) (I6 1)) fun k=>some (.normal,[k],[zt b 0]))) (some (.exit 0,[],[zt b 0]))
def zyq(e a:DV)(b:List DV)(c:List OC):Option PX:=za (zc .lss (zf b 0) e) fun f=>ifB f (za (yW 1 a (zf b 0)) fun g=>z6 (zA (zAZ g b) [I6 0] [zt c 0]) (fun h _j d=>bif Nat.beq h 0 then (za (zc .add (zf b 0) (I6 1)) fun k=>some (.normal,[k],[zt d 0])) else(none)) (fun _j _d=>none)) (some (.exit 0,[],[zt c 0]))
def zu6(O:Orc)(a:List DV)(_h:List OC):Option PX:=za (zY .nils) fun c=>za (zc .lss (zf a 0) c) fun d=>ifB d (za (yW 3 .nils (zf a 0)) fun b=>b1s (O 30 [SA [atD b 0,atD b 1,atD b 2],S1 (.fp [.nils] 0)]) fun e=>za (uE e) fun f=>ifB f (za (yW 3 .nils (zf a 1)) fun _j=>none) (za (zc .add (zf a 0) (I6 1)) fun g=>some (.normal,[g,zf a 1],[]))) (some (.exit 0,[zf a 1],[]))
def zu4(d e:DV)(a:List DV)(b:List OC):Option PX:=za (zc .lss (zf a 0) d) fun f=>ifB f (za (yW 3 e (zf a 0)) fun c=>za (zc .eql (atD c 0) (I6 1)) fun g=>ifB g (za (xe (zt b 0) (atD c 1)) fun h=>za (jW (zt b 0) h) fun j=>za (z7 true (U64 1) (atD c 2)) fun k=>za (zc .or (atD j 0) k) fun l=>za (xe (zt b 0) (atD c 1)) fun m=>za (zgo 1 (zt b 0) m 0 [l]) fun n=>za (zc .add (zf a 0) (I6 1)) fun o=>some (.normal,[o,zf a 1,zf a 2],[n])) (za (zc .eql (atD c 0) (I6 2)) fun p=>ifB p (za (z7 true (U64 1) (atD c 2)) fun q=>za (zc .or (zf a 1) q) fun r=>za (zc .add (zf a 0) (I6 1)) fun s=>some (.normal,[s,r,zf a 2],[zt b 0])) (za (zc .eql (atD c 0) (I6 3)) fun t=>ifB t (za (z7 true (U64 1) (atD c 1)) fun v=>za (zc .or (zf a 2) v) fun w=>za (zc .add (zf a 0) (I6 1)) fun x=>some (.normal,[x,zf a 1,w],[zt b 0])) (za (zc .add (zf a 0) (I6 1)) fun y=>some (.normal,[y,zf a 1,zf a 2],[zt b 0]))))) (some (.exit 5,[zf a 1,zf a 2],[zt b 0]))
def zu3(d e:DV)(a:List DV)(b:List OC):Option PX:=za (zc .lss (zf a 0) d) fun f=>ifB f (za (yW 3 e (zf a 0)) fun c=>za (zc .eql (atD c 0) (I6 1)) fun g=>ifB g (za (xe (zt b 0) (atD c 1)) fun h=>za (jW (zt b 0) h) fun j=>za (z7 true (U64 1) (atD c 2)) fun k=>za (zc .or (atD j 0) k) fun l=>za (xe (zt b 0) (atD c 1)) fun m=>za (zgo 1 (zt b 0) m 0 [l]) fun n=>za (zc .add (zf a 0) (I6 1)) fun o=>some (.normal,[o,zf a 1,zf a 2],[n])) (za (zc .eql (atD c 0) (I6 2)) fun p=>ifB p (za (z7 true (U64 1) (atD c 2)) fun q=>za (zc .or (zf a 1) q) fun r=>za (zc .add (zf a 0) (I6 1)) fun s=>some (.normal,[s,r,zf a 2],[zt b 0])) (za (zc .eql (atD c 0) (I6 3)) fun t=>ifB t (za (z7 true (U64 1) (atD c 1)) fun v=>za (zc .or (zf a 2) v) fun w=>za (zc .add (zf a 0) (I6 1)) fun x=>some (.normal,[x,zf a 1,w],[zt b 0])) (za (zc .add (zf a 0) (I6 1)) fun y=>some (.normal,[y,zf a 1,zf a 2],[zt b 0]))))) (some (.exit 5,[zf a 1,zf a 2],[zt b 0]))
def zu5(a:DV)(b:List DV)(c:List OC):Option PX:=za (zY .nils) fun n=>za (zc .lss (zf b 0) n) fun o=>ifB o (za (vY 3 .nils (some (zf b 0)) none) fun p=>za (zY p) fun q=>za (wp false a [q]) fun j=>za (zc .add (zf b 0) j) fun r=>za (zc .add (zf b 0) j) fun s=>za (qW 3 .nils (some (zf b 0)) (r) s) fun f=>za (zc .eql (I6 (Int.ofNat (xR (zt c 0)))) (I6 100)) fun t=>ifB t (some (.ret,[I6 0,zf b 1,zf b 2,zf b 3,.nils,I6 4],[zt c 0])) (za (zau (zf b 1)) fun v=>ifB (.bool v) (za (zY f) fun w=>z6 (zA (zu3 w f) [I6 0,zf b 2,zf b 3] [none]) (fun k d g=>bif Nat.beq k 5 then (gd (fits 40 (xR (zt c 0)+1)) (za (zc .add (zf b 0) a) fun x=>some (.normal,[x,mkL 1 (zt g 0),zf d 0,zf d 1,zf b 4,zf b 5],[some (zG (zt c 0)++[[mkL 1 (zt g 0),zf d 0,zf d 1]])]))) else(bif Nat.beq k 4 then (za (zc .add (zf b 0) a) fun y=>some (.normal,[y,mkL 1 (zt g 0),zf d 0,zf d 1,zf b 4,zf b 5],[zt c 0])) else(none))) (fun _d _g=>none)) (za (vZ 1 (zf b 1)) fun l=>gd (fits 8 (xR (some [])+(l:List (List DV)).length)) (za (zY f) fun z=>z6 (zA (zu4 z f) [I6 0,zf b 2,zf b 3] [zdU (some []) l]) (fun m e h=>bif Nat.beq m 5 then (gd (fits 40 (xR (zt c 0)+1)) (za (zc .add (zf b 0) a) fun A=>some (.normal,[A,mkL 1 (zt h 0),zf e 0,zf e 1,zf b 4,zf b 5],[some (zG (zt c 0)++[[mkL 1 (zt h 0),zf e 0,zf e 1]])]))) else(bif Nat.beq m 4 then (za (zc .add (zf b 0) a) fun B=>some (.normal,[B,mkL 1 (zt h 0),zf e 0,zf e 1,zf b 4,zf b 5],[zt c 0])) else(none))) (fun _e _h=>none))))) (some (.exit 0,[zf b 1,zf b 2,zf b 3,zf b 4,zf b 5],[zt c 0]))
def zu2(O:Orc)(a b c d f h j m r s:DV)(e:List DV)(_p:List OC):Option PX:=za (zc .lss (zf e 0) (I6 2)) fun l=>ifB l (za (jV 2 (zf e 0)) fun g=>b1 (O 10 [SA [a,b,c,d],SA [atD [f,h] g,atD [j,m] g,atD [r,s] g]]) fun k=>za (zc .neq k (I6 0)) fun n=>ifB n (some (.ret,[.nils,k],[])) (za (zc .add (zf e 0) (I6 1)) fun o=>some (.normal,[o,zf e 1,zf e 2],[]))) (some (.exit 0,[zf e 1,zf e 2],[]))
def P8(O:Orc)(a b c d f h j m r s w:DV):Option DA:=b1 (O 27 [SA [a,b,c,d]]) fun E=>za (zc .neq E (I6 0)) fun R=>ifB R (some (.tup [.one .nils,.one E])) (z6 (zA (zu2 O a b c d f m h r j s) [I6 0,.nils,I6 0] []) (fun S e _T=>bif Nat.beq S 0 then (za (zc .lss w (I6 1)) fun U=>ifB U (some (.tup [.one .nils,.one (I6 3)])) (b1 (O 18 [SA [f,h,j],SA [m,r,s]]) fun V=>za (uE V) fun W=>ifB W (some (.tup [.one .nils,.one (I6 6)])) (b1 (O 55 [SA [a,b,c,d],SA [f,h,j]]) fun n=>za (zc .neq n (I6 0)) fun X=>ifB X (za (zc .neq n (I6 0)) fun Y=>ifB Y (some (.tup [.one .nils,.one n])) (b1 (O 55 [SA [a,b,c,d],SA [m,r,s]]) fun o=>za (zc .neq o (I6 0)) fun Z=>ifB Z (za (zc .neq o (I6 0)) fun aa=>ifB aa (some (.tup [.one .nils,.one o])) (b1s (O 57 [.s (.one .nils),S1 (.fn 30 [[.nils]])]) fun p=>za (zc .eql p (I6 (-1))) fun ab=>ifB ab (za (zc .lss w (I6 1)) fun ac=>ifB ac (none) (z6 (zA (zu5 w) [I6 0,f,h,j,zf e 0,zf e 1] [none]) (fun ad _q F=>bif Nat.beq ad 0 then (some (.tup [.one (mkL 3 (zt F 0)),.one (I6 0)])) else(none)) (fun q _F=>some (.tup [.one (zf q 4),.one (zf q 5)])))) (za (zc .add p (I6 1)) fun ae=>z6 (zA (zu6 O) [ae,p] []) (fun af G _ag=>bif Nat.beq af 0 then (za (vY 3 .nils (some (zf G 0)) none) fun _bs=>none) else(none)) (fun _G _ag=>none)))) (za (zY m) fun _bt=>none))) (za (zY f) fun ah=>z6 (zA (zyq ah f) [I6 0] [none]) (fun aj _ak H=>bif Nat.beq aj 0 then (z6 (zA (zyj h) [I6 0] [zt H 0]) (fun al _am J=>bif Nat.beq al 0 then (z6 (zA (zyi j) [I6 0] [zt J 0]) (fun an _ao g=>bif Nat.beq an 0 then (za (zc .neq (I6 0) (I6 0)) fun ap=>ifB ap (some (.tup [.one .nils,.one (I6 0)])) (b1 (O 55 [SA [a,b,c,d],SA [m,r,s]]) fun t=>za (zc .neq t (I6 0)) fun aq=>ifB aq (za (zc .neq t (I6 0)) fun ar=>ifB ar (some (.tup [.one .nils,.one t])) (b1s (O 57 [.s (.one .nils),.s (.one (.fn 30 [[mkL 3 (zt g 0)]]))]) fun v=>za (zc .eql v (I6 (-1))) fun au=>ifB au (za (zc .lss w (I6 1)) fun av=>ifB av (none) (z6 (zA (zym w) [I6 0,f,h,j,zf e 0,zf e 1] [none]) (fun aw _x K=>bif Nat.beq aw 0 then (some (.tup [.one (mkL 3 (zt K 0)),.one (I6 0)])) else(none)) (fun x _K=>some (.tup [.one (zf x 4),.one (zf x 5)])))) (za (zc .add v (I6 1)) fun ax=>z6 (zA (zyn O g) [ax,v] []) (fun ay L _ba=>bif Nat.beq ay 0 then (za (vY 3 .nils (some (zf L 0)) none) fun _bu=>none) else(none)) (fun _L _ba=>none)))) (za (zY m) fun bb=>z6 (zA (zyh bb m) [I6 0] [none]) (fun bc _bd M=>bif Nat.beq bc 0 then (z6 (zA (zyg r) [I6 0] [zt M 0]) (fun be _bf N=>bif Nat.beq be 0 then (z6 (zA (zyf s) [I6 0] [zt N 0]) (fun bg _bh k=>bif Nat.beq bg 0 then (za (zc .neq (I6 0) (I6 0)) fun bj=>ifB bj (some (.tup [.one .nils,.one (I6 0)])) (b1s (O 57 [S1 (mkL 3 (zt k 0)),.s (.one (.fn 30 [[mkL 3 (zt g 0)]]))]) fun y=>za (zc .eql y (I6 (-1))) fun bk=>ifB bk (za (zc .lss w (I6 1)) fun bl=>ifB bl (none) (z6 (zA (zpA k w) [I6 0,f,h,j,zf e 0,zf e 1] [none]) (fun bm _z P=>bif Nat.beq bm 0 then (some (.tup [.one (mkL 3 (zt P 0)),.one (I6 0)])) else(none)) (fun z _P=>some (.tup [.one (zf z 4),.one (zf z 5)])))) (za (zc .add y (I6 1)) fun bn=>z6 (zA (zdO O g) [bn,y] [zt k 0]) (fun bo A l=>bif Nat.beq bo 0 then (za (vwB (some (zf A 0)) none (xR (zt l 0))) fun B=>za (vwB none (some (zf A 0)) (xR (zms (zt l 0) B.1 B.2 [I6 0,I6 0,I6 0]))) fun bp=>za (zc .lss w (I6 1)) fun bq=>ifB bq (none) (z6 (zA (zsE bp w l B) [I6 0,f,h,j,zf e 0,zf e 1] [none]) (fun br _C Q=>bif Nat.beq br 0 then (some (.tup [.one (mkL 3 (zt Q 0)),.one (I6 0)])) else(none)) (fun C _Q=>some (.tup [.one (zf C 4),.one (zf C 5)])))) else(none)) (fun _A _l=>none)))) else(none)) (fun _bh _k=>none)) else(none)) (fun _bf _N=>none)) else(none)) (fun _bd _M=>none)))) else(none)) (fun _ao _g=>none)) else(none)) (fun _am _J=>none)) else(none)) (fun _ak _H=>none))))) else(none)) (fun e _T=>some (.tup [.one (zf e 0),.one (zf e 1)])))
theorem p8(O:Orc)(a b c d f h j m r s w:DV):wM prog O yA (inl prog O yA zBy redI 6) an8 8 [SA [a,b,c,d],SA [f,h,j,m,r,s,w]]=P8 O a b c d f h j m r s w:=by kernel_rfl
def zBx:Nat→List PA→Nat→Nat→Option LA:=fun h _ n i=>match h,n,i with|28,0,999=>some ⟨[],[],[],[],[],[],[],[],[]⟩  |_,_,_=>none
def P9(O:Orc)(a b c d f h j m r s w:DV):Option DA:=bT [none,none] (O 8 [SA [a,b,c,d],SA [f,h,j,m,r,s,w]]) fun e=>za (zY (dsO (zT e 0))) fun g=>some (.tup [.one g,.one (dsO (zT e 1))])
theorem p9(O:Orc)(a b c d f h j m r s w:DV):wM prog O yA (inl prog O yA zBx redI 6) an0 9 [SA [a,b,c,d],SA [f,h,j,m,r,s,w]]=P9 O a b c d f h j m r s w:=by kernel_rfl
def zBU:Nat→Option LA:=fun i=>match i with|0=>some ⟨[.slot 23],[],[],[],[],[],[.slot 4],[],[]⟩|_=>none
def zx7:Nat→List PA→Nat→Nat→Option LA:=fun h _ n i=>match h,n,i with|28,0,999=>some ⟨[],[],[],[],[],[],[],[],[]⟩  |_,_,_=>none
def zpN(d a b:DV)(c:List DV)(_m:List OC):Option PX:=za (zc .lss (zf c 0) d) fun e=>ifB e (za (yW 5 a (zf c 0)) fun f=>za (yW 1 b (zf c 0)) fun g=>za (zY (atD f 4)) fun h=>za (z7 false (atD g 0) h) fun j=>za (zc .neq j (U64 0)) fun k=>ifB k (some (.ret,[I6 3],[])) (za (zc .add (zf c 0) (I6 1)) fun l=>some (.normal,[l],[]))) (some (.exit 0,[],[]))
def P10(O:Orc)(a b c d f h j:DV):Option DA:=b1 (O 27 [SA [a,b,c,d]]) fun e=>za (zc .neq e (I6 0)) fun k=>ifB k (some (S1 e)) (za (zY f) fun l=>za (zY c) fun m=>za (zc .neq l m) fun n=>ifB n (some (S1 (I6 5))) (za (zY c) fun o=>z6 (zA (zpN o c f) [I6 0] []) (fun p _g _q=>bif Nat.beq p 0 then (za (zY d) fun r=>za (z7 false h r) fun s=>za (zc .neq s (U64 0)) fun t=>ifB t (some (S1 (I6 3))) (za (zY c) fun v=>za (z7 false j v) fun w=>za (zc .neq w (U64 0)) fun x=>ifB x (some (S1 (I6 3))) (some (S1 (I6 0))))) else(none)) (fun g _q=>some (S1 (zf g 0)))))
theorem p10(O:Orc)(a b c d f h j:DV):wM prog O yA (inl prog O yA zx7 redI 6) zBU 10 [SA [a,b,c,d],SA [f,h,j]]=P10 O a b c d f h j:=by kernel_rfl
def zBT:Nat→Option LA:=fun i=>match i with|0=>some ⟨[.slot 5],[],[],[],[],[],[.slot 4],[],[]⟩|_=>none
def zx6:Nat→List PA→Nat→Nat→Option LA:=fun h _ n i=>match h,n,i with|28,0,999=>some ⟨[],[],[],[],[],[],[],[],[]⟩  |_,_,_=>none
def zpM(O:Orc)(a b c d:DV)(e:List DV)(_n:List OC):Option PX:=za (zY a) fun f=>za (zc .lss (zf e 0) f) fun g=>ifB g (za (yW 1 a (zf e 0)) fun h=>b1 (O 35 [SA [b,c,d],S1 (zf e 0)]) fun j=>za (zc .andNot (atD h 0) j) fun k=>za (zc .neq k (U64 0)) fun l=>ifB l (some (.ret,[.bool false],[])) (za (zc .add (zf e 0) (I6 1)) fun m=>some (.normal,[m],[]))) (some (.exit 0,[],[]))
def P11(O:Orc)(a b c d f h:DV):Option DA:=z6 (zA (zpM O a d f h) [I6 0] []) (fun g _e _j=>bif Nat.beq g 0 then (za (zc .andNot b f) fun k=>za (zc .eql k (U64 0)) fun l=>ifB l (za (zc .andNot c h) fun m=>za (zc .eql m (U64 0)) fun n=>some (S1 n)) (some (S1 (.bool false)))) else(none)) (fun e _j=>some (S1 (zf e 0)))
theorem p11(O:Orc)(a b c d f h:DV):wM prog O yA (inl prog O yA zx6 redI 6) zBT 11 [SA [a,b,c],SA [d,f,h]]=P11 O a b c d f h:=by kernel_rfl
def zBS:Nat→Option LA:=fun i=>match i with|0=>some ⟨[.slot 10,.slot 9,.cell 13 0,.cell 13 1,.cell 13 2],[(.slot 7,3)],[(13,3)],[],[.slot 9,.cell 13 0,.cell 13 1,.cell 13 2],[(.slot 7,3)],[.cell 13 0,.cell 13 1,.cell 13 2],[],[]⟩|_=>none
def zx5:Nat→List PA→Nat→Nat→Option LA:=fun h _ n i=>match h,n,i with|28,0,999=>some ⟨[],[],[],[],[],[],[],[],[]⟩|56,4,0=>some ⟨[.slot 12],[(.cell 5 0,3)],[(5,1)],[],[],[(.cell 5 0,3)],[],[(.cell 5 0,3)],[]⟩|95,10,0=>some ⟨[.slot 4],[(.cell 5 0,3)],[(5,1)],[],[],[(.cell 5 0,3)],[.st 9 1000],[],[]⟩|95,9,0=>some ⟨[.slot 4],[(.cell 5 0,3)],[(5,1)],[],[],[(.cell 5 0,3)],[.st 8 1000],[],[]⟩|95,12,0=>some ⟨[.slot 4],[(.cell 5 0,3)],[(5,1)],[],[],[(.cell 5 0,3)],[.st 11 1000],[],[]⟩|_,_,_=>none
def za5(O:Orc)(e:List OC)(a:DV)(b:List DV)(d:List OC):Option PX:=za (zc .lss (zf b 0) (I6 (Int.ofNat (xR (zt e 0))))) fun h=>ifB h (za (xe (zt e 0) (zf b 0)) fun j=>za (jW (zt e 0) j) fun f=>bA 3 (O 36 [SA [zf b 2,zf b 3,zf b 4],SA [atD f 0,atD f 1,atD f 2]]) fun c=>b1 (O 37 [SA [atD c 0,atD c 1,atD c 2]]) fun k=>b1 (O 37 [SA [zf b 2,zf b 3,zf b 4]]) fun l=>za (zc .eql k l) fun m=>ifB m (za (zc .add (zf b 0) (I6 1)) fun n=>some (.normal,[n,zf b 1,zf b 2,zf b 3,zf b 4],[zt d 0])) (za (zc .add (zf b 1) (I6 1)) fun g=>za (zc .eql g a) fun o=>ifB o (gd (fits 40 (xR (zt d 0)+1)) (za (zc .add (zf b 0) (I6 1)) fun p=>some (.normal,[p,I6 0,atD c 0,atD c 1,atD c 2],[some (zG (zt d 0)++[[atD c 0,atD c 1,atD c 2]])]))) (za (zc .add (zf b 0) (I6 1)) fun q=>some (.normal,[q,g,atD c 0,atD c 1,atD c 2],[zt d 0])))) (some (.exit 0,[zf b 1,zf b 2,zf b 3,zf b 4],[zt d 0]))
def zhI(a:DV)(b:List DV)(c:List OC):Option PX:=za (zc .lss (zf b 0) (I6 64)) fun d=>ifB d (za (z7 false a (zf b 0)) fun e=>za (zc .and e (U64 1)) fun f=>za (zc .eql f (U64 1)) fun g=>ifB g (gd (fits 24 (xR (zt c 0)+1)) (za (zc .add (zf b 0) (I6 1)) fun h=>some (.normal,[h],[some (zG (zt c 0)++[[I6 3,zf b 0,I6 0]])]))) (za (zc .add (zf b 0) (I6 1)) fun j=>some (.normal,[j],[zt c 0]))) (some (.exit 0,[],[zt c 0]))
def zhJ(a:DV)(b:List DV)(c:List OC):Option PX:=za (zc .lss (zf b 0) (I6 64)) fun d=>ifB d (za (z7 false a (zf b 0)) fun e=>za (zc .and e (U64 1)) fun f=>za (zc .eql f (U64 1)) fun g=>ifB g (gd (fits 24 (xR (zt c 0)+1)) (za (zc .add (zf b 0) (I6 1)) fun h=>some (.normal,[h],[some (zG (zt c 0)++[[I6 2,I6 0,zf b 0]])]))) (za (zc .add (zf b 0) (I6 1)) fun j=>some (.normal,[j],[zt c 0]))) (some (.exit 0,[],[zt c 0]))
def zsF(c d:List DV)(a:List DV)(b:List OC):Option PX:=za (zc .lss (zf a 0) (I6 64)) fun e=>ifB e (za (z7 false (atD c 0) (zf a 0)) fun f=>za (zc .and f (U64 1)) fun g=>za (zc .eql g (U64 1)) fun h=>ifB h (gd (fits 24 (xR (zt b 0)+1)) (za (zc .add (zf a 0) (I6 1)) fun j=>some (.normal,[j],[some (zG (zt b 0)++[[I6 1,zf d 0,zf a 0]])]))) (za (zc .add (zf a 0) (I6 1)) fun k=>some (.normal,[k],[zt b 0]))) (some (.exit 0,[],[zt b 0]))
def zmm(e a:DV)(b:List DV)(c:List OC):Option PX:=za (zc .lss (zf b 0) e) fun f=>ifB f (za (yW 1 a (zf b 0)) fun g=>z6 (zA (zsF g b) [I6 0] [zt c 0]) (fun h _j d=>bif Nat.beq h 0 then (za (zc .add (zf b 0) (I6 1)) fun k=>some (.normal,[k],[zt d 0])) else(none)) (fun _j _d=>none)) (some (.exit 0,[],[zt c 0]))
def P12(O:Orc)(a b c d f h j m r s w:DV):Option DA:=b1 (O 55 [SA [a,b,c,d],SA [m,r,s]]) fun o=>za (zc .neq o (I6 0)) fun p=>ifB p (none) (za (zY m) fun q=>z6 (zA (zmm q m) [I6 0] [none]) (fun t _v k=>bif Nat.beq t 0 then (z6 (zA (zhJ r) [I6 0] [zt k 0]) (fun x _y l=>bif Nat.beq x 0 then (z6 (zA (zhI s) [I6 0] [zt l 0]) (fun z _A n=>bif Nat.beq z 0 then (z6 (zA (za5 O n w) [I6 0,I6 0,f,h,j] [none]) (fun B e g=>bif Nat.beq B 0 then (za (zc .gtr (zf e 0) (I6 0)) fun C=>ifB C (gd (fits 40 (xR (zt g 0)+1)) (some (.s (.one (.lst 3 (zG (zt g 0)++[[zf e 1,zf e 2,zf e 3]])))))) (some (S1 (mkL 3 (zt g 0))))) else(none)) (fun _e _g=>none)) else(none)) (fun _A _n=>none)) else(none)) (fun _y _l=>none)) else(none)) (fun _v _k=>none))
theorem p12(O:Orc)(a b c d f h j m r s w:DV):wM prog O yA (inl prog O yA zx5 redI 6) zBS 12 [SA [a,b,c,d],SA [f,h,j,m,r,s,w]]=P12 O a b c d f h j m r s w:=by kernel_rfl
def zBR:Nat→Option LA:=fun i=>match i with|0=>some ⟨[.slot 5],[],[],[],[],[],[.slot 4],[],[]⟩|_=>none
def zx4:Nat→List PA→Nat→Nat→Option LA:=fun h _ n i=>match h,n,i with|28,0,999=>some ⟨[],[],[],[],[],[],[],[],[]⟩  |_,_,_=>none
def zrQ(a b:DV)(c:List DV)(_k:List OC):Option PX:=za (zY a) fun d=>za (zc .lss (zf c 0) d) fun e=>ifB e (za (yW 1 a (zf c 0)) fun f=>za (yW 1 b (zf c 0)) fun g=>za (zc .neq (atD f 0) (atD g 0)) fun h=>ifB h (some (.ret,[.bool false],[])) (za (zc .add (zf c 0) (I6 1)) fun j=>some (.normal,[j],[]))) (some (.exit 0,[],[]))
def P13(_O:Orc)(a b c d f h:DV):Option DA:=za (zY a) fun g=>za (zY d) fun j=>za (zc .neq g j) fun k=>ifB k (some (S1 (.bool false))) (za (zc .neq b f) fun l=>ifB l (some (S1 (.bool false))) (za (zc .neq c h) fun m=>ifB m (some (S1 (.bool false))) (z6 (zA (zrQ a d) [I6 0] []) (fun n _e _o=>bif Nat.beq n 0 then (some (S1 (.bool true))) else(none)) (fun e _o=>some (S1 (zf e 0))))))
theorem p13(O:Orc)(a b c d f h:DV):wM prog O yA (inl prog O yA zx4 redI 6) zBR 13 [SA [a,b,c],SA [d,f,h]]=P13 O a b c d f h:=by kernel_rfl
def zBQ:Nat→Option LA:=fun i=>match i with|0=>some ⟨[.slot 10],[],[],[],[],[],[.slot 4],[],[]⟩|_=>none
def zx3:Nat→List PA→Nat→Nat→Option LA:=fun h _ n i=>match h,n,i with|28,0,999=>some ⟨[],[],[],[],[],[],[],[],[]⟩  |_,_,_=>none
def zpL(O:Orc)(f a b c d:DV)(e:List DV)(_n:List OC):Option PX:=za (zc .lss (zf e 0) f) fun g=>ifB g (za (yW 1 a (zf e 0)) fun h=>b1 (O 38 [SA [b,c,d],S1 (zf e 0)]) fun j=>za (zc .andNot (atD h 0) j) fun k=>za (zc .neq k (U64 0)) fun l=>ifB l (some (.ret,[.bool false],[])) (za (zc .add (zf e 0) (I6 1)) fun m=>some (.normal,[m],[]))) (some (.exit 0,[],[]))
def P18(O:Orc)(a b c d f h:DV):Option DA:=za (zY a) fun g=>z6 (zA (zpL O g a d f h) [I6 0] []) (fun j _e _k=>bif Nat.beq j 0 then (za (zc .andNot b f) fun l=>za (zc .eql l (U64 0)) fun m=>ifB m (za (zc .andNot c h) fun n=>za (zc .eql n (U64 0)) fun o=>some (S1 o)) (some (S1 (.bool false)))) else(none)) (fun e _k=>some (S1 (zf e 0)))
theorem p18(O:Orc)(a b c d f h:DV):wM prog O yA (inl prog O yA zx3 redI 6) zBQ 18 [SA [a,b,c],SA [d,f,h]]=P18 O a b c d f h:=by kernel_rfl
def zC3:Nat→Option LA:=fun i=>match i with|0=>some ⟨[.slot 7],[],[],[],[],[],[.slot 6],[],[]⟩|1=>some ⟨[.slot 8],[],[],[],[],[],[.slot 6],[],[]⟩|2=>some ⟨[.slot 60],[],[],[],[],[],[.slot 6],[],[]⟩|_=>none
def zBP:Nat→Option LA:=fun i=>match i with|0=>some ⟨[.slot 6,.cell 4 0,.cell 4 1,.cell 4 2,.cell 4 3,.cell 4 4],[(.cell 4 5,1)],[(4,6)],[],[.cell 4 0,.cell 4 1,.cell 4 2,.cell 4 3,.cell 4 4],[(.cell 4 5,1)],[.cell 4 0,.cell 4 1,.cell 4 2,.cell 4 3,.cell 4 4],[(.cell 4 5,1)],[]⟩|_=>none
def zx2:Nat→List PA→Nat→Nat→Option LA:=fun h _ n i=>match h,n,i with|28,0,999=>some ⟨[],[],[],[],[],[],[],[],[]⟩  |_,_,_=>none
def zhG(a b c d f h:DV)(e:List DV)(g:List OC):Option PX:=za (zc .rem a (U8 25)) fun j=>za (xx .i64 j) fun k=>za (zc .add (I6 1) k) fun l=>za (zc .lss (zf e 0) l) fun m=>ifB m (za (zc .rem (zf e 0) (I6 5)) fun n=>za (jV 5 n) fun o=>za (xx .i64 (atD [b,c,d,f,h] o)) fun p=>gd (fits 8 (xR (zt g 0)+1)) (za (zc .add (zf e 0) (I6 1)) fun q=>some (.normal,[q,zf e 1,zf e 2,zf e 3,zf e 4,zf e 5],[some (zG (zt g 0)++[[p]])]))) (some (.exit 0,[zf e 1,zf e 2,zf e 3,zf e 4,zf e 5],[zt g 0]))
def P25(O:Orc)(a b c d f h j m r l:DV):Option DA:=za (zc .rem l (I6 10)) fun n=>za (zc .add (I6 48) n) fun o=>za (xx .u8 o) fun p=>za (znE (.lst 1 [[p]])) fun q=>za (znx .add (.str ⟨#[82]⟩) q) fun s=>za (zc .rem a (U8 3)) fun t=>za (xe (some [[.str ⟨#[79,112,101,110]⟩],[.str ⟨#[70,108,117,116,101]⟩],[.str ⟨#[82,101,101,100]⟩]]) t) fun v=>za (jW (some [[.str ⟨#[79,112,101,110]⟩],[.str ⟨#[70,108,117,116,101]⟩],[.str ⟨#[82,101,101,100]⟩]]) v) fun w=>bA 2 (O 47 [S1 b]) fun g=>za (xx .i64 c) fun x=>z6 (zA (zhG d f h j m r) [I6 0,s,atD w 0,atD g 0,atD g 1,x] [none]) (fun y e k=>bif Nat.beq y 0 then (some (SA [zf e 0,zf e 1,zf e 2,zf e 3,zf e 4,mkL 1 (zt k 0)])) else(none)) (fun _e _k=>none)
theorem p25(O:Orc)(a b c d f h j m r a1:DV):wM prog O yA (inl prog O yA zx2 redI 6) zBP 25 [SA [a,b,c,d,f,h,j,m,r],S1 a1]=P25 O a b c d f h j m r a1:=by kernel_rfl
def zx1:Nat→List PA→Nat→Nat→Option LA:=fun h _ n i=>match h,n,i with|28,0,999=>some ⟨[],[],[],[],[],[],[],[],[]⟩  |_,_,_=>none
def P26(O:Orc)(m a b c d f h C:DV):Option DA:=za (xx .i64 c) fun E=>za (zY m) fun F=>za (zc .rem E F) fun g=>za (zc .add (I6 48) C) fun G=>za (xx .u8 G) fun H=>za (znE (.lst 1 [[H]])) fun J=>za (znx .add (.str ⟨#[83]⟩) J) fun l=>bA 2 (O 48 [S1 d]) fun e=>za (yW 6 m g) fun q=>bT [none,none] (O 49 [SA [atD e 0,atD e 1],SA [atD q 2,atD q 3]]) fun k=>za (xx .i64 h) fun K=>za (zc .sub b a) fun L=>za (zc .add L (I6 1)) fun M=>za (zc .rem K M) fun N=>za (zc .add a N) fun j=>za (zc .rem f (U8 6)) fun n=>za (zc .eql n (U8 2)) fun P=>ifB P (za (zc .add (dsO (zT k 0)) (I6 7)) fun Q=>some (SA [l,atD e 0,atD e 1,.lst 3 [[a,b,.lst 2 [[g,dsO (zT k 0)],[g,Q]]]]])) (za (zc .eql n (U8 3)) fun R=>ifB R (za (zc .sub (dsO (zT k 0)) (I6 12)) fun r=>za (zc .rem f (U8 6)) fun S=>za (zc .eql S (U8 3)) fun T=>ifB T (za (zc .add g (I6 1)) fun U=>za (zY m) fun V=>za (zc .rem U V) fun o=>za (yW 6 m o) fun s=>bT [none,none] (O 49 [SA [atD e 0,atD e 1],SA [atD s 2,atD s 3]]) fun t=>za (zc .gtr j a) fun W=>ifB W (za (zc .sub j (I6 1)) fun v=>gd (fits 40 1) (gd (fits 40 (xR (some (zG none++[[a,v,.lst 2 [[g,dsO (zT k 0)]]]]))+1)) (some (SA [l,atD e 0,atD e 1,.lst 3 (zG (some (zG none++[[a,v,.lst 2 [[g,dsO (zT k 0)]]]]))++[[j,b,.lst 2 [[o,dsO (zT t 0)]]]])])))) (gd (fits 40 1) (some (SA [l,atD e 0,atD e 1,.lst 3 (zG none++[[j,b,.lst 2 [[o,dsO (zT t 0)]]]])])))) (za (zc .gtr j a) fun X=>ifB X (za (zc .sub j (I6 1)) fun w=>gd (fits 40 1) (gd (fits 40 (xR (some (zG none++[[a,w,.lst 2 [[g,dsO (zT k 0)]]]]))+1)) (some (SA [l,atD e 0,atD e 1,.lst 3 (zG (some (zG none++[[a,w,.lst 2 [[g,dsO (zT k 0)]]]]))++[[j,b,.lst 2 [[g,r]]]])])))) (gd (fits 40 1) (some (SA [l,atD e 0,atD e 1,.lst 3 (zG none++[[j,b,.lst 2 [[g,r]]]])]))))) (za (zc .eql n (U8 4)) fun Y=>ifB Y (za (zc .sub (dsO (zT k 0)) (I6 12)) fun x=>za (zc .rem f (U8 6)) fun Z=>za (zc .eql Z (U8 3)) fun aa=>ifB aa (za (zc .add g (I6 1)) fun ab=>za (zY m) fun ac=>za (zc .rem ab ac) fun p=>za (yW 6 m p) fun y=>bT [none,none] (O 49 [SA [atD e 0,atD e 1],SA [atD y 2,atD y 3]]) fun z=>za (zc .gtr j a) fun ad=>ifB ad (za (zc .sub j (I6 1)) fun A=>gd (fits 40 1) (gd (fits 40 (xR (some (zG none++[[a,A,.lst 2 [[g,dsO (zT k 0)]]]]))+1)) (some (SA [l,atD e 0,atD e 1,.lst 3 (zG (some (zG none++[[a,A,.lst 2 [[g,dsO (zT k 0)]]]]))++[[j,b,.lst 2 [[p,dsO (zT z 0)]]]])])))) (gd (fits 40 1) (some (SA [l,atD e 0,atD e 1,.lst 3 (zG none++[[j,b,.lst 2 [[p,dsO (zT z 0)]]]])])))) (za (zc .gtr j a) fun ae=>ifB ae (za (zc .sub j (I6 1)) fun B=>gd (fits 40 1) (gd (fits 40 (xR (some (zG none++[[a,B,.lst 2 [[g,dsO (zT k 0)]]]]))+1)) (some (SA [l,atD e 0,atD e 1,.lst 3 (zG (some (zG none++[[a,B,.lst 2 [[g,dsO (zT k 0)]]]]))++[[j,b,.lst 2 [[g,x]]]])])))) (gd (fits 40 1) (some (SA [l,atD e 0,atD e 1,.lst 3 (zG none++[[j,b,.lst 2 [[g,x]]]])]))))) (za (zc .eql n (U8 5)) fun af=>ifB af (some (SA [l,atD e 0,atD e 1,.lst 3 [[j,b,.lst 2 [[g,dsO (zT k 0)]]]]])) (some (SA [l,atD e 0,atD e 1,.lst 3 [[a,b,.lst 2 [[g,dsO (zT k 0)]]]]])))))
theorem p26(O:Orc)(a0 a b c d f h a3:DV):wM prog O yA (inl prog O yA zx1 redI 6) an0 26 [S1 a0,SA [a,b],SA [c,d,f,h],S1 a3]=P26 O a0 a b c d f h a3:=by kernel_rfl
def zBO:Nat→Option LA:=fun i=>match i with|0=>some ⟨[.slot 27],[],[],[(1,1048576)],[],[],[.slot 2],[],[]⟩|1=>some ⟨[.slot 58],[(.slot 8,2)],[],[(2,1048576)],[],[(.slot 8,2)],[.slot 2],[],[]⟩|_=>none
def zx0:Nat→List PA→Nat→Nat→Option LA:=fun h _ n i=>match h,n,i with|28,0,999=>some ⟨[],[],[],[],[],[],[],[],[]⟩  |_,_,_=>none
def zhF(O:Orc)(l a b c d:DV)(g:List DV)(f:List OC):Option PX:=za (zc .lss (zf g 0) l) fun m=>ifB m (za (yW 5 a (zf g 0)) fun e=>b1 (O 50 [S1 (atD e 0)]) fun n=>za (uE n) fun o=>ifB o (some (.ret,[I6 8],[some (zG (zt f 1))])) (za (zhO (.inl 2) (.one (atD e 0)) (.one (atD e 0))) fun _x=>za (zfQ (.inl 2) 1048576 (.one (atD e 0)) (zG (zt f 1))) fun p=>ifB (dsO (lkD (.one (.bool false)) p)) (za (zc .neq (I6 9) (I6 0)) fun q=>ifB q (some (.ret,[I6 9],[some (zG (zt f 1))])) (b1 (O 53 [SA [b,c,a,d],SA [atD e 0,atD e 1,atD e 2,atD e 3,atD e 4]]) fun j=>za (zc .neq j (I6 0)) fun r=>ifB r (some (.ret,[j],[some (zG (zt f 1))])) (gd (fits 16 (xR (zt f 0)+1)) (za (zc .add (zf g 0) (I6 1)) fun s=>some (.normal,[s],[some (zG (zt f 0)++[[atD e 2,atD e 3]]),some (zG (zt f 1))]))))) (za (zhO (.inl 2) (.one (atD e 0)) (.one (atD e 0))) fun _y=>za (zpR (.inl 2) 1048576 (.one (atD e 0)) [atD e 0,.bool true] (zG (zt f 1))) fun h=>za (zc .neq (I6 0) (I6 0)) fun t=>ifB t (some (.ret,[I6 0],[some h])) (b1 (O 53 [SA [b,c,a,d],SA [atD e 0,atD e 1,atD e 2,atD e 3,atD e 4]]) fun k=>za (zc .neq k (I6 0)) fun v=>ifB v (some (.ret,[k],[some h])) (gd (fits 16 (xR (zt f 0)+1)) (za (zc .add (zf g 0) (I6 1)) fun w=>some (.normal,[w],[some (zG (zt f 0)++[[atD e 2,atD e 3]]),some h]))))))) (some (.exit 4,[],[zt f 0,some (zG (zt f 1))]))
def zpK(O:Orc)(g a:DV)(d:List DV)(c:List OC):Option PX:=za (zc .lss (zf d 0) g) fun h=>ifB h (za (yW 6 a (zf d 0)) fun b=>b1 (O 51 [SA [atD b 0,atD b 1,atD b 2,atD b 3,atD b 4,atD b 5]]) fun e=>za (zc .neq e (I6 0)) fun j=>ifB j (some (.ret,[e],[some (zG (zt c 0))])) (za (zhO (.inl 2) (.one (atD b 0)) (.one (atD b 0))) fun _p=>za (zfQ (.inl 2) 1048576 (.one (atD b 0)) (zG (zt c 0))) fun k=>ifB (dsO (lkD (.one (.bool false)) k)) (za (zc .neq (I6 9) (I6 0)) fun l=>ifB l (some (.ret,[I6 9],[some (zG (zt c 0))])) (za (zc .add (zf d 0) (I6 1)) fun m=>some (.normal,[m],[some (zG (zt c 0))]))) (za (zhO (.inl 2) (.one (atD b 0)) (.one (atD b 0))) fun _q=>za (zpR (.inl 2) 1048576 (.one (atD b 0)) [atD b 0,.bool true] (zG (zt c 0))) fun f=>za (zc .neq (I6 0) (I6 0)) fun n=>ifB n (some (.ret,[I6 0],[some f])) (za (zc .add (zf d 0) (I6 1)) fun o=>some (.normal,[o],[some f]))))) (some (.exit 1,[],[some (zG (zt c 0))]))
def P27(O:Orc)(a b c d:DV):Option DA:=b1 (O 50 [S1 a]) fun h=>za (uE h) fun j=>ifB j (some (S1 (I6 8))) (za (zY b) fun k=>za (zc .gtr k (I6 60)) fun l=>ifB l (some (S1 (I6 4))) (za (zY b) fun m=>z6 (zA (zpK O m b) [I6 0] [some []]) (fun n _e _o=>bif Nat.beq n 1 then (za (zY c) fun p=>za (zc .eql p (I6 0)) fun q=>ifB q (some (S1 (I6 13))) (za (zY c) fun r=>za (zc .gtr r (I6 8)) fun s=>ifB s (some (S1 (I6 4))) (za (zY c) fun t=>z6 (zA (zhF O t c a b d) [I6 0] [none,some []]) (fun v _f g=>bif Nat.beq v 4 then (b1s (O 54 [S1 (mkL 2 (zt g 0)),S1 d]) fun w=>some (S1 w)) else(none)) (fun f _g=>some (S1 (zf f 0)))))) else(none)) (fun e _o=>some (S1 (zf e 0)))))
theorem p27(O:Orc)(a b c d:DV):wM prog O yA (inl prog O yA zx0 redI 6) zBO 27 [SA [a,b,c,d]]=P27 O a b c d:=by kernel_rfl
def zxZ:Nat→List PA→Nat→Nat→Option LA:=fun h _ n i=>match h,n,i with|28,0,999=>some ⟨[],[],[],[],[],[],[],[],[]⟩  |_,_,_=>none
def P30(O:Orc)(a b c d:DV):Option DA:=b1 (O 31 [.s (.one d),SA [a,b,c]]) fun e=>some (S1 e)
theorem p30(O:Orc)(a b c d:DV):wM prog O yA (inl prog O yA zxZ redI 6) an0 30 [SA [a,b,c],S1 (.fp [d] 0)]=P30 O a b c d:=by kernel_rfl
def zxY:Nat→List PA→Nat→Nat→Option LA:=fun h _ n i=>match h,n,i with|28,0,999=>some ⟨[],[],[],[],[],[],[],[],[]⟩  |_,_,_=>none
def P31(O:Orc)(d a b c:DV):Option DA:=b1 (O 58 [S1 d,SA [a,b,c]]) fun e=>za (zc .geq e (I6 0)) fun f=>some (S1 f)
theorem p31(O:Orc)(a0 a b c:DV):wM prog O yA (inl prog O yA zxY redI 6) an0 31 [S1 a0,SA [a,b,c]]=P31 O a0 a b c:=by kernel_rfl
def zxX:Nat→List PA→Nat→Nat→Option LA:=fun h _ n i=>match h,n,i with|28,0,999=>some ⟨[],[],[],[],[],[],[],[],[]⟩  |_,_,_=>none
def P35(_O:Orc)(a _b _c b:DV):Option DA:=za (zY a) fun c=>za (zc .lss b c) fun d=>ifB d (za (yW 1 a b) fun e=>some (S1 (atD e 0))) (some (S1 (U64 0)))
theorem p35(O:Orc)(a b c a1:DV):wM prog O yA (inl prog O yA zxX redI 6) an0 35 [SA [a,b,c],S1 a1]=P35 O a b c a1:=by kernel_rfl
def zxW:Nat→List PA→Nat→Nat→Option LA:=fun h _ n i=>match h,n,i with|28,0,999=>some ⟨[],[],[],[],[],[],[],[],[]⟩  |_,_,_=>none
def P36(_O:Orc)(a b c d f h:DV):Option DA:=za (vZ 1 a) fun e=>bif !List.isEmpty (e:List (List DV)) then (gd (fits 8 (e:List (List DV)).length) (za (zc .eql d (I6 1)) fun g=>ifB g (za (xe (zdU none e) f) fun j=>za (jW (zdU none e) j) fun k=>za (z7 true (U64 1) h) fun l=>za (zc .or (atD k 0) l) fun m=>za (xe (zdU none e) f) fun n=>za (zgo 1 (zdU none e) n 0 [m]) fun o=>some (SA [mkL 1 o,b,c])) (za (zc .eql d (I6 2)) fun p=>ifB p (za (z7 true (U64 1) h) fun q=>za (zc .or b q) fun r=>some (SA [mkL 1 (zdU none e),r,c])) (za (z7 true (U64 1) f) fun s=>za (zc .or c s) fun t=>some (SA [mkL 1 (zdU none e),b,t]))))) else(none)
theorem p36(O:Orc)(a b c d f h:DV):wM prog O yA (inl prog O yA zxW redI 6) an0 36 [SA [a,b,c],SA [d,f,h]]=P36 O a b c d f h:=by kernel_rfl
def zBN:Nat→Option LA:=fun i=>match i with|0=>some ⟨[.slot 4,.slot 3],[],[],[],[.slot 3],[],[],[],[]⟩|_=>none
def zxV:Nat→List PA→Nat→Nat→Option LA:=fun h _ n i=>match h,n,i with|28,0,999=>some ⟨[],[],[],[],[],[],[],[],[]⟩  |_,_,_=>none
def zrP(O:Orc)(a:DV)(b:List DV)(_j:List OC):Option PX:=za (zY a) fun c=>za (zc .lss (zf b 0) c) fun d=>ifB d (za (yW 1 a (zf b 0)) fun e=>b1 (O 60 [S1 (atD e 0)]) fun f=>za (zc .add (zf b 1) f) fun g=>za (zc .add (zf b 0) (I6 1)) fun h=>some (.normal,[h,g],[])) (some (.exit 0,[zf b 1],[]))
def P37(O:Orc)(a b c:DV):Option DA:=b1 (O 60 [S1 b]) fun e=>b1 (O 60 [S1 c]) fun f=>za (zc .add e f) fun g=>z6 (zA (zrP O a) [I6 0,g] []) (fun h d _j=>bif Nat.beq h 0 then (some (S1 (zf d 0))) else(none)) (fun _d _j=>none)
theorem p37(O:Orc)(a b c:DV):wM prog O yA (inl prog O yA zxV redI 6) zBN 37 [SA [a,b,c]]=P37 O a b c:=by kernel_rfl
def zxU:Nat→List PA→Nat→Nat→Option LA:=fun h _ n i=>match h,n,i with|28,0,999=>some ⟨[],[],[],[],[],[],[],[],[]⟩  |_,_,_=>none
def P38(_O:Orc)(a _b _c b:DV):Option DA:=za (zY a) fun c=>za (zc .lss b c) fun d=>ifB d (za (yW 1 a b) fun e=>some (S1 (atD e 0))) (some (S1 (U64 0)))
theorem p38(O:Orc)(a b c a1:DV):wM prog O yA (inl prog O yA zxU redI 6) an0 38 [SA [a,b,c],S1 a1]=P38 O a b c a1:=by kernel_rfl
def zxT:Nat→List PA→Nat→Nat→Option LA:=fun h _ n i=>match h,n,i with|28,0,999=>some ⟨[],[],[],[],[],[],[],[],[]⟩  |_,_,_=>none
def P47(_O:Orc)(b:DV):Option DA:=za (zc .rem b (U8 16)) fun c=>za (xe (some [[I6 8,I6 1],[I6 4,I6 1],[I6 16,I6 1],[I6 2,I6 1],[I6 8,I6 3],[I6 8,I6 5],[I6 4,I6 3],[I6 1,I6 1],[I6 32,I6 1],[I6 16,I6 3],[I6 16,I6 5],[I6 32,I6 3],[I6 8,I6 7],[I6 2,I6 3],[I6 1,I6 2],[I6 64,I6 1]]) c) fun d=>za (jW (some [[I6 8,I6 1],[I6 4,I6 1],[I6 16,I6 1],[I6 2,I6 1],[I6 8,I6 3],[I6 8,I6 5],[I6 4,I6 3],[I6 1,I6 1],[I6 32,I6 1],[I6 16,I6 3],[I6 16,I6 5],[I6 32,I6 3],[I6 8,I6 7],[I6 2,I6 3],[I6 1,I6 2],[I6 64,I6 1]]) d) fun a=>some (SA [atD a 0,atD a 1])
theorem p47(O:Orc)(a0:DV):wM prog O yA (inl prog O yA zxT redI 6) an0 47 [S1 a0]=P47 O a0:=by kernel_rfl
def zxS:Nat→List PA→Nat→Nat→Option LA:=fun h _ n i=>match h,n,i with|28,0,999=>some ⟨[],[],[],[],[],[],[],[],[]⟩  |_,_,_=>none
def P48(_O:Orc)(b:DV):Option DA:=za (zc .rem b (U8 6)) fun c=>za (xe (some [[I6 8,I6 1],[I6 4,I6 1],[I6 16,I6 1],[I6 8,I6 3],[I6 2,I6 1],[I6 8,I6 5]]) c) fun d=>za (jW (some [[I6 8,I6 1],[I6 4,I6 1],[I6 16,I6 1],[I6 8,I6 3],[I6 2,I6 1],[I6 8,I6 5]]) d) fun a=>some (SA [atD a 0,atD a 1])
theorem p48(O:Orc)(a0:DV):wM prog O yA (inl prog O yA zxS redI 6) an0 48 [S1 a0]=P48 O a0:=by kernel_rfl
def zxR:Nat→List PA→Nat→Nat→Option LA:=fun h _ n i=>match h,n,i with|28,0,999=>some ⟨[],[],[],[],[],[],[],[],[]⟩  |_,_,_=>none
def P49(O:Orc)(a b c d:DV):Option DA:=b1 (O 69 [SA [a,b],SA [c,d]]) fun e=>za (zc .neq e (I6 0)) fun f=>ifB f (some (.tup [.one (I6 0),.one e])) (b1 (O 70 [SA [a,b],SA [c,d]]) fun g=>some (.tup [.one g,.one (I6 0)]))
theorem p49(O:Orc)(a b c d:DV):wM prog O yA (inl prog O yA zxR redI 6) an0 49 [SA [a,b],SA [c,d]]=P49 O a b c d:=by kernel_rfl
def zBM:Nat→Option LA:=fun i=>match i with|0=>some ⟨[.slot 3],[],[],[],[],[],[.slot 2],[],[]⟩|_=>none
def zxQ:Nat→List PA→Nat→Nat→Option LA:=fun h _ n i=>match h,n,i with|28,0,999=>some ⟨[],[],[],[],[],[],[],[],[]⟩  |_,_,_=>none
def zpJ(O:Orc)(c:DV)(a:List DV)(_q:List OC):Option PX:=za (zlx c) fun d=>za (zc .lss (zf a 0) d) fun e=>ifB e (za (zbJ c (zf a 0)) fun b=>b1 (O 71 [S1 b]) fun f=>za (uE f) fun g=>ifB g (za (zc .lss b (U8 48)) fun h=>ifB h (za (zc .neq b (U8 95)) fun j=>ifB j (some (.ret,[.bool false],[])) (za (zc .add (zf a 0) (I6 1)) fun k=>some (.normal,[k],[]))) (za (zc .gtr b (U8 57)) fun l=>ifB l (za (zc .neq b (U8 95)) fun m=>ifB m (some (.ret,[.bool false],[])) (za (zc .add (zf a 0) (I6 1)) fun n=>some (.normal,[n],[]))) (za (zc .add (zf a 0) (I6 1)) fun o=>some (.normal,[o],[])))) (za (zc .add (zf a 0) (I6 1)) fun p=>some (.normal,[p],[]))) (some (.exit 0,[],[]))
def P50(O:Orc)(a:DV):Option DA:=za (znx .eql a (.str ⟨#[]⟩)) fun c=>ifB c (some (S1 (.bool false))) (za (zlx a) fun d=>za (zc .gtr d (I6 32)) fun e=>ifB e (some (S1 (.bool false))) (za (zbJ a (I6 0)) fun f=>b1 (O 71 [S1 f]) fun g=>za (uE g) fun h=>ifB h (some (S1 (.bool false))) (z6 (zA (zpJ O a) [I6 1] []) (fun j _b _k=>bif Nat.beq j 0 then (some (S1 (.bool true))) else(none)) (fun b _k=>some (S1 (zf b 0))))))
theorem p50(O:Orc)(a0:DV):wM prog O yA (inl prog O yA zxQ redI 6) zBM 50 [S1 a0]=P50 O a0:=by kernel_rfl
def zxP:Nat→List PA→Nat→Nat→Option LA:=fun h _ n i=>match h,n,i with|28,0,999=>some ⟨[],[],[],[],[],[],[],[],[]⟩  |_,_,_=>none
def P51(O:Orc)(a b c d f h:DV):Option DA:=b1 (O 50 [S1 a]) fun g=>za (uE g) fun j=>ifB j (some (S1 (I6 8))) (b1 (O 50 [S1 b]) fun k=>za (uE k) fun l=>ifB l (some (S1 (I6 8))) (b1 (O 72 [SA [c,d]]) fun e=>za (zc .neq e (I6 0)) fun m=>ifB m (some (S1 e)) (b1 (O 73 [S1 f]) fun n=>za (uE n) fun o=>ifB o (some (S1 (I6 3))) (za (zY h) fun p=>za (zc .eql p (I6 0)) fun q=>ifB q (some (S1 (I6 13))) (za (zY h) fun r=>za (zc .gtr r (I6 128)) fun s=>ifB s (some (S1 (I6 4))) (b1 (O 74 [S1 h]) fun t=>some (S1 t)))))))
theorem p51(O:Orc)(a b c d f h:DV):wM prog O yA (inl prog O yA zxP redI 6) an0 51 [SA [a,b,c,d,f,h]]=P51 O a b c d f h:=by kernel_rfl
def zBL:Nat→Option LA:=fun i=>match i with|0=>some ⟨[.slot 25],[],[],[(2,1048576)],[],[],[.slot 4],[],[]⟩|_=>none
def zxO:Nat→List PA→Nat→Nat→Option LA:=fun h _ n i=>match h,n,i with|28,0,999=>some ⟨[],[],[],[],[],[],[],[],[]⟩  |_,_,_=>none
def zpI(O:Orc)(k a b c d:DV)(g:List DV)(f:List OC):Option PX:=za (zc .lss (zf g 0) k) fun l=>ifB l (za (yW 4 a (zf g 0)) fun e=>b1 (O 76 [SA [b,c,d],SA [atD e 0,atD e 1,atD e 2,atD e 3]]) fun h=>za (zc .neq h (I6 0)) fun m=>ifB m (some (.ret,[h],[some (zG (zt f 0))])) (za (zhO (.inl 2) (.one (atD e 0)) (.one (atD e 0))) fun _s=>za (zfQ (.inl 2) 1048576 (.one (atD e 0)) (zG (zt f 0))) fun n=>ifB (dsO (lkD (.one (.bool false)) n)) (za (zc .neq (I6 9) (I6 0)) fun o=>ifB o (some (.ret,[I6 9],[some (zG (zt f 0))])) (za (zc .add (zf g 0) (I6 1)) fun p=>some (.normal,[p],[some (zG (zt f 0))]))) (za (zhO (.inl 2) (.one (atD e 0)) (.one (atD e 0))) fun _t=>za (zpR (.inl 2) 1048576 (.one (atD e 0)) [atD e 0,.bool true] (zG (zt f 0))) fun j=>za (zc .neq (I6 0) (I6 0)) fun q=>ifB q (some (.ret,[I6 0],[some j])) (za (zc .add (zf g 0) (I6 1)) fun r=>some (.normal,[r],[some j]))))) (some (.exit 0,[],[some (zG (zt f 0))]))
def P53(O:Orc)(_a b _c _d _f _h j m r:DV):Option DA:=b1 (O 75 [SA [j,m]]) fun a=>za (zc .neq a (I6 0)) fun d=>ifB d (some (S1 a)) (za (zY r) fun e=>za (zc .gtr e (I6 60)) fun f=>ifB f (some (S1 (I6 4))) (za (zY r) fun g=>z6 (zA (zpI O g r b j m) [I6 0] [some []]) (fun h _c _k=>bif Nat.beq h 0 then (some (S1 (I6 0))) else(none)) (fun c _k=>some (S1 (zf c 0)))))
theorem p53(O:Orc)(a b c d f h j m r:DV):wM prog O yA (inl prog O yA zxO redI 6) zBL 53 [SA [a,b,c,d],SA [f,h,j,m,r]]=P53 O a b c d f h j m r:=by kernel_rfl
def zBK:Nat→Option LA:=fun i=>match i with|0=>some ⟨[.slot 19],[],[],[],[],[],[.slot 4],[],[]⟩|1=>some ⟨[.slot 29],[],[],[],[],[],[.slot 4],[],[]⟩|_=>none
def zxN:Nat→List PA→Nat→Nat→Option LA:=fun h _ n i=>match h,n,i with|28,0,999=>some ⟨[],[],[],[],[],[],[],[],[]⟩  |_,_,_=>none
def zhE(O:Orc)(e c d:DV)(b:List DV)(_y:List OC):Option PX:=za (zc .lss (zf b 0) e) fun f=>ifB f (za (yW 5 c (zf b 0)) fun a=>b1 (O 50 [S1 (atD a 0)]) fun g=>za (uE g) fun h=>ifB h (some (.ret,[I6 8],[])) (za (vY 5 c none (some (zf b 0))) fun j=>b1s (O 77 [S1 j,S1 (.fn 78 [[atD a 0,atD a 1,atD a 2,atD a 3,atD a 4]])]) fun k=>ifB k (some (.ret,[I6 9],[])) (za (zc .lss (atD a 1) (I6 0)) fun l=>ifB l (some (.ret,[I6 10],[])) (za (zY d) fun m=>za (zc .geq (atD a 1) m) fun n=>ifB n (some (.ret,[I6 10],[])) (za (zc .lss (atD a 2) (I6 0)) fun o=>ifB o (some (.ret,[I6 10],[])) (za (zY d) fun p=>za (zc .geq (atD a 2) p) fun q=>ifB q (some (.ret,[I6 10],[])) (za (zc .lss (atD a 3) (I6 (-127))) fun r=>ifB r (some (.ret,[I6 3],[])) (za (zc .gtr (atD a 3) (I6 127)) fun s=>ifB s (some (.ret,[I6 3],[])) (za (zc .eql (atD a 1) (atD a 2)) fun t=>ifB t (za (zc .eql (atD a 3) (I6 0)) fun v=>ifB v (some (.ret,[I6 7],[])) (za (zc .add (zf b 0) (I6 1)) fun w=>some (.normal,[w],[]))) (za (zc .add (zf b 0) (I6 1)) fun x=>some (.normal,[x],[]))))))))))) (some (.exit 2,[],[]))
def zpH(O:Orc)(c d:DV)(a:List DV)(_j:List OC):Option PX:=za (zc .lss (zf a 0) c) fun e=>ifB e (za (yW 2 d (zf a 0)) fun b=>b1 (O 75 [SA [atD b 0,atD b 1]]) fun f=>za (zc .neq f (I6 0)) fun g=>ifB g (some (.ret,[I6 23],[])) (za (zc .add (zf a 0) (I6 1)) fun h=>some (.normal,[h],[]))) (some (.exit 0,[],[]))
def P54(O:Orc)(a b:DV):Option DA:=za (zY a) fun e=>za (zc .gtr e (I6 8)) fun f=>ifB f (some (S1 (I6 4))) (za (zY b) fun g=>za (zc .gtr g (I6 40)) fun h=>ifB h (some (S1 (I6 4))) (za (zY a) fun j=>z6 (zA (zpH O j a) [I6 0] []) (fun k _c _l=>bif Nat.beq k 0 then (za (zY b) fun m=>z6 (zA (zhE O m b a) [I6 0] []) (fun n _d _o=>bif Nat.beq n 2 then (some (S1 (I6 0))) else(none)) (fun d _o=>some (S1 (zf d 0)))) else(none)) (fun c _l=>some (S1 (zf c 0)))))
theorem p54(O:Orc)(a0 a1:DV):wM prog O yA (inl prog O yA zxN redI 6) zBK 54 [S1 a0,S1 a1]=P54 O a0 a1:=by kernel_rfl
def zxM:Nat→List PA→Nat→Nat→Option LA:=fun h _ n i=>match h,n,i with|28,0,999=>some ⟨[],[],[],[],[],[],[],[],[]⟩  |_,_,_=>none
def P55(O:Orc)(a b c d f h j:DV):Option DA:=b1 (O 27 [SA [a,b,c,d]]) fun e=>za (zc .neq e (I6 0)) fun g=>ifB g (some (S1 e)) (b1 (O 10 [SA [a,b,c,d],SA [f,h,j]]) fun k=>some (S1 k))
theorem p55(O:Orc)(a b c d f h j:DV):wM prog O yA (inl prog O yA zxM redI 6) an0 55 [SA [a,b,c,d],SA [f,h,j]]=P55 O a b c d f h j:=by kernel_rfl
def zBJ:Nat→Option LA:=fun i=>match i with|0=>some ⟨[.slot 8],[],[],[],[],[],[.slot 4],[],[]⟩|_=>none
def zxL:Nat→List PA→Nat→Nat→Option LA:=fun h _ n i=>match h,n,i with|28,0,999=>some ⟨[],[],[],[],[],[],[],[],[]⟩  |_,_,_=>none
def zpG(O:Orc)(c d e:DV)(a:List DV)(_j:List OC):Option PX:=za (zc .lss (zf a 0) c) fun f=>ifB f (za (yW 3 d (zf a 0)) fun b=>b1 (zhR O e [SA [atD b 0,atD b 1,atD b 2]]) fun g=>ifB g (some (.ret,[zf a 0],[])) (za (zc .add (zf a 0) (I6 1)) fun h=>some (.normal,[h],[]))) (some (.exit 0,[],[]))
def P57(O:Orc)(a c:DV):Option DA:=za (zY a) fun d=>z6 (zA (zpG O d a c) [I6 0] []) (fun e _b _f=>bif Nat.beq e 0 then (some (S1 (I6 (-1)))) else(none)) (fun b _f=>some (S1 (zf b 0)))
theorem p57(O:Orc)(a0 a1:DV):wM prog O yA (inl prog O yA zxL redI 6) zBJ 57 [S1 a0,S1 a1]=P57 O a0 a1:=by kernel_rfl
def zBI:Nat→Option LA:=fun i=>match i with|0=>some ⟨[.slot 8],[],[],[],[],[],[.slot 4],[],[]⟩|_=>none
def zxK:Nat→List PA→Nat→Nat→Option LA:=fun h _ n i=>match h,n,i with|28,0,999=>some ⟨[],[],[],[],[],[],[],[],[]⟩  |_,_,_=>none
def zpF(f g a b c:DV)(d:List DV)(_l:List OC):Option PX:=za (zc .lss (zf d 0) f) fun h=>ifB h (za (yW 3 g (zf d 0)) fun e=>za (zmq [1,1,1] [a,b,c] [atD e 0,atD e 1,atD e 2]) fun j=>ifB (.bool j) (some (.ret,[zf d 0],[])) (za (zc .add (zf d 0) (I6 1)) fun k=>some (.normal,[k],[]))) (some (.exit 0,[],[]))
def P58(_O:Orc)(d a b c:DV):Option DA:=za (zY d) fun f=>z6 (zA (zpF f d a b c) [I6 0] []) (fun g _e _h=>bif Nat.beq g 0 then (some (S1 (I6 (-1)))) else(none)) (fun e _h=>some (S1 (zf e 0)))
theorem p58(O:Orc)(a0 a b c:DV):wM prog O yA (inl prog O yA zxK redI 6) zBI 58 [S1 a0,SA [a,b,c]]=P58 O a0 a b c:=by kernel_rfl
def zBH:Nat→Option LA:=fun i=>match i with|0=>some ⟨[.slot 4,.slot 3],[],[],[],[.slot 3],[],[],[],[]⟩|_=>none
def zxJ:Nat→List PA→Nat→Nat→Option LA:=fun h _ n i=>match h,n,i with|28,0,999=>some ⟨[],[],[],[],[],[],[],[],[]⟩  |_,_,_=>none
def zml(b:DV)(a:List DV)(_k:List OC):Option PX:=za (zc .lss (zf a 0) (I6 64)) fun c=>ifB c (za (z7 false b (zf a 0)) fun d=>za (zc .and d (U64 1)) fun e=>za (zc .eql e (U64 1)) fun f=>ifB f (za (zc .add (zf a 1) (I6 1)) fun g=>za (zc .add (zf a 0) (I6 1)) fun h=>some (.normal,[h,g],[])) (za (zc .add (zf a 0) (I6 1)) fun j=>some (.normal,[j,zf a 1],[]))) (some (.exit 0,[zf a 1],[]))
def P60(_O:Orc)(b:DV):Option DA:=z6 (zA (zml b) [I6 0,I6 0] []) (fun c a _d=>bif Nat.beq c 0 then (some (S1 (zf a 0))) else(none)) (fun _a _d=>none)
theorem p60(O:Orc)(a0:DV):wM prog O yA (inl prog O yA zxJ redI 6) zBH 60 [S1 a0]=P60 O a0:=by kernel_rfl
def zxI:Nat→List PA→Nat→Nat→Option LA:=fun h _ n i=>match h,n,i with|28,0,999=>some ⟨[],[],[],[],[],[],[],[],[]⟩  |_,_,_=>none
def P69(O:Orc)(a b c d:DV):Option DA:=b1 (O 72 [SA [a,b]]) fun e=>za (zc .neq e (I6 0)) fun f=>ifB f (some (S1 e)) (b1 (O 72 [SA [c,d]]) fun g=>some (S1 g))
theorem p69(O:Orc)(a b c d:DV):wM prog O yA (inl prog O yA zxI redI 6) an0 69 [SA [a,b],SA [c,d]]=P69 O a b c d:=by kernel_rfl
def zBG:Nat→Option LA:=fun i=>match i with|0=>some ⟨[.slot 5,.slot 7],[],[],[],[.slot 5,.slot 7],[],[],[],[]⟩|1=>some ⟨[.slot 6,.slot 7],[],[],[],[.slot 6,.slot 7],[],[],[],[]⟩|2=>some ⟨[.slot 12,.slot 7],[],[],[],[.slot 7],[],[],[],[]⟩|_=>none
def zxH:Nat→List PA→Nat→Nat→Option LA:=fun h _ n i=>match h,n,i with|28,0,999=>some ⟨[],[],[],[],[],[],[],[],[]⟩  |_,_,_=>none
def zhD(O:Orc)(b:List DS)(a:List DV)(_g:List OC):Option PX:=b1 (O 88 [S1 (dsO (zT b 0)),S1 (zf a 0)]) fun c=>za (zc .gtr c (I6 0)) fun d=>ifB d (za (zc .add (zf a 1) (I6 1)) fun e=>b1 (O 87 [S1 (zf a 0),S1 (.str ⟨#[52]⟩)]) fun f=>some (.normal,[f,e],[])) (some (.exit 4,[zf a 1],[]))
def zeK(b:List DV)(a:List DV)(_g:List OC):Option PX:=za (zc .mul (I6 2) (zf a 0)) fun c=>za (zc .geq (zf b 0) c) fun d=>ifB d (za (zc .mul (zf a 0) (I6 2)) fun e=>za (zc .add (zf a 1) (I6 12)) fun f=>some (.normal,[e,f],[])) (some (.exit 2,[zf a 0,zf a 1],[]))
def zmk(b:DV)(a:List DV)(_f:List OC):Option PX:=za (zc .lss (zf a 0) b) fun c=>ifB c (za (zc .mul (zf a 0) (I6 2)) fun d=>za (zc .sub (zf a 1) (I6 12)) fun e=>some (.normal,[d,e],[])) (some (.exit 0,[zf a 0,zf a 1],[]))
def P70(O:Orc)(a b c d:DV):Option DA:=za (zc .mul c b) fun j=>za (zc .mul d a) fun g=>z6 (zA (zmk g) [j,I6 0] []) (fun k e _l=>bif Nat.beq k 0 then (z6 (zA (zeK e) [g,zf e 1] []) (fun m f _n=>bif Nat.beq m 2 then (b1 (O 86 [S1 (zf e 0)]) fun o=>bT [none,none] (O 85 [S1 o,S1 (I6 24)]) fun p=>b1 (O 86 [S1 (zf f 0)]) fun q=>bT [none,none] (O 85 [S1 q,S1 (I6 24)]) fun r=>b1 (O 87 [S1 (dsO (zT r 0)),S1 (.str ⟨#[50]⟩)]) fun s=>z6 (zA (zhD O p) [s,zf f 1] []) (fun t h _v=>bif Nat.beq t 4 then (some (S1 (zf h 0))) else(none)) (fun _h _v=>none)) else(none)) (fun _f _n=>none)) else(none)) (fun _e _l=>none)
theorem p70(O:Orc)(a b c d:DV):wM prog O yA (inl prog O yA zxH redI 6) zBG 70 [SA [a,b],SA [c,d]]=P70 O a b c d:=by kernel_rfl
def zxG:Nat→List PA→Nat→Nat→Option LA:=fun h _ n i=>match h,n,i with|28,0,999=>some ⟨[],[],[],[],[],[],[],[],[]⟩  |_,_,_=>none
def P71(_O:Orc)(a:DV):Option DA:=za (zc .geq a (U8 65)) fun b=>ifB b (za (zc .leq a (U8 90)) fun c=>ifB c (some (S1 (.bool true))) (za (zc .geq a (U8 97)) fun d=>ifB d (za (zc .leq a (U8 122)) fun e=>some (S1 e)) (some (S1 (.bool false))))) (za (zc .geq a (U8 97)) fun f=>ifB f (za (zc .leq a (U8 122)) fun g=>some (S1 g)) (some (S1 (.bool false))))
theorem p71(O:Orc)(a0:DV):wM prog O yA (inl prog O yA zxG redI 6) an0 71 [S1 a0]=P71 O a0:=by kernel_rfl
def zxF:Nat→List PA→Nat→Nat→Option LA:=fun h _ n i=>match h,n,i with|28,0,999=>some ⟨[],[],[],[],[],[],[],[],[]⟩  |_,_,_=>none
def P72(O:Orc)(a b:DV):Option DA:=b1 (O 89 [SA [a,b]]) fun c=>za (zc .neq c (I6 0)) fun d=>ifB d (some (S1 (I6 2))) (za (zc .leq a (I6 0)) fun e=>ifB e (some (S1 (I6 3))) (za (zc .mul (I6 128) b) fun f=>za (zc .gtr a f) fun g=>ifB g (some (S1 (I6 3))) (za (zc .gtr b (I6 128)) fun h=>ifB h (some (S1 (I6 4))) (some (S1 (I6 0))))))
theorem p72(O:Orc)(a b:DV):wM prog O yA (inl prog O yA zxF redI 6) an0 72 [SA [a,b]]=P72 O a b:=by kernel_rfl
def zxE:Nat→List PA→Nat→Nat→Option LA:=fun h _ n i=>match h,n,i with|28,0,999=>some ⟨[],[],[],[],[],[],[],[],[]⟩  |_,_,_=>none
def P73(_O:Orc)(a:DV):Option DA:=za (zc .geq a (I6 (-256))) fun b=>ifB b (za (zc .leq a (I6 256)) fun c=>some (S1 c)) (some (S1 (.bool false)))
theorem p73(O:Orc)(a0:DV):wM prog O yA (inl prog O yA zxE redI 6) an0 73 [S1 a0]=P73 O a0:=by kernel_rfl
def zxD:Nat→List PA→Nat→Nat→Option LA:=fun h _ n i=>match h,n,i with|28,0,999=>some ⟨[],[],[],[],[],[],[],[],[]⟩  |_,_,_=>none
def P74(O:Orc)(a:DV):Option DA:=b1 (O 90 [S1 a,S1 (.fn 91 [])]) fun b=>ifB b (some (S1 (I6 3))) (some (S1 (I6 0)))
theorem p74(O:Orc)(a0:DV):wM prog O yA (inl prog O yA zxD redI 6) an0 74 [S1 a0]=P74 O a0:=by kernel_rfl
def zxC:Nat→List PA→Nat→Nat→Option LA:=fun h _ n i=>match h,n,i with|28,0,999=>some ⟨[],[],[],[],[],[],[],[],[]⟩  |_,_,_=>none
def P75(_O:Orc)(a b:DV):Option DA:=za (zc .lss a (I6 0)) fun c=>ifB c (some (S1 (I6 3))) (za (zc .gtr b (I6 127)) fun d=>ifB d (some (S1 (I6 3))) (za (zc .gtr a b) fun e=>ifB e (some (S1 (I6 23))) (some (S1 (I6 0)))))
theorem p75(O:Orc)(a b:DV):wM prog O yA (inl prog O yA zxC redI 6) an0 75 [SA [a,b]]=P75 O a b:=by kernel_rfl
def zBF:Nat→Option LA:=fun i=>match i with|0=>some ⟨[.slot 38],[],[],[],[],[],[.slot 4],[],[]⟩|_=>none
def zxB:Nat→List PA→Nat→Nat→Option LA:=fun h _ n i=>match h,n,i with|28,0,999=>some ⟨[],[],[],[],[],[],[],[],[]⟩  |_,_,_=>none
def zhC(O:Orc)(j a b c d:DV)(f:List DV)(_z:List OC):Option PX:=za (zc .lss (zf f 0) j) fun k=>ifB k (za (yW 3 a (zf f 0)) fun e=>za (wp false (atD e 0) [atD e 1]) fun l=>za (zc .lss l b) fun m=>ifB m (some (.ret,[I6 23],[])) (za (wp true (atD e 0) [atD e 1]) fun n=>za (zc .gtr n c) fun o=>ifB o (some (.ret,[I6 23],[])) (za (zc .gtr (atD e 0) (atD e 1)) fun p=>ifB p (some (.ret,[I6 6],[])) (za (zc .gtr (zf f 0) (I6 0)) fun q=>ifB q (za (zc .sub (zf f 0) (I6 1)) fun r=>za (yW 3 a r) fun s=>za (zc .leq (atD e 0) (atD s 1)) fun t=>ifB t (some (.ret,[I6 6],[])) (b1 (O 93 [SA [d,b,c],S1 (atD e 2)]) fun g=>za (zc .neq g (I6 0)) fun v=>ifB v (some (.ret,[g],[])) (za (zc .add (zf f 0) (I6 1)) fun w=>some (.normal,[w],[])))) (b1 (O 93 [SA [d,b,c],S1 (atD e 2)]) fun h=>za (zc .neq h (I6 0)) fun x=>ifB x (some (.ret,[h],[])) (za (zc .add (zf f 0) (I6 1)) fun y=>some (.normal,[y],[]))))))) (some (.exit 1,[],[]))
def P76(O:Orc)(a b c d f h j:DV):Option DA:=b1 (O 92 [SA [a,b,c]]) fun e=>za (zc .neq e (I6 0)) fun l=>ifB l (some (S1 e)) (b1 (O 50 [S1 d]) fun m=>za (uE m) fun n=>ifB n (some (S1 (I6 8))) (b1 (O 72 [SA [f,h]]) fun g=>za (zc .neq g (I6 0)) fun o=>ifB o (some (S1 g)) (za (zY j) fun p=>za (zc .eql p (I6 0)) fun q=>ifB q (some (S1 (I6 13))) (za (zY j) fun r=>za (zc .gtr r (I6 12)) fun s=>ifB s (some (S1 (I6 4))) (za (zY j) fun t=>z6 (zA (zhC O t j b c a) [I6 0] []) (fun v _k _w=>bif Nat.beq v 1 then (some (S1 (I6 0))) else(none)) (fun k _w=>some (S1 (zf k 0))))))))
theorem p76(O:Orc)(a b c d f h j:DV):wM prog O yA (inl prog O yA zxB redI 6) zBF 76 [SA [a,b,c],SA [d,f,h,j]]=P76 O a b c d f h j:=by kernel_rfl
def zxA:Nat→List PA→Nat→Nat→Option LA:=fun h _ n i=>match h,n,i with|28,0,999=>some ⟨[],[],[],[],[],[],[],[],[]⟩  |_,_,_=>none
def P77(O:Orc)(a b:DV):Option DA:=b1 (O 94 [S1 a,S1 b]) fun c=>za (zc .geq c (I6 0)) fun d=>some (S1 d)
theorem p77(O:Orc)(a0 a1:DV):wM prog O yA (inl prog O yA zxA redI 6) an0 77 [S1 a0,S1 a1]=P77 O a0 a1:=by kernel_rfl
def zxz:Nat→List PA→Nat→Nat→Option LA:=fun h _ n i=>match h,n,i with|28,0,999=>some ⟨[],[],[],[],[],[],[],[],[]⟩  |_,_,_=>none
def P78(_O:Orc)(a _b _c _d _f h _j _m _r _s:DV):Option DA:=za (znx .eql a h) fun b=>some (S1 b)
theorem p78(O:Orc)(a b c d f h j m r s:DV):wM prog O yA (inl prog O yA zxz redI 6) an0 78 [SA [a,b,c,d,f],S1 (.fp [h,j,m,r,s] 0)]=P78 O a b c d f h j m r s:=by kernel_rfl
def zxy:Nat→List PA→Nat→Nat→Option LA:=fun h _ n i=>match h,n,i with|28,0,999=>some ⟨[],[],[],[],[],[],[],[],[]⟩  |_,_,_=>none
def P89(O:Orc)(a b:DV):Option DA:=za (zc .leq b (I6 0)) fun c=>ifB c (some (S1 (I6 2))) (za (zc .gtr b (I6 1000000)) fun d=>ifB d (some (S1 (I6 2))) (za (zc .lss a (I6 (-1000000))) fun e=>ifB e (some (S1 (I6 2))) (za (zc .gtr a (I6 1000000)) fun f=>ifB f (some (S1 (I6 2))) (b1 (O 114 [S1 a]) fun g=>za (xx .u64 b) fun h=>b1 (O 113 [S1 g,S1 h]) fun j=>za (zc .neq j (U64 1)) fun k=>ifB k (some (S1 (I6 2))) (some (S1 (I6 0)))))))
theorem p89(O:Orc)(a b:DV):wM prog O yA (inl prog O yA zxy redI 6) an0 89 [SA [a,b]]=P89 O a b:=by kernel_rfl
def zxx:Nat→List PA→Nat→Nat→Option LA:=fun h _ n i=>match h,n,i with|28,0,999=>some ⟨[],[],[],[],[],[],[],[],[]⟩  |_,_,_=>none
def P90(O:Orc)(a b:DV):Option DA:=b1 (O 115 [S1 a,S1 b]) fun c=>za (zc .geq c (I6 0)) fun d=>some (S1 d)
theorem p90(O:Orc)(a0 a1:DV):wM prog O yA (inl prog O yA zxx redI 6) an0 90 [S1 a0,S1 a1]=P90 O a0 a1:=by kernel_rfl
def zxw:Nat→List PA→Nat→Nat→Option LA:=fun h _ n i=>match h,n,i with|28,0,999=>some ⟨[],[],[],[],[],[],[],[],[]⟩  |_,_,_=>none
def P91(_O:Orc)(a:DV):Option DA:=za (zc .lss a (I6 0)) fun b=>ifB b (some (S1 (.bool true))) (za (zc .gtr a (I6 1000000)) fun c=>some (S1 c))
theorem p91(O:Orc)(a0:DV):wM prog O yA (inl prog O yA zxw redI 6) an0 91 [S1 a0]=P91 O a0:=by kernel_rfl
def zBE:Nat→Option LA:=fun i=>match i with|0=>some ⟨[.slot 13],[],[],[],[],[],[.slot 2],[],[]⟩|_=>none
def zxv:Nat→List PA→Nat→Nat→Option LA:=fun h _ n i=>match h,n,i with|28,0,999=>some ⟨[],[],[],[],[],[],[],[],[]⟩  |_,_,_=>none
def zpz(O:Orc)(e a:DV)(c:List DV)(_j:List OC):Option PX:=za (zc .lss (zf c 0) e) fun f=>ifB f (za (yW 6 a (zf c 0)) fun b=>b1 (O 51 [SA [atD b 0,atD b 1,atD b 2,atD b 3,atD b 4,atD b 5]]) fun d=>za (zc .neq d (I6 0)) fun g=>ifB g (some (.ret,[d],[])) (za (zc .add (zf c 0) (I6 1)) fun h=>some (.normal,[h],[]))) (some (.exit 0,[],[]))
def P92(O:Orc)(a b c:DV):Option DA:=za (zY a) fun e=>za (zc .gtr e (I6 60)) fun f=>ifB f (some (S1 (I6 4))) (za (zY a) fun g=>z6 (zA (zpz O g a) [I6 0] []) (fun h _d _j=>bif Nat.beq h 0 then (b1 (O 75 [SA [b,c]]) fun k=>some (S1 k)) else(none)) (fun d _j=>some (S1 (zf d 0))))
theorem p92(O:Orc)(a b c:DV):wM prog O yA (inl prog O yA zxv redI 6) zBE 92 [SA [a,b,c]]=P92 O a b c:=by kernel_rfl
def zBD:Nat→Option LA:=fun i=>match i with|0=>some ⟨[.slot 12],[],[],[],[],[],[.slot 4],[],[]⟩|_=>none
def zxu:Nat→List PA→Nat→Nat→Option LA:=fun h _ n i=>match h,n,i with|28,0,999=>some ⟨[],[],[],[],[],[],[],[],[]⟩  |_,_,_=>none
def zpy(O:Orc)(e d a:DV)(c:List DV)(_p:List OC):Option PX:=za (zc .lss (zf c 0) e) fun f=>ifB f (za (yW 2 d (zf c 0)) fun b=>za (zc .lss (atD b 0) (I6 0)) fun g=>ifB g (some (.ret,[I6 10],[])) (za (zY a) fun h=>za (zc .geq (atD b 0) h) fun j=>ifB j (some (.ret,[I6 10],[])) (za (zc .lss (atD b 1) (I6 (-127))) fun k=>ifB k (some (.ret,[I6 3],[])) (za (zc .gtr (atD b 1) (I6 127)) fun l=>ifB l (some (.ret,[I6 3],[])) (za (vY 2 d none (some (zf c 0))) fun m=>b1 (O 116 [S1 m,SA [atD b 0,atD b 1]]) fun n=>ifB n (some (.ret,[I6 9],[])) (za (zc .add (zf c 0) (I6 1)) fun o=>some (.normal,[o],[]))))))) (some (.exit 0,[],[]))
def P93(O:Orc)(a _b _c b:DV):Option DA:=za (zY b) fun d=>za (zc .gtr d (I6 8)) fun e=>ifB e (some (S1 (I6 4))) (za (zY b) fun f=>z6 (zA (zpy O f b a) [I6 0] []) (fun g _c _h=>bif Nat.beq g 0 then (some (S1 (I6 0))) else(none)) (fun c _h=>some (S1 (zf c 0))))
theorem p93(O:Orc)(a b c a1:DV):wM prog O yA (inl prog O yA zxu redI 6) zBD 93 [SA [a,b,c],S1 a1]=P93 O a b c a1:=by kernel_rfl
def zBC:Nat→Option LA:=fun i=>match i with|0=>some ⟨[.slot 8],[],[],[],[],[],[.slot 4],[],[]⟩|_=>none
def zxt:Nat→List PA→Nat→Nat→Option LA:=fun h _ n i=>match h,n,i with|28,0,999=>some ⟨[],[],[],[],[],[],[],[],[]⟩  |_,_,_=>none
def zpx(O:Orc)(c d e:DV)(b:List DV)(_j:List OC):Option PX:=za (zc .lss (zf b 0) c) fun f=>ifB f (za (yW 5 d (zf b 0)) fun a=>b1 (zhR O e [SA [atD a 0,atD a 1,atD a 2,atD a 3,atD a 4]]) fun g=>ifB g (some (.ret,[zf b 0],[])) (za (zc .add (zf b 0) (I6 1)) fun h=>some (.normal,[h],[]))) (some (.exit 0,[],[]))
def P94(O:Orc)(a c:DV):Option DA:=za (zY a) fun d=>z6 (zA (zpx O d a c) [I6 0] []) (fun e _b _f=>bif Nat.beq e 0 then (some (S1 (I6 (-1)))) else(none)) (fun b _f=>some (S1 (zf b 0)))
theorem p94(O:Orc)(a0 a1:DV):wM prog O yA (inl prog O yA zxt redI 6) zBC 94 [S1 a0,S1 a1]=P94 O a0 a1:=by kernel_rfl
def zyb:Nat→Option LA:=fun i=>match i with|0=>some ⟨[.slot 1,.slot 0],[],[],[],[.slot 0],[],[],[],[]⟩|_=>none
def zsA:Nat→List PA→Nat→Nat→Option LA:=fun h _ n i=>match h,n,i with|28,0,999=>some ⟨[],[],[],[],[],[],[],[],[]⟩  |_,_,_=>none
def zkZ(a:List DV)(_d:List OC):Option PX:=za (zc .gtr (zf a 0) (U64 0)) fun b=>ifB b (za (zc .rem (zf a 1) (zf a 0)) fun c=>some (.normal,[c,zf a 0],[])) (some (.exit 0,[zf a 1],[]))
def zAT(_O:Orc)(b c:DV):Option DA:=z6 (zA zkZ [c,b] []) (fun d a _e=>bif Nat.beq d 0 then (some (S1 (zf a 0))) else(none)) (fun _a _e=>none)
theorem zCa(O:Orc)(a0 a1:DV):wM prog O yA (inl prog O yA zsA redI 6) zyb 113 [S1 a0,S1 a1]=zAT O a0 a1:=by kernel_rfl
def zsz:Nat→List PA→Nat→Nat→Option LA:=fun h _ n i=>match h,n,i with|28,0,999=>some ⟨[],[],[],[],[],[],[],[],[]⟩  |_,_,_=>none
def zAS(_O:Orc)(a:DV):Option DA:=za (zc .lss a (I6 0)) fun b=>ifB b (za (xx .u64 a) fun c=>za (zv6 c) fun d=>some (S1 d)) (za (xx .u64 a) fun e=>some (S1 e))
theorem zB9(O:Orc)(a0:DV):wM prog O yA (inl prog O yA zsz redI 6) an0 114 [S1 a0]=zAS O a0:=by kernel_rfl
def zya:Nat→Option LA:=fun i=>match i with|0=>some ⟨[.slot 8],[],[],[],[],[],[.slot 4],[],[]⟩|_=>none
def zsy:Nat→List PA→Nat→Nat→Option LA:=fun h _ n i=>match h,n,i with|28,0,999=>some ⟨[],[],[],[],[],[],[],[],[]⟩  |_,_,_=>none
def zhK(O:Orc)(b c d:DV)(a:List DV)(_j:List OC):Option PX:=za (zc .lss (zf a 0) b) fun e=>ifB e (za (yW 1 c (zf a 0)) fun f=>b1 (zhR O d [S1 (atD f 0)]) fun g=>ifB g (some (.ret,[zf a 0],[])) (za (zc .add (zf a 0) (I6 1)) fun h=>some (.normal,[h],[]))) (some (.exit 0,[],[]))
def zAR(O:Orc)(a c:DV):Option DA:=za (zY a) fun d=>z6 (zA (zhK O d a c) [I6 0] []) (fun e _b _f=>bif Nat.beq e 0 then (some (S1 (I6 (-1)))) else(none)) (fun b _f=>some (S1 (zf b 0)))
theorem zB8(O:Orc)(a0 a1:DV):wM prog O yA (inl prog O yA zsy redI 6) zya 115 [S1 a0,S1 a1]=zAR O a0 a1:=by kernel_rfl
def zsx:Nat→List PA→Nat→Nat→Option LA:=fun h _ n i=>match h,n,i with|28,0,999=>some ⟨[],[],[],[],[],[],[],[],[]⟩  |_,_,_=>none
def zAQ(O:Orc)(c a b:DV):Option DA:=b1 (O 136 [S1 c,SA [a,b]]) fun d=>za (zc .geq d (I6 0)) fun e=>some (S1 e)
theorem zB7(O:Orc)(a0 a b:DV):wM prog O yA (inl prog O yA zsx redI 6) an0 116 [S1 a0,SA [a,b]]=zAQ O a0 a b:=by kernel_rfl
def zx8:Nat→Option LA:=fun i=>match i with|0=>some ⟨[.slot 8],[],[],[],[],[],[.slot 4],[],[]⟩|_=>none
def zsw:Nat→List PA→Nat→Nat→Option LA:=fun h _ n i=>match h,n,i with|28,0,999=>some ⟨[],[],[],[],[],[],[],[],[]⟩  |_,_,_=>none
def zhH(e f a b:DV)(c:List DV)(_k:List OC):Option PX:=za (zc .lss (zf c 0) e) fun g=>ifB g (za (yW 2 f (zf c 0)) fun d=>za (zmq [1,1] [a,b] [atD d 0,atD d 1]) fun h=>ifB (.bool h) (some (.ret,[zf c 0],[])) (za (zc .add (zf c 0) (I6 1)) fun j=>some (.normal,[j],[]))) (some (.exit 0,[],[]))
def zAN(_O:Orc)(c a b:DV):Option DA:=za (zY c) fun e=>z6 (zA (zhH e c a b) [I6 0] []) (fun f _d _g=>bif Nat.beq f 0 then (some (S1 (I6 (-1)))) else(none)) (fun d _g=>some (S1 (zf d 0)))
theorem zB4(O:Orc)(a0 a b:DV):wM prog O yA (inl prog O yA zsw redI 6) zx8 136 [S1 a0,SA [a,b]]=zAN O a0 a b:=by kernel_rfl
def anT(g:Nat):Nat→Option LA:=match g with
 |3=>an3
 |6=>an6
 |7=>an7
 |8=>an8
 |10=>zBU
 |11=>zBT
 |12=>zBS
 |13=>zBR
 |18=>zBQ
 |25=>zBP
 |27=>zBO
 |37=>zBN
 |50=>zBM
 |53=>zBL
 |54=>zBK
 |57=>zBJ
 |58=>zBI
 |60=>zBH
 |70=>zBG
 |76=>zBF
 |92=>zBE
 |93=>zBD
 |94=>zBC
 |113=>zyb
 |115=>zya
 |136=>zx8
 |_=>an0
def zhS(g:Nat):Nat→List PA→Nat→Nat→Option LA:=match g with
 |3=>zBB
 |6=>zBA
 |7=>zBz
 |8=>zBy
 |9=>zBx
 |10=>zx7
 |11=>zx6
 |12=>zx5
 |13=>zx4
 |18=>zx3
 |25=>zx2
 |26=>zx1
 |27=>zx0
 |30=>zxZ
 |31=>zxY
 |35=>zxX
 |36=>zxW
 |37=>zxV
 |38=>zxU
 |47=>zxT
 |48=>zxS
 |49=>zxR
 |50=>zxQ
 |51=>zxP
 |53=>zxO
 |54=>zxN
 |55=>zxM
 |57=>zxL
 |58=>zxK
 |60=>zxJ
 |69=>zxI
 |70=>zxH
 |71=>zxG
 |72=>zxF
 |73=>zxE
 |74=>zxD
 |75=>zxC
 |76=>zxB
 |77=>zxA
 |78=>zxz
 |89=>zxy
 |90=>zxx
 |91=>zxw
 |92=>zxv
 |93=>zxu
 |94=>zxt
 |113=>zsA
 |114=>zsz
 |115=>zsy
 |116=>zsx
 |136=>zsw
 |_=>zAI
end Go.Proofs.Tryz.Kn
end
noncomputable section
namespace Go.Proofs.Tryz.Kc
open Go Go.CE Go.PE
abbrev prog:Program:=Tryz.prog
def yA:Nat→Bool:=fun g=>match g with|_=>false
abbrev redI:Red:=zwr
def an0:Nat→Option LA:=fun _=>none
def zAI:Nat→List PA→Nat→Nat→Option LA:=fun _ _ _ _=>none
abbrev pF(O:Orc)(an:Nat→Option LA)(g:Nat)(args:List DA):Option DA:=wM prog O yA (inl prog O yA zAI redI 1) an g args
def P98(O:Orc)(a b c d:DV):Option DA:=b1 (O 123 [S1 a,S1 c]) fun e=>b1 (O 123 [S1 b,S1 d]) fun f=>b1s (O 122 [S1 (.lst 1 [[e],[f]])]) fun g=>some (S1 g)
theorem p98(O:Orc)(a b c d:DV):pF O an0 98 [SA [a,b],SA [c,d]]=P98 O a b c d:=by kernel_rfl
def zAM(O:Orc)(a b c d:DV):Option DA:=b1 (O 123 [S1 a,S1 c]) fun e=>b1 (O 123 [S1 b,S1 d]) fun f=>b1s (O 122 [S1 (.lst 1 [[e],[f]])]) fun g=>some (S1 g)
theorem zB3(O:Orc)(a b c d:DV):pF O an0 139 [SA [a,b],SA [c,d]]=zAM O a b c d:=by kernel_rfl
def zx9:Nat→Option LA:=fun i=>match i with|0=>some ⟨[.slot 8],[],[],[],[],[],[.slot 2],[],[]⟩|_=>none
def zeL(c d:DV)(a:List DV)(_h:List OC):Option PX:=za (zc .lss (zf a 0) c) fun e=>ifB e (za (yW 1 d (zf a 0)) fun b=>za (zc .neq (atD b 0) (I6 0)) fun f=>ifB f (some (.ret,[atD b 0],[])) (za (zc .add (zf a 0) (I6 1)) fun g=>some (.normal,[g],[]))) (some (.exit 0,[],[]))
def zAP(_O:Orc)(a:DV):Option DA:=za (zY a) fun c=>z6 (zA (zeL c a) [I6 0] []) (fun d _b _e=>bif Nat.beq d 0 then (some (S1 (I6 0))) else(none)) (fun b _e=>some (S1 (zf b 0)))
theorem zB6(O:Orc)(a0:DV):pF O zx9 122 [S1 a0]=zAP O a0:=by kernel_rfl
def zAO(O:Orc)(a b:DV):Option DA:=b1 (O 150 [S1 a]) fun d=>b1 (O 150 [S1 b]) fun c=>ifB d (ifB c (some (S1 (I6 0))) (some (S1 (I6 (-1))))) (ifB c (some (S1 (I6 1))) (za (zc .lss a b) fun e=>ifB e (some (S1 (I6 (-1)))) (za (zc .gtr a b) fun f=>ifB f (some (S1 (I6 1))) (some (S1 (I6 0))))))
theorem zB5(O:Orc)(a0 a1:DV):pF O an0 123 [S1 a0,S1 a1]=zAO O a0 a1:=by kernel_rfl
def zAL(_O:Orc)(a:DV):Option DA:=za (zc .neq a a) fun b=>some (S1 b)
theorem zB2(O:Orc)(a0:DV):pF O an0 150 [S1 a0]=zAL O a0:=by kernel_rfl
def zAU(O:Orc)(a b c d:DV):Option DA:=b1 (O 123 [S1 a,S1 c]) fun e=>b1 (O 123 [S1 b,S1 d]) fun f=>b1s (O 122 [S1 (.lst 1 [[e],[f]])]) fun g=>some (S1 g)
theorem zCb(O:Orc)(a b c d:DV):pF O an0 102 [SA [a,b],SA [c,d]]=zAU O a b c d:=by kernel_rfl
def anT(g:Nat):Nat→Option LA:=match g with
 |122=>zx9
 |_=>an0
def zhS(g:Nat):Nat→List PA→Nat→Nat→Option LA:=match g with
 |_=>zAI
theorem d98{sums:List CE.Sum}{B:Orc}{k:Nat}(a b c d:DV)(hB:B 98 [SA [a,b],SA [c,d]]=none)(hs:sums.all (fun s=>!Nat.beq 98 s.g)=true):deep prog sums B anT yA zhS redI 1 (k+1) 98 [SA [a,b],SA [c,d]]=P98 (deep prog sums B anT yA zhS redI 1 k) a b c d:=(uk hB hs).trans (p98 _ _ _ _ _)
theorem d139{sums:List CE.Sum}{B:Orc}{k:Nat}(a b c d:DV)(hB:B 139 [SA [a,b],SA [c,d]]=none)(hs:sums.all (fun s=>!Nat.beq 139 s.g)=true):deep prog sums B anT yA zhS redI 1 (k+1) 139 [SA [a,b],SA [c,d]]=zAM (deep prog sums B anT yA zhS redI 1 k) a b c d:=(uk hB hs).trans (zB3 _ _ _ _ _)
theorem d122{sums:List CE.Sum}{B:Orc}{k:Nat}(a0:DV)(hB:B 122 [S1 a0]=none)(hs:sums.all (fun s=>!Nat.beq 122 s.g)=true):deep prog sums B anT yA zhS redI 1 (k+1) 122 [S1 a0]=zAP (deep prog sums B anT yA zhS redI 1 k) a0:=(uk hB hs).trans (zB6 _ _)
theorem d123{sums:List CE.Sum}{B:Orc}{k:Nat}(a0 a1:DV)(hB:B 123 [S1 a0,S1 a1]=none)(hs:sums.all (fun s=>!Nat.beq 123 s.g)=true):deep prog sums B anT yA zhS redI 1 (k+1) 123 [S1 a0,S1 a1]=zAO (deep prog sums B anT yA zhS redI 1 k) a0 a1:=(uk hB hs).trans (zB5 _ _ _)
theorem d150{sums:List CE.Sum}{B:Orc}{k:Nat}(a0:DV)(hB:B 150 [S1 a0]=none)(hs:sums.all (fun s=>!Nat.beq 150 s.g)=true):deep prog sums B anT yA zhS redI 1 (k+1) 150 [S1 a0]=zAL (deep prog sums B anT yA zhS redI 1 k) a0:=(uk hB hs).trans (zB2 _ _)
theorem d102{sums:List CE.Sum}{B:Orc}{k:Nat}(a b c d:DV)(hB:B 102 [SA [a,b],SA [c,d]]=none)(hs:sums.all (fun s=>!Nat.beq 102 s.g)=true):deep prog sums B anT yA zhS redI 1 (k+1) 102 [SA [a,b],SA [c,d]]=zAU (deep prog sums B anT yA zhS redI 1 k) a b c d:=(uk hB hs).trans (zCb _ _ _ _ _)
end Go.Proofs.Tryz.Kc
end
section
namespace Go.Proofs.Tryz.Kn
open Go Go.CE Go.PE
theorem zv2{sums:List CE.Sum}:zrL yA redI (fun n=>zN (zQ prog) (cFs (yP prog)) sums redI.s n):=by intro N g g' l l' vs e;cases e
end Go.Proofs.Tryz.Kn
end
section
namespace Go.Proofs.Tryz.Kn
open Go Go.Shelf
def layR:Go.Shelf.Ren:=⟨fun|6=>97|15=>121|14=>120|28=>148|29=>149|20=>140|21=>141|22=>142|23=>143|24=>144|25=>145|26=>146|27=>147|46=>168|47=>169|48=>170|49=>171|50=>172|57=>184|n=>n,fun|22=>117|24=>68|25=>182|3=>3|39=>113|0=>0|53=>240|55=>28|4=>4|46=>234|45=>233|50=>196|5=>5|9=>9|66=>253|70=>257|76=>271|77=>272|n=>n,fun|n=>n⟩
theorem layS:SlLaysF0.n6 Tryz.prog layR where
 mixed:=by kernel_rfl
 f6:=⟨Tryz.f97.name,by kernel_rfl,Tryz.func97.trans (congrArg some (by kernel_rfl))⟩
 f14:=⟨Tryz.f120.name,by kernel_rfl,Tryz.func120.trans (congrArg some (by kernel_rfl))⟩
 f15:=Tryz.func121.trans (congrArg some (by kernel_rfl))
 f20:=⟨Tryz.f140.name,by kernel_rfl,Tryz.func140.trans (congrArg some (by kernel_rfl))⟩
 f21:=⟨Tryz.f141.name,by kernel_rfl,Tryz.func141.trans (congrArg some (by kernel_rfl))⟩
 f22:=⟨Tryz.f142.name,by kernel_rfl,Tryz.func142.trans (congrArg some (by kernel_rfl))⟩
 f23:=⟨Tryz.f143.name,by kernel_rfl,Tryz.func143.trans (congrArg some (by kernel_rfl))⟩
 f24:=⟨Tryz.f144.name,by kernel_rfl,Tryz.func144.trans (congrArg some (by kernel_rfl))⟩
 f25:=⟨Tryz.f145.name,by kernel_rfl,Tryz.func145.trans (congrArg some (by kernel_rfl))⟩
 f26:=⟨Tryz.f146.name,by kernel_rfl,Tryz.func146.trans (congrArg some (by kernel_rfl))⟩
 f27:=⟨Tryz.f147.name,by kernel_rfl,Tryz.func147.trans (congrArg some (by kernel_rfl))⟩
 f28:=Tryz.func148.trans (congrArg some (by kernel_rfl))
 f29:=Tryz.func149.trans (congrArg some (by kernel_rfl))
 f46:=⟨Tryz.f168.name,by kernel_rfl,Tryz.func168.trans (congrArg some (by kernel_rfl))⟩
 f47:=Tryz.func169.trans (congrArg some (by kernel_rfl))
 f48:=Tryz.func170.trans (congrArg some (by kernel_rfl))
 f49:=⟨Tryz.f171.name,by kernel_rfl,Tryz.func171.trans (congrArg some (by kernel_rfl))⟩
 f50:=⟨Tryz.f172.name,by kernel_rfl,Tryz.func172.trans (congrArg some (by kernel_rfl))⟩
 f57:=⟨Tryz.f184.name,by kernel_rfl,Tryz.func184.trans (congrArg some (by kernel_rfl))⟩
 t0:=Tryz.underlying0
 a0:=Tryz.isAgg0
 z0:=Tryz.sizeOf0
 v0:=Tryz.zeroValue0
 t3:=Tryz.underlying3
 a3:=Tryz.isAgg3
 z3:=Tryz.sizeOf3
 v3:=Tryz.zeroValue3
 t4:=Tryz.underlying4
 a4:=Tryz.isAgg4
 z4:=Tryz.sizeOf4
 v4:=Tryz.zeroValue4
 t5:=Tryz.underlying5
 a5:=Tryz.isAgg5
 z5:=Tryz.sizeOf5
 v5:=Tryz.zeroValue5
 t9:=Tryz.underlying9
 a9:=Tryz.isAgg9
 z9:=Tryz.sizeOf9
 v9:=Tryz.zeroValue9
 t22:=Tryz.underlying117
 a22:=Tryz.isAgg117
 z22:=Tryz.sizeOf117
 v22:=Tryz.zeroValue117
 t25:=Tryz.underlying182
 a25:=Tryz.isAgg182
 z25:=Tryz.sizeOf182
 v25:=Tryz.zeroValue182
 t39:=Tryz.underlying113
 a39:=Tryz.isAgg113
 z39:=Tryz.sizeOf113
 v39:=Tryz.zeroValue113
 t45:=Tryz.underlying233
 a45:=Tryz.isAgg233
 z45:=Tryz.sizeOf233
 v45:=Tryz.zeroValue233
 t46:=Tryz.underlying234
 a46:=Tryz.isAgg234
 z46:=Tryz.sizeOf234
 v46:=Tryz.zeroValue234
 t50:=Tryz.underlying196
 a50:=Tryz.isAgg196
 z50:=Tryz.sizeOf196
 v50:=Tryz.zeroValue196
 t53:=Tryz.underlying240
 a53:=Tryz.isAgg240
 z53:=Tryz.sizeOf240
 v53:=Tryz.zeroValue240
 t55:=Tryz.underlying28
 a55:=Tryz.isAgg28
 z55:=Tryz.sizeOf28
 v55:=Tryz.zeroValue28
 t66:=Tryz.underlying253
 a66:=Tryz.isAgg253
 z66:=Tryz.sizeOf253
 v66:=Tryz.zeroValue253
 t70:=Tryz.underlying257
 a70:=Tryz.isAgg257
 z70:=Tryz.sizeOf257
 v70:=Tryz.zeroValue257
 t76:=Tryz.underlying271
 a76:=Tryz.isAgg271
 z76:=Tryz.sizeOf271
 v76:=Tryz.zeroValue271
 t77:=Tryz.underlying272
 a77:=Tryz.isAgg272
 z77:=Tryz.sizeOf272
 v77:=Tryz.zeroValue272
end Go.Proofs.Tryz.Kn
end
section
namespace Go.Proofs.Tryz.Kn
open Go Go.Shelf
def layR2:Go.Shelf.Ren:=⟨fun|6=>101|15=>121|14=>124|28=>148|29=>149|20=>151|21=>152|22=>153|23=>154|24=>155|25=>156|26=>157|27=>158|46=>173|47=>169|48=>170|49=>174|50=>175|57=>185|n=>n,fun|22=>144|24=>116|25=>187|3=>3|39=>113|0=>0|53=>240|55=>28|4=>4|46=>234|45=>233|50=>196|5=>5|9=>9|66=>253|70=>257|76=>271|77=>272|n=>n,fun|n=>n⟩
theorem layS2:SlLaysF0.n6 Tryz.prog layR2 where
 mixed:=by kernel_rfl
 f6:=⟨Tryz.f101.name,by kernel_rfl,Tryz.func101.trans (congrArg some (by kernel_rfl))⟩
 f14:=⟨Tryz.f124.name,by kernel_rfl,Tryz.func124.trans (congrArg some (by kernel_rfl))⟩
 f15:=Tryz.func121.trans (congrArg some (by kernel_rfl))
 f20:=⟨Tryz.f151.name,by kernel_rfl,Tryz.func151.trans (congrArg some (by kernel_rfl))⟩
 f21:=⟨Tryz.f152.name,by kernel_rfl,Tryz.func152.trans (congrArg some (by kernel_rfl))⟩
 f22:=⟨Tryz.f153.name,by kernel_rfl,Tryz.func153.trans (congrArg some (by kernel_rfl))⟩
 f23:=⟨Tryz.f154.name,by kernel_rfl,Tryz.func154.trans (congrArg some (by kernel_rfl))⟩
 f24:=⟨Tryz.f155.name,by kernel_rfl,Tryz.func155.trans (congrArg some (by kernel_rfl))⟩
 f25:=⟨Tryz.f156.name,by kernel_rfl,Tryz.func156.trans (congrArg some (by kernel_rfl))⟩
 f26:=⟨Tryz.f157.name,by kernel_rfl,Tryz.func157.trans (congrArg some (by kernel_rfl))⟩
 f27:=⟨Tryz.f158.name,by kernel_rfl,Tryz.func158.trans (congrArg some (by kernel_rfl))⟩
 f28:=Tryz.func148.trans (congrArg some (by kernel_rfl))
 f29:=Tryz.func149.trans (congrArg some (by kernel_rfl))
 f46:=⟨Tryz.f173.name,by kernel_rfl,Tryz.func173.trans (congrArg some (by kernel_rfl))⟩
 f47:=Tryz.func169.trans (congrArg some (by kernel_rfl))
 f48:=Tryz.func170.trans (congrArg some (by kernel_rfl))
 f49:=⟨Tryz.f174.name,by kernel_rfl,Tryz.func174.trans (congrArg some (by kernel_rfl))⟩
 f50:=⟨Tryz.f175.name,by kernel_rfl,Tryz.func175.trans (congrArg some (by kernel_rfl))⟩
 f57:=⟨Tryz.f185.name,by kernel_rfl,Tryz.func185.trans (congrArg some (by kernel_rfl))⟩
 t0:=Tryz.underlying0
 a0:=Tryz.isAgg0
 z0:=Tryz.sizeOf0
 v0:=Tryz.zeroValue0
 t3:=Tryz.underlying3
 a3:=Tryz.isAgg3
 z3:=Tryz.sizeOf3
 v3:=Tryz.zeroValue3
 t4:=Tryz.underlying4
 a4:=Tryz.isAgg4
 z4:=Tryz.sizeOf4
 v4:=Tryz.zeroValue4
 t5:=Tryz.underlying5
 a5:=Tryz.isAgg5
 z5:=Tryz.sizeOf5
 v5:=Tryz.zeroValue5
 t9:=Tryz.underlying9
 a9:=Tryz.isAgg9
 z9:=Tryz.sizeOf9
 v9:=Tryz.zeroValue9
 t22:=Tryz.underlying144
 a22:=Tryz.isAgg144
 z22:=Tryz.sizeOf144
 v22:=Tryz.zeroValue144
 t25:=Tryz.underlying187
 a25:=Tryz.isAgg187
 z25:=Tryz.sizeOf187
 v25:=Tryz.zeroValue187
 t39:=Tryz.underlying113
 a39:=Tryz.isAgg113
 z39:=Tryz.sizeOf113
 v39:=Tryz.zeroValue113
 t45:=Tryz.underlying233
 a45:=Tryz.isAgg233
 z45:=Tryz.sizeOf233
 v45:=Tryz.zeroValue233
 t46:=Tryz.underlying234
 a46:=Tryz.isAgg234
 z46:=Tryz.sizeOf234
 v46:=Tryz.zeroValue234
 t50:=Tryz.underlying196
 a50:=Tryz.isAgg196
 z50:=Tryz.sizeOf196
 v50:=Tryz.zeroValue196
 t53:=Tryz.underlying240
 a53:=Tryz.isAgg240
 z53:=Tryz.sizeOf240
 v53:=Tryz.zeroValue240
 t55:=Tryz.underlying28
 a55:=Tryz.isAgg28
 z55:=Tryz.sizeOf28
 v55:=Tryz.zeroValue28
 t66:=Tryz.underlying253
 a66:=Tryz.isAgg253
 z66:=Tryz.sizeOf253
 v66:=Tryz.zeroValue253
 t70:=Tryz.underlying257
 a70:=Tryz.isAgg257
 z70:=Tryz.sizeOf257
 v70:=Tryz.zeroValue257
 t76:=Tryz.underlying271
 a76:=Tryz.isAgg271
 z76:=Tryz.sizeOf271
 v76:=Tryz.zeroValue271
 t77:=Tryz.underlying272
 a77:=Tryz.isAgg272
 z77:=Tryz.sizeOf272
 v77:=Tryz.zeroValue272
end Go.Proofs.Tryz.Kn
end
noncomputable section
namespace Go.Proofs.Tryz.Kc
open Go Go.CE Go.PE
def D0(k:Nat):Orc:=deep prog [] (fun _ _=>none) anT yA zhS redI 1 k
theorem zA4(k:Nat):jR (D0 k) (fun n=>zN (zQ prog) (cFs (yP prog)) [] redI.s n):=zf4 zqS (fun g hg=>by cases hg) (fun g hg=>by cases hg) (fun g args res e=>by cases e) k
theorem zA6(k:Nat)(a:Int):D0 (k+1) 150 [S1 (I6 a)]=some (S1 (Bo false)):=by refine (d150 _ rfl rfl).trans ?_;simp_all[zAL]
def zmr(a b:Int):Int:=if a<b then -1 else if b<a then 1 else 0
theorem zu9(k:Nat)(a b:Int):D0 (k+2) 123 [S1 (I6 a),S1 (I6 b)]=some (S1 (I6 (zmr a b))):=by
 refine (d123 _ _ rfl rfl).trans ?_;have h1:=zA6 k a;have h2:=zA6 k b;unfold D0 at h1 h2;unfold zAO zmr;simp only[h1,h2,zX,zn,Yzh,if_false,zj,zb,yE,YzD]
 grind
theorem zzn(k:Nat)(p q:Int):D0 (k+1) 122 [S1 (.lst 1 [[I6 p],[I6 q]])]=some (S1 (I6 (if p=0 then q else p))):=by
 refine (d122 _ rfl rfl).trans ?_;unfold zAP;have i0:yW 1 (.lst 1 [[I6 p],[I6 q]]) (I6 0)=some [I6 p]:=rfl;have i1:yW 1 (.lst 1 [[I6 p],[I6 q]]) (I6 1)=some [I6 q]:=rfl;have l0:zY (.lst 1 [[I6 p],[I6 q]])=some (I6 2):=rfl;have a0:zc .add (I6 0) (I6 1)=some (I6 1):=rfl;have a1:zc .add (I6 1) (I6 1)=some (I6 2):=rfl;have b0:zeL (I6 2) (.lst 1 [[I6 p],[I6 q]]) [I6 0] []=some (if p=0 then(.normal,[I6 1],[]) else(.ret,[I6 p],[])):=by grind[zeL,zz,zj,zb,zn,xE,zU]
 have b1':zeL (I6 2) (.lst 1 [[I6 p],[I6 q]]) [I6 1] []=some (if q=0 then(.normal,[I6 2],[]) else(.ret,[I6 q],[])):=by grind[zeL,zz,zj,zb,zn,xE,zU]
 have b2:zeL (I6 2) (.lst 1 [[I6 p],[I6 q]]) [I6 2] []=some (.exit 0,[],[]):=by rfl
 simp only[l0,zb];by_cases h:p=0
 ·rw[Yzd h]at b0 ⊢;rw[zH b0];by_cases h2:q=0
  ·rw[Yzd h2]at b1';rw[zH b1',zu b2,h2];rfl
  ·rw[Yzb h2]at b1';rw[zB b1'];rfl
 ·rw[Yzb h]at b0 ⊢;rw[zB b0];rfl
theorem zi1(a b c d:Int):(if zmr a c=0 then zmr b d else zmr a c)=zpU [a,b] [c,d]:=by grind[zmr,zpU,ltZ]
theorem u98(k:Nat)(a b c d:Int):D0 (k+3) 98 [SA [I6 a,I6 b],SA [I6 c,I6 d]]=some (S1 (I6 (zpU [a,b] [c,d]))):=by refine (d98 _ _ _ _ rfl rfl).trans ?_;have h1:=zu9 k a c;have h2:=zu9 k b d;have h3:=zzn (k+1) (zmr a c) (zmr b d);simp_all[D0,P98,zps,zi1]
theorem zBX(k:Nat)(a b c d:Int):D0 (k+3) 139 [SA [I6 a,I6 b],SA [I6 c,I6 d]]=some (S1 (I6 (zpU [a,b] [c,d]))):=by refine (d139 _ _ _ _ rfl rfl).trans ?_;have h1:=zu9 k a c;have h2:=zu9 k b d;have h3:=zzn (k+1) (zmr a c) (zmr b d);simp_all[D0,zAM,zps,zi1]
theorem zBY(k:Nat)(a b c d:Int):D0 (k+3) 102 [SA [I6 a,I6 b],SA [I6 c,I6 d]]=some (S1 (I6 (zpU [a,b] [c,d]))):=by refine (d102 _ _ _ _ rfl rfl).trans ?_;have h1:=zu9 k a c;have h2:=zu9 k b d;have h3:=zzn (k+1) (zmr a c) (zmr b d);simp_all[D0,zAU,zps,zi1]
theorem zi2(k:Nat):Cmp k zpU:=fun x y _ _=>by grind[zpU]
theorem zrE{fz:BN→Prop}{h:Za}{v:Zb}{a:Int}(hv:RepA fz h v (S1 (I6 a))):v=.s (.one (.int .i64 a)):=by
 obtain⟨v',hv',h1⟩:=RepA.inv hv;subst hv';cases v' with
 |agg l=>trivial
 |one c=>rw[Rep.scal h1 rfl]
theorem zo7{f:Nat}{a b c d r:Int}(e:D0 3 f [SA [I6 a,I6 b],SA [I6 c,I6 d]]=some (S1 (I6 r))):∃call h2,yU prog call∧call (.inl f) [.s (.agg ([a,b].map (Zc.int .i64))),.s (.agg ([c,d].map (Zc.int .i64)))] ⟨.z,.nil⟩=some (.s (.one (.int .i64 r)),h2):=by
 have hnil:∀b,(Tr.nil:Tr Zf).get b=none:=by simp
 obtain⟨⟨v,h2⟩,⟨_,_,hv⟩,N,hN⟩:=zA4 3 f _ _ e (fun _=>False) ⟨.z,.nil⟩ [.s (.agg ([a,b].map (Zc.int .i64))),.s (.agg ([c,d].map (Zc.int .i64)))] (fun b o hb=>by grind) (fun b hb=>hb.elim) ⟨zch _ _ [a,b],zch _ _ [c,d],trivial⟩;refine⟨_,h2,zgb (sums:=[]) (ze9 prog) (fun s hs=>by cases hs) (zqR (P:=prog)) N,?_⟩;refine (hN N (LzB _)).trans ?_
 grind[zrE]
theorem zvc{x:List Int}(h:zhB 2 x):∃a b,x=[a,b]∧-2305843009213693952≤a∧a≤2305843009213693952∧-2305843009213693952≤b∧b≤2305843009213693952:=by
 match x,h.1 with
 | [a,b],_=>
  have:=h.2;unfold inZ at this
  grind
theorem zrC(f:Nat)(hf:f∈[98,139]):∃cf,Cmp 2 cf∧∀x y:List Int,zhB 2 x→zhB 2 y→∃call h2,yU prog call∧call (.inl f) [.s (.agg (x.map (Zc.int .i64))),.s (.agg (y.map (Zc.int .i64)))] ⟨.z,.nil⟩=some (.s (.one (.int .i64 (cf x y))),h2):=by
 simp only[Yzw,Yzt,or_false]at hf;rcases hf with rfl|rfl
 ·refine⟨zpU,zi2 2,fun x y hx hy=>?_⟩;obtain⟨a,b,rfl,_⟩:=zvc hx;obtain⟨c,d,rfl,_⟩:=zvc hy;exact zo7 (u98 0 a b c d)
 ·refine⟨zpU,zi2 2,fun x y hx hy=>?_⟩;obtain⟨a,b,rfl,_⟩:=zvc hx;obtain⟨c,d,rfl,_⟩:=zvc hy;exact zo7 (zBX 0 a b c d)
theorem zo8(f:Nat)(hf:f∈[102]):∃cf,Cmp 2 cf∧∀x y:List Int,zhB 2 x→zhB 2 y→∃call h2,yU prog call∧call (.inl f) [.s (.agg (x.map (Zc.int .i64))),.s (.agg (y.map (Zc.int .i64)))] ⟨.z,.nil⟩=some (.s (.one (.int .i64 (cf x y))),h2):=by simp only[Yzw,Yzt,or_false]at hf;subst hf;refine⟨zpU,zi2 2,fun x y hx hy=>?_⟩;obtain⟨a,b,rfl,_⟩:=zvc hx;obtain⟨c,d,rfl,_⟩:=zvc hy;exact zo7 (zBY 0 a b c d)
def zul:Res→Bool
 |some (.tup [],_)=>true
 |_=>false
theorem zoD{r:Res}(h:zul r=true):∃h2,r=some (.tup [],h2):=by
 unfold zul at h
 grind
def zCe(g f:Nat):Res:=zfV (zQ prog) (cFs (yP prog)) [] 100000 (.inl g) [.s (.one .nils),.s (.one (.fn f []))] ⟨.z,.nil⟩
theorem znZ{g f:Nat}(h:zul (zCe g f)=true):∃call h2,yU prog call∧call (.inl g) [.s (.one .nils),.s (.one (.fn f []))] ⟨.z,.nil⟩=some (.tup [],h2):=by obtain⟨h2,e⟩:=zoD h;exact⟨_,h2,zgc (sums:=[]) (ze9 prog) (fun s hs=>by cases hs) 100000,e⟩
theorem zqU(f:Nat)(hf:f∈[98,139]):∃call h2,yU prog call∧call (.inl 97) [.s (.one .nils),.s (.one (.fn f []))] ⟨.z,.nil⟩=some (.tup [],h2):=by
 simp only[Yzw,Yzt,or_false]at hf;rcases hf with rfl|rfl
 ·exact znZ (by kernel_rfl)
 ·exact znZ (by kernel_rfl)
theorem zn0(f:Nat)(hf:f∈[102]):∃call h2,yU prog call∧call (.inl 101) [.s (.one .nils),.s (.one (.fn f []))] ⟨.z,.nil⟩=some (.tup [],h2):=by simp only[Yzw,Yzt,or_false]at hf;subst hf;exact znZ (by kernel_rfl)
def zA8:Srt:=⟨[98,139],2⟩
def zBa:Srt:=⟨[102],2⟩
theorem srtP_ok:zhA prog 97 zA8:=zrZ (ρ:=Kn.layR) (t:=zA8) Kn.layS (fun w=>by kernel_rfl) (fun w=>by kernel_rfl) zrC zqU
theorem srtC_ok:zhA prog 101 zBa:=zrZ (ρ:=Kn.layR2) (t:=zBa) Kn.layS2 (fun w=>by kernel_rfl) (fun w=>by kernel_rfl) zo8 zn0
end Go.Proofs.Tryz.Kc
end
noncomputable section
namespace Go.Proofs.Tryz.Kn
open Go Go.CE Go.PE
def zuj:List CE.Sum:=[kSum31]
theorem zrh:∀s∈zuj,za4 Tryz.prog s:=by
 intro s hs;simp only[zuj,Yzw,Yzt,or_false]at hs;rcases hs with rfl
 ·exact zoz
def bSums:List CE.Sum:=zuj++shSums
theorem zrG:∀s∈bSums,za4 Tryz.prog s:=zrD zrh zm2
def bIds:List Nat:=[5,85,86,87,88]
theorem zpr:bSums.all (fun s=>bIds.any (Nat.beq s.g))=true:=by kernel_rfl
theorem zdL{g:Nat}(h:bIds.any (Nat.beq g)=false):∀s∈bSums,Nat.beq g s.g=false:=by
 intro s hs;have h1:=YzL.1 zpr s hs;cases hb:Nat.beq g s.g with
 |false=>rfl
 |true=>rw[←Lz1 hb,h]at h1;cases h1
theorem zmi{g:Nat}(h:bIds.any (Nat.beq g)=false):bSums.all (fun s=>!Nat.beq g s.g)=true:=
 YzL.2 fun s hs=>by rw[zdL h s hs];rfl
def B:Orc:=zva bIds bSums
theorem zyJ{g:Nat}(h:bIds.any (Nat.beq g)=false)(args:List DA):B g args=none:=by unfold B zva;rw[h];rfl
theorem zwS{g:Nat}(h:([85,86,87,88]:List Nat).any (Nat.beq g)=true):bIds.any (Nat.beq g)=true:=by obtain⟨n,hn,e⟩:=List.any_eq_true.1 h;refine List.any_eq_true.2 ⟨n,?_,e⟩;simp only[bIds,Yzw,Yzt,or_false]at hn ⊢;omega
theorem zC2{g:Nat}(h:([85,86,87,88]:List Nat).any (Nat.beq g)=true)(args:List DA):B g args=zva bIds bSums g args:=by rfl
def D(k:Nat):Orc:=deep prog bSums B anT yA zhS redI 6 k
theorem dF{k g:Nat}{args:List DA}{x:Option DA}(h:bIds.any (Nat.beq g)=false)(hr:(redI.s g).isNone=true)(e:wM prog (D k) yA (inl prog (D k) yA (zhS g) redI 6) (anT g) g args=x):D (k+1) g args=x:=(uk (zyJ h _) (zmi h) hr).trans e
theorem zqe:∀g,yA g=true→∀s∈bSums,Nat.beq g s.g=false:=by
 intro g hg;refine zdL ?_;unfold yA at hg;split at hg
 ·rfl
 ·rfl
 ·rfl
 ·rfl
 ·rfl
 ·rfl
 ·rfl
 ·rfl
 ·rfl
 ·rfl
 ·rfl
 ·rfl
 ·rfl
 ·rfl
 ·rfl
 ·rfl
 ·rfl
 ·rfl
 ·cases hg
theorem zsX:∀g,yA g=true→Nat.ble zhQ g=false:=by
 intro g hg;unfold yA at hg;split at hg
 ·rfl
 ·rfl
 ·rfl
 ·rfl
 ·rfl
 ·rfl
 ·rfl
 ·rfl
 ·rfl
 ·rfl
 ·rfl
 ·rfl
 ·rfl
 ·rfl
 ·rfl
 ·rfl
 ·rfl
 ·rfl
 ·cases hg
theorem zCW(k:Nat):jR (D k) (fun n=>zN (zQ prog) (cFs (yP prog)) bSums redI.s n):=zf4 zv2 zqe zsX (zsZ (by kernel_rfl)) k
theorem zs1:∀g t,redI.s g=some t→zhA prog g t:=by
 intro g t e;unfold redI at e;simp only at e;split at e
 ·cases e;exact Kc.srtP_ok
 ·cases e;exact Kc.srtC_ok
 ·cases e
theorem D5(k:Nat):D k 5 []=some (S1 (.bool true)):=zhk (by kernel_rfl)
theorem D3(k:Nat)(a b c d f h j m r s:DV):D (k+1) 3 [SA [a,b,c],SA [d,f,h,j,m,r,s]]=P3 (D k) a b c d f h j m r s:=dF rfl rfl (p3 ..)
theorem D6(k:Nat)(a b c:DV):D (k+1) 6 [SA [a,b,c]]=P6 (D k) a b c:=dF rfl rfl (p6 ..)
theorem D7(k:Nat)(a b c:DV):D (k+1) 7 [SA [a,b,c]]=P7 (D k) a b c:=dF rfl rfl (p7 ..)
theorem D8(k:Nat)(a b c d f h j m r s w:DV):D (k+1) 8 [SA [a,b,c,d],SA [f,h,j,m,r,s,w]]=P8 (D k) a b c d f h j m r s w:=dF rfl rfl (p8 ..)
theorem D9(k:Nat)(a b c d f h j m r s w:DV):D (k+1) 9 [SA [a,b,c,d],SA [f,h,j,m,r,s,w]]=P9 (D k) a b c d f h j m r s w:=dF rfl rfl (p9 ..)
theorem D10(k:Nat)(a b c d f h j:DV):D (k+1) 10 [SA [a,b,c,d],SA [f,h,j]]=P10 (D k) a b c d f h j:=dF rfl rfl (p10 ..)
theorem D11(k:Nat)(a b c d f h:DV):D (k+1) 11 [SA [a,b,c],SA [d,f,h]]=P11 (D k) a b c d f h:=dF rfl rfl (p11 ..)
theorem D12(k:Nat)(a b c d f h j m r s w:DV):D (k+1) 12 [SA [a,b,c,d],SA [f,h,j,m,r,s,w]]=P12 (D k) a b c d f h j m r s w:=dF rfl rfl (p12 ..)
theorem D13(k:Nat)(a b c d f h:DV):D (k+1) 13 [SA [a,b,c],SA [d,f,h]]=P13 (D k) a b c d f h:=dF rfl rfl (p13 ..)
theorem D18(k:Nat)(a b c d f h:DV):D (k+1) 18 [SA [a,b,c],SA [d,f,h]]=P18 (D k) a b c d f h:=dF rfl rfl (p18 ..)
theorem D25(k:Nat)(a b c d f h j m r a1:DV):D (k+1) 25 [SA [a,b,c,d,f,h,j,m,r],S1 a1]=P25 (D k) a b c d f h j m r a1:=dF rfl rfl (p25 ..)
theorem D26(k:Nat)(a0 a b c d f h a3:DV):D (k+1) 26 [S1 a0,SA [a,b],SA [c,d,f,h],S1 a3]=P26 (D k) a0 a b c d f h a3:=dF rfl rfl (p26 ..)
theorem D27(k:Nat)(a b c d:DV):D (k+1) 27 [SA [a,b,c,d]]=P27 (D k) a b c d:=dF rfl rfl (p27 ..)
theorem D30(k:Nat)(a b c d:DV):D (k+1) 30 [SA [a,b,c],S1 (.fp [d] 0)]=P30 (D k) a b c d:=dF rfl rfl (p30 ..)
theorem D31(k:Nat)(a0 a b c:DV):D (k+1) 31 [S1 a0,SA [a,b,c]]=P31 (D k) a0 a b c:=dF rfl rfl (p31 ..)
theorem D35(k:Nat)(a b c a1:DV):D (k+1) 35 [SA [a,b,c],S1 a1]=P35 (D k) a b c a1:=dF rfl rfl (p35 ..)
theorem D36(k:Nat)(a b c d f h:DV):D (k+1) 36 [SA [a,b,c],SA [d,f,h]]=P36 (D k) a b c d f h:=dF rfl rfl (p36 ..)
theorem D37(k:Nat)(a b c:DV):D (k+1) 37 [SA [a,b,c]]=P37 (D k) a b c:=dF rfl rfl (p37 ..)
theorem D38(k:Nat)(a b c a1:DV):D (k+1) 38 [SA [a,b,c],S1 a1]=P38 (D k) a b c a1:=dF rfl rfl (p38 ..)
theorem D47(k:Nat)(a0:DV):D (k+1) 47 [S1 a0]=P47 (D k) a0:=dF rfl rfl (p47 ..)
theorem D48(k:Nat)(a0:DV):D (k+1) 48 [S1 a0]=P48 (D k) a0:=dF rfl rfl (p48 ..)
theorem D49(k:Nat)(a b c d:DV):D (k+1) 49 [SA [a,b],SA [c,d]]=P49 (D k) a b c d:=dF rfl rfl (p49 ..)
theorem D50(k:Nat)(a0:DV):D (k+1) 50 [S1 a0]=P50 (D k) a0:=dF rfl rfl (p50 ..)
theorem D51(k:Nat)(a b c d f h:DV):D (k+1) 51 [SA [a,b,c,d,f,h]]=P51 (D k) a b c d f h:=dF rfl rfl (p51 ..)
theorem D53(k:Nat)(a b c d f h j m r:DV):D (k+1) 53 [SA [a,b,c,d],SA [f,h,j,m,r]]=P53 (D k) a b c d f h j m r:=dF rfl rfl (p53 ..)
theorem D54(k:Nat)(a0 a1:DV):D (k+1) 54 [S1 a0,S1 a1]=P54 (D k) a0 a1:=dF rfl rfl (p54 ..)
theorem D55(k:Nat)(a b c d f h j:DV):D (k+1) 55 [SA [a,b,c,d],SA [f,h,j]]=P55 (D k) a b c d f h j:=dF rfl rfl (p55 ..)
theorem D57(k:Nat)(a0 a1:DV):D (k+1) 57 [S1 a0,S1 a1]=P57 (D k) a0 a1:=dF rfl rfl (p57 ..)
theorem D58(k:Nat)(a0 a b c:DV):D (k+1) 58 [S1 a0,SA [a,b,c]]=P58 (D k) a0 a b c:=dF rfl rfl (p58 ..)
theorem D60(k:Nat)(a0:DV):D (k+1) 60 [S1 a0]=P60 (D k) a0:=dF rfl rfl (p60 ..)
theorem D69(k:Nat)(a b c d:DV):D (k+1) 69 [SA [a,b],SA [c,d]]=P69 (D k) a b c d:=dF rfl rfl (p69 ..)
theorem D70(k:Nat)(a b c d:DV):D (k+1) 70 [SA [a,b],SA [c,d]]=P70 (D k) a b c d:=dF rfl rfl (p70 ..)
theorem D71(k:Nat)(a0:DV):D (k+1) 71 [S1 a0]=P71 (D k) a0:=dF rfl rfl (p71 ..)
theorem D72(k:Nat)(a b:DV):D (k+1) 72 [SA [a,b]]=P72 (D k) a b:=dF rfl rfl (p72 ..)
theorem D73(k:Nat)(a0:DV):D (k+1) 73 [S1 a0]=P73 (D k) a0:=dF rfl rfl (p73 ..)
theorem D74(k:Nat)(a0:DV):D (k+1) 74 [S1 a0]=P74 (D k) a0:=dF rfl rfl (p74 ..)
theorem D75(k:Nat)(a b:DV):D (k+1) 75 [SA [a,b]]=P75 (D k) a b:=dF rfl rfl (p75 ..)
theorem D76(k:Nat)(a b c d f h j:DV):D (k+1) 76 [SA [a,b,c],SA [d,f,h,j]]=P76 (D k) a b c d f h j:=dF rfl rfl (p76 ..)
theorem D77(k:Nat)(a0 a1:DV):D (k+1) 77 [S1 a0,S1 a1]=P77 (D k) a0 a1:=dF rfl rfl (p77 ..)
theorem D78(k:Nat)(a b c d f h j m r s:DV):D (k+1) 78 [SA [a,b,c,d,f],S1 (.fp [h,j,m,r,s] 0)]=P78 (D k) a b c d f h j m r s:=dF rfl rfl (p78 ..)
theorem D89(k:Nat)(a b:DV):D (k+1) 89 [SA [a,b]]=P89 (D k) a b:=dF rfl rfl (p89 ..)
theorem D90(k:Nat)(a0 a1:DV):D (k+1) 90 [S1 a0,S1 a1]=P90 (D k) a0 a1:=dF rfl rfl (p90 ..)
theorem D91(k:Nat)(a0:DV):D (k+1) 91 [S1 a0]=P91 (D k) a0:=dF rfl rfl (p91 ..)
theorem D92(k:Nat)(a b c:DV):D (k+1) 92 [SA [a,b,c]]=P92 (D k) a b c:=dF rfl rfl (p92 ..)
theorem D93(k:Nat)(a b c a1:DV):D (k+1) 93 [SA [a,b,c],S1 a1]=P93 (D k) a b c a1:=dF rfl rfl (p93 ..)
theorem D94(k:Nat)(a0 a1:DV):D (k+1) 94 [S1 a0,S1 a1]=P94 (D k) a0 a1:=dF rfl rfl (p94 ..)
theorem zC1(k:Nat)(a0 a1:DV):D (k+1) 113 [S1 a0,S1 a1]=zAT (D k) a0 a1:=dF rfl rfl (zCa ..)
theorem zC0(k:Nat)(a0:DV):D (k+1) 114 [S1 a0]=zAS (D k) a0:=dF rfl rfl (zB9 ..)
theorem zCZ(k:Nat)(a0 a1:DV):D (k+1) 115 [S1 a0,S1 a1]=zAR (D k) a0 a1:=dF rfl rfl (zB8 ..)
theorem zCY(k:Nat)(a0 a b:DV):D (k+1) 116 [S1 a0,SA [a,b]]=zAQ (D k) a0 a b:=dF rfl rfl (zB7 ..)
theorem zCX(k:Nat)(a0 a b:DV):D (k+1) 136 [S1 a0,SA [a,b]]=zAN (D k) a0 a b:=dF rfl rfl (zB4 ..)
end Go.Proofs.Tryz.Kn
end
section
namespace Go.Proofs.Tryz.Kn
open Go Go.CE Go.PE
theorem zkP:∀(l:List UInt8) (i:Nat),zja l i=(l[i]?).map fun c=>U8 (c.toNat:Int)
 | [],i=>by simp[zja]
 |c::l,0=>rfl
 |c::l,i+1=>by show zja l i=_;rw[zkP l i];simp
theorem zgN(s:ByteArray)(k:IntKind)(i:Nat):zbJ (.str s) (.int k (i:Int))=(s.data.toList[i]?).map fun c=>U8 (c.toNat:Int):=zkP _ _
theorem zeX(s:ByteArray):s.size=s.data.toList.length:=(Array.length_toList (xs:=s.data)).symm
theorem zqA(a b:ByteArray):znx .eql (.str a) (.str b)=some (.bool (a.data.toList==b.data.toList)):=rfl
def zdb(n:Int):Bool:=(decide (65≤n)&&decide (n≤90))||(decide (97≤n)&&decide (n≤122))
theorem t71(k:Nat)(n:Int):D (k+1) 71 [S1 (U8 n)]=some (S1 (Bo (zdb n))):=by rw[D71];unfold P71 zdb;by_cases h1:65≤n<;>by_cases h2:n≤90<;>by_cases h3:97≤n<;>by_cases h4:n≤122<;>simp[h1,h2,h3,h4]
def zmf(n:Int):Bool:=zdb n||(decide (48≤n)&&decide (n≤57))||decide (n=95)
def isName(s:ByteArray):Bool:=
 match s.data.toList with
 | []=>false
 |c::l=>decide (l.length≤31)&&zdb (c.toNat:Int)&&l.all fun c=>zmf (c.toNat:Int)
theorem l50(k:Nat)(s:ByteArray)(hs:s.data.toList.length≤1000):∀(r:List UInt8) (i:Nat),s.data.toList.drop i=r→
  zA (zpJ (D (k+1)) (.str s)) [I6 (i:Int)] []=some (if r.all (fun c=>zmf (c.toNat:Int)) then(.exit 0,[],[]) else(.ret,[Bo false],[])):=by
 intro r
 induction r with
 |nil=>grind[zu,ya,zpJ,zz,zcQ,zb,zj,zeX,xY,zn]
 |cons c r ih=>
  intro i h;have h1:=yH h;have h2:(i:Int)<(s.data.toList.length:Int):=by omega
  have ea:zc .add (I6 (i:Int)) (I6 1)=some (I6 ((i+1:Nat):Int)):=yQ;have ix:zbJ (.str s) (I6 (i:Int))=some (U8 (c.toNat:Int)):=by rw[zgN,xa h];rfl
  have body:zpJ (D (k+1)) (.str s) [I6 (i:Int)] []=some (if zmf (c.toNat:Int) then(.normal,[I6 ((i+1:Nat):Int)],[]) else(.ret,[Bo false],[])):=by
   simp only[zpJ,zz,zcQ,zb,zj,zn,zeX,jX h1,if_true,ix,t71,zX,yY,ea,zU,yE]
   grind[zmf]
  cases hc:zmf (c.toNat:Int) with
  |true=>rw[hc]at body;rw[zH body,ih (i+1) (zP h)];simp[hc]
  |false=>grind[zB]
theorem t50(k:Nat)(s:ByteArray):D (k+2) 50 [S1 (St s)]=some (S1 (Bo (isName s))):=by
 rw[D50];unfold P50 isName;simp only[zqA,zb,zn,zcQ,yE,zeX];cases hl:s.data.toList with
 |nil=>rfl
 |cons c l=>
  have ix:zbJ (.str s) (I6 0)=some (U8 (c.toNat:Int)):=by grind[zgN]
  simp only[ix,zb,t71,zX,yY,zn];rw[show ((c::l:List UInt8)==(ByteArray.mk #[]).data.toList)=false from rfl];by_cases h1:l.length≤31
  ·have h2:¬(32<((c::l).length:Int)):=by grind
   simp only[h2,h1,decide_true,decide_false,Yye,Yzh,if_false];cases zdb (c.toNat:Int) with
   |false=>rfl
   |true=>have:=l50 k s (by grind) l 1 (by grind);simp only[Yyf,Yzh,if_false,Yye];rw[show (I6 1:DV)=I6 ((1:Nat):Int) from rfl,this];cases l.all fun c=>zmf (c.toNat:Int)<;>rfl
  ·grind
def right(a b:Int):Int:=if a<0 then 3 else if 127<b then 3 else if b<a then 23 else 0
theorem t75(k:Nat)(a b:Int):D (k+1) 75 [SA [I6 a,I6 b]]=some (S1 (I6 (right a b))):=by rw[D75];unfold P75 right;by_cases h1:a<0<;>by_cases h2:127<b<;>by_cases h3:b<a<;>simp[h1,h2,h3]
theorem zCn(_O:Orc):∀(b a:Nat),zA (zkZ) [U64 (b:Int),U64 (a:Int)] []=some (.exit 0,[U64 ((Nat.gcd b a:Nat):Int)],[]):=by
 intro b
 induction b using Nat.strongRecOn with
 |ind b ih=>
  intro a;by_cases hb:0<b
  ·have hz:(b:Int)≠0:=by omega
   have h0:(0:Int)<(b:Int):=by omega
   rw[zH (L':=[U64 ((a % b:Nat):Int),U64 (b:Int)]) (M':=[]) (by simp only[zkZ,zz,yF,yE,zb,zn,zcc _ _ _ hz,h0,decide_true,if_true];rfl),ih (a % b) (Yz6 _ hb) b,←Nat.gcd_rec]
  ·have:b=0:=by omega
   subst this;exact zu (by simp[zkZ])
theorem t113(k:Nat)(a b:Nat):D (k+1) 113 [S1 (U64 (a:Int)),S1 (U64 (b:Int))]=some (S1 (U64 ((Nat.gcd b a:Nat):Int))):=by rw[zC1];unfold zAT;rw[zCn B];rfl
theorem zxh{k:IntKind}{n:Nat}(h:n≤18446744073709551615):xx .u64 (.int k (n:Int))=some (U64 (n:Int)):=by
 show some (DV.int .u64 (bif Nat.ble n 18446744073709551615 then .ofNat n else IntKind.wrap .u64 (.ofNat n)))=_
 grind[Yzf]
theorem t114(k:Nat){a:Int}(h1:-1000000≤a)(h2:a≤1000000):D (k+1) 114 [S1 (I6 a)]=some (S1 (U64 (a.natAbs:Int))):=by
 rw[zC0];unfold zAS;by_cases h:a<0
 ·obtain⟨n,rfl⟩:∃n:Nat,a=-(n:Int):=⟨a.natAbs,by omega⟩;have e1:xx .u64 (I6 (-(n:Int)))=some (U64 (18446744073709551616-(n:Int))):=by
   show some (DV.int .u64 (wB .u64 (-(n:Int))))=_
   grind[zsJ]
  have e2:wB .u64 (-(18446744073709551616-(n:Int)))=(n:Int):=by grind[zsJ]
  simp_all
 ·obtain⟨n,rfl⟩:∃n:Nat,a=(n:Int):=⟨a.natAbs,by omega⟩;simp only[zj,zb,zn,h,decide_false,Yzh,if_false,zxh (show n≤18446744073709551615 by omega)];simp
def zdm(n d:Int):Int:=if d≤0 then 2 else if 1000000<d then 2 else if n < -1000000 then 2 else if 1000000<n then 2 else bif Nat.gcd d.toNat n.natAbs==1 then 0 else 2
theorem t89(k:Nat)(n d:Int):D (k+2) 89 [SA [I6 n,I6 d]]=some (S1 (I6 (zdm n d))):=by
 rw[D89];unfold P89 zdm;simp only[zcd,yE,zj,zb,zn,YzD];by_cases h1:d≤0
 ·grind
 by_cases h2:1000000<d
 ·grind
 by_cases h3:n < -1000000
 ·grind
 by_cases h4:1000000<n
 ·grind
 obtain⟨m,rfl⟩:∃m:Nat,d=(m:Int):=⟨d.toNat,by omega⟩;simp only[h1,h2,h3,h4,if_false];rw[t114 k (by omega) (by omega)];simp only[zX,zxh (show m≤18446744073709551615 by omega),zb,t113,zU,zn,YzE]
 grind
def jK(n d:Int):Int:=if zdm n d≠0 then 2 else if n≤0 then 3 else if 128*d<n then 3 else if 128<d then 4 else 0
theorem t72(k:Nat)(n d:Int):D (k+3) 72 [SA [I6 n,I6 d]]=some (S1 (I6 (jK n d))):=by
 rw[D72];unfold P72 jK;rw[t89];simp only[zX,zU,zb,zn];by_cases h:zdm n d=0
 ·have hd:0<d∧d≤1000000:=by
   grind[zdm]
  simp only[h,zcd,zb,zn,zio (show (-9223372036854775808:Int)≤128*d by omega) (show 128*d≤9223372036854775807 by omega),yE,YzD]
  grind
 ·simp[h]
theorem t73(k:Nat)(n:Int):D (k+1) 73 [S1 (I6 n)]=some (S1 (Bo (decide (-256≤n)&&decide (n≤256)))):=by rw[D73];unfold P73;by_cases h1:-256≤n<;>by_cases h2:n≤256<;>simp[h1,h2]
def wK(n:Int):Bool:=decide (n<0)||decide (1000000<n)
theorem t91(k:Nat)(n:Int):D (k+1) 91 [S1 (I6 n)]=some (S1 (Bo (wK n))):=by rw[D91];unfold P91 wK;by_cases h1:n<0<;>by_cases h2:1000000<n<;>simp[h1,h2]
theorem zxs(O:Orc)(g:Nat)(ds:List DA):zhR O (.fn g []) ds=O g ds:=by simp[zhR]
def xO{α:Type}(p:α→Bool):List α→Nat→Option Nat
 | [],_=>none
 |x::l,i=>if p x then some i else xO p l (i+1)
theorem wv{α:Type}(p:α→Bool):∀(l:List α) (i:Nat),(xO p l i).isSome=l.any p
 | [],_=>rfl
 |x::l,i=>by
  simp only[xO,List.any_cons];cases h:p x
  ·simp[wv p l (i+1)]
  ·simp
def found:Option Nat→PX
 |some i=>(.ret,[I6 (i:Int)],[])
 |none=>(.exit 0,[],[])
abbrev enW(n:Int):List DV:=[I6 n]
theorem zCm(k:Nat)(w:Sl Int)(hw:w.els.length≤9223372036854775807):∀(r:List Int) (i:Nat),w.els.drop i=r→
  zA (zhK (D (k+1)) (I6 (w.els.length:Int)) (enL 1 enW w) (.fn 91 [])) [I6 (i:Int)] []=some (found (xO wK r i)):=by
 intro r
 induction r with
 |nil=>
  intro i h;refine zu ?_
  grind[zhK,zz,zj,zb,xY,ya,zn]
 |cons x r ih=>
  intro i h;have h1:=yH h;have ea:zc .add (I6 (i:Int)) (I6 1)=some (I6 ((i+1:Nat):Int)):=yQ;have body:zhK (D (k+1)) (I6 (w.els.length:Int)) (enL 1 enW w) (.fn 91 []) [I6 (i:Int)] []=some (if wK x then(.ret,[I6 (i:Int)],[]) else(.normal,[I6 ((i+1:Nat):Int)],[])):=by
   simp only[zhK,zz,zj,zb,jX h1,zn,if_true,yc h,xE,zxs,t91,zX,ea]
   grind
  grind[zB,xO,found,zH,zP]
theorem t115(k:Nat)(w:Sl Int)(hw:w.els.length≤9223372036854775807):D (k+2) 115 [S1 (enL 1 enW w),S1 (.fn 91 [])]=some (S1 (I6 (match xO wK w.els 0 with|some i=>(i:Int)|none=>-1))):=by rw[zCZ];unfold zAR;have:=zCm k w hw w.els 0 rfl;simp only[zD,zb];rw[show (I6 0:DV)=I6 ((0:Nat):Int) from rfl,this];cases xO wK w.els 0<;>rfl
theorem t90(k:Nat)(w:Sl Int)(hw:w.els.length≤9223372036854775807):D (k+3) 90 [S1 (enL 1 enW w),S1 (.fn 91 [])]=some (S1 (Bo (w.els.any wK))):=by rw[D90];unfold P90;rw[t115 k w hw,←wv wK w.els 0];cases xO wK w.els 0<;>simp_all
theorem t74(k:Nat)(w:Sl Int)(hw:w.els.length≤9223372036854775807):D (k+4) 74 [S1 (enL 1 enW w)]=some (S1 (I6 (if w.els.any wK then 3 else 0))):=by rw[D74];unfold P74;rw[t90 k w hw];cases w.els.any wK<;>rfl
structure Zj where
 name:ByteArray
 tone:ByteArray
 num:Int
 den:Int
 first:Int
 wind:Sl Int
def enR(r:Zj):List DV:=[St r.name,St r.tone,I6 r.num,I6 r.den,I6 r.first,enL 1 enW r.wind]
def y8(r:Zj):Int:=
 if !isName r.name then 8 else if !isName r.tone then 8 else if jK r.num r.den≠0 then jK r.num r.den
 else if !(decide (-256≤r.first)&&decide (r.first≤256)) then 3 else if r.wind.els.length=0 then 13 else if 128<r.wind.els.length then 4 else if r.wind.els.any wK then 3 else 0
theorem t51(k:Nat)(r:Zj)(hw:r.wind.els.length≤9223372036854775807):D (k+5) 51 [SA (enR r)]=some (S1 (I6 (y8 r))):=by
 unfold enR;rw[D51];unfold P51 y8;simp only[t50,zX,yY,zb,zn];cases isName r.name with
 |false=>rfl
 |true=>
  cases isName r.tone with
  |false=>rfl
  |true=>
   simp only[t72,t73,t74 k r.wind hw,zX,yY,zb,zn,zU,zD,zO,yE,Yyf,Yzh,if_false]
   grind
def vG:List Zj→Int
 | []=>0
 |r::l=>if y8 r≠0 then y8 r else vG l
def zec(r:Zj):Prop:=r.wind.els.length≤9223372036854775807
def zpT(id:Nat)(e:Int):PX:=if e≠0 then(.ret,[I6 e],[]) else(.exit id,[],[])
theorem l92(k:Nat)(l:Sl Zj)(hl:l.els.length≤9223372036854775807)(hr:∀r∈l.els,zec r):∀(r:List Zj) (i:Nat),l.els.drop i=r→
  zA (zpz (D (k+5)) (I6 (l.els.length:Int)) (enL 6 enR l)) [I6 (i:Int)] []=some (zpT 0 (vG r)):=by
 intro r
 induction r with
 |nil=>
  intro i h;refine zu ?_
  grind[zpz,zz,zj,zb,xY,ya,zn]
 |cons x r ih=>
  intro i h;have h1:=yH h;have ea:zc .add (I6 (i:Int)) (I6 1)=some (I6 ((i+1:Nat):Int)):=yQ;have hx:zec x:=hr x (Lz3 (xa h));have c:D (k+5) 51 [SA [atD (enR x) 0,atD (enR x) 1,atD (enR x) 2,atD (enR x) 3,atD (enR x) 4,atD (enR x) 5]]=some (S1 (I6 (y8 x))):=t51 k x hx;have body:zpz (D (k+5)) (I6 (l.els.length:Int)) (enL 6 enR l) [I6 (i:Int)] []=some (if y8 x≠0 then(.ret,[I6 (y8 x)],[]) else(.normal,[I6 ((i+1:Nat):Int)],[])):=by
   simp only[zpz,zz,zj,zb,jX h1,zn,if_true,yc h,c,zX,zU,ea]
   grind
  by_cases hc:y8 x=0
  ·rw[Yzb (by omega)]at body;rw[zH body,ih (i+1) (zP h)];grind[vG]
  ·rw[Yzd hc]at body;grind[zB,vG,zpT]
structure Place where
 ranks:Sl Zj
 low:Int
 high:Int
def enP(x:Place):List DV:=[enL 6 enR x.ranks,I6 x.low,I6 x.high]
structure Place.ok (x:Place):Prop where
 len:x.ranks.els.length≤9223372036854775807
 ranks:∀r∈x.ranks.els,zec r
def js(x:Place):Int:=if 60<x.ranks.els.length then 4 else if vG x.ranks.els≠0 then vG x.ranks.els else right x.low x.high
theorem t92(k:Nat)(x:Place)(hx:x.ok):D (k+6) 92 [SA (enP x)]=some (S1 (I6 (js x))):=by
 unfold enP;rw[D92];unfold P92 js;have:=l92 k x.ranks hx.len hx.ranks x.ranks.els 0 rfl;simp only[zD,zb,yE,zn];rw[show (I6 0:DV)=I6 ((0:Nat):Int) from rfl,this];by_cases h1:60<x.ranks.els.length
 ·grind
 ·have h2:¬((60:Int)<(x.ranks.els.length:Int)):=by omega
  simp only[h1,h2,decide_false,Yzh,if_false];unfold zpT;by_cases h3:vG x.ranks.els=0<;>simp_all[t75]
structure Zn where
 rank:Int
 shift:Int
deriving DecidableEq
def enD(d:Zn):List DV:=[I6 d.rank,I6 d.shift]
theorem zo0(a b:Zn):zmq [1,1] [I6 a.rank,I6 a.shift] [I6 b.rank,I6 b.shift]=some (decide (a=b)):=by
 cases a with|mk r s=>
 cases b with|mk r' s'=>
 simp only[zmq,eqD,xu,Yza,jU];by_cases h1:r=r'
 ·by_cases h2:s=s'
  ·grind
  ·have e2:(s==s')=false:=by grind
   simp[h1,h2,e2]
 ·have e1:(r==r')=false:=by grind
  simp[h1,e1]
theorem zCl(d:Zn)(l:Sl Zn)(hl:l.els.length≤9223372036854775807):∀(r:List Zn) (i:Nat),l.els.drop i=r→
  zA (zhH (I6 (l.els.length:Int)) (enL 2 enD l) (I6 d.rank) (I6 d.shift)) [I6 (i:Int)] []=some (found (xO (fun x=>decide (d=x)) r i)):=by
 intro r
 induction r with
 |nil=>
  intro i h;refine zu ?_
  grind[zhH,zz,zj,zb,xY,ya,zn]
 |cons x r ih=>
  intro i h;have h1:=yH h;have ea:zc .add (I6 (i:Int)) (I6 1)=some (I6 ((i+1:Nat):Int)):=yQ;have eq:=zo0 d x;have body:zhH (I6 (l.els.length:Int)) (enL 2 enD l) (I6 d.rank) (I6 d.shift) [I6 (i:Int)] []=some (if d=x then(.ret,[I6 (i:Int)],[]) else(.normal,[I6 ((i+1:Nat):Int)],[])):=by
   simp only[zhH,zz,zj,zb,jX h1,zn,if_true,yc h,enD,xE,vh,eq,ea]
   grind
  by_cases hc:d=x
  ·rw[Yzd hc]at body;grind[zB,xO,found]
  ·rw[Yzb hc]at body;grind[zH,zP,xO]
theorem t136(k:Nat)(d:Zn)(l:Sl Zn)(hl:l.els.length≤9223372036854775807):D (k+1) 136 [S1 (enL 2 enD l),SA (enD d)]=some (S1 (I6 (match xO (fun x=>decide (d=x)) l.els 0 with|some i=>(i:Int)|none=>-1))):=by unfold enD;rw[zCX];unfold zAN;have:=zCl d l hl l.els 0 rfl;unfold enD at this;simp only[zD,zb];rw[show (I6 0:DV)=I6 ((0:Nat):Int) from rfl,this];cases xO (fun x=>decide (d=x)) l.els 0<;>rfl
theorem t116(k:Nat)(d:Zn)(l:Sl Zn)(hl:l.els.length≤9223372036854775807):D (k+2) 116 [S1 (enL 2 enD l),SA (enD d)]=some (S1 (Bo (l.els.any fun x=>decide (d=x)))):=by have:=t136 k d l hl;unfold enD at this ⊢;rw[zCY];unfold zAQ;rw[this,←wv (fun x=>decide (d=x)) l.els 0];cases xO (fun x=>decide (d=x)) l.els 0<;>simp_all
end Go.Proofs.Tryz.Kn
end
section
namespace Go.Proofs.Tryz.Kn
open Go Go.CE Go.PE
theorem zAD(y:Nat):qP none 0 y=some 0:=rfl
theorem zAE{k:IntKind}{i d y:Nat}(h:i≤y):qP (some (.int k (i:Int))) d y=some i:=by
 show (bif Nat.ble i y then some i else none)=_
 grind[Yzf]
theorem zcO{α:Type}{st i:Nat}{f:α→List DV}{l:List α}{k:IntKind}(h:i≤l.length):
  vY st (enL st f (some l)) none (some (.int k (i:Int)))=some (enL st f (some (l.take i))):=by
 simp_all[vY,zcm,zAE,zAD]
def zad(n:Nat):List Zn→List Zn→Int
 |_,[]=>0
 |p,d::r=>if d.rank<0 then 10 else if (n:Int)≤d.rank then 10 else if d.shift < -127 then 3 else if 127<d.shift then 3 else if p.any (fun x=>decide (d=x)) then 9 else zad n (p++[d]) r
def xi(n:Nat)(l:List Zn):Int:=if 8<l.length then 4 else zad n [] l
theorem l93(k:Nat)(rs:Sl Zj)(l:List Zn)(hl:l.length≤9223372036854775807):∀(r:List Zn) (i:Nat),l.drop i=r→
  zA (zpy (D (k+2)) (I6 (l.length:Int)) (enL 2 enD (some l)) (enL 6 enR rs)) [I6 (i:Int)] []=some (zpT 0 (zad rs.els.length (l.take i) r)):=by
 intro r
 induction r with
 |nil=>
  intro i h;refine zu ?_
  grind[zpy,zz,zj,zb,xY,ya,zn]
 |cons x r ih=>
  intro i h;have h1:=yH h;have ea:zc .add (I6 (i:Int)) (I6 1)=some (I6 ((i+1:Nat):Int)):=yQ;have ix:yW 2 (enL 2 enD (some l)) (I6 (i:Int))=some (enD x):=yc (v:=some l) h _;have sl:vY 2 (enL 2 enD (some l)) none (some (I6 (i:Int)))=some (enL 2 enD (some (l.take i))):=zcO (by omega);have c:=t116 k x (some (l.take i)) (by grind);simp only[enD]at c;have body:zpy (D (k+2)) (I6 (l.length:Int)) (enL 2 enD (some l)) (enL 6 enR rs) [I6 (i:Int)] [] =
    some (if x.rank<0 then(.ret,[I6 10],[]) else if (rs.els.length:Int)≤x.rank then(.ret,[I6 10],[]) else if x.shift < -127 then(.ret,[I6 3],[]) else if 127<x.shift then(.ret,[I6 3],[]) else if (l.take i).any (fun y=>decide (x=y)) then(.ret,[I6 9],[]) else(.normal,[I6 ((i+1:Nat):Int)],[])):=by
   simp only[zpy,zz,zj,zb,jX h1,zn,if_true,ix,enD,xE,vh,zD,zaw,yE,sl,c,zX,ea,YzD,Sl.els,Yz2]
   grind
  have hn:l.take (i+1)=l.take i++[x]:=by grind
  unfold zad;by_cases a1:x.rank<0
  ·rw[Yzd a1]at body ⊢;rw[zB body];rfl
  rw[Yzb a1]at body ⊢;by_cases a2:(rs.els.length:Int)≤x.rank
  ·rw[Yzd a2]at body ⊢;rw[zB body];rfl
  rw[Yzb a2]at body ⊢;by_cases a3:x.shift < -127
  ·rw[Yzd a3]at body ⊢;rw[zB body];rfl
  rw[Yzb a3]at body ⊢;by_cases a4:127<x.shift
  ·rw[Yzd a4]at body ⊢;rw[zB body];rfl
  rw[Yzb a4]at body ⊢;by_cases a5:(l.take i).any (fun y=>decide (x=y))=true
  ·rw[Yzd a5]at body ⊢;rw[zB body];rfl
  rw[Yzb a5]at body ⊢
  grind[zH,zP]
theorem t93(k:Nat)(x:Place)(l:Sl Zn)(hl:l.els.length≤9223372036854775807):D (k+3) 93 [SA (enP x),S1 (enL 2 enD l)]=some (S1 (I6 (xi x.ranks.els.length l.els))):=by
 unfold enP;rw[D93];unfold P93 xi;simp only[zD,zb,yE,zn];by_cases h1:8<l.els.length
 ·grind
 ·have h2:¬((8:Int)<(l.els.length:Int)):=by omega
  simp only[h1,h2,decide_false,Yzh,if_false];cases l with
  |none=>rw[zu (id:=0) (L':=[]) (M':=[]) (by rfl)];rfl
  |some l=>have:=l93 k x.ranks l hl l 0 rfl;rw[show (I6 0:DV)=I6 ((0:Nat):Int) from rfl,show Sl.els (some l:Sl Zn)=l from rfl,this,List.take_zero];unfold zpT;by_cases h3:zad x.ranks.els.length [] l=0<;>simp_all
structure Seg where
 lo:Int
 hi:Int
 draws:Sl Zn
def enS(g:Seg):List DV:=[I6 g.lo,I6 g.hi,enL 2 enD g.draws]
def zvK(g:Seg):Prop:=g.draws.els.length≤9223372036854775807
structure Zr where
 name:ByteArray
 num:Int
 den:Int
 segs:Sl Seg
def vB(s:Zr):List DV:=[St s.name,I6 s.num,I6 s.den,enL 3 enS s.segs]
structure Zr.ok (s:Zr):Prop where
 len:s.segs.els.length≤9223372036854775807
 segs:∀g∈s.segs.els,zvK g
def leO(a:Int):Option Int→Bool
 |some t=>decide (a≤t)
 |none=>false
def zbI(l:List Seg):Nat→Option Int
 |0=>none
 |j+1=>(l[j]?).map Seg.hi
def u5(x:Place):List Seg→Option Int→Int
 | [],_=>0
 |g::r,p=>
  if min g.lo g.hi<x.low then 23 else if x.high<max g.lo g.hi then 23 else if g.hi<g.lo then 6
  else if leO g.lo p then 6
  else if xi x.ranks.els.length g.draws.els≠0 then xi x.ranks.els.length g.draws.els else u5 x r (some g.hi)
theorem l76(k:Nat)(x:Place)(l:Sl Seg)(hl:l.els.length≤9223372036854775807)(hs:∀g∈l.els,zvK g):∀(r:List Seg) (i:Nat),l.els.drop i=r→
  zA (zhC (D (k+3)) (I6 (l.els.length:Int)) (enL 3 enS l) (I6 x.low) (I6 x.high) (enL 6 enR x.ranks)) [I6 (i:Int)] []=some (zpT 1 (u5 x r (zbI l.els i))):=by
 intro r
 induction r with
 |nil=>
  intro i h;refine zu ?_
  grind[zhC,zz,zj,zb,xY,ya,zn]
 |cons g r ih=>
  intro i h;have h1:=yH h;have ea:zc .add (I6 (i:Int)) (I6 1)=some (I6 ((i+1:Nat):Int)):=yQ;have c:=t93 k x g.draws (hs g (Lz3 (xa h)));simp only[enP]at c;have body:zhC (D (k+3)) (I6 (l.els.length:Int)) (enL 3 enS l) (I6 x.low) (I6 x.high) (enL 6 enR x.ranks) [I6 (i:Int)] [] =
    some (if min g.lo g.hi<x.low then(.ret,[I6 23],[]) else if x.high<max g.lo g.hi then(.ret,[I6 23],[]) else if g.hi<g.lo then(.ret,[I6 6],[])
     else if leO g.lo (zbI l.els i)=true then(.ret,[I6 6],[]) else if xi x.ranks.els.length g.draws.els≠0 then(.ret,[I6 (xi x.ranks.els.length g.draws.els)],[]) else(.normal,[I6 ((i+1:Nat):Int)],[])):=by
   simp only[zhC,zz,zj,zb,jX h1,zn,if_true,yc h,enS,xE,vh,ztr,zv7,yE,c,zX,ea,YzD,zU];have tail:(if (!(xi x.ranks.els.length g.draws.els==0))=true then some ((.ret,[I6 (xi x.ranks.els.length g.draws.els)],[]):PX) else some (.normal,[I6 ((i+1:Nat):Int)],[])) =
     some (if xi x.ranks.els.length g.draws.els≠0 then(.ret,[I6 (xi x.ranks.els.length g.draws.els)],[]) else(.normal,[I6 ((i+1:Nat):Int)],[])):=by
    grind
   rw[tail];cases i with
   |zero=>
    have:¬((0:Int)<((0:Nat):Int)):=by omega
    simp only[this,if_false,Yzh,zbI,leO]
    grind
   |succ j=>
    obtain⟨q,hq⟩:∃q,l.els[j]? = some q:=⟨_,Lz5 (by omega)⟩;have h2:(0:Int)<((j+1:Nat):Int):=by omega
    have es:zc .sub (I6 ((j+1:Nat):Int)) (I6 1)=some (I6 (((j+1:Nat):Int)-1)):=zmK;have e1:((j+1:Nat):Int)-1=(j:Int):=by omega
    rw[e1]at es;have ix:yW 3 (enL 3 enS l) (I6 (j:Int))=some (enS q):=by grind[jB]
    simp only[zbI,hq,YzI,leO,h2,if_true,es,zb,ix,enS,vh,xE,zcd,zn,YzD]
    grind
  have hp:zbI l.els (i+1)=some g.hi:=by simp only[zbI,xa h,YzI]
  unfold u5;by_cases a1:min g.lo g.hi<x.low
  ·rw[Yzd a1]at body ⊢;rw[zB body];rfl
  rw[Yzb a1]at body ⊢;by_cases a2:x.high<max g.lo g.hi
  ·rw[Yzd a2]at body ⊢;rw[zB body];rfl
  rw[Yzb a2]at body ⊢;by_cases a3:g.hi<g.lo
  ·rw[Yzd a3]at body ⊢;rw[zB body];rfl
  rw[Yzb a3]at body ⊢;by_cases a4:leO g.lo (zbI l.els i)=true
  ·rw[Yzd a4]at body ⊢;rw[zB body];rfl
  rw[Yzb a4]at body ⊢;by_cases a5:xi x.ranks.els.length g.draws.els≠0
  ·rw[Yzd a5]at body ⊢;rw[zB body];simp_all[zpT]
  rw[Yzb a5]at body ⊢
  grind[zH,zP]
def uB(x:Place)(s:Zr):Int:=
 if js x≠0 then js x else if !isName s.name then 8 else if jK s.num s.den≠0 then jK s.num s.den
 else if s.segs.els.length=0 then 13 else if 12<s.segs.els.length then 4 else u5 x s.segs.els none
theorem t76(k:Nat)(x:Place)(s:Zr)(hx:x.ok)(hs:s.ok):D (k+7) 76 [SA (enP x),SA (vB s)]=some (S1 (I6 (uB x s))):=by
 have c1:=t92 k x hx;have l:=l76 (k+3) x s.segs hs.len hs.segs s.segs.els 0 rfl;unfold enP at c1 ⊢;unfold vB;rw[D76];unfold P76 uB;simp only[c1,t50,t72,zX,zU,zb,zn,yY,zD,zO,yE];by_cases h1:js x=0
 ·simp only[h1];cases isName s.name with
  |false=>rfl
  |true=>
   by_cases h2:jK s.num s.den=0
   ·simp only[h2];by_cases h3:s.segs.els.length=0
    ·simp[h3]
    ·have h4:¬((s.segs.els.length:Int)=0):=by omega
     by_cases h5:12<s.segs.els.length
     ·grind
     ·have h6:¬((12:Int)<(s.segs.els.length:Int)):=by omega
      rw[show (I6 0:DV)=I6 ((0:Nat):Int) from rfl,l,show zbI s.segs.els 0=none from rfl];unfold zpT;by_cases h7:u5 x s.segs.els none=0
      ·simp[h3,h5,h6,h7]
      ·simp[h3,h5,h6,h7]
   grind
 grind
end Go.Proofs.Tryz.Kn
end
section
namespace Go.Proofs.Tryz.Kn
open Go Go.CE Go.PE
def enF(p:Int×Int):List DV:=[I6 p.1,I6 p.2]
def feetA:List (Int×Int):=[(8,1),(4,1),(16,1),(2,1),(8,3),(8,5),(4,3),(1,1),(32,1),(16,3),(16,5),(32,3),(8,7),(2,3),(1,2),(64,1)]
def feetB:List (Int×Int):=[(8,1),(4,1),(16,1),(8,3),(2,1),(8,5)]
def fA(n:Nat):Int×Int:=(feetA[n % 16]?).getD (8,1)
def fB(n:Nat):Int×Int:=(feetB[n % 6]?).getD (8,1)
theorem zsp(n:Nat):feetA[n % 16]? = some (fA n):=by unfold fA;rw[Lz5 (show n % 16<feetA.length by rw[show feetA.length=16 from rfl];omega)];rfl
theorem zsn(n:Nat):feetB[n % 6]? = some (fB n):=by unfold fB;rw[Lz5 (show n % 6<feetB.length by rw[show feetB.length=6 from rfl];omega)];rfl
theorem zso(n:Nat):fA n∈feetA:=Lz3 (zsp n)
theorem zeB(n:Nat):fB n∈feetB:=Lz3 (zsn n)
theorem zw4:∀p∈feetA,jK p.1 p.2=0:=by trivial
theorem zw3:∀p∈feetB,jK p.1 p.2=0:=by trivial
theorem zCQ:(shSums.all fun s=>match wt s.g s.args ⟨.z,.nil⟩ bSums with|some v=>eqA v s.res|none=>false)=true:=by kernel_rfl
theorem zA5{s:CE.Sum}(hs:s∈shSums){xs:List DA}{d:DA}(hg:([85,86,87,88]:List Nat).any (Nat.beq s.g)=true)(ha:avs xs=some s.args)(hd:ofA s.res=some d):B s.g xs=some d:=by
 have h:=YzL.1 zCQ s hs;split at h
 ·rename_i v hv;have:=zky h;subst this;rw[zC2 hg];unfold zva;have:=zwS hg
  grind
 ·cases h
theorem zpO(k:Nat){s:CE.Sum}(hs:s∈shSums){xs:List DA}{d:DA}(hg:([85,86,87,88]:List Nat).any (Nat.beq s.g)=true)(ha:avs xs=some s.args)(hd:ofA s.res=some d):D k s.g xs=some d:=zhk (zA5 hs hg ha hd)
theorem ztL{n:Nat}(h:n∈pows):zbc n∈shSums:=by grind[shSums]
theorem mem_of{n:Nat}(h:n∈pows):ofS n∈shSums:=by grind[shSums]
theorem zoi{x:Nat×Nat}(h:x∈dens){s:CE.Sum}(hs:s∈xF x):s∈shSums:=by grind[shSums]
theorem ztM{x:Nat×Nat×Nat}(h:x∈prs){s:CE.Sum}(hs:s∈yx x):s∈shSums:=by grind[shSums]
theorem e86(k:Nat){n:Nat}(h:n∈pows):D k 86 [S1 (I6 (n:Int))]=some (S1 (St (dec n))):=zpO k (mem_of h) rfl rfl rfl
theorem e85(k:Nat){n:Nat}(h:n∈pows):D k 85 [S1 (St (dec n)),S1 (I6 24)]=some (.tup [.one (St (dec (n^24))),.one (I6 0)]):=zpO k (ztL h) rfl rfl rfl
theorem zCV(k:Nat){x:Nat×Nat}(h:x∈dens):D k 87 [S1 (St (dec (x.1^24))),S1 (.str ⟨#[50]⟩)]=some (S1 (St (dec (lim x.1 0)))):=by
 have e:x.1^24*2=lim x.1 0:=by grind[lim]
 rw[←e];exact zpO k (zoi h (Yzg ..)) rfl rfl rfl
theorem zCU(k:Nat){x:Nat×Nat}(h:x∈dens){j:Nat}(hj:j<x.2):D k 87 [S1 (St (dec (lim x.1 j))),S1 (.str ⟨#[52]⟩)]=some (S1 (St (dec (lim x.1 (j+1))))):=by
 have e:lim x.1 j*4=lim x.1 (j+1):=by
  show 2*x.1^24*4^j*4=2*x.1^24*4^(j+1)
  grind
 rw[←e];exact zpO k (zoi h (Yze _ (List.mem_map.2 ⟨j,List.mem_range.2 hj,rfl⟩))) rfl rfl rfl
theorem e88(k:Nat){x:Nat×Nat×Nat}(h:x∈prs){j:Nat}(hj:j≤x.2.2):D k 88 [S1 (St (dec (x.1^24))),S1 (St (dec (lim x.2.1 j)))]=some (S1 (I6 (zvn (x.1^24) (lim x.2.1 j)))):=
 zpO k (ztM h (List.mem_map.2 ⟨j,List.mem_range.2 (by omega),rfl⟩)) rfl rfl rfl
def upN:Nat→Nat→Nat→Int→Nat×Int
 |0,num,_,n=>(num,n)
 |f+1,num,den,n=>if num<den then upN f (num*2) den (n-12) else(num,n)
def dnN:Nat→Nat→Nat→Int→Nat×Int
 |0,_,den,n=>(den,n)
 |f+1,num,den,n=>if 2*den≤num then dnN f num (den*2) (n+12) else(den,n)
theorem zCf(den:Nat)(hd:den≤1000000):∀(f num:Nat) (n:Int),den≤(upN f num den n).1→-1000000≤n-12*(f:Int)→n≤1000000→
  zA (zmk (I6 (den:Int))) [I6 (num:Int),I6 n] []=some (.exit 0,[I6 ((upN f num den n).1:Int),I6 (upN f num den n).2],[]):=by
 intro f
 induction f with
 |zero=>grind[zu,zmk,zz,yF,zj,zb,zn,upN]
 |succ f ih=>
  intro num n h h2 h3;unfold upN at h ⊢;by_cases hc:num<den
  ·rw[Yzd hc]at h ⊢;have h1:decide ((num:Int)<(den:Int))=true:=jX hc;have e1:zc .mul (I6 (num:Int)) (I6 2)=some (I6 ((num*2:Nat):Int)):=by
    grind[zio]
   have e2:zc .sub (I6 n) (I6 12)=some (I6 (n-12)):=zmK;have body:zmk (I6 (den:Int)) [I6 (num:Int),I6 n] []=some (.normal,[I6 ((num*2:Nat):Int),I6 (n-12)],[]):=by simp_all[zmk]
   grind[zH]
  ·rw[Yzb hc]
   grind[zu,zmk,zz,yF,zj,zb,zn]
theorem zCh(a:DV)(num:Nat)(hd:num≤1000000):∀(f den:Nat) (n:Int),num<2*(dnN f num den n).1→n+12*(f:Int)≤1000000→-1000000≤n→0<den→den≤1000000→
  zA (zeK [I6 (num:Int),a]) [I6 (den:Int),I6 n] []=some (.exit 2,[I6 ((dnN f num den n).1:Int),I6 (dnN f num den n).2],[]):=by
 intro f
 induction f with
 |zero=>
  intro den n h _ _ _ h5;have h:num<2*den:=h;have e1:zc .mul (I6 2) (I6 (den:Int))=some (I6 ((2*den:Nat):Int)):=by grind[zio]
  grind[zu,zeK,zz,yF,zaw,zb,zn,dnN]
 |succ f ih=>
  intro den n h h2 h3 h4 h5;unfold dnN at h ⊢;have e1:zc .mul (I6 2) (I6 (den:Int))=some (I6 ((2*den:Nat):Int)):=by grind[zio]
  by_cases hc:2*den≤num
  ·rw[Yzd hc]at h ⊢;have h1:decide (((2*den:Nat):Int)≤(num:Int))=true:=decide_eq_true (by omega);have e3:zc .mul (I6 (den:Int)) (I6 2)=some (I6 ((den*2:Nat):Int)):=by
    grind[zio]
   have e2:zc .add (I6 n) (I6 12)=some (I6 (n+12)):=yQ;have body:zeK [I6 (num:Int),a] [I6 (den:Int),I6 n] []=some (.normal,[I6 ((den*2:Nat):Int),I6 (n+12)],[]):=by simp_all[zeK]
   grind[zH]
  ·rw[Yzb hc]
   grind[zu,zeK,zz,yF,zaw,zb,zn]
theorem ztl:(prs.all fun x=>(List.range x.2.2).all (fun j=>Nat.ble (Nat.succ (lim x.2.1 j)) (x.1^24))&&Nat.ble (x.1^24) (lim x.2.1 x.2.2))=true:=by kernel_rfl
theorem zns:(prs.all fun x=>dens.any (fun y=>Nat.beq y.1 x.2.1&&Nat.ble x.2.2 y.2)&&pows.any (Nat.beq x.1)&&pows.any (Nat.beq x.2.1))=true:=by kernel_rfl
theorem zgk{n:Nat}{l:List Nat}(h:l.any (Nat.beq n)=true):n∈l:=by simp_all
theorem zCi(k:Nat)(x:Nat×Nat×Nat)(hx:x∈prs)(n:Int)(h1:-1000000≤n)(h2:n≤1000000)(hm:x.2.2≤100):∀(r j:Nat),j+r=x.2.2→
  zA (zhD (D k) [.one (St (dec (x.1^24))),.one (I6 0)]) [St (dec (lim x.2.1 j)),I6 (n+(j:Int))] []=some (.exit 4,[I6 (n+(x.2.2:Int))],[]):=by
 have hc:=YzL.1 ztl x hx;have hdn:=YzL.1 zns x hx;simp only[LzC]at hc hdn;obtain⟨y,hy,ey⟩:=List.any_eq_true.1 hdn.1.1;simp only[LzC]at ey;have ey1:y.1=x.2.1:=Lz1 ey.1;have ey2:=Lz4 ey.2;intro r
 induction r with
 |zero=>
  intro j hj;have hj:j=x.2.2:=by omega
  subst hj;have c:=e88 k hx (LzB _);have hle:=Lz4 hc.2;have hs:decide ((0:Int)<zvn (x.1^24) (lim x.2.1 x.2.2))=false:=by
   unfold zvn;rw[show Nat.ble (Nat.succ (lim x.2.1 x.2.2)) (x.1^24)=false from by cases hb:Nat.ble (Nat.succ (lim x.2.1 x.2.2)) (x.1^24) with|false=>rfl|true=>have:=Lz4 hb;omega]
   grind
  grind[zu,zhD,zz,yF,zkB,zf3,zX,yE,zb,zn]
 |succ r ih=>
  intro j hj;have c:=e88 k hx (show j≤x.2.2 by omega);have m:=zCU k hy (show j<y.2 by omega);rw[ey1]at m;have hlt:=Lz4 (YzL.1 hc.1 j (List.mem_range.2 (by omega)));have hs:decide ((0:Int)<zvn (x.1^24) (lim x.2.1 j))=true:=by grind[zvn,Yzf]
  have ea:zc .add (I6 (n+(j:Int))) (I6 1)=some (I6 (n+((j+1:Nat):Int))):=by rw[show n+((j+1:Nat):Int)=n+(j:Int)+1 by omega];exact yQ
  have body:zhD (D k) [.one (St (dec (x.1^24))),.one (I6 0)] [St (dec (lim x.2.1 j)),I6 (n+(j:Int))] []=some (.normal,[St (dec (lim x.2.1 (j+1))),I6 (n+((j+1:Nat):Int))],[]):=by simp_all[zhD]
  grind[zH]
def zsj(f g:Int×Int):Nat:=(g.1*f.2).toNat
def zl9(f g:Int×Int):Nat:=(g.2*f.1).toNat
def shU(f g:Int×Int):Nat×Int:=upN 20 (zsj f g) (zl9 f g) 0
def shD(f g:Int×Int):Nat×Int:=dnN 20 (shU f g).1 (zl9 f g) (shU f g).2
def shM(f g:Int×Int):Nat:=((prs.find? fun x=>Nat.beq x.1 (shU f g).1&&Nat.beq x.2.1 (shD f g).1).map fun x=>x.2.2).getD 0
def shf(f g:Int×Int):Int:=(shD f g).2+(shM f g:Int)
def zvI(f g:Int×Int):Bool:=
 decide (0≤g.1*f.2)&&decide (0<g.2*f.1)&&Nat.ble (zl9 f g) (shU f g).1&&Nat.ble (Nat.succ (shU f g).1) (2*(shD f g).1)&&(prs.any fun x=>Nat.beq x.1 (shU f g).1&&Nat.beq x.2.1 (shD f g).1&&Nat.beq x.2.2 (shM f g))
 && Nat.ble (zl9 f g) 1000000&&Nat.ble (zsj f g) 1000000&&Nat.ble (shU f g).1 1000000&&Nat.ble (shM f g) 100&&decide (-1000≤(shU f g).2)&&decide ((shU f g).2≤1000)&&decide (-1000≤(shD f g).2)&&decide ((shD f g).2≤1000)&&decide (-100≤shf f g)&&decide (shf f g≤100)
theorem zvG:(feetB.all fun f=>feetA.all fun g=>zvI f g)=true:=by kernel_rfl
structure Zv (f g:Int×Int):Prop where
 a:0≤g.1*f.2
 b:0<g.2*f.1
 c:zl9 f g≤(shU f g).1
 d:(shU f g).1<2*(shD f g).1
 e:∃x∈prs,x.1=(shU f g).1∧x.2.1=(shD f g).1∧x.2.2=shM f g
 f1:zl9 f g≤1000000
 f2:zsj f g≤1000000
 f3:(shU f g).1≤1000000
 f4:shM f g≤100
 g1:-1000≤(shU f g).2
 g2:(shU f g).2≤1000
 g3:-1000≤(shD f g).2
 g4:(shD f g).2≤1000
 h1:-100≤shf f g
 h2:shf f g≤100
theorem zm1{f g:Int×Int}(hf:f∈feetB)(hg:g∈feetA):Zv f g:=by have h:=YzL.1 (YzL.1 zvG f hf) g hg;unfold zvI at h;simp only[LzC,YzD]at h;obtain⟨⟨⟨⟨⟨⟨⟨⟨⟨⟨⟨⟨⟨⟨a,b⟩,c⟩,d⟩,e⟩,f1⟩,f2⟩,f3⟩,f4⟩,g1⟩,g2⟩,g3⟩,g4⟩,h1⟩,h2⟩:=h;obtain⟨x,hx,hq⟩:=List.any_eq_true.1 e;simp only[LzC]at hq;exact⟨a,b,Lz4 c,Lz4 d,⟨x,hx,Lz1 hq.1.1,Lz1 hq.1.2,Lz1 hq.2⟩,Lz4 f1,Lz4 f2,Lz4 f3,Lz4 f4,g1,g2,g3,g4,h1,h2⟩
theorem zm0(f g:Int×Int)(hf:f∈feetB)(hg:g∈feetA):-100≤shf f g∧shf f g≤100:=⟨(zm1 hf hg).h1,(zm1 hf hg).h2⟩
theorem t70(k:Nat)(f g:Int×Int)(hf:f∈feetB)(hg:g∈feetA):D (k+1) 70 [SA (enF f),SA (enF g)]=some (S1 (I6 (shf f g))):=by
 have H:=zm1 hf hg;obtain⟨x,hx,x1,x2,x3⟩:=H.e;have a1:g.1*f.2=((zsj f g:Nat):Int):=by unfold zsj;have:=H.a;omega
 have a2:g.2*f.1=((zl9 f g:Nat):Int):=by unfold zl9;have:=H.b;omega
 have hb:=H.b;rw[a2]at hb;have b1:=H.f1;have b2:=H.f2;have b3:=H.f3;have b4:=H.f4;have c1:=H.g1;have c2:=H.g2;have c3:=H.g3;have c4:=H.g4
 have m1:zc .mul (I6 g.1) (I6 f.2)=some (I6 ((zsj f g:Nat):Int)):=by grind[zio]
 have m2:zc .mul (I6 g.2) (I6 f.1)=some (I6 ((zl9 f g:Nat):Int)):=by grind[zio]
 have lu:=zCf (zl9 f g) b1 20 (zsj f g) 0 H.c (by omega) (by omega);have ld:=zCh (I6 (shU f g).2) (shU f g).1 b3 20 (zl9 f g) (shU f g).2 H.d (by omega) (by omega) (by omega) b1;have lc:=zCi k x hx (shD f g).2 (by omega) (by omega) (by omega) x.2.2 0 (by omega);have hdn:=YzL.1 zns x hx;simp only[LzC]at hdn;obtain⟨y,hy,ey⟩:=List.any_eq_true.1 hdn.1.1;simp only[LzC]at ey;have ey1:y.1=x.2.1:=Lz1 ey.1;have o1:=e86 k (zgk hdn.1.2);have p1:=e85 k (zgk hdn.1.2);have o2:=e86 k (zgk hdn.2);have p2:=e85 k (zgk hdn.2);have u0:=zCV k hy;rw[ey1]at u0;rw[x1]at o1 p1 lc;rw[x2]at o2 p2 u0 lc;rw[x3]at lc;rw[show (shD f g).2+((0:Nat):Int)=(shD f g).2 by omega]at lc;have hU:upN 20 (zsj f g) (zl9 f g) 0=shU f g:=rfl;have hD:dnN 20 (shU f g).1 (zl9 f g) (shU f g).2=shD f g:=rfl;rw[hU]at lu;rw[hD]at ld;unfold enF;rw[D70];unfold P70;have bt:∀{β:Type} (a b:DV) (K:List DS→Option β),bT [none,none] (some (.tup [.one a,.one b])) K=K [.one a,.one b]:=fun _ _ _=>rfl;simp only[m1,m2,zb];rw[lu];simp only[yq,Yzp,Yza,zz,yF];rw[ld];simp only[yq,Yzp,Yza,zz,yF,o1,o2,zX,p1,p2,bt,zkB,zf3,u0];rw[lc];rfl
theorem t69(k:Nat)(f g:Int×Int)(hf:f∈feetB)(hg:g∈feetA):D (k+4) 69 [SA (enF f),SA (enF g)]=some (S1 (I6 0)):=by grind[t72,zw3,zw4,enF,D69,P69,zX,zU,zb,zn]
theorem t49(k:Nat)(f g:Int×Int)(hf:f∈feetB)(hg:g∈feetA):D (k+5) 49 [SA (enF f),SA (enF g)]=some (.tup [.one (I6 (shf f g)),.one (I6 0)]):=by
 have c1:=t69 k f g hf hg
 grind[t70,enF,D49,P49,zX,zU,zb,zn]
end Go.Proofs.Tryz.Kn
end
section
namespace Go.Proofs.Tryz.Kn
open Go Go.CE Go.PE
def eqB(a b:ByteArray):Bool:=a.data.toList==b.data.toList
def enN(s:ByteArray):List DV:=[St s,Bo true]
theorem zo2(a b:ByteArray):zhO (.inl 2) (.one (St a)) (.one (St b))=some (eqB a b):=rfl
theorem qv(s:ByteArray):∀ns:List ByteArray,zfQ (.inl 2) 1048576 (.one (St s)) (ns.map enN)=some (if ns.any (eqB s)=true then some (.one (Bo true)) else none)
 | []=>rfl
 |n::ns=>by
  have e:zhO (.inl 2) (.one (St s)) (kD 1048576 (enN n))=some (eqB s n):=rfl;have v:vD 1048576 (enN n)=.one (Bo true):=rfl;rw[Yzv,zfQ,e,v,qv s ns,List.any_cons]
  grind
theorem zat(s:ByteArray):∀ns:List ByteArray,ns.any (eqB s)=false→zpR (.inl 2) 1048576 (.one (St s)) [St s,Bo true] (ns.map enN)=some ((ns++[s]).map enN)
 | [],_=>rfl
 |n::ns,h=>by simp only[List.any_cons,Bool.or_eq_false_iff]at h;have e:zhO (.inl 2) (.one (St s)) (kD 1048576 (enN n))=some (eqB s n):=rfl;simp only[Yzv,zpR,e,h.1,zat s ns h.2];rfl
theorem ztP(b:Bool):dsO (lkD (.one (Bo false)) (if b=true then some (DS.one (Bo true)) else none))=Bo b:=by cases b<;>rfl
structure Cpl where
 name:ByteArray
 src:Int
 dst:Int
 shift:Int
 thr:Bool
def enC(c:Cpl):List DV:=[St c.name,I6 c.src,I6 c.dst,I6 c.shift,Bo c.thr]
def enK(k:Int×Int):List DV:=[I6 k.1,I6 k.2]
theorem t78(k:Nat)(x c:Cpl):D (k+1) 78 [SA (enC x),S1 (.fp (enC c) 0)]=some (S1 (Bo (eqB x.name c.name))):=by unfold enC;rw[D78];rfl
theorem l94(k:Nat)(c:Cpl)(l:Sl Cpl)(hl:l.els.length≤9223372036854775807):∀(r:List Cpl) (i:Nat),l.els.drop i=r→
  zA (zpx (D (k+1)) (I6 (l.els.length:Int)) (enL 5 enC l) (.fn 78 [enC c])) [I6 (i:Int)] []=some (found (xO (fun x=>eqB x.name c.name) r i)):=by
 intro r
 induction r with
 |nil=>
  intro i h;refine zu ?_
  grind[zpx,zz,zj,zb,xY,ya,zn]
 |cons x r ih=>
  intro i h;have h1:=yH h;have ea:zc .add (I6 (i:Int)) (I6 1)=some (I6 ((i+1:Nat):Int)):=yQ;have cx:zhR (D (k+1)) (.fn 78 [enC c]) [SA [atD (enC x) 0,atD (enC x) 1,atD (enC x) 2,atD (enC x) 3,atD (enC x) 4]]=some (S1 (Bo (eqB x.name c.name))):=t78 k x c;have body:zpx (D (k+1)) (I6 (l.els.length:Int)) (enL 5 enC l) (.fn 78 [enC c]) [I6 (i:Int)] []=some (if eqB x.name c.name then(.ret,[I6 (i:Int)],[]) else(.normal,[I6 ((i+1:Nat):Int)],[])):=by
   simp only[zpx,zz,zj,zb,jX h1,zn,if_true,yc h,cx,zX,ea]
   grind
  cases hc:eqB x.name c.name with
  |true=>grind[zB,xO,found]
  |false=>grind[zH,zP,xO]
theorem t77(k:Nat)(c:Cpl)(l:Sl Cpl)(hl:l.els.length≤9223372036854775807):D (k+3) 77 [S1 (enL 5 enC l),S1 (.fn 78 [enC c])]=some (S1 (Bo (l.els.any fun x=>eqB x.name c.name))):=by
 have e:D (k+2) 94 [S1 (enL 5 enC l),S1 (.fn 78 [enC c])]=some (S1 (I6 (match xO (fun x=>eqB x.name c.name) l.els 0 with|some i=>(i:Int)|none=>-1))):=by rw[D94];unfold P94;have:=l94 k c l hl l.els 0 rfl;simp only[zD,zb];rw[show (I6 0:DV)=I6 ((0:Nat):Int) from rfl,this];cases xO (fun x=>eqB x.name c.name) l.els 0<;>rfl
 rw[D77];unfold P77;rw[e,←wv (fun x=>eqB x.name c.name) l.els 0];cases xO (fun x=>eqB x.name c.name) l.els 0<;>simp_all
def ziW(n:Nat):List Cpl→List Cpl→Int
 |_,[]=>0
 |p,c::r=>
  if isName c.name=false then 8 else if p.any (fun x=>eqB x.name c.name)=true then 9 else if c.src<0 then 10 else if (n:Int)≤c.src then 10 else if c.dst<0 then 10 else if (n:Int)≤c.dst then 10
  else if c.shift < -127 then 3 else if 127<c.shift then 3 else if c.src=c.dst∧c.shift=0 then 7 else ziW n (p++[c]) r
def zkG(ks:List (Int×Int))(l:List Cpl):Int:=
 if 8<ks.length then 4 else if 40<l.length then 4 else if ks.any (fun k=>right k.1 k.2 != 0)=true then 23 else ziW ks.length [] l
theorem l54(k:Nat)(ks:Sl (Int×Int))(l:List Cpl)(hl:l.length≤9223372036854775807):∀(r:List Cpl) (i:Nat),l.drop i=r→
  zA (zhE (D (k+3)) (I6 (l.length:Int)) (enL 5 enC (some l)) (enL 2 enK ks)) [I6 (i:Int)] []=some (zpT 2 (ziW ks.els.length (l.take i) r)):=by
 intro r
 induction r with
 |nil=>
  intro i h;refine zu ?_
  grind[zhE,zz,zj,zb,xY,ya,zn]
 |cons x r ih=>
  intro i h;have h1:=yH h;have ea:zc .add (I6 (i:Int)) (I6 1)=some (I6 ((i+1:Nat):Int)):=yQ;have ix:yW 5 (enL 5 enC (some l)) (I6 (i:Int))=some (enC x):=yc (v:=some l) h _;have sl:vY 5 (enL 5 enC (some l)) none (some (I6 (i:Int)))=some (enL 5 enC (some (l.take i))):=zcO (by omega);have c:=t77 k x (some (l.take i)) (by grind);have cn:=t50 (k+1) x.name;simp only[enC,xw]at c;have body:zhE (D (k+3)) (I6 (l.length:Int)) (enL 5 enC (some l)) (enL 2 enK ks) [I6 (i:Int)] [] =
    some (if isName x.name=false then(.ret,[I6 8],[]) else if (l.take i).any (fun y=>eqB y.name x.name)=true then(.ret,[I6 9],[]) else if x.src<0 then(.ret,[I6 10],[]) else if (ks.els.length:Int)≤x.src then(.ret,[I6 10],[])
     else if x.dst<0 then(.ret,[I6 10],[]) else if (ks.els.length:Int)≤x.dst then(.ret,[I6 10],[]) else if x.shift < -127 then(.ret,[I6 3],[]) else if 127<x.shift then(.ret,[I6 3],[])
     else if x.src=x.dst∧x.shift=0 then(.ret,[I6 7],[]) else(.normal,[I6 ((i+1:Nat):Int)],[])):=by
   simp only[zhE,zz,zj,zb,jX h1,zn,if_true,ix,enC,xE,vh,zD,zaw,yE,zO,sl,c,cn,zX,zuU,yY,ea,YzD];cases isName x.name<;>grind
  have hn:l.take (i+1)=l.take i++[x]:=by grind
  unfold ziW;by_cases a0:isName x.name=false
  ·rw[Yzd a0]at body ⊢;rw[zB body];rfl
  rw[Yzb a0]at body ⊢;by_cases a1:(l.take i).any (fun y=>eqB y.name x.name)=true
  ·rw[Yzd a1]at body ⊢;rw[zB body];rfl
  rw[Yzb a1]at body ⊢;by_cases a2:x.src<0
  ·rw[Yzd a2]at body ⊢;rw[zB body];rfl
  rw[Yzb a2]at body ⊢;by_cases a3:(ks.els.length:Int)≤x.src
  ·rw[Yzd a3]at body ⊢;rw[zB body];rfl
  rw[Yzb a3]at body ⊢;by_cases a4:x.dst<0
  ·rw[Yzd a4]at body ⊢;rw[zB body];rfl
  rw[Yzb a4]at body ⊢;by_cases a5:(ks.els.length:Int)≤x.dst
  ·rw[Yzd a5]at body ⊢;rw[zB body];rfl
  rw[Yzb a5]at body ⊢;by_cases a6:x.shift < -127
  ·rw[Yzd a6]at body ⊢;rw[zB body];rfl
  rw[Yzb a6]at body ⊢;by_cases a7:127<x.shift
  ·rw[Yzd a7]at body ⊢;rw[zB body];rfl
  rw[Yzb a7]at body ⊢;by_cases a8:x.src=x.dst∧x.shift=0
  ·rw[Yzd a8]at body ⊢;rw[zB body];rfl
  rw[Yzb a8]at body ⊢
  grind[zH,zP]
theorem zCg(k:Nat)(ks:Sl (Int×Int))(hl:ks.els.length≤9223372036854775807):∀(r:List (Int×Int)) (i:Nat),ks.els.drop i=r→
  zA (zpH (D (k+1)) (I6 (ks.els.length:Int)) (enL 2 enK ks)) [I6 (i:Int)] []=some (if r.any (fun k=>right k.1 k.2 != 0)=true then(.ret,[I6 23],[]) else(.exit 0,[],[])):=by
 intro r
 induction r with
 |nil=>grind[zu,zpH,zz,zj,zb,xY,ya,zn]
 |cons x r ih=>
  intro i h;have h1:=yH h;have ea:zc .add (I6 (i:Int)) (I6 1)=some (I6 ((i+1:Nat):Int)):=yQ;have c:=t75 k x.1 x.2;have body:zpH (D (k+1)) (I6 (ks.els.length:Int)) (enL 2 enK ks) [I6 (i:Int)] []=some (if right x.1 x.2=0 then(.normal,[I6 ((i+1:Nat):Int)],[]) else(.ret,[I6 23],[])):=by
   simp only[zpH,zz,zj,zb,jX h1,zn,if_true,yc h,enK,xE,vh,c,zX,zU,ea]
   grind
  by_cases hc:right x.1 x.2=0
  ·rw[Yzd hc]at body;rw[zH body,ih (i+1) (zP h),List.any_cons,hc];rfl
  ·rw[Yzb hc]at body;rw[zB body,Yzd (by simp[hc])]
theorem t54(k:Nat)(ks:Sl (Int×Int))(l:Sl Cpl)(hk:ks.els.length≤9223372036854775807)(hl:l.els.length≤9223372036854775807):D (k+4) 54 [S1 (enL 2 enK ks),S1 (enL 5 enC l)]=some (S1 (I6 (zkG ks.els l.els))):=by
 rw[D54];unfold P54 zkG;have ck:=zCg (k+2) ks hk ks.els 0 rfl;simp only[zD,zb,yE,zn];rw[show (I6 0:DV)=I6 ((0:Nat):Int) from rfl,ck];by_cases h1:8<ks.els.length
 ·grind
 have h2:¬((8:Int)<(ks.els.length:Int)):=by omega
 by_cases h3:40<l.els.length
 ·grind
 have h4:¬((40:Int)<(l.els.length:Int)):=by omega
 simp only[h1,h2,h3,h4,decide_false,Yzh,if_false];by_cases h5:ks.els.any (fun k=>right k.1 k.2 != 0)=true
 ·simp_all
 rw[Yzb h5,Yzb h5];simp only[yq,Yzp,Yza];cases l with
 |none=>rw[zu (id:=2) (L':=[]) (M':=[]) (by rfl)];rfl
 |some l=>have:=l54 k ks l hl l 0 rfl;rw[show Sl.els (some l:Sl Cpl)=l from rfl,this,List.take_zero];unfold zpT;by_cases h6:ziW ks.els.length [] l=0<;>simp[h6]
structure Zo where
 name:ByteArray
 pedal:Bool
 low:Int
 high:Int
 stops:Sl Zr
def enV(d:Zo):List DV:=[St d.name,Bo d.pedal,I6 d.low,I6 d.high,enL 4 vB d.stops]
structure Zo.ok (d:Zo):Prop where
 len:d.stops.els.length≤9223372036854775807
 stops:∀s∈d.stops.els,s.ok
structure Org where
 name:ByteArray
 ranks:Sl Zj
 divs:Sl Zo
 cpls:Sl Cpl
def enO(o:Org):List DV:=[St o.name,enL 6 enR o.ranks,enL 5 enV o.divs,enL 5 enC o.cpls]
structure Org.ok (o:Org):Prop where
 rl:o.ranks.els.length≤9223372036854775807
 ranks:∀r∈o.ranks.els,zec r
 dl:o.divs.els.length≤9223372036854775807
 divs:∀d∈o.divs.els,d.ok
 cl:o.cpls.els.length≤9223372036854775807
def qS(x:Place):List Zr→List ByteArray→Int
 | [],_=>0
 |s::r,ns=>if uB x s≠0 then uB x s else if ns.any (eqB s.name)=true then 9 else qS x r (ns++[s.name])
def zlk(id:Nat)(e:Int)(m:List OC):PX:=if e≠0 then(.ret,[I6 e],m) else(.exit id,[],m)
theorem l53(k:Nat)(x:Place)(hx:x.ok)(l:Sl Zr)(hl:l.els.length≤9223372036854775807)(hs:∀s∈l.els,s.ok):∀(r:List Zr) (i:Nat) (ns:List ByteArray),l.els.drop i=r→
  ∃m,zA (zpI (D (k+7)) (I6 (l.els.length:Int)) (enL 4 vB l) (enL 6 enR x.ranks) (I6 x.low) (I6 x.high)) [I6 (i:Int)] [some (ns.map enN)]=some (zlk 0 (qS x r ns) m):=by
 intro r
 induction r with
 |nil=>intro i ns h;refine⟨[some (ns.map enN)],zu ?_⟩;simp only[zpI,zz,zj,zb,xY (ya h),zn];rfl
 |cons s r ih=>
  intro i ns h;have h1:=yH h;have ea:zc .add (I6 (i:Int)) (I6 1)=some (I6 ((i+1:Nat):Int)):=yQ;have c:=t76 k x s hx (hs s (Lz3 (xa h)));simp only[enP,vB]at c;have body:∃m,zpI (D (k+7)) (I6 (l.els.length:Int)) (enL 4 vB l) (enL 6 enR x.ranks) (I6 x.low) (I6 x.high) [I6 (i:Int)] [some (ns.map enN)] =
    some (if uB x s≠0 then(.ret,[I6 (uB x s)],m) else if ns.any (eqB s.name)=true then(.ret,[I6 9],m) else(.normal,[I6 ((i+1:Nat):Int)],[some ((ns++[s.name]).map enN)])):=by
   refine⟨[some (ns.map enN)],?_⟩;simp only[zpI,zz,yM,zj,zb,jX h1,zn,if_true,yc h,vB,xE,vh,c,zX,zU,zab,zo2,qv,ztP,ea];by_cases hz:uB x s=0
   ·cases hb:ns.any (eqB s.name)<;>simp_all[zat]
   grind
  obtain⟨m,body⟩:=body;unfold qS;by_cases a1:uB x s≠0
  ·rw[Yzd a1]at body ⊢;exact⟨m,by rw[zB body];simp_all[zlk]⟩
  rw[Yzb a1]at body ⊢;by_cases a2:ns.any (eqB s.name)=true
  ·rw[Yzd a2]at body ⊢;exact⟨m,by rw[zB body];rfl⟩
  rw[Yzb a2]at body ⊢;rw[zH body];exact ih (i+1) _ (zP h)
def qM(rs:Sl Zj)(d:Zo):Int:=if right d.low d.high≠0 then right d.low d.high else if 60<d.stops.els.length then 4 else qS ⟨rs,d.low,d.high⟩ d.stops.els []
theorem t53(k:Nat)(o:Org)(ho:o.ok)(d:Zo)(hd:d.ok):D (k+8) 53 [SA (enO o),SA (enV d)]=some (S1 (I6 (qM o.ranks d))):=by
 have hx:Place.ok ⟨o.ranks,d.low,d.high⟩:=⟨ho.rl,ho.ranks⟩;obtain⟨m,l⟩:=l53 k ⟨o.ranks,d.low,d.high⟩ hx d.stops hd.len hd.stops d.stops.els 0 [] rfl;have c:=t75 (k+6) d.low d.high;unfold enO enV;rw[D53];unfold P53 qM;simp only[c,zX,zU,zb,zn,zD,yE];by_cases h1:right d.low d.high=0
 ·by_cases h2:60<d.stops.els.length
  ·grind
  ·have h3:¬((60:Int)<(d.stops.els.length:Int)):=by omega
   simp only[List.map_nil]at l;rw[show (I6 0:DV)=I6 ((0:Nat):Int) from rfl,l];unfold zlk;by_cases h4:qS ⟨o.ranks,d.low,d.high⟩ d.stops.els []=0<;>simp[h1,h2,h3,h4]
 grind
def j0:List Zj→List ByteArray→Int
 | [],_=>0
 |x::r,ns=>if y8 x≠0 then y8 x else if ns.any (eqB x.name)=true then 9 else j0 r (ns++[x.name])
theorem l27(k:Nat)(l:Sl Zj)(hl:l.els.length≤9223372036854775807)(hs:∀s∈l.els,zec s):∀(r:List Zj) (i:Nat) (ns:List ByteArray),l.els.drop i=r→
  ∃m,zA (zpK (D (k+5)) (I6 (l.els.length:Int)) (enL 6 enR l)) [I6 (i:Int)] [some (ns.map enN)]=some (zlk 1 (j0 r ns) m):=by
 intro r
 induction r with
 |nil=>intro i ns h;refine⟨[some (ns.map enN)],zu ?_⟩;simp only[zpK,zz,zj,zb,xY (ya h),zn];rfl
 |cons s r ih=>
  intro i ns h;have h1:=yH h;have ea:zc .add (I6 (i:Int)) (I6 1)=some (I6 ((i+1:Nat):Int)):=yQ;have c:=t51 k s (hs s (Lz3 (xa h)));simp only[enR]at c;have body:∃m,zpK (D (k+5)) (I6 (l.els.length:Int)) (enL 6 enR l) [I6 (i:Int)] [some (ns.map enN)] =
    some (if y8 s≠0 then(.ret,[I6 (y8 s)],m) else if ns.any (eqB s.name)=true then(.ret,[I6 9],m) else(.normal,[I6 ((i+1:Nat):Int)],[some ((ns++[s.name]).map enN)])):=by
   refine⟨[some (ns.map enN)],?_⟩;simp only[zpK,zz,yM,zj,zb,jX h1,zn,if_true,yc h,enR,xE,vh,c,zX,zU,zab,zo2,qv,ztP,ea];by_cases hz:y8 s=0
   ·cases hb:ns.any (eqB s.name)<;>simp_all[zat]
   grind
  obtain⟨m,body⟩:=body;unfold j0;by_cases a1:y8 s≠0
  ·rw[Yzd a1]at body ⊢;exact⟨m,by rw[zB body];simp_all[zlk]⟩
  rw[Yzb a1]at body ⊢;by_cases a2:ns.any (eqB s.name)=true
  ·rw[Yzd a2]at body ⊢;exact⟨m,by rw[zB body];rfl⟩
  rw[Yzb a2]at body ⊢;rw[zH body];exact ih (i+1) _ (zP h)
def zaY(rs:Sl Zj):List Zo→List ByteArray→Int
 | [],_=>0
 |d::r,ns=>if isName d.name=false then 8 else if ns.any (eqB d.name)=true then 9 else if qM rs d≠0 then qM rs d else zaY rs r (ns++[d.name])
def keyOf(d:Zo):Int×Int:=(d.low,d.high)
def grow{α:Type}(l:List α):Sl α:=match l with | []=>none|_=>some l
theorem zK{α:Type}(l:List α):(grow l).els=l:=by cases l<;>rfl
theorem wi{α:Type}(l:List α)(x:α):grow (l++[x])=some ((grow l).els++[x]):=by rw[zK];cases l<;>rfl
theorem zz0(k:Nat)(o:Org)(ho:o.ok)(hle:o.divs.els.length≤8):∀(r:List Zo) (i:Nat) (ns:List ByteArray),o.divs.els.drop i=r→
  ∃m,zA (zhF (D (k+8)) (I6 (o.divs.els.length:Int)) (enL 5 enV o.divs) (St o.name) (enL 6 enR o.ranks) (enL 5 enC o.cpls)) [I6 (i:Int)] [ocL enK (grow ((o.divs.els.take i).map keyOf)),some (ns.map enN)] =
   some (if zaY o.ranks r ns≠0 then(.ret,[I6 (zaY o.ranks r ns)],m) else(.exit 4,[],[ocL enK (grow (o.divs.els.map keyOf)),m.headD none])):=by
 intro r
 induction r with
 |nil=>intro i ns h;refine⟨[some (ns.map enN)],zu ?_⟩;have:o.divs.els.take i=o.divs.els:=List.take_of_length_le (ya h);simp only[zhF,zz,zj,zb,xY (ya h),zn,this];rfl
 |cons d r ih=>
  intro i ns h;have h1:=yH h;have ea:zc .add (I6 (i:Int)) (I6 1)=some (I6 ((i+1:Nat):Int)):=yQ;have c:=t53 k o ho d (ho.divs d (Lz3 (xa h)));have cn:=t50 (k+6) d.name;simp only[enO,enV]at c;have hn:o.divs.els.take (i+1)=o.divs.els.take i++[d]:=by grind
  have hlen:((grow ((o.divs.els.take i).map keyOf)).els).length=i:=by grind[zK]
  have ef:fits 16 ((grow ((o.divs.els.take i).map keyOf)).els.length+1)=true:=wH (by decide) (by omega);have body:∃m,zhF (D (k+8)) (I6 (o.divs.els.length:Int)) (enL 5 enV o.divs) (St o.name) (enL 6 enR o.ranks) (enL 5 enC o.cpls) [I6 (i:Int)] [ocL enK (grow ((o.divs.els.take i).map keyOf)),some (ns.map enN)] =
    some (if isName d.name=false then(.ret,[I6 8],m) else if ns.any (eqB d.name)=true then(.ret,[I6 9],m) else if qM o.ranks d≠0 then(.ret,[I6 (qM o.ranks d)],m)
     else(.normal,[I6 ((i+1:Nat):Int)],[ocL enK (grow ((o.divs.els.take (i+1)).map keyOf)),some ((ns++[d.name]).map enN)])):=by
   rw[hn,Yyi,Yzv,List.map_nil,wi];simp only[zhF,zz,yM,zbL,zj,zb,jX h1,zn,if_true,yc h,enV,xE,vh,c,cn,zX,yY,zU,zab,zo2,qv,ztP,ea,xZ,Yzm,YzJ,ef,kR,x9];cases isName d.name with
   |false=>simp
   |true=>
    cases hb:ns.any (eqB d.name) with
    |true=>simp
    |false=>
     refine⟨[some ((ns++[d.name]).map enN)],?_⟩;have ee:=vJ (f:=enK) (grow ((o.divs.els.take i).map keyOf)) (keyOf d);rw[←ee];simp only[zat d.name ns hb,zb];by_cases hz:qM o.ranks d=0
     ·simp[hz];rfl
     grind
  obtain⟨m,body⟩:=body;unfold zaY;by_cases a0:isName d.name=false
  ·simp only[Yzd a0]at body ⊢;grind[zB]
  simp only[Yzb a0]at body ⊢;by_cases a1:ns.any (eqB d.name)=true
  ·simp only[Yzd a1]at body ⊢;grind[zB]
  simp only[Yzb a1]at body ⊢;by_cases a2:qM o.ranks d≠0
  ·simp only[Yzd a2]at body ⊢;grind[zB]
  simp only[Yzb a2]at body ⊢;rw[zH body];exact ih (i+1) _ (zP h)
def jS(o:Org):Int:=
 if isName o.name=false then 8 else if 60<o.ranks.els.length then 4 else if j0 o.ranks.els []≠0 then j0 o.ranks.els [] else if o.divs.els.length=0 then 13 else if 8<o.divs.els.length then 4
 else if zaY o.ranks o.divs.els []≠0 then zaY o.ranks o.divs.els [] else zkG (o.divs.els.map keyOf) o.cpls.els
theorem t27(k:Nat)(o:Org)(ho:o.ok):D (k+9) 27 [SA (enO o)]=some (S1 (I6 (jS o))):=by
 obtain⟨m,l⟩:=l27 (k+3) o.ranks ho.rl ho.ranks o.ranks.els 0 [] rfl;have cn:=t50 (k+6) o.name;unfold enO;rw[D27];unfold P27 jS;simp only[cn,zX,yY,zU,zb,zn,zD,yE,zO];cases isName o.name with
 |false=>rfl
 |true=>
  by_cases h1:60<o.ranks.els.length
  ·grind
  have h2:¬((60:Int)<(o.ranks.els.length:Int)):=by omega
  simp only[List.map_nil]at l;simp only[h1,h2,decide_false,Yyf,Yzh,if_false,Bool.true_eq_false];rw[show (I6 0:DV)=I6 ((0:Nat):Int) from rfl,l];unfold zlk;by_cases h3:j0 o.ranks.els []≠0
  ·simp_all
  simp only[Yzb h3,yq,Yzp,Yza];by_cases h4:o.divs.els.length=0
  ·simp[h4]
  have h5:¬((o.divs.els.length:Int)=((0:Nat):Int)):=by omega
  by_cases h6:8<o.divs.els.length
  ·grind
  have h7:¬((8:Int)<(o.divs.els.length:Int)):=by omega
  obtain⟨m2,l2⟩:=zz0 k o ho (by omega) o.divs.els 0 [] rfl;simp only[List.take_zero,List.map_nil]at l2;rw[show ocL enK (grow ([]:List (Int×Int)))=none from rfl]at l2;have h9:((o.divs.els.length:Int)==0)=false:=by grind
  simp only[h4,h6,h7,h9,decide_false,Yzh,if_false];rw[l2];by_cases h8:zaY o.ranks o.divs.els []≠0
  ·simp_all
  have cc:=t54 (k+4) (grow (o.divs.els.map keyOf)) o.cpls (by grind[zK]) ho.cl;simp_all[zK,zps]
end Go.Proofs.Tryz.Kn
end
section
namespace Go.Proofs.Tryz.Kn
open Go Go.CE Go.PE
structure RPl where
 tone:Nat
 feet:Nat
 first:Int
 pipes:Nat
 w0:Nat
 w1:Nat
 w2:Nat
 w3:Nat
 w4:Nat
structure RPl.ok (r:RPl):Prop where
 tone:r.tone<256
 feet:r.feet<256
 f1:-128≤r.first
 f2:r.first≤127
 pipes:r.pipes<256
 w0:r.w0<256
 w1:r.w1<256
 w2:r.w2<256
 w3:r.w3<256
 w4:r.w4<256
def zf0(r:RPl):List DV:=[U8 (r.tone:Int),U8 (r.feet:Int),.int .i8 r.first,U8 (r.pipes:Int),U8 (r.w0:Int),U8 (r.w1:Int),U8 (r.w2:Int),U8 (r.w3:Int),U8 (r.w4:Int)]
structure Pul where
 rank:Nat
 feet:Nat
 kind:Nat
 at_:Nat
structure Pul.ok (x:Pul):Prop where
 rank:x.rank<256
 feet:x.feet<256
 kind:x.kind<256
 at_:x.at_<256
def ziQ(x:Pul):List DV:=[U8 (x.rank:Int),U8 (x.feet:Int),U8 (x.kind:Int),U8 (x.at_:Int)]
structure Boa where
 low:Nat
 keys:Nat
 pedal:Bool
 stops:Sl Pul
structure Boa.ok (b:Boa):Prop where
 low:b.low<256
 keys:b.keys<256
 len:b.stops.els.length≤9223372036854775807
 stops:∀x∈b.stops.els,x.ok
def kZ(b:Boa):List DV:=[U8 (b.low:Int),U8 (b.keys:Int),Bo b.pedal,enL 4 ziQ b.stops]
structure Lnk where
 src:Nat
 dst:Nat
 shift:Int
 thr:Bool
structure Lnk.ok (l:Lnk):Prop where
 src:l.src<256
 dst:l.dst<256
 s1:-128≤l.shift
 s2:l.shift≤127
def zl7(l:Lnk):List DV:=[U8 (l.src:Int),U8 (l.dst:Int),.int .i8 l.shift,Bo l.thr]
structure Pln where
 ranks:Sl RPl
 divs:Sl Boa
 cpls:Sl Lnk
structure Pln.ok (p:Pln):Prop where
 rl:p.ranks.els.length≤9223372036854775807
 ranks:∀x∈p.ranks.els,x.ok
 dl:p.divs.els.length≤9223372036854775807
 divs:∀x∈p.divs.els,x.ok
 cl:p.cpls.els.length≤9223372036854775807
 cpls:∀x∈p.cpls.els,x.ok
def zf1(p:Pln):List DV:=[enL 9 zf0 p.ranks,enL 4 kZ p.divs,enL 4 zl7 p.cpls]
def zl2(l:List Boa):Bool:=l.all fun b=>decide (b.stops.els.length≤3)
def zfP(p:Pln):Bool:=decide (1≤p.ranks.els.length)&&decide (p.ranks.els.length≤3)&&decide (1≤p.divs.els.length)&&decide (p.divs.els.length≤3)&&decide (p.cpls.els.length≤3)&&zl2 p.divs.els
theorem l6(l:Sl Boa)(hl:l.els.length≤9223372036854775807):∀(r:List Boa) (i:Nat),l.els.drop i=r→
  zA (zpE (enL 4 kZ l)) [I6 (i:Int)] []=some (if zl2 r then(.exit 0,[],[]) else(.ret,[Bo false],[])):=by
 intro r
 induction r with
 |nil=>
  intro i h;refine zu ?_
  grind[zpE,zz,zD,zj,zb,xY,ya,zn]
 |cons x r ih=>
  intro i h;have h1:=yH h;have ea:zc .add (I6 (i:Int)) (I6 1)=some (I6 ((i+1:Nat):Int)):=yQ;have body:zpE (enL 4 kZ l) [I6 (i:Int)] []=some (if x.stops.els.length≤3 then(.normal,[I6 ((i+1:Nat):Int)],[]) else(.ret,[Bo false],[])):=by
   simp only[zpE,zz,zD,zj,zb,jX h1,zn,if_true,yc h,kZ,xE,vh,yE,ea]
   grind
  by_cases hc:x.stops.els.length≤3
  ·rw[Yzd hc]at body;rw[zH body,ih (i+1) (zP h)];grind[zl2]
  ·rw[Yzb hc]at body;grind[zB,zl2]
theorem t6(k:Nat)(p:Pln)(hp:p.ok):D (k+1) 6 [SA (zf1 p)]=some (S1 (Bo (zfP p))):=by
 have l:=l6 p.divs hp.dl p.divs.els 0 rfl;unfold zf1;rw[D6];unfold P6 zfP;simp only[zD,zb,zj,yE,zn,YzD];rw[show (I6 0:DV)=I6 ((0:Nat):Int) from rfl,l];by_cases h1:1≤p.ranks.els.length
 ·have g1:¬((p.ranks.els.length:Int)<1):=by omega
  by_cases h2:p.ranks.els.length≤3
  ·have g2:¬((3:Int)<(p.ranks.els.length:Int)):=by omega
   by_cases h3:1≤p.divs.els.length
   ·have g3:¬((p.divs.els.length:Int)<1):=by omega
    by_cases h4:p.divs.els.length≤3
    ·have g4:¬((3:Int)<(p.divs.els.length:Int)):=by omega
     by_cases h5:p.cpls.els.length≤3
     ·have g5:¬((3:Int)<(p.cpls.els.length:Int)):=by omega
      simp only[Yzb g1,Yzb g2,Yzb g3,Yzb g4,Yzb g5,decide_eq_true h1,decide_eq_true h2,decide_eq_true h3,decide_eq_true h4,decide_eq_true h5,Yye];cases zl2 p.divs.els<;>rfl
     ·grind
    ·grind
   ·grind
  ·grind
 ·grind
theorem zj3{α:Type}(f:α→List DV)(l:List α)(i:Nat):jW (some (l.map f)) i=(l[i]?).map f:=by show (l.map f)[i]? = _;rw[Lz6]
theorem t47(k:Nat)(n:Nat):D (k+1) 47 [S1 (U8 (n:Int))]=some (SA (enF (fA n))):=by
 rw[D47];unfold P47;have e:zc .rem (U8 (n:Int)) (U8 16)=some (U8 ((n % 16:Nat):Int)):=zlq (b:=16) (by decide);have i:xe (some (feetA.map enF)) (U8 ((n % 16:Nat):Int))=some (n % 16):=jC (by rw[Yzj];exact Yz6 _ (by decide));have j:jW (some (feetA.map enF)) (n % 16)=some (enF (fA n)):=by grind[zj3,zsp]
 rw[e,zb];refine (congrArg (za · _) i).trans ?_;rw[zb];refine (congrArg (za · _) j).trans ?_;rfl
theorem t48(k:Nat)(n:Nat):D (k+1) 48 [S1 (U8 (n:Int))]=some (SA (enF (fB n))):=by
 rw[D48];unfold P48;have e:zc .rem (U8 (n:Int)) (U8 6)=some (U8 ((n % 6:Nat):Int)):=zlq (b:=6) (by decide);have i:xe (some (feetB.map enF)) (U8 ((n % 6:Nat):Int))=some (n % 6):=jC (by rw[Yzj];exact Yz6 _ (by decide));have j:jW (some (feetB.map enF)) (n % 6)=some (enF (fB n)):=by grind[zj3,zsn]
 rw[e,zb];refine (congrArg (za · _) i).trans ?_;rw[zb];refine (congrArg (za · _) j).trans ?_;rfl
def pre(c:UInt8)(i:Nat):ByteArray:=⟨#[c]⟩++zcK [48+(i:Int)] ByteArray.empty
theorem zfa(c:UInt8)(i:Nat):znx .add (.str ⟨#[c]⟩) (.str (zcK [48+(i:Int)] ByteArray.empty))=some (St (pre c i)):=rfl
theorem zcf(i:Nat):znE (.lst 1 [[U8 (48+(i:Int))]])=some (St (zcK [48+(i:Int)] ByteArray.empty)):=rfl
def zk1:Nat→ByteArray
 |0=>⟨#[79,112,101,110]⟩
 |1=>⟨#[70,108,117,116,101]⟩
 |_=>⟨#[82,101,101,100]⟩
def wAt(r:RPl):Nat→Nat
 |0=>r.w0
 |1=>r.w1
 |2=>r.w2
 |3=>r.w3
 |_=>r.w4
def jY(r:RPl)(n:Nat):List Int:=(List.range n).map fun k=>((wAt r (k % 5):Nat):Int)
theorem zdW(r:RPl)(n:Nat):jY r (n+1)=jY r n++[((wAt r (n % 5):Nat):Int)]:=by grind[jY,List.range_succ]
theorem zcv(r:RPl)(n:Nat):(jY r n).length=n:=by simp[jY]
theorem zrT{r:RPl}(h:r.ok)(i:Nat):wAt r i<256:=by
 unfold wAt;split
 ·exact h.w0
 ·exact h.w1
 ·exact h.w2
 ·exact h.w3
 ·exact h.w4
def zq7(i:Nat)(r:RPl):Zj:=⟨pre 82 (i % 10),zk1 (r.tone % 3),(fA r.feet).1,(fA r.feet).2,r.first,some (jY r (1+r.pipes % 25))⟩
theorem l25(r:RPl)(hr:r.ok)(c0 c1 c2 c3 c4:DV):∀(m j:Nat),j+m=1+r.pipes % 25→
  zA (zhG (U8 (r.pipes:Int)) (U8 (r.w0:Int)) (U8 (r.w1:Int)) (U8 (r.w2:Int)) (U8 (r.w3:Int)) (U8 (r.w4:Int))) [I6 (j:Int),c0,c1,c2,c3,c4] [ocL enW (grow (jY r j))] =
   some (.exit 0,[c0,c1,c2,c3,c4],[ocL enW (grow (jY r (1+r.pipes % 25)))]):=by
 have e1:zc .rem (U8 (r.pipes:Int)) (U8 25)=some (U8 ((r.pipes % 25:Nat):Int)):=zlq (b:=25) (by decide);have hm:r.pipes % 25<25:=Yz6 _ (by omega);have e2:xx .i64 (U8 ((r.pipes % 25:Nat):Int))=some (I6 ((r.pipes % 25:Nat):Int)):=qN;have e3:zc .add (I6 1) (I6 ((r.pipes % 25:Nat):Int))=some (I6 ((1+r.pipes % 25:Nat):Int)):=by grind[yQ]
 intro m
 induction m with
 |zero=>
  intro j hj;refine zu ?_;have hj':j=1+r.pipes % 25:=by omega
  subst hj';have:decide (((1+r.pipes % 25:Nat):Int)<((1+r.pipes % 25:Nat):Int))=false:=xY (by omega);simp_all[zhG]
 |succ m ih=>
  intro j hj;have hlt:decide ((j:Int)<((1+r.pipes % 25:Nat):Int))=true:=jX (by omega);have ea:zc .add (I6 (j:Int)) (I6 1)=some (I6 ((j+1:Nat):Int)):=yQ;have eb:zc .rem (I6 (j:Int)) (I6 5)=some (I6 ((j % 5:Nat):Int)):=zlq (b:=5) (by decide);have h5:j % 5<5:=Yz6 _ (by omega);have en:jV 5 (I6 ((j % 5:Nat):Int))=some (j % 5):=zjT h5;have hw:=zrT hr (j % 5);have ew:atD [U8 (r.w0:Int),U8 (r.w1:Int),U8 (r.w2:Int),U8 (r.w3:Int),U8 (r.w4:Int)] (j % 5)=U8 ((wAt r (j % 5):Nat):Int):=by
   have:j % 5=0∨j % 5=1∨j % 5=2∨j % 5=3∨j % 5=4:=by omega
   rcases this with h|h|h|h|h<;>rw[h]<;>rfl
  have ec:xx .i64 (U8 ((wAt r (j % 5):Nat):Int))=some (I6 ((wAt r (j % 5):Nat):Int)):=qN;have ef:fits 8 ((grow (jY r j)).els.length+1)=true:=wH (by decide) (by grind[zK,zcv]);have body:zhG (U8 (r.pipes:Int)) (U8 (r.w0:Int)) (U8 (r.w1:Int)) (U8 (r.w2:Int)) (U8 (r.w3:Int)) (U8 (r.w4:Int)) [I6 (j:Int),c0,c1,c2,c3,c4] [ocL enW (grow (jY r j))] =
    some (.normal,[I6 ((j+1:Nat):Int),c0,c1,c2,c3,c4],[ocL enW (grow (jY r (j+1)))]):=by
   rw[zdW,wi];simp_all[zhG,vJ]
  grind[zH]
theorem t25(k:Nat)(i:Nat)(hi:i<10)(r:RPl)(hr:r.ok):D (k+2) 25 [SA (zf0 r),S1 (I6 (i:Int))]=some (SA (enR (zq7 i r))):=by
 unfold zf0;rw[D25];unfold P25;have e1:zc .rem (I6 (i:Int)) (I6 10)=some (I6 ((i % 10:Nat):Int)):=zlq (b:=10) (by decide);have h10:i % 10<10:=Yz6 _ (by decide);have e2:zc .add (I6 48) (I6 ((i % 10:Nat):Int))=some (I6 (48+((i % 10:Nat):Int))):=yQ;have e3:xx .u8 (I6 (48+((i % 10:Nat):Int)))=some (U8 (48+((i % 10:Nat):Int))):=by
  show some (DV.int .u8 (wB .u8 (48+((i % 10:Nat):Int))))=_
  grind[zpY]
 have e4:zc .rem (U8 (r.tone:Int)) (U8 3)=some (U8 ((r.tone % 3:Nat):Int)):=zlq (b:=3) (by decide);have e5:xx .i64 (.int .i8 r.first)=some (I6 r.first):=by
  have:=hr.f1;have:=hr.f2
  exact qN
 have l:=l25 r hr (St (pre 82 (i % 10))) (St (zk1 (r.tone % 3))) (I6 (fA r.feet).1) (I6 (fA r.feet).2) (I6 r.first) (1+r.pipes % 25) 0 (by omega);rw[show ocL enW (grow (jY r 0))=none from rfl]at l;have hg:grow (jY r (1+r.pipes % 25))=some (jY r (1+r.pipes % 25)):=by grind[zdW,wi,zK]
 rw[hg]at l;have h3:r.tone % 3=0∨r.tone % 3=1∨r.tone % 3=2:=by omega
 have et:za (xe (some [[(.str ⟨#[79,112,101,110]⟩)],[(.str ⟨#[70,108,117,116,101]⟩)],[(.str ⟨#[82,101,101,100]⟩)]]) (U8 ((r.tone % 3:Nat):Int))) (fun n6=>jW (some [[(.str ⟨#[79,112,101,110]⟩)],[(.str ⟨#[70,108,117,116,101]⟩)],[(.str ⟨#[82,101,101,100]⟩)]]) n6)=some [St (zk1 (r.tone % 3))]:=by rcases h3 with h|h|h<;>rw[h]<;>rfl
 have eu:∀{β:Type} (K:List DV→Option β),za (xe (some [[(.str ⟨#[79,112,101,110]⟩)],[(.str ⟨#[70,108,117,116,101]⟩)],[(.str ⟨#[82,101,101,100]⟩)]]) (U8 ((r.tone % 3:Nat):Int))) (fun n6=>za (jW (some [[(.str ⟨#[79,112,101,110]⟩)],[(.str ⟨#[70,108,117,116,101]⟩)],[(.str ⟨#[82,101,101,100]⟩)]]) n6) K)=K [St (zk1 (r.tone % 3))]:=by intro β K;rcases h3 with h|h|h<;>rw[h]<;>rfl
 have c:=t47 k r.feet;simp only[e1,e2,e3,e4,zb,zcf,zfa];rw[eu];rw[c];unfold enF;rw[zAG (show[I6 (fA r.feet).1,I6 (fA r.feet).2].length=2 from rfl)];simp only[e5,zb,xE,vh];rw[show (I6 0:DV)=I6 ((0:Nat):Int) from rfl,l];rfl
end Go.Proofs.Tryz.Kn
end
section
namespace Go.Proofs.Tryz.Kn
open Go Go.CE Go.PE
theorem bT2{β:Type}(a b:DV)(K:List DS→Option β):bT [none,none] (some (.tup [.one a,.one b])) K=K [.one a,.one b]:=rfl
def zgp(rs:List Zj)(i:Nat):Zj:=(rs[i]?).getD ⟨ByteArray.empty,ByteArray.empty,8,1,0,none⟩
theorem ze1{rs:List Zj}{i:Nat}(h:i<rs.length):rs[i]? = some (zgp rs i):=by grind[zgp]
theorem zap{rs:List Zj}{i:Nat}(h:i<rs.length):zgp rs i∈rs:=Lz3 (ze1 h)
def xV(low high:Int)(n:Int)(sh:Int)(m:Int)(sh2:Int)(at_:Int):Nat→List Seg
 |2=>[⟨low,high,some [⟨n,sh⟩,⟨n,sh+7⟩]⟩]
 |3=>if low<at_ then[⟨low,at_-1,some [⟨n,sh⟩]⟩,⟨at_,high,some [⟨m,sh2⟩]⟩] else[⟨at_,high,some [⟨m,sh2⟩]⟩]
 |4=>if low<at_ then[⟨low,at_-1,some [⟨n,sh⟩]⟩,⟨at_,high,some [⟨n,sh-12⟩]⟩] else[⟨at_,high,some [⟨n,sh-12⟩]⟩]
 |5=>[⟨at_,high,some [⟨n,sh⟩]⟩]
 |_=>[⟨low,high,some [⟨n,sh⟩]⟩]
def rkF(r:Zj):Int×Int:=(r.num,r.den)
def qI(rs:List Zj)(low high:Int)(i:Nat)(x:Pul):Zr:=
 ⟨pre 83 i, (fB x.feet).1, (fB x.feet).2, some (xV low high ((x.rank % rs.length : Nat) : Int) (shf (fB x.feet) (rkF (zgp rs (x.rank % rs.length)))) (((x.rank % rs.length + 1) % rs.length : Nat) : Int)
  (shf (fB x.feet) (rkF (zgp rs ((x.rank % rs.length+1) % rs.length)))) (low+((x.at_:Int).tmod (high-low+1))) (x.kind % 6))⟩
theorem t26(k:Nat)(rs:List Zj)(hl:0<rs.length)(hl3:rs.length≤1000)(hf:∀r∈rs,rkF r∈feetA)(low high:Int)(h0:0≤low)(h1:low≤high)(h2:high≤1000)(x:Pul)(hx:x.ok)(i:Nat)(hi:i<10):
  D (k+6) 26 [S1 (enL 6 enR (some rs)),SA [I6 low,I6 high],SA (ziQ x),S1 (I6 (i:Int))]=some (SA (vB (qI rs low high i x))):=by
 unfold ziQ;rw[D26];unfold P26 qI;have hn:x.rank % rs.length<rs.length:=Yz6 _ hl;have hm:(x.rank % rs.length+1) % rs.length<rs.length:=Yz6 _ hl;generalize hN:x.rank % rs.length=n at hn hm;generalize hM:(n+1) % rs.length=m at hm;have e0:xx .i64 (U8 (x.rank:Int))=some (I6 (x.rank:Int)):=by have:=hx.rank;exact qN
 have e1:zc .rem (I6 (x.rank:Int)) (I6 (rs.length:Int))=some (I6 (n:Int)):=by grind[zlq]
 have e2:zc .add (I6 48) (I6 (i:Int))=some (I6 (48+(i:Int))):=yQ;have e3:xx .u8 (I6 (48+(i:Int)))=some (U8 (48+(i:Int))):=by
  show some (DV.int .u8 (wB .u8 (48+(i:Int))))=_
  grind[zpY]
 have c1:=t48 (k+4) x.feet;have ix:yW 6 (enL 6 enR (some rs)) (I6 (n:Int))=some (enR (zgp rs n)):=by grind[jB,ze1]
 have ix2:yW 6 (enL 6 enR (some rs)) (I6 (m:Int))=some (enR (zgp rs m)):=by grind[jB,ze1]
 have s1:=t49 k (fB x.feet) (rkF (zgp rs n)) (zeB _) (hf _ (zap hn));have s2:=t49 k (fB x.feet) (rkF (zgp rs m)) (zeB _) (hf _ (zap hm));have b1:=zm0 (fB x.feet) (rkF (zgp rs n)) (zeB _) (hf _ (zap hn));generalize shf (fB x.feet) (rkF (zgp rs n))=sh at s1 b1 ⊢;generalize shf (fB x.feet) (rkF (zgp rs m))=sh2 at s2 ⊢;unfold rkF enF at s1 s2;unfold enF at c1;generalize (fB x.feet).1=u at c1 s1 s2 ⊢;generalize (fB x.feet).2=v at c1 s1 s2 ⊢;simp only at s1 s2;have e4:xx .i64 (U8 (x.at_:Int))=some (I6 (x.at_:Int)):=by have:=hx.at_;exact qN
 have e5:zc .sub (I6 high) (I6 low)=some (I6 (high-low)):=zmK;have e6:zc .add (I6 (high-low)) (I6 1)=some (I6 (high-low+1)):=yQ;have e7:zc .rem (I6 (x.at_:Int)) (I6 (high-low+1))=some (I6 ((x.at_:Int).tmod (high-low+1))):=zcc _ _ _ (by omega);have hq:0≤(x.at_:Int).tmod (high-low+1)∧(x.at_:Int).tmod (high-low+1)<high-low+1:=⟨Int.tmod_nonneg _ (by omega),Int.tmod_lt_of_pos _ (by omega)⟩;generalize (x.at_:Int).tmod (high-low+1)=q at e7 hq ⊢;have e8:zc .add (I6 low) (I6 q)=some (I6 (low+q)):=yQ;have e9:zc .rem (U8 (x.kind:Int)) (U8 6)=some (U8 ((x.kind % 6:Nat):Int)):=zlq (b:=6) (by decide);have e10:zc .add (I6 sh) (I6 7)=some (I6 (sh+7)):=yQ;have e11:zc .sub (I6 sh) (I6 12)=some (I6 (sh-12)):=zmK;have e12:zc .add (I6 (n:Int)) (I6 1)=some (I6 ((n+1:Nat):Int)):=yQ;have e13:zc .rem (I6 ((n+1:Nat):Int)) (I6 (rs.length:Int))=some (I6 (m:Int)):=by rw[←hM];exact zlq (by omega)
 have e14:zc .sub (I6 (low+q)) (I6 1)=some (I6 (low+q-1)):=zmK;have f1:fits 40 1=true:=by decide
 have f2:fits 40 2=true:=by decide
 have hk:x.kind % 6<6:=Yz6 _ (by decide);generalize x.kind % 6=kd at e9 hk ⊢;have b2:∀{β:Type} (a b:DV) (K:List DV→Option β),bA 2 (some (SA [a,b])) K=K [a,b]:=fun _ _ _=>rfl;simp only[e0,zb,zD,xw,e1,e2,e3,zcf,zfa,c1,b2,xE,vh,ix,enR,s1,bT2,zkB,zf3,e4,e5,e6,e7,e8,e9,zO,yE,zn,e10,e11,e12,e13,ix2,s2,e14];have hkd:kd=0∨kd=1∨kd=2∨kd=3∨kd=4∨kd=5:=by omega
 rcases hkd with h|h|h|h|h|h<;>subst h
 ·rfl
 ·rfl
 ·rfl
 ·by_cases hb:low<low+q
  ·simp only[xV,Yzd hb,decide_eq_true hb];rfl
  ·simp only[xV,Yzb hb,decide_eq_false hb];rfl
 ·by_cases hb:low<low+q
  ·simp only[xV,Yzd hb,decide_eq_true hb];rfl
  ·simp only[xV,Yzb hb,decide_eq_false hb];rfl
 ·rfl
def vL:Nat→List RPl→List Zj
 |_,[]=>[]
 |i,r::l=>zq7 i r::vL (i+1) l
def wR(rs:List Zj)(low high:Int):Nat→List Pul→List Zr
 |_,[]=>[]
 |i,x::l=>qI rs low high i x::wR rs low high (i+1) l
def zg3(b:Boa):Int:=36+((b.low % 12:Nat):Int)
def zdf(b:Boa):Int:=zg3 b+((b.keys % 9:Nat):Int)
def zgY(rs:List Zj)(i:Nat)(b:Boa):Zo:=⟨pre 68 i,b.pedal,zg3 b,zdf b,grow (wR rs (zg3 b) (zdf b) 0 b.stops.els)⟩
def uu(rs:List Zj):Nat→List Boa→List Zo
 |_,[]=>[]
 |i,b::l=>zgY rs i b::uu rs (i+1) l
def qX(n:Nat)(i:Nat)(l:Lnk):Cpl:=
 ⟨pre 67 i,((l.src % n:Nat):Int),((l.dst % n:Nat):Int),if ((l.src % n:Nat):Int)=((l.dst % n:Nat):Int)∧l.shift.tmod 25=0 then 12 else l.shift.tmod 25,l.thr⟩
def zaD(n:Nat):Nat→List Lnk→List Cpl
 |_,[]=>[]
 |i,c::l=>qX n i c::zaD n (i+1) l
def zgO:ByteArray:=⟨#[79,114,103,97,110]⟩
def zmp(p:Pln):Org:=⟨zgO,grow (vL 0 p.ranks.els),grow (uu (vL 0 p.ranks.els) 0 p.divs.els),grow (zaD p.divs.els.length 0 p.cpls.els)⟩
theorem zaC:∀(l:List RPl) (i:Nat),(vL i l).length=l.length
 | [],_=>rfl
 |_::l,i=>by simp[vL,zaC l]
theorem zbl:∀(l:List RPl) (i:Nat),∀r∈vL i l,rkF r∈feetA
 | [],_,_,h=>by cases h
 |x::l,i,r,h=>by
  rcases Yzw.1 h with rfl|h
  ·exact zso x.feet
  ·exact zbl l _ r h
theorem zCk(k:Nat)(l:Sl RPl)(hl:l.els.length≤3)(hr:∀x∈l.els,x.ok)(nm:DV):∀(r:List RPl) (i:Nat) (acc:List Zj),l.els.drop i=r→acc.length=i→
  zA (zyt (D (k+2)) (enL 9 zf0 l)) [I6 (i:Int),nm] [ocL enR (grow acc),none,none]=some (.exit 0,[nm],[ocL enR (grow (acc++vL i r)),none,none]):=by
 intro r
 induction r with
 |nil=>grind[zu,zyt,zz,yF,yM,zbL,zD,zj,zb,xY,ya,zn,vL]
 |cons x r ih=>
  intro i acc h ha;have h1:=yH h;have ea:zc .add (I6 (i:Int)) (I6 1)=some (I6 ((i+1:Nat):Int)):=yQ;have c:=t25 k i (by omega) x (hr x (Lz3 (xa h)));have ef:fits 80 ((grow acc).els.length+1)=true:=wH (by decide) (by grind[zK]);have b6:∀{β:Type} (K:List DV→Option β),bA 6 (some (SA (enR (zq7 i x)))) K=K (enR (zq7 i x)):=fun _=>rfl;have body:zyt (D (k+2)) (enL 9 zf0 l) [I6 (i:Int),nm] [ocL enR (grow acc),none,none]=some (.normal,[I6 ((i+1:Nat):Int),nm],[ocL enR (grow (acc++[zq7 i x])),none,none]):=by rw[wi];unfold zf0 at c;simp only[zyt,zz,yF,yM,zbL,zD,zj,zb,jX h1,zn,if_true,yc h,zf0,xE,vh,c,b6,xZ,Yzm,YzJ,ef,kR,ea,x9];rw[←vJ (f:=enR)];rfl
  rw[zH body,ih (i+1) _ (zP h) (by simp[ha])];simp[vL]
theorem zz2(k:Nat)(rs:List Zj)(hl:0<rs.length)(hl3:rs.length≤1000)(hf:∀r∈rs,rkF r∈feetA)(b:Boa)(hb:b.ok)(h3:b.stops.els.length≤3)(low high:Int)(h0:0≤low)(h1:low≤high)(h2:high≤1000)(d0 d1 c0 c1:DV):
  ∀(r:List Pul) (i:Nat) (acc:List Zr),b.stops.els.drop i=r→acc.length=i→
  zA (zpC (D (k+6)) (kZ b) [d0,d1,enL 6 enR (some rs)]) [I6 (i:Int),c0,c1,I6 low,I6 high] [ocL vB (grow acc)]=some (.exit 4,[c0,c1,I6 low,I6 high],[ocL vB (grow (acc++wR rs low high i r))]):=by
 intro r
 induction r with
 |nil=>intro i acc h _;refine zu ?_;simp only[zpC,kZ,xE,vh,zz,yF,yM,zD,zj,zb,xY (ya h),zn,wR,Yz5];rfl
 |cons x r ih=>
  intro i acc h ha;have hlt:=yH h;have ea:zc .add (I6 (i:Int)) (I6 1)=some (I6 ((i+1:Nat):Int)):=yQ;have c:=t26 k rs hl hl3 hf low high h0 h1 h2 x (hb.stops x (Lz3 (xa h))) i (by omega);have ef:fits 56 ((grow acc).els.length+1)=true:=wH (by decide) (by grind[zK]);have b4:∀{β:Type} (K:List DV→Option β),bA 4 (some (SA (vB (qI rs low high i x)))) K=K (vB (qI rs low high i x)):=fun _=>rfl;have body:zpC (D (k+6)) (kZ b) [d0,d1,enL 6 enR (some rs)] [I6 (i:Int),c0,c1,I6 low,I6 high] [ocL vB (grow acc)]=some (.normal,[I6 ((i+1:Nat):Int),c0,c1,I6 low,I6 high],[ocL vB (grow (acc++[qI rs low high i x]))]):=by rw[wi];unfold ziQ at c;simp only[zpC,kZ,zz,yF,yM,zD,zj,zb,jX hlt,zn,if_true,xE,vh,yc h,ziQ,c,b4,xZ,Yzm,YzJ,ef,kR,ea,x9];rw[←vJ (f:=vB)];rfl
  rw[zH body,ih (i+1) _ (zP h) (by simp[ha])];simp[wR]
theorem zix(b:Boa):36≤zg3 b∧zg3 b≤47:=by grind[zg3]
theorem zfL(b:Boa):zg3 b≤zdf b∧zdf b≤zg3 b+8:=by grind[zdf]
theorem zz3(k:Nat)(rs:List Zj)(hl:0<rs.length)(hl3:rs.length≤1000)(hf:∀r∈rs,rkF r∈feetA)(l:Sl Boa)(hll:l.els.length≤3)(hb:∀b∈l.els,b.ok)(h3:∀b∈l.els,b.stops.els.length≤3)(nm:DV):
  ∀(r:List Boa) (i:Nat) (acc:List Zo),l.els.drop i=r→acc.length=i→
  zA (zpD (D (k+6)) (enL 4 kZ l)) [I6 (i:Int),nm,enL 6 enR (some rs)] [ocL enV (grow acc),none]=some (.exit 2,[nm,enL 6 enR (some rs)],[ocL enV (grow (acc++uu rs i r)),none]):=by
 intro r
 induction r with
 |nil=>grind[zu,zpD,zz,yF,yM,zbL,zD,zj,zb,xY,ya,zn,uu]
 |cons b r ih=>
  intro i acc h ha;have hlt:=yH h;have hmem:=Lz3 (xa h);have ea:zc .add (I6 (i:Int)) (I6 1)=some (I6 ((i+1:Nat):Int)):=yQ;have hlow:=zix b;have hhigh:=zfL b;have e1:zc .rem (U8 (b.low:Int)) (U8 12)=some (U8 ((b.low % 12:Nat):Int)):=zlq (b:=12) (by decide);have e2:xx .i64 (U8 ((b.low % 12:Nat):Int))=some (I6 ((b.low % 12:Nat):Int)):=qN;have e3:zc .add (I6 36) (I6 ((b.low % 12:Nat):Int))=some (I6 (zg3 b)):=yQ;have e4:zc .add (I6 48) (I6 (i:Int))=some (I6 (48+(i:Int))):=yQ;have e5:xx .u8 (I6 (48+(i:Int)))=some (U8 (48+(i:Int))):=by show some (DV.int .u8 (wB .u8 (48+(i:Int))))=_;rw[zpY];congr 2;omega
  have e6:zc .rem (U8 (b.keys:Int)) (U8 9)=some (U8 ((b.keys % 9:Nat):Int)):=zlq (b:=9) (by decide);have e7:xx .i64 (U8 ((b.keys % 9:Nat):Int))=some (I6 ((b.keys % 9:Nat):Int)):=qN;have e8:zc .add (I6 (zg3 b)) (I6 ((b.keys % 9:Nat):Int))=some (I6 (zdf b)):=by have:zc .add (I6 (zg3 b)) (I6 ((b.keys % 9:Nat):Int))=some (I6 (zg3 b+((b.keys % 9:Nat):Int))):=yQ;exact this
  have ll:=zz2 k rs hl hl3 hf b (hb b hmem) (h3 b hmem) (zg3 b) (zdf b) (by omega) (by omega) (by omega) (I6 (i:Int)) nm (St (pre 68 i)) (Bo b.pedal) b.stops.els 0 [] rfl rfl;rw[show ocL vB (grow ([]:List Zr))=none from rfl,show (I6 ((0:Nat):Int):DV)=I6 0 from rfl,Yz0]at ll;have ef:fits 64 ((grow acc).els.length+1)=true:=wH (by decide) (by grind[zK]);have body:zpD (D (k+6)) (enL 4 kZ l) [I6 (i:Int),nm,enL 6 enR (some rs)] [ocL enV (grow acc),none]=some (.normal,[I6 ((i+1:Nat):Int),nm,enL 6 enR (some rs)],[ocL enV (grow (acc++[zgY rs i b])),none]):=by rw[wi];have ix:yW 4 (enL 4 kZ l) (I6 (i:Int))=some (kZ b):=yc h _;have q0:atD (kZ b) 0=U8 (b.low:Int):=rfl;have q1:atD (kZ b) 1=U8 (b.keys:Int):=rfl;have q2:atD (kZ b) 2=Bo b.pedal:=rfl;simp only[zpD,zz,yF,yM,zbL,zD,zj,zb,jX hlt,zn,if_true,ix,q0,q1,q2,e1,e2,e3,e4,e5,zcf,zfa,e6,e7,e8,ll,yq,Yzp,Yza,xZ,Yzm,YzJ,ef,kR,ea,x9,kK];rw[←vJ (f:=enV)];rfl
  rw[zH body,ih (i+1) _ (zP h) (by simp[ha])];simp[uu]
theorem zzZ(n:Nat)(hn:0<n)(hn3:n≤1000)(l:Sl Lnk)(hll:l.els.length≤3)(hb:∀b∈l.els,b.ok)(nm rk:DV)(dv:OC):
  ∀(r:List Lnk) (i:Nat) (acc:List Cpl),l.els.drop i=r→acc.length=i→
  zA (zpB (enL 4 zl7 l) (I6 (n:Int))) [I6 (i:Int),nm,rk] [dv,ocL enC (grow acc)]=some (.exit 6,[nm,rk],[dv,ocL enC (grow (acc++zaD n i r))]):=by
 intro r
 induction r with
 |nil=>grind[zu,zpB,zz,yF,yM,zbL,zD,zj,zb,xY,ya,zn,zaD]
 |cons b r ih=>
  intro i acc h ha;have hlt:=yH h;have hbb:=hb b (Lz3 (xa h));have ea:zc .add (I6 (i:Int)) (I6 1)=some (I6 ((i+1:Nat):Int)):=yQ;have e4:zc .add (I6 48) (I6 (i:Int))=some (I6 (48+(i:Int))):=yQ;have e5:xx .u8 (I6 (48+(i:Int)))=some (U8 (48+(i:Int))):=by show some (DV.int .u8 (wB .u8 (48+(i:Int))))=_;rw[zpY];congr 2;omega
  have g1:xx .i64 (U8 (b.src:Int))=some (I6 (b.src:Int)):=by have:=hbb.src;exact qN
  have g2:zc .rem (I6 (b.src:Int)) (I6 (n:Int))=some (I6 ((b.src % n:Nat):Int)):=zlq (by omega);have g3:xx .i64 (U8 (b.dst:Int))=some (I6 (b.dst:Int)):=by have:=hbb.dst;exact qN
  have g4:zc .rem (I6 (b.dst:Int)) (I6 (n:Int))=some (I6 ((b.dst % n:Nat):Int)):=zlq (by omega);have g5:xx .i64 (.int .i8 b.shift)=some (I6 b.shift):=by have:=hbb.s1;have:=hbb.s2;exact qN
  have g6:zc .rem (I6 b.shift) (I6 25)=some (I6 (b.shift.tmod 25)):=zcc _ _ _ (by decide);have ef:fits 48 ((grow acc).els.length+1)=true:=wH (by decide) (by grind[zK]);have body:zpB (enL 4 zl7 l) (I6 (n:Int)) [I6 (i:Int),nm,rk] [dv,ocL enC (grow acc)]=some (.normal,[I6 ((i+1:Nat):Int),nm,rk],[dv,ocL enC (grow (acc++[qX n i b]))]):=by
   rw[wi,←vJ (f:=enC)];simp only[zpB,zz,yF,yM,zbL,zD,zj,zb,jX hlt,zn,if_true,yc h,zl7,xE,vh,e4,e5,zcf,zfa,g1,g2,g3,g4,g5,g6,zO,xZ,Yzm,YzJ,ef,kR,ea,x9];unfold qX enC;by_cases h1:((b.src % n:Nat):Int)=((b.dst % n:Nat):Int)
   ·by_cases h2:b.shift.tmod 25=0<;>grind
   ·grind
  rw[zH body,ih (i+1) _ (zP h) (by simp[ha])];simp[zaD]
theorem zaR{p:Pln}(h:zfP p=true):1≤p.ranks.els.length∧p.ranks.els.length≤3∧1≤p.divs.els.length∧p.divs.els.length≤3∧p.cpls.els.length≤3∧∀b∈p.divs.els,b.stops.els.length≤3:=by simp_all[zfP,zl2]
theorem zfO{α:Type}{l:List α}(h:0<l.length):grow l=some l:=by cases l with|nil=>simp at h|cons _ _=>rfl
theorem t7(k:Nat)(p:Pln)(hp:p.ok)(hf:zfP p=true):D (k+7) 7 [SA (zf1 p)]=some (SA (enO (zmp p))):=by obtain⟨f1,f2,f3,f4,f5,f6⟩:=zaR hf;have hlen:(vL 0 p.ranks.els).length=p.ranks.els.length:=zaC _ _;have l2:=zCk (k+4) p.ranks f2 hp.ranks (St zgO) p.ranks.els 0 [] rfl rfl;have l12:=zz3 k (vL 0 p.ranks.els) (by omega) (by omega) (zbl _ _) p.divs f4 hp.divs f6 (St zgO) p.divs.els 0 [] rfl rfl;have l43:=zzZ p.divs.els.length (by omega) (by omega) p.cpls f5 hp.cpls (St zgO) (enL 6 enR (some (vL 0 p.ranks.els))) (ocL enV (grow (uu (vL 0 p.ranks.els) 0 p.divs.els))) p.cpls.els 0 [] rfl rfl;rw[show ocL enR (grow ([]:List Zj))=none from rfl,show (I6 ((0:Nat):Int):DV)=I6 0 from rfl,Yz0]at l2;rw[show ocL enV (grow ([]:List Zo))=none from rfl,show (I6 ((0:Nat):Int):DV)=I6 0 from rfl,Yz0]at l12;rw[show ocL enC (grow ([]:List Cpl))=none from rfl,show (I6 ((0:Nat):Int):DV)=I6 0 from rfl,Yz0]at l43;have hg:grow (vL 0 p.ranks.els)=some (vL 0 p.ranks.els):=zfO (by omega);unfold zf1;rw[D7];unfold P7 zmp enO;unfold zgO at l2 l12 l43;rw[hg]at l2 ⊢;simp only[l2,yq,Yzp,Yza,zz,yF,yM,zbL,kK,l12,zD,zb,l43];rfl
end Go.Proofs.Tryz.Kn
end
section
namespace Go.Proofs.Tryz.Kn
open Go Go.CE Go.PE
theorem zqW:([82,83,68,67].all fun c=>[0,1,2,3,4,5,6,7,8,9].all fun i=>isName (pre c i))=true:=by kernel_rfl
theorem qt{c:UInt8}(hc:c∈([82,83,68,67]:List UInt8)){i:Nat}(h:i<10):isName (pre c i)=true:=by
 have:=YzL.1 (YzL.1 zqW c hc) i;refine this ?_;have:i=0∨i=1∨i=2∨i=3∨i=4∨i=5∨i=6∨i=7∨i=8∨i=9:=by omega
 simp_all
theorem ztH:([82,83,68,67].all fun c=>[0,1,2].all fun i=>[0,1,2].all fun j=>Nat.beq i j || !eqB (pre c i) (pre c j))=true:=by kernel_rfl
theorem zfY{c:UInt8}(hc:c∈([82,83,68,67]:List UInt8)){i j:Nat}(hi:i<3)(hj:j<3)(h:i≠j):eqB (pre c i) (pre c j)=false:=by
 have hm:∀n<3,n∈([0,1,2]:List Nat):=by trivial
 have:=YzL.1 (YzL.1 (YzL.1 ztH c hc) i (hm i hi)) j (hm j hj);simp_all
theorem ziB(n:Nat):isName (zk1 n)=true:=by unfold zk1;split<;>rfl
theorem zk0(r:RPl)(hr:r.ok)(n:Nat):(jY r n).any wK=false:=by
 rw[List.any_eq_false];intro x hx;unfold jY at hx;obtain⟨k,_,rfl⟩:=List.mem_map.1 hx;have:=zrT hr (k % 5);unfold wK
 grind
theorem zog(i:Nat)(r:RPl)(hr:r.ok):y8 (zq7 i r)=0:=by
 have h1:=qt (c:=82) (by simp) (show i % 10<10 by omega);have h2:=zw4 _ (zso r.feet);have h3:=zk0 r hr (1+r.pipes % 25);have h4:=zcv r (1+r.pipes % 25);have:=hr.f1;have:=hr.f2
 have h5:decide (-256≤r.first)=true:=decide_eq_true (by omega);have h6:decide (r.first≤256)=true:=decide_eq_true (by omega);have h7:¬(1+r.pipes % 25=0):=by omega
 have h8:¬(128<1+r.pipes % 25):=by omega
 unfold y8 zq7;simp only[h1,ziB,h2,h5,h6,xw,h4,h3,h7,h8,Yyf,Yzh,if_false,Bool.and_self,ne_eq,not_true_eq_false]
theorem zic(l:List Zj)(h:∀r∈l,y8 r=0):vG l=0:=by induction l<;>simp_all[vG]
theorem zj7:∀(l:List RPl) (i:Nat),(∀r∈l,r.ok)→∀x∈vL i l,y8 x=0
 | [],_,_,_,h=>by cases h
 |r::l,i,H,x,h=>by
  rcases Yzw.1 h with rfl|h
  ·grind[zog]
  ·exact zj7 l _ (fun r hr=>H r (Yze _ hr)) x h
theorem zj8:∀(l:List RPl) (i:Nat),i+l.length≤3→(∀r∈l,r.ok)→j0 (vL i l) ((List.range i).map (pre 82))=0
 | [],_,_,_=>rfl
 |r::l,i,hl,H=>by
  simp only[Yzm]at hl;have h1:=zog i r (H r (Yzg ..));have hi:i % 10=i:=by omega
  have h2:((List.range i).map (pre 82)).any (eqB (zq7 i r).name)=false:=by
   rw[List.any_eq_false];intro s hs;obtain⟨j,hj,rfl⟩:=List.mem_map.1 hs;have hj:=List.mem_range.1 hj;have:=zfY (c:=82) (by simp) (show i<3 by omega) (show j<3 by omega) (by omega);show ¬eqB (pre 82 (i % 10)) (pre 82 j)=true
   grind
  unfold vL j0;rw[Yzb (by omega),Yzb (by grind)];have:(List.range i).map (pre 82)++[(zq7 i r).name]=(List.range (i+1)).map (pre 82):=by
   rw[List.range_succ,Yyi];show _++[pre 82 (i % 10)]=_
   grind
  rw[this];exact zj8 l (i+1) (by omega) fun r hr=>H r (Yze _ hr)
theorem zbM:∀(l:List RPl) (i:Nat),∀r∈vL i l,zec r
 | [],_,_,h=>by cases h
 |x::l,i,r,h=>by
  rcases Yzw.1 h with rfl|h
  ·show (jY x (1+x.pipes % 25)).length≤_
   grind[zcv]
  ·exact zbM l _ r h
theorem zac(n:Nat)(d:Zn)(h1:0≤d.rank)(h2:d.rank<(n:Int))(h3:-127≤d.shift)(h4:d.shift≤127):xi n [d]=0:=by simp_all[xi,zad,Yzb]
theorem ziS(n:Nat)(d e:Zn)(h1:0≤d.rank)(h2:d.rank<(n:Int))(h3:-127≤d.shift)(h4:d.shift≤127)(g1:0≤e.rank)(g2:e.rank<(n:Int))(g3:-127≤e.shift)(g4:e.shift≤127)(hne:e≠d):xi n [d,e]=0:=by simp_all[xi,zad,Yzb]
theorem zs3(x:Place)(hlow:0≤x.low)(hlh:x.low≤x.high)(n m:Int)(sh sh2 at_:Int)(h1:0≤n)(h2:n<(x.ranks.els.length:Int))(h3:0≤m)(h4:m<(x.ranks.els.length:Int))(s1:-100≤sh)(s2:sh≤100)(s3:-100≤sh2)(s4:sh2≤100)(a1:x.low≤at_)(a2:at_≤x.high)(kd:Nat):
  (xV x.low x.high n sh m sh2 at_ kd).length≠0∧(xV x.low x.high n sh m sh2 at_ kd).length≤12∧u5 x (xV x.low x.high n sh m sh2 at_ kd) none=0:=by
 have d1:=zac x.ranks.els.length ⟨n,sh⟩ h1 h2 (by grind) (by grind);have d2:=zac x.ranks.els.length ⟨m,sh2⟩ h3 h4 (by grind) (by grind);have d3:=zac x.ranks.els.length ⟨n,sh-12⟩ h1 h2 (by grind) (by grind);have d4:=ziS x.ranks.els.length ⟨n,sh⟩ ⟨n,sh+7⟩ h1 h2 (by grind) (by grind) h1 h2 (by grind) (by grind) (fun h=>by grind);have one:∀(lo hi:Int) (ds:List Zn) (p:Option Int) (r:List Seg),x.low≤lo→lo≤hi→hi≤x.high→leO lo p=false→xi x.ranks.els.length ds=0→u5 x (⟨lo,hi,some ds⟩::r) p=u5 x r (some hi):=by
  intro lo hi ds p r e1 e2 e3 e4 e5;rw[u5]
  grind
 unfold xV;split
 ·refine⟨by simp,by simp,?_⟩;rw[one _ _ _ _ _ (by omega) (by omega) (by omega) rfl d4];rfl
 ·by_cases hb:x.low<at_
  ·rw[Yzd hb];refine⟨by simp,by simp,?_⟩;rw[one _ _ _ _ _ (by omega) (by omega) (by omega) rfl d1,one _ _ _ _ _ (by omega) (by omega) (by omega) (by grind[leO]) d2];rfl
  ·rw[Yzb hb];refine⟨by simp,by simp,?_⟩;rw[one _ _ _ _ _ (by omega) (by omega) (by omega) rfl d2];rfl
 ·by_cases hb:x.low<at_
  ·rw[Yzd hb];refine⟨by simp,by simp,?_⟩;rw[one _ _ _ _ _ (by omega) (by omega) (by omega) rfl d1,one _ _ _ _ _ (by omega) (by omega) (by omega) (by grind[leO]) d3];rfl
  ·rw[Yzb hb];refine⟨by simp,by simp,?_⟩;rw[one _ _ _ _ _ (by omega) (by omega) (by omega) rfl d3];rfl
 ·refine⟨by simp,by simp,?_⟩;rw[one _ _ _ _ _ (by omega) (by omega) (by omega) rfl d1];rfl
 ·refine⟨by simp,by simp,?_⟩;rw[one _ _ _ _ _ (by omega) (by omega) (by omega) rfl d1];rfl
theorem zoe(rs:List Zj)(hl:0<rs.length)(hl3:rs.length≤60)(hr:∀r∈rs,y8 r=0)(hf:∀r∈rs,rkF r∈feetA)(low high:Int)(h0:0≤low)(h1:low≤high)(h2:high≤127)(i:Nat)(hi:i<10)(x:Pul):uB ⟨some rs,low,high⟩ (qI rs low high i x)=0:=by
 have p1:js ⟨some rs,low,high⟩=0:=by unfold js;rw[Yzb (by grind),Yzb (by rw[show Sl.els (Place.mk (some rs) low high).ranks=rs from rfl,zic rs hr];simp)];simp_all[right,Yzb]
 have hn:x.rank % rs.length<rs.length:=Yz6 _ hl;have hm:(x.rank % rs.length+1) % rs.length<rs.length:=Yz6 _ hl;have b1:=zm0 (fB x.feet) (rkF (zgp rs (x.rank % rs.length))) (zeB _) (hf _ (zap hn));have b2:=zm0 (fB x.feet) (rkF (zgp rs ((x.rank % rs.length+1) % rs.length))) (zeB _) (hf _ (zap hm));have hq:0≤(x.at_:Int).tmod (high-low+1)∧(x.at_:Int).tmod (high-low+1)<high-low+1:=⟨Int.tmod_nonneg _ (by omega),Int.tmod_lt_of_pos _ (by omega)⟩;obtain⟨s1,s2,s3⟩:=zs3 ⟨some rs,low,high⟩ h0 h1 ((x.rank % rs.length:Nat):Int) (((x.rank % rs.length+1) % rs.length:Nat):Int) (shf (fB x.feet) (rkF (zgp rs (x.rank % rs.length)))) (shf (fB x.feet) (rkF (zgp rs ((x.rank % rs.length+1) % rs.length)))) (low+((x.at_:Int).tmod (high-low+1)))
  (by omega) (by grind) (by omega) (by grind) b1.1 b1.2 b2.1 b2.2 (by grind) (by grind) (x.kind % 6)
 unfold uB qI;rw[Yzb (by omega),Yzb (by grind[qt]),Yzb (by grind[zw3,zeB]),Yzb (by trivial),Yzb (by grind)];exact s3
theorem zem(rs:List Zj)(hl:0<rs.length)(hl3:rs.length≤60)(hr:∀r∈rs,y8 r=0)(hf:∀r∈rs,rkF r∈feetA)(low high:Int)(h0:0≤low)(h1:low≤high)(h2:high≤127):
  ∀(l:List Pul) (i:Nat),i+l.length≤3→qS ⟨some rs,low,high⟩ (wR rs low high i l) ((List.range i).map (pre 83))=0
 | [],_,_=>rfl
 |x::l,i,h=>by
  simp only[Yzm]at h;have e1:=zoe rs hl hl3 hr hf low high h0 h1 h2 i (by omega) x;have e2:((List.range i).map (pre 83)).any (eqB (qI rs low high i x).name)=false:=by
   rw[List.any_eq_false];intro s hs;obtain⟨j,hj,rfl⟩:=List.mem_map.1 hs;have hj:=List.mem_range.1 hj;have:=zfY (c:=83) (by simp) (show i<3 by omega) (show j<3 by omega) (by omega);show ¬eqB (pre 83 i) (pre 83 j)=true
   grind
  unfold wR qS;rw[Yzb (by omega),Yzb (by grind)];have:(List.range i).map (pre 83)++[(qI rs low high i x).name]=(List.range (i+1)).map (pre 83):=by rw[List.range_succ,Yyi];rfl
  rw[this];exact zem rs hl hl3 hr hf low high h0 h1 h2 l (i+1) (by omega)
theorem jE(rs:List Zj)(low high:Int):∀(l:List Pul) (i:Nat),(wR rs low high i l).length=l.length
 | [],_=>rfl
 |_::l,i=>by simp[wR,jE rs low high l]
theorem znf(b:Boa):right (zg3 b) (zdf b)=0:=by
 have:=zix b;have:=zfL b
 unfold right;omega
theorem zq6(rs:List Zj)(hl:0<rs.length)(hl3:rs.length≤60)(hr:∀r∈rs,y8 r=0)(hf:∀r∈rs,rkF r∈feetA)(i:Nat)(b:Boa)(hb:b.stops.els.length≤3):qM (some rs) (zgY rs i b)=0:=by
 have:=zix b;have:=zfL b
 unfold qM zgY;simp only[zK,jE,znf];rw[Yzb (by simp),Yzb (by omega)]
 grind[zem]
theorem zgX(rs:List Zj)(hl:0<rs.length)(hl3:rs.length≤60)(hr:∀r∈rs,y8 r=0)(hf:∀r∈rs,rkF r∈feetA):
  ∀(l:List Boa) (i:Nat),i+l.length≤3→(∀b∈l,b.stops.els.length≤3)→zaY (some rs) (uu rs i l) ((List.range i).map (pre 68))=0
 | [],_,_,_=>rfl
 |x::l,i,h,H=>by
  simp only[Yzm]at h;have e1:=zq6 rs hl hl3 hr hf i x (H x (Yzg ..));have e2:((List.range i).map (pre 68)).any (eqB (zgY rs i x).name)=false:=by
   rw[List.any_eq_false];intro s hs;obtain⟨j,hj,rfl⟩:=List.mem_map.1 hs;have hj:=List.mem_range.1 hj;have:=zfY (c:=68) (by simp) (show i<3 by omega) (show j<3 by omega) (by omega);show ¬eqB (pre 68 i) (pre 68 j)=true
   grind
  have e3:isName (zgY rs i x).name=true:=qt (c:=68) (by simp) (by omega);unfold uu zaY;rw[Yzb (by grind),Yzb (by grind),Yzb (by omega)];have:(List.range i).map (pre 68)++[(zgY rs i x).name]=(List.range (i+1)).map (pre 68):=by rw[List.range_succ,Yyi];rfl
  rw[this];exact zgX rs hl hl3 hr hf l (i+1) (by omega) fun b hb=>H b (Yze _ hb)
theorem vR(rs:List Zj):∀(l:List Boa) (i:Nat),(uu rs i l).length=l.length
 | [],_=>rfl
 |_::l,i=>by simp[uu,vR rs l]
theorem zc6(rs:List Zj):∀(l:List Boa) (i:Nat),((uu rs i l).map keyOf).any (fun k=>right k.1 k.2 != 0)=false
 | [],_=>rfl
 |b::l,i=>by
  simp only[uu,Yzv,List.any_cons,zc6 rs l]
  grind[keyOf,zgY,znf]
theorem zgZ(n:Nat)(hn:0<n):∀(l:List Lnk) (i:Nat) (p:List Cpl),i+l.length≤3→(∀c∈l,c.ok)→p.map Cpl.name=(List.range i).map (pre 67)→ziW n p (zaD n i l)=0
 | [],_,_,_,_,_=>rfl
 |x::l,i,p,h,H,hp=>by
  simp only[Yzm]at h;have e2:p.any (fun y=>eqB y.name (qX n i x).name)=false:=by
   rw[List.any_eq_false];intro y hy;have:y.name∈(List.range i).map (pre 67):=by grind
   obtain⟨j,hj,e⟩:=List.mem_map.1 this;have hj:=List.mem_range.1 hj;have:=zfY (c:=67) (by simp) (show j<3 by omega) (show i<3 by omega) (by omega);rw[←e];show ¬eqB (pre 67 j) (pre 67 i)=true
   grind
  have e3:isName (qX n i x).name=true:=qt (c:=67) (by simp) (by omega);have a1:x.src % n<n:=Yz6 _ hn;have a2:x.dst % n<n:=Yz6 _ hn;have hs:-25<x.shift.tmod 25∧x.shift.tmod 25<25:=by grind
  have q:∀a:Bool,True:=fun _=>trivial;have f0:¬(qX n i x).src<0:=by show ¬((x.src % n:Nat):Int)<0;omega
  have f1:¬(n:Int)≤(qX n i x).src:=by show ¬(n:Int)≤((x.src % n:Nat):Int);omega
  have f2:¬(qX n i x).dst<0:=by show ¬((x.dst % n:Nat):Int)<0;omega
  have f3:¬(n:Int)≤(qX n i x).dst:=by show ¬(n:Int)≤((x.dst % n:Nat):Int);omega
  have f4:-127≤(qX n i x).shift∧(qX n i x).shift≤127∧¬((qX n i x).src=(qX n i x).dst∧(qX n i x).shift=0):=by grind[qX]
  unfold zaD ziW;rw[Yzb (by grind),Yzb (by grind),Yzb f0,Yzb f1,Yzb f2,Yzb f3,Yzb (by omega),Yzb (by omega),Yzb f4.2.2];refine zgZ n hn l (i+1) _ (by omega) (fun c hc=>H c (Yze _ hc)) ?_;rw[Yyi,hp,List.range_succ,Yyi];rfl
theorem qn(n:Nat):∀(l:List Lnk) (i:Nat),(zaD n i l).length=l.length
 | [],_=>rfl
 |_::l,i=>by simp[zaD,qn n l]
theorem zlL(p:Pln)(hp:p.ok)(hf:zfP p=true):jS (zmp p)=0:=by obtain⟨f1,f2,f3,f4,f5,f6⟩:=zaR hf;have hlen:(vL 0 p.ranks.els).length=p.ranks.els.length:=zaC _ _;have hg:grow (vL 0 p.ranks.els)=some (vL 0 p.ranks.els):=zfO (by omega);have r1:=zj8 p.ranks.els 0 (by omega) hp.ranks;have d1:=zgX (vL 0 p.ranks.els) (by omega) (by omega) (zj7 _ _ hp.ranks) (zbl _ _) p.divs.els 0 (by omega) f6;have c1:=zgZ p.divs.els.length (by omega) p.cpls.els 0 [] (by omega) hp.cpls rfl;have k1:=zc6 (vL 0 p.ranks.els) p.divs.els 0;simp only[List.range_zero,List.map_nil]at r1 d1;unfold jS zmp;simp only[zK,hg,xw,hlen,vR];rw[Yzb (by trivial),Yzb (by omega),Yzb (by omega),Yzb (by omega),Yzb (by omega),Yzb (by omega)];unfold zkG;rw[Yzb (by grind[vR]),Yzb (by grind[qn]),Yzb (by grind),Yzj,vR];exact c1
theorem zc5(rs:List Zj)(low high:Int):∀(l:List Pul) (i:Nat),∀s∈wR rs low high i l,s.ok
 | [],_,_,h=>by cases h
 |x::l,i,s,h=>by
  rcases Yzw.1 h with rfl|h
  ·have hall:∀n sh m sh2 a kd,(xV low high n sh m sh2 a kd).length≤2∧∀g∈xV low high n sh m sh2 a kd,g.draws.els.length≤2:=by
    intro n sh m sh2 a kd;unfold xV
    grind
   obtain⟨q1,q2⟩:=hall ((x.rank % rs.length:Nat):Int) (shf (fB x.feet) (rkF (zgp rs (x.rank % rs.length)))) (((x.rank % rs.length+1) % rs.length:Nat):Int)
    (shf (fB x.feet) (rkF (zgp rs ((x.rank % rs.length+1) % rs.length)))) (low+((x.at_:Int).tmod (high-low+1))) (x.kind % 6)
   refine⟨?_,fun g hg=>?_⟩
   ·show (xV _ _ _ _ _ _ _ _).length≤_;omega
   ·have:=q2 g hg;show g.draws.els.length≤_;omega
  ·exact zc5 rs low high l _ s h
theorem ztK(p:Pln)(hf:zfP p=true):(zmp p).ok:=by
 obtain⟨f1,f2,f3,f4,f5,f6⟩:=zaR hf;have hd:∀(rs:List Zj) (l:List Boa) (i:Nat),(∀b∈l,b.stops.els.length≤3)→∀d∈uu rs i l,d.ok:=by
  intro rs l
  induction l with
  |nil=>intro i _ d h;cases h
  |cons b l ih=>
   intro i H d h;rcases Yzw.1 h with rfl|h
   ·have:=H b (Yzg ..);refine⟨?_,fun s hs=>?_⟩
    ·show (grow (wR rs (zg3 b) (zdf b) 0 b.stops.els)).els.length≤_
     grind[zK,jE]
    ·have hs:s∈(grow (wR rs (zg3 b) (zdf b) 0 b.stops.els)).els:=hs
     grind[zK,zc5]
   ·grind
 unfold zmp;refine⟨?_,fun r hr=>?_,?_,fun d h=>?_,?_⟩<;>grind[zK,zaC,zbM,vR,qn]
end Go.Proofs.Tryz.Kn
end
section
namespace Go.Proofs.Tryz.Kn
open Go Go.CE Go.PE
def vu(a b:Int):Int:=IntKind.wrap .u64 (BitVec.ofInt IntKind.u64.bits a &&& ~~~(BitVec.ofInt IntKind.u64.bits b)).toNat
def zvq(a b:Int):Int:=IntKind.wrap .u64 (BitVec.ofInt IntKind.u64.bits a &&& BitVec.ofInt IntKind.u64.bits b).toNat
theorem jD(a b:Int):zc .andNot (U64 a) (U64 b)=some (U64 (vu a b)):=by rfl
theorem zce(a b:Int):zc .and (U64 a) (U64 b)=some (U64 (zvq a b)):=by rfl
def zh7(a:Int)(n:Nat):Int:=Int.fdiv a (2^(min n 64))
theorem zvd{k:IntKind}(a:Int)(n:Nat):z7 false (U64 a) (.int k (n:Int))=some (U64 (zh7 a n)):=by rfl
theorem zpX{m:Nat}(h:m≤4611686018427387904):wB .u64 (m:Int)=(m:Int):=by grind[zsJ]
theorem zlv{k:IntKind}{n:Nat}(h:n≤62):z7 true (U64 1) (.int k (n:Int))=some (U64 ((2^n:Nat):Int)):=by
 have h0:ltI (n:Int) 0=false:=by rfl
 show oD (zfS .u64 1 (n:Int))=_;unfold zfS;rw[h0,Yzc];have hm:min (n:Int).toNat IntKind.u64.bits=n:=by rw[YzE];show min n 64=n;omega
 rw[hm];have hp:(2^n:Nat)≤2^62:=Nat.pow_le_pow_right (by decide) h;have e:Int.mul 1 (2^n)=((2^n:Nat):Int):=by simp
 rw[e,zpX (Yzn hp (by decide))];rfl
theorem zy5(a b:Int):zc .neq (U64 a) (U64 b)=some (Bo (!(a==b))):=zU _ _ _
abbrev enU(n:Int):List DV:=[U64 n]
structure Reg where
 stops:Sl Int
 cpls:Int
 off:Int
def yz(r:Reg):List DV:=[enL 1 enU r.stops,U64 r.cpls,U64 r.off]
def zgH(r:Reg):Prop:=r.stops.els.length≤9223372036854775807
def qG:List Zo→List Int→Bool
 |d::ds,s::ss=>!(zh7 s d.stops.els.length==0)||qG ds ss
 |_,_=>false
def yB(o:Org)(r:Reg):Int:=
 if jS o≠0 then jS o else if r.stops.els.length≠o.divs.els.length then 5 else if qG o.divs.els r.stops.els=true then 3
 else if zh7 r.cpls o.cpls.els.length≠0 then 3 else if zh7 r.off o.divs.els.length≠0 then 3 else 0
theorem l10(dv:Sl Zo)(hd:dv.els.length≤9223372036854775807)(st:Sl Int)(hl:st.els.length=dv.els.length):∀(ds:List Zo) (ss:List Int) (i:Nat),dv.els.drop i=ds→st.els.drop i=ss→
  zA (zpN (I6 (dv.els.length:Int)) (enL 5 enV dv) (enL 1 enU st)) [I6 (i:Int)] []=some (if qG ds ss=true then(.ret,[I6 3],[]) else(.exit 0,[],[])):=by
 intro ds
 induction ds with
 |nil=>
  intro ss i h _;refine zu ?_
  grind[zpN,zz,zj,zb,xY,ya,zn]
 |cons d ds ih=>
  intro ss i h h';have h1:=yH h;cases ss with
  |nil=>have:=ya h';omega
  |cons s ss=>
   have ea:zc .add (I6 (i:Int)) (I6 1)=some (I6 ((i+1:Nat):Int)):=yQ;have body:zpN (I6 (dv.els.length:Int)) (enL 5 enV dv) (enL 1 enU st) [I6 (i:Int)] []=some (if zh7 s d.stops.els.length=0 then(.normal,[I6 ((i+1:Nat):Int)],[]) else(.ret,[I6 3],[])):=by
    simp only[zpN,zz,zj,zb,jX h1,zn,if_true,yc h,yc h',enV,xE,vh,zD,zvd,zy5,ea]
    grind
   by_cases hc:zh7 s d.stops.els.length=0
   ·rw[Yzd hc]at body;rw[zH body,ih ss (i+1) (zP h) (zP h')];grind[qG]
   ·rw[Yzb hc]at body;grind[zB,qG]
theorem t10(k:Nat)(o:Org)(ho:o.ok)(r:Reg):D (k+10) 10 [SA (enO o),SA (yz r)]=some (S1 (I6 (yB o r))):=by
 have c:=t27 k o ho;unfold enO at c ⊢;unfold yz;rw[D10];unfold P10 yB;simp only[c,zX,zU,zb,zn,zD];by_cases h1:jS o=0
 ·by_cases h2:r.stops.els.length=o.divs.els.length
  ·have e:(!((r.stops.els.length:Int)==(o.divs.els.length:Int)))=false:=by simp[h2]
   have l:=l10 o.divs ho.dl r.stops h2 o.divs.els r.stops.els 0 rfl rfl;simp only[h1,h2,Yzu,Yyf,Yzh,if_false,ne_eq,not_true_eq_false];rw[show (I6 0:DV)=I6 ((0:Nat):Int) from rfl,l];cases qG o.divs.els r.stops.els with
   |true=>rfl
   |false=>
    simp only[Yzh,if_false,yq,Yzp,Yza,zvd,zb,zy5,zn]
    grind
  ·grind
 grind
theorem zcS{o:Org}(h:jS o=0):o.divs.els.length≤8∧0<o.divs.els.length:=by grind[jS]
theorem zuS{β:Type}(o:Org)(K:List DV→Option β):bA 4 (some (SA (enO o))) K=K (enO o):=rfl
theorem zkR(r:Reg):[atD (yz r) 0,atD (yz r) 1,atD (yz r) 2]=yz r:=rfl
def enB(b:Nat→Nat):List DV:=[U8 (b 0:Int),U8 (b 1:Int),U8 (b 2:Int),U8 (b 3:Int),U8 (b 4:Int)]
theorem zbN(rs:List Zj):∀(l:List Boa) (i:Nat),(∀b∈l,b.stops.els.length≤3)→∀d∈uu rs i l,d.stops.els.length≤3
 | [],_,_,_,h=>by cases h
 |b::l,i,H,d,h=>by
  rcases Yzw.1 h with rfl|h
  ·have:=H b (Yzg ..);show (grow (wR rs (zg3 b) (zdf b) 0 b.stops.els)).els.length≤3
   grind[zK,jE]
  ·exact zbN rs l (i+1) (fun x hx=>H x (Yze _ hx)) d h
theorem zlK(p:Pln)(hf:zfP p=true):(zmp p).divs.els.length≤3∧(∀d∈(zmp p).divs.els,d.stops.els.length≤3)∧(zmp p).cpls.els.length≤3:=by grind[zaR,zmp,zK,vR,zbN,qn]
theorem zje{β:Type}(r:Reg)(K:List DV→Option β):bA 3 (some (SA (yz r))) K=K (yz r):=rfl
theorem zpu(l:List (List DV)):zdU (some []) l=some l:=by cases l<;>rfl
theorem zzv{α:Type}{f:α→List DV}{st off:Nat}{l:List α}{i:Nat}{x x':α}{ds:List DV}(hx:l[i]? = some x)(hle:off+ds.length≤st)(h:(f x).take off++ds++(f x).drop (off+ds.length)=f x'):
  zgo st (some (l.map f)) i off ds=some (some ((l.set i x').map f)):=by
 simp_all[zgo,Yzf]
end Go.Proofs.Tryz.Kn
end
section
namespace Go.Proofs.Tryz.Kn
open Go Go.CE Go.PE
def bit(a:Int)(i:Nat):Bool:=zvq (zh7 a i) 1==1
theorem zzd(a b:Int):zc .eql (U64 a) (U64 b)=some (Bo (a==b)):=zO _ _ _
end Go.Proofs.Tryz.Kn
end
section
namespace Go.Proofs.Tryz.Kn
open Go Go.CE Go.PE
structure Zq where
 rank:Int
 num:Int
deriving DecidableEq
def ltP(a b:Zq):Prop:=a.rank<b.rank∨(a.rank=b.rank∧a.num<b.num)
instance (a b:Zq):Decidable (ltP a b):=by unfold ltP;infer_instance
def zBt(p:Zq):List DV:=[I6 p.rank,I6 p.num]
def zsI:Seg:=⟨0,0,none⟩
def zxg(key:Int)(g:Seg):Bool:=decide (g.lo≤key)&&decide (key≤g.hi)
def zzw(s:Zr)(key:Int):Seg:=(s.segs.els.find? (zxg key)).getD zsI
def numOf(r:Zj)(d:Zn)(key:Int):Int:=wB .i64 (wB .i64 (key+d.shift)-r.first)
def zv4(rs:List Zj)(key:Int)(d:Zn):Option Zq:=
 if d.rank<0 then none else
 match rs[d.rank.toNat]? with
 |none=>none
 |some r=>if 0≤numOf r d key∧numOf r d key<(r.wind.els.length:Int) then some ⟨d.rank,numOf r d key⟩ else none
def ztm(rs:List Zj)(key:Int)(ds:List Zn):List Zq:=ds.filterMap (zv4 rs key)
def zvE(p:Zq):Prop:=-2305843009213693952≤p.rank∧p.rank≤2305843009213693952∧-2305843009213693952≤p.num∧p.num≤2305843009213693952
end Go.Proofs.Tryz.Kn
end
section
namespace Go.Proofs.Tryz.Kn
open Go Go.CE Go.PE
structure Fit (o:Org) (r:Reg):Prop where
 dl:o.divs.els.length≤3
 cl:o.cpls.els.length≤3
 sl:∀d∈o.divs.els,d.stops.els.length≤3
 rng:∀d∈o.divs.els,0≤d.low∧d.low≤d.high∧d.high≤d.low+8∧d.high≤127
 dst:∀x∈o.cpls.els,0≤x.dst∧x.dst<(o.divs.els.length:Int)
 shf:∀x∈o.cpls.els,-1000≤x.shift∧x.shift≤1000
 stp:∀d∈o.divs.els,∀s∈d.stops.els,s.ok∧∀key,(zzw s key).draws.els.length≤2
 sml:∀(key:Int) (ds:List Zn) (y:Zq),y∈ztm o.ranks.els key ds→zvE y
 rl:r.stops.els.length=o.divs.els.length
section
variable {o:Org} {r:Reg} (F:Fit o r)
include F
end
end Go.Proofs.Tryz.Kn
end
section
namespace Go.Proofs.Tryz.Kn
open Go Go.CE Go.PE
structure Rows (o:Org) (C:Nat→Int→Sl Zq→Prop) (T:List (List (Sl Zq))):Prop where
 row:∀(n:Nat) (d:Zo) (row:List (Sl Zq)),o.divs.els[n]? = some d→T[n]? = some row→(row.length:Int)=d.high-d.low+1∧∀(i:Nat) (v:Sl Zq),row[i]? = some v→C n (d.low+(i:Int)) v
section
variable {o:Org} {r:Reg} (F:Fit o r)
include F
end
end Go.Proofs.Tryz.Kn
end
section
namespace Go.Proofs.Tryz.Kn
open Go Go.CE Go.PE
structure Twin (o:Org) (A B:List (List (Sl Zq))):Prop where
 al:A.length=o.divs.els.length
 bl:B.length=o.divs.els.length
 row:∀(n:Nat) (d:Zo) (x y:List (Sl Zq)),o.divs.els[n]? = some d→A[n]? = some x→B[n]? = some y→x.length=y.length∧x.length≤9∧(∀v∈x,v.els.length≤1000)∧(∀v∈y,v.els.length≤1000)
section
variable {o:Org} {A B:List (List (Sl Zq))} (W:Twin o A B) (hdl:o.divs.els.length≤3) (hrng:∀d∈o.divs.els,0≤d.low∧d.low≤127) {f:DV} {H:Sl Zq→Sl Zq→Bool} {k:Nat}
 (hf:∀x y:Sl Zq,x.els.length≤1000→y.els.length≤1000→zhR (D k) f [S1 (enL 2 zBt x),S1 (enL 2 zBt y)]=some (S1 (Bo (H x y))))
end
end Go.Proofs.Tryz.Kn
end
section
namespace Go.Proofs.Tryz.Kn
open Go Go.CE Go.PE
structure Le (o:Org) (r s:Reg):Prop where
 c:∀(i:Nat) (x:Cpl),o.cpls.els[i]? = some x→bit r.cpls i=true→bit s.cpls i=true
 f:∀(n:Nat) (d:Zo),o.divs.els[n]? = some d→bit s.off n=true→bit r.off n=true
 t:∀(n:Nat) (d:Zo) (x:Int) (j:Nat) (t:Zr),o.divs.els[n]? = some d→r.stops.els[n]? = some x→d.stops.els[j]? = some t→bit x j=true→∃y,s.stops.els[n]? = some y∧bit y j=true
section
variable {o:Org} {r s:Reg} (L:Le o r s)
include L
end
end Go.Proofs.Tryz.Kn
end
section
namespace Go.Proofs.Tryz.Kn
open Go Go.CE Go.PE
def kY(l:List Int)(i:Nat):Int:=(l[i]?).getD 0
theorem t38(k:Nat)(b:Reg)(i:Nat):D (k+1) 38 [SA (yz b),S1 (I6 (i:Int))]=some (S1 (U64 (kY b.stops.els i))):=by
 unfold yz;rw[D38];unfold P38 kY;simp only[zD,zb,zj,zn];by_cases h:i<b.stops.els.length
 ·rw[Yzd (jX h),jB,Lz5 h];rfl
 ·rw[Yzb (by rw[xY (by omega)];simp),List.getElem?_eq_none (by omega)];rfl
def wU(b:List Int):List Int→Nat→Bool
 | [],_=>true
 |s::r,i=>(vu s (kY b i)==0)&&wU b r (i+1)
theorem l18(k:Nat)(a b:Reg)(ha:zgH a):∀(r:List Int) (i:Nat),a.stops.els.drop i=r→
  zA (zpL (D (k+1)) (I6 (a.stops.els.length:Int)) (enL 1 enU a.stops) (enL 1 enU b.stops) (U64 b.cpls) (U64 b.off)) [I6 (i:Int)] []=some (if wU b.stops.els r i=true then(.exit 0,[],[]) else(.ret,[Bo false],[])):=by
 unfold zgH at ha;intro r
 induction r with
 |nil=>intro i h;refine zu ?_;simp only[zpL,zz,zj,zb,xY (ya h),zn];rfl
 |cons x r ih=>
  intro i h;have h1:=yH h;have ea:zc .add (I6 (i:Int)) (I6 1)=some (I6 ((i+1:Nat):Int)):=yQ;have c:=t38 k b i;unfold yz at c;have body:zpL (D (k+1)) (I6 (a.stops.els.length:Int)) (enL 1 enU a.stops) (enL 1 enU b.stops) (U64 b.cpls) (U64 b.off) [I6 (i:Int)] []=some (if vu x (kY b.stops.els i)=0 then(.normal,[I6 ((i+1:Nat):Int)],[]) else(.ret,[Bo false],[])):=by simp only[zpL,zz,zj,zb,jX h1,zn,if_true,yc h,xE,c,zX,jD,zy5,ea];by_cases hz:vu x (kY b.stops.els i)=0<;>simp[hz]
  by_cases hc:vu x (kY b.stops.els i)=0
  ·rw[Yzd hc]at body;rw[zH body,ih (i+1) (zP h)];simp[wU,hc]
  ·rw[Yzb hc]at body;rw[zB body];simp[wU,hc]
def qQ(a b:Reg):Bool:=wU b.stops.els a.stops.els 0&&(vu a.cpls b.cpls==0)&&(vu a.off b.off==0)
theorem t18(k:Nat)(a b:Reg)(ha:zgH a):D (k+2) 18 [SA (yz a),SA (yz b)]=some (S1 (Bo (qQ a b))):=by
 have l:=l18 k a b ha a.stops.els 0 rfl;unfold yz;rw[D18];unfold P18 qQ;simp only[zD,zb];rw[show (I6 0:DV)=I6 ((0:Nat):Int) from rfl,l];cases wU b.stops.els a.stops.els 0 with
 |false=>rfl
 |true=>simp only[if_true,yq,Yzp,Yza,jD,zb,zO,zn,Yye];cases vu a.cpls b.cpls==0<;>rfl
theorem t35(k:Nat)(b:Reg)(i:Nat):D (k+1) 35 [SA (yz b),S1 (I6 (i:Int))]=some (S1 (U64 (kY b.stops.els i))):=by
 unfold yz;rw[D35];unfold P35 kY;simp only[zD,zb,zj,zn];by_cases h:i<b.stops.els.length
 ·rw[Yzd (jX h),jB,Lz5 h];rfl
 ·rw[Yzb (by rw[xY (by omega)];simp),List.getElem?_eq_none (by omega)];rfl
theorem zz1(k:Nat)(a b:Reg)(ha:zgH a):∀(r:List Int) (i:Nat),a.stops.els.drop i=r→
  zA (zpM (D (k+1)) (enL 1 enU a.stops) (enL 1 enU b.stops) (U64 b.cpls) (U64 b.off)) [I6 (i:Int)] []=some (if wU b.stops.els r i=true then(.exit 0,[],[]) else(.ret,[Bo false],[])):=by
 unfold zgH at ha;intro r
 induction r with
 |nil=>intro i h;refine zu ?_;simp only[zpM,zz,zD,zj,zb,xY (ya h),zn];rfl
 |cons x r ih=>
  intro i h;have h1:=yH h;have ea:zc .add (I6 (i:Int)) (I6 1)=some (I6 ((i+1:Nat):Int)):=yQ;have c:=t35 k b i;unfold yz at c;have body:zpM (D (k+1)) (enL 1 enU a.stops) (enL 1 enU b.stops) (U64 b.cpls) (U64 b.off) [I6 (i:Int)] []=some (if vu x (kY b.stops.els i)=0 then(.normal,[I6 ((i+1:Nat):Int)],[]) else(.ret,[Bo false],[])):=by simp only[zpM,zz,zD,zj,zb,jX h1,zn,if_true,yc h,xE,c,zX,jD,zy5,ea];by_cases hz:vu x (kY b.stops.els i)=0<;>simp[hz]
  by_cases hc:vu x (kY b.stops.els i)=0
  ·rw[Yzd hc]at body;rw[zH body,ih (i+1) (zP h)];simp[wU,hc]
  ·rw[Yzb hc]at body;rw[zB body];simp[wU,hc]
theorem t11(k:Nat)(a b:Reg)(ha:zgH a):D (k+2) 11 [SA (yz a),SA (yz b)]=some (S1 (Bo (qQ a b))):=by
 have l:=zz1 k a b ha a.stops.els 0 rfl;unfold yz;rw[D11];unfold P11 qQ;rw[show (I6 0:DV)=I6 ((0:Nat):Int) from rfl,l];cases wU b.stops.els a.stops.els 0 with
 |false=>rfl
 |true=>simp only[if_true,yq,Yzp,Yza,jD,zb,zO,zn,Yye];cases vu a.cpls b.cpls==0<;>rfl
end Go.Proofs.Tryz.Kn
end
section
namespace Go.Proofs.Tryz.Kn
open Go Go.CE Go.PE
theorem zzY(s:Sl Int)(hs:s.els.length≤1000):∀(r:List Int) (i:Nat),s.els.drop i=r→
  zA (zrQ (enL 1 enU s) (enL 1 enU s)) [I6 (i:Int)] []=some (.exit 0,[],[]):=by
 intro r
 induction r with
 |nil=>intro i h;refine zu ?_;simp only[zrQ,zz,zD,zj,zb,xY (ya h),zn];rfl
 |cons x r ih=>intro i h;have hlt:=yH h;have ea:zc .add (I6 (i:Int)) (I6 1)=some (I6 ((i+1:Nat):Int)):=yQ;rw[zH (by simp only[zrQ,zz,zD,zj,zb,jX hlt,zn,if_true,yc h,xE,zU,Yzu,Yyf,Yzh,if_false,ea];rfl),ih (i+1) (zP h)]
theorem t13(k:Nat)(r:Reg)(hs:r.stops.els.length≤1000):D (k+1) 13 [SA (yz r),SA (yz r)]=some (S1 (Bo true)):=by have:=zzY r.stops hs r.stops.els 0 rfl;rw[show (I6 ((0:Nat):Int):DV)=I6 0 from rfl]at this;unfold yz;rw[D13];unfold P13;simp only[zD,zb,zU,Yzu,Yyf,zn,Yzh,if_false,this,yq,Yzp,Yza]
end Go.Proofs.Tryz.Kn
end
section
namespace Go.Proofs.Tryz.Kn
open Go Go.CE Go.PE
def orI(a b:Int):Int:=IntKind.wrap .u64 (BitVec.ofInt IntKind.u64.bits a ||| BitVec.ofInt IntKind.u64.bits b).toNat
theorem zbe(a b:Int):zc .or (U64 a) (U64 b)=some (U64 (orI a b)):=by rfl
def sm(x:Int):Prop:=0≤x∧x<8
structure Small (o:Org):Prop where
 h0:jS o=0
 hd:o.divs.els.length≤3
 hs:∀d∈o.divs.els,d.stops.els.length≤3
 hc:o.cpls.els.length≤3
section
variable {o:Org} (H:Small o)
include H
end
section
variable {o:Org} (H:Small o)
include H
end
section
variable {o:Org} (ho:o.ok) (h0:jS o=0) (hF:∀r:Reg,yB o r=0→Fit o r)
include ho h0 hF
end
end Go.Proofs.Tryz.Kn
end
noncomputable section
namespace Go.Proofs.Tryz.Kn
open Go Go.CE Go.PE
structure SCt where
 kind:Int
 div:Int
 idx:Int
deriving DecidableEq
def xJ(c:SCt):List DV:=[I6 c.kind,I6 c.div,I6 c.idx]
def xf(s:Int):Nat→Nat→List Nat
 |0,_=>[]
 |n+1,i=>if bit s i=true then i::xf s n (i+1) else xf s n (i+1)
theorem um(s:Int):∀(n i:Nat),(xf s n i).length≤n
 |0,_=>LzB _
 |n+1,i=>by
  have:=um s n (i+1);unfold xf;split
  ·simp only[Yzm];omega
  ·omega
def FB(mk:DV→List DV)(v:DV)(L:List DV)(M:List OC):Option PX:=
 za (zc .lss (zf L 0) (I6 64)) fun v2=>ifB v2
  (za (z7 false v (zf L 0)) fun v3 => za (zc .and v3 (U64 1)) fun v4 => za (zc .eql v4 (U64 1)) fun v5 => ifB v5
   (gd (fits 24 (xR (zt M 0)+1)) (za (zc .add (zf L 0) (I6 1)) fun v6=>some (.normal,[v6],[some (zG (zt M 0)++[mk (zf L 0)])])))
   (za (zc .add (zf L 0) (I6 1)) fun v7=>some (.normal,[v7],[zt M 0])))
  (some (.exit 0,[],[zt M 0]))
theorem lFB{mk:DV→List DV}{f:Nat→SCt}(hmk:∀i:Nat,mk (I6 (i:Int))=xJ (f i))(s:Int):∀(n i:Nat) (acc:List SCt),i+n=64→acc.length+n≤100000→
  zA (FB mk (U64 s)) [I6 (i:Int)] [ocL xJ (grow acc)]=some (.exit 0,[],[ocL xJ (grow (acc++(xf s n i).map f))]):=by
 intro n
 induction n with
 |zero=>intro i acc h _;refine zu ?_;have e:decide ((i:Int)<64)=false:=decide_eq_false (by omega);simp only[FB,zz,yM,zj,zb,e,zn,xf,List.map_nil,Yz5];rfl
 |succ n ih=>
  intro i acc h ha;have e:decide ((i:Int)<64)=true:=decide_eq_true (by omega);have ea:zc .add (I6 (i:Int)) (I6 1)=some (I6 ((i+1:Nat):Int)):=yQ;have ef:fits 24 ((grow acc).els.length+1)=true:=wH (by decide) (by rw[zK];omega);have hp:(some ((grow acc).els.map xJ++[mk (I6 (i:Int))]):OC)=ocL xJ (grow (acc++[f i])):=by rw[hmk,wi,←vJ]
  have body:FB mk (U64 s) [I6 (i:Int)] [ocL xJ (grow acc)]=some (.normal,[I6 ((i+1:Nat):Int)],[ocL xJ (grow (if bit s i=true then acc++[f i] else acc))]):=by
   by_cases hb:bit s i=true
   ·have hb':(zvq (zh7 s i) 1==1)=true:=hb;rw[Yzd hb];simp only[FB,zz,yM,zj,zb,e,zn,if_true,zvd,zce,zzd,Yzd hb',xZ,ef,kR,ea,x9,hp]
   ·have hb':¬(zvq (zh7 s i) 1==1)=true:=hb;rw[Yzb hb];simp only[FB,zz,yM,zj,zb,e,zn,if_true,zvd,zce,zzd,Yzb hb',ea]
  rw[zH body];by_cases hb:bit s i=true
  ·rw[Yzd hb,ih (i+1) (acc++[f i]) (by omega) (by simp only[Yzq,Yzm,YzJ];omega),xf,Yzd hb];simp
  ·rw[Yzb hb,ih (i+1) acc (by omega) (by omega),xf,Yzb hb]
theorem zAo(x L:List DV):zsF x L=FB (fun i=>[I6 1,zf L 0,i]) (atD x 0):=rfl
theorem zAn(v:DV):zhJ v=FB (fun i=>[I6 2,I6 0,i]) v:=rfl
theorem zAm(v:DV):zhI v=FB (fun i=>[I6 3,i,I6 0]) v:=rfl
def vW:List Int→Nat→List SCt
 | [],_=>[]
 |s::r,i=>(xf s 64 0).map (fun j=>⟨1,(i:Int),(j:Int)⟩)++vW r (i+1)
theorem za8:∀(r:List Int) (i:Nat),(vW r i).length≤64*r.length
 | [],_=>LzB _
 |s::r,i=>by have:=za8 r (i+1);have:=um s 64 0;simp only[vW,Yzq,Yzj,Yzm];omega
theorem ztQ(st:Sl Int)(hl:st.els.length≤10):∀(r:List Int) (i:Nat) (acc:List SCt),st.els.drop i=r→acc.length≤64*i→
  zA (zmm (I6 (st.els.length:Int)) (enL 1 enU st)) [I6 (i:Int)] [ocL xJ (grow acc)]=some (.exit 0,[],[ocL xJ (grow (acc++vW r i))]):=by
 intro r
 induction r with
 |nil=>intro i acc h _;refine zu ?_;simp only[zmm,zz,yM,zj,zb,xY (ya h),zn,vW,Yz5];rfl
 |cons x r ih=>intro i acc h ha;have h1:=yH h;have ea:zc .add (I6 (i:Int)) (I6 1)=some (I6 ((i+1:Nat):Int)):=yQ;have c:=lFB (mk:=fun v=>[I6 1,I6 (i:Int),v]) (f:=fun j=>⟨1,(i:Int),(j:Int)⟩) (fun _=>rfl) x 64 0 acc rfl (by omega);rw[show (I6 ((0:Nat):Int):DV)=I6 0 from rfl]at c;have hb:=um x 64 0;rw[zH (by simp only[zmm,zz,yM,zj,zb,jX h1,zn,if_true,yc h,zAo,enU,xE,c,yq,Yzp,Yza,ea];rfl),ih (i+1) _ (zP h) (by simp only[Yzq,Yzj];omega),vW,YzG]
def yn(r:Reg):List SCt:=vW r.stops.els 0++(xf r.cpls 64 0).map (fun j=>⟨2,0,(j:Int)⟩)++(xf r.off 64 0).map (fun j=>⟨3,(j:Int),0⟩)
theorem zos(r:Reg)(hl:r.stops.els.length≤10):zA (zhJ (U64 r.cpls)) [I6 0] [ocL xJ (grow (vW r.stops.els 0))]=some (.exit 0,[],[ocL xJ (grow (vW r.stops.els 0++(xf r.cpls 64 0).map (fun j=>⟨2,0,(j:Int)⟩)))]):=by rw[zAn];have:=za8 r.stops.els 0;exact lFB (fun _=>rfl) r.cpls 64 0 _ rfl (by omega)
theorem zor(r:Reg)(hl:r.stops.els.length≤10):zA (zhI (U64 r.off)) [I6 0] [ocL xJ (grow (vW r.stops.els 0++(xf r.cpls 64 0).map (fun j=>⟨2,0,(j:Int)⟩)))]=some (.exit 0,[],[ocL xJ (grow (yn r))]):=by rw[zAm];have:=za8 r.stops.els 0;have:=um r.cpls 64 0;exact lFB (fun _=>rfl) r.off 64 0 _ rfl (by simp only[Yzq,Yzj];omega)
theorem zuH(a b:SCt):zmq [1,1,1] [I6 a.kind,I6 a.div,I6 a.idx] [I6 b.kind,I6 b.div,I6 b.idx]=some (decide (a=b)):=by
 cases a with|mk r s t=>
 cases b with|mk r' s' t'=>
 simp only[zmq,eqD,xu,Yza,jU];by_cases h1:r=r'
 ·by_cases h2:s=s'
  ·by_cases h3:t=t'
   ·grind
   ·have e3:(t==t')=false:=by grind
    simp[h1,h2,h3,e3]
  ·have e2:(s==s')=false:=by grind
   simp[h1,h2,e2]
 ·have e1:(r==r')=false:=by grind
  simp[h1,e1]
theorem l58(d:SCt)(l:Sl SCt)(hl:l.els.length≤9223372036854775807):∀(r:List SCt) (i:Nat),l.els.drop i=r→
  zA (zpF (I6 (l.els.length:Int)) (enL 3 xJ l) (I6 d.kind) (I6 d.div) (I6 d.idx)) [I6 (i:Int)] []=some (found (xO (fun x=>decide (d=x)) r i)):=by
 intro r
 induction r with
 |nil=>
  intro i h;refine zu ?_
  grind[zpF,zz,zj,zb,xY,ya,zn]
 |cons x r ih=>
  intro i h;have h1:=yH h;have ea:zc .add (I6 (i:Int)) (I6 1)=some (I6 ((i+1:Nat):Int)):=yQ;have eq:=zuH d x;have body:zpF (I6 (l.els.length:Int)) (enL 3 xJ l) (I6 d.kind) (I6 d.div) (I6 d.idx) [I6 (i:Int)] []=some (if d=x then(.ret,[I6 (i:Int)],[]) else(.normal,[I6 ((i+1:Nat):Int)],[])):=by
   simp only[zpF,zz,zj,zb,jX h1,zn,if_true,yc h,xJ,xE,vh,eq,ea]
   grind
  by_cases hc:d=x
  ·rw[Yzd hc]at body;grind[zB,xO,found]
  ·rw[Yzb hc]at body;grind[zH,zP,xO]
theorem zrJ(d:SCt)(l:List SCt):(l.any fun x=>decide (d=x))=decide (d∈l):=by grind
theorem t31(k:Nat)(d:SCt)(l:Sl SCt)(hl:l.els.length≤9223372036854775807):D (k+2) 31 [S1 (enL 3 xJ l),SA [I6 d.kind,I6 d.div,I6 d.idx]]=some (S1 (Bo (decide (d∈l.els)))):=by
 have c:D (k+1) 58 [S1 (enL 3 xJ l),SA [I6 d.kind,I6 d.div,I6 d.idx]]=some (S1 (I6 (match xO (fun x=>decide (d=x)) l.els 0 with|some i=>(i:Int)|none=>-1))):=by rw[D58];unfold P58;have:=l58 d l hl l.els 0 rfl;simp only[zD,zb];rw[show (I6 0:DV)=I6 ((0:Nat):Int) from rfl,this];cases xO (fun x=>decide (d=x)) l.els 0<;>rfl
 rw[D31];unfold P31;rw[c,←zrJ,←wv (fun x=>decide (d=x)) l.els 0];cases xO (fun x=>decide (d=x)) l.els 0<;>simp_all
theorem t30(k:Nat)(d:SCt)(y:Sl SCt)(hy:y.els.length≤1000):D (k+3) 30 [SA [I6 d.kind,I6 d.div,I6 d.idx],S1 (.fp [enL 3 xJ y] 0)]=some (S1 (Bo (decide (d∈y.els)))):=by have c:=t31 k d y (by omega);rw[D30];unfold P30;rw[c];rfl
theorem l57(k:Nat)(y:Sl SCt)(hy:y.els.length≤1000)(l:Sl SCt)(hl:l.els.length≤1000):∀(r:List SCt) (i:Nat),l.els.drop i=r→
  zA (zpG (D (k+3)) (I6 (l.els.length:Int)) (enL 3 xJ l) (.fn 30 [[enL 3 xJ y]])) [I6 (i:Int)] []=some (found (xO (fun x=>decide (x∈y.els)) r i)):=by
 intro r
 induction r with
 |nil=>
  intro i h;refine zu ?_
  grind[zpG,zz,zj,zb,xY,ya,zn]
 |cons x r ih=>
  intro i h;have h1:=yH h;have ea:zc .add (I6 (i:Int)) (I6 1)=some (I6 ((i+1:Nat):Int)):=yQ;have c:zhR (D (k+3)) (.fn 30 [[enL 3 xJ y]]) [SA [I6 x.kind,I6 x.div,I6 x.idx]]=some (S1 (Bo (decide (x∈y.els)))):=t30 k x y hy;have body:zpG (D (k+3)) (I6 (l.els.length:Int)) (enL 3 xJ l) (.fn 30 [[enL 3 xJ y]]) [I6 (i:Int)] []=some (if x∈y.els then(.ret,[I6 (i:Int)],[]) else(.normal,[I6 ((i+1:Nat):Int)],[])):=by
   simp only[zpG,zz,zj,zb,jX h1,zn,if_true,yc h,xJ,xE,vh,c,zX,ea]
   grind
  by_cases hc:x∈y.els
  ·rw[Yzd hc]at body;grind[zB,xO,found]
  ·rw[Yzb hc]at body;grind[zH,zP,xO]
theorem t57(k:Nat)(y:Sl SCt)(hy:y.els.length≤1000)(l:Sl SCt)(hl:l.els.length≤1000):D (k+4) 57 [S1 (enL 3 xJ l),.s (.one (.fn 30 [[enL 3 xJ y]]))]=some (S1 (I6 (match xO (fun x=>decide (x∈y.els)) l.els 0 with|some i=>(i:Int)|none=>-1))):=by have c:=l57 k y hy l hl l.els 0 rfl;rw[show (I6 ((0:Nat):Int):DV)=I6 0 from rfl]at c;rw[D57];unfold P57;simp only[zD,zb,c];cases xO (fun x=>decide (x∈y.els)) l.els 0<;>rfl
theorem t55(k:Nat)(o:Org)(ho:o.ok)(r:Reg):D (k+11) 55 [SA (enO o),SA (yz r)]=some (S1 (I6 (yB o r))):=by
 have c:=t27 (k+1) o ho;have d:=t10 k o ho r;unfold enO at c d ⊢;unfold yz at d ⊢;rw[D55];unfold P55;rw[c,zX,zU,zb,zn,d,zX];by_cases h:jS o=0
 ·rw[Yzb (by simp[h])]
 ·rw[Yzd (by simpa using h)];unfold yB;rw[Yzd h]
end Go.Proofs.Tryz.Kn
end
noncomputable section
namespace Go.Proofs.Tryz.Kn
open Go Go.CE Go.PE
def y9(r:Reg)(c:SCt):Reg:=
 if c.kind=1 then⟨some (r.stops.els.set c.div.toNat (orI ((r.stops.els[c.div.toNat]?).getD 0) ((2^c.idx.toNat:Nat):Int))),r.cpls,r.off⟩
 else if c.kind=2 then⟨some r.stops.els,orI r.cpls ((2^c.idx.toNat:Nat):Int),r.off⟩
 else⟨some r.stops.els,r.cpls,orI r.off ((2^c.div.toNat:Nat):Int)⟩
def okC(n:Nat)(c:SCt):Prop:=(∃d i:Nat,d<n∧i<3∧c=⟨1,(d:Int),(i:Int)⟩)∨(∃i:Nat,i<3∧c=⟨2,0,(i:Int)⟩)∨(∃i:Nat,i<3∧c=⟨3,(i:Int),0⟩)
theorem zpw(r:Reg)(c:SCt):(y9 r c).stops=some (y9 r c).stops.els:=by
 unfold y9;split
 ·rfl
 split<;>rfl
theorem zgl(r:Reg)(c:SCt):(y9 r c).stops.els.length=r.stops.els.length:=by
 unfold y9;split
 ·simp
 split<;>rfl
theorem zhy:∀(l:List SCt) (r:Reg),r.stops=some r.stops.els→(l.foldl y9 r).stops=some (l.foldl y9 r).stops.els
 | [],_,h=>h
 |c::l,r,_=>zhy l (y9 r c) (zpw r c)
theorem zkT:∀(l:List SCt) (r:Reg),(l.foldl y9 r).stops.els.length=r.stops.els.length
 | [],_=>rfl
 |c::l,r=>(zkT l (y9 r c)).trans (zgl r c)
def zfu(m:Nat):Nat→Reg→List SCt→List Reg
 |n,a,[]=>if 0<n then[a] else[]
 |n,a,c::r=>if n+1=m then y9 a c::zfu m 0 (y9 a c) r else zfu m (n+1) (y9 a c) r
theorem zer(m:Nat):∀(r:List SCt) (n:Nat) (a:Reg),n<m→(0<n∨r≠[])→zfu m n a r=(r.take (m-n)).foldl y9 a::zfu m 0 ((r.take (m-n)).foldl y9 a) (r.drop (m-n))
 | [],n,a,_,h=>by have h:0<n:=h.resolve_right fun h=>h rfl;simp[zfu,h]
 |c::r,n,a,hn,_=>by
  show (if n+1=m then y9 a c::zfu m 0 (y9 a c) r else zfu m (n+1) (y9 a c) r)=_;by_cases e:n+1=m
  ·rw[Yzd e,show m-n=1 by omega];rfl
  ·obtain⟨q,hq⟩:∃q,m-n=q+1:=⟨m-n-1,by omega⟩;have hq':m-(n+1)=q:=by omega
   rw[Yzb e,zer m r (n+1) (y9 a c) (by omega) (Or.inl (by omega)),hq,hq'];rfl
def GI(n:Nat)(acc:Nat→Option (List DV))(L:List DV)(M:List OC):Option PX:=
  za (zc .lss (zf L 0) (.int .i64 (.ofNat n))) fun v2=>ifB v2
   (za (jV n (zf L 0)) fun n3=>za (acc n3) fun x4=>za (zc .eql (atD x4 0) (I6 1)) fun v5=>ifB v5
     (za (xe (zt M 0) (atD x4 1)) fun n6=>za (jW (zt M 0) n6) fun x7=>za (z7 true (U64 1) (atD x4 2)) fun v8=>za (zc .or (atD x7 0) v8) fun v9=>za (xe (zt M 0) (atD x4 1)) fun n10=>za (zgo 1 (zt M 0) n10 0 [v9]) fun w11=>za (zc .add (zf L 0) (I6 1)) fun v12=>some (.normal,[v12,zf L 1,zf L 2],[w11]))
     (za (zc .eql (atD x4 0) (I6 2)) fun v13=>ifB v13
       (za (z7 true (U64 1) (atD x4 2)) fun v14=>za (zc .or (zf L 1) v14) fun v15=>za (zc .add (zf L 0) (I6 1)) fun v16=>some (.normal,[v16,v15,zf L 2],[zt M 0]))
       (za (zc .eql (atD x4 0) (I6 3)) fun v17=>ifB v17
         (za (z7 true (U64 1) (atD x4 1)) fun v18=>za (zc .or (zf L 2) v18) fun v19=>za (zc .add (zf L 0) (I6 1)) fun v20=>some (.normal,[v20,zf L 1,v19],[zt M 0]))
         (za (zc .add (zf L 0) (I6 1)) fun v21=>some (.normal,[v21,zf L 1,zf L 2],[zt M 0])))))
   (some (.exit 5,[zf L 1,zf L 2],[zt M 0]))
theorem lGI(nd:Nat)(xs:List SCt)(hl:xs.length≤1000)(hx:∀c∈xs,okC nd c)(acc:Nat→Option (List DV))(hacc:∀i c,xs[i]? = some c→acc i=some (xJ c)):∀(r:List SCt) (i:Nat) (a:Reg),xs.drop i=r→a.stops.els.length=nd→
  zA (GI xs.length acc) [I6 (i:Int),U64 a.cpls,U64 a.off] [ocL enU (some a.stops.els)]=some (.exit 5,[U64 (r.foldl y9 a).cpls,U64 (r.foldl y9 a).off],[ocL enU (some (r.foldl y9 a).stops.els)]):=by
 intro r
 induction r with
 |nil=>intro i a h _;refine zu ?_;simp only[GI,zz,yF,yM,xy,zj,zb,xY (ya h),zn];rfl
 |cons c r ih=>
  intro i a h ha;have h1:=yH h;have hc:=xa h;have ea:zc .add (I6 (i:Int)) (I6 1)=some (I6 ((i+1:Nat):Int)):=yQ;have body:GI xs.length acc [I6 (i:Int),U64 a.cpls,U64 a.off] [ocL enU (some a.stops.els)]=some (.normal,[I6 ((i+1:Nat):Int),U64 (y9 a c).cpls,U64 (y9 a c).off],[ocL enU (some (y9 a c).stops.els)]):=by
   simp only[GI,zz,yF,yM,xy,zj,zb,jX h1,zn,if_true,zjT h1,hacc i c hc,xJ,xE,vh,zO];rcases hx c (Lz3 hc) with⟨d,j,hd,hj,rfl⟩|⟨j,hj,rfl⟩|⟨j,hj,rfl⟩
   ·obtain⟨s,hs⟩:∃s,a.stops.els[d]? = some s:=⟨_,Lz5 (by omega)⟩;have e1:xe (some (a.stops.els.map enU)) (I6 (d:Int))=some d:=jC (by rw[Yzj];omega);have e2:jW (some (a.stops.els.map enU)) d=some [U64 s]:=by
     show ((a.stops.els.map enU)[d]?)=_;rw[Lz6,hs];rfl
    have e3:z7 true (U64 1) (I6 (j:Int))=some (U64 ((2^j:Nat):Int)):=zlv (by omega);have e4:zgo 1 (some (a.stops.els.map enU)) d 0 [U64 (orI s ((2^j:Nat):Int))]=some (some ((a.stops.els.set d (orI s ((2^j:Nat):Int))).map enU)):=zzv hs (Lz4 rfl) rfl;have e5:y9 a ⟨1,(d:Int),(j:Int)⟩=⟨some (a.stops.els.set d (orI s ((2^j:Nat):Int))),a.cpls,a.off⟩:=by unfold y9;rw[Yzd rfl];simp only[YzE,hs,Yz2]
    rw[e5];simp only[Yzu,if_true,zaB,e1,e2,zb,e3,xE,zbe,e4,ea,xw]
   ·have e3:z7 true (U64 1) (I6 (j:Int))=some (U64 ((2^j:Nat):Int)):=zlv (by omega);have e5:y9 a ⟨2,0,(j:Int)⟩=⟨some a.stops.els,orI a.cpls ((2^j:Nat):Int),a.off⟩:=by
     unfold y9;rw[Yzb (by decide:¬(2:Int)=1),Yzd rfl];simp only[YzE]
    rw[e5];simp only[show ((2:Int)==1)=false from rfl,Yzu,Yzh,if_true,if_false,zb,e3,zbe,ea,xw,zn,zaB]
   ·have e3:z7 true (U64 1) (I6 (j:Int))=some (U64 ((2^j:Nat):Int)):=zlv (by omega);have e5:y9 a ⟨3,(j:Int),0⟩=⟨some a.stops.els,a.cpls,orI a.off ((2^j:Nat):Int)⟩:=by
     unfold y9;rw[Yzb (by decide:¬(3:Int)=1),Yzb (by decide:¬(3:Int)=2)];simp only[YzE]
    rw[e5];simp only[show ((3:Int)==1)=false from rfl,show ((3:Int)==2)=false from rfl,Yzu,Yzh,if_true,if_false,zb,e3,zbe,ea,xw,zn,zaB]
  rw[zH body,ih (i+1) (y9 a c) (zP h) ((zgl a c).trans ha)];rfl
theorem zrU{k:IntKind}{i n:Nat}(h:i<n):vwB (some (.int k (i:Int))) none n=some (i,n-i):=by
 show (match (bif Nat.ble i n then some i else none) with|some l=>bif Nat.beq l 0 || !Nat.beq l n then some (l,n-l) else none|none=>none)=_;have e:Nat.beq i n=false:=by
  cases hb:Nat.beq i n with
  |false=>rfl
  |true=>have:=Lz1 hb;omega
 rw[Yzf (by omega)];show (bif Nat.beq i 0 || !Nat.beq i n then some (i,n-i) else none)=_;rw[e,Bool.not_false,Bool.or_true];rfl
theorem zvt{k:IntKind}{i n:Nat}(h:i≤n):vwB none (some (.int k (i:Int))) n=some (0,i):=by show (match (bif Nat.ble i n then some i else none) with|some hh=>(match qP none 0 hh with|some l=>bif Nat.beq l 0 || !Nat.beq l hh then some (l,hh-l) else none|none=>none)|none=>none)=_;rw[Yzf h];rfl
theorem zsL{k k' k2:IntKind}{i e n:Nat}(h:i<e)(h2:e≤n):zmn (some (.int k (i:Int))) (.int k' (e:Int)) (.int k2 (e:Int)) n=some (i,e-i):=by
 show (match (bif Nat.ble e n then some e else none) with|some m=>(match (bif Nat.ble e m then some e else none) with|some hh=>(match (bif Nat.ble i hh then some i else none) with|some l=>bif Nat.beq l hh then none else some (l,hh-l)|none=>none)|none=>none)|none=>none)=_;rw[Yzf h2];show (match (bif Nat.ble e e then some e else none) with|some hh=>(match (bif Nat.ble i hh then some i else none) with|some l=>bif Nat.beq l hh then none else some (l,hh-l)|none=>none)|none=>none)=_;rw[Yzf (LzB e)];show (match (bif Nat.ble i e then some i else none) with|some l=>bif Nat.beq l e then none else some (l,e-l)|none=>none)=_;rw[Yzf (by omega)];show (bif Nat.beq i e then none else some (i,e-i))=_;have e:Nat.beq i e=false:=by
  cases hb:Nat.beq i e with
  |false=>rfl
  |true=>have:=Lz1 hb;omega
 rw[e];rfl
def GK(m:DV)(L:List DV)(M:List OC)(i:Nat)(L':List DV)(M':List OC):Option PX:=
 bif Nat.beq i 5 then(gd (fits 40 (xR (zt M 0)+1)) (za (zc .add (zf L 0) m) fun v=>some (.normal,[v,mkL 1 (zt M' 0),zf L' 0,zf L' 1,zf L 4,zf L 5],[some (zG (zt M 0)++[[mkL 1 (zt M' 0),zf L' 0,zf L' 1]])])))
 else(bif Nat.beq i 4 then(za (zc .add (zf L 0) m) fun v=>some (.normal,[v,mkL 1 (zt M' 0),zf L' 0,zf L' 1,zf L 4,zf L 5],[zt M 0])) else none)
def GO(n:Nat)(acc:Nat×Nat→Nat→Option (List DV))(m:DV)(L:List DV)(M:List OC):Option PX:=
  za (zc .lss (zf L 0) (.int .i64 (.ofNat n))) fun v3=>ifB v3
   (za (vwB (some (zf L 0)) none n) fun p4 => za (wp false m [.int .i64 (.ofNat p4.2)]) fun v5 => za (zc .add (zf L 0) v5) fun v6 => za (zc .add (zf L 0) v5) fun v7 => za (zmn (some (zf L 0)) v6 v7 n) fun p8 =>
    za (zc .eql (I6 (Int.ofNat (xR (zt M 0)))) (I6 100)) fun v9=>ifB v9
     (some (.ret,[I6 0,zf L 1,zf L 2,zf L 3,.nils,I6 4],[zt M 0]))
     (za (zau (zf L 1)) fun q10=>ifB (.bool q10)
       (z6 (zA (GI p8.2 (acc p8)) [I6 0,zf L 2,zf L 3] [none]) (GK m L M) (fun _ _=>none))
       (za (vZ 1 (zf L 1)) fun e11=>gd (fits 8 (xR (some [])+(e11:List (List DV)).length)) (z6 (zA (GI p8.2 (acc p8)) [I6 0,zf L 2,zf L 3] [zdU (some []) e11]) (GK m L M) (fun _ _=>none)))))
   (some (.exit 0,[zf L 1,zf L 2,zf L 3,zf L 4,zf L 5],[zt M 0]))
theorem zwZ(M:List OC)(m:DV):zpA M m=GO (xR (zt M 0)) (fun p i=>jW (zt M 0) (p.1+i)) m:=rfl
theorem zw0(p:Nat×Nat)(m:DV)(M:List OC)(q:Nat×Nat):zsE p m M q=GO p.2 (fun p' i=>jW (zms (zt M 0) q.1 q.2 [I6 0,I6 0,I6 0]) ((p.1+p'.1)+i)) m:=rfl
theorem lGO(nd:Nat)(hnd:nd≤10)(xs:List SCt)(hl:xs.length≤99)(hx:∀c∈xs,okC nd c)(acc:Nat×Nat→Nat→Option (List DV))(hacc:∀p i c,xs[p.1+i]? = some c→acc p i=some (xJ c))(m:Nat)(hm:0<m)(hm2:m≤9223372036854775807)(x y:DV):
  ∀(n i:Nat) (a:Reg) (out:List Reg),xs.length-i≤n→out.length≤i→(i=0∨m≤i)→a.stops.els.length=nd→a.stops=some a.stops.els→
  ∃L',zA (GO xs.length acc (I6 (m:Int))) [I6 (i:Int),enL 1 enU a.stops,U64 a.cpls,U64 a.off,x,y] [ocL yz (grow out)]=some (.exit 0,L',[ocL yz (grow (out++zfu m 0 a (xs.drop i)))]):=by
 intro n
 induction n with
 |zero=>intro i a out h _ _ _ _;refine⟨[enL 1 enU a.stops,U64 a.cpls,U64 a.off,x,y],zu ?_⟩;have hd:xs.drop i=[]:=List.drop_eq_nil_of_le (by omega);simp only[GO,zz,yF,yM,xy,zj,zb,xY (show xs.length≤i by omega),zn,hd,zfu,Nat.lt_irrefl,if_false,Yz5];rfl
 |succ n ih=>
  intro i a out h ho hi ha hs;by_cases hi2:xs.length≤i
  ·refine⟨[enL 1 enU a.stops,U64 a.cpls,U64 a.off,x,y],zu ?_⟩;have hd:xs.drop i=[]:=List.drop_eq_nil_of_le (by omega);simp only[GO,zz,yF,yM,xy,zj,zb,xY hi2,zn,hd,zfu,Nat.lt_irrefl,if_false,Yz5];rfl
  have hlt:i<xs.length:=by omega
  have hne:xs.drop i≠[]:=fun e=>by have:=congrArg List.length e;simp only[List.length_drop,YzJ]at this;omega
  have hc:=zer m (xs.drop i) 0 a hm (Or.inr hne);rw[Nat.sub_zero]at hc;generalize hpt:(xs.drop i).take m=part at hc;have hpl:part.length=min m (xs.length-i):=by rw[←hpt,List.length_take,List.length_drop]
  have hp:∀(j:Nat) (c:SCt),part[j]? = some c→xs[i+j]? = some c:=by
   intro j c hj;rw[←hpt]at hj;have hj2:j<m:=by refine Nat.lt_of_not_le fun hle=>?_;rw[Yzx,Yzb (by omega)]at hj;cases hj
   rw[Yzx,Yzd hj2,Yzs]at hj;exact hj
  have g:=lGI nd part (by omega) (fun c hc=>by rw[←hpt]at hc;exact hx c (List.mem_of_mem_drop (List.mem_of_mem_take hc))) (acc (i,part.length)) (fun j c hj=>hacc (i,part.length) j c (hp j c hj)) part 0 a rfl ha
  rw[show (I6 ((0:Nat):Int):DV)=I6 0 from rfl,zaB,zaB]at g;have e5:wp false (I6 (m:Int)) [I6 ((xs.length-i:Nat):Int)]=some (I6 (part.length:Int)):=by
   rw[ztr,hpl]
   congr 2
   omega
  have e6:zc .add (I6 (i:Int)) (I6 (part.length:Int))=some (I6 ((i+part.length:Nat):Int)):=yQ;have e8:zmn (some (I6 (i:Int))) (I6 ((i+part.length:Nat):Int)) (I6 ((i+part.length:Nat):Int)) xs.length=some (i,part.length):=by rw[zsL (by omega) (by omega),Yya]
  have ea:zc .add (I6 (i:Int)) (I6 (m:Int))=some (I6 ((i+m:Nat):Int)):=yQ;have e9:((((grow out).els.length:Nat):Int)==100)=false:=by
   rw[zK];have:¬(out.length:Int)=100:=by omega
   simpa using this
  have ef:fits 40 ((grow out).els.length+1)=true:=wH (by decide) (by rw[zK];omega);have eg:fits 8 (xR (some [])+(a.stops.els.map enU).length)=true:=wH (by decide) (by simp only[Yzj,xR,YzJ];omega);have hb:(part.foldl y9 a).stops=some (part.foldl y9 a).stops.els:=zhy part a hs;have hq:(some ((grow out).els.map yz++[[enL 1 enU (some (part.foldl y9 a).stops.els),U64 (part.foldl y9 a).cpls,U64 (part.foldl y9 a).off]]):OC)=ocL yz (grow (out++[part.foldl y9 a])):=by rw[←hb,wi,←vJ];rfl
  have hn:a.stops.isNone=false:=by rw[hs];rfl
  have body:GO xs.length acc (I6 (m:Int)) [I6 (i:Int),enL 1 enU a.stops,U64 a.cpls,U64 a.off,x,y] [ocL yz (grow out)]=some (.normal,[I6 ((i+m:Nat):Int),enL 1 enU (part.foldl y9 a).stops,U64 (part.foldl y9 a).cpls,U64 (part.foldl y9 a).off,x,y],[ocL yz (grow (out++[part.foldl y9 a]))]):=by simp only[GO,zz,yF,yM,xy,zj,zb,jX hlt,zn,if_true,zrU hlt,e5,e6,e8,xZ,zO,e9,Yzh,if_false,znz,hn,zeg,eg,kR,zpu,g,yq,GK,Yzp,Yza,ef,ea,zz,yF,yM,x9];rw[←hq,hb];rfl
  obtain⟨L',hL⟩:=ih (i+m) (part.foldl y9 a) (out++[part.foldl y9 a]) (by omega) (by simp only[Yzq,Yzm,YzJ];omega) (Or.inr (by omega)) ((zkT part a).trans ha) hb;refine⟨L',?_⟩;rw[zH body,hL,hc,YzH];simp
theorem zmH{α:Type}{l:List α}{i:Nat}{x:α}(h:i<l.length):(l.set i x).take (i+1)=l.take i++[x]:=by grind[List.take_add_one,List.take_set,List.set_eq_of_length_le]
def vO(y:List SCt)(c:SCt):Bool:=!decide (c∈y)
theorem zwK(k:Nat)(y:Sl SCt)(hy:y.els.length≤1000)(n:Nat)(hn:n≤1000):∀(r:List SCt) (j:Nat) (w kept:List SCt),w.length=n→w.drop j=r→w.take kept.length=kept→kept.length≤j→
  ∃w':List SCt,zA (zdO (D (k+3)) [ocL xJ y]) [I6 (j:Int),I6 (kept.length:Int)] [some (w.map xJ)]=some (.exit 0,[I6 ((kept++r.filter (vO y.els)).length:Int)],[some (w'.map xJ)])∧w'.length=n∧w'.take (kept++r.filter (vO y.els)).length=kept++r.filter (vO y.els):=by
 intro r
 induction r with
 |nil=>intro j w kept hw h ht _;have e:xR (some (w.map xJ))=w.length:=Yzj ..;refine⟨w,zu ?_,hw,by simpa using ht⟩;simp only[zdO,zz,yF,yM,e,xy,zj,zb,xY (ya h),zn,List.filter_nil,Yz5];rfl
 |cons x r ih=>
  intro j w kept hw h ht hk;have h1:=yH h;have hx:=xa h;have e:xR (some (w.map xJ))=w.length:=Yzj ..;have ea:zc .add (I6 (j:Int)) (I6 1)=some (I6 ((j+1:Nat):Int)):=yQ;have eb:zc .add (I6 (kept.length:Int)) (I6 1)=some (I6 ((kept.length+1:Nat):Int)):=yQ;have e1:xe (some (w.map xJ)) (I6 (j:Int))=some j:=jC (by rw[Yzj];exact h1);have e2:jW (some (w.map xJ)) j=some (xJ x):=by show ((w.map xJ)[j]?)=_;rw[Lz6,hx];rfl
  have e3:xe (some (w.map xJ)) (I6 (kept.length:Int))=some kept.length:=jC (by rw[Yzj];omega);obtain⟨z,hz⟩:∃z,w[kept.length]? = some z:=⟨_,Lz5 (by omega)⟩;have e4:zgo 3 (some (w.map xJ)) kept.length 0 [I6 x.kind,I6 x.div,I6 x.idx]=some (some ((w.set kept.length x).map xJ)):=zzv hz (Lz4 rfl) rfl;have c:=t30 k x y hy;by_cases hm:x∈y.els
  ·have body:zdO (D (k+3)) [ocL xJ y] [I6 (j:Int),I6 (kept.length:Int)] [some (w.map xJ)]=some (.normal,[I6 ((j+1:Nat):Int),I6 (kept.length:Int)],[some (w.map xJ)]):=by
    simp only[zdO,zz,yF,yM,e,xy,zj,zb,jX h1,zn,if_true,e1,e2,xJ,xE,vh,kK,c,zuU,yY,hm,decide_true,Yyf,Yzh,if_false,ea]
   obtain⟨w',a1,a2,a3⟩:=ih (j+1) w kept hw (zP h) ht (by omega);have ef:(x::r).filter (vO y.els)=r.filter (vO y.els):=by simp[vO,hm]
   rw[zH body,ef];exact⟨w',a1,a2,a3⟩
  ·have body:zdO (D (k+3)) [ocL xJ y] [I6 (j:Int),I6 (kept.length:Int)] [some (w.map xJ)]=some (.normal,[I6 ((j+1:Nat):Int),I6 ((kept.length+1:Nat):Int)],[some ((w.set kept.length x).map xJ)]):=by
    simp only[zdO,zz,yF,yM,e,xy,zj,zb,jX h1,zn,if_true,e1,e2,xJ,xE,vh,kK,c,zuU,yY,hm,decide_false,Bool.not_false,e3,e4,ea,eb]
   have hl:(kept++[x]).length=kept.length+1:=by simp
   obtain⟨w',a1,a2,a3⟩:=ih (j+1) (w.set kept.length x) (kept++[x]) (by rw[List.length_set];exact hw) (by rw[List.drop_set_of_lt (by omega)];exact zP h) (by rw[hl,zmH (by omega),ht]) (by omega);have ef:(x::r).filter (vO y.els)=x::r.filter (vO y.els):=by simp[vO,hm]
   have ek:kept++x::r.filter (vO y.els)=kept++[x]++r.filter (vO y.els):=by simp
   rw[hl]at a1;rw[zH body,ef,ek];exact⟨w',a1,a2,a3⟩
theorem zdp{α:Type}(p:α→Bool):∀(l:List α) (n i:Nat),xO p l n=some i→n≤i∧∃x,l[i-n]? = some x∧p x=true∧∀y∈l.take (i-n),p y=false
 | [],_,_,h=>by cases h
 |x::l,n,i,h=>by
  unfold xO at h;by_cases hp:p x=true
  ·rw[Yzd hp]at h;cases h;exact⟨LzB _,x,by simp,hp,by simp⟩
  ·rw[Yzb hp]at h;obtain⟨h1,y,h2,h3,h4⟩:=zdp p l (n+1) i h;obtain⟨q,hq⟩:∃q,i-n=q+1:=⟨i-n-1,by omega⟩;rw[show i-(n+1)=q by omega]at h2 h4;rw[hq];refine⟨by omega,y,by simpa using h2,h3,fun z hz=>?_⟩;rw[List.take_succ_cons]at hz;rcases Yzw.1 hz with rfl|hz
   ·simpa using hp
   ·exact h4 z hz
theorem zl3{α:Type}(p:α→Bool)(l:List α)(n:Nat)(h:xO p l n=none):∀y∈l,p y=false:=by
 have:=wv p l n;rw[h]at this;intro y hy;cases hp:p y with
 |false=>rfl
 |true=>rw[List.any_eq_true.2 ⟨y,hy,hp⟩]at this;cases this
theorem zuP{l:List (List DV)}{n m j:Nat}{ds:List DV}(h:j<n)(hl:n≤l.length):jW (zms (some l) n m ds) j=l[j]?:=by show ((l.take n++List.replicate m ds++l.drop (n+m))[j]?)=_;rw[YzG,Lz2 (by rw[List.length_take];omega),Yzx,Yzd h]
theorem zuO{l:List (List DV)}{n:Nat}{ds:List DV}(hl:n≤l.length):xR (zms (some l) n (l.length-n) ds)=l.length:=by show (l.take n++List.replicate (l.length-n) ds++l.drop (n+(l.length-n))).length=_;simp only[Yzq,List.length_take,Yyg,List.length_drop];omega
theorem zmZ{x:Int}{n:Nat}(hn:n≤3)(h:zh7 x n=0):sm x:=by
 unfold zh7 at h;have hm:min n 64=n:=by omega
 rw[hm,Int.fdiv_eq_ediv_of_nonneg _ (by exact Int.le_of_lt (Int.pow_pos (by decide)))]at h;unfold sm;rcases (show n=0∨n=1∨n=2∨n=3 by omega) with rfl|rfl|rfl|rfl
 ·rw[show (2:Int)^0=1 from rfl]at h;omega
 ·rw[show (2:Int)^1=2 from rfl]at h;omega
 ·rw[show (2:Int)^2=4 from rfl]at h;omega
 ·rw[show (2:Int)^3=8 from rfl]at h;omega
theorem zpp:((List.range 8).all fun x=>xf (x:Int) 64 0==[0,1,2].filter (bit (x:Int)))=true:=by kernel_rfl
theorem zjc{x:Int}(h:sm x):xf x 64 0=[0,1,2].filter (bit x):=by
 obtain⟨a,rfl⟩:∃a:Nat,x=(a:Int):=⟨x.toNat,by have:=h.1;omega⟩;have:=YzL.1 zpp a (List.mem_range.2 (by have:=h.2;omega))
 simpa using this
theorem zcj{x:Int}(h:sm x){j:Nat}:j∈xf x 64 0↔j<3∧bit x j=true:=by
 rw[zjc h,List.mem_filter];have:j∈[0,1,2]↔j<3:=by simp only[Yzw,Yzt,or_false];omega
 rw[this]
theorem zdI{x:Int}(h:sm x):(xf x 64 0).length≤3:=by rw[zjc h];exact List.length_filter_le _ _
theorem zcy:∀(r:List Int) (i:Nat),(∀x∈r,sm x)→(vW r i).length≤3*r.length
 | [],_,_=>LzB _
 |s::r,i,h=>by have:=zcy r (i+1) fun x hx=>h x (Yze _ hx);have:=zdI (h s (Yzg ..));simp only[vW,Yzq,Yzj,Yzm];omega
theorem uN:∀(r:List Int) (i:Nat),(∀x∈r,sm x)→∀c:SCt,c∈vW r i↔∃(d j:Nat) (s:Int),r[d]? = some s∧j<3∧bit s j=true∧c=⟨1,((i+d:Nat):Int),(j:Int)⟩
 | [],i,_,c=>by
  constructor
  ·intro h;cases h
  ·rintro⟨d,j,s,h,_⟩;cases h
 |s::r,i,h,c=>by
  rw[vW,List.mem_append,List.mem_map,uN r (i+1) fun x hx=>h x (Yze _ hx)]
  constructor
  ·rintro (⟨j,hj,rfl⟩|⟨d,j,s',h1,h2,h3,rfl⟩)
   ·obtain⟨h1,h2⟩:=(zcj (h s (Yzg ..))).1 hj;exact⟨0,j,s,rfl,h1,h2,rfl⟩
   ·exact⟨d+1,j,s',h1,h2,h3,by rw[show i+1+d=i+(d+1) by omega]⟩
  ·rintro⟨d,j,s',h1,h2,h3,rfl⟩
   cases d with
   |zero=>cases h1;exact Or.inl ⟨j,(zcj (h s (Yzg ..))).2 ⟨h2,h3⟩,rfl⟩
   |succ d=>exact Or.inr ⟨d,j,s',h1,h2,h3,by rw[show i+1+d=i+(d+1) by omega]⟩
structure Tn (n:Nat) (r:Reg):Prop where
 len:r.stops.els.length=n
 st:∀x∈r.stops.els,sm x
 c:sm r.cpls
 f:sm r.off
theorem wg{n:Nat}{r:Reg}(T:Tn n r)(c:SCt):c∈yn r↔(∃(d j:Nat) (s:Int),r.stops.els[d]? = some s∧j<3∧bit s j=true∧c=⟨1,(d:Int),(j:Int)⟩)∨(∃j:Nat,j<3∧bit r.cpls j=true∧c=⟨2,0,(j:Int)⟩)∨(∃j:Nat,j<3∧bit r.off j=true∧c=⟨3,(j:Int),0⟩):=by
 unfold yn;rw[List.mem_append,List.mem_append,uN _ _ T.st,List.mem_map,List.mem_map];simp only[zcj T.c,zcj T.f,Yzi]
 constructor
 ·rintro ((h|⟨j,⟨h1,h2⟩,rfl⟩)|⟨j,⟨h1,h2⟩,rfl⟩)
  ·exact Or.inl h
  ·exact Or.inr (Or.inl ⟨j,h1,h2,rfl⟩)
  ·exact Or.inr (Or.inr ⟨j,h1,h2,rfl⟩)
 ·rintro (h|⟨j,h1,h2,rfl⟩|⟨j,h1,h2,rfl⟩)
  ·exact Or.inl (Or.inl h)
  ·exact Or.inl (Or.inr ⟨j,⟨h1,h2⟩,rfl⟩)
  ·exact Or.inr ⟨j,⟨h1,h2⟩,rfl⟩
theorem ziV{n:Nat}{r:Reg}(T:Tn n r):∀c∈yn r,okC n c:=by
 intro c hc;rcases (wg T c).1 hc with⟨d,j,s,h1,h2,_,rfl⟩|⟨j,h1,_,rfl⟩|⟨j,h1,_,rfl⟩
 ·exact Or.inl ⟨d,j,by rw[←T.len];exact(Lz0.1 h1).1,h2,rfl⟩
 ·exact Or.inr (Or.inl ⟨j,h1,rfl⟩)
 ·exact Or.inr (Or.inr ⟨j,h1,rfl⟩)
theorem zco{n:Nat}{r:Reg}(T:Tn n r)(hn:n≤3):(yn r).length≤15:=by have:=zcy r.stops.els 0 T.st;have:=zdI T.c;have:=zdI T.f;have:=T.len;simp only[yn,Yzq,Yzj];omega
theorem zk2{o:Org}(H:Small o){r:Reg}(h:yB o r=0):Tn o.divs.els.length r:=by
 unfold yB at h;have n3:(3:Int)≠0:=by decide
 rw[Yzb (by simp[H.h0])]at h;have h1:r.stops.els.length=o.divs.els.length:=Classical.not_not.1 fun hne=>by rw[Yzd hne]at h;cases h
 rw[Yzb (by simp[h1])]at h;have h2:qG o.divs.els r.stops.els=false:=by
  cases e:qG o.divs.els r.stops.els with
  |false=>rfl
  |true=>rw[Yzd e]at h;exact absurd h n3
 rw[Yzb (by simp[h2])]at h;have h3:zh7 r.cpls o.cpls.els.length=0:=Classical.not_not.1 fun e=>by rw[Yzd e]at h;exact n3 h
 rw[Yzb (by simp[h3])]at h;have h4:zh7 r.off o.divs.els.length=0:=Classical.not_not.1 fun e=>by rw[Yzd e]at h;exact n3 h
 have go:∀(ds:List Zo) (ss:List Int),ss.length=ds.length→(∀d∈ds,d.stops.els.length≤3)→qG ds ss=false→∀x∈ss,sm x:=by
  intro ds
  induction ds with
  |nil=>intro ss hl _ _ x hx;rw[List.length_eq_zero_iff.1 hl]at hx;cases hx
  |cons d ds ih=>
   intro ss hl hs ho x hx;cases ss with
   |nil=>cases hx
   |cons s ss=>
    rw[qG,Bool.or_eq_false_iff]at ho;rcases Yzw.1 hx with rfl|hx
    ·exact zmZ (hs d (Yzg ..)) (by have:=ho.1;simpa using this)
    ·exact ih ss (Nat.add_right_cancel hl) (fun d hd=>hs d (Yze _ hd)) ho.2 x hx
 exact⟨h1,go _ _ h1 H.hs h2,zmZ H.hc h3,zmZ H.hd h4⟩
def y6(o:Org)(a b:Reg)(m:Int):Int:=if yB o a≠0 then yB o a else if yB o b≠0 then yB o b else if m<1 then 3 else if qQ a b=false then 6 else 0
def zhM(a b:Reg):List SCt:=(yn b).filter (vO (yn a))
def zb3(a b:Reg)(m:Int):List DV:=[enL 1 enU a.stops,U64 a.cpls,U64 a.off,enL 1 enU b.stops,U64 b.cpls,U64 b.off,I6 m]
theorem zCj(k:Nat){o:Org}(ho:o.ok)(a b:Reg):zA (zu2 (D (k+11)) (St o.name) (enL 6 enR o.ranks) (enL 5 enV o.divs) (enL 5 enC o.cpls) (enL 1 enU a.stops) (enL 1 enU b.stops) (U64 a.cpls) (U64 b.cpls) (U64 a.off) (U64 b.off)) [I6 0,.nils,I6 0] []=some (if yB o a≠0 then(.ret,[.nils,I6 (yB o a)],[]) else if yB o b≠0 then(.ret,[.nils,I6 (yB o b)],[]) else(.exit 0,[.nils,I6 0],[])):=by
 have ca:=t10 (k+1) o ho a;have cb:=t10 (k+1) o ho b;unfold enO yz at ca cb;have p0:jV 2 (I6 0)=some 0:=rfl;have p1:jV 2 (I6 1)=some 1:=rfl;have a0:zc .add (I6 0) (I6 1)=some (I6 1):=rfl;have a1:zc .add (I6 1) (I6 1)=some (I6 2):=rfl;have d0:decide ((0:Int)<2)=true:=rfl;have d1:decide ((1:Int)<2)=true:=rfl;have d2:decide ((2:Int)<2)=false:=rfl;have body0:zu2 (D (k+11)) (St o.name) (enL 6 enR o.ranks) (enL 5 enV o.divs) (enL 5 enC o.cpls) (enL 1 enU a.stops) (enL 1 enU b.stops) (U64 a.cpls) (U64 b.cpls) (U64 a.off) (U64 b.off) [I6 0,.nils,I6 0] []=some (if yB o a≠0 then(.ret,[.nils,I6 (yB o a)],[]) else(.normal,[I6 1,.nils,I6 0],[])):=by simp only[zu2,zz,yF,zj,zb,d0,zn,if_true,p0,xE,ca,zX,zU,a0];by_cases h:yB o a=0<;>simp[h]
 have body1:zu2 (D (k+11)) (St o.name) (enL 6 enR o.ranks) (enL 5 enV o.divs) (enL 5 enC o.cpls) (enL 1 enU a.stops) (enL 1 enU b.stops) (U64 a.cpls) (U64 b.cpls) (U64 a.off) (U64 b.off) [I6 1,.nils,I6 0] []=some (if yB o b≠0 then(.ret,[.nils,I6 (yB o b)],[]) else(.normal,[I6 2,.nils,I6 0],[])):=by simp only[zu2,zz,yF,zj,zb,d1,zn,if_true,p1,xE,vh,cb,zX,zU,a1];by_cases h:yB o b=0<;>simp[h]
 by_cases h1:yB o a≠0
 ·rw[Yzd h1]at body0 ⊢;exact zB body0
 rw[Yzb h1]at body0 ⊢;rw[zH body0];by_cases h2:yB o b≠0
 ·rw[Yzd h2]at body1 ⊢;exact zB body1
 rw[Yzb h2]at body1 ⊢;rw[zH body1];refine zu ?_;simp only[zu2,zz,yF,zj,zb,d2,zn];rfl
theorem zAu(v a:DV):zyq v a=zmm v a:=rfl
theorem zAt(v:DV):zyj v=zhJ v:=rfl
theorem zAs(v:DV):zyi v=zhI v:=rfl
theorem zAr(v a:DV):zyh v a=zmm v a:=rfl
theorem zAq(v:DV):zyg v=zhJ v:=rfl
theorem zAp(v:DV):zyf v=zhI v:=rfl
theorem znV{α:Type}{f:α→List DV}{v:Sl α}{i:Nat}{x:α}(h:v.els[i]? = some x):jW (ocL f v) i=some (f x):=by
 cases v with
 |none=>cases h
 |some l=>show ((l.map f)[i]?)=_;rw[Lz6,show l[i]? = some x from h];rfl
theorem t8(k:Nat){o:Org}(ho:o.ok)(H:Small o)(a b:Reg)(la:a.stops.els.length≤10)(lb:b.stops.els.length≤10)(m:Int)(hm:m≤9223372036854775807):
  D (k+12) 8 [SA (enO o),SA (zb3 a b m)]=some (.tup [.one (if y6 o a b m≠0 then .nils else enL 3 yz (grow (zfu m.toNat 0 a (zhM a b)))),.one (I6 (y6 o a b m))]):=by
 have c0:=t27 (k+2) o ho;have l4:=zCj k ho a b;have cw:=t18 (k+9) a b (by unfold zgH;omega);have csa:=t55 k o ho a;have csb:=t55 k o ho b;rw[H.h0]at c0;have n0:(!((0:Int)==0))=false:=rfl;unfold enO at c0 csa csb ⊢;unfold yz at cw csa csb;unfold zb3;rw[D8];unfold P8;rw[c0,zX,zU,n0,zb,zn,Yzb Bool.false_ne_true,l4];clear l4;by_cases h1:yB o a=0
 case neg=>
  have hw:y6 o a b m=yB o a:=by unfold y6;rw[Yzd h1]
  rw[hw,Yzd h1,Yzd h1];rfl
 by_cases h2:yB o b=0
 case neg=>
  have hw:y6 o a b m=yB o b:=by unfold y6;rw[Yzb (by simp[h1]),Yzd h2]
  rw[hw,Yzb (by simp[h1]),Yzd h2,Yzd h2];rfl
 rw[Yzb (by simp[h1]),Yzb (by simp[h2]),yq,Yzp,Yza,zj,zb,zn];by_cases h3:m<1
 ·have hw:y6 o a b m=3:=by unfold y6;rw[Yzb (by simp[h1]),Yzb (by simp[h2]),Yzd h3]
  rw[hw,Yzd (by simpa using h3)];rfl
 rw[Yzb (by simpa using h3),cw,zX,yY,zb,zn];cases h4:qQ a b with
 |false=>
  have hw:y6 o a b m=6:=by unfold y6;rw[Yzb (by simp[h1]),Yzb (by simp[h2]),Yzb h3,Yzd h4]
  rw[hw,Yzd (by rfl)];rfl
 |true=>
 have hw:y6 o a b m=0:=by unfold y6;rw[Yzb (by simp[h1]),Yzb (by simp[h2]),Yzb h3,Yzb (by simp[h4])]
 rw[hw];clear hw;rw[h1]at csa;rw[h2]at csb;obtain⟨m,rfl⟩:∃n:Nat,m=(n:Int):=⟨m.toNat,by omega⟩;rw[Yzb (by simp),Yzb (by simp),YzE];have TA:=zk2 H h1;have TB:=zk2 H h2;have la15:=zco TA H.hd;have lb15:=zco TB H.hd;have s1:=ztQ a.stops la a.stops.els 0 [] rfl (LzB _);have s2:=zos a la;have s3:=zor a la;have r1:=ztQ b.stops lb b.stops.els 0 [] rfl (LzB _);have r2:=zos b lb;have r3:=zor b lb;rw[show (I6 ((0:Nat):Int):DV)=I6 0 from rfl,show ocL xJ (grow ([]:List SCt))=none from rfl,Yz0]at s1 r1;have hd1:=(zcS H.h0).2;have hs:a.stops=some a.stops.els:=by
  have:=TA.len;cases hq:a.stops with
  |none=>rw[hq]at this;have this:(0:Nat)=o.divs.els.length:=this;omega
  |some l=>rfl
 have okB:=ziV TB;have ci:=t57 (k+7) (grow (yn a)) (by rw[zK];omega) (grow (yn b)) (by rw[zK];omega);rw[zK,zK]at ci;have d1:decide ((m:Int)<1)=false:=decide_eq_false h3;simp only[csa,zX,zU,n0,zb,zn,Yzh,if_false,zD,zAu,s1,yq,Yzp,Yza,yM,zAt,s2,zAs,s3,csb,zAr,r1,zAq,r2,zAp,r3,kK,ci,zps,zO,zj,d1,zz,yF];have hK:∀c:SCt,vO (yn a) c=!decide (c∈yn a):=fun _=>rfl;cases hf:xO (fun x=>decide (x∈yn a)) (yn b) 0 with
 |none=>
  have hn:=zl3 _ _ _ hf;have hnew:zhM a b=yn b:=List.filter_eq_self.2 fun c hc=>by have:=hn c hc;rw[hK,this];rfl
  have g:=lGO o.divs.els.length (by have:=H.hd;omega) (yn b) (by omega) okB (fun p i=>jW (ocL xJ (grow (yn b))) (p.1+i)) (fun p i c hc=>znV (by rw[zK];exact hc)) m (by omega) (by omega) .nils (I6 0) (yn b).length 0 a [] (by omega) (LzB _) (Or.inl rfl) TA.len hs;obtain⟨L',g⟩:=g;rw[show (I6 ((0:Nat):Int):DV)=I6 0 from rfl,show ocL yz (grow ([]:List Reg))=none from rfl,Yz0,List.drop_zero]at g;have ge:zpA [ocL xJ (grow (yn b))] (I6 (m:Int))=GO (yn b).length (fun p i=>jW (ocL xJ (grow (yn b))) (p.1+i)) (I6 (m:Int)):=by rw[zwZ,yM,xZ,zK]
  simp only[Yzu,if_true,ge,g,yq,Yzp,Yza,yM,kK,hnew]
 |some i=>
  obtain⟨_,x,hx,hpx,hbef⟩:=zdp _ _ _ _ hf;rw[Nat.sub_zero]at hx hbef;have hi:=(Lz0.1 hx).1;have hik:((yn b).take i).length=i:=by rw[List.length_take];omega
  have e1:(((i:Nat):Int) == -1)=false:=by simp
  have ea:zc .add (I6 (i:Int)) (I6 1)=some (I6 ((i+1:Nat):Int)):=yQ;obtain⟨w,l110,hw,ht⟩:=zwK (k+8) (grow (yn a)) (by rw[zK];omega) (yn b).length (by omega) ((yn b).drop (i+1)) (i+1) (yn b) ((yn b).take i) rfl rfl (by rw[hik]) (by omega);have hsplit:yn b=(yn b).take i++x::(yn b).drop (i+1):=by have h:=List.drop_eq_getElem_cons hi;rw[(Lz0.1 hx).2]at h;rw[←h,List.take_append_drop]
  have hnew:zhM a b=(yn b).take i++((yn b).drop (i+1)).filter (vO (yn a)):=by
   unfold zhM
   conv=>lhs;rw[hsplit]
   have h1:((yn b).take i).filter (vO (yn a))=(yn b).take i:=List.filter_eq_self.2 fun c hc=>by have:=hbef c hc;rw[hK,this];rfl
   have h2:vO (yn a) x=false:=by rw[hK,hpx];rfl
   rw[List.filter_append,h1,List.filter_cons_of_neg (by rw[h2];exact Bool.false_ne_true)]
  rw[hik,zK,←hnew]at l110;rw[zK,←hnew]at ht;have hlt:(zhM a b).length<(yn b).length:=by rw[hnew,Yzq,hik];have h3:=List.length_filter_le (vO (yn a)) ((yn b).drop (i+1));rw[List.length_drop]at h3;omega
  have hne:0<(yn b).length:=by omega
  have hM:ocL xJ (grow (yn b))=some ((yn b).map xJ):=by rw[zfO hne];rfl
  have wl:xR (some (w.map xJ))=(yn b).length:=by show (w.map xJ).length=_;rw[Yzj,hw]
  have v1:=zrU (k:=.i64) hlt;have cl:xR (zms (some (w.map xJ)) (zhM a b).length ((yn b).length-(zhM a b).length) [I6 0,I6 0,I6 0])=(yn b).length:=by
   have h5:(w.map xJ).length=(yn b).length:=by rw[Yzj,hw]
   rw[←h5];exact zuO (by omega)
  have v2:=zvt (k:=.i64) (Nat.le_of_lt hlt);have g:=lGO o.divs.els.length (by have:=H.hd;omega) (zhM a b) (by omega) (fun c hc=>okB c (List.mem_filter.1 hc).1) (fun p i=>jW (zms (some (w.map xJ)) (zhM a b).length ((yn b).length-(zhM a b).length) [I6 0,I6 0,I6 0]) ((0+p.1)+i)) (fun p i c hc=>by
   have h6:=(Lz0.1 hc).1;rw[Yzi,zuP h6 (by rw[Yzj];omega),Lz6];have:w[p.1+i]? = some c:=by rw[←ht,Yzx,Yzd h6]at hc;exact hc
   rw[this];rfl) m (by omega) (by omega) .nils (I6 0) (zhM a b).length 0 a [] (by omega) (LzB _) (Or.inl rfl) TA.len hs
  obtain⟨L',g⟩:=g;rw[show (I6 ((0:Nat):Int):DV)=I6 0 from rfl,show ocL yz (grow ([]:List Reg))=none from rfl,Yz0,List.drop_zero]at g;simp only[e1,Yzh,if_false,ea,zb,hM,l110,yq,Yzp,Yza,zz,yM,wl,v1,cl,v2,zw0,zj,d1,zn];rw[g];simp only[yq,Yzp,Yza,yM,kK]
end Go.Proofs.Tryz.Kn
end
