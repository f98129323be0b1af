/-
  Lemmas. No condition.
-/
import Derived.Test.YthnijnblnoflnaaGreatDoorVd
import Derived.Test.YthnijnblnoflnaaGreatDoorXj
import Derived.Test.YthnijnblnoflnaaGreatDoorXk
import Derived.Test.YthnijnblnoflnaaGreatDoorProg
set_option linter.unusedSimpArgs false
set_option linter.unusedVariables false
noncomputable section
namespace Go.Proofs.Tryz.Kn
open Go Go.CE Go.PE
abbrev prog:Program:=Tryz.prog
def zkQ:Nat→Bool:=fun g=>match g with|58=>true|29=>true|61=>true|68=>true|69=>true|99=>true|100=>true|_=>false
abbrev redI:Red:=zww
def an0:Nat→Option LA:=fun _=>none
def zya:Nat→List PA→Nat→Nat→Option LA:=fun _ _ _ _=>none
abbrev pF(O:Orc)(an:Nat→Option LA)(g:Nat)(args:List DA):Option DA:=zrh prog O zkQ (inl prog O zkQ zya redI 5) an g args
def an3:Nat→Option LA:=fun i=>match i with|0=>some ⟨[.slot 14,.slot 13],[],[],[],[.slot 13],[],[.slot 4],[],[]⟩|1=>some ⟨[.slot 15,.slot 13],[],[],[],[.slot 13],[],[.slot 4],[],[]⟩|_=>none
def an4:Nat→Option LA:=fun i=>match i with|0=>some ⟨[.slot 18],[],[],[],[],[],[.slot 6],[],[]⟩|_=>none
def zA7(b:DV)(c:List DS)(f:List DV)(a:List DV)(_o:List OC):Option PX:=za (y7 b) fun g=>za (zg .lss (zq a 0) g) fun h=>ifB h (za (xL 1 (atD (dsA (wY c 0)) 0) (zq a 0)) fun j=>za (xL 1 (atD f 0) (zq a 0)) fun k=>za (zg .neq (atD j 0) (atD k 0)) fun l=>ifB l (some (.ret,[.bool false],[])) (za (xL 2 (dsO (wY c 1)) (zq a 0)) fun d=>za (xL 2 b (zq a 0)) fun e=>za (znc [1,1] [atD d 0,atD d 1] [atD e 0,atD e 1]) fun m=>ifB (.bool (!m)) (some (.ret,[.bool false],[])) (za (zg .add (zq a 0) (I6 1)) fun n=>some (.normal,[n],[])))) (some (.exit 0,[],[]))
def P4(O:Orc)(a b c d f h j m r s w:DV):Option DA:=b1 (O 5 []) fun q=>za (ze8 q) fun t=>ifB t (b1 (O 5 []) fun v=>some (S1 v)) (b1 (O 6 [SA [a,b,c]]) fun x=>za (ze8 x) fun y=>ifB y (b1 (O 5 []) fun z=>some (S1 z)) (bA 4 (O 7 [SA [a,b,c]]) fun e=>bA 3 (O 14 [SA [atD e 0,atD e 1,atD e 2,atD e 3],SA [d,f,h,j,m]]) fun g=>b1 (O 15 [SA [atD e 0,atD e 1,atD e 2,atD e 3],SA [r,s,w]]) fun l=>bT [none,none] (O 16 [SA [atD e 0,atD e 1,atD e 2,atD e 3],SA [atD g 0,atD g 1,atD g 2],S1 l]) fun n=>za (zg .neq (dsO (wY n 1)) (I6 0)) fun A=>ifB A (some (S1 (.bool false))) (b1 (O 18 [SA [atD e 0,atD e 1,atD e 2,atD e 3],SA [atD g 0,atD g 1,atD g 2],S1 l]) fun B=>b1 (O 17 [S1 (dsO (wY n 0)),S1 B]) fun C=>za (ze8 C) fun E=>ifB E (some (S1 (.bool false))) (bT [some 3,none,none] (O 19 [SA [atD e 0,atD e 1,atD e 2,atD e 3],S1 (dsO (wY n 0))]) fun k=>za (u1 1 (dsO (wY n 0)) (some (I6 1)) none) fun F=>bT [some 3,none,none] (O 19 [SA [atD e 0,atD e 1,atD e 2,atD e 3],S1 F]) fun o=>za (zg .neq (dsO (wY k 2)) (I6 0)) fun G=>ifB G (some (S1 (.bool false))) (za (y7 (dsO (wY o 1))) fun H=>za (zg .gtr H (I6 0)) fun J=>ifB J (some (S1 (.bool false))) (za (zg .neq (dsO (wY o 2)) (I6 5)) fun K=>ifB K (some (S1 (.bool false))) (za (y7 (atD (dsA (wY k 0)) 0)) fun L=>za (y7 (atD g 0)) fun M=>za (zg .neq L M) fun N=>ifB N (some (S1 (.bool false))) (za (y7 (dsO (wY k 1))) fun P=>za (y7 l) fun Q=>za (zg .neq P Q) fun R=>ifB R (some (S1 (.bool false))) (za (zg .neq (atD (dsA (wY k 0)) 1) (atD g 1)) fun S=>ifB S (some (S1 (.bool false))) (za (zg .neq (atD (dsA (wY k 0)) 2) (atD g 2)) fun T=>ifB T (some (S1 (.bool false))) (yS (zP (zA7 l k g) [I6 0] []) (fun U _p _V=>bif Nat.beq U 0 then (some (S1 (.bool true))) else(none)) (fun p _V=>some (S1 (zq p 0))))))))))))))
theorem p4(O:Orc)(a b c d f h j m r s w:DV):pF O an4 4 [SA [a,b,c],SA [d,f,h,j,m],SA [r,s,w]]=P4 O a b c d f h j m r s w:=by kernel_rfl
def an6:Nat→Option LA:=fun i=>match i with|0=>some ⟨[.slot 3],[],[],[],[],[],[.slot 2],[],[]⟩|_=>none
def znJ(a:DV)(b:List DV)(_j:List OC):Option PX:=za (y7 a) fun c=>za (zg .lss (zq b 0) c) fun d=>ifB d (za (xL 4 a (zq b 0)) fun e=>za (y7 (atD e 3)) fun f=>za (zg .gtr f (I6 3)) fun g=>ifB g (some (.ret,[.bool false],[])) (za (zg .add (zq b 0) (I6 1)) fun h=>some (.normal,[h],[]))) (some (.exit 0,[],[]))
def P6(_O:Orc)(a b c:DV):Option DA:=za (y7 a) fun e=>za (zg .lss e (I6 1)) fun f=>ifB f (some (S1 (.bool false))) (za (y7 a) fun g=>za (zg .gtr g (I6 3)) fun h=>ifB h (some (S1 (.bool false))) (za (y7 b) fun j=>za (zg .lss j (I6 1)) fun k=>ifB k (some (S1 (.bool false))) (za (y7 b) fun l=>za (zg .gtr l (I6 3)) fun m=>ifB m (some (S1 (.bool false))) (za (y7 c) fun n=>za (zg .gtr n (I6 3)) fun o=>ifB o (some (S1 (.bool false))) (yS (zP (znJ b) [I6 0] []) (fun p _d _q=>bif Nat.beq p 0 then (some (S1 (.bool true))) else(none)) (fun d _q=>some (S1 (zq d 0))))))))
theorem p6(O:Orc)(a b c:DV):pF O an6 6 [SA [a,b,c]]=P6 O a b c:=by kernel_rfl
def an7:Nat→Option LA:=fun i=>match i with|0=>some ⟨[.slot 4,.cell 2 0],[(.cell 2 1,6),(.cell 2 2,5),(.cell 2 3,5)],[(2,4)],[],[.cell 2 0],[(.cell 2 1,6),(.cell 2 2,5),(.cell 2 3,5)],[.cell 2 0,.cell 2 2,.cell 2 3],[(.cell 2 1,6)],[]⟩|1=>some ⟨[.slot 5,.cell 2 0,.cell 2 1],[(.cell 2 2,5),(.cell 2 3,5)],[(2,4)],[],[.cell 2 0,.cell 2 1],[(.cell 2 2,5),(.cell 2 3,5)],[.cell 2 0,.cell 2 1],[(.cell 2 2,5),(.cell 2 3,5)],[3]⟩|2=>some ⟨[.slot 9,.cell 10 0,.cell 10 1,.cell 10 2,.cell 10 3],[(.cell 10 4,4)],[(10,5)],[],[.cell 10 0,.cell 10 1,.cell 10 2,.cell 10 3],[(.cell 10 4,4)],[.cell 10 0,.cell 10 1,.cell 10 2,.cell 10 3],[(.cell 10 4,4)],[]⟩|3=>some ⟨[.slot 11,.cell 2 0,.cell 2 1],[(.cell 2 2,5),(.cell 2 3,5)],[(2,4)],[],[.cell 2 0,.cell 2 1],[(.cell 2 2,5),(.cell 2 3,5)],[.cell 2 0,.cell 2 1],[(.cell 2 2,5),(.cell 2 3,5)],[]⟩|_=>none
def znG(a j:DV)(b:List DV)(c:List OC):Option PX:=za (y7 a) fun k=>za (zg .lss (zq b 0) k) fun l=>ifB l (za (xL 4 a (zq b 0)) fun d=>za (zg .add (I6 48) (zq b 0)) fun m=>za (y2 .u8 m) fun n=>za (zlV (.lst 1 [[n]])) fun o=>za (uZ .add (.str ⟨#[67]⟩) o) fun g=>za (y2 .i64 (atD d 0)) fun p=>za (zg .rem p j) fun e=>za (y2 .i64 (atD d 1)) fun q=>za (zg .rem q j) fun f=>za (y2 .i64 (atD d 2)) fun r=>za (zg .rem r (I6 25)) fun h=>za (zg .eql e f) fun s=>ifB s (za (zg .eql h (I6 0)) fun t=>ifB t (gd (fits 48 (ki (z5 c 1)+1)) (za (zg .add (zq b 0) (I6 1)) fun v=>some (.normal,[v,zq b 1,zq b 2],[z5 c 0,some (zK (z5 c 1)++[[g,e,f,I6 12,atD d 3]])]))) (gd (fits 48 (ki (z5 c 1)+1)) (za (zg .add (zq b 0) (I6 1)) fun w=>some (.normal,[w,zq b 1,zq b 2],[z5 c 0,some (zK (z5 c 1)++[[g,e,f,h,atD d 3]])])))) (gd (fits 48 (ki (z5 c 1)+1)) (za (zg .add (zq b 0) (I6 1)) fun x=>some (.normal,[x,zq b 1,zq b 2],[z5 c 0,some (zK (z5 c 1)++[[g,e,f,h,atD d 3]])])))) (some (.exit 6,[zq b 1,zq b 2],[z5 c 0,z5 c 1]))
def znH(O:Orc)(e f:List DV)(a:List DV)(d:List OC):Option PX:=za (y7 (atD e 3)) fun g=>za (zg .lss (zq a 0) g) fun h=>ifB h (za (xL 4 (atD e 3) (zq a 0)) fun b=>bA 4 (O 26 [S1 (zq f 2),SA [zq a 3,zq a 4],SA [atD b 0,atD b 1,atD b 2,atD b 3],S1 (zq a 0)]) fun c=>gd (fits 56 (ki (z5 d 0)+1)) (za (zg .add (zq a 0) (I6 1)) fun j=>some (.normal,[j,zq a 1,zq a 2,zq a 3,zq a 4],[some (zK (z5 d 0)++[[atD c 0,atD c 1,atD c 2,atD c 3]])]))) (some (.exit 4,[zq a 1,zq a 2,zq a 3,zq a 4],[z5 d 0]))
def znI(O:Orc)(a:DV)(b:List DV)(c:List OC):Option PX:=za (y7 a) fun j=>za (zg .lss (zq b 0) j) fun k=>ifB k (za (xL 4 a (zq b 0)) fun e=>za (zg .rem (atD e 0) (U8 12)) fun l=>za (y2 .i64 l) fun m=>za (zg .add (I6 36) m) fun g=>za (zg .add (I6 48) (zq b 0)) fun n=>za (y2 .u8 n) fun o=>za (zlV (.lst 1 [[o]])) fun p=>za (uZ .add (.str ⟨#[68]⟩) p) fun q=>za (zg .rem (atD e 1) (U8 9)) fun r=>za (y2 .i64 r) fun s=>za (zg .add g s) fun t=>yS (zP (znH O e b) [I6 0,q,atD e 2,g,t] [none]) (fun f d h=>bif Nat.beq f 4 then (gd (fits 64 (ki (z5 c 0)+1)) (za (zg .add (zq b 0) (I6 1)) fun v=>some (.normal,[v,zq b 1,zq b 2],[some (zK (z5 c 0)++[[zq d 0,zq d 1,zq d 2,zq d 3,mkL 4 (z5 h 0)]]),z5 c 1]))) else(bif Nat.beq f 3 then (za (zg .add (zq b 0) (I6 1)) fun w=>some (.normal,[w,zq b 1,zq b 2],[z5 c 0,z5 c 1])) else(some (.exit f,[zq b 1,zq b 2],[z5 c 0,z5 c 1])))) (fun _d _h=>none)) (some (.exit 2,[zq b 1,zq b 2],[z5 c 0,z5 c 1]))
def zvg(O:Orc)(a:DV)(d:List DV)(c:List OC):Option PX:=za (y7 a) fun f=>za (zg .lss (zq d 0) f) fun g=>ifB g (za (xL 9 a (zq d 0)) fun b=>bA 6 (O 25 [SA [atD b 0,atD b 1,atD b 2,atD b 3,atD b 4,atD b 5,atD b 6,atD b 7,atD b 8],S1 (zq d 0)]) fun e=>gd (fits 80 (ki (z5 c 0)+1)) (za (zg .add (zq d 0) (I6 1)) fun h=>some (.normal,[h,zq d 1],[some (zK (z5 c 0)++[[atD e 0,atD e 1,atD e 2,atD e 3,atD e 4,atD e 5]]),z5 c 1,z5 c 2]))) (some (.exit 0,[zq d 1],[z5 c 0,z5 c 1,z5 c 2]))
def P7(O:Orc)(a b c:DV):Option DA:=yS (zP (zvg O a) [I6 0,.str ⟨#[79,114,103,97,110]⟩] [none,none,none]) (fun k j d=>bif Nat.beq k 0 then (yS (zP (znI O b) [I6 0,zq j 0,mkL 6 (z5 d 0)] [z5 d 1,z5 d 2]) (fun l e f=>bif Nat.beq l 2 then (za (y7 b) fun m=>yS (zP (znG c m) [I6 0,zq e 0,zq e 1] [z5 f 0,z5 f 1]) (fun n g h=>bif Nat.beq n 6 then (some (SA [zq g 0,zq g 1,mkL 5 (z5 h 0),mkL 5 (z5 h 1)])) else(none)) (fun _g _h=>none)) else(none)) (fun _e _f=>none)) else(none)) (fun _j _d=>none)
theorem p7(O:Orc)(a b c:DV):pF O an7 7 [SA [a,b,c]]=P7 O a b c:=by kernel_rfl
def zyl:Nat→Option LA:=fun i=>match i with|0=>some ⟨[.slot 4],[(.slot 3,1)],[],[],[],[(.slot 3,1)],[],[],[]⟩|1=>some ⟨[.slot 5],[(.slot 3,1)],[],[],[],[(.slot 3,1)],[],[],[]⟩|2=>some ⟨[.slot 8],[(.slot 3,1)],[],[],[],[(.slot 3,1)],[],[],[]⟩|3=>some ⟨[.slot 9],[(.slot 3,1)],[],[],[],[(.slot 3,1)],[],[],[]⟩|4=>some ⟨[.slot 10],[(.slot 3,1)],[],[],[],[(.slot 3,1)],[],[],[]⟩|5=>some ⟨[.slot 11],[(.slot 3,1)],[],[],[],[(.slot 3,1)],[],[],[]⟩|_=>none
def zCe:Nat→Option LA:=fun i=>match i with|0=>some ⟨[.slot 6,.cell 3 1,.cell 3 2],[(.cell 3 0,1)],[(3,3)],[],[.cell 3 1,.cell 3 2],[(.cell 3 0,1)],[.cell 3 1,.cell 3 2],[(.cell 3 0,1)],[]⟩|_=>none
def zAA(a b c d f h:DV)(e:List DV)(g:List OC):Option PX:=za (y7 a) fun j=>za (zg .lss (zq e 0) j) fun k=>ifB k (za (zg .rem (zq e 0) (I6 3)) fun l=>za (zcH 5 l) fun m=>za (y2 .u64 (atD [b,c,d,f,h] m)) fun n=>za (xL 5 a (zq e 0)) fun o=>za (y7 (atD o 4)) fun p=>za (y2 .u64 p) fun q=>za (zlQ true (U64 1) q) fun r=>za (zg .sub r (U64 1)) fun s=>za (zg .and n s) fun t=>gd (fits 8 (ki (z5 g 0)+1)) (za (zg .add (zq e 0) (I6 1)) fun v=>some (.normal,[v,zq e 1,zq e 2],[some (zK (z5 g 0)++[[t]])]))) (some (.exit 0,[zq e 1,zq e 2],[z5 g 0]))
def P14(_O:Orc)(_a _b c d f h j m r:DV):Option DA:=za (y2 .u64 (atD [f,h,j,m,r] 3)) fun e=>za (y7 d) fun g=>za (y2 .u64 g) fun k=>za (zlQ true (U64 1) k) fun l=>za (zg .sub l (U64 1)) fun n=>za (zg .and e n) fun o=>za (y2 .u64 (atD [f,h,j,m,r] 4)) fun p=>za (y7 c) fun q=>za (y2 .u64 q) fun s=>za (zlQ true (U64 1) s) fun t=>za (zg .sub t (U64 1)) fun v=>za (zg .and p v) fun w=>yS (zP (zAA c f h j m r) [I6 0,o,w] [none]) (fun x a b=>bif Nat.beq x 0 then (some (SA [mkL 1 (z5 b 0),zq a 0,zq a 1])) else(none)) (fun _a _b=>none)
theorem p14(O:Orc)(a b c d f h j m r:DV):pF O zCe 14 [SA [a,b,c,d],SA [f,h,j,m,r]]=P14 O a b c d f h j m r:=by kernel_rfl
def zCd:Nat→Option LA:=fun i=>match i with|0=>some ⟨[.slot 6],[(.slot 5,2)],[],[],[],[(.slot 5,2)],[],[],[]⟩|1=>some ⟨[.slot 9],[(.slot 7,1)],[],[],[],[(.slot 7,1)],[],[],[]⟩|_=>none
def zAR(f g:List DV)(a b c:DV)(d:List DV)(e:List OC):Option PX:=za (zg .leq (zq d 0) (atD f 3)) fun h=>ifB h (za (zg .add (atD f 2) (I6 16)) fun j=>za (zg .lss (zq d 0) j) fun k=>ifB k (za (zg .rem (zq g 0) (I6 3)) fun l=>za (zcH 3 l) fun m=>za (zg .sub (zq d 0) (atD f 2)) fun n=>za (y2 .u64 n) fun o=>za (zlQ false (atD [a,b,c] m) o) fun p=>za (zg .and p (.int .u16 1)) fun q=>za (zg .eql q (.int .u16 1)) fun r=>ifB r (gd (fits 8 (ki (z5 e 0)+1)) (za (zg .add (zq d 0) (I6 1)) fun s=>some (.normal,[s],[some (zK (z5 e 0)++[[zq d 0]])]))) (za (zg .add (zq d 0) (I6 1)) fun t=>some (.normal,[t],[z5 e 0]))) (some (.exit 2,[],[z5 e 0]))) (some (.exit 2,[],[z5 e 0]))
def zA3(O:Orc)(a b c d:DV)(e:List DV)(f:List OC):Option PX:=za (y7 a) fun l=>za (zg .lss (zq e 0) l) fun m=>ifB m (za (xL 5 a (zq e 0)) fun h=>yS (zP (zAR h e b c d) [atD h 2] [none]) (fun g _n j=>bif Nat.beq g 2 then (bT [some 2,none] (O 32 [S1 (mkL 1 (z5 j 0))]) fun k=>gd (fits 16 (ki (z5 f 0)+1)) (za (zg .add (zq e 0) (I6 1)) fun o=>some (.normal,[o],[some (zK (z5 f 0)++[[atD (dsA (wY k 0)) 0,atD (dsA (wY k 0)) 1]])]))) else(bif Nat.beq g 1 then (za (zg .add (zq e 0) (I6 1)) fun p=>some (.normal,[p],[z5 f 0])) else(some (.exit g,[],[z5 f 0])))) (fun _n _j=>none)) (some (.exit 0,[],[z5 f 0]))
def P15(O:Orc)(_a _b c _d f h j:DV):Option DA:=yS (zP (zA3 O c f h j) [I6 0] [none]) (fun b _d a=>bif Nat.beq b 0 then (some (S1 (mkL 2 (z5 a 0)))) else(none)) (fun _d _a=>none)
theorem p15(O:Orc)(a b c d f h j:DV):pF O zCd 15 [SA [a,b,c,d],SA [f,h,j]]=P15 O a b c d f h j:=by kernel_rfl
def zCc:Nat→Option LA:=fun i=>match i with|0=>some ⟨[.slot 44],[],[],[(3,1)],[],[],[],[],[]⟩|1=>some ⟨[.slot 55],[],[],[(3,1)],[],[],[],[],[]⟩|2=>some ⟨[.slot 76],[],[],[(3,1)],[],[],[],[],[]⟩|3=>some ⟨[.slot 114],[],[],[(3,1)],[],[],[],[],[]⟩|_=>none
def zAM(d:DV)(e:List DV)(a:DV)(b:List DV)(c:List OC):Option PX:=za (zg .lss (zq b 0) d) fun f=>ifB f (za (zg .add (atD e 2) (zq b 0)) fun g=>za (zlQ false a (zq b 0)) fun h=>za (zg .and h (U64 1)) fun j=>za (zg .eql j (U64 1)) fun k=>za (q9 (z5 c 0) g) fun l=>za (zxL 1 (z5 c 0) l 0 [k]) fun m=>za (zg .add (zq b 0) (I6 1)) fun n=>some (.normal,[n],[m])) (some (.exit 6,[],[z5 c 0]))
def zAN(e:DV)(f d:List DV)(a:DV)(b:List DV)(c:List OC):Option PX:=za (zg .lss (zq b 0) e) fun g=>ifB g (za (xL 1 (atD f 1) (zq d 0)) fun h=>za (zg .add (atD h 0) (zq b 0)) fun j=>za (xL 1 a (zq d 0)) fun k=>za (zlQ false (atD k 0) (zq b 0)) fun l=>za (zg .and l (U64 1)) fun m=>za (zg .eql m (U64 1)) fun n=>za (q9 (z5 c 0) j) fun o=>za (zxL 1 (z5 c 0) o 0 [n]) fun p=>za (zg .add (zq b 0) (I6 1)) fun q=>some (.normal,[q],[p])) (some (.exit 4,[],[z5 c 0]))
def zAO(c d:DV)(e f g:List DV)(a:List DV)(b:List OC):Option PX:=za (zg .lss (zq a 0) c) fun h=>ifB h (za (xL 1 d (zq a 0)) fun j=>za (xL 1 (atD e 0) (zq f 0)) fun k=>za (zg .add (atD k 0) (atD j 0)) fun l=>za (zg .sub l (atD g 2)) fun m=>za (q9 (z5 b 0) m) fun n=>za (zxL 1 (z5 b 0) n 0 [.bool true]) fun o=>za (zg .add (zq a 0) (I6 1)) fun p=>some (.normal,[p],[o])) (some (.exit 2,[],[z5 b 0]))
def zAz(O:Orc)(o a p:DV)(g:List DV)(b c:DV)(d:List DV)(k:List OC):Option PX:=za (zg .lss (zq d 0) o) fun q=>ifB q (za (xL 5 a (zq d 0)) fun l=>za (xL 2 p (zq d 0)) fun m=>b1 (O 35 [SA [atD m 0,atD m 1]]) fun n=>za (y7 n) fun r=>yS (zP (zAO r n g d l) [I6 0] [z5 k 0]) (fun h _s f=>bif Nat.beq h 2 then (za (y7 (atD l 4)) fun t=>yS (zP (zAN t g d b) [I6 0] [z5 f 0]) (fun j _v e=>bif Nat.beq j 4 then (za (zg .add (atD g 3) (zq d 0)) fun w=>za (zlQ false c (zq d 0)) fun x=>za (zg .and x (U64 1)) fun y=>za (zg .eql y (U64 1)) fun z=>za (q9 (z5 e 0) w) fun A=>za (zxL 1 (z5 e 0) A 0 [z]) fun B=>za (zg .add (zq d 0) (I6 1)) fun C=>some (.normal,[C],[B])) else(bif Nat.beq j 1 then (za (zg .add (zq d 0) (I6 1)) fun E=>some (.normal,[E],[z5 e 0])) else(some (.exit j,[],[z5 e 0])))) (fun _v _e=>none)) else(bif Nat.beq h 1 then (za (zg .add (zq d 0) (I6 1)) fun F=>some (.normal,[F],[z5 f 0])) else(some (.exit h,[],[z5 f 0])))) (fun _s _f=>none)) (some (.exit 0,[],[z5 k 0]))
def P16(O:Orc)(a b c d f h j g:DV):Option DA:=b1 (O 27 [SA [a,b,c,d]]) fun k=>za (zg .neq k (I6 0)) fun p=>ifB p (some (.tup [.one .nils,.one k])) (b1 (O 33 [SA [a,b,c,d],SA [f,h,j]]) fun l=>za (zg .neq l (I6 0)) fun q=>ifB q (some (.tup [.one .nils,.one l])) (b1 (O 34 [SA [a,b,c,d],S1 g]) fun m=>za (zg .neq m (I6 0)) fun r=>ifB r (some (.tup [.one .nils,.one m])) (bA 5 (O 28 [SA [a,b,c,d]]) fun e=>za (mkN 1 (atD e 4) (atD e 4)) fun s=>za (y7 c) fun t=>yS (zP (zAz O t c g e f j) [I6 0] [some (List.replicate s [.bool false])]) (fun v _w n=>bif Nat.beq v 0 then (za (y7 d) fun x=>yS (zP (zAM x e h) [I6 0] [z5 n 0]) (fun y _z o=>bif Nat.beq y 6 then (some (.tup [.one (mkL 1 (z5 o 0)),.one (I6 0)])) else(none)) (fun _z _o=>none)) else(none)) (fun _w _n=>none))))
theorem p16(O:Orc)(a b c d f h j a2:DV):pF O zCc 16 [SA [a,b,c,d],SA [f,h,j],S1 a2]=P16 O a b c d f h j a2:=by kernel_rfl
def zCb:Nat→Option LA:=fun i=>match i with|0=>some ⟨[.slot 5],[],[],[],[],[],[.slot 4],[],[]⟩|_=>none
def zBa(b c:DV)(a:List DV)(_k:List OC):Option PX:=za (y7 b) fun d=>za (zg .lss (zq a 0) d) fun e=>ifB e (za (xL 1 b (zq a 0)) fun f=>za (xL 1 c (zq a 0)) fun g=>za (eqD 0 (atD f 0) (atD g 0)) fun h=>ifB (.bool (!h)) (some (.ret,[.bool false],[])) (za (zg .add (zq a 0) (I6 1)) fun j=>some (.normal,[j],[]))) (some (.exit 0,[],[]))
def P17(_O:Orc)(a b:DV):Option DA:=za (y7 a) fun d=>za (y7 b) fun e=>za (zg .neq d e) fun f=>ifB f (some (S1 (.bool false))) (yS (zP (zBa a b) [I6 0] []) (fun g _c _h=>bif Nat.beq g 0 then (some (S1 (.bool true))) else(none)) (fun c _h=>some (S1 (zq c 0))))
theorem p17(O:Orc)(a0 a1:DV):pF O zCb 17 [S1 a0,S1 a1]=P17 O a0 a1:=by kernel_rfl
def zCa:Nat→Option LA:=fun i=>match i with|0=>some ⟨[.slot 8],[(.slot 7,1)],[],[],[],[(.slot 7,1)],[],[],[]⟩|1=>some ⟨[.slot 9],[(.slot 7,1)],[],[],[],[(.slot 7,1)],[],[],[]⟩|2=>some ⟨[.slot 10],[(.slot 7,1)],[],[],[],[(.slot 7,1)],[],[],[]⟩|3=>some ⟨[.slot 11],[(.slot 7,1)],[],[],[],[(.slot 7,1)],[],[],[]⟩|4=>some ⟨[.slot 12],[(.slot 7,1)],[],[],[],[(.slot 7,1)],[],[],[]⟩|5=>some ⟨[.slot 13],[(.slot 7,1)],[],[],[],[(.slot 7,1)],[],[],[]⟩|_=>none
def zAv(a b:DV)(c:List DV)(d:List OC):Option PX:=za (y7 a) fun e=>za (zg .lss (zq c 0) e) fun f=>ifB f (za (y2 .u64 (zq c 0)) fun g=>za (zlQ false b g) fun h=>za (zg .and h (U64 1)) fun j=>za (zg .eql j (U64 1)) fun k=>gd (fits 1 (ki (z5 d 0)+1)) (za (zg .add (zq c 0) (I6 1)) fun l=>some (.normal,[l],[some (zK (z5 d 0)++[[k]])]))) (some (.exit 10,[],[z5 d 0]))
def zAw(a b:DV)(c:List DV)(d:List OC):Option PX:=za (y7 a) fun e=>za (zg .lss (zq c 0) e) fun f=>ifB f (za (y2 .u64 (zq c 0)) fun g=>za (zlQ false b g) fun h=>za (zg .and h (U64 1)) fun j=>za (zg .eql j (U64 1)) fun k=>gd (fits 1 (ki (z5 d 0)+1)) (za (zg .add (zq c 0) (I6 1)) fun l=>some (.normal,[l],[some (zK (z5 d 0)++[[k]])]))) (some (.exit 8,[],[z5 d 0]))
def zAx(a:DV)(e:List DV)(b:DV)(c:List DV)(d:List OC):Option PX:=za (xL 5 a (zq e 0)) fun f=>za (y7 (atD f 4)) fun g=>za (zg .lss (zq c 0) g) fun h=>ifB h (za (xL 1 b (zq e 0)) fun j=>za (y2 .u64 (zq c 0)) fun k=>za (zlQ false (atD j 0) k) fun l=>za (zg .and l (U64 1)) fun m=>za (zg .eql m (U64 1)) fun n=>gd (fits 1 (ki (z5 d 0)+1)) (za (zg .add (zq c 0) (I6 1)) fun o=>some (.normal,[o],[some (zK (z5 d 0)++[[n]])]))) (some (.exit 6,[],[z5 d 0]))
def zAy(a b:DV)(c:List DV)(f:List OC):Option PX:=za (y7 a) fun g=>za (zg .lss (zq c 0) g) fun h=>ifB h (yS (zP (zAx a c b) [I6 0] [z5 f 0]) (fun e _j d=>bif Nat.beq e 6 then (za (zg .add (zq c 0) (I6 1)) fun k=>some (.normal,[k],[z5 d 0])) else(bif Nat.beq e 5 then (za (zg .add (zq c 0) (I6 1)) fun l=>some (.normal,[l],[z5 d 0])) else(some (.exit e,[],[z5 d 0])))) (fun _j _d=>none)) (some (.exit 4,[],[z5 f 0]))
def zA1(O:Orc)(a:DV)(d:List DV)(f:DV)(b:List DV)(c:List OC):Option PX:=za (xL 5 a (zq d 0)) fun g=>za (zg .leq (zq b 0) (atD g 3)) fun h=>ifB h (za (xL 2 f (zq d 0)) fun e=>b1 (O 36 [SA [atD e 0,atD e 1],S1 (zq b 0)]) fun j=>gd (fits 1 (ki (z5 c 0)+1)) (za (zg .add (zq b 0) (I6 1)) fun k=>some (.normal,[k],[some (zK (z5 c 0)++[[j]])]))) (some (.exit 2,[],[z5 c 0]))
def zA2(O:Orc)(a f:DV)(b:List DV)(e:List OC):Option PX:=za (y7 a) fun g=>za (zg .lss (zq b 0) g) fun h=>ifB h (za (xL 5 a (zq b 0)) fun j=>yS (zP (zA1 O a b f) [atD j 2] [z5 e 0]) (fun d _k c=>bif Nat.beq d 2 then (za (zg .add (zq b 0) (I6 1)) fun l=>some (.normal,[l],[z5 c 0])) else(bif Nat.beq d 1 then (za (zg .add (zq b 0) (I6 1)) fun m=>some (.normal,[m],[z5 c 0])) else(some (.exit d,[],[z5 c 0])))) (fun _k _c=>none)) (some (.exit 0,[],[z5 e 0]))
def P18(O:Orc)(_a _b c d f h j k:DV):Option DA:=yS (zP (zA2 O c k) [I6 0] [none]) (fun l _m a=>bif Nat.beq l 0 then (yS (zP (zAy c f) [I6 0] [z5 a 0]) (fun n _o b=>bif Nat.beq n 4 then (yS (zP (zAw d h) [I6 0] [z5 b 0]) (fun p _q e=>bif Nat.beq p 8 then (yS (zP (zAv c j) [I6 0] [z5 e 0]) (fun r _s g=>bif Nat.beq r 10 then (some (S1 (mkL 1 (z5 g 0)))) else(none)) (fun _s _g=>none)) else(none)) (fun _q _e=>none)) else(none)) (fun _o _b=>none)) else(none)) (fun _m _a=>none)
theorem p18(O:Orc)(a b c d f h j a2:DV):pF O zCa 18 [SA [a,b,c,d],SA [f,h,j],S1 a2]=P18 O a b c d f h j a2:=by kernel_rfl
def zB9:Nat→Option LA:=fun i=>match i with|0=>some ⟨[.slot 32,.cell 1 1,.cell 1 2],[(.slot 5,2),(.cell 1 0,1)],[(1,3)],[],[.cell 1 1,.cell 1 2],[(.slot 5,2),(.cell 1 0,1)],[.slot 5,.slot 6,.cell 1 0,.cell 1 1,.cell 1 2],[],[]⟩|1=>some ⟨[.slot 45],[(.slot 11,1)],[],[],[],[(.slot 11,1)],[],[],[]⟩|_=>none
def zAa(c:DV)(d e:List DV)(f:DV)(g:List DV)(a:List DV)(b:List OC):Option PX:=za (zg .lss (zq a 0) c) fun h=>ifB h (za (xL 1 (atD d 0) (zq e 0)) fun j=>za (zg .add (atD j 0) (zq a 0)) fun k=>za (xL 1 f k) fun l=>ifB (atD l 0) (za (zg .add (atD g 2) (zq a 0)) fun m=>gd (fits 8 (ki (z5 b 0)+1)) (za (zg .add (zq a 0) (I6 1)) fun n=>some (.normal,[n],[some (zK (z5 b 0)++[[m]])]))) (za (zg .add (zq a 0) (I6 1)) fun o=>some (.normal,[o],[z5 b 0]))) (some (.exit 2,[],[z5 b 0]))
def zA0(O:Orc)(k a:DV)(f:List DV)(h:DV)(b:List DV)(c:List OC):Option PX:=za (zg .lss (zq b 0) k) fun l=>ifB l (za (xL 5 a (zq b 0)) fun d=>za (zg .sub (atD d 3) (atD d 2)) fun m=>za (zg .add m (I6 1)) fun n=>yS (zP (zAa n f b h d) [I6 0] [none]) (fun g _o j=>bif Nat.beq g 2 then (bT [some 2,none] (O 32 [S1 (mkL 1 (z5 j 0))]) fun e=>za (zg .neq (dsO (wY e 1)) (I6 0)) fun p=>ifB p (some (.ret,[.nils,dsO (wY e 1),.nils,U64 0,U64 0],[])) (gd (fits 16 (ki (z5 c 0)+1)) (za (xL 1 (atD f 1) (zq b 0)) fun q=>za (xL 1 (atD f 1) (zq b 0)) fun r=>za (y7 (atD d 4)) fun s=>za (zg .add (atD r 0) s) fun t=>za (u1 1 h (some (atD q 0)) (some t)) fun v=>b1 (O 37 [S1 v]) fun w=>gd (fits 8 (ki (z5 c 1)+1)) (za (zg .add (zq b 0) (I6 1)) fun x=>some (.normal,[x,zq b 1,zq b 2],[some (zK (z5 c 0)++[[atD (dsA (wY e 0)) 0,atD (dsA (wY e 0)) 1]]),some (zK (z5 c 1)++[[w]])]))))) else(bif Nat.beq g 1 then (za (zg .add (zq b 0) (I6 1)) fun y=>some (.normal,[y,zq b 1,zq b 2],[z5 c 0,z5 c 1])) else(some (.exit g,[zq b 1,zq b 2],[z5 c 0,z5 c 1])))) (fun _o _j=>none)) (some (.exit 0,[zq b 1,zq b 2],[z5 c 0,z5 c 1]))
def P19(O:Orc)(a b c d g:DV):Option DA:=b1 (O 27 [SA [a,b,c,d]]) fun j=>za (zg .neq j (I6 0)) fun k=>ifB k (some (.tup [.agg [.nils,U64 0,U64 0],.one .nils,.one j])) (bA 5 (O 28 [SA [a,b,c,d]]) fun f=>za (y7 g) fun l=>za (zg .neq l (atD f 4)) fun m=>ifB m (some (.tup [.agg [.nils,U64 0,U64 0],.one .nils,.one (I6 5)])) (za (y7 c) fun n=>yS (zP (zA0 O n c f g) [I6 0,U64 0,U64 0] [none,none]) (fun o _e h=>bif Nat.beq o 0 then (za (u1 1 g (some (atD f 2)) (some (atD f 3))) fun p=>b1 (O 37 [S1 p]) fun q=>za (u1 1 g (some (atD f 3)) none) fun r=>b1 (O 37 [S1 r]) fun s=>some (.tup [.agg [mkL 1 (z5 h 1),q,s],.one (mkL 2 (z5 h 0)),.one (I6 0)])) else(none)) (fun e _h=>some (.tup [.agg [zq e 2,zq e 3,zq e 4],.one (zq e 0),.one (zq e 1)]))))
theorem p19(O:Orc)(a b c d a1:DV):pF O zB9 19 [SA [a,b,c,d],S1 a1]=P19 O a b c d a1:=by kernel_rfl
def zyk:Nat→Option LA:=fun i=>match i with|0=>some ⟨[.slot 6,.cell 4 0,.cell 4 1,.cell 4 2,.cell 4 3,.cell 4 4],[(.cell 4 5,1)],[(4,6)],[],[.cell 4 0,.cell 4 1,.cell 4 2,.cell 4 3,.cell 4 4],[(.cell 4 5,1)],[.cell 4 0,.cell 4 1,.cell 4 2,.cell 4 3,.cell 4 4],[(.cell 4 5,1)],[]⟩|_=>none
def zgn(a b c d f h:DV)(e:List DV)(g:List OC):Option PX:=za (zg .rem a (U8 25)) fun j=>za (y2 .i64 j) fun k=>za (zg .add (I6 1) k) fun l=>za (zg .lss (zq e 0) l) fun m=>ifB m (za (zg .rem (zq e 0) (I6 5)) fun n=>za (zcH 5 n) fun o=>za (y2 .i64 (atD [b,c,d,f,h] o)) fun p=>gd (fits 8 (ki (z5 g 0)+1)) (za (zg .add (zq e 0) (I6 1)) fun q=>some (.normal,[q,zq e 1,zq e 2,zq e 3,zq e 4,zq e 5],[some (zK (z5 g 0)++[[p]])]))) (some (.exit 0,[zq e 1,zq e 2,zq e 3,zq e 4,zq e 5],[z5 g 0]))
def P25(O:Orc)(a b c d f h j m r l:DV):Option DA:=za (zg .rem l (I6 10)) fun n=>za (zg .add (I6 48) n) fun o=>za (y2 .u8 o) fun p=>za (zlV (.lst 1 [[p]])) fun q=>za (uZ .add (.str ⟨#[82]⟩) q) fun s=>za (zg .rem a (U8 3)) fun t=>za (q9 (some [[.str ⟨#[79,112,101,110]⟩],[.str ⟨#[70,108,117,116,101]⟩],[.str ⟨#[82,101,101,100]⟩]]) t) fun v=>za (znZ (some [[.str ⟨#[79,112,101,110]⟩],[.str ⟨#[70,108,117,116,101]⟩],[.str ⟨#[82,101,101,100]⟩]]) v) fun w=>bA 2 (O 53 [S1 b]) fun g=>za (y2 .i64 c) fun x=>yS (zP (zgn d f h j m r) [I6 0,s,atD w 0,atD g 0,atD g 1,x] [none]) (fun y e k=>bif Nat.beq y 0 then (some (SA [zq e 0,zq e 1,zq e 2,zq e 3,zq e 4,mkL 1 (z5 k 0)])) else(none)) (fun _e _k=>none)
theorem p25(O:Orc)(a b c d f h j m r a1:DV):pF O zyk 25 [SA [a,b,c,d,f,h,j,m,r],S1 a1]=P25 O a b c d f h j m r a1:=by kernel_rfl
def P26(O:Orc)(m a b c d f h C:DV):Option DA:=za (y2 .i64 c) fun E=>za (y7 m) fun F=>za (zg .rem E F) fun g=>za (zg .add (I6 48) C) fun G=>za (y2 .u8 G) fun H=>za (zlV (.lst 1 [[H]])) fun J=>za (uZ .add (.str ⟨#[83]⟩) J) fun l=>bA 2 (O 54 [S1 d]) fun e=>za (xL 6 m g) fun q=>bT [none,none] (O 55 [SA [atD e 0,atD e 1],SA [atD q 2,atD q 3]]) fun k=>za (y2 .i64 h) fun K=>za (zg .sub b a) fun L=>za (zg .add L (I6 1)) fun M=>za (zg .rem K M) fun N=>za (zg .add a N) fun j=>za (zg .rem f (U8 6)) fun n=>za (zg .eql n (U8 2)) fun P=>ifB P (za (zg .add (dsO (wY k 0)) (I6 7)) fun Q=>some (SA [l,atD e 0,atD e 1,.lst 3 [[a,b,.lst 2 [[g,dsO (wY k 0)],[g,Q]]]]])) (za (zg .eql n (U8 3)) fun R=>ifB R (za (zg .sub (dsO (wY k 0)) (I6 12)) fun r=>za (zg .rem f (U8 6)) fun S=>za (zg .eql S (U8 3)) fun T=>ifB T (za (zg .add g (I6 1)) fun U=>za (y7 m) fun V=>za (zg .rem U V) fun o=>za (xL 6 m o) fun s=>bT [none,none] (O 55 [SA [atD e 0,atD e 1],SA [atD s 2,atD s 3]]) fun t=>za (zg .gtr j a) fun W=>ifB W (za (zg .sub j (I6 1)) fun v=>gd (fits 40 1) (gd (fits 40 (ki (some (zK none++[[a,v,.lst 2 [[g,dsO (wY k 0)]]]]))+1)) (some (SA [l,atD e 0,atD e 1,.lst 3 (zK (some (zK none++[[a,v,.lst 2 [[g,dsO (wY k 0)]]]]))++[[j,b,.lst 2 [[o,dsO (wY t 0)]]]])])))) (gd (fits 40 1) (some (SA [l,atD e 0,atD e 1,.lst 3 (zK none++[[j,b,.lst 2 [[o,dsO (wY t 0)]]]])])))) (za (zg .gtr j a) fun X=>ifB X (za (zg .sub j (I6 1)) fun w=>gd (fits 40 1) (gd (fits 40 (ki (some (zK none++[[a,w,.lst 2 [[g,dsO (wY k 0)]]]]))+1)) (some (SA [l,atD e 0,atD e 1,.lst 3 (zK (some (zK none++[[a,w,.lst 2 [[g,dsO (wY k 0)]]]]))++[[j,b,.lst 2 [[g,r]]]])])))) (gd (fits 40 1) (some (SA [l,atD e 0,atD e 1,.lst 3 (zK none++[[j,b,.lst 2 [[g,r]]]])]))))) (za (zg .eql n (U8 4)) fun Y=>ifB Y (za (zg .sub (dsO (wY k 0)) (I6 12)) fun x=>za (zg .rem f (U8 6)) fun Z=>za (zg .eql Z (U8 3)) fun aa=>ifB aa (za (zg .add g (I6 1)) fun ab=>za (y7 m) fun ac=>za (zg .rem ab ac) fun p=>za (xL 6 m p) fun y=>bT [none,none] (O 55 [SA [atD e 0,atD e 1],SA [atD y 2,atD y 3]]) fun z=>za (zg .gtr j a) fun ad=>ifB ad (za (zg .sub j (I6 1)) fun A=>gd (fits 40 1) (gd (fits 40 (ki (some (zK none++[[a,A,.lst 2 [[g,dsO (wY k 0)]]]]))+1)) (some (SA [l,atD e 0,atD e 1,.lst 3 (zK (some (zK none++[[a,A,.lst 2 [[g,dsO (wY k 0)]]]]))++[[j,b,.lst 2 [[p,dsO (wY z 0)]]]])])))) (gd (fits 40 1) (some (SA [l,atD e 0,atD e 1,.lst 3 (zK none++[[j,b,.lst 2 [[p,dsO (wY z 0)]]]])])))) (za (zg .gtr j a) fun ae=>ifB ae (za (zg .sub j (I6 1)) fun B=>gd (fits 40 1) (gd (fits 40 (ki (some (zK none++[[a,B,.lst 2 [[g,dsO (wY k 0)]]]]))+1)) (some (SA [l,atD e 0,atD e 1,.lst 3 (zK (some (zK none++[[a,B,.lst 2 [[g,dsO (wY k 0)]]]]))++[[j,b,.lst 2 [[g,x]]]])])))) (gd (fits 40 1) (some (SA [l,atD e 0,atD e 1,.lst 3 (zK none++[[j,b,.lst 2 [[g,x]]]])]))))) (za (zg .eql n (U8 5)) fun af=>ifB af (some (SA [l,atD e 0,atD e 1,.lst 3 [[j,b,.lst 2 [[g,dsO (wY k 0)]]]]])) (some (SA [l,atD e 0,atD e 1,.lst 3 [[a,b,.lst 2 [[g,dsO (wY k 0)]]]]])))))
theorem p26(O:Orc)(a0 a b c d f h a3:DV):pF O an0 26 [S1 a0,SA [a,b],SA [c,d,f,h],S1 a3]=P26 O a0 a b c d f h a3:=by kernel_rfl
def zyj:Nat→Option LA:=fun i=>match i with|0=>some ⟨[.slot 27],[],[],[(1,1048576)],[],[],[.slot 2],[],[]⟩|1=>some ⟨[.slot 58],[(.slot 8,2)],[],[(2,1048576)],[],[(.slot 8,2)],[.slot 2],[],[]⟩|_=>none
def zgm(O:Orc)(l a b c d:DV)(g:List DV)(f:List OC):Option PX:=za (zg .lss (zq g 0) l) fun m=>ifB m (za (xL 5 a (zq g 0)) fun e=>b1 (O 56 [S1 (atD e 0)]) fun n=>za (ze8 n) fun o=>ifB o (some (.ret,[I6 8],[some (zK (z5 f 1))])) (za (zgz (.inl 2) (.one (atD e 0)) (.one (atD e 0))) fun _x=>za (zeF (.inl 2) 1048576 (.one (atD e 0)) (zK (z5 f 1))) fun p=>ifB (dsO (lkD (.one (.bool false)) p)) (za (zg .neq (I6 9) (I6 0)) fun q=>ifB q (some (.ret,[I6 9],[some (zK (z5 f 1))])) (b1 (O 59 [SA [b,c,a,d],SA [atD e 0,atD e 1,atD e 2,atD e 3,atD e 4]]) fun j=>za (zg .neq j (I6 0)) fun r=>ifB r (some (.ret,[j],[some (zK (z5 f 1))])) (gd (fits 16 (ki (z5 f 0)+1)) (za (zg .add (zq g 0) (I6 1)) fun s=>some (.normal,[s],[some (zK (z5 f 0)++[[atD e 2,atD e 3]]),some (zK (z5 f 1))]))))) (za (zgz (.inl 2) (.one (atD e 0)) (.one (atD e 0))) fun _y=>za (znY (.inl 2) 1048576 (.one (atD e 0)) [atD e 0,.bool true] (zK (z5 f 1))) fun h=>za (zg .neq (I6 0) (I6 0)) fun t=>ifB t (some (.ret,[I6 0],[some h])) (b1 (O 59 [SA [b,c,a,d],SA [atD e 0,atD e 1,atD e 2,atD e 3,atD e 4]]) fun k=>za (zg .neq k (I6 0)) fun v=>ifB v (some (.ret,[k],[some h])) (gd (fits 16 (ki (z5 f 0)+1)) (za (zg .add (zq g 0) (I6 1)) fun w=>some (.normal,[w],[some (zK (z5 f 0)++[[atD e 2,atD e 3]]),some h]))))))) (some (.exit 4,[],[z5 f 0,some (zK (z5 f 1))]))
def znP(O:Orc)(g a:DV)(d:List DV)(c:List OC):Option PX:=za (zg .lss (zq d 0) g) fun h=>ifB h (za (xL 6 a (zq d 0)) fun b=>b1 (O 57 [SA [atD b 0,atD b 1,atD b 2,atD b 3,atD b 4,atD b 5]]) fun e=>za (zg .neq e (I6 0)) fun j=>ifB j (some (.ret,[e],[some (zK (z5 c 0))])) (za (zgz (.inl 2) (.one (atD b 0)) (.one (atD b 0))) fun _p=>za (zeF (.inl 2) 1048576 (.one (atD b 0)) (zK (z5 c 0))) fun k=>ifB (dsO (lkD (.one (.bool false)) k)) (za (zg .neq (I6 9) (I6 0)) fun l=>ifB l (some (.ret,[I6 9],[some (zK (z5 c 0))])) (za (zg .add (zq d 0) (I6 1)) fun m=>some (.normal,[m],[some (zK (z5 c 0))]))) (za (zgz (.inl 2) (.one (atD b 0)) (.one (atD b 0))) fun _q=>za (znY (.inl 2) 1048576 (.one (atD b 0)) [atD b 0,.bool true] (zK (z5 c 0))) fun f=>za (zg .neq (I6 0) (I6 0)) fun n=>ifB n (some (.ret,[I6 0],[some f])) (za (zg .add (zq d 0) (I6 1)) fun o=>some (.normal,[o],[some f]))))) (some (.exit 1,[],[some (zK (z5 c 0))]))
def P27(O:Orc)(a b c d:DV):Option DA:=b1 (O 56 [S1 a]) fun h=>za (ze8 h) fun j=>ifB j (some (S1 (I6 8))) (za (y7 b) fun k=>za (zg .gtr k (I6 60)) fun l=>ifB l (some (S1 (I6 4))) (za (y7 b) fun m=>yS (zP (znP O m b) [I6 0] [some []]) (fun n _e _o=>bif Nat.beq n 1 then (za (y7 c) fun p=>za (zg .eql p (I6 0)) fun q=>ifB q (some (S1 (I6 13))) (za (y7 c) fun r=>za (zg .gtr r (I6 8)) fun s=>ifB s (some (S1 (I6 4))) (za (y7 c) fun t=>yS (zP (zgm O t c a b d) [I6 0] [none,some []]) (fun v _f g=>bif Nat.beq v 4 then (b1s (O 60 [S1 (mkL 2 (z5 g 0)),S1 d]) fun w=>some (S1 w)) else(none)) (fun f _g=>some (S1 (zq f 0)))))) else(none)) (fun e _o=>some (S1 (zq e 0)))))
theorem p27(O:Orc)(a b c d:DV):pF O zyj 27 [SA [a,b,c,d]]=P27 O a b c d:=by kernel_rfl
def zyi:Nat→Option LA:=fun i=>match i with|0=>some ⟨[.slot 11,.cell 2 2,.cell 2 3,.cell 2 4],[(.cell 2 0,1),(.cell 2 1,1)],[(2,5)],[],[.cell 2 2,.cell 2 3,.cell 2 4],[(.cell 2 0,1),(.cell 2 1,1)],[.cell 2 1,.cell 2 2,.cell 2 3,.cell 2 4],[(.cell 2 0,1)],[]⟩|1=>some ⟨[.slot 38,.cell 2 2,.cell 2 3,.cell 2 4],[(.cell 2 0,1),(.cell 2 1,1)],[(2,5)],[],[.cell 2 2,.cell 2 3,.cell 2 4],[(.cell 2 0,1),(.cell 2 1,1)],[.cell 2 2,.cell 2 3,.cell 2 4],[(.cell 2 0,1),(.cell 2 1,1)],[]⟩|_=>none
def zgl(d a:DV)(b:List DV)(c:List OC):Option PX:=za (zg .lss (zq b 0) d) fun e=>ifB e (za (xL 5 a (zq b 0)) fun f=>gd (fits 8 (ki (z5 c 1)+1)) (za (y7 (atD f 4)) fun g=>za (zg .add (zq b 3) g) fun h=>za (zg .add (zq b 0) (I6 1)) fun j=>some (.normal,[j,zq b 1,zq b 2,h],[z5 c 0,some (zK (z5 c 1)++[[zq b 3]])]))) (some (.exit 2,[zq b 1,zq b 2,zq b 3],[z5 c 0,z5 c 1]))
def znO(e a:DV)(b:List DV)(c:List OC):Option PX:=za (zg .lss (zq b 0) e) fun f=>ifB f (za (xL 5 a (zq b 0)) fun d=>gd (fits 8 (ki (z5 c 0)+1)) (za (zg .sub (atD d 3) (atD d 2)) fun g=>za (zg .add g (I6 1)) fun h=>za (zg .add (zq b 3) h) fun j=>za (zg .add (zq b 0) (I6 1)) fun k=>some (.normal,[k,zq b 1,zq b 2,j],[some (zK (z5 c 0)++[[zq b 3]]),z5 c 1]))) (some (.exit 0,[zq b 1,zq b 2,zq b 3],[z5 c 0,z5 c 1]))
def P28(_O:Orc)(_a _b c d:DV):Option DA:=za (y7 c) fun h=>yS (zP (znO h c) [I6 0,I6 0,I6 0,I6 0] [none,none]) (fun j a b=>bif Nat.beq j 0 then (za (y7 c) fun k=>yS (zP (zgl k c) [I6 0,zq a 0,zq a 1,zq a 2] [z5 b 0,z5 b 1]) (fun l e f=>bif Nat.beq l 2 then (za (y7 d) fun m=>za (zg .add (zq e 2) m) fun g=>za (y7 c) fun n=>za (zg .add g n) fun o=>some (SA [mkL 1 (z5 f 0),mkL 1 (z5 f 1),zq e 2,g,o])) else(none)) (fun _e _f=>none)) else(none)) (fun _a _b=>none)
theorem p28(O:Orc)(a b c d:DV):pF O zyi 28 [SA [a,b,c,d]]=P28 O a b c d:=by kernel_rfl
def zB8:Nat→Option LA:=fun i=>match i with|0=>some ⟨[.slot 9,.cell 0 0,.cell 0 1,.cell 1 0,.cell 1 1],[],[(0,2),(1,2)],[],[.cell 0 0,.cell 0 1,.cell 1 0,.cell 1 1],[],[.slot 3,.cell 0 0,.cell 0 1,.cell 1 0,.cell 1 1],[],[]⟩|_=>none
def zA9(O:Orc)(d e:DV)(a:List DV)(_k:List OC):Option PX:=za (zg .lss (zq a 0) d) fun f=>ifB f (za (xL 1 e (zq a 0)) fun b=>b1 (O 62 [S1 (atD b 0)]) fun g=>za (ze8 g) fun h=>ifB h (some (.ret,[I6 3,U64 0,U64 0,zq a 3,zq a 4],[])) (bA 2 (O 65 [SA [zq a 3,zq a 4],S1 (atD b 0)]) fun c=>za (zg .add (zq a 0) (I6 1)) fun j=>some (.normal,[j,zq a 1,zq a 2,atD c 0,atD c 1],[]))) (some (.exit 0,[zq a 1,zq a 2,zq a 3,zq a 4],[]))
def P32(O:Orc)(b:DV):Option DA:=za (y7 b) fun c=>yS (zP (zA9 O c b) [I6 0,U64 0,U64 0,U64 0,U64 0] []) (fun d a _e=>bif Nat.beq d 0 then (some (.tup [.agg [zq a 2,zq a 3],.one (I6 0)])) else(none)) (fun a _e=>some (.tup [.agg [zq a 1,zq a 2],.one (zq a 0)]))
theorem p32(O:Orc)(a0:DV):pF O zB8 32 [S1 a0]=P32 O a0:=by kernel_rfl
def zB7:Nat→Option LA:=fun i=>match i with|0=>some ⟨[.slot 23],[],[],[],[],[],[.slot 4],[],[]⟩|_=>none
def zAZ(d a b:DV)(c:List DV)(_m:List OC):Option PX:=za (zg .lss (zq c 0) d) fun e=>ifB e (za (xL 5 a (zq c 0)) fun f=>za (xL 1 b (zq c 0)) fun g=>za (y7 (atD f 4)) fun h=>za (zlQ false (atD g 0) h) fun j=>za (zg .neq j (U64 0)) fun k=>ifB k (some (.ret,[I6 3],[])) (za (zg .add (zq c 0) (I6 1)) fun l=>some (.normal,[l],[]))) (some (.exit 0,[],[]))
def P33(O:Orc)(a b c d f h j:DV):Option DA:=b1 (O 27 [SA [a,b,c,d]]) fun e=>za (zg .neq e (I6 0)) fun k=>ifB k (some (S1 e)) (za (y7 f) fun l=>za (y7 c) fun m=>za (zg .neq l m) fun n=>ifB n (some (S1 (I6 5))) (za (y7 c) fun o=>yS (zP (zAZ o c f) [I6 0] []) (fun p _g _q=>bif Nat.beq p 0 then (za (y7 d) fun r=>za (zlQ false h r) fun s=>za (zg .neq s (U64 0)) fun t=>ifB t (some (S1 (I6 3))) (za (y7 c) fun v=>za (zlQ false j v) fun w=>za (zg .neq w (U64 0)) fun x=>ifB x (some (S1 (I6 3))) (some (S1 (I6 0))))) else(none)) (fun g _q=>some (S1 (zq g 0)))))
theorem p33(O:Orc)(a b c d f h j:DV):pF O zB7 33 [SA [a,b,c,d],SA [f,h,j]]=P33 O a b c d f h j:=by kernel_rfl
def zB6:Nat→Option LA:=fun i=>match i with|0=>some ⟨[.slot 24],[],[],[],[],[],[.slot 4],[],[]⟩|_=>none
def zA8(O:Orc)(f a g:DV)(b:List DV)(_m:List OC):Option PX:=za (zg .lss (zq b 0) f) fun h=>ifB h (za (xL 5 a (zq b 0)) fun c=>bT [some 2,none] (O 66 [SA [atD c 2,atD c 3]]) fun d=>za (xL 2 g (zq b 0)) fun e=>b1 (O 67 [SA [atD e 0,atD e 1],SA [atD (dsA (wY d 0)) 0,atD (dsA (wY d 0)) 1]]) fun j=>za (ze8 j) fun k=>ifB k (some (.ret,[I6 23],[])) (za (zg .add (zq b 0) (I6 1)) fun l=>some (.normal,[l],[]))) (some (.exit 0,[],[]))
def P34(O:Orc)(a b c d e:DV):Option DA:=b1 (O 27 [SA [a,b,c,d]]) fun f=>za (zg .neq f (I6 0)) fun h=>ifB h (some (S1 f)) (za (y7 e) fun j=>za (y7 c) fun k=>za (zg .neq j k) fun l=>ifB l (some (S1 (I6 5))) (za (y7 c) fun m=>yS (zP (zA8 O m c e) [I6 0] []) (fun n _g _o=>bif Nat.beq n 0 then (some (S1 (I6 0))) else(none)) (fun g _o=>some (S1 (zq g 0)))))
theorem p34(O:Orc)(a b c d a1:DV):pF O zB6 34 [SA [a,b,c,d],S1 a1]=P34 O a b c d a1:=by kernel_rfl
def zBG:Nat→List PA→Nat→Nat→Option LA:=fun h _ n i=>match h,n,i with|100,4,0=>some ⟨[.slot 10],[(.cell 2 0,1)],[(2,1)],[],[],[(.cell 2 0,1)],[],[(.cell 2 0,1)],[]⟩|100,4,1=>some ⟨[.slot 4],[(.cell 2 0,1)],[(2,1)],[],[],[(.cell 2 0,1)],[],[(.cell 2 0,1)],[]⟩|_,_,_=>none
def zAu(O:Orc)(c:List DV)(a:List DV)(b:List OC):Option PX:=za (zg .neq (zq a 0) (U64 0)) fun d=>ifB d (za (zg .mul (I6 64) (zq c 0)) fun e=>b1 (O 101 [S1 (zq a 0)]) fun f=>za (zg .add e f) fun g=>gd (fits 8 (ki (z5 b 0)+1)) (za (zg .sub (zq a 0) (U64 1)) fun h=>za (zg .and (zq a 0) h) fun j=>some (.normal,[j],[some (zK (z5 b 0)++[[g]])]))) (some (.exit 2,[],[z5 b 0]))
def zAQ(O:Orc)(a b:DV)(c:List DV)(f:List OC):Option PX:=za (zg .lss (zq c 0) (I6 2)) fun g=>ifB g (za (zcH 2 (zq c 0)) fun h=>yS (zP (zAu O c) [atD [a,b] h] [z5 f 0]) (fun e _j d=>bif Nat.beq e 2 then (za (zg .add (zq c 0) (I6 1)) fun k=>some (.normal,[k],[z5 d 0])) else(bif Nat.beq e 1 then (za (zg .add (zq c 0) (I6 1)) fun l=>some (.normal,[l],[z5 d 0])) else(some (.exit e,[],[z5 d 0])))) (fun _j d=>some (.ret,[],[z5 d 0]))) (some (.exit 0,[],[z5 f 0]))
def P35(O:Orc)(a b:DV):Option DA:=yS (zP (zAQ O a b) [I6 0] [none]) (fun d _e c=>bif Nat.beq d 0 then (some (S1 (mkL 1 (z5 c 0)))) else(none)) (fun _e c=>some (S1 (mkL 1 (z5 c 0))))
theorem p35(O:Orc)(a b:DV):zrh prog O zkQ (inl prog O zkQ zBG redI 5) an0 35 [SA [a,b]]=P35 O a b:=by kernel_rfl
def P36(O:Orc)(a b c:DV):Option DA:=b1 (O 62 [S1 c]) fun e=>za (ze8 e) fun f=>ifB f (some (S1 (.bool false))) (bA 2 (O 65 [SA [U64 0,U64 0],S1 c]) fun d=>b1 (O 67 [SA [atD d 0,atD d 1],SA [a,b]]) fun g=>some (S1 g))
theorem p36(O:Orc)(a b a1:DV):pF O an0 36 [SA [a,b],S1 a1]=P36 O a b a1:=by kernel_rfl
def zB5:Nat→Option LA:=fun i=>match i with|0=>some ⟨[.slot 8,.slot 3],[],[],[],[.slot 3],[],[],[],[]⟩|_=>none
def zAY(b c:DV)(a:List DV)(_k:List OC):Option PX:=za (zg .lss (zq a 0) b) fun d=>ifB d (za (xL 1 c (zq a 0)) fun e=>ifB (atD e 0) (za (zlQ true (U64 1) (zq a 0)) fun f=>za (zg .or (zq a 1) f) fun g=>za (zg .add (zq a 0) (I6 1)) fun h=>some (.normal,[h,g],[])) (za (zg .add (zq a 0) (I6 1)) fun j=>some (.normal,[j,zq a 1],[]))) (some (.exit 0,[zq a 1],[]))
def P37(_O:Orc)(a:DV):Option DA:=za (y7 a) fun c=>yS (zP (zAY c a) [I6 0,U64 0] []) (fun d b _e=>bif Nat.beq d 0 then (some (S1 (zq b 0))) else(none)) (fun _b _e=>none)
theorem p37(O:Orc)(a0:DV):pF O zB5 37 [S1 a0]=P37 O a0:=by kernel_rfl
def P50(O:Orc)(a b:DV):Option DA:=b1 (O 86 [S1 a,S1 b]) fun c=>za (zg .geq c (I6 0)) fun d=>some (S1 d)
theorem p50(O:Orc)(a0 a1:DV):pF O an0 50 [S1 a0,S1 a1]=P50 O a0 a1:=by kernel_rfl
def P53(_O:Orc)(b:DV):Option DA:=za (zg .rem b (U8 16)) fun c=>za (q9 (some [[I6 8,I6 1],[I6 4,I6 1],[I6 16,I6 1],[I6 2,I6 1],[I6 8,I6 3],[I6 8,I6 5],[I6 4,I6 3],[I6 1,I6 1],[I6 32,I6 1],[I6 16,I6 3],[I6 16,I6 5],[I6 32,I6 3],[I6 8,I6 7],[I6 2,I6 3],[I6 1,I6 2],[I6 64,I6 1]]) c) fun d=>za (znZ (some [[I6 8,I6 1],[I6 4,I6 1],[I6 16,I6 1],[I6 2,I6 1],[I6 8,I6 3],[I6 8,I6 5],[I6 4,I6 3],[I6 1,I6 1],[I6 32,I6 1],[I6 16,I6 3],[I6 16,I6 5],[I6 32,I6 3],[I6 8,I6 7],[I6 2,I6 3],[I6 1,I6 2],[I6 64,I6 1]]) d) fun a=>some (SA [atD a 0,atD a 1])
theorem p53(O:Orc)(a0:DV):pF O an0 53 [S1 a0]=P53 O a0:=by kernel_rfl
def P54(_O:Orc)(b:DV):Option DA:=za (zg .rem b (U8 6)) fun c=>za (q9 (some [[I6 8,I6 1],[I6 4,I6 1],[I6 16,I6 1],[I6 8,I6 3],[I6 2,I6 1],[I6 8,I6 5]]) c) fun d=>za (znZ (some [[I6 8,I6 1],[I6 4,I6 1],[I6 16,I6 1],[I6 8,I6 3],[I6 2,I6 1],[I6 8,I6 5]]) d) fun a=>some (SA [atD a 0,atD a 1])
theorem p54(O:Orc)(a0:DV):pF O an0 54 [S1 a0]=P54 O a0:=by kernel_rfl
def P55(O:Orc)(a b c d:DV):Option DA:=b1 (O 87 [SA [a,b],SA [c,d]]) fun e=>za (zg .neq e (I6 0)) fun f=>ifB f (some (.tup [.one (I6 0),.one e])) (b1 (O 88 [SA [a,b],SA [c,d]]) fun g=>some (.tup [.one g,.one (I6 0)]))
theorem p55(O:Orc)(a b c d:DV):pF O an0 55 [SA [a,b],SA [c,d]]=P55 O a b c d:=by kernel_rfl
def zyg:Nat→Option LA:=fun i=>match i with|0=>some ⟨[.slot 3],[],[],[],[],[],[.slot 2],[],[]⟩|_=>none
def znM(O:Orc)(c:DV)(a:List DV)(_q:List OC):Option PX:=za (zj2 c) fun d=>za (zg .lss (zq a 0) d) fun e=>ifB e (za (zaH c (zq a 0)) fun b=>b1 (O 89 [S1 b]) fun f=>za (ze8 f) fun g=>ifB g (za (zg .lss b (U8 48)) fun h=>ifB h (za (zg .neq b (U8 95)) fun j=>ifB j (some (.ret,[.bool false],[])) (za (zg .add (zq a 0) (I6 1)) fun k=>some (.normal,[k],[]))) (za (zg .gtr b (U8 57)) fun l=>ifB l (za (zg .neq b (U8 95)) fun m=>ifB m (some (.ret,[.bool false],[])) (za (zg .add (zq a 0) (I6 1)) fun n=>some (.normal,[n],[]))) (za (zg .add (zq a 0) (I6 1)) fun o=>some (.normal,[o],[])))) (za (zg .add (zq a 0) (I6 1)) fun p=>some (.normal,[p],[]))) (some (.exit 0,[],[]))
def P56(O:Orc)(a:DV):Option DA:=za (uZ .eql a (.str ⟨#[]⟩)) fun c=>ifB c (some (S1 (.bool false))) (za (zj2 a) fun d=>za (zg .gtr d (I6 32)) fun e=>ifB e (some (S1 (.bool false))) (za (zaH a (I6 0)) fun f=>b1 (O 89 [S1 f]) fun g=>za (ze8 g) fun h=>ifB h (some (S1 (.bool false))) (yS (zP (znM O a) [I6 1] []) (fun j _b _k=>bif Nat.beq j 0 then (some (S1 (.bool true))) else(none)) (fun b _k=>some (S1 (zq b 0))))))
theorem p56(O:Orc)(a0:DV):pF O zyg 56 [S1 a0]=P56 O a0:=by kernel_rfl
def P57(O:Orc)(a b c d f h:DV):Option DA:=b1 (O 56 [S1 a]) fun g=>za (ze8 g) fun j=>ifB j (some (S1 (I6 8))) (b1 (O 56 [S1 b]) fun k=>za (ze8 k) fun l=>ifB l (some (S1 (I6 8))) (b1 (O 90 [SA [c,d]]) fun e=>za (zg .neq e (I6 0)) fun m=>ifB m (some (S1 e)) (b1 (O 91 [S1 f]) fun n=>za (ze8 n) fun o=>ifB o (some (S1 (I6 3))) (za (y7 h) fun p=>za (zg .eql p (I6 0)) fun q=>ifB q (some (S1 (I6 13))) (za (y7 h) fun r=>za (zg .gtr r (I6 128)) fun s=>ifB s (some (S1 (I6 4))) (b1 (O 92 [S1 h]) fun t=>some (S1 t)))))))
theorem p57(O:Orc)(a b c d f h:DV):pF O an0 57 [SA [a,b,c,d,f,h]]=P57 O a b c d f h:=by kernel_rfl
def zyf:Nat→Option LA:=fun i=>match i with|0=>some ⟨[.slot 25],[],[],[(2,1048576)],[],[],[.slot 4],[],[]⟩|_=>none
def znL(O:Orc)(k a b c d:DV)(g:List DV)(f:List OC):Option PX:=za (zg .lss (zq g 0) k) fun l=>ifB l (za (xL 4 a (zq g 0)) fun e=>b1 (O 94 [SA [b,c,d],SA [atD e 0,atD e 1,atD e 2,atD e 3]]) fun h=>za (zg .neq h (I6 0)) fun m=>ifB m (some (.ret,[h],[some (zK (z5 f 0))])) (za (zgz (.inl 2) (.one (atD e 0)) (.one (atD e 0))) fun _s=>za (zeF (.inl 2) 1048576 (.one (atD e 0)) (zK (z5 f 0))) fun n=>ifB (dsO (lkD (.one (.bool false)) n)) (za (zg .neq (I6 9) (I6 0)) fun o=>ifB o (some (.ret,[I6 9],[some (zK (z5 f 0))])) (za (zg .add (zq g 0) (I6 1)) fun p=>some (.normal,[p],[some (zK (z5 f 0))]))) (za (zgz (.inl 2) (.one (atD e 0)) (.one (atD e 0))) fun _t=>za (znY (.inl 2) 1048576 (.one (atD e 0)) [atD e 0,.bool true] (zK (z5 f 0))) fun j=>za (zg .neq (I6 0) (I6 0)) fun q=>ifB q (some (.ret,[I6 0],[some j])) (za (zg .add (zq g 0) (I6 1)) fun r=>some (.normal,[r],[some j]))))) (some (.exit 0,[],[some (zK (z5 f 0))]))
def P59(O:Orc)(_a b _c _d _f _h j m r:DV):Option DA:=b1 (O 93 [SA [j,m]]) fun a=>za (zg .neq a (I6 0)) fun d=>ifB d (some (S1 a)) (za (y7 r) fun e=>za (zg .gtr e (I6 60)) fun f=>ifB f (some (S1 (I6 4))) (za (y7 r) fun g=>yS (zP (znL O g r b j m) [I6 0] [some []]) (fun h _c _k=>bif Nat.beq h 0 then (some (S1 (I6 0))) else(none)) (fun c _k=>some (S1 (zq c 0)))))
theorem p59(O:Orc)(a b c d f h j m r:DV):pF O zyf 59 [SA [a,b,c,d],SA [f,h,j,m,r]]=P59 O a b c d f h j m r:=by kernel_rfl
def zye:Nat→Option LA:=fun i=>match i with|0=>some ⟨[.slot 19],[],[],[],[],[],[.slot 4],[],[]⟩|1=>some ⟨[.slot 29],[],[],[],[],[],[.slot 4],[],[]⟩|_=>none
def zgj(O:Orc)(e c d:DV)(b:List DV)(_y:List OC):Option PX:=za (zg .lss (zq b 0) e) fun f=>ifB f (za (xL 5 c (zq b 0)) fun a=>b1 (O 56 [S1 (atD a 0)]) fun g=>za (ze8 g) fun h=>ifB h (some (.ret,[I6 8],[])) (za (u1 5 c none (some (zq b 0))) fun j=>b1s (O 95 [S1 j,S1 (.fn 96 [[atD a 0,atD a 1,atD a 2,atD a 3,atD a 4]])]) fun k=>ifB k (some (.ret,[I6 9],[])) (za (zg .lss (atD a 1) (I6 0)) fun l=>ifB l (some (.ret,[I6 10],[])) (za (y7 d) fun m=>za (zg .geq (atD a 1) m) fun n=>ifB n (some (.ret,[I6 10],[])) (za (zg .lss (atD a 2) (I6 0)) fun o=>ifB o (some (.ret,[I6 10],[])) (za (y7 d) fun p=>za (zg .geq (atD a 2) p) fun q=>ifB q (some (.ret,[I6 10],[])) (za (zg .lss (atD a 3) (I6 (-127))) fun r=>ifB r (some (.ret,[I6 3],[])) (za (zg .gtr (atD a 3) (I6 127)) fun s=>ifB s (some (.ret,[I6 3],[])) (za (zg .eql (atD a 1) (atD a 2)) fun t=>ifB t (za (zg .eql (atD a 3) (I6 0)) fun v=>ifB v (some (.ret,[I6 7],[])) (za (zg .add (zq b 0) (I6 1)) fun w=>some (.normal,[w],[]))) (za (zg .add (zq b 0) (I6 1)) fun x=>some (.normal,[x],[]))))))))))) (some (.exit 2,[],[]))
def znK(O:Orc)(c d:DV)(a:List DV)(_j:List OC):Option PX:=za (zg .lss (zq a 0) c) fun e=>ifB e (za (xL 2 d (zq a 0)) fun b=>b1 (O 93 [SA [atD b 0,atD b 1]]) fun f=>za (zg .neq f (I6 0)) fun g=>ifB g (some (.ret,[I6 23],[])) (za (zg .add (zq a 0) (I6 1)) fun h=>some (.normal,[h],[]))) (some (.exit 0,[],[]))
def P60(O:Orc)(a b:DV):Option DA:=za (y7 a) fun e=>za (zg .gtr e (I6 8)) fun f=>ifB f (some (S1 (I6 4))) (za (y7 b) fun g=>za (zg .gtr g (I6 40)) fun h=>ifB h (some (S1 (I6 4))) (za (y7 a) fun j=>yS (zP (znK O j a) [I6 0] []) (fun k _c _l=>bif Nat.beq k 0 then (za (y7 b) fun m=>yS (zP (zgj O m b a) [I6 0] []) (fun n _d _o=>bif Nat.beq n 2 then (some (S1 (I6 0))) else(none)) (fun d _o=>some (S1 (zq d 0)))) else(none)) (fun c _l=>some (S1 (zq c 0)))))
theorem p60(O:Orc)(a0 a1:DV):pF O zye 60 [S1 a0,S1 a1]=P60 O a0 a1:=by kernel_rfl
def P62(_O:Orc)(a:DV):Option DA:=za (zg .geq a (I6 0)) fun b=>ifB b (za (zg .leq a (I6 127)) fun c=>some (S1 c)) (some (S1 (.bool false)))
theorem p62(O:Orc)(a0:DV):pF O an0 62 [S1 a0]=P62 O a0:=by kernel_rfl
def P65(_O:Orc)(a b c:DV):Option DA:=za (zg .lss c (I6 64)) fun d=>ifB d (za (zlQ true (U64 1) c) fun e=>za (zg .or a e) fun f=>some (SA [f,b])) (za (zg .sub c (I6 64)) fun g=>za (zlQ true (U64 1) g) fun h=>za (zg .or b h) fun j=>some (SA [a,j]))
theorem p65(O:Orc)(a b a1:DV):pF O an0 65 [SA [a,b],S1 a1]=P65 O a b a1:=by kernel_rfl
def zB4:Nat→Option LA:=fun i=>match i with|0=>some ⟨[.slot 6,.cell 2 0,.cell 2 1],[],[(2,2)],[],[.cell 2 0,.cell 2 1],[],[.cell 2 0,.cell 2 1],[],[]⟩|_=>none
def zA6(O:Orc)(a:DV)(b:List DV)(_f:List OC):Option PX:=za (zg .leq (zq b 0) a) fun d=>ifB d (bA 2 (O 65 [SA [zq b 1,zq b 2],S1 (zq b 0)]) fun c=>za (zg .add (zq b 0) (I6 1)) fun e=>some (.normal,[e,atD c 0,atD c 1],[])) (some (.exit 0,[zq b 1,zq b 2],[]))
def P66(O:Orc)(a b:DV):Option DA:=b1 (O 93 [SA [a,b]]) fun d=>za (zg .neq d (I6 0)) fun e=>ifB e (some (.tup [.agg [U64 0,U64 0],.one d])) (yS (zP (zA6 O b) [a,U64 0,U64 0] []) (fun f c _g=>bif Nat.beq f 0 then (some (.tup [.agg [zq c 0,zq c 1],.one (I6 0)])) else(none)) (fun _c _g=>none))
theorem p66(O:Orc)(a b:DV):pF O zB4 66 [SA [a,b]]=P66 O a b:=by kernel_rfl
def P67(O:Orc)(a b c d:DV):Option DA:=bA 2 (O 98 [SA [a,b],SA [c,d]]) fun e=>za (znc [1,1] [atD e 0,atD e 1] [U64 0,U64 0]) fun f=>some (S1 (.bool f))
theorem p67(O:Orc)(a b c d:DV):pF O an0 67 [SA [a,b],SA [c,d]]=P67 O a b c d:=by kernel_rfl
def zyd:Nat→Option LA:=fun i=>match i with|0=>some ⟨[.slot 8],[],[],[],[],[],[.slot 4],[],[]⟩|_=>none
def znF(O:Orc)(b c d:DV)(a:List DV)(_j:List OC):Option PX:=za (zg .lss (zq a 0) b) fun e=>ifB e (za (xL 1 c (zq a 0)) fun f=>b1 (zkM O d [S1 (atD f 0)]) fun g=>ifB g (some (.ret,[zq a 0],[])) (za (zg .add (zq a 0) (I6 1)) fun h=>some (.normal,[h],[]))) (some (.exit 0,[],[]))
def P86(O:Orc)(a c:DV):Option DA:=za (y7 a) fun d=>yS (zP (znF O d a c) [I6 0] []) (fun e _b _f=>bif Nat.beq e 0 then (some (S1 (I6 (-1)))) else(none)) (fun b _f=>some (S1 (zq b 0)))
theorem p86(O:Orc)(a0 a1:DV):pF O zyd 86 [S1 a0,S1 a1]=P86 O a0 a1:=by kernel_rfl
def P87(O:Orc)(a b c d:DV):Option DA:=b1 (O 90 [SA [a,b]]) fun e=>za (zg .neq e (I6 0)) fun f=>ifB f (some (S1 e)) (b1 (O 90 [SA [c,d]]) fun g=>some (S1 g))
theorem p87(O:Orc)(a b c d:DV):pF O an0 87 [SA [a,b],SA [c,d]]=P87 O a b c d:=by kernel_rfl
def zyc:Nat→Option LA:=fun i=>match i with|0=>some ⟨[.slot 5,.slot 7],[],[],[],[.slot 5,.slot 7],[],[],[],[]⟩|1=>some ⟨[.slot 6,.slot 7],[],[],[],[.slot 6,.slot 7],[],[],[],[]⟩|2=>some ⟨[.slot 12,.slot 7],[],[],[],[.slot 7],[],[],[],[]⟩|_=>none
def zgi(O:Orc)(b:List DS)(a:List DV)(_g:List OC):Option PX:=b1 (O 123 [S1 (dsO (wY b 0)),S1 (zq a 0)]) fun c=>za (zg .gtr c (I6 0)) fun d=>ifB d (za (zg .add (zq a 1) (I6 1)) fun e=>b1 (O 122 [S1 (zq a 0),S1 (.str ⟨#[52]⟩)]) fun f=>some (.normal,[f,e],[])) (some (.exit 4,[zq a 1],[]))
def zdC(b:List DV)(a:List DV)(_g:List OC):Option PX:=za (zg .mul (I6 2) (zq a 0)) fun c=>za (zg .geq (zq b 0) c) fun d=>ifB d (za (zg .mul (zq a 0) (I6 2)) fun e=>za (zg .add (zq a 1) (I6 12)) fun f=>some (.normal,[e,f],[])) (some (.exit 2,[zq a 0,zq a 1],[]))
def zkO(b:DV)(a:List DV)(_f:List OC):Option PX:=za (zg .lss (zq a 0) b) fun c=>ifB c (za (zg .mul (zq a 0) (I6 2)) fun d=>za (zg .sub (zq a 1) (I6 12)) fun e=>some (.normal,[d,e],[])) (some (.exit 0,[zq a 0,zq a 1],[]))
def P88(O:Orc)(a b c d:DV):Option DA:=za (zg .mul c b) fun j=>za (zg .mul d a) fun g=>yS (zP (zkO g) [j,I6 0] []) (fun k e _l=>bif Nat.beq k 0 then (yS (zP (zdC e) [g,zq e 1] []) (fun m f _n=>bif Nat.beq m 2 then (b1 (O 121 [S1 (zq e 0)]) fun o=>bT [none,none] (O 120 [S1 o,S1 (I6 24)]) fun p=>b1 (O 121 [S1 (zq f 0)]) fun q=>bT [none,none] (O 120 [S1 q,S1 (I6 24)]) fun r=>b1 (O 122 [S1 (dsO (wY r 0)),S1 (.str ⟨#[50]⟩)]) fun s=>yS (zP (zgi O p) [s,zq f 1] []) (fun t h _v=>bif Nat.beq t 4 then (some (S1 (zq h 0))) else(none)) (fun _h _v=>none)) else(none)) (fun _f _n=>none)) else(none)) (fun _e _l=>none)
theorem p88(O:Orc)(a b c d:DV):pF O zyc 88 [SA [a,b],SA [c,d]]=P88 O a b c d:=by kernel_rfl
def P89(_O:Orc)(a:DV):Option DA:=za (zg .geq a (U8 65)) fun b=>ifB b (za (zg .leq a (U8 90)) fun c=>ifB c (some (S1 (.bool true))) (za (zg .geq a (U8 97)) fun d=>ifB d (za (zg .leq a (U8 122)) fun e=>some (S1 e)) (some (S1 (.bool false))))) (za (zg .geq a (U8 97)) fun f=>ifB f (za (zg .leq a (U8 122)) fun g=>some (S1 g)) (some (S1 (.bool false))))
theorem p89(O:Orc)(a0:DV):pF O an0 89 [S1 a0]=P89 O a0:=by kernel_rfl
def P90(O:Orc)(a b:DV):Option DA:=b1 (O 124 [SA [a,b]]) fun c=>za (zg .neq c (I6 0)) fun d=>ifB d (some (S1 (I6 2))) (za (zg .leq a (I6 0)) fun e=>ifB e (some (S1 (I6 3))) (za (zg .mul (I6 128) b) fun f=>za (zg .gtr a f) fun g=>ifB g (some (S1 (I6 3))) (za (zg .gtr b (I6 128)) fun h=>ifB h (some (S1 (I6 4))) (some (S1 (I6 0))))))
theorem p90(O:Orc)(a b:DV):pF O an0 90 [SA [a,b]]=P90 O a b:=by kernel_rfl
def P91(_O:Orc)(a:DV):Option DA:=za (zg .geq a (I6 (-256))) fun b=>ifB b (za (zg .leq a (I6 256)) fun c=>some (S1 c)) (some (S1 (.bool false)))
theorem p91(O:Orc)(a0:DV):pF O an0 91 [S1 a0]=P91 O a0:=by kernel_rfl
def P92(O:Orc)(a:DV):Option DA:=b1 (O 50 [S1 a,S1 (.fn 125 [])]) fun b=>ifB b (some (S1 (I6 3))) (some (S1 (I6 0)))
theorem p92(O:Orc)(a0:DV):pF O an0 92 [S1 a0]=P92 O a0:=by kernel_rfl
def P93(_O:Orc)(a b:DV):Option DA:=za (zg .lss a (I6 0)) fun c=>ifB c (some (S1 (I6 3))) (za (zg .gtr b (I6 127)) fun d=>ifB d (some (S1 (I6 3))) (za (zg .gtr a b) fun e=>ifB e (some (S1 (I6 23))) (some (S1 (I6 0)))))
theorem p93(O:Orc)(a b:DV):pF O an0 93 [SA [a,b]]=P93 O a b:=by kernel_rfl
def zyb:Nat→Option LA:=fun i=>match i with|0=>some ⟨[.slot 38],[],[],[],[],[],[.slot 4],[],[]⟩|_=>none
def zgh(O:Orc)(j a b c d:DV)(f:List DV)(_z:List OC):Option PX:=za (zg .lss (zq f 0) j) fun k=>ifB k (za (xL 3 a (zq f 0)) fun e=>za (uB false (atD e 0) [atD e 1]) fun l=>za (zg .lss l b) fun m=>ifB m (some (.ret,[I6 23],[])) (za (uB true (atD e 0) [atD e 1]) fun n=>za (zg .gtr n c) fun o=>ifB o (some (.ret,[I6 23],[])) (za (zg .gtr (atD e 0) (atD e 1)) fun p=>ifB p (some (.ret,[I6 6],[])) (za (zg .gtr (zq f 0) (I6 0)) fun q=>ifB q (za (zg .sub (zq f 0) (I6 1)) fun r=>za (xL 3 a r) fun s=>za (zg .leq (atD e 0) (atD s 1)) fun t=>ifB t (some (.ret,[I6 6],[])) (b1 (O 127 [SA [d,b,c],S1 (atD e 2)]) fun g=>za (zg .neq g (I6 0)) fun v=>ifB v (some (.ret,[g],[])) (za (zg .add (zq f 0) (I6 1)) fun w=>some (.normal,[w],[])))) (b1 (O 127 [SA [d,b,c],S1 (atD e 2)]) fun h=>za (zg .neq h (I6 0)) fun x=>ifB x (some (.ret,[h],[])) (za (zg .add (zq f 0) (I6 1)) fun y=>some (.normal,[y],[]))))))) (some (.exit 1,[],[]))
def P94(O:Orc)(a b c d f h j:DV):Option DA:=b1 (O 126 [SA [a,b,c]]) fun e=>za (zg .neq e (I6 0)) fun l=>ifB l (some (S1 e)) (b1 (O 56 [S1 d]) fun m=>za (ze8 m) fun n=>ifB n (some (S1 (I6 8))) (b1 (O 90 [SA [f,h]]) fun g=>za (zg .neq g (I6 0)) fun o=>ifB o (some (S1 g)) (za (y7 j) fun p=>za (zg .eql p (I6 0)) fun q=>ifB q (some (S1 (I6 13))) (za (y7 j) fun r=>za (zg .gtr r (I6 12)) fun s=>ifB s (some (S1 (I6 4))) (za (y7 j) fun t=>yS (zP (zgh O t j b c a) [I6 0] []) (fun v _k _w=>bif Nat.beq v 1 then (some (S1 (I6 0))) else(none)) (fun k _w=>some (S1 (zq k 0))))))))
theorem p94(O:Orc)(a b c d f h j:DV):pF O zyb 94 [SA [a,b,c],SA [d,f,h,j]]=P94 O a b c d f h j:=by kernel_rfl
def P95(O:Orc)(a b:DV):Option DA:=b1 (O 128 [S1 a,S1 b]) fun c=>za (zg .geq c (I6 0)) fun d=>some (S1 d)
theorem p95(O:Orc)(a0 a1:DV):pF O an0 95 [S1 a0,S1 a1]=P95 O a0 a1:=by kernel_rfl
def P96(_O:Orc)(a _b _c _d _f h _j _m _r _s:DV):Option DA:=za (uZ .eql a h) fun b=>some (S1 b)
theorem p96(O:Orc)(a b c d f h j m r s:DV):pF O an0 96 [SA [a,b,c,d,f],S1 (.fp [h,j,m,r,s] 0)]=P96 O a b c d f h j m r s:=by kernel_rfl
def P98(_O:Orc)(a b c d:DV):Option DA:=za (zg .andNot a c) fun e=>za (zg .andNot b d) fun f=>some (SA [e,f])
theorem p98(O:Orc)(a b c d:DV):pF O an0 98 [SA [a,b],SA [c,d]]=P98 O a b c d:=by kernel_rfl
def zxD(O:Orc)(a b:DV):Option DA:=za (zg .leq b (I6 0)) fun c=>ifB c (some (S1 (I6 2))) (za (zg .gtr b (I6 1000000)) fun d=>ifB d (some (S1 (I6 2))) (za (zg .lss a (I6 (-1000000))) fun e=>ifB e (some (S1 (I6 2))) (za (zg .gtr a (I6 1000000)) fun f=>ifB f (some (S1 (I6 2))) (b1 (O 155 [S1 a]) fun g=>za (y2 .u64 b) fun h=>b1 (O 154 [S1 g,S1 h]) fun j=>za (zg .neq j (U64 1)) fun k=>ifB k (some (S1 (I6 2))) (some (S1 (I6 0)))))))
theorem zyU(O:Orc)(a b:DV):pF O an0 124 [SA [a,b]]=zxD O a b:=by kernel_rfl
def zxC(_O:Orc)(a:DV):Option DA:=za (zg .lss a (I6 0)) fun b=>ifB b (some (S1 (.bool true))) (za (zg .gtr a (I6 1000000)) fun c=>some (S1 c))
theorem zyT(O:Orc)(a0:DV):pF O an0 125 [S1 a0]=zxC O a0:=by kernel_rfl
def zvc:Nat→Option LA:=fun i=>match i with|0=>some ⟨[.slot 13],[],[],[],[],[],[.slot 2],[],[]⟩|_=>none
def zgv(O:Orc)(e a:DV)(c:List DV)(_j:List OC):Option PX:=za (zg .lss (zq c 0) e) fun f=>ifB f (za (xL 6 a (zq c 0)) fun b=>b1 (O 57 [SA [atD b 0,atD b 1,atD b 2,atD b 3,atD b 4,atD b 5]]) fun d=>za (zg .neq d (I6 0)) fun g=>ifB g (some (.ret,[d],[])) (za (zg .add (zq c 0) (I6 1)) fun h=>some (.normal,[h],[]))) (some (.exit 0,[],[]))
def zxB(O:Orc)(a b c:DV):Option DA:=za (y7 a) fun e=>za (zg .gtr e (I6 60)) fun f=>ifB f (some (S1 (I6 4))) (za (y7 a) fun g=>yS (zP (zgv O g a) [I6 0] []) (fun h _d _j=>bif Nat.beq h 0 then (b1 (O 93 [SA [b,c]]) fun k=>some (S1 k)) else(none)) (fun d _j=>some (S1 (zq d 0))))
theorem zyS(O:Orc)(a b c:DV):pF O zvc 126 [SA [a,b,c]]=zxB O a b c:=by kernel_rfl
def zvb:Nat→Option LA:=fun i=>match i with|0=>some ⟨[.slot 12],[],[],[],[],[],[.slot 4],[],[]⟩|_=>none
def zgu(O:Orc)(e d a:DV)(c:List DV)(_p:List OC):Option PX:=za (zg .lss (zq c 0) e) fun f=>ifB f (za (xL 2 d (zq c 0)) fun b=>za (zg .lss (atD b 0) (I6 0)) fun g=>ifB g (some (.ret,[I6 10],[])) (za (y7 a) fun h=>za (zg .geq (atD b 0) h) fun j=>ifB j (some (.ret,[I6 10],[])) (za (zg .lss (atD b 1) (I6 (-127))) fun k=>ifB k (some (.ret,[I6 3],[])) (za (zg .gtr (atD b 1) (I6 127)) fun l=>ifB l (some (.ret,[I6 3],[])) (za (u1 2 d none (some (zq c 0))) fun m=>b1 (O 156 [S1 m,SA [atD b 0,atD b 1]]) fun n=>ifB n (some (.ret,[I6 9],[])) (za (zg .add (zq c 0) (I6 1)) fun o=>some (.normal,[o],[]))))))) (some (.exit 0,[],[]))
def zxA(O:Orc)(a _b _c b:DV):Option DA:=za (y7 b) fun d=>za (zg .gtr d (I6 8)) fun e=>ifB e (some (S1 (I6 4))) (za (y7 b) fun f=>yS (zP (zgu O f b a) [I6 0] []) (fun g _c _h=>bif Nat.beq g 0 then (some (S1 (I6 0))) else(none)) (fun c _h=>some (S1 (zq c 0))))
theorem zyR(O:Orc)(a b c a1:DV):pF O zvb 127 [SA [a,b,c],S1 a1]=zxA O a b c a1:=by kernel_rfl
def zva:Nat→Option LA:=fun i=>match i with|0=>some ⟨[.slot 8],[],[],[],[],[],[.slot 4],[],[]⟩|_=>none
def zgt(O:Orc)(c d e:DV)(b:List DV)(_j:List OC):Option PX:=za (zg .lss (zq b 0) c) fun f=>ifB f (za (xL 5 d (zq b 0)) fun a=>b1 (zkM O e [SA [atD a 0,atD a 1,atD a 2,atD a 3,atD a 4]]) fun g=>ifB g (some (.ret,[zq b 0],[])) (za (zg .add (zq b 0) (I6 1)) fun h=>some (.normal,[h],[]))) (some (.exit 0,[],[]))
def zxz(O:Orc)(a c:DV):Option DA:=za (y7 a) fun d=>yS (zP (zgt O d a c) [I6 0] []) (fun e _b _f=>bif Nat.beq e 0 then (some (S1 (I6 (-1)))) else(none)) (fun b _f=>some (S1 (zq b 0)))
theorem zyQ(O:Orc)(a0 a1:DV):pF O zva 128 [S1 a0,S1 a1]=zxz O a0 a1:=by kernel_rfl
def zu9:Nat→Option LA:=fun i=>match i with|0=>some ⟨[.slot 1,.slot 0],[],[],[],[.slot 0],[],[],[],[]⟩|_=>none
def zjw(a:List DV)(_d:List OC):Option PX:=za (zg .gtr (zq a 0) (U64 0)) fun b=>ifB b (za (zg .rem (zq a 1) (zq a 0)) fun c=>some (.normal,[c,zq a 0],[])) (some (.exit 0,[zq a 1],[]))
def zxx(_O:Orc)(b c:DV):Option DA:=yS (zP zjw [c,b] []) (fun d a _e=>bif Nat.beq d 0 then (some (S1 (zq a 0))) else(none)) (fun _a _e=>none)
theorem zyO(O:Orc)(a0 a1:DV):pF O zu9 154 [S1 a0,S1 a1]=zxx O a0 a1:=by kernel_rfl
def zxw(_O:Orc)(a:DV):Option DA:=za (zg .lss a (I6 0)) fun b=>ifB b (za (y2 .u64 a) fun c=>za (zre c) fun d=>some (S1 d)) (za (y2 .u64 a) fun e=>some (S1 e))
theorem zyN(O:Orc)(a0:DV):pF O an0 155 [S1 a0]=zxw O a0:=by kernel_rfl
def zxv(O:Orc)(c a b:DV):Option DA:=b1 (O 186 [S1 c,SA [a,b]]) fun d=>za (zg .geq d (I6 0)) fun e=>some (S1 e)
theorem zyM(O:Orc)(a0 a b:DV):pF O an0 156 [S1 a0,SA [a,b]]=zxv O a0 a b:=by kernel_rfl
def zu8:Nat→Option LA:=fun i=>match i with|0=>some ⟨[.slot 8],[],[],[],[],[],[.slot 4],[],[]⟩|_=>none
def zgo(e f a b:DV)(c:List DV)(_k:List OC):Option PX:=za (zg .lss (zq c 0) e) fun g=>ifB g (za (xL 2 f (zq c 0)) fun d=>za (znc [1,1] [a,b] [atD d 0,atD d 1]) fun h=>ifB (.bool h) (some (.ret,[zq c 0],[])) (za (zg .add (zq c 0) (I6 1)) fun j=>some (.normal,[j],[]))) (some (.exit 0,[],[]))
def zxu(_O:Orc)(c a b:DV):Option DA:=za (y7 c) fun e=>yS (zP (zgo e c a b) [I6 0] []) (fun f _d _g=>bif Nat.beq f 0 then (some (S1 (I6 (-1)))) else(none)) (fun d _g=>some (S1 (zq d 0)))
theorem zyK(O:Orc)(a0 a b:DV):pF O zu8 186 [S1 a0,SA [a,b]]=zxu O a0 a b:=by kernel_rfl
def anT(g:Nat):Nat→Option LA:=match g with
 |4=>an4
 |6=>an6
 |7=>an7
 |14=>zCe
 |15=>zCd
 |16=>zCc
 |17=>zCb
 |18=>zCa
 |19=>zB9
 |25=>zyk
 |27=>zyj
 |28=>zyi
 |32=>zB8
 |33=>zB7
 |34=>zB6
 |37=>zB5
 |56=>zyg
 |59=>zyf
 |60=>zye
 |66=>zB4
 |86=>zyd
 |88=>zyc
 |94=>zyb
 |126=>zvc
 |127=>zvb
 |128=>zva
 |154=>zu9
 |186=>zu8
 |_=>an0
def zx8(g:Nat):Nat→List PA→Nat→Nat→Option LA:=match g with
 |35=>zBG
 |_=>zya
end Go.Proofs.Tryz.Kn
end
section
namespace Go.Proofs.Tryz.Kn
open Go Go.CE Go.PE
theorem ztJ{sums:List CE.Sum}:zsK zkQ redI (fun n=>zF (zI prog) (cFs (yA prog)) sums redI.s n):=by intro N g g' l l' vs e;cases e
end Go.Proofs.Tryz.Kn
end
noncomputable section
namespace Go.Proofs.Tryz.Kn
open Go Go.CE Go.PE
def tzF:Nat→Nat→Nat
 |0,_=>0
 |n+1,x=>bif Nat.beq (x % 2) 1 then 0 else tzF n (x / 2)+1
abbrev tzN(x:Nat):Nat:=tzF 64 x
theorem zdJ:∀n x:Nat,0<x→x<2^n→∃m,x=2^tzF n x*(2*m+1)∧tzF n x<n
 |0,x,h1,h2=>by simp at h2;omega
 |n+1,x,h1,h2=>by
  unfold tzF;by_cases h:x % 2=1
  ·rw[h];exact⟨x / 2,by simp;omega,by simp⟩
  ·have hb:Nat.beq (x % 2) 1=false:=by
    rw[Bool.eq_false_iff];exact fun e=>h (Lz1 e)
   rw[hb];obtain⟨m,g1,g2⟩:=zdJ n (x / 2) (by omega) (by rw[Nat.pow_succ]at h2;omega);refine⟨m,?_,by simp only[Yzb];omega⟩;simp only[Yzb,Nat.pow_succ];rw[Nat.mul_comm (2^_) 2,Nat.mul_assoc,←g1];omega
theorem zro(m k:Nat):(2*m+1).testBit (k+1)=(2*m).testBit (k+1):=by
 rw[Nat.testBit_succ,Nat.testBit_succ]
 congr 1
 omega
theorem zo9(t m i:Nat):(2^t*(2*m+1)).testBit i=(decide (t≤i)&&(2*m+1).testBit (i-t))∧(2^t*(2*m+1)-1).testBit i=if i<t then true else(2*m).testBit (i-t):=by
 refine⟨by rw[Nat.testBit_two_pow_mul],?_⟩;have hp:0<2^t:=Nat.two_pow_pos t;rw[show 2^t*(2*m+1)-1=2^t*(2*m)+(2^t-1) by rw[Nat.mul_add];omega];rw[Nat.testBit_two_pow_mul_add _ (by omega)];by_cases h:i<t
 ·rw[Yzd h,Yzd h,Nat.testBit_two_pow_sub_one];simp[h]
 ·rw[Yzc h,Yzc h]
theorem zrE(t m i:Nat):((2^t*(2*m+1)).testBit i && !(2^t*(2*m+1)-1).testBit i)=decide (i=t):=by
 obtain⟨a,b⟩:=zo9 t m i;rw[a,b];by_cases h:i<t
 ·simp[h,Nat.ne_of_lt h]
 ·rw[Yzc h];by_cases h2:i=t
  ·subst h2;simp
  ·obtain⟨k,rfl⟩:∃k,i=t+(k+1):=⟨i-t-1,by omega⟩;rw[show t+(k+1)-t=k+1 by omega,zro];simp
theorem zAt{x:Nat}(h:0<x)(h64:x<2^64)(i:Nat):(x &&& (x-1)).testBit i=(x.testBit i && !decide (i=tzN x)):=by
 obtain⟨m,e,_⟩:=zdJ 64 x h h64;have:=zrE (tzN x) m i;rw[←e]at this;rw[Nat.testBit_and];generalize x.testBit i=a at *;generalize (x-1).testBit i=b at *;generalize decide (i=tzN x)=c at *
 revert this
 cases a<;>cases b<;>cases c<;>simp
theorem zA4{x:Nat}(h:0<x)(h64:x<2^64):x.testBit (tzN x)=true:=by obtain⟨m,e,_⟩:=zdJ 64 x h h64;have:=zrE (tzN x) m (tzN x);rw[←e]at this;simp only[decide_true,LzC]at this;exact this.1
theorem zAX{x:Nat}(h:0<x)(h64:x<2^64){i:Nat}(hi:i<tzN x):x.testBit i=false:=by obtain⟨m,e,_⟩:=zdJ 64 x h h64;have:=(zo9 (tzN x) m i).1;rw[←e]at this;rw[this];simp;omega
theorem zrw{x:Nat}(h:0<x)(h64:x<2^64):x &&& (2^64-x)=2^tzN x:=by
 obtain⟨m,e,ht⟩:=zdJ 64 x h h64;refine Nat.eq_of_testBit_eq fun i=>?_;have g:=zrE (tzN x) m i;rw[←e]at g;rw[Nat.testBit_and,Nat.testBit_two_pow];have g2:(2^64-x).testBit i=(decide (i<64) && !(x-1).testBit i):=by have:=Nat.testBit_two_pow_sub_succ (n:=64) (x:=x-1) (by omega) i;rw[show x-1+1=x by omega]at this;exact this
 rw[g2];by_cases hi:i<64
 ·simp only[hi,decide_true,Yyc];rw[g];simp[eq_comm]
 ·have:x.testBit i=false:=Nat.testBit_lt_two_pow (Lz9 h64 (Nat.pow_le_pow_right (by decide) (by omega)));rw[this];have hne:¬tzN x=i:=by show ¬tzF 64 x=i;omega
  simp[hne]
def tzT(v5:Zb)(h6:Za):Res:=
 bindR (znW zpv v5 (.s (.one (.int .u64 (.ofNat 285870213051353865)))) h6) fun v7 h8=>
 bindR (zcN zeH v7 (.s (.one (.int .u64 (.ofNat 58)))) h8) fun v9 h10=>
 bindR (zbk 64 1 (.s (.one (.gptr 0 0))) v9 h10) fun v11 h12=>
 bindR (zjy none v11 h12) fun v13 h14=>
 bindR (zjz .i64 v13 h14) fun v15 h16=>
 zce h16 (zf3 (zq5 v15) (some []))
theorem zyX(call:zc)(f:Nat)(a0:Zb)(h0:Za):zkm Tryz.prog 101 call f [a0] h0 =
 bindR (znW zvI a0 (.s (.one (.int .u64 (.ofNat 0)))) h0) fun v1 h2=>
 ifK v1
 (zce h2 (zf3 (zq5 (.s (.one (.int .i64 (.ofNat 64))))) (some [])))
 (bindR (zsR a0 h2) fun v3 h4=>
 bindR (znW zsr a0 v3 h4) fun v5 h6=>tzT v5 h6):=by kernel_rfl
def tzI(t:Nat):Nat:=(2^t*285870213051353865) % 18446744073709551616 / 288230376151711744
def isT(t:Nat):Option Zc→Bool
 |some (.int .u8 (.ofNat n))=>Nat.beq n t
 |_=>false
theorem zuv{t:Nat}:∀{c:Option Zc},isT t c=true→c=some (.int .u8 (t:Int))
 |some (.int .u8 (.ofNat n)),h=>by rw[←Lz1 h];rfl
theorem zqF:((List.range 64).all fun t=>Nat.ble (tzI t+1) 64&&isT t (zak 0 (tzI t)))=true:=by kernel_rfl
theorem zys(x y:Int)(h:Za):znW zvI (.s (.one (.int .u64 x))) (.s (.one (.int .u64 y))) h=some (.s (.one (.bool (eqI x y))),h):=(rfl)
theorem zvR(x:Int)(h:Za):zsR (.s (.one (.int .u64 x))) h=some (.s (.one (.int .u64 (xl .u64 (Int.sub 0 x)))),h):=(rfl)
theorem zvT(x y:Int)(h:Za):znW zsr (.s (.one (.int .u64 x))) (.s (.one (.int .u64 y))) h=some (.s (.one (.int .u64 (IntKind.wrap .u64 (BitVec.ofInt IntKind.u64.bits x &&& BitVec.ofInt IntKind.u64.bits y).toNat))),h):=(rfl)
theorem zvS(x y:Int)(h:Za):znW zpv (.s (.one (.int .u64 x))) (.s (.one (.int .u64 y))) h=some (.s (.one (.int .u64 (xl .u64 (x*y)))),h):=(rfl)
theorem zvQ(x:Int)(h:Za):zcN zeH (.s (.one (.int .u64 x))) (.s (.one (.int .u64 (.ofNat 58)))) h=some (.s (.one (.int .u64 (Int.fdiv x (2^58)))),h):=(rfl)
theorem zyr(n:Nat)(h:Za):zbk 64 1 (.s (.one (.gptr 0 0))) (.s (.one (.int .u64 (n:Int)))) h=bif Nat.ble (n+1) 64 then some (.s (.one (.gptr 0 (Nat.add 0 (Nat.mul n 1)))),h) else none:=(rfl)
theorem zyq(n:Nat)(h:Za):zjy none (.s (.one (.gptr 0 n))) h=qa h (zak 0 n):=(rfl)
theorem zyt(k:IntKind)(n:Int)(h:Za):zjz .i64 (.s (.one (.int k n))) h=some (.s (.one (.int .i64 (xl .i64 n))),h):=(rfl)
theorem jG{β:Type}{m:Res}{v:Zb}{h:Za}(e:m=some (v,h))(k:Zb→Za→Option β):bindR m k=k v h:=by rw[e];rfl
theorem zw6{β:Type}(a b:Option β):ifK (.s (.one (.bool false))) a b=b:=(rfl)
theorem zyI(c:Zc)(h:Za):zce h (zf3 (zq5 (.s (.one c))) (some []))=some (.s (.one c),h):=(rfl)
theorem ztH(c:Zc)(h:Za):qa h (some c)=some (.s (.one c),h):=(rfl)
theorem zvZ(t:Nat):xl .u64 (((2^t:Nat):Int)*(.ofNat 285870213051353865))=(((2^t*285870213051353865) % 18446744073709551616:Nat):Int):=by rw[zkU,Int.natCast_emod,Int.natCast_mul];generalize ((2^t:Nat):Int)=a;rfl
theorem zvY(a:Nat):Int.fdiv (a:Int) (2^58)=((a / 288230376151711744:Nat):Int):=by rw[Int.fdiv_eq_ediv_of_nonneg _ (by decide)];omega
theorem zyw(n:Nat)(h:Za)(hb:Nat.ble (n+1) 64=true):zbk 64 1 (.s (.one (.gptr 0 0))) (.s (.one (.int .u64 (n:Int)))) h=some (.s (.one (.gptr 0 n)),h):=by rw[zyr,hb];simp
theorem zqC{a b n t:Nat}(h:Za)(e1:xl .u64 ((a:Int)*(.ofNat 285870213051353865))=(b:Int))(e2:Int.fdiv (b:Int) (2^58)=(n:Int))(hb:Nat.ble (n+1) 64=true)(hg:isT t (zak 0 n)=true)(ht:t<64):tzT (.s (.one (.int .u64 (a:Int)))) h=some (.s (.one (.int .i64 (t:Int))),h):=by unfold tzT;refine (jG (v:=.s (.one (.int .u64 (b:Int)))) (h:=h) (by rw[zvS,e1]) _).trans ?_;refine (jG (v:=.s (.one (.int .u64 (n:Int)))) (h:=h) (by rw[zvQ,e2]) _).trans ?_;refine (jG (zyw n h hb) _).trans ?_;refine (jG (v:=.s (.one (.int .u8 (t:Int)))) (h:=h) (by rw[zyq,zuv hg,ztH]) _).trans ?_;refine (jG (v:=.s (.one (.int .i64 (t:Int)))) (h:=h) (by rw[zyt,wrap64 (by omega) (by omega)]) _).trans ?_;exact zyI _ h
theorem zyv(h:Za){t:Nat}(ht:t<64):tzT (.s (.one (.int .u64 ((2^t:Nat):Int)))) h=some (.s (.one (.int .i64 (t:Int))),h):=by have ha:=YzJ.1 zqF t (List.mem_range.2 ht);simp only[LzC]at ha;exact zqC h (zvZ t) (zvY _) ha.1 ha.2 ht
theorem zwy{x:Nat}(h:0<x)(h64:x<2^64):xl .u64 (Int.sub 0 (x:Int))=((2^64-x:Nat):Int):=by show xl .u64 (0-(x:Int))=_;rw[zkU];omega
theorem zxr{x y:Nat}(hx:x<2^64)(hy:y<2^64):IntKind.wrap .u64 (BitVec.ofInt IntKind.u64.bits (x:Int) &&& BitVec.ofInt IntKind.u64.bits (y:Int)).toNat=((x &&& y:Nat):Int):=by
 have e:(BitVec.ofInt IntKind.u64.bits (x:Int) &&& BitVec.ofInt IntKind.u64.bits (y:Int)).toNat=x &&& y:=by show (BitVec.ofInt 64 (x:Int) &&& BitVec.ofInt 64 (y:Int)).toNat=x &&& y;rw[BitVec.toNat_and,BitVec.ofInt_natCast,BitVec.ofInt_natCast,BitVec.toNat_ofNat,BitVec.toNat_ofNat,Nat.mod_eq_of_lt hx,Nat.mod_eq_of_lt hy]
 rw[e];have:x &&& y≤x:=Nat.and_le_left;rw[←ww,zkU];omega
theorem zqD{x y z t:Nat}{call:zc}{f:Nat}(h:Za)(e1:eqI (x:Int) (.ofNat 0)=false)(e2:xl .u64 (Int.sub 0 (x:Int))=(y:Int))(e3:IntKind.wrap .u64 (BitVec.ofInt IntKind.u64.bits (x:Int) &&& BitVec.ofInt IntKind.u64.bits (y:Int)).toNat=(z:Int))
  (e4:tzT (.s (.one (.int .u64 (z:Int)))) h=some (.s (.one (.int .i64 (t:Int))),h)):zkm Tryz.prog 101 call f [.s (.one (.int .u64 (x:Int)))] h=some (.s (.one (.int .i64 (t:Int))),h):=by
 rw[zyX];refine (jG (v:=.s (.one (.bool false))) (h:=h) (by rw[zys,e1]) _).trans ?_;refine (zw6 _ _).trans ?_;refine (jG (v:=.s (.one (.int .u64 (y:Int)))) (h:=h) (by rw[zvR,e2]) _).trans ?_;refine (jG (v:=.s (.one (.int .u64 (z:Int)))) (h:=h) (by rw[zvT,e3]) _).trans ?_;exact e4
theorem zqE{call:zc}{f:Nat}{h:Za}{x:Nat}(h0:0<x)(h64:x<2^64):zkm Tryz.prog 101 call f [.s (.one (.int .u64 (x:Int)))] h=some (.s (.one (.int .i64 (tzN x:Int))),h):=by
 have e1:eqI (x:Int) (.ofNat 0)=false:=by
  rw[uQ];have:¬(x:Int)=Int.ofNat 0:=by intro e;have:(x:Int)=0:=e;omega
  simp only[beq_eq_false_iff_ne,ne_eq,this,not_false_eq_true]
 have ht:tzN x<64:=by obtain⟨m,e,ht⟩:=zdJ 64 x h0 h64;exact ht
 have e3:=zxr h64 (y:=2^64-x) (by omega);rw[zrw h0 h64]at e3;exact zqD h e1 (zwy h0 h64) e3 (zyv h ht)
def tzB:List DA→Option DA
 | [.s (.one (.int .u64 (.ofNat x)))]=>bif Nat.ble 1 x&&Nat.ble x 18446744073709551615 then some (S1 (I6 (tzN x:Int))) else none
 |_=>none
theorem zBq{x:Nat}(h0:0<x)(h64:x<2^64):tzB [S1 (U64 (x:Int))]=some (S1 (I6 (tzN x:Int))):=by show (bif Nat.ble 1 x&&Nat.ble x 18446744073709551615 then some (S1 (I6 (tzN x:Int))) else none)=_;rw[Yzf (by omega),Yzf (by omega)];rfl
theorem zte{sums:List CE.Sum}{srt:Nat→Option Srt}(hs:sums.all (fun s=>!Nat.beq 101 s.g)=true)(hr:srt 101=none){args:List DA}{res:DA}(e:tzB args=some res):znV (fun n=>zF (zI Tryz.prog) (cFs (yA Tryz.prog)) sums srt n) 101 args res:=by
 intro fz h vs hw hfz H;have hf:xw 101 vs h sums=none:=by
  clear H
  induction sums with
  |nil=>rfl
  |cons s l ih=>simp only[List.all_cons,LzC,Yzt]at hs;unfold xw;rw[hs.1];exact ih hs.2
 refine Ev.call hr hf ?_;unfold tzB at e;split at e
 ·rename_i x;cases hb:(Nat.ble 1 x&&Nat.ble x 18446744073709551615) with
  |false=>rw[hb]at e;cases e
  |true=>
   rw[hb]at e;cases e;simp only[LzC,Nat.ble_eq]at hb;cases vs with
   |nil=>exact H.elim
   |cons v vs=>
    obtain⟨H1,H2⟩:=H;cases vs with
    |cons _ _=>exact H2.elim
    |nil=>
     obtain⟨w,rfl,H3⟩:=H1.inv;cases w with
     |agg _=>exact H3.elim
     |one c=>have H4:Rep fz h c (.int .u64 (.ofNat x)):=H3;cases H4;have hk:∀n,zkm Tryz.prog 101 (zF (zI Tryz.prog) (cFs (yA Tryz.prog)) sums srt n) n [.s (.one (.int .u64 (.ofNat x)))] h=some (.s (.one (.int .i64 (tzN x:Int))),h):=fun n=>zqE (by omega) (by omega);simp only[hk];exact Ev.some ⟨hw,.refl h,Rep.int _ _⟩
 ·cases e
end Go.Proofs.Tryz.Kn
end
noncomputable section
namespace Go.Proofs.Tryz.Kn
open Go Go.CE Go.PE
def zr9:List CE.Sum:=[kSum28]
theorem zpg:∀s∈zr9,zaD Tryz.prog s:=by
 intro s hs;simp only[zr9,Yz7,Yz8,or_false]at hs;rcases hs with rfl
 ·exact zmN
def bSums:List CE.Sum:=zr9++shSums
theorem zpE:∀s∈bSums,zaD Tryz.prog s:=zpC zpg zll
def bIds:List Nat:=[5,120,121,122,123,101]
theorem znD:bSums.all (fun s=>bIds.any (Nat.beq s.g))=true:=by kernel_rfl
theorem zcz{g:Nat}(h:bIds.any (Nat.beq g)=false):∀s∈bSums,Nat.beq g s.g=false:=by
 intro s hs;have h1:=YzJ.1 znD s hs;cases hb:Nat.beq g s.g with
 |false=>rfl
 |true=>rw[←Lz1 hb,h]at h1;cases h1
theorem zkL{g:Nat}(h:bIds.any (Nat.beq g)=false):bSums.all (fun s=>!Nat.beq g s.g)=true:=
 YzJ.2 fun s hs=>by rw[zcz h s hs];rfl
def B:Orc:=fun g args=>bif Nat.beq g 101 then tzB args else zsS bIds bSums g args
theorem zvi{g:Nat}(h:bIds.any (Nat.beq g)=false)(args:List DA):B g args=none:=by
 have hz:Nat.beq g 101=false:=by
  cases hb:Nat.beq g 101 with
  |false=>rfl
  |true=>rw[Lz1 hb]at h;cases h
 unfold B;rw[hz];unfold zsS;rw[h];rfl
theorem zzQ:uN B (fun n=>zF (zI prog) (cFs (yA prog)) bSums redI.s n):=by
 intro g args res e;unfold B at e;cases hb:Nat.beq g 101 with
 |false=>rw[hb]at e;exact zqN (by kernel_rfl) g args res e
 |true=>rw[hb]at e;cases Lz1 hb;exact zte (by kernel_rfl) rfl e
theorem zCi(k:Nat){x:Nat}(h0:0<x)(h64:x<2^64):deep prog bSums B anT zkQ zx8 redI 5 k 101 [S1 (U64 (x:Int))]=some (S1 (I6 (tzN x:Int))):=zf0 (zBq h0 h64)
theorem zuA{g:Nat}(h:([120,121,122,123]:List Nat).any (Nat.beq g)=true):bIds.any (Nat.beq g)=true:=by obtain⟨n,hn,e⟩:=List.any_eq_true.1 h;refine List.any_eq_true.2 ⟨n,?_,e⟩;simp only[bIds,Yz7,Yz8,or_false]at hn ⊢;omega
theorem zzR{g:Nat}(h:([120,121,122,123]:List Nat).any (Nat.beq g)=true)(args:List DA):B g args=zsS bIds bSums g args:=by
 have e:Nat.beq g 101=false:=by
  cases hb:Nat.beq g 101 with
  |false=>rfl
  |true=>rw[Lz1 hb]at h;cases h
 unfold B;rw[e];rfl
def D(k:Nat):Orc:=deep prog bSums B anT zkQ zx8 redI 5 k
theorem dF{k g:Nat}{args:List DA}{x:Option DA}(h:bIds.any (Nat.beq g)=false)(hr:(redI.s g).isNone=true)(e:zrh prog (D k) zkQ (inl prog (D k) zkQ (zx8 g) redI 5) (anT g) g args=x):D (k+1) g args=x:=(znl (zvi h _) (zkL h) hr).trans e
theorem zok:∀g,zkQ g=true→∀s∈bSums,Nat.beq g s.g=false:=by
 intro g hg;refine zcz ?_;unfold zkQ at hg;split at hg
 ·rfl
 ·rfl
 ·rfl
 ·rfl
 ·rfl
 ·rfl
 ·rfl
 ·cases hg
theorem zqL:∀g,zkQ g=true→Nat.ble zgB g=false:=by
 intro g hg;unfold zkQ at hg;split at hg
 ·rfl
 ·rfl
 ·rfl
 ·rfl
 ·rfl
 ·rfl
 ·rfl
 ·cases hg
theorem zzE(k:Nat):uN (D k) (fun n=>zF (zI prog) (cFs (yA prog)) bSums redI.s n):=zhA ztJ zok zqL zzQ k
theorem zqQ:∀g t,redI.s g=some t→zpH prog g t:=by intro g t e;cases e
theorem D5(k:Nat):D k 5 []=some (S1 (.bool true)):=zf0 (by kernel_rfl)
theorem D4(k:Nat)(a b c d f h j m r s w:DV):D (k+1) 4 [SA [a,b,c],SA [d,f,h,j,m],SA [r,s,w]]=P4 (D k) a b c d f h j m r s w:=dF rfl rfl (p4 ..)
theorem D6(k:Nat)(a b c:DV):D (k+1) 6 [SA [a,b,c]]=P6 (D k) a b c:=dF rfl rfl (p6 ..)
theorem D7(k:Nat)(a b c:DV):D (k+1) 7 [SA [a,b,c]]=P7 (D k) a b c:=dF rfl rfl (p7 ..)
theorem D14(k:Nat)(a b c d f h j m r:DV):D (k+1) 14 [SA [a,b,c,d],SA [f,h,j,m,r]]=P14 (D k) a b c d f h j m r:=dF rfl rfl (p14 ..)
theorem D15(k:Nat)(a b c d f h j:DV):D (k+1) 15 [SA [a,b,c,d],SA [f,h,j]]=P15 (D k) a b c d f h j:=dF rfl rfl (p15 ..)
theorem D16(k:Nat)(a b c d f h j a2:DV):D (k+1) 16 [SA [a,b,c,d],SA [f,h,j],S1 a2]=P16 (D k) a b c d f h j a2:=dF rfl rfl (p16 ..)
theorem D17(k:Nat)(a0 a1:DV):D (k+1) 17 [S1 a0,S1 a1]=P17 (D k) a0 a1:=dF rfl rfl (p17 ..)
theorem D18(k:Nat)(a b c d f h j a2:DV):D (k+1) 18 [SA [a,b,c,d],SA [f,h,j],S1 a2]=P18 (D k) a b c d f h j a2:=dF rfl rfl (p18 ..)
theorem D19(k:Nat)(a b c d a1:DV):D (k+1) 19 [SA [a,b,c,d],S1 a1]=P19 (D k) a b c d a1:=dF rfl rfl (p19 ..)
theorem D25(k:Nat)(a b c d f h j m r a1:DV):D (k+1) 25 [SA [a,b,c,d,f,h,j,m,r],S1 a1]=P25 (D k) a b c d f h j m r a1:=dF rfl rfl (p25 ..)
theorem D26(k:Nat)(a0 a b c d f h a3:DV):D (k+1) 26 [S1 a0,SA [a,b],SA [c,d,f,h],S1 a3]=P26 (D k) a0 a b c d f h a3:=dF rfl rfl (p26 ..)
theorem D27(k:Nat)(a b c d:DV):D (k+1) 27 [SA [a,b,c,d]]=P27 (D k) a b c d:=dF rfl rfl (p27 ..)
theorem D28(k:Nat)(a b c d:DV):D (k+1) 28 [SA [a,b,c,d]]=P28 (D k) a b c d:=dF rfl rfl (p28 ..)
theorem D32(k:Nat)(a0:DV):D (k+1) 32 [S1 a0]=P32 (D k) a0:=dF rfl rfl (p32 ..)
theorem D33(k:Nat)(a b c d f h j:DV):D (k+1) 33 [SA [a,b,c,d],SA [f,h,j]]=P33 (D k) a b c d f h j:=dF rfl rfl (p33 ..)
theorem D34(k:Nat)(a b c d a1:DV):D (k+1) 34 [SA [a,b,c,d],S1 a1]=P34 (D k) a b c d a1:=dF rfl rfl (p34 ..)
theorem D35(k:Nat)(a b:DV):D (k+1) 35 [SA [a,b]]=P35 (D k) a b:=dF rfl rfl (p35 ..)
theorem D36(k:Nat)(a b a1:DV):D (k+1) 36 [SA [a,b],S1 a1]=P36 (D k) a b a1:=dF rfl rfl (p36 ..)
theorem D37(k:Nat)(a0:DV):D (k+1) 37 [S1 a0]=P37 (D k) a0:=dF rfl rfl (p37 ..)
theorem D50(k:Nat)(a0 a1:DV):D (k+1) 50 [S1 a0,S1 a1]=P50 (D k) a0 a1:=dF rfl rfl (p50 ..)
theorem D53(k:Nat)(a0:DV):D (k+1) 53 [S1 a0]=P53 (D k) a0:=dF rfl rfl (p53 ..)
theorem D54(k:Nat)(a0:DV):D (k+1) 54 [S1 a0]=P54 (D k) a0:=dF rfl rfl (p54 ..)
theorem D55(k:Nat)(a b c d:DV):D (k+1) 55 [SA [a,b],SA [c,d]]=P55 (D k) a b c d:=dF rfl rfl (p55 ..)
theorem D56(k:Nat)(a0:DV):D (k+1) 56 [S1 a0]=P56 (D k) a0:=dF rfl rfl (p56 ..)
theorem D57(k:Nat)(a b c d f h:DV):D (k+1) 57 [SA [a,b,c,d,f,h]]=P57 (D k) a b c d f h:=dF rfl rfl (p57 ..)
theorem D59(k:Nat)(a b c d f h j m r:DV):D (k+1) 59 [SA [a,b,c,d],SA [f,h,j,m,r]]=P59 (D k) a b c d f h j m r:=dF rfl rfl (p59 ..)
theorem D60(k:Nat)(a0 a1:DV):D (k+1) 60 [S1 a0,S1 a1]=P60 (D k) a0 a1:=dF rfl rfl (p60 ..)
theorem D62(k:Nat)(a0:DV):D (k+1) 62 [S1 a0]=P62 (D k) a0:=dF rfl rfl (p62 ..)
theorem D65(k:Nat)(a b a1:DV):D (k+1) 65 [SA [a,b],S1 a1]=P65 (D k) a b a1:=dF rfl rfl (p65 ..)
theorem D66(k:Nat)(a b:DV):D (k+1) 66 [SA [a,b]]=P66 (D k) a b:=dF rfl rfl (p66 ..)
theorem D67(k:Nat)(a b c d:DV):D (k+1) 67 [SA [a,b],SA [c,d]]=P67 (D k) a b c d:=dF rfl rfl (p67 ..)
theorem D86(k:Nat)(a0 a1:DV):D (k+1) 86 [S1 a0,S1 a1]=P86 (D k) a0 a1:=dF rfl rfl (p86 ..)
theorem D87(k:Nat)(a b c d:DV):D (k+1) 87 [SA [a,b],SA [c,d]]=P87 (D k) a b c d:=dF rfl rfl (p87 ..)
theorem D88(k:Nat)(a b c d:DV):D (k+1) 88 [SA [a,b],SA [c,d]]=P88 (D k) a b c d:=dF rfl rfl (p88 ..)
theorem D89(k:Nat)(a0:DV):D (k+1) 89 [S1 a0]=P89 (D k) a0:=dF rfl rfl (p89 ..)
theorem D90(k:Nat)(a b:DV):D (k+1) 90 [SA [a,b]]=P90 (D k) a b:=dF rfl rfl (p90 ..)
theorem D91(k:Nat)(a0:DV):D (k+1) 91 [S1 a0]=P91 (D k) a0:=dF rfl rfl (p91 ..)
theorem D92(k:Nat)(a0:DV):D (k+1) 92 [S1 a0]=P92 (D k) a0:=dF rfl rfl (p92 ..)
theorem D93(k:Nat)(a b:DV):D (k+1) 93 [SA [a,b]]=P93 (D k) a b:=dF rfl rfl (p93 ..)
theorem D94(k:Nat)(a b c d f h j:DV):D (k+1) 94 [SA [a,b,c],SA [d,f,h,j]]=P94 (D k) a b c d f h j:=dF rfl rfl (p94 ..)
theorem D95(k:Nat)(a0 a1:DV):D (k+1) 95 [S1 a0,S1 a1]=P95 (D k) a0 a1:=dF rfl rfl (p95 ..)
theorem D96(k:Nat)(a b c d f h j m r s:DV):D (k+1) 96 [SA [a,b,c,d,f],S1 (.fp [h,j,m,r,s] 0)]=P96 (D k) a b c d f h j m r s:=dF rfl rfl (p96 ..)
theorem D98(k:Nat)(a b c d:DV):D (k+1) 98 [SA [a,b],SA [c,d]]=P98 (D k) a b c d:=dF rfl rfl (p98 ..)
theorem zzP(k:Nat)(a b:DV):D (k+1) 124 [SA [a,b]]=zxD (D k) a b:=dF rfl rfl (zyU ..)
theorem zzO(k:Nat)(a0:DV):D (k+1) 125 [S1 a0]=zxC (D k) a0:=dF rfl rfl (zyT ..)
theorem zzN(k:Nat)(a b c:DV):D (k+1) 126 [SA [a,b,c]]=zxB (D k) a b c:=dF rfl rfl (zyS ..)
theorem zzM(k:Nat)(a b c a1:DV):D (k+1) 127 [SA [a,b,c],S1 a1]=zxA (D k) a b c a1:=dF rfl rfl (zyR ..)
theorem zzL(k:Nat)(a0 a1:DV):D (k+1) 128 [S1 a0,S1 a1]=zxz (D k) a0 a1:=dF rfl rfl (zyQ ..)
theorem zzJ(k:Nat)(a0 a1:DV):D (k+1) 154 [S1 a0,S1 a1]=zxx (D k) a0 a1:=dF rfl rfl (zyO ..)
theorem zzI(k:Nat)(a0:DV):D (k+1) 155 [S1 a0]=zxw (D k) a0:=dF rfl rfl (zyN ..)
theorem zzH(k:Nat)(a0 a b:DV):D (k+1) 156 [S1 a0,SA [a,b]]=zxv (D k) a0 a b:=dF rfl rfl (zyM ..)
theorem zzF(k:Nat)(a0 a b:DV):D (k+1) 186 [S1 a0,SA [a,b]]=zxu (D k) a0 a b:=dF rfl rfl (zyK ..)
end Go.Proofs.Tryz.Kn
end
section
namespace Go.Proofs.Tryz.Kn
open Go Go.CE Go.PE
theorem zjp:∀(l:List UInt8) (i:Nat),zhN l i=(l[i]?).map fun c=>U8 (c.toNat:Int)
 | [],i=>by simp[zhN]
 |c::l,0=>rfl
 |c::l,i+1=>by show zhN l i=_;rw[zjp l i];simp
theorem zfu(s:ByteArray)(k:IntKind)(i:Nat):zaH (.str s) (.int k (i:Int))=(s.data.toList[i]?).map fun c=>U8 (c.toNat:Int):=zjp _ _
theorem zdQ(s:ByteArray):s.size=s.data.toList.length:=(Array.length_toList (xs:=s.data)).symm
theorem zim(a b:ByteArray):uZ .eql (.str a) (.str b)=some (.bool (a.data.toList==b.data.toList)):=rfl
def zbZ(n:Int):Bool:=(decide (65≤n)&&decide (n≤90))||(decide (97≤n)&&decide (n≤122))
theorem t89(k:Nat)(n:Int):D (k+1) 89 [S1 (U8 n)]=some (S1 (Bo (zbZ n))):=by rw[D89];unfold P89 zbZ;by_cases h1:65≤n<;>by_cases h2:n≤90<;>by_cases h3:97≤n<;>by_cases h4:n≤122<;>simp[h1,h2,h3,h4]
def zkI(n:Int):Bool:=zbZ n||(decide (48≤n)&&decide (n≤57))||decide (n=95)
def isName(s:ByteArray):Bool:=
 match s.data.toList with
 | []=>false
 |c::l=>decide (l.length≤31)&&zbZ (c.toNat:Int)&&l.all fun c=>zkI (c.toNat:Int)
theorem l56(k:Nat)(s:ByteArray)(hs:s.data.toList.length≤1000):∀(r:List UInt8) (i:Nat),s.data.toList.drop i=r→
  zP (znM (D (k+1)) (.str s)) [I6 (i:Int)] []=some (if r.all (fun c=>zkI (c.toNat:Int)) then(.exit 0,[],[]) else(.ret,[Bo false],[])):=by
 intro r
 induction r with
 |nil=>grind[zu,zV,znM,zA,zbC,zb,zl,zdQ,xP,zp]
 |cons c r ih=>
  intro i h;have h1:=yp h;have h2:(i:Int)<(s.data.toList.length:Int):=by omega
  have ea:zg .add (I6 (i:Int)) (I6 1)=some (I6 ((i+1:Nat):Int)):=yu;have ix:zaH (.str s) (I6 (i:Int))=some (U8 (c.toNat:Int)):=by rw[zfu,z6 h];rfl
  have body:znM (D (k+1)) (.str s) [I6 (i:Int)] []=some (if zkI (c.toNat:Int) then(.normal,[I6 ((i+1:Nat):Int)],[]) else(.ret,[Bo false],[])):=by
   simp only[znM,zA,zbC,zb,zl,zp,zdQ,jP h1,if_true,ix,t89,yj,xn,ea,yq,yD]
   grind[zkI]
  cases hc:zkI (c.toNat:Int) with
  |true=>rw[hc]at body;rw[zJ body,ih (i+1) (zN h)];simp[hc]
  |false=>grind[zE]
theorem t56(k:Nat)(s:ByteArray):D (k+2) 56 [S1 (St s)]=some (S1 (Bo (isName s))):=by
 rw[D56];unfold P56 isName;simp only[zim,zb,zp,zbC,yD,zdQ];cases hl:s.data.toList with
 |nil=>rfl
 |cons c l=>
  have ix:zaH (.str s) (I6 0)=some (U8 (c.toNat:Int)):=by grind[zfu]
  simp only[ix,zb,t89,yj,xn,zp];rw[show ((c::l:List UInt8)==(ByteArray.mk #[]).data.toList)=false from rfl];by_cases h1:l.length≤31
  ·have h2:¬(32<((c::l).length:Int)):=by grind
   simp only[h2,h1,decide_true,decide_false,Yyc,Yzi,if_false];cases zbZ (c.toNat:Int) with
   |false=>rfl
   |true=>have:=l56 k s (by grind) l 1 (by grind);simp only[Yzy,Yzi,if_false,Yyc];rw[show (I6 1:DV)=I6 ((1:Nat):Int) from rfl,this];cases l.all fun c=>zkI (c.toNat:Int)<;>rfl
  ·grind
def right(a b:Int):Int:=if a<0 then 3 else if 127<b then 3 else if b<a then 23 else 0
theorem t93(k:Nat)(a b:Int):D (k+1) 93 [SA [I6 a,I6 b]]=some (S1 (I6 (right a b))):=by rw[D93];unfold P93 right;by_cases h1:a<0<;>by_cases h2:127<b<;>by_cases h3:b<a<;>simp[h1,h2,h3]
theorem zy4(_O:Orc):∀(b a:Nat),zP (zjw) [U64 (b:Int),U64 (a:Int)] []=some (.exit 0,[U64 ((Nat.gcd b a:Nat):Int)],[]):=by
 intro b
 induction b using Nat.strongRecOn with
 |ind b ih=>
  intro a;by_cases hb:0<b
  ·have hz:(b:Int)≠0:=by omega
   have h0:(0:Int)<(b:Int):=by omega
   rw[zJ (L':=[U64 ((a % b:Nat):Int),U64 (b:Int)]) (M':=[]) (by simp only[zjw,zA,yE,yD,zb,zp,za7 _ _ _ hz,h0,decide_true,if_true];rfl),ih (a % b) (Yz1 _ hb) b,←Nat.gcd_rec]
  ·have:b=0:=by omega
   subst this;exact zu (by simp[zjw])
theorem zyA(k:Nat)(a b:Nat):D (k+1) 154 [S1 (U64 (a:Int)),S1 (U64 (b:Int))]=some (S1 (U64 ((Nat.gcd b a:Nat):Int))):=by rw[zzJ];unfold zxx;rw[zy4 B];rfl
theorem zuV{k:IntKind}{n:Nat}(h:n≤18446744073709551615):y2 .u64 (.int k (n:Int))=some (U64 (n:Int)):=by
 show some (DV.int .u64 (bif Nat.ble n 18446744073709551615 then .ofNat n else IntKind.wrap .u64 (.ofNat n)))=_
 grind[Yzf]
theorem zyz(k:Nat){a:Int}(h1:-1000000≤a)(h2:a≤1000000):D (k+1) 155 [S1 (I6 a)]=some (S1 (U64 (a.natAbs:Int))):=by
 rw[zzI];unfold zxw;by_cases h:a<0
 ·obtain⟨n,rfl⟩:∃n:Nat,a=-(n:Int):=⟨a.natAbs,by omega⟩;have e1:y2 .u64 (I6 (-(n:Int)))=some (U64 (18446744073709551616-(n:Int))):=by
   show some (DV.int .u64 (xl .u64 (-(n:Int))))=_
   grind[zkU]
  have e2:xl .u64 (-(18446744073709551616-(n:Int)))=(n:Int):=by grind[zkU]
  simp_all
 ·obtain⟨n,rfl⟩:∃n:Nat,a=(n:Int):=⟨a.natAbs,by omega⟩;simp only[zl,zb,zp,h,decide_false,Yzi,if_false,zuV (show n≤18446744073709551615 by omega)];simp
def zca(n d:Int):Int:=if d≤0 then 2 else if 1000000<d then 2 else if n < -1000000 then 2 else if 1000000<n then 2 else bif Nat.gcd d.toNat n.natAbs==1 then 0 else 2
theorem zyE(k:Nat)(n d:Int):D (k+2) 124 [SA [I6 n,I6 d]]=some (S1 (I6 (zca n d))):=by
 rw[zzP];unfold zxD zca;simp only[wO,yD,zl,zb,zp,YzA];by_cases h1:d≤0
 ·grind
 by_cases h2:1000000<d
 ·grind
 by_cases h3:n < -1000000
 ·grind
 by_cases h4:1000000<n
 ·grind
 obtain⟨m,rfl⟩:∃m:Nat,d=(m:Int):=⟨d.toNat,by omega⟩;simp only[h1,h2,h3,h4,if_false];rw[zyz k (by omega) (by omega)];simp only[yj,zuV (show m≤18446744073709551615 by omega),zb,zyA,yq,zp,Int.toNat_natCast]
 grind
def uI(n d:Int):Int:=if zca n d≠0 then 2 else if n≤0 then 3 else if 128*d<n then 3 else if 128<d then 4 else 0
theorem t90(k:Nat)(n d:Int):D (k+3) 90 [SA [I6 n,I6 d]]=some (S1 (I6 (uI n d))):=by
 rw[D90];unfold P90 uI;rw[zyE];simp only[yj,yq,zb,zp];by_cases h:zca n d=0
 ·have hd:0<d∧d≤1000000:=by
   grind[zca]
  simp only[h,wO,zb,zp,zg2 (show (-9223372036854775808:Int)≤128*d by omega) (show 128*d≤9223372036854775807 by omega),yD,YzA]
  grind
 ·simp[h]
theorem t91(k:Nat)(n:Int):D (k+1) 91 [S1 (I6 n)]=some (S1 (Bo (decide (-256≤n)&&decide (n≤256)))):=by rw[D91];unfold P91;by_cases h1:-256≤n<;>by_cases h2:n≤256<;>simp[h1,h2]
def wh(n:Int):Bool:=decide (n<0)||decide (1000000<n)
theorem zyD(k:Nat)(n:Int):D (k+1) 125 [S1 (I6 n)]=some (S1 (Bo (wh n))):=by rw[zzO];unfold zxC wh;by_cases h1:n<0<;>by_cases h2:1000000<n<;>simp[h1,h2]
theorem zu7(O:Orc)(g:Nat)(ds:List DA):zkM O (.fn g []) ds=O g ds:=by simp[zkM]
def ug{α:Type}(p:α→Bool):List α→Nat→Option Nat
 | [],_=>none
 |x::l,i=>if p x then some i else ug p l (i+1)
theorem vM{α:Type}(p:α→Bool):∀(l:List α) (i:Nat),(ug p l i).isSome=l.any p
 | [],_=>rfl
 |x::l,i=>by
  simp only[ug,List.any_cons];cases h:p x
  ·simp[vM p l (i+1)]
  ·simp
def found:Option Nat→PX
 |some i=>(.ret,[I6 (i:Int)],[])
 |none=>(.exit 0,[],[])
abbrev enW(n:Int):List DV:=[I6 n]
theorem l86(k:Nat)(w:Sl Int)(hw:w.els.length≤9223372036854775807):∀(r:List Int) (i:Nat),w.els.drop i=r→
  zP (znF (D (k+1)) (I6 (w.els.length:Int)) (enL 1 enW w) (.fn 125 [])) [I6 (i:Int)] []=some (found (ug wh r i)):=by
 intro r
 induction r with
 |nil=>
  intro i h;refine zu ?_
  grind[znF,zA,zl,zb,xP,zV,zp]
 |cons x r ih=>
  intro i h;have h1:=yp h;have ea:zg .add (I6 (i:Int)) (I6 1)=some (I6 ((i+1:Nat):Int)):=yu;have body:znF (D (k+1)) (I6 (w.els.length:Int)) (enL 1 enW w) (.fn 125 []) [I6 (i:Int)] []=some (if wh x then(.ret,[I6 (i:Int)],[]) else(.normal,[I6 ((i+1:Nat):Int)],[])):=by
   simp only[znF,zA,zl,zb,jP h1,zp,if_true,zU h,xc,zu7,zyD,yj,ea]
   grind
  grind[zE,ug,found,zJ,zN]
theorem t86(k:Nat)(w:Sl Int)(hw:w.els.length≤9223372036854775807):D (k+2) 86 [S1 (enL 1 enW w),S1 (.fn 125 [])]=some (S1 (I6 (match ug wh w.els 0 with|some i=>(i:Int)|none=>-1))):=by rw[D86];unfold P86;have:=l86 k w hw w.els 0 rfl;simp only[zx,zb];rw[show (I6 0:DV)=I6 ((0:Nat):Int) from rfl,this];cases ug wh w.els 0<;>rfl
theorem t50(k:Nat)(w:Sl Int)(hw:w.els.length≤9223372036854775807):D (k+3) 50 [S1 (enL 1 enW w),S1 (.fn 125 [])]=some (S1 (Bo (w.els.any wh))):=by rw[D50];unfold P50;rw[t86 k w hw,←vM wh w.els 0];cases ug wh w.els 0<;>simp_all
theorem t92(k:Nat)(w:Sl Int)(hw:w.els.length≤9223372036854775807):D (k+4) 92 [S1 (enL 1 enW w)]=some (S1 (I6 (if w.els.any wh then 3 else 0))):=by rw[D92];unfold P92;rw[t50 k w hw];cases w.els.any wh<;>rfl
structure Zk where
 name:ByteArray
 tone:ByteArray
 num:Int
 den:Int
 first:Int
 wind:Sl Int
def enR(r:Zk):List DV:=[St r.name,St r.tone,I6 r.num,I6 r.den,I6 r.first,enL 1 enW r.wind]
def yR(r:Zk):Int:=
 if !isName r.name then 8 else if !isName r.tone then 8 else if uI r.num r.den≠0 then uI r.num r.den
 else if !(decide (-256≤r.first)&&decide (r.first≤256)) then 3 else if r.wind.els.length=0 then 13 else if 128<r.wind.els.length then 4 else if r.wind.els.any wh then 3 else 0
theorem t57(k:Nat)(r:Zk)(hw:r.wind.els.length≤9223372036854775807):D (k+5) 57 [SA (enR r)]=some (S1 (I6 (yR r))):=by
 unfold enR;rw[D57];unfold P57 yR;simp only[t56,yj,xn,zb,zp];cases isName r.name with
 |false=>rfl
 |true=>
  cases isName r.tone with
  |false=>rfl
  |true=>
   simp only[t90,t91,t92 k r.wind hw,yj,xn,zb,zp,yq,zx,wP,yD,Yzy,Yzi,if_false]
   grind
def wN:List Zk→Int
 | []=>0
 |r::l=>if yR r≠0 then yR r else wN l
def zc3(r:Zk):Prop:=r.wind.els.length≤9223372036854775807
def zn1(id:Nat)(e:Int):PX:=if e≠0 then(.ret,[I6 e],[]) else(.exit id,[],[])
theorem zy7(k:Nat)(l:Sl Zk)(hl:l.els.length≤9223372036854775807)(hr:∀r∈l.els,zc3 r):∀(r:List Zk) (i:Nat),l.els.drop i=r→
  zP (zgv (D (k+5)) (I6 (l.els.length:Int)) (enL 6 enR l)) [I6 (i:Int)] []=some (zn1 0 (wN r)):=by
 intro r
 induction r with
 |nil=>
  intro i h;refine zu ?_
  grind[zgv,zA,zl,zb,xP,zV,zp]
 |cons x r ih=>
  intro i h;have h1:=yp h;have ea:zg .add (I6 (i:Int)) (I6 1)=some (I6 ((i+1:Nat):Int)):=yu;have hx:zc3 x:=hr x (Lz3 (z6 h));have c:D (k+5) 57 [SA [atD (enR x) 0,atD (enR x) 1,atD (enR x) 2,atD (enR x) 3,atD (enR x) 4,atD (enR x) 5]]=some (S1 (I6 (yR x))):=t57 k x hx;have body:zgv (D (k+5)) (I6 (l.els.length:Int)) (enL 6 enR l) [I6 (i:Int)] []=some (if yR x≠0 then(.ret,[I6 (yR x)],[]) else(.normal,[I6 ((i+1:Nat):Int)],[])):=by
   simp only[zgv,zA,zl,zb,jP h1,zp,if_true,zU h,c,yj,yq,ea]
   grind
  by_cases hc:yR x=0
  ·rw[Yzc (by omega)]at body;rw[zJ body,ih (i+1) (zN h)];grind[wN]
  ·rw[Yzd hc]at body;grind[zE,wN,zn1]
structure Place where
 ranks:Sl Zk
 low:Int
 high:Int
def enP(x:Place):List DV:=[enL 6 enR x.ranks,I6 x.low,I6 x.high]
structure Place.ok (x:Place):Prop where
 len:x.ranks.els.length≤9223372036854775807
 ranks:∀r∈x.ranks.els,zc3 r
def uz(x:Place):Int:=if 60<x.ranks.els.length then 4 else if wN x.ranks.els≠0 then wN x.ranks.els else right x.low x.high
theorem zyC(k:Nat)(x:Place)(hx:x.ok):D (k+6) 126 [SA (enP x)]=some (S1 (I6 (uz x))):=by
 unfold enP;rw[zzN];unfold zxB uz;have:=zy7 k x.ranks hx.len hx.ranks x.ranks.els 0 rfl;simp only[zx,zb,yD,zp];rw[show (I6 0:DV)=I6 ((0:Nat):Int) from rfl,this];by_cases h1:60<x.ranks.els.length
 ·grind
 ·have h2:¬((60:Int)<(x.ranks.els.length:Int)):=by omega
  simp only[h1,h2,decide_false,Yzi,if_false];unfold zn1;by_cases h3:wN x.ranks.els=0<;>simp_all[t93]
structure Zo where
 rank:Int
 shift:Int
deriving DecidableEq
def enD(d:Zo):List DV:=[I6 d.rank,I6 d.shift]
theorem zfX(a b:Zo):znc [1,1] [I6 a.rank,I6 a.shift] [I6 b.rank,I6 b.shift]=some (decide (a=b)):=by
 cases a with|mk r s=>
 cases b with|mk r' s'=>
 simp only[znc,eqD,xg,Yza,uQ];by_cases h1:r=r'
 ·by_cases h2:s=s'
  ·grind
  ·have e2:(s==s')=false:=by grind
   simp[h1,h2,e2]
 ·have e1:(r==r')=false:=by grind
  simp[h1,e1]
theorem zy3(d:Zo)(l:Sl Zo)(hl:l.els.length≤9223372036854775807):∀(r:List Zo) (i:Nat),l.els.drop i=r→
  zP (zgo (I6 (l.els.length:Int)) (enL 2 enD l) (I6 d.rank) (I6 d.shift)) [I6 (i:Int)] []=some (found (ug (fun x=>decide (d=x)) r i)):=by
 intro r
 induction r with
 |nil=>
  intro i h;refine zu ?_
  grind[zgo,zA,zl,zb,xP,zV,zp]
 |cons x r ih=>
  intro i h;have h1:=yp h;have ea:zg .add (I6 (i:Int)) (I6 1)=some (I6 ((i+1:Nat):Int)):=yu;have eq:=zfX d x;have body:zgo (I6 (l.els.length:Int)) (enL 2 enD l) (I6 d.rank) (I6 d.shift) [I6 (i:Int)] []=some (if d=x then(.ret,[I6 (i:Int)],[]) else(.normal,[I6 ((i+1:Nat):Int)],[])):=by
   simp only[zgo,zA,zl,zb,jP h1,zp,if_true,zU h,enD,xc,wi,eq,ea]
   grind
  by_cases hc:d=x
  ·rw[Yzd hc]at body;grind[zE,ug,found]
  ·rw[Yzc hc]at body;grind[zJ,zN,ug]
theorem zyx(k:Nat)(d:Zo)(l:Sl Zo)(hl:l.els.length≤9223372036854775807):D (k+1) 186 [S1 (enL 2 enD l),SA (enD d)]=some (S1 (I6 (match ug (fun x=>decide (d=x)) l.els 0 with|some i=>(i:Int)|none=>-1))):=by unfold enD;rw[zzF];unfold zxu;have:=zy3 d l hl l.els 0 rfl;unfold enD at this;simp only[zx,zb];rw[show (I6 0:DV)=I6 ((0:Nat):Int) from rfl,this];cases ug (fun x=>decide (d=x)) l.els 0<;>rfl
theorem zyy(k:Nat)(d:Zo)(l:Sl Zo)(hl:l.els.length≤9223372036854775807):D (k+2) 156 [S1 (enL 2 enD l),SA (enD d)]=some (S1 (Bo (l.els.any fun x=>decide (d=x)))):=by have:=zyx k d l hl;unfold enD at this ⊢;rw[zzH];unfold zxv;rw[this,←vM (fun x=>decide (d=x)) l.els 0];cases ug (fun x=>decide (d=x)) l.els 0<;>simp_all
end Go.Proofs.Tryz.Kn
end
section
namespace Go.Proofs.Tryz.Kn
open Go Go.CE Go.PE
theorem zxk(y:Nat):zcw none 0 y=some 0:=rfl
theorem zxl{k:IntKind}{i d y:Nat}(h:i≤y):zcw (some (.int k (i:Int))) d y=some i:=by
 show (bif Nat.ble i y then some i else none)=_
 grind[Yzf]
theorem zbA{α:Type}{st i:Nat}{f:α→List DV}{l:List α}{k:IntKind}(h:i≤l.length):
  u1 st (enL st f (some l)) none (some (.int k (i:Int)))=some (enL st f (some (l.take i))):=by
 simp_all[u1,zeP,zxl,zxk]
def kW(n:Nat):List Zo→List Zo→Int
 |_,[]=>0
 |p,d::r=>if d.rank<0 then 10 else if (n:Int)≤d.rank then 10 else if d.shift < -127 then 3 else if 127<d.shift then 3 else if p.any (fun x=>decide (d=x)) then 9 else kW n (p++[d]) r
def yY(n:Nat)(l:List Zo):Int:=if 8<l.length then 4 else kW n [] l
theorem zy6(k:Nat)(rs:Sl Zk)(l:List Zo)(hl:l.length≤9223372036854775807):∀(r:List Zo) (i:Nat),l.drop i=r→
  zP (zgu (D (k+2)) (I6 (l.length:Int)) (enL 2 enD (some l)) (enL 6 enR rs)) [I6 (i:Int)] []=some (zn1 0 (kW rs.els.length (l.take i) r)):=by
 intro r
 induction r with
 |nil=>
  intro i h;refine zu ?_
  grind[zgu,zA,zl,zb,xP,zV,zp]
 |cons x r ih=>
  intro i h;have h1:=yp h;have ea:zg .add (I6 (i:Int)) (I6 1)=some (I6 ((i+1:Nat):Int)):=yu;have ix:xL 2 (enL 2 enD (some l)) (I6 (i:Int))=some (enD x):=zU (v:=some l) h _;have sl:u1 2 (enL 2 enD (some l)) none (some (I6 (i:Int)))=some (enL 2 enD (some (l.take i))):=zbA (by omega);have c:=zyy k x (some (l.take i)) (by grind);simp only[enD]at c;have body:zgu (D (k+2)) (I6 (l.length:Int)) (enL 2 enD (some l)) (enL 6 enR rs) [I6 (i:Int)] [] =
    some (if x.rank<0 then(.ret,[I6 10],[]) else if (rs.els.length:Int)≤x.rank then(.ret,[I6 10],[]) else if x.shift < -127 then(.ret,[I6 3],[]) else if 127<x.shift then(.ret,[I6 3],[]) else if (l.take i).any (fun y=>decide (x=y)) then(.ret,[I6 9],[]) else(.normal,[I6 ((i+1:Nat):Int)],[])):=by
   simp only[zgu,zA,zl,zb,jP h1,zp,if_true,ix,enD,xc,wi,zx,xF,yD,sl,c,yj,ea,YzA,Sl.els,Yyl]
   grind
  have hn:l.take (i+1)=l.take i++[x]:=by grind
  unfold kW;by_cases a1:x.rank<0
  ·rw[Yzd a1]at body ⊢;rw[zE body];rfl
  rw[Yzc a1]at body ⊢;by_cases a2:(rs.els.length:Int)≤x.rank
  ·rw[Yzd a2]at body ⊢;rw[zE body];rfl
  rw[Yzc a2]at body ⊢;by_cases a3:x.shift < -127
  ·rw[Yzd a3]at body ⊢;rw[zE body];rfl
  rw[Yzc a3]at body ⊢;by_cases a4:127<x.shift
  ·rw[Yzd a4]at body ⊢;rw[zE body];rfl
  rw[Yzc a4]at body ⊢;by_cases a5:(l.take i).any (fun y=>decide (x=y))=true
  ·rw[Yzd a5]at body ⊢;rw[zE body];rfl
  rw[Yzc a5]at body ⊢
  grind[zJ,zN]
theorem zyB(k:Nat)(x:Place)(l:Sl Zo)(hl:l.els.length≤9223372036854775807):D (k+3) 127 [SA (enP x),S1 (enL 2 enD l)]=some (S1 (I6 (yY x.ranks.els.length l.els))):=by
 unfold enP;rw[zzM];unfold zxA yY;simp only[zx,zb,yD,zp];by_cases h1:8<l.els.length
 ·grind
 ·have h2:¬((8:Int)<(l.els.length:Int)):=by omega
  simp only[h1,h2,decide_false,Yzi,if_false];cases l with
  |none=>rw[zu (id:=0) (L':=[]) (M':=[]) (by rfl)];rfl
  |some l=>have:=zy6 k x.ranks l hl l 0 rfl;rw[show (I6 0:DV)=I6 ((0:Nat):Int) from rfl,show Sl.els (some l:Sl Zo)=l from rfl,this,Yyk];unfold zn1;by_cases h3:kW x.ranks.els.length [] l=0<;>simp_all
structure Seg where
 lo:Int
 hi:Int
 draws:Sl Zo
def enS(g:Seg):List DV:=[I6 g.lo,I6 g.hi,enL 2 enD g.draws]
def ztr(g:Seg):Prop:=g.draws.els.length≤9223372036854775807
structure Zp where
 name:ByteArray
 num:Int
 den:Int
 segs:Sl Seg
def wp(s:Zp):List DV:=[St s.name,I6 s.num,I6 s.den,enL 3 enS s.segs]
structure Zp.ok (s:Zp):Prop where
 len:s.segs.els.length≤9223372036854775807
 segs:∀g∈s.segs.els,ztr g
def leO(a:Int):Option Int→Bool
 |some t=>decide (a≤t)
 |none=>false
def zaG(l:List Seg):Nat→Option Int
 |0=>none
 |j+1=>(l[j]?).map Seg.hi
def uw(x:Place):List Seg→Option Int→Int
 | [],_=>0
 |g::r,p=>
  if min g.lo g.hi<x.low then 23 else if x.high<max g.lo g.hi then 23 else if g.hi<g.lo then 6
  else if leO g.lo p then 6
  else if yY x.ranks.els.length g.draws.els≠0 then yY x.ranks.els.length g.draws.els else uw x r (some g.hi)
theorem l94(k:Nat)(x:Place)(l:Sl Seg)(hl:l.els.length≤9223372036854775807)(hs:∀g∈l.els,ztr g):∀(r:List Seg) (i:Nat),l.els.drop i=r→
  zP (zgh (D (k+3)) (I6 (l.els.length:Int)) (enL 3 enS l) (I6 x.low) (I6 x.high) (enL 6 enR x.ranks)) [I6 (i:Int)] []=some (zn1 1 (uw x r (zaG l.els i))):=by
 intro r
 induction r with
 |nil=>
  intro i h;refine zu ?_
  grind[zgh,zA,zl,zb,xP,zV,zp]
 |cons g r ih=>
  intro i h;have h1:=yp h;have ea:zg .add (I6 (i:Int)) (I6 1)=some (I6 ((i+1:Nat):Int)):=yu;have c:=zyB k x g.draws (hs g (Lz3 (z6 h)));simp only[enP]at c;have body:zgh (D (k+3)) (I6 (l.els.length:Int)) (enL 3 enS l) (I6 x.low) (I6 x.high) (enL 6 enR x.ranks) [I6 (i:Int)] [] =
    some (if min g.lo g.hi<x.low then(.ret,[I6 23],[]) else if x.high<max g.lo g.hi then(.ret,[I6 23],[]) else if g.hi<g.lo then(.ret,[I6 6],[])
     else if leO g.lo (zaG l.els i)=true then(.ret,[I6 6],[]) else if yY x.ranks.els.length g.draws.els≠0 then(.ret,[I6 (yY x.ranks.els.length g.draws.els)],[]) else(.normal,[I6 ((i+1:Nat):Int)],[])):=by
   simp only[zgh,zA,zl,zb,jP h1,zp,if_true,zU h,enS,xc,wi,ztN,ztO,yD,c,yj,ea,YzA,yq];have tail:(if (!(yY x.ranks.els.length g.draws.els==0))=true then some ((.ret,[I6 (yY x.ranks.els.length g.draws.els)],[]):PX) else some (.normal,[I6 ((i+1:Nat):Int)],[])) =
     some (if yY x.ranks.els.length g.draws.els≠0 then(.ret,[I6 (yY x.ranks.els.length g.draws.els)],[]) else(.normal,[I6 ((i+1:Nat):Int)],[])):=by
    grind
   rw[tail];cases i with
   |zero=>
    have:¬((0:Int)<((0:Nat):Int)):=by omega
    simp only[this,if_false,Yzi,zaG,leO]
    grind
   |succ j=>
    obtain⟨q,hq⟩:∃q,l.els[j]? = some q:=⟨_,Lz5 (by omega)⟩;have h2:(0:Int)<((j+1:Nat):Int):=by omega
    have es:zg .sub (I6 ((j+1:Nat):Int)) (I6 1)=some (I6 (((j+1:Nat):Int)-1)):=j5;have e1:((j+1:Nat):Int)-1=(j:Int):=by omega
    rw[e1]at es;have ix:xL 3 (enL 3 enS l) (I6 (j:Int))=some (enS q):=by grind[jN]
    simp only[zaG,hq,YzG,leO,h2,if_true,es,zb,ix,enS,wi,xc,wO,zp,YzA]
    grind
  have hp:zaG l.els (i+1)=some g.hi:=by simp only[zaG,z6 h,YzG]
  unfold uw;by_cases a1:min g.lo g.hi<x.low
  ·rw[Yzd a1]at body ⊢;rw[zE body];rfl
  rw[Yzc a1]at body ⊢;by_cases a2:x.high<max g.lo g.hi
  ·rw[Yzd a2]at body ⊢;rw[zE body];rfl
  rw[Yzc a2]at body ⊢;by_cases a3:g.hi<g.lo
  ·rw[Yzd a3]at body ⊢;rw[zE body];rfl
  rw[Yzc a3]at body ⊢;by_cases a4:leO g.lo (zaG l.els i)=true
  ·rw[Yzd a4]at body ⊢;rw[zE body];rfl
  rw[Yzc a4]at body ⊢;by_cases a5:yY x.ranks.els.length g.draws.els≠0
  ·rw[Yzd a5]at body ⊢;rw[zE body];simp_all[zn1]
  rw[Yzc a5]at body ⊢
  grind[zJ,zN]
def vT(x:Place)(s:Zp):Int:=
 if uz x≠0 then uz x else if !isName s.name then 8 else if uI s.num s.den≠0 then uI s.num s.den
 else if s.segs.els.length=0 then 13 else if 12<s.segs.els.length then 4 else uw x s.segs.els none
theorem t94(k:Nat)(x:Place)(s:Zp)(hx:x.ok)(hs:s.ok):D (k+7) 94 [SA (enP x),SA (wp s)]=some (S1 (I6 (vT x s))):=by
 have c1:=zyC k x hx;have l:=l94 (k+3) x s.segs hs.len hs.segs s.segs.els 0 rfl;unfold enP at c1 ⊢;unfold wp;rw[D94];unfold P94 vT;simp only[c1,t56,t90,yj,yq,zb,zp,xn,zx,wP,yD];by_cases h1:uz x=0
 ·simp only[h1];cases isName s.name with
  |false=>rfl
  |true=>
   by_cases h2:uI s.num s.den=0
   ·simp only[h2];by_cases h3:s.segs.els.length=0
    ·simp[h3]
    ·have h4:¬((s.segs.els.length:Int)=0):=by omega
     by_cases h5:12<s.segs.els.length
     ·grind
     ·have h6:¬((12:Int)<(s.segs.els.length:Int)):=by omega
      rw[show (I6 0:DV)=I6 ((0:Nat):Int) from rfl,l,show zaG s.segs.els 0=none from rfl];unfold zn1;by_cases h7:uw x s.segs.els none=0
      ·simp[h3,h5,h6,h7]
      ·simp[h3,h5,h6,h7]
   grind
 grind
end Go.Proofs.Tryz.Kn
end
section
namespace Go.Proofs.Tryz.Kn
open Go Go.CE Go.PE
def enF(p:Int×Int):List DV:=[I6 p.1,I6 p.2]
def feetA:List (Int×Int):=[(8,1),(4,1),(16,1),(2,1),(8,3),(8,5),(4,3),(1,1),(32,1),(16,3),(16,5),(32,3),(8,7),(2,3),(1,2),(64,1)]
def feetB:List (Int×Int):=[(8,1),(4,1),(16,1),(8,3),(2,1),(8,5)]
def fA(n:Nat):Int×Int:=(feetA[n % 16]?).getD (8,1)
def fB(n:Nat):Int×Int:=(feetB[n % 6]?).getD (8,1)
theorem zql(n:Nat):feetA[n % 16]? = some (fA n):=by unfold fA;rw[Lz5 (show n % 16<feetA.length by rw[show feetA.length=16 from rfl];omega)];rfl
theorem zqj(n:Nat):feetB[n % 6]? = some (fB n):=by unfold fB;rw[Lz5 (show n % 6<feetB.length by rw[show feetB.length=6 from rfl];omega)];rfl
theorem zqk(n:Nat):fA n∈feetA:=Lz3 (zql n)
theorem zdt(n:Nat):fB n∈feetB:=Lz3 (zqj n)
theorem zuL:∀p∈feetA,uI p.1 p.2=0:=by trivial
theorem zuK:∀p∈feetB,uI p.1 p.2=0:=by trivial
theorem zzA:(shSums.all fun s=>match xw s.g s.args ⟨.z,.nil⟩ bSums with|some v=>eqA v s.res|none=>false)=true:=by kernel_rfl
theorem zxI{s:CE.Sum}(hs:s∈shSums){xs:List DA}{d:DA}(hg:([120,121,122,123]:List Nat).any (Nat.beq s.g)=true)(ha:avs xs=some s.args)(hd:ofA s.res=some d):B s.g xs=some d:=by
 have h:=YzJ.1 zzA s hs;split at h
 ·rename_i v hv;have:=zi7 h;subst this;rw[zzR hg];unfold zsS;have:=zuA hg
  grind
 ·cases h
theorem znT(k:Nat){s:CE.Sum}(hs:s∈shSums){xs:List DA}{d:DA}(hg:([120,121,122,123]:List Nat).any (Nat.beq s.g)=true)(ha:avs xs=some s.args)(hd:ofA s.res=some d):D k s.g xs=some d:=zf0 (zxI hs hg ha hd)
theorem zrB{n:Nat}(h:n∈pows):q7 n∈shSums:=by grind[shSums]
theorem mem_of{n:Nat}(h:n∈pows):ofS n∈shSums:=by grind[shSums]
theorem zmz{x:Nat×Nat}(h:x∈dens){s:CE.Sum}(hs:s∈xd x):s∈shSums:=by grind[shSums]
theorem zrC{x:Nat×Nat×Nat}(h:x∈prs){s:CE.Sum}(hs:s∈yi x):s∈shSums:=by grind[shSums]
theorem zx4(k:Nat){n:Nat}(h:n∈pows):D k 121 [S1 (I6 (n:Int))]=some (S1 (St (dec n))):=znT k (mem_of h) rfl rfl rfl
theorem zx5(k:Nat){n:Nat}(h:n∈pows):D k 120 [S1 (St (dec n)),S1 (I6 24)]=some (.tup [.one (St (dec (n^24))),.one (I6 0)]):=znT k (zrB h) rfl rfl rfl
theorem zxg(k:Nat){x:Nat×Nat}(h:x∈dens):D k 122 [S1 (St (dec (x.1^24))),S1 (.str ⟨#[50]⟩)]=some (S1 (St (dec (lim x.1 0)))):=by
 have e:x.1^24*2=lim x.1 0:=by grind[lim]
 rw[←e];exact znT k (zmz h (Yzh ..)) rfl rfl rfl
theorem zxf(k:Nat){x:Nat×Nat}(h:x∈dens){j:Nat}(hj:j<x.2):D k 122 [S1 (St (dec (lim x.1 j))),S1 (.str ⟨#[52]⟩)]=some (S1 (St (dec (lim x.1 (j+1))))):=by
 have e:lim x.1 j*4=lim x.1 (j+1):=by
  show 2*x.1^24*4^j*4=2*x.1^24*4^(j+1)
  grind
 rw[←e];exact znT k (zmz h (Yze _ (List.mem_map.2 ⟨j,List.mem_range.2 hj,rfl⟩))) rfl rfl rfl
theorem zx3(k:Nat){x:Nat×Nat×Nat}(h:x∈prs){j:Nat}(hj:j≤x.2.2):D k 123 [S1 (St (dec (x.1^24))),S1 (St (dec (lim x.2.1 j)))]=some (S1 (I6 (zs6 (x.1^24) (lim x.2.1 j)))):=
 znT k (zrC h (List.mem_map.2 ⟨j,List.mem_range.2 (by omega),rfl⟩)) rfl rfl rfl
def upN:Nat→Nat→Nat→Int→Nat×Int
 |0,num,_,n=>(num,n)
 |f+1,num,den,n=>if num<den then upN f (num*2) den (n-12) else(num,n)
def dnN:Nat→Nat→Nat→Int→Nat×Int
 |0,_,den,n=>(den,n)
 |f+1,num,den,n=>if 2*den≤num then dnN f num (den*2) (n+12) else(den,n)
theorem zyY(den:Nat)(hd:den≤1000000):∀(f num:Nat) (n:Int),den≤(upN f num den n).1→-1000000≤n-12*(f:Int)→n≤1000000→
  zP (zkO (I6 (den:Int))) [I6 (num:Int),I6 n] []=some (.exit 0,[I6 ((upN f num den n).1:Int),I6 (upN f num den n).2],[]):=by
 intro f
 induction f with
 |zero=>grind[zu,zkO,zA,yE,zl,zb,zp,upN]
 |succ f ih=>
  intro num n h h2 h3;unfold upN at h ⊢;by_cases hc:num<den
  ·rw[Yzd hc]at h ⊢;have h1:decide ((num:Int)<(den:Int))=true:=jP hc;have e1:zg .mul (I6 (num:Int)) (I6 2)=some (I6 ((num*2:Nat):Int)):=by
    grind[zg2]
   have e2:zg .sub (I6 n) (I6 12)=some (I6 (n-12)):=j5;have body:zkO (I6 (den:Int)) [I6 (num:Int),I6 n] []=some (.normal,[I6 ((num*2:Nat):Int),I6 (n-12)],[]):=by simp_all[zkO]
   grind[zJ]
  ·rw[Yzc hc]
   grind[zu,zkO,zA,yE,zl,zb,zp]
theorem zy0(a:DV)(num:Nat)(hd:num≤1000000):∀(f den:Nat) (n:Int),num<2*(dnN f num den n).1→n+12*(f:Int)≤1000000→-1000000≤n→0<den→den≤1000000→
  zP (zdC [I6 (num:Int),a]) [I6 (den:Int),I6 n] []=some (.exit 2,[I6 ((dnN f num den n).1:Int),I6 (dnN f num den n).2],[]):=by
 intro f
 induction f with
 |zero=>
  intro den n h _ _ _ h5;have h:num<2*den:=h;have e1:zg .mul (I6 2) (I6 (den:Int))=some (I6 ((2*den:Nat):Int)):=by grind[zg2]
  grind[zu,zdC,zA,yE,xF,zb,zp,dnN]
 |succ f ih=>
  intro den n h h2 h3 h4 h5;unfold dnN at h ⊢;have e1:zg .mul (I6 2) (I6 (den:Int))=some (I6 ((2*den:Nat):Int)):=by grind[zg2]
  by_cases hc:2*den≤num
  ·rw[Yzd hc]at h ⊢;have h1:decide (((2*den:Nat):Int)≤(num:Int))=true:=decide_eq_true (by omega);have e3:zg .mul (I6 (den:Int)) (I6 2)=some (I6 ((den*2:Nat):Int)):=by
    grind[zg2]
   have e2:zg .add (I6 n) (I6 12)=some (I6 (n+12)):=yu;have body:zdC [I6 (num:Int),a] [I6 (den:Int),I6 n] []=some (.normal,[I6 ((den*2:Nat):Int),I6 (n+12)],[]):=by simp_all[zdC]
   grind[zJ]
  ·rw[Yzc hc]
   grind[zu,zdC,zA,yE,xF,zb,zp]
theorem zra:(prs.all fun x=>(List.range x.2.2).all (fun j=>Nat.ble (Nat.succ (lim x.2.1 j)) (x.1^24))&&Nat.ble (x.1^24) (lim x.2.1 x.2.2))=true:=by kernel_rfl
theorem zlJ:(prs.all fun x=>dens.any (fun y=>Nat.beq y.1 x.2.1&&Nat.ble x.2.2 y.2)&&pows.any (Nat.beq x.1)&&pows.any (Nat.beq x.2.1))=true:=by kernel_rfl
theorem ze4{n:Nat}{l:List Nat}(h:l.any (Nat.beq n)=true):n∈l:=by simp_all
theorem zy1(k:Nat)(x:Nat×Nat×Nat)(hx:x∈prs)(n:Int)(h1:-1000000≤n)(h2:n≤1000000)(hm:x.2.2≤100):∀(r j:Nat),j+r=x.2.2→
  zP (zgi (D k) [.one (St (dec (x.1^24))),.one (I6 0)]) [St (dec (lim x.2.1 j)),I6 (n+(j:Int))] []=some (.exit 4,[I6 (n+(x.2.2:Int))],[]):=by
 have hc:=YzJ.1 zra x hx;have hdn:=YzJ.1 zlJ x hx;simp only[LzC]at hc hdn;obtain⟨y,hy,ey⟩:=List.any_eq_true.1 hdn.1.1;simp only[LzC]at ey;have ey1:y.1=x.2.1:=Lz1 ey.1;have ey2:=Lz4 ey.2;intro r
 induction r with
 |zero=>
  intro j hj;have hj:j=x.2.2:=by omega
  subst hj;have c:=zx3 k hx (LzB _);have hle:=Lz4 hc.2;have hs:decide ((0:Int)<zs6 (x.1^24) (lim x.2.1 x.2.2))=false:=by
   unfold zs6;rw[show Nat.ble (Nat.succ (lim x.2.1 x.2.2)) (x.1^24)=false from by cases hb:Nat.ble (Nat.succ (lim x.2.1 x.2.2)) (x.1^24) with|false=>rfl|true=>have:=Lz4 hb;omega]
   grind
  grind[zu,zgi,zA,yE,zaS,jx,yj,yD,zb,zp]
 |succ r ih=>
  intro j hj;have c:=zx3 k hx (show j≤x.2.2 by omega);have m:=zxf k hy (show j<y.2 by omega);rw[ey1]at m;have hlt:=Lz4 (YzJ.1 hc.1 j (List.mem_range.2 (by omega)));have hs:decide ((0:Int)<zs6 (x.1^24) (lim x.2.1 j))=true:=by grind[zs6,Yzf]
  have ea:zg .add (I6 (n+(j:Int))) (I6 1)=some (I6 (n+((j+1:Nat):Int))):=by rw[show n+((j+1:Nat):Int)=n+(j:Int)+1 by omega];exact yu
  have body:zgi (D k) [.one (St (dec (x.1^24))),.one (I6 0)] [St (dec (lim x.2.1 j)),I6 (n+(j:Int))] []=some (.normal,[St (dec (lim x.2.1 (j+1))),I6 (n+((j+1:Nat):Int))],[]):=by simp_all[zgi]
  grind[zJ]
def zqf(f g:Int×Int):Nat:=(g.1*f.2).toNat
def zkD(f g:Int×Int):Nat:=(g.2*f.1).toNat
def shU(f g:Int×Int):Nat×Int:=upN 20 (zqf f g) (zkD f g) 0
def shD(f g:Int×Int):Nat×Int:=dnN 20 (shU f g).1 (zkD f g) (shU f g).2
def shM(f g:Int×Int):Nat:=((prs.find? fun x=>Nat.beq x.1 (shU f g).1&&Nat.beq x.2.1 (shD f g).1).map fun x=>x.2.2).getD 0
def shf(f g:Int×Int):Int:=(shD f g).2+(shM f g:Int)
def ztp(f g:Int×Int):Bool:=
 decide (0≤g.1*f.2)&&decide (0<g.2*f.1)&&Nat.ble (zkD f g) (shU f g).1&&Nat.ble (Nat.succ (shU f g).1) (2*(shD f g).1)&&(prs.any fun x=>Nat.beq x.1 (shU f g).1&&Nat.beq x.2.1 (shD f g).1&&Nat.beq x.2.2 (shM f g))
 && Nat.ble (zkD f g) 1000000&&Nat.ble (zqf f g) 1000000&&Nat.ble (shU f g).1 1000000&&Nat.ble (shM f g) 100&&decide (-1000≤(shU f g).2)&&decide ((shU f g).2≤1000)&&decide (-1000≤(shD f g).2)&&decide ((shD f g).2≤1000)&&decide (-100≤shf f g)&&decide (shf f g≤100)
theorem ztn:(feetB.all fun f=>feetA.all fun g=>ztp f g)=true:=by kernel_rfl
structure Zv (f g:Int×Int):Prop where
 a:0≤g.1*f.2
 b:0<g.2*f.1
 c:zkD f g≤(shU f g).1
 d:(shU f g).1<2*(shD f g).1
 e:∃x∈prs,x.1=(shU f g).1∧x.2.1=(shD f g).1∧x.2.2=shM f g
 f1:zkD f g≤1000000
 f2:zqf f g≤1000000
 f3:(shU f g).1≤1000000
 f4:shM f g≤100
 g1:-1000≤(shU f g).2
 g2:(shU f g).2≤1000
 g3:-1000≤(shD f g).2
 g4:(shD f g).2≤1000
 h1:-100≤shf f g
 h2:shf f g≤100
theorem zlk{f g:Int×Int}(hf:f∈feetB)(hg:g∈feetA):Zv f g:=by have h:=YzJ.1 (YzJ.1 ztn f hf) g hg;unfold ztp at h;simp only[LzC,YzA]at h;obtain⟨⟨⟨⟨⟨⟨⟨⟨⟨⟨⟨⟨⟨⟨a,b⟩,c⟩,d⟩,e⟩,f1⟩,f2⟩,f3⟩,f4⟩,g1⟩,g2⟩,g3⟩,g4⟩,h1⟩,h2⟩:=h;obtain⟨x,hx,hq⟩:=List.any_eq_true.1 e;simp only[LzC]at hq;exact⟨a,b,Lz4 c,Lz4 d,⟨x,hx,Lz1 hq.1.1,Lz1 hq.1.2,Lz1 hq.2⟩,Lz4 f1,Lz4 f2,Lz4 f3,Lz4 f4,g1,g2,g3,g4,h1,h2⟩
theorem zlj(f g:Int×Int)(hf:f∈feetB)(hg:g∈feetA):-100≤shf f g∧shf f g≤100:=⟨(zlk hf hg).h1,(zlk hf hg).h2⟩
theorem t88(k:Nat)(f g:Int×Int)(hf:f∈feetB)(hg:g∈feetA):D (k+1) 88 [SA (enF f),SA (enF g)]=some (S1 (I6 (shf f g))):=by
 have H:=zlk hf hg;obtain⟨x,hx,x1,x2,x3⟩:=H.e;have a1:g.1*f.2=((zqf f g:Nat):Int):=by unfold zqf;have:=H.a;omega
 have a2:g.2*f.1=((zkD f g:Nat):Int):=by unfold zkD;have:=H.b;omega
 have hb:=H.b;rw[a2]at hb;have b1:=H.f1;have b2:=H.f2;have b3:=H.f3;have b4:=H.f4;have c1:=H.g1;have c2:=H.g2;have c3:=H.g3;have c4:=H.g4
 have m1:zg .mul (I6 g.1) (I6 f.2)=some (I6 ((zqf f g:Nat):Int)):=by grind[zg2]
 have m2:zg .mul (I6 g.2) (I6 f.1)=some (I6 ((zkD f g:Nat):Int)):=by grind[zg2]
 have lu:=zyY (zkD f g) b1 20 (zqf f g) 0 H.c (by omega) (by omega);have ld:=zy0 (I6 (shU f g).2) (shU f g).1 b3 20 (zkD f g) (shU f g).2 H.d (by omega) (by omega) (by omega) b1;have lc:=zy1 k x hx (shD f g).2 (by omega) (by omega) (by omega) x.2.2 0 (by omega);have hdn:=YzJ.1 zlJ x hx;simp only[LzC]at hdn;obtain⟨y,hy,ey⟩:=List.any_eq_true.1 hdn.1.1;simp only[LzC]at ey;have ey1:y.1=x.2.1:=Lz1 ey.1;have o1:=zx4 k (ze4 hdn.1.2);have p1:=zx5 k (ze4 hdn.1.2);have o2:=zx4 k (ze4 hdn.2);have p2:=zx5 k (ze4 hdn.2);have u0:=zxg k hy;rw[ey1]at u0;rw[x1]at o1 p1 lc;rw[x2]at o2 p2 u0 lc;rw[x3]at lc;rw[show (shD f g).2+((0:Nat):Int)=(shD f g).2 by omega]at lc;have hU:upN 20 (zqf f g) (zkD f g) 0=shU f g:=rfl;have hD:dnN 20 (shU f g).1 (zkD f g) (shU f g).2=shD f g:=rfl;rw[hU]at lu;rw[hD]at ld;unfold enF;rw[D88];unfold P88;have bt:∀{β:Type} (a b:DV) (K:List DS→Option β),bT [none,none] (some (.tup [.one a,.one b])) K=K [.one a,.one b]:=fun _ _ _=>rfl;simp only[m1,m2,zb];rw[lu];simp only[ym,Yzr,Yza,zA,yE];rw[ld];simp only[ym,Yzr,Yza,zA,yE,o1,o2,yj,p1,p2,bt,zaS,jx,u0];rw[lc];rfl
theorem t87(k:Nat)(f g:Int×Int)(hf:f∈feetB)(hg:g∈feetA):D (k+4) 87 [SA (enF f),SA (enF g)]=some (S1 (I6 0)):=by grind[t90,zuK,zuL,enF,D87,P87,yj,yq,zb,zp]
theorem t55(k:Nat)(f g:Int×Int)(hf:f∈feetB)(hg:g∈feetA):D (k+5) 55 [SA (enF f),SA (enF g)]=some (.tup [.one (I6 (shf f g)),.one (I6 0)]):=by
 have c1:=t87 k f g hf hg
 grind[t88,enF,D55,P55,yj,yq,zb,zp]
end Go.Proofs.Tryz.Kn
end
section
namespace Go.Proofs.Tryz.Kn
open Go Go.CE Go.PE
def eqB(a b:ByteArray):Bool:=a.data.toList==b.data.toList
def enN(s:ByteArray):List DV:=[St s,Bo true]
theorem zne(a b:ByteArray):zgz (.inl 2) (.one (St a)) (.one (St b))=some (eqB a b):=rfl
theorem jW(s:ByteArray):∀ns:List ByteArray,zeF (.inl 2) 1048576 (.one (St s)) (ns.map enN)=some (if ns.any (eqB s)=true then some (.one (Bo true)) else none)
 | []=>rfl
 |n::ns=>by
  have e:zgz (.inl 2) (.one (St s)) (kD 1048576 (enN n))=some (eqB s n):=rfl;have v:vD 1048576 (enN n)=.one (Bo true):=rfl;rw[Yzs,zeF,e,v,jW s ns,List.any_cons]
  grind
theorem qp(s:ByteArray):∀ns:List ByteArray,ns.any (eqB s)=false→znY (.inl 2) 1048576 (.one (St s)) [St s,Bo true] (ns.map enN)=some ((ns++[s]).map enN)
 | [],_=>rfl
 |n::ns,h=>by simp only[List.any_cons,Bool.or_eq_false_iff]at h;have e:zgz (.inl 2) (.one (St s)) (kD 1048576 (enN n))=some (eqB s n):=rfl;simp only[Yzs,znY,e,h.1,qp s ns h.2];rfl
theorem zrG(b:Bool):dsO (lkD (.one (Bo false)) (if b=true then some (DS.one (Bo true)) else none))=Bo b:=by cases b<;>rfl
structure Cpl where
 name:ByteArray
 src:Int
 dst:Int
 shift:Int
 thr:Bool
def enC(c:Cpl):List DV:=[St c.name,I6 c.src,I6 c.dst,I6 c.shift,Bo c.thr]
def enK(k:Int×Int):List DV:=[I6 k.1,I6 k.2]
theorem t96(k:Nat)(x c:Cpl):D (k+1) 96 [SA (enC x),S1 (.fp (enC c) 0)]=some (S1 (Bo (eqB x.name c.name))):=by unfold enC;rw[D96];rfl
theorem zy5(k:Nat)(c:Cpl)(l:Sl Cpl)(hl:l.els.length≤9223372036854775807):∀(r:List Cpl) (i:Nat),l.els.drop i=r→
  zP (zgt (D (k+1)) (I6 (l.els.length:Int)) (enL 5 enC l) (.fn 96 [enC c])) [I6 (i:Int)] []=some (found (ug (fun x=>eqB x.name c.name) r i)):=by
 intro r
 induction r with
 |nil=>
  intro i h;refine zu ?_
  grind[zgt,zA,zl,zb,xP,zV,zp]
 |cons x r ih=>
  intro i h;have h1:=yp h;have ea:zg .add (I6 (i:Int)) (I6 1)=some (I6 ((i+1:Nat):Int)):=yu;have cx:zkM (D (k+1)) (.fn 96 [enC c]) [SA [atD (enC x) 0,atD (enC x) 1,atD (enC x) 2,atD (enC x) 3,atD (enC x) 4]]=some (S1 (Bo (eqB x.name c.name))):=t96 k x c;have body:zgt (D (k+1)) (I6 (l.els.length:Int)) (enL 5 enC l) (.fn 96 [enC c]) [I6 (i:Int)] []=some (if eqB x.name c.name then(.ret,[I6 (i:Int)],[]) else(.normal,[I6 ((i+1:Nat):Int)],[])):=by
   simp only[zgt,zA,zl,zb,jP h1,zp,if_true,zU h,cx,yj,ea]
   grind
  cases hc:eqB x.name c.name with
  |true=>grind[zE,ug,found]
  |false=>grind[zJ,zN,ug]
theorem t95(k:Nat)(c:Cpl)(l:Sl Cpl)(hl:l.els.length≤9223372036854775807):D (k+3) 95 [S1 (enL 5 enC l),S1 (.fn 96 [enC c])]=some (S1 (Bo (l.els.any fun x=>eqB x.name c.name))):=by
 have e:D (k+2) 128 [S1 (enL 5 enC l),S1 (.fn 96 [enC c])]=some (S1 (I6 (match ug (fun x=>eqB x.name c.name) l.els 0 with|some i=>(i:Int)|none=>-1))):=by rw[zzL];unfold zxz;have:=zy5 k c l hl l.els 0 rfl;simp only[zx,zb];rw[show (I6 0:DV)=I6 ((0:Nat):Int) from rfl,this];cases ug (fun x=>eqB x.name c.name) l.els 0<;>rfl
 rw[D95];unfold P95;rw[e,←vM (fun x=>eqB x.name c.name) l.els 0];cases ug (fun x=>eqB x.name c.name) l.els 0<;>simp_all
def zhC(n:Nat):List Cpl→List Cpl→Int
 |_,[]=>0
 |p,c::r=>
  if isName c.name=false then 8 else if p.any (fun x=>eqB x.name c.name)=true then 9 else if c.src<0 then 10 else if (n:Int)≤c.src then 10 else if c.dst<0 then 10 else if (n:Int)≤c.dst then 10
  else if c.shift < -127 then 3 else if 127<c.shift then 3 else if c.src=c.dst∧c.shift=0 then 7 else zhC n (p++[c]) r
def zje(ks:List (Int×Int))(l:List Cpl):Int:=
 if 8<ks.length then 4 else if 40<l.length then 4 else if ks.any (fun k=>right k.1 k.2 != 0)=true then 23 else zhC ks.length [] l
theorem l60(k:Nat)(ks:Sl (Int×Int))(l:List Cpl)(hl:l.length≤9223372036854775807):∀(r:List Cpl) (i:Nat),l.drop i=r→
  zP (zgj (D (k+3)) (I6 (l.length:Int)) (enL 5 enC (some l)) (enL 2 enK ks)) [I6 (i:Int)] []=some (zn1 2 (zhC ks.els.length (l.take i) r)):=by
 intro r
 induction r with
 |nil=>
  intro i h;refine zu ?_
  grind[zgj,zA,zl,zb,xP,zV,zp]
 |cons x r ih=>
  intro i h;have h1:=yp h;have ea:zg .add (I6 (i:Int)) (I6 1)=some (I6 ((i+1:Nat):Int)):=yu;have ix:xL 5 (enL 5 enC (some l)) (I6 (i:Int))=some (enC x):=zU (v:=some l) h _;have sl:u1 5 (enL 5 enC (some l)) none (some (I6 (i:Int)))=some (enL 5 enC (some (l.take i))):=zbA (by omega);have c:=t95 k x (some (l.take i)) (by grind);have cn:=t56 (k+1) x.name;simp only[enC,jX]at c;have body:zgj (D (k+3)) (I6 (l.length:Int)) (enL 5 enC (some l)) (enL 2 enK ks) [I6 (i:Int)] [] =
    some (if isName x.name=false then(.ret,[I6 8],[]) else if (l.take i).any (fun y=>eqB y.name x.name)=true then(.ret,[I6 9],[]) else if x.src<0 then(.ret,[I6 10],[]) else if (ks.els.length:Int)≤x.src then(.ret,[I6 10],[])
     else if x.dst<0 then(.ret,[I6 10],[]) else if (ks.els.length:Int)≤x.dst then(.ret,[I6 10],[]) else if x.shift < -127 then(.ret,[I6 3],[]) else if 127<x.shift then(.ret,[I6 3],[])
     else if x.src=x.dst∧x.shift=0 then(.ret,[I6 7],[]) else(.normal,[I6 ((i+1:Nat):Int)],[])):=by
   simp only[zgj,zA,zl,zb,jP h1,zp,if_true,ix,enC,xc,wi,zx,xF,yD,wP,sl,c,cn,yj,zxp,xn,ea,YzA];cases isName x.name<;>grind
  have hn:l.take (i+1)=l.take i++[x]:=by grind
  unfold zhC;by_cases a0:isName x.name=false
  ·rw[Yzd a0]at body ⊢;rw[zE body];rfl
  rw[Yzc a0]at body ⊢;by_cases a1:(l.take i).any (fun y=>eqB y.name x.name)=true
  ·rw[Yzd a1]at body ⊢;rw[zE body];rfl
  rw[Yzc a1]at body ⊢;by_cases a2:x.src<0
  ·rw[Yzd a2]at body ⊢;rw[zE body];rfl
  rw[Yzc a2]at body ⊢;by_cases a3:(ks.els.length:Int)≤x.src
  ·rw[Yzd a3]at body ⊢;rw[zE body];rfl
  rw[Yzc a3]at body ⊢;by_cases a4:x.dst<0
  ·rw[Yzd a4]at body ⊢;rw[zE body];rfl
  rw[Yzc a4]at body ⊢;by_cases a5:(ks.els.length:Int)≤x.dst
  ·rw[Yzd a5]at body ⊢;rw[zE body];rfl
  rw[Yzc a5]at body ⊢;by_cases a6:x.shift < -127
  ·rw[Yzd a6]at body ⊢;rw[zE body];rfl
  rw[Yzc a6]at body ⊢;by_cases a7:127<x.shift
  ·rw[Yzd a7]at body ⊢;rw[zE body];rfl
  rw[Yzc a7]at body ⊢;by_cases a8:x.src=x.dst∧x.shift=0
  ·rw[Yzd a8]at body ⊢;rw[zE body];rfl
  rw[Yzc a8]at body ⊢
  grind[zJ,zN]
theorem zyZ(k:Nat)(ks:Sl (Int×Int))(hl:ks.els.length≤9223372036854775807):∀(r:List (Int×Int)) (i:Nat),ks.els.drop i=r→
  zP (znK (D (k+1)) (I6 (ks.els.length:Int)) (enL 2 enK ks)) [I6 (i:Int)] []=some (if r.any (fun k=>right k.1 k.2 != 0)=true then(.ret,[I6 23],[]) else(.exit 0,[],[])):=by
 intro r
 induction r with
 |nil=>grind[zu,znK,zA,zl,zb,xP,zV,zp]
 |cons x r ih=>
  intro i h;have h1:=yp h;have ea:zg .add (I6 (i:Int)) (I6 1)=some (I6 ((i+1:Nat):Int)):=yu;have c:=t93 k x.1 x.2;have body:znK (D (k+1)) (I6 (ks.els.length:Int)) (enL 2 enK ks) [I6 (i:Int)] []=some (if right x.1 x.2=0 then(.normal,[I6 ((i+1:Nat):Int)],[]) else(.ret,[I6 23],[])):=by
   simp only[znK,zA,zl,zb,jP h1,zp,if_true,zU h,enK,xc,wi,c,yj,yq,ea]
   grind
  by_cases hc:right x.1 x.2=0
  ·rw[Yzd hc]at body;rw[zJ body,ih (i+1) (zN h),List.any_cons,hc];rfl
  ·rw[Yzc hc]at body;rw[zE body,Yzd (by simp[hc])]
theorem t60(k:Nat)(ks:Sl (Int×Int))(l:Sl Cpl)(hk:ks.els.length≤9223372036854775807)(hl:l.els.length≤9223372036854775807):D (k+4) 60 [S1 (enL 2 enK ks),S1 (enL 5 enC l)]=some (S1 (I6 (zje ks.els l.els))):=by
 rw[D60];unfold P60 zje;have ck:=zyZ (k+2) ks hk ks.els 0 rfl;simp only[zx,zb,yD,zp];rw[show (I6 0:DV)=I6 ((0:Nat):Int) from rfl,ck];by_cases h1:8<ks.els.length
 ·grind
 have h2:¬((8:Int)<(ks.els.length:Int)):=by omega
 by_cases h3:40<l.els.length
 ·grind
 have h4:¬((40:Int)<(l.els.length:Int)):=by omega
 simp only[h1,h2,h3,h4,decide_false,Yzi,if_false];by_cases h5:ks.els.any (fun k=>right k.1 k.2 != 0)=true
 ·simp_all
 rw[Yzc h5,Yzc h5];simp only[ym,Yzr,Yza];cases l with
 |none=>rw[zu (id:=2) (L':=[]) (M':=[]) (by rfl)];rfl
 |some l=>have:=l60 k ks l hl l 0 rfl;rw[show Sl.els (some l:Sl Cpl)=l from rfl,this,Yyk];unfold zn1;by_cases h6:zhC ks.els.length [] l=0<;>simp[h6]
structure Zh where
 name:ByteArray
 pedal:Bool
 low:Int
 high:Int
 stops:Sl Zp
def enV(d:Zh):List DV:=[St d.name,Bo d.pedal,I6 d.low,I6 d.high,enL 4 wp d.stops]
structure Zh.ok (d:Zh):Prop where
 len:d.stops.els.length≤9223372036854775807
 stops:∀s∈d.stops.els,s.ok
structure Org where
 name:ByteArray
 ranks:Sl Zk
 divs:Sl Zh
 cpls:Sl Cpl
def enO(o:Org):List DV:=[St o.name,enL 6 enR o.ranks,enL 5 enV o.divs,enL 5 enC o.cpls]
structure Org.ok (o:Org):Prop where
 rl:o.ranks.els.length≤9223372036854775807
 ranks:∀r∈o.ranks.els,zc3 r
 dl:o.divs.els.length≤9223372036854775807
 divs:∀d∈o.divs.els,d.ok
 cl:o.cpls.els.length≤9223372036854775807
def kH(x:Place):List Zp→List ByteArray→Int
 | [],_=>0
 |s::r,ns=>if vT x s≠0 then vT x s else if ns.any (eqB s.name)=true then 9 else kH x r (ns++[s.name])
def zjR(id:Nat)(e:Int)(m:List OC):PX:=if e≠0 then(.ret,[I6 e],m) else(.exit id,[],m)
theorem l59(k:Nat)(x:Place)(hx:x.ok)(l:Sl Zp)(hl:l.els.length≤9223372036854775807)(hs:∀s∈l.els,s.ok):∀(r:List Zp) (i:Nat) (ns:List ByteArray),l.els.drop i=r→
  ∃m,zP (znL (D (k+7)) (I6 (l.els.length:Int)) (enL 4 wp l) (enL 6 enR x.ranks) (I6 x.low) (I6 x.high)) [I6 (i:Int)] [some (ns.map enN)]=some (zjR 0 (kH x r ns) m):=by
 intro r
 induction r with
 |nil=>intro i ns h;refine⟨[some (ns.map enN)],zu ?_⟩;simp only[znL,zA,zl,zb,xP (zV h),zp];rfl
 |cons s r ih=>
  intro i ns h;have h1:=yp h;have ea:zg .add (I6 (i:Int)) (I6 1)=some (I6 ((i+1:Nat):Int)):=yu;have c:=t94 k x s hx (hs s (Lz3 (z6 h)));simp only[enP,wp]at c;have body:∃m,znL (D (k+7)) (I6 (l.els.length:Int)) (enL 4 wp l) (enL 6 enR x.ranks) (I6 x.low) (I6 x.high) [I6 (i:Int)] [some (ns.map enN)] =
    some (if vT x s≠0 then(.ret,[I6 (vT x s)],m) else if ns.any (eqB s.name)=true then(.ret,[I6 9],m) else(.normal,[I6 ((i+1:Nat):Int)],[some ((ns++[s.name]).map enN)])):=by
   refine⟨[some (ns.map enN)],?_⟩;simp only[znL,zA,yl,zl,zb,jP h1,zp,if_true,zU h,wp,xc,wi,c,yj,yq,kU,zne,jW,zrG,ea];by_cases hz:vT x s=0
   ·cases hb:ns.any (eqB s.name)<;>simp_all[qp]
   grind
  obtain⟨m,body⟩:=body;unfold kH;by_cases a1:vT x s≠0
  ·rw[Yzd a1]at body ⊢;exact⟨m,by rw[zE body];simp_all[zjR]⟩
  rw[Yzc a1]at body ⊢;by_cases a2:ns.any (eqB s.name)=true
  ·rw[Yzd a2]at body ⊢;exact⟨m,by rw[zE body];rfl⟩
  rw[Yzc a2]at body ⊢;rw[zJ body];exact ih (i+1) _ (zN h)
def ky(rs:Sl Zk)(d:Zh):Int:=if right d.low d.high≠0 then right d.low d.high else if 60<d.stops.els.length then 4 else kH ⟨rs,d.low,d.high⟩ d.stops.els []
theorem t59(k:Nat)(o:Org)(ho:o.ok)(d:Zh)(hd:d.ok):D (k+8) 59 [SA (enO o),SA (enV d)]=some (S1 (I6 (ky o.ranks d))):=by
 have hx:Place.ok ⟨o.ranks,d.low,d.high⟩:=⟨ho.rl,ho.ranks⟩;obtain⟨m,l⟩:=l59 k ⟨o.ranks,d.low,d.high⟩ hx d.stops hd.len hd.stops d.stops.els 0 [] rfl;have c:=t93 (k+6) d.low d.high;unfold enO enV;rw[D59];unfold P59 ky;simp only[c,yj,yq,zb,zp,zx,yD];by_cases h1:right d.low d.high=0
 ·by_cases h2:60<d.stops.els.length
  ·grind
  ·have h3:¬((60:Int)<(d.stops.els.length:Int)):=by omega
   simp only[Yz6]at l;rw[show (I6 0:DV)=I6 ((0:Nat):Int) from rfl,l];unfold zjR;by_cases h4:kH ⟨o.ranks,d.low,d.high⟩ d.stops.els []=0<;>simp[h1,h2,h3,h4]
 grind
def uY:List Zk→List ByteArray→Int
 | [],_=>0
 |x::r,ns=>if yR x≠0 then yR x else if ns.any (eqB x.name)=true then 9 else uY r (ns++[x.name])
theorem l27(k:Nat)(l:Sl Zk)(hl:l.els.length≤9223372036854775807)(hs:∀s∈l.els,zc3 s):∀(r:List Zk) (i:Nat) (ns:List ByteArray),l.els.drop i=r→
  ∃m,zP (znP (D (k+5)) (I6 (l.els.length:Int)) (enL 6 enR l)) [I6 (i:Int)] [some (ns.map enN)]=some (zjR 1 (uY r ns) m):=by
 intro r
 induction r with
 |nil=>intro i ns h;refine⟨[some (ns.map enN)],zu ?_⟩;simp only[znP,zA,zl,zb,xP (zV h),zp];rfl
 |cons s r ih=>
  intro i ns h;have h1:=yp h;have ea:zg .add (I6 (i:Int)) (I6 1)=some (I6 ((i+1:Nat):Int)):=yu;have c:=t57 k s (hs s (Lz3 (z6 h)));simp only[enR]at c;have body:∃m,znP (D (k+5)) (I6 (l.els.length:Int)) (enL 6 enR l) [I6 (i:Int)] [some (ns.map enN)] =
    some (if yR s≠0 then(.ret,[I6 (yR s)],m) else if ns.any (eqB s.name)=true then(.ret,[I6 9],m) else(.normal,[I6 ((i+1:Nat):Int)],[some ((ns++[s.name]).map enN)])):=by
   refine⟨[some (ns.map enN)],?_⟩;simp only[znP,zA,yl,zl,zb,jP h1,zp,if_true,zU h,enR,xc,wi,c,yj,yq,kU,zne,jW,zrG,ea];by_cases hz:yR s=0
   ·cases hb:ns.any (eqB s.name)<;>simp_all[qp]
   grind
  obtain⟨m,body⟩:=body;unfold uY;by_cases a1:yR s≠0
  ·rw[Yzd a1]at body ⊢;exact⟨m,by rw[zE body];simp_all[zjR]⟩
  rw[Yzc a1]at body ⊢;by_cases a2:ns.any (eqB s.name)=true
  ·rw[Yzd a2]at body ⊢;exact⟨m,by rw[zE body];rfl⟩
  rw[Yzc a2]at body ⊢;rw[zJ body];exact ih (i+1) _ (zN h)
def qR(rs:Sl Zk):List Zh→List ByteArray→Int
 | [],_=>0
 |d::r,ns=>if isName d.name=false then 8 else if ns.any (eqB d.name)=true then 9 else if ky rs d≠0 then ky rs d else qR rs r (ns++[d.name])
def keyOf(d:Zh):Int×Int:=(d.low,d.high)
def grow{α:Type}(l:List α):Sl α:=match l with | []=>none|_=>some l
theorem zS{α:Type}(l:List α):(grow l).els=l:=by cases l<;>rfl
theorem yG{α:Type}(l:List α)(x:α):grow (l++[x])=some ((grow l).els++[x]):=by rw[zS];cases l<;>rfl
theorem zwJ(k:Nat)(o:Org)(ho:o.ok)(hle:o.divs.els.length≤8):∀(r:List Zh) (i:Nat) (ns:List ByteArray),o.divs.els.drop i=r→
  ∃m,zP (zgm (D (k+8)) (I6 (o.divs.els.length:Int)) (enL 5 enV o.divs) (St o.name) (enL 6 enR o.ranks) (enL 5 enC o.cpls)) [I6 (i:Int)] [ocL enK (grow ((o.divs.els.take i).map keyOf)),some (ns.map enN)] =
   some (if qR o.ranks r ns≠0 then(.ret,[I6 (qR o.ranks r ns)],m) else(.exit 4,[],[ocL enK (grow (o.divs.els.map keyOf)),m.headD none])):=by
 intro r
 induction r with
 |nil=>intro i ns h;refine⟨[some (ns.map enN)],zu ?_⟩;have:o.divs.els.take i=o.divs.els:=List.take_of_length_le (zV h);simp only[zgm,zA,zl,zb,xP (zV h),zp,this];rfl
 |cons d r ih=>
  intro i ns h;have h1:=yp h;have ea:zg .add (I6 (i:Int)) (I6 1)=some (I6 ((i+1:Nat):Int)):=yu;have c:=t59 k o ho d (ho.divs d (Lz3 (z6 h)));have cn:=t56 (k+6) d.name;simp only[enO,enV]at c;have hn:o.divs.els.take (i+1)=o.divs.els.take i++[d]:=by grind
  have hlen:((grow ((o.divs.els.take i).map keyOf)).els).length=i:=by grind[zS]
  have ef:fits 16 ((grow ((o.divs.els.take i).map keyOf)).els.length+1)=true:=xu (by decide) (by omega);have body:∃m,zgm (D (k+8)) (I6 (o.divs.els.length:Int)) (enL 5 enV o.divs) (St o.name) (enL 6 enR o.ranks) (enL 5 enC o.cpls) [I6 (i:Int)] [ocL enK (grow ((o.divs.els.take i).map keyOf)),some (ns.map enN)] =
    some (if isName d.name=false then(.ret,[I6 8],m) else if ns.any (eqB d.name)=true then(.ret,[I6 9],m) else if ky o.ranks d≠0 then(.ret,[I6 (ky o.ranks d)],m)
     else(.normal,[I6 ((i+1:Nat):Int)],[ocL enK (grow ((o.divs.els.take (i+1)).map keyOf)),some ((ns++[d.name]).map enN)])):=by
   rw[hn,Yyf,Yzs,Yz6,yG];simp only[zgm,zA,yl,wo,zl,zb,jP h1,zp,if_true,zU h,enV,xc,wi,c,cn,yj,xn,yq,kU,zne,jW,zrG,ea,xf,Yzv,Yyg,ef,wa,yF];cases isName d.name with
   |false=>simp
   |true=>
    cases hb:ns.any (eqB d.name) with
    |true=>simp
    |false=>
     refine⟨[some ((ns++[d.name]).map enN)],?_⟩;have ee:=y6 (f:=enK) (grow ((o.divs.els.take i).map keyOf)) (keyOf d);rw[←ee];simp only[qp d.name ns hb,zb];by_cases hz:ky o.ranks d=0
     ·simp[hz];rfl
     grind
  obtain⟨m,body⟩:=body;unfold qR;by_cases a0:isName d.name=false
  ·simp only[Yzd a0]at body ⊢;grind[zE]
  simp only[Yzc a0]at body ⊢;by_cases a1:ns.any (eqB d.name)=true
  ·simp only[Yzd a1]at body ⊢;grind[zE]
  simp only[Yzc a1]at body ⊢;by_cases a2:ky o.ranks d≠0
  ·simp only[Yzd a2]at body ⊢;grind[zE]
  simp only[Yzc a2]at body ⊢;rw[zJ body];exact ih (i+1) _ (zN h)
def zbE(o:Org):Int:=
 if isName o.name=false then 8 else if 60<o.ranks.els.length then 4 else if uY o.ranks.els []≠0 then uY o.ranks.els [] else if o.divs.els.length=0 then 13 else if 8<o.divs.els.length then 4
 else if qR o.ranks o.divs.els []≠0 then qR o.ranks o.divs.els [] else zje (o.divs.els.map keyOf) o.cpls.els
theorem t27(k:Nat)(o:Org)(ho:o.ok):D (k+9) 27 [SA (enO o)]=some (S1 (I6 (zbE o))):=by
 obtain⟨m,l⟩:=l27 (k+3) o.ranks ho.rl ho.ranks o.ranks.els 0 [] rfl;have cn:=t56 (k+6) o.name;unfold enO;rw[D27];unfold P27 zbE;simp only[cn,yj,xn,yq,zb,zp,zx,yD,wP];cases isName o.name with
 |false=>rfl
 |true=>
  by_cases h1:60<o.ranks.els.length
  ·grind
  have h2:¬((60:Int)<(o.ranks.els.length:Int)):=by omega
  simp only[Yz6]at l;simp only[h1,h2,decide_false,Yzy,Yzi,if_false,Bool.true_eq_false];rw[show (I6 0:DV)=I6 ((0:Nat):Int) from rfl,l];unfold zjR;by_cases h3:uY o.ranks.els []≠0
  ·simp_all
  simp only[Yzc h3,ym,Yzr,Yza];by_cases h4:o.divs.els.length=0
  ·simp[h4]
  have h5:¬((o.divs.els.length:Int)=((0:Nat):Int)):=by omega
  by_cases h6:8<o.divs.els.length
  ·grind
  have h7:¬((8:Int)<(o.divs.els.length:Int)):=by omega
  obtain⟨m2,l2⟩:=zwJ k o ho (by omega) o.divs.els 0 [] rfl;simp only[Yyk,Yz6]at l2;rw[show ocL enK (grow ([]:List (Int×Int)))=none from rfl]at l2;have h9:((o.divs.els.length:Int)==0)=false:=by grind
  simp only[h4,h6,h7,h9,decide_false,Yzi,if_false];rw[l2];by_cases h8:qR o.ranks o.divs.els []≠0
  ·simp_all
  have cc:=t60 (k+4) (grow (o.divs.els.map keyOf)) o.cpls (by grind[zS]) ho.cl;simp_all[zS,zxo]
end Go.Proofs.Tryz.Kn
end
section
namespace Go.Proofs.Tryz.Kn
open Go Go.CE Go.PE
structure RPl where
 tone:Nat
 feet:Nat
 first:Int
 pipes:Nat
 w0:Nat
 w1:Nat
 w2:Nat
 w3:Nat
 w4:Nat
structure RPl.ok (r:RPl):Prop where
 tone:r.tone<256
 feet:r.feet<256
 f1:-128≤r.first
 f2:r.first≤127
 pipes:r.pipes<256
 w0:r.w0<256
 w1:r.w1<256
 w2:r.w2<256
 w3:r.w3<256
 w4:r.w4<256
def zeN(r:RPl):List DV:=[U8 (r.tone:Int),U8 (r.feet:Int),.int .i8 r.first,U8 (r.pipes:Int),U8 (r.w0:Int),U8 (r.w1:Int),U8 (r.w2:Int),U8 (r.w3:Int),U8 (r.w4:Int)]
structure Pul where
 rank:Nat
 feet:Nat
 kind:Nat
 at_:Nat
structure Pul.ok (x:Pul):Prop where
 rank:x.rank<256
 feet:x.feet<256
 kind:x.kind<256
 at_:x.at_<256
def zhv(x:Pul):List DV:=[U8 (x.rank:Int),U8 (x.feet:Int),U8 (x.kind:Int),U8 (x.at_:Int)]
structure Boa where
 low:Nat
 keys:Nat
 pedal:Bool
 stops:Sl Pul
structure Boa.ok (b:Boa):Prop where
 low:b.low<256
 keys:b.keys<256
 len:b.stops.els.length≤9223372036854775807
 stops:∀x∈b.stops.els,x.ok
def jw(b:Boa):List DV:=[U8 (b.low:Int),U8 (b.keys:Int),Bo b.pedal,enL 4 zhv b.stops]
structure Lnk where
 src:Nat
 dst:Nat
 shift:Int
 thr:Bool
structure Lnk.ok (l:Lnk):Prop where
 src:l.src<256
 dst:l.dst<256
 s1:-128≤l.shift
 s2:l.shift≤127
def zkB(l:Lnk):List DV:=[U8 (l.src:Int),U8 (l.dst:Int),.int .i8 l.shift,Bo l.thr]
structure Pln where
 ranks:Sl RPl
 divs:Sl Boa
 cpls:Sl Lnk
structure Pln.ok (p:Pln):Prop where
 rl:p.ranks.els.length≤9223372036854775807
 ranks:∀x∈p.ranks.els,x.ok
 dl:p.divs.els.length≤9223372036854775807
 divs:∀x∈p.divs.els,x.ok
 cl:p.cpls.els.length≤9223372036854775807
 cpls:∀x∈p.cpls.els,x.ok
def zeO(p:Pln):List DV:=[enL 9 zeN p.ranks,enL 4 jw p.divs,enL 4 zkB p.cpls]
def zky(l:List Boa):Bool:=l.all fun b=>decide (b.stops.els.length≤3)
def zeE(p:Pln):Bool:=decide (1≤p.ranks.els.length)&&decide (p.ranks.els.length≤3)&&decide (1≤p.divs.els.length)&&decide (p.divs.els.length≤3)&&decide (p.cpls.els.length≤3)&&zky p.divs.els
theorem l6(l:Sl Boa)(hl:l.els.length≤9223372036854775807):∀(r:List Boa) (i:Nat),l.els.drop i=r→
  zP (znJ (enL 4 jw l)) [I6 (i:Int)] []=some (if zky r then(.exit 0,[],[]) else(.ret,[Bo false],[])):=by
 intro r
 induction r with
 |nil=>
  intro i h;refine zu ?_
  grind[znJ,zA,zx,zl,zb,xP,zV,zp]
 |cons x r ih=>
  intro i h;have h1:=yp h;have ea:zg .add (I6 (i:Int)) (I6 1)=some (I6 ((i+1:Nat):Int)):=yu;have body:znJ (enL 4 jw l) [I6 (i:Int)] []=some (if x.stops.els.length≤3 then(.normal,[I6 ((i+1:Nat):Int)],[]) else(.ret,[Bo false],[])):=by
   simp only[znJ,zA,zx,zl,zb,jP h1,zp,if_true,zU h,jw,xc,wi,yD,ea]
   grind
  by_cases hc:x.stops.els.length≤3
  ·rw[Yzd hc]at body;rw[zJ body,ih (i+1) (zN h)];grind[zky]
  ·rw[Yzc hc]at body;grind[zE,zky]
theorem t6(k:Nat)(p:Pln)(hp:p.ok):D (k+1) 6 [SA (zeO p)]=some (S1 (Bo (zeE p))):=by
 have l:=l6 p.divs hp.dl p.divs.els 0 rfl;unfold zeO;rw[D6];unfold P6 zeE;simp only[zx,zb,zl,yD,zp,YzA];rw[show (I6 0:DV)=I6 ((0:Nat):Int) from rfl,l];by_cases h1:1≤p.ranks.els.length
 ·have g1:¬((p.ranks.els.length:Int)<1):=by omega
  by_cases h2:p.ranks.els.length≤3
  ·have g2:¬((3:Int)<(p.ranks.els.length:Int)):=by omega
   by_cases h3:1≤p.divs.els.length
   ·have g3:¬((p.divs.els.length:Int)<1):=by omega
    by_cases h4:p.divs.els.length≤3
    ·have g4:¬((3:Int)<(p.divs.els.length:Int)):=by omega
     by_cases h5:p.cpls.els.length≤3
     ·have g5:¬((3:Int)<(p.cpls.els.length:Int)):=by omega
      simp only[Yzc g1,Yzc g2,Yzc g3,Yzc g4,Yzc g5,decide_eq_true h1,decide_eq_true h2,decide_eq_true h3,decide_eq_true h4,decide_eq_true h5,Yyc];cases zky p.divs.els<;>rfl
     ·grind
    ·grind
   ·grind
  ·grind
 ·grind
theorem ziD{α:Type}(f:α→List DV)(l:List α)(i:Nat):znZ (some (l.map f)) i=(l[i]?).map f:=by show (l.map f)[i]? = _;rw[Lz6]
theorem t53(k:Nat)(n:Nat):D (k+1) 53 [S1 (U8 (n:Int))]=some (SA (enF (fA n))):=by
 rw[D53];unfold P53;have e:zg .rem (U8 (n:Int)) (U8 16)=some (U8 ((n % 16:Nat):Int)):=zib (b:=16) (by decide);have i:q9 (some (feetA.map enF)) (U8 ((n % 16:Nat):Int))=some (n % 16):=zir (by rw[Yzm];exact Yz1 _ (by decide));have j:znZ (some (feetA.map enF)) (n % 16)=some (enF (fA n)):=by grind[ziD,zql]
 rw[e,zb];refine (congrArg (za · _) i).trans ?_;rw[zb];refine (congrArg (za · _) j).trans ?_;rfl
theorem t54(k:Nat)(n:Nat):D (k+1) 54 [S1 (U8 (n:Int))]=some (SA (enF (fB n))):=by
 rw[D54];unfold P54;have e:zg .rem (U8 (n:Int)) (U8 6)=some (U8 ((n % 6:Nat):Int)):=zib (b:=6) (by decide);have i:q9 (some (feetB.map enF)) (U8 ((n % 6:Nat):Int))=some (n % 6):=zir (by rw[Yzm];exact Yz1 _ (by decide));have j:znZ (some (feetB.map enF)) (n % 6)=some (enF (fB n)):=by grind[ziD,zqj]
 rw[e,zb];refine (congrArg (za · _) i).trans ?_;rw[zb];refine (congrArg (za · _) j).trans ?_;rfl
def pre(c:UInt8)(i:Nat):ByteArray:=⟨#[c]⟩++zbv [48+(i:Int)] ByteArray.empty
theorem zd2(c:UInt8)(i:Nat):uZ .add (.str ⟨#[c]⟩) (.str (zbv [48+(i:Int)] ByteArray.empty))=some (St (pre c i)):=rfl
theorem za8(i:Nat):zlV (.lst 1 [[U8 (48+(i:Int))]])=some (St (zbv [48+(i:Int)] ByteArray.empty)):=rfl
def zjA:Nat→ByteArray
 |0=>⟨#[79,112,101,110]⟩
 |1=>⟨#[70,108,117,116,101]⟩
 |_=>⟨#[82,101,101,100]⟩
def wAt(r:RPl):Nat→Nat
 |0=>r.w0
 |1=>r.w1
 |2=>r.w2
 |3=>r.w3
 |_=>r.w4
def ut(r:RPl)(n:Nat):List Int:=(List.range n).map fun k=>((wAt r (k % 5):Nat):Int)
theorem zcK(r:RPl)(n:Nat):ut r (n+1)=ut r n++[((wAt r (n % 5):Nat):Int)]:=by grind[ut,List.range_succ]
theorem uS(r:RPl)(n:Nat):(ut r n).length=n:=by simp[ut]
theorem zpS{r:RPl}(h:r.ok)(i:Nat):wAt r i<256:=by
 unfold wAt;split
 ·exact h.w0
 ·exact h.w1
 ·exact h.w2
 ·exact h.w3
 ·exact h.w4
def zo5(i:Nat)(r:RPl):Zk:=⟨pre 82 (i % 10),zjA (r.tone % 3),(fA r.feet).1,(fA r.feet).2,r.first,some (ut r (1+r.pipes % 25))⟩
theorem l25(r:RPl)(hr:r.ok)(c0 c1 c2 c3 c4:DV):∀(m j:Nat),j+m=1+r.pipes % 25→
  zP (zgn (U8 (r.pipes:Int)) (U8 (r.w0:Int)) (U8 (r.w1:Int)) (U8 (r.w2:Int)) (U8 (r.w3:Int)) (U8 (r.w4:Int))) [I6 (j:Int),c0,c1,c2,c3,c4] [ocL enW (grow (ut r j))] =
   some (.exit 0,[c0,c1,c2,c3,c4],[ocL enW (grow (ut r (1+r.pipes % 25)))]):=by
 have e1:zg .rem (U8 (r.pipes:Int)) (U8 25)=some (U8 ((r.pipes % 25:Nat):Int)):=zib (b:=25) (by decide);have hm:r.pipes % 25<25:=Yz1 _ (by omega);have e2:y2 .i64 (U8 ((r.pipes % 25:Nat):Int))=some (I6 ((r.pipes % 25:Nat):Int)):=kz;have e3:zg .add (I6 1) (I6 ((r.pipes % 25:Nat):Int))=some (I6 ((1+r.pipes % 25:Nat):Int)):=by grind[yu]
 intro m
 induction m with
 |zero=>
  intro j hj;refine zu ?_;have hj':j=1+r.pipes % 25:=by omega
  subst hj';have:decide (((1+r.pipes % 25:Nat):Int)<((1+r.pipes % 25:Nat):Int))=false:=xP (by omega);simp_all[zgn]
 |succ m ih=>
  intro j hj;have hlt:decide ((j:Int)<((1+r.pipes % 25:Nat):Int))=true:=jP (by omega);have ea:zg .add (I6 (j:Int)) (I6 1)=some (I6 ((j+1:Nat):Int)):=yu;have eb:zg .rem (I6 (j:Int)) (I6 5)=some (I6 ((j % 5:Nat):Int)):=zib (b:=5) (by decide);have h5:j % 5<5:=Yz1 _ (by omega);have en:zcH 5 (I6 ((j % 5:Nat):Int))=some (j % 5):=zoE h5;have hw:=zpS hr (j % 5);have ew:atD [U8 (r.w0:Int),U8 (r.w1:Int),U8 (r.w2:Int),U8 (r.w3:Int),U8 (r.w4:Int)] (j % 5)=U8 ((wAt r (j % 5):Nat):Int):=by
   have:j % 5=0∨j % 5=1∨j % 5=2∨j % 5=3∨j % 5=4:=by omega
   rcases this with h|h|h|h|h<;>rw[h]<;>rfl
  have ec:y2 .i64 (U8 ((wAt r (j % 5):Nat):Int))=some (I6 ((wAt r (j % 5):Nat):Int)):=kz;have ef:fits 8 ((grow (ut r j)).els.length+1)=true:=xu (by decide) (by grind[zS,uS]);have body:zgn (U8 (r.pipes:Int)) (U8 (r.w0:Int)) (U8 (r.w1:Int)) (U8 (r.w2:Int)) (U8 (r.w3:Int)) (U8 (r.w4:Int)) [I6 (j:Int),c0,c1,c2,c3,c4] [ocL enW (grow (ut r j))] =
    some (.normal,[I6 ((j+1:Nat):Int),c0,c1,c2,c3,c4],[ocL enW (grow (ut r (j+1)))]):=by
   rw[zcK,yG];simp_all[zgn,y6]
  grind[zJ]
theorem t25(k:Nat)(i:Nat)(hi:i<10)(r:RPl)(hr:r.ok):D (k+2) 25 [SA (zeN r),S1 (I6 (i:Int))]=some (SA (enR (zo5 i r))):=by
 unfold zeN;rw[D25];unfold P25;have e1:zg .rem (I6 (i:Int)) (I6 10)=some (I6 ((i % 10:Nat):Int)):=zib (b:=10) (by decide);have h10:i % 10<10:=Yz1 _ (by decide);have e2:zg .add (I6 48) (I6 ((i % 10:Nat):Int))=some (I6 (48+((i % 10:Nat):Int))):=yu;have e3:y2 .u8 (I6 (48+((i % 10:Nat):Int)))=some (U8 (48+((i % 10:Nat):Int))):=by
  show some (DV.int .u8 (xl .u8 (48+((i % 10:Nat):Int))))=_
  grind[zn4]
 have e4:zg .rem (U8 (r.tone:Int)) (U8 3)=some (U8 ((r.tone % 3:Nat):Int)):=zib (b:=3) (by decide);have e5:y2 .i64 (.int .i8 r.first)=some (I6 r.first):=by
  have:=hr.f1;have:=hr.f2
  exact kz
 have l:=l25 r hr (St (pre 82 (i % 10))) (St (zjA (r.tone % 3))) (I6 (fA r.feet).1) (I6 (fA r.feet).2) (I6 r.first) (1+r.pipes % 25) 0 (by omega);rw[show ocL enW (grow (ut r 0))=none from rfl]at l;have hg:grow (ut r (1+r.pipes % 25))=some (ut r (1+r.pipes % 25)):=by grind[zcK,yG,zS]
 rw[hg]at l;have h3:r.tone % 3=0∨r.tone % 3=1∨r.tone % 3=2:=by omega
 have et:za (q9 (some [[(.str ⟨#[79,112,101,110]⟩)],[(.str ⟨#[70,108,117,116,101]⟩)],[(.str ⟨#[82,101,101,100]⟩)]]) (U8 ((r.tone % 3:Nat):Int))) (fun n6=>znZ (some [[(.str ⟨#[79,112,101,110]⟩)],[(.str ⟨#[70,108,117,116,101]⟩)],[(.str ⟨#[82,101,101,100]⟩)]]) n6)=some [St (zjA (r.tone % 3))]:=by rcases h3 with h|h|h<;>rw[h]<;>rfl
 have eu:∀{β:Type} (K:List DV→Option β),za (q9 (some [[(.str ⟨#[79,112,101,110]⟩)],[(.str ⟨#[70,108,117,116,101]⟩)],[(.str ⟨#[82,101,101,100]⟩)]]) (U8 ((r.tone % 3:Nat):Int))) (fun n6=>za (znZ (some [[(.str ⟨#[79,112,101,110]⟩)],[(.str ⟨#[70,108,117,116,101]⟩)],[(.str ⟨#[82,101,101,100]⟩)]]) n6) K)=K [St (zjA (r.tone % 3))]:=by intro β K;rcases h3 with h|h|h<;>rw[h]<;>rfl
 have c:=t53 k r.feet;simp only[e1,e2,e3,e4,zb,za8,zd2];rw[eu];rw[c];unfold enF;rw[zxn (show[I6 (fA r.feet).1,I6 (fA r.feet).2].length=2 from rfl)];simp only[e5,zb,xc,wi];rw[show (I6 0:DV)=I6 ((0:Nat):Int) from rfl,l];rfl
end Go.Proofs.Tryz.Kn
end
section
namespace Go.Proofs.Tryz.Kn
open Go Go.CE Go.PE
theorem bT2{β:Type}(a b:DV)(K:List DS→Option β):bT [none,none] (some (.tup [.one a,.one b])) K=K [.one a,.one b]:=rfl
def ze7(rs:List Zk)(i:Nat):Zk:=(rs[i]?).getD ⟨ByteArray.empty,ByteArray.empty,8,1,0,none⟩
theorem zdU{rs:List Zk}{i:Nat}(h:i<rs.length):rs[i]? = some (ze7 rs i):=by grind[ze7]
theorem qj{rs:List Zk}{i:Nat}(h:i<rs.length):ze7 rs i∈rs:=Lz3 (zdU h)
def xE(low high:Int)(n:Int)(sh:Int)(m:Int)(sh2:Int)(at_:Int):Nat→List Seg
 |2=>[⟨low,high,some [⟨n,sh⟩,⟨n,sh+7⟩]⟩]
 |3=>if low<at_ then[⟨low,at_-1,some [⟨n,sh⟩]⟩,⟨at_,high,some [⟨m,sh2⟩]⟩] else[⟨at_,high,some [⟨m,sh2⟩]⟩]
 |4=>if low<at_ then[⟨low,at_-1,some [⟨n,sh⟩]⟩,⟨at_,high,some [⟨n,sh-12⟩]⟩] else[⟨at_,high,some [⟨n,sh-12⟩]⟩]
 |5=>[⟨at_,high,some [⟨n,sh⟩]⟩]
 |_=>[⟨low,high,some [⟨n,sh⟩]⟩]
def rkF(r:Zk):Int×Int:=(r.num,r.den)
def kf(rs:List Zk)(low high:Int)(i:Nat)(x:Pul):Zp:=
 ⟨pre 83 i, (fB x.feet).1, (fB x.feet).2, some (xE low high ((x.rank % rs.length : Nat) : Int) (shf (fB x.feet) (rkF (ze7 rs (x.rank % rs.length)))) (((x.rank % rs.length + 1) % rs.length : Nat) : Int)
  (shf (fB x.feet) (rkF (ze7 rs ((x.rank % rs.length+1) % rs.length)))) (low+((x.at_:Int).tmod (high-low+1))) (x.kind % 6))⟩
theorem t26(k:Nat)(rs:List Zk)(hl:0<rs.length)(hl3:rs.length≤1000)(hf:∀r∈rs,rkF r∈feetA)(low high:Int)(h0:0≤low)(h1:low≤high)(h2:high≤1000)(x:Pul)(hx:x.ok)(i:Nat)(hi:i<10):
  D (k+6) 26 [S1 (enL 6 enR (some rs)),SA [I6 low,I6 high],SA (zhv x),S1 (I6 (i:Int))]=some (SA (wp (kf rs low high i x))):=by
 unfold zhv;rw[D26];unfold P26 kf;have hn:x.rank % rs.length<rs.length:=Yz1 _ hl;have hm:(x.rank % rs.length+1) % rs.length<rs.length:=Yz1 _ hl;generalize hN:x.rank % rs.length=n at hn hm;generalize hM:(n+1) % rs.length=m at hm;have e0:y2 .i64 (U8 (x.rank:Int))=some (I6 (x.rank:Int)):=by have:=hx.rank;exact kz
 have e1:zg .rem (I6 (x.rank:Int)) (I6 (rs.length:Int))=some (I6 (n:Int)):=by grind[zib]
 have e2:zg .add (I6 48) (I6 (i:Int))=some (I6 (48+(i:Int))):=yu;have e3:y2 .u8 (I6 (48+(i:Int)))=some (U8 (48+(i:Int))):=by
  show some (DV.int .u8 (xl .u8 (48+(i:Int))))=_
  grind[zn4]
 have c1:=t54 (k+4) x.feet;have ix:xL 6 (enL 6 enR (some rs)) (I6 (n:Int))=some (enR (ze7 rs n)):=by grind[jN,zdU]
 have ix2:xL 6 (enL 6 enR (some rs)) (I6 (m:Int))=some (enR (ze7 rs m)):=by grind[jN,zdU]
 have s1:=t55 k (fB x.feet) (rkF (ze7 rs n)) (zdt _) (hf _ (qj hn));have s2:=t55 k (fB x.feet) (rkF (ze7 rs m)) (zdt _) (hf _ (qj hm));have b1:=zlj (fB x.feet) (rkF (ze7 rs n)) (zdt _) (hf _ (qj hn));generalize shf (fB x.feet) (rkF (ze7 rs n))=sh at s1 b1 ⊢;generalize shf (fB x.feet) (rkF (ze7 rs m))=sh2 at s2 ⊢;unfold rkF enF at s1 s2;unfold enF at c1;generalize (fB x.feet).1=u at c1 s1 s2 ⊢;generalize (fB x.feet).2=v at c1 s1 s2 ⊢;simp only at s1 s2;have e4:y2 .i64 (U8 (x.at_:Int))=some (I6 (x.at_:Int)):=by have:=hx.at_;exact kz
 have e5:zg .sub (I6 high) (I6 low)=some (I6 (high-low)):=j5;have e6:zg .add (I6 (high-low)) (I6 1)=some (I6 (high-low+1)):=yu;have e7:zg .rem (I6 (x.at_:Int)) (I6 (high-low+1))=some (I6 ((x.at_:Int).tmod (high-low+1))):=za7 _ _ _ (by omega);have hq:0≤(x.at_:Int).tmod (high-low+1)∧(x.at_:Int).tmod (high-low+1)<high-low+1:=⟨Int.tmod_nonneg _ (by omega),Int.tmod_lt_of_pos _ (by omega)⟩;generalize (x.at_:Int).tmod (high-low+1)=q at e7 hq ⊢;have e8:zg .add (I6 low) (I6 q)=some (I6 (low+q)):=yu;have e9:zg .rem (U8 (x.kind:Int)) (U8 6)=some (U8 ((x.kind % 6:Nat):Int)):=zib (b:=6) (by decide);have e10:zg .add (I6 sh) (I6 7)=some (I6 (sh+7)):=yu;have e11:zg .sub (I6 sh) (I6 12)=some (I6 (sh-12)):=j5;have e12:zg .add (I6 (n:Int)) (I6 1)=some (I6 ((n+1:Nat):Int)):=yu;have e13:zg .rem (I6 ((n+1:Nat):Int)) (I6 (rs.length:Int))=some (I6 (m:Int)):=by rw[←hM];exact zib (by omega)
 have e14:zg .sub (I6 (low+q)) (I6 1)=some (I6 (low+q-1)):=j5;have f1:fits 40 1=true:=by decide
 have f2:fits 40 2=true:=by decide
 have hk:x.kind % 6<6:=Yz1 _ (by decide);generalize x.kind % 6=kd at e9 hk ⊢;have b2:∀{β:Type} (a b:DV) (K:List DV→Option β),bA 2 (some (SA [a,b])) K=K [a,b]:=fun _ _ _=>rfl;simp only[e0,zb,zx,jX,e1,e2,e3,za8,zd2,c1,b2,xc,wi,ix,enR,s1,bT2,zaS,jx,e4,e5,e6,e7,e8,e9,wP,yD,zp,e10,e11,e12,e13,ix2,s2,e14];have hkd:kd=0∨kd=1∨kd=2∨kd=3∨kd=4∨kd=5:=by omega
 rcases hkd with h|h|h|h|h|h<;>subst h
 ·rfl
 ·rfl
 ·rfl
 ·by_cases hb:low<low+q
  ·simp only[xE,Yzd hb,decide_eq_true hb];rfl
  ·simp only[xE,Yzc hb,decide_eq_false hb];rfl
 ·by_cases hb:low<low+q
  ·simp only[xE,Yzd hb,decide_eq_true hb];rfl
  ·simp only[xE,Yzc hb,decide_eq_false hb];rfl
 ·rfl
def wj:Nat→List RPl→List Zk
 |_,[]=>[]
 |i,r::l=>zo5 i r::wj (i+1) l
def xU(rs:List Zk)(low high:Int):Nat→List Pul→List Zp
 |_,[]=>[]
 |i,x::l=>kf rs low high i x::xU rs low high (i+1) l
def zdi(b:Boa):Int:=36+((b.low % 12:Nat):Int)
def qE(b:Boa):Int:=zdi b+((b.keys % 9:Nat):Int)
def zfF(rs:List Zk)(i:Nat)(b:Boa):Zh:=⟨pre 68 i,b.pedal,zdi b,qE b,grow (xU rs (zdi b) (qE b) 0 b.stops.els)⟩
def vJ(rs:List Zk):Nat→List Boa→List Zh
 |_,[]=>[]
 |i,b::l=>zfF rs i b::vJ rs (i+1) l
def kL(n:Nat)(i:Nat)(l:Lnk):Cpl:=
 ⟨pre 67 i,((l.src % n:Nat):Int),((l.dst % n:Nat):Int),if ((l.src % n:Nat):Int)=((l.dst % n:Nat):Int)∧l.shift.tmod 25=0 then 12 else l.shift.tmod 25,l.thr⟩
def kg(n:Nat):Nat→List Lnk→List Cpl
 |_,[]=>[]
 |i,c::l=>kL n i c::kg n (i+1) l
def zfv:ByteArray:=⟨#[79,114,103,97,110]⟩
def zmw(p:Pln):Org:=⟨zfv,grow (wj 0 p.ranks.els),grow (vJ (wj 0 p.ranks.els) 0 p.divs.els),grow (kg p.divs.els.length 0 p.cpls.els)⟩
theorem ub:∀(l:List RPl) (i:Nat),(wj i l).length=l.length
 | [],_=>rfl
 |_::l,i=>by simp[wj,ub l]
theorem zae:∀(l:List RPl) (i:Nat),∀r∈wj i l,rkF r∈feetA
 | [],_,_,h=>by cases h
 |x::l,i,r,h=>by
  rcases Yz7.1 h with rfl|h
  ·exact zqk x.feet
  ·exact zae l _ r h
theorem zy2(k:Nat)(l:Sl RPl)(hl:l.els.length≤3)(hr:∀x∈l.els,x.ok)(nm:DV):∀(r:List RPl) (i:Nat) (acc:List Zk),l.els.drop i=r→acc.length=i→
  zP (zvg (D (k+2)) (enL 9 zeN l)) [I6 (i:Int),nm] [ocL enR (grow acc),none,none]=some (.exit 0,[nm],[ocL enR (grow (acc++wj i r)),none,none]):=by
 intro r
 induction r with
 |nil=>grind[zu,zvg,zA,yE,yl,wo,zx,zl,zb,xP,zV,zp,wj]
 |cons x r ih=>
  intro i acc h ha;have h1:=yp h;have ea:zg .add (I6 (i:Int)) (I6 1)=some (I6 ((i+1:Nat):Int)):=yu;have c:=t25 k i (by omega) x (hr x (Lz3 (z6 h)));have ef:fits 80 ((grow acc).els.length+1)=true:=xu (by decide) (by grind[zS]);have b6:∀{β:Type} (K:List DV→Option β),bA 6 (some (SA (enR (zo5 i x)))) K=K (enR (zo5 i x)):=fun _=>rfl;have body:zvg (D (k+2)) (enL 9 zeN l) [I6 (i:Int),nm] [ocL enR (grow acc),none,none]=some (.normal,[I6 ((i+1:Nat):Int),nm],[ocL enR (grow (acc++[zo5 i x])),none,none]):=by rw[yG];unfold zeN at c;simp only[zvg,zA,yE,yl,wo,zx,zl,zb,jP h1,zp,if_true,zU h,zeN,xc,wi,c,b6,xf,Yzv,Yyg,ef,wa,ea,yF];rw[←y6 (f:=enR)];rfl
  rw[zJ body,ih (i+1) _ (zN h) (by simp[ha])];simp[wj]
theorem zwM(k:Nat)(rs:List Zk)(hl:0<rs.length)(hl3:rs.length≤1000)(hf:∀r∈rs,rkF r∈feetA)(b:Boa)(hb:b.ok)(h3:b.stops.els.length≤3)(low high:Int)(h0:0≤low)(h1:low≤high)(h2:high≤1000)(d0 d1 c0 c1:DV):
  ∀(r:List Pul) (i:Nat) (acc:List Zp),b.stops.els.drop i=r→acc.length=i→
  zP (znH (D (k+6)) (jw b) [d0,d1,enL 6 enR (some rs)]) [I6 (i:Int),c0,c1,I6 low,I6 high] [ocL wp (grow acc)]=some (.exit 4,[c0,c1,I6 low,I6 high],[ocL wp (grow (acc++xU rs low high i r))]):=by
 intro r
 induction r with
 |nil=>intro i acc h _;refine zu ?_;simp only[znH,jw,xc,wi,zA,yE,yl,zx,zl,zb,xP (zV h),zp,xU,Yzw];rfl
 |cons x r ih=>
  intro i acc h ha;have hlt:=yp h;have ea:zg .add (I6 (i:Int)) (I6 1)=some (I6 ((i+1:Nat):Int)):=yu;have c:=t26 k rs hl hl3 hf low high h0 h1 h2 x (hb.stops x (Lz3 (z6 h))) i (by omega);have ef:fits 56 ((grow acc).els.length+1)=true:=xu (by decide) (by grind[zS]);have b4:∀{β:Type} (K:List DV→Option β),bA 4 (some (SA (wp (kf rs low high i x)))) K=K (wp (kf rs low high i x)):=fun _=>rfl;have body:znH (D (k+6)) (jw b) [d0,d1,enL 6 enR (some rs)] [I6 (i:Int),c0,c1,I6 low,I6 high] [ocL wp (grow acc)]=some (.normal,[I6 ((i+1:Nat):Int),c0,c1,I6 low,I6 high],[ocL wp (grow (acc++[kf rs low high i x]))]):=by rw[yG];unfold zhv at c;simp only[znH,jw,zA,yE,yl,zx,zl,zb,jP hlt,zp,if_true,xc,wi,zU h,zhv,c,b4,xf,Yzv,Yyg,ef,wa,ea,yF];rw[←y6 (f:=wp)];rfl
  rw[zJ body,ih (i+1) _ (zN h) (by simp[ha])];simp[xU]
theorem zej(b:Boa):36≤zdi b∧zdi b≤47:=by grind[zdi]
theorem zbb(b:Boa):zdi b≤qE b∧qE b≤zdi b+8:=by grind[qE]
theorem zwQ(k:Nat)(rs:List Zk)(hl:0<rs.length)(hl3:rs.length≤1000)(hf:∀r∈rs,rkF r∈feetA)(l:Sl Boa)(hll:l.els.length≤3)(hb:∀b∈l.els,b.ok)(h3:∀b∈l.els,b.stops.els.length≤3)(nm:DV):
  ∀(r:List Boa) (i:Nat) (acc:List Zh),l.els.drop i=r→acc.length=i→
  zP (znI (D (k+6)) (enL 4 jw l)) [I6 (i:Int),nm,enL 6 enR (some rs)] [ocL enV (grow acc),none]=some (.exit 2,[nm,enL 6 enR (some rs)],[ocL enV (grow (acc++vJ rs i r)),none]):=by
 intro r
 induction r with
 |nil=>grind[zu,znI,zA,yE,yl,wo,zx,zl,zb,xP,zV,zp,vJ]
 |cons b r ih=>
  intro i acc h ha;have hlt:=yp h;have hmem:=Lz3 (z6 h);have ea:zg .add (I6 (i:Int)) (I6 1)=some (I6 ((i+1:Nat):Int)):=yu;have hlow:=zej b;have hhigh:=zbb b;have e1:zg .rem (U8 (b.low:Int)) (U8 12)=some (U8 ((b.low % 12:Nat):Int)):=zib (b:=12) (by decide);have e2:y2 .i64 (U8 ((b.low % 12:Nat):Int))=some (I6 ((b.low % 12:Nat):Int)):=kz;have e3:zg .add (I6 36) (I6 ((b.low % 12:Nat):Int))=some (I6 (zdi b)):=yu;have e4:zg .add (I6 48) (I6 (i:Int))=some (I6 (48+(i:Int))):=yu;have e5:y2 .u8 (I6 (48+(i:Int)))=some (U8 (48+(i:Int))):=by show some (DV.int .u8 (xl .u8 (48+(i:Int))))=_;rw[zn4];congr 2;omega
  have e6:zg .rem (U8 (b.keys:Int)) (U8 9)=some (U8 ((b.keys % 9:Nat):Int)):=zib (b:=9) (by decide);have e7:y2 .i64 (U8 ((b.keys % 9:Nat):Int))=some (I6 ((b.keys % 9:Nat):Int)):=kz;have e8:zg .add (I6 (zdi b)) (I6 ((b.keys % 9:Nat):Int))=some (I6 (qE b)):=by have:zg .add (I6 (zdi b)) (I6 ((b.keys % 9:Nat):Int))=some (I6 (zdi b+((b.keys % 9:Nat):Int))):=yu;exact this
  have ll:=zwM k rs hl hl3 hf b (hb b hmem) (h3 b hmem) (zdi b) (qE b) (by omega) (by omega) (by omega) (I6 (i:Int)) nm (St (pre 68 i)) (Bo b.pedal) b.stops.els 0 [] rfl rfl;rw[show ocL wp (grow ([]:List Zp))=none from rfl,show (I6 ((0:Nat):Int):DV)=I6 0 from rfl,Yz0]at ll;have ef:fits 64 ((grow acc).els.length+1)=true:=xu (by decide) (by grind[zS]);have body:znI (D (k+6)) (enL 4 jw l) [I6 (i:Int),nm,enL 6 enR (some rs)] [ocL enV (grow acc),none]=some (.normal,[I6 ((i+1:Nat):Int),nm,enL 6 enR (some rs)],[ocL enV (grow (acc++[zfF rs i b])),none]):=by rw[yG];have ix:xL 4 (enL 4 jw l) (I6 (i:Int))=some (jw b):=zU h _;have q0:atD (jw b) 0=U8 (b.low:Int):=rfl;have q1:atD (jw b) 1=U8 (b.keys:Int):=rfl;have q2:atD (jw b) 2=Bo b.pedal:=rfl;simp only[znI,zA,yE,yl,wo,zx,zl,zb,jP hlt,zp,if_true,ix,q0,q1,q2,e1,e2,e3,e4,e5,za8,zd2,e6,e7,e8,ll,ym,Yzr,Yza,xf,Yzv,Yyg,ef,wa,ea,yF,zaf];rw[←y6 (f:=enV)];rfl
  rw[zJ body,ih (i+1) _ (zN h) (by simp[ha])];simp[vJ]
theorem zwF(n:Nat)(hn:0<n)(hn3:n≤1000)(l:Sl Lnk)(hll:l.els.length≤3)(hb:∀b∈l.els,b.ok)(nm rk:DV)(dv:OC):
  ∀(r:List Lnk) (i:Nat) (acc:List Cpl),l.els.drop i=r→acc.length=i→
  zP (znG (enL 4 zkB l) (I6 (n:Int))) [I6 (i:Int),nm,rk] [dv,ocL enC (grow acc)]=some (.exit 6,[nm,rk],[dv,ocL enC (grow (acc++kg n i r))]):=by
 intro r
 induction r with
 |nil=>grind[zu,znG,zA,yE,yl,wo,zx,zl,zb,xP,zV,zp,kg]
 |cons b r ih=>
  intro i acc h ha;have hlt:=yp h;have hbb:=hb b (Lz3 (z6 h));have ea:zg .add (I6 (i:Int)) (I6 1)=some (I6 ((i+1:Nat):Int)):=yu;have e4:zg .add (I6 48) (I6 (i:Int))=some (I6 (48+(i:Int))):=yu;have e5:y2 .u8 (I6 (48+(i:Int)))=some (U8 (48+(i:Int))):=by show some (DV.int .u8 (xl .u8 (48+(i:Int))))=_;rw[zn4];congr 2;omega
  have g1:y2 .i64 (U8 (b.src:Int))=some (I6 (b.src:Int)):=by have:=hbb.src;exact kz
  have g2:zg .rem (I6 (b.src:Int)) (I6 (n:Int))=some (I6 ((b.src % n:Nat):Int)):=zib (by omega);have g3:y2 .i64 (U8 (b.dst:Int))=some (I6 (b.dst:Int)):=by have:=hbb.dst;exact kz
  have g4:zg .rem (I6 (b.dst:Int)) (I6 (n:Int))=some (I6 ((b.dst % n:Nat):Int)):=zib (by omega);have g5:y2 .i64 (.int .i8 b.shift)=some (I6 b.shift):=by have:=hbb.s1;have:=hbb.s2;exact kz
  have g6:zg .rem (I6 b.shift) (I6 25)=some (I6 (b.shift.tmod 25)):=za7 _ _ _ (by decide);have ef:fits 48 ((grow acc).els.length+1)=true:=xu (by decide) (by grind[zS]);have body:znG (enL 4 zkB l) (I6 (n:Int)) [I6 (i:Int),nm,rk] [dv,ocL enC (grow acc)]=some (.normal,[I6 ((i+1:Nat):Int),nm,rk],[dv,ocL enC (grow (acc++[kL n i b]))]):=by
   rw[yG,←y6 (f:=enC)];simp only[znG,zA,yE,yl,wo,zx,zl,zb,jP hlt,zp,if_true,zU h,zkB,xc,wi,e4,e5,za8,zd2,g1,g2,g3,g4,g5,g6,wP,xf,Yzv,Yyg,ef,wa,ea,yF];unfold kL enC;by_cases h1:((b.src % n:Nat):Int)=((b.dst % n:Nat):Int)
   ·by_cases h2:b.shift.tmod 25=0<;>grind
   ·grind
  rw[zJ body,ih (i+1) _ (zN h) (by simp[ha])];simp[kg]
theorem jq{p:Pln}(h:zeE p=true):1≤p.ranks.els.length∧p.ranks.els.length≤3∧1≤p.divs.els.length∧p.divs.els.length≤3∧p.cpls.els.length≤3∧∀b∈p.divs.els,b.stops.els.length≤3:=by simp_all[zeE,zky]
theorem zhj{α:Type}{l:List α}(h:0<l.length):grow l=some l:=by cases l with|nil=>simp at h|cons _ _=>rfl
theorem t7(k:Nat)(p:Pln)(hp:p.ok)(hf:zeE p=true):D (k+7) 7 [SA (zeO p)]=some (SA (enO (zmw p))):=by obtain⟨f1,f2,f3,f4,f5,f6⟩:=jq hf;have hlen:(wj 0 p.ranks.els).length=p.ranks.els.length:=ub _ _;have l2:=zy2 (k+4) p.ranks f2 hp.ranks (St zfv) p.ranks.els 0 [] rfl rfl;have l12:=zwQ k (wj 0 p.ranks.els) (by omega) (by omega) (zae _ _) p.divs f4 hp.divs f6 (St zfv) p.divs.els 0 [] rfl rfl;have l43:=zwF p.divs.els.length (by omega) (by omega) p.cpls f5 hp.cpls (St zfv) (enL 6 enR (some (wj 0 p.ranks.els))) (ocL enV (grow (vJ (wj 0 p.ranks.els) 0 p.divs.els))) p.cpls.els 0 [] rfl rfl;rw[show ocL enR (grow ([]:List Zk))=none from rfl,show (I6 ((0:Nat):Int):DV)=I6 0 from rfl,Yz0]at l2;rw[show ocL enV (grow ([]:List Zh))=none from rfl,show (I6 ((0:Nat):Int):DV)=I6 0 from rfl,Yz0]at l12;rw[show ocL enC (grow ([]:List Cpl))=none from rfl,show (I6 ((0:Nat):Int):DV)=I6 0 from rfl,Yz0]at l43;have hg:grow (wj 0 p.ranks.els)=some (wj 0 p.ranks.els):=zhj (by omega);unfold zeO;rw[D7];unfold P7 zmw enO;unfold zfv at l2 l12 l43;rw[hg]at l2 ⊢;simp only[l2,ym,Yzr,Yza,zA,yE,yl,wo,zaf,l12,zx,zb,l43];rfl
end Go.Proofs.Tryz.Kn
end
section
namespace Go.Proofs.Tryz.Kn
open Go Go.CE Go.PE
theorem zoU:([82,83,68,67].all fun c=>[0,1,2,3,4,5,6,7,8,9].all fun i=>isName (pre c i))=true:=by kernel_rfl
theorem jT{c:UInt8}(hc:c∈([82,83,68,67]:List UInt8)){i:Nat}(h:i<10):isName (pre c i)=true:=by
 have:=YzJ.1 (YzJ.1 zoU c hc) i;refine this ?_;have:i=0∨i=1∨i=2∨i=3∨i=4∨i=5∨i=6∨i=7∨i=8∨i=9:=by omega
 simp_all
theorem zrx:([82,83,68,67].all fun c=>[0,1,2].all fun i=>[0,1,2].all fun j=>Nat.beq i j || !eqB (pre c i) (pre c j))=true:=by kernel_rfl
theorem zeL{c:UInt8}(hc:c∈([82,83,68,67]:List UInt8)){i j:Nat}(hi:i<3)(hj:j<3)(h:i≠j):eqB (pre c i) (pre c j)=false:=by
 have hm:∀n<3,n∈([0,1,2]:List Nat):=by trivial
 have:=YzJ.1 (YzJ.1 (YzJ.1 zrx c hc) i (hm i hi)) j (hm j hj);simp_all
theorem zhd(n:Nat):isName (zjA n)=true:=by unfold zjA;split<;>rfl
theorem zjx(r:RPl)(hr:r.ok)(n:Nat):(ut r n).any wh=false:=by
 rw[List.any_eq_false];intro x hx;unfold ut at hx;obtain⟨k,_,rfl⟩:=List.mem_map.1 hx;have:=zpS hr (k % 5);unfold wh
 grind
theorem zmx(i:Nat)(r:RPl)(hr:r.ok):yR (zo5 i r)=0:=by
 have h1:=jT (c:=82) (by simp) (show i % 10<10 by omega);have h2:=zuL _ (zqk r.feet);have h3:=zjx r hr (1+r.pipes % 25);have h4:=uS r (1+r.pipes % 25);have:=hr.f1;have:=hr.f2
 have h5:decide (-256≤r.first)=true:=decide_eq_true (by omega);have h6:decide (r.first≤256)=true:=decide_eq_true (by omega);have h7:¬(1+r.pipes % 25=0):=by omega
 have h8:¬(128<1+r.pipes % 25):=by omega
 unfold yR zo5;simp only[h1,zhd,h2,h5,h6,jX,h4,h3,h7,h8,Yzy,Yzi,if_false,Bool.and_self,ne_eq,not_true_eq_false]
theorem zgT(l:List Zk)(h:∀r∈l,yR r=0):wN l=0:=by induction l<;>simp_all[wN]
theorem ziH:∀(l:List RPl) (i:Nat),(∀r∈l,r.ok)→∀x∈wj i l,yR x=0
 | [],_,_,_,h=>by cases h
 |r::l,i,H,x,h=>by
  rcases Yz7.1 h with rfl|h
  ·grind[zmx]
  ·exact ziH l _ (fun r hr=>H r (Yze _ hr)) x h
theorem ziI:∀(l:List RPl) (i:Nat),i+l.length≤3→(∀r∈l,r.ok)→uY (wj i l) ((List.range i).map (pre 82))=0
 | [],_,_,_=>rfl
 |r::l,i,hl,H=>by
  simp only[Yzv]at hl;have h1:=zmx i r (H r (Yzh ..));have hi:i % 10=i:=by omega
  have h2:((List.range i).map (pre 82)).any (eqB (zo5 i r).name)=false:=by
   rw[List.any_eq_false];intro s hs;obtain⟨j,hj,rfl⟩:=List.mem_map.1 hs;have hj:=List.mem_range.1 hj;have:=zeL (c:=82) (by simp) (show i<3 by omega) (show j<3 by omega) (by omega);show ¬eqB (pre 82 (i % 10)) (pre 82 j)=true
   grind
  unfold wj uY;rw[Yzc (by omega),Yzc (by grind)];have:(List.range i).map (pre 82)++[(zo5 i r).name]=(List.range (i+1)).map (pre 82):=by
   rw[List.range_succ,Yyf];show _++[pre 82 (i % 10)]=_
   grind
  rw[this];exact ziI l (i+1) (by omega) fun r hr=>H r (Yze _ hr)
theorem zaJ:∀(l:List RPl) (i:Nat),∀r∈wj i l,zc3 r
 | [],_,_,h=>by cases h
 |x::l,i,r,h=>by
  rcases Yz7.1 h with rfl|h
  ·show (ut x (1+x.pipes % 25)).length≤_
   grind[uS]
  ·exact zaJ l _ r h
theorem kV(n:Nat)(d:Zo)(h1:0≤d.rank)(h2:d.rank<(n:Int))(h3:-127≤d.shift)(h4:d.shift≤127):yY n [d]=0:=by simp_all[yY,kW,Yzc]
theorem zhy(n:Nat)(d e:Zo)(h1:0≤d.rank)(h2:d.rank<(n:Int))(h3:-127≤d.shift)(h4:d.shift≤127)(g1:0≤e.rank)(g2:e.rank<(n:Int))(g3:-127≤e.shift)(g4:e.shift≤127)(hne:e≠d):yY n [d,e]=0:=by simp_all[yY,kW,Yzc]
theorem zqS(x:Place)(hlow:0≤x.low)(hlh:x.low≤x.high)(n m:Int)(sh sh2 at_:Int)(h1:0≤n)(h2:n<(x.ranks.els.length:Int))(h3:0≤m)(h4:m<(x.ranks.els.length:Int))(s1:-100≤sh)(s2:sh≤100)(s3:-100≤sh2)(s4:sh2≤100)(a1:x.low≤at_)(a2:at_≤x.high)(kd:Nat):
  (xE x.low x.high n sh m sh2 at_ kd).length≠0∧(xE x.low x.high n sh m sh2 at_ kd).length≤12∧uw x (xE x.low x.high n sh m sh2 at_ kd) none=0:=by
 have d1:=kV x.ranks.els.length ⟨n,sh⟩ h1 h2 (by grind) (by grind);have d2:=kV x.ranks.els.length ⟨m,sh2⟩ h3 h4 (by grind) (by grind);have d3:=kV x.ranks.els.length ⟨n,sh-12⟩ h1 h2 (by grind) (by grind);have d4:=zhy x.ranks.els.length ⟨n,sh⟩ ⟨n,sh+7⟩ h1 h2 (by grind) (by grind) h1 h2 (by grind) (by grind) (fun h=>by grind);have one:∀(lo hi:Int) (ds:List Zo) (p:Option Int) (r:List Seg),x.low≤lo→lo≤hi→hi≤x.high→leO lo p=false→yY x.ranks.els.length ds=0→uw x (⟨lo,hi,some ds⟩::r) p=uw x r (some hi):=by
  intro lo hi ds p r e1 e2 e3 e4 e5;rw[uw]
  grind
 unfold xE;split
 ·refine⟨by simp,by simp,?_⟩;rw[one _ _ _ _ _ (by omega) (by omega) (by omega) rfl d4];rfl
 ·by_cases hb:x.low<at_
  ·rw[Yzd hb];refine⟨by simp,by simp,?_⟩;rw[one _ _ _ _ _ (by omega) (by omega) (by omega) rfl d1,one _ _ _ _ _ (by omega) (by omega) (by omega) (by grind[leO]) d2];rfl
  ·rw[Yzc hb];refine⟨by simp,by simp,?_⟩;rw[one _ _ _ _ _ (by omega) (by omega) (by omega) rfl d2];rfl
 ·by_cases hb:x.low<at_
  ·rw[Yzd hb];refine⟨by simp,by simp,?_⟩;rw[one _ _ _ _ _ (by omega) (by omega) (by omega) rfl d1,one _ _ _ _ _ (by omega) (by omega) (by omega) (by grind[leO]) d3];rfl
  ·rw[Yzc hb];refine⟨by simp,by simp,?_⟩;rw[one _ _ _ _ _ (by omega) (by omega) (by omega) rfl d3];rfl
 ·refine⟨by simp,by simp,?_⟩;rw[one _ _ _ _ _ (by omega) (by omega) (by omega) rfl d1];rfl
 ·refine⟨by simp,by simp,?_⟩;rw[one _ _ _ _ _ (by omega) (by omega) (by omega) rfl d1];rfl
theorem zmu(rs:List Zk)(hl:0<rs.length)(hl3:rs.length≤60)(hr:∀r∈rs,yR r=0)(hf:∀r∈rs,rkF r∈feetA)(low high:Int)(h0:0≤low)(h1:low≤high)(h2:high≤127)(i:Nat)(hi:i<10)(x:Pul):vT ⟨some rs,low,high⟩ (kf rs low high i x)=0:=by
 have p1:uz ⟨some rs,low,high⟩=0:=by unfold uz;rw[Yzc (by grind),Yzc (by rw[show Sl.els (Place.mk (some rs) low high).ranks=rs from rfl,zgT rs hr];simp)];simp_all[right,Yzc]
 have hn:x.rank % rs.length<rs.length:=Yz1 _ hl;have hm:(x.rank % rs.length+1) % rs.length<rs.length:=Yz1 _ hl;have b1:=zlj (fB x.feet) (rkF (ze7 rs (x.rank % rs.length))) (zdt _) (hf _ (qj hn));have b2:=zlj (fB x.feet) (rkF (ze7 rs ((x.rank % rs.length+1) % rs.length))) (zdt _) (hf _ (qj hm));have hq:0≤(x.at_:Int).tmod (high-low+1)∧(x.at_:Int).tmod (high-low+1)<high-low+1:=⟨Int.tmod_nonneg _ (by omega),Int.tmod_lt_of_pos _ (by omega)⟩;obtain⟨s1,s2,s3⟩:=zqS ⟨some rs,low,high⟩ h0 h1 ((x.rank % rs.length:Nat):Int) (((x.rank % rs.length+1) % rs.length:Nat):Int) (shf (fB x.feet) (rkF (ze7 rs (x.rank % rs.length)))) (shf (fB x.feet) (rkF (ze7 rs ((x.rank % rs.length+1) % rs.length)))) (low+((x.at_:Int).tmod (high-low+1)))
  (by omega) (by grind) (by omega) (by grind) b1.1 b1.2 b2.1 b2.2 (by grind) (by grind) (x.kind % 6)
 unfold vT kf;rw[Yzc (by omega),Yzc (by grind[jT]),Yzc (by grind[zuK,zdt]),Yzc (by trivial),Yzc (by grind)];exact s3
theorem zdf(rs:List Zk)(hl:0<rs.length)(hl3:rs.length≤60)(hr:∀r∈rs,yR r=0)(hf:∀r∈rs,rkF r∈feetA)(low high:Int)(h0:0≤low)(h1:low≤high)(h2:high≤127):
  ∀(l:List Pul) (i:Nat),i+l.length≤3→kH ⟨some rs,low,high⟩ (xU rs low high i l) ((List.range i).map (pre 83))=0
 | [],_,_=>rfl
 |x::l,i,h=>by
  simp only[Yzv]at h;have e1:=zmu rs hl hl3 hr hf low high h0 h1 h2 i (by omega) x;have e2:((List.range i).map (pre 83)).any (eqB (kf rs low high i x).name)=false:=by
   rw[List.any_eq_false];intro s hs;obtain⟨j,hj,rfl⟩:=List.mem_map.1 hs;have hj:=List.mem_range.1 hj;have:=zeL (c:=83) (by simp) (show i<3 by omega) (show j<3 by omega) (by omega);show ¬eqB (pre 83 i) (pre 83 j)=true
   grind
  unfold xU kH;rw[Yzc (by omega),Yzc (by grind)];have:(List.range i).map (pre 83)++[(kf rs low high i x).name]=(List.range (i+1)).map (pre 83):=by rw[List.range_succ,Yyf];rfl
  rw[this];exact zdf rs hl hl3 hr hf low high h0 h1 h2 l (i+1) (by omega)
theorem uC(rs:List Zk)(low high:Int):∀(l:List Pul) (i:Nat),(xU rs low high i l).length=l.length
 | [],_=>rfl
 |_::l,i=>by simp[xU,uC rs low high l]
theorem zlx(b:Boa):right (zdi b) (qE b)=0:=by
 have:=zej b;have:=zbb b
 unfold right;omega
theorem zo4(rs:List Zk)(hl:0<rs.length)(hl3:rs.length≤60)(hr:∀r∈rs,yR r=0)(hf:∀r∈rs,rkF r∈feetA)(i:Nat)(b:Boa)(hb:b.stops.els.length≤3):ky (some rs) (zfF rs i b)=0:=by
 have:=zej b;have:=zbb b
 unfold ky zfF;simp only[zS,uC,zlx];rw[Yzc (by simp),Yzc (by omega)]
 grind[zdf]
theorem zfE(rs:List Zk)(hl:0<rs.length)(hl3:rs.length≤60)(hr:∀r∈rs,yR r=0)(hf:∀r∈rs,rkF r∈feetA):
  ∀(l:List Boa) (i:Nat),i+l.length≤3→(∀b∈l,b.stops.els.length≤3)→qR (some rs) (vJ rs i l) ((List.range i).map (pre 68))=0
 | [],_,_,_=>rfl
 |x::l,i,h,H=>by
  simp only[Yzv]at h;have e1:=zo4 rs hl hl3 hr hf i x (H x (Yzh ..));have e2:((List.range i).map (pre 68)).any (eqB (zfF rs i x).name)=false:=by
   rw[List.any_eq_false];intro s hs;obtain⟨j,hj,rfl⟩:=List.mem_map.1 hs;have hj:=List.mem_range.1 hj;have:=zeL (c:=68) (by simp) (show i<3 by omega) (show j<3 by omega) (by omega);show ¬eqB (pre 68 i) (pre 68 j)=true
   grind
  have e3:isName (zfF rs i x).name=true:=jT (c:=68) (by simp) (by omega);unfold vJ qR;rw[Yzc (by grind),Yzc (by grind),Yzc (by omega)];have:(List.range i).map (pre 68)++[(zfF rs i x).name]=(List.range (i+1)).map (pre 68):=by rw[List.range_succ,Yyf];rfl
  rw[this];exact zfE rs hl hl3 hr hf l (i+1) (by omega) fun b hb=>H b (Yze _ hb)
theorem wX(rs:List Zk):∀(l:List Boa) (i:Nat),(vJ rs i l).length=l.length
 | [],_=>rfl
 |_::l,i=>by simp[vJ,wX rs l]
theorem zbV(rs:List Zk):∀(l:List Boa) (i:Nat),((vJ rs i l).map keyOf).any (fun k=>right k.1 k.2 != 0)=false
 | [],_=>rfl
 |b::l,i=>by
  simp only[vJ,Yzs,List.any_cons,zbV rs l]
  grind[keyOf,zfF,zlx]
theorem zfH(n:Nat)(hn:0<n):∀(l:List Lnk) (i:Nat) (p:List Cpl),i+l.length≤3→(∀c∈l,c.ok)→p.map Cpl.name=(List.range i).map (pre 67)→zhC n p (kg n i l)=0
 | [],_,_,_,_,_=>rfl
 |x::l,i,p,h,H,hp=>by
  simp only[Yzv]at h;have e2:p.any (fun y=>eqB y.name (kL n i x).name)=false:=by
   rw[List.any_eq_false];intro y hy;have:y.name∈(List.range i).map (pre 67):=by grind
   obtain⟨j,hj,e⟩:=List.mem_map.1 this;have hj:=List.mem_range.1 hj;have:=zeL (c:=67) (by simp) (show j<3 by omega) (show i<3 by omega) (by omega);rw[←e];show ¬eqB (pre 67 j) (pre 67 i)=true
   grind
  have e3:isName (kL n i x).name=true:=jT (c:=67) (by simp) (by omega);have a1:x.src % n<n:=Yz1 _ hn;have a2:x.dst % n<n:=Yz1 _ hn;have hs:-25<x.shift.tmod 25∧x.shift.tmod 25<25:=by grind
  have q:∀a:Bool,True:=fun _=>trivial;have f0:¬(kL n i x).src<0:=by show ¬((x.src % n:Nat):Int)<0;omega
  have f1:¬(n:Int)≤(kL n i x).src:=by show ¬(n:Int)≤((x.src % n:Nat):Int);omega
  have f2:¬(kL n i x).dst<0:=by show ¬((x.dst % n:Nat):Int)<0;omega
  have f3:¬(n:Int)≤(kL n i x).dst:=by show ¬(n:Int)≤((x.dst % n:Nat):Int);omega
  have f4:-127≤(kL n i x).shift∧(kL n i x).shift≤127∧¬((kL n i x).src=(kL n i x).dst∧(kL n i x).shift=0):=by grind[kL]
  unfold kg zhC;rw[Yzc (by grind),Yzc (by grind),Yzc f0,Yzc f1,Yzc f2,Yzc f3,Yzc (by omega),Yzc (by omega),Yzc f4.2.2];refine zfH n hn l (i+1) _ (by omega) (fun c hc=>H c (Yze _ hc)) ?_;rw[Yyf,hp,List.range_succ,Yyf];rfl
theorem jO(n:Nat):∀(l:List Lnk) (i:Nat),(kg n i l).length=l.length
 | [],_=>rfl
 |_::l,i=>by simp[kg,jO n l]
theorem zkg(p:Pln)(hp:p.ok)(hf:zeE p=true):zbE (zmw p)=0:=by obtain⟨f1,f2,f3,f4,f5,f6⟩:=jq hf;have hlen:(wj 0 p.ranks.els).length=p.ranks.els.length:=ub _ _;have hg:grow (wj 0 p.ranks.els)=some (wj 0 p.ranks.els):=zhj (by omega);have r1:=ziI p.ranks.els 0 (by omega) hp.ranks;have d1:=zfE (wj 0 p.ranks.els) (by omega) (by omega) (ziH _ _ hp.ranks) (zae _ _) p.divs.els 0 (by omega) f6;have c1:=zfH p.divs.els.length (by omega) p.cpls.els 0 [] (by omega) hp.cpls rfl;have k1:=zbV (wj 0 p.ranks.els) p.divs.els 0;simp only[List.range_zero,Yz6]at r1 d1;unfold zbE zmw;simp only[zS,hg,jX,hlen,wX];rw[Yzc (by trivial),Yzc (by omega),Yzc (by omega),Yzc (by omega),Yzc (by omega),Yzc (by omega)];unfold zje;rw[Yzc (by grind[wX]),Yzc (by grind[jO]),Yzc (by grind),Yzm,wX];exact c1
theorem zbT(rs:List Zk)(low high:Int):∀(l:List Pul) (i:Nat),∀s∈xU rs low high i l,s.ok
 | [],_,_,h=>by cases h
 |x::l,i,s,h=>by
  rcases Yz7.1 h with rfl|h
  ·have hall:∀n sh m sh2 a kd,(xE low high n sh m sh2 a kd).length≤2∧∀g∈xE low high n sh m sh2 a kd,g.draws.els.length≤2:=by
    intro n sh m sh2 a kd;unfold xE
    grind
   obtain⟨q1,q2⟩:=hall ((x.rank % rs.length:Nat):Int) (shf (fB x.feet) (rkF (ze7 rs (x.rank % rs.length)))) (((x.rank % rs.length+1) % rs.length:Nat):Int)
    (shf (fB x.feet) (rkF (ze7 rs ((x.rank % rs.length+1) % rs.length)))) (low+((x.at_:Int).tmod (high-low+1))) (x.kind % 6)
   refine⟨?_,fun g hg=>?_⟩
   ·show (xE _ _ _ _ _ _ _ _).length≤_;omega
   ·have:=q2 g hg;show g.draws.els.length≤_;omega
  ·exact zbT rs low high l _ s h
theorem zrA(p:Pln)(hf:zeE p=true):(zmw p).ok:=by
 obtain⟨f1,f2,f3,f4,f5,f6⟩:=jq hf;have hd:∀(rs:List Zk) (l:List Boa) (i:Nat),(∀b∈l,b.stops.els.length≤3)→∀d∈vJ rs i l,d.ok:=by
  intro rs l
  induction l with
  |nil=>intro i _ d h;cases h
  |cons b l ih=>
   intro i H d h;rcases Yz7.1 h with rfl|h
   ·have:=H b (Yzh ..);refine⟨?_,fun s hs=>?_⟩
    ·show (grow (xU rs (zdi b) (qE b) 0 b.stops.els)).els.length≤_
     grind[zS,uC]
    ·have hs:s∈(grow (xU rs (zdi b) (qE b) 0 b.stops.els)).els:=hs
     grind[zS,zbT]
   ·grind
 unfold zmw;refine⟨?_,fun r hr=>?_,?_,fun d h=>?_,?_⟩<;>grind[zS,ub,zaJ,wX,jO]
end Go.Proofs.Tryz.Kn
end
section
namespace Go.Proofs.Tryz.Kn
open Go Go.CE Go.PE
def zzY(a b:Int):Int:=IntKind.wrap .u64 (BitVec.ofInt IntKind.u64.bits a &&& ~~~(BitVec.ofInt IntKind.u64.bits b)).toNat
def zAd(a b:Int):Int:=IntKind.wrap .u64 (BitVec.ofInt IntKind.u64.bits a &&& BitVec.ofInt IntKind.u64.bits b).toNat
theorem zAC(a b:Int):zg .andNot (U64 a) (U64 b)=some (U64 (zzY a b)):=by rfl
theorem zzW(a b:Int):zg .and (U64 a) (U64 b)=some (U64 (zAd a b)):=by rfl
def zAo(a:Int)(n:Nat):Int:=Int.fdiv a (2^(min n 64))
theorem zBc{k:IntKind}(a:Int)(n:Nat):zlQ false (U64 a) (.int k (n:Int))=some (U64 (zAo a n)):=by rfl
theorem zAH{m:Nat}(h:m≤4611686018427387904):xl .u64 (m:Int)=(m:Int):=by grind[zkU]
theorem zAV{k:IntKind}{n:Nat}(h:n≤62):zlQ true (U64 1) (.int k (n:Int))=some (U64 ((2^n:Nat):Int)):=by
 have h0:ltI (n:Int) 0=false:=by rfl
 show oD (zhn .u64 1 (n:Int))=_;unfold zhn;rw[h0,Yzb];have hm:min (n:Int).toNat IntKind.u64.bits=n:=by rw[Int.toNat_natCast];show min n 64=n;omega
 rw[hm];have hp:(2^n:Nat)≤2^62:=Nat.pow_le_pow_right (by decide) h;have e:Int.mul 1 (2^n)=((2^n:Nat):Int):=by simp
 rw[e,zAH (Yzp hp (by decide))];rfl
theorem zBK{n:Nat}(h:n≤62):zg .sub (U64 ((2^n:Nat):Int)) (U64 1)=some (U64 ((2^n-1:Nat):Int)):=by
 have hp:(2^n:Nat)≤2^62:=Nat.pow_le_pow_right (by decide) h
 grind[zoF,zAH]
theorem zAG(b:Int):zzY 0 b=0:=by unfold zzY;rw[show BitVec.ofInt IntKind.u64.bits 0=0#_ from rfl,BitVec.zero_and];rfl
theorem zB2(a b:Int):zg .neq (U64 a) (U64 b)=some (Bo (!(a==b))):=yq _ _ _
abbrev enU(n:Int):List DV:=[U64 n]
structure Reg where
 stops:Sl Int
 cpls:Int
 off:Int
def zAE(r:Reg):List DV:=[enL 1 enU r.stops,U64 r.cpls,U64 r.off]
def zz6:List Zh→List Int→Bool
 |d::ds,s::ss=>!(zAo s d.stops.els.length==0)||zz6 ds ss
 |_,_=>false
def zAr(o:Org)(r:Reg):Int:=
 if zbE o≠0 then zbE o else if r.stops.els.length≠o.divs.els.length then 5 else if zz6 o.divs.els r.stops.els=true then 3
 else if zAo r.cpls o.cpls.els.length≠0 then 3 else if zAo r.off o.divs.els.length≠0 then 3 else 0
theorem l33(dv:Sl Zh)(hd:dv.els.length≤9223372036854775807)(st:Sl Int)(hl:st.els.length=dv.els.length):∀(ds:List Zh) (ss:List Int) (i:Nat),dv.els.drop i=ds→st.els.drop i=ss→
  zP (zAZ (I6 (dv.els.length:Int)) (enL 5 enV dv) (enL 1 enU st)) [I6 (i:Int)] []=some (if zz6 ds ss=true then(.ret,[I6 3],[]) else(.exit 0,[],[])):=by
 intro ds
 induction ds with
 |nil=>
  intro ss i h _;refine zu ?_
  grind[zAZ,zA,zl,zb,xP,zV,zp]
 |cons d ds ih=>
  intro ss i h h';have h1:=yp h;cases ss with
  |nil=>have:=zV h';omega
  |cons s ss=>
   have ea:zg .add (I6 (i:Int)) (I6 1)=some (I6 ((i+1:Nat):Int)):=yu;have body:zAZ (I6 (dv.els.length:Int)) (enL 5 enV dv) (enL 1 enU st) [I6 (i:Int)] []=some (if zAo s d.stops.els.length=0 then(.normal,[I6 ((i+1:Nat):Int)],[]) else(.ret,[I6 3],[])):=by
    simp only[zAZ,zA,zl,zb,jP h1,zp,if_true,zU h,zU h',enV,xc,wi,zx,zBc,zB2,ea]
    grind
   by_cases hc:zAo s d.stops.els.length=0
   ·rw[Yzd hc]at body;rw[zJ body,ih ss (i+1) (zN h) (zN h')];grind[zz6]
   ·rw[Yzc hc]at body;grind[zE,zz6]
theorem t33(k:Nat)(o:Org)(ho:o.ok)(r:Reg):D (k+10) 33 [SA (enO o),SA (zAE r)]=some (S1 (I6 (zAr o r))):=by
 have c:=t27 k o ho;unfold enO at c ⊢;unfold zAE;rw[D33];unfold P33 zAr;simp only[c,yj,yq,zb,zp,zx];by_cases h1:zbE o=0
 ·by_cases h2:r.stops.els.length=o.divs.els.length
  ·have e:(!((r.stops.els.length:Int)==(o.divs.els.length:Int)))=false:=by simp[h2]
   have l:=l33 o.divs ho.dl r.stops h2 o.divs.els r.stops.els 0 rfl rfl;simp only[h1,h2,Yz9,Yzy,Yzi,if_false,ne_eq,not_true_eq_false];rw[show (I6 0:DV)=I6 ((0:Nat):Int) from rfl,l];cases zz6 o.divs.els r.stops.els with
   |true=>rfl
   |false=>
    simp only[Yzi,if_false,ym,Yzr,Yza,zBc,zb,zB2,zp]
    grind
  ·grind
 grind
theorem zsE{β:Type}(o:Org)(K:List DV→Option β):bA 4 (some (SA (enO o))) K=K (enO o):=rfl
theorem zu5(o:Org):[atD (enO o) 0,atD (enO o) 1,atD (enO o) 2,atD (enO o) 3]=enO o:=rfl
def zz4(n:Nat):Int:=((2^n-1:Nat):Int)
def zAW(d:Zh):Int:=zz4 d.stops.els.length
def enB(b:Nat→Nat):List DV:=[U8 (b 0:Int),U8 (b 1:Int),U8 (b 2:Int),U8 (b 3:Int),U8 (b 4:Int)]
def zzV(b:Nat→Nat):Nat→List Zh→List Int
 |_,[]=>[]
 |i,d::r=>zAd (b (i % 3):Int) (zAW d)::zzV b (i+1) r
def zz2(o:Org)(b:Nat→Nat):Reg:=⟨grow (zzV b 0 o.divs.els),zAd (b 3:Int) (zz4 o.cpls.els.length),zAd (b 4:Int) (zz4 o.divs.els.length)⟩
theorem l14(b:Nat→Nat)(hb:∀i,b i<256)(dv:Sl Zh)(hl:dv.els.length≤1000)(hs:∀d∈dv.els,d.stops.els.length≤60)(c0 c1:DV):∀(r:List Zh) (i:Nat) (acc:List Int),dv.els.drop i=r→acc.length=i→
  zP (zAA (enL 5 enV dv) (U8 (b 0:Int)) (U8 (b 1:Int)) (U8 (b 2:Int)) (U8 (b 3:Int)) (U8 (b 4:Int))) [I6 (i:Int),c0,c1] [ocL enU (grow acc)]=some (.exit 0,[c0,c1],[ocL enU (grow (acc++zzV b i r))]):=by
 intro r
 induction r with
 |nil=>grind[zu,zAA,zA,yE,yl,zx,zl,zb,xP,zV,zp,zzV]
 |cons d r ih=>
  intro i acc h ha;have h1:=yp h;have hd:=hs d (Lz3 (z6 h));have ea:zg .add (I6 (i:Int)) (I6 1)=some (I6 ((i+1:Nat):Int)):=yu;have e1:zg .rem (I6 (i:Int)) (I6 3)=some (I6 ((i % 3:Nat):Int)):=zib (b:=3) (by decide);have h3:i % 3<3:=Yz1 _ (by decide);have e2:zcH 5 (I6 ((i % 3:Nat):Int))=some (i % 3):=zoE (by omega);have e3:atD [U8 (b 0:Int),U8 (b 1:Int),U8 (b 2:Int),U8 (b 3:Int),U8 (b 4:Int)] (i % 3)=U8 (b (i % 3):Int):=by
   have:i % 3=0∨i % 3=1∨i % 3=2:=by omega
   rcases this with h|h|h<;>rw[h]<;>rfl
  have hbb:=hb (i % 3);have e4:y2 .u64 (U8 (b (i % 3):Int))=some (U64 (b (i % 3):Int)):=zuV (by omega);have e5:y2 .u64 (I6 (d.stops.els.length:Int))=some (U64 (d.stops.els.length:Int)):=zuV (by omega);have sh:zlQ true (U64 1) (U64 (d.stops.els.length:Int))=some (U64 ((2^d.stops.els.length:Nat):Int)):=zAV (by omega);have sb:zg .sub (U64 ((2^d.stops.els.length:Nat):Int)) (U64 1)=some (U64 (zAW d)):=zBK (by omega);have ef:fits 8 ((grow acc).els.length+1)=true:=xu (by decide) (by grind[zS]);have body:zAA (enL 5 enV dv) (U8 (b 0:Int)) (U8 (b 1:Int)) (U8 (b 2:Int)) (U8 (b 3:Int)) (U8 (b 4:Int)) [I6 (i:Int),c0,c1] [ocL enU (grow acc)]=some (.normal,[I6 ((i+1:Nat):Int),c0,c1],[ocL enU (grow (acc++[zAd (b (i % 3):Int) (zAW d)]))]):=by rw[yG,←y6 (f:=enU)];simp only[zAA,zA,yE,yl,zx,zl,zb,jP h1,zp,if_true,e1,e2,e3,e4,zU h,enV,xc,wi,e5,sh,sb,zzW,xf,Yzv,Yyg,ef,wa,ea,yF]
  rw[zJ body,ih (i+1) _ (zN h) (by simp[ha])];simp[zzV]
theorem t14(k:Nat)(o:Org)(b:Nat→Nat)(hb:∀i,b i<256)(hd:o.divs.els.length≤60)(hs:∀d∈o.divs.els,d.stops.els.length≤60)(hc:o.cpls.els.length≤60):D (k+1) 14 [SA (enO o),SA (enB b)]=some (SA (zAE (zz2 o b))):=by
 have h3:=hb 3;have h4:=hb 4
 have e3:y2 .u64 (U8 (b 3:Int))=some (U64 (b 3:Int)):=zuV (by omega);have e4:y2 .u64 (U8 (b 4:Int))=some (U64 (b 4:Int)):=zuV (by omega);have f3:y2 .u64 (I6 (o.cpls.els.length:Int))=some (U64 (o.cpls.els.length:Int)):=zuV (by omega);have f4:y2 .u64 (I6 (o.divs.els.length:Int))=some (U64 (o.divs.els.length:Int)):=zuV (by omega);have s3:zlQ true (U64 1) (U64 (o.cpls.els.length:Int))=some (U64 ((2^o.cpls.els.length:Nat):Int)):=zAV (by omega);have s4:zlQ true (U64 1) (U64 (o.divs.els.length:Int))=some (U64 ((2^o.divs.els.length:Nat):Int)):=zAV (by omega);have g3:zg .sub (U64 ((2^o.cpls.els.length:Nat):Int)) (U64 1)=some (U64 (zz4 o.cpls.els.length)):=zBK (by omega);have g4:zg .sub (U64 ((2^o.divs.els.length:Nat):Int)) (U64 1)=some (U64 (zz4 o.divs.els.length)):=zBK (by omega);have l:=l14 b hb o.divs (by omega) hs (U64 (zAd (b 3:Int) (zz4 o.cpls.els.length))) (U64 (zAd (b 4:Int) (zz4 o.divs.els.length))) o.divs.els 0 [] rfl rfl;rw[show ocL enU (grow ([]:List Int))=none from rfl,Yz0]at l;unfold enO enB;rw[D14];unfold P14;simp only[zb,xc,wi,e3,e4,zx,f3,f4,s3,s4,g3,g4,zzW];rw[show (I6 0:DV)=I6 ((0:Nat):Int) from rfl,l];simp only[ym,Yzr,Yza,yl,zA,yE,zaf];rfl
theorem zCf{α:Type}{f:α→List DV}{st off:Nat}{l:List α}{i:Nat}{x x':α}{ds:List DV}(hx:l[i]? = some x)(hle:off+ds.length≤st)(h:(f x).take off++ds++(f x).drop (off+ds.length)=f x'):
  zxL st (some (l.map f)) i off ds=some (some ((l.set i x').map f)):=by
 simp_all[zxL,Yzf]
end Go.Proofs.Tryz.Kn
end
section
namespace Go.Proofs.Tryz.Kn
open Go Go.CE Go.PE
def bit(a:Int)(i:Nat):Bool:=zAd (zAo a i) 1==1
theorem zBo(a b:Int):zg .eql (U64 a) (U64 b)=some (Bo (a==b)):=wP _ _ _
theorem zBk:((List.range 256).all fun x=>[0,1,2,3].all fun n=>zAo (zAd (x:Int) (zz4 n)) n==0)=true:=by kernel_rfl
theorem zAn{x n:Nat}(hx:x<256)(hn:n≤3):zAo (zAd (x:Int) (zz4 n)) n=0:=by
 have h:=YzJ.1 (YzJ.1 zBk x (List.mem_range.2 hx)) n (by grind)
 grind
theorem zz9(b:Nat→Nat):∀(l:List Zh) (i:Nat),(zzV b i l).length=l.length
 | [],_=>rfl
 |d::l,i=>by simp[zzV,zz9 b l (i+1)]
theorem zAh(b:Nat→Nat)(hb:∀i,b i<256):∀(l:List Zh) (i:Nat),(∀d∈l,d.stops.els.length≤3)→zz6 l (zzV b i l)=false
 | [],_,_=>rfl
 |d::l,i,h=>by rw[zzV,zz6,show zAW d=zz4 d.stops.els.length from rfl,zAn (hb _) (h d (Yzh ..)),zAh b hb l (i+1) fun x hx=>h x (Yze _ hx)];rfl
theorem zAq{o:Org}(h:zbE o=0)(b:Nat→Nat)(hb:∀i,b i<256)(hd:o.divs.els.length≤3)(hs:∀d∈o.divs.els,d.stops.els.length≤3)(hc:o.cpls.els.length≤3):zAr o (zz2 o b)=0:=by simp_all[zAr,zz2,zS,zz9,zAh,zAn]
end Go.Proofs.Tryz.Kn
end
section
namespace Go.Proofs.Tryz.Kn
open Go Go.CE Go.PE
def qd(d:Zh):Prop:=36≤d.low∧d.low≤d.high∧d.high≤55∧d.stops.els.length≤3∧d.name.size=2∧∀s∈d.stops.els,s.name.size=2
structure Zr (o:Org):Prop where
 rl:o.ranks.els.length≤3
 dl:o.divs.els.length≤3
 cl:o.cpls.els.length≤3
 rk:∀r∈o.ranks.els,r.wind.els.length≤25
 dv:∀d∈o.divs.els,qd d
 cn:∀c∈o.cpls.els,c.name.size=2
theorem zdg:∀(l:List RPl) (i:Nat),∀r∈wj i l,r.wind.els.length≤25
 | [],_,_,h=>by cases h
 |x::l,i,r,h=>by
  rcases Yz7.1 h with rfl|h
  ·show (ut x (1+x.pipes % 25)).length≤25;rw[uS];omega
  ·exact zdg l _ r h
theorem zde(rs:List Zk)(low high:Int):∀(l:List Pul) (i:Nat),∀s∈xU rs low high i l,s.name.size=2
 | [],_,_,h=>by cases h
 |x::l,i,s,h=>by
  rcases Yz7.1 h with rfl|h
  ·rfl
  ·exact zde rs low high l _ s h
theorem zfG(n:Nat):∀(l:List Lnk) (i:Nat),∀c∈kg n i l,c.name.size=2
 | [],_,_,h=>by cases h
 |x::l,i,s,h=>by
  rcases Yz7.1 h with rfl|h
  ·rfl
  ·exact zfG n l _ s h
theorem zbU(rs:List Zk):∀(l:List Boa) (i:Nat),(∀b∈l,b.stops.els.length≤3)→∀d∈vJ rs i l,qd d
 | [],_,_,_,h=>by cases h
 |b::l,i,hb,d,h=>by
  rcases Yz7.1 h with rfl|h
  ·have:=zej b;have:=zbb b
   refine⟨by show 36≤zdi b;omega,by show zdi b≤qE b;omega,by show qE b≤55;omega,?_,rfl,?_⟩
   ·show (grow (xU rs (zdi b) (qE b) 0 b.stops.els)).els.length≤3;rw[zS,uC];exact hb b (by simp)
   ·show ∀s∈(grow (xU rs (zdi b) (qE b) 0 b.stops.els)).els,s.name.size=2;rw[zS];exact zde _ _ _ _ _
  ·exact zbU rs l _ (fun b h=>hb b (by simp[h])) d h
theorem zth(p:Pln)(hf:zeE p=true):Zr (zmw p):=by
 obtain⟨f1,f2,f3,f4,f5,f6⟩:=jq hf;unfold zmw;refine⟨?_,?_,?_,?_,?_,?_⟩<;>simp only[zS,ub,wX,jO]
 ·exact f2
 ·exact f4
 ·exact f5
 ·exact zdg _ _
 ·exact zbU _ _ _ f6
 ·exact zfG _ _ _
def KW(d:Zh):Int:=d.high-d.low+1
def KS(d:Zh):Int:=(d.stops.els.length:Int)
def tot(w:Zh→Int):List Zh→Int
 | []=>0
 |d::l=>w d+tot w l
theorem kF(w:Zh→Int):tot w []=0:=rfl
theorem vG(w:Zh→Int)(d:Zh)(l:List Zh):tot w (d::l)=w d+tot w l:=rfl
theorem zk5{w:Zh→Int}{b:Int}:∀{l:List Zh},(∀d∈l,0≤w d∧w d≤b)→0≤tot w l∧tot w l≤b*(l.length:Int)
 | [],_=>by simp[tot]
 |d::l,h=>by
  have h1:=h d (by simp);have h2:=zk5 (l:=l) fun d hd=>h d (by simp[hd]);rw[vG,Yzv]
  push_cast
  rw[Int.mul_add];omega
theorem zbl{l:List Zh}(hl:l.length≤3)(h:∀d∈l,qd d):0≤tot KW l∧tot KW l≤60:=by
 have:=zk5 (w:=KW) (b:=20) fun d hd=>by obtain⟨q1,q2,q3,q4,q5,q6⟩:=h d hd;unfold KW;omega
 omega
theorem zcO{l:List Zh}(hl:l.length≤3)(h:∀d∈l,qd d):0≤tot KS l∧tot KS l≤9:=by
 have:=zk5 (w:=KS) (b:=3) fun d hd=>by obtain⟨q1,q2,q3,q4,q5,q6⟩:=h d hd;unfold KS;omega
 omega
def qy(w:Zh→Int):List Zh→Int→List Int
 | [],_=>[]
 |d::l,n=>n::qy w l (n+w d)
theorem zix(w:Zh→Int):∀(l:List Zh) (n:Int) (i:Nat),i<l.length→(qy w l n)[i]? = some (n+tot w (l.take i))
 | [],_,_,h=>by simp at h
 |d::l,n,0,_=>by simp[qy,tot]
 |d::l,n,i+1,h=>by have:=zix w l (n+w d) i (by simpa using h);simp[qy,this,tot,Int.add_assoc]
def cpN(o:Org):Int:=tot KW o.divs.els+tot KS o.divs.els
def wG(o:Org):List DV:=[enL 1 enW (grow (qy KW o.divs.els 0)),enL 1 enW (grow (qy KS o.divs.els (tot KW o.divs.els))),I6 (cpN o),I6 (cpN o+(o.cpls.els.length:Int)),I6 (cpN o+(o.cpls.els.length:Int)+(o.divs.els.length:Int))]
theorem zwH(dv:Sl Zh)(hl:dv.els.length≤3)(hd:∀d∈dv.els,qd d)(x y:DV)(m:OC):∀(r:List Zh) (i:Nat) (n:Int) (acc:List Int),dv.els.drop i=r→acc.length=i→0≤n→n≤100+20*(i:Int)→
  zP (znO (I6 (dv.els.length:Int)) (enL 5 enV dv)) [I6 (i:Int),x,y,I6 n] [ocL enW (grow acc),m]=some (.exit 0,[x,y,I6 (n+tot KW r)],[ocL enW (grow (acc++qy KW r n)),m]):=by
 intro r
 induction r with
 |nil=>intro i n acc h _ _ _;refine zu ?_;simp only[znO,zA,yE,yl,wo,zl,zb,xP (zV h),zp,qy,Yzw,kF,Int.add_zero];rfl
 |cons d r ih=>
  intro i n acc h ha h0 h1;have hlt:=yp h;have q:=hd d (Lz3 (z6 h));have hw:KW d=d.high-d.low+1:=rfl;obtain⟨q1,q2,q3,q4,q5,q6⟩:=q;have ea:zg .add (I6 (i:Int)) (I6 1)=some (I6 ((i+1:Nat):Int)):=yu;have e1:zg .sub (I6 d.high) (I6 d.low)=some (I6 (d.high-d.low)):=j5;have e2:zg .add (I6 (d.high-d.low)) (I6 1)=some (I6 (KW d)):=yu;have e3:zg .add (I6 n) (I6 (KW d))=some (I6 (n+KW d)):=yu;have ef:fits 8 ((grow acc).els.length+1)=true:=xu (by decide) (by grind[zS]);have body:znO (I6 (dv.els.length:Int)) (enL 5 enV dv) [I6 (i:Int),x,y,I6 n] [ocL enW (grow acc),m]=some (.normal,[I6 ((i+1:Nat):Int),x,y,I6 (n+KW d)],[ocL enW (grow (acc++[n])),m]):=by rw[yG,←y6 (f:=enW)];simp only[znO,zA,yE,yl,wo,zl,zb,jP hlt,zp,if_true,zU h,enV,xc,wi,xf,ef,wa,e1,e2,e3,ea,yF]
  rw[zJ body,ih (i+1) _ _ (zN h) (by simp[ha]) (by omega) (by push_cast;omega)];simp[qy,vG,Int.add_assoc]
theorem zup(dv:Sl Zh)(hl:dv.els.length≤3)(hd:∀d∈dv.els,qd d)(x y:DV)(m:OC):∀(r:List Zh) (i:Nat) (n:Int) (acc:List Int),dv.els.drop i=r→acc.length=i→0≤n→n≤100+20*(i:Int)→
  zP (zgl (I6 (dv.els.length:Int)) (enL 5 enV dv)) [I6 (i:Int),x,y,I6 n] [m,ocL enW (grow acc)]=some (.exit 2,[x,y,I6 (n+tot KS r)],[m,ocL enW (grow (acc++qy KS r n))]):=by
 intro r
 induction r with
 |nil=>intro i n acc h _ _ _;refine zu ?_;simp only[zgl,zA,yE,yl,wo,zl,zb,xP (zV h),zp,qy,Yzw,kF,Int.add_zero];rfl
 |cons d r ih=>
  intro i n acc h ha h0 h1;have hlt:=yp h;have q:=hd d (Lz3 (z6 h));have hw:KW d=d.high-d.low+1:=rfl;obtain⟨q1,q2,q3,q4,q5,q6⟩:=q;have ea:zg .add (I6 (i:Int)) (I6 1)=some (I6 ((i+1:Nat):Int)):=yu;have e3:zg .add (I6 n) (I6 ((d.stops.els.length:Int)))=some (I6 (n+KS d)):=yu;have ef:fits 8 ((grow acc).els.length+1)=true:=xu (by decide) (by grind[zS]);have body:zgl (I6 (dv.els.length:Int)) (enL 5 enV dv) [I6 (i:Int),x,y,I6 n] [m,ocL enW (grow acc)]=some (.normal,[I6 ((i+1:Nat):Int),x,y,I6 (n+KS d)],[m,ocL enW (grow (acc++[n]))]):=by rw[yG,←y6 (f:=enW)];simp only[zgl,zA,yE,yl,wo,zl,zb,jP hlt,zp,if_true,zU h,enV,xc,wi,xf,ef,wa,zx,e3,ea,yF]
  rw[zJ body,ih (i+1) _ _ (zN h) (by simp[ha]) (by unfold KS;omega) (by unfold KS;push_cast;omega)];simp[qy,vG,Int.add_assoc]
theorem t28(k:Nat)(o:Org)(ht:Zr o):D (k+1) 28 [SA (enO o)]=some (SA (wG o)):=by have l1:=zwH o.divs ht.dl ht.dv (I6 0) (I6 0) none o.divs.els 0 0 [] rfl rfl (by omega) (by omega);have tk:=zbl ht.dl ht.dv;have ts:=zcO ht.dl ht.dv;have l2:=zup o.divs ht.dl ht.dv (I6 0) (I6 0) (ocL enW (grow (qy KW o.divs.els 0))) o.divs.els 0 (tot KW o.divs.els) [] rfl rfl (by omega) (by omega);rw[show ocL enW (grow ([]:List Int))=none from rfl,show (I6 ((0:Nat):Int):DV)=I6 0 from rfl,Yz0]at l1 l2;rw[Int.zero_add]at l1;have hc:=ht.cl;have hdl:=ht.dl;have e1:zg .add (I6 (tot KW o.divs.els+tot KS o.divs.els)) (I6 (o.cpls.els.length:Int))=some (I6 (tot KW o.divs.els+tot KS o.divs.els+(o.cpls.els.length:Int))):=yu;have e2:zg .add (I6 (tot KW o.divs.els+tot KS o.divs.els+(o.cpls.els.length:Int))) (I6 (o.divs.els.length:Int))=some (I6 (tot KW o.divs.els+tot KS o.divs.els+(o.cpls.els.length:Int)+(o.divs.els.length:Int))):=yu;unfold enO;rw[D28];unfold P28;simp only[zx,zb,l1,ym,Yzr,Yza,zA,yE,yl,wo,l2,e1,e2,zaf];rfl
end Go.Proofs.Tryz.Kn
end
section
namespace Go.Proofs.Tryz.Kn
open Go Go.CE Go.PE
theorem xT{α:Type}{st:Nat}{f:α→List DV}{v:Sl α}{i:Nat}{x:α}(h:v.els[i]? = some x)(k:IntKind):xL st (enL st f v) (.int k (i:Int))=some (f x):=by rw[jN,h];rfl
end Go.Proofs.Tryz.Kn
end
section
namespace Go.Proofs.Tryz.Kn
open Go Go.CE Go.PE
theorem zdK{w:Zh→Int}:∀(l:List Zh) (i:Nat) (d:Zh),l[i]? = some d→tot w (l.take (i+1))=tot w (l.take i)+w d
 | [],_,_,h=>by simp at h
 |d0::l,0,d,h=>by simp only[Yzg,Option.some.injEq]at h;simp[tot,h]
 |d0::l,i+1,d,h=>by have:=zdK (w:=w) l i d (by simpa using h);simp only[List.take_succ_cons,vG,this,Int.add_assoc]
theorem zio{st:Nat}(w:Zh→Int)(l:List Zh)(n:Int)(i:Nat)(h:i<l.length)(k:IntKind):xL st (enL st enW (grow (qy w l n))) (.int k (i:Int))=some [I6 (n+tot w (l.take i))]:=by rw[jN,zS,zix w l n i h];rfl
section
variable (o:Org) (ht:Zr o) (v:Int) (hv:0≤v) (x y:DV)
include ht hv
end
def zkF(o:Org):Int:=cpN o+(o.cpls.els.length:Int)+(o.divs.els.length:Int)
end Go.Proofs.Tryz.Kn
end
section
namespace Go.Proofs.Tryz.Kn
open Go Go.CE Go.PE
theorem zAP{x y:Nat}(hx:x<2^64)(hy:y<2^64):zg .and (U64 (x:Int)) (U64 (y:Int))=some (U64 ((x &&& y:Nat):Int)):=by rw[zzW];exact congrArg (fun z=>some (U64 z)) (zxr hx hy)
theorem zBN{x y:Nat}(hx:x<2^64)(hy:y<2^64):x ||| y<2^64:=Nat.or_lt_two_pow hx hy
theorem zCh{x y:Nat}(hx:x<2^64)(hy:y<2^64):IntKind.wrap .u64 (BitVec.ofInt IntKind.u64.bits (x:Int) ||| BitVec.ofInt IntKind.u64.bits (y:Int)).toNat=((x ||| y:Nat):Int):=by
 have e:(BitVec.ofInt IntKind.u64.bits (x:Int) ||| BitVec.ofInt IntKind.u64.bits (y:Int)).toNat=x ||| y:=by show (BitVec.ofInt 64 (x:Int) ||| BitVec.ofInt 64 (y:Int)).toNat=x ||| y;rw[BitVec.toNat_or,BitVec.ofInt_natCast,BitVec.ofInt_natCast,BitVec.toNat_ofNat,BitVec.toNat_ofNat,Nat.mod_eq_of_lt hx,Nat.mod_eq_of_lt hy]
 rw[e];have:=zBN hx hy;rw[←ww,zkU];omega
theorem zCg(x y:Int):zg .or (U64 x) (U64 y)=some (U64 (IntKind.wrap .u64 (BitVec.ofInt IntKind.u64.bits x ||| BitVec.ofInt IntKind.u64.bits y).toNat)):=(rfl)
theorem zAs{x y:Nat}(hx:x<2^64)(hy:y<2^64):zg .or (U64 (x:Int)) (U64 (y:Int))=some (U64 ((x ||| y:Nat):Int)):=by rw[zCg,zCh hx hy]
theorem zA5{x y:Nat}(hx:x<2^64)(hy:y<2^64):zzY (x:Int) (y:Int)=((x &&& (2^64-1-y):Nat):Int):=by
 have e:(BitVec.ofInt IntKind.u64.bits (x:Int) &&& ~~~(BitVec.ofInt IntKind.u64.bits (y:Int))).toNat=x &&& (2^64-1-y):=by show (BitVec.ofInt 64 (x:Int) &&& ~~~(BitVec.ofInt 64 (y:Int))).toNat=_;rw[BitVec.toNat_and,BitVec.toNat_not,BitVec.ofInt_natCast,BitVec.ofInt_natCast,BitVec.toNat_ofNat,BitVec.toNat_ofNat,Nat.mod_eq_of_lt hx,Nat.mod_eq_of_lt hy]
 unfold zzY;rw[e];have:x &&& (2^64-1-y)≤x:=Nat.and_le_left;rw[←ww,zkU];omega
theorem zAL{x y:Nat}(hx:x<2^64)(hy:y<2^64):zzY (x:Int) (y:Int)=0↔∀i,x.testBit i=true→y.testBit i=true:=by
 rw[zA5 hx hy];have hb:∀i,(x &&& (2^64-1-y)).testBit i=(x.testBit i&&(decide (i<64) && !y.testBit i)):=by intro i;rw[Nat.testBit_and,show 2^64-1-y=2^64-(y+1) by omega,Nat.testBit_two_pow_sub_succ hy]
 constructor
 ·intro h i hi;have h0:x &&& (2^64-1-y)=0:=by omega
  have:=hb i;rw[h0,Nat.zero_testBit,hi]at this;have h64:i<64:=by refine Nat.lt_of_not_le fun hle=>?_;rw[Nat.testBit_lt_two_pow (Lz9 hx (Nat.pow_le_pow_right (by decide) hle))]at hi;cases hi
  simpa[h64] using this.symm
 ·intro h;have:x &&& (2^64-1-y)=0:=by
   refine Nat.eq_of_testBit_eq fun i=>?_;rw[hb i,Nat.zero_testBit];cases hx':x.testBit i with
   |false=>rfl
   |true=>rw[h i hx'];simp
  omega
theorem zBL(x n:Nat)(hn:n<64):zAo (x:Int) n=((x / 2^n:Nat):Int):=by unfold zAo;rw[show min n 64=n by omega,Int.fdiv_eq_ediv_of_nonneg _ (Int.le_of_lt (Int.pow_pos (by decide)))];rw[show (2:Int)^n=((2^n:Nat):Int) by simp];exact(Int.natCast_ediv _ _).symm
theorem zz5{x n:Nat}(hx:x<2^64)(hn:n<64):bit (x:Int) n=x.testBit n:=by
 unfold bit;rw[zBL x n hn];have h1:x / 2^n<2^64:=Nat.lt_of_le_of_lt (Nat.div_le_self _ _) hx;have e:zAd ((x / 2^n:Nat):Int) 1=((x / 2^n &&& 1:Nat):Int):=zxr h1 (y:=1) (by decide);rw[e,Nat.and_one_is_mod,Nat.testBit_eq_decide_div_mod_eq];have:x / 2^n % 2<2:=Yz1 _ (by decide);by_cases h:x / 2^n % 2=1
 ·rw[h];simp
 ·have h0:x / 2^n % 2=0:=by omega
  rw[h0];simp
theorem zB3{x:Nat}(h:∀b,x.testBit b=true→b≤55):x<2^56:=by
 refine Nat.lt_pow_two_of_testBit _ fun i hi=>?_;cases hb:x.testBit i with
 |false=>rfl
 |true=>have:=h i hb;omega
def zAp(s:Nat)(l:List Nat):Nat:=l.foldl (fun s n=>s ||| 2^n) s
theorem zz1:∀(l:List Nat) (s i:Nat),(zAp s l).testBit i=(s.testBit i||decide (i∈l))
 | [],s,i=>by simp[zAp]
 |n::l,s,i=>by
  show (zAp (s ||| 2^n) l).testBit i=_;rw[zz1 l,Nat.testBit_or,Nat.testBit_two_pow];by_cases h:n=i
  ·subst h;simp
  ·have:¬i=n:=fun e=>h e.symm;simp[h,this]
theorem zBl{l:List Nat}(h:∀n∈l,n≤55):zAp 0 l<2^56:=by refine zB3 fun b hb=>?_;rw[zz1]at hb;simp at hb;exact h b hb
def enG(n:Nat):List DV:=[I6 (n:Int)]
def zzX(s:Nat):List DV:=[U64 (s:Int),U64 0]
theorem t62(k:Nat){n:Nat}(h:n≤127):D (k+1) 62 [S1 (I6 (n:Int))]=some (S1 (Bo true)):=by rw[D62];unfold P62;simp only[xF,wO,zb,zp];rw[Yzd (by simp),decide_eq_true (by omega)]
theorem t65(k:Nat){s n:Nat}(hs:s<2^64)(hn:n≤55):D (k+1) 65 [SA [U64 (s:Int),U64 0],S1 (I6 (n:Int))]=some (SA [U64 ((s ||| 2^n:Nat):Int),U64 0]):=by have e1:zlQ true (U64 1) (I6 (n:Int))=some (U64 ((2^n:Nat):Int)):=zAV (by omega);have hp:2^n<2^64:=Nat.pow_lt_pow_right (by decide) (by omega);rw[D65];unfold P65;simp only[zl,zb,zp,decide_eq_true (show (n:Int)<64 by omega),if_true,e1,zAs hs hp]
theorem bA2{β:Type}(a b:DV)(K:List DV→Option β):bA 2 (some (SA [a,b])) K=K [a,b]:=rfl
theorem zBX(k:Nat)(l:Sl Nat)(hl:l.els.length≤1000)(hn:∀n∈l.els,n≤55)(x y:DV):∀(r:List Nat) (i s:Nat),l.els.drop i=r→s<2^56→
  zP (zA9 (D (k+1)) (I6 (l.els.length:Int)) (enL 1 enG l)) [I6 (i:Int),x,y,U64 (s:Int),U64 0] []=some (.exit 0,[x,y,U64 ((zAp s r:Nat):Int),U64 0],[]):=by
 intro r
 induction r with
 |nil=>intro i s h _;refine zu ?_;simp only[zA9,zA,yE,zl,zb,xP (zV h),zp,zAp,List.foldl_nil];rfl
 |cons n r ih=>
  intro i s h hs;have hlt:=yp h;have hn':=hn n (Lz3 (z6 h));have ea:zg .add (I6 (i:Int)) (I6 1)=some (I6 ((i+1:Nat):Int)):=yu;have c1:=t62 k (n:=n) (by omega);have c2:=t65 k (s:=s) (n:=n) (Nat.lt_trans hs (by decide)) hn';have hs2:s ||| 2^n<2^56:=Nat.or_lt_two_pow hs (Nat.pow_lt_pow_right (by decide) (by omega));rw[zJ (by simp only[zA9,zA,yE,zl,zb,jP hlt,zp,if_true,zU h,enG,xc,wi,c1,yj,xn,Yzy,Yzi,if_false,c2,bA2,ea];rfl),ih (i+1) _ (zN h) hs2]
  rfl
theorem t32(k:Nat)(l:Sl Nat)(hl:l.els.length≤1000)(hn:∀n∈l.els,n≤55):D (k+2) 32 [S1 (enL 1 enG l)]=some (.tup [.agg (zzX (zAp 0 l.els)),.one (I6 0)]):=by have:=zBX k l hl hn (U64 0) (U64 0) l.els 0 0 rfl (by decide);rw[show (I6 ((0:Nat):Int):DV)=I6 0 from rfl,show (U64 ((0:Nat):Int):DV)=U64 0 from rfl]at this;rw[D32];unfold P32;simp only[zx,zb,this,ym,Yzr,Yza,zA,yE,zzX]
theorem zBV(k:Nat)(hi:Int)(h55:hi≤55):∀(m n s:Nat),(n:Int)+(m:Int)=hi+1→s<2^56→
  zP (zA6 (D (k+1)) (I6 hi)) [I6 (n:Int),U64 (s:Int),U64 0] []=some (.exit 0,[U64 ((zAp s (List.range' n m):Nat):Int),U64 0],[]):=by
 intro m
 induction m with
 |zero=>intro n s h _;refine zu ?_;simp only[zA6,zA,yE,wO,zb,decide_eq_false (show ¬(n:Int)≤hi by omega),zp,List.range'_zero,zAp,List.foldl_nil];rfl
 |succ m ih=>
  intro n s h hs;have ea:zg .add (I6 (n:Int)) (I6 1)=some (I6 ((n+1:Nat):Int)):=yu;have c2:=t65 k (s:=s) (n:=n) (Nat.lt_trans hs (by decide)) (by omega);have hs2:s ||| 2^n<2^56:=Nat.or_lt_two_pow hs (Nat.pow_lt_pow_right (by decide) (by omega));rw[zJ (by simp only[zA6,zA,yE,wO,zb,decide_eq_true (show (n:Int)≤hi by omega),zp,if_true,c2,bA2,xc,wi,ea];rfl),ih (n+1) _ (by omega) hs2,List.range'_succ]
  rfl
theorem t66(k:Nat){d:Zh}(hd:qd d):D (k+2) 66 [SA [I6 d.low,I6 d.high]]=some (.tup [.agg (zzX (zAp 0 (List.range' d.low.toNat (KW d).toNat))),.one (I6 0)]):=by
 obtain⟨q1,q2,q3,q4,q5,q6⟩:=hd;have hw:KW d=d.high-d.low+1:=rfl;have c1:=t93 k d.low d.high;have hr:right d.low d.high=0:=by unfold right;rw[Yzc (by omega),Yzc (by omega),Yzc (by omega)]
 rw[hr]at c1;have:=zBV k d.high q3 (KW d).toNat d.low.toNat 0 (by omega) (by decide);rw[show ((d.low.toNat:Nat):Int)=d.low by omega,show (U64 ((0:Nat):Int):DV)=U64 0 from rfl]at this;rw[D66];unfold P66;simp only[c1,yj,yq,Yz9,Yzy,zb,zp,Yzi,if_false,this,ym,Yzr,Yza,zA,yE,zzX]
theorem zBD(a:Int):znc [1,1] [U64 a,U64 0] [U64 0,U64 0]=some (a==0):=by show (match (some (eqI a 0):Option Bool) with|some true=>znc [1] [U64 0] [U64 0]|some false=>some false|none=>none)=_;rw[uQ];cases h:(a==0)<;>rfl
theorem t67(k:Nat)(x y:Nat):D (k+2) 67 [SA (zzX x),SA (zzX y)]=some (S1 (Bo (zzY (x:Int) (y:Int)==0))):=by
 have c:D (k+1) 98 [SA [U64 (x:Int),U64 0],SA [U64 (y:Int),U64 0]]=some (SA [U64 (zzY (x:Int) (y:Int)),U64 0]):=by rw[D98];unfold P98;simp only[zAC,zb,zAG]
 unfold zzX;rw[D67];unfold P67;simp only[c,bA2,xc,wi,zBD,zb]
theorem t36(k:Nat){s n:Nat}(hs:s<2^56)(hn:n≤55):D (k+3) 36 [SA (zzX s),S1 (I6 (n:Int))]=some (S1 (Bo (s.testBit n))):=by
 have c1:=t62 (k+1) (n:=n) (by omega);have c2:=t65 (k+1) (s:=0) (n:=n) (by decide) hn;have c3:=t67 k (2^n) s;rw[show (0 ||| 2^n:Nat)=2^n by simp,show (U64 ((0:Nat):Int):DV)=U64 0 from rfl]at c2;have hb:(zzY ((2^n:Nat):Int) (s:Int)==0)=s.testBit n:=by
  have h:=zAL (x:=2^n) (y:=s) (Nat.pow_lt_pow_right (by decide) (by omega)) (Nat.lt_trans hs (by decide));cases hb:s.testBit n with
  |true=>
   rw[h.2 fun i hi=>by
    rw[Nat.testBit_two_pow]at hi;obtain rfl:n=i:=by simpa using hi
    exact hb]
   rfl
  |false=>
   have hne:¬zzY ((2^n:Nat):Int) (s:Int)=0:=fun e=>by have:=h.1 e n (by rw[Nat.testBit_two_pow];simp);rw[hb]at this;cases this
   simp only[beq_eq_false_iff_ne,ne_eq];exact hne
 rw[hb]at c3;unfold zzX at c3 ⊢;rw[D36];unfold P36;simp only[c1,yj,xn,Yzy,zb,zp,Yzi,if_false,c2,bA2,xc,wi,c3]
theorem zBR(k:Nat):∀(m t x:Nat) (acc:List Nat),64≤t+m→x<2^64→(∀n,n<t→x.testBit n=false)→acc.length≤t→t≤64→
  ∃l:List Nat,(∀n,n∈l↔x.testBit n=true)∧l.length+t≤64∧zP (zAu (D k) [I6 0]) [U64 (x:Int)] [ocL enG (grow acc)]=some (.exit 2,[],[ocL enG (grow (acc++l))]):=by
 intro m;have ext:∀acc:List Nat,zP (zAu (D k) [I6 0]) [U64 ((0:Nat):Int)] [ocL enG (grow acc)]=some (.exit 2,[],[ocL enG (grow (acc++[]))]):=by intro acc;refine zu ?_;simp only[zAu,zA,yl,yq,zb,zp,Yzw];rfl
 induction m with
 |zero=>
  intro t x acc h h64 hz ha ht;have:x=0:=by
   refine Nat.eq_of_testBit_eq fun i=>?_;rw[Nat.zero_testBit];by_cases hi:i<t
   ·exact hz i hi
   ·exact Nat.testBit_lt_two_pow (Lz9 h64 (Nat.pow_le_pow_right (by decide) (by omega)))
  subst this;exact⟨[],by simp,by simpa using ht,ext acc⟩
 |succ m ih=>
  intro t x acc h h64 hz ha ht;by_cases h0:x=0
  ·subst h0;exact⟨[],by simp,by simpa using ht,ext acc⟩
  have hp:0<x:=by omega
  have c:=zCi k hp h64;have t1:=zA4 hp h64;have tt:t≤tzN x:=by refine Nat.le_of_not_lt fun hlt=>?_;rw[hz _ hlt]at t1;cases t1
  have t64:tzN x<64:=by obtain⟨_,_,g⟩:=zdJ 64 x hp h64;exact g
  have hx2:x &&& (x-1)<2^64:=Nat.lt_of_le_of_lt Nat.and_le_left h64;obtain⟨l,hl,hll,hr⟩:=ih (tzN x+1) (x &&& (x-1)) (acc++[tzN x]) (by omega) hx2 (fun n hn=>by
   rw[zAt hp h64];by_cases he:n=tzN x
   ·simp[he]
   ·rw[zAX hp h64 (show n<tzN x by omega)];rfl) (by simp;omega) (by omega)
  refine⟨tzN x::l,fun n=>?_,by simp only[Yzv];omega,?_⟩
  ·rw[Yz7,hl,zAt hp h64];by_cases he:n=tzN x
   ·subst he;simp[t1]
   ·simp[he]
  ·have e1:zg .mul (I6 64) (I6 0)=some (I6 0):=rfl;have e2:zg .add (I6 0) (I6 (tzN x:Int))=some (I6 (tzN x:Int)):=by
    rw[show (I6 (tzN x:Int):DV)=I6 (0+(tzN x:Int)) by rw[Int.zero_add],show (I6 (0+(tzN x:Int)):DV)=I6 (tzN x:Int) by rw[Int.zero_add]];exact(zj5 0 (tzN x:Int) (by omega) (by omega)).trans (by rw[Int.zero_add])
   have e3:zg .sub (U64 (x:Int)) (U64 1)=some (U64 ((x-1:Nat):Int)):=by rw[zoF,zkU,show ((x:Int)-1) % 18446744073709551616=((x-1:Nat):Int) by omega]
   have e4:=zAP h64 (show x-1<2^64 by omega);have ef:fits 8 ((grow acc).els.length+1)=true:=xu (by decide) (by rw[zS];omega);have en:(!((x:Int)==0))=true:=by
    have:¬((x:Int)=0):=by omega
    simpa using this
   have body:zAu (D k) [I6 0] [U64 (x:Int)] [ocL enG (grow acc)]=some (.normal,[U64 ((x &&& (x-1):Nat):Int)],[ocL enG (grow (acc++[tzN x]))]):=by rw[yG,←y6 (f:=enG)];unfold D at c ⊢;simp only[zAu,zA,yl,yq,en,zb,zp,if_true,e1,c,yj,e2,xf,ef,wa,e3,e4,yF];rfl
   rw[zJ body,hr];simp
theorem t35(k:Nat){s:Nat}(hs:s<2^56):∃l:List Nat,(∀n,n∈l↔s.testBit n=true)∧l.length≤64∧D (k+1) 35 [SA (zzX s)]=some (S1 (enL 1 enG (grow l))):=by
 obtain⟨l,h1,h2,h3⟩:=zBR k 64 0 s [] (by omega) (Nat.lt_trans hs (by decide)) (fun n hn=>by omega) (LzB _) (by omega);refine⟨l,h1,by omega,?_⟩;rw[show ocL enG (grow ([]:List Nat))=none from rfl,Yz0]at h3;have x1:zP (zAu (D k) [I6 1]) [U64 0] [ocL enG (grow l)]=some (.exit 2,[],[ocL enG (grow l)]):=by refine zu ?_;simp only[zAu,zA,yl,yq,zb,zp];rfl
 have b0:zAQ (D k) (U64 (s:Int)) (U64 0) [I6 0] [none]=some (.normal,[I6 1],[ocL enG (grow l)]):=by have e0:zg .lss (I6 0) (I6 2)=some (Bo true):=rfl;have i0:zcH 2 (I6 0)=some 0:=rfl;have ad:zg .add (I6 0) (I6 1)=some (I6 1):=rfl;simp only[zAQ,zA,yl,e0,zb,zp,if_true,i0,xc,h3,ym,Yzr,Yza,ad]
 have b1:zAQ (D k) (U64 (s:Int)) (U64 0) [I6 1] [ocL enG (grow l)]=some (.normal,[I6 2],[ocL enG (grow l)]):=by have e0:zg .lss (I6 1) (I6 2)=some (Bo true):=rfl;have i0:zcH 2 (I6 1)=some 1:=rfl;have ad:zg .add (I6 1) (I6 1)=some (I6 2):=rfl;simp only[zAQ,zA,yl,e0,zb,zp,if_true,i0,xc,wi,x1,ym,Yzr,Yza,ad]
 have b2:zAQ (D k) (U64 (s:Int)) (U64 0) [I6 2] [ocL enG (grow l)]=some (.exit 0,[],[ocL enG (grow l)]):=rfl;unfold zzX;rw[D35];unfold P35;rw[zJ b0,zJ b1,zu b2];simp only[ym,Yzr,Yza,yl,zaf]
end Go.Proofs.Tryz.Kn
end
section
namespace Go.Proofs.Tryz.Kn
open Go Go.CE Go.PE
def zzU(b:Bool):List DV:=[Bo b]
def kv(d:Zh)(s:Nat):List Bool:=(List.range' d.low.toNat (KW d).toNat).map fun n=>s.testBit n
def sv(d:Zh)(x:Nat):List Bool:=(List.range' 0 d.stops.els.length).map fun n=>x.testBit n
def zAb(f:Zh→Nat→List Bool):List Zh→List Nat→List Bool
 |d::l,s::r=>f d s++zAb f l r
 |_,_=>[]
structure KeysOk (o:Org) (ks:List Nat):Prop where
 len:ks.length=o.divs.els.length
 mem:∀(i:Nat) (d:Zh) (s:Nat),o.divs.els[i]? = some d→ks[i]? = some s→∀b,s.testBit b=true→d.low≤(b:Int)∧(b:Int)≤d.high
structure StOk (o:Org) (st:List Nat) (c f:Nat):Prop where
 len:st.length=o.divs.els.length
 st:∀(i:Nat) (d:Zh) (x:Nat),o.divs.els[i]? = some d→st[i]? = some x→x<2^d.stops.els.length
 c:c<2^o.cpls.els.length
 f:f<2^o.divs.els.length
def zzS(o:Org)(ks st:List Nat)(c f:Nat):List Bool:=zAb kv o.divs.els ks++zAb sv o.divs.els st++(List.range' 0 o.cpls.els.length).map (fun n=>c.testBit n)++(List.range' 0 o.divs.els.length).map fun n=>f.testBit n
def zz8(n:Nat):List DV:=[U64 (n:Int)]
theorem KeysOk.lt{o:Org}{ks:List Nat}(h:KeysOk o ks)(ht:Zr o){i:Nat}{d:Zh}{s:Nat}(hd:o.divs.els[i]? = some d)(hs:ks[i]? = some s):s<2^56:=by obtain⟨q1,q2,q3,q4,q5,q6⟩:=ht.dv d (Lz3 hd);refine zB3 fun b hb=>?_;have:=h.mem i d s hd hs b hb;omega
theorem zzZ{x n:Nat}(h:x<2^n)(hn:n≤60):x<2^64:=Lz9 h (Nat.pow_le_pow_right (by decide) (by omega))
theorem zAK{d:Zh}(h:qd d)(s:Nat):((kv d s).length:Int)=KW d∧(kv d s).length≤20:=by
 obtain⟨q1,q2,q3,q4,q5,q6⟩:=h;have:(kv d s).length=(KW d).toNat:=by simp[kv]
 have hw:KW d=d.high-d.low+1:=rfl;omega
theorem zAJ(d:Zh)(x:Nat):(sv d x).length=d.stops.els.length:=by simp[sv]
theorem zAe{w:Zh→Int}:∀{l:List Zh},(∀d∈l,0≤w d)→0≤tot w l
 | [],_=>Int.le_refl _
 |d::l,h=>by have h1:=h d (by simp);have h2:=zAe (l:=l) fun d hd=>h d (by simp[hd]);rw[vG];omega
theorem zAi{f:Zh→Nat→List Bool}{w:Zh→Int}:∀(l:List Zh) (r:List Nat),l.length=r.length→(∀d∈l,∀s,((f d s).length:Int)=w d)→((zAb f l r).length:Int)=tot w l
 | [],[],_,_=>rfl
 | [],_::_,h,_=>by simp at h
 |_::_,[],h,_=>by simp at h
 |d::l,s::r,h,hw=>by have h1:=hw d (by simp) s;have h2:=zAi l r (by simpa using h) fun d hd=>hw d (by simp[hd]);rw[vG,zAb,Yzk];omega
theorem zAj{f:Zh→Nat→List Bool}{w:Zh→Int}:∀(l:List Zh) (r:List Nat) (i j x:Nat) (d:Zh) (s:Nat),(∀d∈l,∀s,((f d s).length:Int)=w d)→l[i]? = some d→r[i]? = some s→j<(f d s).length→(x:Int)=tot w (l.take i)+(j:Int)→(zAb f l r)[x]? = (f d s)[j]?
 | [],_,_,_,_,_,_,_,h,_,_,_=>by simp at h
 |_::_,[],_,_,_,_,_,_,_,h,_,_=>by simp at h
 |d0::l,s0::r,0,j,x,d,s,_,h,h',hj,hx=>by
  simp only[Yzg,Option.some.injEq]at h h';subst h;subst h';simp only[Yyk,kF]at hx;obtain rfl:x=j:=by omega
  rw[zAb,Lz2 hj]
 |d0::l,s0::r,i+1,j,x,d,s,hw,h,h',hj,hx=>by
  have h0:=hw d0 (by simp) s0;simp only[Yzn]at h h';simp only[List.take_succ_cons,vG]at hx;have ht:0≤tot w (l.take i):=by
   have:=zAe (w:=w) (l:=l.take i) fun d hd=>by have:=hw d (by simp[Yyj hd]) 0;omega
   exact this
  rw[zAb,Lz8 (by omega)];exact zAj l r i j _ d s (fun d hd=>hw d (by simp[hd])) h h' hj (by omega)
section
variable (k:Nat) (o:Org) (ht:Zr o) (ks st:List Nat) (c f:Nat) (hk:KeysOk o ks) (hs:StOk o st c f)
include ht
theorem zBP(i:Nat)(d:Zh)(s:Nat)(hi:o.divs.els[i]? = some d)(hi2:ks[i]? = some s)(hs56:s<2^56):∀(m n:Nat) (acc:List Bool),(n:Int)+(m:Int)=d.high+1→acc.length+m≤1000→
  zP (zA1 (D (k+3)) (enL 5 enV o.divs) [I6 (i:Int)] (enL 2 zzX (some ks))) [I6 (n:Int)] [ocL zzU (grow acc)]=some (.exit 2,[],[ocL zzU (grow (acc++(List.range' n m).map fun n=>s.testBit n))]):=by
 obtain⟨q1,q2,q3,q4,q5,q6⟩:=ht.dv d (Lz3 hi);intro m
 induction m with
 |zero=>intro n acc h _;refine zu ?_;have hle:decide ((n:Int)≤d.high)=false:=decide_eq_false (by omega);simp only[zA1,zA,yl,xT hi,zb,enV,xc,wi,wO,hle,zp,List.range'_zero,Yz6,Yzw];rfl
 |succ m ih=>
  intro n acc h ha;have hle:decide ((n:Int)≤d.high)=true:=decide_eq_true (by omega);have ea:zg .add (I6 (n:Int)) (I6 1)=some (I6 ((n+1:Nat):Int)):=yu;have c:=t36 k (s:=s) (n:=n) hs56 (by omega);have ef:fits 1 ((grow acc).els.length+1)=true:=xu (by decide) (by rw[zS];omega);have ix:xL 2 (enL 2 zzX (some ks)) (I6 (i:Int))=some (zzX s):=xT (v:=some ks) hi2 _;unfold zzX at c ix;have body:zA1 (D (k+3)) (enL 5 enV o.divs) [I6 (i:Int)] (enL 2 zzX (some ks)) [I6 (n:Int)] [ocL zzU (grow acc)]=some (.normal,[I6 ((n+1:Nat):Int)],[ocL zzU (grow (acc++[s.testBit n]))]):=by rw[yG,←y6 (f:=zzU)];unfold zzX;simp only[zA1,zA,yl,xT hi,zb,enV,xc,wi,wO,hle,zp,if_true,ix,c,yj,xf,ef,wa,ea,yF];rfl
  rw[zJ body,ih (n+1) _ (by omega) (by simp;omega)];simp[List.range'_succ]
include hk
theorem zBZ:∀(r:List Zh) (q:List Nat) (i:Nat) (acc:List Bool),o.divs.els.drop i=r→ks.drop i=q→acc.length≤20*i→
  zP (zA2 (D (k+3)) (enL 5 enV o.divs) (enL 2 zzX (some ks))) [I6 (i:Int)] [ocL zzU (grow acc)]=some (.exit 0,[],[ocL zzU (grow (acc++zAb kv r q))]):=by
 intro r;have hdl:=ht.dl
 induction r with
 |nil=>intro q i acc h _ _;refine zu ?_;simp only[zA2,zA,yl,zx,zl,zb,xP (zV h),zp,zAb,Yzw];rfl
 |cons d r ih=>
  intro q i acc h hq ha;have hlt:=yp h;cases q with
  |nil=>have:=zV hq;have:=hk.len;omega
  |cons s q=>
   have t:=ht.dv d (Lz3 (z6 h));have ea:zg .add (I6 (i:Int)) (I6 1)=some (I6 ((i+1:Nat):Int)):=yu;have hw:KW d=d.high-d.low+1:=rfl;have hkl:=zAK t s;have l9:=zBP k o ht ks i d s (z6 h) (z6 hq) (hk.lt ht (z6 h) (z6 hq)) (KW d).toNat d.low.toNat acc (by obtain⟨q1,q2,q3,q4,q5,q6⟩:=t;omega) (by obtain⟨q1,q2,q3,q4,q5,q6⟩:=t;omega);rw[show ((d.low.toNat:Nat):Int)=d.low by obtain⟨q1,q2,q3,q4,q5,q6⟩:=t;omega]at l9;have body:zA2 (D (k+3)) (enL 5 enV o.divs) (enL 2 zzX (some ks)) [I6 (i:Int)] [ocL zzU (grow acc)]=some (.normal,[I6 ((i+1:Nat):Int)],[ocL zzU (grow (acc++kv d s))]):=by simp only[zA2,zA,yl,zx,zl,zb,jP hlt,zp,if_true,zU h];rw[show atD (enV d) 2=I6 d.low from rfl,l9];simp only[ym,Yzr,Yza,ea,zb,yl];rfl
   rw[zJ body,ih q (i+1) _ (zN h) (zN hq) (by rw[Yzk];omega)];simp[zAb]
omit hk
include hs
theorem zBy(i:Nat)(d:Zh)(x:Nat)(hi:o.divs.els[i]? = some d)(hi2:st[i]? = some x):∀(m n:Nat) (acc:List Bool),n+m=d.stops.els.length→acc.length≤1000+n→
  zP (zAx (enL 5 enV o.divs) [I6 (i:Int)] (enL 1 zz8 (some st))) [I6 (n:Int)] [ocL zzU (grow acc)]=some (.exit 6,[],[ocL zzU (grow (acc++(List.range' n m).map fun n=>x.testBit n))]):=by
 obtain⟨q1,q2,q3,q4,q5,q6⟩:=ht.dv d (Lz3 hi);have hx64:=zzZ (hs.st i d x hi hi2) (by omega);intro m
 induction m with
 |zero=>intro n acc h _;refine zu ?_;have hle:decide ((n:Int)<(d.stops.els.length:Int))=false:=xP (by omega);simp only[zAx,zA,yl,xT hi,zb,enV,xc,wi,zx,zl,hle,zp,List.range'_zero,Yz6,Yzw];rfl
 |succ m ih=>
  intro n acc h ha;have hle:decide ((n:Int)<(d.stops.els.length:Int))=true:=jP (by omega);have ea:zg .add (I6 (n:Int)) (I6 1)=some (I6 ((n+1:Nat):Int)):=yu;have ef:fits 1 ((grow acc).els.length+1)=true:=xu (by decide) (by rw[zS];omega);have ix:xL 1 (enL 1 zz8 (some st)) (I6 (i:Int))=some [U64 (x:Int)]:=xT (v:=some st) hi2 _;have e5:y2 .u64 (I6 (n:Int))=some (U64 (n:Int)):=zuV (by omega);have hb:(zAd (zAo (x:Int) n) 1==1)=x.testBit n:=zz5 hx64 (by omega);have body:zAx (enL 5 enV o.divs) [I6 (i:Int)] (enL 1 zz8 (some st)) [I6 (n:Int)] [ocL zzU (grow acc)]=some (.normal,[I6 ((n+1:Nat):Int)],[ocL zzU (grow (acc++[x.testBit n]))]):=by rw[yG,←y6 (f:=zzU),←hb];simp only[zAx,zA,yl,xT hi,zb,enV,xc,wi,zx,zl,hle,zp,if_true,ix,e5,zBc,zzW,zBo,xf,ef,wa,ea,yF];rfl
  rw[zJ body,ih (n+1) _ (by omega) (by simp;omega)];simp[List.range'_succ]
theorem zBz:∀(r:List Zh) (q:List Nat) (i:Nat) (acc:List Bool),o.divs.els.drop i=r→st.drop i=q→acc.length≤100+3*i→
  zP (zAy (enL 5 enV o.divs) (enL 1 zz8 (some st))) [I6 (i:Int)] [ocL zzU (grow acc)]=some (.exit 4,[],[ocL zzU (grow (acc++zAb sv r q))]):=by
 intro r;have hdl:=ht.dl
 induction r with
 |nil=>intro q i acc h _ _;refine zu ?_;simp only[zAy,zA,yl,zx,zl,zb,xP (zV h),zp,zAb,Yzw];rfl
 |cons d r ih=>
  intro q i acc h hq ha;have hlt:=yp h;cases q with
  |nil=>have:=zV hq;have:=hs.len;omega
  |cons x q=>
   obtain⟨q1,q2,q3,q4,q5,q6⟩:=ht.dv d (Lz3 (z6 h));have ea:zg .add (I6 (i:Int)) (I6 1)=some (I6 ((i+1:Nat):Int)):=yu;have l28:=zBy o ht st c f hs i d x (z6 h) (z6 hq) d.stops.els.length 0 acc (by omega) (by omega);rw[show (I6 ((0:Nat):Int):DV)=I6 0 from rfl]at l28;have body:zAy (enL 5 enV o.divs) (enL 1 zz8 (some st)) [I6 (i:Int)] [ocL zzU (grow acc)]=some (.normal,[I6 ((i+1:Nat):Int)],[ocL zzU (grow (acc++sv d x))]):=by simp only[zAy,zA,yl,zx,zl,zb,jP hlt,zp,if_true,l28,ym,Yzr,Yza,ea];rfl
   rw[zJ body,ih q (i+1) _ (zN h) (zN hq) (by rw[Yzk,zAJ];omega)];simp[zAb]
theorem zBw:∀(m n:Nat) (acc:List Bool),n+m=o.cpls.els.length→acc.length≤1000+n→
  zP (zAw (enL 5 enC o.cpls) (U64 (c:Int))) [I6 (n:Int)] [ocL zzU (grow acc)]=some (.exit 8,[],[ocL zzU (grow (acc++(List.range' n m).map fun n=>c.testBit n))]):=by
 have hcl:=ht.cl;have hx64:=zzZ hs.c (by omega);intro m
 induction m with
 |zero=>intro n acc h _;refine zu ?_;have hle:decide ((n:Int)<(o.cpls.els.length:Int))=false:=xP (by omega);simp only[zAw,zA,yl,zb,zx,zl,hle,zp,List.range'_zero,Yz6,Yzw];rfl
 |succ m ih=>
  intro n acc h ha;have hle:decide ((n:Int)<(o.cpls.els.length:Int))=true:=jP (by omega);have ea:zg .add (I6 (n:Int)) (I6 1)=some (I6 ((n+1:Nat):Int)):=yu;have ef:fits 1 ((grow acc).els.length+1)=true:=xu (by decide) (by rw[zS];omega);have e5:y2 .u64 (I6 (n:Int))=some (U64 (n:Int)):=zuV (by omega);have hb:(zAd (zAo (c:Int) n) 1==1)=c.testBit n:=zz5 hx64 (by omega);have body:zAw (enL 5 enC o.cpls) (U64 (c:Int)) [I6 (n:Int)] [ocL zzU (grow acc)]=some (.normal,[I6 ((n+1:Nat):Int)],[ocL zzU (grow (acc++[c.testBit n]))]):=by rw[yG,←y6 (f:=zzU),←hb];simp only[zAw,zA,yl,zb,zx,zl,hle,zp,if_true,e5,zBc,zzW,zBo,xf,ef,wa,ea,yF];rfl
  rw[zJ body,ih (n+1) _ (by omega) (by simp;omega)];simp[List.range'_succ]
theorem zBv:∀(m n:Nat) (acc:List Bool),n+m=o.divs.els.length→acc.length≤1000+n→
  zP (zAv (enL 5 enV o.divs) (U64 (f:Int))) [I6 (n:Int)] [ocL zzU (grow acc)]=some (.exit 10,[],[ocL zzU (grow (acc++(List.range' n m).map fun n=>f.testBit n))]):=by
 have hcl:=ht.dl;have hx64:=zzZ hs.f (by omega);intro m
 induction m with
 |zero=>intro n acc h _;refine zu ?_;have hle:decide ((n:Int)<(o.divs.els.length:Int))=false:=xP (by omega);simp only[zAv,zA,yl,zb,zx,zl,hle,zp,List.range'_zero,Yz6,Yzw];rfl
 |succ m ih=>
  intro n acc h ha;have hle:decide ((n:Int)<(o.divs.els.length:Int))=true:=jP (by omega);have ea:zg .add (I6 (n:Int)) (I6 1)=some (I6 ((n+1:Nat):Int)):=yu;have ef:fits 1 ((grow acc).els.length+1)=true:=xu (by decide) (by rw[zS];omega);have e5:y2 .u64 (I6 (n:Int))=some (U64 (n:Int)):=zuV (by omega);have hb:(zAd (zAo (f:Int) n) 1==1)=f.testBit n:=zz5 hx64 (by omega);have body:zAv (enL 5 enV o.divs) (U64 (f:Int)) [I6 (n:Int)] [ocL zzU (grow acc)]=some (.normal,[I6 ((n+1:Nat):Int)],[ocL zzU (grow (acc++[f.testBit n]))]):=by rw[yG,←y6 (f:=zzU),←hb];simp only[zAv,zA,yl,zb,zx,zl,hle,zp,if_true,e5,zBc,zzW,zBo,xf,ef,wa,ea,yF];rfl
  rw[zJ body,ih (n+1) _ (by omega) (by simp;omega)];simp[List.range'_succ]
include hk
theorem zzT:((zAb kv o.divs.els ks).length:Int)=tot KW o.divs.els∧((zAb sv o.divs.els st).length:Int)=tot KS o.divs.els∧((zzS o ks st c f).length:Int)=zkF o:=by
 have h1:=zAi (f:=kv) (w:=KW) o.divs.els ks hk.len.symm fun d hd s=>(zAK (ht.dv d hd) s).1;have h2:=zAi (f:=sv) (w:=KS) o.divs.els st hs.len.symm fun d _ s=>by rw[zAJ];rfl
 refine⟨h1,h2,?_⟩;unfold zzS zkF cpN;simp only[Yzk,Yzm,List.length_range'];omega
theorem t18:D (k+4) 18 [SA (enO o),SA [enL 1 zz8 (some st),U64 (c:Int),U64 (f:Int)],S1 (enL 2 zzX (some ks))]=some (S1 (enL 1 zzU (grow (zzS o ks st c f)))):=by have l2:=zBZ k o ht ks hk o.divs.els ks 0 [] rfl rfl (LzB _);have tk:=zbl ht.dl ht.dv;have ts:=zcO ht.dl ht.dv;obtain⟨z1,z2,_⟩:=zzT o ht ks st c f hk hs;have hc:=ht.cl;have hd:=ht.dl;have l22:=zBz o ht st c f hs o.divs.els st 0 (zAb kv o.divs.els ks) rfl rfl (by omega);have l45:=zBw o ht st c f hs o.cpls.els.length 0 (zAb kv o.divs.els ks++zAb sv o.divs.els st) (by omega) (by rw[Yzk];omega);have l57:=zBv o ht st c f hs o.divs.els.length 0 (zAb kv o.divs.els ks++zAb sv o.divs.els st++(List.range' 0 o.cpls.els.length).map fun n=>c.testBit n) (by omega) (by rw[Yzk,Yzk,Yzm,List.length_range'];omega);rw[show ocL zzU (grow ([]:List Bool))=none from rfl,Yz0]at l2;rw[show (I6 ((0:Nat):Int):DV)=I6 0 from rfl]at l2 l22 l45 l57;unfold enO;rw[D18];unfold P18;simp only[l2,ym,Yzr,Yza,yl,l22,l45,l57,zaf];rfl
end
end Go.Proofs.Tryz.Kn
end
section
namespace Go.Proofs.Tryz.Kn
open Go Go.CE Go.PE
def zAc(N:Nat)(f:Nat→Bool):OC:=ocL zzU (some ((List.range N).map f))
theorem zAk{N x:Nat}{f:Nat→Bool}{v:Bool}(h:x<N):zxL 1 (zAc N f) x 0 [Bo v]=some (zAc N fun y=>if y=x then v else f y):=by
 have e:=zCf (f:=zzU) (st:=1) (off:=0) (l:=(List.range N).map f) (i:=x) (x:=f x) (x':=v) (ds:=[Bo v]) (by simp[h]) (LzB 1) rfl;unfold zAc;rw[zAl,zAl,e];have:((List.range N).map f).set x v=(List.range N).map fun y=>if y=x then v else f y:=by
  refine Yyh fun j=>?_;rw[List.getElem?_set,Lz6,Lz6,Yzm,List.length_range];by_cases hj:j<N
  ·rw[List.getElem?_range hj];by_cases e:x=j
   ·subst e;simp[h]
   ·have e':¬j=x:=fun q=>e q.symm;simp[e,e']
  ·have hx:¬x=j:=by omega
   rw[Yzc hx,List.getElem?_eq_none (by simpa using hj)];rfl
 rw[this]
theorem zAI{N x:Nat}{f:Nat→Bool}(h:x<N):q9 (zAc N f) (I6 (x:Int))=some x:=zir (by simpa using h)
theorem zBi(N:Nat):(some (List.replicate N [.bool false]):OC)=zAc N fun _=>false:=by
 unfold zAc;rw[zAl,List.map_map]
 congr 1
 refine Yyh fun j=>?_;rw[List.getElem?_replicate,Lz6];by_cases hj:j<N
 ·rw[Yzd hj,List.getElem?_range hj];rfl
 ·rw[Yzc hj,List.getElem?_eq_none (by simpa using hj)];rfl
theorem zBb{w:Zh→Int}{l:List Zh}(h:∀d∈l,0≤w d)(i:Nat):tot w (l.take i)≤tot w l:=by
 have:∀(l:List Zh) (i:Nat),(∀d∈l,0≤w d)→tot w (l.take i)≤tot w l:=by
  intro l
  induction l with
  |nil=>intro i _;simp[tot]
  |cons d l ih=>
   intro i h;cases i with
   |zero=>simp only[Yyk,kF];exact zAe h
   |succ i=>have:=ih i fun d hd=>h d (by simp[hd]);simp only[List.take_succ_cons,vG];omega
 exact this l i h
theorem zBh{d:Zh}(h:qd d):0≤KW d:=by obtain⟨q1,q2,q3,q4,q5,q6⟩:=h;unfold KW;omega
theorem zz0{o:Org}(ht:Zr o){i:Nat}{d:Zh}(hd:o.divs.els[i]? = some d):0≤tot KW (o.divs.els.take i)∧tot KW (o.divs.els.take i)+KW d≤tot KW o.divs.els∧0≤tot KS (o.divs.els.take i)∧tot KS (o.divs.els.take i)+KS d≤tot KS o.divs.els:=by have a:=zBb (w:=KW) (fun d hd=>zBh (ht.dv d hd)) (i+1);have b:=zBb (w:=KS) (l:=o.divs.els) (fun d _=>by unfold KS;omega) (i+1);rw[zdK _ _ _ hd]at a b;exact⟨zAe fun d h=>zBh (ht.dv d (Yyj h)),a,zAe fun d _=>by unfold KS;omega,b⟩
section
variable (o:Org) (ht:Zr o) (ks st:List Nat) (c f:Nat) (hk:KeysOk o ks) (hs:StOk o st c f)
include ht hk hs
theorem zBI{i:Nat}{d:Zh}{s:Nat}(hd:o.divs.els[i]? = some d)(h':ks[i]? = some s){y:Nat}(h1:tot KW (o.divs.els.take i)≤(y:Int))(h2:(y:Int)<tot KW (o.divs.els.take i)+KW d):
  (zzS o ks st c f)[y]? = some (s.testBit ((y:Int)-tot KW (o.divs.els.take i)+d.low).toNat):=by
 obtain⟨z1,z2,_⟩:=zzT o ht ks st c f hk hs;obtain⟨b1,b2,b3,b4⟩:=zz0 ht hd;have t:=ht.dv d (Lz3 hd);have kl:=(zAK t s).1;have g:=zAj (f:=kv) (w:=KW) o.divs.els ks i ((y:Int)-tot KW (o.divs.els.take i)).toNat y d s (fun d hd s=>(zAK (ht.dv d hd) s).1) hd h' (by omega) (by omega);obtain⟨q1,q2,q3,q4,q5,q6⟩:=t;unfold zzS;rw[Lz2 (by simp only[Yzk,Yzm,List.length_range'];omega),Lz2 (by simp only[Yzk];omega),Lz2 (by omega),g];unfold kv;rw[Lz6,List.getElem?_range' (by omega)];simp only[YzG,Option.some.injEq]
 congr 1
 omega
theorem zBg{i:Nat}{d:Zh}{x:Nat}(hd:o.divs.els[i]? = some d)(h':st[i]? = some x){y:Nat}(h1:tot KW o.divs.els+tot KS (o.divs.els.take i)≤(y:Int))(h2:(y:Int)<tot KW o.divs.els+tot KS (o.divs.els.take i)+KS d):
  (zzS o ks st c f)[y]? = some (x.testBit ((y:Int)-(tot KW o.divs.els+tot KS (o.divs.els.take i))).toNat):=by
 obtain⟨z1,z2,_⟩:=zzT o ht ks st c f hk hs;obtain⟨b1,b2,b3,b4⟩:=zz0 ht hd;have kl:=zAJ d x;have hw:KS d=(d.stops.els.length:Int):=rfl;have g:=zAj (f:=sv) (w:=KS) o.divs.els st i ((y:Int)-(tot KW o.divs.els+tot KS (o.divs.els.take i))).toNat (y-(zAb kv o.divs.els ks).length) d x (fun d _ s=>by rw[zAJ];rfl) hd h' (by omega) (by omega);unfold zzS;rw[Lz2 (by simp only[Yzk,Yzm,List.length_range'];omega),Lz2 (by simp only[Yzk];omega),Lz8 (by omega),g];unfold sv;rw[Lz6,List.getElem?_range' (by omega)];simp only[YzG,Option.some.injEq]
 congr 1
 omega
theorem zBJ{y:Nat}(h1:cpN o≤(y:Int))(h2:(y:Int)<cpN o+(o.cpls.els.length:Int)):(zzS o ks st c f)[y]? = some (c.testBit ((y:Int)-cpN o).toNat):=by
 obtain⟨z1,z2,_⟩:=zzT o ht ks st c f hk hs;unfold cpN at h1 h2 ⊢;unfold zzS;rw[Lz2 (by simp only[Yzk,Yzm,List.length_range'];omega),Lz8 (by simp only[Yzk];omega),Lz6,List.getElem?_range' (by simp only[Yzk];omega)];simp only[YzG,Option.some.injEq,Yzk]
 congr 1
 omega
theorem zBH{y:Nat}(h1:cpN o+(o.cpls.els.length:Int)≤(y:Int))(h2:(y:Int)<zkF o):(zzS o ks st c f)[y]? = some (f.testBit ((y:Int)-(cpN o+(o.cpls.els.length:Int))).toNat):=by
 obtain⟨z1,z2,_⟩:=zzT o ht ks st c f hk hs;unfold zkF at h2;unfold cpN at h1 h2 ⊢;unfold zzS;rw[Lz8 (by simp only[Yzk,Yzm,List.length_range'];omega),Lz6,List.getElem?_range' (by simp only[Yzk,Yzm,List.length_range'];omega)];simp only[YzG,Option.some.injEq,Yzk,Yzm,List.length_range']
 congr 1
 omega
end
section
variable (o:Org) (ht:Zr o) (N:Nat) (hN:(N:Int)=zkF o)
include ht hN
theorem zBA(i:Nat)(d:Zh)(hi:o.divs.els[i]? = some d)(l:Sl Nat)(hl:l.els.length≤64)(hm:∀n∈l.els,d.low≤(n:Int)∧(n:Int)≤d.high):∀(r:List Nat) (j:Nat) (f:Nat→Bool),l.els.drop j=r→
  zP (zAO (I6 (l.els.length:Int)) (enL 1 enG l) (wG o) [I6 (i:Int)] (enV d)) [I6 (j:Int)] [zAc N f]=some (.exit 2,[],[zAc N fun y=>f y||r.any fun n=>decide ((y:Int)=tot KW (o.divs.els.take i)+(n:Int)-d.low)]):=by
 obtain⟨q1,q2,q3,q4,q5,q6⟩:=ht.dv d (Lz3 hi);obtain⟨b1,b2,b3,b4⟩:=zz0 ht hi;have tk:=zbl ht.dl ht.dv;have ts:=zcO ht.dl ht.dv;have hw:KW d=d.high-d.low+1:=rfl;have hil:i<o.divs.els.length:=(Lz0.1 hi).1;have hcn:zkF o=tot KW o.divs.els+tot KS o.divs.els+(o.cpls.els.length:Int)+(o.divs.els.length:Int):=rfl;have ix:xL 1 (enL 1 enW (grow (qy KW o.divs.els 0))) (I6 (i:Int))=some [I6 (tot KW (o.divs.els.take i))]:=by have:=zio (st:=1) KW o.divs.els 0 i hil .i64;rw[Int.zero_add]at this;exact this
 intro r
 induction r with
 |nil=>intro j f h;refine zu ?_;simp only[zAO,zA,yl,zl,zb,xP (zV h),zp,List.any_nil,Bool.or_false];rfl
 |cons n r ih=>
  intro j f h;have hlt:=yp h;obtain⟨m1,m2⟩:=hm n (Lz3 (z6 h));have ea:zg .add (I6 (j:Int)) (I6 1)=some (I6 ((j+1:Nat):Int)):=yu;obtain⟨x,hx⟩:∃x:Nat,tot KW (o.divs.els.take i)+(n:Int)-d.low=(x:Int):=⟨_,(Yyd (by omega)).symm⟩;have e1:zg .add (I6 (tot KW (o.divs.els.take i))) (I6 (n:Int))=some (I6 (tot KW (o.divs.els.take i)+(n:Int))):=yu;have e2:zg .sub (I6 (tot KW (o.divs.els.take i)+(n:Int))) (I6 d.low)=some (I6 (x:Int)):=by rw[←hx];exact j5
  have hxN:x<N:=by omega
  rw[zJ (by simp only[zAO,zA,yl,zl,zb,jP hlt,zp,if_true,zU h,enG,wG,enV,xc,wi,ix,e1,e2,zAI hxN,zAk hxN,ea];rfl),ih (j+1) _ (zN h)]
  congr 3
  refine congrArg (fun g=>[zAc N g]) (funext fun y=>?_);rw[List.any_cons,hx];by_cases hy:y=x
  ·subst hy;simp
  ·have:¬(y:Int)=(x:Int):=by omega
   rw[Yzc hy,decide_eq_false this,Yz4]
theorem zBx(st:List Nat)(i:Nat)(d:Zh)(x:Nat)(hi:o.divs.els[i]? = some d)(hi2:st[i]? = some x)(hx64:x<2^64):∀(m n:Nat) (f:Nat→Bool),n+m=d.stops.els.length→
  zP (zAN (I6 (d.stops.els.length:Int)) (wG o) [I6 (i:Int)] (enL 1 zz8 (some st))) [I6 (n:Int)] [zAc N f]=some (.exit 4,[],[zAc N fun y=>if tot KW o.divs.els+tot KS (o.divs.els.take i)+(n:Int)≤(y:Int)∧(y:Int)<tot KW o.divs.els+tot KS (o.divs.els.take i)+(d.stops.els.length:Int) then x.testBit ((y:Int)-(tot KW o.divs.els+tot KS (o.divs.els.take i))).toNat else f y]):=by
 obtain⟨q1,q2,q3,q4,q5,q6⟩:=ht.dv d (Lz3 hi);obtain⟨b1,b2,b3,b4⟩:=zz0 ht hi;have tk:=zbl ht.dl ht.dv;have ts:=zcO ht.dl ht.dv;have hw:KS d=(d.stops.els.length:Int):=rfl;have hil:i<o.divs.els.length:=(Lz0.1 hi).1;have hcn:zkF o=tot KW o.divs.els+tot KS o.divs.els+(o.cpls.els.length:Int)+(o.divs.els.length:Int):=rfl;have ix:xL 1 (enL 1 enW (grow (qy KS o.divs.els (tot KW o.divs.els)))) (I6 (i:Int))=some [I6 (tot KW o.divs.els+tot KS (o.divs.els.take i))]:=zio _ _ _ _ hil _;have ix2:xL 1 (enL 1 zz8 (some st)) (I6 (i:Int))=some [U64 (x:Int)]:=xT (v:=some st) hi2 _;have hS0:0≤tot KW o.divs.els+tot KS (o.divs.els.take i):=by omega
 have hS1:tot KW o.divs.els+tot KS (o.divs.els.take i)+(d.stops.els.length:Int)<zkF o:=by omega
 have hS2:tot KW o.divs.els+tot KS (o.divs.els.take i)≤100:=by omega
 generalize tot KW o.divs.els+tot KS (o.divs.els.take i)=S at *;intro m
 induction m with
 |zero=>intro n f h;refine zu ?_;have hle:decide ((n:Int)<(d.stops.els.length:Int))=false:=xP (by omega);simp only[zAN,zA,yl,zl,zb,hle,zp];have:(fun y:Nat=>if S+(n:Int)≤(y:Int)∧(y:Int)<S+(d.stops.els.length:Int) then x.testBit ((y:Int)-S).toNat else f y)=f:=funext fun y=>Yzc (by omega);rw[this];rfl
 |succ m ih=>
  intro n f h;have hle:decide ((n:Int)<(d.stops.els.length:Int))=true:=jP (by omega);have ea:zg .add (I6 (n:Int)) (I6 1)=some (I6 ((n+1:Nat):Int)):=yu;obtain⟨z,hz⟩:∃z:Nat,S+(n:Int)=(z:Int):=⟨_,(Yyd (by omega)).symm⟩;have e1:zg .add (I6 S) (I6 (n:Int))=some (I6 (z:Int)):=by rw[←hz];exact yu
  have hzN:z<N:=by omega
  have hb:(zAd (zAo (x:Int) n) 1==1)=x.testBit n:=zz5 hx64 (by omega);rw[zJ (by simp only[zAN,zA,yl,zl,zb,hle,zp,if_true,wG,xc,wi,ix,e1,ix2,zBc,zzW,zBo,hb,zAI hzN,zAk hzN,ea];rfl),ih (n+1) _ (by omega)]
  congr 3
  refine congrArg (fun g=>[zAc N g]) (funext fun y=>?_);by_cases h1:S+((n+1:Nat):Int)≤(y:Int)∧(y:Int)<S+(d.stops.els.length:Int)
  ·rw[Yzd h1,Yzd (by omega)]
  ·rw[Yzc h1];by_cases hy:y=z
   ·rw[Yzd hy,Yzd (by omega),show ((y:Int)-S).toNat=n by omega]
   ·rw[Yzc hy,Yzc (by omega)]
theorem zBu(c:Nat)(hx64:c<2^64):∀(m n:Nat) (f:Nat→Bool),n+m=o.cpls.els.length→
  zP (zAM (I6 (o.cpls.els.length:Int)) (wG o) (U64 (c:Int))) [I6 (n:Int)] [zAc N f]=some (.exit 6,[],[zAc N fun y=>if cpN o+(n:Int)≤(y:Int)∧(y:Int)<cpN o+(o.cpls.els.length:Int) then c.testBit ((y:Int)-cpN o).toNat else f y]):=by
 have tk:=zbl ht.dl ht.dv;have ts:=zcO ht.dl ht.dv;have hcl:=ht.cl;have hcn:zkF o=cpN o+(o.cpls.els.length:Int)+(o.divs.els.length:Int):=rfl;have hcp:cpN o=tot KW o.divs.els+tot KS o.divs.els:=rfl;have a2:atD (wG o) 2=I6 (cpN o):=rfl;have hS0:0≤cpN o:=by rw[hcp];omega
 have hS1:cpN o≤100:=by rw[hcp];omega
 generalize cpN o=S at *;intro m
 induction m with
 |zero=>intro n f h;refine zu ?_;have hle:decide ((n:Int)<(o.cpls.els.length:Int))=false:=xP (by omega);simp only[zAM,zA,yl,zl,zb,hle,zp];have:(fun y:Nat=>if S+(n:Int)≤(y:Int)∧(y:Int)<S+(o.cpls.els.length:Int) then c.testBit ((y:Int)-S).toNat else f y)=f:=funext fun y=>Yzc (by omega);rw[this];rfl
 |succ m ih=>
  intro n f h;have hle:decide ((n:Int)<(o.cpls.els.length:Int))=true:=jP (by omega);have ea:zg .add (I6 (n:Int)) (I6 1)=some (I6 ((n+1:Nat):Int)):=yu;obtain⟨z,hz⟩:∃z:Nat,S+(n:Int)=(z:Int):=⟨_,(Yyd (by omega)).symm⟩;have e1:zg .add (I6 S) (I6 (n:Int))=some (I6 (z:Int)):=by rw[←hz];exact yu
  have hzN:z<N:=by omega
  have hb:(zAd (zAo (c:Int) n) 1==1)=c.testBit n:=zz5 hx64 (by omega);rw[zJ (by simp only[zAM,zA,yl,zl,zb,hle,zp,if_true,a2,e1,zBc,zzW,zBo,hb,zAI hzN,zAk hzN,ea];rfl),ih (n+1) _ (by omega)]
  congr 3
  refine congrArg (fun g=>[zAc N g]) (funext fun y=>?_);by_cases h1:S+((n+1:Nat):Int)≤(y:Int)∧(y:Int)<S+(o.cpls.els.length:Int)
  ·rw[Yzd h1,Yzd (by omega)]
  ·rw[Yzc h1];by_cases hy:y=z
   ·rw[Yzd hy,Yzd (by omega),show ((y:Int)-S).toNat=n by omega]
   ·rw[Yzc hy,Yzc (by omega)]
end
def dn(o:Org)(i y:Nat):Bool:=decide ((y:Int)<tot KW (o.divs.els.take i))||(decide (tot KW o.divs.els≤(y:Int))&&decide ((y:Int)<tot KW o.divs.els+tot KS (o.divs.els.take i)))||(decide (cpN o+(o.cpls.els.length:Int)≤(y:Int))&&decide ((y:Int)<cpN o+(o.cpls.els.length:Int)+(i:Int)))
section
variable (k:Nat) (o:Org) (ht:Zr o) (ks st:List Nat) (c f:Nat) (hk:KeysOk o ks) (hs:StOk o st c f) (N:Nat) (hN:(N:Int)=zkF o)
def vAt(o:Org)(ks st:List Nat)(c f y:Nat):Bool:=((zzS o ks st c f)[y]?).getD false
include ht hk hs hN
theorem zBC:∀(r:List Zh) (i:Nat),o.divs.els.drop i=r→i≤o.divs.els.length→
  zP (zAz (D (k+1)) (I6 (o.divs.els.length:Int)) (enL 5 enV o.divs) (enL 2 zzX (some ks)) (wG o) (enL 1 zz8 (some st)) (U64 (f:Int))) [I6 (i:Int)] [zAc N fun y=>dn o i y&&vAt o ks st c f y]=some (.exit 0,[],[zAc N fun y=>dn o o.divs.els.length y&&vAt o ks st c f y]):=by
 have tk:=zbl ht.dl ht.dv;have ts:=zcO ht.dl ht.dv;have hdl:=ht.dl;have hcl:=ht.cl;have hf64:=zzZ hs.f (by omega);have hcn:zkF o=cpN o+(o.cpls.els.length:Int)+(o.divs.els.length:Int):=rfl;have hcp:cpN o=tot KW o.divs.els+tot KS o.divs.els:=rfl;have a3:atD (wG o) 3=I6 (cpN o+(o.cpls.els.length:Int)):=rfl;intro r
 induction r with
 |nil=>
  intro i h hi;refine zu ?_;obtain rfl:i=o.divs.els.length:=by have:=zV h;omega
  simp only[zAz,zA,yl,zl,zb,xP (zV h),zp];rfl
 |cons d r ih=>
  intro i h hi;have hlt:=yp h;have gd:=z6 h;obtain⟨s,gs⟩:∃s,ks[i]? = some s:=⟨_,Lz5 (by have:=hk.len;omega)⟩;obtain⟨x,gx⟩:∃x,st[i]? = some x:=⟨_,Lz5 (by have:=hs.len;omega)⟩;have t:=ht.dv d (Lz3 gd);have s56:=hk.lt ht gd gs;obtain⟨l,hm,hll,cm⟩:=t35 k s56;obtain⟨b1,b2,b3,b4⟩:=zz0 ht gd;have hmem:=hk.mem i d s gd gs;obtain⟨q1,q2,q3,q4,q5,q6⟩:=t;have hw:KW d=d.high-d.low+1:=rfl;have hws:KS d=(d.stops.els.length:Int):=rfl;have x64:=zzZ (hs.st i d x gd gx) (by omega);have ix:xL 2 (enL 2 zzX (some ks)) (I6 (i:Int))=some [U64 (s:Int),U64 0]:=xT (v:=some ks) gs _;have l20:=zBA o ht N hN i d gd (grow l) (by rw[zS];exact hll) (by rw[zS];exact fun n hn=>hmem n ((hm n).1 hn)) (grow l).els 0 (fun y=>dn o i y&&vAt o ks st c f y) rfl;have l34:=zBx o ht N hN st i d x gd gx x64 d.stops.els.length 0 (fun y=>(dn o i y&&vAt o ks st c f y)||(grow l).els.any fun n=>decide ((y:Int)=tot KW (o.divs.els.take i)+(n:Int)-d.low)) (by omega);rw[show (I6 ((0:Nat):Int):DV)=I6 0 from rfl]at l20 l34;have ea:zg .add (I6 (i:Int)) (I6 1)=some (I6 ((i+1:Nat):Int)):=yu;obtain⟨z,hz⟩:∃z:Nat,cpN o+(o.cpls.els.length:Int)+(i:Int)=(z:Int):=⟨_,(Yyd (by omega)).symm⟩;have e1:zg .add (I6 (cpN o+(o.cpls.els.length:Int))) (I6 (i:Int))=some (I6 (z:Int)):=by rw[←hz];exact yu
  have hzN:z<N:=by omega
  have hb:(zAd (zAo (f:Int) i) 1==1)=f.testBit i:=zz5 hf64 (by omega);unfold zzX at cm;have fin:(fun y:Nat=>if y=z then f.testBit i else if tot KW o.divs.els+tot KS (o.divs.els.take i)+((0:Nat):Int)≤(y:Int)∧(y:Int)<tot KW o.divs.els+tot KS (o.divs.els.take i)+(d.stops.els.length:Int) then x.testBit ((y:Int)-(tot KW o.divs.els+tot KS (o.divs.els.take i))).toNat else(dn o i y&&vAt o ks st c f y)||(grow l).els.any fun n=>decide ((y:Int)=tot KW (o.divs.els.take i)+(n:Int)-d.low))=fun y=>dn o (i+1) y&&vAt o ks st c f y:=by
   funext y
   have tK:=zdK (w:=KW) _ _ _ gd;have tS:=zdK (w:=KS) _ _ _ gd;by_cases c1:y=z
   ·rw[Yzd c1];have hd:dn o (i+1) y=true:=by
     simp only[dn,YzD,LzC,YzA];omega
    rw[hd,Yyc];unfold vAt;rw[zBH o ht ks st c f hk hs (by omega) (by omega),show ((y:Int)-(cpN o+(o.cpls.els.length:Int))).toNat=i by omega];rfl
   rw[Yzc c1];by_cases c2:tot KW o.divs.els+tot KS (o.divs.els.take i)+((0:Nat):Int)≤(y:Int)∧(y:Int)<tot KW o.divs.els+tot KS (o.divs.els.take i)+(d.stops.els.length:Int)
   ·rw[Yzd c2];have hd:dn o (i+1) y=true:=by
     simp only[dn,YzD,LzC,YzA];omega
    rw[hd,Yyc];unfold vAt;rw[zBg o ht ks st c f hk hs gd gx (by omega) (by omega)];rfl
   rw[Yzc c2,zS];by_cases c3:tot KW (o.divs.els.take i)≤(y:Int)∧(y:Int)<tot KW (o.divs.els.take i)+KW d
   ·have hd:dn o (i+1) y=true:=by
     simp only[dn,YzD,LzC,YzA];omega
    have hd0:dn o i y=false:=by rw[Bool.eq_false_iff];simp only[dn,ne_eq,YzD,LzC,YzA];omega
    rw[hd,hd0,Yyc,Bool.false_and,Yz4];unfold vAt;rw[zBI o ht ks st c f hk hs gd gs c3.1 c3.2,Bool.eq_iff_iff];simp only[List.any_eq_true,YzA,Yyl]
    constructor
    ·rintro⟨n,hn,e⟩
     rw[show ((y:Int)-tot KW (o.divs.els.take i)+d.low).toNat=n by omega];exact(hm n).1 hn
    ·intro e;exact⟨_,(hm _).2 e,by omega⟩
   ·have hd:dn o (i+1) y=dn o i y:=by
     rw[Bool.eq_iff_iff];simp only[dn,YzD,LzC,YzA];omega
    have ha:(l.any fun n=>decide ((y:Int)=tot KW (o.divs.els.take i)+(n:Int)-d.low))=false:=by rw[List.any_eq_false];intro n hn;have:=hmem n ((hm n).1 hn);simp only[YzA];omega
    rw[hd,ha,Bool.or_false]
  have body:zAz (D (k+1)) (I6 (o.divs.els.length:Int)) (enL 5 enV o.divs) (enL 2 zzX (some ks)) (wG o) (enL 1 zz8 (some st)) (U64 (f:Int)) [I6 (i:Int)] [zAc N fun y=>dn o i y&&vAt o ks st c f y]=some (.normal,[I6 ((i+1:Nat):Int)],[zAc N fun y=>dn o (i+1) y&&vAt o ks st c f y]):=by rw[←fin];have a4:atD (enV d) 4=enL 4 wp d.stops:=rfl;simp only[zAz,zA,yl,zl,zb,jP hlt,zp,if_true,zU h,ix,xc,wi,cm,yj,zx,l20,ym,Yzr,Yza,a4,l34,a3,e1,zBc,zzW,zBo,hb,zAI hzN,zAk hzN,ea]
  rw[zJ body];exact ih (i+1) (zN h) hlt
theorem zBj:(zAc N fun y=>if cpN o+((0:Nat):Int)≤(y:Int)∧(y:Int)<cpN o+(o.cpls.els.length:Int) then c.testBit ((y:Int)-cpN o).toNat else dn o o.divs.els.length y&&vAt o ks st c f y)=ocL zzU (some (zzS o ks st c f)):=by
 have tk:=zbl ht.dl ht.dv;have ts:=zcO ht.dl ht.dv;obtain⟨_,_,z3⟩:=zzT o ht ks st c f hk hs;have hcn:zkF o=cpN o+(o.cpls.els.length:Int)+(o.divs.els.length:Int):=rfl;have hcp:cpN o=tot KW o.divs.els+tot KS o.divs.els:=rfl;unfold zAc
 congr 2
 refine Yyh fun y=>?_;rw[Lz6];by_cases hy:y<N
 ·rw[List.getElem?_range hy,YzG];by_cases c1:cpN o+((0:Nat):Int)≤(y:Int)∧(y:Int)<cpN o+(o.cpls.els.length:Int)
  ·rw[Yzd c1,zBJ o ht ks st c f hk hs (by omega) (by omega)]
  ·have hd:dn o o.divs.els.length y=true:=by
    simp only[dn,List.take_length,YzD,LzC,YzA];omega
   rw[Yzc c1,hd,Yyc];unfold vAt;rw[Lz5 (by omega)];rfl
 ·rw[List.getElem?_eq_none (by simpa using hy),List.getElem?_eq_none (by omega)];rfl
end
section
variable (k:Nat) (o:Org) (ho:o.ok) (h0:zbE o=0) (ht:Zr o) (ks st:List Nat) (c f:Nat) (hk:KeysOk o ks) (hs:StOk o st c f)
include ht hk
theorem zBS:∀(r:List Zh) (i:Nat),o.divs.els.drop i=r→
  zP (zA8 (D (k+2)) (I6 (o.divs.els.length:Int)) (enL 5 enV o.divs) (enL 2 zzX (some ks))) [I6 (i:Int)] []=some (.exit 0,[],[]):=by
 have hdl:=ht.dl;intro r
 induction r with
 |nil=>intro i h;refine zu ?_;simp only[zA8,zA,zl,zb,xP (zV h),zp];rfl
 |cons d r ih=>
  intro i h;have hlt:=yp h;have gd:=z6 h;obtain⟨s,gs⟩:∃s,ks[i]? = some s:=⟨_,Lz5 (by have:=hk.len;omega)⟩;have t:=ht.dv d (Lz3 gd);have s56:=hk.lt ht gd gs;have hmem:=hk.mem i d s gd gs;have c1:=t66 k t;obtain⟨q1,q2,q3,q4,q5,q6⟩:=t;have hw:KW d=d.high-d.low+1:=rfl;have hr:zAp 0 (List.range' d.low.toNat (KW d).toNat)<2^56:=zBl fun n hn=>by rw[List.mem_range'_1]at hn;omega
  have c2:=t67 k s (zAp 0 (List.range' d.low.toNat (KW d).toNat));have hz:zzY (s:Int) ((zAp 0 (List.range' d.low.toNat (KW d).toNat):Nat):Int)=0:=(zAL (Nat.lt_trans s56 (by decide)) (Nat.lt_trans hr (by decide))).2 fun b hb=>by have:=hmem b hb;rw[zz1,Nat.zero_testBit,Yz4,YzA,List.mem_range'_1];omega
  rw[hz]at c2;have ix:xL 2 (enL 2 zzX (some ks)) (I6 (i:Int))=some [U64 (s:Int),U64 0]:=xT (v:=some ks) gs _;have ea:zg .add (I6 (i:Int)) (I6 1)=some (I6 ((i+1:Nat):Int)):=yu;have bT21:∀{β:Type} (a b v:DV) (K:List DS→Option β),bT [some 2,none] (some (.tup [.agg [a,b],.one v])) K=K [.agg [a,b],.one v]:=fun _ _ _ _=>rfl;unfold zzX at c1 c2;rw[zJ (by simp only[zA8,zA,zl,zb,jP hlt,zp,if_true,zU h,enV,xc,wi,c1,bT21,ix,zaS,zsw,c2,yj,Yz9,xn,Yzy,Yzi,if_false,ea];rfl),ih (i+1) (zN h)]
include ho h0
theorem t34:D (k+10) 34 [SA (enO o),S1 (enL 2 zzX (some ks))]=some (S1 (I6 0)):=by
 have c1:=t27 k o ho;have l8:=zBS (k+7) o ht ks hk o.divs.els 0 rfl;rw[show (I6 ((0:Nat):Int):DV)=I6 0 from rfl]at l8;have hl:((ks.length:Int)==(o.divs.els.length:Int))=true:=by rw[hk.len];simp
 rw[h0]at c1;unfold enO at c1 ⊢;rw[D34];unfold P34;simp only[c1,yj,yq,Yz9,Yzy,zb,zp,Yzi,if_false,zx,jX,hl,l8,ym,Yzr,Yza]
include hs
theorem t16(hr:zAr o ⟨some (st.map fun n:Nat=>(n:Int)),(c:Int),(f:Int)⟩=0):D (k+12) 16 [SA (enO o),SA [enL 1 zz8 (some st),U64 (c:Int),U64 (f:Int)],S1 (enL 2 zzX (some ks))]=some (.tup [.one (enL 1 zzU (some (zzS o ks st c f))),.one (I6 0)]):=by
 have c1:=t27 (k+2) o ho;have c2:=t33 (k+1) o ho ⟨some (st.map fun n:Nat=>(n:Int)),(c:Int),(f:Int)⟩;have c3:=t34 (k+1) o ho h0 ht ks hk;have c4:=t28 (k+10) o ht;have b5:∀{β:Type} (K:List DV→Option β),bA 5 (some (SA (wG o))) K=K (wG o):=fun _=>rfl;have a4:atD (wG o) 4=I6 (zkF o):=rfl;have tk:=zbl ht.dl ht.dv;have ts:=zcO ht.dl ht.dv;have hcl:=ht.cl;have hdl:=ht.dl;have hcn:zkF o=tot KW o.divs.els+tot KS o.divs.els+(o.cpls.els.length:Int)+(o.divs.els.length:Int):=rfl;obtain⟨N,hN⟩:∃N:Nat,(N:Int)=zkF o:=⟨_,Yyd (by omega)⟩;have mk:mkN 1 (I6 (N:Int)) (I6 (N:Int))=some N:=by show (bif Nat.beq N N&&Nat.ble N 1073741824&&Nat.ble (1*N) 281474976710656 then some N else none)=_;rw[Yzr,Yzf (by omega),Yzf (by omega)];rfl
 have l11:=zBC (k+10) o ht ks st c f hk hs N hN o.divs.els 0 rfl (Yzo _);have i0:(fun y=>dn o 0 y&&vAt o ks st c f y)=fun _=>false:=by
  funext y
  have:dn o 0 y=false:=by rw[Bool.eq_false_iff];simp only[dn,ne_eq,YzD,LzC,YzA];simp only[Yyk,kF];omega
  rw[this,Bool.false_and]
 rw[i0,show (I6 ((0:Nat):Int):DV)=I6 0 from rfl]at l11;have l60:=zBu o ht N hN c (zzZ hs.c (by omega)) o.cpls.els.length 0 (fun y=>dn o o.divs.els.length y&&vAt o ks st c f y) (by omega);rw[zBj o ht ks st c f hk hs N hN,show (I6 ((0:Nat):Int):DV)=I6 0 from rfl]at l60;have er:zAE ⟨some (st.map fun n:Nat=>(n:Int)),(c:Int),(f:Int)⟩=[enL 1 zz8 (some st),U64 (c:Int),U64 (f:Int)]:=by unfold zAE;rw[zeP,zeP,List.map_map];rfl
 rw[h0]at c1;rw[hr,er]at c2;rw[←hN]at a4;unfold enO at c1 c2 c3 c4 ⊢;rw[D16];unfold P16;simp only[c1,yj,yq,Yz9,Yzy,zb,zp,Yzi,if_false,c2,c3,c4,b5,a4,mk,zBi,zx,l11,ym,Yzr,Yza,yl,l60,zaf]
end
end Go.Proofs.Tryz.Kn
end
section
namespace Go.Proofs.Tryz.Kn
open Go Go.CE Go.PE
def bF:Nat→Nat→List Bool→Nat
 |w,_,[]=>w
 |w,i,b::r=>bF (if b=true then w ||| 2^i else w) (i+1) r
theorem zBf:∀(r:List Bool) (w i j:Nat),(bF w i r).testBit j=(w.testBit j||(decide (i≤j)&&(r[j-i]?).getD false))
 | [],w,i,j=>by simp[bF]
 |b::r,w,i,j=>by
  rw[bF,zBf r];have hw:(if b=true then w ||| 2^i else w).testBit j=(w.testBit j||(b&&decide (i=j))):=by
   cases b with
   |false=>simp
   |true=>rw[Yzd rfl,Nat.testBit_or,Nat.testBit_two_pow];simp
  rw[hw,Bool.or_assoc]
  congr 1
  by_cases h1:i=j
  ·subst h1;have:¬i+1≤i:=by omega
   simp[this]
  ·by_cases h2:i≤j
   ·obtain⟨k,rfl⟩:∃k,j=i+(k+1):=⟨j-i-1,by omega⟩;rw[show i+(k+1)-(i+1)=k by omega,show i+(k+1)-i=k+1 by omega];simp
   ·have h3:¬i+1≤j:=by omega
    simp[h1,h2,h3]
theorem zAB{V:List Bool}{a n x:Nat}(hx:x<2^n)(h:∀j,j<n→V[a+j]? = some (x.testBit j)):bF 0 0 ((V.drop a).take n)=x:=by
 refine Nat.eq_of_testBit_eq fun j=>?_;rw[zBf,Nat.zero_testBit,Yz4,YzI];simp only[Yzo,decide_true,Yyc,Nat.sub_zero];by_cases hj:j<n
 ·rw[Yzd hj,Yzq,h j hj];rfl
 ·rw[Yzc hj,Nat.testBit_lt_two_pow (Lz9 hx (Nat.pow_le_pow_right (by decide) (by omega)))];rfl
theorem zBW(l:Sl Bool)(hl:l.els.length≤60):∀(r:List Bool) (i w:Nat),l.els.drop i=r→w<2^62→
  zP (zAY (I6 (l.els.length:Int)) (enL 1 zzU l)) [I6 (i:Int),U64 (w:Int)] []=some (.exit 0,[U64 ((bF w i r:Nat):Int)],[]):=by
 intro r
 induction r with
 |nil=>intro i w h _;refine zu ?_;simp only[zAY,zA,yE,zl,zb,xP (zV h),zp,bF];rfl
 |cons b r ih=>
  intro i w h hw;have hlt:=yp h;have ea:zg .add (I6 (i:Int)) (I6 1)=some (I6 ((i+1:Nat):Int)):=yu;have sh:zlQ true (U64 1) (I6 (i:Int))=some (U64 ((2^i:Nat):Int)):=zAV (by omega);have hp:2^i<2^62:=Nat.pow_lt_pow_right (by decide) (by omega);have eo:=zAs (x:=w) (y:=2^i) (Nat.lt_trans hw (by decide)) (Nat.lt_trans hp (by decide));have body:zAY (I6 (l.els.length:Int)) (enL 1 zzU l) [I6 (i:Int),U64 (w:Int)] []=some (.normal,[I6 ((i+1:Nat):Int),U64 (((if b=true then w ||| 2^i else w):Nat):Int)],[]):=by simp only[zAY,zA,yE,zl,zb,jP hlt,zp,if_true,zU h,zzU,xc,sh,eo,ea];cases b<;>rfl
  rw[zJ body,ih (i+1) _ (zN h) (by split;exact Nat.or_lt_two_pow hw hp;exact hw)];rfl
theorem t37(k:Nat)(l:Sl Bool)(hl:l.els.length≤60):D (k+1) 37 [S1 (enL 1 zzU l)]=some (S1 (U64 ((bF 0 0 l.els:Nat):Int))):=by have:=zBW l hl l.els 0 0 rfl (by decide);rw[show (I6 ((0:Nat):Int):DV)=I6 0 from rfl,show (U64 ((0:Nat):Int):DV)=U64 0 from rfl]at this;rw[D37];unfold P37;simp only[zx,zb,this,ym,Yzr,Yza,zA]
theorem zAf{α:Type}{st a b:Nat}{f:α→List DV}{l:List α}(h1:a≤b)(h2:b≤l.length)(h3:a<l.length):u1 st (enL st f (some l)) (some (I6 (a:Int))) (some (I6 (b:Int)))=some (enL st f (some ((l.drop a).take (b-a)))):=by
 have e1:zcw (some (I6 (b:Int))) (l.map f).length (l.map f).length=some b:=zxl (by simpa using h2);have e2:zcw (some (I6 (a:Int))) 0 b=some a:=zxl h1;have e3:(Nat.beq a 0 || !Nat.beq a (l.map f).length)=true:=by
  have:Nat.beq a (l.map f).length=false:=by rw[Bool.eq_false_iff];intro e;have:=Lz1 e;rw[Yzm]at this;omega
  rw[this];simp
 unfold u1;simp only[zeP,Yzr,Yza,e1,e2,e3,List.map_take,List.map_drop]
theorem zAg{α:Type}{st a:Nat}{f:α→List DV}{l:List α}(h3:a<l.length):u1 st (enL st f (some l)) (some (I6 (a:Int))) none=some (enL st f (some ((l.drop a).take (l.length-a)))):=by
 have e1:zcw none (l.map f).length (l.map f).length=some l.length:=by rw[Yzm];rfl
 have e2:zcw (some (I6 (a:Int))) 0 l.length=some a:=zxl (by omega);have e3:(Nat.beq a 0 || !Nat.beq a (l.map f).length)=true:=by
  have:Nat.beq a (l.map f).length=false:=by rw[Bool.eq_false_iff];intro e;have:=Lz1 e;rw[Yzm]at this;omega
  rw[this];simp
 unfold u1;simp only[zeP,Yzr,Yza,e1,e2,e3,List.map_take,List.map_drop]
section
variable (k:Nat) (o:Org) (ht:Zr o) (ks st:List Nat) (c f:Nat) (hk:KeysOk o ks) (hs:StOk o st c f)
include ht hk hs
theorem zBB(i:Nat)(d:Zh)(s:Nat)(hd:o.divs.els[i]? = some d)(h':ks[i]? = some s)(c0 c1:DV):∀(m n:Nat) (acc:List Nat),(n:Int)+(m:Int)=KW d→acc.length+m≤1000→
  zP (zAa (I6 (KW d)) (wG o) [I6 (i:Int),c0,c1] (enL 1 zzU (some (zzS o ks st c f))) (enV d)) [I6 (n:Int)] [ocL enG (grow acc)]=some (.exit 2,[],[ocL enG (grow (acc++((List.range' n m).filter fun n=>s.testBit (d.low.toNat+n)).map fun n=>d.low.toNat+n))]):=by
 have t:=ht.dv d (Lz3 hd);obtain⟨q1,q2,q3,q4,q5,q6⟩:=t;obtain⟨b1,b2,b3,b4⟩:=zz0 ht hd;have tk:=zbl ht.dl ht.dv;have hw:KW d=d.high-d.low+1:=rfl;have hil:i<o.divs.els.length:=(Lz0.1 hd).1;have ix:xL 1 (enL 1 enW (grow (qy KW o.divs.els 0))) (I6 (i:Int))=some [I6 (tot KW (o.divs.els.take i))]:=by have:=zio (st:=1) KW o.divs.els 0 i hil .i64;rw[Int.zero_add]at this;exact this
 intro m
 induction m with
 |zero=>intro n acc h _;refine zu ?_;simp only[zAa,zA,yl,zl,zb,decide_eq_false (show ¬(n:Int)<KW d by omega),zp,List.range'_zero,List.filter_nil,Yz6,Yzw];rfl
 |succ m ih=>
  intro n acc h ha;have ea:zg .add (I6 (n:Int)) (I6 1)=some (I6 ((n+1:Nat):Int)):=yu;obtain⟨y,hy⟩:∃y:Nat,tot KW (o.divs.els.take i)+(n:Int)=(y:Int):=⟨_,(Yyd (by omega)).symm⟩;have e1:zg .add (I6 (tot KW (o.divs.els.take i))) (I6 (n:Int))=some (I6 (y:Int)):=by rw[←hy];exact yu
  have e2:zg .add (I6 d.low) (I6 (n:Int))=some (I6 ((d.low.toNat+n:Nat):Int)):=by rw[show ((d.low.toNat+n:Nat):Int)=d.low+(n:Int) by omega];exact yu
  have g:(zzS o ks st c f)[y]? = some (s.testBit (d.low.toNat+n)):=by rw[zBI o ht ks st c f hk hs hd h' (by omega) (by omega),show ((y:Int)-tot KW (o.divs.els.take i)+d.low).toNat=d.low.toNat+n by omega]
  have ix2:xL 1 (enL 1 zzU (some (zzS o ks st c f))) (I6 (y:Int))=some [Bo (s.testBit (d.low.toNat+n))]:=xT (v:=some _) g _;have ef:fits 8 ((grow acc).els.length+1)=true:=xu (by decide) (by rw[zS];omega);have hlt:=decide_eq_true (show (n:Int)<KW d by omega);rw[List.range'_succ];cases hb:s.testBit (d.low.toNat+n) with
  |true=>
   rw[hb]at ix2;have body:zAa (I6 (KW d)) (wG o) [I6 (i:Int),c0,c1] (enL 1 zzU (some (zzS o ks st c f))) (enV d) [I6 (n:Int)] [ocL enG (grow acc)]=some (.normal,[I6 ((n+1:Nat):Int)],[ocL enG (grow (acc++[d.low.toNat+n]))]):=by rw[yG,←y6 (f:=enG)];simp only[zAa,zA,yl,zl,zb,hlt,zp,if_true,wG,enV,xc,wi,ix,e1,ix2,e2,xf,ef,wa,ea,yF];rfl
   rw[zJ body,ih (n+1) _ (by omega) (by simp;omega)];simp[hb]
  |false=>
   rw[hb]at ix2;have body:zAa (I6 (KW d)) (wG o) [I6 (i:Int),c0,c1] (enL 1 zzU (some (zzS o ks st c f))) (enV d) [I6 (n:Int)] [ocL enG (grow acc)]=some (.normal,[I6 ((n+1:Nat):Int)],[ocL enG (grow acc)]):=by simp only[zAa,zA,yl,zl,zb,hlt,zp,if_true,wG,enV,xc,wi,ix,e1,ix2,Yzi,if_false,ea]
   rw[zJ body,ih (n+1) _ (by omega) (by omega)];simp[hb]
omit hs in
theorem zAU{i:Nat}{d:Zh}{s:Nat}(hd:o.divs.els[i]? = some d)(h':ks[i]? = some s):zAp 0 (((List.range' 0 (KW d).toNat).filter fun n=>s.testBit (d.low.toNat+n)).map fun n=>d.low.toNat+n)=s:=by
 have t:=ht.dv d (Lz3 hd);obtain⟨q1,q2,q3,q4,q5,q6⟩:=t;have hw:KW d=d.high-d.low+1:=rfl;refine Nat.eq_of_testBit_eq fun j=>?_;rw[zz1,Nat.zero_testBit,Yz4,Bool.eq_iff_iff,YzA];simp only[List.mem_map,List.mem_filter,List.mem_range'_1]
 constructor
 ·rintro⟨n,⟨_,hb⟩,rfl⟩
  exact hb
 ·intro hb;have:=hk.mem i d s hd h' j hb;exact⟨j-d.low.toNat,⟨by omega,by rw[show d.low.toNat+(j-d.low.toNat)=j by omega];exact hb⟩,by omega⟩
theorem zBT:∀(r:List Zh) (i:Nat) (ka sa:List Nat),o.divs.els.drop i=r→ka.length=i→sa.length=i→
  zP (zA0 (D (k+2)) (I6 (o.divs.els.length:Int)) (enL 5 enV o.divs) (wG o) (enL 1 zzU (some (zzS o ks st c f)))) [I6 (i:Int),U64 0,U64 0] [ocL zzX (grow ka),ocL zz8 (grow sa)]=some (.exit 0,[U64 0,U64 0],[ocL zzX (grow (ka++ks.drop i)),ocL zz8 (grow (sa++st.drop i))]):=by
 have hdl:=ht.dl;have hcl:=ht.cl;have tk:=zbl ht.dl ht.dv;have ts:=zcO ht.dl ht.dv;obtain⟨_,_,z3⟩:=zzT o ht ks st c f hk hs;have hcn:zkF o=tot KW o.divs.els+tot KS o.divs.els+(o.cpls.els.length:Int)+(o.divs.els.length:Int):=rfl;intro r
 induction r with
 |nil=>intro i ka sa h _ _;refine zu ?_;have hi:=zV h;rw[List.drop_of_length_le (by have:=hk.len;omega),List.drop_of_length_le (by have:=hs.len;omega)];simp only[zA0,zA,yE,yl,wo,zl,zb,xP hi,zp,Yzw];rfl
 |cons d r ih=>
  intro i ka sa h hka hsa;have hlt:=yp h;have gd:=z6 h;have ik:i<ks.length:=by have:=hk.len;omega
  have is:i<st.length:=by have:=hs.len;omega
  have gs:ks[i]? = some ks[i]:=Lz5 ik;have gx:st[i]? = some st[i]:=Lz5 is;generalize hs0:ks[i]=s at gs;generalize hx0:st[i]=x at gx;have t:=ht.dv d (Lz3 gd);obtain⟨q1,q2,q3,q4,q5,q6⟩:=t;obtain⟨b1,b2,b3,b4⟩:=zz0 ht gd;have hw:KW d=d.high-d.low+1:=rfl;have hws:KS d=(d.stops.els.length:Int):=rfl;have ea:zg .add (I6 (i:Int)) (I6 1)=some (I6 ((i+1:Nat):Int)):=yu;have e1:zg .sub (I6 d.high) (I6 d.low)=some (I6 (d.high-d.low)):=j5;have e2:zg .add (I6 (d.high-d.low)) (I6 1)=some (I6 (KW d)):=yu;have l16:=zBB o ht ks st c f hk hs i d s gd gs (U64 0) (U64 0) (KW d).toNat 0 [] (by omega) (by simp;omega);rw[show ocL enG (grow ([]:List Nat))=none from rfl,Yz0,show (I6 ((0:Nat):Int):DV)=I6 0 from rfl]at l16;have es:=zAU o ht ks hk gd gs;generalize hL:((List.range' 0 (KW d).toNat).filter fun n=>s.testBit (d.low.toNat+n)).map (fun n=>d.low.toNat+n)=L at l16 es;have hL1:L.length≤1000:=by rw[←hL,Yzm];refine Yzp (List.length_filter_le _ _) ?_;rw[List.length_range'];omega
  have hL2:∀n∈L,n≤55:=by intro n hn;rw[←hL]at hn;simp only[List.mem_map,List.mem_filter,List.mem_range'_1]at hn;obtain⟨m,⟨hm,_⟩,rfl⟩:=hn;omega
  have co:=t32 k (grow L) (by rw[zS];exact hL1) (by rw[zS];exact hL2);rw[zS,es]at co;unfold zzX at co;have ef1:fits 16 ((grow ka).els.length+1)=true:=xu (by decide) (by rw[zS];omega);have ef2:fits 8 ((grow sa).els.length+1)=true:=xu (by decide) (by rw[zS];omega);obtain⟨z,hz⟩:∃z:Nat,tot KW o.divs.els+tot KS (o.divs.els.take i)=(z:Int):=⟨_,(Yyd (by omega)).symm⟩;have ix:xL 1 (enL 1 enW (grow (qy KS o.divs.els (tot KW o.divs.els)))) (I6 (i:Int))=some [I6 (z:Int)]:=by rw[←hz];exact zio _ _ _ _ hlt _
  have e3:zg .add (I6 (z:Int)) (I6 (d.stops.els.length:Int))=some (I6 ((z+d.stops.els.length:Nat):Int)):=yu;have ps:=zAf (st:=1) (a:=z) (b:=z+d.stops.els.length) (f:=zzU) (l:=zzS o ks st c f) (by omega) (by omega) (by omega);rw[show z+d.stops.els.length-z=d.stops.els.length by omega]at ps;have cb:=t37 (k+1) (some (((zzS o ks st c f).drop z).take d.stops.els.length)) (by rw[jX,List.length_take];omega)
  rw[jX,zAB (hs.st i d x gd gx) fun j hj=>by rw[zBg o ht ks st c f hk hs gd gx (by omega) (by omega),show (((z+j:Nat):Int)-(tot KW o.divs.els+tot KS (o.divs.els.take i))).toNat=j by omega]]at cb
  have bT21:∀{β:Type} (a b v:DV) (K:List DS→Option β),bT [some 2,none] (some (.tup [.agg [a,b],.one v])) K=K [.agg [a,b],.one v]:=fun _ _ _ _=>rfl;have d2:atD (enV d) 2=I6 d.low:=rfl;have d3:atD (enV d) 3=I6 d.high:=rfl;have d4:atD (enV d) 4=enL 4 wp d.stops:=rfl;have a1:atD (wG o) 1=enL 1 enW (grow (qy KS o.divs.els (tot KW o.divs.els))):=rfl;have body:zA0 (D (k+2)) (I6 (o.divs.els.length:Int)) (enL 5 enV o.divs) (wG o) (enL 1 zzU (some (zzS o ks st c f))) [I6 (i:Int),U64 0,U64 0] [ocL zzX (grow ka),ocL zz8 (grow sa)]=some (.normal,[I6 ((i+1:Nat):Int),U64 0,U64 0],[ocL zzX (grow (ka++[s])),ocL zz8 (grow (sa++[x]))]):=by rw[yG,←y6 (f:=zzX),yG,←y6 (f:=zz8)];simp only[zA0,zA,yE,yl,wo,zl,zb,jP hlt,zp,if_true,zU h,d2,d3,d4,e1,e2,l16,ym,Yzr,Yza,zaf,co,bT21,zaS,zni,jx,zsw,xc,wi,yq,Yz9,Yzy,Yzi,if_false,xf,ef1,wa,a1,ix,zx,e3,ps,cb,yj,ef2,ea,yF];rfl
  rw[zJ body,ih (i+1) _ _ (zN h) (by simp[hka]) (by simp[hsa]),List.drop_eq_getElem_cons ik,List.drop_eq_getElem_cons is,hs0,hx0];simp
theorem t19(ho:o.ok)(h0:zbE o=0)(hd1:0<o.divs.els.length):D (k+10) 19 [SA (enO o),S1 (enL 1 zzU (some (zzS o ks st c f)))]=some (.tup [.agg [enL 1 zz8 (some st),U64 (c:Int),U64 (f:Int)],.one (enL 2 zzX (some ks)),.one (I6 0)]):=by
 have c1:=t27 k o ho;have c4:=t28 (k+8) o ht;have b5:∀{β:Type} (K:List DV→Option β),bA 5 (some (SA (wG o))) K=K (wG o):=fun _=>rfl;have a2:atD (wG o) 2=I6 (cpN o):=rfl;have a3:atD (wG o) 3=I6 (cpN o+(o.cpls.els.length:Int)):=rfl;have a4:atD (wG o) 4=I6 (zkF o):=rfl;have tk:=zbl ht.dl ht.dv;have ts:=zcO ht.dl ht.dv;have hcl:=ht.cl;have hdl:=ht.dl;have hcn:zkF o=cpN o+(o.cpls.els.length:Int)+(o.divs.els.length:Int):=rfl;have hcp:cpN o=tot KW o.divs.els+tot KS o.divs.els:=rfl;obtain⟨_,_,z3⟩:=zzT o ht ks st c f hk hs;have hlen:(((zzS o ks st c f).length:Int)==zkF o)=true:=by rw[z3];simp
 obtain⟨z,hz⟩:∃z:Nat,cpN o=(z:Int):=⟨_,(Yyd (by omega)).symm⟩;have ps:=zAf (st:=1) (a:=z) (b:=z+o.cpls.els.length) (f:=zzU) (l:=zzS o ks st c f) (by omega) (by omega) (by omega);rw[show z+o.cpls.els.length-z=o.cpls.els.length by omega]at ps;have pe:=zAg (st:=1) (a:=z+o.cpls.els.length) (f:=zzU) (l:=zzS o ks st c f) (by omega);rw[show (zzS o ks st c f).length-(z+o.cpls.els.length)=o.divs.els.length by omega]at pe;have cb:=t37 (k+8) (some (((zzS o ks st c f).drop z).take o.cpls.els.length)) (by rw[jX,List.length_take];omega);rw[jX,zAB hs.c fun j hj=>by rw[zBJ o ht ks st c f hk hs (by omega) (by omega),show (((z+j:Nat):Int)-cpN o).toNat=j by omega]]at cb
 have cf:=t37 (k+8) (some (((zzS o ks st c f).drop (z+o.cpls.els.length)).take o.divs.els.length)) (by rw[jX,List.length_take];omega);rw[jX,zAB hs.f fun j hj=>by rw[zBH o ht ks st c f hk hs (by omega) (by omega),show (((z+o.cpls.els.length+j:Nat):Int)-(cpN o+(o.cpls.els.length:Int))).toNat=j by omega]]at cf
 have l8:=zBT (k+7) o ht ks st c f hk hs o.divs.els 0 [] [] rfl rfl rfl;rw[show (I6 ((0:Nat):Int):DV)=I6 0 from rfl,show ocL zzX (grow ([]:List Nat))=none from rfl,show ocL zz8 (grow ([]:List Nat))=none from rfl,Yz0,Yz0,List.drop_zero,List.drop_zero,zhj (show 0<ks.length by have:=hk.len;omega),zhj (show 0<st.length by have:=hs.len;omega)]at l8;rw[hz]at a2;rw[show cpN o+(o.cpls.els.length:Int)=((z+o.cpls.els.length:Nat):Int) by omega]at a3;rw[h0]at c1;unfold enO at c1 c4 ⊢;rw[D19];unfold P19;simp only[c1,yj,yq,Yz9,Yzy,zb,zp,Yzi,if_false,c4,b5,a4,zx,jX,hlen,l8,ym,Yzr,Yza,a2,a3,ps,cb,pe,cf,yl,wo,zaf]
omit hk hs in
theorem zAT(ho:o.ok)(h0:zbE o=0)(V:List Bool)(hV:(V.length:Int)≠zkF o):D (k+10) 19 [SA (enO o),S1 (enL 1 zzU (some V))]=some (.tup [.agg [.nils,U64 0,U64 0],.one .nils,.one (I6 5)]):=by
 have c1:=t27 k o ho;have c4:=t28 (k+8) o ht;have b5:∀{β:Type} (K:List DV→Option β),bA 5 (some (SA (wG o))) K=K (wG o):=fun _=>rfl;have a4:atD (wG o) 4=I6 (zkF o):=rfl;have hlen:((V.length:Int)==zkF o)=false:=by simpa using hV
 rw[h0]at c1;unfold enO at c1 c4 ⊢;rw[D19];unfold P19;simp only[c1,yj,yq,Yz9,Yzy,zb,zp,Yzi,if_false,c4,b5,a4,zx,jX,hlen,Bool.not_false,if_true]
end
def zBp(b:Nat→Nat):List DV:=[.int .u16 (b 0:Int),.int .u16 (b 1:Int),.int .u16 (b 2:Int)]
theorem zBn(a b:Int):zg .and (.int .u16 a) (.int .u16 b)=some (.int .u16 (IntKind.wrap .u16 (BitVec.ofInt IntKind.u16.bits a &&& BitVec.ofInt IntKind.u16.bits b).toNat)):=(rfl)
theorem zBm{k:IntKind}(a:Int)(n:Nat):zlQ false (.int .u16 a) (.int k (n:Int))=some (.int .u16 (Int.fdiv a (2^(min n 16)))):=(rfl)
theorem zBQ(b:Nat→Nat)(i:Nat)(d:Zh)(t:qd d):∀(m n:Nat) (acc:List Nat),(n:Int)+(m:Int)=d.high+1→d.low≤(n:Int)→acc.length+m≤1000→
  ∃l:List Nat,(∀n∈l,d.low≤(n:Int)∧(n:Int)≤d.high)∧l.length≤m∧zP (zAR (enV d) [I6 (i:Int)] (.int .u16 (b 0:Int)) (.int .u16 (b 1:Int)) (.int .u16 (b 2:Int))) [I6 (n:Int)] [ocL enG (grow acc)]=some (.exit 2,[],[ocL enG (grow (acc++l))]):=by
 obtain⟨q1,q2,q3,q4,q5,q6⟩:=t;intro m
 induction m with
 |zero=>intro n acc h _ _;refine⟨[],by simp,LzB _,zu ?_⟩;simp only[zAR,zA,yl,enV,xc,wi,wO,zb,decide_eq_false (show ¬(n:Int)≤d.high by omega),zp,Yzw];rfl
 |succ m ih=>
  intro n acc h hn ha;have e0:zg .add (I6 d.low) (I6 16)=some (I6 (d.low+16)):=yu;by_cases h16:(n:Int)<d.low+16
  ·have ea:zg .add (I6 (n:Int)) (I6 1)=some (I6 ((n+1:Nat):Int)):=yu;have e1:zg .rem (I6 (i:Int)) (I6 3)=some (I6 ((i % 3:Nat):Int)):=zib (b:=3) (by decide);have h3:i % 3<3:=Yz1 _ (by decide);have e2:zcH 3 (I6 ((i % 3:Nat):Int))=some (i % 3):=zoE (by omega);have e3:atD [.int .u16 (b 0:Int),.int .u16 (b 1:Int),.int .u16 (b 2:Int)] (i % 3)=.int .u16 (b (i % 3):Int):=by
    have:i % 3=0∨i % 3=1∨i % 3=2:=by omega
    rcases this with h|h|h<;>rw[h]<;>rfl
   obtain⟨z,hz⟩:∃z:Nat,(n:Int)-d.low=(z:Int):=⟨_,(Yyd (by omega)).symm⟩;have e4:zg .sub (I6 (n:Int)) (I6 d.low)=some (I6 (z:Int)):=by rw[←hz];exact j5
   have e5:y2 .u64 (I6 (z:Int))=some (U64 (z:Int)):=zuV (by omega);have ef:fits 8 ((grow acc).els.length+1)=true:=xu (by decide) (by rw[zS];omega);have key:zAR (enV d) [I6 (i:Int)] (.int .u16 (b 0:Int)) (.int .u16 (b 1:Int)) (.int .u16 (b 2:Int)) [I6 (n:Int)] [ocL enG (grow acc)]=if ((IntKind.wrap .u16 (BitVec.ofInt IntKind.u16.bits (Int.fdiv (b (i % 3):Int) (2^(min z 16))) &&& BitVec.ofInt IntKind.u16.bits 1).toNat)==1)=true then some (.normal,[I6 ((n+1:Nat):Int)],[ocL enG (grow (acc++[n]))]) else some (.normal,[I6 ((n+1:Nat):Int)],[ocL enG (grow acc)]):=by rw[yG,←y6 (f:=enG)];simp only[zAR,zA,yl,enV,xc,wi,wO,zl,zb,decide_eq_true (show (n:Int)≤d.high by omega),zp,if_true,e0,decide_eq_true h16,e1,e2,e3,e4,e5,zBm,zBn,wP,xf,ef,wa,ea,yF];rfl
   split at key
   ·obtain⟨l,h1,h2,h3⟩:=ih (n+1) (acc++[n]) (by omega) (by omega) (by simp;omega);refine⟨n::l,?_,by simp only[Yzv];omega,?_⟩
    ·intro x hx;rcases Yz7.1 hx with rfl|hx
     ·omega
     ·exact h1 x hx
    ·rw[zJ key,h3];simp
   ·obtain⟨l,h1,h2,h3⟩:=ih (n+1) acc (by omega) (by omega) (by omega);exact⟨l,h1,by omega,by rw[zJ key,h3]⟩
  ·refine⟨[],by simp,Yzo _,zu ?_⟩;simp only[zAR,zA,yl,enV,xc,wi,wO,zl,zb,decide_eq_true (show (n:Int)≤d.high by omega),zp,if_true,e0,decide_eq_false h16,Yzw];rfl
theorem zB0(k:Nat)(b:Nat→Nat)(dv:Sl Zh)(hl:dv.els.length≤3)(hd:∀d∈dv.els,qd d):∀(r:List Zh) (i:Nat) (acc:List Nat),dv.els.drop i=r→acc.length=i→
  ∃q:List Nat,q.length=r.length∧(∀(j:Nat) (d:Zh) (s:Nat),r[j]? = some d→q[j]? = some s→∀b,s.testBit b=true→d.low≤(b:Int)∧(b:Int)≤d.high)∧
   zP (zA3 (D (k+2)) (enL 5 enV dv) (.int .u16 (b 0:Int)) (.int .u16 (b 1:Int)) (.int .u16 (b 2:Int))) [I6 (i:Int)] [ocL zzX (grow acc)]=some (.exit 0,[],[ocL zzX (grow (acc++q))]):=by
 intro r
 induction r with
 |nil=>intro i acc h _;refine⟨[],rfl,by simp,zu ?_⟩;simp only[zA3,zA,yl,zx,zl,zb,xP (zV h),zp,Yzw];rfl
 |cons d r ih=>
  intro i acc h ha;have hlt:=yp h;have t:=hd d (Lz3 (z6 h));have ea:zg .add (I6 (i:Int)) (I6 1)=some (I6 ((i+1:Nat):Int)):=yu;have hw:KW d=d.high-d.low+1:=rfl;obtain⟨l,h1,h2,h3⟩:=zBQ b i d t (KW d).toNat d.low.toNat [] (by obtain⟨q1,q2,q3,q4,q5,q6⟩:=t;omega) (by obtain⟨q1,q2,q3,q4,q5,q6⟩:=t;omega) (by obtain⟨q1,q2,q3,q4,q5,q6⟩:=t;simp;omega);obtain⟨q1,q2,q3,q4,q5,q6⟩:=t;rw[show ((d.low.toNat:Nat):Int)=d.low by omega,show ocL enG (grow ([]:List Nat))=none from rfl,Yz0]at h3;have co:=t32 k (grow l) (by rw[zS];omega) (by rw[zS];intro n hn;have:=h1 n hn;omega);rw[zS]at co;unfold zzX at co;have ef:fits 16 ((grow acc).els.length+1)=true:=xu (by decide) (by rw[zS];omega);have bT21:∀{β:Type} (a b v:DV) (K:List DS→Option β),bT [some 2,none] (some (.tup [.agg [a,b],.one v])) K=K [.agg [a,b],.one v]:=fun _ _ _ _=>rfl;have d2:atD (enV d) 2=I6 d.low:=rfl;have body:zA3 (D (k+2)) (enL 5 enV dv) (.int .u16 (b 0:Int)) (.int .u16 (b 1:Int)) (.int .u16 (b 2:Int)) [I6 (i:Int)] [ocL zzX (grow acc)]=some (.normal,[I6 ((i+1:Nat):Int)],[ocL zzX (grow (acc++[zAp 0 l]))]):=by rw[yG,←y6 (f:=zzX)];simp only[zA3,zA,yl,zx,zl,zb,jP hlt,zp,if_true,zU h,d2,h3,ym,Yzr,Yza,zaf,co,bT21,zaS,zsw,xc,wi,xf,ef,wa,ea,yF];rfl
  obtain⟨q,g1,g2,g3⟩:=ih (i+1) (acc++[zAp 0 l]) (zN h) (by simp[ha]);refine⟨zAp 0 l::q,by simp[g1],?_,?_⟩
  ·intro j d' s hj hs b hb;cases j with
   |zero=>simp only[Yzg,Option.some.injEq]at hj hs;subst hj;subst hs;rw[zz1,Nat.zero_testBit,Yz4,YzA]at hb;exact h1 b hb
   |succ j=>exact g2 j d' s (by simpa using hj) (by simpa using hs) b hb
  ·rw[zJ body,g3];simp
theorem t15(k:Nat)(o:Org)(ht:Zr o)(b:Nat→Nat):∃ks,KeysOk o ks∧D (k+3) 15 [SA (enO o),SA (zBp b)]=some (S1 (enL 2 zzX (grow ks))):=by obtain⟨q,g1,g2,g3⟩:=zB0 k b o.divs ht.dl ht.dv o.divs.els 0 [] rfl rfl;refine⟨q,⟨g1,g2⟩,?_⟩;rw[show (I6 ((0:Nat):Int):DV)=I6 0 from rfl,show ocL zzX (grow ([]:List Nat))=none from rfl,Yz0]at g3;unfold enO zBp;rw[D15];unfold P15;simp only[g3,ym,Yzr,Yza,yl,zaf]
def dgN(b:Nat→Nat):Nat→List Zh→List Nat
 |_,[]=>[]
 |i,d::r=>(b (i % 3) &&& (2^d.stops.els.length-1))::dgN b (i+1) r
theorem zAm{x n:Nat}(hx:x<256)(hn:n≤60):zAd (x:Int) (zz4 n)=((x &&& (2^n-1):Nat):Int):=by have hp:2^n<2^64:=Nat.pow_lt_pow_right (by decide) (by omega);exact zxr (Lz9 hx (by decide)) (by omega)
theorem zAD(x n:Nat):x &&& (2^n-1)<2^n:=by rw[Nat.and_two_pow_sub_one_eq_mod];exact Yz1 _ (Nat.two_pow_pos n)
theorem zBe(b:Nat→Nat)(hb:∀i,b i<256):∀(l:List Zh) (i:Nat),(∀d∈l,d.stops.els.length≤3)→zzV b i l=(dgN b i l).map fun n:Nat=>(n:Int)
 | [],_,_=>rfl
 |d::l,i,h=>by rw[zzV,dgN,Yzs,zBe b hb l (i+1) fun d hd=>h d (by simp[hd])];have h3:=h d (by simp);have:zAd (b (i % 3):Int) (zAW d)=((b (i % 3) &&& (2^d.stops.els.length-1):Nat):Int):=zAm (hb _) (by omega);rw[this]
theorem zAF(b:Nat→Nat):∀(l:List Zh) (i:Nat),(dgN b i l).length=l.length
 | [],_=>rfl
 |d::l,i=>by simp[dgN,zAF b l]
theorem zBd(b:Nat→Nat):∀(l:List Zh) (i j:Nat) (d:Zh) (x:Nat),l[j]? = some d→(dgN b i l)[j]? = some x→x<2^d.stops.els.length
 | [],_,_,_,_,h,_=>by simp at h
 |d0::l,i,0,d,x,h,h'=>by simp only[dgN,Yzg,Option.some.injEq]at h h';subst h;subst h';exact zAD _ _
 |d0::l,i,j+1,d,x,h,h'=>zBd b l (i+1) j d x (by simpa using h) (by simpa[dgN] using h')
theorem zBU(l:List Bool)(hl:l.length≤1000):∀(r:List Bool) (i:Nat),l.drop i=r→
  zP (zBa (enL 1 zzU (some l)) (enL 1 zzU (some l))) [I6 (i:Int)] []=some (.exit 0,[],[]):=by
 intro r
 induction r with
 |nil=>intro i h;refine zu ?_;simp only[zBa,zA,zx,jX,zl,zb,xP (zV h),zp];rfl
 |cons x r ih=>
  intro i h;have hlt:=yp h;have ea:zg .add (I6 (i:Int)) (I6 1)=some (I6 ((i+1:Nat):Int)):=yu;have ix:xL 1 (enL 1 zzU (some l)) (I6 (i:Int))=some [Bo x]:=xT (v:=some l) (z6 h) _;have ee:eqD 0 (Bo x) (Bo x)=some true:=by show some (x==x)=_;simp
  rw[zJ (by simp only[zBa,zA,zx,jX,zl,zb,jP hlt,zp,if_true,ix,xc,ee,Yzy,Yzi,if_false,ea];rfl),ih (i+1) (zN h)]
theorem t17(k:Nat)(l:List Bool)(hl:l.length≤1000):D (k+1) 17 [S1 (enL 1 zzU (some l)),S1 (enL 1 zzU (some l))]=some (S1 (Bo true)):=by have:=zBU l hl l 0 rfl;rw[show (I6 ((0:Nat):Int):DV)=I6 0 from rfl]at this;rw[D17];unfold P17;simp only[zx,zb,yq,Yz9,Yzy,zp,Yzi,if_false,this,ym];rfl
theorem zBE(a b:Int):znc [1,1] [U64 a,U64 b] [U64 a,U64 b]=some true:=by
 have h:∀x:Int,eqI x x=true:=fun x=>by rw[uQ];simp
 show (match (some (eqI a a):Option Bool) with|some true=>(match (some (eqI b b):Option Bool) with|some true=>znc [] [] []|some false=>some false|none=>none)|some false=>some false|none=>none)=_;rw[h,h];rfl
theorem zBY(ks st:List Nat)(c f:Nat)(hl:ks.length≤3)(hs:st.length=ks.length):∀(r:List Nat) (i:Nat),ks.drop i=r→
  zP (zA7 (enL 2 zzX (some ks)) [.agg [enL 1 zz8 (some st),U64 (c:Int),U64 (f:Int)],.one (enL 2 zzX (some ks)),.one (I6 0)] [enL 1 zz8 (some st),U64 (c:Int),U64 (f:Int)]) [I6 (i:Int)] []=some (.exit 0,[],[]):=by
 intro r
 induction r with
 |nil=>intro i h;refine zu ?_;simp only[zA7,zA,zx,jX,zl,zb,xP (zV h),zp];rfl
 |cons x r ih=>intro i h;have hlt:=yp h;have ea:zg .add (I6 (i:Int)) (I6 1)=some (I6 ((i+1:Nat):Int)):=yu;have ix:xL 2 (enL 2 zzX (some ks)) (I6 (i:Int))=some [U64 (x:Int),U64 0]:=xT (v:=some ks) (z6 h) _;obtain⟨y,hy⟩:∃y,st[i]? = some y:=⟨_,Lz5 (by omega)⟩;have ix2:xL 1 (enL 1 zz8 (some st)) (I6 (i:Int))=some [U64 (y:Int)]:=xT (v:=some st) hy _;rw[zJ (by simp only[zA7,zA,zx,jX,zl,zb,jP hlt,zp,if_true,zaS,zni,zsw,jx,xc,wi,ix,ix2,yq,Yz9,Yzy,Yzi,if_false,zBE,ea];rfl),ih (i+1) (zN h)]
theorem t4(k:Nat)(p:Pln)(hp:p.ok)(b:Nat→Nat)(hb:∀i,b i<256)(b':Nat→Nat):D (k+14) 4 [SA (zeO p),SA (enB b),SA (zBp b')]=some (S1 (Bo true)):=by
 have kn:=D5 (k+13);have cf:=t6 (k+12) p hp;unfold zeO at cf ⊢;have eb:enB b=[U8 (b 0:Int),U8 (b 1:Int),U8 (b 2:Int),U8 (b 3:Int),U8 (b 4:Int)]:=rfl;have ek:zBp b'=[.int .u16 (b' 0:Int),.int .u16 (b' 1:Int),.int .u16 (b' 2:Int)]:=rfl;rw[eb,ek,D4];unfold P4;simp only[kn,yj,xn,zb,zp,Yzy,Yzi,if_false,cf];cases hf:zeE p with
 |false=>rfl
 |true=>
  simp only[Yzy,Yzi,if_false];have cm:=t7 (k+6) p hp hf;have ho:=zrA p hf;have h0:=zkg p hp hf;have ht:=zth p hf;have hd1:0<(zmw p).divs.els.length:=by obtain⟨_,_,f3,_⟩:=jq hf;show 0<(grow (vJ _ 0 p.divs.els)).els.length;rw[zS,wX];omega
  generalize zmw p=o at cm ho h0 ht hd1;unfold zeO at cm;have hdl:=ht.dl;have hcl:=ht.cl;have hst3:∀d∈o.divs.els,d.stops.els.length≤3:=fun d hd=>(ht.dv d hd).2.2.2.1;have cd:=t14 (k+12) o b hb (by omega) (fun d hd=>by have:=hst3 d hd;omega) (by omega);have re:=zAq h0 b hb hdl hst3 hcl;obtain⟨ks,hk,cp⟩:=t15 (k+10) o ht b';have gks:grow ks=some ks:=zhj (by have:=hk.len;omega);rw[gks,ek]at cp;have hst:zzV b 0 o.divs.els=(dgN b 0 o.divs.els).map fun n:Nat=>(n:Int):=zBe b hb o.divs.els 0 hst3;have hc:zAd (b 3:Int) (zz4 o.cpls.els.length)=((b 3 &&& (2^o.cpls.els.length-1):Nat):Int):=zAm (hb 3) (by omega);have hff:zAd (b 4:Int) (zz4 o.divs.els.length)=((b 4 &&& (2^o.divs.els.length-1):Nat):Int):=zAm (hb 4) (by omega);have hs:StOk o (dgN b 0 o.divs.els) (b 3 &&& (2^o.cpls.els.length-1)) (b 4 &&& (2^o.divs.els.length-1)):=⟨zAF b _ _,fun i d x=>zBd b _ 0 i d x,zAD _ _,zAD _ _⟩;have hreg:zz2 o b=⟨some ((dgN b 0 o.divs.els).map fun n:Nat=>(n:Int)),((b 3 &&& (2^o.cpls.els.length-1):Nat):Int),((b 4 &&& (2^o.divs.els.length-1):Nat):Int)⟩:=by unfold zz2;rw[hc,hff,hst,zhj (by rw[Yzm,zAF];omega)]
  rw[hreg]at cd re;generalize dgN b 0 o.divs.els=st at *;generalize b 3 &&& (2^o.cpls.els.length-1)=c at *;generalize b 4 &&& (2^o.divs.els.length-1)=f at *;have er:zAE ⟨some (st.map fun n:Nat=>(n:Int)),(c:Int),(f:Int)⟩=[enL 1 zz8 (some st),U64 (c:Int),U64 (f:Int)]:=by unfold zAE;rw[zeP,zeP,List.map_map];rfl
  rw[er,eb]at cd;have cv:=t16 (k+1) o ho h0 ht ks st c f hk hs re;have cw:=t18 (k+9) o ht ks st c f hk hs;obtain⟨_,_,z3⟩:=zzT o ht ks st c f hk hs;have tk:=zbl ht.dl ht.dv;have ts:=zcO ht.dl ht.dv;have hcn:zkF o=tot KW o.divs.els+tot KS o.divs.els+(o.cpls.els.length:Int)+(o.divs.els.length:Int):=rfl;have kw:0<tot KW o.divs.els:=by
   cases hh:o.divs.els with
   |nil=>rw[hh]at hd1;simp at hd1
   |cons d l=>obtain⟨q1,q2,q3,q4,q5,q6⟩:=ht.dv d (by rw[hh];simp);have hw:KW d=d.high-d.low+1:=rfl;have:=zAe (w:=KW) (l:=l) fun d hd=>zBh (ht.dv d (by rw[hh];simp[hd]));rw[vG];omega
  have gv:grow (zzS o ks st c f)=some (zzS o ks st c f):=zhj (by omega);rw[gv]at cw;have cs:=t17 (k+12) (zzS o ks st c f) (by omega);have c1:=t19 (k+3) o ht ks st c f hk hs ho h0 hd1;have pe:=zAg (st:=1) (a:=1) (f:=zzU) (l:=zzS o ks st c f) (by omega);rw[show (I6 ((1:Nat):Int):DV)=I6 1 from rfl]at pe;have c2:=zAT (k+3) o ht ho h0 (((zzS o ks st c f).drop 1).take ((zzS o ks st c f).length-1)) (by rw[List.length_take,List.length_drop];omega)
  have bA3:∀{β:Type} (x y z:DV) (K:List DV→Option β),bA 3 (some (SA [x,y,z])) K=K [x,y,z]:=fun _ _ _ _=>rfl;have bT311:∀{β:Type} (a b c v w:DV) (K:List DS→Option β),bT [some 3,none,none] (some (.tup [.agg [a,b,c],.one v,.one w])) K=K [.agg [a,b,c],.one v,.one w]:=fun _ _ _ _ _ _=>rfl;have l31:=zBY ks st c f (by have:=hk.len;omega) (by rw[hs.len,hk.len]) ks 0 rfl;rw[show (I6 ((0:Nat):Int):DV)=I6 0 from rfl]at l31;simp only[cm,zsE,zu5,cd,bA3,cp,yj,xc,wi,cv,bT2,zaS,zni,jx,zsw,yq,Yz9,Yzy,zb,zp,Yzi,if_false,cw,cs,xn,c1,bT311,pe,c2,ztP,yD,zx,jX,l31,ym,Yzr,Yza];rfl
end Go.Proofs.Tryz.Kn
end
